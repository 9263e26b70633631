import Derived.Test.YtlcenllcmeebhaaGreatPAB
/-! What the statement leans on: texts joined and shortened by a program of mine. -/
set_option linter.unusedVariables false
set_option linter.unusedSimpArgs false
open Go renaming World->A2,Addr->AC,Value->AF,MapEntry->AH,TypeId->Bs
open Go.Proofs.Tryz renaming prog->AB
open Eq renaming mpr->AG
open And renaming intro->AT
open List renaming getElem?_eq_getElem->Ae,sublist_cons_self->Ap,getD_eq_getElem?_getD->Aq,getElem?_eq_some_iff->B1,replicate->B3,length_cons->B5,length_nil->BO,append_nil->BX,set_set->Bx,append_assoc->C5,mem_cons_of_mem->Ca,mem_append_right->Cc,getElem?_set_ne->Cd,getElem?_set_self->DE,mem_map->DH,range->DN,mem_cons_self->DQ,mem_append_left->Dl,sublist_append_left->Dn,length_append->Dw,getElem?_append_left->E4,filter_cons->E5,mem_range->F4,ext_getElem?->FC,perm_append_comm->FR,take_of_length_le->FS,map_append->FU,mem_cons->FV,length_map->Fh,set_append_left->Ft,length_set->Fw,mem_of_getElem?->Fx,length_take->G1,getElem_mem->GF,take_append_of_le_length->GG,take_append_drop->GH,range_succ->GI,filter_append->GJ,length_filter_le->GS,getElem?_append_right->Ga,drop_eq_nil_of_le->Gd,drop_drop->Gi,getElem?_of_mem->Gj,getElem?_take_of_lt->H4,length_pos_iff->IR,nodup_cons->Ij,mem_append->Im,mem_filter->In,length_singleton->Io,find?_range_eq_some->J0,take_add_one->J1,getElem?_map->J3,getElem?_eq_none->J4,cons_append->J5,take_length->J_
open Go.IntKind renaming i64->B2
open Nat renaming zero_add->B4,le_refl->Db,le_trans->Do,add_mul->Dr,zero_le->GD,zero_mul->H5,blt_eq->H7,add_zero->HB,eq_of_beq_eq_true->Hb,ne_of_beq_eq_false->Hq,min_eq_left->JP
open Bool renaming or_eq_false_iff->DA,and_eq_true->DB,or_eq_true->Dd,not_eq_true'->FQ,and_eq_false_iff->Hr,false_eq_true->I1,true_eq_false->I2,not_eq_false'->IE,eq_iff_iff->JQ
open Go.Instr renaming findNow->Dh,sameNow->JS
namespace Go.Proofs.YtlcenllcmeebhaaGreat
set_option maxRecDepth 100000
open Go.RX
def tookS (fr pg wt lv:Int) (fd:FT) (ep:Bool) (er:Int) (el:Bool) (ef:Int):Int×Int×FT:=
 if(!ep)=true then(fr,-1,wW lv 4)
 else if(fO ep er el ef&&decide (lv>0))=true then(ef,aY .i64 lv 1,fd)
 else if(el&&lv==1)=true then(fr,-1,xX lv wt (aJ .i64 ef (eZ pg 16)) ep er el ef)
 else if(!el&&decide (er>0)&&lv==0)=true then(fr,-1,xX lv wt ef ep er el ef)
 else(fr,-1,wW lv 11)
section
variable {D G:List Nat} {w0 w:A2} {L:List (Nat×List AF)} {bk bp be:Nat} {fr pg wt lv:Int} {fd:FT} {s:Option AC×Nat×Nat} {ep:Bool} {er:Int} {el:Bool} {ef:Int}
theorem QJ (H:aL D G w0 w L) (a j:Nat) (c:L[a]? =some (bp,[ag (af bk)])) (d:L[j]? =some (bk,lO fr pg wt lv fd s)) {K:Unit->A2->Prop}
 (k: ∀b,aL D G w0 b (L.set j (bk,lO fr pg wt (-1) (wW lv 4) s))->K () b):aC AB 95 (.bu []) [ag (af bp)] w K:=by
 refine ai (C:=M1) (aQ:=λ_=>[]) (AG (QC _ w K) ?_);exact aj.at a H c rfl (pV H j d 0 0 0 4 λf H=>au.go H λe H=>k e H)
theorem QK (H:aL D G w0 w L) (a j:Nat) (c:L[a]? =some (bp,[ag (af bk)])) (d:L[j]? =some (bk,lO fr pg wt lv fd s)) {K:Unit->A2->Prop}
 (k: ∀b,aL D G w0 b (L.set j (bk,lO fr pg wt (-1) (wW lv 11) s))->K () b):aC AB 102 (.bu []) [ag (af bp)] w K:=by
 refine ai (C:=M1) (aQ:=λ_=>[]) (AG (QG _ w K) ?_);exact aj.at a H c rfl (pV H j d 0 0 0 11 λf H=>au.go H λe H=>k e H)
theorem QL (H:aL D G w0 w L) (e a j:Nat) (f:L[e]? =some (be,[.bool ep,aa er,.bool el,aa ef])) (b:L[a]? =some (bp,[ag (af bk)])) (c:L[j]? =some (bk,lO fr pg wt lv fd s)) (g:j≠a) {K:Unit->A2->Prop}
 (k: ∀d,aL D G w0 d (L.set j (bk,lO ef pg wt (aY .i64 lv 1) fd s))->K () d):aC AB 97 (.bu []) [ag (af be),ag (af bp)] w K:=by
 refine ai (C:=M1) (aQ:=λ_=>[]) (AG (QD _ _ w K) ?_);have h:j<L.length:=(B1.1 c).1;refine aj.at a H b rfl (aj.at a H b rfl ⟨rfl,aj.cv e H f rfl (aj.at a H b rfl ⟨rfl,rfl,aj.cv j H c rfl ⟨rfl,rfl,?_⟩⟩)⟩);refine az.e8 j H c rfl rfl λd H=>⟨trivial,?_,rfl,rfl,?_⟩
 ·exact dV (H.get (i:=a) (by rw[Cd g];exact b)) rfl
 ·refine az.e8 j H (DE h) rfl rfl λm H=>au.go H λl H=>k l ?_;rw[Bx] at H;exact H
theorem QM (H:aL D G w0 w L) (a b j:Nat) (c:L[a]? =some (be,[.bool ep,aa er,.bool el,aa ef])) (d:L[b]? =some (bp,[ag (af bk)])) (e:L[j]? =some (bk,lO fr pg wt lv fd s)) {K:Unit->A2->Prop}
 (k: ∀f,aL D G w0 f (L.set j (bk,lO fr pg wt (-1) (xX lv wt (aJ .i64 ef (eZ pg 16)) ep er el ef) s))->K () f):aC AB 98 (.bu []) [ag (af bp),ag (af be)] w K:=by
 refine ai (C:=M1) (aQ:=λ_=>[]) (AG (QE _ _ w K) ?_);have g:fS 1=16:=rfl;rw[g];refine aj.at b H d rfl ⟨rfl,aj.cv a H c rfl (aj.at b H d rfl ⟨rfl,rfl,aj.cv j H e rfl ⟨trivial,by decide,aj.at a H c rfl ?_⟩⟩)⟩;exact O_ H j e _ ep er el ef λi H=>au.go H λh H=>k h H
theorem QN (H:aL D G w0 w L) (a b j:Nat) (c:L[a]? =some (be,[.bool ep,aa er,.bool el,aa ef])) (e:L[b]? =some (bp,[ag (af bk)])) (f:L[j]? =some (bk,lO fr pg wt lv fd s)) {K:Unit->A2->Prop}
 (k: ∀d,aL D G w0 d (L.set j (bk,lO fr pg wt (-1) (xX lv wt ef ep er el ef) s))->K () d):aC AB 101 (.bu []) [ag (af bp),ag (af be)] w K:=by
 refine ai (C:=M1) (aQ:=λ_=>[]) (AG (QF _ _ w K) ?_);refine aj.at b H e rfl ⟨rfl,aj.cv a H c rfl (aj.at a H c rfl ?_)⟩;exact O_ H j f _ ep er el ef λh H=>au.go H λg H=>k g H
theorem UQ (H:aL D G w0 w L) (j:Nat) (o:L[j]? =some (bk,lO fr pg wt lv fd s)) (ep:Bool) (er:Int) (el:Bool) (ef:Int) {K:Unit->A2->Prop}
 (k: ∀E,aL D G w0 E (L.set j (bk,lO (tookS fr pg wt lv fd ep er el ef).1 pg wt (tookS fr pg wt lv fd ep er el ef).2.1 (tookS fr pg wt lv fd ep er el ef).2.2 s))->K () E):
 aA AB 61 (.bu []) [ag (af bk),.agg ⟨[.bool ep,aa er,.bool el,aa ef]⟩] w K:=by
 refine aA.go H λw1 H=>ai (C:=M3) (aQ:=v7) (AG (UN _ ep er el ef w1 K) ?_);refine aN.go H λbp E H=>aN.go H λbe V H=>⟨rfl,aj.cv 0 H rfl rfl (aj.at 0 H rfl rfl ⟨trivial,aj.at 1 H rfl rfl ⟨λ_=>rfl,λ_=>rfl,aj.cv (j+2) H o rfl ⟨rfl,aj.cv 0 H rfl rfl (aj.at 1 H rfl rfl ⟨λ_=>rfl,λ_=>rfl,aj.cv (j+2) H o rfl ⟨rfl,aj.cv 0 H rfl rfl ⟨λ_=>rfl,aj.cv 0 H rfl rfl (aj.at 1 H rfl rfl ⟨λ_=>rfl,λ_=>rfl,aj.cv (j+2) H o rfl ?_⟩)⟩⟩⟩)⟩⟩⟩)⟩;refine aN.go H λbs W H=>?_;dsimp only at H ⊢;generalize J:(!ep)=c0 at H;generalize M:(fO ep er el ef&&decide (lv>0))=c1 at H;generalize N:(el&&lv==1)=c2 at H;generalize O:(!el&&decide (er>0)&&lv==0)=c3 at H;have g:tookS fr pg wt lv fd ep er el ef=if c0=true then(fr,-1,wW lv 4) else if c1=true then(ef,aY .i64 lv 1,fd) else if c2=true then(fr,-1,xX lv wt (aJ .i64 ef (eZ pg 16)) ep er el ef) else if c3=true then(fr,-1,xX lv wt ef ep er el ef) else(fr,-1,wW lv 11):=by
  unfold tookS;rw[J,M,N,O]
 clear J M N O;refine⟨λn s' w'=> ∃i:Nat,s'.1=i/\n+i=5/\((0<i->c0=false)/\(1<i->c1=false)/\(2<i->c2=false)/\(3<i->c3=false)/\i<5)/\aL D G w0 w' ((bs,[.bool c0,.func (.func 95) ⟨[]⟩ ⟨[ag (af bp)]⟩,.bool c1,.func (.func 97) ⟨[]⟩ ⟨[ag (af be),ag (af bp)]⟩,
  .bool c2,.func (.func 98) ⟨[]⟩ ⟨[ag (af bp),ag (af be)]⟩,.bool c3,.func (.func 101) ⟨[]⟩ ⟨[ag (af bp),ag (af be)]⟩,.bool true,.func (.func 102) ⟨[]⟩ ⟨[ag (af bp)]⟩])::(be,[.bool ep,aa er,.bool el,aa ef])::(bp,[ag (af bk)])::L),
  ⟨5,λS T=>⟨0,rfl,rfl,⟨λh=>absurd h (by decide),λh=>absurd h (by decide),λh=>absurd h (by decide),λh=>absurd h (by decide),by decide⟩,H.ext T⟩⟩,?_⟩
 clear H;rintro n ⟨X,u⟩ S ⟨i,hi,Y,⟨b,l,F,U,Z⟩,H⟩;simp only at hi;subst hi;dsimp only;have m: ∀{x y z q:Nat×List AF},(x::y::z::q::L)[j+4]? =some (bk,lO fr pg wt lv fd s):=o;have fin: ∀{x y z q:Nat×List AF} {d:A2} {P Q:Int} {R:FT},tookS fr pg wt lv fd ep er el ef=(P,Q,R)->aL D G w0 d (x::y::z::q::L.set j (bk,lO P pg wt Q R s))->K () d:=λe H=>by
  rw[e] at k;exact k _ ((((H.sub (Ap _ _)).sub (Ap _ _)).sub (Ap _ _)).sub (Ap _ _))
 have p:aJ .i64 (i:Int) 1=((i+1:Nat):Int):=by rw[ax (by omega) (by omega)];rfl
 rcases(by omega:i=0\/i=1\/i=2\/i=3\/i=4) with rfl|rfl|rfl|rfl|rfl
 ·refine aB rfl ⟨⟨rfl,by decide,by decide⟩,aj.cv 0 H rfl rfl (aN.go H λr t H=>az.all 0 H rfl rfl rfl λv H=>⟨rfl,aj.cv 0 H rfl rfl (ab (λc=>⟨rfl,aj.cv 0 H rfl rfl ?_⟩) (λc I f=>⟨n - 1,by omega,1,p,by omega,⟨λ_=>c,λh=>absurd h (by decide),λh=>absurd h (by decide),λh=>absurd h (by decide),by decide⟩,(H.sub (Ap _ _)).ext f⟩))⟩)⟩;unfold zZ;refine λd a=>⟨_,⟨[]⟩,⟨[ag (af bp)]⟩,rfl,by kernel_rfl,QJ (H.ext a) 3 (j+4) rfl m λA H=>au.go H λB H=>fin ?_ H⟩;rw[g,av c]
 ·refine aB rfl ⟨⟨rfl,by decide,by decide⟩,aj.cv 0 H rfl rfl (aN.go H λr t H=>az.all 0 H rfl rfl rfl λv H=>⟨rfl,aj.cv 0 H rfl rfl (ab (λc=>⟨rfl,aj.cv 0 H rfl rfl ?_⟩) (λc I f=>⟨n - 1,by omega,2,p,by omega,⟨λ_=>b (by decide),λ_=>c,λh=>absurd h (by decide),λh=>absurd h (by decide),by decide⟩,(H.sub (Ap _ _)).ext f⟩))⟩)⟩;unfold zZ;refine λd a=>⟨_,⟨[]⟩,⟨[ag (af be),ag (af bp)]⟩,rfl,by kernel_rfl,QL (H.ext a) 2 3 (j+4) rfl rfl m (by omega) λA H=>au.go H λB H=>fin ?_ H⟩;rw[g,ao (by rw[b (by decide)];decide),av c]
 ·refine aB rfl ⟨⟨rfl,by decide,by decide⟩,aj.cv 0 H rfl rfl (aN.go H λr t H=>az.all 0 H rfl rfl rfl λv H=>⟨rfl,aj.cv 0 H rfl rfl (ab (λc=>⟨rfl,aj.cv 0 H rfl rfl ?_⟩) (λc I f=>⟨n - 1,by omega,3,p,by omega,⟨λ_=>b (by decide),λ_=>l (by decide),λ_=>c,λh=>absurd h (by decide),by decide⟩,(H.sub (Ap _ _)).ext f⟩))⟩)⟩;unfold zZ;refine λd a=>⟨_,⟨[]⟩,⟨[ag (af bp),ag (af be)]⟩,rfl,by kernel_rfl,QM (H.ext a) 2 3 (j+4) rfl rfl m λA H=>au.go H λB H=>fin ?_ H⟩;rw[g,ao (by rw[b (by decide)];decide),ao (by rw[l (by decide)];decide),av c]
 ·refine aB rfl ⟨⟨rfl,by decide,by decide⟩,aj.cv 0 H rfl rfl (aN.go H λr t H=>az.all 0 H rfl rfl rfl λv H=>⟨rfl,aj.cv 0 H rfl rfl (ab (λc=>⟨rfl,aj.cv 0 H rfl rfl ?_⟩) (λc I f=>⟨n - 1,by omega,4,p,by omega,⟨λ_=>b (by decide),λ_=>l (by decide),λ_=>F (by decide),λ_=>c,by decide⟩,(H.sub (Ap _ _)).ext f⟩))⟩)⟩;unfold zZ;refine λd a=>⟨_,⟨[]⟩,⟨[ag (af bp),ag (af be)]⟩,rfl,by kernel_rfl,QN (H.ext a) 2 3 (j+4) rfl rfl m λA H=>au.go H λB H=>fin ?_ H⟩;rw[g,ao (by rw[b (by decide)];decide),ao (by rw[l (by decide)];decide),ao (by rw[F (by decide)];decide),av c]
 ·refine aB rfl ⟨⟨rfl,by decide,by decide⟩,aj.cv 0 H rfl rfl (aN.go H λr t H=>az.all 0 H rfl rfl rfl λv H=>⟨rfl,aj.cv 0 H rfl rfl (aB rfl ⟨rfl,aj.cv 0 H rfl rfl ?_⟩)⟩)⟩;unfold zZ;refine λd a=>⟨_,⟨[]⟩,⟨[ag (af bp)]⟩,rfl,by kernel_rfl,QK (H.ext a) 3 (j+4) rfl m λA H=>au.go H λB H=>fin ?_ H⟩;rw[g,ao (by rw[b (by decide)];decide),ao (by rw[l (by decide)];decide),ao (by rw[F (by decide)];decide),ao (by rw[U (by decide)];decide)]
end
def BU (Ls:List (Nat×List AF)) (s:Option AC×Nat×Nat) (xs:List Int):Prop:=
 (s=(none,0,0)/\xs=[]/\Ls=[])\/ ∃bs c rest,s=(some ⟨bs,0,none⟩,xs.length,c)/\Ls=[(bs,flat eI xs++rest)]/\(flat eI xs++rest).length=c*aD eI/\xs.length<=c
def okW (ws:List Int):Prop:= ∀x∈ws,0<=x/\x<18446744073709551616
def bE (ws:List Int) (pg wt:Int) (x:Int×Int×FT):Int×Int×FT:=
 if x.2.1= -1 then x
 else if(!uG (B (dC ws (dQ x.1 pg x.2.1))).toNat||BT ws (dQ x.1 pg x.2.1) != 0)=true then(x.1,-1,wW x.2.1 11)
 else tookS x.1 pg wt x.2.1 x.2.2 (Ic (B (dC ws (dQ x.1 pg x.2.1))).toNat) (FA (B (dC ws (dQ x.1 pg x.2.1))).toNat) (JY (B (dC ws (dQ x.1 pg x.2.1))).toNat) (Fj (B (dC ws (dQ x.1 pg x.2.1))).toNat)
theorem Gg {ws:List Int} (h:okW ws) (i:Int):0<=dC ws i/\dC ws i<18446744073709551616:=by
 unfold dC;split
 ·rename_i hi;rw[jd] at hi;rw[Aq,Ae (by omega)];exact h _ (GF _)
 ·exact⟨by decide,by decide⟩
section
variable {D G:List Nat} {w0 w:A2} {L L0 Ls:List (Nat×List AF)} {bk bm bw n c:Nat} {ca la fr pg wt lv:Int} {fd:FT} {s:Option AC×Nat×Nat} {ws xs:List Int} {rest:List AF}
theorem QO (hb:bK w bk (lO fr pg wt lv fd s)) (a:lv≠ -1):aC AB 58 (.el (.agg sA)) [ag (af bk)] w (λx w'=>x=(1,dQ fr pg lv,0,0,())/\Ext w w'):=by
 refine aR (C:=M1) (aQ:=λ_=>[]) (AG (QB _ w _) ?_);have H:=At.start [] w;refine aN.go H λb c H=>⟨λ_=>rfl,λ_=>rfl,aj.kX H hb (by simp) rfl ⟨λ_=>rfl,λ_=>rfl,aj.kX H hb (by simp) rfl (an (by simp[a]) ?_)⟩⟩;refine⟨rfl,rfl,aj.kX H hb (by simp) rfl ⟨rfl,rfl,aj.kX H hb (by simp) rfl ⟨rfl,rfl,aj.kX H hb (by simp) rfl ⟨trivial,az.all 0 H rfl rfl rfl λd H=>au.go H λe H=>aj.at 0 H rfl rfl ⟨rfl,H.all⟩⟩⟩⟩⟩
theorem Ea (H:At G w0 w ((bk,lO fr pg wt lv fd s)::(bm,lT bw n c ca la)::(bw,flat eW ws++rest)::(Ls++L0))) (r:BU Ls s xs) (L:xs.length<=1000) (t:n=ws.length) (h0:0<n) (u:okW ws) (d:lv≠ -1) {K:Bool->A2->Prop}
 (k: ∀e g s',BU g s' (xs++[fr])->At G w0 e ((bk,lO (bE ws pg wt (fr,lv,fd)).1 pg wt (bE ws pg wt (fr,lv,fd)).2.1 (bE ws pg wt (fr,lv,fd)).2.2 s')::(bm,lT bw n c (wO ws (dQ fr pg lv) ca) la)::(bw,flat eW ws++rest)::(g++L0))->K ((bE ws pg wt (fr,lv,fd)).2.1== -1) e):
 aA AB 22 (.el (.one .bool)) [ag (af bk),ag (af bm)] w K:=by
 refine aA.go H λw1 H=>ai (C:=M1) (aQ:=λ_=>[]) (AG (QH _ _ w1 K) ?_);refine⟨λ_=>rfl,λ_=>rfl,aj.cv 0 H rfl rfl (an rfl ⟨rfl,rfl,aj.cv 0 H rfl rfl (an (by simp[d]) ?_)⟩)⟩;refine⟨(1,dQ fr pg lv,0,0,()),ae.of (s:= .el (.agg sA)) λw' h'=>QO ((H.get (i:=0) rfl).ext h') d,?_⟩;refine aa4 H rfl 1 2 rfl rfl (by decide) t h0 (dQ fr pg lv) 0 0 λe H=>?_;refine aN.go H λb M H=>az.all 0 H rfl rfl rfl λN H=>⟨rfl,rfl,aj.cv 1 H rfl rfl ⟨rfl,rfl,aj.cv 1 H rfl rfl (aN.go H λh O H=>λz A=>?_)⟩⟩;have H:=H.ext A;dsimp only at H ⊢;generalize hv:dC ws (dQ fr pg lv)=v at H ⊢;generalize D:BT ws (dQ fr pg lv)=er at H ⊢;have j:0<=v/\v<18446744073709551616:=by rw[<-hv];exact Gg u _
 have H:At G w0 z ([(h,cellsOf eI fr)]++([(b,[ay v,.bool false,aa er]),(bk,lO fr pg wt lv fd s),(bm,lT bw n c (wO ws (dQ fr pg lv) ca) la),(bw,flat eW ws++rest)]++(Ls++L0))):=H;have H:=H.perm (L':=(h,cellsOf eI fr)::(Ls++([(b,[ay v,.bool false,aa er]),(bk,lO fr pg wt lv fd s),(bm,lT bw n c (wO ws (dQ fr pg lv) ca) la),(bw,flat eW ws++rest)]++L0))) (.cons _ (by
  rw[<-C5, <-C5];exact List.Perm.append_right _ FR))
 refine aL.grow H r rfl rfl rfl (by omega) λbs m a P E F H=>⟨rfl,rfl,az.e8 2 H rfl rfl rfl λQ H=>⟨rfl,aj.cv 1 H rfl rfl ?_⟩⟩;have I:U (B v)=v:=BZ j.1 j.2;refine⟨I,aN.go H λR S H=>az.all 0 H rfl rfl rfl λT H=>⟨λ_=>rfl,aj.cv 2 H rfl rfl ?_⟩⟩;have o:bE ws pg wt (fr,lv,fd)=if(!uG (B v).toNat||er != 0)=true then(fr,-1,wW lv 11) else tookS fr pg wt lv fd (Ic (B v).toNat) (FA (B v).toNat) (JY (B v).toNat) (Fj (B v).toNat):=by
  unfold bE;simp only[hv,D];rw[ao d]
 have p:BU [(bs,flat eI (xs++[fr])++a)] (some ⟨bs,0,none⟩,xs.length+1,m) (xs++[fr]):= .inr ⟨bs,m,a,by rw[Dw];rfl,rfl,E,by rw[Dw];exact F⟩;have q: ∀{w:A2} {x y:Nat×List AF} {l:List AF},At G w0 w (x::(bs,flat eI (xs++[fr])++a)::y::(bk,l)::(bm,lT bw n c (wO ws (dQ fr pg lv) ca) la)::(bw,flat eW ws++rest)::L0)->At G w0 w ((bk,l)::(bm,lT bw n c (wO ws (dQ fr pg lv) ca) la)::(bw,flat eW ws++rest)::([(bs,flat eI (xs++[fr])++a)]++L0)):=λ{w x y l} H=>by
  have H:=H.sub (Ap _ _);have H:=H.sub (L':=[(bs,flat eI (xs++[fr])++a)]++([(bk,l),(bm,lT bw n c (wO ws (dQ fr pg lv) ca) la),(bw,flat eW ws++rest)]++L0)) (.cons_cons _ (Ap _ _));refine H.perm ?_;refine List.Perm.trans (l₂:=[(bk,l),(bm,lT bw n c (wO ws (dQ fr pg lv) ca) la),(bw,flat eW ws++rest)]++([(bs,flat eI (xs++[fr])++a)]++L0)) (.refl _) ?_;rw[<-C5, <-C5];exact List.Perm.append_right _ FR
 refine ab (λc1=>?_) (λc1=>aj.at 0 H rfl rfl ?_)
 ·rw[o,av c1] at k;exact pV H 3 rfl 0 0 0 11 λJ H=>au.go H λf H=>k f _ _ p (q H)
 ·rw[o,ao (by rw[c1];decide)] at k;refine UQ H 3 rfl _ _ _ _ λJ H=>⟨rfl,rfl,aj.cv 3 H rfl rfl (au.go H λf H=>k f _ _ p (q H))⟩
theorem UR (hb:bK w bk (lO fr pg wt lv fd s)):aC AB 24 (.bu [.agg sF,.one .bool]) [ag (af bk)] w (λx w'=>x=(if lv= -1 then(fd,true,()) else((0,0,0,0,()),false,()))/\Ext w w'):=by
 obtain⟨f0,f1,f2,f3,f⟩:=fd;refine aR (C:=M1) (aQ:=λ_=>[]) (AG (UO _ w _) ?_);have H:=At.start [] w;refine aN.go H λb g H=>⟨λ_=>rfl,λ_=>rfl,aj.kX H hb (by simp) rfl ⟨λ_=>rfl,λ_=>rfl,aj.kX H hb (by simp) rfl (ab (λc=>?_) (λc=>?_))⟩⟩
 ·have a:lv≠ -1:=by simpa using c
  rw[ao a];exact az.all 0 H rfl rfl rfl λd H=>au.go H λe H=>aj.at 0 H rfl rfl ⟨rfl,H.all⟩
 ·have a:lv= -1:=by simpa using c
  rw[av a];refine⟨rfl,rfl,aj.kX (x:=(f0,f1,f2,f3,())) H hb (by simp) rfl ?_⟩;exact az.all 0 H rfl rfl rfl λd H=>au.go H λe H=>aj.at 0 H rfl rfl ⟨rfl,H.all⟩
def uV (f p t:Int):Bool:=decide (dQ f p 3<0)||decide (t<0)||decide (t>7)
theorem I4 (H:aL D G w0 w L) (f p t:Int) {K:Option AC->A2->Prop} (hb:uV f p t=true-> ∀w1,aL D G w0 w1 L->K none w1)
 (d:uV f p t=false-> ∀bk w1,aL D G w0 w1 ((bk,lO f p t 3 (0,0,0,0,()) (none,0,0))::L)->K (af bk) w1):
 aA AB 20 (.el (.one .ptr)) [aa f,aa p,aa t] w K:=by
 refine aA.go H λw1 H=>ai (C:=M1) (aQ:=λ_=>[]) (AG (UL f p t w1 K) ?_);refine aN.go H λb e H=>⟨trivial,ab (λc=>au.go H λa H=>hb c a (H.sub (Ap _ _))) (λc=>au.go H λa H=>d c b a H)⟩
end
section
variable {D G:List Nat} {w0 w:A2}
theorem _root_.Go.RX.aL.aa5 {e:El} {s:Option AC×Nat×Nat} {xs ys:List e.T} {b S:Nat} {ry:List AF} {Ls L0:List (Nat×List AF)} (H:aL D G w0 w ((b,flat e ys++ry)::(Ls++L0))) (d:ys≠[])
 (o:(s=(none,0,0)/\xs=[]/\Ls=[])\/ ∃bs c rest,s=(some ⟨bs,0,none⟩,xs.length,c)/\Ls=[(bs,flat e xs++rest)]/\(flat e xs++rest).length=c*aD e/\xs.length<=c)
 (U:gT e=true) {t:Bs} {size bytes:Nat} {z:Array AF} (q:size=aD e) (V:z.size=aD e) (hb:(xs.length+ys.length)*bytes<=140737488355328)
 {R:Option AC×Nat×Nat->A2->Prop} (k: ∀bs c rest w',(flat e (xs++ys)++rest).length=c*aD e->(xs++ys).length<=c->aL D G w0 w' ((bs,flat e (xs++ys)++rest)::L0)->R (some ⟨bs,0,none⟩,(xs++ys).length,c) w'):
 mz w t size bytes z s (some ⟨b,0,none⟩,ys.length,S) R:=by
 subst q;have W:(vG 0 w).heap.size=0:=iE (GD _);have X:lN (vG 0 w) w e s xs:=by
  rcases o with ⟨rfl,rfl, _⟩|⟨bs,c,rest,rfl,rfl,h1,v⟩
  ·exact lN.nil _ _ _
  ·refine⟨rfl,v,.inr ⟨bs, _,rfl,by rw[W];exact GD _,H.get (i:=1) rfl,h1,?_⟩⟩;rw[GG (by rw[aG];exact Db _),FS (by rw[aG];exact Db _)]
 have Y:bK w b (flat e ys++ry):=H.get (i:=0) rfl;refine lD (ys:=ys) X (qe (GD _)) U rfl ?_ V hb λs' w' Z g I q J=>?_
 ·refine Y.oI (aG e ys) λj hj=>?_;rw[B4,E4 (by rw[aG];exact hj)]
 ·obtain⟨p,n,c⟩:=s';obtain⟨h1,v,K⟩:=Z;simp only at h1 v K J;have hyl:0<ys.length:=IR.2 d;have hlen:(xs++ys).length=xs.length+ys.length:=by simp
  rcases K with ⟨_,L, _⟩|⟨bs,l,a1, _,a3,a4,a5⟩
  ·simp at L;exact absurd L.2 d
  ·subst a1;subst h1;have el:l=flat e (xs++ys)++l.drop ((xs++ys).length*aD e):=by rw[<-a5,GH]
   refine k bs c (l.drop ((xs++ys).length*aD e)) w' (by rw[<-el];exact a4) v ?_;rw[<-el];have hG': ∃C,Fr C w w'/\(∀y∈C,y∈Ls.map (·.1)):=by
    rcases o with ⟨rfl, _,rfl⟩|⟨bo,co,M,rfl,rfl, _, _⟩
    ·exact⟨[],⟨g.os,g.tape,g.output,q,λy d _=>I y d (λa E=>by cases E)⟩,λy d=>by cases d⟩
    ·exact⟨[bo],⟨g.os,g.tape,g.output,q,λy d hn=>I y d (λa E=>by cases E;simpa using hn)⟩,λy d=>by simpa using d⟩
   obtain⟨C,N,F⟩:=hG';have x:=H.nd;simp only[List.map_cons,FU,Ij,List.nodup_append,Im] at x;have O: ∀y∈Ls.map (·.1),w0.heap.size<=y\/y∈G:=λy d=>by
    obtain⟨u,m,rfl⟩:=DH.1 d;exact H.own u (Ca _ (Dl _ m))
   have P:bs∈Ls.map (·.1)\/w.heap.size<=bs:=by
    rcases J with ⟨a,f,A⟩|⟨a,f,A⟩|f
    ·cases f;rcases o with ⟨rfl, _, _⟩|⟨bo,co,M,rfl,rfl, _, _⟩
     ·cases A
     ·cases A;exact .inl (by simp)
    ·cases f;exact .inr A
    ·rcases o with ⟨rfl,rfl, _⟩|⟨bo,co,M,rfl,rfl, _, _⟩
     ·cases f
     ·have Q:=congrArg (λz=>z.2.1) f;simp at Q;exact absurd Q d
   refine H.frame N (λy d=>O y (F y d)) (λr hr d=>?_) (λy d=>?_) (λy d=>?_) ?_
   ·obtain⟨u,m,f⟩:=DH.1 (F r d);exact aL.dj (H.dk u (Ca _ (Dl _ m))) (H.pQ r hr).2 (λ_ _ _ hc=>by cases hc) f
   ·rcases FV.1 d with rfl|d
    ·exact a3
    ·refine N.dk (λB=>?_) (H.dk y (Ca _ (Cc _ d)));exact x.2.2.2 y.1 (F _ B) y.1 (DH.2 ⟨y,d,rfl⟩) rfl
   ·rcases FV.1 d with rfl|d
    ·rcases P with h|h
     ·exact O _ h
     ·exact .inl (Do H.fr.size h)
    ·exact H.own y (Ca _ (Cc _ d))
   ·refine Ij.2 ⟨λB=>?_,x.2.2.1⟩;rcases P with h|h
    ·exact x.2.2.2 bs h bs B rfl
    ·obtain⟨u,m,f⟩:=DH.1 B;have:=(H.dk u (Ca _ (Cc _ m))).lt;simp only at f h;omega
end
abbrev mB (br n c:Nat):List AF:=[.slice (af br) n c]
def lU (gs:List GT) (i:Int):Option Nat:=if 0<=i/\i<gs.length/\gs.getD i.toNat zG≠zG then some i.toNat else none
def wX (gs:List GT) (i:Int):GT:=match lU gs i with
 |some k=>gs.getD k zG
 |none=>zG
def gU (gs:List GT) (i g:Int) (b:Bool):Int:=match lU gs i with
 |none=>4
 |some k=>if((gs.getD k zG).2.2.1 != g||b&& !(gs.getD k zG).2.2.2.1)=true then 7 else if(gs.getD k zG).2.2.2.2.1=1000 then 3 else 0
def fo (x:GT) (n:Int):GT:=(x.1,x.2.1,x.2.2.1,x.2.2.2.1,x.2.2.2.2.1+n,())
def eo (gs:List GT) (i g:Int) (b:Bool):List GT:=if gU gs i g b=0 then gs.set i.toNat (fo (gs.getD i.toNat zG) 1) else gs
def mq (gs:List GT) (i g:Int):Int:=match lU gs i with
 |none=>4
 |some k=>if(gs.getD k zG).2.2.1≠g then 7 else if(gs.getD k zG).2.2.2.2.1=0 then 6 else 0
def eO (gs:List GT) (i g:Int):List GT:=if mq gs i g=0 then gs.set i.toNat (fo (gs.getD i.toNat zG) (-1)) else gs
def qP (gs:List GT) (i o:Int):Int:=match lU gs i with
 |none=>4
 |some k=>if(gs.getD k zG).1≠o then 7 else if(gs.getD k zG).2.2.2.2.1>0 then 9 else 0
def lh (gs:List GT) (i o:Int):List GT:=if qP gs i o=0 then gs.set i.toNat zG else gs
def cN (gs:List GT) (p:GT->Bool) (n:Nat):List Int:=((DN n).filter λ(i:Nat)=>p (gs.getD i zG)).map λ(i:Nat)=>(i:Int)
def iB (o q t:Int) (x:GT):Bool:=o==x.1&&(q==x.2.1&&t==x.2.2.1)
def eA (x:GT):Bool:=decide (x=zG)
def mE (g:Int) (x:GT):Bool:= !eA x&&(x.1==g||x.2.2.1==g)
def lj (gs:List GT) (o q t:Int):Int:=
 if(!gG o|| !gG t||o==t||decide (q<0)||decide (q>=65536))=true then 1
 else if cN gs (iB o q t) gs.length≠[] then 5 else if cN gs eA gs.length=[] then 3 else 0
def km (gs:List GT) (o q t:Int):Int:=if lj gs o q t=0 then(cN gs eA gs.length).headD 0 else 0
def jT (gs:List GT) (o q t:Int) (b:Bool):List GT:=if lj gs o q t=0 then gs.set (km gs o q t).toNat (o,q,t,b,0,()) else gs
def cP (gs:List GT) (g:Int):List GT:=gs.map λx=>if mE g x=true then zG else x
theorem QP (x:GT):mG x.1 x.2.1 x.2.2.1 x.2.2.2.1 x.2.2.2.2.1=eA x:=rfl
theorem sd (gs:List GT) (p:GT->Bool) (n:Nat):cN gs p (n+1)=cN gs p n++(if p (gs.getD n zG)=true then[(n:Int)] else[]):=by
 unfold cN;rw[GI,GJ,FU];by_cases h:p (gs.getD n zG)=true
 ·rw[av h,E5,av h];rfl
 ·rw[ao h,E5,ao h];rfl
theorem qh {gs:List GT} {p:GT->Bool} {n:Nat} {x:Int}:x∈cN gs p n<-> ∃i:Nat,i<n/\p (gs.getD i zG)=true/\x=(i:Int):=by
 unfold cN;simp only[DH,In,F4];constructor
 ·rintro⟨i,⟨h1,a⟩,rfl⟩;exact⟨i,h1,a,rfl⟩
 ·rintro⟨i,h1,a,rfl⟩;exact⟨i,⟨h1,a⟩,rfl⟩
theorem qi (gs:List GT) (p:GT->Bool) (n:Nat):(cN gs p n).length<=n:=by
 unfold cN;rw[Fh];exact Do (GS _ _) (by simp)
theorem lz {gs:List GT} {i:Int} {k:Nat} (h:lU gs i=some k):0<=i/\i<gs.length/\k=i.toNat/\gs[k]? =some (gs.getD k zG)/\gs.getD k zG≠zG:=by
 unfold lU at h;split at h
 ·rename_i c;cases h;refine⟨c.1,c.2.1,rfl,?_,c.2.2⟩;rw[Aq,Ae (by omega)];rfl
 ·cases h
section
variable {D G:List Nat} {w0 w:A2} {L:List (Nat×List AF)} {bg br c:Nat} {gs:List GT} {rest:List AF}
theorem KX (h:bK w bg (mB br gs.length c)) (h0:0<gs.length):aC AB 224 (.el (.one .bool)) [ag (af bg)] w (λx w'=>x=true/\Ext w w'):=by
 refine ai (C:=G3) (aQ:=λ_=>[]) (AG (KJ _ w _) ?_);refine⟨λ_=>rfl,λ_=>rfl,(some ⟨br,0,none⟩,gs.length,c),λ_=>?_,λw1 h1=>⟨?_,h1⟩⟩
 ·rw[aW];exact h.ow rfl
 ·simp;exact h0
theorem pz (h:bK w bg (mB br gs.length c)) (h0:0<gs.length):ae AB 224 [ag (af bg)] w (.bool true):=
 ae.of (s:= .el (.one .bool)) λw' h'=>KX (h.ext h') h0
def B7 (br:Nat) (gs:List GT) (i:Int):Option AC:=(lU gs i).map λk=>⟨br,k*5,none⟩
def B8 (gs:List GT) (i:Int):Int:=if(lU gs i).isSome then 0 else 4
theorem Zo (h:bK w bg (mB br gs.length c)) (j:bK w br (flat eG gs++rest)) (h0:0<gs.length) (i:Int):
 aC AB 221 (.bu [.one .ptr,.one (.int .i64)]) [ag (af bg),aa i] w (λx w'=>x=(B7 br gs i,B8 gs i,())/\Ext w w'):=by
 refine ai (C:=G3) (aQ:=λ_=>[]) (AG (Zg _ i w _) ?_);have f:cI w (ad (af bg) 0) (.one .slice) (some ⟨br,0,none⟩,gs.length,c):=by rw[aW];exact h.ow rfl
 refine⟨_,pz h h0,an rfl ⟨λ_=>rfl,λ_=>rfl,(some ⟨br,0,none⟩,gs.length,c),λ_=>f,λ_=>rfl,λ_=>rfl,(some ⟨br,0,none⟩,gs.length,c),λ_=>f,?_⟩⟩;dsimp only;have g:(lU gs i=none)->(B7 br gs i,B8 gs i,())=((none,4,()):Option AC×Int×Unit):=λe=>by
  unfold B7 B8;rw[e];rfl
 by_cases b:0<=i/\i<gs.length
 ·have c1:(decide (i<0)||decide (i>=((gs.length:Nat):Int)))=false:=by
   rw[DA,decide_eq_false_iff_not,decide_eq_false_iff_not];omega
  have k:gs[i.toNat]? =some (gs.getD i.toNat zG):=by
   rw[Aq,Ae (by omega)];rfl
  rw[c1];refine⟨λ_=>⟨rfl,b.1,b.2⟩,gs.getD i.toNat zG,λ_=>fV (e:=eG) j k,λ_=>trivial,?_⟩;rw[QP];refine ab (λd=>λw1 h1=>⟨(g ?_).symm,h1⟩) (λd=>⟨rfl,rfl,aj.of _ f ⟨⟨rfl,b.1,b.2⟩,λw1 h1=>⟨?_,h1⟩⟩⟩)
  ·have d:gs.getD i.toNat zG=zG:=by simpa[eA] using d
   unfold lU;rw[ao (λa=>a.2.2 d)]
  ·have d: ¬ gs.getD i.toNat zG=zG:=by simpa[eA] using d
   have e:lU gs i=some i.toNat:=by unfold lU;rw[av ⟨b.1,b.2,d⟩]
   unfold B7 B8;rw[e,aW];simp
 ·have c1:(decide (i<0)||decide (i>=((gs.length:Nat):Int)))=true:=by
   rw[Dd,decide_eq_true_eq,decide_eq_true_eq];omega
  rw[c1];refine⟨λa=>(by cases a),zG,λa=>(by cases a),λ_=>trivial,aB rfl λw1 h1=>⟨(g ?_).symm,h1⟩⟩;unfold lU;rw[ao (λa=>b ⟨a.1,a.2.1⟩)]
theorem Iy (h:bK w bg (mB br gs.length c)) (a:bK w br (flat eG gs++rest)) (h0:0<gs.length) (i:Int):
 ae AB 221 [ag (af bg),aa i] w ((Sh.bu [.one .ptr,.one (.int .i64)]).gK (B7 br gs i,B8 gs i,())):=
 ae.of (s:= .bu [.one .ptr,.one (.int .i64)]) λw' h'=>Zo (h.ext h') (a.ext h') h0 i
theorem US {bc:Nat} {o q t:Int} (hc:bK w bc [aa o,aa q,aa t,.bool false,aa 0]) (x:GT):
 ae AB 226 [.agg ⟨[aa x.1,aa x.2.1,aa x.2.2.1,.bool x.2.2.2.1,aa x.2.2.2.2.1]⟩,ag (af bc)] w (.bool (iB o q t x)):=by
 refine ae.of (s:= .el (.one .bool)) λw' h'=>ai (C:=G3) (aQ:=λ_=>[]) (AG (Qi _ _ _ _ _ _ w' _) ?_);have H:=At.start [] w';refine aN.go H λb a H=>aj.of (o,q,t,false,0,()) (dV ((hc.ext h').ext H.all) rfl) ⟨rfl,aj.cv 0 H rfl rfl ⟨rfl,aj.cv 0 H rfl rfl ⟨rfl,aj.cv 0 H rfl rfl (au.go H λc H=>⟨?_,H.all⟩)⟩⟩⟩;unfold iB;simp
theorem QQ {bc:Nat} {g:Int} (hc:bK w bc [aa g]) (x:GT):
 ae AB 209 [.agg ⟨[aa x.1,aa x.2.1,aa x.2.2.1,.bool x.2.2.2.1,aa x.2.2.2.2.1]⟩,ag (af bc)] w (.bool (mE g x)):=by
 refine ae.of (s:= .el (.one .bool)) λw' h'=>ai (C:=G3) (aQ:=λ_=>[]) (AG (KK _ _ _ _ _ _ w' _) ?_);have H:=At.start [] w';refine aN.go H λb c H=>?_;have a:cI c (af bc) (.one (.int .i64)) g:=dV ((hc.ext h').ext H.all) rfl;refine aj.at 0 H rfl (show _=some x from rfl) ⟨trivial,λ_=>rfl,aj.cv 0 H rfl rfl (aj.of g a ⟨λ_=>rfl,aj.cv 0 H rfl rfl (aj.of g a (au.go H λd H=>⟨?_,H.all⟩))⟩)⟩;rfl
theorem Oh {j:Nat} {x:Nat×List AF} (h:L[j]? =some x):L.set j x=L:=FC λm=>by
 by_cases e:j=m
 ·subst e;rw[DE (B1.1 h).1,h]
 ·rw[Cd e]
end
end Go.Proofs.YtlcenllcmeebhaaGreat
namespace Go.Proofs.YtlcenllcmeebhaaGreat.Po
set_option maxRecDepth 100000
open Go.RX
abbrev sQ:List Sc:=[.int .i64,.int .i64,.int .i64,.bool,.bool]
abbrev eQ:El:= .agg sQ
abbrev PT:Type:=Int×Int×Int×Bool×Bool×Unit
def zP:PT:=(0,0,0,false,false,())
def gI (n:Int):Bool:=decide (n>=1)&&decide (n<=16)
noncomputable def R0:dJ AB:={C3 with vE:=false}
theorem QR (n:Int) (w:A2) (a:Bool->A2->Prop):(aK R0 (λ_=>[]) 212 [aa n] w a)=(
 au w (a (decide (n>=1)&&decide (n<=16)))):=by kernel_rfl
theorem QS (n:Int) (w:A2):aC AB 212 (.el (.one .bool)) [aa n] w (λx w'=>x=gI n/\Ext w w'):=by
 refine ai (C:=R0) (aQ:=λ_=>[]) (AG (QR n w _) ?_);have H:=At.start [] w
 repeat' (first
  |exact Go.RX.aL.all H
  |exact AT (by first|rfl|decide+kernel) (Go.RX.aL.all H)
  |refine AT (by first|exact rfl|exact trivial|exact λ_=>rfl|exact λ_=>trivial|exact⟨rfl,by decide,by decide⟩|exact⟨by decide,by decide⟩|decide+kernel|exact λ_=>by decide|exact λ_=>⟨rfl,by decide,by decide⟩|(dsimp only[B5,BO];exact⟨rfl,by decide,by decide⟩)) ?_
  |refine aj.cv 0 H rfl rfl ?_
  |refine aj.cv 1 H rfl rfl ?_
  |refine aj.at 0 H rfl rfl ?_
  |refine aj.at 1 H rfl rfl ?_
  |refine aN.go H λb w1 H=>?_
  |refine az.all 0 H rfl rfl rfl λw1 H=>?_
  |refine az.all 1 H rfl rfl rfl λw1 H=>?_
  |refine az.e8 0 H rfl rfl rfl λw1 H=>?_
  |refine az.e8 1 H rfl rfl rfl λw1 H=>?_
  |refine az.one 0 H rfl rfl rfl λw1 H=>?_
  |refine az.one 1 H rfl rfl rfl λw1 H=>?_
  |with_reducible refine au.go H λw1 H=>?_
  |refine jJ ?_
  |refine aB (by assumption) ?_
  |refine an (by assumption) ?_
  |refine ab (λc=>?_) (λc=>?_))
noncomputable def Zp:Entry AB where
 f:=212
 fn l:=match l with
  |[.int .i64 a]=>some (True,.bool (gI a))
  | _=>none
 ok args pre v h b w:=by
  split at h
  ·rename_i a;cases h;exact bU (QS a w)
  ·cases h
noncomputable def R1:dJ AB:={R0 with sr:=[Zp],quiet:=[211,213,229,245,231]}
theorem QT (p:Option AC) (w:A2) (a:Bool->A2->Prop):(aK R1 (λ_=>[]) 211 [ag p] w a)=(
 ((!p.isNone)=true->p.isSome=true)/\((!p.isNone)=true->p.isSome=true)/\aj w (some !p.isNone) (ad p 2560) aT λ(x:Int)=>au w (a (!p.isNone&&decide (x>0)))):=by kernel_rfl
theorem OC (p:Option AC) (g i:Int) (w:A2) (a:Option AC->A2->Prop):(aK R1 (λ_=>[]) 213 [ag p,aa g,aa i] w a)=(
 ∃x,ae AB 211 [ag p] w (.bool x)/\((!!x)=true->True)/\((!(!x|| !gI g||decide (i<0)))=true->p.isSome=true)/\((!(!x|| !gI g||decide (i<0)))=true->p.isSome=true)/\aj w (some !(!x|| !gI g||decide (i<0))) (ad p 2560) aT λ(b:Int)=>aI (!x|| !gI g||decide (i<0)||decide (i>=b)) (au w (a none)) (p.isSome=true/\p.isSome=true/\((ad p 0).isSome=true/\0<=aY .i64 g 1/\aY .i64 g 1<(↑16:Int))/\((ad (ad p 0) ((aY .i64 g 1).toNat*160)).isSome=true/\0<=i/\i<(↑32:Int))/\(ad (ad (ad p 0)
 ((aY .i64 g 1).toNat*160)) (i.toNat*5)).isSome=true/\aj w none (ad (ad (ad p 0) ((aY .i64 g 1).toNat*160)) (i.toNat*5)) (.agg [.int .i64,.int .i64,.int .i64,.bool,.bool]) λ(x:Int×Int×Int×Bool×Bool×Unit)=>aI (x.1==0&&(x.2.1==0&&(x.2.2.1==0&&(x.2.2.2.1==false&&(x.2.2.2.2.1==false&&true))))) (au w (a none)) (au w λw1=>a (ad (ad (ad p 0) ((aY .i64 g 1).toNat*160)) (i.toNat*5)) w1))):=by kernel_rfl
def ui:Nat->aZ:=(λ|2=>[(10,Go.RX.El.one (Go.RX.Sc.int B2))]| _=>[])
theorem QU (p:Option AC) (g:Int) (w:A2) (a:Int->A2->Prop):(aK R1 ui 245 [ag p,aa g] w a)=(
 cM p 2560 w λx=> ∃(I:Nat->Int×Unit->A2->Prop),(∃n, ∀w1,Ext w w1->I n (0,()) w1)/\ ∀(n:Nat) (s:Int×Unit) (w1:A2),I n s w1->aI (decide (s.1<x)) (∃(x:Option AC),ae AB 213 [ag p,aa g,aa s.1] w1 (ag x)/\aI x.isNone (au w1 (a s.1)) (∀b,Ext w1 b-> ∃(c:Nat),c<n/\I c (aJ .i64 s.1 1,()) b)) (au w1 (a (-1)))):=by kernel_rfl
theorem Zq (p:Option AC) (g r:Int) (w:A2) (a:Int->A2->Prop):(aK R1 (λ_=>[]) 229 [ag p,aa g,aa r] w a)=(
 ∃x,ae AB 211 [ag p] w (.bool x)/\aI (!x) (au w (a 10)) (True/\((!!gI g)=true->True)/\aI (!gI g|| !gI r||g==r) (au w (a 1)) (au w (a 0)))):=by kernel_rfl
theorem UT (p:Option AC) (w:A2) (a:Int->A2->Prop):(aK R1 (λ_=>[]) 231 [ag p] w a)=(
 ∃x,ae AB 211 [ag p] w (.bool x)/\aI (!x) (au w (a 10)) (au w (a 4))):=by kernel_rfl
theorem Zr (p:Option AC) (g:Int) (x1 e f:Int) (h i:Bool) (w:A2) (d:Int×Int×Unit->A2->Prop):(aK R1 (λ_=>[]) 230 [ag p,aa g,.agg ⟨[aa x1,aa e,aa f,.bool h,.bool i]⟩] w d)=(
 aN w ⟨[aa x1,aa e,aa f,.bool h,.bool i]⟩ 217 λb a=> ∃(x:Int),ae AB 245 [ag p,aa g] a (aa x)/\aI (x== -1) (au a (d (0,3,()))) (aj a none (af b) (.agg [.int .i64,.int .i64,.int .i64,.bool,.bool]) λ(c:Int×Int×Int×Bool×Bool×Unit)=>p.isSome=true/\p.isSome=true/\((ad p 0).isSome=true/\0<=aY .i64 g 1/\aY .i64 g 1<(↑16:Int))/\((ad (ad p 0) ((aY .i64 g 1).toNat*160)).isSome=true/\0<=x/\x<(↑32:Int))/\az a (ad (ad (ad p 0) ((aY .i64 g
 1).toNat*160)) (x.toNat*5)) [aa c.1,aa c.2.1,aa c.2.2.1,.bool c.2.2.2.1,.bool c.2.2.2.2.1] λa=>au a (d (x,0,())))):=by kernel_rfl
theorem QV (p:Option AC) (g r:Int) (w:A2) (a:Int×Int×Unit->A2->Prop):(aK R1 (λ_=>[]) 185 [ag p,aa g,aa r] w a)=(
 ∃(x:Int),ae AB 229 [ag p,aa g,aa r] w (aa x)/\aI (x != 0) (au w (a (0,x,()))) (aA AB 230 (.bu [.one (.int .i64),.one (.int .i64)]) [ag p,aa g,.agg ⟨[aa 1,aa r,aa 0,.bool false,.bool false]⟩] w λ(x:Int×Int×Unit) b=>au b (a (x.1,x.2.1,())))):=by kernel_rfl
theorem QW (p:Option AC) (g r i:Int) (w:A2) (a:Int×Int×Unit->A2->Prop):(aK R1 (λ_=>[]) 186 [ag p,aa g,aa r,aa i] w a)=(
 ∃(x:Int),ae AB 229 [ag p,aa g,aa r] w (aa x)/\aI (x != 0) (au w (a (0,x,()))) (∃(x:Option AC),ae AB 213 [ag p,aa r,aa i] w (ag x)/\aI x.isNone (au w (a (0,4,()))) (cM x 0 w λd=>aI (d==2) (au w (a (0,6,()))) (cM x 1 w λe=>aI (e != g) (au w (a (0,7,()))) (aA AB 230 (.bu [.one (.int .i64),.one (.int .i64)]) [ag p,aa g,.agg ⟨[aa 2,aa r,aa i,.bool false,.bool false]⟩] w λ(b:
 Int×Int×Unit) c=>aI (b.2.1==0) (x.isSome=true/\x.isSome=true/\az c (ad x 0) [aa 2] λc=>x.isSome=true/\x.isSome=true/\az c (ad x 2) [aa b.1] λc=>au c (a (b.1,b.2.1,()))) (au c (a (b.1,b.2.1,())))))))):=by kernel_rfl
theorem QX (p:Option AC) (g i:Int) (w:A2) (a:Int->A2->Prop):(aK R1 (λ_=>[]) 187 [ag p,aa g,aa i] w a)=(
 ∃(x:Option AC),ae AB 213 [ag p,aa g,aa i] w (ag x)/\aI x.isNone (∃(x:Int),ae AB 231 [ag p] w (aa x)/\au w (a x)) (cM x 0 w λc=>aI (c != 2) (au w (a 6)) (cM x 1 w λd=>cM x 2 w λx=> ∃(b:Option AC),ae AB 213 [ag p,aa d,aa x] w (ag b)/\b.isSome=true/\b.isSome=true/\az w (ad b 3) [.bool true] λe=>au e (a 0)))):=by kernel_rfl
def uj:Nat->aZ:=(λ|5=>[(5,Go.RX.El.one Go.RX.Sc.slice),(15,Go.RX.El.one (Go.RX.Sc.int B2))]| _=>[])
theorem QY (p:Option AC) (g:Int) (w:A2) (e:Option AC×Nat×Nat->A2->Prop):(aK R1 uj 232 [ag p,aa g] w e)=(
 ∃x,ae AB 211 [ag p] w (.bool x)/\aI (!x) (au w (e (none,0,0))) (cM p 2560 w λx=> ∃(I:Nat->(Option AC×Nat×Nat)×Int×Unit->A2->Prop),(∃n, ∀w1,Ext w w1->I n ((none,0,0),0,()) w1)/\ ∀(n:Nat) (s:(Option AC×Nat×Nat)×Int×Unit) (w1:A2),I n s w1->aI (decide (s.2.1<x)) (∃(x:Option AC),ae AB 213 [ag p,aa g,aa s.2.1] w1 (ag x)/\((!x.isNone)=true->x.isSome=true)/\((!x.isNone)=true->x.isSome=true)/\aj w1 (some !x.isNone) (ad x 3) rE λd=>
 ((!x.isNone&&d)=true->x.isSome=true)/\((!x.isNone&&d)=true->x.isSome=true)/\aj w1 (some (!x.isNone&&d)) (ad x 4) rE λh=>aI (!x.isNone&&d&& !h) (aN w1 ⟨[aa s.2.1]⟩ 3 λb f=> ∀w1,Ext f w1->mz w1 3 1 8 ⟨[aa 0]⟩ (s.1.1,s.1.2.1,s.1.2.2) (some ⟨b,0,none⟩,1,1) λ(r:Option AC×Nat×Nat) f=> ∀a,Ext f a-> ∃(c:Nat),c<n/\I c ((r.1,r.2.1,r.2.2),aJ .i64 s.2.1 1,()) a) (∀a,Ext w1 a-> ∃(c:Nat),c<n/\I c ((s.1.1,s.1.2.1,s.1.2.2),aJ .i64 s.2.1 1,()) a)) (au w1 (e
 (s.1.1,s.1.2.1,s.1.2.2))))):=by kernel_rfl
theorem QZ (p:Option AC) (g:Int) (w:A2) (c:Int×Bool×Unit->A2->Prop):(aK R1 (λ_=>[]) 188 [ag p,aa g] w c)=(
 aA AB 232 (.el ff) [ag p,aa g] w λx a=>aI ((↑x.2.1:Int)==0) (au a (c (0,false,()))) ((x.1.isSome=true/\(0:Int)<=0/\0<(↑x.2.1:Int))/\aU a (ad x.1 0) λd=> ∃(b:Option AC),ae AB 213 [ag p,aa g,aa d] a (ag b)/\b.isSome=true/\b.isSome=true/\az a (ad b 3) [.bool false] λa=>(x.1.isSome=true/\(0:Int)<=0/\0<(↑x.2.1:Int))/\aU a (ad x.1 0) λx=>au a (c (x,true,())))):=by kernel_rfl
theorem KY (p:Option AC) (g i:Int) (w:A2) (c:Int->A2->Prop):(aK R1 (λ_=>[]) 189 [ag p,aa g,aa i] w c)=(
 ∃(x:Option AC),ae AB 213 [ag p,aa g,aa i] w (ag x)/\aI x.isNone (∃(x:Int),ae AB 231 [ag p] w (aa x)/\au w (c x)) (cM x 0 w λd=>aI (d==2) (cM x 1 w λe=>cM x 2 w λf=> ∃(a:Option AC),ae AB 213 [ag p,aa e,aa f] w (ag a)/\a.isSome=true/\a.isSome=true/\az w (ad a 0) [aa 1] λb=>a.isSome=true/\a.isSome=true/\az b (ad a 2) [aa 0] λb=>x.isSome=true/\az b x [aa 0,.int .i64
 0,aa 0,.bool false,.bool false] λb=>au b (c 0)) (x.isSome=true/\az w x [aa 0,aa 0,aa 0,.bool false,.bool false] λb=>au b (c 0)))):=by kernel_rfl
def uk:Nat->aZ:=(λ|5=>[(5,Go.RX.El.one (Go.RX.Sc.int B2)),(22,Go.RX.El.one (Go.RX.Sc.int B2))]|11=>[(5,Go.RX.El.one (Go.RX.Sc.int B2)),(7,Go.RX.El.one (Go.RX.Sc.int B2))]|14=>[(5,Go.RX.El.one (Go.RX.Sc.int B2)),(41,Go.RX.El.one (Go.RX.Sc.int B2))]| _=>[])
theorem Q0 (p:Option AC) (g:Int) (w:A2) (h:Int->A2->Prop):(aK R1 uk 170 [ag p,aa g] w h)=(
 ∃x,ae AB 211 [ag p] w (.bool x)/\((!!x)=true->True)/\aI (!x|| !gI g) (au w (h 0)) (cM p 2560 w λx=> ∃(I:Nat->Int×Int×Unit->A2->Prop),(∃n, ∀w1,Ext w w1->I n (0,0,()) w1)/\ ∀(n:Nat) (s:Int×Int×Unit) (w1:A2),I n s w1->aI (decide (s.2.1<x)) (aA AB 189 (.el aT) [ag p,aa g,aa s.2.1] w1 λ(x:Int) e=>aI (x==0) (∀a,Ext e a-> ∃(b:Nat),b<n/\I b (aJ .i64 s.1 1,aJ .i64 s.2.1 1,()) a) (∀a,Ext e a-> ∃(b:Nat),b<n/\I b (s.1,aJ .i64 s.2.1 1,
 ()) a)) (∃(I:Nat->Int×Int×Unit->A2->Prop),(∃n, ∀d,Ext w1 d->I n (s.1,1,()) d)/\ ∀(n:Nat) (s:Int×Int×Unit) (w1:A2),I n s w1->aI (decide (s.2.1<=16)) (cM p 2560 w1 λx=> ∃(f:Nat->Int×Int×Unit->A2->Prop),(∃n, ∀d,Ext w1 d->f n (s.1,0,()) d)/\ ∀(i:Nat) (c:Int×Int×Unit) (w1:A2),f i c w1->aI (decide (c.2.1<x)) (∃(x:Option AC),ae AB 213 [ag p,aa s.2.1,aa c.2.1] w1 (ag x)/\((!x.isNone)=true->x.isSome=true)/\
 ((!x.isNone)=true->x.isSome=true)/\aj w1 (some !x.isNone) (ad x 1) aT λ(j:Int)=>aI (!x.isNone&&j==g) (x.isSome=true/\az w1 x [aa 0,aa 0,aa 0,.bool false,.bool false] λe=> ∀a,Ext e a-> ∃(b:Nat),b<i/\f b (aJ .i64 c.1 1,aJ .i64 c.2.1 1,()) a) (∀a,Ext w1 a-> ∃(b:Nat),b<i/\f b (c.1,aJ .i64 c.2.1 1,()) a)) (∀a,Ext w1 a-> ∃(b:Nat),b<n/\I b (c.1,aJ .i64 s.2.1 1,()) a)) (au w1 (h s.1))))):=by kernel_rfl
theorem I5 {ss:List Sc} {xs:List (gY ss)} {rest:List AF} {k f:Nat} {x:gY ss} (a:xs[k]? =some x) (b:f<ss.length):(flat (.agg ss) xs++rest)[k*ss.length+f]? =(a7 ss x)[f]? :=by
 induction xs generalizing k with
 |nil=>simp at a
 |cons y ys c=>
  cases k with
  |zero=>
   simp at a;subst a;have d:f<(a7 ss y).length:=by rw[cD];exact b
   simp only[H5,B4];show((a7 ss y++flat (.agg ss) ys)++rest)[f]? = _;rw[C5,E4 d]
  |succ k=>
   have e:ys[k]? =some x:=by simpa using a
   show((a7 ss y++flat (.agg ss) ys)++rest)[(k+1)*ss.length+f]? = _;rw[C5,Ga (by rw[cD,Dr];omega),cD,Dr];rw[show k*ss.length+1*ss.length+f - ss.length=k*ss.length+f by omega];exact c e
theorem Bc {ss:List Sc} {xs:List (gY ss)} {rest:List AF} {k f:Nat} {x y:gY ss} {v:AF} (b:xs[k]? =some x) (c:f<ss.length) (d:a7 ss y=(a7 ss x).set f v):(flat (.agg ss) xs++rest).set (k*ss.length+f) v=flat (.agg ss) (xs.set k y)++rest:=by
 induction xs generalizing k with
 |nil=>simp at b
 |cons z a e=>
  cases k with
  |zero=>
   simp at b;subst b;have g:f<(a7 ss z).length:=by rw[cD];exact c
   simp only[H5,B4];show((a7 ss z++flat (.agg ss) a)++rest).set f v=(a7 ss y++flat (.agg ss) a)++rest;rw[C5,Ft _ _ g,d,C5]
  |succ k=>
   have h:a[k]? =some x:=by simpa using b
   show((a7 ss z++flat (.agg ss) a)++rest).set ((k+1)*ss.length+f) v=(a7 ss z++flat (.agg ss) (a.set k y))++rest;rw[C5,List.set_append_right _ _ (by rw[cD,Dr];omega),cD,Dr];rw[show k*ss.length+1*ss.length+f - ss.length=k*ss.length+f by omega,e h,C5]
abbrev gy (room:Int) (ps:List PT):List AF:=flat eQ ps++[aa room]
def ix (g i:Int):Nat:=(g - 1).toNat*32+i.toNat
def sK (room g i:Int):Bool:=gI g&&(decide (0<=i)&&decide (i<room))
def oG (room:Int) (ps:List PT) (g i:Int):Option Nat:=if sK room g i=true/\ps.getD (ix g i) zP≠zP then some (ix g i) else none
structure okS (room:Int) (ps:List PT):Prop where
 len:ps.length=512
 lo:1<=room
 hi:room<=32
theorem mr {g:Int}:gI g=true<->1<=g/\g<=16:=by unfold gI;simp
theorem dW {room g i:Int}:sK room g i=true<->(1<=g/\g<=16)/\0<=i/\i<room:=by unfold sK;rw[DB,mr];simp
theorem oT {room g i:Int} (h:sK room g i=true) (a:room<=32):ix g i<512:=by
 rw[dW] at h;unfold ix;omega
theorem Pa {room g i g' a:Int} (h:sK room g i=true) (h':sK room g' a=true) (b:room<=32) (e:ix g i=ix g' a):g=g'/\i=a:=by
 rw[dW] at h h';unfold ix at e;omega
theorem okS.get {room:Int} {ps:List PT} (h:okS room ps) {k:Nat} (a:k<512):ps[k]? =some (ps.getD k zP):=by
 rw[Aq,Ae (by rw[h.len];exact a)];rfl
theorem okS.set {room:Int} {ps:List PT} (h:okS room ps) (k:Nat) (x:PT):okS room (ps.set k x):=⟨by rw[Fw];exact h.len,h.lo,h.hi⟩
theorem fG {room:Int} {ps:List PT} {g i:Int} {k:Nat} (h:oG room ps g i=some k):sK room g i=true/\k=ix g i/\ps.getD k zP≠zP:=by
 unfold oG at h;split at h
 ·rename_i c;cases h;exact⟨c.1,rfl,c.2⟩
 ·cases h
theorem pW {room:Int} {ps:List PT} (h:okS room ps):kx (gy room ps) (0+2560) (.one (.int .i64))=some room:=by
 have:(gy room ps)[2560]? =some (aa room):=by
  show(flat eQ ps++[aa room])[2560]? = _;rw[Ga (by rw[aG,h.len];decide),aG,h.len];rfl
 show(match (gy room ps)[0+2560]? with|some v=>(Sc.int .i64).proj v|none=>none)=some room;rw[B4,this];rfl
theorem isZ (x:PT):(x.fst==0&&(x.snd.fst==0&&(x.snd.snd.fst==0&&(x.snd.snd.snd.fst==false&&(x.snd.snd.snd.snd.fst==false&&true)))))=decide (x=zP):=by
 obtain⟨a,b,c,d,e,u⟩:=x;rw[JQ];simp[zP]
theorem ru {room:Int} {ps:List PT} {k f:Nat} {x:PT} (a:ps[k]? =some x) (b:f<5) {s:Sc} {y:s.T} (c:(match (a7 sQ x)[f]? with|some v=>s.proj v|none=>none)=some y):kx (gy room ps) (k*5+f) (.one s)=some y:=by
 show(match (gy room ps)[k*5+f]? with|some v=>s.proj v|none=>none)=some y;have:=I5 (ss:=sQ) (rest:=[aa room]) a (f:=f) b;rw[show(gy room ps)[k*5+f]? =(a7 sQ x)[f]? from this];exact c
section
variable {D G:List Nat} {w0 w:A2} {L:List (Nat×List AF)}
theorem az.ru (j:Nat) (H:aL D G w0 w L) {bp k f:Nat} {room:Int} {ps:List PT} {x:PT} (y:PT) {v:AF} {K:A2->Prop} (b:L[j]? =some (bp,gy room ps)) (a:ps[k]? =some x) (c:f<5) (hv:v.oneCell'=true) (d:a7 sQ y=(a7 sQ x).set f v)
 (g: ∀w1,aL D G w0 w1 (L.set j (bp,gy room (ps.set k y)))->K w1):az w (ad (some ⟨bp,k*5,none⟩) f) [v] K:=by
 refine az.e8 j H b hv ?_ λw1 h1=>g w1 ?_
 ·rw[H7];have h:k<ps.length:=(B1.1 a).1;have:(flat eQ ps).length=ps.length*5:=aG eQ ps;rw[Dw,this];simp only[Io];omega
 ·have e:(gy room ps).set (k*5+f) v=gy room (ps.set k y):=Bc (ss:=sQ) a c d;rw[e] at h1;exact h1
end
section
variable {w:A2} {bp:Nat} {room:Int} {ps:List PT}
theorem pA (h:bK w bp (gy room ps)) (a:okS room ps):aC AB 211 (.el (.one .bool)) [ag (af bp)] w (λx w'=>x=true/\Ext w w'):=by
 refine ai (C:=R1) (aQ:=λ_=>[]) (AG (QT _ w _) ?_);refine⟨λ_=>rfl,λ_=>rfl,aj.kX (At.start [] w) h (by simp) (pW a) λw1 h1=>⟨?_,h1⟩⟩;have:=a.lo;simp;omega
def cv (bp:Nat) (room:Int) (ps:List PT) (g i:Int):Option AC:=(oG room ps g i).map λk=>⟨bp,k*5,none⟩
theorem DK (h:bK w bp (gy room ps)) (a:okS room ps) (g i:Int):aC AB 213 (.el (.one .ptr)) [ag (af bp),aa g,aa i] w (λx w'=>x=cv bp room ps g i/\Ext w w'):=by
 refine ai (C:=R1) (aQ:=λ_=>[]) (AG (OC _ g i w _) ?_);refine⟨true,ae.of (s:= .el (.one .bool)) λw' h'=>pA (h.ext h') a,λ_=>trivial,λ_=>rfl,λ_=>rfl,aj.kX (At.start [] w) h (by simp) (pW a) ?_⟩;have p:=a.lo;have f:=a.hi;refine ab (λc w1 h1=>⟨?_,h1⟩) (λc=>?_)
 ·have j: ¬ sK room g i=true:=by
   rw[dW];intro k;have b:gI g=true:=mr.2 k.1;rw[b] at c;simp at c;omega
  unfold cv oG;rw[ao (λhc=>j hc.1)];rfl
 ·have d:sK room g i=true:=by
   rw[dW, <-mr];cases b:gI g with
   |false=>rw[b] at c;simp at c
   |true=>rw[b] at c;simp at c;exact⟨rfl,by omega,by omega⟩
  have q:=dW.1 d;have l:=oT d f;have m:=a.get l;have es:aY .i64 g 1=g - 1:=bD (by omega) (by omega);rw[es];have n:ad (ad (ad (af bp) 0) ((g - 1).toNat*160)) (i.toNat*5)=some ⟨bp,ix g i*5,none⟩:=by
   rw[aW,aW,aW];unfold ix;congr 2;omega
  have o:ad (ad (af bp) 0) ((g - 1).toNat*160)=some ⟨bp,0+0+(g - 1).toNat*160,none⟩:=by rw[aW,aW]
  rw[n,o];refine⟨rfl,rfl,⟨rfl,by omega,by omega⟩,⟨rfl,by omega,by omega⟩,rfl,aj.of (ps.getD (ix g i) zP) ?_ ?_⟩
  ·have:=fV (e:=eQ) (rest:=[aa room]) h m;rw[aW,B4] at this;exact this
  ·rw[isZ];refine ab (λc2 w1 h1=>⟨?_,h1⟩) (λc2 w1 h1=>⟨?_,h1⟩)
   ·unfold cv oG;rw[ao (λhc=>hc.2 (of_decide_eq_true c2))];rfl
   ·unfold cv oG;rw[av ⟨d,of_decide_eq_false c2⟩];rfl
def qB (g r:Int):Int:=if !gI g|| !gI r||g==r then 1 else 0
theorem Zt (h:bK w bp (gy room ps)) (a:okS room ps) (g r:Int):aC AB 229 (.el (.one (.int .i64))) [ag (af bp),aa g,aa r] w (λx w'=>x=qB g r/\Ext w w'):=by
 refine ai (C:=R1) (aQ:=λ_=>[]) (AG (Zq _ g r w _) ?_);refine⟨true,ae.of (s:= .el (.one .bool)) λw' h'=>pA (h.ext h') a,an rfl ⟨trivial,λ_=>trivial,ab (λc w1 h1=>⟨?_,h1⟩) (λc w1 h1=>⟨?_,h1⟩)⟩⟩
 ·unfold qB;rw[av c]
 ·unfold qB;rw[ao (by rw[c];decide)]
theorem UU (h:bK w bp (gy room ps)) (a:okS room ps):aC AB 231 (.el (.one (.int .i64))) [ag (af bp)] w (λx w'=>x=4/\Ext w w'):=by
 refine ai (C:=R1) (aQ:=λ_=>[]) (AG (UT _ w _) ?_);exact⟨true,ae.of (s:= .el (.one .bool)) λw' h'=>pA (h.ext h') a,an rfl λw1 h1=>⟨rfl,h1⟩⟩
def cx (room:Int) (ps:List PT) (g:Int):Int:=match (DN room.toNat).find? λ(i:Nat)=>(oG room ps g i).isNone with
 |some i=>(i:Int)
 |none=> -1
theorem Q1 (h:bK w bp (gy room ps)) (d:okS room ps) (g:Int):aC AB 245 (.el (.one (.int .i64))) [ag (af bp),aa g] w (λx w'=>x=cx room ps g/\Ext w w'):=by
 refine ai (C:=R1) (aQ:=ui) (AG (QU _ g w _) ?_);have n:=d.lo;have o:=d.hi;refine⟨rfl,rfl,aj.kX (At.start [] w) h (by simp) (pW d) ?_⟩;refine⟨λq s w'=> ∃i:Nat,s.1=i/\q+i=room.toNat/\(∀j:Nat,j<i->(oG room ps g j).isNone=false)/\Ext w w',⟨room.toNat,λw1 h1=>⟨0,rfl,rfl,λj a=>absurd a (by omega),h1⟩⟩,?_⟩;rintro q ⟨p,u⟩ w1 ⟨i,hi,r,f,e⟩;simp only at hi;subst hi;dsimp only;refine ab (λc=>?_) (λc k b=>⟨?_,e.trans b⟩)
 ·have l:i<room.toNat:=by simp at c;omega
  refine⟨_,ae.of (s:= .el (.one .ptr)) λw' h'=>DK ((h.ext e).ext h') d g i,ab (λc2 k b=>⟨?_,e.trans b⟩) (λc2 k b=>⟨q - 1,by omega,i+1,by rw[ax (by omega) (by omega)];rfl,by omega,λj a=>?_,e.trans b⟩)⟩
  ·have m:(oG room ps g i).isNone=true:=by unfold cv at c2;simpa using c2
   have:(DN room.toNat).find? (λ(i:Nat)=>(oG room ps g i).isNone)=some i:=by
    rw[J0];exact⟨m,F4.2 l,λj a=>by rw[f j a];rfl⟩
   unfold cx;rw[this]
  ·rcases Nat.lt_or_ge j i with h1|h1
   ·exact f j h1
   ·obtain rfl:j=i:=by omega
    unfold cv at c2;simpa using c2
 ·have:(DN room.toNat).find? (λ(i:Nat)=>(oG room ps g i).isNone)=none:=by
   rw[List.find?_eq_none];intro j a;have hi:i=room.toNat:=by simp at c;omega
   rw[f j (by rw[hi];exact F4.1 a)];decide
  unfold cx;rw[this]
theorem mT {room:Int} {ps:List PT} {g:Int} (a:gI g=true) (h:cx room ps g≠ -1):sK room g (cx room ps g)=true/\oG room ps g (cx room ps g)=none:=by
 unfold cx at h ⊢;split at h
 ·rename_i i hi;rw[J0] at hi;have:=F4.1 hi.2.1;exact⟨dW.2 ⟨mr.1 a,by omega,by omega⟩,by simpa using hi.1⟩
 ·exact absurd rfl h
end
end Go.Proofs.YtlcenllcmeebhaaGreat.Po
namespace Go.Proofs.YtlcenllcmeebhaaGreat
set_option maxRecDepth 100000
open Go.RX
theorem Ao {L Ls:List (Nat×List AF)} {k:Nat} {x:Nat×List AF} (h:L[k]? =some x):(L++Ls)[k]? =some x:=by
 rw[E4 (B1.1 h).1];exact h
theorem BU.len {Ls:List (Nat×List AF)} {sl:Option AC×Nat×Nat} {xs:List Int} (h:BU Ls sl xs):sl.2.1=xs.length:=by
 rcases h with ⟨rfl,rfl,rfl⟩|⟨bs,c,rest,rfl,rfl, _, _⟩
 ·rfl
 ·rfl
theorem BU.rd {D G:List Nat} {w0 w:A2} {L Ls:List (Nat×List AF)} {sl:Option AC×Nat×Nat} {xs:List Int} (h:BU Ls sl xs) (H:aL D G w0 w L) (b: ∀y∈Ls,y∈L) {i:Nat} {x:Int} (a:xs[i]? =some x):sl.1.isSome=true/\cI w (ad sl.1 (i*1)) (.one (.int .i64)) x:=by
 rcases h with ⟨rfl,rfl,rfl⟩|⟨bs,c,rest,rfl,rfl, _, _⟩
 ·simp at a
 ·exact⟨rfl,fV (e:=eI) (H.dk _ (b _ DQ)) a⟩
section
variable {D G:List Nat} {w0 w:A2} {L:List (Nat×List AF)} {bg br c:Nat} {gs:List GT} {rest:List AF}
theorem Gl {Ls:List (Nat×List AF)} {a:Nat} {x:Int} {xs:List Int} {sl:Option AC×Nat×Nat} (H:aL D G w0 w ((a,[aa x])::(L++Ls))) (f:BU Ls sl xs) (hb:xs.length<=900000) {t:Bs}
 {R:Option AC×Nat×Nat->A2->Prop} (k: ∀b d w',BU b d (xs++[x])->aL D G w0 w' (L++b)->R d w'):
 mz w t 1 8 ⟨[aa 0]⟩ sl (some ⟨a,0,none⟩,1,1) R:=by
 refine aL.aa5 (e:=eI) (ys:=[x]) (ry:=[]) (Ls:=Ls) (L0:=L) (H.perm (.cons _ FR)) (by simp) f rfl rfl rfl (by simp only[Io];omega) λbs c rest w' g h i=>k [(bs,flat eI (xs++[x])++rest)] (some ⟨bs,0,none⟩,(xs++[x]).length,c) w' (.inr ⟨bs,c,rest,rfl,rfl,g,h⟩) (i.perm ?_);exact FR
theorem KZ (H:aL D G w0 w L) (j s:Nat) (h:L[j]? =some (bg,mB br gs.length c)) (t:L[s]? =some (br,flat eG gs++rest)) (h0:0<gs.length) (M:gs.length<=64) {K:Option AC×Nat×Nat->A2->Prop}
 (k: ∀sl Ls a,BU Ls sl (cN gs eA gs.length)->aL D G w0 a (L++Ls)->K sl a):
 aA AB 208 (.el (.one .slice)) [ag (af bg),.func (.func 210) #[] #[]] w K:=by
 refine aA.go H λw1 H=>ai (C:=G3) (aQ:=qT) (AG (KL _ w1 K) ?_);have y: ∀{w:A2} {L1:List (Nat×List AF)},aL D G w0 w (L++L1)->bK w bg (mB br gs.length c)/\bK w br (flat eG gs++rest):=λ{w L1} H=>⟨H.get (Ao h),H.get (Ao t)⟩;refine⟨_,pz (H.get h) h0,an rfl ⟨rfl,rfl,aj.cv j H h rfl ?_⟩⟩;refine⟨λn v w'=> ∃(m:Nat) (Ls:List (Nat×List AF)),v.2.1=(m:Int)/\n+m=gs.length/\BU Ls v.1 (cN gs eA m)/\aL D G w0 w' (L++Ls),⟨gs.length,λa z=>⟨0,[],rfl,rfl,.inl ⟨rfl,rfl,rfl⟩,by rw[BX];exact H.ext z⟩⟩,?_⟩;clear H;rintro n ⟨sl,v,u⟩ a ⟨m,Ls,e,N,f,H⟩;dsimp only at e f ⊢;subst e;refine ab (λi=>?_) (λi=>?_)
 ·have l:m<gs.length:=by simpa using i
  have p:gs[m]? =some (gs.getD m zG):=by
   rw[Aq,Ae l];rfl
  have A:aJ .i64 (m:Int) 1=((m+1:Nat):Int):=by rw[ax (by omega) (by omega)];omega
  have g:=sd gs eA m;obtain⟨x,B⟩: ∃x,x=gs.getD m zG:=⟨_,rfl⟩;rw[<-B] at p g;rw[A];have O:=qi gs eA m;refine⟨⟨rfl,by omega,by omega⟩,aj.of x (fV (e:=eG) (y H).2 p) (aN.go H λb q H=>az.all 0 H rfl rfl rfl λP H=>aj.at 0 H rfl (show _=some x from rfl) ?_)⟩;refine⟨trivial,?_⟩;refine ab (λd=>aN.go H λE Q H=>λr o=>?_) (λd=>λr o=>⟨n - 1,by omega,m+1,Ls,rfl,by omega,?_,?_⟩)
  ·have d:eA x=true:=d;rw[av d] at g;have H:=H.ext o;have H:aL D G w0 r ((E,[aa (m:Int)])::(L++Ls)):=H.sub (.cons_cons _ (Ap _ _));refine Gl H f (by omega) λF R S I H=>λT J=>⟨n - 1,by omega,m+1,F,rfl,by omega,?_,H.ext J⟩;rw[g];exact I
  ·have d: ¬ eA x=true:=by
    have d:eA x=false:=d;rw[d];decide
   rw[g,ao d,BX];exact f
  ·exact(H.sub (Ap _ _)).ext o
 ·have l:m=gs.length:=by
   have: ¬ m<gs.length:=by simpa using i
   omega
  subst l;exact au.go H λq H=>k sl Ls q f H
theorem K8 (H:aL D G w0 w L) (j z:Nat) (h:L[j]? =some (bg,mB br gs.length c)) (A:L[z]? =some (br,flat eG gs++rest)) (h0:0<gs.length) (P:gs.length<=64) {bc:Nat} {o q t:Int} (hc:(bc,[aa o,aa q,aa t,.bool false,aa 0])∈L) {K:Option AC×Nat×Nat->A2->Prop}
 (k: ∀sl Ls a,BU Ls sl (cN gs (iB o q t) gs.length)->aL D G w0 a (L++Ls)->K sl a):
 aA AB 208 (.el (.one .slice)) [ag (af bg),.func (.func 226) #[] #[ag (af bc)]] w K:=by
 refine aA.go H λw1 H=>ai (C:=G3) (aQ:=qU) (AG (KM _ _ w1 K) ?_);have B: ∀{w:A2} {L1:List (Nat×List AF)},aL D G w0 w (L++L1)->bK w bg (mB br gs.length c)/\bK w br (flat eG gs++rest):=λ{w L1} H=>⟨H.get (Ao h),H.get (Ao A)⟩;refine⟨_,pz (H.get h) h0,an rfl ⟨rfl,rfl,aj.cv j H h rfl ?_⟩⟩;refine⟨λn v w'=> ∃(m:Nat) (Ls:List (Nat×List AF)),v.2.1=(m:Int)/\n+m=gs.length/\BU Ls v.1 (cN gs (iB o q t) m)/\aL D G w0 w' (L++Ls),⟨gs.length,λa E=>⟨0,[],rfl,rfl,.inl ⟨rfl,rfl,rfl⟩,by rw[BX];exact H.ext E⟩⟩,?_⟩;clear H;rintro n ⟨sl,v,u⟩ a ⟨m,Ls,e,Q,f,H⟩;dsimp only at e f ⊢;subst e;refine ab (λi=>?_) (λi=>?_)
 ·have l:m<gs.length:=by simpa using i
  have r:gs[m]? =some (gs.getD m zG):=by
   rw[Aq,Ae l];rfl
  have F:aJ .i64 (m:Int) 1=((m+1:Nat):Int):=by rw[ax (by omega) (by omega)];omega
  have g:=sd gs (iB o q t) m;obtain⟨x,I⟩: ∃x,x=gs.getD m zG:=⟨_,rfl⟩;rw[<-I] at r g;rw[F];have R:=qi gs (iB o q t) m;refine⟨⟨rfl,by omega,by omega⟩,aj.of x (fV (e:=eG) (B H).2 r) (aN.go H λb s H=>az.all 0 H rfl rfl rfl λS H=>aj.at 0 H rfl (show _=some x from rfl) ?_)⟩;refine⟨_,US (H.dk _ (Ca _ (Dl _ hc))) x,?_⟩;refine ab (λd=>aN.go H λJ T H=>λy p=>?_) (λd=>λy p=>⟨n - 1,by omega,m+1,Ls,rfl,by omega,?_,?_⟩)
  ·have d:(iB o q t) x=true:=d;rw[av d] at g;have H:=H.ext p;have H:aL D G w0 y ((J,[aa (m:Int)])::(L++Ls)):=H.sub (.cons_cons _ (Ap _ _));refine Gl H f (by omega) λM U V N H=>λW O=>⟨n - 1,by omega,m+1,M,rfl,by omega,?_,H.ext O⟩;rw[g];exact N
  ·have d: ¬ (iB o q t) x=true:=by
    have d:(iB o q t) x=false:=d;rw[d];decide
   rw[g,ao d,BX];exact f
  ·exact(H.sub (Ap _ _)).ext p
 ·have l:m=gs.length:=by
   have: ¬ m<gs.length:=by simpa using i
   omega
  subst l;exact au.go H λs H=>k sl Ls s f H
theorem K9 (H:aL D G w0 w L) (j t:Nat) (i:L[j]? =some (bg,mB br gs.length c)) (y:L[t]? =some (br,flat eG gs++rest)) (h0:0<gs.length) (N:gs.length<=64) {bc:Nat} {g:Int} (hc:(bc,[aa g])∈L) {K:Option AC×Nat×Nat->A2->Prop}
 (k: ∀sl Ls a,BU Ls sl (cN gs (mE g) gs.length)->aL D G w0 a (L++Ls)->K sl a):
 aA AB 208 (.el (.one .slice)) [ag (af bg),.func (.func 209) #[] #[ag (af bc)]] w K:=by
 refine aA.go H λw1 H=>ai (C:=G3) (aQ:=qV) (AG (KN _ _ w1 K) ?_);have z: ∀{w:A2} {L1:List (Nat×List AF)},aL D G w0 w (L++L1)->bK w bg (mB br gs.length c)/\bK w br (flat eG gs++rest):=λ{w L1} H=>⟨H.get (Ao i),H.get (Ao y)⟩;refine⟨_,pz (H.get i) h0,an rfl ⟨rfl,rfl,aj.cv j H i rfl ?_⟩⟩;refine⟨λn v w'=> ∃(m:Nat) (Ls:List (Nat×List AF)),v.2.1=(m:Int)/\n+m=gs.length/\BU Ls v.1 (cN gs (mE g) m)/\aL D G w0 w' (L++Ls),⟨gs.length,λa A=>⟨0,[],rfl,rfl,.inl ⟨rfl,rfl,rfl⟩,by rw[BX];exact H.ext A⟩⟩,?_⟩;clear H;rintro n ⟨sl,v,u⟩ a ⟨m,Ls,e,O,f,H⟩;dsimp only at e f ⊢;subst e;refine ab (λl=>?_) (λl=>?_)
 ·have o:m<gs.length:=by simpa using l
  have q:gs[m]? =some (gs.getD m zG):=by
   rw[Aq,Ae o];rfl
  have B:aJ .i64 (m:Int) 1=((m+1:Nat):Int):=by rw[ax (by omega) (by omega)];omega
  have h:=sd gs (mE g) m;obtain⟨x,E⟩: ∃x,x=gs.getD m zG:=⟨_,rfl⟩;rw[<-E] at q h;rw[B];have P:=qi gs (mE g) m;refine⟨⟨rfl,by omega,by omega⟩,aj.of x (fV (e:=eG) (z H).2 q) (aN.go H λb r H=>az.all 0 H rfl rfl rfl λQ H=>aj.at 0 H rfl (show _=some x from rfl) ?_)⟩;refine⟨_,QQ (H.dk _ (Ca _ (Dl _ hc))) x,?_⟩;refine ab (λd=>aN.go H λF R H=>λs p=>?_) (λd=>λs p=>⟨n - 1,by omega,m+1,Ls,rfl,by omega,?_,?_⟩)
  ·have d:(mE g) x=true:=d;rw[av d] at h;have H:=H.ext p;have H:aL D G w0 s ((F,[aa (m:Int)])::(L++Ls)):=H.sub (.cons_cons _ (Ap _ _));refine Gl H f (by omega) λI S T J H=>λU M=>⟨n - 1,by omega,m+1,I,rfl,by omega,?_,H.ext M⟩;rw[h];exact J
  ·have d: ¬ (mE g) x=true:=by
    have d:(mE g) x=false:=d;rw[d];decide
   rw[h,ao d,BX];exact f
  ·exact(H.sub (Ap _ _)).ext p
 ·have o:m=gs.length:=by
   have: ¬ m<gs.length:=by simpa using l
   omega
  subst o;exact au.go H λr H=>k sl Ls r f H
theorem B9 (H:aL D G w0 w L) (a:Nat) (b:L[a]? =some (br,flat eG gs++rest)) {k:Nat} {x:GT} (c:gs[k]? =some x) {f:Nat} (d:f<5) {s:Sc} {y:s.T} (e:(match (a7 sG x)[f]? with|some v=>s.proj v|none=>none)=some y):cI w (ad (some ⟨br,k*5,none⟩) f) (.one s) y:=by
 rw[aW];refine dV (H.get b) ?_;have h:=Po.I5 (ss:=sG) (rest:=rest) c d;show(match (flat eG gs++rest)[k*5+f]? with|some v=>s.proj v|none=>none)=some y;have h:(flat eG gs++rest)[k*5+f]? =(a7 sG x)[f]? :=h;rw[h];exact e
theorem aam (H:aL D G w0 w L) (a:Nat) (c:L[a]? =some (br,flat eG gs++rest)) {k:Nat} {x:GT} (b:gs[k]? =some x) {f:Nat} (d:f<5) {v:AF} (hv:v.oneCell'=true) (y:GT) (e:a7 sG y=(a7 sG x).set f v) {K:A2->Prop} (kk: ∀w1,aL D G w0 w1 (L.set a (br,flat eG (gs.set k y)++rest))->K w1):az w (ad (some ⟨br,k*5,none⟩) f) [v] K:=by
 have g:k<gs.length:=(B1.1 b).1;refine az.e8 a H c hv ?_ λw1 h1=>kk w1 ?_
 ·rw[H7,Dw,aG];show k*5+f<gs.length*5+rest.length;omega
 ·have h:=Po.Bc (ss:=sG) (rest:=rest) (v:=v) b d e;have h:(flat eG gs++rest).set (k*5+f) v=flat eG (gs.set k y)++rest:=h;rw[h] at h1;exact h1
theorem Zu (h:bK w bg (mB br gs.length c)) (d:bK w br (flat eG gs++rest)) (h0:0<gs.length) (i:Int):
 aC AB 176 (.bu [eG,.one .bool]) [ag (af bg),aa i] w (λx w'=>x=(wX gs i,(lU gs i).isSome,())/\Ext w w'):=by
 refine aR (C:=G3) (aQ:=λ_=>[]) (AG (Zh _ i w _) ?_);have H:=At.start [] w;refine aN.go H λb f H=>?_;have a:=H.all;refine⟨_,Iy (h.ext a) (d.ext a) h0 i,?_⟩;unfold B8 B7 wX;cases g:lU gs i with
 |none=>exact aB rfl (az.all 0 H rfl rfl rfl λj H=>au.go H λl H=>aj.at 0 H rfl (show _=some zG from rfl) ⟨rfl,H.all⟩)
 |some k=>
  obtain⟨_, _, _,m, _⟩:=lz g;have n:cI f (some ⟨br,k*5,none⟩) eG (gs.getD k zG):=by
   have:=fV (e:=eG) (d.ext a) m;rw[aW,B4] at this;exact this
  refine an rfl ⟨rfl,aj.of _ n (az.all 0 H rfl rfl rfl λj H=>au.go H λl H=>aj.at 0 H rfl (show _=some (gs.getD k zG) from rfl) ⟨rfl,H.all⟩)⟩
theorem Q2 (H:aL D G w0 w L) (j f:Nat) (p:L[j]? =some (bg,mB br gs.length c)) (l:L[f]? =some (br,flat eG gs++rest)) (h0:0<gs.length) (r: ∀x∈gs,0<=x.2.2.2.2.1/\x.2.2.2.2.1<=1000) (i g:Int) (b:Bool) {K:Int->A2->Prop}
 (k: ∀e,aL D G w0 e (L.set f (br,flat eG (eo gs i g b)++rest))->K (gU gs i g b) e):
 aA AB 181 (.el (.one (.int .i64))) [ag (af bg),aa i,aa g,.bool b] w K:=by
 refine aA.go H λw1 H=>ai (C:=G3) (aQ:=λ_=>[]) (AG (Qj _ i g b w1 K) ?_);refine⟨_,Iy (H.get p) (H.get l) h0 i,?_⟩;have same:gU gs i g b≠0-> ∀{e},aL D G w0 e L->aL D G w0 e (L.set f (br,flat eG (eo gs i g b)++rest)):=λh e H=>by
  unfold eo;rw[ao h,Oh l];exact H
 have a:gU gs i g b=match lU gs i with
  |none=>4
  |some k=>if((gs.getD k zG).2.2.1 != g||b&& !(gs.getD k zG).2.2.2.1)=true then 7 else if(gs.getD k zG).2.2.2.2.1=1000 then 3 else 0:=rfl
 unfold B8 B7;cases n:lU gs i with
 |none=>
  rw[n] at a;dsimp only at a;rw[a] at k same;exact aB rfl (au.go H λe H=>k e (same (by decide) H))
 |some q=>
  obtain⟨v,y,s,m, _⟩:=lz n;rw[n] at a;dsimp only at a;obtain⟨x,o⟩: ∃x,x=gs.getD q zG:=⟨_,rfl⟩;rw[<-o] at a m;refine an rfl ⟨rfl,rfl,aj.of x.2.2.1 (B9 H f l m (by decide) rfl) ⟨λ_=>rfl,λ_=>rfl,aj.of x.2.2.2.1 (B9 H f l m (by decide) rfl) (ab (λd=>au.go H λe H=>?_) (λd=>?_))⟩⟩
  ·rw[av d] at a;rw[a] at k same;exact k e (same (by decide) H)
  ·rw[ao (by rw[d];decide)] at a;refine⟨rfl,rfl,aj.of x.2.2.2.2.1 (B9 H f l m (by decide) rfl) (ab (λd2=>au.go H λe H=>?_) (λd2=>?_))⟩
   ·rw[av (by simpa using d2)] at a;rw[a] at k same;exact k e (same (by decide) H)
   ·rw[ao (by simpa using d2)] at a;have hb:=r x (Fx m);refine⟨rfl,rfl,aj.of x.2.2.2.2.1 (B9 H f l m (by decide) rfl) ⟨rfl,rfl,?_⟩⟩;rw[ax (by omega) (by omega)];refine aam H f l m (by decide) rfl (fo x 1) rfl λe H=>au.go H λt H=>?_;have u:eo gs i g b=gs.set q (fo x 1):=by
     unfold eo;rw[av a, <-s, <-o]
    rw[a,u] at k;exact k t H
end
section
variable {D G:List Nat} {w0 w:A2} {L:List (Nat×List AF)} {bg br c:Nat} {gs:List GT} {rest:List AF}
theorem Q3 (H:aL D G w0 w L) (j e:Nat) (o:L[j]? =some (bg,mB br gs.length c)) (f:L[e]? =some (br,flat eG gs++rest)) (h0:0<gs.length) (p: ∀x∈gs,0<=x.2.2.2.2.1/\x.2.2.2.2.1<=1000) (i g:Int) {K:Int->A2->Prop}
 (k: ∀b,aL D G w0 b (L.set e (br,flat eG (eO gs i g)++rest))->K (mq gs i g) b):
 aA AB 182 (.el (.one (.int .i64))) [ag (af bg),aa i,aa g] w K:=by
 refine aA.go H λw1 H=>ai (C:=G3) (aQ:=λ_=>[]) (AG (Qk _ i g w1 K) ?_);refine⟨_,Iy (H.get o) (H.get f) h0 i,?_⟩;have same:mq gs i g≠0-> ∀{b},aL D G w0 b L->aL D G w0 b (L.set e (br,flat eG (eO gs i g)++rest)):=λh b H=>by
  unfold eO;rw[ao h,Oh f];exact H
 have a:mq gs i g=match lU gs i with
  |none=>4
  |some k=>if(gs.getD k zG).2.2.1≠g then 7 else if(gs.getD k zG).2.2.2.2.1=0 then 6 else 0:=rfl
 unfold B8 B7;cases m:lU gs i with
 |none=>
  rw[m] at a;dsimp only at a;rw[a] at k same;exact aB rfl (au.go H λb H=>k b (same (by decide) H))
 |some q=>
  obtain⟨u,v,r,l, _⟩:=lz m;rw[m] at a;dsimp only at a;obtain⟨x,n⟩: ∃x,x=gs.getD q zG:=⟨_,rfl⟩;rw[<-n] at a l;refine an rfl ⟨rfl,rfl,aj.of x.2.2.1 (B9 H e f l (by decide) rfl) (ab (λd=>au.go H λb H=>?_) (λd=>?_))⟩
  ·rw[av (by simpa using d)] at a;rw[a] at k same;exact k b (same (by decide) H)
  ·rw[ao (by simpa using d)] at a;refine⟨rfl,rfl,aj.of x.2.2.2.2.1 (B9 H e f l (by decide) rfl) (ab (λd2=>au.go H λb H=>?_) (λd2=>?_))⟩
   ·rw[av (by simpa using d2)] at a;rw[a] at k same;exact k b (same (by decide) H)
   ·rw[ao (by simpa using d2)] at a;have hb:=p x (Fx l);refine⟨rfl,rfl,aj.of x.2.2.2.2.1 (B9 H e f l (by decide) rfl) ⟨rfl,rfl,?_⟩⟩;rw[bD (by omega) (by omega)];refine aam H e f l (by decide) rfl (fo x (-1)) rfl λb H=>au.go H λs H=>?_;have t:eO gs i g=gs.set q (fo x (-1)):=by
     unfold eO;rw[av a, <-r, <-n]
    rw[a,t] at k;exact k s H
theorem Hd (H:aL D G w0 w L) (j f:Nat) (n:L[j]? =some (bg,mB br gs.length c)) (g:L[f]? =some (br,flat eG gs++rest)) (h0:0<gs.length) (i o:Int) {K:Int->A2->Prop}
 (k: ∀b,aL D G w0 b (L.set f (br,flat eG (lh gs i o)++rest))->K (qP gs i o) b):
 aA AB 184 (.el (.one (.int .i64))) [ag (af bg),aa i,aa o] w K:=by
 refine aA.go H λw1 H=>ai (C:=G3) (aQ:=λ_=>[]) (AG (G_ _ i o w1 K) ?_);refine⟨_,Iy (H.get n) (H.get g) h0 i,?_⟩;have same:qP gs i o≠0-> ∀{b},aL D G w0 b L->aL D G w0 b (L.set f (br,flat eG (lh gs i o)++rest)):=λh b H=>by
  unfold lh;rw[ao h,Oh g];exact H
 have a:qP gs i o=match lU gs i with
  |none=>4
  |some k=>if(gs.getD k zG).1≠o then 7 else if(gs.getD k zG).2.2.2.2.1>0 then 9 else 0:=rfl
 unfold B8 B7;cases m:lU gs i with
 |none=>
  rw[m] at a;dsimp only at a;rw[a] at k same;exact aB rfl (au.go H λb H=>k b (same (by decide) H))
 |some q=>
  obtain⟨y,z,p,l, _⟩:=lz m;rw[m] at a;dsimp only at a;obtain⟨x,r⟩: ∃x,x=gs.getD q zG:=⟨_,rfl⟩;rw[<-r] at a l;refine an rfl ⟨rfl,rfl,aj.of x.1 (B9 H f g l (by decide) rfl) (ab (λd=>au.go H λb H=>?_) (λd=>?_))⟩
  ·rw[av (by simpa using d)] at a;rw[a] at k same;exact k b (same (by decide) H)
  ·rw[ao (by simpa using d)] at a;refine⟨rfl,rfl,aj.of x.2.2.2.2.1 (B9 H f g l (by decide) rfl) (ab (λd2=>au.go H λb H=>?_) (λd2=>?_))⟩
   ·rw[av (by simpa using d2)] at a;rw[a] at k same;exact k b (same (by decide) H)
   ·rw[ao (by simpa using d2)] at a;refine⟨rfl,?_⟩;have s:q<gs.length:=(B1.1 l).1;have t:(some (⟨br,q*5,none⟩:AC))=ad (af br) (q*5):=by rw[aW,B4]
    show az w1 (some (⟨br,q*5,none⟩:AC)) _ _;rw[t];refine az.flat (e:=eG) f H zG g rfl rfl s λb H=>au.go H λu H=>?_;have v:lh gs i o=gs.set q zG:=by
     unfold lh;rw[av a, <-p]
    rw[a,v] at k;exact k u H
theorem K_ (H:aL D G w0 w L) (j m:Nat) (s:L[j]? =some (bg,mB br gs.length c)) (p:L[m]? =some (br,flat eG gs++rest)) (h0:0<gs.length) (J:gs.length<=64) (o q t:Int) (b:Bool) {K:Int×Int×Unit->A2->Prop}
 (k: ∀f,aL D G w0 f (L.set m (br,flat eG (jT gs o q t b)++rest))->K (km gs o q t,lj gs o q t,()) f):
 aA AB 180 (.bu [.one (.int .i64),.one (.int .i64)]) [ag (af bg),aa o,aa q,aa t,.bool b] w K:=by
 refine aA.go H λw1 H=>ai (C:=G3) (aQ:=λ_=>[]) (AG (KO _ o q t b w1 K) ?_);have same:lj gs o q t≠0-> ∀{f},aL D G w0 f L->aL D G w0 f (L.set m (br,flat eG (jT gs o q t b)++rest)):=λh f H=>by
  unfold jT;rw[ao h,Oh p];exact H
 have v:lj gs o q t≠0->km gs o q t=0:=λh=>ao h;refine⟨_,pz (H.get s) h0,an rfl ⟨trivial,λ_=>trivial,ab (λd=>au.go H λf H=>?_) (λd=>?_)⟩⟩
 ·have a:lj gs o q t=1:=av d;rw[v (by rw[a];decide),a] at k;rw[a] at same;exact k f (same (by decide) H)
 have a:lj gs o q t=if cN gs (iB o q t) gs.length≠[] then 5 else if cN gs eA gs.length=[] then 3 else 0:=ao (by rw[d];decide);refine aN.go H λbc f H=>az.all 0 H rfl rfl rfl λY H=>K8 H (j+1) (m+1) s p h0 J (bc:=bc) (DQ) λsl Ls O n H=>?_;obtain⟨sp,A,sc⟩:=sl;have B:A=(cN gs (iB o q t) gs.length).length:=n.len;subst B;have H:aL D G w0 O ((bc,[aa o,aa q,aa t,.bool false,aa 0])::L):=H.sub (Dn _ Ls);refine ab (λd1=>au.go H λE H=>?_) (λd1=>?_)
 ·have d1:cN gs (iB o q t) gs.length≠[]:=by
   intro e;rw[e] at d1;simp at d1
  rw[av d1] at a;rw[v (by rw[a];decide),a] at k;rw[a] at same;exact k E (same (by decide) (H.sub (Ap _ _)))
 have d1: ¬ cN gs (iB o q t) gs.length≠[]:=by
  intro e;have:=IR.2 e;rw[decide_eq_false_iff_not] at d1;have d1: ¬ (((cN gs (iB o q t) gs.length).length:Nat):Int)>0:=d1;omega
 rw[ao d1] at a;refine KZ H (j+1) (m+1) s p h0 J λsl Ls E n H=>?_;obtain⟨sp,A,sc⟩:=sl;have B:A=(cN gs eA gs.length).length:=n.len;subst B;have H:aL D G w0 E ((bc,[aa o,aa q,aa t,.bool false,aa 0])::(L++Ls)):=H;refine ab (λd2=>au.go H λF H=>?_) (λd2=>?_)
 ·have d2:cN gs eA gs.length=[]:=by
   have:(cN gs eA gs.length).length=0:=by simpa using d2
   exact List.length_eq_zero_iff.1 this
  rw[av d2] at a;rw[v (by rw[a];decide),a] at k;rw[a] at same;exact k F (same (by decide) (H.sub ((Dn L Ls).trans (Ap _ _))))
 have d2: ¬ cN gs eA gs.length=[]:=by
  intro e;rw[e] at d2;simp at d2
 rw[ao d2] at a;have P:jT gs o q t b=gs.set (km gs o q t).toNat (o,q,t,b,0,()):=av a;have Q:km gs o q t=(cN gs eA gs.length).headD 0:=av a;rw[P,a] at k;obtain⟨z,l,u⟩: ∃z l,cN gs eA gs.length=z::l:=List.exists_cons_of_ne_nil d2;have R:km gs o q t=z:=by rw[Q,u];rfl
 rw[R] at k;obtain⟨r,S, _,T⟩:=qh.1 (by rw[u];exact DQ:z∈cN gs eA gs.length);subst T;rw[u] at n;have M:(cN gs eA gs.length).length=l.length+1:=by rw[u];rfl
 have N: ∀{w:A2} {g:Nat×List AF},aL D G w0 w (g::(L++Ls))->sp.isSome=true/\cI w (ad sp 0) (.one (.int .i64)) (r:Int):=λ{w g} H=>by
  have h:=n.rd H (λy I=>Ca _ (Cc _ I)) (i:=0) (x:=(r:Int)) rfl;exact⟨h.1,h.2⟩
 have U:(L++Ls)[j]? =some (bg,mB br gs.length c):=Ao s;have V:(L++Ls)[m]? =some (br,flat eG gs++rest):=Ao p;refine⟨rfl,az.e8 0 H rfl rfl rfl λF H=>?_⟩;have H:aL D G w0 F ((bc,[aa o,aa q,aa t,.bool b,aa 0])::(L++Ls)):=H;refine⟨rfl,rfl,aj.cv (j+1) H U rfl ⟨⟨(N H).1,by decide,by show(0:Int)<(((cN gs eA gs.length).length:Nat):Int);rw[M];omega⟩,aj.of _ (N H).2 (aj.at 0 H rfl (show _=some (o,q,t,b,0,()) from rfl) ⟨⟨rfl,by omega,by show(r:Int)<((gs.length:Nat):Int);omega⟩,?_⟩)⟩⟩;refine az.flat (e:=eG) (m+1) H (o,q,t,b,0,()) V rfl rfl S λW H=>?_;have H:aL D G w0 W ((bc,[aa o,aa q,aa t,.bool b,aa 0])::((L++Ls).set m (br,flat eG (gs.set r (o,q,t,b,0,()))++rest))):=H;rw[Ft _ _ (B1.1 p).1] at H;have h:=n.rd H (λy I=>Ca _ (Cc _ I)) (i:=0) (x:=(r:Int)) rfl;refine⟨⟨h.1,by decide,by show(0:Int)<(((cN gs eA gs.length).length:Nat):Int);rw[M];omega⟩,aj.of _ h.2 (au.go H λX H=>k X (H.sub ((Dn _ Ls).trans (Ap _ _))))⟩
theorem Q4 (H:aL D G w0 w L) (j b:Nat) (B:L[j]? =some (bg,mB br gs.length c)) (q:L[b]? =some (br,flat eG gs++rest)) (h0:0<gs.length) (E:gs.length<=64) (T:j≠b) (g:Int) {K:Int->A2->Prop}
 (k: ∀n r,aL D G w0 r (L.set b (br,flat eG (cP gs g)++rest))->K n r):
 aA AB 169 (.el (.one (.int .i64))) [ag (af bg),aa g] w K:=by
 refine aA.go H λw1 H=>ai (C:=G3) (aQ:=uh) (AG (Ql _ g w1 K) ?_);refine aN.go H λbc r H=>K9 H (j+1) (b+1) B q h0 E (bc:=bc) (DQ) λsl Ls F s H=>?_;have H:aL D G w0 F ((bc,[aa g])::(L++Ls)):=H;have H:aL D G w0 F (L++Ls):=H.sub (Ap _ _);obtain⟨sp,U,sc⟩:=sl;have V:U=(cN gs (mE g) gs.length).length:=s.len;subst V;obtain⟨l,f⟩: ∃l,l=cN gs (mE g) gs.length:=⟨_,rfl⟩;have hll:l.length<=64:=by rw[f];exact Do (qi _ _ _) E
 have I: ∀z∈l, ∃i:Nat,i<gs.length/\mE g (gs.getD i zG)=true/\z=(i:Int):=λz J=>by rw[f] at J;exact qh.1 J
 have W: ∀i:Nat,i<gs.length->mE g (gs.getD i zG)=true->(i:Int)∈l:=λi h1 t=>by rw[f];exact qh.2 ⟨i,h1,t,rfl⟩
 rw[<-f] at s ⊢;clear f;have Y:=(B1.1 q).1;have M: ∀X:Nat×List AF,((L++Ls).set b X)=L.set b X++Ls:=λX=>Ft _ _ Y;refine⟨λn v w'=> ∃(m:Nat) (a:List GT),v.1=(m:Int)/\n+m=l.length/\a.length=gs.length/\(∀i:Nat,i<gs.length->a.getD i zG=if(i:Int)∈l.take m then zG else gs.getD i zG)/\aL D G w0 w' ((L++Ls).set b (br,flat eG a++rest)),⟨l.length,λZ h4=>⟨0,gs,rfl,rfl,rfl,λi hi=>by simp,by rw[Oh (Ao q)];exact H.ext h4⟩⟩,?_⟩;clear H;rintro n ⟨v,u⟩ Z ⟨m,a,e,hn,N,x,H⟩;dsimp only at e ⊢;subst e;refine ab (λA=>?_) (λA=>au.go H λO H=>k _ O ?_)
 ·have P:m<l.length:=by simpa using A
  have o:=Ae P;obtain⟨z,hze⟩: ∃z,z=l[m]:=⟨_,rfl⟩;rw[<-hze] at o;obtain⟨d,z1,z2,rfl⟩:=I z (Fx o);have kL:l.take (m+1)=l.take m++[(d:Int)]:=by rw[J1,o];rfl
  have Q:=s.rd H (λy hy=>by rw[M];exact Cc _ hy) o;have hmb:((L++Ls).set b (br,flat eG a++rest))[j]? =some (bg,mB br a.length c):=by
   rw[N,Cd (λe=>T e.symm)];exact Ao B
  have hwb:((L++Ls).set b (br,flat eG a++rest))[b]? =some (br,flat eG a++rest):=by
   rw[DE (by rw[Dw];omega)]
  refine⟨⟨Q.1,by omega,by omega⟩,aj.of _ Q.2 ⟨rfl,rfl,aj.cv j H hmb rfl ⟨⟨rfl,by omega,by show(d:Int)<((a.length:Nat):Int);omega⟩,?_⟩⟩⟩;refine az.flat (e:=eG) b H zG hwb rfl rfl (by omega:d<a.length) λO H=>λw6 R=>⟨n - 1,by omega,m+1,a.set d zG,by rw[ax (by omega) (by omega)];omega,by omega,by rw[Fw];exact N,λi hi=>?_,?_⟩
  ·rw[kL];by_cases S:i=d
   ·subst S;rw[av (by simp)];rw[Aq,DE (by omega)];rfl
   ·have:(a.set d zG).getD i zG=a.getD i zG:=by
     rw[Aq,Cd (λe=>S e.symm), <-Aq]
    rw[this,x i hi];by_cases p:(i:Int)∈l.take m
    ·rw[av p,av (Dl _ p)]
    ·rw[ao p,ao (λh=>?_)];rcases Im.1 h with h|h
     ·exact p h
     ·have:(i:Int)=d:=by simpa using h
      omega
  ·rw[Bx] at H;exact H.ext R
 ·have P: ¬ m<l.length:=by simpa using A
  rw[FS (by omega)] at x;have e:a=cP gs g:=FC λi=>by
   unfold cP;rw[J3];by_cases hi:i<gs.length
   ·have h1:=x i hi;have t:a[i]? =some (a.getD i zG):=by rw[Aq,Ae (by omega)];rfl
    have h3:gs[i]? =some (gs.getD i zG):=by rw[Aq,Ae hi];rfl
    rw[t,h3,h1];show _=some (if mE g (gs.getD i zG)=true then zG else gs.getD i zG);by_cases c:mE g (gs.getD i zG)=true
    ·rw[av c,av (W i hi c)]
    ·rw[ao c,ao (λh=>?_)];obtain⟨i', _,h5,R⟩:=I _ h;have:i'=i:=by omega
     subst this;exact c h5
   ·rw[J4 (by omega),J4 (by omega)];rfl
  subst e;rw[M] at H;exact H.sub (Dn _ _)
theorem UW (H:aL D G w0 w L) (n:Nat) (g:1<=n/\n<=64) {K:Option AC×Int×Unit->A2->Prop}
 (k: ∀bg br a,aL D G w0 a ((bg,mB br (B3 n zG).length n)::(br,flat eG (B3 n zG)++[])::L)->K (some ⟨bg,0,none⟩,0,()) a):
 aA AB 73 (.bu [.one .ptr,.one (.int .i64)]) [aa (n:Int)] w K:=by
 refine aA.go H λw1 H=>ai (C:=G3) (aQ:=λ_=>[]) (AG (UF _ w1 K) ?_);refine an (by rw[DA,decide_eq_false_iff_not,decide_eq_false_iff_not];omega) ?_;refine NJ.go H rfl (by omega) (Int.le_refl _) (by omega) (by omega) λb a H=>aN.go H λc h H=>au.go H λd H=>?_;have e:(B3 ((n:Nat):Int).toNat [aa 0,aa 0,aa 0,.bool false,aa 0]).flatten=flat eG (B3 n zG)++[]:=by
  rw[BX,Int.toNat_natCast,lH];rfl
 rw[e] at H;have f:(B3 n zG).length=n:=List.length_replicate;refine k c b d ?_;rw[f];exact H
end
end Go.Proofs.YtlcenllcmeebhaaGreat
namespace Go.Proofs.YtlcenllcmeebhaaGreat.Po
set_option maxRecDepth 100000
open Go.RX
def gp (ps:List PT) (g i:Int):PT:=ps.getD (ix g i) zP
def dK (room:Int) (ps:List PT) (g:Int) (x:PT):(Int×Int)×List PT:=if cx room ps g= -1 then((0,3),ps) else((cx room ps g,0),ps.set (ix g (cx room ps g)) x)
def iW (room:Int) (ps:List PT) (g r:Int):(Int×Int)×List PT:=if qB g r=0 then dK room ps g (1,r,0,false,false,()) else((0,qB g r),ps)
def ia (room:Int) (ps:List PT) (g r i:Int):(Int×Int)×List PT:=
 if qB g r=0 then
  match oG room ps r i with
  |none=>((0,4),ps)
  |some k=>
   if(ps.getD k zP).1=2 then((0,6),ps) else if(ps.getD k zP).2.1≠g then((0,7),ps) else
    if cx room ps g= -1 then((0,3),ps) else
     ((cx room ps g,0),(ps.set (ix g (cx room ps g)) (2,r,i,false,false,())).set k (2,(ps.getD k zP).2.1,cx room ps g,(ps.getD k zP).2.2.2))
 else((0,qB g r),ps)
def ll (room:Int) (ps:List PT) (g i:Int):Int×List PT:=
 match oG room ps g i with
 |none=>(4,ps)
 |some k=>if(ps.getD k zP).1=2 then
   let y:=gp ps (ps.getD k zP).2.1 (ps.getD k zP).2.2.1
   (0,ps.set (ix (ps.getD k zP).2.1 (ps.getD k zP).2.2.1) (y.1,y.2.1,y.2.2.1,true,y.2.2.2.2))
  else(6,ps)
def tr (ps:List PT) (g:Int) (i:Nat):Bool:=gI g&&((gp ps g i).2.2.2.1&& !(gp ps g i).2.2.2.2.1)
def oU (room:Int) (ps:List PT) (g:Int):List Int:=((DN room.toNat).filter (tr ps g)).map λi=>((i:Nat):Int)
def gM (room:Int) (ps:List PT) (g:Int):(Int×Bool)×List PT:=
 match oU room ps g with
 |[]=>((0,false),ps)
 |i:: _=>((i,true),ps.set (ix g i) ((gp ps g i).1,(gp ps g i).2.1,(gp ps g i).2.2.1,false,(gp ps g i).2.2.2.2))
def eR (room:Int) (ps:List PT) (g i:Int):Int×List PT:=
 match oG room ps g i with
 |none=>(4,ps)
 |some k=>if(ps.getD k zP).1=2 then
   let y:=gp ps (ps.getD k zP).2.1 (ps.getD k zP).2.2.1
   (0,(ps.set (ix (ps.getD k zP).2.1 (ps.getD k zP).2.2.1) (1,y.2.1,0,y.2.2.2)).set k zP)
  else(0,ps.set k zP)
def ib (room:Int) (ps:List PT) (g:Int):Nat->Int×List PT
 |0=>(0,ps)
 |i+1=>((ib room ps g i).1+(if(eR room (ib room ps g i).2 g i).1=0 then 1 else 0),(eR room (ib room ps g i).2 g i).2)
def oV (room g:Int) (s:Int×List PT) (k i:Int):Int×List PT:=
 match oG room s.2 k i with
 |none=>s
 |some x=>if(s.2.getD x zP).2.1=g then(s.1+1,s.2.set x zP) else s
def mH (room g:Int) (s:Int×List PT) (k:Int):Nat->Int×List PT
 |0=>s
 |i+1=>oV room g (mH room g s k i) k i
def jU (room g:Int) (s:Int×List PT):Nat->Int×List PT
 |0=>s
 |k+1=>mH room g (jU room g s k) ((k:Int)+1) room.toNat
def cH (room:Int) (ps:List PT) (g:Int):Int×List PT:=if gI g then jU room g (ib room ps g room.toNat) 16 else(0,ps)
structure lJ (room:Int) (ps:List PT):Prop extends okS room ps where
 inv: ∀g i,sK room g i=true->gp ps g i=zP\/((gp ps g i).1=1/\(1<=(gp ps g i).2.1/\(gp ps g i).2.1<=16)/\(gp ps g i).2.1≠g/\(gp ps g i).2.2.1=0)\/
  ((gp ps g i).1=2/\(gp ps g i).2.1≠g/\sK room (gp ps g i).2.1 (gp ps g i).2.2.1=true/\(gp ps (gp ps g i).2.1 (gp ps g i).2.2.1).1=2/\(gp ps (gp ps g i).2.1 (gp ps g i).2.2.1).2.1=g/\(gp ps (gp ps g i).2.1 (gp ps g i).2.2.1).2.2.1=i)
theorem AA {ps:List PT} {k:Nat} (h:k<ps.length) (x:PT):(ps.set k x).getD k zP=x:=by simp[Aq,h]
theorem pN {ps:List PT} {k j:Nat} (h:k≠j) (x:PT):(ps.set k x).getD j zP=ps.getD j zP:=by simp[Aq,Cd h]
theorem i_ {room:Int} {ps:List PT} (b:okS room ps) {g i g' a:Int} (h:sK room g i=true) (h':sK room g' a=true) (x:PT):gp (ps.set (ix g i) x) g' a=if g'=g/\a=i then x else gp ps g' a:=by
 unfold gp;by_cases e:g'=g/\a=i
 ·rw[av e,e.1,e.2];exact AA (by rw[b.len];exact oT h b.hi) x
 ·rw[ao e];exact pN (λc=>e (by have:=Pa h h' b.hi c;exact⟨this.1.symm,this.2.symm⟩)) x
theorem u9 {room:Int} {ps:List PT} {g i:Int} (h:sK room g i=true):oG room ps g i=if gp ps g i=zP then none else some (ix g i):=by
 unfold oG gp;by_cases e:ps.getD (ix g i) zP=zP
 ·rw[ao (λc=>c.2 e),av e]
 ·rw[av ⟨h,e⟩,ao e]
theorem pX {g r:Int}:qB g r=0<->gI g=true/\gI r=true/\g≠r:=by
 unfold qB;cases gI g<;>cases gI r<;>by_cases e:g=r<;>simp[e]
section
variable {D G:List Nat} {w0 w:A2} {L:List (Nat×List AF)} {bp:Nat} {room:Int} {ps:List PT}
theorem FP (H:aL D G w0 w L) (j:Nat) (a:L[j]? =some (bp,gy room ps)) (b:okS room ps) (g i:Int) {r:Option Nat} (c:oG room ps g i=r):ae AB 213 [ag (af bp),aa g,aa i] w (ag (r.map λk=>⟨bp,k*5,none⟩)):=by
 subst c;exact ae.of (s:= .el (.one .ptr)) λw' h'=>DK ((H.get a).ext h') b g i
theorem W_ (H:aL D G w0 w L) (j:Nat) (a:L[j]? =some (bp,gy room ps)) (b:okS room ps) (g i:Int):ae AB 229 [ag (af bp),aa g,aa i] w (aa (qB g i)):=
 ae.of (s:= .el (.one (.int .i64))) λw' h'=>Zt ((H.get a).ext h') b g i
theorem Pb (H:aL D G w0 w L) (j:Nat) (a:L[j]? =some (bp,gy room ps)) (b:okS room ps):ae AB 231 [ag (af bp)] w (aa 4):=
 ae.of (s:= .el (.one (.int .i64))) λw' h'=>UU ((H.get a).ext h') b
theorem UX (H:aL D G w0 w L) (j:Nat) (a:L[j]? =some (bp,gy room ps)) (b:okS room ps):ae AB 211 [ag (af bp)] w (.bool true):=
 ae.of (s:= .el (.one .bool)) λw' h'=>pA ((H.get a).ext h') b
theorem jf {j:Nat} {x y:Nat×List AF} (h:L[j]? =some x):(L.set j y)[j]? =some y:=by rw[DE (B1.1 h).1]
theorem Pc (H:aL D G w0 w L) (j:Nat) (i:L[j]? =some (bp,gy room ps)) (l:okS room ps) (g:Int) (v:gI g=true) (x:PT) {K:Int×Int×Unit->A2->Prop}
 (k: ∀n,aL D G w0 n (L.set j (bp,gy room (dK room ps g x).2))->K ((dK room ps g x).1.1,(dK room ps g x).1.2,()) n):
 aA AB 230 (.bu [.one (.int .i64),.one (.int .i64)]) [ag (af bp),aa g,.agg ⟨a7 sQ x⟩] w K:=by
 obtain⟨x1,a,d,f,h,o⟩:=x;refine aA.go H λw1 H=>ai (C:=R1) (aQ:=λ_=>[]) (AG (Zr _ g x1 a d f h w1 K) ?_);have y:=l.hi;refine aN.go H λb n H=>?_;have r:((b,a7 sQ (x1,a,d,f,h,()))::L)[j+1]? =some (bp,gy room ps):=i;refine⟨cx room ps g,ae.of (s:= .el (.one (.int .i64))) λw' h'=>Q1 ((H.get r).ext h') l g,ab (λc=>?_) (λc=>?_)⟩
 ·have e:cx room ps g= -1:=by simpa using c
  have p:dK room ps g (x1,a,d,f,h,o)=((0,3),ps):=av e;rw[p] at k;refine au.go H λq H=>k q ?_;have z:L.set j (bp,gy room ps)=L:=FC λm=>by
   by_cases t:j=m
   ·subst t;rw[jf i,i]
   ·rw[Cd t]
  show aL D G w0 q (L.set j (bp,gy room ps));rw[z];exact H.sub (Ap _ _)
 ·have e:cx room ps g≠ -1:=by simpa using c
  have p:dK room ps g (x1,a,d,f,h,o)=((cx room ps g,0),ps.set (ix g (cx room ps g)) (x1,a,d,f,h,o)):=ao e;rw[p] at k;have u:=(mT v e).1;have I:=dW.1 u;have A:=oT u y;have es:aY .i64 g 1=g - 1:=bD (by omega) (by omega);rw[es];have B:ad (ad (ad (af bp) 0) ((g - 1).toNat*160)) ((cx room ps g).toNat*5)=ad (af bp) (ix g (cx room ps g)*aD eQ):=by
   rw[aW,aW,aW,aW];unfold ix;congr 2;show _=0+ _*5;omega
  have E:ad (ad (af bp) 0) ((g - 1).toNat*160)=some ⟨bp,0+0+(g - 1).toNat*160,none⟩:=by rw[aW,aW]
  rw[B,E];refine aj.at 0 H rfl (x:=(x1,a,d,f,h,())) rfl ⟨rfl,rfl,⟨rfl,by omega,by omega⟩,⟨rfl,by omega,by omega⟩,?_⟩;refine az.flat (j+1) H (x1,a,d,f,h,()) r rfl rfl (by rw[l.len];exact A) λq H=>au.go H λF H=>k F ?_;exact H.sub (Ap _ _)
theorem lA {j:Nat} {x:Nat×List AF} (h:L[j]? =some x):L.set j x=L:=FC λm=>by
 by_cases a:j=m
 ·subst a;rw[jf h,h]
 ·rw[Cd a]
theorem Q5 (H:aL D G w0 w L) (j:Nat) (a:L[j]? =some (bp,gy room ps)) (h:okS room ps) (g r:Int) {K:Int×Int×Unit->A2->Prop}
 (k: ∀b,aL D G w0 b (L.set j (bp,gy room (iW room ps g r).2))->K ((iW room ps g r).1.1,(iW room ps g r).1.2,()) b):
 aA AB 185 (.bu [.one (.int .i64),.one (.int .i64)]) [ag (af bp),aa g,aa r] w K:=by
 refine aA.go H λw1 H=>ai (C:=R1) (aQ:=λ_=>[]) (AG (QV _ g r w1 K) ?_);refine⟨_,W_ H j a h g r,ab (λc=>?_) (λc=>?_)⟩
 ·have e: ¬ qB g r=0:=by simpa using c
  have d:iW room ps g r=((0,qB g r),ps):=ao e;rw[d] at k;refine au.go H λf H=>k f ?_;rw[lA a];exact H
 ·have e:qB g r=0:=by simpa using c
  have d:iW room ps g r=dK room ps g (1,r,0,false,false,()):=av e;rw[d] at k;exact Pc H j a h g (pX.1 e).1 (1,r,0,false,false,()) λb H=>au.go H λf H=>k f H
theorem Q6 (H:aL D G w0 w L) (j:Nat) (a:L[j]? =some (bp,gy room ps)) (b:okS room ps) (g r i:Int) {K:Int×Int×Unit->A2->Prop}
 (k: ∀l,aL D G w0 l (L.set j (bp,gy room (ia room ps g r i).2))->K ((ia room ps g r i).1.1,(ia room ps g r i).1.2,()) l):
 aA AB 186 (.bu [.one (.int .i64),.one (.int .i64)]) [ag (af bp),aa g,aa r,aa i] w K:=by
 refine aA.go H λw1 H=>ai (C:=R1) (aQ:=λ_=>[]) (AG (QW _ g r i w1 K) ?_);have f: ∀v:Int×Int,ia room ps g r i=(v,ps)->au w1 λw1=>K (v.1,v.2,()) w1:=λv e=>by
  rw[e] at k;refine au.go H λh H=>k h ?_;rw[lA a];exact H
 refine⟨_,W_ H j a b g r,ab (λc=>?_) (λc=>?_)⟩
 ·have e: ¬ qB g r=0:=by simpa using c
  exact f (0,qB g r) (ao e)
 have e:qB g r=0:=by simpa using c
 obtain⟨q,I,B⟩:=pX.1 e;have hb:ia room ps g r i= _:=av e;refine⟨_,FP H j a b r i rfl,?_⟩;cases m:oG room ps r i with
 |none=>
  rw[m] at hb;exact aB rfl (f (0,4) hb)
 |some kk=>
  rw[m] at hb;obtain⟨s,t,J⟩:=fG m;have n:kk<512:=by rw[t];exact oT s b.hi
  have u:=b.get n;refine an rfl ⟨rfl,rfl,aj.cv j H a (ru u (by decide) rfl) (ab (λc1=>?_) (λc1=>?_))⟩
  ·exact f (0,6) (hb.trans (av (by simpa using c1)))
  refine⟨rfl,rfl,aj.cv j H a (ru u (by decide) rfl) (ab (λc2=>?_) (λc2=>?_))⟩
  ·exact f (0,7) (hb.trans ((ao (by simpa using c1)).trans (av (by simpa using c2))))
  have y:=hb.trans ((ao (by simpa using c1)).trans (ao (by simpa using c2)));refine Pc H j a b g q (2,r,i,false,false,()) λl H=>?_;by_cases d:cx room ps g= -1
  ·have o:dK room ps g (2,r,i,false,false,())=((0,3),ps):=av d;rw[o] at H ⊢;have p:ia room ps g r i=((0,3),ps):=y.trans (av d);rw[p] at k;exact an rfl (au.go H λh H=>k h H)
  ·have o:dK room ps g (2,r,i,false,false,())=((cx room ps g,0),ps.set (ix g (cx room ps g)) (2,r,i,false,false,())):=ao d;rw[o] at H ⊢;have E:ix g (cx room ps g)≠kk:=λz=>by
    rw[t] at z;exact B (Pa (mT q d).1 s b.hi z).1
   have p:ia room ps g r i=((cx room ps g,0), _):=y.trans (ao d);rw[p] at k;have A:=(b.set (ix g (cx room ps g)) (2,r,i,false,false,())).get n;rw[pN E] at A;refine aB rfl ⟨rfl,rfl,?_⟩;refine az.ru j H (2,(ps.getD kk zP).2.1,(ps.getD kk zP).2.2.1,(ps.getD kk zP).2.2.2.1,(ps.getD kk zP).2.2.2.2.1,()) (jf a) A (by decide) rfl rfl λh H=>⟨rfl,rfl,?_⟩;rw[Bx] at H;refine az.ru j H (x:=(2,(ps.getD kk zP).2.1,(ps.getD kk zP).2.2.1,(ps.getD kk zP).2.2.2.1,(ps.getD kk zP).2.2.2.2.1,())) (2,(ps.getD kk zP).2.1,cx room ps g,(ps.getD kk zP).2.2.2.1,(ps.getD kk zP).2.2.2.2.1,()) (jf a) (by rw[DE (by rw[Fw,b.len];exact n)]) (by decide) rfl rfl λM H=>au.go H λF H=>k F ?_;rw[Bx,Bx] at H;exact H
end
theorem lJ.nz {room:Int} {ps:List PT} (f:lJ room ps) {g i:Int} {k:Nat} (h:oG room ps g i=some k) (a:(ps.getD k zP).1=2):
 (ps.getD k zP).2.1≠g/\sK room (ps.getD k zP).2.1 (ps.getD k zP).2.2.1=true/\oG room ps (ps.getD k zP).2.1 (ps.getD k zP).2.2.1=some (ix (ps.getD k zP).2.1 (ps.getD k zP).2.2.1):=by
 obtain⟨j,l,b⟩:=fG h;subst l;have m:ps.getD (ix g i) zP=gp ps g i:=rfl;rw[m] at a b ⊢;rcases f.inv g i j with e|e|⟨_,n,c,d,p⟩
 ·exact absurd e b
 ·rw[e.1] at a;exact absurd a (by decide)
 ·refine⟨n,c,?_⟩;rw[u9 c,ao];intro o;rw[o] at d;exact absurd d (by decide)
theorem zy {room:Int} {ps:List PT} {g i:Int} {k:Nat} (a:oG room ps g i=some k):ll room ps g i=if(ps.getD k zP).1=2 then(0,ps.set (ix (ps.getD k zP).2.1 (ps.getD k zP).2.2.1) ((gp ps (ps.getD k zP).2.1 (ps.getD k zP).2.2.1).1,(gp ps (ps.getD k zP).2.1 (ps.getD k zP).2.2.1).2.1,(gp ps (ps.getD k zP).2.1 (ps.getD k zP).2.2.1).2.2.1,true,(gp ps (ps.getD k zP).2.1 (ps.getD k zP).2.2.1).2.2.2.2)) else(6,ps):=by
 unfold ll;rw[a]
theorem pH {room:Int} {ps:List PT} {g i:Int} {k:Nat} (a:oG room ps g i=some k):eR room ps g i=if(ps.getD k zP).1=2 then(0,(ps.set (ix (ps.getD k zP).2.1 (ps.getD k zP).2.2.1) (1,(gp ps (ps.getD k zP).2.1 (ps.getD k zP).2.2.1).2.1,0,(gp ps (ps.getD k zP).2.1 (ps.getD k zP).2.2.1).2.2.2)).set k zP) else(0,ps.set k zP):=by
 unfold eR;rw[a]
theorem He {room:Int} {ps:List PT} {g i:Int} (a:oG room ps g i=none):ll room ps g i=(4,ps):=by unfold ll;rw[a]
theorem v9 {room:Int} {ps:List PT} {g i:Int} (a:oG room ps g i=none):eR room ps g i=(4,ps):=by unfold eR;rw[a]
section
variable {D G:List Nat} {w0 w:A2} {L:List (Nat×List AF)} {bp:Nat} {room:Int} {ps:List PT}
theorem Q7 (H:aL D G w0 w L) (j:Nat) (a:L[j]? =some (bp,gy room ps)) (f:lJ room ps) (g i:Int) {K:Int->A2->Prop}
 (k: ∀h,aL D G w0 h (L.set j (bp,gy room (ll room ps g i).2))->K (ll room ps g i).1 h):
 aA AB 187 (.el (.one (.int .i64))) [ag (af bp),aa g,aa i] w K:=by
 refine aA.go H λw1 H=>ai (C:=R1) (aQ:=λ_=>[]) (AG (QX _ g i w1 K) ?_);have b:=f.tookS;have l: ∀v:Int,ll room ps g i=(v,ps)->au w1 λw1=>K v w1:=λv e=>by
  rw[e] at k;refine au.go H λm H=>k m ?_;rw[lA a];exact H
 refine⟨_,FP H j a b g i rfl,?_⟩;cases c:oG room ps g i with
 |none=>exact aB rfl ⟨4,Pb H j a b,l 4 (by unfold ll;rw[c])⟩
 |some kk=>
  obtain⟨o,p,y⟩:=fG c;have q:kk<512:=by rw[p];exact oT o b.hi
  have d:=b.get q;have hb:=zy c;refine an rfl ⟨rfl,rfl,aj.cv j H a (ru d (by decide) rfl) (ab (λc1=>?_) (λc1=>?_))⟩
  ·exact l 6 (hb.trans (ao (by simpa using c1)))
  have n:(ps.getD kk zP).1=2:=by simpa using c1
  rw[hb,av n] at k;obtain⟨z,r,s⟩:=f.nz c n;have t:=oT r b.hi;have u:=b.get t;refine⟨rfl,rfl,aj.cv j H a (ru d (by decide) rfl) ⟨rfl,rfl,aj.cv j H a (ru d (by decide) rfl) ⟨_,FP H j a b _ _ s,rfl,rfl,?_⟩⟩⟩;exact az.ru j H (_, _, _,true, _,()) a u (by decide) rfl rfl λm H=>au.go H λx H=>k x H
theorem az.port (j:Nat) (H:aL D G w0 w L) (a:L[j]? =some (bp,gy room ps)) {k:Nat} (b:k<ps.length) (y:PT) {vs:List AF} (hv:vs=a7 sQ y) {K:A2->Prop}
 (c: ∀w1,aL D G w0 w1 (L.set j (bp,gy room (ps.set k y)))->K w1):az w (some ⟨bp,k*5,none⟩) vs K:=by
 have:=az.flat j H (e:=eQ) (rest:=[aa room]) (i:=k) y a hv rfl b c;rw[aW,B4] at this;exact this
theorem Be (H:aL D G w0 w L) (j:Nat) (a:L[j]? =some (bp,gy room ps)) (m:lJ room ps) (g i:Int) {K:Int->A2->Prop}
 (k: ∀n,aL D G w0 n (L.set j (bp,gy room (eR room ps g i).2))->K (eR room ps g i).1 n):
 aA AB 189 (.el (.one (.int .i64))) [ag (af bp),aa g,aa i] w K:=by
 refine aA.go H λw1 H=>ai (C:=R1) (aQ:=λ_=>[]) (AG (KY _ g i w1 K) ?_);have b:=m.tookS;refine⟨_,FP H j a b g i rfl,?_⟩;cases c:oG room ps g i with
 |none=>
  have e:eR room ps g i=(4,ps):=by unfold eR;rw[c]
  rw[e] at k;refine aB rfl ⟨4,Pb H j a b,au.go H λo H=>k o ?_⟩;rw[lA a];exact H
 |some kk=>
  obtain⟨s,t,A⟩:=fG c;have d:kk<512:=by rw[t];exact oT s b.hi
  have f:=b.get d;have hb:=pH c;refine an rfl ⟨rfl,rfl,aj.cv j H a (ru f (by decide) rfl) (ab (λc1=>?_) (λc1=>?_))⟩
  ·have p:(ps.getD kk zP).1=2:=by simpa using c1
   rw[hb,av p] at k;obtain⟨B,u,v⟩:=m.nz c p;have h:=oT u b.hi;have q:=b.get h;refine⟨rfl,rfl,aj.cv j H a (ru f (by decide) rfl) ⟨rfl,rfl,aj.cv j H a (ru f (by decide) rfl) ⟨_,FP H j a b _ _ v,rfl,rfl,?_⟩⟩⟩;obtain⟨y,r⟩: ∃y,y=gp ps (ps.getD kk zP).2.1 (ps.getD kk zP).2.2.1:=⟨_,rfl⟩;rw[<-r] at k;have q:ps[ix (ps.getD kk zP).2.1 (ps.getD kk zP).2.2.1]? =some y:=by rw[r];exact b.get h
   refine az.ru j H (1,y.2.1,y.2.2.1,y.2.2.2.1,y.2.2.2.2.1,()) a q (by decide) rfl rfl λo H=>⟨rfl,rfl,?_⟩;refine az.ru j H (x:=(1,y.2.1,y.2.2.1,y.2.2.2.1,y.2.2.2.2.1,())) (1,y.2.1,0,y.2.2.2.1,y.2.2.2.2.1,()) (jf a) (by rw[DE (by rw[b.len];exact h)]) (by decide) rfl rfl λE H=>⟨rfl,?_⟩;rw[Bx,Bx] at H;refine az.port j H (jf a) (by rw[Fw,b.len];exact d) zP rfl λz H=>au.go H λl H=>k l ?_;rw[Bx] at H;exact H
  ·rw[hb,ao (by simpa using c1)] at k;exact⟨rfl,az.port j H a (by rw[b.len];exact d) zP rfl λz H=>au.go H λl H=>k l H⟩
end
section
variable {room:Int} {ps:List PT}
theorem lJ.YE (b:lJ room ps) {g i:Int} (h:sK room g i=true) (l:(gp ps g i).1≠2) {y:PT} (d:y=zP\/(y.1=1/\(1<=y.2.1/\y.2.1<=16)/\y.2.1≠g/\y.2.2.1=0)):lJ room (ps.set (ix g i) y) where
 tookS:=b.tookS.set _ _
 inv g' a h':=by
  by_cases e:g'=g/\a=i
  ·have f:gp (ps.set (ix g i) y) g' a=y:=(i_ b.tookS h h' y).trans (av e);rw[f,e.1];rcases d with d|d
   ·exact .inl d
   ·exact .inr (.inl d)
  ·have f:gp (ps.set (ix g i) y) g' a=gp ps g' a:=(i_ b.tookS h h' y).trans (ao e);rw[f];rcases b.inv g' a h' with z|z|⟨m,n,k,j,o,p⟩
   ·exact .inl z
   ·exact .inr (.inl z)
   ·have q: ¬ ((gp ps g' a).2.1=g/\(gp ps g' a).2.2.1=i):=λc=>by rw[c.1,c.2] at j;exact l j
    have r:gp (ps.set (ix g i) y) (gp ps g' a).2.1 (gp ps g' a).2.2.1=gp ps (gp ps g' a).2.1 (gp ps g' a).2.2.1:=(i_ b.tookS h k y).trans (ao q);rw[r];exact .inr (.inr ⟨m,n,k,j,o,p⟩)
theorem lJ.s9 (c:lJ room ps) {g i:Int} (h:sK room g i=true) (k:gp ps g i≠zP) {y:PT} (h1:y.1=(gp ps g i).1) (l:y.2.1=(gp ps g i).2.1) (m:y.2.2.1=(gp ps g i).2.2.1):lJ room (ps.set (ix g i) y) where
 tookS:=c.tookS.set _ _
 inv g' d h':=by
  have key: ∀a b,sK room a b=true->(gp (ps.set (ix g i) y) a b).1=(gp ps a b).1/\(gp (ps.set (ix g i) y) a b).2.1=(gp ps a b).2.1/\(gp (ps.set (ix g i) y) a b).2.2.1=(gp ps a b).2.2.1:=λa b f=>by
   by_cases e:a=g/\b=i
   ·rw[(i_ c.tookS h f y).trans (av e),e.1,e.2];exact⟨h1,l,m⟩
   ·rw[(i_ c.tookS h f y).trans (ao e)];exact⟨rfl,rfl,rfl⟩
  obtain⟨n,o,p⟩:=key g' d h';rw[n,o,p];rcases c.inv g' d h' with z|z|⟨q,r,j,s,t,u⟩
  ·refine .inl ?_;by_cases e:g'=g/\d=i
   ·rw[e.1,e.2] at z;exact absurd z k
   ·rw[(i_ c.tookS h h' y).trans (ao e)];exact z
  ·exact .inr (.inl z)
  ·obtain⟨v,w,x⟩:=key _ _ j;rw[v,w,x];exact .inr (.inr ⟨q,r,j,s,t,u⟩)
theorem lJ.dK (b:lJ room ps) {g:Int} (c:gI g=true) {y:PT} (d:y.1=1/\(1<=y.2.1/\y.2.1<=16)/\y.2.1≠g/\y.2.2.1=0):lJ room (dK room ps g y).2:=by
 unfold Go.Proofs.YtlcenllcmeebhaaGreat.Po.dK;split
 ·exact b
 ·rename_i f;obtain⟨h1,a⟩:=mT c f;rw[u9 h1] at a;have h:gp ps g (cx room ps g)=zP:=by
   by_cases e:gp ps g (cx room ps g)=zP
   ·exact e
   ·rw[ao e] at a;cases a
  exact b.YE h1 (by rw[h];decide) (.inr d)
theorem lJ.iW (a:lJ room ps) (g r:Int):lJ room (iW room ps g r).2:=by
 unfold Go.Proofs.YtlcenllcmeebhaaGreat.Po.iW;split
 ·rename_i e;obtain⟨h1,b,c⟩:=pX.1 e;exact a.dK h1 ⟨rfl,mr.1 b,λe=>c e.symm,rfl⟩
 ·exact a
theorem lJ.ia (f:lJ room ps) (g r i:Int):lJ room (ia room ps g r i).2:=by
 unfold Go.Proofs.YtlcenllcmeebhaaGreat.Po.ia;split
 ·rename_i e;obtain⟨h1,G,n⟩:=pX.1 e;split
  ·exact f
  ·rename_i k y;split
   ·exact f
   ·split
    ·exact f
    ·split
     ·exact f
     ·rename_i t h A;obtain⟨l,o⟩:=mT h1 A;rw[u9 l] at o;have u:gp ps g (cx room ps g)=zP:=by
       by_cases e:gp ps g (cx room ps g)=zP
       ·exact e
       ·rw[ao e] at o;cases o
      obtain⟨p1,p2,p3⟩:=fG y;subst p2;have B:ps.getD (ix r i) zP=gp ps r i:=rfl;rw[B] at t h p3 ⊢;have h:(gp ps r i).2.1=g:=Classical.byContradiction h;generalize cx room ps g=j at l u;have p:=f.tookS;have key: ∀a b,sK room a b=true->gp ((ps.set (ix g j) (2,r,i,false,false,())).set (ix r i) (2,(gp ps r i).2.1,j,(gp ps r i).2.2.2)) a b=if a=r/\b=i then(2,(gp ps r i).2.1,j,(gp ps r i).2.2.2) else if a=g/\b=j then(2,r,i,false,false,()) else gp ps a b:=λa b v=>by
       rw[i_ (p.set _ _) p1 v,i_ p l v]
      show lJ room ((ps.set (ix g j) (2,r,i,false,false,())).set (ix r i) (2,(gp ps r i).2.1,j,(gp ps r i).2.2.2));have w:=(p.set (ix g j) (2,r,i,false,false,())).set (ix r i) (2,(gp ps r i).2.1,j,(gp ps r i).2.2.2);generalize (ps.set (ix g j) (2,r,i,false,false,())).set (ix r i) (2,(gp ps r i).2.1,j,(gp ps r i).2.2.2)=X at key w ⊢;refine⟨w,λg' d h'=>?_⟩;rw[key g' d h'];by_cases q:g'=r/\d=i
      ·rw[av q];obtain⟨rfl,rfl⟩:=q;refine .inr (.inr ⟨rfl,by rw[h];exact n,by rw[h];exact l,?_⟩);show(gp _ (gp ps g' d).2.1 j).1=2/\(gp _ (gp ps g' d).2.1 j).2.1=g'/\(gp _ (gp ps g' d).2.1 j).2.2.1=d;rw[h,key g j l,ao (λc=>n c.1),av ⟨rfl,rfl⟩];exact⟨rfl,rfl,rfl⟩
      ·rw[ao q];by_cases s:g'=g/\d=j
       ·rw[av s];obtain⟨rfl,rfl⟩:=s;refine .inr (.inr ⟨rfl,λc=>n c.symm,p1,?_⟩);show(gp _ r i).1=2/\(gp _ r i).2.1=g'/\(gp _ r i).2.2.1=d;rw[key r i p1,av ⟨rfl,rfl⟩];exact⟨rfl,h,rfl⟩
       ·rw[ao s];rcases f.inv g' d h' with z|z|⟨C,D,x,m,E,F⟩
        ·exact .inl z
        ·exact .inr (.inl z)
        ·rw[key _ _ x,ao,ao]
         ·exact .inr (.inr ⟨C,D,x,m,E,F⟩)
         ·intro c;rw[c.1,c.2,u] at m;exact absurd m (by decide)
         ·intro c;rw[c.1,c.2] at m;exact t m
 ·exact f
theorem lJ.ll (a:lJ room ps) (g i:Int):lJ room (ll room ps g i).2:=by
 cases b:oG room ps g i with
 |none=>rw[He b];exact a
 |some k=>
  rw[zy b];split
  ·rename_i c;obtain⟨_,d,e⟩:=a.nz b c;obtain⟨_, _,f⟩:=fG e;exact a.s9 d f rfl rfl rfl
  ·exact a
theorem tH {g x:Int} (h:x∈oU room ps g):sK room g x=true/\(gp ps g x).2.2.2.1=true/\(gp ps g x).2.2.2.2.1=false:=by
 unfold oU at h;rw[DH] at h;obtain⟨j,b,rfl⟩:=h;rw[In] at b;have:=F4.1 b.1;have a:=b.2;unfold tr at a;simp only[DB,FQ] at a;exact⟨dW.2 ⟨mr.1 a.1,by omega,by omega⟩,a.2.1,a.2.2⟩
theorem I6 {g x:Int} (h:x∈oU room ps g):gp ps g x≠zP:=λe=>by
 have:=(tH h).2.1;rw[e] at this;cases this
theorem lJ.gM (a:lJ room ps) (g:Int):lJ room (gM room ps g).2:=by
 unfold Go.Proofs.YtlcenllcmeebhaaGreat.Po.gM;cases c:oU room ps g with
 |nil=>exact a
 |cons x l=>
  have b:x∈oU room ps g:=by rw[c];exact DQ
  exact a.s9 (tH b).1 (I6 b) rfl rfl rfl
theorem lJ.eR (d:lJ room ps) (g i:Int):lJ room (eR room ps g i).2:=by
 cases l:oG room ps g i with
 |none=>rw[v9 l];exact d
 |some k=>
  rw[pH l];obtain⟨p1,p2,p3⟩:=fG l;have p:=d.tookS;split
  ·rename_i e;obtain⟨q,m, _⟩:=d.nz l e;subst p2;have y:ps.getD (ix g i) zP=gp ps g i:=rfl;rw[y] at e q m p3 ⊢;have hi:=d.inv g i p1;rcases hi with z|z|⟨_, _, _,c4,c5,c6⟩
   ·exact absurd z p3
   ·rw[z.1] at e;exact absurd e (by decide)
   obtain⟨r,t⟩: ∃r,r=(gp ps g i).2.1:=⟨_,rfl⟩;obtain⟨j,u⟩: ∃j,j=(gp ps g i).2.2.1:=⟨_,rfl⟩;rw[<-t] at q c4 c5 c6 m ⊢;rw[<-u] at c4 c5 c6 m ⊢;have key: ∀a b,sK room a b=true->gp ((ps.set (ix r j) (1,(gp ps r j).2.1,0,(gp ps r j).2.2.2)).set (ix g i) zP) a b=if a=g/\b=i then zP else if a=r/\b=j then(1,(gp ps r j).2.1,0,(gp ps r j).2.2.2) else gp ps a b:=λa b v=>by
    rw[i_ (p.set _ _) p1 v,i_ p m v]
   show lJ room ((ps.set (ix r j) (1,(gp ps r j).2.1,0,(gp ps r j).2.2.2)).set (ix g i) zP);have w:=(p.set (ix r j) (1,(gp ps r j).2.1,0,(gp ps r j).2.2.2)).set (ix g i) zP;generalize (ps.set (ix r j) (1,(gp ps r j).2.1,0,(gp ps r j).2.2.2)).set (ix g i) zP=X at key w ⊢;refine⟨w,λg' n h'=>?_⟩;rw[key g' n h'];by_cases s:g'=g/\n=i
   ·rw[av s];exact .inl rfl
   ·rw[ao s];by_cases o:g'=r/\n=j
    ·rw[av o];refine .inr (.inl ⟨rfl,?_,?_,rfl⟩)
     ·show 1<=(gp ps r j).2.1/\(gp ps r j).2.1<=16;rw[c5];exact(dW.1 p1).1
     ·show(gp ps r j).2.1≠g';rw[c5,o.1];exact λc=>q c.symm
    ·rw[ao o];rcases d.inv g' n h' with z|z|⟨A,B,x,C,f,h⟩
     ·exact .inl z
     ·exact .inr (.inl z)
     ·rw[key _ _ x,ao,ao]
      ·exact .inr (.inr ⟨A,B,x,C,f,h⟩)
      ·intro c;rw[c.1,c.2] at f h;exact s ⟨by rw[<-f,c5],by rw[<-h,c6]⟩
      ·intro c;rw[c.1,c.2] at f h;exact o ⟨by rw[<-f, <-t],by rw[<-h, <-u]⟩
  ·rename_i e;subst p2;exact d.YE p1 e (.inl rfl)
end
section
variable {D G:List Nat} {w0 w:A2} {L:List (Nat×List AF)} {bp:Nat} {room:Int} {ps:List PT}
def AP (ps:List PT) (g:Int) (i:Nat):List Int:=((DN i).filter (tr ps g)).map λi=>((i:Nat):Int)
theorem Hf (g:Int) (i:Nat):AP ps g (i+1)=AP ps g i++(if tr ps g i then[((i:Nat):Int)] else[]):=by
 unfold AP;rw[GI,GJ,FU];by_cases h:tr ps g i=true
 ·rw[av h,E5,av h];rfl
 ·rw[ao h,E5,ao h];rfl
theorem La (g:Int) (i:Nat):(AP ps g i).length<=i:=by
 unfold AP;rw[Fh];exact Do (GS _ _) (by simp)
theorem Hg {g:Int} {i:Nat} (hi:(i:Int)<room) (a:oG room ps g i=none):tr ps g i=false:=by
 unfold tr;cases b:gI g with
 |false=>rfl
 |true=>
  have c:sK room g i=true:=dW.2 ⟨mr.1 b,by omega,hi⟩;rw[u9 c] at a;by_cases e:gp ps g i=zP
  ·rw[e];rfl
  ·rw[ao e] at a;cases a
theorem Hh {g:Int} {i:Nat} {k:Nat} (a:oG room ps g i=some k):tr ps g i=((ps.getD k zP).2.2.2.1&& !(ps.getD k zP).2.2.2.2.1):=by
 obtain⟨h1,b, _⟩:=fG a;unfold tr gp;rw[mr.2 (dW.1 h1).1,b];rfl
theorem Q8 (hb:bK w bp (gy room ps)) (f:okS room ps) (g:Int):aC AB 232 (.el (.one .slice)) [ag (af bp),aa g] w (λr w'=>lN w w' eI r (oU room ps g)/\Ext w w'):=by
 refine ai (C:=R1) (aQ:=uj) (AG (QY _ g w _) ?_);have A:=f.lo;have B:=f.hi;refine⟨true,ae.of (s:= .el (.one .bool)) λw' h'=>pA (hb.ext h') f,an rfl ⟨rfl,rfl,aj.kX (At.start [] w) hb (by simp) (pW f) ?_⟩⟩;refine⟨λq s w'=> ∃i:Nat,s.2.1=i/\q+i=room.toNat/\At [] w w' []/\lN w w' eI s.1 (AP ps g i),⟨room.toNat,λw1 h1=>⟨0,rfl,rfl,(At.start [] w).ext h1,lN.start w w1 eI⟩⟩,?_⟩;rintro q ⟨⟨sp,D,sc⟩,E,u⟩ w1 ⟨i,hi,F,H,j⟩;simp only at hi j;subst hi;dsimp only;refine ab (λc=>?_) (λc=>?_)
 ·have G:i<room.toNat:=by simp at c;omega
  have a:=Hf (ps:=ps) g i;have I:=La (ps:=ps) g i;refine⟨_,ae.of (s:= .el (.one .ptr)) λw' h'=>DK ((H.fQ hb (by simp)).ext h') f g i,?_⟩;unfold cv;cases k:oG room ps g i with
  |none=>
   rw[Hg (by omega) k] at a;rw[ao (by decide),BX] at a;refine⟨λh=>by simp at h,λh=>by simp at h,false,λh=>by simp at h,λh=>by simp at h,λh=>by simp at h,false,λh=>by simp at h,an rfl λl d=>⟨q - 1,by omega,i+1,by rw[ax (by omega) (by omega)];rfl,by omega,H.ext d,by rw[a];exact j.ext d⟩⟩
  |some kk=>
   obtain⟨p,t,J⟩:=fG k;have v:kk<512:=by rw[t];exact oT p f.hi
   have n:=f.get v;rw[Hh k] at a;refine⟨λ_=>rfl,λ_=>rfl,aj.kX H hb (by simp) (ru n (by decide) rfl) ⟨λ_=>rfl,λ_=>rfl,aj.kX H hb (by simp) (ru n (by decide) rfl) (ab (λc2=>?_) (λc2=>?_))⟩⟩
   ·have c3:((ps.getD kk zP).2.2.2.1&& !(ps.getD kk zP).2.2.2.2.1)=true:=by simpa using c2
    rw[av c3] at a;have m:=At.start [] w1;refine aN.go m λb l m=>λK x=>?_;refine At.aaY (e:=eI) (i:=0) H j (m.ext x) (i:Int) rfl rfl rfl rfl rfl (by omega) λs' L y z M o=>⟨q - 1,by omega,i+1,by rw[ax (by omega) (by omega)];rfl,by omega,y.ext o,?_⟩;rw[a];exact z.ext o
   ·have c3: ¬ ((ps.getD kk zP).2.2.2.1&& !(ps.getD kk zP).2.2.2.2.1)=true:=by simpa using c2
    rw[ao c3,BX] at a;exact λl d=>⟨q - 1,by omega,i+1,by rw[ax (by omega) (by omega)];rfl,by omega,H.ext d,by rw[a];exact j.ext d⟩
 ·have hi:i=room.toNat:=by simp at c;omega
  subst hi;exact λl d=>⟨j.ext d,(H.ext d).all⟩
theorem Q9 (H:aL D G w0 w L) (j:Nat) (b:L[j]? =some (bp,gy room ps)) (c:okS room ps) (g:Int) {K:Option AC×Nat×Nat->A2->Prop}
 (k: ∀r rows a,aL D G w0 a (L++rows)->n9 eI rows r (oU room ps g)->K r a):aA AB 232 (.el (.one .slice)) [ag (af bp),aa g] w K:=
 aA.YC H (λw1 H=>Q8 (H.get b) c g) k
theorem zz {rows:List (Nat×List AF)} {r:Option AC×Nat×Nat} {x:Int} {l:List Int} (a:n9 eI rows r (x::l)) (H:aL D G w0 w L) (b: ∀y∈rows,y∈L):r.1.isSome=true/\cI w (ad r.1 0) (.one (.int .i64)) x:=by
 have:=a.sl H b 0 x rfl;simpa using this
theorem Q_ (H:aL D G w0 w L) (j:Nat) (c:L[j]? =some (bp,gy room ps)) (d:okS room ps) (g:Int) {K:Int×Bool×Unit->A2->Prop}
 (k: ∀h,aL D G w0 h (L.set j (bp,gy room (gM room ps g).2))->K ((gM room ps g).1.1,(gM room ps g).1.2,()) h):
 aA AB 188 (.bu [.one (.int .i64),.one .bool]) [ag (af bp),aa g] w K:=by
 refine aA.go H λw1 H=>ai (C:=R1) (aQ:=λ_=>[]) (AG (QZ _ g w1 K) ?_);refine Q9 H j c d g λr rows h H f=>?_;have n:j<L.length:=(B1.1 c).1;have o:(L++rows)[j]? =some (bp,gy room ps):=by rw[E4 n];exact c
 have a:=f.1;cases b:oU room ps g with
 |nil=>
  rw[b] at a;have e:gM room ps g=((0,false),ps):=by unfold gM;rw[b]
  rw[e] at k;refine aB (by rw[a];rfl) (au.go H λp H=>k p ?_);rw[lA c];exact H.sub (Dn _ _)
 |cons x l=>
  have q:x∈oU room ps g:=by rw[b];exact DQ
  rw[b] at a f;have e:gM room ps g=((x,true),ps.set (ix g x) ((gp ps g x).1,(gp ps g x).2.1,(gp ps g x).2.2.1,false,(gp ps g x).2.2.2.2)):=by unfold gM;rw[b]
  rw[e] at k;obtain⟨p1, _, _⟩:=tH q;have s:oG room ps g x=some (ix g x):=by rw[u9 p1,ao (I6 q)]
  have t:=oT p1 d.hi;have u:ps[ix g x]? =some (gp ps g x):=d.get t;have h0:=zz f H (λy i=>Cc _ i);have m:(x::l).length=l.length+1:=rfl;refine an (by rw[a,m];simp;omega) ⟨⟨h0.1,by omega,by rw[a,m];omega⟩,aj.of x h0.2 ⟨_,FP H j o d g x s,rfl,rfl,?_⟩⟩;refine az.ru j H ((gp ps g x).1,(gp ps g x).2.1,(gp ps g x).2.2.1,false,(gp ps g x).2.2.2.2.1,()) o u (by decide) rfl rfl λp H=>?_;rw[Ft _ _ n] at H;have h1:=zz f H (λy i=>Cc _ i);refine⟨⟨h1.1,by omega,by rw[a,m];omega⟩,aj.of x h1.2 (au.go H λv H=>k v (H.sub (Dn _ _)))⟩
theorem tI (a:lJ room ps) (g:Int): ∀i,lJ room (ib room ps g i).2
 |0=>a
 |i+1=>(tI a g i).eR g i
theorem Eb (g:Int): ∀i:Nat,0<=(ib room ps g i).1/\(ib room ps g i).1<=i
 |0=>by simp[ib]
 |i+1=>by
  have:=Eb g i;simp only[ib];split<;>omega
theorem Ld (h:lJ room ps) {g i j:Int} (hi:sK room g i=true) (d:sK room g j=true):gp (eR room ps g i).2 g j=if j=i then zP else gp ps g j:=by
 cases b:oG room ps g i with
 |none=>
  rw[v9 b];rw[u9 hi] at b;by_cases e:gp ps g i=zP
  ·by_cases a:j=i
   ·rw[av a,a];exact e
   ·rw[ao a]
  ·rw[ao e] at b;cases b
 |some k=>
  rw[pH b];obtain⟨p1,p2,p3⟩:=fG b;have f:=h.tookS;split
  ·rename_i l;obtain⟨m,n, _⟩:=h.nz b l;subst p2;show gp ((ps.set _ _).set (ix g i) zP) g j= _;rw[i_ (f.set _ _) p1 d,i_ f n d];by_cases a:j=i
   ·rw[av ⟨rfl,a⟩,av a]
   ·rw[ao (λc=>a c.2),ao (λc=>m c.1.symm),ao a]
  ·subst p2;show gp (ps.set (ix g i) zP) g j= _;rw[i_ f p1 d];by_cases a:j=i
   ·rw[av ⟨rfl,a⟩,av a]
   ·rw[ao (λc=>a c.2),ao a]
theorem Ec (b:lJ room ps) {g:Int} (a:gI g=true): ∀(n:Nat),(n:Int)<=room-> ∀j,0<=j->j<(n:Int)->gp (ib room ps g n).2 g j=zP
 |0, _,j,h0,h1=>by omega
 |n+1,f,j,h0,h1=>by
  have c:sK room g n=true:=dW.2 ⟨mr.1 a,by omega,by omega⟩;have d:sK room g j=true:=dW.2 ⟨mr.1 a,by omega,by omega⟩;simp only[ib];rw[Ld (tI b g n) c d];by_cases e:j=n
  ·rw[av e]
  ·rw[ao e];exact Ec b a n (by omega) j h0 (by omega)
def vJ (room:Int) (ps:List PT) (g:Int):Prop:=lJ room ps/\ ∀i,sK room g i=true->gp ps g i=zP
theorem Ra {g:Int} (h:vJ room ps g) {k i:Int} (hi:sK room k i=true) (d:(gp ps k i).2.1=g):(gp ps k i).1≠2:=by
 intro a;rcases h.1.inv k i hi with z|z|⟨_, _,c,b, _⟩
 ·rw[z] at a;exact absurd a (by decide)
 ·rw[z.1] at a;exact absurd a (by decide)
 ·rw[d] at c b;rw[h.2 _ c] at b;exact absurd b (by decide)
theorem Hi {g:Int} {s:Int×List PT} (h:vJ room s.2 g) (k i:Int):vJ room (oV room g s k i).2 g:=by
 unfold oV;split
 ·exact h
 ·rename_i x b;split
  ·rename_i c;obtain⟨p1,p2,p3⟩:=fG b;subst p2;refine⟨h.1.YE p1 (Ra h p1 c) (.inl rfl),λj a=>?_⟩;show gp (s.2.set (ix k i) zP) g j=zP;rw[i_ h.1.tookS p1 a];split
   ·rfl
   ·exact h.2 j a
  ·exact h
theorem se {g:Int} {s:Int×List PT} (h:vJ room s.2 g) (k:Int): ∀i,vJ room (mH room g s k i).2 g
 |0=>h
 |i+1=>Hi (se h k i) k i
theorem sg {g:Int} {s:Int×List PT} (h:vJ room s.2 g): ∀k,vJ room (jU room g s k).2 g
 |0=>h
 |k+1=>se (sg h k) _ _
theorem Rb {g:Int} (s:Int×List PT) (k i:Int):s.1<=(oV room g s k i).1/\(oV room g s k i).1<=s.1+1:=by
 unfold oV;split
 ·omega
 ·split
  ·simp only;omega
  ·omega
theorem y8 {g:Int} (s:Int×List PT) (k:Int): ∀i:Nat,s.1<=(mH room g s k i).1/\(mH room g s k i).1<=s.1+i
 |0=>by simp[mH]
 |i+1=>by
  have h1:=y8 (g:=g) s k i;have a:=Rb (g:=g) (room:=room) (mH room g s k i) k i;simp only[mH];omega
theorem Ee {g:Int} (s:Int×List PT): ∀k:Nat,s.1<=(jU room g s k).1/\(jU room g s k).1<=s.1+k*room.toNat
 |0=>by simp[jU]
 |k+1=>by
  have h1:=Ee (g:=g) s k;have a:=y8 (g:=g) (room:=room) (jU room g s k) ((k:Int)+1) room.toNat;simp only[jU];have e:((k+1:Nat):Int)*(room.toNat:Int)=(k:Int)*(room.toNat:Int)+room.toNat:=by rw[Int.natCast_add,Int.add_mul];simp
  rw[e];omega
theorem zA (a:lJ room ps) {g:Int} (b:gI g=true):vJ room (ib room ps g room.toNat).2 g:=by
 have c:=a.tookS.lo;exact⟨tI a g _,λi hi=>Ec a b room.toNat (by omega) i (by rw[dW] at hi;omega) (by rw[dW] at hi;omega)⟩
theorem Re (a:lJ room ps) (g:Int):lJ room (cH room ps g).2:=by
 unfold cH;split
 ·rename_i b;exact(sg (zA a b) 16).1
 ·exact a
theorem Rf (H:aL D G w0 w L) (j:Nat) (d:L[j]? =some (bp,gy room ps)) (x:lJ room ps) (g:Int) {K:Int->A2->Prop}
 (k: ∀I,aL D G w0 I (L.set j (bp,gy room (cH room ps g).2))->K (cH room ps g).1 I):
 aA AB 170 (.el (.one (.int .i64))) [ag (af bp),aa g] w K:=by
 refine aA.go H λw1 H=>ai (C:=R1) (aQ:=uk) (AG (Q0 _ g w1 K) ?_);have t:=x.tookS;have NQ:=t.lo;have R:=t.hi;refine⟨true,UX H j d t,λ_=>trivial,ab (λc=>?_) (λc=>?_)⟩
 ·have v:gI g=false:=by simpa using c
  have e:cH room ps g=(0,ps):=by unfold cH;rw[v];rfl
  rw[e] at k;refine au.go H λy H=>k y ?_;rw[lA d];exact H
 have v:gI g=true:=by simpa using c
 have e:cH room ps g=jU room g (ib room ps g room.toNat) 16:=by unfold cH;rw[av v]
 rw[e] at k;refine⟨rfl,rfl,aj.cv j H d (pW t) ?_⟩;refine⟨λq s w'=> ∃i:Nat,s.2.1=i/\q+i=room.toNat/\s.1=(ib room ps g i).1/\aL D G w0 w' (L.set j (bp,gy room (ib room ps g i).2)),⟨room.toNat,λy S=>⟨0,rfl,rfl,rfl,by rw[show(ib room ps g 0).2=ps from rfl,lA d];exact H.ext S⟩⟩,?_⟩;clear H;rintro q ⟨a,T,u⟩ y ⟨i,hi,hq,l,H⟩;simp only at hi l;subst hi;subst l;dsimp only;have U:=Eb (room:=room) (ps:=ps) g i;refine ab (λc1=>?_) (λc1=>?_)
 ·have V:i<room.toNat:=by simp at c1;omega
  have W:=tI x g i;refine Be H j (jf d) W g i λJ H=>?_;rw[Bx] at H;have n:aJ .i64 (i:Int) 1=((i+1:Nat):Int):=by rw[ax (by omega) (by omega)];rfl
  refine ab (λc2 o p=>⟨q - 1,by omega,i+1,n,by omega,?_,H.ext p⟩) (λc2 o p=>⟨q - 1,by omega,i+1,n,by omega,?_,H.ext p⟩)
  ·have c3:(eR room (ib room ps g i).2 g i).1=0:=by simpa using c2
   simp only[ib];rw[av c3,ax (by omega) (by omega)]
  ·have c3: ¬ (eR room (ib room ps g i).2 g i).1=0:=by simpa using c2
   simp only[ib];rw[ao c3,Int.add_zero]
 have hi:i=room.toNat:=by simp at c1;omega
 subst hi;have M:=zA x v;generalize ib room ps g room.toNat=f at H k M U;refine⟨λq s w'=> ∃m:Nat,s.2.1=(m:Int)+1/\q+m=16/\s.1=(jU room g f m).1/\aL D G w0 w' (L.set j (bp,gy room (jU room g f m).2)),⟨16,λJ X=>⟨0,rfl,rfl,rfl,H.ext X⟩⟩,?_⟩;clear H;rintro Y ⟨a,m',u2⟩ J ⟨m,N,Wo,l,H⟩;simp only at N l;subst N;subst l;dsimp only;have O:=sg M m;have hlA:=Ee (room:=room) (g:=g) f m;have acI:(m:Int)*(room.toNat:Int)<=16*32:=Int.mul_le_mul (by omega) (by omega) (by omega) (by omega);refine ab (λc2=>?_) (λc2=>?_)
 ·have P:m<16:=by simp at c2;omega
  refine⟨rfl,rfl,aj.cv j H (jf d) (pW O.1.tookS) ?_⟩;refine⟨λq s w'=> ∃i:Nat,s.2.1=i/\q+i=room.toNat/\s.1=(mH room g (jU room g f m) ((m:Int)+1) i).1/\aL D G w0 w' (L.set j (bp,gy room (mH room g (jU room g f m) ((m:Int)+1) i).2)),⟨room.toNat,λo p=>⟨0,rfl,rfl,rfl,H.ext p⟩⟩,?_⟩;clear H;rintro z ⟨a,T,u3⟩ o ⟨i,hi,hq3,l,H⟩;simp only at hi l;subst hi;subst l;dsimp only;have Z:=se O ((m:Int)+1) i;have hlR:=y8 (room:=room) (g:=g) (jU room g f m) ((m:Int)+1) i;refine ab (λc3=>?_) (λc3=>?_)
  ·have V:i<room.toNat:=by simp at c3;omega
   have n:aJ .i64 (i:Int) 1=((i+1:Nat):Int):=by rw[ax (by omega) (by omega)];rfl
   have A:=Z.1.tookS;have er:mH room g (jU room g f m) ((m:Int)+1) (i+1)=oV room g (mH room g (jU room g f m) ((m:Int)+1) i) ((m:Int)+1) i:=rfl;generalize mH room g (jU room g f m) ((m:Int)+1) i=b at*
   refine⟨_,FP H j (jf d) A ((m:Int)+1) i rfl,?_⟩;cases B:oG room b.2 ((m:Int)+1) i with
   |none=>
    have E:oV room g b ((m:Int)+1) i=b:=by unfold oV;rw[B]
    rw[E] at er;exact⟨λh=>by simp at h,λh=>by simp at h,(0:Int),λh=>by simp at h,an rfl λF r=>⟨z - 1,by omega,i+1,n,by omega,by rw[er],by rw[er];exact H.ext r⟩⟩
   |some kk=>
    obtain⟨ko,sO,Z4⟩:=fG B;have Q:kk<512:=by rw[sO];exact oT ko R
    have Di:=A.get Q;have E:oV room g b ((m:Int)+1) i=if(b.2.getD kk zP).2.1=g then(b.1+1,b.2.set kk zP) else b:=by unfold oV;rw[B]
    rw[E] at er;refine⟨λ_=>rfl,λ_=>rfl,aj.cv j H (jf d) (ru Di (by decide) rfl) (ab (λc4=>?_) (λc4=>?_))⟩
    ·have c5:(b.2.getD kk zP).2.1=g:=by simpa using c4
     rw[av c5] at er;refine⟨rfl,az.port j H (jf d) (by rw[A.len];exact Q) zP rfl λF H w7 h7=>⟨z - 1,by omega,i+1,n,by omega,?_,?_⟩⟩
     ·rw[er,ax (by omega) (by omega)]
     ·rw[er];rw[Bx] at H;exact H.ext h7
    ·have c5: ¬ (b.2.getD kk zP).2.1=g:=by simpa using c4
     rw[ao c5] at er;exact λF r=>⟨z - 1,by omega,i+1,n,by omega,by rw[er],by rw[er];exact H.ext r⟩
  ·have hi:i=room.toNat:=by simp at c3;omega
   subst hi;exact λF r=>⟨Y - 1,by omega,m+1,by rw[ax (by omega) (by omega)];omega,by omega,rfl,H.ext r⟩
 ·have P:m=16:=by simp at c2;omega
  subst P;exact au.go H λo H=>k o H
end
def Ed (room:Int) (ps:List PT) (u v:Int):Prop:= ∃i,sK room u i=true/\gp ps u i≠zP/\(gp ps u i).2.1=v
inductive Lk (room:Int) (ps:List PT) (a:Int):Int->Prop
 |refl:Lk room ps a a
 |fwd {u v:Int}:Lk room ps a u->Ed room ps u v->Lk room ps a v
 |bwd {u v:Int}:Lk room ps a v->Ed room ps u v->Lk room ps a u
def tv (bs:List Bool) (v:Int):Bool:=bs.getD v.toNat false
def JZ (bs:List Bool):List AF:=bs.map Value.bool
theorem OD {bs:List Bool} {v:Int} (h:v.toNat<bs.length):kx (JZ bs) (0+v.toNat*1) (.one .bool)=some (tv bs v):=by
 have:(JZ bs)[0+v.toNat*1]? =some (.bool (tv bs v)):=by
  unfold JZ tv;rw[B4,Nat.mul_one,J3,Ae h,Aq,Ae h];rfl
 show(match (JZ bs)[0+v.toNat*1]? with|some v=>Sc.bool.proj v|none=>none)= _;rw[this];rfl
theorem Gm {bs:List Bool} {u v:Int} (b:0<=u) (a:u.toNat<bs.length) (hv:0<=v):tv (bs.set u.toNat true) v=if v=u then true else tv bs v:=by
 unfold tv;by_cases e:v=u
 ·subst e;rw[av rfl];simp[Aq,a]
 ·rw[ao e];have:u.toNat≠v.toNat:=by omega
  simp[Aq,Cd this]
def Ig (bs:List Bool):Nat:=bs.countP (! ·)
theorem xB {bs:List Bool} {k:Nat} (a:k<bs.length):Ig (bs.set k true)+(if bs.getD k false=false then 1 else 0)=Ig bs:=by
 unfold Ig;rw[List.countP_set a];have e:bs.getD k false=bs[k]:=by rw[Aq,Ae a];rfl
 rw[e];cases h:bs[k] with
 |true=>simp
 |false=>
  have:0<bs.countP (! ·):=List.countP_pos_iff.2 ⟨bs[k],GF a,by rw[h];rfl⟩;simp;omega
theorem si {bs:List Bool} {k:Nat} (a:k<bs.length):Ig (bs.set k true)<=Ig bs:=by have:=xB a;omega
section
variable {D G:List Nat} {w0 w:A2} {L:List (Nat×List AF)} {bp:Nat} {room:Int} {ps:List PT}
theorem OE (j:Nat) (H:aL D G w0 w L) {b:Nat} {bs:List Bool} {v:Int} (a:L[j]? =some (b,JZ bs)) (d:v.toNat<bs.length) {K:A2->Prop}
 (c: ∀w1,aL D G w0 w1 (L.set j (b,JZ (bs.set v.toNat true)))->K w1):az w (ad (af b) (v.toNat*1)) [.bool true] K:=by
 refine az.e8 j H a rfl ?_ λw1 h1=>c w1 ?_
 ·rw[H7];unfold JZ;rw[Fh];omega
 ·have e:(JZ bs).set (0+v.toNat*1) (.bool true)=JZ (bs.set v.toNat true):=by unfold JZ;rw[List.map_set,B4,Nat.mul_one]
  rw[e] at h1;exact h1
end
end Go.Proofs.YtlcenllcmeebhaaGreat.Po
namespace Go.Proofs.YtlcenllcmeebhaaGreat
set_option maxRecDepth 100000
open Go.RX
open Po (tv JZ OD Gm Ig xB si OE)
inductive Rc (E:Int->Int->Prop) (a:Int):Int->Prop
 |refl:Rc E a a
 |step {u v:Int}:Rc E a u->E u v->Rc E a v
structure Dfs (E:Int->Int->Prop) (n:Int) (bs XN:List Bool):Prop where
 len:XN.length=17
 mono: ∀v,0<=v->tv bs v=true->tv XN v=true
 Fi:tv XN n=true
 snd: ∀v,0<=v->tv XN v=true->tv bs v=true\/Rc E n v
 cls: ∀u v,0<=u->tv XN u=true->tv bs u=false->E u v->tv XN v=true
 Ig:Ig XN<=Ig bs
structure Lp (E:Int->Int->Prop) (n:Int) (bs cs:List Bool):Prop where
 len:cs.length=17
 mono: ∀v,0<=v->tv bs v=true->tv cs v=true
 Fi:tv cs n=true
 snd: ∀v,0<=v->tv cs v=true->tv bs v=true\/Rc E n v
 cls: ∀u v,0<=u->u≠n->tv cs u=true->tv bs u=false->E u v->tv cs v=true
 Ig:Ig cs+(if tv bs n=false then 1 else 0)<=Ig bs
open Po (tv JZ OD Gm Ig xB si OE)
def n6 (gs:List GT):Prop:= ∀x∈gs,(x=zG\/((1<=x.1/\x.1<=16)/\(1<=x.2.2.1/\x.2.2.1<=16)/\x.1≠x.2.2.1/\0<=x.2.1/\x.2.1<65536))/\0<=x.2.2.2.2.1/\x.2.2.2.2.1<=1000
theorem Pd {g:Int}:gG g=true<->1<=g/\g<=16:=by unfold gG;simp
section
variable {w0:A2} {bg br c:Nat} {gs:List GT} {rest:List AF}
end
theorem n6.set {gs:List GT} (h:n6 gs) (i:Nat) {x:GT} (b:(x=zG\/((1<=x.1/\x.1<=16)/\(1<=x.2.2.1/\x.2.2.1<=16)/\x.1≠x.2.2.1/\0<=x.2.1/\x.2.1<65536))/\0<=x.2.2.2.2.1/\x.2.2.2.2.1<=1000):n6 (gs.set i x):=λy a=>by
 rcases List.mem_or_eq_of_mem_set a with a|rfl
 ·exact h y a
 ·exact b
theorem OF:((zG:GT)=zG\/((1<=zG.1/\zG.1<=16)/\(1<=zG.2.2.1/\zG.2.2.1<=16)/\zG.1≠zG.2.2.1/\0<=zG.2.1/\zG.2.1<65536))/\0<=zG.2.2.2.2.1/\zG.2.2.2.2.1<=1000:=⟨.inl rfl,by decide,by decide⟩
theorem n6.rev {gs:List GT} (h:n6 gs) (i o:Int):n6 (lh gs i o):=by
 unfold lh;split
 ·exact h.set _ OF
 ·exact h
theorem n6.at {gs:List GT} (h:n6 gs) {i:Int} {k:Nat} (a:lU gs i=some k):((1<=(gs.getD k zG).1/\(gs.getD k zG).1<=16)/\(1<=(gs.getD k zG).2.2.1/\(gs.getD k zG).2.2.1<=16)/\(gs.getD k zG).1≠(gs.getD k zG).2.2.1/\0<=(gs.getD k zG).2.1/\(gs.getD k zG).2.1<65536)/\0<=(gs.getD k zG).2.2.2.2.1/\(gs.getD k zG).2.2.2.2.1<=1000:=by
 obtain⟨_, _, _,b,c⟩:=lz a;obtain⟨h1,d⟩:=h _ (Fx b);exact⟨h1.resolve_left c,d⟩
theorem n6.take {gs:List GT} (h:n6 gs) (i g:Int) (b:Bool):n6 (eo gs i g b):=by
 unfold eo;split
 ·rename_i a;unfold gU at a;cases c:lU gs i with
  |none=>rw[c] at a;cases a
  |some k=>
   rw[c] at a;dsimp only at a;obtain⟨h1,e⟩:=h.at c;obtain⟨_, _,d, _⟩:=lz c;subst d;split at a
   ·cases a
   ·split at a
    ·cases a
    ·rename_i f;refine h.set _ ⟨.inr h1,?_,?_⟩
     ·show 0<=(gs.getD i.toNat zG).2.2.2.2.1+1;omega
     ·show(gs.getD i.toNat zG).2.2.2.2.1+1<=1000;omega
 ·exact h
theorem n6.back {gs:List GT} (h:n6 gs) (i g:Int):n6 (eO gs i g):=by
 unfold eO;split
 ·rename_i a;unfold mq at a;cases b:lU gs i with
  |none=>rw[b] at a;cases a
  |some k=>
   rw[b] at a;dsimp only at a;obtain⟨h1,d⟩:=h.at b;obtain⟨_, _,c, _⟩:=lz b;subst c;split at a
   ·cases a
   ·split at a
    ·cases a
    ·rename_i e;refine h.set _ ⟨.inr h1,?_,?_⟩
     ·show 0<=(gs.getD i.toNat zG).2.2.2.2.1+ -1;omega
     ·show(gs.getD i.toNat zG).2.2.2.2.1+ -1<=1000;omega
 ·exact h
theorem n6.off {gs:List GT} (h:n6 gs) (o q t:Int) (b:Bool):n6 (jT gs o q t b):=by
 unfold jT;split
 ·rename_i a;unfold lj at a;split at a
  ·cases a
  ·rename_i hc;have hc:gG o=true/\gG t=true/\o≠t/\0<=q/\q<65536:=by
    simp only[Dd,FQ,beq_iff_eq,decide_eq_true_eq,not_or] at hc;obtain⟨⟨⟨⟨h1,c⟩,d⟩,f⟩,g⟩:=hc;exact⟨by simpa using h1,by simpa using c,d,by omega,by omega⟩
   have a1:=Pd.1 hc.1;have e:=Pd.1 hc.2.1;exact h.set _ ⟨.inr ⟨a1,e,hc.2.2⟩,Int.le_refl 0,(by decide:(0:Int)<=1000)⟩
 ·exact h
theorem n6.drop {gs:List GT} (h:n6 gs) (g:Int):n6 (cP gs g):=λy a=>by
 unfold cP at a;obtain⟨x,b,rfl⟩:=DH.1 a;split
 ·exact OF
 ·exact h x b
theorem n6.new (n:Nat):n6 (B3 n zG):=λy a=>by
 rw[List.eq_of_mem_replicate a];exact OF
theorem n6.use {gs:List GT} (h:n6 gs): ∀x∈gs,0<=x.2.2.2.2.1/\x.2.2.2.2.1<=1000:=λx a=>(h x a).2
noncomputable def H0:dJ AB:={C3 with vE:=false,quiet:=[119,120]}
theorem Le (w:A2) (u:Option Nat->A2->Prop):(aK H0 (λ_=>[]) 163 [] w u)=(
 ∀w1,Ext w w1-> ∀c,Ext (w1.alloc (Obj.map ⟨[]⟩ 0)) c-> ∃(r:Nat), ∃(es:Array AH), ∃(a:Nat),some w1.heap.size=some r/\bF c r es a/\gR c r .i64 1 (.agg {toList:=[.string {data:=⟨[99,114,101,97,116,101]⟩},aa 0]}) es a λb=> ∀d,Ext b d-> ∃(r:Nat), ∃(es:Array AH), ∃(a:Nat),some w1.heap.size=some r/\bF d r es a/\gR d r .i64 2 (.agg {toList:=[.string {data:=⟨[100,101,115,116,114,111,121]⟩},aa 1]}) es a λb=> ∀e,Ext b e-> ∃(r:Nat), ∃(es:
 Array AH), ∃(a:Nat),some w1.heap.size=some r/\bF e r es a/\gR e r .i64 3 (.agg {toList:=[.string {data:=⟨[100,111,110,97,116,101]⟩},aa 2]}) es a λb=> ∀f,Ext b f-> ∃(r:Nat), ∃(es:Array AH), ∃(a:Nat),some w1.heap.size=some r/\bF f r es a/\gR f r .i64 4 (.agg {toList:=[.string {data:=⟨[114,101,99,108,97,105,109]⟩},aa 1]}) es a λb=> ∀g,Ext b g-> ∃(r:Nat), ∃(es:Array AH), ∃(a:Nat),some w1.heap.size=some r/\bF g r es a/\
 gR g r .i64 5 (.agg {toList:=[.string {data:=⟨[112,114,111,116,101,99,116]⟩},aa 2]}) es a λb=> ∀h,Ext b h-> ∃(r:Nat), ∃(es:Array AH), ∃(a:Nat),some w1.heap.size=some r/\bF h r es a/\gR h r .i64 6 (.agg {toList:=[.string {data:=⟨[108,111,97,100]⟩},aa 1]}) es a λb=> ∀i,Ext b i-> ∃(r:Nat), ∃(es:Array AH), ∃(a:Nat),some w1.heap.size=some r/\bF i r es a/\gR i r .i64 7 (.agg {toList:=[.string {data:=⟨[115,116,111,114,101]⟩},.int .i64
 2]}) es a λb=> ∀j,Ext b j-> ∃(r:Nat), ∃(es:Array AH), ∃(a:Nat),some w1.heap.size=some r/\bF j r es a/\gR j r .i64 8 (.agg {toList:=[.string {data:=⟨[111,102,102,101,114]⟩},aa 3]}) es a λb=> ∀k,Ext b k-> ∃(r:Nat), ∃(es:Array AH), ∃(a:Nat),some w1.heap.size=some r/\bF k r es a/\gR k r .i64 9 (.agg {toList:=[.string {data:=⟨[116,97,107,101]⟩},aa 3]}) es a λb=> ∀l,Ext b l-> ∃(r:Nat), ∃(es:Array AH), ∃(a:Nat),
 some w1.heap.size=some r/\bF l r es a/\gR l r .i64 10 (.agg {toList:=[.string {data:=⟨[98,97,99,107]⟩},aa 1]}) es a λb=> ∀m,Ext b m-> ∃(r:Nat), ∃(es:Array AH), ∃(a:Nat),some w1.heap.size=some r/\bF m r es a/\gR m r .i64 11 (.agg {toList:=[.string {data:=⟨[114,101,118,111,107,101]⟩},aa 1]}) es a λb=> ∀n,Ext b n-> ∃(r:Nat), ∃(es:Array AH), ∃(a:Nat),some w1.heap.size=some r/\bF n r es a/\gR n r .i64 12 (.agg {toList:=[.string
 {data:=⟨[111,112,101,110]⟩},aa 1]}) es a λb=> ∀o,Ext b o-> ∃(r:Nat), ∃(es:Array AH), ∃(a:Nat),some w1.heap.size=some r/\bF o r es a/\gR o r .i64 13 (.agg {toList:=[.string {data:=⟨[98,105,110,100]⟩},aa 2]}) es a λb=> ∀p,Ext b p-> ∃(r:Nat), ∃(es:Array AH), ∃(a:Nat),some w1.heap.size=some r/\bF p r es a/\gR p r .i64 14 (.agg {toList:=[.string {data:=⟨[115,101,110,100]⟩},aa 1]}) es a λb=> ∀q,Ext b q-> ∃(r
 :Nat), ∃(es:Array AH), ∃(a:Nat),some w1.heap.size=some r/\bF q r es a/\gR q r .i64 15 (.agg {toList:=[.string {data:=⟨[112,111,108,108]⟩},aa 0]}) es a λb=> ∀s,Ext b s-> ∃(r:Nat), ∃(es:Array AH), ∃(a:Nat),some w1.heap.size=some r/\bF s r es a/\gR s r .i64 16 (.agg {toList:=[.string {data:=⟨[99,108,111,115,101]⟩},aa 1]}) es a λb=> ∀t,Ext b t-> ∃(r:Nat), ∃(es:Array AH), ∃(a:Nat),some w1.heap.size=some r/\bF t r es
 a/\gR t r .i64 17 (.agg {toList:=[.string {data:=⟨[115,119,101,101,112]⟩},aa 0]}) es a λb=>au b (u (some w1.heap.size))):=by kernel_rfl
theorem Rh (k:Int) (w:A2) (d:Int->A2->Prop):(aK H0 (λ_=>[]) 119 [aa k] w d)=(
 aA AB 163 (.el N_) [] w λx a=> ∃(c:ByteArray×Int×Unit), ∃(b:Bool),ml a x .i64 k (.agg {toList:=[.string {data:=⟨[]⟩},aa 0]}) (.agg ⟨[.string c.1,aa c.2.1]⟩) b/\aN a {toList:=[.string {data:=⟨[]⟩},aa 0]} 242 λe a=>az a (af e) [.string c.1,aa c.2.1] λa=>aI (!b) (au a (d (-1))) (true=true/\aU a (ad (af e) 1) λx=>au a (d x))):=by kernel_rfl
theorem E7 (k:Int) (w:A2) (a:Bool->A2->Prop):(aK H0 (λ_=>[]) 77 [aa k] w a)=(
 au w (a (k==1||k==2||k==17))):=by kernel_rfl
theorem Lg (k a b c:Int) (w:A2) (e:Int×Int×Int×Unit->A2->Prop):(bQ H0 (λ_=>[]) 120 [.agg ⟨[aa k,ay a,ay b,ay c]⟩] w e)=(
 aN w ⟨[aa k,ay a,ay b,ay c]⟩ 31 λb d=>aN d ⟨[ay 0,ay 0,ay 0]⟩ 222 λf d=>true=true/\cK d (ad (af b) 1) λx=>true=true/\cK d (ad (af b) 2) λg=>true=true/\cK d (ad (af b) 3) λh=>az d (af f) [ay x,ay g,ay h] λd=>au d λw1=>aj w1 none (af f) (.agg [.int .u64,.int .u64,.int .u64]) λ(x:Int×Int×Int×Unit)=>e (x.1,x.2.1,x.2.2.1,()) w1):=by kernel_rfl
def qW:Nat->aZ:=(λ|5=>[(13,Go.RX.El.one (Go.RX.Sc.int B2))]| _=>[])
theorem Lh (k a b c:Int) (w:A2) (f:Bool->A2->Prop):(aK H0 qW 76 [.agg ⟨[aa k,ay a,ay b,ay c]⟩] w f)=(
 aN w ⟨[aa k,ay a,ay b,ay c]⟩ 31 λb d=>true=true/\aU d (ad (af b) 0) λx=> ∃(g:Int),ae AB 119 [aa x] d (aa g)/\aI (g== -1) (au d (f false)) (aj d none (af b) s8 λ(x:Int×Int×Int×Int×Unit)=> ∃(e:Int×Int×Int×Unit),ae AB 120 [.agg ⟨[aa x.1,ay x.2.1,ay x.2.2.1,ay x.2.2.2.1]⟩] d (.agg ⟨[ay e.1,ay e.2.1,ay e.2.2.1]⟩)/\ ∃(I:Nat->Int×Unit->A2->Prop),(∃n, ∀w1,Ext d w1->I n (0,()) w1)/\
 ∀(n:Nat) (s:Int×Unit) (w1:A2),I n s w1->aI (decide (s.1<3)) ((0<=s.1/\s.1<(↑3:Int))/\aI (decide (s.1>=g)&&FG [e.1,e.2.1,e.2.2.1] s.1 != 0) (au w1 (f false)) (∀h,Ext w1 h-> ∃(i:Nat),i<n/\I i (aJ .i64 s.1 1,()) h)) (au w1 (f true)))):=by kernel_rfl
theorem gD {D G:List Nat} {w0 w:A2} {L:List (Nat×List AF)} {M:List (Nat×Obj)} {r:Nat} {l:List AH} {c:Nat} (H:cw D G w0 w L ((r,.map ⟨l⟩ c)::M)) {n:Int} {val:AF} {K:A2->Prop} (g:Dh (.int .i64) (aa n) l 0=some none)
 (k: ∀a,cw D G w0 a L ((r,.map ⟨l++[{key:=aa n,val,born:=c}]⟩ (c+1))::M)->K a):
 ∀w1,Ext w w1-> ∃r' b d,some r=some r'/\bF w1 r' b d/\gR w1 r' .i64 n val b d K:=λw1 h=>by
 have f:=H.ext h;refine⟨r,⟨l⟩,c,rfl,f.get (i:=0) rfl,?_⟩;unfold gR;rw[show(Array.toList ⟨l⟩)=l from rfl,g];have e:Array.push ⟨l⟩ {key:=aa n,val,born:=c}=⟨l++[{key:=aa n,val,born:=c}]⟩:=List.push_toArray _ _;show K (w1.putObj r (.map (Array.push ⟨l⟩ {key:=aa n,val,born:=c}) (c+1)));rw[e];exact k _ (f.put (i:=0) rfl trivial)
theorem _root_.Go.RX.cw.Xa {D G:List Nat} {w0 w:A2} {L:List (Nat×List AF)} {M:List (Nat×Obj)} {r:Nat} {l l':List AH} {c:Nat} (H:cw D G w0 w L ((r,.map ⟨l⟩ c)::M)) (e:l=l'):cw D G w0 w L ((r,.map ⟨l'⟩ c)::M):=by
 subst e;exact H
def gE (k:Int) (s:ByteArray) (n:Int) (b:Nat):AH:={key:=aa k,val:= .agg ⟨[.string s,aa n]⟩,born:=b}
def eT:Array AH:=⟨[gE 1 ⟨⟨[99,114,101,97,116,101]⟩⟩ 0 0,gE 2 ⟨⟨[100,101,115,116,114,111,121]⟩⟩ 1 1,gE 3 ⟨⟨[100,111,110,97,116,101]⟩⟩ 2 2,gE 4 ⟨⟨[114,101,99,108,97,105,109]⟩⟩ 1 3,gE 5 ⟨⟨[112,114,111,116,101,99,116]⟩⟩ 2 4,gE 6 ⟨⟨[108,111,97,100]⟩⟩ 1 5,gE 7 ⟨⟨[115,116,111,114,101]⟩⟩ 2 6,gE 8 ⟨⟨[111,102,102,101,114]⟩⟩ 3 7,gE 9 ⟨⟨[116,97,107,101]⟩⟩ 3 8,gE 10 ⟨⟨[98,97,99,107]⟩⟩ 1 9,gE 11 ⟨⟨[114,101,118,111,107,101]⟩⟩ 1 10,gE 12 ⟨⟨[111,112,101,110]⟩⟩ 1 11,gE 13 ⟨⟨[98,105,110,100]⟩⟩ 2 12,gE 14 ⟨⟨[115,101,110,100]⟩⟩ 1 13,gE 15 ⟨⟨[112,111,108,108]⟩⟩ 0 14,gE 16 ⟨⟨[99,108,111,115,101]⟩⟩ 1 15,gE 17 ⟨⟨[115,119,101,101,112]⟩⟩ 0 16]⟩
def jV (k:Int):Int:=if 1<=k/\k<=17 then([0,1,2,1,2,1,2,3,3,1,1,1,2,1,0,1,0]:List Int).getD (k - 1).toNat 0 else -1
def iC (k a b c:Int):Bool:=decide (jV k>=0)&&((decide (jV k>0)||a==0)&&((decide (jV k>1)||b==0)&&(decide (jV k>2)||c==0)))
def uW (k:Int):Bool:=k==1||k==2||k==17
section
variable {D G:List Nat} {w0 w:A2} {L:List (Nat×List AF)} {M:List (Nat×Obj)}
theorem Li (H:cw D G w0 w L M) {K:Option Nat->A2->Prop} (k: ∀r a,cw D G w0 a L ((r,.map eT 17)::M)->K (some r) a):aA AB 163 (.el (.one .map)) [] w K:=by
 refine λw1 h1=>ai (C:=H0) (aQ:=λ_=>[]) (AG (Le w1 K) ?_);have H:=H.ext h1;intro b c;have H:=(H.ext c).alloc (o:= .map #[] 0) trivial;refine gD H (by kernel_rfl) λf H=>?_;refine gD H (by kernel_rfl) λg H=>?_;refine gD H (by kernel_rfl) λh H=>?_;refine gD H (by kernel_rfl) λi H=>?_;refine gD H (by kernel_rfl) λj H=>?_;refine gD H (by kernel_rfl) λl H=>?_;refine gD H (by kernel_rfl) λm H=>?_;refine gD H (by kernel_rfl) λn H=>?_;refine gD H (by kernel_rfl) λp H=>?_;refine gD H (by kernel_rfl) λq H=>?_;refine gD H (by kernel_rfl) λs H=>?_;refine gD H (by kernel_rfl) λt H=>?_;refine gD H (by kernel_rfl) λu H=>?_;refine gD H (by kernel_rfl) λv H=>?_;refine gD H (by kernel_rfl) λx H=>?_;refine gD H (by kernel_rfl) λy H=>?_;refine gD H (by kernel_rfl) λz H=>?_;exact λd e=>k b.heap.size d ((H.ext e).Xa (by kernel_rfl))
theorem Hj {r:Nat} (h:bF w r eT 17) (k:Int): ∃(x:ByteArray×Int×Unit) (b:Bool),ml w (some r) .i64 k (.agg ⟨[.string ⟨⟨[]⟩⟩,aa 0]⟩) (.agg ⟨[.string x.1,aa x.2.1]⟩) b/\(b=false->jV k= -1)/\(b=true->x.2.1=jV k):=by
 by_cases c:1<=k/\k<=17
 ·have:k=1\/k=2\/k=3\/k=4\/k=5\/k=6\/k=7\/k=8\/k=9\/k=10\/k=11\/k=12\/k=13\/k=14\/k=15\/k=16\/k=17:=by omega
  rcases this with rfl|rfl|rfl|rfl|rfl|rfl|rfl|rfl|rfl|rfl|rfl|rfl|rfl|rfl|rfl|rfl|rfl
  ·exact⟨(⟨⟨[99,114,101,97,116,101]⟩⟩,0,()),true,⟨r,eT,17,rfl,h,rfl,rfl⟩,λh=>(by cases h),λ_=>rfl⟩
  ·exact⟨(⟨⟨[100,101,115,116,114,111,121]⟩⟩,1,()),true,⟨r,eT,17,rfl,h,rfl,rfl⟩,λh=>(by cases h),λ_=>rfl⟩
  ·exact⟨(⟨⟨[100,111,110,97,116,101]⟩⟩,2,()),true,⟨r,eT,17,rfl,h,rfl,rfl⟩,λh=>(by cases h),λ_=>rfl⟩
  ·exact⟨(⟨⟨[114,101,99,108,97,105,109]⟩⟩,1,()),true,⟨r,eT,17,rfl,h,rfl,rfl⟩,λh=>(by cases h),λ_=>rfl⟩
  ·exact⟨(⟨⟨[112,114,111,116,101,99,116]⟩⟩,2,()),true,⟨r,eT,17,rfl,h,rfl,rfl⟩,λh=>(by cases h),λ_=>rfl⟩
  ·exact⟨(⟨⟨[108,111,97,100]⟩⟩,1,()),true,⟨r,eT,17,rfl,h,rfl,rfl⟩,λh=>(by cases h),λ_=>rfl⟩
  ·exact⟨(⟨⟨[115,116,111,114,101]⟩⟩,2,()),true,⟨r,eT,17,rfl,h,rfl,rfl⟩,λh=>(by cases h),λ_=>rfl⟩
  ·exact⟨(⟨⟨[111,102,102,101,114]⟩⟩,3,()),true,⟨r,eT,17,rfl,h,rfl,rfl⟩,λh=>(by cases h),λ_=>rfl⟩
  ·exact⟨(⟨⟨[116,97,107,101]⟩⟩,3,()),true,⟨r,eT,17,rfl,h,rfl,rfl⟩,λh=>(by cases h),λ_=>rfl⟩
  ·exact⟨(⟨⟨[98,97,99,107]⟩⟩,1,()),true,⟨r,eT,17,rfl,h,rfl,rfl⟩,λh=>(by cases h),λ_=>rfl⟩
  ·exact⟨(⟨⟨[114,101,118,111,107,101]⟩⟩,1,()),true,⟨r,eT,17,rfl,h,rfl,rfl⟩,λh=>(by cases h),λ_=>rfl⟩
  ·exact⟨(⟨⟨[111,112,101,110]⟩⟩,1,()),true,⟨r,eT,17,rfl,h,rfl,rfl⟩,λh=>(by cases h),λ_=>rfl⟩
  ·exact⟨(⟨⟨[98,105,110,100]⟩⟩,2,()),true,⟨r,eT,17,rfl,h,rfl,rfl⟩,λh=>(by cases h),λ_=>rfl⟩
  ·exact⟨(⟨⟨[115,101,110,100]⟩⟩,1,()),true,⟨r,eT,17,rfl,h,rfl,rfl⟩,λh=>(by cases h),λ_=>rfl⟩
  ·exact⟨(⟨⟨[112,111,108,108]⟩⟩,0,()),true,⟨r,eT,17,rfl,h,rfl,rfl⟩,λh=>(by cases h),λ_=>rfl⟩
  ·exact⟨(⟨⟨[99,108,111,115,101]⟩⟩,1,()),true,⟨r,eT,17,rfl,h,rfl,rfl⟩,λh=>(by cases h),λ_=>rfl⟩
  ·exact⟨(⟨⟨[115,119,101,101,112]⟩⟩,0,()),true,⟨r,eT,17,rfl,h,rfl,rfl⟩,λh=>(by cases h),λ_=>rfl⟩
 ·have d: ∀(l:List AH) (i:Nat),(∀e∈l, ∃j:Int,e.key=aa j/\j≠k)->Dh (.int .i64) (aa k) l i=some none:=by
   intro l
   induction l with
   |nil=>intro i _;rfl
   |cons e l f=>
    intro i a;obtain⟨j,h1,g⟩:=a e DQ;unfold Dh;rw[h1];have:JS (.int .i64) (aa k) (aa j)=some false:=by
     show(if B2=B2 then some (k==j) else none)=some false;have:(k==j)=false:=beq_eq_false_iff_ne.2 (λe=>g e.symm);rw[av rfl,this]
    rw[this];exact f (i+1) λe' m=>a e' (Ca _ m)
  have n:Dh (.int .i64) (aa k) eT.toList 0=some none:=d _ 0 λe a=>by
   have a:e∈[gE 1 ⟨⟨[99,114,101,97,116,101]⟩⟩ 0 0,gE 2 ⟨⟨[100,101,115,116,114,111,121]⟩⟩ 1 1,gE 3 ⟨⟨[100,111,110,97,116,101]⟩⟩ 2 2,gE 4 ⟨⟨[114,101,99,108,97,105,109]⟩⟩ 1 3,gE 5 ⟨⟨[112,114,111,116,101,99,116]⟩⟩ 2 4,gE 6 ⟨⟨[108,111,97,100]⟩⟩ 1 5,gE 7 ⟨⟨[115,116,111,114,101]⟩⟩ 2 6,gE 8 ⟨⟨[111,102,102,101,114]⟩⟩ 3 7,gE 9 ⟨⟨[116,97,107,101]⟩⟩ 3 8,gE 10 ⟨⟨[98,97,99,107]⟩⟩ 1 9,gE 11 ⟨⟨[114,101,118,111,107,101]⟩⟩ 1 10,gE 12 ⟨⟨[111,112,101,110]⟩⟩ 1 11,gE 13 ⟨⟨[98,105,110,100]⟩⟩ 2 12,gE 14 ⟨⟨[115,101,110,100]⟩⟩ 1 13,gE 15 ⟨⟨[112,111,108,108]⟩⟩ 0 14,gE 16 ⟨⟨[99,108,111,115,101]⟩⟩ 1 15,gE 17 ⟨⟨[115,119,101,101,112]⟩⟩ 0 16]:=a;simp only[FV,List.not_mem_nil,or_false] at a;rcases a with rfl|rfl|rfl|rfl|rfl|rfl|rfl|rfl|rfl|rfl|rfl|rfl|rfl|rfl|rfl|rfl|rfl
   all_goals exact⟨_,rfl,by omega⟩
  refine⟨(⟨⟨[]⟩⟩,0,()),false,⟨r,eT,17,rfl,h,?_⟩,λ_=>ao c,λh=>by cases h⟩;rw[n];exact⟨rfl,rfl⟩
theorem Ri (k:Int) (w:A2):aC AB 119 (.el (.one (.int .i64))) [aa k] w (λx w'=>x=jV k/\Ext w w'):=by
 refine ai (C:=H0) (aQ:=λ_=>[]) (AG (Rh k w _) ?_);refine Li (cw.start [] w) λr d H=>?_;obtain⟨x,b,a,h0,h1⟩:=Hj (H.get (i:=0) rfl) k;have H:=H.base;refine⟨x,b,a,aN.go H λe f H=>az.all 0 H rfl rfl rfl λg H=>?_⟩;cases b with
 |false=>exact aB rfl (au.go H λc H=>⟨(h0 rfl).symm,H.all⟩)
 |true=>exact an rfl ⟨rfl,aj.cv 0 H rfl rfl (au.go H λc H=>⟨h1 rfl,H.all⟩)⟩
theorem UY (k:Int):ae AB 119 [aa k] w (aa (jV k)):=ae.of (s:= .el (.one (.int .i64))) λw' _=>Ri k w'
theorem Rj (k a b c:Int):ae AB 120 [.agg ⟨[aa k,ay a,ay b,ay c]⟩] w (Sh.gK (.el (.agg [.int .u64,.int .u64,.int .u64])) (a,b,c,())):=by
 refine ae.of (s:= .el (.agg [.int .u64,.int .u64,.int .u64])) λw' _=>aR (C:=H0) (aQ:=λ_=>[]) (AG (Lg k a b c w' _) ?_);have H:=At.start [] w';refine aN.go H λd e H=>aN.go H λf g H=>⟨rfl,aj.cv 1 H rfl rfl ⟨rfl,aj.cv 1 H rfl rfl ⟨rfl,aj.cv 1 H rfl rfl (az.all 0 H rfl rfl rfl λh H=>au.go H λi H=>aj.at 0 H rfl (show _=some (a,b,c,()) from rfl) ⟨rfl,H.all⟩)⟩⟩⟩
theorem Lj (k a b c:Int) (w:A2):aC AB 76 (.el (.one .bool)) [.agg ⟨[aa k,ay a,ay b,ay c]⟩] w (λx w'=>x=iC k a b c/\Ext w w'):=by
 refine ai (C:=H0) (aQ:=qW) (AG (Lh k a b c w _) ?_);have H:=At.start [] w;have z:jV k= -1\/0<=jV k:=by
  unfold jV;split
  ·rename_i h;right;have:k=1\/k=2\/k=3\/k=4\/k=5\/k=6\/k=7\/k=8\/k=9\/k=10\/k=11\/k=12\/k=13\/k=14\/k=15\/k=16\/k=17:=by omega
   rcases this with rfl|rfl|rfl|rfl|rfl|rfl|rfl|rfl|rfl|rfl|rfl|rfl|rfl|rfl|rfl|rfl|rfl<;>decide
  ·exact .inl rfl
 refine aN.go H λD E H=>⟨rfl,aj.cv 0 H rfl rfl ⟨_,UY k,ab (λd=>au.go H λo H=>⟨?_,H.all⟩) (λd=>aj.at 0 H rfl (show _=some (k,a,b,c,()) from rfl) ⟨(a,b,c,()),Rj k a b c,?_⟩)⟩⟩
 ·have d:jV k= -1:=by simpa using d
  unfold iC;rw[d];rfl
 have d: ¬ jV k= -1:=by simpa using d
 unfold iC;obtain⟨n,A⟩: ∃n,n=jV k:=⟨_,rfl⟩;rw[<-A] at d z ⊢;refine⟨λq v w'=> ∃i:Nat,v.1=(i:Int)/\q+i=3/\(0<i-> ¬ (n<=0/\a≠0))/\(1<i-> ¬ (n<=1/\b≠0))/\(2<i-> ¬ (n<=2/\c≠0))/\Ext w w',⟨3,λo l=>⟨0,rfl,rfl,λh=>by omega,λh=>by omega,λh=>by omega,(H.ext l).all⟩⟩,?_⟩;rintro q ⟨v,u⟩ o ⟨i,e,F,h1,p,l,r⟩;dsimp only at e ⊢;subst e;refine ab (λm=>⟨⟨by omega,by simpa using m⟩,?_⟩) (λm=>λf g=>⟨?_,r.trans g⟩)
 ·have hi:i<3:=by
   have:(i:Int)<3:=by simpa using m
   omega
  have B:(¬ (n<=(i:Int)/\FG [a,b,c] (i:Int)≠0))-> ∀f,Ext o f-> ∃t,t<q/\ ∃j:Nat,aJ .i64 (i:Int) 1=(j:Int)/\t+j=3/\(0<j-> ¬ (n<=0/\a≠0))/\(1<j-> ¬ (n<=1/\b≠0))/\(2<j-> ¬ (n<=2/\c≠0))/\Ext w f:=λs f g=>by
   refine⟨q - 1,by omega,i+1,by rw[ax (by omega) (by omega)];omega,by omega,?_,?_,?_,r.trans g⟩
   ·intro _;by_cases e:i=0
    ·subst e;exact s
    ·exact h1 (by omega)
   ·intro _;by_cases e:i=1
    ·subst e;exact s
    ·exact p (by omega)
   ·intro _;have e:i=2:=by omega
    subst e;exact s
  refine ab (λd1=>λf g=>⟨?_,r.trans g⟩) (λd1=>B ?_)
  ·have d1:n<=(i:Int)/\FG [a,b,c] (i:Int)≠0:=by
    simpa using d1
   have:i=0\/i=1\/i=2:=by omega
   symm;rw[Bool.eq_false_iff];intro y;simp only[DB,Dd,decide_eq_true_eq,beq_iff_eq] at y;obtain⟨_,G,I,J⟩:=y;rcases this with rfl|rfl|rfl
   ·have d2:n<=0/\a≠0:=d1;omega
   ·have d2:n<=1/\b≠0:=d1;omega
   ·have d2:n<=2/\c≠0:=d1;omega
  ·intro d2;have:(decide ((i:Int)>=n)&&FG [a,b,c] (i:Int) != 0)=true:=by
    simp only[DB,decide_eq_true_eq,bne_iff_ne];exact d2
   rw[this] at d1;cases d1
 ·have hi:i=3:=by
   have: ¬ (i:Int)<3:=by simpa using m
   omega
  subst hi;have h1:=h1 (by omega);have p:=p (by omega);have l:=l (by omega);symm;simp only[DB,Dd,decide_eq_true_eq,beq_iff_eq];omega
theorem Ef (k a b c:Int):ae AB 76 [.agg ⟨[aa k,ay a,ay b,ay c]⟩] w (.bool (iC k a b c)):=ae.of (s:= .el (.one .bool)) λw' _=>Lj k a b c w'
theorem E8 (k:Int) (w:A2):aC AB 77 (.el (.one .bool)) [aa k] w (λx w'=>x=uW k/\Ext w w'):=
 ai (C:=H0) (aQ:=λ_=>[]) (AG (E7 k w _) λw1 h1=>⟨rfl,h1⟩)
theorem Hk (k:Int):ae AB 77 [aa k] w (.bool (uW k)):=ae.of (s:= .el (.one .bool)) λw' _=>E8 k w'
end
end Go.Proofs.YtlcenllcmeebhaaGreat
namespace Go.RX
set_option maxRecDepth 100000
open Go.ChangeShapes Go.WideShapes Go.RowKit
variable {H:Type} {enc:Bs×AF->H} {P:Program} {w:A2} {base:Nat} {spare:Nat->Bool} {held:Bool}
def yJ (P:Program) (g:Bs->Option (List Sc)):Nat->List Field->Option (List Sc)
 | _,[]=>some []
 |off,f::r=>match g f.type with
  |some a=>if f.offset=off/\P.cellsOf f.type=a.length then match yJ P g (off+a.length) r with
    |some b=>some (a++b)
    |none=>none
   else none
  |none=>none
def rS (P:Program):Nat->Bs->Option (List Sc)
 |0, _=>none
 |d+1,t=>match P.underlying t with
  |some (.int k)=>some [.int k]
  |some .bool=>some [.bool]
  |some (.struct fs)=>match yJ P (rS P d) 0 fs.toList with
   |some a=>if P.cellsOf t=a.length then some a else none
   |none=>none
  |some (.array n e)=>match rS P d e with
   |some a=>if P.cellsOf e=a.length/\P.cellsOf t=n*a.length then some (B3 n a).flatten else none
   |none=>none
  | _=>none
def ab0:(s:Sc)->s.T->Prop
 | .int k,x=>(Lit.int k x).wf=true
 | _, _=>True
def iX:(l:List Sc)->gY l->Prop
 |[], _=>True
 |s::r,x=>ab0 s x.1/\iX r x.2
theorem sj: ∀(a b:List Sc) (x:gY a) (y:gY b),iX a x->iX b y-> ∃z:gY (a++b),a7 (a++b) z=a7 a x++a7 b y/\iX (a++b) z
 |[],b, _,y, _,c=>⟨y,rfl,c⟩
 |s::r,b,x,y,d,c=>by
  obtain⟨z,h1,e⟩:=sj r b x.2 y d.2 c;exact⟨(x.1,z),by simp only[J5,a7,h1],d.1,e⟩
theorem I7 {g:Bs->Option (List Sc)} {m:Nat} (e: ∀t ss cs y,g t=some ss->DataW.trod enc P w base spare held m t cs=some y-> ∃x:gY ss,cs=a7 ss x/\iX ss x)
 {cs:List AF} {fs:Array Field} {xs:List (DataW H×List MemPlace)} (j:xs.length=fs.size)
 (k: ∀(i:Nat) (f:Field),fs[i]? =some f->DataW.trod enc P w base spare held m f.type ((cs.drop f.offset).take (P.cellsOf f.type))=xs[i]?):
 ∀(l:List Field) (i off:Nat) (ss:List Sc),fs.toList.drop i=l->yJ P g off l=some ss->cs.length=off+ss.length-> ∃x:gY ss,cs.drop off=a7 ss x/\iX ss x
 |[],i,off,ss, _,h,d=>by
  simp only[yJ,Option.some.injEq] at h;subst h;refine⟨(),?_,trivial⟩;rw[Gd (by simp at d;omega)];rfl
 |f::r,i,off,ss,c,h,d=>by
  simp only[yJ] at h;split at h
  ·rename_i a o;split at h
   ·rename_i hc;split at h
    ·rename_i b hb;cases h;have hi:i<fs.toList.length:=by
      apply Nat.lt_of_not_le;intro p;rw[Gd p] at c;cases c
     have q:fs[i]? =some f:=by
      have:=congrArg (·[0]?) c;simp only[List.getElem?_drop,HB,List.getElem?_cons_zero] at this;simpa using this
     have n:=k i f q;have s: ∃y,xs[i]? =some y:=⟨_,Ae (by rw[j];simpa using hi)⟩;obtain⟨y,v⟩:=s;rw[v,hc.1,hc.2] at n;obtain⟨x,A,B⟩:=e _ _ _ _ o n;have C:fs.toList.drop (i+1)=r:=by
      have:=congrArg (List.drop 1) c;simpa[Gi] using this
     obtain⟨z,D,E⟩:=I7 e j k r (i+1) (off+a.length) b C hb (by rw[d];simp;omega);obtain⟨u,F,G⟩:=sj a b x z B E;refine⟨u,?_,G⟩;rw[F, <-A, <-D, <-Gi];exact(GH _ _).symm
    ·cases h
   ·cases h
  ·cases h
theorem Bf {a:List Sc} {cs:List AF}: ∀(n off:Nat),(∀i,i<n-> ∃x:gY a,(cs.drop (off+i*a.length)).take a.length=a7 a x/\iX a x)->cs.length=off+n*a.length->
 ∃x:gY (B3 n a).flatten,cs.drop off=a7 _ x/\iX _ x
 |0,off, _,b=>by
  refine⟨(),?_,trivial⟩;rw[Gd (by omega)];rfl
 |n+1,off,h,b=>by
  obtain⟨x,c,d⟩:=h 0 (by omega);obtain⟨z,e,f⟩:=Bf (a:=a) (cs:=cs) n (off+a.length) (λi hi=>by
   have:=h (i+1) (by omega);rw[show off+(i+1)*a.length=off+a.length+i*a.length by rw[Dr];omega] at this;exact this) (by rw[b,Dr];omega)
  obtain⟨u,g,j⟩:=sj a (B3 n a).flatten x z d f;refine⟨u,?_,j⟩;show _=a7 (a++(B3 n a).flatten) u;rw[g, <-c, <-e,H5,HB, <-Gi];exact(GH _ _).symm
theorem qj: ∀(d m:Nat) (t:Bs) (ss:List Sc) (cs:List AF) (y:DataW H×List MemPlace),rS P d t=some ss->DataW.trod enc P w base spare held m t cs=some y-> ∃x:gY ss,cs=a7 ss x/\iX ss x
 |0, _, _, _, _, _,h, _=>by simp[rS] at h
 |d+1,m,t,ss,cs,y,h,g=>by
  simp only[rS] at h;split at h
  ·rename_i k c;cases h;obtain⟨n,rfl, _,r⟩:=DataW.trod_int c g;exact⟨(n,()),rfl,r,trivial⟩
  ·rename_i c;cases h;obtain⟨b,rfl, _⟩:=DataW.trod_bool c g;exact⟨(b,()),rfl,trivial,trivial⟩
  ·rename_i fs c;split at h
   ·rename_i a j;split at h
    ·rename_i hc;cases h;obtain⟨xs,n, _, _,l,p,o⟩:=DataW.trod_struct c g;obtain⟨x,h1,f⟩:=I7 (λt ss cs y h1 f=>qj d n t ss cs y h1 f) p o fs.toList 0 0 _ rfl j (by rw[l,hc];omega);exact⟨x,by simpa using h1,f⟩
    ·cases h
   ·cases h
  ·rename_i n e c;split at h
   ·rename_i a j;split at h
    ·rename_i hc;cases h;obtain⟨xs,k, _, _,l,p,o⟩:=DataW.trod_array c g;obtain⟨x,h1,f⟩:=Bf (a:=a) (cs:=cs) n 0 (λi hi=>by
      have q:=o i hi;have s:xs[i]? =some xs[i]:=Ae (by omega);rw[s,hc.1] at q;rw[B4];exact qj d k e a _ _ j q) (by rw[l,hc.2];omega)
     exact⟨x,by simpa using h1,f⟩
    ·cases h
   ·cases h
  ·cases h
theorem vg {r:Reach} {a:Nat} {t:Bs} {v:AF} {b:DataW H} {ps:List MemPlace} (d:Nat) {ss:List Sc} (c:rS P d t=some ss) (f:(∃n e,P.underlying t=some (.array n e))\/ ∃fs,P.underlying t=some (.struct fs))
 (hv:Value.okWide P w r a t v) (h:DataW.Trod enc P w base spare held t v b ps): ∃x:gY ss,v= .agg ⟨a7 ss x⟩/\iX ss x:=by
 obtain⟨j,g⟩:=h;have hc: ∃cs,v= .agg cs:=by
  unfold Value.okWide at hv;rcases f with ⟨n,e,h⟩|⟨fs,h⟩<;>(rw[h] at hv;obtain⟨cs,fj, _⟩:=hv;exact⟨cs,fj⟩)
 obtain⟨cs,rfl⟩:=hc;obtain⟨x,h1,i⟩:=qj d _ _ _ _ _ c g;refine⟨x,?_,i⟩;have:cs.toList=a7 ss x:=h1;rw[<-this]
theorem od {t e:Bs} {a:Option AC} {n c:Nat} {p:DataW H} {ps:List MemPlace} (d:Nat) {ss:List Sc} (q:P.underlying t=some (.slice e)) (r:rS P d e=some ss) (hc:P.cellsOf e=ss.length)
 (h:DataW.Trod enc P w base spare held t (.slice a n c) p ps): ∃xs:List (gY ss),n=xs.length/\n<=maxLen/\Sl w (.agg ss) a xs/\ ∀x∈xs,iX ss x:=by
 obtain⟨F,s⟩:=h;rcases Deep.open_slice q s with ⟨fj, _⟩|⟨x,len,cap,m,k,D,G,fj, _,I,J,u, _,l⟩
 ·simp[Value.cells] at fj;obtain⟨rfl,rfl,rfl⟩:=fj;exact⟨[],rfl,GD _,λi x l=>by simp at l,λx l=>by simp at l⟩
 ·simp[Value.cells] at fj;obtain⟨rfl,rfl,rfl⟩:=fj;have K:n<=m:=by rw[u];split<;>omega
  have v: ∀i,i<n-> ∃y:gY ss,(∀j,j<ss.length->w.cell? ((x.add (i*ss.length)).add j)=(a7 ss y)[j]?)/\iX ss y:=by
   intro i hi;obtain⟨L,h1,g⟩:=l i (by omega);obtain⟨y,A,B⟩:=qj d _ _ _ _ _ r g;obtain⟨_,C,oW⟩:=World.cells?_some h1;rw[hc] at h1 C oW;refine⟨y,λj o=>?_,B⟩;rw[<-A];exact oW j o
  have: ∀k,k<=n-> ∃xs:List (gY ss),xs.length=k/\(∀i y,xs[i]? =some y->(∀j,j<ss.length->w.cell? ((x.add (i*ss.length)).add j)=(a7 ss y)[j]?)/\iX ss y):=by
   intro k
   induction k with
   |zero=>intro _;exact⟨[],rfl,λi y b=>by simp at b⟩
   |succ k E=>
    intro M;obtain⟨xs,h1,g⟩:=E (by omega);obtain⟨y,b⟩:=v k (by omega);refine⟨xs++[y],by simp[h1],λi z f=>?_⟩;by_cases hi:i<xs.length
    ·rw[E4 hi] at f;exact g i z f
    ·rw[Ga (by omega)] at f;have:i - xs.length=0:=by
      have:=(B1.1 f).1;simp at this;omega
     rw[this] at f;simp at f;subst f;rw[show i=k by omega];exact b
  obtain⟨xs,h1,g⟩:=this n (Db n);refine⟨xs,h1.symm,by omega,λi y b=>⟨rfl,x.add (i*ss.length),rfl,λj o=>(g i y b).1 j o⟩,λy b=>?_⟩;obtain⟨i,hi⟩:=Gj b;exact(g i y hi).2
end Go.RX
namespace Go.Proofs.YtlcenllcmeebhaaGreat
set_option maxRecDepth 100000
open Go.RX
section
variable {w0 w:A2} {L:List (Nat×List AF)}
def lK (ws:List Int) (f p t:Int):Nat->Int×Int×FT
 |0=>(f,3,(0,0,0,0,()))
 |k+1=>bE ws p t (lK ws f p t k)
def nc (ws:List Int) (f p t:Int):FT:=if uV f p t then(0,0,0,1,()) else(lK ws f p t 4).2.2
theorem Bh {ws:List Int} {p t:Int} {x:Int×Int×FT} (h:x.2.1= -1):bE ws p t x=x:=av h
theorem I8 {fr pg wt lv:Int} {fd:FT} {ep:Bool} {er:Int} {el:Bool} {ef:Int} (a:0<=lv/\lv<=3):(tookS fr pg wt lv fd ep er el ef).2.1= -1\/((tookS fr pg wt lv fd ep er el ef).2.1=lv - 1/\0<lv):=by
 unfold tookS;split
 ·exact .inl rfl
 ·split
  ·rename_i h;rw[DB,decide_eq_true_eq] at h;exact .inr ⟨bD (by omega) (by omega),by omega⟩
  ·split
   ·exact .inl rfl
   ·split<;>exact .inl rfl
theorem Xb (ws:List Int) (f p t:Int): ∀k:Nat,(lK ws f p t k).2.1= -1\/((lK ws f p t k).2.1=3 - (k:Int)/\k<=3)
 |0=> .inr ⟨rfl,by decide⟩
 |k+1=>by
  rcases Xb ws f p t k with h|⟨h,a⟩
  ·left;show(bE ws p t (lK ws f p t k)).2.1= -1;rw[Bh h];exact h
  ·show(bE ws p t (lK ws f p t k)).2.1= -1\/((bE ws p t (lK ws f p t k)).2.1=3 - ((k+1:Nat):Int)/\k+1<=3);generalize lK ws f p t k=x at h;unfold bE;rw[ao (by omega)];split
   ·exact .inl rfl
   ·rcases I8 (fr:=x.1) (pg:=p) (wt:=t) (lv:=x.2.1) (fd:=x.2.2) (by omega) with e|⟨e,b⟩
    ·exact .inl (e ..)
    ·exact .inr ⟨by rw[e];omega,by omega⟩
theorem xC {ws:List Int} {f p t:Int} {k:Nat} (h:(lK ws f p t k).2.1= -1): ∀j,lK ws f p t (k+j)=lK ws f p t k
 |0=>rfl
 |j+1=>by
  show bE ws p t (lK ws f p t (k+j))= _;rw[xC h j,Bh h]
end
theorem set_perm {α:Type} (a:α): ∀(L:List α) (j:Nat),j<L.length->(L.set j a).Perm (a::L.eraseIdx j)
 |[], _,h=>by simp at h
 |x::L,0, _=>by simp
 |x::L,j+1,h=>by
  rw[List.set_cons_succ,List.eraseIdx_cons_succ];exact((set_perm a L j (by simpa using h)).cons x).trans (.swap a x _)
theorem Pe {α:Type} {L:List α} {j:Nat} {a:α} (b:L[j]? =some a):L.set j a=L:=by
 apply FC;intro n;by_cases e:j=n
 ·subst e;rw[DE (B1.1 b).1,b]
 ·rw[Cd e]
theorem Zv {α:Type} {L:List α} {j c:Nat} {a b:α} (d:L[j]? =some a) (hb:L[c]? =some b) (h:j≠c): ∃f,L.Perm (a::b::f)/\ ∀a',(L.set j a').Perm (a'::b::f):=by
 have g:j<L.length:=(B1.1 d).1;have k:b∈L.eraseIdx j:=by
  rw[List.mem_eraseIdx_iff_getElem?];exact⟨c,λe=>h e.symm,hb⟩
 obtain⟨i,hi⟩:=Gj k;have l:i<(L.eraseIdx j).length:=(B1.1 hi).1;have p2:(L.eraseIdx j).Perm (b::(L.eraseIdx j).eraseIdx i):=by
  have:=set_perm b (L.eraseIdx j) i l;rwa[Pe hi] at this
 refine⟨(L.eraseIdx j).eraseIdx i,?_,λa'=>(set_perm a' L j g).trans (p2.cons a')⟩;have:=(set_perm a L j g).trans (p2.cons a);rwa[Pe d] at this
section
variable {w0 w:A2} {L:List (Nat×List AF)}
end
end Go.Proofs.YtlcenllcmeebhaaGreat
namespace Go.Proofs.YtlcenllcmeebhaaGreat.D
set_option maxRecDepth 100000
open Go.RX
noncomputable def D0:dJ AB:={C3 with vE:=true}
theorem Rk (a:Int) (w:A2) (k:Option AC×Nat×Nat->A2->Prop):(aK D0 (λ_=>[]) 246 [aa a] w k)=(
 ∀w1,Ext w w1->aN (w1.alloc (Obj.map ⟨[]⟩ 0)) ⟨[aa 1,aa 2,aa 3,aa 4]⟩ 3 λb c=> ∀e,Ext c e-> ∃(r:Nat), ∃(es:Array AH), ∃(d:Nat),some w1.heap.size=some r/\bF e r es d/\gR e r .i64 0 (.slice (af b) 4 4) es d λc=>aN c ⟨[aa 0,aa 2,aa 3,aa 4]⟩ 3 λb c=> ∀f,Ext c f-> ∃(r:Nat), ∃(es:Array AH), ∃(d:Nat),some w1.heap.size=some r/\bF f r es d/\gR f r .i64 1 (.slice (af b) 4 4) es d λc=>aN c ⟨[aa 5,.int
 .i64 0]⟩ 3 λb c=> ∀g,Ext c g-> ∃(r:Nat), ∃(es:Array AH), ∃(d:Nat),some w1.heap.size=some r/\bF g r es d/\gR g r .i64 2 (.slice (af b) 2 2) es d λc=>aN c ⟨[aa 5,aa 0]⟩ 3 λb c=> ∀h,Ext c h-> ∃(r:Nat), ∃(es:Array AH), ∃(d:Nat),some w1.heap.size=some r/\bF h r es d/\gR h r .i64 3 (.slice (af b) 2 2) es d λc=>aN c ⟨[aa 5,aa 0,aa 4]⟩ 3 λb c=> ∀i,Ext c i-> ∃(r:Nat), ∃(es:Array AH), ∃(d:Nat),some
 w1.heap.size=some r/\bF i r es d/\gR i r .i64 4 (.slice (af b) 3 3) es d λc=>aN c ⟨[aa 0]⟩ 3 λb c=> ∀j,Ext c j-> ∃(r:Nat), ∃(es:Array AH), ∃(d:Nat),some w1.heap.size=some r/\bF j r es d/\gR j r .i64 5 (.slice (af b) 1 1) es d λc=> ∃(x:Option AC×Nat×Nat),jS c (some w1.heap.size) .i64 a (.slice none 0 0) (.slice x.1 x.2.1 x.2.2)/\au c (k (x.1,x.2.1,x.2.2))):=by kernel_rfl
def zB:Nat->aZ:=(λ|2=>[(10,Go.RX.El.one (Go.RX.Sc.int B2))]| _=>[])
theorem Zw (a b:Int) (w:A2) (Post:Bool->A2->Prop):(aK D0 zB 234 [aa a,aa b] w Post)=(
 aA AB 246 (.el (.one .slice)) [aa a] w λx f=> ∀(c:Int),c=(↑x.2.1:Int)-> ∃(I:Nat->Int×Unit->A2->Prop),(∃n, ∀w1,Ext f w1->I n (0,()) w1)/\ ∀(n:Nat) (s:Int×Unit) (w1:A2),I n s w1->aI (decide (s.1<c)) ((x.1.isSome=true/\0<=s.1/\s.1<(↑x.2.1:Int))/\aj w1 none (ad x.1 (Int.toNat s.1*1)) (.one (.int .i64)) λ(x:Int)=>aI (x==b) (au w1 λw1=>Post true w1) (∀(x:Int),x=aJ .i64 s.1 1-> ∀d,Ext w1 d-> ∃(e:Nat),e<n/\I e (x,()) d)) (au w1 λw1=>Post false w1)):=by
 kernel_rfl
theorem xA {w:A2} {r:Nat} {k:IntKind} {n:Int} {val:AF} {es:Array AH} {a:Nat} {K:A2->Prop} (h:Dh (.int k) (.int k n) es.toList 0=some none)
 (b:K (w.putObj r (.map (es.push {key:= .int k n,val,born:=a}) (a+1)))):gR w r k n val es a K:=by
 unfold gR;rw[h];exact b
theorem mU {w0 a c:A2} {r:Nat} {es:Array AH} {b:Nat} {l:List AF} {t:Bs} {n:Int} {bs:List (Nat×List AF)} {val:AF} {K:A2->Prop}
 (o:Ext w0 a) (p:w0.heap.size<=r) (q:bF a r es b) (hb: ∀x∈bs,bK a x.1 x.2/\x.1≠r) (g:Ext (a.alloc (.cells ⟨l⟩ t)) c)
 (s:Dh (.int .i64) (aa n) es.toList 0=some none)
 (k: ∀e,Ext w0 e->bF e r (es.push {key:=aa n,val,born:=b}) (b+1)->(∀x∈(a.heap.size,l)::bs,bK e x.1 x.2/\x.1≠r)->K e):
 ∃r' h i,some r=some r'/\bF c r' h i/\gR c r' .i64 n val h i K:=by
 have j:a.heap[r]? =some (.map es b):=q;have u:r<a.heap.size:=(Array.getElem?_eq_some_iff.1 j).1;have f:Ext a c:=(Ext.alloc a _).trans g;have m:c.heap[r]? =some (.map es b):=f.obj j;refine⟨r,es,b,rfl,m,xA s (k _ ((o.trans f).putObj p _) ?_ ?_)⟩
 ·exact jY (Array.getElem?_eq_some_iff.1 m).1
 ·intro x d;rcases FV.1 d with rfl|d
  ·have:a.heap.size≠r:=by omega
   exact⟨((bK.new a l t).ext g).putObj this _,this⟩
  ·exact⟨((hb x d).1.ext f).putObj (hb x d).2 _,(hb x d).2⟩
def fw (a:Int):List Int:=if a=0 then[1,2,3,4] else if a=1 then[0,2,3,4] else if a=2 then[5,0] else if a=3 then[5,0] else if a=4 then[5,0,4] else if a=5 then[0] else[]
theorem Rl (a:Int) (w:A2):aC AB 246 (.el (.one .slice)) [aa a] w (λr w'=>Sl w' eI r.1 (fw a)/\r.2.1=(fw a).length/\Ext w w'):=by
 refine ai (C:=D0) (aQ:=λ_=>[]) (AG (Rk a w _) ?_);intro w1 h1 j p Z B;have m0:bF j w1.heap.size #[] 0:=p.obj (fB w1 _);have step: ∀{W:A2} {bs:List (Nat×List AF)} {r:Nat},(∀x∈bs,bK W x.1 x.2/\x.1≠r)-> ∀{q:A2},Ext W q-> ∀x∈bs,bK q x.1 x.2/\x.1≠r:=
  λh _ e x c=>⟨(h x c).1.ext e,(h x c).2⟩
 refine mU (bs:=[]) ((h1.iZ _).trans p) h1.size m0 (λx c=>by cases c) B rfl λW0 E0 M0 B0 s k w5 D=>?_;refine mU (E0.trans k) h1.size (k.obj M0) (step B0 k) D rfl λW1 E1 M1 E t l w7 F=>?_;refine mU (E1.trans l) h1.size (l.obj M1) (step E l) F rfl λW2 E2 M2 G u m w9 H=>?_;refine mU (E2.trans m) h1.size (m.obj M2) (step G m) H rfl λW3 E3 M3 I v n oJ J=>?_;refine mU (E3.trans n) h1.size (n.obj M3) (step I n) J rfl λW4 K L M y o To N=>?_;refine mU (K.trans o) h1.size (o.obj L) (step M o) N rfl λf O b d=>?_;have P:=(d (j.heap.size,[aa 1,aa 2,aa 3,aa 4]) (by simp)).1;have Q:=(d (s.heap.size,[aa 0,aa 2,aa 3,aa 4]) (by simp)).1;have R:=(d (t.heap.size,[aa 5,aa 0]) (by simp)).1;have S:=(d (u.heap.size,[aa 5,aa 0]) (by simp)).1;have T:=(d (v.heap.size,[aa 5,aa 0,aa 4]) (by simp)).1;have U:=(d (y.heap.size,[aa 0]) (by simp)).1;have fin: ∀(x:Option AC×Nat×Nat),jS f (some w1.heap.size) .i64 a (.slice none 0 0) (.slice x.1 x.2.1 x.2.2)->Sl f eI x.1 (fw a)->x.2.1=(fw a).length->
  ∃x:Option AC×Nat×Nat,jS f (some w1.heap.size) .i64 a (.slice none 0 0) (.slice x.1 x.2.1 x.2.2)/\ ∀g,Ext f g->Sl g eI (x.1,x.2.1,x.2.2).1 (fw a)/\(x.1,x.2.1,x.2.2).2.1=(fw a).length/\Ext w g:=
  λx V X Y=>⟨x,V,λg z=>⟨X.ext z,Y,O.trans z⟩⟩
 by_cases c0:a=0
 ·subst c0;exact fin (some ⟨j.heap.size,0,none⟩,4,4) ⟨_, _, _,rfl,b,rfl⟩ (Sl.jI P rfl) rfl
 by_cases c1:a=1
 ·subst c1;exact fin (some ⟨s.heap.size,0,none⟩,4,4) ⟨_, _, _,rfl,b,rfl⟩ (Sl.jI Q rfl) rfl
 by_cases c2:a=2
 ·subst c2;exact fin (some ⟨t.heap.size,0,none⟩,2,2) ⟨_, _, _,rfl,b,rfl⟩ (Sl.jI R rfl) rfl
 by_cases c3:a=3
 ·subst c3;exact fin (some ⟨u.heap.size,0,none⟩,2,2) ⟨_, _, _,rfl,b,rfl⟩ (Sl.jI S rfl) rfl
 by_cases c4:a=4
 ·subst c4;exact fin (some ⟨v.heap.size,0,none⟩,3,3) ⟨_, _, _,rfl,b,rfl⟩ (Sl.jI T rfl) rfl
 by_cases c5:a=5
 ·subst c5;exact fin (some ⟨y.heap.size,0,none⟩,1,1) ⟨_, _, _,rfl,b,rfl⟩ (Sl.jI U rfl) rfl
 have A:fw a=[]:=by
  unfold fw;rw[ao c0,ao c1,ao c2,ao c3,ao c4,ao c5]
 refine fin (none,0,0) ⟨_, _, _,rfl,b,?_⟩ (by rw[A];intro i x c;simp at c) (by rw[A];rfl);have d0:(a==0)=false:=by simp[c0]
 have d1:(a==1)=false:=by simp[c1]
 have d2:(a==2)=false:=by simp[c2]
 have d3:(a==3)=false:=by simp[c3]
 have d4:(a==4)=false:=by simp[c4]
 have d5:(a==5)=false:=by simp[c5]
 simp only[Array.toList_push,List.nil_append,J5,Dh,JS,if_true,B4,d0,d1,d2,d3,d4,d5]
theorem Ll (a:Int):(fw a).length<=4:=by
 unfold fw
 repeat (split; ·decide)
 decide
theorem Zx (a b:Int) (w:A2):aC AB 234 (.el (.one .bool)) [aa a,aa b] w (λx w'=>x=decide (b∈fw a)/\Ext w w'):=by
 refine ai (C:=D0) (aQ:=zB) (AG (Zw a b w _) ?_);intro w1 h1;refine(Rl a w1).mono ?_;rintro⟨p,n,c⟩ A ⟨q,B,t⟩ x1 v;dsimp only at v B q;subst v;have F:=Ll a;refine⟨λk s w'=>Ext A w'/\ ∃i:Nat,s.1=i/\k+i=n/\ ∀j,j<i->(fw a)[j]? ≠some b,⟨n,λD d=>⟨d,0,rfl,rfl,λj g=>absurd g (by omega)⟩⟩,?_⟩;rintro k ⟨G,u⟩ D ⟨d,i,hi,H,g⟩;simp only at hi;subst hi;dsimp only;refine ab (λh=>?_) (λh=>λy f=>⟨?_,((h1.trans t).trans d).trans f⟩)
 ·simp only[decide_eq_true_eq] at h;have l:i<(fw a).length:=by omega
  have r:=(q.ext d) i _ (Ae l);refine⟨⟨r.1,by omega,by omega⟩, _,r.2,ab (λm y f=>⟨?_,((h1.trans t).trans d).trans f⟩) (λm x E y f=>⟨k - 1,by omega,d.trans f,i+1,by rw[E,ax (by omega) (by omega)];rfl,by omega,?_⟩)⟩
  ·have:(fw a)[i]=b:=by simpa using m
   have o:b∈fw a:=by rw[<-this];exact GF l
   simp[o]
  ·intro j I;by_cases e:j=i
   ·subst e;rw[Ae l];intro hc;simp only[Option.some.injEq] at hc;simp[hc] at m
   ·exact g j (by omega)
 ·simp only[decide_eq_false_iff_not] at h;have: ¬ b∈fw a:=by
   intro o;obtain⟨j,z⟩:=Gj o;have:=(B1.1 z).1;exact g j (by omega) z
  simp[this]
noncomputable def YF:Entry AB where
 f:=234
 fn l:=match l with
  |[.int .i64 a,.int .i64 b]=>some (True,.bool (decide (b∈fw a)))
  | _=>none
 ok args pre v h c w:=by
  split at h
  ·rename_i a b;cases h;exact bU (Zx a b w)
  ·cases h
noncomputable def D1:dJ AB:={D0 with sr:=[tn,vF,FL,FM,YF]}
abbrev v_ (c:Bool->A2->Prop) (a:A2) (b:Nat):Prop:=
 aj a none (af b) dS λ(x:Int×Int×Int×Int×Unit)=>true=true/\aU a (ad (af b) 0) λd=>au a λw1=>c (x.1==d&&(x.2.1==0&&(x.2.2.1==0&&(x.2.2.2.1==0&&true)))) w1
abbrev wc (c:Bool->A2->Prop) (a:A2) (b:Nat):Prop:=
 true=true/\aU a (ad (af b) 1) λx=>(decide (x>0)=true->true=true)/\aj a (some (decide (x>0))) (ad (af b) 3) aT λ(d:Int)=>au a (c (decide (x>0)&&d==0))
abbrev wg (b:Bool->A2->Prop) (c:Int) (a:A2) (d:Nat):Prop:=
 aI (c==5) (true=true/\aU a (ad (af d) 2) λx=>au a (b (x==0))) (au a (b false))
abbrev wh (d:Bool->A2->Prop) (b:Int) (a:A2) (c:Nat):Prop:=
 aI (b==2) (true=true/\aU a (ad (af c) 1) λx=>((x==0)=true->true=true)/\aj a (some (x==0)) (ad (af c) 3) aT λ(e:Int)=>au a (d (x==0&&e==0))) (aI (b==3) (aI (b==3) (wc d a c) (wg d b a c)) (aI (b==4) (wc d a c) (wg d b a c)))
theorem yY (k o r e:Int) (w:A2) (f:Bool->A2->Prop):(aK D1 (λ_=>[]) 233 [.agg ⟨[aa k,aa o,aa r,aa e]⟩] w f)=(
 aN w ⟨[aa k,aa o,aa r,aa e]⟩ 52 λb a=>true=true/\aU a (ad (af b) 1) λx=>((!decide (x<0))=true->true=true)/\aj a (some !decide (x<0)) (ad (af b) 1) aT λ(c:Int)=>((!(decide (x<0)||decide (c>16)))=true->true=true)/\aj a (some !(decide (x<0)||decide (c>16))) (ad (af b) 2) aT λ(d:Int)=>((!(decide (x<0)||decide (c>16)||decide (d<0)))=true->true=true)/\aj a (some !(decide (x<0)||decide (c>16)||decide (d<0))) (ad (af b) 2) aT λ(g:Int)=>
 ((!(decide (x<0)||decide (c>16)||decide (d<0)||decide (g>65535)))=true->true=true)/\aj a (some !(decide (x<0)||decide (c>16)||decide (d<0)||decide (g>65535))) (ad (af b) 3) aT λ(h:Int)=>((!(decide (x<0)||decide (c>16)||decide (d<0)||decide (g>65535)||decide (h<0)))=true->true=true)/\aj a (some !(decide (x<0)||decide (c>16)||decide (d<0)||decide (g>65535)||decide (h<0))) (ad (af b) 3) aT λ(i:Int)=>aI (decide (x<0)||decide (c>16)||decide (d<0)||
 decide (g>65535)||decide (h<0)||decide (i>4294967295)) (au a (f false)) (true=true/\aU a (ad (af b) 0) λx=>aI (x==0) (aI (x==0) (v_ f a b) (wh f x a b)) (aI (x==1) (v_ f a b) (wh f x a b)))):=by kernel_rfl
def jK (k o r e:Int):Prop:=(0<=o/\o<=16/\0<=r/\r<=65535/\0<=e/\e<=4294967295)/\(((k=0\/k=1)/\o=0/\r=0/\e=0)\/(k=2/\o=0/\e=0)\/((k=3\/k=4)/\0<o/\e=0)\/(k=5/\r=0))
instance (k o r e:Int):Decidable (jK k o r e):=by unfold jK;infer_instance
def dT (k o r e:Int):Bool:=decide (jK k o r e)
theorem Ln {k o r e:Int} {b:Bool} (h:b=true<->jK k o r e):b=dT k o r e:=by
 unfold dT;rw[JQ,decide_eq_true_eq];exact h
theorem yZ (k o r e:Int) (w:A2):aC AB 233 (.el (.one .bool)) [.agg ⟨[aa k,aa o,aa r,aa e]⟩] w (λb w'=>b=dT k o r e/\Ext w w'):=by
 refine ai (C:=D1) (aQ:=λ_=>[]) (AG (yY k o r e w _) ?_);have H:=At.start [] w
 repeat' (first
  |exact Go.RX.aL.all H
  |exact AT (by first|rfl|decide+kernel) (Go.RX.aL.all H)
  |refine AT (by first|exact rfl|exact trivial|exact λ_=>rfl|exact λ_=>trivial|exact⟨rfl,by decide,by decide⟩|exact⟨by decide,by decide⟩|decide+kernel|exact λ_=>by decide|exact λ_=>⟨rfl,by decide,by decide⟩|(dsimp only[B5,BO];exact⟨rfl,by decide,by decide⟩)) ?_
  |refine aj.cv 0 H rfl rfl ?_
  |refine aj.at 0 H rfl rfl ?_
  |refine aN.go H λb w1 H=>?_
  |refine az.all 0 H rfl rfl rfl λw1 H=>?_
  |refine az.e8 0 H rfl rfl rfl λw1 H=>?_
  |refine az.one 0 H rfl rfl rfl λw1 H=>?_
  |with_reducible refine au.go H λw1 H=>?_
  |refine jJ ?_
  |refine aB (by assumption) ?_
  |refine an (by assumption) ?_
  |refine ab (λc=>?_) (λc=>?_))
 all_goals
  refine AT (Ln ?_) H.all;simp only[Dd,DA,DB,Hr,beq_iff_eq,beq_eq_false_iff_ne,bne_iff_ne,bne_eq_false_iff_eq,decide_eq_true_eq,decide_eq_false_iff_not,I1,I2,FQ,IE,and_true,true_and,and_false,false_and,or_true,true_or,or_false,false_or,ne_eq,not_true_eq_false,not_false_eq_true,false_iff,iff_false,true_iff,iff_true] at*
  unfold jK;omega
noncomputable def u6:Entry AB where
 f:=233
 fn l:=match l with
  |[.agg ⟨[.int .i64 k,.int .i64 o,.int .i64 r,.int .i64 e]⟩]=>some (True,.bool (dT k o r e))
  | _=>none
 ok args pre v h a w:=by
  split at h
  ·rename_i k o r e;cases h;exact bU (yZ k o r e w)
  ·cases h
noncomputable def D2:dJ AB:={D0 with sr:=[tn,vF,FL,FM,YF,u6]}
abbrev zC (d:(Int×Int×Int×Int×Unit)×Int×Unit->A2->Prop) (a:A2) (e:Nat) (b:Nat):Prop:=
 aj a none (af e) dS λ(x:Int×Int×Int×Int×Unit)=>True/\aI (!dT x.1 x.2.1 x.2.2.1 x.2.2.2.1) (az a (af b) [aa 0,aa 0,aa 0,aa 0] λc=>au c λw1=>aj w1 none (af b) dS λ(x:Int×Int×Int×Int×Unit)=>d ((x.1,x.2.1,x.2.2.1,x.2.2.2.1,()),1,()) w1) (aj a none (af e) dS λ(x:Int×Int×Int×Int×Unit)=>az a (af b) [aa x.1,aa x.2.1,aa x.2.2.1,aa x.2.2.2.1] λc=>au c λw1=>aj w1 none (af b) dS λ(x:Int×Int×Int×Int×
 Unit)=>d ((x.1,x.2.1,x.2.2.1,x.2.2.2.1,()),0,()) w1)
theorem UZ (k o r e x y:Int) (w:A2) (d:(Int×Int×Int×Int×Unit)×Int×Unit->A2->Prop):(bQ D2 (λ_=>[]) 192 [.agg ⟨[aa k,aa o,aa r,aa e]⟩,aa x,aa y] w d)=(
 aN w ⟨[aa k,aa o,aa r,aa e]⟩ 52 λb a=>aN a ⟨[aa 0,aa 0,aa 0,aa 0]⟩ 52 λc a=>aj a none (af b) dS λ(f:Int×Int×Int×Int×Unit)=>True/\aI (!dT f.1 f.2.1 f.2.2.1 f.2.2.2.1) (az a (af c) [aa 0,aa 0,aa 0,aa 0] λa=>au a λw1=>aj w1 none (af c) dS λ(x:Int×Int×Int×Int×Unit)=>d ((x.1,x.2.1,x.2.2.1,x.2.2.2.1,()),11,()) w1) (true=true/\aU a (ad (af b) 2) λg=>aI (decide (g>0)) (az a
 (af c) [aa 0,aa 0,aa 0,aa 0] λa=>au a λw1=>aj w1 none (af c) dS λ(x:Int×Int×Int×Int×Unit)=>d ((x.1,x.2.1,x.2.2.1,x.2.2.2.1,()),9,()) w1) (true=true/\aU a (ad (af b) 0) λh=>True/\aI (!decide (x∈fw h)) (az a (af c) [aa 0,aa 0,aa 0,aa 0] λa=>au a λw1=>aj w1 none (af c) dS λ(x:Int×Int×Int×Int×Unit)=>d ((x.1,x.2.1,x.2.2.1,x.2.2.2.1,()),6,()) w1) (aI (x==5) (true=true/\aU a (ad (af
 b) 1) λi=>aN a ⟨[aa 0,aa 0,aa 0,aa 0]⟩ 52 λb a=>az a (af b) [aa x,aa i,aa 0,aa 0] λa=>zC d a b c) (aN a ⟨[aa 0,aa 0,aa 0,aa 0]⟩ 52 λb a=>az a (af b) [aa x,aa y,aa 0,aa 0] λa=>zC d a b c))))):=by kernel_rfl
theorem Zy (k o r e x:Int) (w:A2) (d:(Int×Int×Int×Int×Unit)×Int×Unit->A2->Prop):(bQ D2 (λ_=>[]) 228 [.agg ⟨[aa k,aa o,aa r,aa e]⟩,aa x] w d)=(
 aN w ⟨[aa k,aa o,aa r,aa e]⟩ 52 λb a=>aN a ⟨[aa 0,aa 0,aa 0,aa 0]⟩ 52 λc a=>aj a none (af b) dS λ(g:Int×Int×Int×Int×Unit)=>True/\aI (!dT g.1 g.2.1 g.2.2.1 g.2.2.2.1) (az a (af c) [aa 0,aa 0,aa 0,aa 0] λa=>au a λw1=>aj w1 none (af c) dS λ(x:Int×Int×Int×Int×Unit)=>d ((x.1,x.2.1,x.2.2.1,x.2.2.2.1,()),11,()) w1) (true=true/\aU a (ad (af b) 0) λf=>((f != 2)=true->true=
 true)/\aj a (some (f != 2)) (ad (af b) 0) aT λ(i:Int)=>((f != 2&&i != 3)=true->true=true)/\aj a (some (f != 2&&i != 3)) (ad (af b) 0) aT λ(l:Int)=>aI (f != 2&&i != 3&&l != 4) (az a (af c) [aa 0,aa 0,aa 0,aa 0] λa=>au a λw1=>aj w1 none (af c) dS λ(x:Int×Int×Int×Int×Unit)=>d ((x.1,x.2.1,x.2.2.1,x.2.2.2.1,()),6,()) w1) (true=true/\aU a (ad (af b) 2) λm=> ∀(h:Int),h=aY .i64 65535 m->((!decide (x>h))=true->
 true=true)/\aj a (some !decide (x>h)) (ad (af b) 2) aT λ(n:Int)=>aI (decide (x>h)||decide (x<aY .i64 0 n)) (az a (af c) [aa 0,aa 0,aa 0,aa 0] λa=>au a λw1=>aj w1 none (af c) dS λ(x:Int×Int×Int×Int×Unit)=>d ((x.1,x.2.1,x.2.2.1,x.2.2.2.1,()),2,()) w1) (true=true/\aU a (ad (af b) 2) λp=> ∀(j:Int),j=aJ .i64 p x->true=true/\az a (ad (af b) 2) [aa j] λa=>aj a none (af b) dS λ(x:Int×Int×Int×Int×Unit)=>
 az a (af c) [aa x.1,aa x.2.1,aa x.2.2.1,aa x.2.2.2.1] λa=>au a λw1=>aj w1 none (af c) dS λ(x:Int×Int×Int×Int×Unit)=>d ((x.1,x.2.1,x.2.2.1,x.2.2.2.1,()),0,()) w1)))):=by kernel_rfl
def gN (k o r e x y:Int):Int:=if dT k o r e=false then 11 else if r>0 then 9 else if x∈fw k then(if dT x (if x=5 then o else y) 0 0=false then 1 else 0) else 6
def mI (k o r e x y:Int):Int:=if gN k o r e x y=0 then x else 0
def k_ (k o r e x y:Int):Int:=if gN k o r e x y=0 then(if x=5 then o else y) else 0
theorem U6 (k o r e x y:Int) (w:A2):aC AB 192 (.bu [(.agg [.int .i64,.int .i64,.int .i64,.int .i64]),.one (.int .i64)]) [.agg ⟨[aa k,aa o,aa r,aa e]⟩,aa x,aa y] w
 (λv w'=>v=((mI k o r e x y,k_ k o r e x y,(0:Int),(0:Int),()),gN k o r e x y,())/\Ext w w'):=by
 refine aR (C:=D2) (aQ:=λ_=>[]) (AG (UZ k o r e x y w _) ?_);have H:=At.start [] w
 repeat' (first
  |exact Go.RX.aL.all H
  |exact AT (by first|rfl|decide+kernel) (Go.RX.aL.all H)
  |refine AT (by first|exact rfl|exact trivial|exact λ_=>rfl|exact λ_=>trivial|exact⟨rfl,by decide,by decide⟩|exact⟨by decide,by decide⟩|decide+kernel|exact λ_=>by decide|exact λ_=>⟨rfl,by decide,by decide⟩|(dsimp only[B5,BO];exact⟨rfl,by decide,by decide⟩)) ?_
  |refine aj.cv 0 H rfl rfl ?_
  |refine aj.cv 1 H rfl rfl ?_
  |refine aj.cv 2 H rfl rfl ?_
  |refine aj.at 0 H rfl rfl ?_
  |refine aj.at 1 H rfl rfl ?_
  |refine aj.at 2 H rfl rfl ?_
  |refine aN.go H λb w1 H=>?_
  |refine az.all 0 H rfl rfl rfl λw1 H=>?_
  |refine az.all 1 H rfl rfl rfl λw1 H=>?_
  |refine az.all 2 H rfl rfl rfl λw1 H=>?_
  |refine az.e8 0 H rfl rfl rfl λw1 H=>?_
  |refine az.e8 1 H rfl rfl rfl λw1 H=>?_
  |refine az.e8 2 H rfl rfl rfl λw1 H=>?_
  |refine az.one 0 H rfl rfl rfl λw1 H=>?_
  |refine az.one 1 H rfl rfl rfl λw1 H=>?_
  |refine az.one 2 H rfl rfl rfl λw1 H=>?_
  |with_reducible refine au.go H λw1 H=>?_
  |refine jJ ?_
  |refine aB (by assumption) ?_
  |refine an (by assumption) ?_
  |refine ab (λc=>?_) (λc=>?_))
 all_goals
  refine AT ?_ H.all;simp only[Dd,DA,DB,Hr,beq_iff_eq,beq_eq_false_iff_ne,bne_iff_ne,bne_eq_false_iff_eq,decide_eq_true_eq,decide_eq_false_iff_not,I1,I2,FQ,IE,and_true,true_and,and_false,false_and,or_true,true_or,or_false,false_or,ne_eq,not_true_eq_false,not_false_eq_true,false_iff,iff_false,true_iff,iff_true] at*
  first
   |(simp[mI,k_,gN, *];done)
   |(subst_vars;simp[mI,k_,gN, *])
def wY (k o r e x:Int):Int:=if dT k o r e=false then 11 else if k=2\/k=3\/k=4 then(if r+x<0\/r+x>65535 then 2 else 0) else 6
def qC (k o r e x:Int):Int×Int×Int×Int×Unit:=if wY k o r e x=0 then(k,o,r+x,e,()) else(0,0,0,0,())
theorem Zz (k o r e x:Int) (l: -9223372036854775808<=x/\x<9223372036854775808) (w:A2):aC AB 228 (.bu [(.agg [.int .i64,.int .i64,.int .i64,.int .i64]),.one (.int .i64)]) [.agg ⟨[aa k,aa o,aa r,aa e]⟩,aa x] w
 (λv w'=>v=(qC k o r e x,wY k o r e x,())/\Ext w w'):=by
 refine aR (C:=D2) (aQ:=λ_=>[]) (AG (Zy k o r e x w _) ?_);have H:=At.start [] w
 repeat' (first
  |exact Go.RX.aL.all H
  |exact AT (by first|rfl|decide+kernel) (Go.RX.aL.all H)
  |refine AT (by first|exact rfl|exact trivial|exact λ_=>rfl|exact λ_=>trivial|exact⟨rfl,by decide,by decide⟩|exact⟨by decide,by decide⟩|decide+kernel|exact λ_=>by decide|exact λ_=>⟨rfl,by decide,by decide⟩|(dsimp only[B5,BO];exact⟨rfl,by decide,by decide⟩)) ?_
  |refine aj.cv 0 H rfl rfl ?_
  |refine aj.cv 1 H rfl rfl ?_
  |refine aj.cv 2 H rfl rfl ?_
  |refine aj.at 0 H rfl rfl ?_
  |refine aj.at 1 H rfl rfl ?_
  |refine aj.at 2 H rfl rfl ?_
  |refine aN.go H λb w1 H=>?_
  |refine az.all 0 H rfl rfl rfl λw1 H=>?_
  |refine az.all 1 H rfl rfl rfl λw1 H=>?_
  |refine az.all 2 H rfl rfl rfl λw1 H=>?_
  |refine az.e8 0 H rfl rfl rfl λw1 H=>?_
  |refine az.e8 1 H rfl rfl rfl λw1 H=>?_
  |refine az.e8 2 H rfl rfl rfl λw1 H=>?_
  |refine az.one 0 H rfl rfl rfl λw1 H=>?_
  |refine az.one 1 H rfl rfl rfl λw1 H=>?_
  |refine az.one 2 H rfl rfl rfl λw1 H=>?_
  |with_reducible refine au.go H λw1 H=>?_
  |refine jJ ?_
  |refine aB (by assumption) ?_
  |refine an (by assumption) ?_
  |refine ab (λc=>?_) (λc=>?_))
 all_goals
  refine AT ?_ H.all;simp only[Dd,DA,DB,Hr,beq_iff_eq,beq_eq_false_iff_ne,bne_iff_ne,bne_eq_false_iff_eq,decide_eq_true_eq,decide_eq_false_iff_not,I1,I2,FQ,IE,and_true,true_and,and_false,false_and,or_true,true_or,or_false,false_or,ne_eq,not_true_eq_false,not_false_eq_true,false_iff,iff_false,true_iff,iff_true] at*
 ·simp[qC,wY, *]
 ·have a: ¬ (k=2\/k=3\/k=4):=by omega
  simp[qC,wY, *]
 all_goals
  have d:dT k o r e=true:=by assumption
  have g:jK k o r e:=of_decide_eq_true d;unfold jK at g;have h:aY .i64 65535 r=65535 - r:=bD (by omega) (by omega);have i:aY .i64 0 r=0 - r:=bD (by omega) (by omega);simp only[h,i] at*
  have a:k=2\/k=3\/k=4:=by omega
 ·have f:r+x<0\/r+x>65535:=by omega
  simp[qC,wY, *]
 ·have f: ¬ (r+x<0\/r+x>65535):=by omega
  have j:aJ .i64 r x=r+x:=ax (by omega) (by omega);have:wY k o r e x=0:=by unfold wY;rw[ao (by rw[d];decide),av a,ao f]
  unfold qC;rw[this,av rfl,j]
theorem Iw {x:Int} (h:0<=x) (h':x<18446744073709551616):(B x).toNat=x.toNat:=by
 have:=BZ h h';unfold U at this;omega
theorem eK (x:Int):aF .u64 x=U (B x):=Y8 x
def fE (N:Nat):Int:=((N / 4294967296 % 4294967296:Nat):Int)
theorem ab2 {x:Int} (h:0<=x) (h':x<4294967296):aF .i64 x=x:=gu (by omega) (by omega)
theorem cE (N:Nat):aF .i64 (fE N)=fE N:=ab2 (by unfold fE;omega) (by unfold fE;omega)
noncomputable def aa6:Entry AB where
 f:=192
 fn l:=match l with
  |[.agg ⟨[.int .i64 k,.int .i64 o,.int .i64 r,.int .i64 e]⟩,.int .i64 x,.int .i64 y]=>some (True,.tuple ⟨[.agg ⟨[.int .i64 (mI k o r e x y),.int .i64 (k_ k o r e x y),.int .i64 0,.int .i64 0]⟩,.int .i64 (gN k o r e x y)]⟩)
  | _=>none
 ok args pre v h a w:=by
  split at h
  ·rename_i k o r e x y;cases h;exact bU (U6 k o r e x y w)
  ·cases h
noncomputable def ab3:Entry AB where
 f:=228
 fn l:=match l with
  |[.agg ⟨[.int .i64 k,.int .i64 o,.int .i64 r,.int .i64 e]⟩,.int .i64 x]=>some ((-9223372036854775808<=x/\x<9223372036854775808),.tuple ⟨[.agg ⟨[.int .i64 (qC k o r e x).1,.int .i64 (qC k o r e x).2.1,.int .i64 (qC k o r e x).2.2.1,.int .i64 (qC k o r e x).2.2.2.1]⟩,.int .i64 (wY k o r e x)]⟩)
  | _=>none
 ok args pre v h a w:=by
  split at h
  ·rename_i k o r e x;cases h;exact bU (Zz k o r e x a w)
  ·cases h
noncomputable def D3:dJ AB:={D0 with vE:=false,sr:=[tn,vF,FL,FM,YF,u6,aa6,ab3]}
noncomputable def E0:dJ AB:={D3 with sh:=[(104,.el (.one (.z_ 146 2))),(65,.el (.one (.z_ 146 2)))],quiet:=[105,207,62]}
noncomputable def E1:dJ AB:={E0 with cl:=[(201,.z_ 105 1)]}
noncomputable def E2:dJ AB:={E0 with cl:=[(201,.z_ 207 1)]}
abbrev aao:Sh:= .el (.one (.z_ 146 2))
theorem ZA (p:Option AC) (w:A2) (a:Int->A2->Prop):(aK E0 (λ_=>[]) 62 [ag p] w a)=(
 aI p.isNone (au w (a 0)) (fg p 0 w λx=>au w (a (↑x.2.1:Int)))):=by kernel_rfl
theorem ZB (k o r e:Int) (c:Option AC) (w:A2) (d:Bool->A2->Prop):(aK E0 (λ_=>[]) 105 [.agg ⟨[aa k,aa o,aa r,aa e]⟩,ag c] w d)=(
 aN w ⟨[aa k,aa o,aa r,aa e]⟩ 52 λb a=>true=true/\aU a (ad (af b) 0) λx=>aU a c λf=>au a (d (x==f))):=by kernel_rfl
theorem Lu (k o r e:Int) (c:Option AC) (w:A2) (d:Bool->A2->Prop):(aK E0 (λ_=>[]) 207 [.agg ⟨[aa k,aa o,aa r,aa e]⟩,ag c] w d)=(
 aN w ⟨[aa k,aa o,aa r,aa e]⟩ 52 λb a=>true=true/\aU a (ad (af b) 1) λx=>aU a c λf=>au a (d (x==f))):=by kernel_rfl
theorem aa7 (p:Option AC) (k:Int) (w:A2) (c:Option AC×Option AC×Unit->A2->Prop):(aK E0 (λ_=>[]) 65 [ag p,aa k] w c)=(
 aN w ⟨[aa k]⟩ 3 λb a=>aA AB 104 (.el (.one (.z_ 146 2))) [ag p,.func (.func 105) ⟨[]⟩ {toList:=[ag (af b)]}] a λx a=>au a (c (x.1,x.2.1,()))):=by kernel_rfl
theorem U7 (p c:Option AC) (w:A2) (d:Option AC×Option AC×Unit->A2->Prop):(aK E0 (λ_=>[]) 104 [ag p,.func (.func 105) #[] #[ag c]] w d)=(
 aN w ⟨[ag p]⟩ 36 λb a=>aN a {toList:=[.func (.func 105) ⟨[]⟩ ⟨[ag c]⟩]} 201 λe a=>au a (d (some ⟨b,0,none⟩,some ⟨e,0,none⟩,()))):=by kernel_rfl
theorem Rm (p c:Option AC) (w:A2) (d:Option AC×Option AC×Unit->A2->Prop):(aK E0 (λ_=>[]) 104 [ag p,.func (.func 207) #[] #[ag c]] w d)=(
 aN w ⟨[ag p]⟩ 36 λb a=>aN a {toList:=[.func (.func 207) ⟨[]⟩ ⟨[ag c]⟩]} 201 λe a=>au a (d (some ⟨b,0,none⟩,some ⟨e,0,none⟩,()))):=by kernel_rfl
def um:Nat->aZ:=(λ|2=>[(13,Go.RX.El.one (Go.RX.Sc.int B2))]| _=>[])
theorem Rn (y:Nat) (p c:Option AC) (w:A2) (f:Unit->A2->Prop):(aK E1 um 146 [.func (.yield y) #[] #[],ag p,ag c] w f)=(
 fZ w p λx=>aI x.isNone (au w (f ())) (fZ w p λx=>fg x 0 w λx=> ∃(I:Nat->Int×Unit->A2->Prop),(∃n, ∀w1,Ext w w1->I n (0,()) w1)/\ ∀(n:Nat) (s:Int×Unit) (w1:A2),I n s w1->aI (decide (s.1<(↑x.2.1:Int))) ((x.1.isSome=true/\0<=s.1/\s.1<(↑x.2.1:Int))/\aj w1 none (ad x.1 (Int.toNat s.1*4)) dS λ(x:Int×Int×Int×Int×Unit)=>aN w1 ⟨[aa 0,aa 0,aa 0,aa 0]⟩ 52 λb a=>az a (af b) [aa x.1,aa x.2.1,aa x.2.2.1,aa x.2.2.2.1] λa=>aj
 a none c (.one (.z_ 105 1)) λx=>aj a none (af b) dS λ(g:Int×Int×Int×Int×Unit)=> ∃h,ae AB 105 [.agg ⟨[aa g.1,aa g.2.1,aa g.2.2.1,aa g.2.2.2.1]⟩,ag x.1] a (.bool h)/\aI h (∀w1,Ext a w1->mj AB y [aa s.1] w1 λ(b:Bool) a=>aI (!b) (au a (f ())) (∀d,Ext a d-> ∃(e:Nat),e<n/\I e (aJ .i64 s.1 1,()) d)) (∀d,Ext a d-> ∃(e:Nat),e<n/\I e (aJ .i64 s.1 1,()) d)) (au w1 (f ())))):=by kernel_rfl
def qX:Nat->aZ:=(λ|2=>[(13,Go.RX.El.one (Go.RX.Sc.int B2))]| _=>[])
theorem Lv (y:Nat) (p c:Option AC) (w:A2) (f:Unit->A2->Prop):(aK E2 qX 146 [.func (.yield y) #[] #[],ag p,ag c] w f)=(
 fZ w p λx=>aI x.isNone (au w (f ())) (fZ w p λx=>fg x 0 w λx=> ∃(I:Nat->Int×Unit->A2->Prop),(∃n, ∀w1,Ext w w1->I n (0,()) w1)/\ ∀(n:Nat) (s:Int×Unit) (w1:A2),I n s w1->aI (decide (s.1<(↑x.2.1:Int))) ((x.1.isSome=true/\0<=s.1/\s.1<(↑x.2.1:Int))/\aj w1 none (ad x.1 (Int.toNat s.1*4)) dS λ(x:Int×Int×Int×Int×Unit)=>aN w1 ⟨[aa 0,aa 0,aa 0,aa 0]⟩ 52 λb a=>az a (af b) [aa x.1,aa x.2.1,aa x.2.2.1,aa x.2.2.2.1] λa=>aj
 a none c (.one (.z_ 207 1)) λx=>aj a none (af b) dS λ(g:Int×Int×Int×Int×Unit)=> ∃h,ae AB 207 [.agg ⟨[aa g.1,aa g.2.1,aa g.2.2.1,aa g.2.2.2.1]⟩,ag x.1] a (.bool h)/\aI h (∀w1,Ext a w1->mj AB y [aa s.1] w1 λ(b:Bool) a=>aI (!b) (au a (f ())) (∀d,Ext a d-> ∃(e:Nat),e<n/\I e (aJ .i64 s.1 1,()) d)) (∀d,Ext a d-> ∃(e:Nat),e<n/\I e (aJ .i64 s.1 1,()) d)) (au w1 (f ())))):=by kernel_rfl
theorem Ro (k o r e:Int) (c d:Option AC) (w:A2) (i:(Int×Int×Int×Int×Unit)×Int×Unit->A2->Prop):(bQ E0 (λ_=>[]) 191 [.agg ⟨[aa k,aa o,aa r,aa e]⟩,ag c,ag d] w i)=(
 aN w ⟨[aa k,aa o,aa r,aa e]⟩ 52 λb a=>aN a ⟨[aa 0,aa 0,aa 0,aa 0]⟩ 52 λj a=>aj a none (af b) dS λ(x:Int×Int×Int×Int×Unit)=>aU a c λg=>aU a d λh=>True/\az a (af j) [aa (mI x.1 x.2.1 x.2.2.1 x.2.2.2.1 g h),aa (k_ x.1 x.2.1 x.2.2.1 x.2.2.2.1 g h),aa 0,aa 0] λa=>au a λw1=>aj w1 none (af j) dS λ(f:Int×Int×Int×Int×Unit)=>i ((f.1,f.2.1,f.2.2.1,f.2.2.2.1,()),gN x.1 x.2.1
 x.2.2.1 x.2.2.2.1 g h,()) w1):=by kernel_rfl
theorem U8 (k o r e:Int) (c:Option AC) (w:A2) (g:(Int×Int×Int×Int×Unit)×Int×Unit->A2->Prop):(bQ E0 (λ_=>[]) 227 [.agg ⟨[aa k,aa o,aa r,aa e]⟩,ag c] w g)=(
 aN w ⟨[aa k,aa o,aa r,aa e]⟩ 52 λb a=>aN a ⟨[aa 0,aa 0,aa 0,aa 0]⟩ 52 λh a=>aj a none (af b) dS λ(x:Int×Int×Int×Int×Unit)=>aU a c λd=>(-9223372036854775808<=d/\d<9223372036854775808)/\az a (af h) [aa (qC x.1 x.2.1 x.2.2.1 x.2.2.2.1 d).1,aa (qC x.1 x.2.1 x.2.2.1 x.2.2.2.1 d).2.1,aa (qC x.1 x.2.1 x.2.2.1 x.2.2.2.1 d).2.2.1,aa (qC x.1 x.2.1 x.2.2.1 x.2.2.2.1 d).2.2.2.1] λa=>au a λw1=>aj w1 none (af h) dS λ
 (f:Int×Int×Int×Int×Unit)=>g ((f.1,f.2.1,f.2.2.1,f.2.2.2.1,()),wY x.1 x.2.1 x.2.2.1 x.2.2.2.1 d,()) w1):=by kernel_rfl
theorem Lx (p:Option AC) (f:Int) (c d:Option AC) (w:A2) (e:Int->A2->Prop):(aK E0 (λ_=>[]) 190 [ag p,aa f,.func (.func 191) #[] #[ag c,ag d]] w e)=(
 ∃(x:Int),ae AB 62 [ag p] w (aa x)/\aI (x==0) (au w (e 10)) (((!decide (f<0))=true->p.isSome=true)/\((!decide (f<0))=true->p.isSome=true)/\aj w (some !decide (f<0)) (ad p 0) ff λx=>aI (decide (f<0)||decide (f>=(↑x.2.1:Int))) (au w (e 2)) (fg p 0 w λx=>(x.1.isSome=true/\0<=f/\f<(↑x.2.1:Int))/\aj w none (ad x.1 (f.toNat*4)) dS λ(x:Int×Int×Int×Int×Unit)=>aA AB 191 (.bu [.agg [.int .i64,.int .i64,.int .i64,.int .i64],.one (.int .i64)]) [.agg ⟨[aa x.1,.int .i64
 x.2.1,aa x.2.2.1,aa x.2.2.2.1]⟩,ag c,ag d] w λ(x:(Int×Int×Int×Int×Unit)×Int×Unit) a=>aN a ⟨[aa 0,aa 0,aa 0,aa 0]⟩ 52 λb a=>az a (af b) [aa x.1.1,aa x.1.2.1,aa x.1.2.2.1,aa x.1.2.2.2.1] λa=>aI (x.2.1==0) (fg p 0 a λh=>aj a none (af b) dS λ(g:Int×Int×Int×Int×Unit)=>(h.1.isSome=true/\0<=f/\f<(↑h.2.1:Int))/\az a (ad h.1 (f.toNat*4)) [aa g.1,aa g.2.1,aa g.2.2.1,aa g.2.2.2.1]
 λa=>au a (e x.2.1)) (au a (e x.2.1))))):=by kernel_rfl
theorem Hl (p:Option AC) (f:Int) (c:Option AC) (w:A2) (d:Int->A2->Prop):(aK E0 (λ_=>[]) 190 [ag p,aa f,.func (.func 227) #[] #[ag c]] w d)=(
 ∃(x:Int),ae AB 62 [ag p] w (aa x)/\aI (x==0) (au w (d 10)) (((!decide (f<0))=true->p.isSome=true)/\((!decide (f<0))=true->p.isSome=true)/\aj w (some !decide (f<0)) (ad p 0) ff λx=>aI (decide (f<0)||decide (f>=(↑x.2.1:Int))) (au w (d 2)) (fg p 0 w λx=>(x.1.isSome=true/\0<=f/\f<(↑x.2.1:Int))/\aj w none (ad x.1 (f.toNat*4)) dS λ(x:Int×Int×Int×Int×Unit)=>aA AB 227 (.bu [.agg [.int .i64,.int .i64,.int .i64,.int .i64],.one (.int .i64)]) [.agg ⟨[aa x.1,.int .i64
 x.2.1,aa x.2.2.1,aa x.2.2.2.1]⟩,ag c] w λ(x:(Int×Int×Int×Int×Unit)×Int×Unit) a=>aN a ⟨[aa 0,aa 0,aa 0,aa 0]⟩ 52 λb a=>az a (af b) [aa x.1.1,aa x.1.2.1,aa x.1.2.2.1,aa x.1.2.2.2.1] λa=>aI (x.2.1==0) (fg p 0 a λg=>aj a none (af b) dS λ(e:Int×Int×Int×Int×Unit)=>(g.1.isSome=true/\0<=f/\f<(↑g.2.1:Int))/\az a (ad g.1 (f.toNat*4)) [aa e.1,aa e.2.1,aa e.2.2.1,aa e.2.2.2.1] λa=>au
 a (d x.2.1)) (au a (d x.2.1))))):=by kernel_rfl
theorem U9 (p:Option AC) (f k o:Int) (w:A2) (c:Int->A2->Prop):(aK E0 (λ_=>[]) 138 [ag p,aa f,aa k,aa o] w c)=(
 aN w ⟨[aa k]⟩ 3 λb a=>aN a ⟨[aa o]⟩ 3 λd a=>aA AB 190 (.el aT) [ag p,aa f,.func (.func 191) ⟨[]⟩ {toList:=[ag (af b),ag (af d)]}] a λ(x:Int) a=>au a (c x)):=by kernel_rfl
theorem U_ (p:Option AC) (f x:Int) (w:A2) (c:Int->A2->Prop):(aK E0 (λ_=>[]) 183 [ag p,aa f,aa x] w c)=(
 aN w ⟨[aa x]⟩ 3 λb a=>aA AB 190 (.el aT) [ag p,aa f,.func (.func 227) ⟨[]⟩ {toList:=[ag (af b)]}] a λ(x:Int) a=>au a (c x)):=by kernel_rfl
theorem U' (p:Option AC) (f:Int) (w:A2) (a:Int->A2->Prop):(aK E0 (λ_=>[]) 79 [ag p,aa f] w a)=(
 aA AB 138 (.el aT) [ag p,aa f,aa 0,aa 0] w λ(x:Int) b=>au b (a x)):=by kernel_rfl
theorem ZC (p:Option AC) (f:Int) (w:A2) (c:(Int×Int×Int×Int×Unit)×Bool×Unit->A2->Prop):(bQ E0 (λ_=>[]) 25 [ag p,aa f] w c)=(
 aN w ⟨[aa 0,aa 0,aa 0,aa 0]⟩ 52 λb a=> ∃(x:Int),((!decide (f<0))=true->ae AB 62 [ag p] a (aa x))/\aI (decide (f<0)||decide (f>=x)) (az a (af b) [aa 0,aa 0,aa 0,aa 0] λa=>au a λw1=>aj w1 none (af b) dS λ(x:Int×Int×Int×Int×Unit)=>c ((x.1,x.2.1,x.2.2.1,x.2.2.2.1,()),false,()) w1) (fg p 0 a λx=>(x.1.isSome=true/\0<=f/\f<(↑x.2.1:Int))/\aj a none (ad x.1 (f.toNat*4)) dS λ(x:Int×Int×Int×Int×Unit)
 =>az a (af b) [aa x.1,aa x.2.1,aa x.2.2.1,aa x.2.2.2.1] λa=>au a λw1=>aj w1 none (af b) dS λ(x:Int×Int×Int×Int×Unit)=>c ((x.1,x.2.1,x.2.2.1,x.2.2.2.1,()),true,()) w1)):=by kernel_rfl
theorem Cx (n:Int) (w:A2) (a:Option AC×Int×Unit->A2->Prop):(aK E0 (λ_=>[]) 72 [aa n] w a)=(
 aI (decide (n<1)||decide (n>4096)) (au w (a (none,1,()))) (NJ w 32 4 n n ⟨[aa 0,aa 0,aa 0,aa 0]⟩ 52 λb c=>aN c {toList:=[.slice (af b) n.toNat n.toNat]} 137 λb c=>au c (a (some ⟨b,0,none⟩,0,())))):=by kernel_rfl
theorem Va (p:Option AC) (w:A2) (a:Option AC->A2->Prop):(aK E0 (λ_=>[]) 54 [ag p] w a)=(
 ∃(x:Int),ae AB 62 [ag p] w (aa x)/\aI (x==0) (au w (a none)) (fg p 0 w λx=> ∀w1,Ext w w1->mz w1 52 4 32 ⟨[aa 0,aa 0,aa 0,aa 0]⟩ (none,0,0) (x.1,x.2.1,x.2.2) λ(r:Option AC×Nat×Nat) c=>aN c ⟨[.slice r.1 r.2.1 r.2.2]⟩ 137 λb c=>au c (a (af b)))):=by kernel_rfl
def uo:Nat->aZ:=(λ|3=>[(9,.one (.int .i64))]| _=>[])
theorem Rq (p:Option AC) (k:Int) (w:A2) (d:Int->A2->Prop):(bQ E0 uo 30 [ag p,aa k] w d)=(
 aN w ⟨[aa 0]⟩ 3 λb c=>az c (af b) [aa 0] λc=>aA AB 65 (.el (.one (.z_ 146 2))) [ag p,aa k] c λx c=>z5 AB 146 (λ(y:Nat)=>[.func (Fn.yield y) ⟨[]⟩ ⟨[]⟩,ag x.1,ag x.2.1]) ⟨[9]⟩ c (λ(x:Int×Unit)=>[aa x.1]) (λ(l:Nat) (rec:Loop) (x:Int×Unit) e (R:Bool->A2->Prop)=>De l rec [aa x.1].length 1 e (BS l rec e λa=>aU a (af b) λx=>az a (af b) [aa (aJ .i64 x 1)] λc=>
 sw l rec none c R)) λ(r:Nat) (rec:Loop) f=>dz (r+1) rec f (λa=>aU a (af b) λx=>sy [r] a λw1=>d x w1) (λ(id:Nat) a=>Decidable.rec (λ(h:id=0->False)=>False) (λ(h:id=0)=>aU a (af b) λx=>sy [r] a λw1=>d x w1) (match h:id.beq 0 with|true=>isTrue (Hb h)|false=>isFalse (Hq h))) λa=>sy [r] a λw1=>d 0 w1):=by kernel_rfl
def uq:Nat->aZ:=(λ|4=>[(10,.one (.int .i64))]| _=>[])
theorem Rs (p:Option AC) (k:Int) (w:A2) (d:Option AC×Nat×Nat->A2->Prop):(bQ E0 uq 166 [ag p,aa k] w d)=(
 aN w ⟨[aa k]⟩ 3 λb a=>aN a ⟨[.slice none 0 0]⟩ 39 λe a=>aA AB 104 (.el (.one (.z_ 146 2))) [ag p,.func (.func 207) ⟨[]⟩ {toList:=[ag (af b)]}] a λx a=>z5 AB 146 (λ(y:Nat)=>[.func (Fn.yield y) ⟨[]⟩ ⟨[]⟩,ag x.1,ag x.2.1]) ⟨[10]⟩ a (λ(x:Int×Unit)=>[aa x.1]) (λ(l:Nat) (rec:Loop) (x:Int×Unit) g (R:Bool->A2->Prop)=>De l rec [aa x.1].length 1 g (BS l rec g λc=>sZ c (af e) λf=>aN c ⟨[aa x.1]⟩
 3 λb a=> ∀w1,Ext a w1->mz w1 3 1 8 ⟨[aa 0]⟩ (f.1,f.2.1,f.2.2) (some ⟨b,0,none⟩,1,1) λ(r:Option AC×Nat×Nat) a=>az a (af e) [.slice r.1 r.2.1 r.2.2] λa=>sw l rec none a R)) λ(r:Nat) (rec:Loop) i=>dz (r+1) rec i (λc=>sZ c (af e) λx=>sy [r] c λw1=>d (x.1,x.2.1,x.2.2) w1) (λ(id:Nat) c=>Decidable.rec (λ(h:id=0->False)=>False) (λ(h:id=0)=>sZ c (af e) λx=>sy [r] c λw1=>d (x.1,
 x.2.1,x.2.2) w1) (match h:id.beq 0 with|true=>isTrue (Hb h)|false=>isFalse (Hq h))) λc=>sy [r] c λw1=>d (none,0,0) w1):=by kernel_rfl
def wi:Nat->aZ:=(λ|5=>[(15,.one (.int .i64))]| _=>[])
theorem Vb (p:Option AC) (k o:Int) (w:A2) (g:Int×Int×Unit->A2->Prop):(bQ E0 wi 172 [ag p,aa k,aa o] w g)=(
 aN w ⟨[ag p]⟩ 36 λb a=>aN a ⟨[aa k]⟩ 3 λn a=>aN a ⟨[aa o]⟩ 3 λq a=>aN a ⟨[aa 0]⟩ 3 λd a=>aN a ⟨[aa 0]⟩ 46 λe a=>fZ a (af b) λx=> ∃(i:Int),ae AB 62 [ag x] a (aa i)/\aI (i==0) (az a (af d) [aa 0] λa=>az a (af e) [aa 10] λa=>au a λw1=>aU w1 (af d) λx=>aU w1 (af e) λf=>
 g (x,f,()) w1) (fZ a (af b) λx=>aA AB 65 (.el (.one (.z_ 146 2))) [ag x,aa 0] a λx a=>z5 AB 146 (λ(y:Nat)=>[.func (Fn.yield y) ⟨[]⟩ ⟨[]⟩,ag x.1,ag x.2.1]) ⟨[15]⟩ a (λ(x:Int×Unit)=>[aa x.1]) (λ(l:Nat) (rec:Loop) (x:Int×Unit) j (R:Bool->A2->Prop)=>De l rec [aa x.1].length 1 j (BS l rec j λc=>fZ c (af b) λf=>aU c (af n) λs=>aj c none
 (af q) aT λ(t:Int)=>aA AB 138 (.el aT) [ag f,aa x.1,aa s,aa t] c λ(m:Int) a=>aI (m != 0) (az a (af d) [aa 0] λa=>az a (af e) [aa m] λa=>sw l rec (some Code.ret) a R) (az a (af d) [aa x.1] λa=>az a (af e) [aa 0] λa=>sw l rec (some Code.ret) a R))) λ(r:Nat) (rec:Loop) u=>dz (r+1) rec u (λc=>az c (af d) [aa 0]
 λa=>az a (af e) [aa 12] λa=>sy [r] a λw1=>aU w1 (af d) λx=>aU w1 (af e) λf=>g (x,f,()) w1) (λ(id:Nat) c=>Decidable.rec (λ(h:id=0->False)=>False) (λ(h:id=0)=>az c (af d) [aa 0] λa=>az a (af e) [aa 12] λa=>sy [r] a λw1=>aU w1 (af d) λx=>aj w1 none (af e) aT
 λ(f:Int)=>g (x,f,()) w1) (match h:id.beq 0 with|true=>isTrue (Hb h)|false=>isFalse (Hq h))) λc=>sy [r] c λw1=>aU w1 (af d) λx=>aU w1 (af e) λf=>g (x,f,()) w1)):=by kernel_rfl
abbrev sD:List Sc:=[.int .i64,.int .i64,.int .i64,.int .i64]
abbrev eD:El:= .agg sD
abbrev DT:Type:=Int×Int×Int×Int×Unit
def zD:DT:=(0,0,0,0,())
theorem rT {w:A2} {bp n c:Nat} {a:Option AC} (h:bK w bp [.slice a n c]):aC AB 62 (.el (.one (.int .i64))) [ag (af bp)] w (λx w'=>x=(n:Int)/\Ext w w'):=by
 refine ai (C:=E0) (aQ:=λ_=>[]) (AG (ZA _ w _) ?_);have H:=At.start [] w;refine an rfl ⟨rfl,rfl,aj.kX H h (by simp) rfl ?_⟩
 repeat' (first
  |exact Go.RX.aL.all H
  |exact AT (by first|rfl|decide+kernel) (Go.RX.aL.all H)
  |refine AT (by first|exact rfl|exact trivial|exact λ_=>rfl|exact λ_=>trivial|exact⟨rfl,by decide,by decide⟩|exact⟨by decide,by decide⟩|decide+kernel|exact λ_=>by decide|exact λ_=>⟨rfl,by decide,by decide⟩|(dsimp only[B5,BO];exact⟨rfl,by decide,by decide⟩)) ?_
  |refine aj.cv 0 H rfl rfl ?_
  |refine aj.at 0 H rfl rfl ?_
  |refine aN.go H λb w1 H=>?_
  |refine az.all 0 H rfl rfl rfl λw1 H=>?_
  |refine az.e8 0 H rfl rfl rfl λw1 H=>?_
  |refine az.one 0 H rfl rfl rfl λw1 H=>?_
  |with_reducible refine au.go H λw1 H=>?_
  |refine jJ ?_
  |refine aB (by assumption) ?_
  |refine an (by assumption) ?_
  |refine ab (λc=>?_) (λc=>?_))
theorem ZD {w:A2} {kc:Nat} {v:Int} (h:bK w kc [aa v]) (d:DT):aC AB 105 (.el (.one .bool)) [.agg ⟨a7 sD d⟩,ag (af kc)] w (λx w'=>x=(d.1==v)/\Ext w w'):=by
 obtain⟨k,o,r,e,u⟩:=d;refine ai (C:=E0) (aQ:=λ_=>[]) (AG (ZB k o r e _ w _) ?_);have H:=At.start [] w
 repeat' (first
  |refine aj.fQ H h (by simp) rfl ?_
  |exact Go.RX.aL.all H
  |exact AT (by first|rfl|decide+kernel) (Go.RX.aL.all H)
  |refine AT (by first|exact rfl|exact trivial|exact λ_=>rfl|exact λ_=>trivial|exact⟨rfl,by decide,by decide⟩|exact⟨by decide,by decide⟩|decide+kernel|exact λ_=>by decide|exact λ_=>⟨rfl,by decide,by decide⟩|(dsimp only[B5,BO];exact⟨rfl,by decide,by decide⟩)) ?_
  |refine aj.cv 0 H rfl rfl ?_
  |refine aj.at 0 H rfl rfl ?_
  |refine aN.go H λb w1 H=>?_
  |refine az.all 0 H rfl rfl rfl λw1 H=>?_
  |refine az.e8 0 H rfl rfl rfl λw1 H=>?_
  |refine az.one 0 H rfl rfl rfl λw1 H=>?_
  |with_reducible refine au.go H λw1 H=>?_
  |refine jJ ?_
  |refine aB (by assumption) ?_
  |refine an (by assumption) ?_
  |refine ab (λc=>?_) (λc=>?_))
theorem Ly {w:A2} {kc:Nat} {v:Int} (h:bK w kc [aa v]) (d:DT):aC AB 207 (.el (.one .bool)) [.agg ⟨a7 sD d⟩,ag (af kc)] w (λx w'=>x=(d.2.1==v)/\Ext w w'):=by
 obtain⟨k,o,r,e,u⟩:=d;refine ai (C:=E0) (aQ:=λ_=>[]) (AG (Lu k o r e _ w _) ?_);have H:=At.start [] w
 repeat' (first
  |refine aj.fQ H h (by simp) rfl ?_
  |exact Go.RX.aL.all H
  |exact AT (by first|rfl|decide+kernel) (Go.RX.aL.all H)
  |refine AT (by first|exact rfl|exact trivial|exact λ_=>rfl|exact λ_=>trivial|exact⟨rfl,by decide,by decide⟩|exact⟨by decide,by decide⟩|decide+kernel|exact λ_=>by decide|exact λ_=>⟨rfl,by decide,by decide⟩|(dsimp only[B5,BO];exact⟨rfl,by decide,by decide⟩)) ?_
  |refine aj.cv 0 H rfl rfl ?_
  |refine aj.at 0 H rfl rfl ?_
  |refine aN.go H λb w1 H=>?_
  |refine az.all 0 H rfl rfl rfl λw1 H=>?_
  |refine az.e8 0 H rfl rfl rfl λw1 H=>?_
  |refine az.one 0 H rfl rfl rfl λw1 H=>?_
  |with_reducible refine au.go H λw1 H=>?_
  |refine jJ ?_
  |refine aB (by assumption) ?_
  |refine an (by assumption) ?_
  |refine ab (λc=>?_) (λc=>?_))
section
variable {D G:List Nat} {w0 w:A2} {L:List (Nat×List AF)}
theorem tq (H:aL D G w0 w L) (p:Option AC) (k:Int) {K:Option AC×Option AC×Unit->A2->Prop}
 (a: ∀pc ic kc w1,aL D G w0 w1 ((ic,[.func (.func 105) #[] #[ag (af kc)]])::(pc,[ag p])::(kc,[aa k])::L)->K (some ⟨pc,0,none⟩,some ⟨ic,0,none⟩,()) w1):
 aA AB 65 aao [ag p,aa k] w K:=by
 refine aA.go H λw1 H=>ai (C:=E0) (aQ:=λ_=>[]) (AG (aa7 p k w1 K) ?_);refine aN.go H λkc d H=>aA.go H λb H=>ai (C:=E0) (aQ:=λ_=>[]) (AG (U7 p _ b _) ?_);refine aN.go H λpc e H=>aN.go H λic f H=>au.go H λg H=>au.go H λc H=>?_;exact a pc ic kc c H
theorem Vc (H:aL D G w0 w L) (p c:Option AC) {K:Option AC×Option AC×Unit->A2->Prop}
 (a: ∀pc ic w1,aL D G w0 w1 ((ic,[.func (.func 207) #[] #[ag c]])::(pc,[ag p])::L)->K (some ⟨pc,0,none⟩,some ⟨ic,0,none⟩,()) w1):
 aA AB 104 aao [ag p,.func (.func 207) #[] #[ag c]] w K:=by
 refine aA.go H λw1 H=>ai (C:=E0) (aQ:=λ_=>[]) (AG (Rm p c w1 K) ?_);refine aN.go H λpc d H=>aN.go H λic e H=>au.go H λb H=>?_;exact a pc ic b H
end
def Pf (fn:FuncId) (pc ic kc bp bf c:Nat) (v:Int) (ds:List DT) (rest:List AF) (w:A2):Prop:=
 bK w pc [ag (af bp)]/\bK w ic [.func (.func fn) #[] #[ag (af kc)]]/\bK w kc [aa v]/\bK w bp [.slice (af bf) ds.length c]/\bK w bf (flat eD ds++rest)
theorem Eg {pc ic kc bp bf c:Nat} {v:Int} {ds:List DT} {rest:List AF} (O:ds.length<=4096):
 TZ AB 146 (λy=>[.func (.yield y) #[] #[],ag (af pc),ag (af ic)]) ds.length
  (λi=>match ds[i]? with
   |some d=>if d.1=v then some [aa (i:Nat)] else none
   |none=>none) (Pf 105 pc ic kc bp bf c v ds rest):=by
 intro y w J D a E o F G h0;have key:aC AB 146 (uM E1 146) [.func (.yield y) #[] #[],ag (af pc),ag (af ic)] w (λ_ w'=>J ds.length w'\/D w'):=by
  refine ai (C:=E1) (aQ:=um) (AG (Rn y _ _ w _) ?_);obtain⟨s1,p,q,r,t⟩:=o 0 w h0;refine aj.of _ (s1.ow rfl) (an rfl (aj.of _ (s1.ow rfl) ⟨rfl,rfl,aj.of (some ⟨bf,0,none⟩,ds.length,c) (by rw[aW];exact r.ow rfl) ?_⟩));refine⟨λn s w'=> ∃i:Nat,s.1=i/\n+i=ds.length/\J i w',⟨ds.length,λw1 h1=>⟨0,rfl,rfl,a _ _ _ h0 h1⟩⟩,?_⟩;rintro n ⟨P,u⟩ w1 ⟨i,hi,Q,f⟩;simp only at hi;subst hi;dsimp only;refine ab (λc=>?_) (λc=>?_)
  ·have k:i<ds.length:=by simp only[decide_eq_true_eq] at c;omega
   obtain⟨s1,p,q,r,t⟩:=o i w1 f;have h:ds[i]? =some ds[i]:=Ae k;refine⟨⟨rfl,by omega,by omega⟩,aj.of ds[i] (fV t h) ?_⟩;have H:=At.start [] w1;have next: ∀w',J (i+1) w'-> ∀g,Ext w' g-> ∃z,z<n/\ ∃j:Nat,aJ .i64 (i:Nat) 1=j/\z+j=ds.length/\J j g:=λw' l g m=>
    ⟨n - 1,by omega,i+1,by rw[ax (by omega) (by omega)];rfl,by omega,a _ _ _ l m⟩
   generalize I:ds[i]=d;rw[I] at h;refine aN.go H λb A H=>az.all 0 H rfl rfl rfl λA H=>aj.of (some ⟨kc,0,none⟩,()) ((H.fQ p (by simp)).ow rfl) (aj.at 0 H rfl rfl ?_);have B:=a _ _ _ f H.all;refine⟨d.1==v,ae.of (s:= .el (.one .bool)) λw' h'=>ZD ((H.fQ q (by simp)).ext h') d,ab (λc=>λg m=>?_) (λc=>?_)⟩
   ·refine G i _ k (by simp only[h];rw[av (by simpa using c)]) g _ (a _ _ _ B m) (λw' l=>?_) (λw' K=>?_)
    ·exact an rfl (next w' l)
    ·exact aB rfl λR L=> .inr (E _ _ K L)
   ·exact next _ (F i k (by simp only[h];rw[ao (by simpa using c)]) _ B)
  ·have:i=ds.length:=by simp only[decide_eq_false_iff_not] at c;omega
   subst this;exact λA M=> .inl (a _ _ _ f M)
 exact Calls.mono key λe w' ⟨x,N,f⟩=>⟨_,N,f⟩
theorem Ru {pc ic kc bp bf c:Nat} {v:Int} {ds:List DT} {rest:List AF} (O:ds.length<=4096):
 TZ AB 146 (λy=>[.func (.yield y) #[] #[],ag (af pc),ag (af ic)]) ds.length
  (λi=>match ds[i]? with
   |some d=>if d.2.1=v then some [aa (i:Nat)] else none
   |none=>none) (Pf 207 pc ic kc bp bf c v ds rest):=by
 intro y w J D a E o F G h0;have key:aC AB 146 (uM E2 146) [.func (.yield y) #[] #[],ag (af pc),ag (af ic)] w (λ_ w'=>J ds.length w'\/D w'):=by
  refine ai (C:=E2) (aQ:=qX) (AG (Lv y _ _ w _) ?_);obtain⟨s1,p,q,r,t⟩:=o 0 w h0;refine aj.of _ (s1.ow rfl) (an rfl (aj.of _ (s1.ow rfl) ⟨rfl,rfl,aj.of (some ⟨bf,0,none⟩,ds.length,c) (by rw[aW];exact r.ow rfl) ?_⟩));refine⟨λn s w'=> ∃i:Nat,s.1=i/\n+i=ds.length/\J i w',⟨ds.length,λw1 h1=>⟨0,rfl,rfl,a _ _ _ h0 h1⟩⟩,?_⟩;rintro n ⟨P,u⟩ w1 ⟨i,hi,Q,f⟩;simp only at hi;subst hi;dsimp only;refine ab (λc=>?_) (λc=>?_)
  ·have k:i<ds.length:=by simp only[decide_eq_true_eq] at c;omega
   obtain⟨s1,p,q,r,t⟩:=o i w1 f;have h:ds[i]? =some ds[i]:=Ae k;refine⟨⟨rfl,by omega,by omega⟩,aj.of ds[i] (fV t h) ?_⟩;have H:=At.start [] w1;have next: ∀w',J (i+1) w'-> ∀g,Ext w' g-> ∃z,z<n/\ ∃j:Nat,aJ .i64 (i:Nat) 1=j/\z+j=ds.length/\J j g:=λw' l g m=>
    ⟨n - 1,by omega,i+1,by rw[ax (by omega) (by omega)];rfl,by omega,a _ _ _ l m⟩
   generalize I:ds[i]=d;rw[I] at h;refine aN.go H λb A H=>az.all 0 H rfl rfl rfl λA H=>aj.of (some ⟨kc,0,none⟩,()) ((H.fQ p (by simp)).ow rfl) (aj.at 0 H rfl rfl ?_);have B:=a _ _ _ f H.all;refine⟨d.2.1==v,ae.of (s:= .el (.one .bool)) λw' h'=>Ly ((H.fQ q (by simp)).ext h') d,ab (λc=>λg m=>?_) (λc=>?_)⟩
   ·refine G i _ k (by simp only[h];rw[av (by simpa using c)]) g _ (a _ _ _ B m) (λw' l=>?_) (λw' K=>?_)
    ·exact an rfl (next w' l)
    ·exact aB rfl λR L=> .inr (E _ _ K L)
   ·exact next _ (F i k (by simp only[h];rw[ao (by simpa using c)]) _ B)
  ·have:i=ds.length:=by simp only[decide_eq_false_iff_not] at c;omega
   subst this;exact λA M=> .inl (a _ _ _ f M)
 exact Calls.mono key λe w' ⟨x,N,f⟩=>⟨_,N,f⟩
def aO (k o:Int) (d:DT):DT×Int:=((mI d.1 d.2.1 d.2.2.1 d.2.2.2.1 k o,k_ d.1 d.2.1 d.2.2.1 d.2.2.2.1 k o,0,0,()),gN d.1 d.2.1 d.2.2.1 d.2.2.2.1 k o)
def g_ (x:Int) (d:DT):DT×Int:=(qC d.1 d.2.1 d.2.2.1 d.2.2.2.1 x,wY d.1 d.2.1 d.2.2.1 d.2.2.2.1 x)
def vz (ds:List DT) (f:Int) (g:DT->DT×Int):Int:=if ds.length=0 then 10 else if f<0\/f>=ds.length then 2 else(g (ds.getD f.toNat zD)).2
def dD (ds:List DT) (f:Int) (g:DT->DT×Int):List DT:=if f<0\/f>=ds.length then ds else if(g (ds.getD f.toNat zD)).2=0 then ds.set f.toNat (g (ds.getD f.toNat zD)).1 else ds
theorem Bi {ds:List DT} (h:ds.length=0) (f:Int) (g:DT->DT×Int):vz ds f g=10:=av h
theorem Bj {ds:List DT} (h:ds.length=0) (f:Int) (g:DT->DT×Int):dD ds f g=ds:=av (by omega)
theorem I9 {ds:List DT} (h:ds.length≠0) {f:Int} (h1:f<0\/f>=ds.length) (g:DT->DT×Int):vz ds f g=2:=by unfold vz;rw[ao h,av h1]
theorem xD {ds:List DT} {f:Int} (h1:f<0\/f>=ds.length) (g:DT->DT×Int):dD ds f g=ds:=av h1
theorem yK {ds:List DT} {f:Int} (h1:0<=f/\f<ds.length) (g:DT->DT×Int):vz ds f g=(g (ds.getD f.toNat zD)).2:=by unfold vz;rw[ao (by omega),ao (by omega)]
theorem pf {ds:List DT} {f:Int} (h1:0<=f/\f<ds.length) (g:DT->DT×Int):dD ds f g=if(g (ds.getD f.toNat zD)).2=0 then ds.set f.toNat (g (ds.getD f.toNat zD)).1 else ds:=by unfold dD;rw[ao (by omega)]
theorem jg (ds:List DT) (f:Int) (g:DT->DT×Int):(dD ds f g).length=ds.length:=by
 unfold dD;split
 ·rfl
 ·split
  ·simp
  ·rfl
theorem Rv {w:A2} {kc oc:Nat} {k o:Int} (f:bK w kc [aa k]) (g:bK w oc [aa o]) (d:DT):aC AB 191 (.bu [eD,.one (.int .i64)]) [.agg ⟨a7 sD d⟩,ag (af kc),ag (af oc)] w
 (λv w'=>v=((aO k o d).1,(aO k o d).2,())/\Ext w w'):=by
 obtain⟨a,b,c,e,u⟩:=d;refine aR (C:=E0) (aQ:=λ_=>[]) (AG (Ro a b c e _ _ w _) ?_);have H:=At.start [] w
 repeat' (first
  |refine aj.fQ H f (by simp) rfl ?_
  |refine aj.fQ H g (by simp) rfl ?_
  |exact Go.RX.aL.all H
  |exact AT (by first|rfl|decide+kernel) (Go.RX.aL.all H)
  |refine AT (by first|exact rfl|exact trivial|exact λ_=>rfl|exact λ_=>trivial|exact⟨rfl,by decide,by decide⟩|exact⟨by decide,by decide⟩|decide+kernel|exact λ_=>by decide|exact λ_=>⟨rfl,by decide,by decide⟩|(dsimp only[B5,BO];exact⟨rfl,by decide,by decide⟩)) ?_
  |refine aj.cv 0 H rfl rfl ?_
  |refine aj.cv 1 H rfl rfl ?_
  |refine aj.at 0 H rfl rfl ?_
  |refine aj.at 1 H rfl rfl ?_
  |refine aN.go H λb w1 H=>?_
  |refine az.all 0 H rfl rfl rfl λw1 H=>?_
  |refine az.all 1 H rfl rfl rfl λw1 H=>?_
  |refine az.e8 0 H rfl rfl rfl λw1 H=>?_
  |refine az.e8 1 H rfl rfl rfl λw1 H=>?_
  |refine az.one 0 H rfl rfl rfl λw1 H=>?_
  |refine az.one 1 H rfl rfl rfl λw1 H=>?_
  |with_reducible refine au.go H λw1 H=>?_
  |refine jJ ?_
  |refine aB (by assumption) ?_
  |refine an (by assumption) ?_
  |refine ab (λc=>?_) (λc=>?_))
theorem Vd {w:A2} {kc:Nat} {k:Int} (f:bK w kc [aa k]) (hi: -9223372036854775808<=k/\k<9223372036854775808) (d:DT):aC AB 227 (.bu [eD,.one (.int .i64)]) [.agg ⟨a7 sD d⟩,ag (af kc)] w
 (λv w'=>v=((g_ k d).1,(g_ k d).2,())/\Ext w w'):=by
 obtain⟨a,b,c,e,u⟩:=d;refine aR (C:=E0) (aQ:=λ_=>[]) (AG (U8 a b c e _ w _) ?_);have H:=At.start [] w
 repeat' (first
  |refine aj.fQ H f (by simp) rfl ?_
  |refine AT hi ?_
  |exact Go.RX.aL.all H
  |exact AT (by first|rfl|decide+kernel) (Go.RX.aL.all H)
  |refine AT (by first|exact rfl|exact trivial|exact λ_=>rfl|exact λ_=>trivial|exact⟨rfl,by decide,by decide⟩|exact⟨by decide,by decide⟩|decide+kernel|exact λ_=>by decide|exact λ_=>⟨rfl,by decide,by decide⟩|(dsimp only[B5,BO];exact⟨rfl,by decide,by decide⟩)) ?_
  |refine aj.cv 0 H rfl rfl ?_
  |refine aj.cv 1 H rfl rfl ?_
  |refine aj.at 0 H rfl rfl ?_
  |refine aj.at 1 H rfl rfl ?_
  |refine aN.go H λb w1 H=>?_
  |refine az.all 0 H rfl rfl rfl λw1 H=>?_
  |refine az.all 1 H rfl rfl rfl λw1 H=>?_
  |refine az.e8 0 H rfl rfl rfl λw1 H=>?_
  |refine az.e8 1 H rfl rfl rfl λw1 H=>?_
  |refine az.one 0 H rfl rfl rfl λw1 H=>?_
  |refine az.one 1 H rfl rfl rfl λw1 H=>?_
  |with_reducible refine au.go H λw1 H=>?_
  |refine jJ ?_
  |refine aB (by assumption) ?_
  |refine an (by assumption) ?_
  |refine ab (λc=>?_) (λc=>?_))
theorem Hm {w:A2} {bp bf c kc oc:Nat} {k o:Int} {ds:List DT} {rest:List AF} (a:bK w bp [.slice (af bf) ds.length c]) (q:bK w bf (flat eD ds++rest)) (r:bp≠bf) (B:ds.length<=4096) (t:bK w kc [aa k]) (u:bK w oc [aa o]) (v:kc≠bf) (x:oc≠bf) (f:Int):
 aC AB 190 (.el (.one (.int .i64))) [ag (af bp),aa f,.func (.func 191) #[] #[ag (af kc),ag (af oc)]] w
  (λe w'=>e=vz ds f (aO k o)/\bK w' bf (flat eD (dD ds f (aO k o))++rest)/\Fr [bf] w w'):=by
 refine ai (C:=E0) (aQ:=λ_=>[]) (AG (Lx _ f _ _ w _) ?_);have H:=At.rQ q;have g:bp∉[bf]:=by simpa using r
 refine⟨(ds.length:Int),ae.of (s:= .el (.one (.int .i64))) λw' h=>rT (a.ext h),ab (λc0=>au.go H λw1 H=>?_) (λc0=>⟨λ_=>rfl,λ_=>rfl,aj.kX H a g rfl (ab (λc1=>au.go H λw1 H=>?_) (λc1=>?_))⟩)⟩
 ·have h0:ds.length=0:=by simp only[beq_iff_eq] at c0;omega
  exact⟨(Bi h0 f _).symm,by rw[Bj h0];exact H.get (i:=0) rfl,H.fr⟩
 ·have h0:ds.length≠0:=by simp only[beq_eq_false_iff_ne,ne_eq] at c0;omega
  have h1:f<0\/f>=ds.length:=by simpa using c1
  exact⟨(I9 h0 h1 _).symm,by rw[xD h1];exact H.get (i:=0) rfl,H.fr⟩
 ·have h0:ds.length≠0:=by simp only[beq_eq_false_iff_ne,ne_eq] at c0;omega
  have h1:0<=f/\f<ds.length:=by simp only[DA,decide_eq_false_iff_not] at c1;omega
  have n:f.toNat<ds.length:=by omega
  have p:ds[f.toNat]? =some ds[f.toNat]:=Ae n;have y:ds.getD f.toNat zD=ds[f.toNat]:=by rw[Aq,p];rfl
  have j:=yK h1 (aO k o);have l:=pf h1 (aO k o);rw[y] at j l;generalize D:ds[f.toNat]=d at*
  refine⟨rfl,rfl,aj.kX H a g rfl ⟨⟨rfl,h1.1,h1.2⟩,aj.of d (fV (H.get (i:=0) rfl) p) ?_⟩⟩;refine aA.val H (s:= .bu [eD,.one (.int .i64)]) (((aO k o) d).1,((aO k o) d).2,()) (λw1 H=>Rv (H.fQ t (by simpa using v)) (H.fQ u (by simpa using x)) d) λw1 H=>?_;refine aN.go H λb z H=>az.all 0 H rfl rfl rfl λz H=>ab (λc2=>⟨rfl,rfl,aj.kX H a g rfl (aj.at 0 H rfl rfl ⟨⟨rfl,h1.1,h1.2⟩,?_⟩)⟩) (λc2=>au.go H λA H=>?_)
  ·have m:((aO k o) d).2=0:=by simpa using c2
   refine az.flat (e:=eD) 1 H (xs:=ds) (rest:=rest) ((aO k o) d).1 rfl rfl rfl n λA H=>au.go H λE H=>?_;exact⟨j.symm,by rw[l,av m];exact H.get (i:=1) rfl,H.fr⟩
  ·have m: ¬ ((aO k o) d).2=0:=by simpa using c2
   exact⟨j.symm,by rw[l,ao m];exact H.get (i:=1) rfl,H.fr⟩
theorem Hn {w:A2} {bp bf c kc:Nat} {k:Int} {ds:List DT} {rest:List AF} (a:bK w bp [.slice (af bf) ds.length c]) (p:bK w bf (flat eD ds++rest)) (q:bp≠bf) (y:ds.length<=4096) (r:bK w kc [aa k]) (t:kc≠bf) (hi: -9223372036854775808<=k/\k<9223372036854775808) (f:Int):
 aC AB 190 (.el (.one (.int .i64))) [ag (af bp),aa f,.func (.func 227) #[] #[ag (af kc)]] w
  (λe w'=>e=vz ds f (g_ k)/\bK w' bf (flat eD (dD ds f (g_ k))++rest)/\Fr [bf] w w'):=by
 refine ai (C:=E0) (aQ:=λ_=>[]) (AG (Hl _ f _ w _) ?_);have H:=At.rQ p;have g:bp∉[bf]:=by simpa using q
 refine⟨(ds.length:Int),ae.of (s:= .el (.one (.int .i64))) λw' h=>rT (a.ext h),ab (λc0=>au.go H λw1 H=>?_) (λc0=>⟨λ_=>rfl,λ_=>rfl,aj.kX H a g rfl (ab (λc1=>au.go H λw1 H=>?_) (λc1=>?_))⟩)⟩
 ·have h0:ds.length=0:=by simp only[beq_iff_eq] at c0;omega
  exact⟨(Bi h0 f _).symm,by rw[Bj h0];exact H.get (i:=0) rfl,H.fr⟩
 ·have h0:ds.length≠0:=by simp only[beq_eq_false_iff_ne,ne_eq] at c0;omega
  have h1:f<0\/f>=ds.length:=by simpa using c1
  exact⟨(I9 h0 h1 _).symm,by rw[xD h1];exact H.get (i:=0) rfl,H.fr⟩
 ·have h0:ds.length≠0:=by simp only[beq_eq_false_iff_ne,ne_eq] at c0;omega
  have h1:0<=f/\f<ds.length:=by simp only[DA,decide_eq_false_iff_not] at c1;omega
  have n:f.toNat<ds.length:=by omega
  have o:ds[f.toNat]? =some ds[f.toNat]:=Ae n;have u:ds.getD f.toNat zD=ds[f.toNat]:=by rw[Aq,o];rfl
  have j:=yK h1 (g_ k);have l:=pf h1 (g_ k);rw[u] at j l;generalize z:ds[f.toNat]=d at*
  refine⟨rfl,rfl,aj.kX H a g rfl ⟨⟨rfl,h1.1,h1.2⟩,aj.of d (fV (H.get (i:=0) rfl) o) ?_⟩⟩;refine aA.val H (s:= .bu [eD,.one (.int .i64)]) (((g_ k) d).1,((g_ k) d).2,()) (λw1 H=>Vd (H.fQ r (by simpa using t)) hi d) λw1 H=>?_;refine aN.go H λb v H=>az.all 0 H rfl rfl rfl λv H=>ab (λc2=>⟨rfl,rfl,aj.kX H a g rfl (aj.at 0 H rfl rfl ⟨⟨rfl,h1.1,h1.2⟩,?_⟩)⟩) (λc2=>au.go H λx H=>?_)
  ·have m:((g_ k) d).2=0:=by simpa using c2
   refine az.flat (e:=eD) 1 H (xs:=ds) (rest:=rest) ((g_ k) d).1 rfl rfl rfl n λx H=>au.go H λA H=>?_;exact⟨j.symm,by rw[l,av m];exact H.get (i:=1) rfl,H.fr⟩
  ·have m: ¬ ((g_ k) d).2=0:=by simpa using c2
   exact⟨j.symm,by rw[l,ao m];exact H.get (i:=1) rfl,H.fr⟩
theorem Cy {w:A2} {bp bf c:Nat} {ds:List DT} {rest:List AF} (b:bK w bp [.slice (af bf) ds.length c]) (d:bK w bf (flat eD ds++rest)) (a:bp≠bf) (g:ds.length<=4096) (f k o:Int):
 aC AB 138 (.el (.one (.int .i64))) [ag (af bp),aa f,aa k,aa o] w (λe w'=>e=vz ds f (aO k o)/\bK w' bf (flat eD (dD ds f (aO k o))++rest)/\Fr [bf] w w'):=by
 refine ai (C:=E0) (aQ:=λ_=>[]) (AG (U9 _ f k o w _) ?_);have H:=At.rQ d;have h:bp∉[bf]:=by simpa using a
 refine aN.go H λkc w1 H=>aN.go H λoc m H=>?_;refine aA.Dt H 2 rfl (λl H=>Hm (H.fQ b h) (H.get (i:=2) rfl) a g (H.get (i:=1) rfl) (H.get (i:=0) rfl) (H.ne (i:=1) (j:=2) rfl rfl (by decide)) (H.ne (i:=0) (j:=2) rfl rfl (by decide)) f) λl H=>au.go H λn H=>?_;exact⟨rfl,H.get (i:=2) rfl,H.fr⟩
theorem Ve {w:A2} {bp bf c:Nat} {ds:List DT} {rest:List AF} (b:bK w bp [.slice (af bf) ds.length c]) (d:bK w bf (flat eD ds++rest)) (a:bp≠bf) (g:ds.length<=4096) (f x:Int) (hi: -9223372036854775808<=x/\x<9223372036854775808):
 aC AB 183 (.el (.one (.int .i64))) [ag (af bp),aa f,aa x] w (λe w'=>e=vz ds f (g_ x)/\bK w' bf (flat eD (dD ds f (g_ x))++rest)/\Fr [bf] w w'):=by
 refine ai (C:=E0) (aQ:=λ_=>[]) (AG (U_ _ f x w _) ?_);have H:=At.rQ d;have h:bp∉[bf]:=by simpa using a
 refine aN.go H λkc w1 H=>?_;refine aA.Dt H 1 rfl (λk H=>Hn (H.fQ b h) (H.get (i:=1) rfl) a g (H.get (i:=0) rfl) (H.ne (i:=0) (j:=1) rfl rfl (by decide)) hi f) λk H=>au.go H λl H=>?_;exact⟨rfl,H.get (i:=1) rfl,H.fr⟩
theorem Vf {w:A2} {bp bf c:Nat} {ds:List DT} {rest:List AF} (b:bK w bp [.slice (af bf) ds.length c]) (d:bK w bf (flat eD ds++rest)) (a:bp≠bf) (g:ds.length<=4096) (f:Int):
 aC AB 79 (.el (.one (.int .i64))) [ag (af bp),aa f] w (λe w'=>e=vz ds f (aO 0 0)/\bK w' bf (flat eD (dD ds f (aO 0 0))++rest)/\Fr [bf] w w'):=by
 refine ai (C:=E0) (aQ:=λ_=>[]) (AG (U' _ f w _) ?_);have H:=At.rQ d;have h:bp∉[bf]:=by simpa using a
 refine aA.Dt H 0 rfl (λj H=>Cy (H.fQ b h) (H.get (i:=0) rfl) a g f 0 0) λj H=>au.go H λk H=>?_;exact⟨rfl,H.get (i:=0) rfl,H.fr⟩
def oH (ds:List DT) (f:Int):DT:=if f<0\/f>=ds.length then zD else ds.getD f.toNat zD
def xk (ds:List DT) (f:Int):Bool:= !(decide (f<0\/f>=ds.length))
theorem Gn {w:A2} {bp bf c:Nat} {ds:List DT} {rest:List AF} (e:bK w bp [.slice (af bf) ds.length c]) (i:bK w bf (flat eD ds++rest)) (f:Int):
 aC AB 25 (.bu [eD,.one .bool]) [ag (af bp),aa f] w (λv w'=>v=(oH ds f,xk ds f,())/\Ext w w'):=by
 refine aR (C:=E0) (aQ:=λ_=>[]) (AG (ZC _ f w _) ?_);have H:=At.start [] w;refine aN.go H λb w1 H=>⟨(ds.length:Int),λ_=>ae.of (s:= .el (.one (.int .i64))) λw' h=>rT ((H.fQ e (by simp)).ext h),ab (λc1=>?_) (λc1=>?_)⟩
 ·have h1:f<0\/f>=ds.length:=by simpa using c1
  have a:oH ds f=zD:=av h1;have d:xk ds f=false:=by unfold xk;simp[h1]
  rw[a,d]
  repeat' (first
   |exact Go.RX.aL.all H
   |exact AT (by first|rfl|decide+kernel) (Go.RX.aL.all H)
   |refine AT (by first|exact rfl|exact trivial|exact λ_=>rfl|exact λ_=>trivial|exact⟨rfl,by decide,by decide⟩|exact⟨by decide,by decide⟩|decide+kernel|exact λ_=>by decide|exact λ_=>⟨rfl,by decide,by decide⟩|(dsimp only[B5,BO];exact⟨rfl,by decide,by decide⟩)) ?_
   |refine aj.cv 0 H rfl rfl ?_
   |refine aj.at 0 H rfl rfl ?_
   |refine aN.go H λb w1 H=>?_
   |refine az.all 0 H rfl rfl rfl λw1 H=>?_
   |refine az.e8 0 H rfl rfl rfl λw1 H=>?_
   |refine az.one 0 H rfl rfl rfl λw1 H=>?_
   |with_reducible refine au.go H λw1 H=>?_
   |refine jJ ?_
   |refine aB (by assumption) ?_
   |refine an (by assumption) ?_
   |refine ab (λc=>?_) (λc=>?_))
 ·have h1: ¬ (f<0\/f>=ds.length):=by
   simp only[DA,decide_eq_false_iff_not] at c1;rintro(h|h)
   ·exact c1.1 h
   ·exact c1.2 h
  have j:f.toNat<ds.length:=by omega
  have g:ds[f.toNat]? =some ds[f.toNat]:=Ae j;have k:ds.getD f.toNat zD=ds[f.toNat]:=by rw[Aq,g];rfl
  have a:oH ds f=ds[f.toNat]:=by unfold oH;rw[ao h1,k]
  have d:xk ds f=true:=by unfold xk;simp[h1]
  rw[a,d];refine⟨rfl,rfl,aj.kX H e (by simp) rfl ⟨⟨rfl,Int.not_lt.1 (λh=>h1 (.inl h)),Int.not_le.1 (λh=>h1 (.inr h))⟩,aj.of ds[f.toNat] (fV (H.fQ i (by simp)) g) ?_⟩⟩
  repeat' (first
   |exact Go.RX.aL.all H
   |exact AT (by first|rfl|decide+kernel) (Go.RX.aL.all H)
   |refine AT (by first|exact rfl|exact trivial|exact λ_=>rfl|exact λ_=>trivial|exact⟨rfl,by decide,by decide⟩|exact⟨by decide,by decide⟩|decide+kernel|exact λ_=>by decide|exact λ_=>⟨rfl,by decide,by decide⟩|(dsimp only[B5,BO];exact⟨rfl,by decide,by decide⟩)) ?_
   |refine aj.cv 0 H rfl rfl ?_
   |refine aj.at 0 H rfl rfl ?_
   |refine aN.go H λb w1 H=>?_
   |refine az.all 0 H rfl rfl rfl λw1 H=>?_
   |refine az.e8 0 H rfl rfl rfl λw1 H=>?_
   |refine az.one 0 H rfl rfl rfl λw1 H=>?_
   |with_reducible refine au.go H λw1 H=>?_
   |refine jJ ?_
   |refine aB (by assumption) ?_
   |refine an (by assumption) ?_
   |refine ab (λc=>?_) (λc=>?_))
section
variable {D G:List Nat} {w0 w:A2} {L:List (Nat×List AF)}
theorem Vg (n:Nat):(B3 n [aa 0,aa 0,aa 0,aa 0]).flatten=flat eD (B3 n zD)++[]:=by
 rw[BX,lH];rfl
theorem Cz (H:aL D G w0 w L) (n:Int) {K:Option AC×Int×Unit->A2->Prop} (hb:n<1\/n>4096-> ∀w1,aL D G w0 w1 L->K (none,1,()) w1)
 (b:1<=n->n<=4096-> ∀bp bf w1,aL D G w0 w1 ((bp,[.slice (af bf) n.toNat n.toNat])::(bf,flat eD (B3 n.toNat zD)++[])::L)->K (some ⟨bp,0,none⟩,0,()) w1):
 aA AB 72 (.bu [.one .ptr,.one (.int .i64)]) [aa n] w K:=by
 refine aA.go H λw1 H=>ai (C:=E0) (aQ:=λ_=>[]) (AG (Cx n w1 K) ?_);refine ab (λc=>au.go H λa H=>hb (by simpa using c) a H) (λc=>?_);have h1:1<=n/\n<=4096:=by simp only[DA,decide_eq_false_iff_not] at c;omega
 refine NJ.go H rfl (by omega) (by omega) (by omega) (by omega) λbf a H=>?_;rw[Vg] at H;exact aN.go H λbp e H=>au.go H λd H=>b h1.1 h1.2 bp bf d H
theorem Vh (H:aL D G w0 w L) {bp bf n c:Nat} {ds:List DT} {rest:List AF} (g:bK w bp [.slice (af bf) n c]) (j:bK w bf (flat eD ds++rest)) (i:n=ds.length) (h0:0<n) (m:n<=4096) {K:Option AC->A2->Prop}
 (k: ∀a b d f w1,aL D G w0 w1 ((a,[.slice (af b) n d])::(b,flat eD ds++f)::L)->K (af a) w1):
 aC AB 54 (.el (.one .ptr)) [ag (af bp)] w K:=by
 refine ai (C:=E0) (aQ:=λ_=>[]) (AG (Va _ w K) ?_);refine⟨(n:Int),ae.of (s:= .el (.one (.int .i64))) λw' h=>rT (g.ext h),ab (λc0=>?_) (λc0=>⟨rfl,rfl,aj.of (some ⟨bf,0,none⟩,n,c) (by rw[aW];exact g.ow rfl) λw1 h1=>?_⟩)⟩
 ·simp only[beq_iff_eq] at c0;omega
 ·refine mz.copy (H.ext h1) (e:=eD) (ys:=ds) (j.ext h1) ?_ i (by intro e;subst e;simp at i;omega) rfl rfl rfl (by omega) λb d f o H=>aN.go H λa p H=>au.go H λl H=>k a b d f l H;rw[GG (by rw[aG];exact Db _),FS (by rw[aG];exact Db _)]
end
def cq (ds:List DT) (v:Int):Nat:=ds.countP λd=>d.1==v
def fX (ds:List DT) (v:Int):List Nat:=(DN ds.length).filter λi=>match ds[i]? with
 |some d=>d.2.1==v
 |none=>false
theorem Eh {ds:List DT} {v:Int} {i:Nat} {d:DT} (h:ds[i]? =some d):cq (ds.take (i+1)) v=cq (ds.take i) v+(if d.1=v then 1 else 0):=by
 unfold cq;rw[J1,h,List.countP_append];congr 1;simp
theorem pY {ds:List DT} {i:Nat} {v:Int} {NW:DT->Int} {x:List AF} (h:(match ds[i]? with
 |some d=>if NW d=v then some [aa (i:Nat)] else none
 |none=>none)=some x): ∃d,ds[i]? =some d/\NW d=v/\x=[aa (i:Nat)]:=by
 split at h
 ·rename_i d a;split at h
  ·rename_i b;cases h;exact⟨d,a,b,rfl⟩
  ·cases h
 ·cases h
theorem CB {ds:List DT} {i:Nat} {v:Int} {NW:DT->Int} (hi:i<ds.length) (h:(match ds[i]? with
 |some d=>if NW d=v then some [aa (i:Nat)] else none
 |none=>none)=none): ∃d,ds[i]? =some d/\NW d≠v:=by
 rw[Ae hi] at h;refine⟨ds[i],Ae hi,?_⟩;intro a;simp only[a,if_true] at h;cases h
theorem Ei {w:A2} {bp bf n c:Nat} {ds:List DT} {rest:List AF} (m:bK w bp [.slice (af bf) n c]) (o:bK w bf (flat eD ds++rest)) (p:n=ds.length) (q:n<=4096) (v:Int):
 aC AB 30 (.el (.one (.int .i64))) [ag (af bp),aa v] w (λx w'=>x=(cq ds v:Int)/\Ext w w'):=by
 subst p;refine aR (C:=E0) (aQ:=uo) (AG (Rq _ v w _) ?_);have H:=At.start [] w;refine aN.go H λb w1 H=>az.all 0 H rfl rfl rfl λA H=>tq H _ v λpc ic kc B H=>?_;refine z5.go H (Eg (v:=v) (pc:=pc) (ic:=ic) (kc:=kc) (bp:=bp) (bf:=bf) (c:=c) (rest:=rest) q)
  (λi=>[(ic,[.func (.func 105) #[] #[ag (af kc)]]),(pc,[ag (af bp)]),(kc,[aa v]),(b,[aa (cq (ds.take i) v:Nat)])])
  (λ_ _=>False) rfl ?_ ?_ ?_ ?_ ?_ ?_
 ·exact λD i w' H=>⟨H.get (i:=1) rfl,H.get (i:=0) rfl,H.get (i:=2) rfl,H.fQ m (by simp),H.fQ o (by simp)⟩
 ·intro i hi a;obtain⟨d,f,g⟩:=CB hi a;simp only[Eh f,ao g,HB]
 ·intro i x hi a;obtain⟨d,f,g,rfl⟩:=pY a;exact⟨((i:Nat),()),rfl⟩
 ·intro i x hi a r l rec k R h h1 _;obtain⟨d,f,g,E⟩:=pY a;refine De.go h rfl (BS.go h λwb H s=>aj.at 3 H rfl rfl (az.all 3 H rfl rfl rfl λt H=>sw.next s H λu y=>h1 u ?_));have F:cq (ds.take i) v<=4096:=Do List.countP_le_length (by rw[G1];omega);have e:aJ .i64 ((cq (ds.take i) v:Nat):Int) 1=((cq (ds.take (i+1)) v:Nat):Int):=by
   rw[Eh f,av g,ax (by omega) (by omega)];rfl
  rw[<-e];exact y
 ·intro r rec k h;refine dz.none h λt H=>aj.at 3 H rfl rfl (sy.go H λG H=>?_);exact⟨by rw[J_],H.all⟩
 ·exact λj L' r rec k z _=>z.elim
theorem Ej {ds:List DT} {v:Int} {i:Nat} {d:DT} (h:ds[i]? =some d):fX (ds.take (i+1)) v=fX (ds.take i) v++(if d.2.1=v then[i] else[]):=by
 have hi:i<ds.length:=(B1.1 h).1;unfold fX;rw[G1,G1,JP (by omega),JP (by omega),GI,GJ];congr 1
 ·apply List.filter_congr;intro j a;have b:j<i:=by simpa using a
  rw[H4 (by omega),H4 b]
 ·simp only[E5,List.filter_nil,H4 (Nat.lt_succ_self i),h,beq_iff_eq]
theorem Rw {w:A2} {bp bf n c:Nat} {ds:List DT} {rest:List AF} (y:bK w bp [.slice (af bf) n c]) (z:bK w bf (flat eD ds++rest)) (A:n=ds.length) (B:n<=4096) (v:Int):
 aC AB 166 (.el (.one .slice)) [ag (af bp),aa v] w (λr w'=>lN w w' eI r ((fX ds v).map λi=>((i:Nat):Int))/\Ext w w'):=by
 subst A;refine aR (C:=E0) (aQ:=uq) (AG (Rs _ v w _) ?_);have H:=At.start [] w;refine aN.go H λkc w1 H=>aN.go H λb W H=>Vc H _ _ λpc ic X H=>?_
 let a:Nat->List Int:=λi=>(fX (ds.take i) v).map λi=>((i:Nat):Int)
 have D: ∀i,(a i).length<=4096:=λi=>by
  simp only[a,Fh];refine Do (GS _ _) ?_;simp only[List.length_range,G1];omega
 let g:Option AC×Nat×Nat->List (Nat×List AF):=λs=>[(ic,[.func (.func 207) #[] #[ag (af kc)]]),(pc,[ag (af bp)]),(b,[.slice s.1 s.2.1 s.2.2]),(kc,[aa v])]
 let Inv:Nat->List (Nat×List AF)->Prop:=λi L'=> ∃s Ls,L'=Ls++g s/\((s=(none,0,0)/\a i=[]/\Ls=[])\/ ∃bs cs rs,s=(some ⟨bs,0,none⟩,(a i).length,cs)/\Ls=[(bs,flat eI (a i)++rs)]/\(flat eI (a i)++rs).length=cs*aD eI/\(a i).length<=cs)
 refine z5.inv H (Ru (v:=v) (pc:=pc) (ic:=ic) (kc:=kc) (bp:=bp) (bf:=bf) (c:=c) (rest:=rest) B) Inv
  (λ_ _=>False) ⟨(none,0,0),[],rfl,.inl ⟨rfl,rfl,rfl⟩⟩ ?_ ?_ ?_ ?_ ?_ ?_
 ·rintro Y i w' L' ⟨s,Ls,rfl, _⟩ H;have H:=H.sub (List.sublist_append_right Ls (g s));exact⟨H.get (i:=1) rfl,H.get (i:=0) rfl,H.get (i:=3) rfl,H.fQ y (by simp),H.fQ z (by simp)⟩
 ·rintro i L' hi k ⟨s,Ls,rfl,f⟩;obtain⟨d,m,E⟩:=CB (NW:=λd=>d.2.1) hi k;have e:a (i+1)=a i:=by simp only[a,Ej m,ao E,BX]
  exact⟨s,Ls,rfl,by rw[e];exact f⟩
 ·intro i x hi k;obtain⟨d,m,f,rfl⟩:=pY (NW:=λd=>d.2.1) k;exact⟨((i:Nat),()),rfl⟩
 ·rintro i x L' hi k ⟨s,Ls,rfl,f⟩ r l rec p R o h1 _;obtain⟨d,m,F,G⟩:=pY (NW:=λd=>d.2.1) k;have q:x.1=((i:Nat):Int):=by
   have h:[aa x.1]=[aa (i:Nat)]:=G;simpa using h
  obtain⟨x1,u⟩:=x;simp only at q;subst q;have e:a (i+1)=a i++[((i:Nat):Int)]:=by simp only[a,Ej m,av F,FU,List.map_cons,List.map_nil]
  have Z:=D i;have t:(a (i+1)).length=(a i).length+1:=by rw[e];simp
  refine De.go o rfl (BS.go o λwb H I=>aj.of s ?_ (aN.go H λb2 J H=>λK L=>?_))
  ·exact(H.dk (b,[.slice s.1 s.2.1 s.2.2]) (Cc _ (by simp[g]))).ow rfl
  ·refine aL.grow (e:=eI) (x:=((i:Nat):Int)) (Ls:=Ls) (L0:=g s) (H.ext L) f rfl rfl rfl (by omega) λbs cs rs w7 M N H=>?_;refine az.all 3 H rfl rfl rfl λw8 H=>sw.next I H λO P=>h1 _ O ⟨(some ⟨bs,0,none⟩,(a i).length+1,cs),[(bs,flat eI (a (i+1))++rs)],rfl,.inr ⟨bs,cs,rs,by rw[t],rfl,by rw[e];exact M,by rw[t];exact N⟩⟩ ?_
   rw[e];exact P
 ·rintro L' r rec p ⟨s,Ls,rfl,f⟩ o;refine dz.none o λJ H=>aj.of s ?_ (sy.go H λK H=>?_)
  ·exact(H.dk (b,[.slice s.1 s.2.1 s.2.2]) (Cc _ (by simp[g]))).ow rfl
  ·refine⟨?_,H.all⟩;have Q:a ds.length=(fX ds v).map λi=>((i:Nat):Int):=by simp only[a,J_]
   rw[<-Q];rcases f with ⟨rfl,S,rfl⟩|⟨bs,cs,rs,rfl,rfl,T,U⟩
   ·rw[S];exact lN.nil _ _ _
   ·refine⟨rfl,U,.inr ⟨bs, _,rfl,(H.own _ (Dl _ (List.mem_singleton.2 rfl))).resolve_right (by simp),H.get (i:=0) rfl,T,?_⟩⟩;rw[GG (by rw[aG];exact Db _),FS (by rw[aG];exact Db _)]
 ·exact λj L' r rec p V _=>V.elim
end Go.Proofs.YtlcenllcmeebhaaGreat.D
