import Derived.Test.YteeflilbnoknnaaGreatHAF
/-! What the statement leans on: texts joined and shortened by a program of mine. -/
set_option linter.unusedVariables false
set_option linter.unusedSimpArgs false
open Go renaming World->A2,Addr->AE,Value->AG
open Go.Proofs.Tryz renaming prog->AC
open Eq renaming mpr->AR
open List renaming range->AT,mem_cons_of_mem->AZ,length_map->B1,mem_append_right->B2,length_append->B3,replicate->B4,getElem?_eq_some_iff->B5,perm_append_comm_assoc->C7,getElem?_map->Ce,mem_cons_self->Cs,sublist_cons_self->Ct,getElem?_eq_getElem->DC,length_take->DS,append_assoc->Df,sublist_append_left->Dn,sublist_append_right->Do,pairwise_cons->Dt,length_drop->Du,append_nil->Dx,perm_append_comm->E4,mem_of_getElem?->E5,map_append->FA,take_of_length_le->FB,getElem?_set_self->FC,getElem?_of_mem->FJ,length_set->FS,getD_eq_getElem?_getD->Fe,perm_middle->Fk,mem_cons->Fm,getElem?_append_left->Fz,perm_append_singleton->GS,range_succ->Gi,flatMap_append->H2,length_cons->H4,set_set->H5,eq_nil_of_length_eq_zero->H6,getElem?_append_right->HF,length_pos_iff->HH,mem_singleton->HQ,pairwise_append->HY,mem_append_left->Hb,take_add_one->Hr,mem_range->Hz,length_range->I1,getElem?_range->I8,drop_eq_nil_of_le->I_,length_replicate->IR,getElem?_replicate->In,take_append_drop->J3,getElem?_eq_none->Jc,reverse_reverse->Jj,filter_filter->Jl,filter_congr->K0,filter_eq_self->K1,length_filter_le->K2,drop_eq_getElem_cons->L2,findIdx?_eq_none_iff->LL,findIdx?_eq_some_iff_getElem->M5,getElem_mem->M6,getElem?_set_ne->M9,length_nil->MD,nil_append->MF
open Int renaming toNat->AU,toNat_natCast->DA,le_refl->Ff,tmod_eq_emod_of_nonneg->Jf
open Nat renaming le_refl->C9,zero_le->H7,le_trans->H8,le_of_ble_eq_true->MG,mul_le_mul_right->MJ,not_lt_zero->MM,min_eq_left->MV
open Go.IntKind renaming i64->Ch
open Bool renaming or_eq_false_iff->DB,and_eq_true->Da,or_eq_true->Dl,eq_iff_iff->H9,and_eq_false_iff->HB,not_eq_true'->HD
open Go.Value renaming bool->Dm
open Go.Builtin renaming zeroCells->Fh
open List.Perm renaming trans->MW,cons->MY,append_right->Ml
namespace Go.Proofs.YteeflilbnoknnaaGreat
set_option maxRecDepth 100000
open Go.RX D
theorem aF.sl {Q:Sys} {D G:List Nat} {w0 w:A2} {s:WD} {L0 rows:List (Nat×List AG)} {e:El} {x:Option AE×Nat×Nat} {xs:List e.T} (S:aF Q D G w0 w s L0) (a:ia e rows x xs) (b: ∀y∈rows,y∈L0):Sl w e x.1 xs:=by
 have ⟨g1,c,d,f,ca,la,H⟩:=S;refine a.sl H λy g=>?_;show y∈ _:: _:: _:: _::L0
 grind
section
variable {Q:Sys} {D G:List Nat} {w0 w:A2} {s:WD}
theorem aF.DE {A Ls:List (Nat×List AG)} {b2 d:Nat} {a:List AG} {xs ys:List Int} {sl:Option AE×Nat×Nat} (S:aF Q D G w0 w s ((b2,flat eN ys++a)::(A++Ls))) (f:nq Ls sl xs) (g:ys≠[]) (hb:xs.length+ys.length<=1000000) {t:TypeId}
 {R:Option AE×Nat×Nat->A2->Prop} (k: ∀iC b w',nq iC b (xs++ys)->aF Q D G w0 w' s (A++iC)->R b w'):
 nm w t 1 8 ⟨[aa 0]⟩ sl (some ⟨b2,0,none⟩,ys.length,d) R:=by
 have ⟨h,h2,i,j,ca,la,H⟩:=S;have l:aJ D G w0 w ((b2,flat eN ys++a)::Ls++Q.L ca la s A):=by
  refine H.perm ?_;have e:Q.L ca la s ((b2,flat eN ys++a)::(A++Ls))=Q.L ca la s []++(b2,flat eN ys++a)::(A++Ls):=rfl;rw[e];refine MW ?_ Fk.symm;refine MY _ ?_;exact E4
 refine aJ.DE l g f rfl rfl rfl (by omega) λbs c rest w' m n o=>k _ _ w' (.inr ⟨bs,c,rest,rfl,rfl,m,n⟩) ⟨h,h2,i,j,ca,la,o.perm ?_⟩;have e:Q.L ca la s _=Q.L ca la s A++[(bs,flat eN (xs++ys)++rest)]:=rfl
 simp_all
theorem aF.ik {A Ls:List (Nat×List AG)} {b2:Nat} {x:Int} {xs:List Int} {sl:Option AE×Nat×Nat} (S:aF Q D G w0 w s ((b2,[aa x])::(A++Ls))) (b:nq Ls sl xs) (hb:xs.length<=900000) {t:TypeId}
 {R:Option AE×Nat×Nat->A2->Prop} (k: ∀iC a w',nq iC a (xs++[x])->aF Q D G w0 w' s (A++iC)->R a w'):
 nm w t 1 8 ⟨[aa 0]⟩ sl (some ⟨b2,0,none⟩,1,1) R:=
 aF.DE S b (by simp) (by grind) k
theorem nq.rR {Ls:List (Nat×List AG)} {sl:Option AE×Nat×Nat} {xs:List Int} (h:nq Ls sl xs):ia eN Ls sl xs:=by
 rcases h with ⟨rfl,rfl,rfl⟩|⟨bs,c,rest,rfl,rfl, _⟩
 .exact⟨rfl,by simp⟩
 .exact⟨rfl,by simp⟩
end
theorem Ew (ws:List Int) (pg:Int): ∀(l:Nat) (f:Int) (x:PT),x∈bG ws pg l f->x.2.2.1=c9 x.1 pg x.2.1
 |0,f,x,h=>by
  rw[bG] at h
  grind
 |l+1,f,x,h=>by
  rcases Fm.1 h with rfl|h
  .rfl
  .split at h
   .exact Ew ws pg l _ x h
   grind
theorem BZ (ws:List Int) (pg:Int): ∀(l:Nat) (f:Int),((bG ws pg l f).getLast (mY ws pg l f)).2.1+(bG ws pg l f).length=(l:Int)+1
 |0,f=>rfl
 |l+1,f=>by
  by_cases h:eM (aO ws (c9 f pg (l+1:Nat)))=true
  .have e:bG ws pg (l+1) f=(f,((l+1:Nat):Int),c9 f pg ((l+1:Nat):Int),())::bG ws pg l (aO ws (c9 f pg ((l+1:Nat):Int))).2.2.2.1:=by rw[bG,az h]
   have:=BZ ws pg l
   grind
  .have e:bG ws pg (l+1) f=[(f,((l+1:Nat):Int),c9 f pg ((l+1:Nat):Int),())]:=by rw[bG,ar h]
   grind
theorem RD (ws:List Int) (r pg:Int):(cM ws r pg).2.1=4 - (bG ws pg 3 r).length:=by grind[BZ,cM]
theorem I0 (ws:List Int) (r pg:Int):(cM ws r pg).2.2.1=c9 (cM ws r pg).1 pg (cM ws r pg).2.1:=Ew ws pg 3 r _ (E5 (lQ ws r pg))
def y_ (ws:List Int) (pg r:Int):Prop:= ∀x∈bG ws pg 3 r,oX ws x.2.2.1=true
theorem y_.last {ws:List Int} {pg r:Int} (h:y_ ws pg r):oX ws (cM ws r pg).2.2.1=true:=h _ (E5 (lQ ws r pg))
section
variable {Q:Sys} {D G:List Nat} {w0 w:A2} {s:WD} {L0:List (Nat×List AG)} {bt:Nat} {o r:Int} {gone:Bool}
namespace aF
theorem rdW (S:aF Q D G w0 w s L0) {a:Int} (h:oX s.1 a=true):bP w (ad (ae Q.bw) (a.toNat*1)) gZ (eY s.1 a):=by
 have ⟨c,h2,d,f,ca,la,H⟩:=S;have hi:=gz.1 h;have b:=H.get (i:=1) rfl;rw[aS];have e:=cK b (S4 (i:=a.toNat) (by omega));unfold eY
 grind
theorem rdL (S:aF Q D G w0 w s L0):bP w (ad (ae Q.bm) 0) bX (some ⟨Q.bw,0,none⟩,s.1.length,Q.c):=by
 have ⟨ca,la,a⟩:=S.mem;exact a.mF rfl
theorem Fb (S:aF Q D G w0 w s L0):bP w (ad (ae Q.bp) 0) bX (some ⟨Q.bf,0,none⟩,s.2.length,Q.cp):=by
 exact S.aal.mF rfl
theorem Ov (S:aF Q D G w0 w s L0) (k0:Nat) (c:L0[k0]? =some (bt,iV Q o r gone)) (f pg lv:Int) (h:oX s.1 (c9 f pg lv)=true) {K:ET->A2->Prop} (k: ∀a,aF Q D G w0 a s L0->K (aO s.1 (c9 f pg lv)) a):
 aA AC 254 (.el (.agg ZC)) [ah (ae bt),aa f,aa pg,aa lv] w K:=by
 refine S.go λw1 S=>aQ (C:=N2) (AR (LM _ f pg lv w1 K) ?_);have hi:=gz.1 h;refine S.al λb a S=>⟨rfl,rfl,S.a_ (k0+1) c rfl ⟨rfl,rfl,ag.of _ S.rdL ⟨trivial,⟨rfl,hi.1,hi.2⟩,ag.of _ (S.rdW h) ⟨?_,S.al λb1 e S=>S.cQ 0 rfl rfl rfl λg S=>S.ld 0 rfl rfl (S.cQ 1 rfl rfl rfl λi S=>S.en λd S=>S.ld 1 rfl rfl (k d S.tail.tail))⟩⟩⟩⟩;have h2:=vM S.Sk (c9 f pg lv);exact yz h2.1 h2.2
theorem Nk (S:aF Q D G w0 w s L0) (k0:Nat) (d:L0[k0]? =some (bt,iV Q o r gone)) (i:Int) (e:ET) {K:Unit->A2->Prop} (c: ∀a,aF Q D G w0 a (dx s i e) L0->K () a):
 aA AC 240 (.bu []) [ah (ae bt),aa i,.agg ⟨[.bool e.1,aa e.2.1,.bool e.2.2.1,aa e.2.2.2.1]⟩] w K:=by
 refine S.go λw1 S=>aj (AR (Ve _ i e.1 e.2.1 _ _ w1 K) ?_);exact S.al λb a S=>S.ld 0 rfl rfl ⟨trivial,rfl,rfl,S.a_ (k0+1) d rfl (S.vO i _ (FX _ _ _ _) λg S=>S.en λf S=>c f S.tail)⟩
theorem abE (S:aF Q D G w0 w s L0) (k0:Nat) (b:L0[k0]? =some (bt,iV Q o r gone)):ai AC 82 [ah (ae bt)] w (aa (V6 r gone)):=by
 refine ai.of λw' h'=>aj (AR (RC _ w' _) ?_);have S:=S.ext h';refine⟨rfl,rfl,S.a_ k0 b rfl ?_⟩;cases gone with
 |true=>exact ax rfl λw1 a=>⟨rfl,a⟩
 |false=>exact an rfl ⟨rfl,rfl,S.a_ k0 b rfl λw1 a=>⟨rfl,a⟩⟩
theorem Jp (S:aF Q D G w0 w s L0) (k0:Nat) (h:L0[k0]? =some (bt,iV Q o r gone)) (pg:Int) (m:y_ s.1 pg r) {K:Option AE×Nat×Nat->A2->Prop} (k: ∀x Ls g,aF Q D G w0 g s (L0++Ls)->nq Ls x ((bG s.1 pg 3 r).map (·.1))->K x g):
 aA AC 239 di [ah (ae bt),aa pg] w K:=by
 refine S.go λw1 S=>aj (C:=N2) (b_:=xh) (AR (Vf _ pg w1 K) ?_);have p: ∀{Ls:List (Nat×List AG)},(L0++Ls)[k0]? =some (bt,iV Q o r gone):=λ{Ls}=>by
  rw[Fz (B5.1 h).1];exact h
 refine⟨rfl,rfl,S.a_ k0 h rfl (S.al λb g S=>?_)⟩;have S:aF Q D G w0 g s (L0++[(b,[aa r])]):=S.perm (GS _ _);refine⟨λn v w'=> ∃(pre:List PT) (f:Int) (Ls:List (Nat×List AG)),v.2.1=(n:Int)/\n<=3/\bG s.1 pg 3 r=pre++bG s.1 pg n f/\nq Ls v.1 (pre.map (·.1)++[f])/\aF Q D G w0 w' s (L0++Ls),⟨3,λq t=>⟨[],r, _,rfl,C9 _,rfl,.inr ⟨b,1,[],rfl,rfl,rfl,C9 _⟩,S.ext t⟩⟩,?_⟩;clear S;rintro n ⟨sl,v,u⟩ q ⟨pre,f,Ls,e,I,d,a,S⟩;dsimp only at e a ⊢;subst e;have J:sl.2.1=pre.length+1:=by
  have:=a.rR.1;simpa using this
 have L:pre.length<=4:=by
  have:=k6 s.1 pg 3 r;rw[d,B3] at this;omega
 rcases n with _|n
 .refine an (by simp) (S.en λi S=>k sl Ls i S ?_);rw[d,FA];exact a
 .have z:oX s.1 (c9 f pg ((n+1:Nat):Int))=true:=m (f,((n+1:Nat):Int),c9 f pg ((n+1:Nat):Int),()) (by
   rw[d,BD];exact B2 _ Cs)
  have A:aR .i64 ((sl.2.1:Nat):Int) 1=(pre.length:Int):=by rw[aX (by omega) (by omega)];omega
  have j:=(S.sl a.rR (λy B=>B2 _ B)) pre.length f (by rw[HF (by simp)];simp);rw[A];refine ax (by simp) ⟨⟨j.1,by omega,by omega⟩,ag.of f j.2 (S.Ov k0 p f pg _ z λi S=>S.al λb1 M S=>S.cQ 0 rfl rfl rfl λN S=>S.ld 0 rfl rfl ⟨trivial,ab (λc=>S.en λl S=>k sl Ls l S.tail ?_) (λc=>?_)⟩)⟩
  .have c:eM (aO s.1 (c9 f pg ((n+1:Nat):Int)))=false:=by
    have:(!eM (aO s.1 (c9 f pg ((n+1:Nat):Int))))=true:=c;simpa using this
   rw[d,FA,bG,c,ar (by decide)];exact a
  .have c:eM (aO s.1 (c9 f pg ((n+1:Nat):Int)))=true:=by
    have:(!eM (aO s.1 (c9 f pg ((n+1:Nat):Int))))=false:=c;simpa using this
   refine⟨rfl,S.a_ 0 rfl rfl (S.al λb2 l S=>λO E=>?_)⟩;have S:=(S.ext E).sub (.cons_cons _ (Ct _ _));refine aF.ik S a (by simp;omega) λiC P R F S=>λT H=>⟨n,by omega,pre++[(f,((n+1:Nat):Int),c9 f pg ((n+1:Nat):Int),())],(aO s.1 (c9 f pg ((n+1:Nat):Int))).2.2.2.1,iC,?_,by omega,?_,?_,S.ext H⟩
   .rw[aX (by omega) (by omega)];omega
   .rw[d,bG,az c];simp
   .simpa using F
theorem Ic (S:aF Q D G w0 w s L0) (k0:Nat) (g:L0[k0]? =some (bt,iV Q o r gone)) (pg:Int) (c:y_ s.1 pg r) {K:ET×Int×Unit->A2->Prop} (k: ∀a,aF Q D G w0 a s L0->K (cx s.1 r pg,(cM s.1 r pg).2.1,()) a):
 aA AC 169 (.bu [.agg ZC,aq]) [ah (ae bt),aa pg] w K:=by
 refine S.go λw1 S=>aQ (C:=N2) (AR (Rz _ pg w1 K) ?_);refine S.al λb a S=>S.Jp (k0+1) g pg c λx Ls q S d=>?_;have t:(bG s.1 pg 3 r).length<=4:=k6 s.1 pg 3 r;have u:0<(bG s.1 pg 3 r).length:=HH.2 (mY s.1 pg 3 r);have h:x.2.1=(bG s.1 pg 3 r).length:=by
  have:=d.rR.1;simpa using this
 have i:aR .i64 ((x.2.1:Nat):Int) 1=(((bG s.1 pg 3 r).length - 1:Nat):Int):=by rw[aX (by omega) (by omega)];omega
 have j:aR .i64 4 ((x.2.1:Nat):Int)=(cM s.1 r pg).2.1:=by rw[aX (by omega) (by omega),RD,h]
 have e:=(S.sl d.rR (λy l=>B2 _ l)) ((bG s.1 pg 3 r).length - 1) (cM s.1 r pg).1 (by rw[Ce,lQ];rfl);have m:((b,[Dm false,aa 0,.bool false,aa 0])::L0++Ls)[k0+1]? =some (bt,iV Q o r gone):=by
  grind
 have f:=c.last;rw[I0] at f;rw[i,j];refine⟨⟨e.1,by omega,by omega⟩,ag.of (cM s.1 r pg).1 e.2 (S.Ov (k0+1) m _ pg _ f λv S=>S.cQ 0 rfl rfl rfl λz S=>S.en λn S=>S.ld 0 rfl rfl ?_)⟩;have p:cx s.1 r pg=aO s.1 (c9 (cM s.1 r pg).1 pg (cM s.1 r pg).2.1):=by unfold cx;rw[I0]
 rw[p] at k;exact k n (S.tail.sub (Dn _ _))
theorem F8 (S:aF Q D G w0 w s L0) (k0:Nat) (h:L0[k0]? =some (bt,iV Q o r gone)) (pg:Int) (i:gone=false->0<=pg/\pg<65536->y_ s.1 pg r) {K:Int×Int×Int×Unit->A2->Prop} (k: ∀e,aF Q D G w0 e s L0->K (bC s r gone pg) e):
 aA AC 84 (.bu [aq,aq,aq]) [ah (ae bt),aa pg] w K:=by
 refine S.go λw1 S=>aj (C:=N2) (AR (LN _ pg w1 K) ?_);refine⟨rfl,rfl,S.a_ k0 h rfl ?_⟩;unfold bC at k;cases gone with
 |true=>
  rw[az rfl] at k;exact ax rfl (S.en λe S=>k e S)
 |false=>
  rw[ar (by decide)] at k;refine an rfl (ab (λc=>S.en λe S=>?_) (λc=>?_))
  grind
  .simp only[DB,decide_eq_false_iff_not] at c;rw[ar (by omega)] at k;have hb:=mw s.1 (cM s.1 r pg).2.2.1;have er:gj pg 16=pg % 16:=by unfold gj;exact Jf (by omega)
   refine S.Ic k0 h pg (i rfl (by omega)) λe S=>S.al λb j S=>S.cQ 0 rfl rfl rfl λl S=>⟨rfl,S.a_ 0 rfl rfl (ab (λa=>S.en λf S=>?_) (λa=>ab (λd=>⟨rfl,S.a_ 0 rfl rfl ⟨rfl,S.a_ 0 rfl rfl (S.en λf S=>?_)⟩⟩) (λd=>⟨rfl,S.a_ 0 rfl rfl ⟨rfl,S.a_ 0 rfl rfl (S.en λf S=>?_)⟩⟩)))⟩
   .have a:(cx s.1 r pg).1=false:=by simpa using a
    rw[a,ar (by decide)] at k;exact k f S.tail
   .have a:(cx s.1 r pg).1=true:=by simpa using a
    have d:(cM s.1 r pg).2.1=1:=by simpa using d
    rw[a,az rfl] at k;have g:ay .i64 (cx s.1 r pg).2.2.2.1 (gj pg 16)=l9 pg (cM s.1 r pg) (cx s.1 r pg):=by
     unfold l9;rw[az d,er];exact ao (by unfold cx;omega) (by unfold cx;omega)
    dsimp only;rw[g];exact k f S.tail
   .have a:(cx s.1 r pg).1=true:=by simpa using a
    have d: ¬ (cM s.1 r pg).2.1=1:=by simpa using d
    rw[a,az rfl] at k;have g:(cx s.1 r pg).2.2.2.1=l9 pg (cM s.1 r pg) (cx s.1 r pg):=by unfold l9;rw[ar d]
    dsimp only;rw[g];exact k f S.tail
end aF
end
set_option maxRecDepth 100000
open Go.RX D
namespace Inv
variable {g:Gh} {s:WD}
theorem Vj (I:Inv g s) {o p:Int} (c:0<=p/\p<65536): ∀(l:Nat) {f:Int},g f=some (o,l,px (l+1) p)-> ∀x∈bG s.1 p l f,oX s.1 x.2.2.1=true:=by
 intro l
 induction l with
 |zero=>
  intro f b x a;rw[bG,HQ] at a;subst a;have ⟨b1,b2,b3⟩:=I.pQ b;have e:=ko ⟨b1,b2⟩ c (l:=0) (by omega);show oX s.1 (c9 f p ((0:Nat):Int))=true;rw[e];exact jX (by omega) (by omega)
 |succ l h=>
  intro f b x a;have ⟨b1,b2,b3⟩:=I.pQ b;have i:=(I.kd b).2.2.2.2.2;have hi:=fC p (l+1);have e:=ko ⟨b1,b2⟩ c (by omega);rcases Fm.1 a with rfl|a
  .show oX s.1 (c9 f p _)=true;rw[e];exact jX (by omega) (by omega)
  .split at a
   .rename_i d;rw[e] at d a;have ⟨m,j,h2⟩:=I.oW b hi.1 hi.2 d;have:m=l:=by omega
    subst this;rw[<-mZ] at h2;exact h h2 x a
   .cases a
theorem mu (I:Inv g s) {o r p:Int} (b:g r=some (o,3,0)) (a:0<=p/\p<65536):y_ s.1 p r:=I.Vj a 3 (by rw[WX a];exact b)
theorem LR (I:Inv g s) {ws:List Int} (h: ∀{f o l x k},g f=some (o,l,x)->0<=k->k<16->aO ws (16*f+k)=aO s.1 (16*f+k)) {o p:Int} (b:0<=p/\p<65536): ∀(l:Nat) {f:Int},g f=some (o,l,px (l+1) p)->bG ws p l f=bG s.1 p l f:=by
 intro l
 induction l with
 |zero=>intro f _;rfl
 |succ l=>
  intro f a;have ⟨b1,b2,b3⟩:=I.pQ a;have d:=(I.kd a).2.2.2.2.2;have hi:=fC p (l+1);have e:=ko ⟨b1,b2⟩ b (by omega);rw[bG,bG,e,h a hi.1 hi.2];congr 1;split
  .rename_i c;have ⟨m,i,h2⟩:=I.oW a hi.1 hi.2 c;have:m=l:=by omega
   subst this;rw[<-mZ] at h2
   grind
  .rfl
theorem abF (I:Inv g s) {o r p f:Int} {m:Nat} (b:g r=some (o,3,0)) (a:dP g s o p f (m+1)) (u:(aO s.1 (16*f+px (m+1) p % 16)).1=false) (hc:0<cB s.2 0):
 oZ s o=0/\(0<=fb s o/\fb s o<4096)/\ ∃g',Inv g' (dx (g8 s o λ_=>0) (16*f+px (m+1) p % 16) (cw (fb s o)))/\g' r=some (o,3,0)/\dP g' (dx (g8 s o λ_=>0) (16*f+px (m+1) p % 16) (cw (fb s o))) o p (fb s o) m/\
  (aO (dx (g8 s o λ_=>0) (16*f+px (m+1) p % 16) (cw (fb s o))).1 (16*fb s o+px m p % 16)).1=false/\cB (dx (g8 s o λ_=>0) (16*f+px (m+1) p % 16) (cw (fb s o))).2 0+1=cB s.2 0:=by
 have hi:=fC p (m+1);obtain⟨c,d,e,v,w,h,i,j,l,n⟩:=I.zH a.1 hi.1 hi.2 a.2 hc _ (λk _ _=>by
  rw[ph];exact⟨FD,Bd _,λ_=>rfl⟩) λp' _ x=>by
  rw[AP _ _ rfl,AP]
  grind
 obtain⟨q,t⟩:=j p a rfl;have y:=tS (d':=(3,o,0,0,())) i 0;refine⟨c,⟨l,n⟩, _,d,e.to b,q,by rw[t];rfl,?_⟩;rw[h];simpa
end Inv
section
variable {Q:Sys} {D G:List Nat} {w0 w:A2} {s:WD} {L0:List (Nat×List AG)} {bt:Nat} {o r:Int} {gone:Bool}
namespace aF
theorem gB {L Ls:List (Nat×List AG)} {k:Nat} {x:Nat×List AG} (h:L[k]? =some x):(L++Ls)[k]? =some x:=by
 grind
theorem acz (S:aF Q D G w0 w s L0) (k0:Nat) (p:L0[k0]? =some (bt,iV Q o r gone)) {g:Gh} (Z:gone=false->Inv g s/\g r=some (o,3,0)) (pg:Int) (lv:Nat) (WU:lv<=1) (e:ET) {K:Int->A2->Prop}
 (k1:gone=true-> ∀a,aF Q D G w0 a s L0->K 6 a)
 (k2:gone=false->(pg<0\/pg>=65536\/e.2.2.2.1<0\/e.2.2.2.1>=4096)-> ∀a,aF Q D G w0 a s L0->K 2 a)
 (k3:gone=false-> ¬ (pg<0\/pg>=65536\/e.2.2.2.1<0\/e.2.2.2.1>=4096)->(e.2.1<1\/e.2.1>7)-> ∀a,aF Q D G w0 a s L0->K 7 a)
 (k4:gone=false-> ¬ (pg<0\/pg>=65536\/e.2.2.2.1<0\/e.2.2.2.1>=4096)-> ¬ (e.2.1<1\/e.2.1>7)->(e.2.2.1=true/\M_ pg e.2.2.2.1=true)-> ∀a,aF Q D G w0 a s L0->K 8 a)
 (k5:gone=false-> ¬ (pg<0\/pg>=65536\/e.2.2.2.1<0\/e.2.2.2.1>=4096)-> ¬ (e.2.1<1\/e.2.1>7)-> ¬ (e.2.2.1=true/\M_ pg e.2.2.2.1=true)-> ∀a,aF Q D G w0 a (pW s o r pg lv e) L0->K (lp s r pg lv) a):
 aA AC 245 aT [ah (ae bt),aa pg,aa (lv:Int),.agg ⟨[.bool e.1,aa e.2.1,.bool e.2.2.1,aa e.2.2.2.1]⟩] w K:=by
 refine S.go λw1 S=>aj (C:=N2) (b_:=xi) (AR (Vg _ pg (lv:Int) e.1 e.2.1 e.2.2.1 e.2.2.2.1 w1 K) ?_);refine S.al λb a S=>⟨rfl,rfl,S.a_ (k0+1) p rfl ?_⟩;cases gone with
 |true=>exact ax rfl (S.en λi S=>k1 rfl i S.tail)
 |false=>
 have ⟨I,h⟩:=Z rfl;refine an rfl ⟨λ_=>rfl,S.a_ 0 rfl rfl ⟨λ_=>rfl,S.a_ 0 rfl rfl (ab (λc=>S.en λi S=>k2 rfl ?_ i S.tail) (λc=>?_))⟩⟩
 .simp only[Dl,decide_eq_true_eq] at c;omega
 have M: ¬ (pg<0\/pg>=65536\/e.2.2.2.1<0\/e.2.2.2.1>=4096):=by
  simp only[DB,decide_eq_false_iff_not] at c;omega
 clear c;refine⟨rfl,S.a_ 0 rfl rfl ⟨λ_=>rfl,S.a_ 0 rfl rfl (ab (λc=>S.en λi S=>k3 rfl M ?_ i S.tail) (λc=>?_))⟩⟩
 .simpa using c
 have U: ¬ (e.2.1<1\/e.2.1>7):=by simpa using c
 clear c;have er:gj pg 16=pg % 16:=by unfold gj;exact Jf (by omega)
 have er2:gj e.2.2.2.1 16=e.2.2.2.1 % 16:=by unfold gj;exact Jf (by omega)
 have ea:(gj pg 16 != 0||gj e.2.2.2.1 16 != 0)=M_ pg e.2.2.2.1:=by
  rw[er,er2];unfold M_;rw[H9];simp;omega
 refine⟨rfl,S.a_ 0 rfl rfl ⟨λ_=>rfl,S.a_ 0 rfl rfl ?_⟩⟩;rw[ea];refine ab (λc=>S.en λi S=>k4 rfl M U (by simpa using c) i S.tail) (λc=>?_);have c3: ¬ (e.2.2.1=true/\M_ pg e.2.2.2.1=true):=by simpa using c
 clear c;have l:0<=pg/\pg<65536:=by omega
 replace k5:=k5 rfl M U c3;have ⟨f,j,F,q⟩:=I.kG h l;have ⟨t,eP⟩:=I.iK h l q;have H:lp s r pg (lv:Int)=if((aO s.1 (16*f+px j pg % 16)).1||decide ((j:Int)<(lv:Int)))=true then 5 else if(cB s.2 0:Int)<(j:Int) - (lv:Int) then 12 else 0:=by
  unfold lp;rw[t,eP]
 refine S.Ic (k0+1) p pg (I.mu h l) λi S=>S.al λb1 w4 S=>S.cQ 0 rfl rfl rfl λw5 S=>⟨rfl,S.a_ 0 rfl rfl ?_⟩;rw[t,eP];dsimp only;by_cases d1:((aO s.1 (16*f+px j pg % 16)).1||decide ((j:Int)<(lv:Int)))=true
 .have d:lp s r pg (lv:Int)=5:=by rw[H,az d1]
  rw[d,CN (by rw[d];decide)] at k5;exact ax d1 (S.en λA S=>k5 A S.tail.tail)
 have N:=d1;simp only[Dl,decide_eq_true_eq,not_or,Bool.not_eq_true] at N;refine an (by simpa using d1) ⟨rfl,rfl,S.a_ (k0+2) p rfl ⟨_,S.acx 0,?_⟩⟩;have V:aR .i64 (j:Int) (lv:Int)=(j:Int) - (lv:Int):=aX (by omega) (by omega);rw[V];by_cases d2:(cB s.2 0:Int)<(j:Int) - (lv:Int)
 .have d:lp s r pg (lv:Int)=12:=by rw[H,ar d1,az d2]
  rw[d,CN (by rw[d];decide)] at k5;exact ax (by simpa using d2) (S.en λA S=>k5 A S.tail.tail)
 have d:lp s r pg (lv:Int)=0:=by rw[H,ar d1,ar d2]
 have ⟨z,O⟩: ∃z,z=nP o pg (j - lv) (s,(f,(j:Int),16*f+px j pg % 16,())):=⟨_,rfl⟩;have W:pW s o r pg (lv:Int) e=dx z.1 z.2.2.2.1 e:=by
  unfold pW;rw[az d,t];have en:((j:Int) - (lv:Int)).toNat=j - lv:=by omega
  dsimp only;rw[en, <-O]
 rw[d,W] at k5;refine an (by simpa using d2) ⟨λn v w'=> ∃(g:Gh) (s':WD) (f:Int) (j:Nat) (c:List AG),v.1=(j:Int)/\n+lv=j/\j<=3/\Inv g s'/\g r=some (o,3,0)/\dP g s' o pg f j/\(aO s'.1 (16*f+px j pg % 16)).1=false/\n<=cB s'.2 0/\
  nP o pg n (s',(f,(j:Int),16*f+px j pg % 16,()))=z/\aF Q D G w0 w' s' ((b1,c)::(b,[.bool e.1,aa e.2.1,.bool e.2.2.1,aa e.2.2.2.1])::L0),
  ⟨j - lv,λA h6=>⟨g,s,f,j, _,rfl,by omega,F,I,h,q,N.1,by omega,O.symm,S.ext h6⟩⟩,?_⟩
 clear S t eP H W I h q F V d1 N d2 O d;rintro n ⟨v,u⟩ A ⟨g,s',f,j,c,P,hn,F,I,h,q,hz0,hc,hd,S⟩;have P:v=(j:Int):=P;subst P;have X:=I.pQ q.1;have ⟨t,eP⟩:=I.iK h l q;have Y:c9 f pg (j:Int)=16*f+px j pg % 16:=ko ⟨X.1,X.2.1⟩ l F;have hlen:(bG s'.1 pg 3 r).length<=4:=k6 s'.1 pg 3 r;have jK:0<(bG s'.1 pg 3 r).length:=HH.2 (mY s'.1 pg 3 r);dsimp only;rcases n with _|n
 .
  obtain rfl:j=lv:=by omega
  refine an (by simp) (S.Jp (k0+2) p pg (I.mu h l) λx Ls w7 S B=>?_);have hl:x.2.1=(bG s'.1 pg 3 r).length:=by
   have:=B.rR.1;simpa using this
  have d:aR .i64 ((x.2.1:Nat):Int) 1=(((bG s'.1 pg 3 r).length - 1:Nat):Int):=by rw[aX (by omega) (by omega)];omega
  have E:=(S.sl B.rR (λy R=>B2 _ R)) ((bG s'.1 pg 3 r).length - 1) f (by rw[Ce,lQ,t];rfl);rw[d];refine⟨⟨E.1,by omega,by omega⟩,ag.of f E.2 ⟨trivial,S.ld 1 rfl rfl ?_⟩⟩;rw[Y];refine S.Nk (k0+2) (gB p) _ e λw8 S=>S.en λT S=>k5 T ?_;have hd:(s',(f,(j:Int),16*f+px j pg % 16,()))=z:=hd;rw[<-hd];exact(S.sub (Dn _ _)).tail.tail
 .
  obtain⟨m,rfl⟩: ∃m,j=m+1:=⟨j - 1,by omega⟩;have ⟨t0,t1,g',I',I6,lD,hz',hc'⟩:=I.abF h q hz0 (by omega);refine ax (by simp;omega) (S.Jp (k0+2) p pg (I.mu h l) λx Ls w7 S B=>?_);have hl:x.2.1=(bG s'.1 pg 3 r).length:=by
   have:=B.rR.1;simpa using this
  have d:aR .i64 ((x.2.1:Nat):Int) 1=(((bG s'.1 pg 3 r).length - 1:Nat):Int):=by rw[aX (by omega) (by omega)];omega
  have J:((b1,c)::(b,[Dm e.1,aa e.2.1,.bool e.2.2.1,aa e.2.2.2.1])::L0++Ls)[k0+2]? =some (bt,iV Q o r false):=gB (k:=k0+2) (L:=(b1,c)::(b,[Dm e.1,aa e.2.1,.bool e.2.2.1,aa e.2.2.2.1])::L0) p;refine⟨rfl,rfl,S.a_ (k0+2) J rfl ⟨rfl,rfl,S.a_ (k0+2) J rfl (S.Ia 3 o λw8 S=>S.Wf (k0+2) J _ ⟨t1.1,Int.le_of_lt t1.2⟩ λT S=>?_)⟩⟩;have S:aF Q D G w0 T (g8 s' o λ_=>0) ((b1,c)::(b,[Dm e.1,aa e.2.1,.bool e.2.2.1,aa e.2.2.2.1])::L0++Ls):=by
   unfold g8;rw[az t0];exact S
  have E:=(S.sl B.rR (λy R=>B2 _ R)) ((bG s'.1 pg 3 r).length - 1) f (by rw[Ce,lQ,t];rfl);rw[d];refine⟨⟨E.1,by omega,by omega⟩,ag.of f E.2 ⟨trivial,?_⟩⟩;rw[Y];refine S.Nk (k0+2) J _ (cw (fb s' o)) λnp S=>λl6 Ax=>⟨n,by omega,g', _,fb s' o,m,c,?_,by omega,by omega,I',I6,lD,hz',by omega,?_,(S.sub (Dn _ _)).ext Ax⟩
  .rw[aX (by omega) (by omega)];omega
  .rw[<-hd];show nP o pg n _=nP o pg n _;have el:((m+1:Nat):Int) - 1=(m:Int):=by omega
   rw[el,ko t1 l (by omega)]
theorem aaG (S:aF Q D G w0 w s L0) (k0:Nat) (j:L0[k0]? =some (bt,iV Q o r gone)) {g:Gh} (l:gone=false->Inv g s/\g r=some (o,3,0)) (pg f rt:Int) {K:Int->A2->Prop} (k: ∀b,aF Q D G w0 b (js s o r gone pg f rt) L0->K (iW s r gone pg f rt) b):
 aA AC 158 aT [ah (ae bt),aa pg,aa f,aa rt] w K:=by
 refine S.go λw1 S=>aj (C:=N2) (AR (Vh _ pg f rt w1 K) ?_);unfold js iW at k;refine S.acz k0 j l pg 0 (by decide) (true,rt,false,f,()) (λh b S=>S.en λd S=>?_) (λh c b S=>S.en λd S=>?_) (λh i c b S=>S.en λd S=>?_) (by grind) (λh i m c b S=>S.en λd S=>?_)
 .subst h;rw[az rfl,az rfl] at k;exact k d S
 .subst h;have a: ¬ (false=true):=by decide
  rw[ar a,ar a] at k;have e:jL pg f rt=2:=az c
  grind
 .subst h;have a: ¬ (false=true):=by decide
  rw[ar a,ar a] at k;have e:jL pg f rt=7:=by unfold jL;rw[ar i,az c]
  grind
 .subst h;have a: ¬ (false=true):=by decide
  rw[ar a,ar a] at k;have e:jL pg f rt=0:=by unfold jL;rw[ar i,ar m]
  rw[e,az rfl,az rfl] at k;exact k d S
theorem Ow (S:aF Q D G w0 w s L0) (k0:Nat) (t:L0[k0]? =some (bt,iV Q o r false)) {g:Gh} (I:Inv g s) (z:g r=some (o,3,0)) {pg:Int} (i:0<=pg/\pg<65536) (U:(bC s r false pg).2.2.1=0) {K:Int->A2->Prop} (k: ∀J,aF Q D G w0 J (fu s o r pg) L0->K (kB s o r pg) J):
 aA AC 238 aT [ah (ae bt),aa pg] w K:=by
 refine S.go λw1 S=>aj (C:=N2) (b_:=sv) (AR (LO _ pg w1 K) ?_);have ⟨f,j,hj,A⟩:=I.kG z i;have ⟨M,eP⟩:=I.iK z i A;rw[I.gv z i A] at U;have yn:=tU U;have hi:=fC pg j;have V:=I.pQ A.1;have Cc:j<=1:=by
  rcases I.leaf A.1 hi.1 hi.2 yn A.2 with h|h<;>omega
 unfold fu kB at k;rw[M,eP] at k;refine S.Ic k0 t pg (I.mu z i) λJ S=>S.al λb w3 S=>S.cQ 0 rfl rfl rfl λw4 S=>?_;rw[M,eP];dsimp only;rcases j with _|j
 .rw[az (by rfl),az (by rfl)] at k;exact ax rfl (S.en λX S=>k X S.tail)
 obtain rfl:j=0:=by omega
 have N: ¬ (((0+1:Nat):Int))=0:=by decide
 rw[ar N,ar N] at k;refine an rfl ⟨rfl,rfl,S.a_ (k0+1) t rfl ⟨rfl,rfl,S.a_ (k0+1) t rfl (S.Ia 3 o λX S=>?_)⟩⟩;by_cases p:oZ s o=0
 .rw[az p,p] at k;have E:cJ s.2 3 o=0:=p;have Y:=I.kd A.1;have hc:0<cB s.2 0:=by
   rcases Nat.eq_zero_or_pos (cB s.2 0) with h|h
   .exact absurd p (Ef h (by omega))
   .exact h
  have ⟨n,N,vl,Z,e2,e3⟩:=rj hc I.fz ⟨Y.2.2.2.1,Y.2.2.2.2.1⟩;have hlen:=I.len;have hle:=I.le;have hF:fb s o=(n:Int):=Z;have VD:dV s.2 3 o=(n:Int):=Z;have gn:g (n:Int)=none:=by
   cases B:g (n:Int) with
   |none=>rfl
   |some v=>
    have ⟨a,b,c⟩:=v;have:=(I.kd B).2.2.1;rw[show((n:Int)).toNat=n from rfl,vl] at this;cases this
  have hT:g8 s o (lq (aO s.1 (16*f+px (0+1) pg % 16)))=(dz s.1 (n:Int) (lq (aO s.1 (16*f+px (0+1) pg % 16))) 16,cX s.2 3 o):=by
   unfold g8;rw[az p,hF]
  rw[hT,hF] at k;have ⟨e,FE⟩: ∃e,e=aO s.1 (16*f+px (0+1) pg % 16):=⟨_,rfl⟩;have heb:=mw s.1 (16*f+px (0+1) pg % 16);have O: ∀{f' o' l x k},g f'=some (o',l,x)->0<=k->k<16->aO (dz s.1 (n:Int) (lq (aO s.1 (16*f+px (0+1) pg % 16))) 16) (16*f'+k)=aO s.1 (16*f'+k):=λ{f' o' l x k} B h0 h1=>by
   have cO:f'≠(n:Int):=λe=>by rw[e,gn] at B;cases B
   have:=I.pQ B;unfold aO;rw[qO (by omega) (by omega) 16 (C9 _),ar (by omega)]
  have F:bG (dz s.1 (n:Int) (lq (aO s.1 (16*f+px (0+1) pg % 16))) 16) pg 3 r=bG s.1 pg 3 r:=I.LR O i 3 (by rw[WX i];exact z);have P:y_ (dz s.1 (n:Int) (lq (aO s.1 (16*f+px (0+1) pg % 16))) 16) pg r:=λx hx=>by
   rw[F] at hx;have:=I.mu z i x hx;unfold oX at this ⊢;rw[gN];exact this
  rw[<-FE] at k O F P heb;have ⟨W,R⟩: ∃W,W=dz s.1 (n:Int) (lq e) 16:=⟨_,rfl⟩;rw[<-R] at k F P;clear O hT;rw[VD,E];refine an rfl ⟨λq v w'=> ∃m:Nat,q+m=16/\v.1=(m:Int)/\aF Q D G w0 w' (dz s.1 (n:Int) (lq e) m,cX s.2 3 o) ((b,[.bool e.1,aa e.2.1,.bool e.2.2.1,aa e.2.2.2.1])::L0),⟨16,λT h6=>⟨0,rfl,rfl,by rw[FE, <-eP];exact S.ext h6⟩⟩,?_⟩;clear S;rintro q ⟨v,u⟩ T ⟨m,EY,ev,S⟩;dsimp only at ev ⊢;subst ev;refine ab (λd=>⟨rfl,S.a_ 0 rfl rfl ⟨rfl,S.a_ 0 rfl rfl ?_⟩⟩) (λd=>?_)
  .have d:m<16:=by simp at d;omega
   have a1:ay .i64 (dk .i64 16 (n:Int)) (m:Int)=16*(n:Int)+(m:Int):=by rw[da (by omega) (by omega),ao (by omega) (by omega)]
   have a2:ay .i64 e.2.2.2.1 (m:Int)=e.2.2.2.1+(m:Int):=ao (by omega) (by omega);rw[a1,a2];refine S.Nk (k0+1) t _ (true,e.2.1,false,e.2.2.2.1+(m:Int),()) λw7 S=>λw8 h8=>⟨q - 1,by omega,m+1,by omega,?_,S.ext h8⟩;rw[ao (by omega) (by omega)];omega
  .have d:m=16:=by simp at d;omega
   subst d;rw[<-R] at S;clear R;have acN:(bG s.1 pg 3 r).length<=4:=k6 s.1 pg 3 r;have jK:0<(bG s.1 pg 3 r).length:=HH.2 (mY s.1 pg 3 r);refine S.Jp (k0+1) t pg P λx Ls w7 S H=>?_;have H:nq Ls x ((bG s.1 pg 3 r).map (·.1)):=by rw[<-F];exact H
   have hl:x.2.1=(bG s.1 pg 3 r).length:=by
    have:=H.rR.1;simpa using this
   have b1:aR .i64 ((x.2.1:Nat):Int) 1=(((bG s.1 pg 3 r).length - 1:Nat):Int):=by rw[aX (by omega) (by omega)];omega
   have ke:=(S.sl H.rR (λy hy=>B2 _ hy)) ((bG s.1 pg 3 r).length - 1) f (by rw[Ce,lQ,M];rfl);have eat:c9 f pg 1=16*f+px (0+1) pg % 16:=ko (l:=1) ⟨V.1,V.2.1⟩ i (by omega);rw[b1];refine⟨⟨ke.1,by omega,by omega⟩,ag.of f ke.2 ⟨trivial,?_⟩⟩;rw[eat];exact S.Nk (k0+1) (gB (k:=k0+1) (L:=(b,[Dm e.1,aa e.2.1,.bool e.2.2.1,aa e.2.2.2.1])::L0) t) _ (cw (n:Int)) λw8 S=>S.en λw9 S=>k w9 (S.sub (Dn _ _)).tail
 .rw[ar p,yf p] at k;have E: ¬ cJ s.2 3 o=0:=p;rw[v8 E] at S;exact ax (by simpa using E) (S.en λT S=>k T S.tail)
end aF
end
set_option maxRecDepth 100000
open Go.RX D
theorem Vk {s:WD} {o r pg:Int} (a:(bC s r false pg).2.2.1=0) (b:kB s o r pg=0):hH s o r false pg=ij (bG (fu s o r pg).1 pg 3 r).reverse (fm (fu s o r pg).1 (cM (fu s o r pg).1 r pg).2.2.1 0,(fu s o r pg).2):=by grind[hH]
theorem LU (F:Nat->Int) (p:Int) (j n:Nat) (t:WD):ij (E_ F p j (n+1)) t=if pX t.1 (F j)=true then ij (E_ F p (j+1) n) (fm t.1 (16*F (j+1)+px (j+1) p % 16) 0,eC t.2 (F j) (aI 5 0)) else t:=by
 obtain⟨l',a⟩:=Eh F p _ n;have b:E_ F p j (n+1)=(F j,(j:Int),16*F j+px j p % 16,())::(F (j+1),(j+1: ),16*F (j+1)+px (j+1) p % 16,())::l':=by rw[E_,a]
 rw[b,a,Oe]
section
variable {Q:Sys} {D G:List Nat} {w0 w:A2} {s:WD} {L0:List (Nat×List AG)} {bt:Nat} {o r:Int} {gone:Bool}
namespace aF
theorem Y5 (S:aF Q D G w0 w s L0) (k0:Nat) (l:L0[k0]? =some (bt,iV Q o r gone)) {f:Int} (h:0<=f/\f<4096) (i:16*f+16<=s.1.length):ai AC 242 [ah (ae bt),aa f] w (.bool (pX s.1 f)):=by
 refine ai.of (s:= .el cr) λw' h'=>aj (C:=N2) (b_:=sw) (AR (LP _ f w' _) ?_);have S:=S.ext h';refine⟨λn v b=> ∃m:Nat,n+m=16/\v.1=(m:Int)/\(∀k:Nat,k<m->eY s.1 (16*f+(k:Int))=0)/\Ext w' b,⟨16,λb h2=>⟨0,rfl,rfl,λk p=>by omega,h2⟩⟩,?_⟩;rintro n ⟨v,u⟩ b ⟨m,z,e,q,h2⟩;dsimp only at e ⊢;subst e;have S:=S.ext h2;refine ab (λd=>⟨rfl,rfl,S.a_ k0 l rfl ⟨rfl,rfl,ag.of _ S.rdL ?_⟩⟩) (λd=>λj a=>⟨?_,h2.trans a⟩)
 .have d:m<16:=by simp at d;omega
  have t:ay .i64 (dk .i64 16 f) (m:Int)=16*f+(m:Int):=by rw[da (by omega) (by omega),ao (by omega) (by omega)]
  have x:oX s.1 (16*f+(m:Int))=true:=jX (by omega) (by omega);rw[t];refine⟨⟨rfl,by omega,by show 16*f+(m:Int)<((s.1.length:Nat):Int);omega⟩,ag.of _ (S.rdW x) (ab (λc=>λj a=>⟨?_,h2.trans a⟩) (λc=>λj a=>⟨n - 1,by omega,m+1,by omega,by rw[ao (by omega) (by omega)];omega,λk p=>?_,h2.trans a⟩))⟩
  .have c: ¬ eY s.1 (16*f+(m:Int))=0:=by simpa using c
   cases g:pX s.1 f with
   |false=>rfl
   |true=>exact absurd (zJ h.1 i g (m:Int) (by omega) (by omega)) c
  grind
 .have d:m=16:=by simp at d;omega
  subst d;cases g:pX s.1 f with
  |true=>rfl
  |false=>
   have ⟨k,k0,A,y⟩:=Eg h.1 i g;have:=q k.toNat (by omega);rw[show((k.toNat:Nat):Int)=k from by omega] at this;exact absurd this y
theorem Ox (S:aF Q D G w0 w s L0) (k0:Nat) (c:L0[k0]? =some (bt,iV Q o r gone)) {g:Gh} (A:gone=false->Inv g s/\g r=some (o,3,0)) (pg:Int) {K:Int×Int×Unit->A2->Prop} (k: ∀B,aF Q D G w0 B (hH s o r gone pg) L0->K (yE s o r gone pg,rK s o r gone pg,()) B):
 aA AC 151 (.bu [aq,aq]) [ah (ae bt),aa pg] w K:=by
 refine S.go λw1 S=>aj (C:=N2) (b_:=sx) (AR (LQ _ pg w1 K) ?_);refine S.F8 k0 c pg (λh a=>(A h).1.mu (A h).2 a) λB S=>?_;by_cases b:(bC s r gone pg).2.2.1=0
 rotate_left
 .have d:rK s o r gone pg=(bC s r gone pg).2.2.1:=ar b;have e2:yE s o r gone pg=0:=Ek (by rw[d];exact b);rw[IG (by rw[d];exact b),e2,d] at k;exact ax (by simpa using b) (S.en λL S=>k L S)
 obtain⟨rfl,a⟩:=UG b;have ⟨I,m⟩:=A rfl;have d:rK s o r false pg=kB s o r pg:=az b;refine an (by simpa using b) (S.Ow k0 c I m a b λL S=>?_);by_cases l:kB s o r pg=0
 rotate_left
 .have M: ¬ rK s o r false pg=0:=by rw[d];exact l
  rw[IG M,Ek M,d] at k;rw[tV l] at S;exact ax (by simpa using l) (S.en λN S=>k N S)
 have eF:yE s o r false pg=(bC s r false pg).1:=az (by rw[d];exact l);rw[eF,d,l,Vk b l] at k;have ⟨f,j,hj,O⟩:=I.kG m a;have P:=b;rw[I.gv m a O] at P;have ⟨g1,f0,C1,E1, _, _⟩:=I.split m a O (tU P) l;have E:=C1.root.to m;have W7:=(C1.inv.iK E a E1).1;have ⟨F,hF,U,R⟩:=C1.inv.XD E a E1;rw[R,W7] at k;dsimp only at k;have H: ∀i,i<=3->0<=F i/\F i<4096/\16*F i+16<=(fu s o r pg).1.length:=λi hi=>C1.inv.pQ (U.gh i (H7 _) hi);have FL:=C1.inv.mu E a;generalize fu s o r pg=t at*
 have T: ∀i,i<=3->c9 (F i) pg (i:Int)=16*F i+px i pg % 16:=λi hi=>ko ⟨(H i hi).1,(H i hi).2.1⟩ a hi;have XK:(bG t.1 pg 3 r).map (·.1)=[F 3,F 2,F 1,F 0]:=by
  have:bG t.1 pg 3 r=(E_ F pg 0 3).reverse:=by rw[<-R,Jj]
  rw[this];rfl
 have ⟨z,V⟩: ∃z,z=ij (E_ F pg 0 3) (fm t.1 (16*f0+px 0 pg % 16) 0,t.2):=⟨_,rfl⟩;rw[<-V] at k;rw[l];refine an rfl (S.Jp k0 c pg FL λx Ls N S J=>?_);rw[XK] at J;have hx:x.2.1=4:=J.rR.1;have pO: ∀{t:WD} {w:A2},aF Q D G w0 w t (L0++Ls)->(L0++Ls)[k0]? =some (bt,iV Q o r false):=λ_=>gB c;have Fb: ∀{t:WD} {w:A2},aF Q D G w0 w t (L0++Ls)-> ∀i:Nat,i<=3->x.1.isSome=true/\bP w (ad x.1 (i*1)) eN (F (3 - i)):=λ{t w} S i hi=>by
  refine(S.sl J.rR (λy hy=>B2 _ hy)) i (F (3 - i)) ?_;rcases i with _| _| _| _|i
  .rfl
  .rfl
  .rfl
  .rfl
  .omega
 refine⟨rfl,rfl,S.a_ k0 (gB c) rfl ⟨⟨(Fb S 3 (C9 _)).1,by decide,by rw[hx];decide⟩,ag.of (F 0) (Fb S 3 (C9 _)).2 ⟨trivial,?_⟩⟩⟩;have ea:c9 (F 0) pg 0=16*f0+px 0 pg % 16:=by rw[<-hF];exact T 0 (by omega)
 rw[ea];refine S.vO _ 0 ⟨by decide,by decide⟩ λw5 S=>?_;refine⟨λn v w'=> ∃(j:Nat) (t2:WD),n+j=3/\v.1=(n:Int)/\t2.1.length=t.1.length/\ij (E_ F pg j n) t2=z/\aF Q D G w0 w' t2 (L0++Ls),⟨3,λW h6=>⟨0, _,rfl,rfl,cL _ _ _,V.symm,S.ext h6⟩⟩,?_⟩;clear S;rintro n ⟨v,u⟩ W ⟨j,t2,hn,e,hlen,hd,S⟩;dsimp only at e ⊢;subst e;have hj3:j<=3:=by omega
 have p:=Fb S n (by omega);have X:3 - n=j:=by omega
 rw[X] at p;have ⟨b1,b2,b3⟩:=H j hj3;have acA:bP W (ad x.1 (AU (n:Int)*1)) eN (F j):=p.2;refine⟨λ_=>⟨p.1,by omega,by omega⟩,ag.of (F j) acA ⟨_,λ_=>S.Y5 k0 (gB c) ⟨b1,b2⟩ (by omega),?_⟩⟩;rcases n with _|n
 .have hd:t2=z:=hd;subst hd;exact an rfl (S.en λq S=>k q (S.sub (Dn _ _)))
 .rw[LU] at hd;cases Y:pX t2.1 (F j) with
  |false=>
   rw[Y,ar (by decide)] at hd;subst hd;exact an (by simp) (S.en λq S=>k q (S.sub (Dn _ _)))
  |true=>
   rw[Y,az rfl] at hd;have Z:=Fb S n (by omega);have e4:3 - n=j+1:=by omega
   rw[e4] at Z;have es:aR .i64 ((n+1:Nat):Int) 1=(n:Int):=by rw[aX (by omega) (by omega)];omega
   have es2:aR .i64 4 ((n+1:Nat):Int)=((j+1:Nat):Int):=by rw[aX (by omega) (by omega)];omega
   rw[es,es2];refine ax (by simp) ⟨rfl,rfl,S.a_ k0 (gB c) rfl ⟨⟨p.1,by omega,by omega⟩,ag.of (F (j+1)) Z.2 ⟨trivial,?_⟩⟩⟩;rw[T (j+1) (by omega)];refine S.vO _ 0 ⟨by decide,by decide⟩ λq S=>⟨rfl,rfl,S.a_ k0 (gB c) rfl ⟨⟨p.1,by omega,by omega⟩,ag.of (F j) ?_ (S.Ib (F j) 5 0 λw8 S=>λw9 h9=>⟨n,by omega,j+1, _,by omega,rfl,?_,hd,S.ext h9⟩)⟩⟩
   .have:=(Fb S (n+1) (by omega)).2;rw[X] at this;exact this
   .show(fm t2.1 _ 0).length= _;rw[cL];exact hlen
theorem RE (S:aF Q D G w0 w s L0) (k0:Nat) (v:L0[k0]? =some (bt,iV Q o r gone)) {g:Gh} (Y:gone=false->Inv g s/\g r=some (o,3,0)) (pg rt:Int) {K:Int->A2->Prop} (k: ∀a,aF Q D G w0 a (pY s o r gone pg rt) L0->K (Cq s o r gone pg rt) a):
 aA AC 150 aT [ah (ae bt),aa pg,aa rt] w K:=by
 refine S.go λw1 S=>aj (C:=N2) (AR (RA _ pg rt w1 K) ?_);refine⟨rfl,rfl,S.a_ k0 v rfl ?_⟩;unfold pY Cq at k;cases gone with
 |true=>
  rw[az rfl,az rfl] at k;exact ax rfl (S.en λa S=>k a S)
 |false=>
 have q: ¬ (false=true):=by decide
 rw[ar q,ar q] at k;have ⟨I,i⟩:=Y rfl;refine an rfl (ab (λc=>S.en λa S=>?_) (λc=>ab (λz=>S.en λa S=>?_) (λz=>?_)))
 .have c:pg<0\/pg>=65536\/(0:Int)<0\/(0:Int)>=4096:=by
   simp only[Dl,decide_eq_true_eq] at c;omega
  have e:jL pg 0 rt=2:=az c;rw[e,ar (by decide),ar (by decide)] at k;exact k a S
 .have c: ¬ (pg<0\/pg>=65536\/(0:Int)<0\/(0:Int)>=4096):=by
   grind
  have e:jL pg 0 rt=7:=by unfold jL;rw[ar c,az (by simpa using z)]
  rw[e,ar (by decide),ar (by decide)] at k;exact k a S
 have Z: ¬ (pg<0\/pg>=65536\/(0:Int)<0\/(0:Int)>=4096):=by
  grind
 have h:0<=pg/\pg<65536:=by omega
 have M:jL pg 0 rt=0:=by unfold jL;rw[ar Z,ar (by simpa using z)]
 rw[az M,az M] at k;have ⟨f,j,hj,p⟩:=I.kG i h;have ⟨N,eP⟩:=I.iK i h p;have u:=I.gv i h p;refine S.F8 k0 v pg (λ_ h=>I.mu i h) λa S=>?_;by_cases hb:(aO s.1 (16*f+px j pg % 16)).1=true
 rotate_left
 .have hb:(aO s.1 (16*f+px j pg % 16)).1=false:=by simpa using hb
  rw[eP,hb,ar q,ar q] at k;rw[u,AP _ _ hb];exact ax rfl (S.en λn S=>k n S)
 have O:(bC s r false pg).2.2.1=0:=by rw[u];unfold rL;rw[az hb]
 have hqr:(bC s r false pg).2.1=(aO s.1 (16*f+px j pg % 16)).2.1:=by rw[u];unfold rL;rw[az hb]
 have hqf:(bC s r false pg).1=l9 pg (cM s.1 r pg) (cx s.1 r pg):=by
  rw[u,N,eP];unfold rL l9
  grind
 have Z9:=I.leaf p.1 (fC pg j).1 (fC pg j).2 hb p.2;rw[eP,az hb,az hb] at k;rw[<-eP] at k;rw[O];refine an rfl ?_;rw[hqr];have go: ∀{n:A2} {L1:List (Nat×List AG)},¬ ((cx s.1 r pg).2.2.1&&(cx s.1 r pg).2.1==rt)=true->aF Q D G w0 n s (L1++L0)->
  aA AC 238 aT [ah (ae bt),aa pg] n (λ(P:Int) (a:A2)=>aD (P != 0) (ak a λ(w1:A2)=>K P w1)
   (aA AC 239 di [ah (ae bt),aa pg] a λ(A:Option AE×Nat×Nat) (a:A2)=>
    (A.1.isSome=true/\(0:Int)<=3/\(3:Int)<((A.2.1:Nat):Int))/\ag a none (ad A.1 3) aq λ(bE:Int)=>True/\
     aA AC 240 (.bu []) [ah (ae bt),aa (c9 bE pg 0),.agg ⟨[.bool true,aa rt,.bool false,aa (bC s r false pg).1]⟩] a λ(x:Unit) (a:A2)=>ak a λ(w1:A2)=>K 0 w1)):=by
  intro n L1 R S;rw[ar R,ar R] at k;have B:(L1++L0)[L1.length+k0]? =some (bt,iV Q o r false):=by
   grind
  refine S.Ow (L1.length+k0) B I i h O λw4 S=>?_;by_cases m:kB s o r pg=0
  rotate_left
  .rw[ar m,tV m] at k;rw[tV m] at S;exact ax (by simpa using m) (S.en λE S=>k E (S.sub (Do _ _)))
  rw[az m,m] at k;have ⟨g1,f0,C1,E1, _, _⟩:=I.split i h p hb m;have H:=C1.root.to i;have W7:=(C1.inv.iK H h E1).1;have ⟨F,hF,U,hW⟩:=C1.inv.XD H h E1;have T:=C1.inv.pQ E1.1;have FL:=C1.inv.mu H h;rw[W7] at k;rw[m,hqf];generalize fu s o r pg=t at*
  have XK:(bG t.1 pg 3 r).map (·.1)=[F 3,F 2,F 1,F 0]:=by
   have:bG t.1 pg 3 r=(E_ F pg 0 3).reverse:=by rw[<-hW,Jj]
   rw[this];rfl
  refine an rfl (S.Jp (L1.length+k0) B pg FL λx Ls E S J=>?_);rw[XK] at J;have hx:x.2.1=4:=J.rR.1;have V:=(S.sl J.rR (λy hy=>B2 _ hy)) 3 (F 0) rfl;refine⟨⟨V.1,by decide,by rw[hx];decide⟩,ag.of (F 0) V.2 ⟨trivial,?_⟩⟩;have ea:c9 (F 0) pg 0=16*f0+px 0 pg % 16:=by rw[hF];exact ko (l:=0) ⟨T.1,T.2.1⟩ h (by omega)
  rw[ea];refine S.Nk (L1.length+k0) (gB B) _ (true,rt,false,l9 pg (cM s.1 r pg) (cx s.1 r pg),()) λW S=>S.en λw7 S=>k w7 ((S.sub (Dn _ _)).sub (Do _ _))
 refine ab (λd=>?_) (λd=>?_)
 .have d:(aO s.1 (16*f+px j pg % 16)).2.1=rt:=by simpa using d
  refine S.Ic k0 v pg (I.mu i h) λn S=>S.al λb w4 S=>S.cQ 0 rfl rfl rfl λE S=>?_;rw[N];dsimp only;rcases Z9 with ⟨rfl,L⟩|⟨rfl,L, _⟩
  .refine an rfl (go (L1:=[_]) ?_ S);rw[eP,L];simp
  .have X:((cx s.1 r pg).2.2.1&&(cx s.1 r pg).2.1==rt)=true:=by rw[eP,L,d];simp
   rw[az X,az X] at k;exact ax rfl (S.en λW S=>k W S.tail)
 .have d: ¬ (aO s.1 (16*f+px j pg % 16)).2.1=rt:=by simpa using d
  refine go (L1:=[]) ?_ S;rw[eP];simp[d]
end aF
end
set_option maxRecDepth 100000
open Go.RX D
theorem xq (x:Int): ∀l:List Int,l.Pairwise (λa b=>b<=a)->(kC x l).Pairwise (λa b=>b<=a)
 |[], _=>by simp[kC]
 |y::l,h=>by
  rw[kC];have ⟨d,h2⟩:=Dt.1 h;split
  .refine Dt.2 ⟨λz c=>?_,xq x l h2⟩;rcases Fm.1 ((v9 x l).mem_iff.1 c)
   .omega
   grind
  .refine Dt.2 ⟨λc=>?_,h⟩
   grind
theorem xr: ∀(l a:List Int),a.Pairwise (λa b=>b<=a)->(l.foldl (λa x=>kC x a) a).Pairwise (λa b=>b<=a)
 |[], _,h=>h
 |x::l,a,h=>xr l _ (xq x a h)
theorem C4 (l:List Int):(mR l).Pairwise (λa b=>a<=b):=by simp[mR,List.pairwise_reverse,xr]
theorem wh (l:List Int): ∀n:Nat,((AT n).flatMap λ(f:Nat)=>l.filter (λz=>z==(f:Int))).Perm (l.filter λz=>decide (0<=z)&&decide (z<(n:Int)))
 |0=>by
  simp_all
 |n+1=>by
  rw[Gi,H2];have e:([n].flatMap λ(f:Nat)=>l.filter (λz=>z==(f:Int)))=l.filter (λz=>z==(n:Int)):=by simp
  rw[e];refine((wh l n).append_right _).trans ?_;have h:=List.filter_append_perm (λz:Int=>decide (z<(n:Int))) (l.filter λz=>decide (0<=z)&&decide (z<(n+1:Nat)));rw[Jl,Jl] at h;have a:(l.filter λz=>decide (z<(n:Int))&&(decide (0<=z)&&decide (z<n+1)))=l.filter λz=>decide (0<=z)&&decide (z<(n:Int)):=K0 (by grind);have b:(l.filter λz=>(!decide (z<(n:Int)))&&(decide (0<=z)&&decide (z<((n+1:Nat):Int))))=l.filter λz=>z==(n:Int):=K0 (by grind)
  grind
theorem xx (l:List Int): ∀n:Nat,((AT n).flatMap λ(f:Nat)=>l.filter (λz=>z==(f:Int))).Pairwise (λa b=>a<=b)
 |0=>List.Pairwise.nil
 |n+1=>by
  rw[Gi,H2];refine HY.2 ⟨xx l n,List.pairwise_iff_forall_sublist.2 λc=>?_,λa b=>?_⟩
  .grind[Cs]
  grind
theorem Vl (l:List Int) (n:Nat) (h: ∀z∈l,0<=z/\z<(n:Int)):((AT n).flatMap λ(f:Nat)=>l.filter (λz=>z==(f:Int)))=mR l:=by
 have e:(l.filter λz=>decide (0<=z)&&decide (z<(n:Int)))=l:=K1.2 (by grind);have a:=wh l n;rw[e] at a;exact List.Perm.eq_of_pairwise (by omega) (xx l n) (C4 l) (a.trans (Ah l).symm)
theorem RF (ws:List Int) {l:Nat} (a:l<=3) (f:Int):(cC ws l f).length<=4369:=by
 grind[tc]
section
variable {Q:Sys} {D G:List Nat} {w0 w:A2} {s:WD} {L0:List (Nat×List AG)} {bt:Nat} {o r:Int} {gone:Bool}
namespace aF
theorem Oy {g:Gh} (I:Inv g s): ∀(l:Nat) {f x o':Int} {w:A2} {L0:List (Nat×List AG)} {k0:Nat},aF Q D G w0 w s L0->L0[k0]? =some (bt,iV Q o r gone)->g f=some (o',l,x)->
 ∀{K:Option AE×Nat×Nat->A2->Prop},(∀sl Ls d,nq Ls sl (cC s.1 l f)->aF Q D G w0 d s (L0++Ls)->K sl d)->
 aA AC 303 di [ah (ae bt),aa f,aa (l:Int)] w K
 |0,f,x,o',w,L0,k0,S,y,j,K,k=>by
  refine S.go λw1 S=>aj (C:=N2) (b_:=nH) (AR (BY _ f _ w1 K) ?_);refine S.al λb d S=>?_;have S:aF Q D G w0 d s (L0++[(b,[aa f])]):=S.perm (GS _ _);refine⟨λn v w'=>v=((some ⟨b,0,none⟩,1,1),0,())/\aF Q D G w0 w' s (L0++[(b,[aa f])]),⟨0,λA B=>⟨rfl,S.ext B⟩⟩,?_⟩;rintro n v A ⟨rfl,S⟩;exact an rfl (S.en λp S=>k _ _ p (.inr ⟨b,1,[],rfl,rfl,rfl,C9 _⟩) S)
 |l+1,f,x,o',w,L0,k0,S,y,j,K,k=>by
  refine S.go λw1 S=>aj (C:=N2) (b_:=nH) (AR (BY _ f _ w1 K) ?_);have ⟨b1,b2,b3⟩:=I.pQ j;have P:=(I.kd j).2.2.2.2.2;refine S.al λb d S=>?_;have S:aF Q D G w0 d s (L0++[(b,[aa f])]):=S.perm (GS _ _);refine⟨λn v w'=> ∃(m:Nat) (Ls:List (Nat×List AG)),v.2.1=(m:Int)/\n+m=16/\nq Ls v.1 (f::(AT m).flatMap (kD s.1 (l+1) f))/\aF Q D G w0 w' s (L0++Ls),⟨16,λA B=>⟨0, _,rfl,rfl,.inr ⟨b,1,[],rfl,rfl,rfl,C9 _⟩,S.ext B⟩⟩,?_⟩;clear S;rintro n ⟨sl,v,u⟩ A ⟨m,Ls,e,hn,q,S⟩;dsimp only at e q ⊢;subst e;rw[kK] at k;refine ab (λc=>?_) (λc=>?_)
  .have E:m<16:=by
    simp only[Da,decide_eq_true_eq] at c;omega
   have ⟨z,R⟩:=BE E (kD s.1 (l+1) f);have H:(AT (m+1)).flatMap (kD s.1 (l+1) f)=(AT m).flatMap (kD s.1 (l+1) f)++kD s.1 (l+1) f m:=by
    rw[Gi,H2];simp
   have J:=RF s.1 P f;rw[kK,R] at J;simp only[H4,B3] at J;have T:ay .i64 (dk .i64 16 f) (m:Int)=16*f+(m:Int):=by rw[da (by omega) (by omega),ao (by omega) (by omega)]
   have U:oX s.1 (16*f+(m:Int))=true:=jX (by omega) (by omega);have V:ay .i64 (m:Int) 1=((m+1:Nat):Int):=by rw[ao (by omega) (by omega)];omega
   have L:=vM S.Sk (16*f+(m:Int));rw[T,V];refine⟨rfl,rfl,S.a_ k0 (gB y) rfl ⟨rfl,rfl,ag.of _ S.rdL ⟨⟨rfl,by omega,by show 16*f+(m:Int)<((s.1.length:Nat):Int);omega⟩,ag.of _ (S.rdW U) ⟨yz L.1 L.2,S.al λb1 p S=>S.cQ 0 rfl rfl rfl λw5 S=>S.ld 0 rfl rfl ⟨trivial,?_⟩⟩⟩⟩⟩;refine ab (λa=>?_) (λa=>?_)
   .have a:eM (aO s.1 (16*f+(m:Int)))=true:=a;have ⟨W,M,X⟩:=I.oW j (i:=(m:Int)) (by omega) (by omega) a;have M:l=W:=by omega
    subst M;have t:kD s.1 (l+1) f m=cC s.1 l (aO s.1 (16*f+(m:Int))).2.2.2.1:=az a;have es:aR .i64 ((l+1:Nat):Int) 1=(l:Int):=by rw[aX (by omega) (by omega)];omega
    rw[es];refine⟨rfl,S.a_ 0 rfl rfl (Oy I l (k0:=k0+1) S (gB y) X λsl2 HO w6 N S=>λw7 Y=>?_)⟩;rw[<-t] at N;have O:kD s.1 (l+1) f m≠[]:=by rw[t];exact vZ _ _ _
    rcases N with ⟨_,h, _⟩|⟨b2,cy,Z,rfl,rfl, _, _⟩
    .exact absurd h O
    have S:=(S.ext Y).tail;have S:=S.perm (L1:=(b2,flat eN (kD s.1 (l+1) f m)++Z)::(L0++Ls)) (GS _ _).symm;refine S.DE q O (by simp only[H4];omega) λiC HE w8 C8 S=>λw9 F=>⟨n - 1,by omega,m+1,iC,rfl,by omega,?_,S.ext F⟩;rw[H];exact C8
   .have a:eM (aO s.1 (16*f+(m:Int)))=false:=a;have t:kD s.1 (l+1) f m=[]:=ar (by rw[a];decide);refine λw9 F=>⟨n - 1,by omega,m+1,Ls,rfl,by omega,?_,(S.ext F).tail⟩;rw[H,t,Dx];exact q
  .have E:m=16:=by
    simp only[HB,decide_eq_false_iff_not] at c;omega
   subst E;exact S.en λp S=>k sl Ls p q S
theorem acB (S:aF Q D G w0 w s L0) (k0:Nat) (t:L0[k0]? =some (bt,iV Q o r gone)) {g:Gh} (T:gone=false->Inv g s/\g r=some (o,3,0)) {K:Option AE×Nat×Nat->A2->Prop} (k: ∀x Ls a,nq Ls x (jy s r gone)->aF Q D G w0 a s (L0++Ls)->K x a):
 aA AC 235 di [ah (ae bt)] w K:=by
 refine S.go λw1 S=>aj (C:=N2) (b_:=xm) (AR (Vi _ w1 K) ?_);refine⟨rfl,rfl,S.a_ k0 t rfl ?_⟩;cases gone with
 |true=>exact ax rfl (S.en λa S=>k (none,0,0) [] a (.inl ⟨rfl,rfl,rfl⟩) (by rw[Dx];exact S))
 |false=>
 have ⟨I,L⟩:=T rfl;refine an rfl ⟨rfl,rfl,S.a_ k0 t rfl (Oy I 3 S t L λx Ls a U S=>?_)⟩;have V: ∀z∈cC s.1 3 r,0<=z/\z<(s.2.length:Int):=λz d=>by
  have ⟨l',x',n, _,h2, _⟩:=I.Ei 3 L z d;have:=I.kd h2;omega
 have W:=k9 s.1 r;have X:jy s r false=mR (cC s.1 3 r):=ar (by decide);rw[X, <-Vl _ s.2.length V] at k;generalize cC s.1 3 r=l at*
 have M:=U.rR;have ⟨xp,Y,xc⟩:=x;have Z:Y=l.length:=M.1;subst Z;have hLe:=I.le;have MS: ∀m:Nat,((AT m).flatMap λ(f:Nat)=>l.filter (λz=>z==(f:Int))).length<=4369:=λm=>by
  rw[(wh l m).length_eq];exact H8 (K2 _ _) W
 refine⟨λn v w'=> ∃(m:Nat) (h:List (Nat×List AG)),v.2.1=(m:Int)/\n+m=s.2.length/\nq h v.1 ((AT m).flatMap λ(f:Nat)=>l.filter (λz=>z==(f:Int)))/\aF Q D G w0 w' s ((L0++Ls)++h),⟨s.2.length,λw3 h3=>⟨0,[],rfl,rfl,.inl ⟨rfl,rfl,rfl⟩,by rw[Dx];exact S.ext h3⟩⟩,?_⟩;clear S;rintro n ⟨sl,v,u⟩ w3 ⟨m,h,e,hn,B,S⟩;dsimp only at e B ⊢;subst e;refine⟨rfl,rfl,S.a_ k0 (gB (gB t)) rfl ⟨rfl,rfl,ag.of _ S.Fb ?_⟩⟩;refine ab (λc=>?_) (λc=>?_)
 .have E:m<s.2.length:=by simpa using c
  have vC:ay .i64 (m:Int) 1=((m+1:Nat):Int):=by rw[ao (by omega) (by omega)];omega
  rw[vC];refine⟨λA v w'=> ∃(j:Nat) (i:List (Nat×List AG)),v.2.1=(j:Int)/\A+j=l.length/\nq i v.1 (((AT m).flatMap λ(f:Nat)=>l.filter (λz=>z==(f:Int)))++(l.take j).filter (λz=>z==(m:Int)))/\aF Q D G w0 w' s ((L0++Ls)++i),⟨l.length,λF h4=>⟨0,h,rfl,rfl,by simpa using B,S.ext h4⟩⟩,?_⟩;clear S;rintro A ⟨sl1,v,u⟩ F ⟨j,i,e,vx,p,S⟩;dsimp only at e p ⊢;subst e;refine ab (λc=>?_) (λc=>?_)
  .have N:j<l.length:=by simpa using c
   have eaj:ay .i64 (j:Int) 1=((j+1:Nat):Int):=by rw[ao (by omega) (by omega)];omega
   have d:=DC N;have ⟨z,hze⟩: ∃z,z=l[j]:=⟨_,rfl⟩;rw[<-hze] at d;have O:=(S.sl M (λy hy=>Hb _ (B2 _ hy))) j z d;have j_:l.take (j+1)=l.take j++[z]:=by rw[Hr,d];rfl
   rw[eaj];refine⟨⟨O.1,by omega,by omega⟩,ag.of z O.2 (ab (λH=>?_) (λH=>?_))⟩
   .have P:z=(m:Int):=by simpa using H
    refine S.al λb w5 S=>λw6 h6=>?_;have I5:=MS m;have xJ:((l.take j).filter (λz=>z==(m:Int))).length<=4369:=H8 (K2 _ _) (by rw[DS];omega);refine(S.ext h6).ik p (by rw[B3];omega) λiC HE w7 Zn S=>λR q=>⟨A - 1,by omega,j+1,iC,rfl,by omega,?_,S.ext q⟩
    grind
   .have P: ¬ z=(m:Int):=by simpa using H
    refine λR q=>⟨A - 1,by omega,j+1,i,rfl,by omega,?_,S.ext q⟩;rw[j_,List.filter_append];have J:[z].filter (λz=>z==(m:Int))=[]:=by simp[P]
    rw[J,Dx];exact p
  .have N: ¬ j<l.length:=by simpa using c
   rw[FB (by omega)] at p;refine λR q=>⟨n - 1,by omega,m+1,i,rfl,by omega,?_,S.ext q⟩;rw[Gi,H2];have J:([m].flatMap λ(f:Nat)=>l.filter (λz=>z==(f:Int)))=l.filter (λz=>z==(m:Int)):=by simp
   rw[J];exact p
 .have E: ¬ m<s.2.length:=by simpa using c
  have E:m=s.2.length:=by omega
  subst E;refine S.en λF S=>k sl h F B ?_;rw[Df] at S;exact S.sub ((Do _ _).append_left _)
theorem abG (S:aF Q D G w0 w s L0) (k0:Nat) (a:L0[k0]? =some (bt,iV Q o r gone)) {g:Gh} (B:gone=false->Inv g s/\g r=some (o,3,0)) {K:Option AE×Nat×Nat->A2->Prop} (k: ∀x Ls c,nq Ls x (jy s r gone)->aF Q D G w0 c (bV s r gone) (L0.set k0 (bt,iV Q o r true)++Ls)->K x c):
 aA AC 146 di [ah (ae bt)] w K:=by
 refine S.go λw1 S=>aj (C:=N2) (b_:=vd) (AR (RB _ w1 K) ?_);have P:k0<L0.length:=(B5.1 a).1;refine S.acB k0 a B λx Ls c h S=>?_;have E:bV s r gone=(s.1,(jy s r gone).foldl (λds f=>eC ds f (aI 5 0)) s.2):=by
  cases gone with
  |true=>rfl
  |false=>exact ar (by decide)
 rw[E] at k;have R:(jy s r gone).length<=4369:=by
  cases gone with
  |true=>exact H7 _
  |false=>
   rw[show jy s r false=mR (cC s.1 3 r) from ar (by decide),v7];exact k9 _ _
 generalize jy s r gone=l at*
 have i:=h.rR;have ⟨F,H,xc⟩:=x;have I:H=l.length:=i.1;subst I;have ⟨b,j⟩: ∃b,b=l.foldl (λds f=>eC ds f (aI 5 0)) s.2:=⟨_,rfl⟩;rw[<-j] at k;refine⟨λn v w'=> ∃(m:Nat) (ds:List DT),v.1=(m:Int)/\n+m=l.length/\(l.drop m).foldl (λds f=>eC ds f (aI 5 0)) ds=b/\aF Q D G w0 w' (s.1,ds) (L0++Ls),⟨l.length,λJ L=>⟨0,s.2,rfl,rfl,j.symm,S.ext L⟩⟩,?_⟩;clear S;rintro n ⟨v,u⟩ J ⟨m,ds,p,T,hd,S⟩;dsimp only at p ⊢;subst p;refine ab (λd=>?_) (λd=>?_)
 .have e:m<l.length:=by simpa using d
  have q:=DC e;have ⟨f,t⟩: ∃f,f=l[m]:=⟨_,rfl⟩;rw[<-t] at q;rw[L2 e, <-t,List.foldl_cons] at hd;have z:=(S.sl i (λy M=>B2 _ M)) m f q;refine⟨rfl,rfl,S.a_ k0 (gB a) rfl ⟨⟨z.1,by omega,by omega⟩,ag.of f z.2 (S.Ib f 5 0 λN S=>λA O=>⟨n - 1,by omega,m+1, _,?_,by omega,hd,S.ext O⟩)⟩⟩;rw[ao (by omega) (by omega)];omega
 .have e: ¬ m<l.length:=by simpa using d
  rw[List.drop_of_length_le (by omega)] at hd;have hd:ds=b:=hd;subst hd;refine⟨rfl,rfl,S.oB k0 (gB a) rfl rfl λN S=>S.en λA S=>k (F,l.length,xc) Ls A h ?_⟩
  grind
end aF
end
set_option maxRecDepth 100000
open Go.RX
section
variable {w:A2}
end
theorem Y6 {y:Int} (a:0<=y/\y<65536):fh y 3=y / 4096 % 16:=by
 unfold fh;rw[az (by grind)];rfl
theorem at3 {k y:Int} (b:0<=k/\k<4096) (a:0<=y/\y<65536):c9 k y 3=16*k+y / 4096 % 16:=by
 unfold c9;rw[Y6 a,ar (by omega)]
theorem B6 {N:Nat} (h:oh N=true):aZ (vo N) (vp N) (wk N) (tr N)=true:=by grind[oh,vo,vp,wk,tr]
abbrev xL (fr pg wt lv:Int) (dn:Bool) (fd:FT) (s:Option AE×Nat×Nat):List AG:=
 [aa fr,aa pg,aa wt,aa lv,.bool dn,aa fd.1,aa fd.2.1,aa fd.2.2.1,aa fd.2.2.2.1,.slice s.1 s.2.1 s.2.2]
section
variable {D G:List Nat} {w0 w:A2} {L:List (Nat×List AG)} {bk:Nat} {fr pg wt lv:Int} {dn:Bool} {fd:FT} {s:Option AE×Nat×Nat}
theorem uA (H:aJ D G w0 w L) (j:Nat) (b:L[j]? =some (bk,xL fr pg wt lv dn fd s)) (e:Int) {K:Unit->A2->Prop}
 (k: ∀a,aJ D G w0 a (L.set j (bk,xL fr pg wt lv true (tD lv e) s))->K () a):
 aA AC 274 (.bu []) [ah (ae bk),aa e] w K:=by
 refine aA.go H λw1 H=>aj (AR (P8 _ e w1 K) ?_);have d:=(B5.1 b).1;refine⟨rfl,rfl,aw.c_ j H b rfl rfl λa H=>?_⟩;have c:(L.set j _)[j]? =some (bk,xL fr pg wt lv true fd s):=FC d;refine⟨rfl,rfl,ag.bj j H c rfl ⟨rfl,rfl,?_⟩⟩;refine aw.at j H c rfl (MG rfl) λg H=>ak.go H λf H=>k f ?_;have e:(L.set j (bk,xL fr pg wt lv true fd s)).set j (bk,xL fr pg wt lv true (tD lv e) s)=L.set j _:=H5 ..;rw[<-e];exact H
theorem I3 (H:aJ D G w0 w L) (j:Nat) (m:L[j]? =some (bk,xL fr pg wt lv dn fd s)) (f:Int) (ep:Bool) (er:Int) (el:Bool) (ef:Int) {K:Unit->A2->Prop}
 (k: ∀a,aJ D G w0 a (L.set j (bk,xL fr pg wt lv true (AV lv wt f ep er el ef) s))->K () a):
 aA AC 276 (.bu []) [ah (ae bk),aa f,.agg ⟨[.bool ep,aa er,.bool el,aa ef]⟩] w K:=by
 refine aA.go H λw1 H=>aj (C:=M1) (AR (T1 _ f ep er el ef w1 K) ?_);have n:j<L.length:=(B5.1 m).1;refine aH.go H λb a H=>?_;have o:=m;refine ab (λc=>?_) (λc=>?_)
 .refine uA H (j+1) o 11 λt H=>ak.go H λd H=>k d ?_;have e:AV lv wt f ep er el ef=tD lv 11:=az (by grind);rw[e];exact H.sub (Ct _ _)
 have p: ¬ f>=4096:=by grind
 refine⟨rfl,rfl,aw.c_ (j+1) H o rfl rfl λt H=>?_⟩;have q:((b,[Dm ep,aa er,.bool el,aa ef])::L.set j (bk,xL fr pg wt lv true fd s))[j+1]? =some (bk,xL fr pg wt lv true fd s):=FC (l:=L) n;refine⟨rfl,ag.bj 0 H rfl rfl ⟨rfl,rfl,ag.bj (j+1) H q rfl ⟨rfl,rfl,?_⟩⟩⟩;rw[aS];refine aw.at (j+1) H q rfl (MG rfl) λd H=>?_;have u:(L.set j (bk,xL fr pg wt lv true fd s)).set j (bk,xL fr pg wt lv true (f,er,lv,0,()) s)=L.set j _:=H5 ..;have H:aJ D G w0 d ((b,[Dm ep,aa er,.bool el,aa ef])::(L.set j (bk,xL fr pg wt lv true fd s)).set j (bk,xL fr pg wt lv true (f,er,lv,0,()) s)):=H;rw[u] at H;have r:((b,[Dm ep,aa er,.bool el,aa ef])::L.set j _)[j+1]? =some (bk,xL fr pg wt lv true (f,er,lv,0,()) s):=FC (l:=L) n;refine ag.at 0 H rfl rfl ⟨rfl,rfl,ag.bj (j+1) H r rfl ⟨trivial,ab (λg=>?_) (λg=>?_)⟩⟩
 .refine⟨rfl,rfl,rfl,aw.one (j+1) H r rfl rfl λx H=>ak.go H λh H=>k h ?_⟩;have e:AV lv wt f ep er el ef=(f,er,lv,7,()):=by
   have i:gy ep er el ef wt=false:=by simpa using g
   unfold AV;rw[ar p,i];rfl
  have v:(L.set j (bk,xL fr pg wt lv true (f,er,lv,0,()) s)).set j (bk,xL fr pg wt lv true (f,er,lv,7,()) s)=L.set j _:=H5 ..;rw[e, <-v];exact H.sub (Ct _ _)
 .refine ak.go H λh H=>k h ?_;have e:AV lv wt f ep er el ef=(f,er,lv,0,()):=by
   have i:gy ep er el ef wt=true:=by simpa using g
   unfold AV;rw[ar p,az i]
  rw[e];exact H.sub (Ct _ _)
theorem EN (H:aJ D G w0 w L) (j:Nat) (b:L[j]? =some (bk,xL fr pg wt lv true fd s)) (m:Option AE) {K:Bool->A2->Prop} (k: ∀a,aJ D G w0 a L->K true a):
 aA AC 196 gD [ah (ae bk),ah m] w K:=by
 refine aA.go H λw1 H=>aj (AR (Bv _ m w1 K) ?_);exact⟨rfl,rfl,ag.bj j H b rfl (ax rfl (ak.go H λa H=>k a H))⟩
end
theorem LV {N:Nat} (h:oh N=true):0<=vp N/\(vo N=false->vp N=0):=by
 have h2:=B6 h;have hb:=nV h2
 grind
section
variable {G:List Nat} {w0 w:A2} {L0 Ls:List (Nat×List AG)} {bk bm bw n c:Nat} {ca la fr pg wt lv:Int} {fd:FT} {s:Option AE×Nat×Nat} {ws xs:List Int} {rest:List AG}
theorem LW (H:At G w0 w ((bk,xL fr pg wt lv false fd s)::(bm,gi bw n c ca la)::(bw,flat eW ws++rest)::(Ls++L0))) (E:nq Ls s xs) (X:xs.length<=1000) (F:n=ws.length) (I:okW ws) (Y:0<=lv/\lv<=3) {K:Bool->A2->Prop}
 (kd:(fZ ws pg wt (fr,lv,fd)).2.1= -1-> ∀f iC s',nq iC s' (xs++[fr])->At G w0 f ((bk,xL (fZ ws pg wt (fr,lv,fd)).1 pg wt lv true (fZ ws pg wt (fr,lv,fd)).2.2 s')::(bm,gi bw n c (pM ws (c9 fr pg lv) ca) la)::(bw,flat eW ws++rest)::(iC++L0))->K true f)
 (kn:(fZ ws pg wt (fr,lv,fd)).2.1≠ -1-> ∀f iC s',nq iC s' (xs++[fr])->At G w0 f ((bk,xL (fZ ws pg wt (fr,lv,fd)).1 pg wt (fZ ws pg wt (fr,lv,fd)).2.1 false (fZ ws pg wt (fr,lv,fd)).2.2 s')::(bm,gi bw n c (pM ws (c9 fr pg lv) ca) la)::(bw,flat eW ws++rest)::(iC++L0))->K false f):
 aA AC 196 gD [ah (ae bk),ah (ae bm)] w K:=by
 refine aA.go H λw1 H=>aj (C:=M1) (AR (Bv _ _ w1 K) ?_);refine⟨rfl,rfl,ag.bj 0 H rfl rfl (an rfl ⟨rfl,rfl,ag.bj 0 H rfl rfl ⟨rfl,rfl,ag.bj 0 H rfl rfl (aH.go H λb1 Z H=>λJ L=>?_)⟩⟩)⟩;have H:=H.ext L;dsimp only at H ⊢;have H:At G w0 J ([(b1,cellsOf eI fr)]++([(bk,xL fr pg wt lv false fd s),(bm,gi bw n c ca la),(bw,flat eW ws++rest)]++(Ls++L0))):=H;have H:=H.perm (L':=(b1,cellsOf eI fr)::(Ls++([(bk,xL fr pg wt lv false fd s),(bm,gi bw n c ca la),(bw,flat eW ws++rest)]++L0))) (.cons _ (by
  rw[<-Df, <-Df];exact Ml _ E4))
 refine aJ.grow H E rfl rfl rfl (by omega) λbs t g w7 M N H=>⟨rfl,rfl,aw.c_ 1 H rfl rfl rfl λw8 H=>⟨rfl,rfl,ag.bj 1 H rfl rfl ⟨rfl,rfl,ag.bj 1 H rfl rfl ⟨rfl,rfl,ag.bj 1 H rfl rfl ⟨trivial,?_⟩⟩⟩⟩⟩;refine D5 H 2 3 rfl rfl (by decide) F (c9 fr pg lv) λO H=>?_;dsimp only at H ⊢;have P:lv≠ -1:=by omega
 generalize hv:eY ws (c9 fr pg lv)=v at H ⊢;generalize Q:vy ws (c9 fr pg lv)=er at H ⊢;have u:0<=v/\v<18446744073709551616:=by rw[<-hv];exact vM I _
 have R:U (B v)=v:=yz u.1 u.2;refine⟨R,aH.go H λb2 O H=>aw.all 0 H rfl rfl rfl λnp H=>?_⟩;have y:fZ ws pg wt (fr,lv,fd)=if(er != 0|| !oh (B v).toNat)=true then(fr,-1,tD lv 11) else tookS fr pg wt lv fd (vo (B v).toNat) (vp (B v).toNat) (wk (B v).toNat) (tr (B v).toNat):=by
  unfold fZ;simp only[hv,Q];rw[ar P,Bool.or_comm]
 have d:nq [(bs,flat eI (xs++[fr])++g)] (some ⟨bs,0,none⟩,xs.length+1,t) (xs++[fr]):= .inr ⟨bs,t,g,by rw[B3];rfl,rfl,M,by rw[B3];exact N⟩;have e: ∀{w:A2} {x:Nat×List AG} {l:List AG},At G w0 w (x::(bs,flat eI (xs++[fr])++g)::(bk,l)::(bm,gi bw n c (pM ws (c9 fr pg lv) ca) la)::(bw,flat eW ws++rest)::L0)->At G w0 w ((bk,l)::(bm,gi bw n c (pM ws (c9 fr pg lv) ca) la)::(bw,flat eW ws++rest)::([(bs,flat eI (xs++[fr])++g)]++L0)):=λ{w x l} H=>by
  have H:=H.sub (Ct _ _);refine H.perm ?_;refine MW (l₂:=[(bk,l),(bm,gi bw n c (pM ws (c9 fr pg lv) ca) la),(bw,flat eW ws++rest)]++([(bs,flat eI (xs++[fr])++g)]++L0)) (.refl _) ?_;rw[<-Df];exact Ml _ E4
 refine ab (λi=>?_) (λi=>⟨rfl,ag.bj 0 H rfl rfl ?_⟩)
 .rw[y,az i] at kd;exact uA H 2 rfl 11 λj H=>⟨rfl,rfl,ag.bj 2 H rfl rfl (ak.go H λa H=>kd rfl a _ _ d (e H))⟩
 rw[y,ar (by rw[i];decide)] at kd kn;have z:oh (B v).toNat=true:=by
  rw[DB] at i;simpa using i.2
 have ⟨A, _⟩:=LV z;have k:=B6 z;generalize vo (B v).toNat=ep at H kd kn k ⊢;generalize vp (B v).toNat=b at H kd kn k A ⊢;generalize wk (B v).toNat=el at H kd kn k ⊢;generalize tr (B v).toNat=ef at H kd kn k ⊢;unfold tookS at kd kn;refine ab (λm=>?_) (λm=>?_)
 .rw[az m] at kd;exact uA H 2 rfl 4 λj H=>⟨rfl,rfl,ag.bj 2 H rfl rfl (ak.go H λa H=>kd rfl a _ _ d (e H))⟩
 rw[ar (by rw[m];decide)] at kd kn;refine ag.at 0 H rfl rfl ⟨trivial,λ_=>rfl,λ_=>rfl,ag.bj 2 H rfl rfl (ab (λo=>?_) (λo=>?_))⟩
 .rw[az o] at kn;have WU:lv>0:=by
   have h:(cP ep b el ef&&decide (lv>0))=true:=o;rw[Da] at h;exact of_decide_eq_true h.2
  refine⟨rfl,ag.bj 0 H rfl rfl ⟨rfl,rfl,aw.c_ 2 H rfl rfl rfl λj H=>⟨rfl,rfl,ag.bj 2 H rfl rfl ⟨rfl,rfl,aw.c_ 2 H rfl rfl rfl λa H=>⟨rfl,rfl,ag.bj 2 H rfl rfl (ak.go H λS H=>?_)⟩⟩⟩⟩⟩;refine kn ?_ S _ _ d (e H);show aR .i64 lv 1≠ -1;rw[aX (by omega) (by omega)];omega
 have T:(cP ep b el ef&&decide (lv>0))=false:=o;rw[ar (by rw[T];decide)] at kd kn;refine⟨rfl,ag.bj 0 H rfl rfl ⟨λ_=>rfl,λ_=>rfl,ag.bj 2 H rfl rfl (ab (λp=>?_) (λp=>?_))⟩⟩
 .have q:(el&&lv==1)=true:=p;rw[az q] at kd;refine⟨rfl,ag.bj 0 H rfl rfl ⟨rfl,rfl,ag.bj 2 H rfl rfl (ag.at 0 H rfl rfl ?_)⟩⟩;exact I3 H 2 rfl _ ep b el ef λj H=>⟨rfl,rfl,ag.bj 2 H rfl rfl (ak.go H λa H=>kd rfl a _ _ d (e H))⟩
 have q:(el&&lv==1)=false:=p;rw[ar (by rw[q];decide)] at kd kn;refine⟨rfl,ag.bj 0 H rfl rfl (ag.at 0 H rfl rfl ⟨λ_=>trivial,λ_=>rfl,λ_=>rfl,ag.bj 2 H rfl rfl (ab (λr=>?_) (λr=>?_))⟩)⟩
 all_goals
  have D:(!el&& !cP ep b el ef&&lv==0)=(!el&&decide (b>0)&&lv==0):=by
   have V:ep=true:=by simpa using m
   subst V;have W:cP true b el ef=(b==0):=by unfold cP;rw[k];simp
   rw[W];have:(!b==0)=decide (b>0):=by
    rcases Int.lt_or_eq_of_le A with h|h
    .rw[decide_eq_true h];simp;omega
    .rw[<-h];rfl
   rw[this]
 .rw[az (D.symm.trans r)] at kd;refine⟨rfl,ag.bj 0 H rfl rfl (ag.at 0 H rfl rfl ?_)⟩;exact I3 H 2 rfl _ ep b el ef λj H=>⟨rfl,rfl,ag.bj 2 H rfl rfl (ak.go H λa H=>kd rfl a _ _ d (e H))⟩
 .rw[ar (by rw[<-D,r];decide)] at kd;exact uA H 2 rfl 11 λj H=>⟨rfl,rfl,ag.bj 2 H rfl rfl (ak.go H λa H=>kd rfl a _ _ d (e H))⟩
end
theorem Vm (f p t:Int):Cm f p t= !(decide (f>=0)&&decide (f<=4095)&&decide (p>=0)&&decide (p<=65535)&&decide (t>=0)&&decide (t<=7)):=by
 unfold Cm;by_cases h:(0<=f/\f<4096)/\(0<=p/\p<65536)
 .grind[at3]
 .have e:c9 f p 3= -1:=by
   unfold c9;by_cases a:0<=p/\p<65536
   grind
   .have:fh p 3= -1:=by unfold fh;omega
    omega
  grind
theorem Y7 {w:A2} (f p t:Int):ai AC 308 [aa f,aa p,aa t] w (.bool (!Cm f p t)):=ai.of (s:= .el cr) λw' h'=>by
 refine aj (C:=M1) (AR (TZ f p t w' _) ?_);intro w1 a;rw[Vm,Bool.not_not];exact⟨rfl,a⟩
section
variable {D G:List Nat} {w0 w:A2} {L:List (Nat×List AG)}
theorem RG (H:aJ D G w0 w L) (f p t:Int) {K:Option AE->A2->Prop}
 (a: ∀bk w1,aJ D G w0 w1 ((bk,xL f p t 3 false (0,0,0,0,()) (none,0,0))::L)->K (ae bk) w1):
 aA AC 193 oq [aa f,aa p,aa t] w K:=by
 refine aA.go H λw1 H=>aj (AR (P7 f p t w1 K) ?_);exact aH.go H λb d H=>ak.go H λc H=>a b c H
theorem RH {bm bw n c:Nat} {ca la:Int} {ws:List Int} {rest:List AG} {L0:List (Nat×List AG)} (H:At G w0 w ((bm,gi bw n c ca la)::(bw,flat eW ws++rest)::L0)) (I:n=ws.length) (J:okW ws) (f p t:Int) {K:FT->A2->Prop}
 (k: ∀d w1,At G w0 w1 ((bm,gi bw n c d la)::(bw,flat eW ws++rest)::L0)->K (rJ ws f p t) w1):
 aA AC 243 (.el (.agg sF)) [ah (ae bm),aa f,aa p,aa t] w K:=by
 refine aA.go H λw1 H=>aQ (C:=M1) (b_:=uR) (AR (P9 _ f p t w1 K) ?_);refine aH.go H λb P H=>⟨_,Y7 f p t,?_⟩;cases hb:Cm f p t with
 |true=>
  have e:rJ ws f p t=(0,0,0,1,()):=az hb;rw[e] at k;exact ax rfl (aw.all 0 H rfl rfl rfl λv H=>ak.go H λj H=>ag.at 0 H rfl rfl (k ca j (H.sub (Ct _ _))))
 |false=>
 have e:rJ ws f p t=(lj ws f p t 4).2.2:=ar (by rw[hb];decide);rw[e] at k;refine an rfl (RG H f p t λbk Q H=>?_);refine⟨λq x w'=> ∃(i:Nat) (Ls:List (Nat×List AG)) (s:Option AE×Nat×Nat) (xs:List Int) (d lv:Int) (dn:Bool),x.1=i/\q+i=4/\xs.length<=i/\nq Ls s xs/\((dn=true/\(lj ws f p t i).2.1= -1)\/(dn=false/\(lj ws f p t i).2.1=lv/\0<=lv/\lv<=3))/\
  At G w0 w' ((bk,xL (lj ws f p t i).1 p t lv dn (lj ws f p t i).2.2 s)::(bm,gi bw n c d la)::(bw,flat eW ws++rest)::(Ls++((b,[aa 0,aa 0,aa 0,aa 0])::L0))),⟨4,λv L=>⟨0,[],(none,0,0),[],ca,3,false,rfl,rfl,C9 _,.inl ⟨rfl,rfl,rfl⟩,.inr ⟨rfl,rfl,by decide,by decide⟩,(H.ext L).perm ?_⟩⟩,?_⟩
 .exact .cons _ (E4 (l₁:=[(bm,gi bw n c ca la),(bw,flat eW ws++rest)]) (l₂:=[(b,[aa 0,aa 0,aa 0,aa 0])]) |>.append_right L0)
 clear H;rintro q ⟨R,u⟩ v ⟨i,Ls,s,xs,d,lv,dn,hi,S,T,z,hd,H⟩;simp only at hi;subst hi;dsimp only;refine ab (λl=>?_) (λl=>?_)
 .have A:i<4:=by have:=of_decide_eq_true l;omega
  have m:ay .i64 (i:Int) 1=((i+1:Nat):Int):=by rw[ao (by omega) (by omega)];rfl
  rcases hd with ⟨rfl,hd⟩|⟨rfl,hd,M⟩
  .refine EN H 0 rfl _ λj H=>λo g=>⟨q - 1,by omega,i+1,Ls,s,xs,d,lv,true,m,by omega,by omega,z,?_,?_⟩
   .have:lj ws f p t (i+1)=lj ws f p t i:=rh hd;rw[this];exact .inl ⟨rfl,hd⟩
   .have:lj ws f p t (i+1)=lj ws f p t i:=rh hd;rw[this];exact H.ext g
  .have es:fZ ws p t ((lj ws f p t i).1,lv,(lj ws f p t i).2.2)=lj ws f p t (i+1):=by rw[<-hd];rfl
   refine LW H z (by omega) I J M (λh j iC s' r H=>λo g=>?_) (λh j iC s' r H=>λo g=>?_)
   .rw[es] at H h;exact⟨q - 1,by omega,i+1,iC,s', _, _,lv,true,m,by omega,by rw[B3];simp;omega,r,.inl ⟨rfl,h⟩,H.ext g⟩
   .rw[es] at H h;have U:=(Ny ws f p t (i+1)).resolve_left h;exact⟨q - 1,by omega,i+1,iC,s', _, _, _,false,m,by omega,by rw[B3];simp;omega,r,.inr ⟨rfl,rfl,by omega,by omega⟩,H.ext g⟩
 .have A:i=4:=by have:=of_decide_eq_false l;omega
  subst A;generalize lj ws f p t 4=y at H k;have ⟨N,V,⟨B,D,E,F,W⟩⟩:=y;refine⟨rfl,rfl,ag.bj (x:=(B,D,E,F,())) 0 H rfl rfl ?_⟩;have H:=H.perm (by
   refine(Fk (l₁:=[(bk,xL N p t lv dn (B,D,E,F,()) s),(bm,gi bw n c d la),(bw,flat eW ws++rest)]++Ls) (a:=(b,[aa 0,aa 0,aa 0,aa 0])) (l₂:=L0)).symm)
  refine aw.all 0 H rfl rfl rfl λo H=>ak.go H λO H=>ag.at 0 H rfl rfl (k d O ?_);have H:=(H.sub (Ct _ _)).sub (Ct _ _);exact H.sub (.cons_cons _ (.cons_cons _ (Do _ _)))
theorem Vn {bm bw n c:Nat} {ca la:Int} {ws:List Int} {rest:List AG} (H:At G w0 w L) (j b:Nat) (d:L[j]? =some (bm,gi bw n c ca la)) (e:L[b]? =some (bw,flat eW ws++rest)) (g:j≠b) (h:n=ws.length) (i:okW ws) (f p t:Int) {K:FT->A2->Prop}
 (k: ∀a w1,At G w0 w1 (L.set j (bm,gi bw n c a la))->K (rJ ws f p t) w1):
 aA AC 243 (.el (.agg sF)) [ah (ae bm),aa f,aa p,aa t] w K:=by
 have ⟨o,l,m⟩:=N5 d e g;exact RH (H.perm l.symm) h i f p t λa w1 H=>k a w1 (H.perm (m _))
end
noncomputable def nJ:fa AC:={N2 with quiet:=[19,21,85,25,27,65,66,156,89,90,82,309]}
theorem RI (p:Option AE) (v:Int) (w:A2) (c:Bool->A2->Prop):(aL nJ (λ_=>[]) 19 [ah p,aa v] w c)=(
 (decide (v>=1)=true->p.isSome=true)/\(decide (v>=1)=true->p.isSome=true)/\ag w (some (decide (v>=1))) (ad p 4) bX λx=>((decide (v>=1)&&decide (v<(↑x.2.1:Int)))=true->p.isSome=true)/\((decide (v>=1)&&decide (v<(↑x.2.1:Int)))=true->p.isSome=true)/\ag w (some (decide (v>=1)&&decide (v<(↑x.2.1:Int)))) (ad p 4) bX λa=>((decide (v>=1)&&decide (v<(↑x.2.1:Int)))=true->a.1.isSome=true/\0<=v/\v<(↑a.2.1:Int))/\ag w (some (decide (v>=1)&&decide (v<(↑x.2.1:Int)))) (ad a.1 (v.toNat*1)) bF λb
 =>((decide (v>=1)&&decide (v<(↑x.2.1:Int)))=true->b.isSome=true)/\((decide (v>=1)&&decide (v<(↑x.2.1:Int)))=true->b.isSome=true)/\ag w (some (decide (v>=1)&&decide (v<(↑x.2.1:Int)))) (ad b 2) cr λd=>ak w λw1=>c (decide (v>=1)&&decide (v<(↑x.2.1:Int))&&d) w1):=by kernel_rfl
theorem RJ (p:Option AE) (v:Int) (w:A2) (a:Int->A2->Prop):(aL nJ (λ_=>[]) 21 [ah p,aa v] w a)=(
 ∃x,ai AC 19 [ah p,aa v] w (.bool x)/\aD (!x) (ak w (a (-1))) (bD p 4 w λx=>(x.1.isSome=true/\0<=v/\v<(↑x.2.1:Int))/\eJ w (ad x.1 (v.toNat*1)) λx=>bh x 0 w λx=> ∃(b:Int),ai AC 82 [ah x] w (aa b)/\ak w (a b))):=by kernel_rfl
theorem LX (p:Option AE) (v g:Int) (w:A2) (Post:Int×Int×Int×Unit->A2->Prop):(aL nJ (λ_=>[]) 23 [ah p,aa v,aa g] w Post)=(
 ∃x,ai AC 19 [ah p,aa v] w (.bool x)/\aD (!x) (ak w λw1=>Post (0,0,4,()) w1) (p.isSome=true/\p.isSome=true/\ag w none (ad p 4) bX λx=>(x.1.isSome=true/\0<=v/\v<(↑x.2.1:Int))/\ag w none (ad x.1 (v.toNat*1)) bF λx=>x.isSome=true/\x.isSome=true/\ag w none (ad x 0) bF λx=>aA AC 84 (.bu [aq,aq,aq]) [ah x,aa g] w λ(x:Int×Int×Int×Unit) a=>ak a λw1=>Post (x.1,x.2.1,x.2.2.1,()) w1)):=
 by kernel_rfl
def xy:Nat->aW:=(λ|2=>[(7,Go.RX.El.one (Go.RX.Sc.int Ch))]| _=>[])
theorem Vo (p:Option AE) (v g:Int) (w:A2) (a:Int->A2->Prop):(aL nJ xy 85 [ah p,aa v,aa g] w a)=(
 ∃(I:Nat->Int×Unit->A2->Prop),(∃n, ∀w1,Ext w w1->I n (0,()) w1)/\ ∀(n:Nat) (s:Int×Unit) (w1:A2),I n s w1->bD p 4 w1 λx=>(x.1.isSome=true/\0<=v/\v<(↑x.2.1:Int))/\eJ w1 (ad x.1 (v.toNat*1)) λx=>bD x 1 w1 λx=>aD (decide (s.1<(↑x.2.1:Int))) (bD p 4 w1 λx=>(x.1.isSome=true/\0<=v/\v<(↑x.2.1:Int))/\eJ w1 (ad x.1 (v.toNat*1)) λx=>bD x 1 w1 λx=>(x.1.isSome=true/\0<=s.1/\s.1<(↑x.2.1:Int))/\(ad x.1 (AU s.1*3)).isSome=true/\ag w1 none (ad (ad x.1 (AU s.1*
 3)) 0) aq λ(x:Int)=>aD (x==g) (ak w1 (a s.1)) (∀b,Ext w1 b-> ∃(c:Nat),c<n/\I c (ay .i64 s.1 1,()) b)) (ak w1 (a (-1)))):=by kernel_rfl
theorem LY (p:Option AE) (v g:Int) (w:A2) (b:Int×Bool×Unit->A2->Prop):(aL nJ (λ_=>[]) 25 [ah p,aa v,aa g] w b)=(
 ∃x,ai AC 19 [ah p,aa v] w (.bool x)/\ ∃(c:Int),((!!x)=true->ai AC 85 [ah p,aa v,aa g] w (aa c))/\aD (!x||decide (c<0)) (ak w (b (0,false,()))) (bD p 4 w λx=>(x.1.isSome=true/\0<=v/\v<(↑x.2.1:Int))/\eJ w (ad x.1 (v.toNat*1)) λx=>bD x 1 w λx=> ∃(a:Int),ai AC 85 [ah p,aa v,aa g] w (aa a)/\(x.1.isSome=true/\0<=a/\a<(↑x.2.1:Int))/\(ad x.1 (a.toNat*3)).isSome=true/\ag w none (ad (ad x.1
 (a.toNat*3)) 1) aq λ(x:Int)=>ak w (b (x,true,())))):=by kernel_rfl
def qD:Nat->aW:=(λ|6=>[(8,Go.RX.El.one Go.RX.Sc.bool)]|9=>[(8,Go.RX.El.one Go.RX.Sc.bool),(9,Go.RX.El.one (Go.RX.Sc.int Ch))]|12=>[(8,Go.RX.El.one Go.RX.Sc.bool),(10,Go.RX.El.one (Go.RX.Sc.int Ch))]| _=>[])
theorem Hm (p:Option AE) (a b:Int) (w:A2) (k:Bool->A2->Prop):(aL nJ qD 27 [ah p,aa a,aa b] w k)=(
 aD (decide (a<1)||decide (a>16)||decide (b<1)||decide (b>16)) (ak w (k false)) (xG w 1 1 17 17 ⟨[.bool false]⟩ 4 λh i=>(true=true/\0<=a/\a<(↑17:Int))/\aw i (ad (ae h) (a.toNat*1)) [.bool true] λi=> ∃(I:Nat->Bool×Unit->A2->Prop),(∃n, ∀w1,Ext i w1->I n (true,()) w1)/\ ∀(n:Nat) (s:Bool×Unit) (w1:A2),I n s w1->aD s.1 (∃(l:Nat->Bool×Int×Unit->A2->Prop),(∃n, ∀j,Ext w1 j->l n (false,1,()) j)/\ ∀(m:Nat) (s:Bool×Int×Unit) (w1:A2),l m s w1->aD
 (decide (s.2.1<17)) (∃(I:Nat->Bool×Int×Unit->A2->Prop),(∃n, ∀j,Ext w1 j->I n (s.1,1,()) j)/\ ∀(n:Nat) (c:Bool×Int×Unit) (w1:A2),I n c w1->aD (decide (c.2.1<17)) ((true=true/\0<=s.2.1/\s.2.1<(↑17:Int))/\jc w1 (ad (ae h) (AU s.2.1*1)) λx=>(x=true->true=true/\0<=c.2.1/\c.2.1<(↑17:Int))/\ag w1 (some x) (ad (ae h) (AU c.2.1*1)) cr λf=>((x&& !f)=true->p.isSome=true)/\((x&& !f)=true->p.isSome=true)/\ag w1 (some (x&& !f)) (ad p 2) bF λ
 q=> ∃g,((x&& !f)=true->ai AC 89 [ah q,aa s.2.1,aa c.2.1] w1 (.bool g))/\((x&& !f&& !g)=true->p.isSome=true)/\((x&& !f&& !g)=true->p.isSome=true)/\ag w1 (some (x&& !f&& !g)) (ad p 3) bF λr=> ∃o,((x&& !f&& !g)=true->ai AC 90 [ah r,aa s.2.1,aa c.2.1] w1 (.bool o))/\aD (x&& !f&&(g||o)) ((true=true/\0<=c.2.1/\c.2.1<(↑17:Int))/\aw w1 (ad (ae h) (AU c.2.1*1)) [.bool true] λi=> ∀d,Ext i d-> ∃(e:Nat),
 e<n/\I e (true,ay .i64 c.2.1 1,()) d) (∀d,Ext w1 d-> ∃(e:Nat),e<n/\I e (c.1,ay .i64 c.2.1 1,()) d)) (∀d,Ext w1 d-> ∃(e:Nat),e<m/\l e (c.1,ay .i64 s.2.1 1,()) d)) (∀d,Ext w1 d-> ∃(e:Nat),e<n/\I e (s.1,()) d)) ((true=true/\0<=b/\b<(↑17:Int))/\jc w1 (ad (ae h) (b.toNat*1)) λx=>ak w1 (k x)))):=by kernel_rfl
theorem RK (p:Option AE) (f:Int) (w:A2) (a:Int->A2->Prop):(aL nJ (λ_=>[]) 148 [ah p,aa f] w a)=(
 ((!decide (f<0))=true->p.isSome=true)/\((!decide (f<0))=true->p.isSome=true)/\ag w (some !decide (f<0)) (ad p 1) bF λx=>((!decide (f<0))=true->x.isSome=true)/\((!decide (f<0))=true->x.isSome=true)/\ag w (some !decide (f<0)) (ad x 0) bX λx=>aD (decide (f<0)||decide (f>=(↑x.2.1:Int))) (ak w (a 2)) (bh p 1 w λx=>bD x 0 w λx=>(x.1.isSome=true/\0<=f/\f<(↑x.2.1:Int))/\(ad x.1 (f.toNat*4)).isSome=true/\ag w none (ad (ad x.1 (f.toNat*4)) 0) aq λ(x:Int)=>aD (x != 5) (ak w (a 6)) (bh
 p 1 w λx=>aA AC 237 aT [ah x,aa f] w λ(x:Int) b=>ak b (a x)))):=by kernel_rfl
def qE:Nat->aW:=(λ|2=>[(3,Go.RX.El.one (Go.RX.Sc.int Ch))]| _=>[])
theorem Hn (p:Option AE) (w:A2) (c:RS->A2->Prop):(bO nJ qE 67 [ah p] w c)=(
 aH w ⟨[av 0,aa 0]⟩ 40 λb a=> ∃(I:Nat->Int×Unit->A2->Prop),(∃n, ∀w1,Ext a w1->I n (1,()) w1)/\ ∀(n:Nat) (s:Int×Unit) (w1:A2),I n s w1->aD (decide (s.1<17)) (bD p 4 w1 λx=>(x.1.isSome=true/\0<=s.1/\s.1<(↑x.2.1:Int))/\eJ w1 (ad x.1 (AU s.1*1)) λx=>tA x 2 w1 λx=>aD (!x) (bh p 0 w1 λx=>bh p 1 w1 λg=>aA AC 142 (.bu [bF,aq]) [ah x,ah g,aa s.1] w1 λ(x:Option AE×Int×Unit) a=>aD (x.2.1 != 0) (aw a (ae b) [.int
 .u64 0,aa x.2.1] λa=>ak a λw1=>ag w1 none (ae b) cT λ(x:Int×Int×Unit)=>c (x.1,x.2.1,()) w1) (bD p 4 a λd=>aH a ⟨[ah x.1,.slice none 0 0,.bool true]⟩ 152 λh a=>(d.1.isSome=true/\0<=s.1/\s.1<(↑d.2.1:Int))/\aw a (ad d.1 (AU s.1*1)) [ah (ae h)] λa=>aw a (ae b) [av (aB .u64 s.1),aa 0] λa=>ak a λw1=>ag w1 none (ae b) cT λ(x:Int×Int×Unit)=>c (x.1,x.2.1,()) w1)) (∀e,Ext w1 e-> ∃(f:Nat),f<n/\I f (ay .i64 s.1
 1,()) e)) (aw w1 (ae b) [av 0,aa 3] λa=>ak a λw1=>ag w1 none (ae b) cT λ(x:Int×Int×Unit)=>c (x.1,x.2.1,()) w1)):=by kernel_rfl
def pF:Nat->aW:=(λ|6=>[(7,Go.RX.El.one (Go.RX.Sc.int Ch))]|10=>[]|17=>[(8,Go.RX.El.one (Go.RX.Sc.int Ch)),(9,Go.RX.El.one (Go.RX.Sc.int Ch))]| _=>[])
abbrev mE (a:RS->A2->Prop) (b:A2) (c:Nat):Prop:=
 ak b λw1=>ag w1 none (ae c) cT λ(x:Int×Int×Unit)=>a (x.1,x.2.1,()) w1
abbrev j9 (a:Int) (b:Option AE×Nat×Nat):Prop:=
 b.1.isSome=true/\0<=aB .i64 a/\aB .i64 a<(↑b.2.1:Int)
abbrev qF (a:Option AE×Nat×Nat) (b:Int×Int×Unit):Prop:=
 a.1.isSome=true/\0<=b.2.1/\b.2.1<(↑a.2.1:Int)
theorem EO (p:Option AE) (a:Int) (w:A2) (h:RS->A2->Prop):(bO nJ pF 68 [ah p,av a] w h)=(
 aH w ⟨[av 0,aa 0]⟩ 40 λb c=> ∃x,((!decide (a>16))=true->ai AC 19 [ah p,aa (aB .i64 a)] c (.bool x))/\aD (decide (a>16)|| !x) (aw c (ae b) [av 0,aa 4] λc=>mE h c b) (bh p 1 c λx=>aA AC 143 di [ah x,aa (aB .i64 a)] c λx c=> ∃(I:Nat->Int×Unit->A2->Prop),(∃n, ∀w1,Ext c w1->I n (0,()) w1)/\ ∀(n:Nat) (s:Int×Unit) (w1:A2),I n s w1->aD (decide (s.1<(↑x.2.1:Int))) (bh p 1 w1 λg=>bD g 0 w1 λf=>
 (x.1.isSome=true/\0<=s.1/\s.1<(↑x.2.1:Int))/\aN w1 (ad x.1 (AU s.1*1)) λx=>(f.1.isSome=true/\0<=x/\x<(↑f.2.1:Int))/\(ad f.1 (x.toNat*4)).isSome=true/\ag w1 none (ad (ad f.1 (x.toNat*4)) 2) aq λ(x:Int)=>aD (decide (x>0)) (aw w1 (ae b) [av 0,aa 9] λc=>mE h c b) (∀d,Ext w1 d-> ∃(e:Nat),e<n/\I e (ay .i64 s.1 1,()) d)) (∃(I:Nat->Unit->A2->Prop),(∃n, ∀i,Ext w1 i->I n () i)/\ ∀(n:Nat) (s:Unit) (w1:A2),I n s w1->bD p 4 w1
 λx=>j9 a x/\ag w1 none (ad x.1 ((aB .i64 a).toNat*1)) bF λx=>bD x 1 w1 λx=>aD (decide ((↑x.2.1:Int)>0)) (bD p 4 w1 λx=>j9 a x/\ag w1 none (ad x.1 ((aB .i64 a).toNat*1)) bF λx=>bD x 1 w1 λx=>(x.1.isSome=true/\(0:Int)<=0/\0<(↑x.2.1:Int))/\(ad x.1 0).isSome=true/\aN w1 (ad (ad x.1 0) 0) λx=>aA AC 75 aT [ah p,aa (aB .i64 a),av (aB .u64 x)] w1 λ(x:Int) c=> ∀d,Ext c d-> ∃(e:Nat),e<n/\I e () d) (bh p 2 w1 λx
 =>aA AC 144 aT [ah x,aa (aB .i64 a)] w1 λ(x:Int) c=>bh p 3 c λx=>aA AC 145 aT [ah x,aa (aB .i64 a)] c λ(x:Int) c=>bD p 4 c λx=>j9 a x/\ag c none (ad x.1 ((aB .i64 a).toNat*1)) bF λx=>bh x 0 c λx=>aA AC 146 di [ah x] c λx c=> ∃(I:Nat->Int×Int×Unit->A2->Prop),(∃n, ∀w1,Ext c w1->I n (0,0,()) w1)/\ ∀(n:Nat) (s:Int×Int×Unit) (w1:A2),I n s w1->bh p 1 w1 λx=>bD x 0 w1 λx=>aD
 (decide (s.2.1<(↑x.2.1:Int))) (bh p 1 w1 λx=>bD x 0 w1 λx=>qF x s/\(ad x.1 (AU s.2.1*4)).isSome=true/\ag w1 none (ad (ad x.1 (AU s.2.1*4)) 1) aq λ(x:Int)=>((x==aB .i64 a)=true->p.isSome=true)/\((x==aB .i64 a)=true->p.isSome=true)/\ag w1 (some (x==aB .i64 a)) (ad p 1) bF λg=>((x==aB .i64 a)=true->g.isSome=true)/\((x==aB .i64 a)=true->g.isSome=true)/\ag w1 (some (x==aB .i64 a)) (ad g 0) bX λf=>((x==aB .i64 a)=true->qF f s)
 /\((x==aB .i64 a)=true->(ad f.1 (AU s.2.1*4)).isSome=true)/\ag w1 (some (x==aB .i64 a)) (ad (ad f.1 (AU s.2.1*4)) 0) aq λ(j:Int)=>aD (x==aB .i64 a&&j==4) (bh p 1 w1 λx=>aA AC 147 aT [ah x,aa s.2.1,aa 5,aa 0] w1 λ(x:Int) c=> ∀d,Ext c d-> ∃(e:Nat),e<n/\I e (ay .i64 s.1 1,ay .i64 s.2.1 1,()) d) (∀d,Ext w1 d-> ∃(e:Nat),e<n/\I e (s.1,ay .i64 s.2.1 1,()) d)) (bD p 4 w1 λx=>aH w1 ⟨[ah none,.slice none 0
 0,.bool false]⟩ 152 λk c=>j9 a x/\aw c (ad x.1 ((aB .i64 a).toNat*1)) [ah (ae k)] λc=>aw c (ae b) [av (aB .u64 s.1),aa 0] λc=>mE h c b))))):=by kernel_rfl
def sy:Nat->aW:=(λ|3=>[(3,Go.RX.El.one (Go.RX.Sc.int Ch)),(4,Go.RX.El.one (Go.RX.Sc.int Ch))]| _=>[])
theorem LZ (p:Option AE) (w:A2) (e:RS->A2->Prop):(bO nJ sy 69 [ah p] w e)=(
 aH w ⟨[av 0,aa 0]⟩ 40 λb a=> ∃(I:Nat->Int×Int×Unit->A2->Prop),(∃n, ∀w1,Ext a w1->I n (0,0,()) w1)/\ ∀(n:Nat) (s:Int×Int×Unit) (w1:A2),I n s w1->bh p 1 w1 λx=>bD x 0 w1 λx=>aD (decide (s.2.1<(↑x.2.1:Int))) (aA AC 148 aT [ah p,aa s.2.1] w1 λ(x:Int) a=>aD (x==0) (∀c,Ext a c-> ∃(d:Nat),d<n/\I d (ay .i64 s.1 1,ay .i64 s.2.1 1,()) c) (∀c,Ext a c-> ∃(d:Nat),d<n/\I d (s.1,ay .i64 s.2.1 1,()) c)) (aw w1 (ae b) [.int .u64
 (aB .u64 s.1),aa 0] λa=>ak a λw1=>ag w1 none (ae b) cT λ(x:Int×Int×Unit)=>e (x.1,x.2.1,()) w1)):=by kernel_rfl
abbrev iz (a:RS->A2->Prop) (b:A2) (c:Nat):Prop:=
 ak b λw1=>ag w1 none (ae c) cT λ(x:Int×Int×Unit)=>a (x.1,x.2.1,()) w1
abbrev m_ (p:Option AE) (a:Int) (b:Int) (c:Int) (d:Int):Prop:=
 (!(decide (a<1)||decide (b>7))&&(decide (iF .u64 c 2>0)&&decide (d>=0)))=true->p.isSome=true
abbrev na (a:Int) (b:Int) (c:Int) (d:Int) (e:Option AE):Prop:=
 (!(decide (a<1)||decide (b>7))&&(decide (iF .u64 c 2>0)&&decide (d>=0)))=true->e.isSome=true
abbrev qw (v:Int) (a:Option AE×Nat×Nat):Prop:=
 a.1.isSome=true/\0<=v/\v<(↑a.2.1:Int)
abbrev xz (a:Option AE×Nat×Nat) (b:Int):Prop:=
 a.1.isSome=true/\0<=b/\b<(↑a.2.1:Int)
abbrev xA (b:RS->A2->Prop) (c:A2) (a:Nat):Prop:=
 aw c (ae a) [av 0,aa 7] λd=>iz b d a
theorem RM (p:Option AE) (v k a b c:Int) (w:A2) (j:RS->A2->Prop):(bO nJ (λ_=>[]) 70 [ah p,aa v,.agg ⟨[aa k,av a,av b,av c]⟩] w j)=(
 aH w ⟨[aa k,av a,av b,av c]⟩ 42 λb d=>aH d ⟨[av 0,aa 0]⟩ 40 λi d=>true=true/\bH d (ad (ae b) 1) λx=>aD (decide (x>65535)) (aw d (ae i) [av 0,aa 2] λd=>iz j d i) (true=true/\bH d (ad (ae b) 1) λx=>true=true/\aN d (ad (ae b) 0) λt=>aD (t==3) (true=true/\bH d (ad (ae b) 2) λf=>aA AC 149 jJ [ah p,aa v,aa (aB .i64 x),av f] d λ(x:Int×Int×Unit) d=>aw d (ae i)
 [av x.1,aa x.2.1] λd=>iz j d i) (∃(f:Int),ai AC 85 [ah p,aa v,aa (aB .i64 x)] d (aa f)/\true=true/\aN d (ad (ae b) 0) λu=>aD (u==5) (true=true/\bH d (ad (ae b) 2) λe=>((!decide (e<1))=true->true=true)/\ag d (some !decide (e<1)) (ad (ae b) 2) gZ λ(h:Int)=>((!(decide (e<1)||decide (h>7)))=true->true=true)/\ag d (some !(decide (e<1)||decide (h>7))) (ad (ae b) 2) gZ λ(g:Int)=>m_ p e h g
 f/\m_ p e h g f/\ag d (some (!(decide (e<1)||decide (h>7))&&(decide (iF .u64 g 2>0)&&decide (f>=0)))) (ad p 2) bF λm=>na e h g f m/\na e h g f m/\ag d (some (!(decide (e<1)||decide (h>7))&&(decide (iF .u64 g 2>0)&&decide (f>=0)))) (ad m 0) bX λl=>m_ p e h g f/\m_ p e h g f/\ag d (some (!(decide (e<1)||decide (h>7))&&(decide (iF .u64 g 2>0)&&decide (f>=0)))) (ad p 4) bX λo=>((!(decide (e
 <1)||decide (h>7))&&(decide (iF .u64 g 2>0)&&decide (f>=0)))=true->qw v o)/\ag d (some (!(decide (e<1)||decide (h>7))&&(decide (iF .u64 g 2>0)&&decide (f>=0)))) (ad o.1 (v.toNat*1)) bF λn=>na e h g f n/\na e h g f n/\ag d (some (!(decide (e<1)||decide (h>7))&&(decide (iF .u64 g 2>0)&&decide (f>=0)))) (ad n 1) bX λq=>((!(decide (e<1)||decide (h>7))&&(decide (iF .u64 g 2>0)&&decide (f>=0)))=true->xz q
 f)/\((!(decide (e<1)||decide (h>7))&&(decide (iF .u64 g 2>0)&&decide (f>=0)))=true->(ad q.1 (f.toNat*3)).isSome=true)/\ag d (some (!(decide (e<1)||decide (h>7))&&(decide (iF .u64 g 2>0)&&decide (f>=0)))) (ad (ad q.1 (f.toNat*3)) 1) aq λ(r:Int)=>((!(decide (e<1)||decide (h>7))&&(decide (iF .u64 g 2>0)&&decide (f>=0)))=true->xz l r)/\((!(decide (e<1)||decide (h>7))&&(decide (iF .u64 g 2>0)&&decide (f>=0)))=true->(ad l.1 (r.toNat*
 5)).isSome=true)/\ag d (some (!(decide (e<1)||decide (h>7))&&(decide (iF .u64 g 2>0)&&decide (f>=0)))) (ad (ad l.1 (r.toNat*5)) 3) cr λy=>aD (decide (e<1)||decide (h>7)||decide (iF .u64 g 2>0)&&decide (f>=0)&& !y) (xA j d i) (bD p 4 d λs=>qw v s/\eJ d (ad s.1 (v.toNat*1)) λz=>bh z 0 d λA=>true=true/\bH d (ad (ae b) 2) λB=>aA AC 150 aT [ah A,aa (aB .i64 x),aa (aB .i64 B)] d λ(x:
 Int) d=>aw d (ae i) [av 0,aa x] λd=>iz j d i)) (aA AC 23 (.bu [aq,aq,aq]) [ah p,aa v,aa (aB .i64 x)] d λ(e:Int×Int×Int×Unit) d=>aD (e.2.2.1 != 0) (aw d (ae i) [av 0,aa e.2.2.1] λd=>iz j d i) (aD (decide (f>=0)) (xA j d i) (bh p 1 d λh=>bD h 0 d λg=>(g.1.isSome=true/\0<=e.1/\e.1<(↑g.2.1:Int))/\(ad g.1 (AU e.1*4)).isSome=true/\ag d none
 (ad (ad g.1 (AU e.1*4)) 2) aq λ(m:Int)=>aD (decide (m>0)) (aw d (ae i) [av 0,aa 9] λd=>iz j d i) (bD p 4 d λl=>qw v l/\eJ d (ad l.1 (v.toNat*1)) λo=>bh o 0 d λn=>aA AC 151 (.bu [aq,aq]) [ah n,aa (aB .i64 x)] d λ(x:Int×Int×Unit) d=>bh p 1 d λx=>aA AC 147 aT [ah x,aa e.1,aa 5,aa 0] d λ(x:Int) d=>aw d (ae i) [av (aB .u64
 e.1),aa 0] λd=>iz j d i))))))):=by kernel_rfl
def qG:Nat->aW:=(λ|11=>[(12,Go.RX.El.one (Go.RX.Sc.int Ch))]| _=>[])
abbrev kT (a:RS->A2->Prop) (b:A2) (c:Nat):Prop:=
 ak b λw1=>ag w1 none (ae c) cT λ(x:Int×Int×Unit)=>a (x.1,x.2.1,()) w1
theorem Ho (p:Option AE) (v g r:Int) (w:A2) (c:RS->A2->Prop):(bO nJ qG 149 [ah p,aa v,aa g,av r] w c)=(
 aH w ⟨[av 0,aa 0]⟩ 40 λb a=>aD (decide (r<1)||decide (r>7)) (aw a (ae b) [av 0,aa 7] λa=>kT c a b) (bh p 1 a λx=>aA AC 233 (.bu [aq,aq]) [ah x,aa 4,aa v] a λ(x:Int×Int×Unit) a=>aD (x.2.1 != 0) (aw a (ae b) [av 0,aa x.2.1] λa=>kT c a b) (bD p 4 a λd=>(d.1.isSome=true/\0<=v/\v<(↑d.2.1:Int))/\eJ a (ad d.1 (v.toNat*1)) λj=>bh j 0 a λk=>aA AC 158 (.el
 aq) [ah k,aa g,aa x.1,aa (aB .i64 r)] a λ(f:Int) a=>aD (f != 0) (bh p 1 a λe=>aA AC 237 aT [ah e,aa x.1] a λ(x:Int) a=>aw a (ae b) [av 0,aa f] λa=>kT c a b) (∃(I:Nat->Int×Unit->A2->Prop),(∃n, ∀w1,Ext a w1->I n (0,()) w1)/\ ∀(n:Nat) (s:Int×Unit) (w1:A2),I n s w1->aD (decide (s.1<16)) (bh p 0 w1 λe=>aA AC 154 aT [ah e,aa (ay .i64 (dk .i64 16 x.1) s.1),av 0] w1
 λ(x:Int) a=> ∀h,Ext a h-> ∃(i:Nat),i<n/\I i (ay .i64 s.1 1,()) h) (aw w1 (ae b) [av (aB .u64 x.1),aa 0] λa=>kT c a b))))):=by kernel_rfl
abbrev xB (a:Int) (e:Int×Int×Unit->A2->Prop) (f:A2) (c:Nat) (b:Int×Int×Int×Int×Unit):Prop:=
 aw f (ae c) [aa b.1,aa b.2.1,aa b.2.2.1,aa b.2.2.2.1] λd=>true=true/\aN d (ad (ae c) 0) λx=>true=true/\aN d (ad (ae c) 3) λg=>ak d λw1=>e (ay .i64 (dk .i64 16 x) (aB .i64 (gj a 16)),g,()) w1
theorem RN (p:Option AE) (v a t:Int) (w:A2) (d:Int×Int×Unit->A2->Prop):(aL nJ (λ_=>[]) 152 [ah p,aa v,av a,aa t] w d)=(
 aD (decide (a>=1048576)) (ak w (d (-1,2,()))) (bh p 0 w λx=> ∃(e:Int),ai AC 21 [ah p,aa v] w (aa e)/\(aA AC 243 (.el dh) [ah x,aa e,aa (aB .i64 (pT .u64 a 16)),aa t] w λ(x:Int×Int×Int×Int×Unit) c=>aH c ⟨[aa 0,aa 0,aa 0,aa 0]⟩ 329 λb c=>xB a d c b x)/\aH w ⟨[aa 0,aa 0,aa 0,aa 0]⟩ 329 λb c=>aA AC 243 (.el dh) [ah x,aa e,aa (aB .i64 (pT .u64 a
 16)),aa t] c λ(x:Int×Int×Int×Int×Unit) c=>xB a d c b x)):=by kernel_rfl
theorem RO (p:Option AE) (v a:Int) (w:A2) (d:RS->A2->Prop):(bO nJ (λ_=>[]) 71 [ah p,aa v,av a] w d)=(
 aH w ⟨[av 0,aa 0]⟩ 40 λb c=>aA AC 152 (.bu [aq,aq]) [ah p,aa v,av a,aa 1] c λ(x:Int×Int×Unit) c=>aD (x.2.1 != 0) (aw c (ae b) [av 0,aa x.2.1] λc=>ak c λw1=>ag w1 none (ae b) cT λ(x:Int×Int×Unit)=>d (x.1,x.2.1,()) w1) (bh p 0 c λe=>aA AC 153 (.bu [.one eh,aq]) [ah e,aa x.1] c λ(x:Int×Int×Unit) c=>aw c (ae b) [av x.1,aa x.2.1] λc=>ak c λ
 w1=>ag w1 none (ae b) cT λ(x:Int×Int×Unit)=>d (x.1,x.2.1,()) w1)):=by kernel_rfl
theorem L3 (p:Option AE) (v a x:Int) (w:A2) (c:Int->A2->Prop):(aL nJ (λ_=>[]) 72 [ah p,aa v,av a,av x] w c)=(
 aA AC 152 (.bu [aq,aq]) [ah p,aa v,av a,aa 2] w λ(d:Int×Int×Unit) b=>aD (d.2.1 != 0) (ak b (c d.2.1)) (bh p 0 b λe=>aA AC 154 aT [ah e,aa d.1,av x] b λ(x:Int) b=>ak b (c x))):=by kernel_rfl
abbrev j0 (a:RS->A2->Prop) (b:A2) (c:Nat):Prop:=
 ak b λw1=>ag w1 none (ae c) cT λ(x:Int×Int×Unit)=>a (x.1,x.2.1,()) w1
theorem L4 (p:Option AE) (v k a b c:Int) (w:A2) (f:RS->A2->Prop):(bO nJ (λ_=>[]) 73 [ah p,aa v,.agg ⟨[aa k,av a,av b,av c]⟩] w f)=(
 aH w ⟨[aa k,av a,av b,av c]⟩ 42 λb d=>aH d ⟨[av 0,aa 0]⟩ 40 λe d=>true=true/\bH d (ad (ae b) 1) λx=>aD (decide (x>65535)) (aw d (ae e) [av 0,aa 2] λd=>j0 f d e) (true=true/\bH d (ad (ae b) 2) λx=>((!decide (x<1))=true->true=true)/\ag d (some !decide (x<1)) (ad (ae b) 2) gZ λ(g:Int)=>((!(decide (x<1)||decide (g>16)))=true->true=true)/\ag d (some !(decide (x<1)||decide (g>16))) (ad (ae b) 2) gZ λ(h:
 Int)=>((!(decide (x<1)||decide (g>16)||aB .i64 h==v))=true->true=true)/\ag d (some !(decide (x<1)||decide (g>16)||aB .i64 h==v)) (ad (ae b) 3) gZ λ(l:Int)=>aD (decide (x<1)||decide (g>16)||aB .i64 h==v||decide (l>1)) (aw d (ae e) [av 0,aa 1] λd=>j0 f d e) (true=true/\bH d (ad (ae b) 1) λx=>aA AC 23 (.bu [aq,aq,aq]) [ah p,aa v,aa (aB .i64 x)] d λ(x:Int×Int×Int×Unit) d
 =>((!x.2.2.1 != 0)=true->true=true)/\ag d (some !x.2.2.1 != 0) (ad (ae b) 2) gZ λ(m:Int)=> ∃i,((!x.2.2.1 != 0)=true->ai AC 19 [ah p,aa (aB .i64 m)] d (.bool i))/\aD (x.2.2.1 != 0|| !i) (aw d (ae e) [av 0,aa 4] λd=>j0 f d e) (true=true/\bH d (ad (ae b) 1) λx=> ∃(j:Int),ai AC 85 [ah p,aa v,aa (aB .i64 x)] d (aa j)/\aD (decide (j>=0)) (aw d (ae e) [av 0,aa 7] λd=>j0 f d e) (bh p
 2 d λx=>true=true/\bH d (ad (ae b) 1) λn=>true=true/\bH d (ad (ae b) 2) λo=>true=true/\bH d (ad (ae b) 3) λq=>aA AC 155 (.bu [aq,aq]) [ah x,aa v,aa (aB .i64 n),aa (aB .i64 o),.bool (q==1)] d λ(x:Int×Int×Unit) d=>aw d (ae e) [av (aB .u64 x.1),aa x.2.1] λd=>j0 f d e))))):=by kernel_rfl
def ve:Nat->aW:=(λ|27=>[(14,Go.RX.El.one Go.RX.Sc.slice),(15,Go.RX.El.one (Go.RX.Sc.int Ch))]| _=>[])
theorem RP (p:Option AE) (v k a b c:Int) (w:A2) (g:Int->A2->Prop):(aL nJ ve 74 [ah p,aa v,.agg ⟨[aa k,av a,av b,av c]⟩] w g)=(
 aH w ⟨[aa k,av a,av b,av c]⟩ 42 λb d=>true=true/\bH d (ad (ae b) 2) λx=>aD (decide (x>65535)) (ak d (g 2)) (true=true/\bH d (ad (ae b) 1) λx=>((!decide (x>15))=true->true=true)/\ag d (some !decide (x>15)) (ad (ae b) 3) gZ λ(G:Int)=>aD (decide (x>15)||decide (G>1)) (ak d (g 1)) (true=true/\bH d (ad (ae b) 1) λx=>true=true/\bH d (ad (ae b) 2) λo=>bh p 2 d λH=> ∃(e:(Int×Int×Int×Bool×Int×Unit)×Bool×Unit),ai AC 156
 [ah H,aa (aB .i64 x)] d (.tuple {toList:=[.agg ⟨[aa e.1.1,aa e.1.2.1,aa e.1.2.2.1,.bool e.1.2.2.2.1,aa e.1.2.2.2.2.1]⟩,.bool e.2.1]})/\aH d ⟨[aa 0,aa 0,aa 0,.bool false,aa 0]⟩ 280 λi d=>aw d (ae i) [aa e.1.1,aa e.1.2.1,aa e.1.2.2.1,.bool e.1.2.2.2.1,aa e.1.2.2.2.2.1] λd=>aD (!e.2.1) (ak d (g 4)) (true=true/\aN d (ad (ae i) 2) λj=>((!j != v)=true->true=true)/\ag d (some !j != v) (ad (ae b) 3)
 gZ λ(q:Int)=>((!j != v&&q==1)=true->true=true)/\ag d (some (!j != v&&q==1)) (ad (ae i) 3) cr λJ=>aD (j != v||q==1&& !J) (ak d (g 7)) (true=true/\aN d (ad (ae i) 0) λK=>true=true/\aN d (ad (ae i) 1) λL=>aA AC 23 (.bu [aq,aq,aq]) [ah p,aa K,aa L] d λ(l:Int×Int×Int×Unit) d=>aD (l.2.2.1 != 0) (ak d (g 4)) (true=true/\aN d (ad (ae i) 0) λM=>true=true/\aN d (ad (ae
 i) 1) λN=> ∃(B:Int),ai AC 85 [ah p,aa M,aa N] d (aa B)/\aD (decide (B>=0)) (ak d (g 7)) (bh p 2 d λO=>true=true/\bH d (ad (ae b) 3) λP=>aA AC 157 aT [ah O,aa (aB .i64 x),aa v,.bool (P==1)] d λ(C:Int) d=>aD (C != 0) (ak d (g C)) (bD p 4 d λt=>(t.1.isSome=true/\0<=v/\v<(↑t.2.1:Int))/\eJ d (ad t.1 (v.toNat*1)) λQ=>bh Q 0 d λR=>true=true/\bH d (ad (ae b)
 3) λS=>aA AC 158 aT [ah R,aa (aB .i64 o),aa l.1,aa (ay .i64 1 (dk .i64 2 (aB .i64 S)))] d λ(D:Int) d=>aD (D != 0) (bh p 2 d λu=>aA AC 159 aT [ah u,aa (aB .i64 x),aa v] d λ(x:Int) d=>ak d (g D)) (bh p 1 d λu=>aA AC 160 aT [ah u,aa l.1,aa 1] d λ(V:Int) d=> ∃(I:Nat->(Option AE×Nat×Nat)×Int×Unit->A2->Prop),(∃n, ∀w1,Ext d w1->I n ((none,0,0),0,
 ()) w1)/\ ∀(n:Nat) (s:(Option AE×Nat×Nat)×Int×Unit) (w1:A2),I n s w1->bD p 4 w1 λy=>(y.1.isSome=true/\0<=v/\v<(↑y.2.1:Int))/\eJ w1 (ad y.1 (v.toNat*1)) λT=>bD T 1 w1 λf=>(decide (s.2.1<(↑f.2.1:Int))=true->p.isSome=true)/\(decide (s.2.1<(↑f.2.1:Int))=true->p.isSome=true)/\ag w1 (some (decide (s.2.1<(↑f.2.1:Int)))) (ad p 4) bX λz=>(decide (s.2.1<(↑f.2.1:Int))=true->z.1.isSome=true/\0<=v/\v<(↑z.2.1:Int))/\ag w1 (some (decide (s.2.1<
 (↑f.2.1:Int)))) (ad z.1 (v.toNat*1)) bF λA=>(decide (s.2.1<(↑f.2.1:Int))=true->A.isSome=true)/\(decide (s.2.1<(↑f.2.1:Int))=true->A.isSome=true)/\ag w1 (some (decide (s.2.1<(↑f.2.1:Int)))) (ad A 1) bX λm=>(decide (s.2.1<(↑f.2.1:Int))=true->m.1.isSome=true/\0<=s.2.1/\s.2.1<(↑m.2.1:Int))/\(decide (s.2.1<(↑f.2.1:Int))=true->(ad m.1 (AU s.2.1*3)).isSome=true)/\ag w1 (some (decide (s.2.1<(↑f.2.1:Int)))) (ad (ad m.1 (AU s.2.1*3)) 0) aq λ(U
 :Int)=>aD (decide (s.2.1<(↑f.2.1:Int))&&decide (U<aB .i64 o)) (bD p 4 w1 λx=>(x.1.isSome=true/\0<=v/\v<(↑x.2.1:Int))/\eJ w1 (ad x.1 (v.toNat*1)) λx=>bD x 1 w1 λx=>(x.1.isSome=true/\0<=s.2.1/\s.2.1<(↑x.2.1:Int))/\ag w1 none (ad x.1 (AU s.2.1*3)) AM λ(x:Int×Int×Int×Unit)=>aH w1 ⟨[aa x.1,aa x.2.1,aa x.2.2.1]⟩ 181 λb d=> ∀w1,Ext d w1->nm w1 181 3 24 ⟨[aa 0,aa 0,aa 0]⟩ (s.1.1,s.1.2.1,s.1.2.2) (some ⟨b,0,none⟩,1,1) λ(r:Option AE×Nat×
 Nat) d=> ∀E,Ext d E-> ∃(F:Nat),F<n/\I F ((r.1,r.2.1,r.2.2),ay .i64 s.2.1 1,()) E) (aH w1 ⟨[aa (aB .i64 o),aa (aB .i64 x),aa l.1]⟩ 181 λb d=> ∀w1,Ext d w1->nm w1 181 3 24 ⟨[aa 0,aa 0,aa 0]⟩ (s.1.1,s.1.2.1,s.1.2.2) (some ⟨b,0,none⟩,1,1) λ(r:Option AE×Nat×Nat) d=>bD p 4 d λx=>(x.1.isSome=true/\0<=v/\v<(↑x.2.1:Int))/\eJ d (ad x.1 (v.toNat*1)) λx=>bD x 1 d λx=>(0<=s.2.1/\s.2.1<=(↑x.2.1:Int)/\(↑x.2.1:Int)<=(↑x.2.2:Int)/\(↑x.2.2:
 Int)<=(↑x.2.2:Int))/\ ∀w1,Ext d w1->nm w1 181 3 24 ⟨[aa 0,aa 0,aa 0]⟩ (r.1,r.2.1,r.2.2) (Decidable.rec (λ(h:(↑x.2.2:Int).toNat=AU s.2.1->False)=>ad x.1 (AU s.2.1*3)) (λ(h:(↑x.2.2:Int).toNat=AU s.2.1)=>x.1) (instDecidableEqNat (↑x.2.2:Int).toNat (AU s.2.1)),(↑x.2.1:Int).toNat - AU s.2.1,(↑x.2.2:Int).toNat - AU s.2.1) λ(r:Option AE×Nat×Nat) d=>bD p 4 d λx=>(x.1.isSome=true/\0<=v/\v<(↑x.2.1:Int))/\eJ d (ad x.1 (v.toNat*1)) λx=>x.isSome=true/\
 x.isSome=true/\aw d (ad x 1) [.slice r.1 r.2.1 r.2.2] λd=>ak d (g 0))))))))))):=by kernel_rfl
abbrev k_ (v:Int) (a:Option AE×Nat×Nat):Prop:=
 a.1.isSome=true/\0<=v/\v<(↑a.2.1:Int)
theorem RQ (p:Option AE) (v a:Int) (w:A2) (f:Int->A2->Prop):(aL nJ (λ_=>[]) 75 [ah p,aa v,av a] w f)=(
 aD (decide (a>65535)) (ak w (f 2)) (∃(x:Int),ai AC 85 [ah p,aa v,aa (aB .i64 a)] w (aa x)/\aD (decide (x<0)) (ak w (f 4)) (bD p 4 w λj=>k_ v j/\eJ w (ad j.1 (v.toNat*1)) λm=>bD m 1 w λg=>(g.1.isSome=true/\0<=x/\x<(↑g.2.1:Int))/\ag w none (ad g.1 (x.toNat*3)) AM λ(i:Int×Int×Int×Unit)=>aH w ⟨[aa 0,aa 0,aa 0]⟩ 181 λb c=>aw c (ae b) [aa i.1,aa i.2.1,aa i.2.2.1] λc=>bD p 4 c λk
 =>k_ v k/\eJ c (ad k.1 (v.toNat*1)) λn=>bD n 1 c λe=>(0<=(↑0:Int)/\(↑0:Int)<=x/\x<=(↑e.2.2:Int)/\(↑e.2.2:Int)<=(↑e.2.2:Int))/\ ∀w1,Ext c w1->nm w1 181 3 24 ⟨[aa 0,aa 0,aa 0]⟩ (none,0,0) (Decidable.rec (λ(h:(↑e.2.2:Int).toNat=(↑0:Int).toNat->False)=>ad e.1 0) (λ(h:(↑e.2.2:Int).toNat=(↑0:Int).toNat)=>e.1) (instDecidableEqNat (↑e.2.2:Int).toNat 0),x.toNat - 0,(↑e.2.2:Int).toNat - 0) λ(r:Option AE×Nat×Nat) c=>bD p 4 c λl=>k_
 v l/\eJ c (ad l.1 (v.toNat*1)) λo=>bD o 1 c λd=>(0<=ay .i64 x 1/\ay .i64 x 1<=(↑d.2.1:Int)/\(↑d.2.1:Int)<=(↑d.2.2:Int)/\(↑d.2.2:Int)<=(↑d.2.2:Int))/\ ∀w1,Ext c w1->nm w1 181 3 24 ⟨[aa 0,aa 0,aa 0]⟩ (r.1,r.2.1,r.2.2) (Decidable.rec (λ(h:(↑d.2.2:Int).toNat=(ay .i64 x 1).toNat->False)=>ad d.1 ((ay .i64 x 1).toNat*3)) (λ(h:(↑d.2.2:Int).toNat=(ay .i64 x 1).toNat)=>d.1) (instDecidableEqNat (↑d.2.2:Int).toNat (ay .i64 x 1).toNat),(↑d.2.1:
 Int).toNat - (ay .i64 x 1).toNat,(↑d.2.2:Int).toNat - (ay .i64 x 1).toNat) λ(r:Option AE×Nat×Nat) c=>bD p 4 c λx=>k_ v x/\eJ c (ad x.1 (v.toNat*1)) λx=>x.isSome=true/\x.isSome=true/\aw c (ad x 1) [.slice r.1 r.2.1 r.2.2] λc=>bD p 4 c λx=>k_ v x/\eJ c (ad x.1 (v.toNat*1)) λx=>bh x 0 c λx=>true=true/\aN c (ad (ae b) 0) λq=>aA AC 151 (.bu [aq,aq]) [ah x,aa q] c λ(x:Int×Int×Unit) c=>bh p 1 c λx=>
 true=true/\aN c (ad (ae b) 2) λs=>aA AC 160 aT [ah x,aa s,aa (-1)] c λ(x:Int) c=>bh p 2 c λx=>true=true/\aN c (ad (ae b) 1) λt=>aA AC 159 aT [ah x,aa t,aa v] c λ(x:Int) c=>ak c (f 0)))):=by kernel_rfl
abbrev iP (a:RS->A2->Prop) (b:A2) (c:Nat):Prop:=
 ak b λw1=>ag w1 none (ae c) cT λ(x:Int×Int×Unit)=>a (x.1,x.2.1,()) w1
abbrev vf (c:RS->A2->Prop) (d:A2) (a:Nat) (b:Int×Int×Unit):Prop:=
 aw d (ae a) [av (aB .u64 b.1),aa b.2.1] λe=>iP c e a
abbrev vg (b:RS->A2->Prop) (c:A2) (a:Nat):Prop:=
 aw c (ae a) [av 0,aa 1] λd=>iP b d a
abbrev vh (b:RS->A2->Prop) (c:A2) (a:Nat) (d:Int):Prop:=
 aw c (ae a) [av 0,aa d] λe=>iP b e a
theorem L5 (p:Option AE) (v k a b c:Int) (w:A2) (f:RS->A2->Prop):(bO nJ (λ_=>[]) 77 [ah p,aa v,.agg ⟨[aa k,av a,av b,av c]⟩] w f)=(
 aH w ⟨[aa k,av a,av b,av c]⟩ 42 λb d=>aH d ⟨[av 0,aa 0]⟩ 40 λe d=>true=true/\aN d (ad (ae b) 0) λx=>aD (x==15) (bh p 3 d λx=>aA AC 161 (.bu [aq,cr]) [ah x,aa v] d λ(x:Int×Bool×Unit) d=>aD (!x.2.1) (aw d (ae e) [av 0,aa 0] λd=>iP f d e) (aw d (ae e) [av (aB .u64 (ay .i64 x.1 1)),aa 0] λd=>iP f d e)) (true=true/\aN d (ad (ae b) 0) λx=>((!x==14)=
 true->true=true)/\ag d (some !x==14) (ad (ae b) 0) aq λ(l:Int)=>aD (x==14||l==16) (true=true/\bH d (ad (ae b) 1) λx=>aD (decide (x>3)) (vg f d e) (true=true/\aN d (ad (ae b) 0) λx=>aD (x==14) (bh p 3 d λx=>true=true/\bH d (ad (ae b) 1) λg=>aA AC 162 aT [ah x,aa v,aa (aB .i64 g)] d λ(x:Int) d=>vh f d e x) (bh p 3 d λx=>true=true/\bH d (ad (ae b) 1) λg=>aA AC 163 aT [ah x,.int
 .i64 v,aa (aB .i64 g)] d λ(x:Int) d=>vh f d e x))) (true=true/\bH d (ad (ae b) 1) λx=>((!decide (x<1))=true->true=true)/\ag d (some !decide (x<1)) (ad (ae b) 1) gZ λ(g:Int)=>((!(decide (x<1)||decide (g>16)))=true->true=true)/\ag d (some !(decide (x<1)||decide (g>16))) (ad (ae b) 1) gZ λ(h:Int)=>((!(decide (x<1)||decide (g>16)||aB .i64 h==v))=true->true=true)/\ag d (some !(decide (x<1)||decide (g>16)||aB .i64 h==v)) (ad (ae b) 2) gZ
 λ(m:Int)=>aD (decide (x<1)||decide (g>16)||aB .i64 h==v||decide (m>3)) (vg f d e) (true=true/\bH d (ad (ae b) 1) λx=> ∃j,ai AC 19 [ah p,aa (aB .i64 x)] d (.bool j)/\aD (!j) (aw d (ae e) [av 0,aa 4] λd=>iP f d e) (true=true/\aN d (ad (ae b) 0) λx=>aD (x==12) (bh p 3 d λx=>true=true/\bH d (ad (ae b) 1) λi=>aA AC 164 (.bu [aq,aq]) [ah x,aa v,aa (aB .i64
 i)] d λ(x:Int×Int×Unit) d=>vf f d e x) (bh p 3 d λx=>true=true/\bH d (ad (ae b) 1) λi=>true=true/\bH d (ad (ae b) 2) λn=>aA AC 165 (.bu [aq,aq]) [ah x,aa v,aa (aB .i64 i),aa (aB .i64 n)] d λ(x:Int×Int×Unit) d=>vf f d e x)))))):=by kernel_rfl
abbrev od (a:RS->A2->Prop) (b:A2) (c:Nat):Prop:=
 ak b λw1=>ag w1 none (ae c) cT λ(x:Int×Int×Unit)=>a (x.1,x.2.1,()) w1
abbrev kN (c:RS->A2->Prop) (d:A2) (a:Nat) (b:Int×Int×Unit):Prop:=
 aw d (ae a) [av b.1,aa b.2.1] λe=>od c e a
abbrev rC (b:RS->A2->Prop) (c:A2) (a:Nat) (d:Int):Prop:=
 aw c (ae a) [av 0,aa d] λe=>od b e a
abbrev B7 (b:RS->A2->Prop) (c:A2) (a:Nat):Prop:=
 aw c (ae a) [av 0,aa 1] λd=>od b d a
abbrev wi (p:Option AE) (v:Int) (d:RS->A2->Prop) (f:Int) (a:A2) (c:Nat) (e:Nat):Prop:=
 aD (f==6) (true=true/\bH a (ad (ae c) 1) λx=>aA AC 71 jJ [ah p,aa v,av x] a λ(x:Int×Int×Unit) b=>kN d b e x) (aD (f==7) (true=true/\bH a (ad (ae c) 1) λx=>true=true/\bH a (ad (ae c) 2) λg=>aA AC 72 aT [ah p,aa v,av x,av g] a λ(x:Int) b=>rC d b e x) (aD (f==8) (ag a none (ae c) vB λ(x:Int×Int×Int×Int×Unit)=>aA AC 73 jJ [ah p,aa v,.agg ⟨[aa x.1,.int
 .u64 x.2.1,av x.2.2.1,av x.2.2.2.1]⟩] a λ(x:Int×Int×Unit) b=>kN d b e x) (aD (f==9) (ag a none (ae c) vB λ(x:Int×Int×Int×Int×Unit)=>aA AC 74 aT [ah p,aa v,.agg ⟨[aa x.1,av x.2.1,av x.2.2.1,av x.2.2.2.1]⟩] a λ(x:Int) b=>rC d b e x) (aD (f==10) (true=true/\bH a (ad (ae c) 1) λx=>aA AC 75 aT [ah p,aa v,av x] a λ(x:Int) b=>rC d b e x) (aD (f==11) (true=true/\bH a
 (ad (ae c) 1) λx=>aD (decide (x>15)) (B7 d a e) (bh p 2 a λx=>true=true/\bH a (ad (ae c) 1) λg=>aA AC 76 aT [ah x,aa (aB .i64 g),aa v] a λ(x:Int) b=>rC d b e x)) (ag a none (ae c) vB λ(x:Int×Int×Int×Int×Unit)=>aA AC 77 jJ [ah p,aa v,.agg ⟨[aa x.1,av x.2.1,av x.2.2.1,av x.2.2.2.1]⟩] a λ(x:Int×Int×Unit) b=>kN d b e x))))))
abbrev wj (p:Option AE) (v:Int) (b:RS->A2->Prop) (a:A2) (c:Nat) (d:Nat):Prop:=
 ag a none (ae c) vB λ(x:Int×Int×Int×Int×Unit)=>aA AC 70 jJ [ah p,aa v,.agg ⟨[aa x.1,av x.2.1,av x.2.2.1,av x.2.2.2.1]⟩] a λ(x:Int×Int×Unit) e=>kN b e d x
theorem Y8 (p:Option AE) (v k a b c:Int) (w:A2) (f:RS->A2->Prop):(bO nJ (λ_=>[]) 10 [ah p,aa v,.agg ⟨[aa k,av a,av b,av c]⟩] w f)=(
 aH w ⟨[aa k,av a,av b,av c]⟩ 42 λb d=>aH d ⟨[av 0,aa 0]⟩ 40 λe d=>ag d (some !(decide (v<0)||decide (v>16))) (ae b) vB λ(x:Int×Int×Int×Int×Unit)=> ∃g,((!(decide (v<0)||decide (v>16)))=true->ai AC 65 [.agg ⟨[aa x.1,av x.2.1,av x.2.2.1,av x.2.2.2.1]⟩] d (.bool g))/\aD (decide (v<0)||decide (v>16)|| !g) (B7 f d e) (true=true/\aN d (ad (ae b) 0) λx=> ∃h,ai AC 66 [aa x] d (.bool h)/\aD (!(v
 ==0)==h) (aw d (ae e) [av 0,aa 7] λd=>od f d e) (∃x,(decide (v>0)=true->ai AC 19 [ah p,aa v] d (.bool x))/\aD (decide (v>0)&& !x) (aw d (ae e) [av 0,aa 4] λd=>od f d e) (true=true/\aN d (ad (ae b) 0) λx=>aD (x==1) (aA AC 67 jJ [ah p] d λ(x:Int×Int×Unit) d=>kN f d e x) (aD (x==2) (true=true/\bH d (ad (ae b) 1) λx=>aA AC 68 jJ [ah p,av x] d λ(x:Int×Int×Unit)
 d=>kN f d e x) (aD (x==17) (aA AC 69 jJ [ah p] d λ(x:Int×Int×Unit) d=>kN f d e x) (aD (x==3) (aD (x==3) (wj p v f d b e) (wi p v f x d b e)) (aD (x==4) (aD (x==4) (wj p v f d b e) (wi p v f x d b e)) (aD (x==5) (wj p v f d b e) (wi p v f x d b e)))))))))):=by kernel_rfl
def xC:Nat->aW:=(λ|13=>[(13,Go.RX.El.one (Go.RX.Sc.int Ch))]| _=>[])
theorem Vp (n:Int) (w:A2) (c:Option AE×Int×Unit->A2->Prop):(aL nJ xC 7 [aa n] w c)=(
 aH w ⟨[ah none,ah none,ah none,ah none,.slice none 0 0]⟩ 58 λb a=>aD (decide (n<4)||decide (n>4096)) (ak a (c (some ⟨b,0,none⟩,1,()))) (aA AC 57 (.bu [bF,aq]) [aa (dk .i64 16 n)] a λ(x:Option AE×Int×Unit) a=>aA AC 58 (.bu [bF,aq]) [aa n] a λ(f:Option AE×Int×Unit) a=>aA AC 59 (.bu [bF,aq]) [aa 16] a λ(g:Option AE×Int×Unit) a=>aA AC 60 (.bu [bF,.one (.int
 .i64)]) [aa 4] a λ(h:Option AE×Int×Unit) a=>true=true/\true=true/\aw a (ad (ae b) 0) [ah x.1] λa=>true=true/\true=true/\aw a (ad (ae b) 1) [ah f.1] λa=>true=true/\true=true/\aw a (ad (ae b) 2) [ah g.1] λa=>true=true/\true=true/\aw a (ad (ae b) 3) [ah h.1] λa=> ∃(I:Nat->Int×Unit->A2->Prop),(∃n, ∀w1,Ext a w1->I n (0,()) w1)/\ ∀(n:Nat) (s:Int×Unit) (w1:A2),I n s w1->aD (decide (s.1<17)) (true=true/\true=true/\pJ w1 (ad (ae
 b) 4) λx=>aH w1 ⟨[ah none,.slice none 0 0,.bool false]⟩ 152 λi a=>aH a {toList:=[ah (ae i)]} 148 λj a=> ∀w1,Ext a w1->nm w1 148 1 8 ⟨[ah none]⟩ (x.1,x.2.1,x.2.2) (some ⟨j,0,none⟩,1,1) λ(r:Option AE×Nat×Nat) a=>true=true/\true=true/\aw a (ad (ae b) 4) [.slice r.1 r.2.1 r.2.2] λa=> ∀d,Ext a d-> ∃(e:Nat),e<n/\I e (ay .i64 s.1 1,()) d) (ak w1 (c (some ⟨b,0,none⟩,0,()))))):=by kernel_rfl
def vz (e:El) (s:Option AE×Nat×Nat) (xs:List e.T) (Ls:List (Nat×List AG)):Prop:=
 s.2.1=xs.length/\xs.length<=s.2.2/\((s.1=none/\s.2.2=0/\Ls=[])\/ ∃bs rest,s.1=some ⟨bs,0,none⟩/\Ls=[(bs,flat e xs++rest)]/\s.2.2*aM e<=(flat e xs++rest).length)
theorem vz.nil (e:El):vz e (none,0,0) [] []:=⟨rfl,C9 _,.inl ⟨rfl,rfl,rfl⟩⟩
section
variable {D G:List Nat} {w0 w w1:A2} {L L0 Ls:List (Nat×List AG)} {e:El} {s:Option AE×Nat×Nat} {xs:List e.T}
theorem vz.sl (h:vz e s xs Ls) (H:aJ D G w0 w L) (b: ∀x∈Ls,x∈L):Sl w e s.1 xs:=by
 obtain⟨f,h2,⟨a1,a,c⟩|⟨bs,rest,a1,a,c⟩⟩:=h
 .have:xs=[]:=H6 (by omega);subst this;intro i x d;simp at d
 .rw[a1];refine Sl.jR (H.d_ _ (b _ (by rw[a];exact HQ.2 rfl))) ?_;rw[List.take_append_of_le_length (by rw[aK];exact C9 _),FB (by rw[aK];exact C9 _)]
theorem vz.rS (h:vz e s xs Ls) (H:aJ D G w0 w L) (c: ∀x∈Ls,x∈L):rS w s.1 (s.2.1*aM e) (flat e xs):=by
 obtain⟨a,h2,⟨a1,b,d⟩|⟨bs,rest,a1,b,d⟩⟩:=h
 .have:xs=[]:=H6 (by omega);subst this;rw[a1];rfl
 .rw[a1];refine bq.rS (vs:=flat e xs) (H.d_ _ (c _ (by rw[b];exact HQ.2 rfl))) (by rw[aK,a]) λi hi=>?_;rw[Nat.zero_add,Fz (by rw[aK, <-a];exact hi)]
theorem aJ.FM (H:aJ D G w0 w (Ls++L0)) (n:vz e s xs Ls) (u:lx e=true) {q:Option AE×Nat×Nat} {ys:List e.T} (b:q.2.1=ys.length) (v:Go.RX.rS w q.1 (q.2.1*aM e) (flat e ys))
 {t:TypeId} {size bytes:Nat} {z:Array AG} (y:size=aM e) (A:z.size=aM e) (hb:(xs.length+ys.length)*bytes<=140737488355328) {R:Option AE×Nat×Nat->A2->Prop}
 (k: ∀s' iC w',vz e s' (xs++ys) iC->aJ D G w0 w' (iC++L0)->R s' w'):nm w t size bytes z s q R:=by
 subst y;have B:=n.rS H (λx h=>Hb _ h);have ⟨a,h2,C⟩:=n;have j:=aK e xs;have E:=aK e ys;refine⟨flat e xs,flat e ys,B,v,λd=>?_,λd=>⟨growslice_fits d (by rw[a,b];exact hb),λc hc=>?_⟩⟩
 .rcases C with ⟨a1,f,g⟩|⟨bs,rest,a1,f,g⟩
  .rw[f] at d;have F:ys=[]:=H6 (by omega);have h:xs=[]:=H6 (by omega);subst F;subst h;subst g;refine⟨.inl rfl,?_⟩;rw[a1];exact k _ [] _ ⟨by rw[a,b];rfl,H7 _,.inl ⟨rfl,f,rfl⟩⟩ H
  .subst f;have I:s.1.map (·.add (s.2.1*aM e))=some ⟨bs,xs.length*aM e,none⟩:=by rw[a1,a];simp[MX]
   rw[I];have l:xs.length*aM e+(flat e ys).length<=(flat e xs++rest).length:=by
    rw[E, <-Nat.add_mul];exact H8 (MJ _ (by rw[<-a, <-b];exact d)) g
   refine⟨.inr ⟨(H.get (i:=0) rfl).st l,kR e ys u⟩,?_⟩;have p:=H.put 0 (o:=xs.length*aM e) rfl (flat e ys) l;have m:(flat e xs++rest).take (xs.length*aM e)=flat e xs:=List.take_left' j;have J:(flat e xs++rest).drop (xs.length*aM e+(flat e ys).length)=rest.drop (flat e ys).length:=by rw[<-j,List.drop_length_add_append]
   rw[m,J, <-Df, <-k8] at p;refine k (s.1,s.2.1+q.2.1,s.2.2) [(bs,flat e (xs++ys)++rest.drop (flat e ys).length)] _ ⟨by rw[a,b,B3],by rw[B3, <-a, <-b];exact d,.inr ⟨bs, _,a1,rfl,?_⟩⟩ p;refine H8 g ?_;rw[k8];simp only[B3,Du];simp only[B3,j] at l;omega
 .have r:=(H.ext (Ext.drew w)).alloc (flat e xs++flat e ys++(Fh z (c - (s.2.1+q.2.1))).toList) t;have m:(Array.mk (flat e xs)++Array.mk (flat e ys)++Fh z (c - (s.2.1+q.2.1)))=⟨flat e xs++flat e ys++(Fh z (c - (s.2.1+q.2.1))).toList⟩:=by
   apply Array.ext';simp
  rw[m];rw[<-k8] at r ⊢;refine k _ [(w.heap.size,flat e (xs++ys)++(Fh z (c - (s.2.1+q.2.1))).toList)] _ ⟨by rw[a,b,B3],by rw[B3, <-a, <-b];exact hc,.inr ⟨_, _,rfl,rfl,?_⟩⟩ (r.sub ((Do Ls L0).cons_cons _));simp only[B3,aK,Fh,Array.length_toList,Array.size_map,Array.size_range,A];rw[<-Nat.add_mul];exact MJ _ (by omega)
end
open Go.RX D
open Po (uL)
abbrev eT:El:= .agg [aG,aG,aG]
def tT (t:TK):eT.T:=(t.1,t.2.1,t.2.2,())
structure DX where
 hb:Nat
 gb:Nat
 gr:Nat
 gc:Nat
 ml:List AG
 qb:Nat
 ql:Nat
 qc:Nat
 qr:Nat->Nat
 gJ:List AG
 lb:Nat
 lc:Nat
 ji:List AG
structure DG where
 bg:Nat
 bt:Nat
 ts:Option AE×Nat×Nat
 rows:List (Nat×List AG)
 tk:List TK
def Jq (a:DG):Option GV->List AG
 |some _=>[.pointer (some ⟨a.bt,0,none⟩),.slice a.ts.1 a.ts.2.1 a.ts.2.2,.bool true]
 |none=>[.pointer none,.slice none 0 0,.bool false]
def gf (Q:Sys) (a:DG) (i:Nat):Option GV->List (Nat×List AG)
 |some x=>(a.bg,Jq a (some x))::(a.bt,iV Q i x.root false)::a.rows
 |none=>[(a.bg,Jq a none)]
def eR (Q:Sys) (A:Nat->DG) (g:Nat->Option GV) (l:List Nat):List (Nat×List AG):=l.flatMap λi=>gf Q (A i) i (g i)
def bZ (A:Nat->DG):List AG:=(AT 17).map λi=>ah (some ⟨(A i).bg,0,none⟩)
abbrev Fo (Q:Sys) (X:DX):List AG:=[ah (ae Q.bm),ah (ae Q.bp),ah (ae X.gb),ah (ae X.qb),.slice (ae X.lb) 17 X.lc]
abbrev sM (Q:Sys) (X:DX) (A:Nat->DG) (h:HS) (L:List (Nat×List AG)):List (Nat×List AG):=
 (X.hb,Fo Q X)::(X.lb,bZ A++X.ji)::(X.gb,g7 X.gr h.gr.length X.gc)::(X.gr,flat eG h.gr++X.ml)::(uL X.qb X.ql X.qc X.qr X.gJ 4 h.po++L)
structure gS (A:Nat->DG) (h:HS):Prop where
 jI: ∀{i v},h.g i=some v->1<=i/\i<=16
 tk: ∀{i v},h.g i=some v->(A i).tk.Perm v.tk/\(A i).tk.Pairwise (λa b=>a.1<b.1)/\vz eT (A i).ts ((A i).tk.map tT) (A i).rows
 gl:h.gr.length=16
 pt:Po.jq 4 h.po
 gk:kf h.gr
abbrev bM (Q:Sys) (X:DX) (A:Nat->DG) (h:HS):List (Nat×List AG):=sM Q X A h (eR Q A h.g (AT 17))
def DAt (Q:Sys) (X:DX) (D G:List Nat) (w0 w:A2) (h:HS) (L:List (Nat×List AG)):Prop:= ∃A,gS A h/\aF Q D G w0 w h.s (L++bM Q X A h)
def yH (p:List TK) (q:Int):Int:=match p.findIdx? (λt=>t.1==q) with
 |some i=>(i:Int)
 |none=> -1
theorem jC {p:List TK} (h:p.Pairwise (λa b=>a.1<b.1)):(p.map (·.1)).Nodup:=by
 unfold List.Nodup;rw[List.pairwise_map];exact h.imp λh e=>by omega
theorem uB {p:List TK} (e:(p.map (·.1)).Nodup) {q a b:Int} (h:bU p q=some (a,b)): ∃i:Nat,yH p q=(i:Int)/\p[i]? =some (q,a,b):=by
 have f:=(iO e).1 h;unfold yH;cases d:p.findIdx? (λt=>t.1==q) with
 |none=>
  have:=LL.1 d _ f;simp at this
 |some i=>
  rw[M5] at d;have ⟨hi,c, _⟩:=d;refine⟨i,rfl,?_⟩;rw[DC hi];have c:p[i].1=q:=by simpa using c
  have h2:bU p q=some (p[i].2.1,p[i].2.2):=(iO e).2 (by rw[<-c];exact M6 hi);rw[h] at h2;have h2:=Option.some.inj h2;have g:a=p[i].2.1:=congrArg (·.1) h2;have j:b=p[i].2.2:=congrArg (·.2) h2;rw[g,j, <-c]
theorem zR {p:List TK} {q:Int} (h:bU p q=none):yH p q= -1:=by
 unfold yH;have:p.findIdx? (λt=>t.1==q)=none:=LL.2 λt a=>by
  have:=kL.1 h t a;simpa using this
 rw[this]
section
variable {Q:Sys} {X:DX} {D G:List Nat} {w0 w:A2} {s:WD} {L0:List (Nat×List AG)} {A:Nat->DG} {g:Nat->Option GV}
theorem aF.bk (S:aF Q D G w0 w s L0) {x:Nat×List AG} (h:x∈L0):bq w x.1 x.2:=by
 have ⟨j,a⟩:=FJ h;exact S.get a
theorem aF.ZJ {rows:List (Nat×List AG)} {e:El} {x:Option AE×Nat×Nat} {xs:List e.T} (S:aF Q D G w0 w s L0) (a:vz e x xs rows) (b: ∀y∈rows,y∈L0):Sl w e x.1 xs:=by
 have ⟨g1,d,f,g,ca,la,H⟩:=S;refine a.sl H λy c=>?_;show y∈ _:: _:: _:: _::L0;simp[b y c]
theorem HP {b n:Nat} {l:List AG} {el:El} {x:el.T} (h:bq w b l) (hv:pV l (0+n) el=some x):bP w (ad (ae b) n) el x:=by rw[aS];exact cK h hv
structure DM (Q:Sys) (X:DX) (A:Nat->DG) (g:Nat->Option GV) (L0:List (Nat×List AG)):Prop where
 hd:(X.hb,Fo Q X)∈L0
 ls:(X.lb,bZ A++X.ji)∈L0
 gs: ∀i,i<17-> ∀x∈gf Q (A i) i (g i),x∈L0
theorem DM.of0 (Q:Sys) (X:DX) (A:Nat->DG) (h:HS):DM Q X A h.g (bM Q X A h):=by
 refine⟨Cs,AZ _ Cs,λi hi x a=>?_⟩;refine AZ _ (AZ _ (AZ _ (AZ _ (B2 _ ?_))));unfold eR;exact List.mem_flatMap.2 ⟨i,Hz.2 hi,a⟩
theorem DM.app (M:DM Q X A g L0) (T:List (Nat×List AG)):DM Q X A g (T++L0):=⟨B2 _ M.hd,B2 _ M.ls,λi hi x a=>B2 _ (M.gs i hi x a)⟩
theorem DM.of (Q:Sys) (X:DX) (A:Nat->DG) (h:HS) (T:List (Nat×List AG)):DM Q X A h.g (T++bM Q X A h):=(DM.of0 Q X A h).app T
theorem DM.rl (M:DM Q X A g L0) (S:aF Q D G w0 w s L0):bP w (ad (ae X.hb) 4) bX (some ⟨X.lb,0,none⟩,17,X.lc):=HP (S.bk M.hd) rfl
theorem DM.rm (M:DM Q X A g L0) (S:aF Q D G w0 w s L0):bP w (ad (ae X.hb) 0) bF (ae Q.bm):=HP (S.bk M.hd) rfl
theorem DM.rp (M:DM Q X A g L0) (S:aF Q D G w0 w s L0):bP w (ad (ae X.hb) 1) bF (ae Q.bp):=HP (S.bk M.hd) rfl
theorem DM.rg (M:DM Q X A g L0) (S:aF Q D G w0 w s L0):bP w (ad (ae X.hb) 2) bF (ae X.gb):=HP (S.bk M.hd) rfl
theorem DM.rq (M:DM Q X A g L0) (S:aF Q D G w0 w s L0):bP w (ad (ae X.hb) 3) bF (ae X.qb):=HP (S.bk M.hd) rfl
theorem DM.rc (M:DM Q X A g L0) (S:aF Q D G w0 w s L0) {v:Int} (hv:0<=v/\v<=16):bP w (ad (ae X.lb) (v.toNat*1)) bF (some ⟨(A v.toNat).bg,0,none⟩):=by
 refine HP (S.bk M.ls) ?_;have:(bZ A++X.ji)[0+v.toNat*1]? =some (ah (some ⟨(A v.toNat).bg,0,none⟩)):=by
  unfold bZ;rw[Fz (by rw[B1,I1];omega),Ce,I8 (by omega)];rw[show 0+v.toNat*1=v.toNat by omega];rfl
 show(match (bZ A++X.ji)[0+v.toNat*1]? with|some v=>(Sc.ptr).proj v|none=>none)= _;rw[this];rfl
theorem DM.bg (M:DM Q X A g L0) (S:aF Q D G w0 w s L0) {i:Nat} (hi:i<17):bq w (A i).bg (Jq (A i) (g i)):=by
 refine S.bk (x:=((A i).bg,Jq (A i) (g i))) (M.gs i hi _ ?_);cases g i<;>exact Cs
theorem DM.rt (M:DM Q X A g L0) (S:aF Q D G w0 w s L0) {i:Nat} (hi:i<17) {x:GV} (a:g i=some x):bP w (ad (some ⟨(A i).bg,0,none⟩) 0) bF (some ⟨(A i).bt,0,none⟩):=by
 have:=M.bg S hi;rw[a] at this;exact HP this rfl
theorem DM.rs (M:DM Q X A g L0) (S:aF Q D G w0 w s L0) {i:Nat} (hi:i<17) {x:GV} (a:g i=some x):bP w (ad (some ⟨(A i).bg,0,none⟩) 1) bX (A i).ts:=by
 have:=M.bg S hi;rw[a] at this;exact HP this rfl
theorem DM.oW (M:DM Q X A g L0) {i:Nat} (hi:i<17) {x:GV} (a:g i=some x): ∃j:Nat,L0[j]? =some ((A i).bt,iV Q i x.root false):=by
 exact FJ (M.gs i hi _ (by rw[a];exact AZ _ Cs))
theorem DM.rows (M:DM Q X A g L0) {i:Nat} (hi:i<17) {x:GV} (a:g i=some x): ∀y∈(A i).rows,y∈L0:=λy b=>by
 refine M.gs i hi _ ?_;rw[a];exact AZ _ (AZ _ b)
theorem m6 (M:DM Q X A g L0) (S:aF Q D G w0 w s L0) (v:Int):ai AC 19 [ah (ae X.hb),aa v] w (.bool (aV g v)):=by
 refine ai.of (s:= .el cr) λw' h'=>aj (C:=nJ) (AR (RI _ v w' _) ?_);have S:=S.ext h';refine⟨λ_=>rfl,λ_=>rfl,ag.of _ (M.rl S) ⟨λ_=>rfl,λ_=>rfl,ag.of _ (M.rl S) ?_⟩⟩;dsimp only;by_cases hv:1<=v/\v<=16
 .refine⟨λ_=>⟨rfl,by omega,by omega⟩,ag.of _ (M.rc S ⟨by omega,hv.2⟩) ⟨λ_=>rfl,λ_=>rfl,ag.of (g v.toNat).isSome ?_ λw1 a=>⟨?_,a⟩⟩⟩
  .have:=M.bg S (i:=v.toNat) (by omega);refine HP this ?_;cases g v.toNat<;>rfl
  .unfold aV;rw[decide_eq_true (show v<((17:Nat):Int) by omega),decide_eq_true (show v<=16 by omega)]
 .have e:(decide (v>=1)&&decide (v<((17:Nat):Int)))=false:=by
   rw[HB,decide_eq_false_iff_not,decide_eq_false_iff_not];omega
  rw[e];refine⟨λc=>(by cases c),⟨none,λc=>(by cases c),λc=>(by cases c),λc=>(by cases c),⟨false,λc=>(by cases c),λw1 a=>⟨?_,a⟩⟩⟩⟩;unfold aV;by_cases h:v>=1
  .rw[decide_eq_false (show ¬ v<=16 by omega)];simp
  .rw[decide_eq_false h];simp
theorem I4 (M:DM Q X A g L0) (S:aF Q D G w0 w s L0) (v:Int):ai AC 21 [ah (ae X.hb),aa v] w (aa (aY g v)):=by
 refine ai.of (s:= .el aq) λw' h'=>aj (C:=nJ) (AR (RJ _ v w' _) ?_);have S:=S.ext h';refine⟨_,m6 M S v,?_⟩;unfold aY;cases c:aV g v with
 |false=>exact ax rfl λw1 a=>⟨rfl,a⟩
 |true=>
  have ⟨hv,x,b⟩:=fx.1 c;have ⟨j,d⟩:=M.oW (i:=v.toNat) (by omega) b;refine an rfl ⟨rfl,rfl,ag.of _ (M.rl S) ⟨⟨rfl,by omega,by show v<((17:Nat):Int);omega⟩,ag.of _ (M.rc S ⟨by omega,hv.2⟩) ⟨rfl,rfl,ag.of _ (M.rt S (by omega) b) ⟨_,S.abE j d,λw1 a=>⟨?_,a⟩⟩⟩⟩⟩;rw[b,az rfl];rfl
theorem Oz (M:DM Q X A g L0) (S:aF Q D G w0 w s L0) {v:Int} (hv:1<=v/\v<=16) {x:GV} (f:g v.toNat=some x) (c:vz eT (A v.toNat).ts ((A v.toNat).tk.map tT) (A v.toNat).rows) (z:(A v.toNat).tk.length<=65536) (q:Int):
 ai AC 85 [ah (ae X.hb),aa v,aa q] w (aa (yH (A v.toNat).tk q)):=by
 refine ai.of (s:= .el aq) λw' h'=>aj (C:=nJ) (b_:=xy) (AR (Vo _ v q w' _) ?_);have S:=S.ext h';have h:(A v.toNat).ts.2.1=(A v.toNat).tk.length:=by rw[c.1,B1]
 generalize H:(A v.toNat).tk=p at c z h;refine⟨λn st w1=> ∃i:Nat,i<=p.length/\n=p.length - i/\st.1=(i:Int)/\(∀j t,j<i->p[j]? =some t->t.1≠q)/\Ext w' w1,⟨p.length,λw1 a=>⟨0,by omega,rfl,rfl,λj t b=>(by omega),a⟩⟩,?_⟩;rintro n ⟨i0, _⟩ w1 ⟨i,hi,B,k,l,a⟩;have k:i0=(i:Int):=k;subst k B;dsimp only;have S:=S.ext a;refine⟨rfl,rfl,ag.of _ (M.rl S) ⟨⟨rfl,by omega,by show v<((17:Nat):Int);omega⟩,ag.of _ (M.rc S ⟨by omega,hv.2⟩) ⟨rfl,rfl,ag.of _ (M.rs S (by omega) f) ?_⟩⟩⟩;rw[h];refine ab (λd=>?_) (λd=>λr h2=>⟨?_,a.trans h2⟩)
 .have u:i<p.length:=by have:=of_decide_eq_true d;omega
  have ⟨t,m⟩: ∃t,p[i]? =some t:=⟨_,DC u⟩;have ⟨y,E⟩:=(S.ZJ c (M.rows (i:=v.toNat) (by omega) f)) i (tT t) (by rw[Ce,m];rfl);refine⟨rfl,rfl,ag.of _ (M.rl S) ⟨⟨rfl,by omega,by show v<((17:Nat):Int);omega⟩,ag.of _ (M.rc S ⟨by omega,hv.2⟩) ⟨rfl,rfl,ag.of _ (M.rs S (by omega) f) ⟨⟨y,by omega,by rw[h];omega⟩,kJ y _,ag.of t.1 (by rw[DA];exact jl E (by decide) rfl) (ab (λd2=>λr h2=>⟨?_,a.trans h2⟩) (λd2=>λr h2=>⟨p.length - (i+1),by omega,i+1,by omega,rfl,by rw[ao (by omega) (by omega)];omega,λj F b o=>?_,a.trans h2⟩))⟩⟩⟩⟩
  .unfold yH;have:p.findIdx? (λt=>t.1==q)=some i:=by
    rw[M5];refine⟨u,?_,λj b=>?_⟩
    .have:p[i]=t:=(B5.1 m).2;rw[this];exact d2
    .have:=l j _ b (DC (by omega));simpa using this
   rw[this]
  .by_cases e:j=i
   .subst e;rw[m] at o;cases o;simpa using d2
   .exact l j F (by omega) o
 .have:i=p.length:=by have:=of_decide_eq_false d;omega
  subst this;refine(zR ?_).symm;rw[kL];intro t c;have ⟨j,b⟩:=FJ c;exact l j t (B5.1 b).1 b
end
def dO (g:Int) (x:GT):GT:=if l8 g x=true then zG else x
def iZ (gs:List GT) (g:Int) (m:Nat):List GT:=(gs.take m).map (dO g)++gs.drop m
theorem Hp (gs:List GT) (g:Int) (m:Nat):(iZ gs g m).length=gs.length:=by
 unfold iZ;rw[B3,B1,DS,Du];omega
theorem EP {gs:List GT} {g:Int} {m:Nat} {x:GT} (h:gs[m]? =some x):iZ gs g (m+1)=(iZ gs g m).set m (dO g x)/\(iZ gs g m)[m]? =some x:=by
 have b:=(B5.1 h).1;have hd:gs.drop m=x::gs.drop (m+1):=by
  rw[L2 b,(B5.1 h).2]
 have a:((gs.take m).map (dO g)).length=m:=by rw[B1,DS];omega
 unfold iZ;rw[Hr,h,hd];constructor
 .rw[List.set_append_right _ _ (by omega),a,Nat.sub_self];simp
 .rw[HF (by omega),a,Nat.sub_self];rfl
section
variable {D G:List Nat} {w0 w:A2} {L:List (Nat×List AG)} {bg br c:Nat} {gs:List GT} {rest:List AG}
theorem L6 (H:aJ D G w0 w L) (j a:Nat) (M:L[j]? =some (bg,g7 br gs.length c)) (A:L[a]? =some (br,flat eG gs++rest)) (W:gs.length<=64) (B:kf gs) (N:j≠a) (g:Int) {K:Int->A2->Prop}
 (k: ∀n E,aJ D G w0 E (L.set a (br,flat eG (bY gs g)++rest))->K n E):
 aA AC 144 aT [ah (ae bg),aa g] w K:=by
 refine aA.go H λw1 H=>aj (C:=AD) (b_:=su) (AR (LH _ g w1 K) ?_);have O:=(B5.1 A).1;refine⟨λn v w'=> ∃m:Nat,v.2.1=(m:Int)/\n+m=gs.length/\aJ D G w0 w' (L.set a (br,flat eG (iZ gs g m)++rest)),⟨gs.length,λP Q=>⟨0,rfl,rfl,by
  have:iZ gs g 0=gs:=by unfold iZ;simp
  rw[this,AN A];exact H.ext Q⟩⟩,?_⟩
 clear H;rintro n ⟨r,v,u⟩ P ⟨m,e,X,H⟩;dsimp only at e ⊢;subst e;have R:(L.set a (br,flat eG (iZ gs g m)++rest))[j]? =some (bg,g7 br gs.length c):=by
  rw[M9 (λe=>N e.symm)];exact M
 have l:(L.set a (br,flat eG (iZ gs g m)++rest))[a]? =some (br,flat eG (iZ gs g m)++rest):=by
  rw[FC O]
 have b:=r9 (H.get R);refine⟨rfl,rfl,ag.of _ b (ab (λo=>?_) (λo=>ak.go H λF H=>k _ F ?_))⟩
 .have i:m<gs.length:=by have:=of_decide_eq_true o;simp only at this;omega
  have ⟨x,p⟩: ∃x,gs[m]? =some x:=⟨_,DC i⟩;have ⟨I,q⟩:=EP (g:=g) p;have hb:(some (⟨br,0,none⟩:AE)).isSome=true/\0<=(m:Int)/\(m:Int)<((gs.length:Nat):Int):=⟨rfl,by omega,by omega⟩;have f1:=Cz (H.get l) q (f:=0) (s:=aG) (y:=x.1) (by decide) rfl;have f2:=Cz (H.get l) q (f:=2) (s:=aG) (y:=x.2.2.1) (by decide) rfl;have ef:decide (x.1>0)= !dN x:=by
   have J:=B.z p;have h0:x=zG\/0<x.1:=(B x (E5 p)).1.imp id λh=>by omega
   unfold dN;rcases h0 with h0|h0
   .rw[decide_eq_true h0,decide_eq_false (by rw[J.2 h0];decide)];rfl
   .rw[decide_eq_true h0,decide_eq_false (λc=>by rw[J.2 c] at h0;omega)];rfl
  have S:ay .i64 (m:Int) 1=((m+1:Nat):Int):=by rw[ao (by omega) (by omega)];rfl
  refine⟨rfl,rfl,ag.of _ b ⟨hb,rfl,ag.of _ f1 ⟨λ_=>rfl,λ_=>rfl,ag.of _ b ⟨λ_=>hb,λ_=>rfl,ag.of _ f1 ⟨λ_=>rfl,λ_=>rfl,ag.of _ b ⟨λ_=>hb,λ_=>rfl,ag.of _ f2 ?_⟩⟩⟩⟩⟩⟩;rw[S,ef];refine ab (λd=>⟨rfl,rfl,ag.of _ b ⟨hb,?_⟩⟩) (λd=>λT t=>⟨n - 1,by omega,m+1,rfl,by omega,?_⟩)
  .refine XJ H a l (show m< _ by rw[Hp];exact i) zG λF H=>λT t=>⟨n - 1,by omega,m+1,rfl,by omega,?_⟩;rw[I];unfold dO;rw[az (show l8 g x=true from d)];rw[H5] at H;exact H.ext t
  .rw[I];unfold dO;rw[ar (show ¬ l8 g x=true from λc=>by rw[show l8 g x=(!dN x&&(x.1==g||x.2.2.1==g)) from rfl,d] at c;cases c)];rw[show(iZ gs g m).set m x=iZ gs g m by have ⟨U,V⟩:=B5.1 q;rw[<-V];exact List.set_getElem_self U];exact H.ext t
 .have i:gs.length<=m:=by have:=of_decide_eq_false o;simp only at this;omega
  have:iZ gs g m=bY gs g:=by
   unfold iZ bY;rw[FB i,I_ i,Dx];rfl
  rw[<-this];exact H
theorem RR (H:aJ D G w0 w L) (n:Nat) (f:1<=n/\n<=64) {K:Option AE×Int×Unit->A2->Prop}
 (k: ∀bg br a,aJ D G w0 a ((bg,g7 br (B4 n zG).length n)::(br,flat eG (B4 n zG)++[])::L)->K (some ⟨bg,0,none⟩,0,()) a):
 aA AC 59 (.bu [bF,aq]) [aa (n:Int)] w K:=by
 refine aA.go H λw1 H=>aj (C:=AD) (AR (Rv _ w1 K) ?_);refine an (by rw[DB,decide_eq_false_iff_not,decide_eq_false_iff_not];omega) ?_;refine xG.go H rfl (by omega) (Ff _) (by omega) (by omega) λb a H=>aH.go H λb2 g H=>ak.go H λc H=>?_;have e:(B4 ((n:Nat):Int).toNat [aa 0,aa 0,aa 0,.bool false,aa 0]).flatten=flat eG (B4 n zG)++[]:=by
  rw[Dx,DA,fX];rfl
 rw[e] at H;have d:(B4 n zG).length=n:=IR;refine k b2 b c ?_;rw[d];exact H
end
theorem RU (k:Int) (w:A2):aC AC 141 aT [aa k] w (λx w'=>x=jM k/\Ext w w'):=by
 refine aj (C:=AD) (AR (Rw k w _) ?_);have H:=At.start [] w;by_cases a:1<=k/\k<=17
 .have h:k=1\/k=2\/k=3\/k=4\/k=5\/k=6\/k=7\/k=8\/k=9\/k=10\/k=11\/k=12\/k=13\/k=14\/k=15\/k=16\/k=17:=by omega
  refine an (by rw[DB,decide_eq_false_iff_not,decide_eq_false_iff_not];omega) (aH.go H λb d H=>⟨⟨rfl,by omega,by omega⟩,?_⟩);rcases h with rfl|rfl|rfl|rfl|rfl|rfl|rfl|rfl|rfl|rfl|rfl|rfl|rfl|rfl|rfl|rfl|rfl
  all_goals exact ag.bj 0 H rfl rfl (ak.go H λc H=>⟨by decide,H.all⟩)
 .refine ax (by rw[Dl,decide_eq_true_eq,decide_eq_true_eq];omega) (ak.go H λc H=>⟨?_,H.all⟩);unfold jM;rw[ar a]
theorem Vq {w:A2} (k:Int):ai AC 141 [aa k] w (aa (jM k)):=ai.of (s:= .el aq) λw' _=>RU k w'
theorem Y_ {w:A2} (k:Int):ai AC 66 [aa k] w (.bool (xP k)):=ai.of (s:= .el cr) λw' _=>aj (C:=AD) (AR (Vb k w' _) λw1 a=>⟨rfl,a⟩)
theorem RV {w:A2} (k a b c:Int):ai AC 65 [.agg ⟨[aa k,av a,av b,av c]⟩] w (.bool (iq k a b c)):=by
 refine ai.of (s:= .el cr) λw' _=>aj (C:=AD) (AR (LI k a b c w' _) ?_);have H:=At.start [] w';refine aH.go H λb1 d H=>⟨rfl,ag.bj 0 H rfl rfl ⟨_,Vq k,λ_=>rfl,ag.bj 0 H rfl rfl ⟨λ_=>rfl,ag.bj 0 H rfl rfl ⟨λ_=>rfl,ag.bj 0 H rfl rfl (ak.go H λe H=>⟨?_,H.all⟩)⟩⟩⟩⟩;unfold iq;simp only[Bool.and_assoc]
open Po (tv pN ig dS i_ fo mD km jn)
def EqG (bs:List Bool) (x:GT):Prop:=x≠zG->tv bs x.1=tv bs x.2.2.1
def t_ (gs:List GT) (bs:List Bool):Prop:= ∀x∈gs,EqG bs x
structure sV (gs:List GT) (a:Int) (bs:List Bool):Prop where
 len:bs.length=17
 C_:tv bs a=true
 snd: ∀v,0<=v->tv bs v=true->Rc (HG gs) a v
theorem sV.set {gs:List GT} {a:Int} {bs:List Bool} (h:sV gs a bs) (f:0<=a) {u:Int} (c:0<=u/\u<=16) (g:Rc (HG gs) a u):sV gs a (bs.set u.toNat true):=by
 have d:u.toNat<bs.length:=by rw[h.len];omega
 refine⟨by rw[FS];exact h.len,?_,λv hv b=>?_⟩
 .rw[dS c.1 d f];split
  .rfl
  .exact h.C_
 .rw[dS c.1 d hv] at b;split at b
  .rename_i e;rw[e];exact g
  .exact h.snd v hv b
theorem EQ {gs:List GT} {a b:Int} {bs:List Bool} (g:kf gs) (h:sV gs a bs) (hc:t_ gs bs) (hb:0<=b):tv bs b=true<->Rc (HG gs) a b:=by
 refine⟨h.snd b hb,λr=>?_⟩
 induction r with
 |refl=>exact h.C_
 |step _ e c=>
  have l:=Ir g e;have c:=c (by omega);have ⟨x,i,j,k⟩:=e;have:=hc x i j;rcases k with ⟨d,f⟩|⟨d,f⟩
  .rw[<-f, <-this,d];exact c
  .rw[<-d,this,f];exact c
section
variable {w:A2} {bg br c:Nat} {gs:List GT} {rest:List AG}
theorem ER (h:bq w bg (g7 br gs.length c)) (K:bq w br (flat eG gs++rest)) (L:gs.length<=64) (M:kf gs) (a b:Int):
 aC AC 89 gD [ah (ae bg),aa a,aa b] w (λx w'=>x=mg gs a b/\Ext w w'):=by
 refine aj (C:=AD) (b_:=pE) (AR (EM _ a b w _) ?_);have H:=At.start [] w;refine⟨trivial,λ_=>trivial,ab (λd=>ak.go H λX H=>⟨?_,H.all⟩) (λd=>?_)⟩
 .unfold mg;cases F:gG a<;>cases hb:gG b<;>rw[F,hb] at d<;>first|rfl|(cases d)
 have N:gG a=true:=by
  cases F:gG a with
  |true=>rfl
  |false=>rw[F] at d;cases d
 have Y:gG b=true:=by
  cases hb:gG b with
  |true=>rfl
  |false=>rw[N,hb] at d;cases d
 have F:=oz.1 N;have Z0:=oz.1 Y;refine xG.go H rfl (by decide) (by decide) (by decide) (by decide) λz w2 H=>⟨⟨rfl,by omega,by omega⟩,?_⟩;have H:At [] w w2 [(z,pN (B4 17 false))]:=H;refine km 0 H rfl (by rw[IR];omega) λX H=>?_;have o:sV gs a ((B4 17 false).set a.toNat true):=by
  refine⟨by simp,?_,λv hv g=>?_⟩
  .rw[dS (by omega) (by simp;omega) (by omega),az rfl]
  .rw[dS (by omega) (by simp;omega) hv] at g;split at g
   .rename_i e;rw[e];exact .refl
   .unfold tv at g;rw[Fe,In] at g;split at g<;>cases g
 have Z:i_ ((B4 17 false).set a.toNat true)=16:=by
  have:=fo (bs:=B4 17 false) (k:=a.toNat) (by simp;omega);have e:(B4 17 false).getD a.toNat false=false:=by
   rw[Fe,In];split<;>rfl
  rw[e,az rfl] at this;have e2:i_ (B4 17 false)=17:=by decide
  omega
 have H:At [] w X [(z,pN ((B4 17 false).set a.toNat true))]:=H;generalize (B4 17 false).set a.toNat true=bs at o H Z;refine⟨λn s w'=> ∃(r:Nat) (bs:List Bool),s.1=r/\n+r=16/\sV gs a bs/\(t_ gs bs\/i_ bs+r<=16)/\At [] w w' [(z,pN bs)],⟨16,λw4 h4=>⟨0,bs,rfl,rfl,o,.inr (by omega),H.ext h4⟩⟩,?_⟩;clear H o Z bs;rintro n ⟨r',u⟩ w4 ⟨r,l,O,hn,o,hP,H⟩;simp only at O;subst O;dsimp only;refine ab (λP=>?_) (λP=>?_)
 .have Nj:r<16:=by simp at P;omega
  refine⟨λA s w'=> ∃(i:Nat) (bs:List Bool),s.1=i/\A+i=gs.length/\sV gs a bs/\((bs=l/\ ∀(j:Nat) (x:GT),j<i->gs[j]? =some x->EqG bs x)\/(i_ bs<i_ l/\ ¬ t_ gs l))/\At [] w w' [(z,pN bs)],
   ⟨gs.length,λw6 h6=>⟨0,l,rfl,rfl,o,.inl ⟨rfl,λj x B=>absurd B (MM _)⟩,H.ext h6⟩⟩,?_⟩
  clear H;rintro A ⟨i',u⟩ w6 ⟨i,bs,hi,vl,q,G,H⟩;simp only at hi;subst hi;dsimp only;have h:=h.ext H.all;have K:=K.ext H.all;have hp:=r9 h;refine⟨rfl,rfl,ag.of _ hp (ab (λQ=>?_) (λQ=>?_))⟩
  .have gL:i<gs.length:=by simp at Q;omega
   have e5:ay .i64 (i:Int) 1=((i+1:Nat):Int):=by rw[ao (by omega) (by omega)];rfl
   have ⟨x,m⟩: ∃x,gs[i]? =some x:=⟨_,DC gL⟩;have I:=E5 m;have hb:(some (⟨br,0,none⟩:AE)).isSome=true/\0<=(i:Int)/\(i:Int)<((gs.length:Nat):Int):=⟨rfl,by omega,by omega⟩;have R:EqG bs x->(∃nI,nI=bs/\((nI=l/\ ∀(j:Nat) (x:GT),j<i+1->gs[j]? =some x->EqG nI x)\/(i_ nI<i_ l/\ ¬ t_ gs l))):=λhe=>⟨bs,rfl,G.imp (λh=>⟨h.1,λj y B S=>by
    rcases Nat.lt_or_ge j i with f|f
    .exact h.2 j y f S
    .obtain rfl:j=i:=by omega
     rw[m] at S;cases S;exact he⟩) id⟩
   rw[e5];refine⟨rfl,rfl,ag.of _ hp ⟨hb,ag.of x (NF K m) (aH.go H λb1 w7 H=>aw.all 0 H rfl rfl rfl λw8 H=>⟨rfl,ag.bj 0 H rfl (show _=some x.1 from rfl) ?_⟩)⟩⟩;have J:bs.length=17:=q.len;by_cases p:x=zG
   .obtain⟨nI,rfl,D⟩:=R (λh=>absurd p h);have T:decide (x.1>0)=false:=by rw[p];rfl
    rw[T];exact⟨λh=>(by cases h),ag.bj 0 H rfl (show _=some x.1 from rfl) ⟨λh=>(by cases h),⟨false,λh=>(by cases h),λh=>(by cases h),ag.bj 0 H rfl (show _=some x.2.2.1 from rfl) ⟨λh=>(by cases h),⟨false,λh=>(by cases h),an rfl λw9 U=>⟨A - 1,by omega,i+1,nI,rfl,by omega,q,D,(H.sub (Ct _ _)).ext U⟩⟩⟩⟩⟩⟩
   .have ⟨r1,r2,WM⟩:(1<=x.1/\x.1<=16)/\(1<=x.2.2.1/\x.2.2.1<=16)/\x.1≠x.2.2.1:=by
     rcases(M x I).1 with f|⟨f,h2,h3, _⟩
     .exact absurd f p
     .exact⟨f,h2,h3⟩
    have T:decide (x.1>0)=true:=decide_eq_true (by omega);rw[T];have b1r:(some (⟨z,0,none⟩:AE)).isSome=true/\0<=x.1/\x.1<((17:Nat):Int):=⟨rfl,by omega,by omega⟩;have b2r:(some (⟨z,0,none⟩:AE)).isSome=true/\0<=x.2.2.1/\x.2.2.1<((17:Nat):Int):=⟨rfl,by omega,by omega⟩;refine⟨λ_=>rfl,ag.bj 0 H rfl (show _=some x.1 from rfl) ⟨λ_=>b1r,ag.bj 1 H rfl (ig (by rw[J];omega)) ⟨λ_=>rfl,ag.bj 0 H rfl (show _=some x.2.2.1 from rfl) ⟨λ_=>b2r,ag.bj 1 H rfl (ig (by rw[J];omega)) (ab (λV=>?_) (λV=>?_))⟩⟩⟩⟩
    .have E:tv bs x.1=true\/tv bs x.2.2.1=true:=by simpa using V
     have W:x.1.toNat<bs.length:=by rw[J];omega
     have AX:x.2.2.1.toNat<(bs.set x.1.toNat true).length:=by rw[FS,J];omega
     have VH:Rc (HG gs) a x.1/\Rc (HG gs) a x.2.2.1:=by
      rcases E with g|g
      .have f:=q.snd x.1 (by omega) g;exact⟨f,.step f ⟨x,I,p,.inl ⟨rfl,rfl⟩⟩⟩
      .have f:=q.snd x.2.2.1 (by omega) g;exact⟨.step f ⟨x,I,p,.inr ⟨rfl,rfl⟩⟩,f⟩
     refine⟨rfl,ag.bj 0 H rfl (show _=some x.1 from rfl) ⟨b1r,km 1 H rfl W λw9 H=>⟨rfl,ag.bj 0 H rfl (show _=some x.2.2.1 from rfl) ⟨b2r,km 1 H rfl AX λnp H l6 Ax=>⟨A - 1,by omega,i+1, _,rfl,by omega,(q.set (by omega) (u:=x.1) (by omega) VH.1).set (by omega) (u:=x.2.2.1) (by omega) VH.2,?_,(H.sub (Ct _ _)).ext Ax⟩⟩⟩⟩⟩;have f1:=fo W;have f2:=fo AX;have e7:(bs.set x.1.toNat true).getD x.2.2.1.toNat false=tv bs x.2.2.1:=by
      have:=dS (bs:=bs) (u:=x.1) (v:=x.2.2.1) (by omega) W (by omega);rw[ar (by omega)] at this;exact this
     have e8:bs.getD x.1.toNat false=tv bs x.1:=rfl;by_cases t:tv bs x.1=tv bs x.2.2.1
     .have g:tv bs x.1=true:=E.elim id (λh=>t.trans h);have s1:bs.set x.1.toNat true=bs:=jn g;have s2:bs.set x.2.2.1.toNat true=bs:=jn (t.symm.trans g);rw[s1,s2];obtain⟨nI,rfl,D⟩:=R (λ_=>t);exact D
     .refine .inr ⟨?_,?_⟩
      .rw[e7] at f2;rw[e8] at f1;have hle:i_ bs<=i_ l:=by
        rcases G with h|h
        .rw[h.1];exact C9 _
        .exact Nat.le_of_lt h.1
       generalize tv bs x.2.2.1=t1 at f2 t;generalize tv bs x.1=t2 at f1 t;have MH:(t1=false/\t2=true)\/(t1=true/\t2=false):=by
        cases t1<;>cases t2<;>first|exact absurd rfl t|exact .inl ⟨rfl,rfl⟩|exact .inr ⟨rfl,rfl⟩
       rcases MH with ⟨rfl,rfl⟩|⟨rfl,rfl⟩
       .rw[az rfl] at f2;rw[ar (by decide)] at f1;omega
       .rw[ar (by decide)] at f2;rw[az rfl] at f1;omega
      .rcases G with h|h
       .intro hc;rw[<-h.1] at hc;exact t (hc x I p)
       .exact h.2
    .have E:tv bs x.1=false/\tv bs x.2.2.1=false:=by simpa using V
     obtain⟨nI,rfl,D⟩:=R (λ_=>E.1.trans E.2.symm);exact λw9 U=>⟨A - 1,by omega,i+1,nI,rfl,by omega,q,D,(H.sub (Ct _ _)).ext U⟩
  .have hi:gs.length<=i:=by simp at Q;omega
   refine λw7 h7=>⟨n - 1,by omega,r+1,bs,by rw[ao (by omega) (by omega)];rfl,by omega,q,?_,H.ext h7⟩;rcases G with h|h
   .refine .inl λx m=>?_;have ⟨j,B⟩:=FJ m;have Ms:=(B5.1 B).1;exact h.2 j x (by omega) B
   .rcases hP with h2|h2
    .exact absurd h2 h.2
    .exact .inr (by omega)
 .have Nj:r=16:=by simp at P;omega
  subst Nj;refine⟨⟨rfl,by omega,by omega⟩,ag.bj 0 H rfl (ig (by rw[o.len];omega)) (ak.go H λw5 H=>⟨?_,H.all⟩)⟩;have hC:t_ gs l:=by
   rcases hP with h|h
   .exact h
   .have fR: ∀x∈l,x=true:=λx m=>by
     have h0:i_ l=0:=by omega
     unfold i_ at h0;rw[List.countP_eq_zero] at h0;simpa using h0 x m
    have tt: ∀v:Int,v.toNat<17->tv l v=true:=λv hv=>by
     unfold tv;have L:v.toNat<l.length:=by rw[o.len];exact hv
     rw[Fe,DC L];exact fR _ (M6 L)
    intro x m p;have O:(x.1<=16)/\x.2.2.1<=16:=by
     rcases(M x m).1 with f|⟨f,h2,h3, _⟩
     .exact absurd f p
     .exact⟨f.2,h2.2⟩
    rw[tt x.1 (by omega),tt x.2.2.1 (by omega)]
  have:=EQ (b:=b) M o hC (by omega);rw[H9,re,this];exact⟨λh=>⟨N,Y,h⟩,λh=>h.2.2⟩
theorem Hq (h:bq w bg (g7 br gs.length c)) (d:bq w br (flat eG gs++rest)) (e:gs.length<=64) (f:kf gs) (a b:Int):ai AC 89 [ah (ae bg),aa a,aa b] w (.bool (mg gs a b)):=
 ai.of (s:= .el cr) λw' h'=>ER (h.ext h') (d.ext h') e f a b
end
theorem Ap: ∀{p:List TK} {lo:Int},p.Pairwise (λa b=>a.1<b.1)->(∀t∈p,lo<=t.1/\t.1<65536)->lo<=65536->(p.length:Int)<=65536 - lo
 |[],lo, _, _,h=>by simp;omega
 |t::p,lo,c,d,h=>by
  have f:=d t Cs;have:=Ap (lo:=t.1+1) (Dt.1 c).2 (λu e=>⟨(Dt.1 c).1 u e,(d u (AZ _ e)).2⟩) (by omega);rw[H4];omega
theorem HI.tkR {gh:Gh} {h:HS} (I:HI gh h) {i:Nat} {x:GV} (b:h.g i=some x): ∀t∈x.tk,0<=t.1/\t.1<65536:=λt c=>by
 have e:kA h i=x.tk:=fG b;have:=I.hc.jI (I.hc.A4 (i:=i) (a:=t.2.1) (f:=t.2.2) (I.hc.Jn (by rw[e];exact c))).1;exact this.2.2
theorem Ta {gh:Gh} {h:HS} {A:Nat->DG} (W:gS A h) (I:HI gh h) {i:Nat} {x:GV} (a:h.g i=some x):(A i).tk.length<=65536:=by
 have ⟨b,h2, _⟩:=W.tk a;have:=Ap (lo:=0) h2 (λt c=>I.tkR a t (b.mem_iff.1 c)) (by decide);omega
theorem gS.at {h:HS} {A:Nat->DG} (W:gS A h) {i:Nat} {x:GV} (a:h.g i=some x) (q:Int):bU (A i).tk q=bU x.tk q:=by
 have ⟨b,h2, _⟩:=W.tk a;exact BR b (jC h2) q
section
variable {Q:Sys} {X:DX} {D G:List Nat} {w0 w:A2} {s:WD} {L0:List (Nat×List AG)} {A:Nat->DG} {h:HS} {gh:Gh}
theorem aF.rdK (S:aF Q D G w0 w s L0) {i:Nat} {d:DT} (hd:s.2[i]? =some d) {f:Nat} {y:Int} (a:f<4) (b:(a6 sD d)[f]? =some (aa y)):bP w (ad (ad (ae Q.bf) (i*4)) f) aq y:=by
 have ⟨c,h2,g,h,ca,la,H⟩:=S;exact uq (e:=sD) (s:=aG) (H.get (i:=2) rfl) hd a b
theorem aF.Wg (S:aF Q [] G w0 w s L0) (f p t:Int) {K:FT->A2->Prop} (k: ∀w1,aF Q [] G w0 w1 s L0->K (rJ s.1 f p t) w1):
 aA AC 243 (.el (.agg sF)) [ah (ae Q.bm),aa f,aa p,aa t] w K:=by
 have ⟨b,h2,c,a,ca,la,H⟩:=S;exact Vn H 0 1 rfl rfl (by decide) rfl a f p t λd w1 H=>k w1 ⟨b,h2,c,a,d,la,H⟩
theorem aF.Wh (S:aF Q D G w0 w s L0) (f:Int) {K:Int->A2->Prop} (k: ∀a,aF Q D G w0 a (s.1,eC s.2 f (aI 0 0)) L0->K (oY s.2 f (aI 0 0)) a):
 aA AC 237 aT [ah (ae Q.bp),aa f] w K:=by
 have ⟨c,h2,b,d,ca,la,H⟩:=S;refine QI H 3 2 rfl rfl (by decide) rfl h2 b f λa H=>k a ⟨c,?_,?_,d,ca,la,?_⟩
 .show 0<(eC s.2 f (aI 0 0)).length;rw[dY];exact h2
 .show(eC s.2 f (aI 0 0)).length<=4096;rw[dY];exact b
 .unfold Sys.L;show aJ D G w0 a (_:: _:: _::(Q.bp,[.slice _ (eC s.2 f (aI 0 0)).length _]):: _);rw[dY];exact H
theorem aF.abH (S:aF Q D G w0 w s L0) (i:Int) {K:Int×Int×Unit->A2->Prop} (k: ∀a,aF Q D G w0 a s L0->K (eY s.1 i,vy s.1 i,()) a):
 aA AC 153 (.bu [.one eh,aq]) [ah (ae Q.bm),aa i] w K:=by
 have ⟨b,h2,c,d,ca,la,H⟩:=S;exact D5 H 0 1 rfl rfl (by decide) rfl i λa H=>k a ⟨b,h2,c,d, _, _,H⟩
theorem RW (M:DM Q X A h.g L0) (S:aF Q D G w0 w s L0) (W:gS A h) (I:HI gh h) (v q:Int):ai AC 25 [ah (ae X.hb),aa v,aa q] w ((Sh.bu [aq,cr]).g9 (dC h.g v q)):=by
 refine ai.of (s:= .bu [aq,cr]) λw' h'=>aj (C:=nJ) (AR (LY _ v q w' _) ?_);have S:=S.ext h';refine⟨_,m6 M S v,?_⟩;unfold dC;cases m:aV h.g v with
 |false=>exact⟨0,λc=>(by cases c),ax rfl λw1 f=>⟨rfl,f⟩⟩
 |true=>
  have ⟨hv,x,d⟩:=fx.1 m;have ⟨t1,t2,t3⟩:=W.tk d;have j:=Oz M S hv d t3 (Ta W I d) q;refine⟨_,λ_=>j,?_⟩;rw[d,az rfl];dsimp only;rw[<-W.at d q];have hb:0<=v/\v<((17:Nat):Int):=⟨by omega,by show v<17;omega⟩;cases k:bU (A v.toNat).tk q with
  |none=>
   rw[zR k];exact ax rfl λw1 f=>⟨rfl,f⟩
  |some y=>
   have ⟨i,e,hi⟩:=uB (jC t2) (a:=y.1) (b:=y.2) k;have p:=(B5.1 hi).1;have ⟨l,n⟩:=(S.ZJ t3 (M.rows (i:=v.toNat) (by omega) d)) i (tT (q,y.1,y.2)) (by rw[Ce,hi];rfl);have o:(A v.toNat).ts.2.1=(A v.toNat).tk.length:=by rw[t3.1,B1]
   refine an (by rw[e];simp) ⟨rfl,rfl,ag.of _ (M.rl S) ⟨⟨rfl,hb⟩,ag.of _ (M.rc S ⟨by omega,hv.2⟩) ⟨rfl,rfl,ag.of _ (M.rs S (by omega) d) ⟨_,j,?_⟩⟩⟩⟩;rw[e];refine⟨⟨l,by omega,by rw[o];omega⟩,kJ l _,ag.of y.1 (by rw[DA];exact jl n (by decide) rfl) λw1 f=>⟨rfl,f⟩⟩
theorem rD (M:DM Q X A h.g L0) (S:aF Q D G w0 w h.s L0) (I:HI gh h) (v q:Int) {K:Int×Int×Int×Unit->A2->Prop} (k: ∀a,aF Q D G w0 a h.s L0->K (db h.g h.s v q) a):
 aA AC 23 (.bu [aq,aq,aq]) [ah (ae X.hb),aa v,aa q] w K:=by
 refine S.go λw1 S=>aj (C:=nJ) (AR (LX _ v q w1 K) ?_);refine⟨_,m6 M S v,?_⟩;unfold db at k;cases c:aV h.g v with
 |false=>
  rw[c,ar (by decide)] at k;exact ax rfl (S.en λa S=>k a S)
 |true=>
  have ⟨hv,x,b⟩:=fx.1 c;rw[c,az rfl,b] at k;have ⟨j,d⟩:=M.oW (i:=v.toNat) (by omega) b;exact an rfl ⟨rfl,rfl,ag.of _ (M.rl S) ⟨⟨rfl,by omega,by show v<((17:Nat):Int);omega⟩,ag.of _ (M.rc S ⟨by omega,hv.2⟩) ⟨rfl,rfl,ag.of _ (M.rt S (by omega) b) (S.F8 j d q (λ_ e=>I.inv.mu (I.root b) e) λa S=>S.en λf S=>k f S)⟩⟩⟩
theorem RY (M:DM Q X A h.g L0) (S:aF Q D G w0 w s L0) (f:Int) {K:Int->A2->Prop} (k: ∀i,aF Q D G w0 i (jz s f) L0->K (f_ s f) i):
 aA AC 148 aT [ah (ae X.hb),aa f] w K:=by
 refine S.go λw1 S=>aj (C:=nJ) (AR (RK _ f w1 K) ?_);refine⟨λ_=>rfl,λ_=>rfl,ag.of _ (M.rp S) ⟨λ_=>rfl,λ_=>rfl,ag.of _ S.Fb ?_⟩⟩;refine ab (λd=>S.en λi S=>?_) (λd=>?_)
 .have b:wu s.2 f=false:=by
   unfold wu;have:f<0\/f>=(s.2.length:Int):=by simpa using d
   rw[decide_eq_true this];rfl
  have c:jz s f=s:=ar (λh=>by rw[b] at h;cases h.1);have e:f_ s f=2:=az b;rw[c,e] at k;exact k i S
 .have d: ¬ (f<0\/f>=(s.2.length:Int)):=by simpa using d
  have b:wu s.2 f=true:=by
   unfold wu;rw[decide_eq_false d];rfl
  have j: ¬ wu s.2 f=false:=by rw[b];decide
  have m:s.2[f.toNat]? =some (mH s.2 f):=by
   unfold mH;rw[ar d,Fe,DC (by omega)];rfl
  refine⟨rfl,rfl,ag.of _ (M.rp S) ⟨rfl,rfl,ag.of _ S.Fb ⟨⟨rfl,by omega,by show f<(s.2.length:Int);omega⟩,rfl,ag.of (mH s.2 f).1 (S.rdK m (by decide) rfl) ?_⟩⟩⟩;by_cases a:(mH s.2 f).1=5
  .have c:jz s f=(s.1,eC s.2 f (aI 0 0)):=az ⟨b,a⟩;have e:f_ s f=oY s.2 f (aI 0 0):=by
    unfold f_;rw[ar j,ar (λh=>h a)]
   rw[c,e] at k;exact an (by simpa using a) ⟨rfl,rfl,ag.of _ (M.rp S) (S.Wh f λl S=>S.en λn S=>k n S)⟩
  .have c:jz s f=s:=ar (λh=>a h.2);have e:f_ s f=6:=by
    unfold f_;rw[ar j,az a]
   rw[c,e] at k;exact ax (by simpa using a) (S.en λl S=>k l S)
theorem L7 (M:DM Q X A h.g L0) (S:aF Q D G w0 w s L0) {K:RS->A2->Prop} (k: ∀c,aF Q D G w0 c (cv s s.2.length).1 L0->K (((cv s s.2.length).2:Int),0,()) c):
 aA AC 69 (.el (.agg gm)) [ah (ae X.hb)] w K:=by
 refine S.go λw1 S=>aQ (C:=nJ) (b_:=sy) (AR (LZ _ w1 K) ?_);have z:=S.le;refine S.al λb1 B S=>?_;have M:=M.app [(b1,[av 0,aa 0])];refine⟨λn u w'=> ∃m:Nat,u.1=((cv s m).2:Int)/\u.2.1=(m:Int)/\n+m=s.2.length/\aF Q D G w0 w' (cv s m).1 ((b1,[av 0,aa 0])::L0),⟨s.2.length,λo p=>⟨0,rfl,rfl,rfl,S.ext p⟩⟩,?_⟩;clear S;rintro n ⟨x,y,u⟩ o ⟨m,e,f,E,S⟩;dsimp only at e f ⊢;subst e;subst f;have hc:=wc s m;have q:(cv s m).1.2.length=s.2.length:=(v_ s m).2;refine⟨rfl,rfl,ag.of _ (M.rp S) ⟨rfl,rfl,ag.of _ S.Fb ?_⟩⟩;dsimp only;rw[q];refine ab (λa=>?_) (λa=>?_)
 .have i:m<s.2.length:=by simpa using a
  refine RY M S (m:Int) λl S=>?_;have r:ay .i64 (m:Int) 1=((m+1:Nat):Int):=by rw[ao (by omega) (by omega)];omega
  have t:ay .i64 ((cv s m).2:Int) 1=(((cv s m).2+1:Nat):Int):=by rw[ao (by omega) (by omega)];omega
  rw[r,t];refine ab (λd=>λv b=>⟨n - 1,by omega,m+1,?_,rfl,by omega,S.ext b⟩) (λd=>λv b=>⟨n - 1,by omega,m+1,?_,rfl,by omega,S.ext b⟩)
  .have d:f_ (cv s m).1 (m:Int)=0:=by simpa using d
   show _=(((cv s m).2+if f_ (cv s m).1 (m:Int)=0 then 1 else 0:Nat):Int);rw[az d]
  .have d: ¬ f_ (cv s m).1 (m:Int)=0:=by simpa using d
   show _=(((cv s m).2+if f_ (cv s m).1 (m:Int)=0 then 1 else 0:Nat):Int);rw[ar d];rfl
 .have i:m=s.2.length:=by
   have: ¬ m<s.2.length:=by simpa using a
   omega
  subst i;rw[cN (by omega)];exact S.res (j:=0) rfl _ _ λl S=>k l S.tail
theorem Ex (M:DM Q X A h.g L0) (S:aF Q [] G w0 w h.s L0) (v:Int) {a:Int} (f:0<=a) (t:Int) {K:Int×Int×Unit->A2->Prop} (k:(gV h v a t).2=0\/a<1048576-> ∀c,aF Q [] G w0 c h.s L0->K ((gV h v a t).1,(gV h v a t).2,()) c) (i: ¬ a<1048576-> ∀c,aF Q [] G w0 c h.s L0->K (-1,2,()) c):
 aA AC 152 (.bu [aq,aq]) [ah (ae X.hb),aa v,av a,aa t] w K:=by
 refine S.go λw1 S=>aj (C:=nJ) (AR (RN _ v a t w1 K) ?_);refine ab (λd=>S.en λc S=>?_) (λd=>?_)
 .exact i (by simpa using d) c S
 .have d: ¬ a>=1048576:=by simpa using d
  unfold gV at k;rw[ar d] at k;have k:=k (.inr (by omega));rw[V_ ⟨f,by omega⟩];unfold xB;rw[V' f];refine⟨rfl,rfl,ag.of _ (M.rm S) ⟨_,I4 M S v,?_,?_⟩⟩
  .exact S.Wg _ _ _ λc S=>S.al λb j S=>S.cQ 0 rfl rfl rfl λl S=>⟨rfl,S.a_ 0 rfl rfl ⟨rfl,S.a_ 0 rfl rfl (S.en λe S=>k e S.tail)⟩⟩
  .exact S.al λb j S=>S.Wg _ _ _ λc S=>S.cQ 0 rfl rfl rfl λl S=>⟨rfl,S.a_ 0 rfl rfl ⟨rfl,S.a_ 0 rfl rfl (S.en λe S=>k e S.tail)⟩⟩
theorem RZ (M:DM Q X A h.g L0) (S:aF Q [] G w0 w h.s L0) (v:Int) {a:Int} (f:0<=a) {K:RS->A2->Prop} (k: ∀c,aF Q [] G w0 c h.s L0->K ((rZ h v a).1,(rZ h v a).2,()) c):
 aA AC 71 (.el (.agg gm)) [ah (ae X.hb),aa v,av a] w K:=by
 refine S.go λw1 S=>aQ (C:=nJ) (AR (RO _ v a w1 K) ?_);refine S.al λb1 m S=>?_;have M:=M.app [(b1,[av 0,aa 0])];unfold rZ at k;refine Ex M S v f 1 (λ_ i S=>?_) (λd i S=>?_)
 .refine ab (λd=>S.res (j:=0) rfl 0 _ λb S=>?_) (λd=>?_)
  .rw[az (by simpa using d)] at k;exact k b S.tail
  .rw[ar (by simpa using d)] at k;exact⟨rfl,rfl,ag.of _ (M.rm S) (S.abH _ λb S=>S.res (j:=0) rfl _ _ λl S=>k l S.tail)⟩
 .have e:gV h v a 1=(0,2):=az (by omega);rw[e,az (by decide)] at k;exact ax rfl (S.res (j:=0) rfl 0 _ λb S=>k b S.tail)
theorem L8 (M:DM Q X A h.g L0) (S:aF Q [] G w0 w h.s L0) (v:Int) {a x:Int} (f:0<=a) (i:0<=x/\x<18446744073709551616) {K:Int->A2->Prop} (k: ∀c,aF Q [] G w0 c (iY h v a x).s L0->K (zg h v a) c):
 aA AC 72 aT [ah (ae X.hb),aa v,av a,av x] w K:=by
 refine S.go λw1 S=>aj (C:=nJ) (AR (L3 _ v a x w1 K) ?_);unfold iY zg at k;refine Ex M S v f 2 (λ_ j S=>?_) (λd j S=>?_)
 .refine ab (λd=>S.en λb S=>?_) (λd=>?_)
  .rw[az (by simpa using d),az (by simpa using d)] at k;exact k b S
  .rw[ar (by simpa using d),ar (by simpa using d)] at k;exact⟨rfl,rfl,ag.of _ (M.rm S) (S.vO _ x i λb S=>S.en λl S=>k l S)⟩
 .have e:gV h v a 2=(0,2):=az (by omega);rw[e,az (by decide),az (by decide)] at k;exact ax rfl (S.en λb S=>k b S)
end
open Po (tv pN ig dS i_ fo mD km uL)
structure sW (E:Int->Int->Prop) (a:Int) (bs:List Bool):Prop where
 len:bs.length=17
 C_:tv bs a=true
 snd: ∀v,0<=v->tv bs v=true->Rc E a v
theorem sW.set {E:Int->Int->Prop} {a:Int} {bs:List Bool} (h:sW E a bs) (f:0<=a) {u:Int} (c:0<=u/\u<=16) (g:Rc E a u):sW E a (bs.set u.toNat true):=by
 have d:u.toNat<bs.length:=by rw[h.len];omega
 refine⟨by rw[FS];exact h.len,?_,λv hv b=>?_⟩
 .rw[dS c.1 d f];split
  .rfl
  .exact h.C_
 .rw[dS c.1 d hv] at b;split at b
  .rename_i e;rw[e];exact g
  .exact h.snd v hv b
def PZ (E:Int->Int->Prop) (a:List Bool) (c:Bool) (bs:List Bool) (done:Int->Int->Prop):Prop:=
 (c=false/\bs=a/\ ∀x y,done x y->E x y->tv bs x=true->tv bs y=true)\/(c=true/\i_ bs<i_ a)
theorem PZ.le {E:Int->Int->Prop} {a bs:List Bool} {c:Bool} {d:Int->Int->Prop} (h:PZ E a c bs d):i_ bs<=i_ a:=by
 rcases h with ⟨_,rfl, _⟩|⟨_,h⟩
 .exact C9 _
 .exact Nat.le_of_lt h
theorem PZ.mono {E:Int->Int->Prop} {a bs:List Bool} {c:Bool} {d d':Int->Int->Prop} (h:PZ E a c bs d) (k: ∀x y,d' x y->E x y->tv bs x=true->d x y\/tv bs y=true):PZ E a c bs d':=by
 rcases h with ⟨f,h2,g⟩|h
 .exact .inl ⟨f,h2,λx y hd b e=>(k x y hd b e).elim (λh=>g x y h b e) id⟩
 .exact .inr h
section
variable {w:A2} {Q:Sys} {X:DX} {gs:List GT} {po:List Po.PT}
theorem Hs (hb:bq w X.hb (Fo Q X)) (Y: ∀a b,ai AC 89 [ah (ae X.gb),aa a,aa b] w (.bool (mg gs a b)))
 (Z: ∀a b,ai AC 90 [ah (ae X.qb),aa a,aa b] w (.bool (Po.me 4 po a b))) (a b:Int):
 aC AC 27 gD [ah (ae X.hb),aa a,aa b] w (λx w'=>x=pv gs po a b/\Ext w w'):=by
 refine aj (C:=nJ) (b_:=qD) (AR (Hm _ a b w _) ?_);have H:=At.start [] w;refine ab (λd=>ak.go H λK H=>⟨?_,H.all⟩) (λd=>?_)
 .unfold pv;simp only[Dl,decide_eq_true_eq] at d;symm;rw[HB,decide_eq_false_iff_not,HB,decide_eq_false_iff_not];by_cases B:1<=a/\a<=16
  .exact .inr (.inl (by omega))
  .exact .inl B
 simp only[DB,decide_eq_false_iff_not] at d;have B:1<=a/\a<=16:=by omega
 have L:1<=b/\b<=16:=by omega
 refine xG.go H rfl (by decide) (by decide) (by decide) (by decide) λo w2 H=>⟨⟨rfl,by omega,by omega⟩,?_⟩;have H:At [] w w2 [(o,pN (B4 17 false))]:=H;refine km 0 H rfl (by rw[IR];omega) λK H=>?_;have l:sW (A3 gs po) a ((B4 17 false).set a.toNat true):=by
  refine⟨by simp,?_,λv hv j=>?_⟩
  .rw[dS (by omega) (by simp;omega) (by omega),az rfl]
  .rw[dS (by omega) (by simp;omega) hv] at j;split at j
   .rename_i e;rw[e];exact .refl
   .unfold tv at j;rw[Fe,In] at j;split at j<;>cases j
 have H:At [] w K [(o,pN ((B4 17 false).set a.toNat true))]:=H;generalize (B4 17 false).set a.toNat true=bs at l H;refine⟨λn s w'=> ∃bs:List Bool,n=i_ bs+(if s.1=true then 1 else 0)/\sW (A3 gs po) a bs/\(s.1=false-> ∀x y,A3 gs po x y->tv bs x=true->tv bs y=true)/\At [] w w' [(o,pN bs)],⟨i_ bs+1,λw4 h4=>⟨bs,rfl,l,λh=>(by cases h),H.ext h4⟩⟩,?_⟩;clear H l bs;rintro n ⟨c,u⟩ w4 ⟨q,M,l,p,H⟩;dsimp only at M p ⊢;refine ab (λD=>?_) (λD=>?_)
 .rw[az D] at M;refine⟨λE t w'=> ∃(u:Nat) (bs:List Bool),t.2.1=(u:Int)/\1<=u/\E+u=17/\sW (A3 gs po) a bs/\PZ (A3 gs po) q t.1 bs (λx _=>x<(u:Int))/\At [] w w' [(o,pN bs)],
   ⟨16,λN h5=>⟨1,q,rfl,by omega,rfl,l,.inl ⟨rfl,rfl,λx y hx g=>absurd (qQ g).1.1 (by omega)⟩,H.ext h5⟩⟩,?_⟩
  clear H l p;rintro E ⟨c',u', _⟩ N ⟨u,bs,e,hu1,vx,k,m,H⟩;dsimp only at e m ⊢;subst e;refine ab (λF=>?_) (λF=>λO z=>?_)
  .have P:u<17:=by have:=of_decide_eq_true F;omega
   refine⟨λA t w'=> ∃(v:Nat) (bs:List Bool),t.2.1=(v:Int)/\1<=v/\A+v=17/\sW (A3 gs po) a bs/\PZ (A3 gs po) q t.1 bs (λx y=>x<(u:Int)\/(x=(u:Int)/\y<(v:Int)))/\At [] w w' [(o,pN bs)],
    ⟨16,λO z=>⟨1,bs,rfl,by omega,rfl,k,m.mono λx y hd g _=> .inl (hd.elim id λh=>absurd (qQ g).2.1 (by omega)),H.ext z⟩⟩,?_⟩
   clear H k m bs;rintro A ⟨c'',v', _⟩ O ⟨v,bs,e,lk,vl,k,m,H⟩;dsimp only at e m ⊢;subst e;have ev:ay .i64 (v:Int) 1=((v+1:Nat):Int):=by rw[ao (by omega) (by omega)];rfl
   have eu:ay .i64 (u:Int) 1=((u+1:Nat):Int):=by rw[ao (by omega) (by omega)];rfl
   rw[ev,eu];refine ab (λG=>?_) (λG=>λR I=>?_)
   .have S:v<17:=by have:=of_decide_eq_true G;omega
    have J:bs.length=17:=k.len;have b1:(true=true/\0<=(u:Int)/\(u:Int)<((17:Nat):Int)):=⟨rfl,by omega,by omega⟩;have b2:(true=true/\0<=(v:Int)/\(v:Int)<((17:Nat):Int)):=⟨rfl,by omega,by omega⟩;have hb:=hb.ext H.all;refine⟨b1,ag.bj 0 H rfl (ig (by rw[J];omega)) ⟨λ_=>b2,ag.bj 0 H rfl (ig (by rw[J];omega)) ⟨λ_=>rfl,λ_=>rfl,ag.of _ (HP hb rfl) ⟨mg gs u v,λ_=>λw' h'=>Y u v w' (H.all.trans h'),λ_=>rfl,λ_=>rfl,ag.of _ (HP hb rfl) ⟨Po.me 4 po u v,λ_=>λw' h'=>Z u v w' (H.all.trans h'),?_⟩⟩⟩⟩⟩;have T:(v:Int).toNat<bs.length:=by rw[J];omega
    refine ab (λi=>⟨b2,km 0 H rfl T λR H=>λw8 h8=>⟨A - 1,by omega,v+1,bs.set (v:Int).toNat true,rfl,by omega,by omega,?_,.inr ⟨rfl,?_⟩,H.ext h8⟩⟩) (λi=>λR I=>⟨A - 1,by omega,v+1,bs,rfl,by omega,by omega,k,?_,H.ext I⟩)
    .simp only[Da,Dl] at i;exact k.set (by omega) (by omega) (.step (k.snd u (by omega) i.1.1) i.2)
    .simp only[Da,HD] at i;have f:=fo T;have e:bs.getD (v:Int).toNat false=false:=i.1.2;rw[e,az rfl] at f;have:=m.le;omega
    .refine m.mono λx y hd g j=>?_;by_cases U:x=(u:Int)/\y=(v:Int)
     .obtain⟨rfl,rfl⟩:=U;right;cases htv:tv bs (v:Int) with
      |true=>rfl
      |false=>
       rw[j,htv] at i;have g:mg gs (u:Int) (v:Int)=true\/Po.me 4 po (u:Int) (v:Int)=true:=g;have i:(mg gs (u:Int) (v:Int)||Po.me 4 po (u:Int) (v:Int))=false:=i;rw[DB] at i;rw[i.1,i.2] at g;rcases g with h|h<;>cases h
     .left;rcases hd with h|⟨V,h2⟩
      .exact .inl h
      .exact .inr ⟨V,by
       have:y≠(v:Int):=λe=>U ⟨V,e⟩;omega⟩
   .have S:v=17:=by have:=of_decide_eq_false G;omega
    subst S;exact⟨E - 1,by omega,u+1,bs,rfl,by omega,by omega,k,m.mono λx y hd g _=> .inl (by
     have:=(qQ g).2.2;by_cases h:x<(u:Int)
     .exact .inl h
     .exact .inr ⟨by omega,by show y<((17:Nat):Int);omega⟩),H.ext I⟩
  .have P:u=17:=by have:=of_decide_eq_false F;omega
   subst P;rcases m with ⟨rfl,rfl,W⟩|⟨rfl,W⟩
   .exact⟨i_ bs,by omega,bs,rfl,k,λ_ x y g j=>W x y (by have:=(qQ g).1.2;show x<((17:Nat):Int);omega) g j,H.ext z⟩
   .exact⟨i_ bs+1,by omega,bs,rfl,k,λh=>(by cases h),H.ext z⟩
 .have p:=p D;refine⟨⟨rfl,by omega,by omega⟩,ag.bj 0 H rfl (ig (by rw[l.len];omega)) (ak.go H λN H=>⟨?_,H.all⟩)⟩;have:tv q b=true<->Rc (A3 gs po) a b:=by
   refine⟨l.snd b (by omega),λr=>?_⟩;clear L d
   induction r with
   |refl=>exact l.C_
   |step _ e ih=>exact p _ _ e ih
  rw[H9,wg,this];exact⟨λh=>⟨B,L,h⟩,λh=>h.2.2⟩
end
section
variable {Q:Sys} {X:DX} {D G:List Nat} {w0 w:A2} {h:HS} {L:List (Nat×List AG)}
theorem aF.ub {s:WD} {A:Nat->DG} {T:List (Nat×List AG)} (S:aF Q D G w0 w s (T++bM Q X A h)):Po.UB w X.qb X.ql X.qc X.qr X.gJ 4 h.po:=by
 have a: ∀x∈uL X.qb X.ql X.qc X.qr X.gJ 4 h.po,bq w x.1 x.2:=λx b=>S.bk (B2 _ (AZ _ (AZ _ (AZ _ (AZ _ (Hb _ b))))));refine⟨a _ Cs,a _ (AZ _ Cs),λk c=>a (X.qr k, _) (AZ _ (AZ _ ?_))⟩;exact List.mem_map.2 ⟨k,Hz.2 c,rfl⟩
theorem aF.gb {s:WD} {A:Nat->DG} {T:List (Nat×List AG)} (S:aF Q D G w0 w s (T++bM Q X A h)):bq w X.gb (g7 X.gr h.gr.length X.gc)/\bq w X.gr (flat eG h.gr++X.ml):=
 ⟨S.bk (x:=(X.gb, _)) (B2 _ (AZ _ (AZ _ Cs))),S.bk (x:=(X.gr, _)) (B2 _ (AZ _ (AZ _ (AZ _ Cs))))⟩
theorem L9 (H:DAt Q X D G w0 w h L) (a b:Int):ai AC 27 [ah (ae X.hb),aa a,aa b] w (.bool (pv h.gr h.po a b)):=by
 have ⟨A,W,S⟩:=H;refine ai.of (s:= .el cr) λw' h'=>?_;have S:=S.ext h';exact Hs (Q:=Q) (S.bk (DM.of Q X A h L).hd) (λa b=>Hq S.gb.1 S.gb.2 (by rw[W.gl];decide) W.gk a b) (λa b=>Po.LB S.ub W.pt a b) a b
end
open Po (uL)
section
variable {Q:Sys} {X:DX} {D G:List Nat} {w0 w:A2} {h:HS} {T:List (Nat×List AG)} {A:Nat->DG}
abbrev d4 (Q:Sys) (X:DX) (A:Nat->DG) (h:HS):List (Nat×List AG):=[(X.hb,Fo Q X),(X.lb,bZ A++X.ji),(X.gb,g7 X.gr h.gr.length X.gc),(X.gr,flat eG h.gr++X.ml)]
theorem aF.po (S:aF Q D G w0 w h.s (T++bM Q X A h)): ∃R,aJ D G w0 w (R++uL X.qb X.ql X.qc X.qr X.gJ 4 h.po)/\ ∀{yx a},aJ D G w0 a (R++uL X.qb X.ql X.qc X.qr X.gJ 4 yx)->aF Q D G w0 a h.s (T++bM Q X A (kr h yx)):=by
 have ⟨b,h2,c,d,ca,la,H⟩:=S;have P: ∀yx,(Q.L ca la h.s (T++bM Q X A (kr h yx))).Perm (Q.L ca la h.s (T++(d4 Q X A h++eR Q A h.g (AT 17)))++uL X.qb X.ql X.qc X.qr X.gJ 4 yx):=λyx=>by
  show(_:: _:: _:: _::(T++(d4 Q X A h++(uL X.qb X.ql X.qc X.qr X.gJ 4 yx++eR Q A h.g (AT 17))))).Perm (_:: _:: _:: _::((T++(d4 Q X A h++eR Q A h.g (AT 17)))++uL X.qb X.ql X.qc X.qr X.gJ 4 yx));refine((((MY _ ?_).cons _).cons _).cons _);rw[Df,Df];exact(E4.append_left _).append_left _
 exact⟨_,H.perm (P h.po).symm,λ{yx a} H=>⟨b,h2,c,d,ca,la,H.perm (P yx)⟩⟩
theorem aF.grt (S:aF Q D G w0 w h.s (T++bM Q X A h)): ∃R,aJ D G w0 w ((X.gb,g7 X.gr h.gr.length X.gc)::(X.gr,flat eG h.gr++X.ml)::R)/\ ∀{ki a},ki.length=h.gr.length->aJ D G w0 a ((X.gb,g7 X.gr h.gr.length X.gc)::(X.gr,flat eG ki++X.ml)::R)->aF Q D G w0 a h.s (T++bM Q X A (cY h ki)):=by
 have ⟨b,h2,c,d,ca,la,H⟩:=S;have P: ∀ki,ki.length=h.gr.length->(Q.L ca la h.s (T++bM Q X A (cY h ki))).Perm ((X.gb,g7 X.gr h.gr.length X.gc)::(X.gr,flat eG ki++X.ml)::Q.L ca la h.s (T++((X.hb,Fo Q X)::(X.lb,bZ A++X.ji)::(uL X.qb X.ql X.qc X.qr X.gJ 4 h.po++eR Q A h.g (AT 17))))):=λki e=>by
  show(([_, _, _, _]:List (Nat×List AG))++(T++([(X.hb,Fo Q X),(X.lb,bZ A++X.ji)]++([(X.gb,g7 X.gr ki.length X.gc),(X.gr,flat eG ki++X.ml)]++(uL X.qb X.ql X.qc X.qr X.gJ 4 h.po++eR Q A h.g (AT 17)))))).Perm ([(X.gb,g7 X.gr h.gr.length X.gc),(X.gr,flat eG ki++X.ml)]++(([_, _, _, _]:List (Nat×List AG))++(T++([(X.hb,Fo Q X),(X.lb,bZ A++X.ji)]++(uL X.qb X.ql X.qc X.qr X.gJ 4 h.po++eR Q A h.g (AT 17))))));rw[e];refine .trans ?_ (C7 _ _ _);refine .append_left _ (.trans ?_ (C7 _ _ _));exact .append_left _ (C7 _ _ _)
 exact⟨_,H.perm (P h.gr rfl).symm,λ{ki a} e H=>⟨b,h2,c,d,ca,la,H.perm (P ki e)⟩⟩
theorem ES {g:Nat->Option GV} {i:Nat} (hi:i<17):(eR Q A g (AT 17)).Perm (gf Q (A i) i (g i)++eR Q A g ((AT 17).erase i)):=by
 unfold eR;refine(List.Perm.flatMap_right _ (List.perm_cons_erase (Hz.2 hi))).trans ?_;rw[List.flatMap_cons]
theorem qx {A':Nat->DG} {g g':Nat->Option GV} {i:Nat} (h: ∀j,j≠i->A' j=A j/\g' j=g j):eR Q A' g' ((AT 17).erase i)=eR Q A g ((AT 17).erase i):=by
 unfold eR;refine j8 λj a=>?_;have ⟨b,h2⟩:=h j (FZ a);rw[b,h2]
theorem EU {A':Nat->DG} (h: ∀j,(A' j).bg=(A j).bg):bZ A'=bZ A:=by
 unfold bZ;simp only[h]
theorem kP {i:Nat} (hi:i<17):(T++bM Q X A h).Perm (gf Q (A i) i (h.g i)++(T++sM Q X A h (eR Q A h.g ((AT 17).erase i)))):=by
 show(T++(d4 Q X A h++(uL X.qb X.ql X.qc X.qr X.gJ 4 h.po++eR Q A h.g (AT 17)))).Perm (_++(T++(d4 Q X A h++(uL X.qb X.ql X.qc X.qr X.gJ 4 h.po++eR Q A h.g ((AT 17).erase i)))));refine .trans ?_ (C7 _ _ _);refine .append_left _ (.trans ?_ (C7 _ _ _));refine .append_left _ (.trans ?_ (C7 _ _ _));exact .append_left _ (ES hi)
theorem R4 {A':Nat->DG} {h':HS} {i:Nat} (a: ∀j,j≠i->A' j=A j/\h'.g j=h.g j) (hb:(A' i).bg=(A i).bg) (b:h'.gr=h.gr) (c:h'.po=h.po):
 sM Q X A' h' (eR Q A' h'.g ((AT 17).erase i))=sM Q X A h (eR Q A h.g ((AT 17).erase i)):=by
 have e:bZ A'=bZ A:=EU λj=>by
  by_cases e:j=i
  .rw[e];exact hb
  .rw[(a j e).1]
 show(d4 Q X A' h'++(uL X.qb X.ql X.qc X.qr X.gJ 4 h'.po++eR Q A' h'.g ((AT 17).erase i)))= _;rw[qx a];unfold d4;rw[e,b,c];rfl
end
def ow (A:Nat->DG) (i:Nat) (x:DG):Nat->DG:=λj=>if j=i then x else A j
theorem rE (A:Nat->DG) (i:Nat) (x:DG):ow A i x i=x:=az rfl
section
variable {Q:Sys} {X:DX} {D G:List Nat} {w0 w:A2} {h:HS} {T L:List (Nat×List AG)} {A:Nat->DG} {gh:Gh} {K:RS->A2->Prop}
theorem aF.Vr (S:aF Q D G w0 w h.s (T++bM Q X A h)) (W:gS A h) (o q t:Int) (b:Bool) {K:Int×Int×Unit->A2->Prop} (k: ∀a,aF Q D G w0 a h.s (T++bM Q X A (cY h (ib h.gr o q t b)))->K (gU h.gr o q t,iT h.gr o q t,()) a):
 aA AC 155 (.bu [aq,aq]) [ah (ae X.gb),aa o,aa q,aa t,.bool b] w K:=by
 have ⟨R,H,J⟩:=S.grt;exact Hl H 0 1 rfl rfl (by rw[W.gl];decide) W.gk o q t b λa H=>k a (J (uu _ _ _ _ _) H)
theorem aF.abI (S:aF Q D G w0 w h.s (T++bM Q X A h)) (W:gS A h) (i o:Int) {K:Int->A2->Prop} (k: ∀a,aF Q D G w0 a h.s (T++bM Q X A (cY h (jf h.gr i o)))->K (mQ h.gr i o) a):
 aA AC 76 aT [ah (ae X.gb),aa i,aa o] w K:=by
 have ⟨R,H,J⟩:=S.grt;exact Rx H 0 1 rfl rfl W.gk i o λa H=>k a (J (qo _ _ _) H)
theorem aF.Y' (S:aF Q D G w0 w h.s (T++bM Q X A h)) (W:gS A h) (i g:Int) (b:Bool) {K:Int->A2->Prop} (k: ∀a,aF Q D G w0 a h.s (T++bM Q X A (cY h (de h.gr i g b)))->K (eB h.gr i g b) a):
 aA AC 157 aT [ah (ae X.gb),aa i,aa g,.bool b] w K:=by
 have ⟨R,H,J⟩:=S.grt;exact LJ H 0 1 rfl rfl W.gk i g b λa H=>k a (J (we _ _ _ _) H)
theorem aF.OA (S:aF Q D G w0 w h.s (T++bM Q X A h)) (W:gS A h) (i g:Int) {K:Int->A2->Prop} (k: ∀a,aF Q D G w0 a h.s (T++bM Q X A (cY h (dj h.gr i g)))->K (jS h.gr i g) a):
 aA AC 159 aT [ah (ae X.gb),aa i,aa g] w K:=by
 have ⟨R,H,J⟩:=S.grt;exact LK H 0 1 rfl rfl W.gk i g λa H=>k a (J (kM _ _ _) H)
theorem aF.Za (S:aF Q D G w0 w h.s (T++bM Q X A h)) (W:gS A h) (g:Int) {K:Int->A2->Prop} (k: ∀n a,aF Q D G w0 a h.s (T++bM Q X A (cY h (bY h.gr g)))->K n a):
 aA AC 144 aT [ah (ae X.gb),aa g] w K:=by
 have ⟨R,H,J⟩:=S.grt;exact L6 H 0 1 rfl rfl (by rw[W.gl];decide) W.gk (by decide) g λn a H=>k n a (J (by unfold bY;rw[B1]) H)
end
open Po (uL)
theorem L_ {g:Nat->Option GV} {v b:Int}:cf g v b=1<->b<1\/b>16\/b=v:=by
 grind[cf]
theorem Aq {g:Nat->Option GV} {v b:Int} (h:cf g v b≠1):cf g v b=if aV g b=true then 0 else 4:=by grind[cf]
theorem B8 {g:Nat->Option GV} {v b:Int} (hb:0<=b):(decide (b<1)||decide (b>16)||aB .i64 b==v)=decide (cf g v b=1):=by
 rw[H9,decide_eq_true_eq,L_];by_cases b<=16
 .rw[a9 (by omega)]
  grind
 grind
section
variable {Q:Sys} {X:DX} {D G:List Nat} {w0 w:A2} {h:HS} {T:List (Nat×List AG)} {L0:List (Nat×List AG)} {A:Nat->DG} {gh:Gh}
theorem CB (M:DM Q X A h.g L0) {s:WD} (S:aF Q D G w0 w s L0) (W:gS A h) (I:HI gh h) {v:Int} (b:aV h.g v=true) (q:Int):ai AC 85 [ah (ae X.hb),aa v,aa q] w (aa (yH (A v.toNat).tk q)):=by
 have ⟨hv,x,a⟩:=fx.1 b;exact Oz M S hv a (W.tk a).2.2 (Ta W I a) q
theorem qp (W:gS A h) {v:Int} (b:aV h.g v=true) (q:Int):decide (yH (A v.toNat).tk q>=0)=fq h v q:=by
 have ⟨hv,x,a⟩:=fx.1 b;have ⟨t1,t2,t3⟩:=W.tk a;unfold fq dC;rw[az b,a];dsimp;rw[<-W.at a];cases c:bU _ q with
 |none=>rw[zR c];rfl
 |some=>
  obtain:=uB (jC t2) c
  grind
theorem gS.cY (W:gS A h) {gr:List GT} (a:gr.length=h.gr.length) (b:kf gr):gS A (cY h gr):=⟨W.jI,W.tk,a.trans W.gl,W.pt,b⟩
theorem gS.kr (W:gS A h) {po:List Po.PT} (a:Po.jq 4 po):gS A (kr h po):=⟨W.jI,W.tk,W.gl,a,W.gk⟩
theorem gS.bz (W:gS A h) (s:WD):gS A (bz h s):=⟨W.jI,W.tk,W.gl,W.pt,W.gk⟩
theorem Ma (W:gS A h) (S:aF Q D G w0 w h.s (T++bM Q X A h)) (I:HI gh h) {v:Int} (p:aV h.g v=true) (k:Int) {a b c:Int} (u:0<=a) (hb:0<=b) (hc:0<=c) {K:RS->A2->Prop}
 (kk: ∀i,gS A (kH h v a b c)->aF Q D G w0 i (kH h v a b c).s (T++bM Q X A (kH h v a b c))->K ((lz h v a b c).1,(lz h v a b c).2,()) i):
 aA AC 73 (.el (.agg gm)) [ah (ae X.hb),aa v,.agg ⟨eO k a b c⟩] w K:=by
 refine S.go λw1 S=>aQ (C:=nJ) (AR (L4 _ v k a b c w1 K) ?_);have l:mq h v a b c≠0-> ∀{i},aF Q D G w0 i h.s (T++bM Q X A h)->K (0,mq h v a b c,()) i:=λq i H=>by
  have m:lz h v a b c=(0,mq h v a b c):=ar q;have n:kH h v a b c=h:=ar q;rw[m,n] at kk;exact kk i W H
 have f:mq h v a b c=if a>=65536 then 2 else if cf h.g v b=1\/c>1 then 1 else if(db h.g h.s v a).2.2.1≠0\/cf h.g v b≠0 then 4 else if fq h v a=true then 7 else 0:=rfl;refine S.al λx i S=>S.al λb1 F S=>⟨rfl,S.a_ 1 rfl rfl ?_⟩;have M:=(DM.of Q X A h T).app [(b1,[av 0,aa 0]),(x,eO k a b c)];refine ab (λd=>S.res (j:=0) rfl 0 _ λr S=>?_) (λd=>⟨rfl,S.a_ 1 rfl rfl ⟨λ_=>rfl,S.a_ 1 rfl rfl ⟨λ_=>rfl,S.a_ 1 rfl rfl ⟨λ_=>rfl,S.a_ 1 rfl rfl ?_⟩⟩⟩⟩)
 .rw[az (by have:=of_decide_eq_true d;omega)] at f;rw[f] at l;exact l (by decide) S.tail.tail
 have d: ¬ a>=65536:=by grind
 rw[ar d] at f;have o:aB .i64 a=a:=a9 ⟨u,by omega⟩;rw[B8 (g:=h.g) hb];refine ab (λd=>S.res (j:=0) rfl 0 _ λr S=>?_) (λd2=>⟨rfl,S.a_ 1 rfl rfl ?_⟩)
 .rw[az (by simpa using d)] at f;rw[f] at l;exact l (by decide) S.tail.tail
 have d2: ¬ (cf h.g v b=1\/c>1):=by
  grind
 rw[ar d2] at f;rw[o];have y:=Aq (g:=h.g) (v:=v) (b:=b) λe=>d2 (.inl e);have J:=n9 (g:=h.g) (v:=v) (a:=b) (λe=>d2 (.inl e));refine rD M S I v a λr S=>⟨λ_=>rfl,S.a_ 1 rfl rfl ?_⟩;rw[a9 (a:=b) ⟨hb,by omega⟩];refine⟨_,λ_=>m6 M S b,ab (λd=>S.res (j:=0) rfl 0 _ λt S=>?_) (λd3=>⟨rfl,S.a_ 1 rfl rfl ?_⟩)⟩
 .rw[az (by grind)] at f;rw[f] at l;exact l (by decide) S.tail.tail
 rw[DB] at d3;have z:aV h.g b=true:=by simpa using d3.2
 have B:(db h.g h.s v a).2.2.1=0:=by simpa using d3.1
 rw[ar (by rw[y,az z,B];decide)] at f;rw[o];refine⟨_,CB M S W I p a,?_⟩;rw[qp W p];refine ab (λd=>S.res (j:=0) rfl 0 _ λt S=>?_) (λd4=>?_)
 .rw[az d] at f;rw[f] at l;exact l (by decide) S.tail.tail
 rw[ar (by rw[d4];decide)] at f;have m:lz h v a b c=(gU h.gr v a b,iT h.gr v a b):=az f;have n:kH h v a b c=cY h (ib h.gr v a b (c==1)):=az f;rw[m,n] at kk;refine⟨rfl,rfl,ag.of _ (M.rg S) ⟨rfl,S.a_ 1 rfl rfl ⟨rfl,S.a_ 1 rfl rfl ⟨rfl,S.a_ 1 rfl rfl ?_⟩⟩⟩⟩;rw[o,a9 (a:=b) ⟨hb,by omega⟩];have L:=Er W.gl v a b;refine aF.Vr (T:= _:: _::T) S W v a b (c==1) λt S=>?_;dsimp only;rw[cN (by omega)];exact S.res (j:=0) rfl _ _ λE S=>kk E (W.cY (uu _ _ _ _ _) (W.gk.off _ _ _ _)) S.tail.tail
theorem oe (W:gS A h) (S:aF Q D G w0 w h.s (T++bM Q X A h)) (v:Int) {k a b c:Int} (B:(k=12/\b=0)\/k=13\/k=14\/k=15\/k=16) (q:0<=a) (hb:0<=b) {K:RS->A2->Prop}
 (kk: ∀f,gS A (run h v k a b c).1->aF Q D G w0 f (run h v k a b c).1.s (T++bM Q X A (run h v k a b c).1)->K ((run h v k a b c).2.1,(run h v k a b c).2.2,()) f):
 aA AC 77 (.el (.agg gm)) [ah (ae X.hb),aa v,.agg ⟨eO k a b c⟩] w K:=by
 refine S.go λw1 S=>aQ (C:=nJ) (AR (L5 _ v k a b c w1 K) ?_);refine S.al λy f S=>S.al λb1 E S=>⟨rfl,S.a_ 1 rfl rfl ?_⟩;have M:=(DM.of Q X A h T).app [(b1,[av 0,aa 0]),(y,eO k a b c)];by_cases x:k=15
 .subst x;have kk: ∀f,gS A (yX h v)->aF Q D G w0 f (yX h v).s (T++bM Q X A (yX h v))->K (DF h v,0,()) f:=kk;unfold DF yX at kk;refine ax rfl ⟨rfl,rfl,ag.of _ (M.rq S) ?_⟩;have o:=λh'=>En (ps:=h.po) (g:=v) h';have ⟨R,H,J⟩:=aF.po (T:= _:: _::T) S;refine Po.Rp H W.pt v λi H=>?_;have S:=J H;have ⟨r,z⟩: ∃r,r=Po.fe 4 h.po v:=⟨_,rfl⟩;have t:=W.pt.fe v;rw[<-z] at o kk S t ⊢;refine ab (λd=>S.res (j:=0) rfl 0 0 λm S=>?_) (λd=>?_)
  .have d: ¬ r.1.2=true:=by simpa using d
   rw[ar d] at kk;exact kk m (W.kr t) S.tail.tail
  .have d:r.1.2=true:=by simpa using d
   rw[az d] at kk;have:=o d;rw[ao (by omega) (by omega),cN (by omega)];exact S.res (j:=0) rfl _ 0 λm S=>kk m (W.kr t) S.tail.tail
 refine an (by simpa using x) ⟨rfl,S.a_ 1 rfl rfl ⟨λ_=>rfl,S.a_ 1 rfl rfl ?_⟩⟩;by_cases p:k=14\/k=16
 .refine ax (by simpa using p) ⟨rfl,S.a_ 1 rfl rfl (ab (λd=>S.res (j:=0) rfl 0 _ λi S=>?_) (λd=>⟨rfl,S.a_ 1 rfl rfl ?_⟩))⟩
  .have d:a>=4:=by have:=of_decide_eq_true d;omega
   rcases p with rfl|rfl
   .have kk: ∀f,gS A (mi h v a)->aF Q D G w0 f (mi h v a).s (T++bM Q X A (mi h v a))->K (0,yW h v a,()) f:=kk;unfold yW mi at kk;rw[az d,az d] at kk;exact kk i W S.tail.tail
   .have kk: ∀f,gS A (jv h v a)->aF Q D G w0 f (jv h v a).s (T++bM Q X A (jv h v a))->K (0,sU h v a,()) f:=kk;unfold sU jv at kk;rw[az d,az d] at kk;exact kk i W S.tail.tail
  .have d: ¬ a>=4:=by have:=of_decide_eq_false d;omega
   have n:aB .i64 a=a:=a9 ⟨q,by omega⟩;have ⟨R,H,J⟩:=aF.po (T:= _:: _::T) S;rcases p with rfl|rfl
   .have kk: ∀f,gS A (mi h v a)->aF Q D G w0 f (mi h v a).s (T++bM Q X A (mi h v a))->K (0,yW h v a,()) f:=kk;unfold yW mi at kk;rw[ar d,ar d] at kk;refine ax rfl ⟨rfl,rfl,ag.of _ (M.rq S) ⟨rfl,S.a_ 1 rfl rfl ?_⟩⟩;rw[n];exact Po.Rm H W.pt v a λi H=>(J H).res (j:=0) rfl 0 _ λm S=>kk m (W.kr (W.pt.kj v a)) S.tail.tail
   .have kk: ∀f,gS A (jv h v a)->aF Q D G w0 f (jv h v a).s (T++bM Q X A (jv h v a))->K (0,sU h v a,()) f:=kk;unfold sU jv at kk;rw[ar d,ar d] at kk;refine an rfl ⟨rfl,rfl,ag.of _ (M.rq S) ⟨rfl,S.a_ 1 rfl rfl ?_⟩⟩;rw[n];exact Po.BX H W.pt v a λi H=>(J H).res (j:=0) rfl 0 _ λm S=>kk m (W.kr (W.pt.dR v a)) S.tail.tail
 .refine an (by simpa using p) ⟨rfl,S.a_ 1 rfl rfl ⟨λ_=>rfl,S.a_ 1 rfl rfl ⟨λ_=>rfl,S.a_ 1 rfl rfl ⟨λ_=>rfl,S.a_ 1 rfl rfl ?_⟩⟩⟩⟩;rw[B8 (g:=h.g) q];have u:(k=12/\b=0)\/k=13:=by omega
  refine ab (λd=>S.res (j:=0) rfl 0 _ λi S=>?_) (λd=>⟨rfl,S.a_ 1 rfl rfl ?_⟩)
  .have d:cf h.g v a=1\/b>=4:=by
    grind
   rcases u with ⟨rfl,rfl⟩|rfl
   .have d:cf h.g v a=1:=d.resolve_right (by decide);have kk: ∀f,gS A (jO h v a)->aF Q D G w0 f (jO h v a).s (T++bM Q X A (jO h v a))->K ((lI h v a).1,(lI h v a).2,()) f:=kk;unfold lI jO at kk;rw[ar (by rw[d];decide),ar (by rw[d];decide),d] at kk;exact kk i W S.tail.tail
   .have kk: ∀f,gS A (jP h v a b)->aF Q D G w0 f (jP h v a b).s (T++bM Q X A (jP h v a b))->K ((lJ h v a b).1,(lJ h v a b).2,()) f:=kk;unfold lJ jP at kk;rw[az d,az d] at kk;exact kk i W S.tail.tail
  .have d: ¬ (cf h.g v a=1\/b>=4):=by
    rw[DB,decide_eq_false_iff_not,decide_eq_false_iff_not] at d;omega
   have l:=Aq (g:=h.g) (v:=v) (b:=a) λe=>d (.inl e);have F:=n9 (g:=h.g) (v:=v) (a:=a) (λe=>d (.inl e));have n:aB .i64 a=a:=a9 ⟨q,by omega⟩;rw[n];refine⟨_,m6 M S a,ab (λd2=>S.res (j:=0) rfl 0 _ λi S=>?_) (λd2=>⟨rfl,S.a_ 1 rfl rfl ?_⟩)⟩
   .rw[ar (by simpa using d2)] at l;rcases u with ⟨rfl,rfl⟩|rfl
    .have kk: ∀f,gS A (jO h v a)->aF Q D G w0 f (jO h v a).s (T++bM Q X A (jO h v a))->K ((lI h v a).1,(lI h v a).2,()) f:=kk;unfold lI jO at kk;rw[ar (by rw[l];decide),ar (by rw[l];decide),l] at kk;exact kk i W S.tail.tail
    .have kk: ∀f,gS A (jP h v a b)->aF Q D G w0 f (jP h v a b).s (T++bM Q X A (jP h v a b))->K ((lJ h v a b).1,(lJ h v a b).2,()) f:=kk;unfold lJ jP at kk;rw[ar d,ar d,ar (by rw[l];decide),ar (by rw[l];decide),l] at kk;exact kk i W S.tail.tail
   .rw[az (by simpa using d2)] at l;have ⟨R,H,J⟩:=aF.po (T:= _:: _::T) S;rcases u with ⟨rfl,rfl⟩|rfl
    .have kk: ∀f,gS A (jO h v a)->aF Q D G w0 f (jO h v a).s (T++bM Q X A (jO h v a))->K ((lI h v a).1,(lI h v a).2,()) f:=kk;unfold lI jO at kk;rw[az l,az l] at kk;refine ax rfl ⟨rfl,rfl,ag.of _ (M.rq S) ⟨rfl,S.a_ 1 rfl rfl ?_⟩⟩;rw[n];have o:=Eo h.po v a;refine Po.Rk H W.pt v a λi H=>?_;have e:aB .u64 (Po.dU 4 h.po v a).1.1=(Po.dU 4 h.po v a).1.1:=cN (by omega);unfold vf;dsimp only;rw[e];exact(J H).res (j:=0) rfl _ _ λm S=>kk m (W.kr (W.pt.dU v a)) S.tail.tail
    .have kk: ∀f,gS A (jP h v a b)->aF Q D G w0 f (jP h v a b).s (T++bM Q X A (jP h v a b))->K ((lJ h v a b).1,(lJ h v a b).2,()) f:=kk;unfold lJ jP at kk;rw[ar d,ar d,az l,az l] at kk;refine an rfl ⟨rfl,rfl,ag.of _ (M.rq S) ⟨rfl,S.a_ 1 rfl rfl ⟨rfl,S.a_ 1 rfl rfl ?_⟩⟩⟩;rw[n,a9 (a:=b) ⟨hb,by omega⟩];have o:=Ep h.po v a b;refine Po.Rl H W.pt v a b λi H=>?_;have e:aB .u64 (Po.dA 4 h.po v a b).1.1=(Po.dA 4 h.po v a b).1.1:=cN (by omega);unfold vf;dsimp only;rw[e];exact(J H).res (j:=0) rfl _ _ λm S=>kk m (W.kr (W.pt.dA v a b)) S.tail.tail
end
section
variable {Q:Sys} {X:DX} {D G:List Nat} {w0 w:A2} {h:HS} {T:List (Nat×List AG)} {L0:List (Nat×List AG)} {A:Nat->DG} {g:Nat->Option GV} {s:WD} {gh:Gh}
theorem DM.gt (M:DM Q X A g L0) (S:aF Q D G w0 w s L0) {v:Int} (c:1<=v) (a:v<=16) {x:GV} (b:g v.toNat=some x) {K:Option AE->Prop} (k:K (some ⟨(A v.toNat).bt,0,none⟩)):
 ag w none (ad (ae X.hb) 4) bX λ(x:Option AE×Nat×Nat)=>(x.1.isSome=true/\0<=v/\v<(x.2.1:Int))/\ag w none (ad x.1 (v.toNat*1)) bF λ(x:Option AE)=>x.isSome=true/\x.isSome=true/\ag w none (ad x 0) bF K:=
 ag.of _ (M.rl S) ⟨⟨rfl,by omega,by show v<((17:Nat):Int);omega⟩,ag.of _ (M.rc S ⟨by omega,a⟩) ⟨rfl,rfl,ag.of _ (M.rt S (by omega) b) k⟩⟩
theorem DM.pK (M:DM Q X A g L0) {v:Int} (b:aV g v=true): ∃j:Nat,L0[j]? =some ((A v.toNat).bt,iV Q v (aY g v) false):=by
 have ⟨x,c,d,hv,e,f⟩:=bK b;have ⟨j,a⟩:=M.oW (i:=v.toNat) (by omega) c;rw[hv, <-d] at a;exact⟨j,a⟩
theorem HI.Bh (I:HI gh h) {v:Int} (a:aV h.g v=true):gh (aY h.g v)=some (v,3,0):=by
 have ⟨x,b,c,hv,d,e⟩:=bK a;rw[c,I.root b,hv]
theorem HI.R5 (H:HI gh h) {v:Int} (e:aV h.g v=true) (f:cJ h.s.2 4 v=0):Inv gh (jd h v):=by
 have ⟨x,q,r,hv,j,k⟩:=bK e;have ⟨n,t,l,t1,t2,t3⟩:=tf (rz f) H.inv.fz ⟨j,k⟩;have m:jd h v=(h.s.1,h.s.2.set n (4,v,0,0,())):=by unfold jd;rw[t3]
 have B:Inv.gx gh h.s (jd h v):=by
  rw[m];refine jB H.inv ⟨rfl,by rw[FS]⟩ (λb hb=>absurd rfl hb) λ{i d d'} o h2=>?_;rcases rA l o h2 with ⟨_,p,a⟩|⟨_,a⟩
  .exact .inr ⟨by rw[p];decide,by rw[a];exact(show ¬ (4:Int)=3 by decide),λc=>by rw[a] at c;exact absurd c (show ¬ (4:Int)=0 by decide)⟩
  .exact .inl a
 exact H.inv.beside B
theorem Ht (W:gS A h) (S:aF Q D G w0 w h.s (T++bM Q X A h)) (I:HI gh h) {v:Int} (l:aV h.g v=true) {a b:Int} (c: ¬ a>=65536) (hb:0<=b) {K:RS->A2->Prop}
 (kk: ∀f,gS A (gE h v a b)->aF Q D G w0 f (gE h v a b).s (T++bM Q X A (gE h v a b))->K ((mK h v a b).1,(mK h v a b).2,()) f):
 aA AC 149 (.el (.agg gm)) [ah (ae X.hb),aa v,aa a,av b] w K:=by
 have ⟨x,N,o7,hv,O,P⟩:=bK l;refine S.go λw1 S=>aQ (C:=nJ) (b_:=qG) (AR (Ho _ v a b w1 K) ?_);have y:=Ak S.le 4 v;have q: ∀e,e≠0->mJ h v a b=e->mK h v a b=(0,e):=λe R z=>by
  unfold mK;rw[ar (by rw[z];exact R),z]
 refine S.al λb1 w3 S=>?_;have M:=(DM.of Q X A h T).app [(b1,[av 0,aa 0])];refine ab (λd2=>S.res (j:=0) rfl 0 _ λB S=>?_) (λd2=>⟨rfl,rfl,ag.of _ (M.rp S) (S.Ia 4 v λB S=>?_)⟩)
 .have d2:b<1\/b>7:=by simpa using d2
  have k:mJ h v a b=7:=by unfold mJ;rw[ar c,az d2]
  have d:gE h v a b=h:=by unfold gE;rw[ar c,az d2]
  rw[q 7 (by decide) k,d] at kk;exact kk B W S.tail
 have d2: ¬ (b<1\/b>7):=by
  intro e;have:(decide (b<1)||decide (b>7))=true:=by simpa using e
  rw[this] at d2;cases d2
 have U:aB .i64 b=b:=a9 ⟨hb,by omega⟩;refine ab (λd3=>S.res (j:=0) rfl 0 _ λr S=>?_) (λd3=>⟨rfl,rfl,M.gt S O P N ?_⟩)
 .have d3:cJ h.s.2 4 v≠0:=by simpa using d3
  have k:mJ h v a b=cJ h.s.2 4 v:=by unfold mJ;rw[ar c,ar d2,az d3]
  have d:gE h v a b=bz h (jd h v):=by unfold gE;rw[ar c,ar d2,az d3]
  rw[q _ d3 k,d] at kk;exact kk r (W.bz _) S.tail
 have d3: ¬ cJ h.s.2 4 v≠0:=by
  intro e;have:(cJ h.s.2 4 v != 0)=true:=by simpa using e
  rw[this] at d3;cases d3
 have ⟨j,E⟩:=M.pK l;rw[U];refine S.aaG j E (g:=gh) (λ_=>⟨I.R5 l (by omega),I.Bh l⟩) a (ft h v) b λr S=>?_;have S:aF Q D G w0 r (lu h v a b) ((b1,[av 0,aa 0])::(T++bM Q X A h)):=S;have H:mJ h v a b=iW (jd h v) (aY h.g v) false a (ft h v) b:=by unfold mJ;rw[ar c,ar d2,ar d3]
 refine ab (λd4=>⟨rfl,rfl,?_⟩) (λd4=>?_)
 .have d4: ¬ iW (h.s.1,cX h.s.2 4 v) (aY h.g v) false a (ft h v) b=0:=by simpa using d4
  have d4:iW (jd h v) (aY h.g v) false a (ft h v) b≠0:=d4;have d:gE h v a b=bz h ((lu h v a b).1,eC (lu h v a b).2 (ft h v) (aI 0 0)):=by unfold gE;rw[ar c,ar d2,ar d3,az d4]
  rw[q _ d4 H,d] at kk;exact ag.of _ (M.rp S) (S.Wh (ft h v) λJ S=>S.res (j:=0) rfl 0 _ λo S=>kk o (W.bz _) S.tail)
 have d4: ¬ iW (jd h v) (aY h.g v) false a (ft h v) b≠0:=by
  intro e;have:(iW (jd h v) (aY h.g v) false a (ft h v) b != 0)=true:=by simpa using e
  exact absurd (this.symm.trans d4) (by decide)
 have k:mK h v a b=(ft h v,0):=by
  unfold mK;rw[H,az (by omega)]
 have d:gE h v a b=bz h (dz (lu h v a b).1 (ft h v) (λ_=>0) 16,(lu h v a b).2):=by unfold gE;rw[ar c,ar d2,ar d3,ar d4]
 rw[k,d] at kk;have y:0<=ft h v/\ft h v<4096:=y;have ⟨F,p⟩: ∃F:Nat->List Int,F=λi=>dz (lu h v a b).1 (ft h v) (λ_=>0) i:=⟨_,rfl⟩;have V:F 0=(lu h v a b).1:=by rw[p];rfl
 have Y: ∀i,F (i+1)=fm (F i) (16*ft h v+(i:Int)) 0:=λi=>by rw[p];rfl
 have kk: ∀f,gS A (bz h (F 16,(lu h v a b).2))->aF Q D G w0 f (F 16,(lu h v a b).2) (T++bM Q X A h)->K (ft h v,0,()) f:=by rw[p];exact kk
 clear p;refine⟨λn u w'=> ∃m:Nat,u.1=(m:Int)/\n+m=16/\aF Q D G w0 w' (F m,(lu h v a b).2) ((b1,[av 0,aa 0])::(T++bM Q X A h)),⟨16,λJ Z=>⟨0,rfl,rfl,by rw[V];exact S.ext Z⟩⟩,?_⟩;clear S E;rintro n ⟨u,u2⟩ J ⟨m,e,hn,S⟩;dsimp only at e ⊢;subst e;have efr:(dV h.s.2 4 v)=ft h v:=rfl;rw[efr];refine ab (λt=>?_) (λt=>?_)
 .have L:m<16:=by
   have:(m:Int)<16:=by simpa using t
   omega
  have e5:ay .i64 (dk .i64 16 (ft h v)) (m:Int)=16*ft h v+(m:Int):=by rw[da (by omega) (by omega),ao (by omega) (by omega)]
  rw[e5];refine⟨rfl,rfl,ag.of _ (M.rm S) (S.vO _ 0 (by decide) λo S=>λw8 h8=>⟨n - 1,by omega,m+1,by rw[ao (by omega) (by omega)];omega,by omega,?_⟩)⟩;rw[Y];exact S.ext h8
 .have L:m=16:=by
   have: ¬ (m:Int)<16:=by simpa using t
   omega
  subst L;rw[cN (by omega)];exact S.res (j:=0) rfl _ 0 λo S=>kk o (W.bz _) S.tail
theorem zS {v p:Int} {x:GV} (a:aV h.g v=true) (b:h.g v.toNat=some x) (hb:fq h v p=true):bU x.tk p=some (vr h v p)/\(dC h.g v p).1=(vr h v p).1:=by
 have e:=(n5 a b).1 hb;refine⟨e,?_⟩;unfold dC;rw[az a,b];dsimp only;rw[e]
theorem HI.tkG (I:HI gh h) {v p:Int} {x:GV} (c:aV h.g v=true) (a:h.g v.toNat=some x) (hb:fq h v p=true): ∃k:Nat,((k:Int)=(vr h v p).1)/\k<16/\h.gr[k]? =some (kX h.gr (vr h v p).1):=by
 have ⟨e, _⟩:=zS c a hb;have d:bU (kA h v.toNat) p=some ((vr h v p).1,(vr h v p).2):=by rw[fG a];exact e
 have ⟨_,o, _,k,y,b,h2, _⟩:=I.hc.A4 d;have ⟨i,j,l,f,m⟩:=iu b;have n:=I.hc.gl;refine⟨k,by omega,by omega,?_⟩;unfold kX;rw[b];exact f
end
section
variable {Q:Sys} {X:DX} {D G:List Nat} {w0 w:A2} {h:HS} {T:List (Nat×List AG)} {L0:List (Nat×List AG)} {A:Nat->DG} {g:Nat->Option GV} {s:WD} {gh:Gh}
theorem Mb (H:HI gh h) {v:Int} (j:aV h.g v=true) {a:Int} (e:pL h v a=0): ∃(n:Nat) (d:DT),(db h.g h.s v a).1=(n:Int)/\(hH h.s v (aY h.g v) false a).2[n]? =some (4,d.2.1,0,0,())/\1<=d.2.1/\d.2.1<=16:=by
 have ⟨x,i,p,hv,z,A⟩:=bK j;have q:db h.g h.s v a=bC h.s x.root false a:=by
  unfold db;rw[az j,i]
 unfold pL at e;rw[q] at e ⊢;rw[p];split at e
 .exact absurd e (by decide)
 split at e
 .rename_i c;exact absurd e c
 rename_i b;have b:(bC h.s x.root false a).2.2.1=0:=Classical.byContradiction b;split at e
 .exact absurd e (by decide)
 split at e
 .exact absurd e (by decide)
 rename_i k;have r:pS h v.toNat a=some (bC h.s x.root false a).1:=by rw[cZ i,az b]
 have ⟨n,d,l,hd,d4,t,u,m⟩:=H.Xe r;rw[l] at k;rw[jU hd] at k;have w:dH (kA h) (n:Int)=0:=by
  have:=H.hc.refs hd;omega
 have f:=H.root i;rw[hv] at f;have o:=(H.inv.F2 f b).1;have ⟨g',C,B, _⟩:=H.inv.Bc f o (H.inv.XH H.nl f o b);have y:=C.kp.ks hd d4;rw[w] at m;refine⟨n,d,l,?_,t,u⟩;rw[y];exact congrArg some m
theorem R6 (H:HI gh h) {v:Int} (f:aV h.g v=true) {a:Int} (e:pL h v a=0):eC (hH h.s v (aY h.g v) false a).2 (db h.g h.s v a).1 (aI 5 0)=eC (hH h.s v (aY h.g v) false a).2 (db h.g h.s v a).1 (aI 5 v):=by
 have ⟨n,d,i,h2,b,c⟩:=Mb H f e;rw[i,(qf h2 (l4 (v:=0) ⟨b,c⟩)).1,(qf h2 (l4 (v:=v) ⟨b,c⟩)).1]
theorem zT (W:gS A h) (S:aF Q D G w0 w h.s (T++bM Q X A h)) (I:HI gh h) {v:Int} (t:aV h.g v=true) {k a b c:Int} (hk:k=3\/k=4\/k=5) (ha:0<=a) (hb:0<=b/\b<18446744073709551616) {K:RS->A2->Prop}
 (kk: ∀f,gS A (run h v k a b c).1->aF Q D G w0 f (run h v k a b c).1.s (T++bM Q X A (run h v k a b c).1)->K ((run h v k a b c).2.1,(run h v k a b c).2.2,()) f):
 aA AC 70 (.el (.agg gm)) [ah (ae X.hb),aa v,.agg ⟨eO k a b c⟩] w K:=by
 have ⟨x,B,o7,hv,Y,R⟩:=bK t;refine S.go λw1 S=>aQ (C:=nJ) (AR (RM _ v k a b c w1 K) ?_);refine S.al λZ f S=>S.al λb1 F S=>⟨rfl,S.a_ 1 rfl rfl ?_⟩;have M:=(DM.of Q X A h T).app [(b1,[av 0,aa 0]),(Z,eO k a b c)];refine ab (λd=>S.res (j:=0) rfl 0 _ λE S=>?_) (λd=>⟨rfl,S.a_ 1 rfl rfl ⟨rfl,S.a_ 1 rfl rfl ?_⟩⟩)
 .have d:a>=65536:=by have:=of_decide_eq_true d;omega
  rcases hk with rfl|rfl|rfl
  .have kk: ∀f,gS A (gE h v a b)->aF Q D G w0 f (gE h v a b).s (T++bM Q X A (gE h v a b))->K ((mK h v a b).1,(mK h v a b).2,()) f:=kk;have o:mJ h v a b=2:=az d;have u:gE h v a b=h:=az d;have L:mK h v a b=(0,2):=by unfold mK;rw[o];rfl
   rw[u,L] at kk;exact kk E W S.tail.tail
  .have kk: ∀f,gS A (nu h v a)->aF Q D G w0 f (nu h v a).s (T++bM Q X A (nu h v a))->K ((rN h v a).1,(rN h v a).2,()) f:=kk;have o:pL h v a=2:=az d;have u:nu h v a=h:=ar (by rw[o];decide);have L:rN h v a=(0,2):=by unfold rN;rw[o];rfl
   rw[u,L] at kk;exact kk E W S.tail.tail
  .have kk: ∀f,gS A (iU h v a b)->aF Q D G w0 f (iU h v a b).s (T++bM Q X A (iU h v a b))->K (0,pk h v a b,()) f:=kk;have o:pk h v a b=2:=az d;have u:iU h v a b=h:=az d;rw[o,u] at kk;exact kk E W S.tail.tail
 have d: ¬ a>=65536:=by have:=of_decide_eq_false d;omega
 have U:aB .i64 a=a:=a9 ⟨ha,by omega⟩;by_cases k3:k=3
 .subst k3;have kk: ∀f,gS A (gE h v a b)->aF Q D G w0 f (gE h v a b).s (T++bM Q X A (gE h v a b))->K ((mK h v a b).1,(mK h v a b).2,()) f:=kk;refine ax rfl ⟨rfl,S.a_ 1 rfl rfl ?_⟩;rw[U];exact Ht (T:= _:: _::T) W S I t d hb.1 λE W S=>S.res (j:=0) rfl _ _ λN S=>kk N W S.tail.tail
 refine an (by simpa using k3) ⟨yH (A v.toNat).tk a,by rw[U];exact CB M S W I t a,rfl,S.a_ 1 rfl rfl ?_⟩;rw[U];have ⟨j,hj⟩:=M.pK t;by_cases k5:k=5
 .subst k5;have kk: ∀f,gS A (iU h v a b)->aF Q D G w0 f (iU h v a b).s (T++bM Q X A (iU h v a b))->K (0,pk h v a b,()) f:=kk;refine ax rfl ⟨rfl,S.a_ 1 rfl rfl ⟨λ_=>rfl,S.a_ 1 rfl rfl ⟨λ_=>rfl,S.a_ 1 rfl rfl ?_⟩⟩⟩;refine⟨λ_=>rfl,λ_=>rfl,ag.of _ (M.rg S) ⟨λ_=>rfl,λ_=>rfl,ag.of _ (r9 (aF.gb (T:= _:: _::T) S).1) ⟨λ_=>rfl,λ_=>rfl,ag.of _ (M.rl S) ⟨λ_=>⟨rfl,by omega,by show v<((17:Nat):Int);omega⟩,ag.of _ (M.rc S ⟨by omega,R⟩) ⟨λ_=>rfl,λ_=>rfl,ag.of _ (M.rs S (by omega) B) ?_⟩⟩⟩⟩⟩;have Tb:=qp (A:=A) W t a;have fin: ∀(y:Bool),(fq h v a=true->y=(kX h.gr (dC h.g v a).1).2.2.2.1)->aD (decide (b<1)||decide (b>7)||decide (iF .u64 b 2>0)&&decide (yH (A v.toNat).tk a>=0)&& !y)
   (aw F (ae b1) [av 0,aa 7] λ(f:A2)=>ak f λ(w1:A2)=>ag w1 none (ae b1) (.agg gm) λ(x:Int×Int×Unit)=>K (x.1,x.2.1,()) w1)
   ((some (⟨X.hb,0,none⟩:AE)).isSome=true/\(some (⟨X.hb,0,none⟩:AE)).isSome=true/\ag F none (ad (ae X.hb) 4) bX λ(x:Option AE×Nat×Nat)=>(x.1.isSome=true/\0<=v/\v<(x.2.1:Int))/\ag F none (ad x.1 (v.toNat*1)) bF λ(x:Option AE)=>x.isSome=true/\x.isSome=true/\ag F none (ad x 0) bF λ(x:Option AE)=>
     true=true/\ag F none (ad (ae Z) 2) gZ λ(x1:Int)=>aA AC 150 aT [ah x,aa a,aa (aB .i64 x1)] F λ(x:Int) (f:A2)=>
      aw f (ae b1) [av 0,aa x] λ(f:A2)=>ak f λ(w1:A2)=>ag w1 none (ae b1) (.agg gm) λ(x:Int×Int×Unit)=>K (x.1,x.2.1,()) w1):=by
   intro y hy;rw[Tb];unfold pk iU at kk;rw[ar d,ar d] at kk;refine ab (λd2=>S.res (j:=0) rfl 0 _ λE S=>?_) (λd2=>⟨rfl,rfl,M.gt S Y R B ⟨rfl,S.a_ 1 rfl rfl ?_⟩⟩)
   .by_cases d3:b<1\/b>7
    .rw[az d3,az d3] at kk;exact kk E W S.tail.tail
    .have d4:fq h v a=true/\iF .u64 b 2>0/\(kX h.gr (dC h.g v a).1).2.2.2.1=false:=by
      have e0:(decide (b<1)||decide (b>7))=false:=by rw[DB,decide_eq_false_iff_not,decide_eq_false_iff_not];omega
      rw[e0,Bool.false_or,Da,Da,decide_eq_true_eq,HD] at d2;exact⟨d2.1.2,d2.1.1,by rw[<-hy d2.1.2];exact d2.2⟩
     rw[ar d3,ar d3,az d4,az d4] at kk;exact kk E W S.tail.tail
   .have d3: ¬ (b<1\/b>7):=by
     intro e;have:(decide (b<1)||decide (b>7))=true:=by simpa using e
     rw[this,Bool.true_or] at d2;cases d2
    have d4: ¬ (fq h v a=true/\iF .u64 b 2>0/\(kX h.gr (dC h.g v a).1).2.2.2.1=false):=by
     rintro⟨o,u,L⟩;rw[hy o,L,o,decide_eq_true u] at d2;simp at d2
    rw[ar d3,ar d3,ar d4,ar d4] at kk;rw[a9 (a:=b) ⟨hb.1,by omega⟩];exact S.RE j hj (g:=gh) (λ_=>⟨I.inv,I.Bh t⟩) a b λw6 S=>S.res (j:=0) rfl 0 _ λw7 S=>kk w7 (W.bz _) S.tail.tail
  cases O:fq h v a with
  |true=>
   have ⟨t1,t2,t3⟩:=W.tk B;have ⟨e,e'⟩:=zS t B O;rw[<-W.at B a] at e;have ⟨i,P,hi⟩:=uB (jC t2) (a:=(vr h v a).1) (b:=(vr h v a).2) e;have WO:=(B5.1 hi).1;have ⟨r1,r2⟩:=(S.ZJ t3 (M.rows (i:=v.toNat) (by omega) B)) i (tT (a,(vr h v a).1,(vr h v a).2)) (by rw[Ce,hi];rfl);have hlen:(A v.toNat).ts.2.1=(A v.toNat).tk.length:=by rw[t3.1,B1]
   have ⟨q,V,EY,hg⟩:=I.tkG t B O;have hgl:=W.gl;refine⟨λ_=>⟨r1,by rw[P];omega,by rw[P,hlen];omega⟩,λ_=>by rw[P];exact kJ r1 _,ag.of (vr h v a).1 (by rw[P,DA];exact jl r2 (by decide) rfl) ⟨λ_=>⟨rfl,by omega,by show(vr h v a).1<(h.gr.length:Int);omega⟩,λ_=>rfl,ag.of (kX h.gr (vr h v a).1).2.2.2.1 ?_ (fin _ λ_=>by rw[e'])⟩⟩;rw[<-V,DA];rw[<-V] at hg;exact Cz (aF.gb (T:= _:: _::T) S).2 hg (by decide) rfl
  |false=>
   have e:decide (yH (A v.toNat).tk a>=0)=false:=by rw[Tb,O]
   rw[e] at fin ⊢;have z: ∀{p q r:Bool},(p&&(q&&false))=true->r=true:=λ{p q r} l=>by simp at l
   exact⟨λl=>(by simp at l),λl=>(by simp at l),⟨0,λl=>(by simp at l),λl=>(by simp at l),λl=>(by simp at l),⟨false,λl=>(by simp at l),fin false λl=>(by rw[O] at l;cases l)⟩⟩⟩
 .have k4:k=4:=by omega
  subst k4;have kk: ∀f,gS A (nu h v a)->aF Q D G w0 f (nu h v a).s (T++bM Q X A (nu h v a))->K ((rN h v a).1,(rN h v a).2,()) f:=kk;have J:pL h v a≠0-> ∀{f},aF Q D G w0 f h.s (T++bM Q X A h)->K (0,pL h v a,()) f:=λhe f H=>by
   have o:rN h v a=(0,pL h v a):=ar he;have u:nu h v a=h:=ar he;rw[o,u] at kk;exact kk f W H
  have m:pL h v a=if a>=65536 then 2 else if(db h.g h.s v a).2.2.1≠0 then(db h.g h.s v a).2.2.1 else if fq h v a=true then 7 else if(mH h.s.2 (db h.g h.s v a).1).2.2.1>0 then 9 else 0:=rfl;rw[ar d] at m;refine an rfl (rD M S I v a λE S=>?_);have V:=uv h.g h.s v a;refine ab (λd=>S.res (j:=0) rfl 0 _ λN S=>?_) (λd2=>?_)
  .have d:(db h.g h.s v a).2.2.1≠0:=by simpa using d
   rw[az d] at m;rw[m] at J;exact J d S.tail.tail
  have d2:(db h.g h.s v a).2.2.1=0:=by simpa using d2
  rw[ar (λe=>e d2)] at m;rw[qp W t];refine ab (λd=>S.res (j:=0) rfl 0 _ λN S=>?_) (λd3=>?_)
  .rw[az d] at m;rw[m] at J;exact J (by decide) S.tail.tail
  rw[ar (by rw[d3];decide)] at m;have Z8:db h.g h.s v a=bC h.s x.root false a:=by
   unfold db;rw[az t,B]
  have fP:pS h v.toNat a=some (db h.g h.s v a).1:=by rw[cZ B, <-Z8,az d2]
  have ⟨n,dd,th,hd, _⟩:=I.Xe fP;have AY:=(B5.1 hd).1;rw[th] at m ⊢;rw[jU hd] at m;refine⟨rfl,rfl,ag.of _ (M.rp S) ⟨rfl,rfl,ag.of _ S.Fb ⟨⟨rfl,by omega,by show(n:Int)<(h.s.2.length:Int);omega⟩,rfl,ag.of dd.2.2.1 (by rw[DA];exact S.rdK hd (by decide) rfl) ?_⟩⟩⟩;refine ab (λd=>S.res (j:=0) rfl 0 _ λN S=>?_) (λd4=>⟨rfl,rfl,M.gt S Y R B ?_⟩)
  .rw[az (of_decide_eq_true d)] at m;rw[m] at J;exact J (by decide) S.tail.tail
  rw[ar (of_decide_eq_false d4)] at m;have o:rN h v a=((db h.g h.s v a).1,0):=az m;have u:nu h v a=bz h ((hH h.s v (aY h.g v) false a).1,eC (hH h.s v (aY h.g v) false a).2 (db h.g h.s v a).1 (aI 5 v)):=az m;rw[o,u, <-R6 I t m,th] at kk;refine S.Ox j hj (g:=gh) (λ_=>⟨I.inv,I.Bh t⟩) a λw7 S=>⟨rfl,rfl,ag.of _ (M.rp S) (S.Ib _ 5 0 λw8 S=>?_)⟩;rw[cN (by omega)];exact S.res (j:=0) rfl _ 0 λw9 S=>kk w9 (W.bz _) S.tail.tail
end
section
variable {Q:Sys} {X:DX} {D G:List Nat} {w0 w:A2} {h:HS} {T:List (Nat×List AG)} {L0 Ls rows:List (Nat×List AG)} {A:Nat->DG} {g:Nat->Option GV} {s:WD} {gh:Gh} {e:El} {x:Option AE×Nat×Nat} {xs:List e.T}
theorem aF.piece (S:aF Q D G w0 w s L0) (a:vz e x xs rows) (h: ∀y∈rows,y∈L0) (k:0<xs.length): ∃bs,x.1=some ⟨bs,0,none⟩/\ ∀i n,i+n<=xs.length->rS w (some ⟨bs,i*aM e,none⟩) (n*aM e) (flat e ((xs.drop i).take n)):=by
 obtain⟨l,h2,⟨a1,b⟩|⟨bs,rest,a1,b,m⟩⟩:=a
 .omega
 .refine⟨bs,a1,λi n o=>?_⟩;have c:bq w bs (flat e xs++rest):=S.bk (x:=(bs, _)) (by grind);have d:(flat e ((xs.drop i).take n)).length=n*aM e:=by rw[aK,DS,Du,MV (by omega)]
  refine c.rS d λj p=>?_;have f:flat e xs++rest=flat e (xs.take i)++(flat e ((xs.drop i).take n)++(flat e ((xs.drop i).drop n)++rest)):=by
   grind[flat,J3]
  have g:(flat e (xs.take i)).length=i*aM e:=by rw[aK,DS,MV (by omega)]
  rw[f,HF (by omega),g,show i*aM e+j - i*aM e=j by omega,Fz (by omega)]
theorem aF.FM (S:aF Q D G w0 w s (Ls++L0)) (a:vz e x xs Ls) (b:lx e=true) {q:Option AE×Nat×Nat} {ys:List e.T} (c:q.2.1=ys.length) (d:Go.RX.rS w q.1 (q.2.1*aM e) (flat e ys))
 {t:TypeId} {size bytes:Nat} {z:Array AG} (f:size=aM e) (g:z.size=aM e) (hb:(xs.length+ys.length)*bytes<=140737488355328) {R:Option AE×Nat×Nat->A2->Prop}
 (k: ∀s' iC w',vz e s' (xs++ys) iC->aF Q D G w0 w' s (iC++L0)->R s' w'):nm w t size bytes z x q R:=by
 have ⟨h,h2,i,j,ca,la,H⟩:=S;have P: ∀iC,(Q.L ca la s _).Perm _:=λiC=>C7 [_, _, _, _] iC L0;exact aJ.FM (H.perm (P Ls).symm) a b c d f g hb λs' iC w' l H=>k s' iC w' l ⟨h,h2,i,j,ca,la,H.perm (P iC)⟩
theorem aF.aaL (S:aF Q D G w0 w s L0) (f y:Int) (hi: -9223372036854775808<=y/\y<9223372036854775808) {K:Int->A2->Prop} (k: ∀a,aF Q D G w0 a (s.1,eC s.2 f (fA y)) L0->K (oY s.2 f (fA y)) a):
 aA AC 160 aT [ah (ae Q.bp),aa f,aa y] w K:=by
 have ⟨b,h2,c,d,ca,la,H⟩:=S;refine QH H 3 2 rfl rfl (by grind) rfl h2 c f y hi λa H=>k a ⟨b,?_,?_,d,ca,la,?_⟩
 .rw[dY];grind
 .rw[dY];grind
 .grind[Sys.L,eC]
theorem erase_filter {p:List TK} (a:(p.map (·.1)).Nodup) {i:Nat} {t:TK} (hi:p[i]? =some t):p.eraseIdx i=p.filter λu=> !(u.1==t.1):=by
 induction p generalizing i with
 |nil=>simp
 |cons u=>
  cases i with
  |zero=>
   have hi:u=t:=by grind
   subst hi;rw[List.eraseIdx_cons_zero,List.filter_cons,ar (by simp)];symm;rw[K1]
   grind
  |succ=>
   grind
theorem aF.DH {i:Nat} (hi:i<17) {y:GV} (m:h.g i=some y) (S:aF Q D G w0 w s (Ls++(T++bM Q X A h))) {r:Option AE×Nat×Nat} {b:List TK} (q:vz eT r (b.map tT) Ls) {VO:List TK} {K:A2->Prop}
 (k: ∀c,aF Q D G w0 c s (T++bM Q X (ow A i {A i with ts:=r,rows:=Ls,tk:=b}) {h with g:=bA h.g i (some {y with tk:=VO})})->K c):aw w (ad (some ⟨(A i).bg,0,none⟩) 1) [.slice r.1 r.2.1 r.2.2] K:=by
 have P:=kP (Q:=Q) (X:=X) (h:=h) (A:=A) (T:=T) hi;rw[m] at P;have S:aF Q D G w0 w s (((A i).bg,Jq (A i) (some y))::((A i).bt,iV Q i y.root false)::(A i).rows++(Ls++(T++sM Q X A h (eR Q A h.g ((AT 17).erase i))))):=by
  refine S.perm ?_;refine .trans ?_ (List.Perm.append_left Ls P.symm);exact C7 _ Ls _
 refine S.oB 0 rfl rfl rfl λc S=>k c ?_;have ⟨A',d⟩: ∃A',A'=ow A i {A i with ts:=r,rows:=Ls,tk:=b}:=⟨_,rfl⟩;have ⟨h',a⟩: ∃h',h'={h with g:=bA h.g i (some {y with tk:=VO})}:=⟨_,rfl⟩;have e:A' i={A i with ts:=r,rows:=Ls,tk:=b}:=by rw[d];exact rE _ _ _
 have n:h'.g i=some {y with tk:=VO}:=by rw[a];exact dZ _ _ _
 have o: ∀j,j≠i->A' j=A j/\h'.g j=h.g j:=λj f=>by rw[d,a];exact⟨ar f,ar f⟩
 have p:sM Q X A' h' _=sM Q X A h _:=R4 o (by rw[e]) (by rw[a]) (by rw[a]);rw[<-d, <-a];have l:=kP (Q:=Q) (X:=X) (h:=h') (A:=A') (T:=T) hi;rw[n,p,e] at l;refine aF.perm ?_ l;exact S.sub (((Do _ _).cons_cons _).cons_cons _)
theorem gS.DH (W:gS A h) {i:Nat} (hi:1<=i/\i<=16) {y:GV} {r:Option AE×Nat×Nat} {c VO:List TK} (d:vz eT r (c.map tT) Ls) (f:c.Perm VO) (k:c.Pairwise (λa b=>a.1<b.1)):
 gS (ow A i {A i with ts:=r,rows:=Ls,tk:=c}) {h with g:=bA h.g i (some {y with tk:=VO})}:=by
 refine⟨λ{j v} hv=>?_,λ{j v} hv=>?_,W.gl,W.pt,W.gk⟩
 .have hv:bA _ i _ j=some v:=hv;unfold bA at hv;by_cases e:j=i
  .omega
  .rw[ar e] at hv;exact W.jI hv
 .have hv:bA _ i _ j=some v:=hv;unfold bA at hv;unfold ow;by_cases e:j=i
  grind
  .rw[ar e] at hv ⊢;exact W.tk hv
theorem DM.VP (M:DM Q X A g L0) (S:aF Q D G w0 w s L0) {v:Int} (b:1<=v) (c:v<=16) {x:GV} (a:g v.toNat=some x) {K:Option AE×Nat×Nat->Prop} (k:K (A v.toNat).ts):
 ag w none (ad (ae X.hb) 4) bX λ(x:Option AE×Nat×Nat)=>(x.1.isSome=true/\0<=v/\v<(x.2.1:Int))/\ag w none (ad x.1 (v.toNat*1)) bF λ(x:Option AE)=>x.isSome=true/\x.isSome=true/\ag w none (ad x 1) bX K:=
 ag.of _ (M.rl S) ⟨by grind,ag.of _ (M.rc S (by grind)) ⟨rfl,rfl,ag.of _ (M.rs S (by omega) a) k⟩⟩
theorem DM.gw (M:DM Q X A g L0) (S:aF Q D G w0 w s L0) {v:Int} (a:1<=v) (b:v<=16) {K:Option AE->Prop} (k:K (some ⟨(A v.toNat).bg,0,none⟩)):
 ag w none (ad (ae X.hb) 4) bX λ(x:Option AE×Nat×Nat)=>(x.1.isSome=true/\0<=v/\v<(x.2.1:Int))/\ag w none (ad x.1 (v.toNat*1)) bF K:=
 ag.of _ (M.rl S) ⟨by grind,ag.of _ (M.rc S (by omega)) k⟩
theorem Ey (W:gS A h) (S:aF Q D G w0 w h.s (T++bM Q X A h)) (I:HI gh h) {v:Int} (l:aV h.g v=true) {a:Int} (Y:0<=a) {K:Int->A2->Prop}
 (kk: ∀A' m,(∀i,(A' i).bg=(A i).bg)->gS A' (fU h v a)->aF Q D G w0 m (fU h v a).s (T++bM Q X A' (fU h v a))->K (r7 h v a) m):
 aA AC 75 aT [ah (ae X.hb),aa v,av a] w K:=by
 have ⟨x,c,H,hv,n,o⟩:=bK l;refine S.go λw1 S=>aj (C:=nJ) (AR (RQ _ v a w1 K) ?_);unfold r7 fU at kk;have M:=DM.of Q X A h T;refine ab (λd=>S.en λm S=>?_) (λd=>?_)
 grind
 have d: ¬ a>=65536:=by have:=of_decide_eq_false d;omega
 rw[ar d,ar d] at kk;have Z:aB .i64 a=a:=a9 ⟨Y,by omega⟩;rw[Z];have Tb:=qp (A:=A) W l a;refine⟨_,CB M S W I l a,ab (λd2=>S.en λm S=>?_) (λd2=>?_)⟩
 grind
 have z:fq h v a=true:=by
  rw[<-Tb,decide_eq_true_eq];have:=of_decide_eq_false d2;omega
 rw[az z,az z] at kk;clear d2;have ⟨t1,t2,t3⟩:=W.tk c;have ⟨B, _⟩:=zS l c z;rw[<-W.at c a] at B;have ⟨id,f,hT⟩: ∃id f,vr h v a=(id,f):=⟨_, _,rfl⟩;rw[hT] at kk B;have ⟨i,ei,hi⟩:=uB (jC t2) (a:=id) (b:=f) B;have WO:=(B5.1 hi).1;have htl:=Ta W I c;have q:(A v.toNat).ts.2.1=(A v.toNat).tk.length:=by rw[t3.1,B1]
 have p:((A v.toNat).tk.map tT).length=(A v.toNat).tk.length:=B1 _;rw[ei];have e1:ay .i64 (i:Int) 1=((i+1:Nat):Int):=by rw[ao (by omega) (by omega)];rfl
 rw[e1];have ⟨r1,r2⟩:=(S.ZJ t3 (M.rows (i:=v.toNat) (by omega) c)) i (tT (a,id,f)) (by rw[Ce,hi];rfl);refine⟨rfl,rfl,M.VP S n o c ⟨⟨r1,by omega,by rw[q];omega⟩,ag.of (tT (a,id,f)) (by rw[DA];exact r2) (S.al λbc m S=>S.cQ 0 rfl rfl rfl λw3 S=>?_)⟩⟩;have S:aF Q D G w0 w3 h.s ((bc,[aa a,aa id,aa f])::(T++bM Q X A h)):=S;have M:=M.app [(bc,[aa a,aa id,aa f])];have XL:(A v.toNat).tk.length<=(A v.toNat).ts.2.2:=by rw[<-p];exact t3.2.1
 refine⟨rfl,rfl,M.VP S n o c ⟨⟨Ff _,by omega,by omega,Ff _⟩,λw4 h4=>?_⟩⟩;have S:=S.ext h4;have J: ∀{iC:List (Nat×List AG)}, ∀y∈(A v.toNat).rows,y∈iC++((bc,[aa a,aa id,aa f])::(T++bM Q X A h)):=λ{iC} y hy=>B2 _ (M.rows (i:=v.toNat) (by omega) c y hy);have ⟨bs,SD,pc⟩:=S.piece t3 (J (iC:=[])) (by rw[p];omega);have Zo:rS w4 (if(((A v.toNat).ts.2.2:Nat):Int).toNat=((0:Nat):Int).toNat then(A v.toNat).ts.1 else ad (A v.toNat).ts.1 0) (((i:Int).toNat - 0)*aM eT) (flat eT (((A v.toNat).tk.take i).map tT)):=by
  have:=pc 0 i (by rw[p];omega);rw[ar (by omega),SD,aS];rw[List.drop_zero, <-List.map_take] at this;rw[Nat.zero_mul] at this;exact this
 refine aF.FM (Ls:=[]) (e:=eT) (xs:=[]) S (vz.nil eT) rfl (ys:=((A v.toNat).tk.take i).map tT) ?_ Zo rfl rfl (by simp only[MD,B1,DS];omega) λs1 L w5 EX S=>?_
 .show(i:Int).toNat - 0= _;rw[B1,DS];omega
 have M1:=M.app L;refine⟨rfl,rfl,M1.VP S n o c ⟨⟨by omega,by rw[q];omega,by rw[q];omega,Ff _⟩,λw6 h6=>?_⟩⟩;have S:=S.ext h6;have ⟨nI,acD,pc⟩:=S.piece t3 (J (iC:=L)) (by rw[p];omega);have EY:rS w6 (if(((A v.toNat).ts.2.2:Nat):Int).toNat=((i+1:Nat):Int).toNat then(A v.toNat).ts.1 else ad (A v.toNat).ts.1 (((i+1:Nat):Int).toNat*3)) (((((A v.toNat).ts.2.1:Nat):Int).toNat - ((i+1:Nat):Int).toNat)*aM eT) (flat eT (((A v.toNat).tk.drop (i+1)).map tT)):=by
  by_cases hc:(((A v.toNat).ts.2.2:Nat):Int).toNat=((i+1:Nat):Int).toNat
  .have hd:(A v.toNat).tk.drop (i+1)=[]:=I_ (by omega);have:=pc 0 0 (by omega)
   grind
  .have:=pc (i+1) ((A v.toNat).tk.length - (i+1)) (by rw[p];omega);rw[ar hc,acD,aS,show((((A v.toNat).ts.2.1:Nat):Int).toNat - ((i+1:Nat):Int).toNat)=(A v.toNat).tk.length - (i+1) by rw[q];omega];rw[<-List.map_drop,FB (by rw[B1,Du];omega)] at this;rw[show 0+((i+1:Nat):Int).toNat*3=(i+1)*aM eT by show 0+(i+1)*3=(i+1)*3;omega];exact this
 refine aF.FM (e:=eT) S EX rfl (ys:=((A v.toNat).tk.drop (i+1)).map tT) ?_ EY rfl rfl (by simp only[MF,B1,DS,Du];omega) λs2 N w7 r S=>?_
 grind
 have M2:=M.app N;rw[MF, <-FA, <-List.eraseIdx_eq_take_drop_succ] at r;refine⟨rfl,rfl,M2.gw S n o ⟨rfl,rfl,?_⟩⟩;have ⟨k,O⟩: ∃k,k=(A v.toNat).tk.eraseIdx i:=⟨_,rfl⟩;rw[<-O] at r;have P:k=(A v.toNat).tk.filter λu=> !(u.1==a):=by rw[O];exact erase_filter (jC t2) hi
 have hpm:k.Perm (x.tk.filter λu=> !(u.1==a)):=by rw[P];exact t1.filter _
 have Xa:k.Pairwise (λa b=>a.1<b.1):=by rw[P];exact t2.sublist List.filter_sublist
 refine aF.DH (T:=(bc,[aa a,aa id,aa f])::T) (VO:=x.tk.filter λu=> !(u.1==a)) (show v.toNat<17 by omega) c S r λw8 S=>?_;have E:=W.DH (i:=v.toNat) (by omega) (y:=x) r hpm Xa;have ⟨A',F⟩: ∃A',A'=ow A v.toNat {A v.toNat with ts:=s2,rows:=N,tk:=k}:=⟨_,rfl⟩;have ⟨h',t⟩: ∃h':HS,h'={h with g:=bA h.g v.toNat (some {x with tk:=x.tk.filter λu=> !(u.1==a)})}:=⟨_,rfl⟩;have hbg: ∀j,(A' j).bg=(A j).bg:=λj=>by
  rw[F];unfold ow;split
  .rename_i e;rw[e]
  .rfl
 have R:h'.g v.toNat=some {x with tk:=x.tk.filter λu=> !(u.1==a)}:=by rw[t];exact dZ _ _ _
 have hbt:(A' v.toNat).bt=(A v.toNat).bt:=by rw[F,rE]
 rw[<-F, <-t] at S E;have M3:=(DM.of Q X A' h' T).app [(bc,[aa a,aa id,aa f])];have ⟨j,U⟩:=M3.oW (i:=v.toNat) (by omega) R;rw[hv] at U;refine⟨rfl,rfl,M3.gt S n o R ⟨rfl,S.a_ 0 rfl (show _=some a from rfl) ?_⟩⟩;refine S.Ox j U (g:=gh) (λ_=>⟨I.inv,by rw[<-H];exact I.Bh l⟩) a λw9 S=>⟨rfl,rfl,ag.of _ (M3.rp S) ⟨rfl,S.a_ 0 rfl (show _=some f from rfl) ?_⟩⟩;refine S.aaL f (-1) (by decide) λnp S=>⟨rfl,rfl,ag.of _ (M3.rg S) ⟨rfl,S.a_ 0 rfl (show _=some id from rfl) ?_⟩⟩;refine aF.OA (h:=bz h' ((hH h.s v x.root false a).1,eC (hH h.s v x.root false a).2 f (fA (-1)))) (A:=A') (T:= _::T) S (E.bz _) id v λl6 S=>S.en λrX S=>?_;have eG:dB h v a id f=cY (bz h' ((hH h.s v x.root false a).1,eC (hH h.s v x.root false a).2 f (fA (-1)))) (dj h.gr id v):=by
  rw[t];unfold dB;rw[c,H];rfl
 dsimp only at kk;rw[eG] at kk;have V:h'.gr=h.gr:=by rw[t]
 refine kk A' rX hbg ((E.bz _).cY ?_ ?_) ?_
 .rw[kM];show _=h'.gr.length;rw[V]
 .exact W.gk.back _ _
 .have S:=S.tail;have e2:(bz h' ((hH h.s v x.root false a).1,eC (hH h.s v x.root false a).2 f (fA (-1)))).gr=h.gr:=V;rw[e2] at S;exact S
end
theorem acE (w:A2) (p:Option AE):rS w p 0 []:=by
 cases p with
 |none=>rfl
 |some=>exact⟨rfl,by simp⟩
section
variable {Q:Sys} {X:DX} {D G:List Nat} {w0 w:A2} {h:HS} {T:List (Nat×List AG)} {L0 Ls rows:List (Nat×List AG)} {A:Nat->DG} {g:Nat->Option GV} {s:WD} {gh:Gh} {x:Option AE×Nat×Nat} {xs:List eT.T}
theorem aF.suffix (S:aF Q D G w0 w s L0) (a:vz eT x xs rows) (b: ∀y∈rows,y∈L0) {i:Nat} (hi:i<=xs.length):rS w (if((x.2.2:Nat):Int).toNat=((i:Nat):Int).toNat then x.1 else ad x.1 (((i:Nat):Int).toNat*3)) ((((x.2.1:Nat):Int).toNat - ((i:Nat):Int).toNat)*aM eT) (flat eT (xs.drop i)):=by
 have d:=a.1;by_cases e:i=xs.length
 .have hd:xs.drop i=[]:=I_ (by omega);rw[hd,show((x.2.1:Int).toNat - ((i:Nat):Int).toNat)=0 by omega];exact acE _ _
 .have ⟨bs,c,pc⟩:=S.piece a b (by omega);have:=pc i (xs.length - i) (by omega);have f:=a.2.1;rw[ar (by omega),c,aS,show((x.2.1:Int).toNat - ((i:Nat):Int).toNat)=xs.length - i by omega];rw[FB (by grind)] at this;rw[show 0+((i:Nat):Int).toNat*3=i*aM eT by show 0+i*3=i*3;omega];exact this
theorem aF.aaM {bc:Nat} {t:TK} (S:aF Q D G w0 w s ((bc,[aa t.1,aa t.2.1,aa t.2.2])::(Ls++L0))) (a:vz eT x xs Ls) (hb:xs.length<=1000000) {ty:TypeId} {R:Option AE×Nat×Nat->A2->Prop}
 (k: ∀s' iC w',vz eT s' (xs++[tT t]) iC->aF Q D G w0 w' s (iC++L0)->R s' w'):nm w ty 3 24 ⟨[aa 0,aa 0,aa 0]⟩ x (some ⟨bc,0,none⟩,1,1) R:=by
 have b:=S.get (i:=0) rfl;have S:=S.perm Fk;refine S.FM a rfl rfl (b.rS rfl λj d=>by rw[Nat.zero_add];rfl) rfl rfl (by grind) λs' iC w' c S=>k s' iC w' c (S.sub ?_);simp
theorem HI.acF (H:HI gh h) {v b f rt:Int} (d:aV h.g v=true) {x:GV} (a:h.g v.toNat=some x) (h0:iW h.s (aY h.g v) false b f rt=0):bU x.tk b=none:=by
 have ⟨j,c,e,hv⟩:=bK d;rw[e] at h0;rw[a] at c;cases c;have i:=H.root a;have k:=(H.inv.map i h0).2;have:pS h v.toNat b=none:=by rw[cZ a,ar (by omega)]
 have:=H.hc.S7 this;rw[fG a] at this
 grind
theorem Hu {p:List TK} (h:p.Pairwise (λa b=>a.1<b.1)) {i:Nat} {t:TK} (m: ∀j u,j<i->p[j]? =some u->u.1<t.1) (h2: ∀u,p[i]? =some u->t.1<u.1):(p.take i++(t::p.drop i)).Pairwise (λa b=>a.1<b.1):=by
 have d:(p.take i++p.drop i).Pairwise (λa b=>a.1<b.1):=by rw[J3];exact h
 rw[HY] at d;have ⟨f,c,n⟩:=d;have o: ∀u∈p.take i,u.1<t.1:=λu hu=>by
  have ⟨j,q⟩:=FJ hu
  grind
 have g: ∀u∈p.drop i,t.1<u.1:=λu hu=>by
  cases hd:p.drop i with
  |nil=>rw[hd] at hu;cases hu
  |cons y l=>
   have e:p[i]? =some y:=by
    have:(p.drop i)[0]? =some y:=by rw[hd];rfl
    grind
   have k:=h2 y e;rw[hd] at hu c;rcases Fm.1 hu with rfl|hu
   .exact k
   .have:=(Dt.1 c).1 u hu;omega
 rw[HY];refine⟨f,Dt.2 ⟨g,c⟩,λu hu y e=>?_⟩
 grind
theorem R7 (W:gS A h) (S:aF Q D G w0 w h.s (T++bM Q X A h)) (I:HI gh h) {v:Int} (Z:aV h.g v=true) (k:Int) {a b c:Int} (ha:0<=a) (hb:0<=b) (hc:0<=c) {K:Int->A2->Prop}
 (kk: ∀A' o,gS A' (gW h v a b c)->aF Q D G w0 o (gW h v a b c).s (T++bM Q X A' (gW h v a b c))->K (nv h v a b c) o):
 aA AC 74 aT [ah (ae X.hb),aa v,.agg ⟨eO k a b c⟩] w K:=by
 have ⟨x,z,o7,hv,N,H⟩:=bK Z;refine S.go λw1 S=>aj (C:=nJ) (b_:=ve) (AR (RP _ v k a b c w1 K) ?_);have B: ∀e,e≠0->lA h v a b c=e->nv h v a b c=e-> ∀{o},aF Q D G w0 o h.s (T++bM Q X A h)->K e o:=λe he O h2 o S=>by
  have P:gW h v a b c=h:=by unfold gW;rw[az (by rw[O];exact he)]
  rw[P,h2] at kk;exact kk A o W S
 have l:nv h v a b c=if b>=65536 then 2 else if a>=16\/c>1 then 1 else if(jF h.gr a).isSome=false then 4
  else if(kz h a).2.2.1≠v\/(c=1/\(kz h a).2.2.2.1=false) then 7 else if(ll h a).2.2.1≠0 then 4 else if fq h (kz h a).1 (kz h a).2.1=true then 7
  else if eB h.gr a v (c==1)≠0 then eB h.gr a v (c==1) else iW h.s (aY h.g v) false b (ll h a).1 (qH c):=rfl
 have m:lA h v a b c=if b>=65536 then 2 else if a>=16\/c>1 then 1 else if(jF h.gr a).isSome=false then 4
  else if(kz h a).2.2.1≠v\/(c=1/\(kz h a).2.2.2.1=false) then 7 else if(ll h a).2.2.1≠0 then 4 else if fq h (kz h a).1 (kz h a).2.1=true then 7 else eB h.gr a v (c==1):=rfl
 refine S.al λR o S=>⟨rfl,S.a_ 0 rfl rfl (ab (λd=>S.en λw4 S=>?_) (λd=>⟨rfl,S.a_ 0 rfl rfl ⟨λ_=>rfl,S.a_ 0 rfl rfl ?_⟩⟩))⟩
 .have d:b>=65536:=by have:=of_decide_eq_true d;omega
  rw[az d] at l m;exact B 2 (by decide) m l S.tail
 have d: ¬ b>=65536:=by have:=of_decide_eq_false d;omega
 rw[ar d] at l m;refine ab (λd2=>S.en λw4 S=>?_) (λd2=>⟨rfl,S.a_ 0 rfl rfl ⟨rfl,S.a_ 0 rfl rfl ?_⟩⟩)
 .have d2:a>=16\/c>1:=by
   rcases Bool.or_eq_true_iff.1 d2 with O|O
   .exact .inl (by have:=of_decide_eq_true O;omega)
   .exact .inr (of_decide_eq_true O)
  rw[az d2] at l m;exact B 1 (by decide) m l S.tail
 have d2: ¬ (a>=16\/c>1):=by
  rw[DB,decide_eq_false_iff_not,decide_eq_false_iff_not] at d2;omega
 rw[ar d2] at l m;have ea:aB .i64 a=a:=a9 ⟨ha,by omega⟩;have eb:aB .i64 b=b:=a9 ⟨hb,by omega⟩;rw[ea,eb];have M:=(DM.of Q X A h T).app [(R,eO k a b c)];refine⟨rfl,rfl,ag.of _ (M.rg S) ⟨(kz h a,(jF h.gr a).isSome,()),CA (aF.gb (T:= _::T) S).1 (aF.gb (T:= _::T) S).2 W.gk a,S.al λbg w3 S=>S.cQ 0 rfl rfl rfl λw4 S=>?_⟩⟩;have ⟨t,ht⟩: ∃t,t=kz h a:=⟨_,rfl⟩;rw[<-ht] at l m S ⊢;have S:aF Q D G w0 w4 h.s ((bg,[aa t.1,aa t.2.1,aa t.2.2.1,.bool t.2.2.2.1,aa t.2.2.2.2.1])::(R,eO k a b c)::(T++bM Q X A h)):=S;have M:=M.app [(bg,[aa t.1,aa t.2.1,aa t.2.2.1,.bool t.2.2.2.1,aa t.2.2.2.2.1])];refine ab (λd3=>S.en λw5 S=>?_) (λd3=>⟨rfl,S.a_ 0 rfl rfl ⟨λ_=>rfl,S.a_ 1 rfl rfl ⟨λ_=>rfl,S.a_ 0 rfl rfl ?_⟩⟩⟩)
 .have d3:(jF h.gr a).isSome=false:=by simpa using d3
  rw[az d3] at l m;exact B 4 (by decide) m l S.tail.tail
 have d3: ¬ (jF h.gr a).isSome=false:=by
  have d3:(!(jF h.gr a).isSome)=false:=d3;intro e;rw[e] at d3;cases d3
 rw[ar d3] at l m;refine ab (λd4=>S.en λw5 S=>?_) (λd4=>⟨rfl,S.a_ 0 rfl rfl ⟨rfl,S.a_ 0 rfl rfl ?_⟩⟩)
 .have d4:t.2.2.1≠v\/(c=1/\t.2.2.2.1=false):=by
   simpa only[Dl,Da,bne_iff_ne,beq_iff_eq,HD] using d4
  rw[az d4] at l m;exact B 7 (by decide) m l S.tail.tail
 have d4: ¬ (t.2.2.1≠v\/(c=1/\t.2.2.2.1=false)):=by
  intro e;have:(t.2.2.1 != v||c==1&& !t.2.2.2.1)=true:=by
   simpa only[Dl,Da,bne_iff_ne,beq_iff_eq,HD] using e
  exact absurd (this.symm.trans d4) (by decide)
 rw[ar d4] at l m;have hQ:ll h a=db h.g h.s t.1 t.2.1:=by rw[ht];rfl
 rw[hQ] at l m;refine rD M S I t.1 t.2.1 λw5 S=>?_;refine ab (λd5=>S.en λw6 S=>?_) (λd5=>⟨rfl,S.a_ 0 rfl rfl ⟨rfl,S.a_ 0 rfl rfl ?_⟩⟩)
 .rw[az (by simpa using d5)] at l m;exact B 4 (by decide) m l S.tail.tail
 have d5:(db h.g h.s t.1 t.2.1).2.2.1=0:=by simpa using d5
 rw[ar (λe=>e d5)] at l m;have yp:=(BU d5).1;have hqr:=uv h.g h.s t.1 t.2.1;refine⟨_,CB M S W I yp t.2.1,?_⟩;rw[qp W yp];refine ab (λd6=>S.en λw6 S=>?_) (λd6=>⟨rfl,rfl,ag.of _ (M.rg S) ⟨rfl,S.a_ 1 rfl rfl ?_⟩⟩)
 .rw[az d6] at l m;exact B 7 (by decide) m l S.tail.tail
 rw[ar (by rw[d6];decide)] at l m;refine aF.Y' (T:= _:: _::T) S W a v (c==1) λw6 S=>?_;refine ab (λd7=>S.en λw7 S=>?_) (λd7=>?_)
 .have d7:eB h.gr a v (c==1)≠0:=by simpa using d7
  rw[az d7] at l;have e:de h.gr a v (c==1)=h.gr:=ar d7;rw[e] at S;exact B _ d7 m l S.tail.tail
 have d7:eB h.gr a v (c==1)=0:=by simpa using d7
 rw[ar (λe=>e d7)] at l;rw[d7] at m;have ⟨ki,U⟩: ∃ki,ki=de h.gr a v (c==1):=⟨_,rfl⟩;have hgl:ki.length=h.gr.length:=by rw[U];exact we _ _ _ _
 have Mu:kf ki:=by rw[U];exact W.gk.take _ _ _
 have W1:gS A (cY h ki):=W.cY hgl Mu;rw[<-U] at S;have J:(cY h ki).g v.toNat=some x:=z;have M1:DM Q X A (cY h ki).g ((bg,[aa t.1,aa t.2.1,aa t.2.2.1,.bool t.2.2.2.1,aa t.2.2.2.2.1])::(R,eO k a b c)::(T++bM Q X A (cY h ki))):=(DM.of Q X A (cY h ki) T).app [_, _];have ⟨j,E⟩:=M1.pK (v:=v) Z;have E:((bg,[aa t.1,aa t.2.1,aa t.2.2.1,.bool t.2.2.2.1,aa t.2.2.2.2.1])::(R,eO k a b c)::(T++bM Q X A (cY h ki)))[j]? =some ((A v.toNat).bt,iV Q v (aY h.g v) false):=E;refine⟨rfl,rfl,M1.gt S N H J ⟨rfl,S.a_ 1 rfl rfl ?_⟩⟩;have ec:ay .i64 1 (dk .i64 2 (aB .i64 c))=qH c:=by
  have:c=0\/c=1:=by omega
  rcases this with rfl|rfl<;>decide
 rw[ec];have ⟨f,hf⟩: ∃f,f=(db h.g h.s t.1 t.2.1).1:=⟨_,rfl⟩;have A1:(ll h a).1=f:=by rw[hQ,hf]
 rw[<-hf] at l ⊢;refine S.aaG j E (g:=gh) (λ_=>⟨I.inv,I.Bh Z⟩) b f (qH c) λw7 S=>?_;refine ab (λd8=>⟨rfl,rfl,ag.of _ (M1.rg S) ?_⟩) (λd8=>⟨rfl,rfl,ag.of _ (M1.rp S) ?_⟩)
 .have d8:iW h.s (aY h.g v) false b f (qH c)≠0:=by simpa using d8
  refine aF.OA (h:=bz (cY h ki) (js h.s v (aY h.g v) false b f (qH c))) (A:=A) (T:= _:: _::T) S (W1.bz _) a v λw8 S=>S.en λw9 S=>?_;have P:gW h v a b c=cY (bz (cY h ki) (js h.s v (aY h.g v) false b f (qH c))) (dj ki a v):=by
   unfold gW;rw[ar (by rw[m];decide),ar (by rw[l];exact d8)];unfold yY;rw[A1, <-U];rfl
  rw[P,l] at kk;exact kk A w9 ((W1.bz _).cY (kM _ _ _) (Mu.back _ _)) S.tail.tail
 have d8:iW h.s (aY h.g v) false b f (qH c)=0:=by simpa using d8
 have Ds:=I.acF Z z d8;rw[<-W.at z b] at Ds;rw[d8] at l;refine S.aaL f 1 (by decide) λw8 S=>?_;have ⟨s1,EX⟩: ∃s1:WD,s1=((js h.s v (aY h.g v) false b f (qH c)).1,eC (js h.s v (aY h.g v) false b f (qH c)).2 f (fA 1)):=⟨_,rfl⟩;have S:aF Q D G w0 w8 s1 ((bg,[aa t.1,aa t.2.1,aa t.2.2.1,.bool t.2.2.2.1,aa t.2.2.2.2.1])::(R,eO k a b c)::(T++bM Q X A (cY h ki))):=by rw[EX];exact S
 have S:=S.tail.tail;have M1:=DM.of Q X A (cY h ki) T;have ⟨t1,t2,t3⟩:=W.tk z;have htl:=Ta W I z;have L:(A v.toNat).ts.2.1=(A v.toNat).tk.length:=by rw[t3.1,B1]
 have Su:((A v.toNat).tk.map tT).length=(A v.toNat).tk.length:=B1 _;have XL:(A v.toNat).tk.length<=(A v.toNat).ts.2.2:=by rw[<-Su];exact t3.2.1
 have ⟨p,hp⟩: ∃p,p=(A v.toNat).tk:=⟨_,rfl⟩;rw[<-hp] at t1 t2 t3 htl L Su XL Ds;clear E M;have P:gW h v a b c={bz (cY h ki) s1 with g:=bA h.g v.toNat (some {x with tk:=l_ (b,a,f) x.tk})}:=by
  unfold gW;rw[ar (by rw[m];decide),az l];unfold jA;rw[A1, <-U,z, <-EX];rfl
 rw[P,l] at kk;refine⟨λn u w'=> ∃(i:Nat) (Ls:List (Nat×List AG)),u.2.1=(i:Int)/\i<=p.length/\n+i=p.length/\vz eT u.1 ((p.take i).map tT) Ls/\(∀j y,j<i->p[j]? =some y->y.1<b)/\aF Q D G w0 w' s1 (Ls++(T++bM Q X A (cY h ki))),
  ⟨p.length,λw9 h9=>⟨0,[],rfl,H7 _,rfl,vz.nil eT,λj y E=>absurd E (MM _),S.ext h9⟩⟩,?_⟩
 clear S;rintro n ⟨⟨z1,z2,z3⟩,i',u⟩ w9 ⟨i,Ls,ei,hi,hn,hS,gL,S⟩;dsimp only at ei hS ⊢;subst ei;have M2:=M1.app Ls;have e1:ay .i64 (i:Int) 1=((i+1:Nat):Int):=by rw[ao (by omega) (by omega)];rfl
 rw[e1];have mr: ∀{iC:List (Nat×List AG)}, ∀y∈(A v.toNat).rows,y∈iC++(T++bM Q X A (cY h ki)):=λ{iC} y F=>B2 _ (M1.rows (i:=v.toNat) (by omega) J y F);refine⟨rfl,rfl,M2.VP S N H J ⟨λ_=>rfl,λ_=>rfl,ag.of _ (M2.rl S) ⟨λ_=>⟨rfl,by omega,by show v<((17:Nat):Int);omega⟩,ag.of _ (M2.rc S ⟨by omega,H⟩) ⟨λ_=>rfl,λ_=>rfl,ag.of _ (M2.rs S (by omega) J) ?_⟩⟩⟩⟩;rw[L];have Wi:(p.take i).length=i:=by rw[DS];omega
 have fin:(∀y,p[i]? =some y->b<y.1)->aH w9 ⟨[aa b,aa a,aa f]⟩ 181 λ(b:Nat) (o:A2)=> ∀(w1:A2),Ext o w1->nm w1 181 3 24 ⟨[aa 0,aa 0,aa 0]⟩ (z1,z2,z3) (some ⟨b,0,none⟩,1,1) λ(r:Option AE×Nat×Nat) (o:A2)=>
  (some (⟨X.hb,0,none⟩:AE)).isSome=true/\(some (⟨X.hb,0,none⟩:AE)).isSome=true/\ag o none (ad (ae X.hb) 4) bX λ(x:Option AE×Nat×Nat)=>(x.1.isSome=true/\0<=v/\v<(x.2.1:Int))/\ag o none (ad x.1 (v.toNat*1)) bF λ(x:Option AE)=>x.isSome=true/\x.isSome=true/\ag o none (ad x 1) bX λ(x:Option AE×Nat×Nat)=>
   (0<=(i:Int)/\(i:Int)<=(x.2.1:Int)/\(x.2.1:Int)<=(x.2.2:Int)/\(x.2.2:Int)<=(x.2.2:Int))/\ ∀(w1:A2),Ext o w1->nm w1 181 3 24 ⟨[aa 0,aa 0,aa 0]⟩ (r.1,r.2.1,r.2.2)
    ((if((x.2.2:Nat):Int).toNat=((i:Nat):Int).toNat then x.1 else ad x.1 (((i:Nat):Int).toNat*3)),(((x.2.1:Nat):Int).toNat - ((i:Nat):Int).toNat),((x.2.2:Nat):Int).toNat - ((i:Nat):Int).toNat) λ(r:Option AE×Nat×Nat) (o:A2)=>
    (some (⟨X.hb,0,none⟩:AE)).isSome=true/\(some (⟨X.hb,0,none⟩:AE)).isSome=true/\ag o none (ad (ae X.hb) 4) bX λ(x:Option AE×Nat×Nat)=>(x.1.isSome=true/\0<=v/\v<(x.2.1:Int))/\ag o none (ad x.1 (v.toNat*1)) bF λ(x:Option AE)=>x.isSome=true/\x.isSome=true/\
     aw o (ad x 1) [.slice r.1 r.2.1 r.2.2] λ(o:A2)=>ak o λ(w1:A2)=>K 0 w1:=by
  intro hgt;refine S.al λbc np S=>λl6 Ax=>?_;have S:=S.ext Ax;refine S.aaM (t:=(b,a,f)) hS (by rw[B1,Wi];omega) λs2 HO rX HN S=>?_;have M3:=M1.app HO;refine⟨rfl,rfl,M3.VP S N H J ⟨⟨by omega,by rw[L];omega,by rw[L];omega,Ff _⟩,λE7 WI=>?_⟩⟩;have S:=S.ext WI;have hq:=S.suffix t3 (mr (iC:=HO)) (i:=i) (by rw[Su];exact hi);refine aF.FM (e:=eT) S HN rfl (ys:=(p.map tT).drop i) ?_ hq rfl rfl (by simp only[B3,B1,DS,Du,H4,MD];omega) λs3 VN Fi VC S=>?_
  .show(((A v.toNat).ts.2.1:Nat):Int).toNat - ((i:Nat):Int).toNat= _;rw[L,Du,Su];omega
  have M4:=M1.app VN;have VC:vz eT s3 ((p.take i++((b,a,f)::p.drop i)).map tT) VN:=by
   have e:(p.take i++((b,a,f)::p.drop i)).map tT=(p.take i).map tT++[tT (b,a,f)]++(p.map tT).drop i:=by
    rw[FA,List.map_cons,List.map_drop,Df];rfl
   rw[e];exact VC
  refine⟨rfl,rfl,M4.gw S N H ⟨rfl,rfl,?_⟩⟩;have hpm:(p.take i++((b,a,f)::p.drop i)).Perm (l_ (b,a,f) x.tk):=by
   refine .trans ?_ (lY _ _).symm;refine Fk.trans (.cons _ ?_);rw[J3];exact t1
  have Xa:=Hu t2 (t:=(b,a,f)) gL hgt;refine aF.DH (h:=bz (cY h ki) s1) (VO:=l_ (b,a,f) x.tk) (show v.toNat<17 by omega) (y:=x) z S VC λMp S=>S.en λMq S=>kk _ Mq ?_ S;exact gS.DH (W1.bz s1) (by omega) (y:=x) VC hpm Xa
 by_cases hip:i<p.length
 .have ⟨y,F⟩: ∃y,p[i]? =some y:=⟨_,DC hip⟩;have ⟨r1,r2⟩:=(S.ZJ t3 mr) i (tT y) (by rw[Ce,F];rfl);have hyb:y.1≠b:=λe=>by
   have:=kL.1 Ds y (E5 F);exact this e
  refine⟨λ_=>⟨r1,by omega,by omega⟩,λ_=>kJ r1 _,ag.of y.1 (by rw[DA];exact jl r2 (by decide) rfl) ?_⟩;refine ab (λV=>⟨rfl,rfl,M2.VP S N H J ⟨⟨r1,by omega,by rw[L];omega⟩,ag.of (tT y) (by rw[DA];exact r2) (S.al λbc np S=>λl6 Ax=>?_)⟩⟩) (λV=>?_)
  .have S:=S.ext Ax;have hyl:y.1<b:=by
    rw[Da] at V;exact of_decide_eq_true V.2
   refine S.aaM (t:=y) hS (by rw[B1,Wi];omega) λs2 HO rX HN S=>λE7 WI=>⟨n - 1,by omega,i+1,HO,rfl,by omega,by omega,?_,λj u E q=>?_,S.ext WI⟩
   .have e:(p.take (i+1)).map tT=(p.take i).map tT++[tT y]:=by rw[Hr,F,FA];rfl
    rw[e];exact HN
   .by_cases ej:j=i
    .subst ej;rw[F] at q;cases q;exact hyl
    .exact gL j u (by omega) q
  .refine fin λu q=>?_;rw[F] at q;cases q;rw[decide_eq_true (by omega),Bool.true_and] at V;have:=of_decide_eq_false V;omega
 .have e:decide ((i:Int)<(p.length:Int))=false:=decide_eq_false (by omega);rw[e];refine⟨λY=>(by cases Y),λY=>(by cases Y),⟨0,λY=>(by cases Y),an rfl (fin λu q=>?_)⟩⟩;rw[Jc (by omega)] at q;cases q
end
open Po (uL)
section
variable {Q:Sys} {X:DX} {D G:List Nat} {w0 w:A2} {h:HS} {T:List (Nat×List AG)} {L0:List (Nat×List AG)} {A:Nat->DG} {g:Nat->Option GV} {s:WD} {gh:Gh}
theorem yj (Z:List (Nat×List AG)):(T++sM Q X A h Z).Perm ((X.lb,bZ A++X.ji)::(T++((X.hb,Fo Q X)::((X.gb,g7 X.gr h.gr.length X.gc)::(X.gr,flat eG h.gr++X.ml)::(uL X.qb X.ql X.qc X.qr X.gJ 4 h.po++Z))))):=by
 show(T++([(X.hb,Fo Q X)]++([(X.lb,bZ A++X.ji)]++([(X.gb,g7 X.gr h.gr.length X.gc),(X.gr,flat eG h.gr++X.ml)]++(uL X.qb X.ql X.qc X.qr X.gJ 4 h.po++Z))))).Perm ([(X.lb,bZ A++X.ji)]++(T++([(X.hb,Fo Q X)]++([(X.gb,g7 X.gr h.gr.length X.gc),(X.gr,flat eG h.gr++X.ml)]++(uL X.qb X.ql X.qc X.qr X.gJ 4 h.po++Z)))));refine .trans ?_ (C7 _ _ _);exact .append_left _ (C7 _ _ _)
theorem Ar {i:Nat} (hi:i<17) (a:DG) (r:List AG):(bZ A++r).set (0+i*1) (ah (ae a.bg))=bZ (ow A i a)++r:=by
 have b: ∀A:Nat->DG,(bZ A).length=17:=λA=>by unfold bZ;rw[B1,I1]
 rw[show 0+i*1=i by omega,List.set_append_left _ _ (by rw[b];exact hi)];congr 1;apply List.ext_getElem?;intro j;by_cases c:j<17
 .have e:(bZ (ow A i a))[j]? =some (ah (some ⟨(ow A i a j).bg,0,none⟩)):=by
   unfold bZ;rw[Ce,I8 c];rfl
  rw[e];unfold ow;by_cases e:i=j
  .subst e;rw[FC (by rw[b];exact hi),az rfl]
  .rw[M9 e,ar (λd=>e d.symm)];unfold bZ;rw[Ce,I8 c];rfl
 .rw[Jc (by rw[FS,b];omega),Jc (by rw[b];omega)]
theorem aF.lr {i:Nat} (hi:i<17) {a:DG} {y:Option GV} (S:aF Q D G w0 w s (gf Q a i y++(T++bM Q X A h))) {K:A2->Prop}
 (k: ∀b,aF Q D G w0 b s (T++bM Q X (ow A i a) {h with g:=bA h.g i y})->K b):aw w (ad (ae X.lb) (i*1)) [ah (ae a.bg)] K:=by
 have ⟨Z,e⟩: ∃Z,Z=eR Q A h.g ((AT 17).erase i):=⟨_,rfl⟩;have ⟨R,f⟩: ∃R,R=T++((X.hb,Fo Q X)::((X.gb,g7 X.gr h.gr.length X.gc)::(X.gr,flat eG h.gr++X.ml)::(uL X.qb X.ql X.qc X.qr X.gJ 4 h.po++Z))):=⟨_,rfl⟩;have P:=kP (Q:=Q) (X:=X) (h:=h) (A:=A) (T:=T) hi;have l:=yj (Q:=Q) (X:=X) (h:=h) (A:=A) (T:=T) Z;rw[<-e] at P;rw[<-f] at l;have S:aF Q D G w0 w s ((X.lb,bZ A++X.ji)::(gf Q (A i) i (h.g i)++(gf Q a i y++R))):=by
  refine S.perm ?_;have p:(gf Q a i y++(T++bM Q X A h)).Perm (gf Q (A i) i (h.g i)++(gf Q a i y++(T++sM Q X A h Z))):=(P.append_left _).trans (C7 _ _ _);have q:(gf Q (A i) i (h.g i)++(gf Q a i y++(T++sM Q X A h Z))).Perm (gf Q (A i) i (h.g i)++(gf Q a i y++([(X.lb,bZ A++X.ji)]++R))):=(l.append_left _).append_left _;have r:(gf Q (A i) i (h.g i)++(gf Q a i y++([(X.lb,bZ A++X.ji)]++R))).Perm ([(X.lb,bZ A++X.ji)]++(gf Q (A i) i (h.g i)++(gf Q a i y++R))):=((C7 _ _ _).append_left _).trans (C7 _ _ _);exact((p.trans q).trans r).symm
 have z:(bZ A++X.ji).length>=17:=by rw[B3];unfold bZ;rw[B1,I1];omega
 refine S.oB 0 rfl rfl (by rw[Nat.blt_eq];omega) λb S=>k b ?_;have S:aF Q D G w0 b s ((X.lb,(bZ A++X.ji).set (0+i*1) (ah (ae a.bg)))::(gf Q (A i) i (h.g i)++(gf Q a i y++R))):=S;rw[Ar hi] at S;have S:=S.sub (L1:=(X.lb,bZ (ow A i a)++X.ji)::(gf Q a i y++R)) ((Do _ _).cons_cons _);have ⟨A',c⟩: ∃A',A'=ow A i a:=⟨_,rfl⟩;have ⟨h',d⟩: ∃h':HS,h'={h with g:=bA h.g i y}:=⟨_,rfl⟩;have t:A' i=a:=by rw[c];exact rE _ _ _
 have u:h'.g i=y:=by rw[d];exact dZ _ _ _
 have v:eR Q A' h'.g ((AT 17).erase i)=Z:=by rw[e];exact qx λj m=>by rw[c,d];exact⟨ar m,ar m⟩
 have n:=kP (Q:=Q) (X:=X) (h:=h') (A:=A') (T:=T) hi;have o:=yj (Q:=Q) (X:=X) (h:=h') (A:=A') (T:=T) Z;have x:T++((X.hb,Fo Q X)::((X.gb,g7 X.gr h'.gr.length X.gc)::(X.gr,flat eG h'.gr++X.ml)::(uL X.qb X.ql X.qc X.qr X.gJ 4 h'.po++Z)))=R:=by rw[f,d]
 rw[x] at o;rw[t,u,v] at n;rw[<-c, <-d];rw[<-c] at S;refine S.perm (n.trans ?_);exact(o.append_left _).trans (C7 _ [(X.lb,bZ A'++X.ji)] _)
theorem gS.lr (W:gS A h) {i:Nat} (hi:1<=i/\i<=16) {a:DG} {y:Option GV} (c: ∀v,y=some v->a.tk.Perm v.tk/\a.tk.Pairwise (λa b=>a.1<b.1)/\vz eT a.ts (a.tk.map tT) a.rows):gS (ow A i a) {h with g:=bA h.g i y}:=by
 refine⟨λ{j v} hv=>?_,λ{j v} hv=>?_,W.gl,W.pt,W.gk⟩
 .have hv:bA h.g i y j=some v:=hv;unfold bA at hv;by_cases e:j=i
  .omega
  .rw[ar e] at hv;exact W.jI hv
 .have hv:bA h.g i y j=some v:=hv;unfold bA at hv;unfold ow;by_cases e:j=i
  .rw[az e] at hv ⊢;exact c v hv
  .rw[ar e] at hv ⊢;exact W.tk hv
theorem Hv (W:gS A h) (S:aF Q D G w0 w h.s (T++bM Q X A h)) (x: ¬ (h.s.1.length:Int)<16*(h.s.2.length:Int)) {K:RS->A2->Prop}
 (kk: ∀A' r,gS A' (jQ h)->aF Q D G w0 r (jQ h).s (T++bM Q X A' (jQ h))->K ((if nR h=0 then yZ h else 0),nR h,()) r):
 aA AC 67 (.el (.agg gm)) [ah (ae X.hb)] w K:=by
 refine S.go λw1 S=>aQ (C:=nJ) (b_:=qE) (AR (Hn _ w1 K) ?_);refine S.al λb1 P S=>?_;have M:=(DM.of Q X A h T).app [(b1,[av 0,aa 0])];refine⟨λn q w'=>(1<=q.1/\q.1<=17/\(n:Int)=17 - q.1)/\(∀u:Nat,1<=u->(u:Int)<q.1->(h.g u).isSome)/\aF Q D G w0 w' h.s ((b1,[av 0,aa 0])::(T++bM Q X A h)),⟨16,λz B=>⟨by decide,λu c k=>(by dsimp only at k;omega),S.ext B⟩⟩,?_⟩;clear S;rintro n ⟨q,u⟩ z ⟨⟨E,F,H⟩,l,S⟩;dsimp only at E F H l ⊢;have ⟨i,hi⟩: ∃i:Nat,q=(i:Int):=⟨q.toNat,by omega⟩;subst hi;refine ab (λd=>?_) (λd=>S.res (j:=0) rfl 0 3 λm S=>?_)
 .have d:(i:Int)<17:=of_decide_eq_true d;have I:=M.bg S (i:=i) (by omega);refine⟨rfl,rfl,ag.of _ (M.rl S) ⟨⟨rfl,by omega,by show(i:Int)<((17:Nat):Int);omega⟩,ag.of _ (M.rc S (v:=(i:Int)) ⟨by omega,by omega⟩) ⟨rfl,rfl,ag.of (h.g i).isSome ?_ ?_⟩⟩⟩
  .rw[DA];refine HP I ?_;cases h.g i<;>rfl
  cases t:h.g i with
  |some y=>
   refine an rfl λm J=>⟨n - 1,by omega,⟨?_,?_,?_⟩,λu c k=>?_,S.ext J⟩
   .rw[ao (by omega) (by omega)];omega
   .rw[ao (by omega) (by omega)];omega
   .rw[ao (by omega) (by omega)];omega
   .rw[ao (by omega) (by omega)] at k;by_cases e:u=i
    .subst e;rw[t];rfl
    .exact l u c (by omega)
  |none=>
   have f:pn h.g=some i:=td.2 ⟨by omega,t,λu c k=>l u c (by omega)⟩;have cE:nR h=oZ h.s (i:Int):=by unfold nR;rw[f]
   have L:yZ h=(i:Int):=by unfold yZ;rw[f]
   have o:jQ h=if oZ h.s (i:Int)=0 then{h with s:=g8 h.s (i:Int) λ_=>0,g:=bA h.g i (some ⟨fb h.s (i:Int),[]⟩)} else h:=by unfold jQ;rw[f]
   have N:aB .u64 (i:Int)=(i:Int):=cN ⟨by omega,by omega⟩;rw[cE,L,o] at kk;refine ax rfl ⟨rfl,rfl,ag.of _ (M.rm S) ⟨rfl,rfl,ag.of _ (M.rp S) ?_⟩⟩;refine S.MR (i:Int) (λb bt m S=>?_) (λb bt m S=>?_) x
   .rw[ar b,ar b] at kk;have e:g8 h.s (i:Int) (λ_=>0)=h.s:=yf b;rw[e] at S;exact ax (by simpa using b) (S.tail.res (j:=0) rfl 0 _ λp S=>kk A p W S.tail)
   .rw[az b,az b,b] at kk;have M:=M.app [(bt,iV Q (i:Int) (fb h.s (i:Int)) false)];refine an rfl ⟨rfl,rfl,ag.of _ (M.rl S) (S.al λbg p S=>⟨⟨rfl,by omega,by show(i:Int)<((17:Nat):Int);omega⟩,?_⟩)⟩;rw[DA,N];have S:aF Q D G w0 p (g8 h.s (i:Int) λ_=>0) (gf Q ⟨bg,bt,(none,0,0),[],[]⟩ i (some ⟨fb h.s (i:Int),[]⟩)++((b1,[av 0,aa 0])::T++bM Q X A h)):=S;refine aF.lr (T:=(b1,[av 0,aa 0])::T) (a:=⟨bg,bt,(none,0,0),[],[]⟩) (show i<17 by omega) S λR S=>?_;refine aF.res (j:=0) S rfl _ _ λO S=>kk _ O ?_ S.tail;exact gS.lr (W.bz _) (by omega) λv hv=>by cases hv;exact⟨.refl _,.nil,vz.nil eT⟩
 .have d: ¬ (i:Int)<17:=of_decide_eq_false d;have f:pn h.g=none:=Al.2 λu c k=>l u c (by omega);have cE:nR h=3:=by unfold nR;rw[f]
  have o:jQ h=h:=by unfold jQ;rw[f]
  rw[cE,o,ar (by decide)] at kk;exact kk A m W S.tail
end
end Go.Proofs.YteeflilbnoknnaaGreat
