import Derived.Test.YteeflilbnoknnaaGreatHAB
/-! What the statement leans on: texts joined and shortened by a program of mine. -/
set_option linter.unusedVariables false
set_option linter.unusedSimpArgs false
open Go renaming World->A2,Addr->AE,Value->AG,MapEntry->AU,TypeId->DS
open Go.Proofs.Tryz renaming prog->AC
open Eq renaming mpr->AR
open And renaming intro->AT
open List renaming replicate->AZ,getElem?_eq_some_iff->B1,getElem?_eq_getElem->B2,sublist_cons_self->B3,length_cons->B4,length_nil->B5,getD_eq_getElem?_getD->C7,append_nil->C9,mem_of_getElem?->Cs,set_set->Ct,mem_append_right->Dl,mem_cons_self->Dx,sublist_append_left->E4,getElem?_set_self->E5,getElem?_of_mem->FA,length_set->FC,ext_getElem?->FJ,getElem?_map->FS,mem_cons->Fe,mem_cons_of_mem->Fh,mem_append_left->Fk,getElem?_set_ne->Fm,mem_map->Fz,length_take->GS,set_append_left->H2,take_of_length_le->H4,range->H5,mem_or_eq_of_mem_set->H6,drop_eq_nil_of_le->H7,drop_drop->H8,length_append->HQ,take_add_one->HY,getElem?_eq_none->Hb,range_succ->Hr,getElem?_replicate->Hz,nodup_nil->I1,length_map->I8,cons_append->I_,take_append_drop->IR,take_append_of_le_length->In,take_length->J3
open Go.IntKind renaming i64->Ce
open Bool renaming or_eq_false_iff->Ch,or_eq_true->DA,and_eq_true->DB,not_eq_true'->Da,and_eq_false_iff->Dm,false_eq_true->Dn,true_eq_false->Do,not_eq_false'->Dt,eq_iff_iff->Gi
open Int renaming toNat->DC,le_refl->H9
open Nat renaming le_refl->Df,zero_add->Ff,le_trans->HB,add_zero->HD,eq_of_beq_eq_true->HF,ne_of_beq_eq_false->HH,min_eq_left->Jc
open Go.Instr renaming findNow->Du,sameNow->Jf
open Array renaming getElem?_eq_some_iff->FB
namespace Go.Proofs.YteeflilbnoknnaaGreat
set_option maxRecDepth 100000
open Go.RX
theorem AO {L Ls:List (Nat×List AG)} {k:Nat} {x:Nat×List AG} (h:L[k]? =some x):(L++Ls)[k]? =some x:=by
 grind
theorem nq.len {Ls:List (Nat×List AG)} {sl:Option AE×Nat×Nat} {xs:List Int} (h:nq Ls sl xs):sl.2.1=xs.length:=by
 rcases h with ⟨rfl,rfl,rfl⟩|⟨bs,c,rest,rfl, _⟩
 .rfl
 .rfl
theorem nq.rd {D G:List Nat} {w0 w:A2} {L Ls:List (Nat×List AG)} {sl:Option AE×Nat×Nat} {xs:List Int} (h:nq Ls sl xs) (H:aJ D G w0 w L) (a: ∀y∈Ls,y∈L) {i:Nat} {x:Int} (b:xs[i]? =some x):sl.1.isSome=true/\bP w (ad sl.1 (i*1)) aq x:=by
 rcases h with ⟨rfl,rfl,rfl⟩|⟨bs,c,rest,rfl,rfl, _⟩
 .grind
 .exact⟨rfl,dK (H.d_ _ (a _ Dx)) b⟩
section
variable {D G:List Nat} {w0 w:A2} {L:List (Nat×List AG)} {bg br c:Nat} {gs:List GT} {rest:List AG}
theorem FU {Ls:List (Nat×List AG)} {b2:Nat} {x:Int} {xs:List Int} {sl:Option AE×Nat×Nat} (H:aJ D G w0 w ((b2,[aa x])::(L++Ls))) (b:nq Ls sl xs) (hb:xs.length<=900000) {t:DS}
 {R:Option AE×Nat×Nat->A2->Prop} (k: ∀iC a w',nq iC a (xs++[x])->aJ D G w0 w' (L++iC)->R a w'):
 nm w t 1 8 ⟨[aa 0]⟩ sl (some ⟨b2,0,none⟩,1,1) R:=by
 refine aJ.DE (e:=eI) (H.perm (.cons _ List.perm_append_comm)) (by simp) b rfl rfl rfl (by grind) λbs c rest w' d f g=>k _ _ w' (.inr ⟨bs,c,rest,rfl,rfl,d,f⟩) (g.perm ?_);simp
theorem J5 (H:aJ D G w0 w L) (j s:Nat) (h:L[j]? =some (bg,g7 br gs.length c)) (t:L[s]? =some (br,flat eG gs++rest)) (h0:0<gs.length) (F:gs.length<=64) {K:Option AE×Nat×Nat->A2->Prop}
 (k: ∀sl Ls a,nq Ls sl (cI gs dN gs.length)->aJ D G w0 a (L++Ls)->K sl a):
 aA AC 282 di [ah (ae bg),.func (.func 173) #[] #[]] w K:=by
 refine aA.go H λw1 H=>aj (C:=G3) (b_:=r_) (AR (JC _ w1 K) ?_);have y: ∀{w:A2} {L1:List (Nat×List AG)},aJ D G w0 w (L++L1)->bq w bg (g7 br gs.length c)/\bq w br (flat eG gs++rest):=λ{w L1} H=>⟨H.get (AO h),H.get (AO t)⟩;refine⟨_,nW (H.get h) h0,an rfl ⟨rfl,rfl,ag.bj j H h rfl ?_⟩⟩;refine⟨λn v w'=> ∃(m:Nat) (Ls:List (Nat×List AG)),v.2.1=(m:Int)/\n+m=gs.length/\nq Ls v.1 (cI gs dN m)/\aJ D G w0 w' (L++Ls),⟨gs.length,λa h2=>⟨0,[],rfl,rfl,.inl ⟨rfl,rfl,rfl⟩,by rw[C9];exact H.ext h2⟩⟩,?_⟩;clear H;rintro n ⟨sl,v,u⟩ a ⟨m,Ls,e,I,f,H⟩;dsimp only at e f ⊢;subst e;refine ab (λi=>?_) (λi=>?_)
 .have l:m<gs.length:=by simpa using i
  have p:gs[m]? =some (gs.getD m zG):=by
   rw[C7,B2 l];rfl
  have z:ay .i64 (m:Int) 1=((m+1:Nat):Int):=by rw[ao (by omega) (by omega)];omega
  have g:=mC gs dN m;have ⟨x,A⟩: ∃x,x=gs.getD m zG:=⟨_,rfl⟩;rw[<-A] at p g;rw[z];have J:=qZ gs dN m;refine⟨⟨rfl,by omega,by omega⟩,ag.of x (dK (e:=eG) (y H).2 p) (aH.go H λb q H=>aw.all 0 H rfl rfl rfl λM H=>ag.at 0 H rfl (show _=some x from rfl) ?_)⟩;refine⟨trivial,?_⟩;refine ab (λd=>aH.go H λb2 N H=>λr o=>?_) (λd=>λr o=>⟨n - 1,by omega,m+1,Ls,rfl,by omega,?_,?_⟩)
  .have d:dN x=true:=d;rw[az d] at g;have H:=H.ext o;have H:aJ D G w0 r ((b2,[aa (m:Int)])::(L++Ls)):=H.sub (.cons_cons _ (B3 _ _));refine FU H f (by omega) λiC O P B H=>λQ E=>⟨n - 1,by omega,m+1,iC,rfl,by omega,?_,H.ext E⟩;rw[g];exact B
  .have d: ¬ dN x=true:=by
    have d:dN x=false:=d;rw[d];decide
   rw[g,ar d,C9];exact f
  .exact(H.sub (B3 _ _)).ext o
 .have l:m=gs.length:=by
   have: ¬ m<gs.length:=by simpa using i
   omega
  subst l;exact ak.go H λq H=>k sl Ls q f H
theorem J6 (H:aJ D G w0 w L) (j z:Nat) (h:L[j]? =some (bg,g7 br gs.length c)) (A:L[z]? =some (br,flat eG gs++rest)) (h0:0<gs.length) (M:gs.length<=64) {bc:Nat} {o q t:Int} (hc:(bc,[aa o,aa q,aa t,.bool false,aa 0])∈L) {K:Option AE×Nat×Nat->A2->Prop}
 (k: ∀sl Ls a,nq Ls sl (cI gs (fw o q t) gs.length)->aJ D G w0 a (L++Ls)->K sl a):
 aA AC 282 di [ah (ae bg),.func (.func 296) #[] #[ah (ae bc)]] w K:=by
 refine aA.go H λw1 H=>aj (C:=G3) (b_:=sa) (AR (JD _ _ w1 K) ?_);have B: ∀{w:A2} {L1:List (Nat×List AG)},aJ D G w0 w (L++L1)->bq w bg (g7 br gs.length c)/\bq w br (flat eG gs++rest):=λ{w L1} H=>⟨H.get (AO h),H.get (AO A)⟩;refine⟨_,nW (H.get h) h0,an rfl ⟨rfl,rfl,ag.bj j H h rfl ?_⟩⟩;refine⟨λn v w'=> ∃(m:Nat) (Ls:List (Nat×List AG)),v.2.1=(m:Int)/\n+m=gs.length/\nq Ls v.1 (cI gs (fw o q t) m)/\aJ D G w0 w' (L++Ls),⟨gs.length,λa h2=>⟨0,[],rfl,rfl,.inl ⟨rfl,rfl,rfl⟩,by rw[C9];exact H.ext h2⟩⟩,?_⟩;clear H;rintro n ⟨sl,v,u⟩ a ⟨m,Ls,e,N,f,H⟩;dsimp only at e f ⊢;subst e;refine ab (λi=>?_) (λi=>?_)
 .have l:m<gs.length:=by simpa using i
  have r:gs[m]? =some (gs.getD m zG):=by
   rw[C7,B2 l];rfl
  have E:ay .i64 (m:Int) 1=((m+1:Nat):Int):=by rw[ao (by omega) (by omega)];omega
  have g:=mC gs (fw o q t) m;have ⟨x,F⟩: ∃x,x=gs.getD m zG:=⟨_,rfl⟩;rw[<-F] at r g;rw[E];have O:=qZ gs (fw o q t) m;refine⟨⟨rfl,by omega,by omega⟩,ag.of x (dK (e:=eG) (B H).2 r) (aH.go H λb s H=>aw.all 0 H rfl rfl rfl λP H=>ag.at 0 H rfl (show _=some x from rfl) ?_)⟩;refine⟨_,TR (H.d_ _ (Fh _ (Fk _ hc))) x,?_⟩;refine ab (λd=>aH.go H λb2 Q H=>λy p=>?_) (λd=>λy p=>⟨n - 1,by omega,m+1,Ls,rfl,by omega,?_,?_⟩)
  .have d:(fw o q t) x=true:=d;rw[az d] at g;have H:=H.ext p;have H:aJ D G w0 y ((b2,[aa (m:Int)])::(L++Ls)):=H.sub (.cons_cons _ (B3 _ _));refine FU H f (by omega) λiC R S I H=>λT J=>⟨n - 1,by omega,m+1,iC,rfl,by omega,?_,H.ext J⟩;rw[g];exact I
  .have d: ¬ (fw o q t) x=true:=by
    have d:(fw o q t) x=false:=d;rw[d];decide
   rw[g,ar d,C9];exact f
  .exact(H.sub (B3 _ _)).ext p
 .have l:m=gs.length:=by
   have: ¬ m<gs.length:=by simpa using i
   omega
  subst l;exact ak.go H λs H=>k sl Ls s f H
theorem J7 (H:aJ D G w0 w L) (j t:Nat) (i:L[j]? =some (bg,g7 br gs.length c)) (y:L[t]? =some (br,flat eG gs++rest)) (h0:0<gs.length) (I:gs.length<=64) {bc:Nat} {g:Int} (hc:(bc,[aa g])∈L) {K:Option AE×Nat×Nat->A2->Prop}
 (k: ∀sl Ls a,nq Ls sl (cI gs (l8 g) gs.length)->aJ D G w0 a (L++Ls)->K sl a):
 aA AC 282 di [ah (ae bg),.func (.func 283) #[] #[ah (ae bc)]] w K:=by
 refine aA.go H λw1 H=>aj (C:=G3) (b_:=sd) (AR (JE _ _ w1 K) ?_);have z: ∀{w:A2} {L1:List (Nat×List AG)},aJ D G w0 w (L++L1)->bq w bg (g7 br gs.length c)/\bq w br (flat eG gs++rest):=λ{w L1} H=>⟨H.get (AO i),H.get (AO y)⟩;refine⟨_,nW (H.get i) h0,an rfl ⟨rfl,rfl,ag.bj j H i rfl ?_⟩⟩;refine⟨λn v w'=> ∃(m:Nat) (Ls:List (Nat×List AG)),v.2.1=(m:Int)/\n+m=gs.length/\nq Ls v.1 (cI gs (l8 g) m)/\aJ D G w0 w' (L++Ls),⟨gs.length,λa h2=>⟨0,[],rfl,rfl,.inl ⟨rfl,rfl,rfl⟩,by rw[C9];exact H.ext h2⟩⟩,?_⟩;clear H;rintro n ⟨sl,v,u⟩ a ⟨m,Ls,e,J,f,H⟩;dsimp only at e f ⊢;subst e;refine ab (λl=>?_) (λl=>?_)
 .have o:m<gs.length:=by simpa using l
  have q:gs[m]? =some (gs.getD m zG):=by
   rw[C7,B2 o];rfl
  have A:ay .i64 (m:Int) 1=((m+1:Nat):Int):=by rw[ao (by omega) (by omega)];omega
  have h:=mC gs (l8 g) m;have ⟨x,B⟩: ∃x,x=gs.getD m zG:=⟨_,rfl⟩;rw[<-B] at q h;rw[A];have M:=qZ gs (l8 g) m;refine⟨⟨rfl,by omega,by omega⟩,ag.of x (dK (e:=eG) (z H).2 q) (aH.go H λb r H=>aw.all 0 H rfl rfl rfl λN H=>ag.at 0 H rfl (show _=some x from rfl) ?_)⟩;refine⟨_,Py (H.d_ _ (Fh _ (Fk _ hc))) x,?_⟩;refine ab (λd=>aH.go H λb2 O H=>λs p=>?_) (λd=>λs p=>⟨n - 1,by omega,m+1,Ls,rfl,by omega,?_,?_⟩)
  .have d:(l8 g) x=true:=d;rw[az d] at h;have H:=H.ext p;have H:aJ D G w0 s ((b2,[aa (m:Int)])::(L++Ls)):=H.sub (.cons_cons _ (B3 _ _));refine FU H f (by omega) λiC P Q E H=>λR F=>⟨n - 1,by omega,m+1,iC,rfl,by omega,?_,H.ext F⟩;rw[h];exact E
  .have d: ¬ (l8 g) x=true:=by
    have d:(l8 g) x=false:=d;rw[d];decide
   rw[h,ar d,C9];exact f
  .exact(H.sub (B3 _ _)).ext p
 .have o:m=gs.length:=by
   have: ¬ m<gs.length:=by simpa using l
   omega
  subst o;exact ak.go H λr H=>k sl Ls r f H
theorem Cp (H:aJ D G w0 w L) (a:Nat) (b:L[a]? =some (br,flat eG gs++rest)) {k:Nat} {x:GT} (c:gs[k]? =some x) {f:Nat} (d:f<5) {s:Sc} {y:s.T} (e:(match (a6 sG x)[f]? with|some v=>s.proj v|none=>none)=some y):bP w (ad (some ⟨br,k*5,none⟩) f) (.one s) y:=by
 rw[aS];refine cK (H.get b) ?_;have h:=Po.CG (ss:=sG) (rest:=rest) c d;show(match (flat eG gs++rest)[k*5+f]? with|some v=>s.proj v|none=>none)=some y
 simp_all
theorem Xw (H:aJ D G w0 w L) (a:Nat) (c:L[a]? =some (br,flat eG gs++rest)) {k:Nat} {x:GT} (b:gs[k]? =some x) {f:Nat} (d:f<5) {v:AG} (hv:v.oneCell'=true) (y:GT) (e:a6 sG y=(a6 sG x).set f v) {K:A2->Prop} (kk: ∀w1,aJ D G w0 w1 (L.set a (br,flat eG (gs.set k y)++rest))->K w1):aw w (ad (some ⟨br,k*5,none⟩) f) [v] K:=by
 have g:=(B1.1 b).1;refine aw.c_ a H c hv ?_ λw1 i=>kk w1 ?_
 .rw[Nat.blt_eq,HQ,aK];show k*5+f<gs.length*5+rest.length;omega
 .have h:=Po.vX (rest:=rest) b d e
  grind
theorem Yt (h:bq w bg (g7 br gs.length c)) (d:bq w br (flat eG gs++rest)) (h0:0<gs.length) (i:Int):
 aC AC 218 (.bu [eG,cr]) [ah (ae bg),aa i] w (λx w'=>x=(kX gs i,(jF gs i).isSome,())/\Ext w w'):=by
 refine aQ (C:=G3) (AR (Yh _ i w _) ?_);have H:=At.start [] w;refine aH.go H λb f H=>?_;have a:=H.all;refine⟨_,HW (h.ext a) (d.ext a) h0 i,?_⟩;unfold Co Cn kX;cases g:jF gs i with
 |none=>exact ax rfl (aw.all 0 H rfl rfl rfl λj H=>ak.go H λl H=>ag.at 0 H rfl (show _=some zG from rfl) ⟨rfl,H.all⟩)
 |some k=>
  have ⟨_, _, _,m, _⟩:=iu g;have n:bP f (some ⟨br,k*5,none⟩) eG (gs.getD k zG):=by
   have:=dK (e:=eG) (d.ext a) m;rw[aS,Ff] at this;exact this
  refine an rfl ⟨rfl,ag.of _ n (aw.all 0 H rfl rfl rfl λj H=>ak.go H λl H=>ag.at 0 H rfl (show _=some (gs.getD k zG) from rfl) ⟨rfl,H.all⟩)⟩
theorem PK (H:aJ D G w0 w L) (j f:Nat) (p:L[j]? =some (bg,g7 br gs.length c)) (l:L[f]? =some (br,flat eG gs++rest)) (h0:0<gs.length) (r: ∀x∈gs,0<=x.2.2.2.2.1/\x.2.2.2.2.1<=1000) (i g:Int) (b:Bool) {K:Int->A2->Prop}
 (k: ∀a,aJ D G w0 a (L.set f (br,flat eG (de gs i g b)++rest))->K (eB gs i g b) a):
 aA AC 224 aT [ah (ae bg),aa i,aa g,.bool b] w K:=by
 refine aA.go H λw1 H=>aj (C:=G3) (AR (OV _ i g b w1 K) ?_);refine⟨_,HW (H.get p) (H.get l) h0 i,?_⟩;have same:eB gs i g b≠0-> ∀{a},aJ D G w0 a L->aJ D G w0 a (L.set f (br,flat eG (de gs i g b)++rest)):=λh a H=>by
  unfold de;rw[ar h,AN l];exact H
 have e:eB gs i g b=match jF gs i with
  |none=>4
  |some k=>if((gs.getD k zG).2.2.1 != g||b&& !(gs.getD k zG).2.2.2.1)=true then 7 else if(gs.getD k zG).2.2.2.2.1=1000 then 3 else 0:=rfl
 unfold Co Cn;cases n:jF gs i with
 |none=>
  rw[n] at e;dsimp only at e;rw[e] at k same;exact ax rfl (ak.go H λa H=>k a (same (by decide) H))
 |some q=>
  have ⟨v,y,s,m, _⟩:=iu n;rw[n] at e;dsimp only at e;have ⟨x,o⟩: ∃x,x=gs.getD q zG:=⟨_,rfl⟩;rw[<-o] at e m;refine an rfl ⟨rfl,rfl,ag.of x.2.2.1 (Cp H f l m (by decide) rfl) ⟨λ_=>rfl,λ_=>rfl,ag.of x.2.2.2.1 (Cp H f l m (by decide) rfl) (ab (λd=>ak.go H λa H=>?_) (λd=>?_))⟩⟩
  .rw[az d] at e;rw[e] at k same;exact k a (same (by decide) H)
  .rw[ar (by rw[d];decide)] at e;refine⟨rfl,rfl,ag.of x.2.2.2.2.1 (Cp H f l m (by decide) rfl) (ab (λd2=>ak.go H λa H=>?_) (λd2=>?_))⟩
   .grind
   .rw[ar (by simpa using d2)] at e;have hb:=r x (Cs m);refine⟨rfl,rfl,ag.of x.2.2.2.2.1 (Cp H f l m (by decide) rfl) ⟨rfl,rfl,?_⟩⟩;rw[ao (by omega) (by omega)];refine Xw H f l m (by decide) rfl (fM x 1) rfl λa H=>ak.go H λt H=>?_;have u:de gs i g b=gs.set q (fM x 1):=by
     unfold de;rw[az e, <-s, <-o]
    rw[e,u] at k;exact k t H
end
section
variable {D G:List Nat} {w0 w:A2} {L:List (Nat×List AG)} {bg br c:Nat} {gs:List GT} {rest:List AG}
theorem PL (H:aJ D G w0 w L) (j e:Nat) (o:L[j]? =some (bg,g7 br gs.length c)) (f:L[e]? =some (br,flat eG gs++rest)) (h0:0<gs.length) (p: ∀x∈gs,0<=x.2.2.2.2.1/\x.2.2.2.2.1<=1000) (i g:Int) {K:Int->A2->Prop}
 (k: ∀a,aJ D G w0 a (L.set e (br,flat eG (dj gs i g)++rest))->K (jS gs i g) a):
 aA AC 225 aT [ah (ae bg),aa i,aa g] w K:=by
 refine aA.go H λw1 H=>aj (C:=G3) (AR (OW _ i g w1 K) ?_);refine⟨_,HW (H.get o) (H.get f) h0 i,?_⟩;have same:jS gs i g≠0-> ∀{a},aJ D G w0 a L->aJ D G w0 a (L.set e (br,flat eG (dj gs i g)++rest)):=λh a H=>by
  unfold dj;rw[ar h,AN f];exact H
 have b:jS gs i g=match jF gs i with
  |none=>4
  |some k=>if(gs.getD k zG).2.2.1≠g then 7 else if(gs.getD k zG).2.2.2.2.1=0 then 6 else 0:=rfl
 unfold Co Cn;cases m:jF gs i with
 |none=>
  rw[m] at b;dsimp only at b;rw[b] at k same;exact ax rfl (ak.go H λa H=>k a (same (by decide) H))
 |some q=>
  have ⟨u,v,r,l, _⟩:=iu m;rw[m] at b;dsimp only at b;have ⟨x,n⟩: ∃x,x=gs.getD q zG:=⟨_,rfl⟩;rw[<-n] at b l;refine an rfl ⟨rfl,rfl,ag.of x.2.2.1 (Cp H e f l (by decide) rfl) (ab (λd=>ak.go H λa H=>?_) (λd=>?_))⟩
  grind
  .rw[ar (by simpa using d)] at b;refine⟨rfl,rfl,ag.of x.2.2.2.2.1 (Cp H e f l (by decide) rfl) (ab (λd2=>ak.go H λa H=>?_) (λd2=>?_))⟩
   grind
   .rw[ar (by simpa using d2)] at b;have hb:=p x (Cs l);refine⟨rfl,rfl,ag.of x.2.2.2.2.1 (Cp H e f l (by decide) rfl) ⟨rfl,rfl,?_⟩⟩;rw[aX (by omega) (by omega)];refine Xw H e f l (by decide) rfl (fM x (-1)) rfl λa H=>ak.go H λs H=>?_;have t:dj gs i g=gs.set q (fM x (-1)):=by
     unfold dj;rw[az b, <-r, <-n]
    rw[b,t] at k;exact k s H
theorem Gu (H:aJ D G w0 w L) (j f:Nat) (n:L[j]? =some (bg,g7 br gs.length c)) (g:L[f]? =some (br,flat eG gs++rest)) (h0:0<gs.length) (i o:Int) {K:Int->A2->Prop}
 (k: ∀a,aJ D G w0 a (L.set f (br,flat eG (jf gs i o)++rest))->K (mQ gs i o) a):
 aA AC 227 aT [ah (ae bg),aa i,aa o] w K:=by
 refine aA.go H λw1 H=>aj (C:=G3) (AR (Gj _ i o w1 K) ?_);refine⟨_,HW (H.get n) (H.get g) h0 i,?_⟩;have same:mQ gs i o≠0-> ∀{a},aJ D G w0 a L->aJ D G w0 a (L.set f (br,flat eG (jf gs i o)++rest)):=λh a H=>by
  unfold jf;rw[ar h,AN g];exact H
 have b:mQ gs i o=match jF gs i with
  |none=>4
  |some k=>if(gs.getD k zG).1≠o then 7 else if(gs.getD k zG).2.2.2.2.1>0 then 9 else 0:=rfl
 unfold Co Cn;cases m:jF gs i with
 |none=>
  rw[m] at b;dsimp only at b;rw[b] at k same;exact ax rfl (ak.go H λa H=>k a (same (by decide) H))
 |some q=>
  have ⟨y,z,p,l, _⟩:=iu m;rw[m] at b;dsimp only at b;have ⟨x,r⟩: ∃x,x=gs.getD q zG:=⟨_,rfl⟩;rw[<-r] at b l;refine an rfl ⟨rfl,rfl,ag.of x.1 (Cp H f g l (by decide) rfl) (ab (λd=>ak.go H λa H=>?_) (λd=>?_))⟩
  grind
  .rw[ar (by simpa using d)] at b;refine⟨rfl,rfl,ag.of x.2.2.2.2.1 (Cp H f g l (by decide) rfl) (ab (λd2=>ak.go H λa H=>?_) (λd2=>?_))⟩
   grind
   .rw[ar (by simpa using d2)] at b;refine⟨rfl,?_⟩;have s:q<gs.length:=(B1.1 l).1;have t:(some (⟨br,q*5,none⟩:AE))=ad (ae br) (q*5):=by rw[aS,Ff]
    show aw w1 (some (⟨br,q*5,none⟩:AE)) _ _;rw[t];refine aw.flat (e:=eG) f H zG g rfl rfl s λa H=>ak.go H λu H=>?_;have v:jf gs i o=gs.set q zG:=by
     unfold jf;rw[az b, <-p]
    rw[b,v] at k;exact k u H
theorem J8 (H:aJ D G w0 w L) (j m:Nat) (s:L[j]? =some (bg,g7 br gs.length c)) (p:L[m]? =some (br,flat eG gs++rest)) (h0:0<gs.length) (I:gs.length<=64) (o q t:Int) (b:Bool) {K:Int×Int×Unit->A2->Prop}
 (k: ∀f,aJ D G w0 f (L.set m (br,flat eG (ib gs o q t b)++rest))->K (gU gs o q t,iT gs o q t,()) f):
 aA AC 223 (.bu [aq,aq]) [ah (ae bg),aa o,aa q,aa t,.bool b] w K:=by
 refine aA.go H λw1 H=>aj (C:=G3) (AR (JF _ o q t b w1 K) ?_);have same:iT gs o q t≠0-> ∀{f},aJ D G w0 f L->aJ D G w0 f (L.set m (br,flat eG (ib gs o q t b)++rest)):=λh f H=>by
  unfold ib;rw[ar h,AN p];exact H
 have v:iT gs o q t≠0->gU gs o q t=0:=λh=>ar h;refine⟨_,nW (H.get s) h0,an rfl ⟨trivial,λ_=>trivial,ab (λd=>ak.go H λf H=>?_) (λd=>?_)⟩⟩
 .have a:iT gs o q t=1:=az d;rw[v (by rw[a];decide),a] at k;rw[a] at same;exact k f (same (by decide) H)
 have a:iT gs o q t=if cI gs (fw o q t) gs.length≠[] then 5 else if cI gs dN gs.length=[] then 3 else 0:=ar (by rw[d];decide);refine aH.go H λbc f H=>aw.all 0 H rfl rfl rfl λY H=>J6 H (j+1) (m+1) s p h0 I (bc:=bc) (Dx) λsl Ls Z n H=>?_;have ⟨A,B,N⟩:=sl;have E:B=(cI gs (fw o q t) gs.length).length:=n.len;subst E;have H:=H.sub (E4 _ Ls);refine ab (λd1=>ak.go H λJ H=>?_) (λd1=>?_)
 .have d1:cI gs (fw o q t) gs.length≠[]:=by
   intro e;rw[e] at d1;simp at d1
  rw[az d1] at a;rw[v (by rw[a];decide),a] at k;rw[a] at same;exact k J (same (by decide) (H.sub (B3 _ _)))
 have d1: ¬ cI gs (fw o q t) gs.length≠[]:=by
  simp_all
 rw[ar d1] at a;refine J5 H (j+1) (m+1) s p h0 I λsl Ls J n H=>?_;have ⟨A,B,N⟩:=sl;have E:B=(cI gs dN gs.length).length:=n.len;subst E;refine ab (λd2=>ak.go H λM H=>?_) (λd2=>?_)
 .have d2:cI gs dN gs.length=[]:=by
   have:(cI gs dN gs.length).length=0:=by simpa using d2
   exact List.length_eq_zero_iff.1 this
  rw[az d2] at a;rw[v (by rw[a];decide),a] at k;rw[a] at same;exact k M (same (by decide) (H.sub ((E4 L Ls).trans (B3 _ _))))
 have d2: ¬ cI gs dN gs.length=[]:=by
  intro e;rw[e] at d2;simp at d2
 rw[ar d2] at a;have O:ib gs o q t b=gs.set (gU gs o q t).toNat (o,q,t,b,0,()):=az a;have P:gU gs o q t=(cI gs dN gs.length).headD 0:=az a;rw[O,a] at k;have ⟨z,l,u⟩: ∃z l,cI gs dN gs.length=z::l:=List.exists_cons_of_ne_nil d2;have Q:gU gs o q t=z:=by rw[P,u];rfl
 rw[Q] at k;have ⟨r,R, _,S⟩:=iN.1 (by rw[u];exact Dx:z∈cI gs dN gs.length);subst S;rw[u] at n;have hlen:(cI gs dN gs.length).length=l.length+1:=by rw[u];rfl
 have T: ∀{w:A2} {g:Nat×List AG},aJ D G w0 w (g::(L++Ls))->A.isSome=true/\bP w (ad A 0) aq (r:Int):=λ{w g} H=>by
  have h:=n.rd H (λy F=>Fh _ (Dl _ F)) (i:=0) (x:=(r:Int)) rfl;exact⟨h.1,h.2⟩
 have U:(L++Ls)[j]? =some (bg,g7 br gs.length c):=AO s;have V:(L++Ls)[m]? =some (br,flat eG gs++rest):=AO p;refine⟨rfl,aw.c_ 0 H rfl rfl rfl λM H=>?_⟩;refine⟨rfl,rfl,ag.bj (j+1) H U rfl ⟨by grind,ag.of _ (T H).2 (ag.at 0 H rfl (show _=some (o,q,t,b,0,()) from rfl) ⟨⟨rfl,by omega,by show(r:Int)<((gs.length:Nat):Int);omega⟩,?_⟩)⟩⟩;refine aw.flat (e:=eG) (m+1) H (o,q,t,b,0,()) V rfl rfl R λW H=>?_;have H:aJ D G w0 W ((bc,[aa o,aa q,aa t,.bool b,aa 0])::((L++Ls).set m (br,flat eG (gs.set r (o,q,t,b,0,()))++rest))):=H;rw[H2 _ _ (B1.1 p).1] at H;have h:=n.rd H (λy F=>Fh _ (Dl _ F)) (i:=0) (x:=(r:Int)) rfl;refine⟨by grind,ag.of _ h.2 (ak.go H λX H=>k X (H.sub ((E4 _ Ls).trans (B3 _ _))))⟩
theorem PM (H:aJ D G w0 w L) (j b:Nat) (B:L[j]? =some (bg,g7 br gs.length c)) (q:L[b]? =some (br,flat eG gs++rest)) (h0:0<gs.length) (E:gs.length<=64) (S:j≠b) (g:Int) {K:Int->A2->Prop}
 (k: ∀n r,aJ D G w0 r (L.set b (br,flat eG (bY gs g)++rest))->K n r):
 aA AC 208 aT [ah (ae bg),aa g] w K:=by
 refine aA.go H λw1 H=>aj (C:=G3) (b_:=uM) (AR (OX _ g w1 K) ?_);refine aH.go H λbc r H=>J7 H (j+1) (b+1) B q h0 E (bc:=bc) (Dx) λsl Ls F s H=>?_;have H:aJ D G w0 F ((bc,[aa g])::(L++Ls)):=H;have H:aJ D G w0 F (L++Ls):=H.sub (B3 _ _);have ⟨sp,T,sc⟩:=sl;have U:T=(cI gs (l8 g) gs.length).length:=s.len;subst U;have ⟨l,f⟩: ∃l,l=cI gs (l8 g) gs.length:=⟨_,rfl⟩;have hll:l.length<=64:=by rw[f];exact HB (qZ _ _ _) E
 have I: ∀z∈l, ∃i:Nat,i<gs.length/\l8 g (gs.getD i zG)=true/\z=(i:Int):=λz J=>by rw[f] at J;exact iN.1 J
 have V: ∀i:Nat,i<gs.length->l8 g (gs.getD i zG)=true->(i:Int)∈l:=λi t h2=>by rw[f];exact iN.2 ⟨i,t,h2,rfl⟩
 rw[<-f] at s ⊢;clear f;have W:=(B1.1 q).1;have M: ∀X:Nat×List AG,((L++Ls).set b X)=L.set b X++Ls:=λX=>H2 _ _ W;refine⟨λn v w'=> ∃(m:Nat) (a:List GT),v.1=(m:Int)/\n+m=l.length/\a.length=gs.length/\(∀i:Nat,i<gs.length->a.getD i zG=if(i:Int)∈l.take m then zG else gs.getD i zG)/\aJ D G w0 w' ((L++Ls).set b (br,flat eG a++rest)),⟨l.length,λY Z=>⟨0,gs,rfl,rfl,rfl,λi hi=>by simp,by rw[AN (AO q)];exact H.ext Z⟩⟩,?_⟩;clear H;rintro n ⟨v,u⟩ Y ⟨m,a,e,hn,N,x,H⟩;dsimp only at e ⊢;subst e;refine ab (λA=>?_) (λA=>ak.go H λO H=>k _ O ?_)
 .have P:m<l.length:=by simpa using A
  have o:=B2 P;have ⟨z,hze⟩: ∃z,z=l[m]:=⟨_,rfl⟩;rw[<-hze] at o;obtain⟨d,z1,z2,rfl⟩:=I z (Cs o);have j_:l.take (m+1)=l.take m++[(d:Int)]:=by rw[HY,o];rfl
  have Q:=s.rd H (λy hy=>by rw[M];exact Dl _ hy) o;have hmb:((L++Ls).set b (br,flat eG a++rest))[j]? =some (bg,g7 br a.length c):=by
   rw[N,Fm (λe=>S e.symm)];exact AO B
  have ZZ:((L++Ls).set b (br,flat eG a++rest))[b]? =some (br,flat eG a++rest):=by
   rw[E5 (by rw[HQ];omega)]
  refine⟨⟨Q.1,by omega,by omega⟩,ag.of _ Q.2 ⟨rfl,rfl,ag.bj j H hmb rfl ⟨⟨rfl,by omega,by show(d:Int)<((a.length:Nat):Int);omega⟩,?_⟩⟩⟩;refine aw.flat (e:=eG) b H zG ZZ rfl rfl (by omega:d<a.length) λO H=>λw6 R=>⟨n - 1,by omega,m+1,a.set d zG,by rw[ao (by omega) (by omega)];omega,by omega,by rw[FC];exact N,λi hi=>?_,?_⟩
  .rw[j_];by_cases ei:i=d
   .subst ei;rw[az (by simp)];rw[C7,E5 (by omega)];rfl
   .have:(a.set d zG).getD i zG=a.getD i zG:=by
     grind
    rw[this,x i hi];by_cases p:(i:Int)∈l.take m
    .rw[az p,az (Fk _ p)]
    .rw[ar p,ar (λh=>?_)];rcases List.mem_append.1 h with h|h
     .exact p h
     .have:(i:Int)=d:=by simpa using h
      omega
  .rw[Ct] at H;exact H.ext R
 .have P: ¬ m<l.length:=by simpa using A
  rw[H4 (by omega)] at x;have e:a=bY gs g:=FJ λi=>by
   unfold bY;rw[FS];by_cases hi:i<gs.length
   .have t:=x i hi;have h2:a[i]? =some (a.getD i zG):=by rw[C7,B2 (by omega)];rfl
    have h3:gs[i]? =some (gs.getD i zG):=by rw[C7,B2 hi];rfl
    rw[h2,h3,t];show _=some (if l8 g (gs.getD i zG)=true then zG else gs.getD i zG);by_cases c:l8 g (gs.getD i zG)=true
    .rw[az c,az (V i hi c)]
    .rw[ar c,ar (λh=>?_)];have ⟨i', _,h5,R⟩:=I _ h;have:i'=i:=by omega
     subst this;exact c h5
   .rw[Hb (by omega),Hb (by omega)];rfl
  subst e;rw[M] at H;exact H.sub (E4 _ _)
theorem TV (H:aJ D G w0 w L) (n:Nat) (c:1<=n/\n<=64) {K:Option AE×Int×Unit->A2->Prop}
 (k: ∀bg br a,aJ D G w0 a ((bg,g7 br (AZ n zG).length n)::(br,flat eG (AZ n zG)++[])::L)->K (some ⟨bg,0,none⟩,0,()) a):
 aA AC 55 (.bu [bF,aq]) [aa (n:Int)] w K:=by
 refine aA.go H λw1 H=>aj (C:=G3) (AR (Ty _ w1 K) ?_);refine an (by grind) ?_;refine xG.go H rfl (by omega) (H9 _) (by omega) (by omega) λb a H=>aH.go H λb2 d H=>ak.go H λf H=>?_;have e:(AZ ((n:Nat):Int).toNat [aa 0,aa 0,aa 0,.bool false,aa 0]).flatten=flat eG (AZ n zG)++[]:=by
  rw[C9,fX];rfl
 grind
end
end Go.Proofs.YteeflilbnoknnaaGreat
namespace Go.Proofs.YteeflilbnoknnaaGreat.Po
set_option maxRecDepth 100000
open Go.RX
def gp (ps:List PT) (g i:Int):PT:=ps.getD (ix g i) zP
def dx (room:Int) (ps:List PT) (g:Int) (x:PT):(Int×Int)×List PT:=if bJ room ps g= -1 then((0,3),ps) else((bJ room ps g,0),ps.set (ix g (bJ room ps g)) x)
def dU (room:Int) (ps:List PT) (g r:Int):(Int×Int)×List PT:=if nr g r=0 then dx room ps g (1,r,0,false,false,()) else((0,nr g r),ps)
def dA (room:Int) (ps:List PT) (g r i:Int):(Int×Int)×List PT:=
 if nr g r=0 then
  match lT room ps r i with
  |none=>((0,4),ps)
  |some k=>
   if(ps.getD k zP).1=2 then((0,6),ps) else if(ps.getD k zP).2.1≠g then((0,7),ps) else
    if bJ room ps g= -1 then((0,3),ps) else
     ((bJ room ps g,0),(ps.set (ix g (bJ room ps g)) (2,r,i,false,false,())).set k (2,(ps.getD k zP).2.1,bJ room ps g,(ps.getD k zP).2.2.2))
 else((0,nr g r),ps)
def kj (room:Int) (ps:List PT) (g i:Int):Int×List PT:=
 match lT room ps g i with
 |none=>(4,ps)
 |some k=>if(ps.getD k zP).1=2 then
   let y:=gp ps (ps.getD k zP).2.1 (ps.getD k zP).2.2.1
   (0,ps.set (ix (ps.getD k zP).2.1 (ps.getD k zP).2.2.1) (y.1,y.2.1,y.2.2.1,true,y.2.2.2.2))
  else(6,ps)
def qa (ps:List PT) (g:Int) (i:Nat):Bool:=gI g&&((gp ps g i).2.2.2.1&& !(gp ps g i).2.2.2.2.1)
def lF (room:Int) (ps:List PT) (g:Int):List Int:=((H5 room.toNat).filter (qa ps g)).map λi=>((i:Nat):Int)
def fe (room:Int) (ps:List PT) (g:Int):(Int×Bool)×List PT:=
 match lF room ps g with
 |[]=>((0,false),ps)
 |i:: _=>((i,true),ps.set (ix g i) ((gp ps g i).1,(gp ps g i).2.1,(gp ps g i).2.2.1,false,(gp ps g i).2.2.2.2))
def dR (room:Int) (ps:List PT) (g i:Int):Int×List PT:=
 match lT room ps g i with
 |none=>(4,ps)
 |some k=>if(ps.getD k zP).1=2 then
   let y:=gp ps (ps.getD k zP).2.1 (ps.getD k zP).2.2.1
   (0,(ps.set (ix (ps.getD k zP).2.1 (ps.getD k zP).2.2.1) (1,y.2.1,0,y.2.2.2)).set k zP)
  else(0,ps.set k zP)
def dO (room:Int) (ps:List PT) (g:Int):Nat->Int×List PT
 |0=>(0,ps)
 |i+1=>((dO room ps g i).1+(if(dR room (dO room ps g i).2 g i).1=0 then 1 else 0),(dR room (dO room ps g i).2 g i).2)
def lG (room g:Int) (s:Int×List PT) (k i:Int):Int×List PT:=
 match lT room s.2 k i with
 |none=>s
 |some x=>if(s.2.getD x zP).2.1=g then(s.1+1,s.2.set x zP) else s
def kl (room g:Int) (s:Int×List PT) (k:Int):Nat->Int×List PT
 |0=>s
 |i+1=>lG room g (kl room g s k i) k i
def gH (room g:Int) (s:Int×List PT):Nat->Int×List PT
 |0=>s
 |k+1=>kl room g (gH room g s k) ((k:Int)+1) room.toNat
def bV (room:Int) (ps:List PT) (g:Int):Int×List PT:=if gI g then gH room g (dO room ps g room.toNat) 16 else(0,ps)
structure jq (room:Int) (ps:List PT):Prop extends okS room ps where
 inv: ∀g i,mG room g i=true->gp ps g i=zP\/((gp ps g i).1=1/\(1<=(gp ps g i).2.1/\(gp ps g i).2.1<=16)/\(gp ps g i).2.1≠g/\(gp ps g i).2.2.1=0)\/
  ((gp ps g i).1=2/\(gp ps g i).2.1≠g/\mG room (gp ps g i).2.1 (gp ps g i).2.2.1=true/\(gp ps (gp ps g i).2.1 (gp ps g i).2.2.1).1=2/\(gp ps (gp ps g i).2.1 (gp ps g i).2.2.1).2.1=g/\(gp ps (gp ps g i).2.1 (gp ps g i).2.2.1).2.2.1=i)
theorem kS {ps:List PT} {k:Nat} (h:k<ps.length) (x:PT):(ps.set k x).getD k zP=x:=by grind
theorem iA {ps:List PT} {k j:Nat} (h:k≠j) (x:PT):(ps.set k x).getD j zP=ps.getD j zP:=by grind
theorem jT {room:Int} {ps:List PT} (b:okS room ps) {g i g' a:Int} (h:mG room g i=true) (h':mG room g' a=true) (x:PT):gp (ps.set (ix g i) x) g' a=if g'=g/\a=i then x else gp ps g' a:=by
 by_cases e:g'=g/\a=i
 .rw[az e,e.1,e.2];exact kS (by rw[b.len];exact pa h b.hi) x
 .rw[ar e];exact iA (λc=>e (by have:=FR h h' b.hi;grind)) x
theorem ly {room:Int} {ps:List PT} {g i:Int} (h:mG room g i=true):lT room ps g i=if gp ps g i=zP then none else some (ix g i):=by grind[lT,gp]
theorem TW {room:Int} {ps:List PT} {g i:Int} (h: ¬ mG room g i=true):lT room ps g i=none:=by
 unfold lT;rw[ar (λc=>h c.1)]
theorem mX {g r:Int}:nr g r=0<->gI g=true/\gI r=true/\g≠r:=by grind[nr]
section
variable {D G:List Nat} {w0 w:A2} {L:List (Nat×List AG)} {bp:Nat} {room:Int} {ps:List PT}
theorem Fy (H:aJ D G w0 w L) (j:Nat) (a:L[j]? =some (bp,iD room ps)) (b:okS room ps) (g i:Int) {r:Option Nat} (c:lT room ps g i=r):ai AC 176 [ah (ae bp),aa g,aa i] w (ah (r.map λk=>⟨bp,k*5,none⟩)):=by
 subst c;exact ai.of λw' h'=>Bb ((H.get a).ext h') b g i
theorem V4 (H:aJ D G w0 w L) (j:Nat) (a:L[j]? =some (bp,iD room ps)) (b:okS room ps) (g i:Int):ai AC 299 [ah (ae bp),aa g,aa i] w (aa (nr g i)):=
 ai.of λw' h'=>Ys ((H.get a).ext h') b g i
theorem NZ (H:aJ D G w0 w L) (j:Nat) (a:L[j]? =some (bp,iD room ps)) (b:okS room ps):ai AC 301 [ah (ae bp)] w (aa 4):=
 ai.of λw' h'=>TU ((H.get a).ext h') b
theorem TX (H:aJ D G w0 w L) (j:Nat) (a:L[j]? =some (bp,iD room ps)) (b:okS room ps):ai AC 174 [ah (ae bp)] w (.bool true):=
 ai.of λw' h'=>nX ((H.get a).ext h') b
theorem lP {j:Nat} {x y:Nat×List AG} (h:L[j]? =some x):(L.set j y)[j]? =some y:=by grind
theorem N3 (H:aJ D G w0 w L) (j:Nat) (t:L[j]? =some (bp,iD room ps)) (l:okS room ps) (g:Int) (u:gI g=true) (x:PT) {K:Int×Int×Unit->A2->Prop}
 (k: ∀m,aJ D G w0 m (L.set j (bp,iD room (dx room ps g x).2))->K ((dx room ps g x).1.1,(dx room ps g x).1.2,()) m):
 aA AC 300 (.bu [aq,aq]) [ah (ae bp),aa g,.agg ⟨a6 sQ x⟩] w K:=by
 have ⟨a,d,f,h,i,n⟩:=x;refine aA.go H λw1 H=>aj (C:=R1) (AR (Yr _ g a d f h i w1 K) ?_);have v:=l.hi;refine aH.go H λb m H=>?_;have p:((b,a6 sQ (a,d,f,h,i,()))::L)[j+1]? =some (bp,iD room ps):=t;refine⟨bJ room ps g,ai.of (s:= .el aq) λw' h'=>PJ ((H.get p).ext h') l g,ab (λc=>?_) (λc=>?_)⟩
 .have e:bJ room ps g= -1:=by simpa using c
  have o:dx room ps g (a,d,f,h,i,n)=((0,3),ps):=az e;rw[o] at k;refine ak.go H λq H=>k q ?_;have y:L.set j (bp,iD room ps)=L:=FJ (by grind);rw[y];exact H.sub (B3 _ _)
 .have e:bJ room ps g≠ -1:=by simpa using c
  have o:dx room ps g (a,d,f,h,i,n)=((bJ room ps g,0),ps.set (ix g (bJ room ps g)) (a,d,f,h,i,n)):=ar e;rw[o] at k;have r:=(jZ u e).1;have F:=bL.1 r;have z:=pa r v;have es:aR .i64 g 1=g - 1:=aX (by omega) (by omega);rw[es];have A:ad (ad (ad (ae bp) 0) ((g - 1).toNat*160)) ((bJ room ps g).toNat*5)=ad (ae bp) (ix g (bJ room ps g)*aM eQ):=by
   rw[aS,aS,aS,aS];unfold ix;congr 2;show _=0+ _*5;omega
  have B:ad (ad (ae bp) 0) ((g - 1).toNat*160)=some ⟨bp,0+0+(g - 1).toNat*160,none⟩:=by rw[aS,aS]
  rw[A,B];refine ag.at 0 H rfl (x:=(a,d,f,h,i,())) rfl ⟨rfl,rfl,⟨rfl,by omega,by omega⟩,⟨rfl,by omega,by omega⟩,?_⟩;refine aw.flat (j+1) H (a,d,f,h,i,()) p rfl rfl (by rw[l.len];exact z) λq H=>ak.go H λE H=>k E ?_;exact H.sub (B3 _ _)
theorem mv {j:Nat} {x:Nat×List AG} (h:L[j]? =some x):L.set j x=L:=FJ (by grind)
theorem PN (H:aJ D G w0 w L) (j:Nat) (a:L[j]? =some (bp,iD room ps)) (h:okS room ps) (g r:Int) {K:Int×Int×Unit->A2->Prop}
 (k: ∀b,aJ D G w0 b (L.set j (bp,iD room (dU room ps g r).2))->K ((dU room ps g r).1.1,(dU room ps g r).1.2,()) b):
 aA AC 228 (.bu [aq,aq]) [ah (ae bp),aa g,aa r] w K:=by
 refine aA.go H λw1 H=>aj (C:=R1) (AR (PD _ g r w1 K) ?_);refine⟨_,V4 H j a h g r,ab (λc=>?_) (λc=>?_)⟩
 .have e:=by simpa using c
  have d:dU room ps g r=((0,nr g r),ps):=ar e;rw[d] at k;refine ak.go H λf H=>k f ?_;rw[mv a];exact H
 .have e:nr g r=0:=by simpa using c
  have d:dU room ps g r=dx room ps g _:=az e;rw[d] at k;exact N3 H j a h g (mX.1 e).1 (1,r,0,false,false,()) λb H=>ak.go H λf H=>k f H
theorem PO (H:aJ D G w0 w L) (j:Nat) (a:L[j]? =some (bp,iD room ps)) (b:okS room ps) (g r i:Int) {K:Int×Int×Unit->A2->Prop}
 (k: ∀h,aJ D G w0 h (L.set j (bp,iD room (dA room ps g r i).2))->K ((dA room ps g r i).1.1,(dA room ps g r i).1.2,()) h):
 aA AC 229 (.bu [aq,aq]) [ah (ae bp),aa g,aa r,aa i] w K:=by
 refine aA.go H λw1 H=>aj (C:=R1) (AR (PE _ g r i w1 K) ?_);have l: ∀v:Int×Int,dA room ps g r i=(v,ps)->ak w1 λw1=>K (v.1,v.2,()) w1:=λv e=>by
  rw[e] at k;refine ak.go H λf H=>k f ?_;rw[mv a];exact H
 refine⟨_,V4 H j a b g r,ab (λc=>?_) (λc=>?_)⟩
 .have e: ¬ nr g r=0:=by simpa using c
  exact l (0,nr g r) (ar e)
 have e:nr g r=0:=by simpa using c
 have ⟨q,M,F⟩:=mX.1 e;have hb:dA room ps g r i= _:=az e;refine⟨_,Fy H j a b r i rfl,?_⟩;cases m:lT room ps r i with
 |none=>
  rw[m] at hb;exact ax rfl (l (0,4) hb)
 |some kk=>
  rw[m] at hb;have ⟨s,t,N⟩:=fj m;have u:kk<512:=by rw[t];exact pa s b.hi
  have y:=b.get u;refine an rfl ⟨rfl,rfl,ag.bj j H a (AH y (by decide) rfl) (ab (λn=>?_) (λn=>?_))⟩
  .exact l (0,6) (hb.trans (az (by simpa using n)))
  refine⟨rfl,rfl,ag.bj j H a (AH y (by decide) rfl) (ab (λz=>?_) (λz=>?_))⟩
  grind
  have A:=hb.trans ((ar (by simpa using n)).trans (ar (by simpa using z)));refine N3 H j a b g q (2,r,i,false,false,()) λh H=>?_;by_cases d:bJ room ps g= -1
  .have o:dx room ps g (2,r,i,false,false,())=((0,3),ps):=az d;rw[o] at H ⊢;have p:dA room ps g r i=((0,3),ps):=A.trans (az d);rw[p] at k;exact an rfl (ak.go H λf H=>k f H)
  .have o:dx room ps g (2,r,i,false,false,())=((bJ room ps g,0),ps.set (ix g (bJ room ps g)) (2,r,i,false,false,())):=ar d;rw[o] at H ⊢;have I:ix g (bJ room ps g)≠kk:=λB=>by
    rw[t] at B;exact F (FR (jZ q d).1 s b.hi B).1
   have p:dA room ps g r i=((bJ room ps g,0), _):=A.trans (ar d);rw[p] at k;have E:=(b.set (ix g (bJ room ps g)) (2,r,i,false,false,())).get u;rw[iA I] at E;refine ax rfl ⟨rfl,rfl,?_⟩;refine aw.AH j H (2,(ps.getD kk zP).2.1,(ps.getD kk zP).2.2.1,(ps.getD kk zP).2.2.2.1,(ps.getD kk zP).2.2.2.2.1,()) (lP a) E (by decide) rfl rfl λf H=>⟨rfl,rfl,?_⟩;rw[Ct] at H;refine aw.AH j H (x:=(2,(ps.getD kk zP).2.1,(ps.getD kk zP).2.2.1,(ps.getD kk zP).2.2.2.1,(ps.getD kk zP).2.2.2.2.1,())) (2,(ps.getD kk zP).2.1,bJ room ps g,(ps.getD kk zP).2.2.2.1,(ps.getD kk zP).2.2.2.2.1,()) (lP a) (by grind) (by decide) rfl rfl λO H=>ak.go H λJ H=>k J ?_;rw[Ct,Ct] at H;exact H
end
theorem jq.nz {room:Int} {ps:List PT} (d:jq room ps) {g i:Int} {k:Nat} (h:lT room ps g i=some k) (h2:(ps.getD k zP).1=2):
 (ps.getD k zP).2.1≠g/\mG room (ps.getD k zP).2.1 (ps.getD k zP).2.2.1=true/\lT room ps (ps.getD k zP).2.1 (ps.getD k zP).2.2.1=some (ix (ps.getD k zP).2.1 (ps.getD k zP).2.2.1):=by
 have ⟨f,j,a⟩:=fj h;subst j;have l:ps.getD (ix g i) zP=gp ps g i:=rfl;rw[l] at h2 a ⊢;rcases d.inv g i f with e|e|⟨_,m,b,c,o⟩
 .exact absurd e a
 .rw[e.1] at h2;exact absurd h2 (by decide)
 .refine⟨m,b,?_⟩;rw[ly b,ar];intro n;rw[n] at c;exact absurd c (by decide)
theorem s8 {room:Int} {ps:List PT} {g i:Int} {k:Nat} (a:lT room ps g i=some k):kj room ps g i=if(ps.getD k zP).1=2 then(0,ps.set (ix (ps.getD k zP).2.1 (ps.getD k zP).2.2.1) ((gp ps (ps.getD k zP).2.1 (ps.getD k zP).2.2.1).1,(gp ps (ps.getD k zP).2.1 (ps.getD k zP).2.2.1).2.1,(gp ps (ps.getD k zP).2.1 (ps.getD k zP).2.2.1).2.2.1,true,(gp ps (ps.getD k zP).2.1 (ps.getD k zP).2.2.1).2.2.2.2)) else(6,ps):=by
 unfold kj;rw[a]
theorem m8 {room:Int} {ps:List PT} {g i:Int} {k:Nat} (a:lT room ps g i=some k):dR room ps g i=if(ps.getD k zP).1=2 then(0,(ps.set (ix (ps.getD k zP).2.1 (ps.getD k zP).2.2.1) (1,(gp ps (ps.getD k zP).2.1 (ps.getD k zP).2.2.1).2.1,0,(gp ps (ps.getD k zP).2.1 (ps.getD k zP).2.2.1).2.2.2)).set k zP) else(0,ps.set k zP):=by
 unfold dR;rw[a]
theorem Aa {room:Int} {ps:List PT} {g i:Int} (a:lT room ps g i=none):kj room ps g i=(4,ps):=by unfold kj;rw[a]
theorem qu {room:Int} {ps:List PT} {g i:Int} (a:lT room ps g i=none):dR room ps g i=(4,ps):=by unfold dR;rw[a]
section
variable {D G:List Nat} {w0 w:A2} {L:List (Nat×List AG)} {bp:Nat} {room:Int} {ps:List PT}
theorem PQ (H:aJ D G w0 w L) (j:Nat) (a:L[j]? =some (bp,iD room ps)) (h:jq room ps) (g i:Int) {K:Int->A2->Prop}
 (k: ∀l,aJ D G w0 l (L.set j (bp,iD room (kj room ps g i).2))->K (kj room ps g i).1 l):
 aA AC 230 aT [ah (ae bp),aa g,aa i] w K:=by
 refine aA.go H λw1 H=>aj (C:=R1) (AR (PF _ g i w1 K) ?_);have b:=h.tookS;have m: ∀v:Int,kj room ps g i=(v,ps)->ak w1 λw1=>K v w1:=λv e=>by
  rw[e] at k;refine ak.go H λn H=>k n ?_;rw[mv a];exact H
 refine⟨_,Fy H j a b g i rfl,?_⟩;cases c:lT room ps g i with
 |none=>exact ax rfl ⟨4,NZ H j a b,m 4 (by unfold kj;rw[c])⟩
 |some kk=>
  have ⟨o,p,y⟩:=fj c;have q:kk<512:=by rw[p];exact pa o b.hi
  have d:=b.get q;have hb:=s8 c;refine an rfl ⟨rfl,rfl,ag.bj j H a (AH d (by decide) rfl) (ab (λf=>?_) (λf=>?_))⟩
  .exact m 6 (hb.trans (ar (by simpa using f)))
  have h2:(ps.getD kk zP).1=2:=by simpa using f
  rw[hb,az h2] at k;have ⟨z,r,s⟩:=h.nz c h2;have t:=pa r b.hi;have u:=b.get t;refine⟨rfl,rfl,ag.bj j H a (AH d (by decide) rfl) ⟨rfl,rfl,ag.bj j H a (AH d (by decide) rfl) ⟨_,Fy H j a b _ _ s,rfl,rfl,?_⟩⟩⟩;exact aw.AH j H (_, _, _,true, _,()) a u (by decide) rfl rfl λn H=>ak.go H λx H=>k x H
theorem aw.port (j:Nat) (H:aJ D G w0 w L) (a:L[j]? =some (bp,iD room ps)) {k:Nat} (b:k<ps.length) (y:PT) {vs:List AG} (hv:vs=a6 sQ y) {K:A2->Prop}
 (c: ∀w1,aJ D G w0 w1 (L.set j (bp,iD room (ps.set k y)))->K w1):aw w (some ⟨bp,k*5,none⟩) vs K:=by
 have:=aw.flat j H (e:=eQ) (rest:=[aa room]) (i:=k) y a hv rfl b c;rw[aS,Ff] at this;exact this
def Ay (room:Int) (ps:List PT) (g i:Int):PT×Bool:=match lT room ps g i with
 |none=>(zP,false)
 |some k=>(ps.getD k zP,true)
theorem Bt (H:aJ D G w0 w L) (j:Nat) (a:L[j]? =some (bp,iD room ps)) (n:jq room ps) (g i:Int) {K:Int->A2->Prop}
 (k: ∀o,aJ D G w0 o (L.set j (bp,iD room (dR room ps g i).2))->K (dR room ps g i).1 o):
 aA AC 232 aT [ah (ae bp),aa g,aa i] w K:=by
 refine aA.go H λw1 H=>aj (C:=R1) (AR (J4 _ g i w1 K) ?_);have b:=n.tookS;refine⟨_,Fy H j a b g i rfl,?_⟩;cases c:lT room ps g i with
 |none=>
  have e:dR room ps g i=(4,ps):=by unfold dR;rw[c]
  rw[e] at k;refine ax rfl ⟨4,NZ H j a b,ak.go H λp H=>k p ?_⟩;rw[mv a];exact H
 |some kk=>
  have ⟨s,t,A⟩:=fj c;have d:kk<512:=by rw[t];exact pa s b.hi
  have f:=b.get d;have hb:=m8 c;refine an rfl ⟨rfl,rfl,ag.bj j H a (AH f (by decide) rfl) (ab (λh=>?_) (λh=>?_))⟩
  .have h2:(ps.getD kk zP).1=2:=by simpa using h
   rw[hb,az h2] at k;have ⟨B,u,v⟩:=n.nz c h2;have l:=pa u b.hi;have q:=b.get l;refine⟨rfl,rfl,ag.bj j H a (AH f (by decide) rfl) ⟨rfl,rfl,ag.bj j H a (AH f (by decide) rfl) ⟨_,Fy H j a b _ _ v,rfl,rfl,?_⟩⟩⟩;have ⟨y,r⟩: ∃y,y=gp ps (ps.getD kk zP).2.1 (ps.getD kk zP).2.2.1:=⟨_,rfl⟩;rw[<-r] at k;have q:ps[ix (ps.getD kk zP).2.1 (ps.getD kk zP).2.2.1]? =some y:=by rw[r];exact b.get l
   refine aw.AH j H (1,y.2.1,y.2.2.1,y.2.2.2.1,y.2.2.2.2.1,()) a q (by decide) rfl rfl λp H=>⟨rfl,rfl,?_⟩;refine aw.AH j H (x:=(1,y.2.1,y.2.2.1,y.2.2.2.1,y.2.2.2.2.1,())) (1,y.2.1,0,y.2.2.2.1,y.2.2.2.2.1,()) (lP a) (by rw[E5 (by rw[b.len];exact l)]) (by decide) rfl rfl λE H=>⟨rfl,?_⟩;rw[Ct,Ct] at H;refine aw.port j H (lP a) (by rw[FC,b.len];exact d) zP rfl λz H=>ak.go H λm H=>k m ?_;rw[Ct] at H;exact H
  .rw[hb,ar (by simpa using h)] at k;exact⟨rfl,aw.port j H a (by rw[b.len];exact d) zP rfl λz H=>ak.go H λm H=>k m H⟩
end
section
variable {room:Int} {ps:List PT}
theorem jq.Xx (a:jq room ps) {g i:Int} (h:mG room g i=true) (h2:(gp ps g i).1≠2) {y:PT} (j:y=zP\/(y.1=1/\(1<=y.2.1/\y.2.1<=16)/\y.2.1≠g/\y.2.2.1=0)):jq room (ps.set (ix g i) y) where
 tookS:=a.tookS.set _ _
 inv g' b h':=by
  by_cases e:g'=g/\b=i
  .have d:=(jT a.tookS h h' y).trans (az e)
   grind
  .have d:=(jT a.tookS h h' y).trans (ar e);rw[d];rcases a.inv g' b h' with z|z|⟨b1,b2,b3,k⟩
   .grind
   grind
   .have f: ¬ ((gp ps g' b).2.1=g/\(gp ps g' b).2.2.1=i):=λc=>by grind
    have l:=(jT a.tookS h b3 y).trans (ar f)
    grind
theorem jq.tB (c:jq room ps) {g i:Int} (h:mG room g i=true) (m:gp ps g i≠zP) {y:PT} (n:y.1=(gp ps g i).1) (h2:y.2.1=(gp ps g i).2.1) (o:y.2.2.1=(gp ps g i).2.2.1):jq room (ps.set (ix g i) y) where
 tookS:=c.tookS.set _ _
 inv g' d h':=by
  have key: ∀a b,mG room a b=true->(gp _ a b).1=(gp ps a b).1/\(gp _ a b).2.1=(gp ps a b).2.1/\(gp _ a b).2.2.1=(gp ps a b).2.2.1:=λa b f=>by
   by_cases e:a=g/\b=i
   .rw[(jT c.tookS h f y).trans (az e),e.1,e.2];grind
   .rw[(jT c.tookS h f y).trans (ar e)];simp
  have ⟨j,k,l⟩:=key g' d h';rw[j,k,l];rcases c.inv g' d h' with z|z|⟨b1,b2,b3,p,q,r⟩
  .refine .inl ?_;by_cases e:g'=g/\d=i
   grind
   .rw[(jT c.tookS h h' y).trans (ar e)];exact z
  .simp_all
  grind
theorem jq.dx (b:jq room ps) {g:Int} (c:gI g=true) {y:PT} (d:y.1=1/\(1<=y.2.1/\y.2.1<=16)/\y.2.1≠g/\y.2.2.1=0):jq room (dx room ps g y).2:=by
 unfold Go.Proofs.YteeflilbnoknnaaGreat.Po.dx;split
 .grind
 .rename_i e;have ⟨a,h2⟩:=jZ c e;rw[ly a] at h2;have f:gp ps g (bJ room ps g)=zP:=by
   grind
  exact b.Xx a (by rw[f];decide) (.inr d)
theorem jq.dU (a:jq room ps) (g r:Int):jq room (dU room ps g r).2:=by
 unfold Go.Proofs.YteeflilbnoknnaaGreat.Po.dU;split
 .rename_i e;have ⟨b,h2,c⟩:=mX.1 e;exact a.dx b ⟨rfl,fI.1 h2,λe=>c e.symm,rfl⟩
 grind
theorem jq.dA (d:jq room ps) (g r i:Int):jq room (dA room ps g r i).2:=by
 unfold Go.Proofs.YteeflilbnoknnaaGreat.Po.dA;split
 .rename_i e;have ⟨q,h2,E⟩:=mX.1 e;split
  .exact d
  .rename_i k s;split
   .exact d
   .split
    .exact d
    .split
     .exact d
     .rename_i n t u;have ⟨l,v⟩:=jZ q u;rw[ly l] at v;have o:gp ps g (bJ room ps g)=zP:=by
       grind
      have ⟨w,x,y⟩:=fj s;subst x;have A:ps.getD (ix r i) zP=gp ps r i:=rfl;rw[A] at n t y ⊢;generalize bJ room ps g=j at l o;have m:=d.tookS;have key: ∀a b,mG room a b=true->gp _ a b=if a=r/\b=i then(2,(gp ps r i).2.1,j,(gp ps r i).2.2.2) else if a=g/\b=j then(2,r,i,false,false,()) else gp ps a b:=λa b p=>by
       rw[jT (m.set _ _) w p,jT m l p]
      have B:=(m.set (ix g j) (2,r,i,false,false,())).set (ix r i) (2,(gp ps r i).2.1,j,(gp ps r i).2.2.2);refine⟨B,λg' f h'=>?_⟩;rw[key g' f h'];by_cases C:g'=r/\f=i
      grind
      .rw[ar C];by_cases D:g'=g/\f=j
       grind
       .rw[ar D];rcases d.inv g' f h' with z|z|⟨b1,b2,b3,h,F,G⟩
        .exact .inl z
        .exact .inr (.inl z)
        .rw[key _ _ b3,ar,ar]
         grind
         .intro c;rw[c.1,c.2,o] at h;exact absurd h (by decide)
         .intro c;rw[c.1,c.2] at h;exact n h
 .exact d
theorem jq.kj (b:jq room ps) (g i:Int):jq room (kj room ps g i).2:=by
 cases a:lT room ps g i with
 |none=>rw[Aa a];grind
 |some=>
  rw[s8 a];split
  .rename_i h2;have ⟨_,c,d⟩:=b.nz a h2;have ⟨_, _,e⟩:=fj d;exact b.tB c e rfl rfl rfl
  grind
theorem uj {g x:Int} (h:x∈lF room ps g):mG room g x=true/\(gp ps g x).2.2.2.1=true/\(gp ps g x).2.2.2.2.1=false:=by
 unfold lF at h;rw[Fz] at h;obtain⟨j,a,rfl⟩:=h;rw[List.mem_filter] at a;have:=List.mem_range.1 a.1;have h2:=a.2;unfold qa at h2;simp at h2;exact⟨bL.2 ⟨fI.1 h2.1,by omega⟩,h2.2.1,h2.2.2⟩
theorem Iq {g x:Int} (h:x∈lF room ps g):gp ps g x≠zP:=λe=>by
 have:=(uj h).2.1;rw[e] at this;cases this
theorem jq.fe (b:jq room ps) (g:Int):jq room (fe room ps g).2:=by
 unfold Go.Proofs.YteeflilbnoknnaaGreat.Po.fe;cases c:lF room ps g with
 |nil=>grind
 |cons x=>
  have a:x∈lF room ps g:=by grind
  exact b.tB (uj a).1 (Iq a) rfl rfl rfl
theorem jq.dR (c:jq room ps) (g i:Int):jq room (dR room ps g i).2:=by
 cases d:lT room ps g i with
 |none=>rw[qu d];exact c
 |some k=>
  rw[m8 d];have ⟨e,n,o⟩:=fj d;have l:=c.tookS;split
  .rename_i h2;have ⟨p,f, _⟩:=c.nz d h2;subst n;have w:ps.getD (ix g i) zP=gp ps g i:=rfl;rw[w] at h2 p f o ⊢;have hi:=c.inv g i e;rcases hi with z|z|⟨_, _, _,q,m,s⟩
   .exact absurd z o
   grind
   have ⟨r,x⟩: ∃r,r=(gp ps g i).2.1:=⟨_,rfl⟩;have ⟨j,y⟩: ∃j,j=(gp ps g i).2.2.1:=⟨_,rfl⟩;rw[<-x] at p q m s f ⊢;rw[<-y] at q m s f ⊢;have key: ∀a b,mG room a b=true->gp _ a b=if a=g/\b=i then zP else if a=r/\b=j then(1,(gp ps r j).2.1,0,(gp ps r j).2.2.2) else gp ps a b:=λa b t=>by
    rw[jT (l.set _ _) e t,jT l f t]
   have A:=(l.set (ix r j) (1,(gp ps r j).2.1,0,(gp ps r j).2.2.2)).set (ix g i) zP;refine⟨A,λg' h h'=>?_⟩;rw[key g' h h'];by_cases u:g'=g/\h=i
   .rw[az u];exact .inl rfl
   .rw[ar u];by_cases v:g'=r/\h=j
    .rw[az v];refine .inr (.inl ⟨rfl,?_,?_,rfl⟩)
     .rw[m];exact(bL.1 e).1
     grind
    .rw[ar v];rcases c.inv g' h h' with z|z|⟨b1,b2,b3,B,C,D⟩
     .exact .inl z
     .exact .inr (.inl z)
     .rw[key _ _ b3,ar,ar]
      grind
      grind
      grind
  .rename_i h2;subst n;exact c.Xx e h2 (.inl rfl)
end
section
variable {D G:List Nat} {w0 w:A2} {L:List (Nat×List AG)} {bp:Nat} {room:Int} {ps:List PT}
def yM (ps:List PT) (g:Int) (i:Nat):List Int:=((H5 i).filter (qa ps g)).map λi=>((i:Nat):Int)
theorem Ab (g:Int) (i:Nat):yM ps g (i+1)=yM ps g i++(if qa ps g i then[((i:Nat):Int)] else[]):=by grind[yM,Hr]
theorem Bu (g:Int) (i:Nat):(yM ps g i).length<=i:=by grind[yM]
theorem Gv {g:Int} {i:Nat} (hi:(i:Int)<room) (a:lT room ps g i=none):qa ps g i=false:=by
 grind[qa,mG,ly,zP]
theorem Gw {g:Int} {i:Nat} {k:Nat} (a:lT room ps g i=some k):qa ps g i=((ps.getD k zP).2.2.2.1&& !(ps.getD k zP).2.2.2.2.1):=by
 have ⟨b,h2, _⟩:=fj a;unfold qa;rw[fI.2 (bL.1 b).1,h2];rfl
theorem PU (hb:bq w bp (iD room ps)) (d:okS room ps) (g:Int):aC AC 302 di [ah (ae bp),aa g] w (λr w'=>kx w w' eI r (lF room ps g)/\Ext w w'):=by
 refine aj (C:=R1) (b_:=uP) (AR (PG _ g w _) ?_);have D:=d.lo;have E:=d.hi;refine⟨true,ai.of (s:= .el cr) λw' h'=>nX (hb.ext h') d,an rfl ⟨rfl,rfl,ag.g6 (At.start [] w) hb (by simp) (oF d) ?_⟩⟩;refine⟨λq s w'=> ∃i:Nat,s.2.1=i/\q+i=room.toNat/\At [] w w' []/\kx w w' eI s.1 (yM ps g i),⟨room.toNat,λw1 t=>⟨0,rfl,rfl,(At.start [] w).ext t,kx.start w w1 eI⟩⟩,?_⟩;rintro q ⟨⟨F,G,I⟩,J,u⟩ w1 ⟨i,hi,K,H,f⟩;simp only at hi f;subst hi;dsimp only;refine ab (λc=>?_) (λc=>?_)
 .have L:i<room.toNat:=by simp at c;omega
  have a:=Ab (ps:=ps) g i;have M:=Bu (ps:=ps) g i;refine⟨_,ai.of (s:= .el bF) λw' h'=>Bb ((H.iQ hb (by simp)).ext h') d g i,?_⟩;unfold bj;cases j:lT room ps g i with
  |none=>
   rw[Gv (by omega) j] at a;rw[ar (by decide),C9] at a;refine⟨λh=>by simp at h,λh=>by simp at h,false,λh=>by simp at h,λh=>by simp at h,λh=>by simp at h,false,λh=>by simp at h,an rfl λk h2=>⟨q - 1,by omega,i+1,by rw[ao (by omega) (by omega)];rfl,by omega,H.ext h2,by rw[a];exact f.ext h2⟩⟩
  |some kk=>
   have ⟨v,x,N⟩:=fj j;have y:kk<512:=by rw[x];exact pa v d.hi
   have o:=d.get y;rw[Gw j] at a;refine⟨λ_=>rfl,λ_=>rfl,ag.g6 H hb (by simp) (AH o (by decide) rfl) ⟨λ_=>rfl,λ_=>rfl,ag.g6 H hb (by simp) (AH o (by decide) rfl) (ab (λl=>?_) (λl=>?_))⟩⟩
   .have m:((ps.getD kk zP).2.2.2.1&& !(ps.getD kk zP).2.2.2.2.1)=true:=by simpa using l
    rw[az m] at a;have n:=At.start [] w1;refine aH.go n λb k n=>λO z=>?_;refine At.VY (e:=eI) (i:=0) H f (n.ext z) (i:Int) rfl rfl rfl rfl rfl (by omega) λs' P A B Q p=>⟨q - 1,by omega,i+1,by rw[ao (by omega) (by omega)];rfl,by omega,A.ext p,?_⟩;rw[a];exact B.ext p
   .have m: ¬ ((ps.getD kk zP).2.2.2.1&& !(ps.getD kk zP).2.2.2.2.1)=true:=by simpa using l
    rw[ar m,C9] at a;exact λk h2=>⟨q - 1,by omega,i+1,by rw[ao (by omega) (by omega)];rfl,by omega,H.ext h2,by rw[a];exact f.ext h2⟩
 .have hi:i=room.toNat:=by simp at c;omega
  subst hi;exact λk h2=>⟨f.ext h2,(H.ext h2).all⟩
theorem PV (H:aJ D G w0 w L) (j:Nat) (b:L[j]? =some (bp,iD room ps)) (c:okS room ps) (g:Int) {K:Option AE×Nat×Nat->A2->Prop}
 (k: ∀r rows a,aJ D G w0 a (L++rows)->ia eI rows r (lF room ps g)->K r a):aA AC 302 di [ah (ae bp),aa g] w K:=
 aA.M7 H (λw1 H=>PU (H.get b) c g) k
theorem oL {rows:List (Nat×List AG)} {r:Option AE×Nat×Nat} {x:Int} {l:List Int} (a:ia eI rows r (x::l)) (H:aJ D G w0 w L) (b: ∀y∈rows,y∈L):r.1.isSome=true/\bP w (ad r.1 0) aq x:=by
 have:=a.sl H b 0
 grind
theorem PW (H:aJ D G w0 w L) (j:Nat) (f:L[j]? =some (bp,iD room ps)) (c:okS room ps) (g:Int) {K:Int×Bool×Unit->A2->Prop}
 (k: ∀h,aJ D G w0 h (L.set j (bp,iD room (fe room ps g).2))->K ((fe room ps g).1.1,(fe room ps g).1.2,()) h):
 aA AC 231 (.bu [aq,cr]) [ah (ae bp),aa g] w K:=by
 refine aA.go H λw1 H=>aj (C:=R1) (AR (PH _ g w1 K) ?_);refine PV H j f c g λr rows h H d=>?_;have s:j<L.length:=(B1.1 f).1;have m:(L++rows)[j]? =some (bp,iD room ps):=by grind
 have a:=d.1;cases b:lF room ps g with
 |nil=>
  rw[b] at a;have e:fe room ps g=((0,false),ps):=by unfold fe;rw[b]
  rw[e] at k;refine ax (by rw[a];rfl) (ak.go H λn H=>k n ?_);rw[mv f];exact H.sub (E4 _ _)
 |cons x l=>
  have o:x∈lF room ps g:=by rw[b];exact Dx
  rw[b] at a d;have e:fe room ps g=((x,true),ps.set (ix g x) ((gp ps g x).1,(gp ps g x).2.1,(gp ps g x).2.2.1,false,(gp ps g x).2.2.2.2)):=by unfold fe;rw[b]
  rw[e] at k;have ⟨p, _, _⟩:=uj o;have t:lT room ps g x=some (ix g x):=by rw[ly p,ar (Iq o)]
  have u:=pa p c.hi;have v:ps[ix g x]? =some (gp ps g x):=c.get u;have h0:=oL d H (λy i=>Dl _ i);have q:(x::l).length=l.length+1:=rfl;refine an (by rw[a,q];simp;omega) ⟨⟨h0.1,by omega,by rw[a,q];omega⟩,ag.of x h0.2 ⟨_,Fy H j m c g x t,rfl,rfl,?_⟩⟩;refine aw.AH j H ((gp ps g x).1,(gp ps g x).2.1,(gp ps g x).2.2.1,false,(gp ps g x).2.2.2.2.1,()) m v (by decide) rfl rfl λn H=>?_;rw[H2 _ _ s] at H;have z:=oL d H (λy i=>Dl _ i);refine⟨by grind,ag.of x z.2 (ak.go H λA H=>k A (H.sub (E4 _ _)))⟩
theorem qn (a:jq room ps) (g:Int): ∀i,jq room (dO room ps g i).2
 |0=>a
 |i+1=>(qn a g i).dR g i
theorem zy (g:Int): ∀i:Nat,0<=(dO room ps g i).1/\(dO room ps g i).1<=i
 |0=>by simp[dO]
 |i+1=>by
  have:=zy g i;simp[dO];omega
theorem J9 (d:jq room ps) {g i j:Int} (hi:mG room g i=true) (b:mG room g j=true):gp (dR room ps g i).2 g j=if j=i then zP else gp ps g j:=by
 cases a:lT room ps g i with
 |none=>
  rw[qu a];rw[ly hi] at a
  grind
 |some=>
  rw[m8 a];have ⟨e,f,k⟩:=fj a;have c:=d.tookS;split
  .rename_i h2;have ⟨l,h, _⟩:=d.nz a h2;subst f;rw[jT (c.set _ _) e b,jT c h b]
   grind
  .subst f;rw[jT c e b]
   grind
theorem D8 (b:jq room ps) {g:Int} (a:gI g=true): ∀(n:Nat),(n:Int)<=room-> ∀j,0<=j->j<(n:Int)->gp (dO room ps g n).2 g j=zP
 |n+1,f,j,h0,h=>by
  have c:mG room g n=true:=bL.2 ⟨fI.1 a,by omega⟩;have d:mG room g j=true:=bL.2 ⟨fI.1 a,by omega⟩;simp[dO];rw[J9 (qn b g n) c d];by_cases e:j=n
  .grind
  .rw[ar e];exact D8 b a n (by omega) j h0 (by omega)
def wD (room:Int) (ps:List PT) (g:Int):Prop:=jq room ps/\ ∀i,mG room g i=true->gp ps g i=zP
theorem D9 {g:Int} (h:wD room ps g) {k i:Int} (hi:mG room k i=true) (b:(gp ps k i).2.1=g):(gp ps k i).1≠2:=by
 intro h2;rcases h.1.inv k i hi with z|z|⟨_, _,b3,a, _⟩
 .rw[z] at h2;exact absurd h2 (by decide)
 grind
 .rw[b] at b3 a;rw[h.2 _ b3] at a;exact absurd a (by decide)
theorem Gx {g:Int} {s:Int×List PT} (h:wD room s.2 g) (k i:Int):wD room (lG room g s k i).2 g:=by
 unfold lG;split
 .grind
 .rename_i c;split
  .rename_i d;have ⟨a,e,f⟩:=fj c;subst e;refine⟨h.1.Xx a (D9 h a d) (.inl rfl),λj b=>?_⟩;rw[jT h.1.tookS a b];split
   .rfl
   .exact h.2 j b
  grind
theorem oM {g:Int} {s:Int×List PT} (h:wD room s.2 g) (k:Int): ∀i,wD room (kl room g s k i).2 g
 |0=>h
 |i+1=>Gx (oM h k i) k i
theorem oN {g:Int} {s:Int×List PT} (h:wD room s.2 g): ∀k,wD room (gH room g s k).2 g
 |0=>h
 |k+1=>oM (oN h k) _ _
theorem PX {g:Int} (s:Int×List PT) (k i:Int):s.1<=(lG room g s k i).1/\(lG room g s k i).1<=s.1+1:=by grind[lG]
theorem uk {g:Int} (s:Int×List PT) (k:Int): ∀i:Nat,s.1<=(kl room g s k i).1/\(kl room g s k i).1<=s.1+i
 |0=>by simp[kl]
 |i+1=>by
  have a:=uk (g:=g) s k i;have h2:=PX (g:=g) (room:=room) (kl room g s k i) k i;simp[kl];omega
theorem zz {g:Int} (s:Int×List PT): ∀k:Nat,s.1<=(gH room g s k).1/\(gH room g s k).1<=s.1+k*room.toNat
 |0=>by simp[gH]
 |k+1=>by
  have a:=zz (g:=g) s k;have h2:=uk (g:=g) (room:=room);simp[gH]
  grind
theorem s9 (a:jq room ps) {g:Int} (b:gI g=true):wD room (dO room ps g room.toNat).2 g:=by
 exact⟨qn a g _,by grind[D8,bL]⟩
theorem D_ (a:jq room ps) (g:Int):jq room (bV room ps g).2:=by
 unfold bV;split
 .rename_i b;exact(oN (s9 a b) _).1
 grind
theorem PY (H:aJ D G w0 w L) (j:Nat) (d:L[j]? =some (bp,iD room ps)) (z:jq room ps) (g:Int) {K:Int->A2->Prop}
 (k: ∀P,aJ D G w0 P (L.set j (bp,iD room (bV room ps g).2))->K (bV room ps g).1 P):
 aA AC 209 aT [ah (ae bp),aa g] w K:=by
 refine aA.go H λw1 H=>aj (C:=R1) (b_:=uQ) (AR (PI _ g w1 K) ?_);have x:=z.tookS;have yp:=x.lo;have W:=x.hi;refine⟨true,TX H j d x,λ_=>trivial,ab (λc=>?_) (λc=>?_)⟩
 .have y:gI g=false:=by simpa using c
  have e:bV room ps g=(0,ps):=by unfold bV;rw[y];rfl
  rw[e] at k;refine ak.go H λA H=>k A ?_;rw[mv d];exact H
 have y:gI g=true:=by simpa using c
 have e:bV room ps g=gH room g (dO room ps g room.toNat) 16:=by unfold bV;rw[az y]
 rw[e] at k;refine⟨rfl,rfl,ag.bj j H d (oF x) ?_⟩;refine⟨λq s w'=> ∃i:Nat,s.2.1=i/\q+i=room.toNat/\s.1=(dO room ps g i).1/\aJ D G w0 w' (L.set j (bp,iD room (dO room ps g i).2)),⟨room.toNat,λA X=>⟨0,rfl,rfl,rfl,by rw[show(dO room ps g 0).2=ps from rfl,mv d];exact H.ext X⟩⟩,?_⟩;clear H;rintro q ⟨a,Y,u⟩ A ⟨i,hi,hq,l,H⟩;simp only at hi l;subst hi;subst l;dsimp only;have Z:=zy (room:=room) (ps:=ps) g i;refine ab (λB=>?_) (λB=>?_)
 .have gL:i<room.toNat:=by simp at B;omega
  have hT2:=qn z g i;refine Bt H j (lP d) hT2 g i λQ H=>?_;rw[Ct] at H;have p:ay .i64 (i:Int) 1=((i+1:Nat):Int):=by rw[ao (by omega) (by omega)];rfl
  refine ab (λn r t=>⟨q - 1,by omega,i+1,p,by omega,?_,H.ext t⟩) (λn r t=>⟨q - 1,by omega,i+1,p,by omega,?_,H.ext t⟩)
  .have o:(dR room (dO room ps g i).2 g i).1=0:=by simpa using n
   simp only[dO];rw[az o,ao (by omega) (by omega)]
  .have o: ¬ (dR room (dO room ps g i).2 g i).1=0:=by simpa using n
   simp only[dO];rw[ar o,Int.add_zero]
 have hi:i=room.toNat:=by simp at B;omega
 subst hi;have R:=s9 z y;generalize dO room ps g room.toNat=f at H k R Z;refine⟨λq s w'=> ∃m:Nat,s.2.1=(m:Int)+1/\q+m=16/\s.1=(gH room g f m).1/\aJ D G w0 w' (L.set j (bp,iD room (gH room g f m).2)),⟨16,λQ h4=>⟨0,rfl,rfl,rfl,H.ext h4⟩⟩,?_⟩;clear H;rintro q2 ⟨a,m',u2⟩ Q ⟨m,S,EY,l,H⟩;simp only at S l;subst S;subst l;dsimp only;have T:=oN R m;have hlA:=zz (room:=room) (g:=g) f m;have ab8:(m:Int)*(room.toNat:Int)<=16*32:=Int.mul_le_mul (by omega) (by omega) (by omega) (by omega);refine ab (λn=>?_) (λn=>?_)
 .have U:m<16:=by simp at n;omega
  refine⟨rfl,rfl,ag.bj j H (lP d) (oF T.1.tookS) ?_⟩;refine⟨λq s w'=> ∃i:Nat,s.2.1=i/\q+i=room.toNat/\s.1=(kl room g (gH room g f m) ((m:Int)+1) i).1/\aJ D G w0 w' (L.set j (bp,iD room (kl room g (gH room g f m) ((m:Int)+1) i).2)),⟨room.toNat,λr t=>⟨0,rfl,rfl,rfl,H.ext t⟩⟩,?_⟩;clear H;rintro E ⟨a,Y,u3⟩ r ⟨i,hi,hq3,l,H⟩;simp only at hi l;subst hi;subst l;dsimp only;have WK:=oM T ((m:Int)+1) i;have hlR:=uk (room:=room) (g:=g) (gH room g f m) ((m:Int)+1) i;refine ab (λo=>?_) (λo=>?_)
  .have gL:i<room.toNat:=by simp at o;omega
   have p:ay .i64 (i:Int) 1=((i+1:Nat):Int):=by rw[ao (by omega) (by omega)];rfl
   have F:=WK.1.tookS;have er:kl room g (gH room g f m) ((m:Int)+1) (i+1)=lG room g (kl room g (gH room g f m) ((m:Int)+1) i) ((m:Int)+1) i:=rfl;generalize kl room g (gH room g f m) ((m:Int)+1) i=b at*
   refine⟨_,Fy H j (lP d) F ((m:Int)+1) i rfl,?_⟩;cases I:lT room b.2 ((m:Int)+1) i with
   |none=>
    have J:lG room g b ((m:Int)+1) i=b:=by unfold lG;rw[I]
    rw[J] at er;exact⟨λh=>by simp at h,λh=>by simp at h,(0:Int),λh=>by simp at h,an rfl λM v=>⟨E - 1,by omega,i+1,p,by omega,by rw[er],by rw[er];exact H.ext v⟩⟩
   |some kk=>
    have ⟨gR,nK,Sb⟩:=fj I;have V:kk<512:=by rw[nK];exact pa gR W
    have AI:=F.get V;have J:lG room g b ((m:Int)+1) i=if(b.2.getD kk zP).2.1=g then(b.1+1,b.2.set kk zP) else b:=by unfold lG;rw[I]
    rw[J] at er;refine⟨λ_=>rfl,λ_=>rfl,ag.bj j H (lP d) (AH AI (by decide) rfl) (ab (λN=>?_) (λN=>?_))⟩
    .have O:(b.2.getD kk zP).2.1=g:=by simpa using N
     rw[az O] at er;refine⟨rfl,aw.port j H (lP d) (by rw[F.len];exact V) zP rfl λM H w7 h7=>⟨E - 1,by omega,i+1,p,by omega,?_,?_⟩⟩
     .rw[er,ao (by omega) (by omega)]
     .rw[er];rw[Ct] at H;exact H.ext h7
    .have O: ¬ (b.2.getD kk zP).2.1=g:=by simpa using N
     rw[ar O] at er;exact λM v=>⟨E - 1,by omega,i+1,p,by omega,by rw[er],by rw[er];exact H.ext v⟩
  .have hi:i=room.toNat:=by simp at o;omega
   subst hi;exact λM v=>⟨q2 - 1,by omega,m+1,by rw[ao (by omega) (by omega)];omega,by omega,rfl,H.ext v⟩
 .have U:m=16:=by simp at n;omega
  subst U;exact ak.go H λr H=>k r H
end
def Ed (room:Int) (ps:List PT) (u v:Int):Prop:= ∃i,mG room u i=true/\gp ps u i≠zP/\(gp ps u i).2.1=v
inductive Lk (room:Int) (ps:List PT) (a:Int):Int->Prop
 |refl:Lk room ps a a
 |fwd {u v:Int}:Lk room ps a u->Ed room ps u v->Lk room ps a v
 |bwd {u v:Int}:Lk room ps a v->Ed room ps u v->Lk room ps a u
open Classical in
noncomputable def me (room:Int) (ps:List PT) (a b:Int):Bool:=gI a&&(gI b&&decide (Lk room ps a b))
theorem q_ {room:Int} {ps:List PT} {a b:Int}:me room ps a b=true<->gI a=true/\gI b=true/\Lk room ps a b:=by simp[me]
theorem Lk.inv {room:Int} {ps:List PT} {a v:Int} (h:Lk room ps a v) (S:Int->Prop) (b:S a) (c: ∀u v,Ed room ps u v->(S u<->S v)):S v:=by
 induction h with
 |refl
 |fwd
 |bwd=>grind
theorem Ed.pQ {room:Int} {ps:List PT} (a:jq room ps) {u v:Int} (h:Ed room ps u v):(1<=u/\u<=16)/\(1<=v/\v<=16)/\u≠v:=by
 obtain⟨i,hi,d,rfl⟩:=h;refine⟨(bL.1 hi).1,?_⟩;rcases a.inv u i hi with z|⟨⟩|⟨_,b,c, _⟩
 grind
 grind
 .exact⟨(bL.1 c).1,λe=>b e.symm⟩
def tv (bs:List Bool) (v:Int):Bool:=bs.getD v.toNat false
def pN (bs:List Bool):List AG:=bs.map Value.bool
theorem ig {bs:List Bool} {v:Int} (h:v.toNat<bs.length):pV (pN bs) (0+v.toNat*1) cr=some (tv bs v):=by
 have:(pN bs)[0+v.toNat*1]? =some (.bool (tv bs v)):=by
  unfold pN tv
  grind
 show(match (pN bs)[0+v.toNat*1]? with|some v=>Sc.bool.proj v|none=>none)= _;rw[this];rfl
theorem dS {bs:List Bool} {u v:Int} (a:0<=u) (b:u.toNat<bs.length) (hv:0<=v):tv (bs.set u.toNat true) v=if v=u then true else tv bs v:=by grind[tv]
def i_ (bs:List Bool):Nat:=bs.countP (! ·)
theorem fo {bs:List Bool} {k:Nat} (a:k<bs.length):i_ (bs.set k true)+(if bs.getD k false=false then 1 else 0)=i_ bs:=by grind[i_]
theorem mD {bs:List Bool} {k:Nat} (a:k<bs.length):i_ (bs.set k true)<=i_ bs:=by grind[fo]
def pf (room:Int) (ps:List PT) (a:Int) (bs:List Bool):Prop:=bs.length=17/\tv bs a=true/\ ∀v,0<=v->tv bs v=true->Lk room ps a v
theorem pf.set {room:Int} {ps:List PT} {a:Int} {bs:List Bool} (h:pf room ps a bs) (e:0<=a) {u:Int} (c:0<=u/\u<=16) (f:Lk room ps a u):pf room ps a (bs.set u.toNat true):=by
 have d:u.toNat<bs.length:=by rw[h.1];omega
 refine⟨by rw[FC];exact h.1,?_,λv hv b=>?_⟩
 .rw[dS c.1 d e];split
  .rfl
  .exact h.2.1
 .rw[dS c.1 d hv] at b;split at b
  grind
  .exact h.2.2 v hv b
def EqAt (ps:List PT) (bs:List Bool) (g i:Int):Prop:=gp ps g i≠zP->tv bs g=tv bs (gp ps g i).2.1
theorem Ac {room:Int} {ps:List PT} {a b:Int} {bs:List Bool} (c:pf room ps a bs) (hc: ∀g i,mG room g i=true->EqAt ps bs g i) (hb:0<=b):tv bs b=true<->Lk room ps a b:=by
 refine⟨c.2.2 b hb,λh=>h.inv (λv=>tv bs v=true) c.2.1 ?_⟩;rintro u v ⟨i,hi,d,rfl⟩;have:=hc u i hi d
 grind
section
variable {D G:List Nat} {w0 w:A2} {L:List (Nat×List AG)} {bp:Nat} {room:Int} {ps:List PT}
theorem km (j:Nat) (H:aJ D G w0 w L) {b:Nat} {bs:List Bool} {v:Int} (a:L[j]? =some (b,pN bs)) (d:v.toNat<bs.length) {K:A2->Prop}
 (c: ∀w1,aJ D G w0 w1 (L.set j (b,pN (bs.set v.toNat true)))->K w1):aw w (ad (ae b) (v.toNat*1)) [.bool true] K:=by
 refine aw.c_ j H a rfl ?_ λw1 f=>c w1 ?_
 .rw[Nat.blt_eq];unfold pN;grind
 .have e:(pN bs).set (0+v.toNat*1) (.bool true)=pN (bs.set v.toNat true):=by unfold pN;simp
  grind
theorem Gy (hb:bq w bp (iD room ps)) (T:jq room ps) (a b:Int):aC AC 88 gD [ah (ae bp),aa a,aa b] w (λx w'=>x=me room ps a b/\Ext w w'):=by
 refine aj (C:=R1) (b_:=qy) (AR (Gt _ a b w _) ?_);have q:=T.tookS;have yp:=q.lo;have Ca:=q.hi;refine⟨true,ai.of (s:= .el cr) λw' h'=>nX (hb.ext h') q,λ_=>trivial,λ_=>trivial,ab (λc w1 k=>⟨?_,k⟩) (λc=>?_)⟩
 .unfold me;cases B:gI a with
  |false=>rfl
  |true=>
   cases F:gI b with
   |false=>rfl
   |true=>rw[B,F] at c;cases c
 have G:gI a=true:=by
  cases B:gI a with
  |false=>rw[B] at c;cases c
  |true=>rfl
 have U:gI b=true:=by
  cases F:gI b with
  |false=>rw[G,F] at c;cases c
  |true=>rfl
 have B:=fI.1 G;have Z0:=fI.1 U;have H:=At.start [] w;refine aH.go H λy w2 H=>⟨⟨rfl,by omega,by omega⟩,?_⟩;have H:At [] w w2 [(y,pN (AZ 17 false))]:=H;refine km 0 H rfl (by rw[List.length_replicate];omega) λw3 H=>?_;have p:pf room ps a ((AZ 17 false).set a.toNat true):=by
  refine⟨by simp,?_,λv hv o=>?_⟩
  .rw[dS (by omega) (by simp;omega) (by omega),az rfl]
  .rw[dS (by omega) (by simp;omega) hv] at o;split at o
   .rename_i e;rw[e];exact .refl
   .unfold tv at o;rw[C7,Hz] at o;split at o<;>cases o
 have H:At [] w w3 [(y,pN ((AZ 17 false).set a.toNat true))]:=H;generalize (AZ 17 false).set a.toNat true=bs at p H;refine⟨λn s w'=> ∃bs,pf room ps a bs/\n=i_ bs+(if s.1=true then 1 else 0)/\(s.1=false-> ∀g i,mG room g i=true->EqAt ps bs g i)/\At [] w w' [(y,pN bs)],⟨i_ bs+1,λw4 h4=>⟨bs,p,rfl,(λh=>by cases h),H.ext h4⟩⟩,?_⟩;clear H p bs;rintro n ⟨more,u⟩ w4 ⟨r,p,V,W,H⟩;simp only at V W;dsimp only;cases more with
 |false=>
  refine an rfl ⟨⟨rfl,by omega,by omega⟩,ag.bj 0 H rfl (ig (by rw[p.1];omega)) (ak.go H λX H=>⟨?_,H.all⟩)⟩;have:=Ac (b:=b) p (W rfl) (by omega);rw[Gi,q_,this];exact⟨λh=>⟨G,U,h⟩,λh=>h.2.2⟩
 |true=>
  rw[az rfl] at V;refine ax rfl ?_;refine⟨λI s w'=> ∃(m:Nat) (bs:List Bool),s.2.1=(m:Int)+1/\I+m=16/\pf room ps a bs/\(s.1=true->i_ bs<i_ r)/\(s.1=false->bs=r/\ ∀g i,mG room g i=true->g<=m->EqAt ps bs g i)/\At [] w w' [(y,pN bs)],
   ⟨16,λX h5=>⟨0,r,rfl,rfl,p,(λh=>by cases h),λ_=>⟨rfl,λg i hi h0=>by have:=bL.1 hi;omega⟩,H.ext h5⟩⟩,?_⟩
  clear H;rintro I ⟨more,m',u⟩ X ⟨m,bs,Y,vx,f,l,d,H⟩;simp only at Y l d;subst Y;dsimp only;refine ab (λJ=>?_) (λJ=>?_)
  .have ot:m<16:=by simp at J;omega
   refine⟨rfl,rfl,ag.g6 H hb (by simp) (oF q) ?_⟩;refine⟨λz s w'=> ∃(i:Nat) (bs:List Bool),s.2.1=i/\z+i=room.toNat/\pf room ps a bs/\(s.1=true->i_ bs<i_ r)/\(s.1=false->bs=r/\(∀g i,mG room g i=true->g<=m->EqAt ps bs g i)/\ ∀j:Nat,j<i->EqAt ps bs ((m:Int)+1) j)/\At [] w w' [(y,pN bs)],
    ⟨room.toNat,λZ K=>⟨0,bs,rfl,rfl,f,l,λh=>⟨(d h).1,(d h).2,λj t=>absurd t (by omega)⟩,H.ext K⟩⟩,?_⟩
   clear H f l d bs;rintro z ⟨more,i',u⟩ Z ⟨i,bs,hi,vl,f,l,d,H⟩;simp only at hi l d;subst hi;dsimp only;refine ab (λL=>?_) (λL=>?_)
   .have gL:i<room.toNat:=by simp at L;omega
    have M:ay .i64 (i:Int) 1=((i+1:Nat):Int):=by rw[ao (by omega) (by omega)];rfl
    have ab9:mG room ((m:Int)+1) i=true:=bL.2 ⟨by omega,by omega,by omega⟩;refine⟨_,ai.of (s:= .el bF) λw' h'=>Bb ((H.iQ hb (by simp)).ext h') q ((m:Int)+1) i,?_⟩;unfold bj;cases D:lT room ps ((m:Int)+1) i with
    |none=>
     have hz:gp ps ((m:Int)+1) i=zP:=by
      rw[ly ab9] at D;by_cases e:gp ps ((m:Int)+1) i=zP
      .exact e
      .rw[ar e] at D;cases D
     refine⟨λh=>by simp at h,false,λh=>by simp at h,λh=>by simp at h,λh=>by simp at h,(0:Int),λh=>by simp at h,λh=>by simp at h,false,λh=>by simp at h,an rfl λE A=>⟨z - 1,by omega,i+1,bs,M,by omega,f,l,λh=>⟨(d h).1,(d h).2.1,λj t=>?_⟩,H.ext A⟩⟩;rcases Nat.lt_or_ge j i with k|k
     .exact(d h).2.2 j k
     .obtain rfl:j=i:=by omega
      exact λc=>absurd hz c
    |some kk=>
     have ⟨gR,nK,Sb⟩:=fj D;have yr:kk<512:=by rw[nK];exact pa gR Ca
     have N:=q.get yr;have O:ps.getD kk zP=gp ps ((m:Int)+1) i:=by rw[nK];rfl
     have P:Ed room ps ((m:Int)+1) (ps.getD kk zP).2.1:=⟨i,gR,by rw[<-O];exact Sb,by rw[O]⟩;have hr:=P.pQ T;refine⟨λ_=>⟨rfl,by omega,by omega⟩,ag.bj 0 H rfl (ig (by rw[f.1];omega)) ⟨λ_=>rfl,λ_=>rfl,ag.g6 H hb (by simp) (AH N (by decide) rfl) ⟨λ_=>⟨rfl,by omega,by omega⟩,ag.bj 0 H rfl (ig (by rw[f.1];omega)) (ab (λQ=>?_) (λQ=>?_))⟩⟩⟩
     .have R:tv bs ((m:Int)+1)≠tv bs (ps.getD kk zP).2.1:=by simpa using Q
      have S:((m:Int)+1).toNat<bs.length:=by rw[f.1];omega
      have AX:(ps.getD kk zP).2.1.toNat<(bs.set ((m:Int)+1).toNat true).length:=by rw[FC,f.1];omega
      have VH:Lk room ps a ((m:Int)+1)/\Lk room ps a (ps.getD kk zP).2.1:=by
       cases o:tv bs ((m:Int)+1) with
       |true=>
        have k:=f.2.2 _ (by omega) o;exact⟨k,.fwd k P⟩
       |false=>
        rw[o] at R;have k:=f.2.2 (ps.getD kk zP).2.1 (by omega) (by cases hh:tv bs (ps.getD kk zP).2.1 with|true=>rfl|false=>rw[hh] at R;exact absurd rfl R);exact⟨.bwd k P,k⟩
      refine⟨rfl,rfl,ag.g6 H hb (by simp) (AH N (by decide) rfl) ⟨⟨rfl,by omega,by omega⟩,km 0 H rfl S λE H=>⟨?_,trivial,trivial,⟨rfl,by omega,by omega⟩,km 0 H rfl AX λw8 H w9 h9=>⟨z - 1,by omega,i+1, _,M,by omega,(f.set (by omega) (u:=(m:Int)+1) (by omega) VH.1).set (by omega) (u:=(ps.getD kk zP).2.1) (by omega) VH.2,λ_=>?_,(λh=>by cases h),H.ext h9⟩⟩⟩⟩
      .show bP E (ad (some ⟨bp,kk*5,none⟩) 1) _ _;rw[aS];exact cK (H.iQ hb (by simp)) (AH N (by decide) rfl)
      .have f1:=fo S;have f2:=fo AX;have hle:i_ bs<=i_ r:=by
        cases more with
        |true=>exact Nat.le_of_lt (l rfl)
        |false=>rw[(d rfl).1];exact Df _
       have e7:(bs.set ((m:Int)+1).toNat true).getD (ps.getD kk zP).2.1.toNat false=tv bs (ps.getD kk zP).2.1:=by
        have:=dS (bs:=bs) (u:=(m:Int)+1) (v:=(ps.getD kk zP).2.1) (by omega) S (by omega);rw[ar (by omega)] at this;exact this
       have e8:bs.getD ((m:Int)+1).toNat false=tv bs ((m:Int)+1):=rfl;rw[e7] at f2;rw[e8] at f1
       grind
     .have heq:tv bs ((m:Int)+1)=tv bs (ps.getD kk zP).2.1:=by simpa using Q
      refine λE A=>⟨z - 1,by omega,i+1,bs,M,by omega,f,l,λh=>⟨(d h).1,(d h).2.1,λj t=>?_⟩,H.ext A⟩;rcases Nat.lt_or_ge j i with k|k
      .exact(d h).2.2 j k
      .obtain rfl:j=i:=by omega
       intro _;rw[<-O];exact heq
   .have hi:i=room.toNat:=by simp at L;omega
    refine λE A=>⟨I - 1,by omega,m+1,bs,by rw[ao (by omega) (by omega)];omega,by omega,f,l,λh=>⟨(d h).1,λg j t hg=>?_⟩,H.ext A⟩;by_cases e:g<=m
    .exact(d h).2.1 g j t e
    .have e2:g=(m:Int)+1:=by omega
     subst e2;have I7:=bL.1 t;have:=(d h).2.2 j.toNat (by omega);rwa[show((j.toNat:Nat):Int)=j by omega] at this
  .have ot:m=16:=by simp at J;omega
   refine λZ K=>⟨i_ bs+(if more=true then 1 else 0),?_,bs,f,rfl,λh g i hi=>(d h).2 g i hi (by have:=bL.1 hi;omega),H.ext K⟩;cases more with
   |true=>have:=l rfl;simp;omega
   |false=>rw[(d rfl).1];simp;omega
end
end Go.Proofs.YteeflilbnoknnaaGreat.Po
namespace Go.Proofs.YteeflilbnoknnaaGreat
set_option maxRecDepth 100000
open Go.RX
open Po (tv pN ig dS i_ fo mD km)
inductive Rc (E:Int->Int->Prop) (a:Int):Int->Prop
 |refl:Rc E a a
 |step {u v:Int}:Rc E a u->E u v->Rc E a v
theorem Rc.head {E:Int->Int->Prop} {a b v:Int} (h:E a b) (k:Rc E b v):Rc E a v:=by
 induction k with
 |refl=>exact .step .refl h
 |step _ e c=>exact .step c e
theorem Rc.inv {E:Int->Int->Prop} {a v:Int} (h:Rc E a v) (S:Int->Prop) (b:S a) (c: ∀u v,S u->E u v->S v):S v:=by
 induction h with
 |refl=>exact b
 |step _ e d=>exact c _ _ d e
structure VI (E:Int->Int->Prop) (n:Int) (bs nI:List Bool):Prop where
 len:nI.length=17
 mono: ∀v,0<=v->tv bs v=true->tv nI v=true
 C_:tv nI n=true
 snd: ∀v,0<=v->tv nI v=true->tv bs v=true\/Rc E n v
 cls: ∀u v,0<=u->tv nI u=true->tv bs u=false->E u v->tv nI v=true
 i_:i_ nI<=i_ bs
theorem VI.same {E:Int->Int->Prop} {n:Int} {bs:List Bool} (a:bs.length=17) (h:tv bs n=true):VI E n bs bs:=
 ⟨a,λ_ _ h=>h,h,λ_ _ h=> .inl h,λu v _ b h2=>(by rw[b] at h2;cases h2),Df _⟩
structure Lp (E:Int->Int->Prop) (n:Int) (bs cs:List Bool):Prop where
 len:cs.length=17
 mono: ∀v,0<=v->tv bs v=true->tv cs v=true
 C_:tv cs n=true
 snd: ∀v,0<=v->tv cs v=true->tv bs v=true\/Rc E n v
 cls: ∀u v,0<=u->u≠n->tv cs u=true->tv bs u=false->E u v->tv cs v=true
 i_:i_ cs+(if tv bs n=false then 1 else 0)<=i_ bs
theorem Lp.init {E:Int->Int->Prop} {n:Int} {bs:List Bool} (d:bs.length=17) (a:0<=n/\n<=16):Lp E n bs (bs.set n.toNat true):=by
 have b:n.toNat<bs.length:=by omega
 refine⟨by rw[FC];exact d,λv hv h=>?_,?_,λv hv h=>?_,λu v f g c h2 _=>?_,Nat.le_of_eq (fo b)⟩
 .rw[dS a.1 b hv];split
  .rfl
  .exact h
 .rw[dS a.1 b a.1,az rfl]
 .rw[dS a.1 b hv] at h;split at h
  .rename_i e;subst e;exact .inr .refl
  .exact .inl h
 .rw[dS a.1 b f,ar g,h2] at c;cases c
theorem Lp.call {E:Int->Int->Prop} {n m:Int} {bs cs b:List Bool} (h:Lp E n bs cs) (i:E n m) (d:VI E m cs b) (j:0<=n):Lp E n bs b:=by
 refine⟨d.len,λv hv a=>d.mono v hv (h.mono v hv a),d.mono n j h.C_,λv hv a=>?_,λu v f k a h2 g=>?_,?_⟩
 .rcases d.snd v hv a with h2|h2
  .exact h.snd v hv h2
  .exact .inr (.head i h2)
 .cases hc:tv cs u with
  |true=>
   have c:=h.cls u v f k hc h2 g;by_cases hv:0<=v
   .exact d.mono v hv c
   .have e:tv b v=tv b 0:=by unfold tv;rw[show v.toNat=(0:Int).toNat by omega]
    have l:tv cs v=tv cs 0:=by unfold tv;rw[show v.toNat=(0:Int).toNat by omega]
    rw[e];rw[l] at c;exact d.mono 0 (H9 _) c
  |false=>exact d.cls u v f a hc g
 .have:=h.i_;have:=d.i_;omega
theorem Lp.done {E:Int->Int->Prop} {n:Int} {bs cs:List Bool} (h:Lp E n bs cs) (b: ∀v,E n v->tv cs v=true):VI E n bs cs:=
 ⟨h.len,h.mono,h.C_,h.snd,λu v c d h2 a=>by
  by_cases e:u=n
  .subst e;exact b v a
  .exact h.cls u v c e d h2 a,by have:=h.i_;omega⟩
theorem VI.iff {E:Int->Int->Prop} {a b:Int} {nI:List Bool} (d:VI E a (AZ 17 false) nI) (hb:0<=b) (f: ∀u v,E u v->0<=u):tv nI b=true<->Rc E a b:=by
 have h0: ∀v,tv (AZ 17 false) v=false:=λv=>by
  unfold tv;rw[C7,Hz];split<;>rfl
 constructor
 .intro h;rcases d.snd b hb h with c|c
  .rw[h0] at c;cases c
  .exact c
 .intro h
  induction h with
  |refl=>exact d.C_
  |step _ e g=>exact d.cls _ _ (f _ _ e) (g (f _ _ e)) (h0 _) e
open Po (tv pN ig dS i_ fo mD km)
def HG (gs:List GT) (u v:Int):Prop:= ∃x∈gs,x≠zG/\((x.1=u/\x.2.2.1=v)\/(x.1=v/\x.2.2.1=u))
def kf (gs:List GT):Prop:= ∀x∈gs,(x=zG\/((1<=x.1/\x.1<=16)/\(1<=x.2.2.1/\x.2.2.1<=16)/\x.1≠x.2.2.1/\0<=x.2.1/\x.2.1<65536))/\0<=x.2.2.2.2.1/\x.2.2.2.2.1<=1000
open Classical in
noncomputable def mg (gs:List GT) (a b:Int):Bool:=gG a&&(gG b&&decide (Rc (HG gs) a b))
theorem re {gs:List GT} {a b:Int}:mg gs a b=true<->gG a=true/\gG b=true/\Rc (HG gs) a b:=by
 unfold mg;simp
theorem Ir {gs:List GT} (h:kf gs) {u v:Int} (e:HG gs u v):(1<=u/\u<=16)/\(1<=v/\v<=16):=by
 have ⟨x,b,c,d⟩:=e;rcases(h x b).1 with a|⟨a,h2, _⟩
 .exact absurd a c
 .rcases d with ⟨rfl,rfl⟩|⟨rfl,rfl⟩
  .exact⟨a,h2⟩
  .exact⟨h2,a⟩
theorem oz {g:Int}:gG g=true<->1<=g/\g<=16:=by unfold gG;simp
section
variable {w0:A2} {bg br c:Nat} {gs:List GT} {rest:List AG}
abbrev wE (be a b bg:Nat) (bs:List Bool) (L:List (Nat×List AG)):List (Nat×List AG):=
 (be,[.func (.func 172) #[] #[ah (ae a),ah (ae b),ah (ae be)]])::(a,pN bs)::(b,[ah (ae bg)])::L
theorem J_ (P:kf gs) (hl:gs.length<=64) {be g o:Nat} {L:List (Nat×List AG)} (Y:bq w0 bg (g7 br gs.length c)) (Z:bq w0 br (flat eG gs++rest)):
 ∀(q:Nat) (bs:List Bool),i_ bs<=q->bs.length=17-> ∀{w:A2} {n:Int},1<=n/\n<=16->At [] w0 w (wE be g o bg bs L)-> ∀{K:Unit->A2->Prop},(∀nI p,VI (HG gs) n bs nI->At [] w0 p (wE be g o bg nI L)->K () p)->
 aA AC 172 (.bu []) [aa n,ah (ae g),ah (ae o),ah (ae be)] w K:=by
 intro q
 induction q with
 |zero=>
  intro bs hq hb w n Q H K k;refine aA.go H λw1 H=>aj (C:=G4) (b_:=lB) (AR (wO n _ _ _ w1 K) ?_);have z:n.toNat<bs.length:=by omega
  refine⟨⟨rfl,by omega,by show n<((17:Nat):Int);omega⟩,ag.bj 1 H rfl (ig z) ?_⟩;have A:tv bs n=true:=by
   cases h:tv bs n with
   |true=>rfl
   |false=>
    have:=fo (bs:=bs) z;have h:bs.getD n.toNat false=false:=h;rw[h,az rfl] at this;omega
  exact ax A (ak.go H λp H=>k bs p (.same hb A) H)
 |succ q R=>
  intro bs hq hb w n Q H K k;refine aA.go H λw1 H=>aj (C:=G4) (b_:=lB) (AR (wO n _ _ _ w1 K) ?_);have z:n.toNat<bs.length:=by omega
  have S:(some (⟨g,0,none⟩:AE)).isSome=true/\0<=n/\n<((17:Nat):Int):=⟨rfl,by omega,by omega⟩;refine⟨S,ag.bj 1 H rfl (ig z) ?_⟩;cases A:tv bs n with
  |true=>exact ax rfl (ak.go H λp H=>k bs p (.same hb A) H)
  |false=>
  refine an rfl ⟨S,km 1 H rfl z λp H=>ag.at 2 H rfl rfl ⟨rfl,rfl,ag.g6 H Y (by simp) rfl ?_⟩⟩;have L0:=Lp.init (E:=HG gs) hb ⟨by omega,Q.2⟩;have T: ∀{cs},Lp (HG gs) n bs cs->i_ cs<=q:=λ{cs} h=>by
   have:=h.i_;rw[A,az rfl] at this;omega
  refine⟨λm v w'=> ∃(i:Nat) (cs:List Bool),v.1=(i:Int)/\m+i=gs.length/\Lp (HG gs) n bs cs/\(∀(k:Nat) (x:GT),k<i->gs[k]? =some x->x≠zG->(x.1=n->tv cs x.2.2.1=true)/\(x.2.2.1=n->tv cs x.1=true))/\At [] w0 w' (wE be g o bg cs L),⟨gs.length,λw3 G=>⟨0, _,rfl,rfl,L0,λk x B=>absurd B (Nat.not_lt_zero _),H.ext G⟩⟩,?_⟩;clear H;rintro m ⟨v,u⟩ w3 ⟨i,cs,e,hmi,j,U,H⟩;dsimp only at e ⊢;subst e;refine ab (λI=>?_) (λI=>ak.go H λr H=>k cs r (j.done ?_) H)
  .have hi:i<gs.length:=by simpa using I
   have s:gs[i]? =some (gs.getD i zG):=by
    rw[C7,B2 hi];rfl
   have ⟨x,pG⟩: ∃x,x=gs.getD i zG:=⟨_,rfl⟩;rw[<-pG] at s;have J:=Cs s;have vC:ay .i64 (i:Int) 1=((i+1:Nat):Int):=by rw[ao (by omega) (by omega)];omega
   rw[vC];have D: ∀{l:List Bool} {r:A2},Lp (HG gs) n bs l->(∀v,0<=v->tv cs v=true->tv l v=true)->(x≠zG->(x.1=n->tv l x.2.2.1=true)/\(x.2.2.1=n->tv l x.1=true))->At [] w0 r (wE be g o bg l L)-> ∀t,Ext r t-> ∃V,V<m/\ ∃(M:Nat) (cs:List Bool),((i+1:Nat):Int)=(M:Int)/\V+M=gs.length/\Lp (HG gs) n bs cs/\(∀(k:Nat) (x:GT),k<M->gs[k]? =some x->x≠zG->(x.1=n->tv cs x.2.2.1=true)/\(x.2.2.1=n->tv cs x.1=true))/\At [] w0 t (wE be g o bg cs L):=by
    intro l r Zx W jH H t h5;refine⟨m - 1,by omega,i+1,l,rfl,by omega,Zx,λk y B F a=>?_,H.ext h5⟩;have hr:1<=y.1/\1<=y.2.2.1:=by
     rcases(P y (Cs F)).1 with f|⟨f,h2, _⟩
     .exact absurd f a
     .exact⟨f.1,h2.1⟩
    by_cases ek:k=i
    .subst ek;rw[s] at F;cases F;exact jH a
    .have ⟨f,h2⟩:=U k y (by omega) F a;exact⟨λe=>W _ (by omega) (f e),λe=>W _ (by omega) (h2 e)⟩
   refine⟨⟨rfl,by omega,by omega⟩,ag.of x (dK (e:=eG) (H.iQ Z (by simp)) s) (aH.go H λb r H=>aw.all 0 H rfl rfl rfl λt H=>ag.at 0 H rfl (show _=some x from rfl) ⟨trivial,?_⟩)⟩;rw[D7];refine ab (λd=>D j (λ_ _ h=>h) (λa=>absurd (by simpa[dN] using d) a) (H.sub (B3 _ _))) (λd=>?_);have a:x≠zG:=by simpa[dN] using d
   have ⟨r1,r2,X⟩:(1<=x.1/\x.1<=16)/\(1<=x.2.2.1/\x.2.2.1<=16)/\x.1≠x.2.2.1:=by
    rcases(P x J).1 with f|⟨f,h2,G, _⟩
    .exact absurd f a
    .exact⟨f,h2,G⟩
   refine⟨rfl,ag.bj 0 H rfl (show _=some x.1 from rfl) (ab (λd1=>?_) (λd1=>⟨rfl,ag.bj 0 H rfl (show _=some x.2.2.1 from rfl) (ab (λd2=>?_) (λd2=>?_))⟩))⟩
   .have d1:x.1=n:=by simpa using d1
    refine ag.at 1 H rfl rfl ⟨rfl,ag.bj 0 H rfl (show _=some x.2.2.1 from rfl) ?_⟩;have H:At [] w0 t (wE be g o bg cs L):=H.sub (B3 _ _);refine R cs (T j) j.len r2 H λl w6 hd H=>D (j.call ⟨x,J,a,.inl ⟨d1,rfl⟩⟩ hd (by omega)) hd.mono (λ_=>⟨λ_=>hd.C_,λe=>absurd (d1.trans e.symm) X⟩) H
   .have d2:x.2.2.1=n:=by simpa using d2
    refine ag.at 1 H rfl rfl ⟨rfl,ag.bj 0 H rfl (show _=some x.1 from rfl) ?_⟩;have H:At [] w0 t (wE be g o bg cs L):=H.sub (B3 _ _);refine R cs (T j) j.len r1 H λl w6 hd H=>D (j.call ⟨x,J,a,.inr ⟨rfl,d2⟩⟩ hd (by omega)) hd.mono (λ_=>⟨λe=>absurd (e.trans d2.symm) X,λ_=>hd.C_⟩) H
   .have d1: ¬ x.1=n:=by simpa using d1
    have d2: ¬ x.2.2.1=n:=by simpa using d2
    exact D j (λ_ _ h=>h) (λ_=>⟨λe=>absurd e d1,λe=>absurd e d2⟩) (H.sub (B3 _ _))
  .have hi: ¬ i<gs.length:=by simpa using I
   rintro v ⟨x,s,a,hh⟩;have ⟨k,B⟩:=FA s;have sB:=(B1.1 B).1;have ⟨f,h2⟩:=U k x (by omega) B a;rcases hh with ⟨N,O⟩|⟨N,O⟩
   .rw[<-O];exact f N
   .rw[<-N];exact h2 O
theorem Gz {w:A2} (h:bq w bg (g7 br gs.length c)) (i:bq w br (flat eG gs++rest)) (h0:0<gs.length) (j:gs.length<=64) (g:kf gs) (a b:Int):
 aC AC 87 gD [ah (ae bg),aa a,aa b] w (λx w'=>x=mg gs a b/\Ext w w'):=by
 refine aj (C:=G4) (AR (Gl _ a b w _) ?_);have H:=At.start [] w;refine aH.go H λk q H=>ag.at 0 H rfl rfl ⟨_,nW (h.ext H.all) h0,λ_=>trivial,λ_=>trivial,ab (λd=>ak.go H λl H=>⟨?_,H.all⟩) (λd=>?_)⟩
 .unfold mg;cases f:gG a<;>cases hb:gG b<;>rw[f,hb] at d<;>first|rfl|(cases d)
 have f:gG a=true:=by
  cases f:gG a with
  |true=>rfl
  |false=>rw[f] at d;cases d
 have hb:gG b=true:=by
  cases hb:gG b with
  |true=>rfl
  |false=>rw[f,hb] at d;cases d
 have m:=oz.1 f;have r:=oz.1 hb;refine aH.go H λn l H=>aH.go H λbe s H=>aw.all 0 H rfl rfl rfl λo H=>ag.at 0 H rfl rfl ?_;have H:At [] w o (wE be n k bg (AZ 17 false) []):=H;refine J_ g j h i (i_ (AZ 17 false)) (AZ 17 false) (Df _) (by simp) m H λnI t hd H=>?_;have p:b.toNat<nI.length:=by rw[hd.len];omega
 refine⟨⟨rfl,by omega,by show b<((17:Nat):Int);omega⟩,ag.bj 1 H rfl (ig p) (ak.go H λy H=>⟨?_,H.all⟩)⟩;have:=hd.iff (b:=b) (by omega) λu v e=>by have:=Ir g e;omega
 rw[Gi,re,this];exact⟨λh=>⟨f,hb,h⟩,λh=>h.2.2⟩
end
theorem kf.set {gs:List GT} (h:kf gs) (i:Nat) {x:GT} (b:(x=zG\/((1<=x.1/\x.1<=16)/\(1<=x.2.2.1/\x.2.2.1<=16)/\x.1≠x.2.2.1/\0<=x.2.1/\x.2.1<65536))/\0<=x.2.2.2.2.1/\x.2.2.2.2.1<=1000):kf (gs.set i x):=λy a=>by
 rcases H6 a with a|rfl
 .exact h y a
 .exact b
theorem Nx:((zG:GT)=zG\/((1<=zG.1/\zG.1<=16)/\(1<=zG.2.2.1/\zG.2.2.1<=16)/\zG.1≠zG.2.2.1/\0<=zG.2.1/\zG.2.1<65536))/\0<=zG.2.2.2.2.1/\zG.2.2.2.2.1<=1000:=⟨.inl rfl,by decide,by decide⟩
theorem kf.rev {gs:List GT} (h:kf gs) (i o:Int):kf (jf gs i o):=by
 unfold jf;split
 .exact h.set _ Nx
 .exact h
theorem kf.at {gs:List GT} (h:kf gs) {i:Int} {k:Nat} (a:jF gs i=some k):((1<=(gs.getD k zG).1/\(gs.getD k zG).1<=16)/\(1<=(gs.getD k zG).2.2.1/\(gs.getD k zG).2.2.1<=16)/\(gs.getD k zG).1≠(gs.getD k zG).2.2.1/\0<=(gs.getD k zG).2.1/\(gs.getD k zG).2.1<65536)/\0<=(gs.getD k zG).2.2.2.2.1/\(gs.getD k zG).2.2.2.2.1<=1000:=by
 have ⟨_, _, _,b,c⟩:=iu a;have ⟨d,h2⟩:=h _ (Cs b);exact⟨d.resolve_left c,h2⟩
theorem kf.take {gs:List GT} (h:kf gs) (i g:Int) (b:Bool):kf (de gs i g b):=by
 unfold de;split
 .rename_i a;unfold eB at a;cases c:jF gs i with
  |none=>rw[c] at a;cases a
  |some k=>
   rw[c] at a;dsimp only at a;have ⟨d,h2⟩:=h.at c;have ⟨_, _,e, _⟩:=iu c;subst e;split at a
   .cases a
   .split at a
    .cases a
    .rename_i f;refine h.set _ ⟨.inr d,?_,?_⟩
     .show 0<=(gs.getD i.toNat zG).2.2.2.2.1+1;omega
     .show(gs.getD i.toNat zG).2.2.2.2.1+1<=1000;omega
 .exact h
theorem kf.back {gs:List GT} (h:kf gs) (i g:Int):kf (dj gs i g):=by
 unfold dj;split
 .rename_i a;unfold jS at a;cases b:jF gs i with
  |none=>rw[b] at a;cases a
  |some k=>
   rw[b] at a;dsimp only at a;have ⟨c,h2⟩:=h.at b;have ⟨_, _,d, _⟩:=iu b;subst d;split at a
   .cases a
   .split at a
    .cases a
    .rename_i e;refine h.set _ ⟨.inr c,?_,?_⟩
     .show 0<=(gs.getD i.toNat zG).2.2.2.2.1+ -1;omega
     .show(gs.getD i.toNat zG).2.2.2.2.1+ -1<=1000;omega
 .exact h
theorem kf.off {gs:List GT} (h:kf gs) (o q t:Int) (b:Bool):kf (ib gs o q t b):=by
 unfold ib;split
 .rename_i a;unfold iT at a;split at a
  .cases a
  .rename_i hc;have hc:gG o=true/\gG t=true/\o≠t/\0<=q/\q<65536:=by
    simp only[DA,Da,beq_iff_eq,decide_eq_true_eq,not_or] at hc;have ⟨⟨⟨⟨c,h2⟩,d⟩,f⟩,g⟩:=hc;exact⟨by simpa using c,by simpa using h2,d,by omega,by omega⟩
   have a1:=oz.1 hc.1;have e:=oz.1 hc.2.1;exact h.set _ ⟨.inr ⟨a1,e,hc.2.2⟩,H9 0,(by decide:(0:Int)<=1000)⟩
 .exact h
theorem kf.drop {gs:List GT} (h:kf gs) (g:Int):kf (bY gs g):=λy a=>by
 unfold bY at a;obtain⟨x,b,rfl⟩:=Fz.1 a;split
 .exact Nx
 .exact h x b
theorem kf.new (n:Nat):kf (AZ n zG):=λy a=>by
 rw[List.eq_of_mem_replicate a];exact Nx
theorem kf.use {gs:List GT} (h:kf gs): ∀x∈gs,0<=x.2.2.2.2.1/\x.2.2.2.2.1<=1000:=λx a=>(h x a).2
noncomputable def H0:fa AC:={C3 with wx:=false,quiet:=[91,92]}
theorem J' (w:A2) (u:Option Nat->A2->Prop):(aL H0 (λ_=>[]) 96 [] w u)=(
 ∀w1,Ext w w1-> ∀c,Ext (w1.alloc (Obj.map ⟨[]⟩ 0)) c-> ∃(r:Nat), ∃(es:Array AU), ∃(a:Nat),some w1.heap.size=some r/\cd c r es a/\jE c r .i64 1 (.agg {toList:=[.string {data:=⟨[99,114,101,97,116,101]⟩},aa 0]}) es a λb=> ∀d,Ext b d-> ∃(r:Nat), ∃(es:Array AU), ∃(a:Nat),some w1.heap.size=some r/\cd d r es a/\jE d r .i64 2 (.agg {toList:=[.string {data:=⟨[100,101,115,116,114,111,121]⟩},aa 1]}) es a λb=> ∀e,Ext b e-> ∃(r:Nat), ∃(es:
 Array AU), ∃(a:Nat),some w1.heap.size=some r/\cd e r es a/\jE e r .i64 3 (.agg {toList:=[.string {data:=⟨[100,111,110,97,116,101]⟩},aa 2]}) es a λb=> ∀f,Ext b f-> ∃(r:Nat), ∃(es:Array AU), ∃(a:Nat),some w1.heap.size=some r/\cd f r es a/\jE f r .i64 4 (.agg {toList:=[.string {data:=⟨[114,101,99,108,97,105,109]⟩},aa 1]}) es a λb=> ∀g,Ext b g-> ∃(r:Nat), ∃(es:Array AU), ∃(a:Nat),some w1.heap.size=some r/\cd g r es a/\
 jE g r .i64 5 (.agg {toList:=[.string {data:=⟨[112,114,111,116,101,99,116]⟩},aa 2]}) es a λb=> ∀h,Ext b h-> ∃(r:Nat), ∃(es:Array AU), ∃(a:Nat),some w1.heap.size=some r/\cd h r es a/\jE h r .i64 6 (.agg {toList:=[.string {data:=⟨[108,111,97,100]⟩},aa 1]}) es a λb=> ∀i,Ext b i-> ∃(r:Nat), ∃(es:Array AU), ∃(a:Nat),some w1.heap.size=some r/\cd i r es a/\jE i r .i64 7 (.agg {toList:=[.string {data:=⟨[115,116,111,114,101]⟩},.int .i64
 2]}) es a λb=> ∀j,Ext b j-> ∃(r:Nat), ∃(es:Array AU), ∃(a:Nat),some w1.heap.size=some r/\cd j r es a/\jE j r .i64 8 (.agg {toList:=[.string {data:=⟨[111,102,102,101,114]⟩},aa 3]}) es a λb=> ∀k,Ext b k-> ∃(r:Nat), ∃(es:Array AU), ∃(a:Nat),some w1.heap.size=some r/\cd k r es a/\jE k r .i64 9 (.agg {toList:=[.string {data:=⟨[116,97,107,101]⟩},aa 3]}) es a λb=> ∀l,Ext b l-> ∃(r:Nat), ∃(es:Array AU), ∃(a:Nat),
 some w1.heap.size=some r/\cd l r es a/\jE l r .i64 10 (.agg {toList:=[.string {data:=⟨[98,97,99,107]⟩},aa 1]}) es a λb=> ∀m,Ext b m-> ∃(r:Nat), ∃(es:Array AU), ∃(a:Nat),some w1.heap.size=some r/\cd m r es a/\jE m r .i64 11 (.agg {toList:=[.string {data:=⟨[114,101,118,111,107,101]⟩},aa 1]}) es a λb=> ∀n,Ext b n-> ∃(r:Nat), ∃(es:Array AU), ∃(a:Nat),some w1.heap.size=some r/\cd n r es a/\jE n r .i64 12 (.agg {toList:=[.string
 {data:=⟨[111,112,101,110]⟩},aa 1]}) es a λb=> ∀o,Ext b o-> ∃(r:Nat), ∃(es:Array AU), ∃(a:Nat),some w1.heap.size=some r/\cd o r es a/\jE o r .i64 13 (.agg {toList:=[.string {data:=⟨[98,105,110,100]⟩},aa 2]}) es a λb=> ∀p,Ext b p-> ∃(r:Nat), ∃(es:Array AU), ∃(a:Nat),some w1.heap.size=some r/\cd p r es a/\jE p r .i64 14 (.agg {toList:=[.string {data:=⟨[115,101,110,100]⟩},aa 1]}) es a λb=> ∀q,Ext b q-> ∃(r
 :Nat), ∃(es:Array AU), ∃(a:Nat),some w1.heap.size=some r/\cd q r es a/\jE q r .i64 15 (.agg {toList:=[.string {data:=⟨[112,111,108,108]⟩},aa 0]}) es a λb=> ∀s,Ext b s-> ∃(r:Nat), ∃(es:Array AU), ∃(a:Nat),some w1.heap.size=some r/\cd s r es a/\jE s r .i64 16 (.agg {toList:=[.string {data:=⟨[99,108,111,115,101]⟩},aa 1]}) es a λb=> ∀t,Ext b t-> ∃(r:Nat), ∃(es:Array AU), ∃(a:Nat),some w1.heap.size=some r/\cd t r es
 a/\jE t r .i64 17 (.agg {toList:=[.string {data:=⟨[115,119,101,101,112]⟩},aa 0]}) es a λb=>ak b (u (some w1.heap.size))):=by kernel_rfl
theorem P0 (k:Int) (w:A2) (d:Int->A2->Prop):(aL H0 (λ_=>[]) 91 [aa k] w d)=(
 aA AC 96 (.el Dq) [] w λx a=> ∃(c:ByteArray×Int×Unit), ∃(b:Bool),ox a x .i64 k (.agg {toList:=[.string {data:=⟨[]⟩},aa 0]}) (.agg ⟨[.string c.1,aa c.2.1]⟩) b/\aH a {toList:=[.string {data:=⟨[]⟩},aa 0]} 192 λe a=>aw a (ae e) [.string c.1,aa c.2.1] λa=>aD (!b) (ak a (d (-1))) (true=true/\aN a (ad (ae e) 1) λx=>ak a (d x))):=by kernel_rfl
theorem EG (k:Int) (w:A2) (a:Bool->A2->Prop):(aL H0 (λ_=>[]) 63 [aa k] w a)=(
 ak w (a (k==1||k==2||k==17))):=by kernel_rfl
theorem Ka (k a b c:Int) (w:A2) (e:Int×Int×Int×Unit->A2->Prop):(bO H0 (λ_=>[]) 92 [.agg ⟨[aa k,av a,av b,av c]⟩] w e)=(
 aH w ⟨[aa k,av a,av b,av c]⟩ 34 λb d=>aH d ⟨[av 0,av 0,av 0]⟩ 184 λf d=>true=true/\bH d (ad (ae b) 1) λx=>true=true/\bH d (ad (ae b) 2) λg=>true=true/\bH d (ad (ae b) 3) λh=>aw d (ae f) [av x,av g,av h] λd=>ak d λw1=>ag w1 none (ae f) (.agg [eh,eh,eh]) λ(x:Int×Int×Int×Unit)=>e (x.1,x.2.1,x.2.2.1,()) w1):=by kernel_rfl
def se:Nat->aW:=(λ|5=>[(13,Go.RX.El.one (Go.RX.Sc.int Ce))]| _=>[])
theorem Kb (k a b c:Int) (w:A2) (f:Bool->A2->Prop):(aL H0 se 29 [.agg ⟨[aa k,av a,av b,av c]⟩] w f)=(
 aH w ⟨[aa k,av a,av b,av c]⟩ 34 λb d=>true=true/\aN d (ad (ae b) 0) λx=> ∃(g:Int),ai AC 91 [aa x] d (aa g)/\aD (g== -1) (ak d (f false)) (ag d none (ae b) vB λ(x:Int×Int×Int×Int×Unit)=> ∃(e:Int×Int×Int×Unit),ai AC 92 [.agg ⟨[aa x.1,av x.2.1,av x.2.2.1,av x.2.2.2.1]⟩] d (.agg ⟨[av e.1,av e.2.1,av e.2.2.1]⟩)/\ ∃(I:Nat->Int×Unit->A2->Prop),(∃n, ∀w1,Ext d w1->I n (0,()) w1)/\ ∀
 (n:Nat) (s:Int×Unit) (w1:A2),I n s w1->aD (decide (s.1<3)) ((0<=s.1/\s.1<(↑3:Int))/\aD (decide (s.1>=g)&&Jh [e.1,e.2.1,e.2.2.1] s.1 != 0) (ak w1 (f false)) (∀h,Ext w1 h-> ∃(i:Nat),i<n/\I i (ay .i64 s.1 1,()) h)) (ak w1 (f true)))):=by kernel_rfl
end Go.Proofs.YteeflilbnoknnaaGreat
namespace Go.RX
set_option maxRecDepth 100000
open Go.RowKit
def oG:Obj->Prop
 | .cells .. =>False
 | _=>True
theorem oG.ne {o:Obj} (h:oG o): ∀a t f,o≠ .cells a t f:=λa t f e=>by subst e;exact h
structure lU (D G:List Nat) (w0 w:A2) (L:List (Nat×List AG)) (M:List (Nat×Obj)):Prop where
 base:aJ D G w0 w L
 obj: ∀x∈M,w.heap[x.1]? =some x.2/\oG x.2
 own: ∀x∈M,w0.heap.size<=x.1\/x.1∈G
 nd:(M.map (·.1)).Nodup
 nD: ∀x∈M,x.1∉D
namespace lU
variable {D G:List Nat} {w0 w w1:A2} {L L':List (Nat×List AG)} {M M':List (Nat×Obj)}
theorem ext (H:lU D G w0 w L M) (h:Ext w w1):lU D G w0 w1 L M:=
 ⟨H.base.ext h,λx a=>⟨h.obj (H.obj x a).1,(H.obj x a).2⟩,H.own,H.nd,H.nD⟩
theorem start (G:List Nat) (w:A2):lU [] G w w [] []:=⟨At.start G w,λx a=>(by cases a),λx a=>(by cases a),I1,λx a=>(by cases a)⟩
theorem of (H:aJ D G w0 w L):lU D G w0 w L []:=⟨H,λx a=>(by cases a),λx a=>(by cases a),I1,λx a=>(by cases a)⟩
theorem sub (H:lU D G w0 w L M) (h:L'.Sublist L):lU D G w0 w L' M:=⟨H.base.sub h,H.obj,H.own,H.nd,H.nD⟩
theorem perm (H:lU D G w0 w L M) (h:L'.Perm L):lU D G w0 w L' M:=⟨H.base.perm h,H.obj,H.own,H.nd,H.nD⟩
theorem Jk (H:lU D G w0 w L M) (h:M'.Sublist M):lU D G w0 w L M':=⟨H.base,λx a=>H.obj x (h.subset a),λx a=>H.own x (h.subset a),(h.map _).nodup H.nd,λx a=>H.nD x (h.subset a)⟩
theorem yV (H:lU D G w0 w L M) (h:M'.Perm M):lU D G w0 w L M':=⟨H.base,λx a=>H.obj x (h.subset a),λx a=>H.own x (h.subset a),(h.map _).nodup_iff.2 H.nd,λx a=>H.nD x (h.subset a)⟩
theorem get (H:lU D G w0 w L M) {i r:Nat} {o:Obj} (h:M[i]? =some (r,o)):w.heap[r]? =some o:=(H.obj (r,o) (Cs h)).1
theorem FV (H:lU D G w0 w L M) {x:Nat×List AG} (b:x∈L) {y:Nat×Obj} (a:y∈M):x.1≠y.1:=
 aJ.dG (H.base.d_ x b) (H.obj y a).1 (H.obj y a).2.ne
theorem join (H:lU D G w0 w L M) (K:At (L.map (·.1)) w w1 L'):lU D G w0 w1 L' M:=by
 refine⟨H.base.join (λx a=>a) K,λy b=>⟨?_,(H.obj y b).2⟩,H.own,H.nd,H.nD⟩;have c:=(H.obj y b).1;rw[K.fr.block y.1 (FB.1 c).1 (λd=>?_)]
 .exact c
 .have ⟨x,a,e⟩:=Fz.1 d;exact H.FV a b e
theorem put (H:lU D G w0 w L M) {i r:Nat} {o:Obj} (h:M[i]? =some (r,o)) {o':Obj} (m:oG o'):lU D G w0 (w.putObj r o') L (M.set i (r,o')):=by
 have b:=Cs h;have ⟨n,h2⟩:=H.obj _ b;have p:r<w.heap.size:=(FB.1 n).1;have s:(M.set i (r,o')).map (·.1)=M.map (·.1):=by
  apply FJ;intro j;rw[FS,FS];by_cases e:i=j
  .subst e;rw[E5 (B1.1 h).1,h];rfl
  .rw[Fm e]
 refine⟨⟨⟨H.base.fr.os,H.base.fr.tape,H.base.fr.output,by rw[putObj_size];exact H.base.fr.size,λk t g=>?_⟩,λx a=>(H.base.d_ x a).putObj (H.FV a b) _,H.base.own,H.base.nd,λq d=>⟨(H.base.rV q d).1,?_⟩⟩,λx a=>?_,λx a=>?_,by rw[s];exact H.nd,λx a=>?_⟩
 .rw[gM (λe=>?_)]
  .exact H.base.fr.block k t g
  .subst e;rcases H.own _ b with f|f
   .simp only at f;omega
   .exact g f
 .rw[gM (λe=>H.nD _ b (by rw[<-e];exact d))];exact(H.base.rV q d).2
 .have ⟨j,c⟩:=FA a;by_cases e:i=j
  .subst e;rw[E5 (B1.1 h).1] at c;cases c;exact⟨k7 p,m⟩
  .rw[Fm e] at c;have l:=H.obj x (Cs c);refine⟨?_,l.2⟩;rw[gM (λu=>?_)]
   .exact l.1
   .have v:(M.map (·.1))[i]? =some r:=by rw[FS,h];rfl
    have y:(M.map (·.1))[j]? =some r:=by rw[FS,c];exact congrArg some u
    have:=(List.getElem?_inj (by rw[I8];exact(B1.1 h).1) H.nd).1 (v.trans y.symm);exact e this
 .rcases H6 a with a|rfl
  .exact H.own x a
  .exact H.own (r,o) b
 .rcases H6 a with a|rfl
  .exact H.nD x a
  .exact H.nD (r,o) b
theorem alloc (H:lU D G w0 w L M) {o:Obj} (c:oG o):lU D G w0 (w.alloc o) L ((w.heap.size,o)::M):=by
 have b:=H.ext (Ext.alloc w o);have d:(w.alloc o).heap[w.heap.size]? =some o:=by
  show(w.heap.push o)[w.heap.size]? =some o;simp
 refine⟨b.base,λx a=>?_,λx a=>?_,?_,λx a=>?_⟩
 .rcases Fe.1 a with rfl|a
  .exact⟨d,c⟩
  .exact b.obj x a
 .rcases Fe.1 a with rfl|a
  .exact .inl H.base.fr.size
  .exact H.own x a
 .refine List.nodup_cons.2 ⟨λf=>?_,H.nd⟩;have ⟨y,g,e⟩:=Fz.1 f;have:=(FB.1 (H.obj y g).1).1;simp only at e;omega
 .rcases Fe.1 a with rfl|a
  .intro hd;have:=(FB.1 (H.base.rV _ hd).2).1;simp only at this;omega
  .exact H.nD x a
theorem all (H:lU [] [] w0 w L M):Ext w0 w:=H.base.all
end lU
end Go.RX
namespace Go.Proofs.YteeflilbnoknnaaGreat
set_option maxRecDepth 100000
open Go.RX
theorem iH {D G:List Nat} {w0 w:A2} {L:List (Nat×List AG)} {M:List (Nat×Obj)} {r:Nat} {l:List AU} {c:Nat} (H:lU D G w0 w L ((r,.map ⟨l⟩ c)::M)) {n:Int} {val:AG} {K:A2->Prop} (g:Du (.int .i64) (aa n) l 0=some none)
 (k: ∀a,lU D G w0 a L ((r,.map ⟨l++[{key:=aa n,val,born:=c}]⟩ (c+1))::M)->K a):
 ∀w1,Ext w w1-> ∃r' b d,some r=some r'/\cd w1 r' b d/\jE w1 r' .i64 n val b d K:=λw1 h=>by
 have f:=H.ext h;refine⟨r,⟨l⟩,c,rfl,f.get (i:=0) rfl,?_⟩;unfold jE;rw[g];have e:Array.push _ _=⟨l++[{key:=aa n,val,born:=c}]⟩:=List.push_toArray _ _;rw[e];exact k _ (f.put (i:=0) rfl trivial)
theorem _root_.Go.RX.lU.V5 {D G:List Nat} {w0 w:A2} {L:List (Nat×List AG)} {M:List (Nat×Obj)} {r:Nat} {l l':List AU} {c:Nat} (H:lU D G w0 w L ((r,.map ⟨l⟩ c)::M)) (e:l=l'):lU D G w0 w L ((r,.map ⟨l'⟩ c)::M):=by
 grind
def iI (k:Int) (s:ByteArray) (n:Int) (b:Nat):AU:={key:=aa k,val:= .agg ⟨[.string s,aa n]⟩,born:=b}
def fJ:Array AU:=⟨[iI 1 ⟨⟨[99,114,101,97,116,101]⟩⟩ 0 0,iI 2 ⟨⟨[100,101,115,116,114,111,121]⟩⟩ 1 1,iI 3 ⟨⟨[100,111,110,97,116,101]⟩⟩ 2 2,iI 4 ⟨⟨[114,101,99,108,97,105,109]⟩⟩ 1 3,iI 5 ⟨⟨[112,114,111,116,101,99,116]⟩⟩ 2 4,iI 6 ⟨⟨[108,111,97,100]⟩⟩ 1 5,iI 7 ⟨⟨[115,116,111,114,101]⟩⟩ 2 6,iI 8 ⟨⟨[111,102,102,101,114]⟩⟩ 3 7,iI 9 ⟨⟨[116,97,107,101]⟩⟩ 3 8,iI 10 ⟨⟨[98,97,99,107]⟩⟩ 1 9,iI 11 ⟨⟨[114,101,118,111,107,101]⟩⟩ 1 10,iI 12 ⟨⟨[111,112,101,110]⟩⟩ 1 11,iI 13 ⟨⟨[98,105,110,100]⟩⟩ 2 12,iI 14 ⟨⟨[115,101,110,100]⟩⟩ 1 13,iI 15 ⟨⟨[112,111,108,108]⟩⟩ 0 14,iI 16 ⟨⟨[99,108,111,115,101]⟩⟩ 1 15,iI 17 ⟨⟨[115,119,101,101,112]⟩⟩ 0 16]⟩
def jM (k:Int):Int:=if 1<=k/\k<=17 then([0,1,2,1,2,1,2,3,3,1,1,1,2,1,0,1,0]:List Int).getD (k - 1).toNat 0 else -1
def iq (k a b c:Int):Bool:=decide (jM k>=0)&&((decide (jM k>0)||a==0)&&((decide (jM k>1)||b==0)&&(decide (jM k>2)||c==0)))
def xP (k:Int):Bool:=k==1||k==2||k==17
section
variable {D G:List Nat} {w0 w:A2} {L:List (Nat×List AG)} {M:List (Nat×Obj)}
theorem Kc (H:lU D G w0 w L M) {K:Option Nat->A2->Prop} (k: ∀r a,lU D G w0 a L ((r,.map fJ 17)::M)->K (some r) a):aA AC 96 (.el Dq) [] w K:=by
 refine λw1 b=>aj (C:=H0) (AR (J' w1 K) ?_);have H:=H.ext b;intro c d;have H:=(H.ext d).alloc (o:= .map #[] 0) trivial;refine iH H (by kernel_rfl) λg H=>?_;refine iH H (by kernel_rfl) λh H=>?_;refine iH H (by kernel_rfl) λi H=>?_;refine iH H (by kernel_rfl) λj H=>?_;refine iH H (by kernel_rfl) λl H=>?_;refine iH H (by kernel_rfl) λm H=>?_;refine iH H (by kernel_rfl) λn H=>?_;refine iH H (by kernel_rfl) λp H=>?_;refine iH H (by kernel_rfl) λq H=>?_;refine iH H (by kernel_rfl) λs H=>?_;refine iH H (by kernel_rfl) λt H=>?_;refine iH H (by kernel_rfl) λu H=>?_;refine iH H (by kernel_rfl) λv H=>?_;refine iH H (by kernel_rfl) λx H=>?_;refine iH H (by kernel_rfl) λy H=>?_;refine iH H (by kernel_rfl) λz H=>?_;refine iH H (by kernel_rfl) λA H=>?_;exact λe f=>k c.heap.size e ((H.ext f).V5 (by kernel_rfl))
theorem GB {r:Nat} (h:cd w r fJ 17) (k:Int): ∃(x:ByteArray×Int×Unit) (b:Bool),ox w (some r) .i64 k (.agg ⟨[.string ⟨⟨[]⟩⟩,aa 0]⟩) (.agg ⟨[.string x.1,aa x.2.1]⟩) b/\(b=false->jM k= -1)/\(b=true->x.2.1=jM k):=by
 by_cases c:1<=k/\k<=17
 .have:k=1\/k=2\/k=3\/k=4\/k=5\/k=6\/k=7\/k=8\/k=9\/k=10\/k=11\/k=12\/k=13\/k=14\/k=15\/k=16\/k=17:=by omega
  rcases this with rfl|rfl|rfl|rfl|rfl|rfl|rfl|rfl|rfl|rfl|rfl|rfl|rfl|rfl|rfl|rfl|rfl
  .exact⟨(⟨⟨[99,114,101,97,116,101]⟩⟩,0,()),true,⟨r,fJ,17,rfl,h,rfl,rfl⟩,λh=>(by cases h),λ_=>rfl⟩
  .exact⟨(⟨⟨[100,101,115,116,114,111,121]⟩⟩,1,()),true,⟨r,fJ,17,rfl,h,rfl,rfl⟩,λh=>(by cases h),λ_=>rfl⟩
  .exact⟨(⟨⟨[100,111,110,97,116,101]⟩⟩,2,()),true,⟨r,fJ,17,rfl,h,rfl,rfl⟩,λh=>(by cases h),λ_=>rfl⟩
  .exact⟨(⟨⟨[114,101,99,108,97,105,109]⟩⟩,1,()),true,⟨r,fJ,17,rfl,h,rfl,rfl⟩,λh=>(by cases h),λ_=>rfl⟩
  .exact⟨(⟨⟨[112,114,111,116,101,99,116]⟩⟩,2,()),true,⟨r,fJ,17,rfl,h,rfl,rfl⟩,λh=>(by cases h),λ_=>rfl⟩
  .exact⟨(⟨⟨[108,111,97,100]⟩⟩,1,()),true,⟨r,fJ,17,rfl,h,rfl,rfl⟩,λh=>(by cases h),λ_=>rfl⟩
  .exact⟨(⟨⟨[115,116,111,114,101]⟩⟩,2,()),true,⟨r,fJ,17,rfl,h,rfl,rfl⟩,λh=>(by cases h),λ_=>rfl⟩
  .exact⟨(⟨⟨[111,102,102,101,114]⟩⟩,3,()),true,⟨r,fJ,17,rfl,h,rfl,rfl⟩,λh=>(by cases h),λ_=>rfl⟩
  .exact⟨(⟨⟨[116,97,107,101]⟩⟩,3,()),true,⟨r,fJ,17,rfl,h,rfl,rfl⟩,λh=>(by cases h),λ_=>rfl⟩
  .exact⟨(⟨⟨[98,97,99,107]⟩⟩,1,()),true,⟨r,fJ,17,rfl,h,rfl,rfl⟩,λh=>(by cases h),λ_=>rfl⟩
  .exact⟨(⟨⟨[114,101,118,111,107,101]⟩⟩,1,()),true,⟨r,fJ,17,rfl,h,rfl,rfl⟩,λh=>(by cases h),λ_=>rfl⟩
  .exact⟨(⟨⟨[111,112,101,110]⟩⟩,1,()),true,⟨r,fJ,17,rfl,h,rfl,rfl⟩,λh=>(by cases h),λ_=>rfl⟩
  .exact⟨(⟨⟨[98,105,110,100]⟩⟩,2,()),true,⟨r,fJ,17,rfl,h,rfl,rfl⟩,λh=>(by cases h),λ_=>rfl⟩
  .exact⟨(⟨⟨[115,101,110,100]⟩⟩,1,()),true,⟨r,fJ,17,rfl,h,rfl,rfl⟩,λh=>(by cases h),λ_=>rfl⟩
  .exact⟨(⟨⟨[112,111,108,108]⟩⟩,0,()),true,⟨r,fJ,17,rfl,h,rfl,rfl⟩,λh=>(by cases h),λ_=>rfl⟩
  .exact⟨(⟨⟨[99,108,111,115,101]⟩⟩,1,()),true,⟨r,fJ,17,rfl,h,rfl,rfl⟩,λh=>(by cases h),λ_=>rfl⟩
  .exact⟨(⟨⟨[115,119,101,101,112]⟩⟩,0,()),true,⟨r,fJ,17,rfl,h,rfl,rfl⟩,λh=>(by cases h),λ_=>rfl⟩
 .have d: ∀(l:List AU) (i:Nat),(∀e∈l, ∃j:Int,e.key=aa j/\j≠k)->Du (.int .i64) (aa k) l i=some none:=by
   intro l
   induction l with
   |nil=>intro i _;rfl
   |cons e l m=>
    intro i a;have ⟨j,f,h2⟩:=a e Dx;unfold Du;rw[f];have:Jf (.int .i64) (aa k) (aa j)=some false:=by
     show(if Ce=Ce then some (k==j) else none)=some false
     grind
    grind
  have g:Du (.int .i64) (aa k) fJ.toList 0=some none:=d _ 0 λe a=>by
   have a:e∈[iI 1 ⟨⟨[99,114,101,97,116,101]⟩⟩ 0 0,iI 2 ⟨⟨[100,101,115,116,114,111,121]⟩⟩ 1 1,iI 3 ⟨⟨[100,111,110,97,116,101]⟩⟩ 2 2,iI 4 ⟨⟨[114,101,99,108,97,105,109]⟩⟩ 1 3,iI 5 ⟨⟨[112,114,111,116,101,99,116]⟩⟩ 2 4,iI 6 ⟨⟨[108,111,97,100]⟩⟩ 1 5,iI 7 ⟨⟨[115,116,111,114,101]⟩⟩ 2 6,iI 8 ⟨⟨[111,102,102,101,114]⟩⟩ 3 7,iI 9 ⟨⟨[116,97,107,101]⟩⟩ 3 8,iI 10 ⟨⟨[98,97,99,107]⟩⟩ 1 9,iI 11 ⟨⟨[114,101,118,111,107,101]⟩⟩ 1 10,iI 12 ⟨⟨[111,112,101,110]⟩⟩ 1 11,iI 13 ⟨⟨[98,105,110,100]⟩⟩ 2 12,iI 14 ⟨⟨[115,101,110,100]⟩⟩ 1 13,iI 15 ⟨⟨[112,111,108,108]⟩⟩ 0 14,iI 16 ⟨⟨[99,108,111,115,101]⟩⟩ 1 15,iI 17 ⟨⟨[115,119,101,101,112]⟩⟩ 0 16]:=a;simp only[Fe,List.not_mem_nil,or_false] at a;rcases a with rfl|rfl|rfl|rfl|rfl|rfl|rfl|rfl|rfl|rfl|rfl|rfl|rfl|rfl|rfl|rfl|rfl
   all_goals exact⟨_,rfl,by omega⟩
  refine⟨(⟨⟨[]⟩⟩,0,()),false,⟨r,fJ,17,rfl,h,?_⟩,λ_=>ar c,λh=>by cases h⟩;rw[g];exact⟨rfl,rfl⟩
theorem P1 (k:Int) (w:A2):aC AC 91 aT [aa k] w (λx w'=>x=jM k/\Ext w w'):=by
 refine aj (C:=H0) (AR (P0 k w _) ?_);refine Kc (lU.start [] w) λr e H=>?_;have ⟨x,b,a,h0,c⟩:=GB (H.get (i:=0) rfl) k;have H:=H.base;refine⟨x,b,a,aH.go H λb1 f H=>aw.all 0 H rfl rfl rfl λg H=>?_⟩;cases b with
 |false=>exact ax rfl (ak.go H λd H=>⟨(h0 rfl).symm,H.all⟩)
 |true=>exact an rfl ⟨rfl,ag.bj 0 H rfl rfl (ak.go H λd H=>⟨c rfl,H.all⟩)⟩
theorem TY (k:Int):ai AC 91 [aa k] w (aa (jM k)):=ai.of λw' _=>P1 k w'
theorem P5 (k a b c:Int):ai AC 92 [.agg ⟨[aa k,av a,av b,av c]⟩] w (Sh.g9 (.el (.agg [eh,eh,eh])) (a,b,c,())):=by
 refine ai.of λw' _=>aQ (C:=H0) (AR (Ka k a b c w' _) ?_);have H:=At.start [] w';refine aH.go H λb1 d H=>aH.go H λb2 e H=>⟨rfl,ag.bj 1 H rfl rfl ⟨rfl,ag.bj 1 H rfl rfl ⟨rfl,ag.bj 1 H rfl rfl (aw.all 0 H rfl rfl rfl λf H=>ak.go H λg H=>ag.at 0 H rfl (rfl) ⟨rfl,H.all⟩)⟩⟩⟩
theorem Kd (k a b c:Int) (w:A2):aC AC 29 gD [.agg ⟨[aa k,av a,av b,av c]⟩] w (λx w'=>x=iq k a b c/\Ext w w'):=by
 refine aj (C:=H0) (b_:=se) (AR (Kb k a b c w _) ?_);have H:=At.start [] w;have y:jM k= -1\/0<=jM k:=by
  unfold jM;split
  .rename_i h;right;have:k=1\/k=2\/k=3\/k=4\/k=5\/k=6\/k=7\/k=8\/k=9\/k=10\/k=11\/k=12\/k=13\/k=14\/k=15\/k=16\/k=17:=by omega
   rcases this with rfl|rfl|rfl|rfl|rfl|rfl|rfl|rfl|rfl|rfl|rfl|rfl|rfl|rfl|rfl|rfl|rfl<;>decide
  .exact .inl rfl
 refine aH.go H λb1 D H=>⟨rfl,ag.bj 0 H rfl rfl ⟨_,TY k,ab (λd=>ak.go H λl H=>⟨?_,H.all⟩) (λd=>ag.at 0 H rfl (show _=some (k,a,b,c,()) from rfl) ⟨(a,b,c,()),P5 k a b c,?_⟩)⟩⟩
 .have d:jM k= -1:=by simpa using d
  unfold iq;rw[d];rfl
 have d: ¬ jM k= -1:=by simpa using d
 unfold iq;have ⟨n,z⟩: ∃n,n=jM k:=⟨_,rfl⟩;rw[<-z] at d y ⊢;refine⟨λq v w'=> ∃i:Nat,v.1=(i:Int)/\q+i=3/\(0<i-> ¬ (n<=0/\a≠0))/\(1<i-> ¬ (n<=1/\b≠0))/\(2<i-> ¬ (n<=2/\c≠0))/\Ext w w',⟨3,λl r=>⟨0,rfl,rfl,λh=>by omega,λh=>by omega,λh=>by omega,(H.ext r).all⟩⟩,?_⟩;rintro q ⟨v,u⟩ l ⟨i,e,E,A,h2,r,m⟩;dsimp only at e ⊢;subst e;refine ab (λo=>⟨⟨by omega,by simpa using o⟩,?_⟩) (λo=>λf g=>⟨?_,m.trans g⟩)
 .have hi:i<3:=by
   have:(i:Int)<3:=by simpa using o
   omega
  have B:(¬ (n<=(i:Int)/\Jh [a,b,c] (i:Int)≠0))-> ∀f,Ext l f-> ∃s,s<q/\ ∃j:Nat,ay .i64 (i:Int) 1=(j:Int)/\s+j=3/\(0<j-> ¬ (n<=0/\a≠0))/\(1<j-> ¬ (n<=1/\b≠0))/\(2<j-> ¬ (n<=2/\c≠0))/\Ext w f:=λp f g=>by
   refine⟨q - 1,by omega,i+1,by rw[ao (by omega) (by omega)];omega,by omega,?_,?_,?_,m.trans g⟩
   .intro _;by_cases e:i=0
    .subst e;exact p
    .exact A (by omega)
   .intro _;by_cases e:i=1
    .subst e;exact p
    .exact h2 (by omega)
   .intro _;have e:i=2:=by omega
    subst e;exact p
  refine ab (λd1=>λf g=>⟨?_,m.trans g⟩) (λd1=>B ?_)
  .have d1:n<=(i:Int)/\Jh [a,b,c] (i:Int)≠0:=by
    simpa using d1
   have:i=0\/i=1\/i=2:=by omega
   symm;rw[Bool.eq_false_iff];intro t;simp only[DB,DA,decide_eq_true_eq,beq_iff_eq] at t;have ⟨_,F,G,I⟩:=t;rcases this with rfl|rfl|rfl
   .have d2:n<=0/\a≠0:=d1;omega
   .have d2:n<=1/\b≠0:=d1;omega
   .have d2:n<=2/\c≠0:=d1;omega
  grind
 grind
theorem P6 (k a b c:Int):ai AC 29 [.agg ⟨[aa k,av a,av b,av c]⟩] w (.bool (iq k a b c)):=ai.of λw' _=>Kd k a b c w'
theorem EH (k:Int) (w:A2):aC AC 63 gD [aa k] w (λx w'=>x=xP k/\Ext w w'):=
 aj (AR (EG k w _) λw1 a=>⟨rfl,a⟩)
theorem GC (k:Int):ai AC 63 [aa k] w (.bool (xP k)):=ai.of λw' _=>EH k w'
end
theorem TZ (f p t:Int) (w:A2) (a:Bool->A2->Prop):(aL M1 (λ_=>[]) 308 [aa f,aa p,aa t] w a)=(
 ak w (a (decide (f>=0)&&decide (f<=4095)&&decide (p>=0)&&decide (p<=65535)&&decide (t>=0)&&decide (t<=7)))):=by kernel_rfl
theorem P7 (f p t:Int) (w:A2) (a:Option AE->A2->Prop):(aL M1 (λ_=>[]) 193 [aa f,aa p,aa t] w a)=(
 aH w {toList:=[aa f,aa p,aa t,aa 3,.bool false,aa 0,aa 0,aa 0,aa 0,.slice none 0 0]} 331 λb c=>ak c (a (ae b))):=by kernel_rfl
theorem P8 (p:Option AE) (e:Int) (w:A2) (b:Unit->A2->Prop):(aL M1 (λ_=>[]) 274 [ah p,aa e] w b)=(
 p.isSome=true/\p.isSome=true/\aw w (ad p 4) [.bool true] λa=>dw p 3 a λx=>p.isSome=true/\p.isSome=true/\aw a (ad p 5) [aa 0,aa 0,aa x,aa e] λa=>ak a (b ())):=by kernel_rfl
theorem T1 (p:Option AE) (fr:Int) (ep:Bool) (er:Int) (el:Bool) (ef:Int) (w:A2) (c:Unit->A2->Prop):(aL M1 (λ_=>[]) 276 [ah p,aa fr,.agg ⟨[.bool ep,aa er,.bool el,aa ef]⟩] w c)=(
 aH w ⟨[.bool ep,aa er,.bool el,aa ef]⟩ 305 λb a=>aD (decide (fr>4095)) (aA AC 274 (.bu []) [ah p,aa 11] a λx a=>ak a (c ())) (p.isSome=true/\p.isSome=true/\aw a (ad p 4) [.bool true] λa=>true=true/\aN a (ad (ae b) 1) λx=>dw p 3 a λd=>p.isSome=true/\p.isSome=true/\aw a (ad p 5) [aa fr,aa x,aa d,aa 0] λa=>ag a none (ae b) fp λ(x:Bool×Int×Bool×Int×Unit)=>dw p 2 a λe=>True/\aD (!gy x.1 x.2.1 x.2.2.1
 x.2.2.2.1 e) (p.isSome=true/\p.isSome=true/\(ad p 5).isSome=true/\aw a (ad (ad p 5) 3) [aa 7] λa=>ak a (c ())) (ak a (c ())))):=by kernel_rfl
theorem Bv (p m:Option AE) (w:A2) (d:Bool->A2->Prop):(aL M1 (λ_=>[]) 196 [ah p,ah m] w d)=(
 tA p 4 w λx=>aD x (ak w (d true)) (bD p 9 w λx=>dw p 0 w λg=>aH w ⟨[aa g]⟩ 3 λb a=> ∀w1,Ext a w1->nm w1 3 1 8 ⟨[aa 0]⟩ (x.1,x.2.1,x.2.2) (some ⟨b,0,none⟩,1,1) λ(r:Option AE×Nat×Nat) a=>p.isSome=true/\p.isSome=true/\aw a (ad p 9) [.slice r.1 r.2.1 r.2.2] λa=>dw p 0 a λx=>dw p 1 a λh=>dw p 3 a λi=>True/\aA AC 153 (.bu [.one eh,aq]) [ah m,aa (c9 x h i)] a λ(x:Int×Int×Unit) a=>U (B x.1)=x.1/\aH a ⟨[.bool
 false,aa 0,.bool false,aa 0]⟩ 305 λb a=>aw a (ae b) [.bool (vo (B x.1).toNat),aa (vp (B x.1).toNat),.bool (wk (B x.1).toNat),aa (tr (B x.1).toNat)] λa=>aD (x.2.1 != 0|| !oh (B x.1).toNat) (aA AC 274 (.bu []) [ah p,aa 11] a λx a=>tA p 4 a λx=>ak a (d x)) (true=true/\jc a (ad (ae b) 0) λx=>aD (!x) (aA AC 274 (.bu []) [ah p,aa 4] a λx a=>tA p 4 a λx=>ak a (d x)) (ag a none (ae b) fp λ(x:Bool×Int×Bool×Int×Unit)=>True/\
 (cP x.1 x.2.1 x.2.2.1 x.2.2.2.1=true->p.isSome=true)/\(cP x.1 x.2.1 x.2.2.1 x.2.2.2.1=true->p.isSome=true)/\ag a (some (cP x.1 x.2.1 x.2.2.1 x.2.2.2.1)) (ad p 3) aq λ(j:Int)=>aD (cP x.1 x.2.1 x.2.2.1 x.2.2.2.1&&decide (j>0)) (true=true/\aN a (ad (ae b) 3) λx=>p.isSome=true/\p.isSome=true/\aw a (ad p 0) [aa x] λa=>dw p 3 a λx=>p.isSome=true/\p.isSome=true/\aw a (ad p 3) [aa (aR .i64 x 1)] λa=>tA p 4 a λx=>ak a (d x)) (true=true/\jc a (ad (ae b) 2) λx
 =>(x=true->p.isSome=true)/\(x=true->p.isSome=true)/\ag a (some x) (ad p 3) aq λ(k:Int)=>aD (x&&k==1) (true=true/\aN a (ad (ae b) 3) λx=>dw p 1 a λc=>ag a none (ae b) fp λ(e:Bool×Int×Bool×Int×Unit)=>aA AC 276 (.bu []) [ah p,aa (ay .i64 x (gj c 16)),.agg ⟨[.bool e.1,aa e.2.1,.bool e.2.2.1,aa e.2.2.2.1]⟩] a λx a=>tA p 4 a λx=>ak a (d x)) (true=true/\jc a (ad (ae b) 2) λx=>ag a (some !x) (ae b) fp λ(c:Bool×Int×Bool
 ×Int×Unit)=>((!x)=true->True)/\((!x&& !cP c.1 c.2.1 c.2.2.1 c.2.2.2.1)=true->p.isSome=true)/\((!x&& !cP c.1 c.2.1 c.2.2.1 c.2.2.2.1)=true->p.isSome=true)/\ag a (some (!x&& !cP c.1 c.2.1 c.2.2.1 c.2.2.2.1)) (ad p 3) aq λ(e:Int)=>aD (!x&& !cP c.1 c.2.1 c.2.2.1 c.2.2.2.1&&e==0) (true=true/\aN a (ad (ae b) 3) λx=>ag a none (ae b) fp λ(f:Bool×Int×Bool×Int×Unit)=>aA AC 276 (.bu []) [ah p,aa x,.agg ⟨[.bool f.1,aa f.2.1,.bool
 f.2.2.1,aa f.2.2.2.1]⟩] a λx a=>tA p 4 a λx=>ak a (d x)) (aA AC 274 (.bu []) [ah p,aa 11] a λx a=>tA p 4 a λx=>ak a (d x)))))))):=by kernel_rfl
def uR:Nat->aW:=(λ|5=>[(10,Go.RX.El.one (Go.RX.Sc.int Ce))]| _=>[])
theorem P9 (m:Option AE) (f p t:Int) (w:A2) (c:(Int×Int×Int×Int×Unit)->A2->Prop):(bO M1 uR 243 [ah m,aa f,aa p,aa t] w c)=(
 aH w ⟨[aa 0,aa 0,aa 0,aa 0]⟩ 329 λb a=> ∃x,ai AC 308 [aa f,aa p,aa t] a (.bool x)/\aD (!x) (aw a (ae b) [aa 0,aa 0,aa 0,aa 1] λa=>ak a λw1=>ag w1 none (ae b) dh λ(x:Int×Int×Int×Int×Unit)=>c (x.1,x.2.1,x.2.2.1,x.2.2.2.1,()) w1) (aA AC 193 oq [aa f,aa p,aa t] a λx a=> ∃(I:Nat->Int×Unit->A2->Prop),(∃n, ∀w1,Ext a w1->I n (0,()) w1)/\ ∀(n:Nat) (s:Int×Unit) (w1:
 A2),I n s w1->aD (decide (s.1<4)) (aA AC 196 gD [ah x,ah m] w1 λx a=> ∀d,Ext a d-> ∃(e:Nat),e<n/\I e (ay .i64 s.1 1,()) d) (x.isSome=true/\x.isSome=true/\ag w1 none (ad x 5) dh λ(x:Int×Int×Int×Int×Unit)=>aw w1 (ae b) [aa x.1,aa x.2.1,aa x.2.2.1,aa x.2.2.2.1] λa=>ak a λw1=>ag w1 none (ae b) dh λ(x:Int×Int×Int×Int×Unit)=>c (x.1,x.2.1,x.2.2.1,x.2.2.2.1,()) w1))):=by kernel_rfl
end Go.Proofs.YteeflilbnoknnaaGreat
namespace Go.RX
set_option maxRecDepth 100000
open Go.ChangeShapes Go.WideShapes Go.RowKit
variable {H:Type} {enc:DS×AG->H} {P:Program} {w:A2} {base:Nat} {spare:Nat->Bool} {held:Bool}
def zf (P:Program) (g:DS->Option (List Sc)):Nat->List Field->Option (List Sc)
 | _,[]=>some []
 |off,f::r=>match g f.type with
  |some a=>if f.offset=off/\P.cellsOf f.type=a.length then match zf P g (off+a.length) r with
    |some b=>some (a++b)
    |none=>none
   else none
  |none=>none
def vN (P:Program):Nat->DS->Option (List Sc)
 |0, _=>none
 |d+1,t=>match P.underlying t with
  |some (.int k)=>some [.int k]
  |some .bool=>some [.bool]
  |some (.struct b)=>match zf P (vN P d) 0 b.toList with
   |some a=>if P.cellsOf t=a.length then some a else none
   |none=>none
  |some (.array n e)=>match vN P d e with
   |some a=>if P.cellsOf e=a.length/\P.cellsOf t=n*a.length then some (AZ n a).flatten else none
   |none=>none
  | _=>none
def ab_:(s:Sc)->s.T->Prop
 | .int k,x=>(Lit.int k x).wf=true
 | _, _=>True
def lH:(l:List Sc)->g_ l->Prop
 |[], _=>True
 |s::r,x=>ab_ s x.1/\lH r x.2
theorem s_: ∀(a b:List Sc) (x:g_ a) (y:g_ b),lH a x->lH b y-> ∃z:g_ (a++b),a6 (a++b) z=a6 a x++a6 b y/\lH (a++b) z
 |[],b, _,y, _,c=>⟨y,rfl,c⟩
 |s::r,b,x,y,d,c=>by
  have ⟨z,e,h2⟩:=s_ r b x.2 y d.2 c;exact⟨(x.1,z),by simp only[I_,a6,e],d.1,h2⟩
theorem Is {g:DS->Option (List Sc)} {m:Nat} (j: ∀t ss cs y,g t=some ss->DataW.trod enc P w base spare held m t cs=some y-> ∃x:g_ ss,cs=a6 ss x/\lH ss x)
 {cs:List AG} {c:Array Field} {xs:List (DataW H×List MemPlace)} (k:xs.length=c.size)
 (n: ∀(i:Nat) (f:Field),c[i]? =some f->DataW.trod enc P w base spare held m f.type ((cs.drop f.offset).take (P.cellsOf f.type))=xs[i]?):
 ∀(l:List Field) (i off:Nat) (ss:List Sc),c.toList.drop i=l->zf P g off l=some ss->cs.length=off+ss.length-> ∃x:g_ ss,cs.drop off=a6 ss x/\lH ss x
 |[],i,off,ss, _,h,e=>by
  simp only[zf,Option.some.injEq] at h;subst h;refine⟨(),?_,trivial⟩;rw[H7 (by simp at e;omega)];rfl
 |f::r,i,off,ss,d,h,e=>by
  simp only[zf] at h;split at h
  .rename_i a p;split at h
   .rename_i hc;split at h
    .rename_i b hb;cases h;have hi:i<c.toList.length:=by
      apply Nat.lt_of_not_le;intro q;rw[H7 q] at d;cases d
     have s:c[i]? =some f:=by
      have:=congrArg (·[0]?) d;simp only[List.getElem?_drop,HD,List.getElem?_cons_zero] at this;simpa using this
     have o:=n i f s;have v: ∃y,xs[i]? =some y:=⟨_,B2 (by rw[k];simpa using hi)⟩;have ⟨y,A⟩:=v;rw[A,hc.1,hc.2] at o;have ⟨x,B,C⟩:=j _ _ _ _ p o;have SI:c.toList.drop (i+1)=r:=by
      have:=congrArg (List.drop 1) d;simpa[H8] using this
     have ⟨z,D,E⟩:=Is j k n r (i+1) (off+a.length) b SI hb (by rw[e];simp;omega);have ⟨u,F,G⟩:=s_ a b x z C E;refine⟨u,?_,G⟩;rw[F, <-B, <-D, <-H8];exact(IR _ _).symm
    .cases h
   .cases h
  .cases h
theorem Bw {a:List Sc} {cs:List AG}: ∀(n off:Nat),(∀i,i<n-> ∃x:g_ a,(cs.drop (off+i*a.length)).take a.length=a6 a x/\lH a x)->cs.length=off+n*a.length->
 ∃x:g_ (AZ n a).flatten,cs.drop off=a6 _ x/\lH _ x
 |0,off, _,b=>by
  refine⟨(),?_,trivial⟩;rw[H7 (by omega)];rfl
 |n+1,off,h,b=>by
  have ⟨x,c,d⟩:=h 0 (by omega);have ⟨z,e,f⟩:=Bw (a:=a) (cs:=cs) n (off+a.length) (λi hi=>by
   have:=h (i+1) (by omega);rw[show off+(i+1)*a.length=off+a.length+i*a.length by rw[Nat.add_mul];omega] at this;exact this) (by rw[b,Nat.add_mul];omega)
  have ⟨u,g,j⟩:=s_ a (AZ n a).flatten x z d f;refine⟨u,?_,j⟩;show _=a6 (a++(AZ n a).flatten) u;rw[g, <-c, <-e,Nat.zero_mul,HD, <-H8];exact(IR _ _).symm
theorem vY: ∀(d m:Nat) (t:DS) (ss:List Sc) (cs:List AG) (y:DataW H×List MemPlace),vN P d t=some ss->DataW.trod enc P w base spare held m t cs=some y-> ∃x:g_ ss,cs=a6 ss x/\lH ss x
 |0, _, _, _, _, _,h, _=>by simp[vN] at h
 |d+1,m,t,ss,cs,y,h,g=>by
  simp only[vN] at h;split at h
  .rename_i k c;cases h;obtain⟨n,rfl, _,r⟩:=DataW.trod_int c g;exact⟨(n,()),rfl,r,trivial⟩
  .rename_i c;cases h;obtain⟨b,rfl, _⟩:=DataW.trod_bool c g;exact⟨(b,()),rfl,trivial,trivial⟩
  .rename_i s c;split at h
   .rename_i a j;split at h
    .rename_i hc;cases h;have ⟨xs,n, _, _,l,p,o⟩:=DataW.trod_struct c g;have ⟨x,f,h2⟩:=Is (λt ss cs y f h2=>vY d n t ss cs y f h2) p o s.toList 0 0 _ rfl j (by rw[l,hc];omega);exact⟨x,by simpa using f,h2⟩
    .cases h
   .cases h
  .rename_i n e c;split at h
   .rename_i a j;split at h
    .rename_i hc;cases h;have ⟨xs,k, _, _,l,p,o⟩:=DataW.trod_array c g;have ⟨x,f,h2⟩:=Bw (a:=a) (cs:=cs) n 0 (λi hi=>by
      have q:=o i hi;have u:xs[i]? =some xs[i]:=B2 (by omega);rw[u,hc.1] at q;rw[Ff];exact vY d k e a _ _ j q) (by rw[l,hc.2];omega)
     exact⟨x,by simpa using f,h2⟩
    .cases h
   .cases h
  .cases h
theorem xS {t e:DS} {a:Option AE} {n c:Nat} {p:DataW H} {ps:List MemPlace} (d:Nat) {ss:List Sc} (q:P.underlying t=some (.slice e)) (r:vN P d e=some ss) (hc:P.cellsOf e=ss.length)
 (h:DataW.Trod enc P w base spare held t (.slice a n c) p ps): ∃xs:List (g_ ss),n=xs.length/\n<=maxLen/\Sl w (.agg ss) a xs/\ ∀x∈xs,lH ss x:=by
 have ⟨F,s⟩:=h;rcases Deep.open_slice q s with ⟨kv, _⟩|⟨x,len,cap,m,k,D,G,kv, _,I,J,u, _,l⟩
 .simp[Value.cells] at kv;obtain⟨rfl,rfl,rfl⟩:=kv;exact⟨[],rfl,Nat.zero_le _,λi x l=>by simp at l,λx l=>by simp at l⟩
 .simp[Value.cells] at kv;obtain⟨rfl,rfl,rfl⟩:=kv;have K:n<=m:=by rw[u];split<;>omega
  have v: ∀i,i<n-> ∃y:g_ ss,(∀j,j<ss.length->w.cell? ((x.add (i*ss.length)).add j)=(a6 ss y)[j]?)/\lH ss y:=by
   intro i hi;have ⟨L,g,h2⟩:=l i (by omega);have ⟨y,A,B⟩:=vY d _ _ _ _ _ r h2;have ⟨_,C,tM⟩:=World.cells?_some g;rw[hc] at g C tM;refine⟨y,λj o=>?_,B⟩;rw[<-A];exact tM j o
  have: ∀k,k<=n-> ∃xs:List (g_ ss),xs.length=k/\(∀i y,xs[i]? =some y->(∀j,j<ss.length->w.cell? ((x.add (i*ss.length)).add j)=(a6 ss y)[j]?)/\lH ss y):=by
   intro k
   induction k with
   |zero=>intro _;exact⟨[],rfl,λi y b=>by simp at b⟩
   |succ k E=>
    intro M;have ⟨xs,g,h2⟩:=E (by omega);have ⟨y,b⟩:=v k (by omega);refine⟨xs++[y],by simp[g],λi z f=>?_⟩;by_cases hi:i<xs.length
    .rw[List.getElem?_append_left hi] at f;exact h2 i z f
    .rw[List.getElem?_append_right (by omega)] at f;have:i - xs.length=0:=by
      have:=(B1.1 f).1;simp at this;omega
     rw[this] at f;simp at f;subst f;rw[show i=k by omega];exact b
  have ⟨xs,g,h2⟩:=this n (Df n);refine⟨xs,g.symm,by omega,λi y b=>⟨rfl,x.add (i*ss.length),rfl,λj o=>(h2 i y b).1 j o⟩,λy b=>?_⟩;have ⟨i,hi⟩:=FA b;exact(h2 i y hi).2
end Go.RX
namespace Go.Proofs.YteeflilbnoknnaaGreat
set_option maxRecDepth 100000
open Go.RX
section
variable {w0 w:A2} {L:List (Nat×List AG)}
def lj (ws:List Int) (f p t:Int):Nat->Int×Int×FT
 |0=>(f,3,(0,0,0,0,()))
 |k+1=>fZ ws p t (lj ws f p t k)
def rJ (ws:List Int) (f p t:Int):FT:=if Cm f p t then(0,0,0,1,()) else(lj ws f p t 4).2.2
theorem rh {ws:List Int} {p t:Int} {x:Int×Int×FT} (h:x.2.1= -1):fZ ws p t x=x:=az h
theorem T2 {fr pg wt lv:Int} {fd:FT} {ep:Bool} {er:Int} {el:Bool} {ef:Int} (a:0<=lv/\lv<=3):(tookS fr pg wt lv fd ep er el ef).2.1= -1\/((tookS fr pg wt lv fd ep er el ef).2.1=lv - 1/\0<lv):=by
 unfold tookS;split
 .exact .inl rfl
 .split
  .rename_i h;rw[DB,decide_eq_true_eq] at h;exact .inr ⟨aX (by omega) (by omega),by omega⟩
  .split
   .exact .inl rfl
   .split<;>exact .inl rfl
theorem Ny (ws:List Int) (f p t:Int): ∀k:Nat,(lj ws f p t k).2.1= -1\/((lj ws f p t k).2.1=3 - (k:Int)/\k<=3)
 |0=> .inr ⟨rfl,by decide⟩
 |k+1=>by
  rcases Ny ws f p t k with h|⟨h,a⟩
  .left;show(fZ ws p t (lj ws f p t k)).2.1= -1;rw[rh h];exact h
  .show(fZ ws p t (lj ws f p t k)).2.1= -1\/((fZ ws p t (lj ws f p t k)).2.1=3 - ((k+1:Nat):Int)/\k+1<=3);generalize lj ws f p t k=x at h;unfold fZ;rw[ar (by omega)];split
   .exact .inl rfl
   .rcases T2 (fr:=x.1) (pg:=p) (wt:=t) (lv:=x.2.1) (fd:=x.2.2) (by omega) with e|⟨e,b⟩
    .exact .inl (e ..)
    .exact .inr ⟨by rw[e];omega,by omega⟩
theorem CH {ws:List Int} {f p t:Int} {k:Nat} (h:(lj ws f p t k).2.1= -1): ∀j,lj ws f p t (k+j)=lj ws f p t k
 |0=>rfl
 |j+1=>by
  show fZ ws p t (lj ws f p t (k+j))= _;rw[CH h j,rh h]
end
theorem set_perm {α:Type} (a:α): ∀(L:List α) (j:Nat),j<L.length->(L.set j a).Perm (a::L.eraseIdx j)
 |[], _,h=>by simp at h
 |x::L,0, _=>by simp
 |x::L,j+1,h=>by
  rw[List.set_cons_succ,List.eraseIdx_cons_succ];exact((set_perm a L j (by simpa using h)).cons x).trans (.swap a x _)
theorem N4 {α:Type} {L:List α} {j:Nat} {a:α} (b:L[j]? =some a):L.set j a=L:=by
 apply FJ;intro n;by_cases e:j=n
 .subst e;rw[E5 (B1.1 b).1,b]
 .rw[Fm e]
theorem N5 {α:Type} {L:List α} {j d:Nat} {a b:α} (f:L[j]? =some a) (hb:L[d]? =some b) (l:j≠d): ∃g,L.Perm (a::b::g)/\ ∀c,(L.set j c).Perm (c::b::g):=by
 have h:j<L.length:=(B1.1 f).1;have m:b∈L.eraseIdx j:=by
  rw[List.mem_eraseIdx_iff_getElem?];exact⟨d,λe=>l e.symm,hb⟩
 have ⟨i,hi⟩:=FA m;have n:i<(L.eraseIdx j).length:=(B1.1 hi).1;have k:(L.eraseIdx j).Perm (b::(L.eraseIdx j).eraseIdx i):=by
  have:=set_perm b (L.eraseIdx j) i n;rwa[N4 hi] at this
 refine⟨(L.eraseIdx j).eraseIdx i,?_,λc=>(set_perm c L j h).trans (k.cons c)⟩;have:=(set_perm a L j h).trans (k.cons a);rwa[N4 f] at this
section
variable {w0 w:A2} {L:List (Nat×List AG)}
end
end Go.Proofs.YteeflilbnoknnaaGreat
namespace Go.Proofs.YteeflilbnoknnaaGreat.D
set_option maxRecDepth 100000
open Go.RX
noncomputable def D0:fa AC:={C3 with wx:=true}
theorem P_ (a:Int) (w:A2) (k:Option AE×Nat×Nat->A2->Prop):(aL D0 (λ_=>[]) 363 [aa a] w k)=(
 ∀w1,Ext w w1->aH (w1.alloc (Obj.map ⟨[]⟩ 0)) ⟨[aa 1,aa 2,aa 3,aa 4]⟩ 3 λb c=> ∀e,Ext c e-> ∃(r:Nat), ∃(es:Array AU), ∃(d:Nat),some w1.heap.size=some r/\cd e r es d/\jE e r .i64 0 (.slice (ae b) 4 4) es d λc=>aH c ⟨[aa 0,aa 2,aa 3,aa 4]⟩ 3 λb c=> ∀f,Ext c f-> ∃(r:Nat), ∃(es:Array AU), ∃(d:Nat),some w1.heap.size=some r/\cd f r es d/\jE f r .i64 1 (.slice (ae b) 4 4) es d λc=>aH c ⟨[aa 5,.int
 .i64 0]⟩ 3 λb c=> ∀g,Ext c g-> ∃(r:Nat), ∃(es:Array AU), ∃(d:Nat),some w1.heap.size=some r/\cd g r es d/\jE g r .i64 2 (.slice (ae b) 2 2) es d λc=>aH c ⟨[aa 5,aa 0]⟩ 3 λb c=> ∀h,Ext c h-> ∃(r:Nat), ∃(es:Array AU), ∃(d:Nat),some w1.heap.size=some r/\cd h r es d/\jE h r .i64 3 (.slice (ae b) 2 2) es d λc=>aH c ⟨[aa 5,aa 0,aa 4]⟩ 3 λb c=> ∀i,Ext c i-> ∃(r:Nat), ∃(es:Array AU), ∃(d:Nat),some
 w1.heap.size=some r/\cd i r es d/\jE i r .i64 4 (.slice (ae b) 3 3) es d λc=>aH c ⟨[aa 0]⟩ 3 λb c=> ∀j,Ext c j-> ∃(r:Nat), ∃(es:Array AU), ∃(d:Nat),some w1.heap.size=some r/\cd j r es d/\jE j r .i64 5 (.slice (ae b) 1 1) es d λc=> ∃(x:Option AE×Nat×Nat),o8 c (some w1.heap.size) .i64 a (.slice none 0 0) (.slice x.1 x.2.1 x.2.2)/\ak c (k (x.1,x.2.1,x.2.2))):=by kernel_rfl
def Ad:Nat->aW:=(λ|2=>[(10,Go.RX.El.one (Go.RX.Sc.int Ce))]| _=>[])
theorem Yu (a b:Int) (w:A2) (Post:Bool->A2->Prop):(aL D0 Ad 336 [aa a,aa b] w Post)=(
 aA AC 363 di [aa a] w λx f=> ∀(c:Int),c=(↑x.2.1:Int)-> ∃(I:Nat->Int×Unit->A2->Prop),(∃n, ∀w1,Ext f w1->I n (0,()) w1)/\ ∀(n:Nat) (s:Int×Unit) (w1:A2),I n s w1->aD (decide (s.1<c)) ((x.1.isSome=true/\0<=s.1/\s.1<(↑x.2.1:Int))/\ag w1 none (ad x.1 (DC s.1*1)) aq λ(x:Int)=>aD (x==b) (ak w1 λw1=>Post true w1) (∀(x:Int),x=ay .i64 s.1 1-> ∀d,Ext w1 d-> ∃(e:Nat),e<n/\I e (x,()) d)) (ak w1 λw1=>Post false w1)):=by
 kernel_rfl
theorem Ke (a b:Int) (w:A2) (c:Bool->A2->Prop):(aL D0 (λ_=>[]) 305 [aa a,aa b] w c)=(
 aD (a==0) (ak w (c (decide (b>=1)&&decide (b<=4)))) (aD (a==1) (ak w (c (b==0||decide (b>=2)&&decide (b<=4)))) (aD (a==2) (aD (a==2) (ak w (c (b==5||b==0))) (aD (a==4) (ak w (c (b==5||b==0||b==4))) (ak w (c (b==0))))) (aD (a==3) (ak w (c (b==5||b==0))) (aD (a==4) (ak w (c (b==5||b==0||b==4))) (ak w (c (b==0)))))))):=by kernel_rfl
theorem Kf (n m:Int) (w:A2) (a:Bool->A2->Prop):(aL D0 (λ_=>[]) 310 [aa n,aa m] w a)=(
 ak w (a (decide (n>=0)&&decide (n<=m)))):=by kernel_rfl
theorem CF {w:A2} {r:Nat} {k:IntKind} {n:Int} {val:AG} {es:Array AU} {a:Nat} {K:A2->Prop} (h:Du (.int k) (.int k n) es.toList 0=some none)
 (b:K (w.putObj r (.map (es.push {key:= .int k n,val,born:=a}) (a+1)))):jE w r k n val es a K:=by grind[jE]
theorem nY {w0 a e:A2} {r:Nat} {es:Array AU} {c:Nat} {l:List AG} {t:DS} {n:Int} {bs:List (Nat×List AG)} {val:AG} {K:A2->Prop}
 (m:Ext w0 a) (o:w0.heap.size<=r) (p:cd a r es c) (hb: ∀x∈bs,bq a x.1 x.2/\x.1≠r) (h2:Ext (a.alloc (.cells ⟨l⟩ t)) e)
 (q:Du (.int .i64) (aa n) es.toList 0=some none)
 (k: ∀d,Ext w0 d->cd d r (es.push {key:=aa n,val,born:=c}) (c+1)->(∀x∈(a.heap.size,l)::bs,bq d x.1 x.2/\x.1≠r)->K d):
 ∃r' g h,some r=some r'/\cd e r' g h/\jE e r' .i64 n val g h K:=by
 have i:=p;have s:=(FB.1 i).1;have f:=(Ext.alloc a _).trans h2;have j:=f.obj i;refine⟨r,es,c,rfl,j,CF q (k _ ((m.trans f).putObj o _) ?_ ?_)⟩
 .exact k7 (FB.1 j).1
 .intro x b;rcases Fe.1 b with rfl|b
  .have:a.heap.size≠r:=by omega
   exact⟨((bq.new a l t).ext h2).putObj this _,this⟩
  .exact⟨((hb x b).1.ext f).putObj (hb x b).2 _,(hb x b).2⟩
def fT (a:Int):List Int:=if a=0 then[1,2,3,4] else if a=1 then[0,2,3,4] else if a=2 then[5,0] else if a=3 then[5,0] else if a=4 then[5,0,4] else if a=5 then[0] else[]
theorem Qa (a:Int) (w:A2):aC AC 363 di [aa a] w (λr w'=>Sl w' eI r.1 (fT a)/\r.2.1=(fT a).length/\Ext w w'):=by
 refine aj (C:=D0) (AR (P_ a w _) ?_);intro w1 b k h2 w3 I;have J:cd k w1.heap.size #[] 0:=h2.obj (iy w1 _);have step: ∀{W:A2} {bs:List (Nat×List AG)} {r:Nat},(∀x∈bs,bq W x.1 x.2/\x.1≠r)-> ∀{z:A2},Ext W z-> ∀x∈bs,bq z x.1 x.2/\x.1≠r:=
  λh _ e x d=>⟨(h x d).1.ext e,(h x d).2⟩
 refine nY (bs:=[]) ((b.eA _).trans h2) b.size J (λx d=>by cases d) I rfl λW0 E0 M0 B0 A l w5 K=>?_;refine nY (E0.trans l) b.size (l.obj M0) (step B0 l) K rfl λW1 E1 M1 L B m w7 M=>?_;refine nY (E1.trans m) b.size (m.obj M1) (step L m) M rfl λW2 E2 M2 N D n w9 O=>?_;refine nY (E2.trans n) b.size (n.obj M2) (step N n) O rfl λW3 E3 M3 P E o l6 Q=>?_;refine nY (E3.trans o) b.size (o.obj M3) (step P o) Q rfl λW4 R S T F p E7 U=>?_;refine nY (R.trans p) b.size (p.obj S) (step T p) U rfl λg V c f=>?_;have X:=(f (k.heap.size,[aa 1,aa 2,aa 3,aa 4]) (by simp)).1;have b1:=(f (A.heap.size,[aa 0,aa 2,aa 3,aa 4]) (by simp)).1;have b2:=(f (B.heap.size,[aa 5,aa 0]) (by simp)).1;have b3:=(f (D.heap.size,[aa 5,aa 0]) (by simp)).1;have Y:=(f (E.heap.size,[aa 5,aa 0,aa 4]) (by simp)).1;have Z:=(f (F.heap.size,[aa 0]) (by simp)).1;have fin: ∀(x:Option AE×Nat×Nat),o8 g (some w1.heap.size) .i64 a (.slice none 0 0) (.slice x.1 x.2.1 x.2.2)->Sl g eI x.1 (fT a)->x.2.1=(fT a).length->
  ∃x:Option AE×Nat×Nat,o8 g (some w1.heap.size) .i64 a (.slice none 0 0) (.slice x.1 x.2.1 x.2.2)/\ ∀j,Ext g j->Sl j eI (x.1,x.2.1,x.2.2).1 (fT a)/\(x.1,x.2.1,x.2.2).2.1=(fT a).length/\Ext w j:=
  λx hl hs hn=>⟨x,hl,λj G=>⟨hs.ext G,hn,V.trans G⟩⟩
 by_cases q:a=0
 .subst q;exact fin (some ⟨k.heap.size,0,none⟩,4,4) ⟨_, _, _,rfl,c,rfl⟩ (Sl.jR X rfl) rfl
 by_cases s:a=1
 .subst s;exact fin (some ⟨A.heap.size,0,none⟩,4,4) ⟨_, _, _,rfl,c,rfl⟩ (Sl.jR b1 rfl) rfl
 by_cases t:a=2
 .subst t;exact fin (some ⟨B.heap.size,0,none⟩,2,2) ⟨_, _, _,rfl,c,rfl⟩ (Sl.jR b2 rfl) rfl
 by_cases u:a=3
 .subst u;exact fin (some ⟨D.heap.size,0,none⟩,2,2) ⟨_, _, _,rfl,c,rfl⟩ (Sl.jR b3 rfl) rfl
 by_cases v:a=4
 .subst v;exact fin (some ⟨E.heap.size,0,none⟩,3,3) ⟨_, _, _,rfl,c,rfl⟩ (Sl.jR Y rfl) rfl
 by_cases y:a=5
 .subst y;exact fin (some ⟨F.heap.size,0,none⟩,1,1) ⟨_, _, _,rfl,c,rfl⟩ (Sl.jR Z rfl) rfl
 have H:fT a=[]:=by
  unfold fT;rw[ar q,ar s,ar t,ar u,ar v,ar y]
 refine fin (none,0,0) ⟨_, _, _,rfl,c,?_⟩ (by rw[H];intro i x d;simp at d) (by rw[H];rfl);have d0:(a==0)=false:=by simp[q]
 have d1:(a==1)=false:=by simp[s]
 have d2:(a==2)=false:=by simp[t]
 have d3:(a==3)=false:=by simp[u]
 have d4:(a==4)=false:=by simp[v]
 have d5:(a==5)=false:=by simp[y]
 simp only[Array.toList_push,List.nil_append,I_,Du,Jf,if_true,Ff,d0,d1,d2,d3,d4,d5]
theorem Kg (a:Int):(fT a).length<=4:=by grind[fT]
theorem Yv (a b:Int) (w:A2):aC AC 336 gD [aa a,aa b] w (λx w'=>x=decide (b∈fT a)/\Ext w w'):=by
 refine aj (C:=D0) (b_:=Ad) (AR (Yu a b w _) ?_);intro w1 f;refine(Qa a w1).mono ?_;rintro⟨p,n,c⟩ q ⟨g,t,h2⟩ B l;dsimp only at l t g;subst l;have D:=Kg a;refine⟨λk s w'=>Ext q w'/\ ∃i:Nat,s.1=i/\k+i=n/\ ∀j,j<i->(fT a)[j]? ≠some b,⟨n,λv d=>⟨d,0,rfl,rfl,λj m=>absurd m (by omega)⟩⟩,?_⟩;rintro k ⟨E,u⟩ v ⟨d,i,hi,F,m⟩;simp only at hi;subst hi;dsimp only;refine ab (λh=>?_) (λh=>λo e=>⟨?_,((f.trans h2).trans d).trans e⟩)
 .simp only[decide_eq_true_eq] at h;have y:i<(fT a).length:=by omega
  have r:=(g.ext d) i _ (B2 y);refine⟨⟨r.1,by omega,by omega⟩, _,r.2,ab (λz o e=>⟨?_,((f.trans h2).trans d).trans e⟩) (λz x A o e=>⟨k - 1,by omega,d.trans e,i+1,by rw[A,ao (by omega) (by omega)];rfl,by omega,?_⟩)⟩
  grind
  grind
 .grind[decide_eq_false_iff_not,fT,FA]
noncomputable def Xy:Entry AC where
 f:=336
 fn l:=match l with
  |[.int .i64 a,.int .i64 b]=>some (True,.bool (decide (b∈fT a)))
  | _=>none
 ok args pre v h c w:=by
  split at h
  .rename_i a b;cases h;exact a7 (Yv a b w)
  .cases h
def Mr (a b:Int):Bool:=if a=0 then decide (b>=1)&&decide (b<=4) else if a=1 then b==0||decide (b>=2)&&decide (b<=4) else if a=2 then b==5||b==0 else if a=3 then b==5||b==0 else if a=4 then b==5||b==0||b==4 else b==0
theorem Kh (a b:Int) (w:A2):aC AC 305 gD [aa a,aa b] w (λx w'=>x=Mr a b/\Ext w w'):=by
 refine aj (C:=D0) (AR (Ke a b w _) ?_);refine ab (λh0 w1 d=>⟨?_,d⟩) (λh0=>ab (λd w1 c=>⟨?_,c⟩) (λd=>ab (λh2=>ab (λ_ w1 c=>⟨?_,c⟩) (λg=>by rw[h2] at g;cases g)) (λh2=>ab (λe w1 c=>⟨?_,c⟩) (λe=>ab (λf w1 c=>⟨?_,c⟩) (λf w1 c=>⟨?_,c⟩)))))
 all_goals simp only[beq_iff_eq,beq_eq_false_iff_ne,ne_eq] at*
 .unfold Mr;rw[az h0]
 .unfold Mr;rw[ar h0,az d]
 .unfold Mr;rw[ar h0,ar d,az h2]
 .unfold Mr;rw[ar h0,ar d,ar h2,az e]
 .unfold Mr;rw[ar h0,ar d,ar h2,ar e,az f]
 .unfold Mr;rw[ar h0,ar d,ar h2,ar e,ar f]
theorem Qb {a:Int} (b:Int) (h:0<=a/\a<=5):decide (b∈fT a)=Mr a b:=by
 have:a=0\/a=1\/a=2\/a=3\/a=4\/a=5:=by omega
 rw[Gi,decide_eq_true_eq];rcases this with rfl|rfl|rfl|rfl|rfl|rfl<;>simp[fT,Mr]<;>omega
noncomputable def CI:Entry AC where
 f:=305
 fn l:=match l with
  |[.int .i64 a,.int .i64 b]=>some (True,.bool (Mr a b))
  | _=>none
 ok args pre v h c w:=by
  split at h
  .rename_i a b;cases h;exact a7 (Kh a b w)
  .cases h
noncomputable def CJ:Entry AC where
 f:=310
 fn l:=match l with
  |[.int .i64 n,.int .i64 m]=>some (True,.bool (decide (n>=0)&&decide (n<=m)))
  | _=>none
 ok args pre v h b w:=by
  split at h
  .rename_i n m;cases h;exact a7 (x:=decide (n>=0)&&decide (n<=m)) (aj (C:=D0) (AR (Kf n m w _) λw1 a=>⟨rfl,a⟩))
  .cases h
noncomputable def D1:fa AC:={D0 with oW:=[tK,SB,Cj,Ck,wy,wz,Fw,Fx,Xy,CI,CJ]}
abbrev wS (c:Bool->A2->Prop) (a:A2) (b:Nat):Prop:=
 ag a none (ae b) dh λ(x:Int×Int×Int×Int×Unit)=>true=true/\aN a (ad (ae b) 0) λd=>ak a λw1=>c (x.1==d&&(x.2.1==0&&(x.2.2.1==0&&(x.2.2.2.1==0&&true)))) w1
abbrev wT (c:Bool->A2->Prop) (a:A2) (b:Nat):Prop:=
 true=true/\aN a (ad (ae b) 1) λx=>(decide (x>0)=true->true=true)/\ag a (some (decide (x>0))) (ad (ae b) 3) aq λ(d:Int)=>ak a (c (decide (x>0)&&d==0))
abbrev wU (b:Bool->A2->Prop) (c:Int) (a:A2) (d:Nat):Prop:=
 aD (c==5) (true=true/\aN a (ad (ae d) 2) λx=>ak a (b (x==0))) (ak a (b false))
abbrev wV (d:Bool->A2->Prop) (b:Int) (a:A2) (c:Nat):Prop:=
 aD (b==2) (true=true/\aN a (ad (ae c) 1) λx=>((x==0)=true->true=true)/\ag a (some (x==0)) (ad (ae c) 3) aq λ(e:Int)=>ak a (d (x==0&&e==0))) (aD (b==3) (aD (b==3) (wT d a c) (wU d b a c)) (aD (b==4) (wT d a c) (wU d b a c)))
theorem zv (k o r e:Int) (w:A2) (f:Bool->A2->Prop):(aL D1 (λ_=>[]) 335 [.agg ⟨[aa k,aa o,aa r,aa e]⟩] w f)=(
 aH w ⟨[aa k,aa o,aa r,aa e]⟩ 79 λb a=>true=true/\aN a (ad (ae b) 1) λx=>((!decide (x<0))=true->true=true)/\ag a (some !decide (x<0)) (ad (ae b) 1) aq λ(c:Int)=>((!(decide (x<0)||decide (c>16)))=true->true=true)/\ag a (some !(decide (x<0)||decide (c>16))) (ad (ae b) 2) aq λ(d:Int)=>((!(decide (x<0)||decide (c>16)||decide (d<0)))=true->true=true)/\ag a (some !(decide (x<0)||decide (c>16)||decide (d<0))) (ad (ae b) 2) aq λ(g:Int)=>
 ((!(decide (x<0)||decide (c>16)||decide (d<0)||decide (g>65535)))=true->true=true)/\ag a (some !(decide (x<0)||decide (c>16)||decide (d<0)||decide (g>65535))) (ad (ae b) 3) aq λ(h:Int)=>((!(decide (x<0)||decide (c>16)||decide (d<0)||decide (g>65535)||decide (h<0)))=true->true=true)/\ag a (some !(decide (x<0)||decide (c>16)||decide (d<0)||decide (g>65535)||decide (h<0))) (ad (ae b) 3) aq λ(i:Int)=>aD (decide (x<0)||decide (c>16)||decide (d<0)||
 decide (g>65535)||decide (h<0)||decide (i>4294967295)) (ak a (f false)) (true=true/\aN a (ad (ae b) 0) λx=>aD (x==0) (aD (x==0) (wS f a b) (wV f x a b)) (aD (x==1) (wS f a b) (wV f x a b)))):=by kernel_rfl
abbrev uS (d:Bool->A2->Prop) (a:A2) (b:Nat):Prop:=
 true=true/\aN a (ad (ae b) 1) λx=>((x==0)=true->true=true)/\ag a (some (x==0)) (ad (ae b) 2) aq λ(c:Int)=>((x==0&&c==0)=true->true=true)/\ag a (some (x==0&&c==0)) (ad (ae b) 3) aq λ(e:Int)=>ak a (d (x==0&&c==0&&e==0))
abbrev uT (c:Bool->A2->Prop) (a:A2) (b:Nat):Prop:=
 true=true/\aN a (ad (ae b) 1) λx=>(decide (x>0)=true->true=true)/\ag a (some (decide (x>0))) (ad (ae b) 3) aq λ(d:Int)=>ak a (c (decide (x>0)&&d==0))
abbrev uU (b:Bool->A2->Prop) (a:A2) (c:Nat):Prop:=
 true=true/\aN a (ad (ae c) 2) λx=>ak a (b (x==0))
abbrev uV (c:Bool->A2->Prop) (d:Int) (a:A2) (b:Nat):Prop:=
 aD (d==2) (true=true/\aN a (ad (ae b) 1) λx=>((x==0)=true->true=true)/\ag a (some (x==0)) (ad (ae b) 3) aq λ(e:Int)=>ak a (c (x==0&&e==0))) (aD (d==3) (aD (d==3) (uT c a b) (uU c a b)) (aD (d==4) (uT c a b) (uU c a b)))
theorem vT (k o r e:Int) (w:A2) (f:Bool->A2->Prop):(aL D1 (λ_=>[]) 304 [.agg ⟨[aa k,aa o,aa r,aa e]⟩] w f)=(
 aH w ⟨[aa k,aa o,aa r,aa e]⟩ 166 λb c=>true=true/\aN c (ad (ae b) 0) λx=>True/\((!!(decide (x>=0)&&decide (x<=5)))=true->true=true)/\ag c (some !!(decide (x>=0)&&decide (x<=5))) (ad (ae b) 1) aq λ(a:Int)=>((!!(decide (x>=0)&&decide (x<=5)))=true->True)/\((!(!(decide (x>=0)&&decide (x<=5))|| !(decide (a>=0)&&decide (a<=16))))=true->true=true)/\ag c (some !(!(decide (x>=0)&&decide (x<=5))|| !(decide (a>=0)&&decide (a<=16)))) (ad (ae b) 2) aq λ(d:Int)=>
 ((!(!(decide (x>=0)&&decide (x<=5))|| !(decide (a>=0)&&decide (a<=16))))=true->True)/\((!(!(decide (x>=0)&&decide (x<=5))|| !(decide (a>=0)&&decide (a<=16))|| !(decide (d>=0)&&decide (d<=65535))))=true->true=true)/\ag c (some !(!(decide (x>=0)&&decide (x<=5))|| !(decide (a>=0)&&decide (a<=16))|| !(decide (d>=0)&&decide (d<=65535)))) (ad (ae b) 3) aq λ(g:Int)=>((!(!(decide (x>=0)&&decide (x<=5))|| !(decide (a>=0)&&decide (a<=16))|| !(decide (d>=0)&&decide (d<=65535))))=true->True)/\aD
 (!(decide (x>=0)&&decide (x<=5))|| !(decide (a>=0)&&decide (a<=16))|| !(decide (d>=0)&&decide (d<=65535))|| !(decide (g>=0)&&decide (g<=4294967295))) (ak c (f false)) (true=true/\aN c (ad (ae b) 0) λx=>aD (x==0) (aD (x==0) (uS f c b) (uV f x c b)) (aD (x==1) (uS f c b) (uV f x c b)))):=by kernel_rfl
def gQ (k o r e:Int):Prop:=(0<=o/\o<=16/\0<=r/\r<=65535/\0<=e/\e<=4294967295)/\(((k=0\/k=1)/\o=0/\r=0/\e=0)\/(k=2/\o=0/\e=0)\/((k=3\/k=4)/\0<o/\e=0)\/(k=5/\r=0))
instance (k o r e:Int):Decidable (gQ k o r e):=by unfold gQ;infer_instance
def dg (k o r e:Int):Bool:=decide (gQ k o r e)
theorem Bx {k o r e:Int} {b:Bool} (h:b=true<->gQ k o r e):b=dg k o r e:=by
 unfold dg;rw[Gi,decide_eq_true_eq];exact h
theorem zw (k o r e:Int) (w:A2):aC AC 335 gD [.agg ⟨[aa k,aa o,aa r,aa e]⟩] w (λb w'=>b=dg k o r e/\Ext w w'):=by
 refine aj (C:=D1) (AR (zv k o r e w _) ?_);have H:=At.start [] w
 repeat' (first
  |exact Go.RX.aJ.all H
  |exact AT (by first|rfl|decide+kernel) (Go.RX.aJ.all H)
  |refine AT (by first|exact rfl|exact trivial|exact λ_=>rfl|exact λ_=>trivial|exact⟨rfl,by decide,by decide⟩|exact⟨by decide,by decide⟩|decide+kernel|exact λ_=>by decide|exact λ_=>⟨rfl,by decide,by decide⟩|(dsimp only[B4,B5];exact⟨rfl,by decide,by decide⟩)) ?_
  |refine ag.bj 0 H rfl rfl ?_
  |refine ag.at 0 H rfl rfl ?_
  |refine aH.go H λb w1 H=>?_
  |refine aw.all 0 H rfl rfl rfl λw1 H=>?_
  |refine aw.c_ 0 H rfl rfl rfl λw1 H=>?_
  |refine aw.one 0 H rfl rfl rfl λw1 H=>?_
  |with_reducible refine ak.go H λw1 H=>?_
  |refine im ?_
  |refine ax (by assumption) ?_
  |refine an (by assumption) ?_
  |refine ab (λc=>?_) (λc=>?_))
 all_goals
  refine AT (Bx ?_) H.all;simp only[DA,Ch,DB,Dm,beq_iff_eq,beq_eq_false_iff_ne,bne_iff_ne,bne_eq_false_iff_eq,decide_eq_true_eq,decide_eq_false_iff_not,Dn,Do,Da,Dt,and_true,true_and,and_false,false_and,or_true,true_or,or_false,false_or,ne_eq,not_true_eq_false,not_false_eq_true,false_iff,iff_false,true_iff,iff_true] at*
  unfold gQ;omega
theorem vU (k o r e:Int) (w:A2):aC AC 304 gD [.agg ⟨[aa k,aa o,aa r,aa e]⟩] w (λb w'=>b=dg k o r e/\Ext w w'):=by
 refine aj (C:=D1) (AR (vT k o r e w _) ?_);have H:=At.start [] w
 repeat' (first
  |exact Go.RX.aJ.all H
  |exact AT (by first|rfl|decide+kernel) (Go.RX.aJ.all H)
  |refine AT (by first|exact rfl|exact trivial|exact λ_=>rfl|exact λ_=>trivial|exact⟨rfl,by decide,by decide⟩|exact⟨by decide,by decide⟩|decide+kernel|exact λ_=>by decide|exact λ_=>⟨rfl,by decide,by decide⟩|(dsimp only[B4,B5];exact⟨rfl,by decide,by decide⟩)) ?_
  |refine ag.bj 0 H rfl rfl ?_
  |refine ag.at 0 H rfl rfl ?_
  |refine aH.go H λb w1 H=>?_
  |refine aw.all 0 H rfl rfl rfl λw1 H=>?_
  |refine aw.c_ 0 H rfl rfl rfl λw1 H=>?_
  |refine aw.one 0 H rfl rfl rfl λw1 H=>?_
  |with_reducible refine ak.go H λw1 H=>?_
  |refine im ?_
  |refine ax (by assumption) ?_
  |refine an (by assumption) ?_
  |refine ab (λc=>?_) (λc=>?_))
 all_goals
  refine AT (Bx ?_) H.all;simp only[DA,Ch,DB,Dm,beq_iff_eq,beq_eq_false_iff_ne,bne_iff_ne,bne_eq_false_iff_eq,decide_eq_true_eq,decide_eq_false_iff_not,Dn,Do,Da,Dt,and_true,true_and,and_false,false_and,or_true,true_or,or_false,false_or,ne_eq,not_true_eq_false,not_false_eq_true,false_iff,iff_false,true_iff,iff_true] at*
  unfold gQ;omega
noncomputable def vK:Entry AC where
 f:=335
 fn l:=match l with
  |[.agg ⟨[.int .i64 k,.int .i64 o,.int .i64 r,.int .i64 e]⟩]=>some (True,.bool (dg k o r e))
  | _=>none
 ok args pre v h a w:=by
  split at h
  .rename_i k o r e;cases h;exact a7 (zw k o r e w)
  .cases h
noncomputable def qL:Entry AC where
 f:=304
 fn l:=match l with
  |[.agg ⟨[.int .i64 k,.int .i64 o,.int .i64 r,.int .i64 e]⟩]=>some (True,.bool (dg k o r e))
  | _=>none
 ok args pre v h a w:=by
  split at h
  .rename_i k o r e;cases h;exact a7 (vU k o r e w)
  .cases h
noncomputable def D2:fa AC:={D0 with oW:=[tK,SB,Cj,Ck,wy,wz,Fw,Fx,Xy,CI,CJ,vK,qL]}
abbrev Ae (d:(Int×Int×Int×Int×Unit)×Int×Unit->A2->Prop) (a:A2) (e:Nat) (b:Nat):Prop:=
 ag a none (ae e) dh λ(x:Int×Int×Int×Int×Unit)=>True/\aD (!dg x.1 x.2.1 x.2.2.1 x.2.2.2.1) (aw a (ae b) [aa 0,aa 0,aa 0,aa 0] λc=>ak c λw1=>ag w1 none (ae b) dh λ(x:Int×Int×Int×Int×Unit)=>d ((x.1,x.2.1,x.2.2.1,x.2.2.2.1,()),1,()) w1) (ag a none (ae e) dh λ(x:Int×Int×Int×Int×Unit)=>aw a (ae b) [aa x.1,aa x.2.1,aa x.2.2.1,aa x.2.2.2.1] λc=>ak c λw1=>ag w1 none (ae b) dh λ(x:Int×Int×Int×Int×
 Unit)=>d ((x.1,x.2.1,x.2.2.1,x.2.2.2.1,()),0,()) w1)
theorem T3 (k o r e x y:Int) (w:A2) (d:(Int×Int×Int×Int×Unit)×Int×Unit->A2->Prop):(bO D2 (λ_=>[]) 287 [.agg ⟨[aa k,aa o,aa r,aa e]⟩,aa x,aa y] w d)=(
 aH w ⟨[aa k,aa o,aa r,aa e]⟩ 79 λb a=>aH a ⟨[aa 0,aa 0,aa 0,aa 0]⟩ 79 λc a=>ag a none (ae b) dh λ(f:Int×Int×Int×Int×Unit)=>True/\aD (!dg f.1 f.2.1 f.2.2.1 f.2.2.2.1) (aw a (ae c) [aa 0,aa 0,aa 0,aa 0] λa=>ak a λw1=>ag w1 none (ae c) dh λ(x:Int×Int×Int×Int×Unit)=>d ((x.1,x.2.1,x.2.2.1,x.2.2.2.1,()),11,()) w1) (true=true/\aN a (ad (ae b) 2) λg=>aD (decide (g>0)) (aw a
 (ae c) [aa 0,aa 0,aa 0,aa 0] λa=>ak a λw1=>ag w1 none (ae c) dh λ(x:Int×Int×Int×Int×Unit)=>d ((x.1,x.2.1,x.2.2.1,x.2.2.2.1,()),9,()) w1) (true=true/\aN a (ad (ae b) 0) λh=>True/\aD (!decide (x∈fT h)) (aw a (ae c) [aa 0,aa 0,aa 0,aa 0] λa=>ak a λw1=>ag w1 none (ae c) dh λ(x:Int×Int×Int×Int×Unit)=>d ((x.1,x.2.1,x.2.2.1,x.2.2.2.1,()),6,()) w1) (aD (x==5) (true=true/\aN a (ad (ae
 b) 1) λi=>aH a ⟨[aa 0,aa 0,aa 0,aa 0]⟩ 79 λb a=>aw a (ae b) [aa x,aa i,aa 0,aa 0] λa=>Ae d a b c) (aH a ⟨[aa 0,aa 0,aa 0,aa 0]⟩ 79 λb a=>aw a (ae b) [aa x,aa y,aa 0,aa 0] λa=>Ae d a b c))))):=by kernel_rfl
abbrev wW (d:(Int×Int×Int×Int×Unit)×Int×Unit->A2->Prop) (a:A2) (e:Nat) (b:Nat):Prop:=
 ag a none (ae e) dh λ(x:Int×Int×Int×Int×Unit)=>True/\aD (!dg x.1 x.2.1 x.2.2.1 x.2.2.2.1) (aw a (ae b) [aa 0,aa 0,aa 0,aa 0] λc=>ak c λw1=>ag w1 none (ae b) dh λ(x:Int×Int×Int×Int×Unit)=>d ((x.1,x.2.1,x.2.2.1,x.2.2.2.1,()),1,()) w1) (ag a none (ae e) dh λ(x:Int×Int×Int×Int×Unit)=>aw a (ae b) [aa x.1,aa x.2.1,aa x.2.2.1,aa x.2.2.2.1] λc=>ak c λw1=>ag w1 none (ae b) dh λ(x:Int×Int×Int×Int×
 Unit)=>d ((x.1,x.2.1,x.2.2.1,x.2.2.2.1,()),0,()) w1)
theorem Qc (k o r e x y:Int) (w:A2) (d:(Int×Int×Int×Int×Unit)×Int×Unit->A2->Prop):(bO D2 (λ_=>[]) 236 [.agg ⟨[aa k,aa o,aa r,aa e]⟩,aa x,aa y] w d)=(
 aH w ⟨[aa k,aa o,aa r,aa e]⟩ 166 λb a=>aH a ⟨[aa 0,aa 0,aa 0,aa 0]⟩ 166 λc a=>ag a none (ae b) dh λ(f:Int×Int×Int×Int×Unit)=>True/\aD (!dg f.1 f.2.1 f.2.2.1 f.2.2.2.1) (aw a (ae c) [aa 0,aa 0,aa 0,aa 0] λa=>ak a λw1=>ag w1 none (ae c) dh λ(x:Int×Int×Int×Int×Unit)=>d ((x.1,x.2.1,x.2.2.1,x.2.2.2.1,()),11,()) w1) (true=true/\aN a (ad (ae b) 2) λh=>aD (decide (h>0)) (aw
 a (ae c) [aa 0,aa 0,aa 0,aa 0] λa=>ak a λw1=>ag w1 none (ae c) dh λ(x:Int×Int×Int×Int×Unit)=>d ((x.1,x.2.1,x.2.2.1,x.2.2.2.1,()),9,()) w1) (true=true/\aN a (ad (ae b) 0) λi=>True/\aD (!Mr i x) (aw a (ae c) [aa 0,aa 0,aa 0,aa 0] λa=>ak a λw1=>ag w1 none (ae c) dh λ(x:Int×Int×Int×Int×Unit)=>d ((x.1,x.2.1,x.2.2.1,x.2.2.2.1,()),6,()) w1) (aH a ⟨[aa 0,aa 0,aa 0,.int .i64
 0]⟩ 166 λg a=>aw a (ae g) [aa x,aa y,aa 0,aa 0] λa=>aD (x==5) (true=true/\aN a (ad (ae b) 1) λx=>true=true/\aw a (ad (ae g) 1) [aa x] λa=>wW d a g c) (wW d a g c))))):=by kernel_rfl
theorem Yw (k o r e x:Int) (w:A2) (d:(Int×Int×Int×Int×Unit)×Int×Unit->A2->Prop):(bO D2 (λ_=>[]) 298 [.agg ⟨[aa k,aa o,aa r,aa e]⟩,aa x] w d)=(
 aH w ⟨[aa k,aa o,aa r,aa e]⟩ 79 λb a=>aH a ⟨[aa 0,aa 0,aa 0,aa 0]⟩ 79 λc a=>ag a none (ae b) dh λ(g:Int×Int×Int×Int×Unit)=>True/\aD (!dg g.1 g.2.1 g.2.2.1 g.2.2.2.1) (aw a (ae c) [aa 0,aa 0,aa 0,aa 0] λa=>ak a λw1=>ag w1 none (ae c) dh λ(x:Int×Int×Int×Int×Unit)=>d ((x.1,x.2.1,x.2.2.1,x.2.2.2.1,()),11,()) w1) (true=true/\aN a (ad (ae b) 0) λf=>((f != 2)=true->true=
 true)/\ag a (some (f != 2)) (ad (ae b) 0) aq λ(i:Int)=>((f != 2&&i != 3)=true->true=true)/\ag a (some (f != 2&&i != 3)) (ad (ae b) 0) aq λ(l:Int)=>aD (f != 2&&i != 3&&l != 4) (aw a (ae c) [aa 0,aa 0,aa 0,aa 0] λa=>ak a λw1=>ag w1 none (ae c) dh λ(x:Int×Int×Int×Int×Unit)=>d ((x.1,x.2.1,x.2.2.1,x.2.2.2.1,()),6,()) w1) (true=true/\aN a (ad (ae b) 2) λm=> ∀(h:Int),h=aR .i64 65535 m->((!decide (x>h))=true->
 true=true)/\ag a (some !decide (x>h)) (ad (ae b) 2) aq λ(n:Int)=>aD (decide (x>h)||decide (x<aR .i64 0 n)) (aw a (ae c) [aa 0,aa 0,aa 0,aa 0] λa=>ak a λw1=>ag w1 none (ae c) dh λ(x:Int×Int×Int×Int×Unit)=>d ((x.1,x.2.1,x.2.2.1,x.2.2.2.1,()),2,()) w1) (true=true/\aN a (ad (ae b) 2) λp=> ∀(j:Int),j=ay .i64 p x->true=true/\aw a (ad (ae b) 2) [aa j] λa=>ag a none (ae b) dh λ(x:Int×Int×Int×Int×Unit)=>
 aw a (ae c) [aa x.1,aa x.2.1,aa x.2.2.1,aa x.2.2.2.1] λa=>ak a λw1=>ag w1 none (ae c) dh λ(x:Int×Int×Int×Int×Unit)=>d ((x.1,x.2.1,x.2.2.1,x.2.2.2.1,()),0,()) w1)))):=by kernel_rfl
theorem T4 (k o r e x:Int) (w:A2) (d:(Int×Int×Int×Int×Unit)×Int×Unit->A2->Prop):(bO D2 (λ_=>[]) 246 [.agg ⟨[aa k,aa o,aa r,aa e]⟩,aa x] w d)=(
 aH w ⟨[aa k,aa o,aa r,aa e]⟩ 166 λb a=>aH a ⟨[aa 0,aa 0,aa 0,aa 0]⟩ 166 λc a=>ag a none (ae b) dh λ(f:Int×Int×Int×Int×Unit)=>True/\aD (!dg f.1 f.2.1 f.2.2.1 f.2.2.2.1) (aw a (ae c) [aa 0,aa 0,aa 0,aa 0] λa=>ak a λw1=>ag w1 none (ae c) dh λ(x:Int×Int×Int×Int×Unit)=>d ((x.1,x.2.1,x.2.2.1,x.2.2.2.1,()),11,()) w1) (true=true/\aN a (ad (ae b) 0) λg=>((!decide (g<2))=true
 ->true=true)/\ag a (some !decide (g<2)) (ad (ae b) 0) aq λ(j:Int)=>aD (decide (g<2)||decide (j>4)) (aw a (ae c) [aa 0,aa 0,aa 0,aa 0] λa=>ak a λw1=>ag w1 none (ae c) dh λ(x:Int×Int×Int×Int×Unit)=>d ((x.1,x.2.1,x.2.2.1,x.2.2.2.1,()),6,()) w1) (((!(decide (x>65535)||decide (x< -65535)))=true->true=true)/\ag a (some !(decide (x>65535)||decide (x< -65535))) (ad (ae b) 2) aq λ(l:Int)=> ∀(h:Int),h=ay .i64 l x->((!(decide (x>
 65535)||decide (x< -65535)))=true->True)/\aD (decide (x>65535)||decide (x< -65535)|| !(decide (h>=0)&&decide (h<=65535))) (aw a (ae c) [aa 0,aa 0,aa 0,aa 0] λa=>ak a λw1=>ag w1 none (ae c) dh λ(x:Int×Int×Int×Int×Unit)=>d ((x.1,x.2.1,x.2.2.1,x.2.2.2.1,()),2,()) w1) (true=true/\aN a (ad (ae b) 2) λm=> ∀(i:Int),i=ay .i64 m x->true=true/\aw a (ad (ae b) 2) [aa i] λa=>ag a none (ae b) dh λ(x:Int×Int×Int×Int×Unit)=>
 aw a (ae c) [aa x.1,aa x.2.1,aa x.2.2.1,aa x.2.2.2.1] λa=>ak a λw1=>ag w1 none (ae c) dh λ(x:Int×Int×Int×Int×Unit)=>d ((x.1,x.2.1,x.2.2.1,x.2.2.2.1,()),0,()) w1)))):=by kernel_rfl
def ff (k o r e x y:Int):Int:=if dg k o r e=false then 11 else if r>0 then 9 else if x∈fT k then(if dg x (if x=5 then o else y) 0 0=false then 1 else 0) else 6
def jN (k o r e x y:Int):Int:=if ff k o r e x y=0 then x else 0
def iR (k o r e x y:Int):Int:=if ff k o r e x y=0 then(if x=5 then o else y) else 0
theorem T5 (k o r e x y:Int) (w:A2):aC AC 287 (.bu [(.agg [aG,aG,aG,aG]),aq]) [.agg ⟨[aa k,aa o,aa r,aa e]⟩,aa x,aa y] w
 (λv w'=>v=((jN k o r e x y,iR k o r e x y,(0:Int),(0:Int),()),ff k o r e x y,())/\Ext w w'):=by
 refine aQ (C:=D2) (AR (T3 k o r e x y w _) ?_);have H:=At.start [] w
 repeat' (first
  |exact Go.RX.aJ.all H
  |exact AT (by first|rfl|decide+kernel) (Go.RX.aJ.all H)
  |refine AT (by first|exact rfl|exact trivial|exact λ_=>rfl|exact λ_=>trivial|exact⟨rfl,by decide,by decide⟩|exact⟨by decide,by decide⟩|decide+kernel|exact λ_=>by decide|exact λ_=>⟨rfl,by decide,by decide⟩|(dsimp only[B4,B5];exact⟨rfl,by decide,by decide⟩)) ?_
  |refine ag.bj 0 H rfl rfl ?_
  |refine ag.bj 1 H rfl rfl ?_
  |refine ag.bj 2 H rfl rfl ?_
  |refine ag.at 0 H rfl rfl ?_
  |refine ag.at 1 H rfl rfl ?_
  |refine ag.at 2 H rfl rfl ?_
  |refine aH.go H λb w1 H=>?_
  |refine aw.all 0 H rfl rfl rfl λw1 H=>?_
  |refine aw.all 1 H rfl rfl rfl λw1 H=>?_
  |refine aw.all 2 H rfl rfl rfl λw1 H=>?_
  |refine aw.c_ 0 H rfl rfl rfl λw1 H=>?_
  |refine aw.c_ 1 H rfl rfl rfl λw1 H=>?_
  |refine aw.c_ 2 H rfl rfl rfl λw1 H=>?_
  |refine aw.one 0 H rfl rfl rfl λw1 H=>?_
  |refine aw.one 1 H rfl rfl rfl λw1 H=>?_
  |refine aw.one 2 H rfl rfl rfl λw1 H=>?_
  |with_reducible refine ak.go H λw1 H=>?_
  |refine im ?_
  |refine ax (by assumption) ?_
  |refine an (by assumption) ?_
  |refine ab (λc=>?_) (λc=>?_))
 all_goals
  refine AT ?_ H.all;simp only[DA,Ch,DB,Dm,beq_iff_eq,beq_eq_false_iff_ne,bne_iff_ne,bne_eq_false_iff_eq,decide_eq_true_eq,decide_eq_false_iff_not,Dn,Do,Da,Dt,and_true,true_and,and_false,false_and,or_true,true_or,or_false,false_or,ne_eq,not_true_eq_false,not_false_eq_true,false_iff,iff_false,true_iff,iff_true] at*
  first
   |(simp[jN,iR,ff, *];done)
   |(subst_vars;simp[jN,iR,ff, *])
theorem Qd (k o r e x y:Int) (w:A2):aC AC 236 (.bu [(.agg [aG,aG,aG,aG]),aq]) [.agg ⟨[aa k,aa o,aa r,aa e]⟩,aa x,aa y] w
 (λv w'=>v=((jN k o r e x y,iR k o r e x y,(0:Int),(0:Int),()),ff k o r e x y,())/\Ext w w'):=by
 refine aQ (C:=D2) (AR (Qc k o r e x y w _) ?_);have H:=At.start [] w
 repeat' (first
  |exact Go.RX.aJ.all H
  |exact AT (by first|rfl|decide+kernel) (Go.RX.aJ.all H)
  |refine AT (by first|exact rfl|exact trivial|exact λ_=>rfl|exact λ_=>trivial|exact⟨rfl,by decide,by decide⟩|exact⟨by decide,by decide⟩|decide+kernel|exact λ_=>by decide|exact λ_=>⟨rfl,by decide,by decide⟩|(dsimp only[B4,B5];exact⟨rfl,by decide,by decide⟩)) ?_
  |refine ag.bj 0 H rfl rfl ?_
  |refine ag.bj 1 H rfl rfl ?_
  |refine ag.bj 2 H rfl rfl ?_
  |refine ag.at 0 H rfl rfl ?_
  |refine ag.at 1 H rfl rfl ?_
  |refine ag.at 2 H rfl rfl ?_
  |refine aH.go H λb w1 H=>?_
  |refine aw.all 0 H rfl rfl rfl λw1 H=>?_
  |refine aw.all 1 H rfl rfl rfl λw1 H=>?_
  |refine aw.all 2 H rfl rfl rfl λw1 H=>?_
  |refine aw.c_ 0 H rfl rfl rfl λw1 H=>?_
  |refine aw.c_ 1 H rfl rfl rfl λw1 H=>?_
  |refine aw.c_ 2 H rfl rfl rfl λw1 H=>?_
  |refine aw.one 0 H rfl rfl rfl λw1 H=>?_
  |refine aw.one 1 H rfl rfl rfl λw1 H=>?_
  |refine aw.one 2 H rfl rfl rfl λw1 H=>?_
  |with_reducible refine ak.go H λw1 H=>?_
  |refine im ?_
  |refine ax (by assumption) ?_
  |refine an (by assumption) ?_
  |refine ab (λc=>?_) (λc=>?_))
 all_goals
  refine AT ?_ H.all;simp only[DA,Ch,DB,Dm,beq_iff_eq,beq_eq_false_iff_ne,bne_iff_ne,bne_eq_false_iff_eq,decide_eq_true_eq,decide_eq_false_iff_not,Dn,Do,Da,Dt,and_true,true_and,and_false,false_and,or_true,true_or,or_false,false_or,ne_eq,not_true_eq_false,not_false_eq_true,false_iff,iff_false,true_iff,iff_true] at*
  have a: ∀c,Mr k x=c->dg k o r e=true->decide (x∈fT k)=c:=λc h d=>by
   have f:gQ k o r e:=of_decide_eq_true d;rw[<-h];exact Qb x (by unfold gQ at f;omega)
  first
   |(simp[jN,iR,ff, *];done)
   |(subst_vars;simp[jN,iR,ff, *];done)
   |(have g:=a _ (by assumption) (by assumption)
     simp only[DA,Ch,DB,Dm,beq_iff_eq,beq_eq_false_iff_ne,bne_iff_ne,bne_eq_false_iff_eq,decide_eq_true_eq,decide_eq_false_iff_not,Dn,Do,Da,Dt,and_true,true_and,and_false,false_and,or_true,true_or,or_false,false_or,ne_eq,not_true_eq_false,not_false_eq_true,false_iff,iff_false,true_iff,iff_true] at g
     first
      |(simp[jN,iR,ff, *];done)
      |(subst_vars;simp[jN,iR,ff, *]))
def mI (k o r e x:Int):Int:=if dg k o r e=false then 11 else if k=2\/k=3\/k=4 then(if r+x<0\/r+x>65535 then 2 else 0) else 6
def kh (k o r e x:Int):Int×Int×Int×Int×Unit:=if mI k o r e x=0 then(k,o,r+x,e,()) else(0,0,0,0,())
theorem Yx (k o r e x:Int) (j: -9223372036854775808<=x/\x<9223372036854775808) (w:A2):aC AC 298 (.bu [(.agg [aG,aG,aG,aG]),aq]) [.agg ⟨[aa k,aa o,aa r,aa e]⟩,aa x] w
 (λv w'=>v=(kh k o r e x,mI k o r e x,())/\Ext w w'):=by
 refine aQ (C:=D2) (AR (Yw k o r e x w _) ?_);have H:=At.start [] w
 repeat' (first
  |exact Go.RX.aJ.all H
  |exact AT (by first|rfl|decide+kernel) (Go.RX.aJ.all H)
  |refine AT (by first|exact rfl|exact trivial|exact λ_=>rfl|exact λ_=>trivial|exact⟨rfl,by decide,by decide⟩|exact⟨by decide,by decide⟩|decide+kernel|exact λ_=>by decide|exact λ_=>⟨rfl,by decide,by decide⟩|(dsimp only[B4,B5];exact⟨rfl,by decide,by decide⟩)) ?_
  |refine ag.bj 0 H rfl rfl ?_
  |refine ag.bj 1 H rfl rfl ?_
  |refine ag.bj 2 H rfl rfl ?_
  |refine ag.at 0 H rfl rfl ?_
  |refine ag.at 1 H rfl rfl ?_
  |refine ag.at 2 H rfl rfl ?_
  |refine aH.go H λb w1 H=>?_
  |refine aw.all 0 H rfl rfl rfl λw1 H=>?_
  |refine aw.all 1 H rfl rfl rfl λw1 H=>?_
  |refine aw.all 2 H rfl rfl rfl λw1 H=>?_
  |refine aw.c_ 0 H rfl rfl rfl λw1 H=>?_
  |refine aw.c_ 1 H rfl rfl rfl λw1 H=>?_
  |refine aw.c_ 2 H rfl rfl rfl λw1 H=>?_
  |refine aw.one 0 H rfl rfl rfl λw1 H=>?_
  |refine aw.one 1 H rfl rfl rfl λw1 H=>?_
  |refine aw.one 2 H rfl rfl rfl λw1 H=>?_
  |with_reducible refine ak.go H λw1 H=>?_
  |refine im ?_
  |refine ax (by assumption) ?_
  |refine an (by assumption) ?_
  |refine ab (λc=>?_) (λc=>?_))
 all_goals
  refine AT ?_ H.all;simp only[DA,Ch,DB,Dm,beq_iff_eq,beq_eq_false_iff_ne,bne_iff_ne,bne_eq_false_iff_eq,decide_eq_true_eq,decide_eq_false_iff_not,Dn,Do,Da,Dt,and_true,true_and,and_false,false_and,or_true,true_or,or_false,false_or,ne_eq,not_true_eq_false,not_false_eq_true,false_iff,iff_false,true_iff,iff_true] at*
 .simp[kh,mI, *]
 .have h2: ¬ (k=2\/k=3\/k=4):=by omega
  simp[kh,mI, *]
 all_goals
  have a:dg k o r e=true:=by assumption
  have f:gQ k o r e:=of_decide_eq_true a;unfold gQ at f;have g:aR .i64 65535 r=65535 - r:=aX (by omega) (by omega);have h:aR .i64 0 r=0 - r:=aX (by omega) (by omega);simp only[g,h] at*
  have h2:k=2\/k=3\/k=4:=by omega
 .have d:r+x<0\/r+x>65535:=by omega
  simp[kh,mI, *]
 .have d: ¬ (r+x<0\/r+x>65535):=by omega
  have i:ay .i64 r x=r+x:=ao (by omega) (by omega);have:mI k o r e x=0:=by unfold mI;rw[ar (by rw[a];decide),az h2,ar d]
  unfold kh;rw[this,az rfl,i]
theorem T6 (k o r e x:Int) (i: -9223372036854775808<=x/\x<9223372036854775808) (w:A2):aC AC 246 (.bu [(.agg [aG,aG,aG,aG]),aq]) [.agg ⟨[aa k,aa o,aa r,aa e]⟩,aa x] w
 (λv w'=>v=(kh k o r e x,mI k o r e x,())/\Ext w w'):=by
 refine aQ (C:=D2) (AR (T4 k o r e x w _) ?_);have H:=At.start [] w
 repeat' (first
  |exact Go.RX.aJ.all H
  |exact AT (by first|rfl|decide+kernel) (Go.RX.aJ.all H)
  |refine AT (by first|exact rfl|exact trivial|exact λ_=>rfl|exact λ_=>trivial|exact⟨rfl,by decide,by decide⟩|exact⟨by decide,by decide⟩|decide+kernel|exact λ_=>by decide|exact λ_=>⟨rfl,by decide,by decide⟩|(dsimp only[B4,B5];exact⟨rfl,by decide,by decide⟩)) ?_
  |refine ag.bj 0 H rfl rfl ?_
  |refine ag.bj 1 H rfl rfl ?_
  |refine ag.bj 2 H rfl rfl ?_
  |refine ag.at 0 H rfl rfl ?_
  |refine ag.at 1 H rfl rfl ?_
  |refine ag.at 2 H rfl rfl ?_
  |refine aH.go H λb w1 H=>?_
  |refine aw.all 0 H rfl rfl rfl λw1 H=>?_
  |refine aw.all 1 H rfl rfl rfl λw1 H=>?_
  |refine aw.all 2 H rfl rfl rfl λw1 H=>?_
  |refine aw.c_ 0 H rfl rfl rfl λw1 H=>?_
  |refine aw.c_ 1 H rfl rfl rfl λw1 H=>?_
  |refine aw.c_ 2 H rfl rfl rfl λw1 H=>?_
  |refine aw.one 0 H rfl rfl rfl λw1 H=>?_
  |refine aw.one 1 H rfl rfl rfl λw1 H=>?_
  |refine aw.one 2 H rfl rfl rfl λw1 H=>?_
  |with_reducible refine ak.go H λw1 H=>?_
  |refine im ?_
  |refine ax (by assumption) ?_
  |refine an (by assumption) ?_
  |refine ab (λc=>?_) (λc=>?_))
 all_goals
  refine AT ?_ H.all;simp only[DA,Ch,DB,Dm,beq_iff_eq,beq_eq_false_iff_ne,bne_iff_ne,bne_eq_false_iff_eq,decide_eq_true_eq,decide_eq_false_iff_not,Dn,Do,Da,Dt,and_true,true_and,and_false,false_and,or_true,true_or,or_false,false_or,ne_eq,not_true_eq_false,not_false_eq_true,false_iff,iff_false,true_iff,iff_true] at*
 .simp[kh,mI, *]
 all_goals
  have d:dg k o r e=true:=by assumption
  have g:gQ k o r e:=of_decide_eq_true d;unfold gQ at g
 .have h2: ¬ (k=2\/k=3\/k=4):=by omega
  simp[kh,mI, *]
 .have h2:k=2\/k=3\/k=4:=by omega
  have f:r+x<0\/r+x>65535:=by
   by_cases h:x>65535\/x< -65535
   .omega
   .have a:ay .i64 r x=r+x:=ao (by omega) (by omega);simp only[a] at*
    omega
  simp[kh,mI, *]
 .have h2:k=2\/k=3\/k=4:=by omega
  have a:ay .i64 r x=r+x:=ao (by omega) (by omega);simp only[a] at*
  have f: ¬ (r+x<0\/r+x>65535):=by omega
  have:mI k o r e x=0:=by unfold mI;rw[ar (by rw[d];decide),az h2,ar f]
  unfold kh;rw[this,az rfl]
theorem HU {x:Int} (h:0<=x) (h':x<18446744073709551616):(B x).toNat=x.toNat:=by
 have:=yz h h';unfold U at this;omega
theorem cN (x:Int):aB .u64 x=U (B x):=XY x
def fE (N:Nat):Int:=((N / 4294967296 % 4294967296:Nat):Int)
theorem ab' {x:Int} (h:0<=x) (h':x<4294967296):aB .i64 x=x:=gg (by omega) (by omega)
theorem cE (N:Nat):aB .i64 (fE N)=fE N:=ab' (by unfold fE;omega) (by unfold fE;omega)
noncomputable def aa6:Entry AC where
 f:=287
 fn l:=match l with
  |[.agg ⟨[.int .i64 k,.int .i64 o,.int .i64 r,.int .i64 e]⟩,.int .i64 x,.int .i64 y]=>some (True,.tuple ⟨[.agg ⟨[.int .i64 (jN k o r e x y),.int .i64 (iR k o r e x y),.int .i64 0,.int .i64 0]⟩,.int .i64 (ff k o r e x y)]⟩)
  | _=>none
 ok args pre v h a w:=by
  split at h
  .rename_i k o r e x y;cases h;exact a7 (T5 k o r e x y w)
  .cases h
noncomputable def Yy:Entry AC where
 f:=236
 fn l:=match l with
  |[.agg ⟨[.int .i64 k,.int .i64 o,.int .i64 r,.int .i64 e]⟩,.int .i64 x,.int .i64 y]=>some (True,.tuple ⟨[.agg ⟨[.int .i64 (jN k o r e x y),.int .i64 (iR k o r e x y),.int .i64 0,.int .i64 0]⟩,.int .i64 (ff k o r e x y)]⟩)
  | _=>none
 ok args pre v h a w:=by
  split at h
  .rename_i k o r e x y;cases h;exact a7 (Qd k o r e x y w)
  .cases h
noncomputable def aca:Entry AC where
 f:=298
 fn l:=match l with
  |[.agg ⟨[.int .i64 k,.int .i64 o,.int .i64 r,.int .i64 e]⟩,.int .i64 x]=>some ((-9223372036854775808<=x/\x<9223372036854775808),.tuple ⟨[.agg ⟨[.int .i64 (kh k o r e x).1,.int .i64 (kh k o r e x).2.1,.int .i64 (kh k o r e x).2.2.1,.int .i64 (kh k o r e x).2.2.2.1]⟩,.int .i64 (mI k o r e x)]⟩)
  | _=>none
 ok args pre v h a w:=by
  split at h
  .rename_i k o r e x;cases h;exact a7 (Yx k o r e x a w)
  .cases h
noncomputable def aa7:Entry AC where
 f:=246
 fn l:=match l with
  |[.agg ⟨[.int .i64 k,.int .i64 o,.int .i64 r,.int .i64 e]⟩,.int .i64 x]=>some ((-9223372036854775808<=x/\x<9223372036854775808),.tuple ⟨[.agg ⟨[.int .i64 (kh k o r e x).1,.int .i64 (kh k o r e x).2.1,.int .i64 (kh k o r e x).2.2.1,.int .i64 (kh k o r e x).2.2.2.1]⟩,.int .i64 (mI k o r e x)]⟩)
  | _=>none
 ok args pre v h a w:=by
  split at h
  .rename_i k o r e x;cases h;exact a7 (T6 k o r e x a w)
  .cases h
noncomputable def D3:fa AC:={D0 with wx:=false,oW:=[tK,SB,Cj,Ck,wy,wz,Fw,Fx,Xy,CI,CJ,vK,qL,aa6,Yy,aca,aa7]}
noncomputable def E0:fa AC:={D3 with sh:=[(277,.el (.one (.vk 332 2))),(202,.el (.one (.vk 332 2)))],quiet:=[278,281,78]}
noncomputable def E1:fa AC:={E0 with cl:=[(370,.vk 278 1)]}
noncomputable def E2:fa AC:={E0 with cl:=[(370,.vk 281 1)]}
abbrev aaj:Sh:= .el (.one (.vk 332 2))
theorem Yz (p:Option AE) (w:A2) (a:Int->A2->Prop):(aL E0 (λ_=>[]) 78 [ah p] w a)=(
 aD p.isNone (ak w (a 0)) (bD p 0 w λx=>ak w (a (↑x.2.1:Int)))):=by kernel_rfl
theorem YA (k o r e:Int) (c:Option AE) (w:A2) (d:Bool->A2->Prop):(aL E0 (λ_=>[]) 278 [.agg ⟨[aa k,aa o,aa r,aa e]⟩,ah c] w d)=(
 aH w ⟨[aa k,aa o,aa r,aa e]⟩ 79 λb a=>true=true/\aN a (ad (ae b) 0) λx=>aN a c λf=>ak a (d (x==f))):=by kernel_rfl
theorem Ki (k o r e:Int) (c:Option AE) (w:A2) (d:Bool->A2->Prop):(aL E0 (λ_=>[]) 281 [.agg ⟨[aa k,aa o,aa r,aa e]⟩,ah c] w d)=(
 aH w ⟨[aa k,aa o,aa r,aa e]⟩ 79 λb a=>true=true/\aN a (ad (ae b) 1) λx=>aN a c λf=>ak a (d (x==f))):=by kernel_rfl
theorem aa8 (p:Option AE) (k:Int) (w:A2) (c:Option AE×Option AE×Unit->A2->Prop):(aL E0 (λ_=>[]) 202 [ah p,aa k] w c)=(
 aH w ⟨[aa k]⟩ 3 λb a=>aA AC 277 (.el (.one (.vk 332 2))) [ah p,.func (.func 278) ⟨[]⟩ {toList:=[ah (ae b)]}] a λx a=>ak a (c (x.1,x.2.1,()))):=by kernel_rfl
theorem T7 (p c:Option AE) (w:A2) (d:Option AE×Option AE×Unit->A2->Prop):(aL E0 (λ_=>[]) 277 [ah p,.func (.func 278) #[] #[ah c]] w d)=(
 aH w ⟨[ah p]⟩ 47 λb a=>aH a {toList:=[.func (.func 278) ⟨[]⟩ ⟨[ah c]⟩]} 370 λe a=>ak a (d (some ⟨b,0,none⟩,some ⟨e,0,none⟩,()))):=by kernel_rfl
theorem Qe (p c:Option AE) (w:A2) (d:Option AE×Option AE×Unit->A2->Prop):(aL E0 (λ_=>[]) 277 [ah p,.func (.func 281) #[] #[ah c]] w d)=(
 aH w ⟨[ah p]⟩ 47 λb a=>aH a {toList:=[.func (.func 281) ⟨[]⟩ ⟨[ah c]⟩]} 370 λe a=>ak a (d (some ⟨b,0,none⟩,some ⟨e,0,none⟩,()))):=by kernel_rfl
def uW:Nat->aW:=(λ|2=>[(13,Go.RX.El.one (Go.RX.Sc.int Ce))]| _=>[])
theorem Qf (y:Nat) (p c:Option AE) (w:A2) (f:Unit->A2->Prop):(aL E1 uW 332 [.func (.yield y) #[] #[],ah p,ah c] w f)=(
 eJ w p λx=>aD x.isNone (ak w (f ())) (eJ w p λx=>bD x 0 w λx=> ∃(I:Nat->Int×Unit->A2->Prop),(∃n, ∀w1,Ext w w1->I n (0,()) w1)/\ ∀(n:Nat) (s:Int×Unit) (w1:A2),I n s w1->aD (decide (s.1<(↑x.2.1:Int))) ((x.1.isSome=true/\0<=s.1/\s.1<(↑x.2.1:Int))/\ag w1 none (ad x.1 (DC s.1*4)) dh λ(x:Int×Int×Int×Int×Unit)=>aH w1 ⟨[aa 0,aa 0,aa 0,aa 0]⟩ 79 λb a=>aw a (ae b) [aa x.1,aa x.2.1,aa x.2.2.1,aa x.2.2.2.1] λa=>ag
 a none c (.one (.vk 278 1)) λx=>ag a none (ae b) dh λ(g:Int×Int×Int×Int×Unit)=> ∃h,ai AC 278 [.agg ⟨[aa g.1,aa g.2.1,aa g.2.2.1,aa g.2.2.2.1]⟩,ah x.1] a (.bool h)/\aD h (∀w1,Ext a w1->nA AC y [aa s.1] w1 λ(b:Bool) a=>aD (!b) (ak a (f ())) (∀d,Ext a d-> ∃(e:Nat),e<n/\I e (ay .i64 s.1 1,()) d)) (∀d,Ext a d-> ∃(e:Nat),e<n/\I e (ay .i64 s.1 1,()) d)) (ak w1 (f ())))):=by kernel_rfl
def sf:Nat->aW:=(λ|2=>[(13,Go.RX.El.one (Go.RX.Sc.int Ce))]| _=>[])
theorem Kj (y:Nat) (p c:Option AE) (w:A2) (f:Unit->A2->Prop):(aL E2 sf 332 [.func (.yield y) #[] #[],ah p,ah c] w f)=(
 eJ w p λx=>aD x.isNone (ak w (f ())) (eJ w p λx=>bD x 0 w λx=> ∃(I:Nat->Int×Unit->A2->Prop),(∃n, ∀w1,Ext w w1->I n (0,()) w1)/\ ∀(n:Nat) (s:Int×Unit) (w1:A2),I n s w1->aD (decide (s.1<(↑x.2.1:Int))) ((x.1.isSome=true/\0<=s.1/\s.1<(↑x.2.1:Int))/\ag w1 none (ad x.1 (DC s.1*4)) dh λ(x:Int×Int×Int×Int×Unit)=>aH w1 ⟨[aa 0,aa 0,aa 0,aa 0]⟩ 79 λb a=>aw a (ae b) [aa x.1,aa x.2.1,aa x.2.2.1,aa x.2.2.2.1] λa=>ag
 a none c (.one (.vk 281 1)) λx=>ag a none (ae b) dh λ(g:Int×Int×Int×Int×Unit)=> ∃h,ai AC 281 [.agg ⟨[aa g.1,aa g.2.1,aa g.2.2.1,aa g.2.2.2.1]⟩,ah x.1] a (.bool h)/\aD h (∀w1,Ext a w1->nA AC y [aa s.1] w1 λ(b:Bool) a=>aD (!b) (ak a (f ())) (∀d,Ext a d-> ∃(e:Nat),e<n/\I e (ay .i64 s.1 1,()) d)) (∀d,Ext a d-> ∃(e:Nat),e<n/\I e (ay .i64 s.1 1,()) d)) (ak w1 (f ())))):=by kernel_rfl
theorem Qh (k o r e:Int) (c d:Option AE) (w:A2) (i:(Int×Int×Int×Int×Unit)×Int×Unit->A2->Prop):(bO E0 (λ_=>[]) 286 [.agg ⟨[aa k,aa o,aa r,aa e]⟩,ah c,ah d] w i)=(
 aH w ⟨[aa k,aa o,aa r,aa e]⟩ 79 λb a=>aH a ⟨[aa 0,aa 0,aa 0,aa 0]⟩ 79 λj a=>ag a none (ae b) dh λ(x:Int×Int×Int×Int×Unit)=>aN a c λg=>aN a d λh=>True/\aw a (ae j) [aa (jN x.1 x.2.1 x.2.2.1 x.2.2.2.1 g h),aa (iR x.1 x.2.1 x.2.2.1 x.2.2.2.1 g h),aa 0,aa 0] λa=>ak a λw1=>ag w1 none (ae j) dh λ(f:Int×Int×Int×Int×Unit)=>i ((f.1,f.2.1,f.2.2.1,f.2.2.2.1,()),ff x.1 x.2.1
 x.2.2.1 x.2.2.2.1 g h,()) w1):=by kernel_rfl
theorem T8 (k o r e:Int) (c:Option AE) (w:A2) (g:(Int×Int×Int×Int×Unit)×Int×Unit->A2->Prop):(bO E0 (λ_=>[]) 297 [.agg ⟨[aa k,aa o,aa r,aa e]⟩,ah c] w g)=(
 aH w ⟨[aa k,aa o,aa r,aa e]⟩ 79 λb a=>aH a ⟨[aa 0,aa 0,aa 0,aa 0]⟩ 79 λh a=>ag a none (ae b) dh λ(x:Int×Int×Int×Int×Unit)=>aN a c λd=>(-9223372036854775808<=d/\d<9223372036854775808)/\aw a (ae h) [aa (kh x.1 x.2.1 x.2.2.1 x.2.2.2.1 d).1,aa (kh x.1 x.2.1 x.2.2.1 x.2.2.2.1 d).2.1,aa (kh x.1 x.2.1 x.2.2.1 x.2.2.2.1 d).2.2.1,aa (kh x.1 x.2.1 x.2.2.1 x.2.2.2.1 d).2.2.2.1] λa=>ak a λw1=>ag w1 none (ae h) dh λ
 (f:Int×Int×Int×Int×Unit)=>g ((f.1,f.2.1,f.2.2.1,f.2.2.2.1,()),mI x.1 x.2.1 x.2.2.1 x.2.2.2.1 d,()) w1):=by kernel_rfl
theorem Kk (p:Option AE) (f:Int) (c d:Option AE) (w:A2) (e:Int->A2->Prop):(aL E0 (λ_=>[]) 285 [ah p,aa f,.func (.func 286) #[] #[ah c,ah d]] w e)=(
 ∃(x:Int),ai AC 78 [ah p] w (aa x)/\aD (x==0) (ak w (e 10)) (((!decide (f<0))=true->p.isSome=true)/\((!decide (f<0))=true->p.isSome=true)/\ag w (some !decide (f<0)) (ad p 0) bX λx=>aD (decide (f<0)||decide (f>=(↑x.2.1:Int))) (ak w (e 2)) (bD p 0 w λx=>(x.1.isSome=true/\0<=f/\f<(↑x.2.1:Int))/\ag w none (ad x.1 (f.toNat*4)) dh λ(x:Int×Int×Int×Int×Unit)=>aA AC 286 (.bu [.agg [aG,aG,aG,aG],aq]) [.agg ⟨[aa x.1,.int .i64
 x.2.1,aa x.2.2.1,aa x.2.2.2.1]⟩,ah c,ah d] w λ(x:(Int×Int×Int×Int×Unit)×Int×Unit) a=>aH a ⟨[aa 0,aa 0,aa 0,aa 0]⟩ 79 λb a=>aw a (ae b) [aa x.1.1,aa x.1.2.1,aa x.1.2.2.1,aa x.1.2.2.2.1] λa=>aD (x.2.1==0) (bD p 0 a λh=>ag a none (ae b) dh λ(g:Int×Int×Int×Int×Unit)=>(h.1.isSome=true/\0<=f/\f<(↑h.2.1:Int))/\aw a (ad h.1 (f.toNat*4)) [aa g.1,aa g.2.1,aa g.2.2.1,aa g.2.2.2.1]
 λa=>ak a (e x.2.1)) (ak a (e x.2.1))))):=by kernel_rfl
theorem GD (p:Option AE) (f:Int) (c:Option AE) (w:A2) (d:Int->A2->Prop):(aL E0 (λ_=>[]) 285 [ah p,aa f,.func (.func 297) #[] #[ah c]] w d)=(
 ∃(x:Int),ai AC 78 [ah p] w (aa x)/\aD (x==0) (ak w (d 10)) (((!decide (f<0))=true->p.isSome=true)/\((!decide (f<0))=true->p.isSome=true)/\ag w (some !decide (f<0)) (ad p 0) bX λx=>aD (decide (f<0)||decide (f>=(↑x.2.1:Int))) (ak w (d 2)) (bD p 0 w λx=>(x.1.isSome=true/\0<=f/\f<(↑x.2.1:Int))/\ag w none (ad x.1 (f.toNat*4)) dh λ(x:Int×Int×Int×Int×Unit)=>aA AC 297 (.bu [.agg [aG,aG,aG,aG],aq]) [.agg ⟨[aa x.1,.int .i64
 x.2.1,aa x.2.2.1,aa x.2.2.2.1]⟩,ah c] w λ(x:(Int×Int×Int×Int×Unit)×Int×Unit) a=>aH a ⟨[aa 0,aa 0,aa 0,aa 0]⟩ 79 λb a=>aw a (ae b) [aa x.1.1,aa x.1.2.1,aa x.1.2.2.1,aa x.1.2.2.2.1] λa=>aD (x.2.1==0) (bD p 0 a λg=>ag a none (ae b) dh λ(e:Int×Int×Int×Int×Unit)=>(g.1.isSome=true/\0<=f/\f<(↑g.2.1:Int))/\aw a (ad g.1 (f.toNat*4)) [aa e.1,aa e.2.1,aa e.2.2.1,aa e.2.2.2.1] λa=>ak
 a (d x.2.1)) (ak a (d x.2.1))))):=by kernel_rfl
theorem T9 (p:Option AE) (f k o:Int) (w:A2) (c:Int->A2->Prop):(aL E0 (λ_=>[]) 211 [ah p,aa f,aa k,aa o] w c)=(
 aH w ⟨[aa k]⟩ 3 λb a=>aH a ⟨[aa o]⟩ 3 λd a=>aA AC 285 aT [ah p,aa f,.func (.func 286) ⟨[]⟩ {toList:=[ah (ae b),ah (ae d)]}] a λ(x:Int) a=>ak a (c x)):=by kernel_rfl
theorem T_ (p:Option AE) (f x:Int) (w:A2) (c:Int->A2->Prop):(aL E0 (λ_=>[]) 226 [ah p,aa f,aa x] w c)=(
 aH w ⟨[aa x]⟩ 3 λb a=>aA AC 285 aT [ah p,aa f,.func (.func 297) ⟨[]⟩ {toList:=[ah (ae b)]}] a λ(x:Int) a=>ak a (c x)):=by kernel_rfl
theorem Ua (p:Option AE) (f:Int) (w:A2) (a:Int->A2->Prop):(aL E0 (λ_=>[]) 215 [ah p,aa f] w a)=(
 aA AC 211 aT [ah p,aa f,aa 0,aa 0] w λ(x:Int) b=>ak b (a x)):=by kernel_rfl
theorem YB (p:Option AE) (f:Int) (w:A2) (c:(Int×Int×Int×Int×Unit)×Bool×Unit->A2->Prop):(bO E0 (λ_=>[]) 32 [ah p,aa f] w c)=(
 aH w ⟨[aa 0,aa 0,aa 0,aa 0]⟩ 79 λb a=> ∃(x:Int),((!decide (f<0))=true->ai AC 78 [ah p] a (aa x))/\aD (decide (f<0)||decide (f>=x)) (aw a (ae b) [aa 0,aa 0,aa 0,aa 0] λa=>ak a λw1=>ag w1 none (ae b) dh λ(x:Int×Int×Int×Int×Unit)=>c ((x.1,x.2.1,x.2.2.1,x.2.2.2.1,()),false,()) w1) (bD p 0 a λx=>(x.1.isSome=true/\0<=f/\f<(↑x.2.1:Int))/\ag a none (ad x.1 (f.toNat*4)) dh λ(x:Int×Int×Int×Int×Unit)
 =>aw a (ae b) [aa x.1,aa x.2.1,aa x.2.2.1,aa x.2.2.2.1] λa=>ak a λw1=>ag w1 none (ae b) dh λ(x:Int×Int×Int×Int×Unit)=>c ((x.1,x.2.1,x.2.2.1,x.2.2.2.1,()),true,()) w1)):=by kernel_rfl
theorem Ub (n:Int) (w:A2) (a:Option AE×Int×Unit->A2->Prop):(aL E0 (λ_=>[]) 54 [aa n] w a)=(
 aD (decide (n<1)||decide (n>4096)) (ak w (a (none,1,()))) (xG w 32 4 n n ⟨[aa 0,aa 0,aa 0,aa 0]⟩ 79 λb c=>aH c {toList:=[.slice (ae b) n.toNat n.toNat]} 198 λb c=>ak c (a (some ⟨b,0,none⟩,0,())))):=by kernel_rfl
theorem Uc (p:Option AE) (w:A2) (a:Option AE->A2->Prop):(aL E0 (λ_=>[]) 79 [ah p] w a)=(
 ∃(x:Int),ai AC 78 [ah p] w (aa x)/\aD (x==0) (ak w (a none)) (bD p 0 w λx=> ∀w1,Ext w w1->nm w1 79 4 32 ⟨[aa 0,aa 0,aa 0,aa 0]⟩ (none,0,0) (x.1,x.2.1,x.2.2) λ(r:Option AE×Nat×Nat) c=>aH c ⟨[.slice r.1 r.2.1 r.2.2]⟩ 198 λb c=>ak c (a (ae b)))):=by kernel_rfl
def uX:Nat->aW:=(λ|3=>[(9,.one aG)]| _=>[])
theorem Qi (p:Option AE) (k:Int) (w:A2) (d:Int->A2->Prop):(bO E0 uX 123 [ah p,aa k] w d)=(
 aH w ⟨[aa 0]⟩ 3 λb c=>aw c (ae b) [aa 0] λc=>aA AC 202 (.el (.one (.vk 332 2))) [ah p,aa k] c λx c=>Aw AC 332 (λ(y:Nat)=>[.func (Fn.yield y) ⟨[]⟩ ⟨[]⟩,ah x.1,ah x.2.1]) ⟨[9]⟩ c (λ(x:Int×Unit)=>[aa x.1]) (λ(l:Nat) (rec:Loop) (x:Int×Unit) e (R:Bool->A2->Prop)=>De l rec [aa x.1].length 1 e (B_ l rec e λa=>aN a (ae b) λx=>aw a (ae b) [aa (ay .i64 x 1)] λc=>
 tj l rec none c R)) λ(r:Nat) (rec:Loop) f=>dX (r+1) rec f (λa=>aN a (ae b) λx=>tq [r] a λw1=>d x w1) (λ(id:Nat) a=>Decidable.rec (λ(h:id=0->False)=>False) (λ(h:id=0)=>aN a (ae b) λx=>tq [r] a λw1=>d x w1) (match h:id.beq 0 with|true=>isTrue (HF h)|false=>isFalse (HH h))) λa=>tq [r] a λw1=>d 0 w1):=by kernel_rfl
def uY:Nat->aW:=(λ|4=>[(10,.one aG)]| _=>[])
theorem Qj (p:Option AE) (k:Int) (w:A2) (d:Option AE×Nat×Nat->A2->Prop):(bO E0 uY 205 [ah p,aa k] w d)=(
 aH w ⟨[aa k]⟩ 3 λb a=>aH a ⟨[.slice none 0 0]⟩ 30 λe a=>aA AC 277 (.el (.one (.vk 332 2))) [ah p,.func (.func 281) ⟨[]⟩ {toList:=[ah (ae b)]}] a λx a=>Aw AC 332 (λ(y:Nat)=>[.func (Fn.yield y) ⟨[]⟩ ⟨[]⟩,ah x.1,ah x.2.1]) ⟨[10]⟩ a (λ(x:Int×Unit)=>[aa x.1]) (λ(l:Nat) (rec:Loop) (x:Int×Unit) g (R:Bool->A2->Prop)=>De l rec [aa x.1].length 1 g (B_ l rec g λc=>pJ c (ae e) λf=>aH c ⟨[aa x.1]⟩
 3 λb a=> ∀w1,Ext a w1->nm w1 3 1 8 ⟨[aa 0]⟩ (f.1,f.2.1,f.2.2) (some ⟨b,0,none⟩,1,1) λ(r:Option AE×Nat×Nat) a=>aw a (ae e) [.slice r.1 r.2.1 r.2.2] λa=>tj l rec none a R)) λ(r:Nat) (rec:Loop) i=>dX (r+1) rec i (λc=>pJ c (ae e) λx=>tq [r] c λw1=>d (x.1,x.2.1,x.2.2) w1) (λ(id:Nat) c=>Decidable.rec (λ(h:id=0->False)=>False) (λ(h:id=0)=>pJ c (ae e) λx=>tq [r] c λw1=>d (x.1,
 x.2.1,x.2.2) w1) (match h:id.beq 0 with|true=>isTrue (HF h)|false=>isFalse (HH h))) λc=>tq [r] c λw1=>d (none,0,0) w1):=by kernel_rfl
def wX:Nat->aW:=(λ|5=>[(15,.one aG)]| _=>[])
abbrev ta (b:Int×Int×Unit->A2->Prop) (a:A2) (c:Nat) (d:Nat):Prop:=
 aN a (ae c) λx=>aN a (ae d) λe=>b (x,e,()) a
abbrev Ag (d:Int×Int×Unit->A2->Prop) (e:A2) (b:Nat) (c:Nat) (f:Nat):Prop:=
 aw e (ae b) [aa 0] λa=>aw a (ae c) [aa 12] λa=>tq [f] a λw1=>ta d w1 b c
theorem Ud (p:Option AE) (k o:Int) (w:A2) (f:Int×Int×Unit->A2->Prop):(bO E0 wX 213 [ah p,aa k,aa o] w f)=(
 aH w ⟨[ah p]⟩ 47 λb a=>aH a ⟨[aa k]⟩ 3 λm a=>aH a ⟨[aa o]⟩ 3 λn a=>aH a ⟨[aa 0]⟩ 3 λd a=>aH a ⟨[aa 0]⟩ 24 λe a=>eJ a (ae b) λx=> ∃(g:Int),ai AC 78 [ah x] a (aa g)/\aD (g==0) (aw a (ae d) [aa 0] λa=>aw a (ae e) [aa 10] λa=>ak a λw1=>ta f w1 d e) (eJ a (ae b) λx=>aA AC 202 (.el (.one (.vk 332 2))) [ah x,.int
 .i64 0] a λx a=>Aw AC 332 (λ(y:Nat)=>[.func (Fn.yield y) ⟨[]⟩ ⟨[]⟩,ah x.1,ah x.2.1]) ⟨[15]⟩ a (λ(x:Int×Unit)=>[aa x.1]) (λ(l:Nat) (rec:Loop) (x:Int×Unit) i (R:Bool->A2->Prop)=>De l rec [aa x.1].length 1 i (B_ l rec i λc=>eJ c (ae b) λq=>aN c (ae m) λs=>aN c (ae n) λt=>aA AC 211 aT [ah q,aa x.1,.int .i64
 s,aa t] c λ(j:Int) a=>aD (j != 0) (aw a (ae d) [aa 0] λa=>aw a (ae e) [aa j] λa=>tj l rec (some Code.ret) a R) (aw a (ae d) [aa x.1] λa=>aw a (ae e) [aa 0] λa=>tj l rec (some Code.ret) a R))) λ(r:Nat) (rec:Loop) u=>dX (r+1) rec u (λc=>Ag f c d e r) (λ(id:Nat) c=>Decidable.rec (λ(h:id=0->False)=>False) (λ(h:id=0)=>Ag f c d e r)
 (match h:id.beq 0 with|true=>isTrue (HF h)|false=>isFalse (HH h))) λc=>tq [r] c λw1=>ta f w1 d e)):=by kernel_rfl
abbrev sD:List Sc:=[aG,aG,aG,aG]
abbrev eD:El:= .agg sD
abbrev DT:Type:=Int×Int×Int×Int×Unit
def zD:DT:=(0,0,0,0,())
theorem sP {w:A2} {bp n c:Nat} {a:Option AE} (h:bq w bp [.slice a n c]):aC AC 78 aT [ah (ae bp)] w (λx w'=>x=(n:Int)/\Ext w w'):=by
 refine aj (C:=E0) (AR (Yz _ w _) ?_);have H:=At.start [] w;refine an rfl ⟨rfl,rfl,ag.g6 H h (by simp) rfl ?_⟩
 repeat' (first
  |exact Go.RX.aJ.all H
  |exact AT (by first|rfl|decide+kernel) (Go.RX.aJ.all H)
  |refine AT (by first|exact rfl|exact trivial|exact λ_=>rfl|exact λ_=>trivial|exact⟨rfl,by decide,by decide⟩|exact⟨by decide,by decide⟩|decide+kernel|exact λ_=>by decide|exact λ_=>⟨rfl,by decide,by decide⟩|(dsimp only[B4,B5];exact⟨rfl,by decide,by decide⟩)) ?_
  |refine ag.bj 0 H rfl rfl ?_
  |refine ag.at 0 H rfl rfl ?_
  |refine aH.go H λb w1 H=>?_
  |refine aw.all 0 H rfl rfl rfl λw1 H=>?_
  |refine aw.c_ 0 H rfl rfl rfl λw1 H=>?_
  |refine aw.one 0 H rfl rfl rfl λw1 H=>?_
  |with_reducible refine ak.go H λw1 H=>?_
  |refine im ?_
  |refine ax (by assumption) ?_
  |refine an (by assumption) ?_
  |refine ab (λc=>?_) (λc=>?_))
theorem YC {w:A2} {kc:Nat} {v:Int} (h:bq w kc [aa v]) (d:DT):aC AC 278 gD [.agg ⟨a6 sD d⟩,ah (ae kc)] w (λx w'=>x=(d.1==v)/\Ext w w'):=by
 have ⟨k,o,r,e,u⟩:=d;refine aj (C:=E0) (AR (YA k o r e _ w _) ?_);have H:=At.start [] w
 repeat' (first
  |refine ag.iQ H h (by simp) rfl ?_
  |exact Go.RX.aJ.all H
  |exact AT (by first|rfl|decide+kernel) (Go.RX.aJ.all H)
  |refine AT (by first|exact rfl|exact trivial|exact λ_=>rfl|exact λ_=>trivial|exact⟨rfl,by decide,by decide⟩|exact⟨by decide,by decide⟩|decide+kernel|exact λ_=>by decide|exact λ_=>⟨rfl,by decide,by decide⟩|(dsimp only[B4,B5];exact⟨rfl,by decide,by decide⟩)) ?_
  |refine ag.bj 0 H rfl rfl ?_
  |refine ag.at 0 H rfl rfl ?_
  |refine aH.go H λb w1 H=>?_
  |refine aw.all 0 H rfl rfl rfl λw1 H=>?_
  |refine aw.c_ 0 H rfl rfl rfl λw1 H=>?_
  |refine aw.one 0 H rfl rfl rfl λw1 H=>?_
  |with_reducible refine ak.go H λw1 H=>?_
  |refine im ?_
  |refine ax (by assumption) ?_
  |refine an (by assumption) ?_
  |refine ab (λc=>?_) (λc=>?_))
theorem Kl {w:A2} {kc:Nat} {v:Int} (h:bq w kc [aa v]) (d:DT):aC AC 281 gD [.agg ⟨a6 sD d⟩,ah (ae kc)] w (λx w'=>x=(d.2.1==v)/\Ext w w'):=by
 have ⟨k,o,r,e,u⟩:=d;refine aj (C:=E0) (AR (Ki k o r e _ w _) ?_);have H:=At.start [] w
 repeat' (first
  |refine ag.iQ H h (by simp) rfl ?_
  |exact Go.RX.aJ.all H
  |exact AT (by first|rfl|decide+kernel) (Go.RX.aJ.all H)
  |refine AT (by first|exact rfl|exact trivial|exact λ_=>rfl|exact λ_=>trivial|exact⟨rfl,by decide,by decide⟩|exact⟨by decide,by decide⟩|decide+kernel|exact λ_=>by decide|exact λ_=>⟨rfl,by decide,by decide⟩|(dsimp only[B4,B5];exact⟨rfl,by decide,by decide⟩)) ?_
  |refine ag.bj 0 H rfl rfl ?_
  |refine ag.at 0 H rfl rfl ?_
  |refine aH.go H λb w1 H=>?_
  |refine aw.all 0 H rfl rfl rfl λw1 H=>?_
  |refine aw.c_ 0 H rfl rfl rfl λw1 H=>?_
  |refine aw.one 0 H rfl rfl rfl λw1 H=>?_
  |with_reducible refine ak.go H λw1 H=>?_
  |refine im ?_
  |refine ax (by assumption) ?_
  |refine an (by assumption) ?_
  |refine ab (λc=>?_) (λc=>?_))
section
variable {D G:List Nat} {w0 w:A2} {L:List (Nat×List AG)}
theorem tL (H:aJ D G w0 w L) (p:Option AE) (k:Int) {K:Option AE×Option AE×Unit->A2->Prop}
 (a: ∀pc ic kc w1,aJ D G w0 w1 ((ic,[.func (.func 278) #[] #[ah (ae kc)]])::(pc,[ah p])::(kc,[aa k])::L)->K (some ⟨pc,0,none⟩,some ⟨ic,0,none⟩,()) w1):
 aA AC 202 aaj [ah p,aa k] w K:=by
 refine aA.go H λw1 H=>aj (C:=E0) (AR (aa8 p k w1 K) ?_);refine aH.go H λkc d H=>aA.go H λb H=>aj (C:=E0) (AR (T7 p _ b _) ?_);refine aH.go H λpc e H=>aH.go H λic f H=>ak.go H λg H=>ak.go H λc H=>?_;exact a pc ic kc c H
theorem Ue (H:aJ D G w0 w L) (p c:Option AE) {K:Option AE×Option AE×Unit->A2->Prop}
 (a: ∀pc ic w1,aJ D G w0 w1 ((ic,[.func (.func 281) #[] #[ah c]])::(pc,[ah p])::L)->K (some ⟨pc,0,none⟩,some ⟨ic,0,none⟩,()) w1):
 aA AC 277 aaj [ah p,.func (.func 281) #[] #[ah c]] w K:=by
 refine aA.go H λw1 H=>aj (C:=E0) (AR (Qe p c w1 K) ?_);refine aH.go H λpc d H=>aH.go H λic e H=>ak.go H λb H=>?_;exact a pc ic b H
end
def N6 (fn:FuncId) (pc ic kc bp bf c:Nat) (v:Int) (ds:List DT) (rest:List AG) (w:A2):Prop:=
 bq w pc [ah (ae bp)]/\bq w ic [.func (.func fn) #[] #[ah (ae kc)]]/\bq w kc [aa v]/\bq w bp [.slice (ae bf) ds.length c]/\bq w bf (flat eD ds++rest)
theorem Ea {pc ic kc bp bf c:Nat} {v:Int} {ds:List DT} {rest:List AG} (N:ds.length<=4096):
 SZ AC 332 (λy=>[.func (.yield y) #[] #[],ah (ae pc),ah (ae ic)]) ds.length
  (λi=>match ds[i]? with
   |some d=>if d.1=v then some [aa (i:Nat)] else none
   |none=>none) (N6 278 pc ic kc bp bf c v ds rest):=by
 intro y w J D a E o F G h0;have key:aC AC 332 (vw E1 332) [.func (.yield y) #[] #[],ah (ae pc),ah (ae ic)] w (λ_ w'=>J ds.length w'\/D w'):=by
  refine aj (C:=E1) (b_:=uW) (AR (Qf y _ _ w _) ?_);have ⟨s1,p,q,r,t⟩:=o 0 w h0;refine ag.of _ (s1.mF rfl) (an rfl (ag.of _ (s1.mF rfl) ⟨rfl,rfl,ag.of (some ⟨bf,0,none⟩,ds.length,c) (by rw[aS];exact r.mF rfl) ?_⟩));refine⟨λn s w'=> ∃i:Nat,s.1=i/\n+i=ds.length/\J i w',⟨ds.length,λw1 I=>⟨0,rfl,rfl,a _ _ _ h0 I⟩⟩,?_⟩;rintro n ⟨O,u⟩ w1 ⟨i,hi,P,f⟩;simp only at hi;subst hi;dsimp only;refine ab (λc=>?_) (λc=>?_)
  .have k:i<ds.length:=by simp only[decide_eq_true_eq] at c;omega
   have ⟨s1,p,q,r,t⟩:=o i w1 f;have h:ds[i]? =some ds[i]:=B2 k;refine⟨⟨rfl,by omega,by omega⟩,ag.of ds[i] (dK t h) ?_⟩;have H:=At.start [] w1;have next: ∀w',J (i+1) w'-> ∀g,Ext w' g-> ∃z,z<n/\ ∃j:Nat,ay .i64 (i:Nat) 1=j/\z+j=ds.length/\J j g:=λw' l g m=>
    ⟨n - 1,by omega,i+1,by rw[ao (by omega) (by omega)];rfl,by omega,a _ _ _ l m⟩
   generalize hd:ds[i]=d;rw[hd] at h;refine aH.go H λb A H=>aw.all 0 H rfl rfl rfl λA H=>ag.of (some ⟨kc,0,none⟩,()) ((H.iQ p (by simp)).mF rfl) (ag.at 0 H rfl rfl ?_);have B:=a _ _ _ f H.all;refine⟨d.1==v,ai.of (s:= .el cr) λw' h'=>YC ((H.iQ q (by simp)).ext h') d,ab (λc=>λg m=>?_) (λc=>?_)⟩
   .refine G i _ k (by simp only[h];rw[az (by simpa using c)]) g _ (a _ _ _ B m) (λw' l=>?_) (λw' K=>?_)
    .exact an rfl (next w' l)
    .exact ax rfl λQ L=> .inr (E _ _ K L)
   .exact next _ (F i k (by simp only[h];rw[ar (by simpa using c)]) _ B)
  .have:i=ds.length:=by simp only[decide_eq_false_iff_not] at c;omega
   subst this;exact λA h2=> .inl (a _ _ _ f h2)
 exact Calls.mono key λe w' ⟨x,M,f⟩=>⟨_,M,f⟩
theorem Qk {pc ic kc bp bf c:Nat} {v:Int} {ds:List DT} {rest:List AG} (N:ds.length<=4096):
 SZ AC 332 (λy=>[.func (.yield y) #[] #[],ah (ae pc),ah (ae ic)]) ds.length
  (λi=>match ds[i]? with
   |some d=>if d.2.1=v then some [aa (i:Nat)] else none
   |none=>none) (N6 281 pc ic kc bp bf c v ds rest):=by
 intro y w J D a E o F G h0;have key:aC AC 332 (vw E2 332) [.func (.yield y) #[] #[],ah (ae pc),ah (ae ic)] w (λ_ w'=>J ds.length w'\/D w'):=by
  refine aj (C:=E2) (b_:=sf) (AR (Kj y _ _ w _) ?_);have ⟨s1,p,q,r,t⟩:=o 0 w h0;refine ag.of _ (s1.mF rfl) (an rfl (ag.of _ (s1.mF rfl) ⟨rfl,rfl,ag.of (some ⟨bf,0,none⟩,ds.length,c) (by rw[aS];exact r.mF rfl) ?_⟩));refine⟨λn s w'=> ∃i:Nat,s.1=i/\n+i=ds.length/\J i w',⟨ds.length,λw1 I=>⟨0,rfl,rfl,a _ _ _ h0 I⟩⟩,?_⟩;rintro n ⟨O,u⟩ w1 ⟨i,hi,P,f⟩;simp only at hi;subst hi;dsimp only;refine ab (λc=>?_) (λc=>?_)
  .have k:i<ds.length:=by simp only[decide_eq_true_eq] at c;omega
   have ⟨s1,p,q,r,t⟩:=o i w1 f;have h:ds[i]? =some ds[i]:=B2 k;refine⟨⟨rfl,by omega,by omega⟩,ag.of ds[i] (dK t h) ?_⟩;have H:=At.start [] w1;have next: ∀w',J (i+1) w'-> ∀g,Ext w' g-> ∃z,z<n/\ ∃j:Nat,ay .i64 (i:Nat) 1=j/\z+j=ds.length/\J j g:=λw' l g m=>
    ⟨n - 1,by omega,i+1,by rw[ao (by omega) (by omega)];rfl,by omega,a _ _ _ l m⟩
   generalize hd:ds[i]=d;rw[hd] at h;refine aH.go H λb A H=>aw.all 0 H rfl rfl rfl λA H=>ag.of (some ⟨kc,0,none⟩,()) ((H.iQ p (by simp)).mF rfl) (ag.at 0 H rfl rfl ?_);have B:=a _ _ _ f H.all;refine⟨d.2.1==v,ai.of (s:= .el cr) λw' h'=>Kl ((H.iQ q (by simp)).ext h') d,ab (λc=>λg m=>?_) (λc=>?_)⟩
   .refine G i _ k (by simp only[h];rw[az (by simpa using c)]) g _ (a _ _ _ B m) (λw' l=>?_) (λw' K=>?_)
    .exact an rfl (next w' l)
    .exact ax rfl λQ L=> .inr (E _ _ K L)
   .exact next _ (F i k (by simp only[h];rw[ar (by simpa using c)]) _ B)
  .have:i=ds.length:=by simp only[decide_eq_false_iff_not] at c;omega
   subst this;exact λA h2=> .inl (a _ _ _ f h2)
 exact Calls.mono key λe w' ⟨x,M,f⟩=>⟨_,M,f⟩
def aI (k o:Int) (d:DT):DT×Int:=((jN d.1 d.2.1 d.2.2.1 d.2.2.2.1 k o,iR d.1 d.2.1 d.2.2.1 d.2.2.2.1 k o,0,0,()),ff d.1 d.2.1 d.2.2.1 d.2.2.2.1 k o)
def fA (x:Int) (d:DT):DT×Int:=(kh d.1 d.2.1 d.2.2.1 d.2.2.2.1 x,mI d.1 d.2.1 d.2.2.1 d.2.2.2.1 x)
def oY (ds:List DT) (f:Int) (g:DT->DT×Int):Int:=if ds.length=0 then 10 else if f<0\/f>=ds.length then 2 else(g (ds.getD f.toNat zD)).2
def eC (ds:List DT) (f:Int) (g:DT->DT×Int):List DT:=if f<0\/f>=ds.length then ds else if(g (ds.getD f.toNat zD)).2=0 then ds.set f.toNat (g (ds.getD f.toNat zD)).1 else ds
theorem By {ds:List DT} (h:ds.length=0) (f:Int) (g:DT->DT×Int):oY ds f g=10:=az h
theorem Bz {ds:List DT} (h:ds.length=0) (f:Int) (g:DT->DT×Int):eC ds f g=ds:=az (by omega)
theorem x9 {ds:List DT} (h:ds.length≠0) {f:Int} (a:f<0\/f>=ds.length) (g:DT->DT×Int):oY ds f g=2:=by grind[oY]
theorem tQ {ds:List DT} {f:Int} (a:f<0\/f>=ds.length) (g:DT->DT×Int):eC ds f g=ds:=az a
theorem sS {ds:List DT} {f:Int} (a:0<=f/\f<ds.length) (g:DT->DT×Int):oY ds f g=(g (ds.getD f.toNat zD)).2:=by grind[oY]
theorem oA {ds:List DT} {f:Int} (a:0<=f/\f<ds.length) (g:DT->DT×Int):eC ds f g=if(g (ds.getD f.toNat zD)).2=0 then ds.set f.toNat (g (ds.getD f.toNat zD)).1 else ds:=by grind[eC]
theorem dY (ds:List DT) (f:Int) (g:DT->DT×Int):(eC ds f g).length=ds.length:=by grind[eC]
theorem Ql {w:A2} {kc f:Nat} {k o:Int} (g:bq w kc [aa k]) (h:bq w f [aa o]) (d:DT):aC AC 286 (.bu [eD,aq]) [.agg ⟨a6 sD d⟩,ah (ae kc),ah (ae f)] w
 (λv w'=>v=((aI k o d).1,(aI k o d).2,())/\Ext w w'):=by
 have ⟨a,b,c,e,u⟩:=d;refine aQ (C:=E0) (AR (Qh a b c e _ _ w _) ?_);have H:=At.start [] w
 repeat' (first
  |refine ag.iQ H g (by simp) rfl ?_
  |refine ag.iQ H h (by simp) rfl ?_
  |exact Go.RX.aJ.all H
  |exact AT (by first|rfl|decide+kernel) (Go.RX.aJ.all H)
  |refine AT (by first|exact rfl|exact trivial|exact λ_=>rfl|exact λ_=>trivial|exact⟨rfl,by decide,by decide⟩|exact⟨by decide,by decide⟩|decide+kernel|exact λ_=>by decide|exact λ_=>⟨rfl,by decide,by decide⟩|(dsimp only[B4,B5];exact⟨rfl,by decide,by decide⟩)) ?_
  |refine ag.bj 0 H rfl rfl ?_
  |refine ag.bj 1 H rfl rfl ?_
  |refine ag.at 0 H rfl rfl ?_
  |refine ag.at 1 H rfl rfl ?_
  |refine aH.go H λb w1 H=>?_
  |refine aw.all 0 H rfl rfl rfl λw1 H=>?_
  |refine aw.all 1 H rfl rfl rfl λw1 H=>?_
  |refine aw.c_ 0 H rfl rfl rfl λw1 H=>?_
  |refine aw.c_ 1 H rfl rfl rfl λw1 H=>?_
  |refine aw.one 0 H rfl rfl rfl λw1 H=>?_
  |refine aw.one 1 H rfl rfl rfl λw1 H=>?_
  |with_reducible refine ak.go H λw1 H=>?_
  |refine im ?_
  |refine ax (by assumption) ?_
  |refine an (by assumption) ?_
  |refine ab (λc=>?_) (λc=>?_))
theorem Uf {w:A2} {kc:Nat} {k:Int} (f:bq w kc [aa k]) (hi: -9223372036854775808<=k/\k<9223372036854775808) (d:DT):aC AC 297 (.bu [eD,aq]) [.agg ⟨a6 sD d⟩,ah (ae kc)] w
 (λv w'=>v=((fA k d).1,(fA k d).2,())/\Ext w w'):=by
 have ⟨a,b,c,e,u⟩:=d;refine aQ (C:=E0) (AR (T8 a b c e _ w _) ?_);have H:=At.start [] w
 repeat' (first
  |refine ag.iQ H f (by simp) rfl ?_
  |refine AT hi ?_
  |exact Go.RX.aJ.all H
  |exact AT (by first|rfl|decide+kernel) (Go.RX.aJ.all H)
  |refine AT (by first|exact rfl|exact trivial|exact λ_=>rfl|exact λ_=>trivial|exact⟨rfl,by decide,by decide⟩|exact⟨by decide,by decide⟩|decide+kernel|exact λ_=>by decide|exact λ_=>⟨rfl,by decide,by decide⟩|(dsimp only[B4,B5];exact⟨rfl,by decide,by decide⟩)) ?_
  |refine ag.bj 0 H rfl rfl ?_
  |refine ag.bj 1 H rfl rfl ?_
  |refine ag.at 0 H rfl rfl ?_
  |refine ag.at 1 H rfl rfl ?_
  |refine aH.go H λb w1 H=>?_
  |refine aw.all 0 H rfl rfl rfl λw1 H=>?_
  |refine aw.all 1 H rfl rfl rfl λw1 H=>?_
  |refine aw.c_ 0 H rfl rfl rfl λw1 H=>?_
  |refine aw.c_ 1 H rfl rfl rfl λw1 H=>?_
  |refine aw.one 0 H rfl rfl rfl λw1 H=>?_
  |refine aw.one 1 H rfl rfl rfl λw1 H=>?_
  |with_reducible refine ak.go H λw1 H=>?_
  |refine im ?_
  |refine ax (by assumption) ?_
  |refine an (by assumption) ?_
  |refine ab (λc=>?_) (λc=>?_))
theorem GF {w:A2} {bp bf c kc l:Nat} {k o:Int} {ds:List DT} {rest:List AG} (g:bq w bp [.slice (ae bf) ds.length c]) (x:bq w bf (flat eD ds++rest)) (y:bp≠bf) (I:ds.length<=4096) (z:bq w kc [aa k]) (A:bq w l [aa o]) (B:kc≠bf) (D:l≠bf) (f:Int):
 aC AC 285 aT [ah (ae bp),aa f,.func (.func 286) #[] #[ah (ae kc),ah (ae l)]] w
  (λe w'=>e=oY ds f (aI k o)/\bq w' bf (flat eD (eC ds f (aI k o))++rest)/\Fr [bf] w w'):=by
 refine aj (C:=E0) (AR (Kk _ f _ _ w _) ?_);have H:=At.mn x;have m:bp∉[bf]:=by simpa using y
 refine⟨(ds.length:Int),ai.of (s:= .el aq) λw' h=>sP (g.ext h),ab (λj=>ak.go H λw1 H=>?_) (λj=>⟨λ_=>rfl,λ_=>rfl,ag.g6 H g m rfl (ab (λn=>ak.go H λw1 H=>?_) (λn=>?_))⟩)⟩
 .have h0:ds.length=0:=by simp only[beq_iff_eq] at j;omega
  exact⟨(By h0 f _).symm,by rw[Bz h0];exact H.get (i:=0) rfl,H.fr⟩
 .have h0:ds.length≠0:=by simp only[beq_eq_false_iff_ne,ne_eq] at j;omega
  have a:f<0\/f>=ds.length:=by simpa using n
  exact⟨(x9 h0 a _).symm,by rw[tQ a];exact H.get (i:=0) rfl,H.fr⟩
 .have h0:ds.length≠0:=by simp only[beq_eq_false_iff_ne,ne_eq] at j;omega
  have a:0<=f/\f<ds.length:=by simp only[Ch,decide_eq_false_iff_not] at n;omega
  have u:f.toNat<ds.length:=by omega
  have v:ds[f.toNat]? =some ds[f.toNat]:=B2 u;have E:ds.getD f.toNat zD=ds[f.toNat]:=by rw[C7,v];rfl
  have p:=sS a (aI k o);have q:=oA a (aI k o);rw[E] at p q;generalize hd:ds[f.toNat]=d at*
  refine⟨rfl,rfl,ag.g6 H g m rfl ⟨⟨rfl,a.1,a.2⟩,ag.of d (dK (H.get (i:=0) rfl) v) ?_⟩⟩;refine aA.val H (s:= .bu [eD,aq]) (((aI k o) d).1,((aI k o) d).2,()) (λw1 H=>Ql (H.iQ z (by simpa using B)) (H.iQ A (by simpa using D)) d) λw1 H=>?_;refine aH.go H λb F H=>aw.all 0 H rfl rfl rfl λF H=>ab (λr=>⟨rfl,rfl,ag.g6 H g m rfl (ag.at 0 H rfl rfl ⟨⟨rfl,a.1,a.2⟩,?_⟩)⟩) (λr=>ak.go H λG H=>?_)
  .have t:((aI k o) d).2=0:=by simpa using r
   refine aw.flat (e:=eD) 1 H (xs:=ds) (rest:=rest) ((aI k o) d).1 rfl rfl rfl u λG H=>ak.go H λJ H=>?_;exact⟨p.symm,by rw[q,az t];exact H.get (i:=1) rfl,H.fr⟩
  .have t: ¬ ((aI k o) d).2=0:=by simpa using r
   exact⟨p.symm,by rw[q,ar t];exact H.get (i:=1) rfl,H.fr⟩
theorem GG {w:A2} {bp bf c kc:Nat} {k:Int} {ds:List DT} {rest:List AG} (g:bq w bp [.slice (ae bf) ds.length c]) (u:bq w bf (flat eD ds++rest)) (v:bp≠bf) (D:ds.length<=4096) (x:bq w kc [aa k]) (y:kc≠bf) (hi: -9223372036854775808<=k/\k<9223372036854775808) (f:Int):
 aC AC 285 aT [ah (ae bp),aa f,.func (.func 297) #[] #[ah (ae kc)]] w
  (λe w'=>e=oY ds f (fA k)/\bq w' bf (flat eD (eC ds f (fA k))++rest)/\Fr [bf] w w'):=by
 refine aj (C:=E0) (AR (GD _ f _ w _) ?_);have H:=At.mn u;have l:bp∉[bf]:=by simpa using v
 refine⟨(ds.length:Int),ai.of (s:= .el aq) λw' h=>sP (g.ext h),ab (λj=>ak.go H λw1 H=>?_) (λj=>⟨λ_=>rfl,λ_=>rfl,ag.g6 H g l rfl (ab (λm=>ak.go H λw1 H=>?_) (λm=>?_))⟩)⟩
 .have h0:ds.length=0:=by simp only[beq_iff_eq] at j;omega
  exact⟨(By h0 f _).symm,by rw[Bz h0];exact H.get (i:=0) rfl,H.fr⟩
 .have h0:ds.length≠0:=by simp only[beq_eq_false_iff_ne,ne_eq] at j;omega
  have a:f<0\/f>=ds.length:=by simpa using m
  exact⟨(x9 h0 a _).symm,by rw[tQ a];exact H.get (i:=0) rfl,H.fr⟩
 .have h0:ds.length≠0:=by simp only[beq_eq_false_iff_ne,ne_eq] at j;omega
  have a:0<=f/\f<ds.length:=by simp only[Ch,decide_eq_false_iff_not] at m;omega
  have r:f.toNat<ds.length:=by omega
  have t:ds[f.toNat]? =some ds[f.toNat]:=B2 r;have z:ds.getD f.toNat zD=ds[f.toNat]:=by rw[C7,t];rfl
  have n:=sS a (fA k);have o:=oA a (fA k);rw[z] at n o;generalize hd:ds[f.toNat]=d at*
  refine⟨rfl,rfl,ag.g6 H g l rfl ⟨⟨rfl,a.1,a.2⟩,ag.of d (dK (H.get (i:=0) rfl) t) ?_⟩⟩;refine aA.val H (s:= .bu [eD,aq]) (((fA k) d).1,((fA k) d).2,()) (λw1 H=>Uf (H.iQ x (by simpa using y)) hi d) λw1 H=>?_;refine aH.go H λb A H=>aw.all 0 H rfl rfl rfl λA H=>ab (λp=>⟨rfl,rfl,ag.g6 H g l rfl (ag.at 0 H rfl rfl ⟨⟨rfl,a.1,a.2⟩,?_⟩)⟩) (λp=>ak.go H λB H=>?_)
  .have q:((fA k) d).2=0:=by simpa using p
   refine aw.flat (e:=eD) 1 H (xs:=ds) (rest:=rest) ((fA k) d).1 rfl rfl rfl r λB H=>ak.go H λE H=>?_;exact⟨n.symm,by rw[o,az q];exact H.get (i:=1) rfl,H.fr⟩
  .have q: ¬ ((fA k) d).2=0:=by simpa using p
   exact⟨n.symm,by rw[o,ar q];exact H.get (i:=1) rfl,H.fr⟩
theorem CK {w:A2} {bp bf c:Nat} {ds:List DT} {rest:List AG} (a:bq w bp [.slice (ae bf) ds.length c]) (b:bq w bf (flat eD ds++rest)) (d:bp≠bf) (g:ds.length<=4096) (f k o:Int):
 aC AC 211 aT [ah (ae bp),aa f,aa k,aa o] w (λe w'=>e=oY ds f (aI k o)/\bq w' bf (flat eD (eC ds f (aI k o))++rest)/\Fr [bf] w w'):=by
 refine aj (AR (T9 _ f k o w _) ?_);have H:=At.mn b;have h:bp∉[bf]:=by simpa
 refine aH.go H λkc w1 H=>aH.go H λm n H=>?_;refine aA.tC H 2 rfl (λl H=>GF (H.iQ a h) (H.get (i:=2) rfl) d g (H.get (i:=1) rfl) (H.get (i:=0) rfl) (H.ne (i:=1) (j:=2) rfl rfl (by decide)) (H.ne (i:=0) (j:=2) rfl rfl (by decide)) f) λl H=>ak.go H λp H=>?_;exact⟨rfl,H.get (i:=2) rfl,H.fr⟩
theorem Ug {w:A2} {bp bf c:Nat} {ds:List DT} {rest:List AG} (a:bq w bp [.slice (ae bf) ds.length c]) (b:bq w bf (flat eD ds++rest)) (d:bp≠bf) (g:ds.length<=4096) (f x:Int) (hi: -9223372036854775808<=x/\x<9223372036854775808):
 aC AC 226 aT [ah (ae bp),aa f,aa x] w (λe w'=>e=oY ds f (fA x)/\bq w' bf (flat eD (eC ds f (fA x))++rest)/\Fr [bf] w w'):=by
 refine aj (AR (T_ _ f x w _) ?_);have H:=At.mn b;have h:bp∉[bf]:=by grind
 refine aH.go H λkc w1 H=>?_;refine aA.tC H 1 rfl (λk H=>GG (H.iQ a h) (H.get (i:=1) rfl) d g (H.get (i:=0) rfl) (H.ne (i:=0) (j:=1) rfl rfl (by decide)) hi f) λk H=>ak.go H λl H=>?_;exact⟨rfl,H.get (i:=1) rfl,H.fr⟩
theorem Uh {w:A2} {bp bf c:Nat} {ds:List DT} {rest:List AG} (a:bq w bp [.slice (ae bf) ds.length c]) (b:bq w bf (flat eD ds++rest)) (d:bp≠bf) (g:ds.length<=4096) (f:Int):
 aC AC 215 aT [ah (ae bp),aa f] w (λe w'=>e=oY ds f (aI 0 0)/\bq w' bf (flat eD (eC ds f (aI 0 0))++rest)/\Fr [bf] w w'):=by
 refine aj (AR (Ua _ f w _) ?_);have H:=At.mn b;have h:bp∉[bf]:=by grind
 refine aA.tC H 0 rfl (λj H=>CK (H.iQ a h) (H.get (i:=0) rfl) d g f 0 0) λj H=>ak.go H λk H=>?_;exact⟨rfl,H.get (i:=0) rfl,H.fr⟩
def mH (ds:List DT) (f:Int):DT:=if f<0\/f>=ds.length then zD else ds.getD f.toNat zD
def wu (ds:List DT) (f:Int):Bool:= !(decide (f<0\/f>=ds.length))
theorem N7 {w:A2} {bp bf c:Nat} {ds:List DT} {rest:List AG} (i:bq w bp [.slice (ae bf) ds.length c]) (k:bq w bf (flat eD ds++rest)) (f:Int):
 aC AC 32 (.bu [eD,cr]) [ah (ae bp),aa f] w (λv w'=>v=(mH ds f,wu ds f,())/\Ext w w'):=by
 refine aQ (C:=E0) (AR (YB _ f w _) ?_);have H:=At.start [] w;refine aH.go H λb w1 H=>⟨(ds.length:Int),λ_=>ai.of (s:= .el aq) λw' h=>sP ((H.iQ i (by simp)).ext h),ab (λd=>?_) (λd=>?_)⟩
 .have a:f<0\/f>=ds.length:=by simpa using d
  have e:mH ds f=zD:=az a;have g:wu ds f=false:=by unfold wu;simp[a]
  rw[e,g]
  repeat' (first
   |exact Go.RX.aJ.all H
   |exact AT (by first|rfl|decide+kernel) (Go.RX.aJ.all H)
   |refine AT (by first|exact rfl|exact trivial|exact λ_=>rfl|exact λ_=>trivial|exact⟨rfl,by decide,by decide⟩|exact⟨by decide,by decide⟩|decide+kernel|exact λ_=>by decide|exact λ_=>⟨rfl,by decide,by decide⟩|(dsimp only[B4,B5];exact⟨rfl,by decide,by decide⟩)) ?_
   |refine ag.bj 0 H rfl rfl ?_
   |refine ag.at 0 H rfl rfl ?_
   |refine aH.go H λb w1 H=>?_
   |refine aw.all 0 H rfl rfl rfl λw1 H=>?_
   |refine aw.c_ 0 H rfl rfl rfl λw1 H=>?_
   |refine aw.one 0 H rfl rfl rfl λw1 H=>?_
   |with_reducible refine ak.go H λw1 H=>?_
   |refine im ?_
   |refine ax (by assumption) ?_
   |refine an (by assumption) ?_
   |refine ab (λc=>?_) (λc=>?_))
 .have a: ¬ (f<0\/f>=ds.length):=by
   simp only[Ch,decide_eq_false_iff_not] at d;rintro(h|h)
   .exact d.1 h
   .exact d.2 h
  have l:f.toNat<ds.length:=by omega
  have j:ds[f.toNat]? =some ds[f.toNat]:=B2 l;have m:ds.getD f.toNat zD=ds[f.toNat]:=by rw[C7,j];rfl
  have e:mH ds f=ds[f.toNat]:=by unfold mH;rw[ar a,m]
  have g:wu ds f=true:=by unfold wu;simp[a]
  rw[e,g];refine⟨rfl,rfl,ag.g6 H i (by simp) rfl ⟨⟨rfl,Int.not_lt.1 (λh=>a (.inl h)),Int.not_le.1 (λh=>a (.inr h))⟩,ag.of ds[f.toNat] (dK (H.iQ k (by simp)) j) ?_⟩⟩
  repeat' (first
   |exact Go.RX.aJ.all H
   |exact AT (by first|rfl|decide+kernel) (Go.RX.aJ.all H)
   |refine AT (by first|exact rfl|exact trivial|exact λ_=>rfl|exact λ_=>trivial|exact⟨rfl,by decide,by decide⟩|exact⟨by decide,by decide⟩|decide+kernel|exact λ_=>by decide|exact λ_=>⟨rfl,by decide,by decide⟩|(dsimp only[B4,B5];exact⟨rfl,by decide,by decide⟩)) ?_
   |refine ag.bj 0 H rfl rfl ?_
   |refine ag.at 0 H rfl rfl ?_
   |refine aH.go H λb w1 H=>?_
   |refine aw.all 0 H rfl rfl rfl λw1 H=>?_
   |refine aw.c_ 0 H rfl rfl rfl λw1 H=>?_
   |refine aw.one 0 H rfl rfl rfl λw1 H=>?_
   |with_reducible refine ak.go H λw1 H=>?_
   |refine im ?_
   |refine ax (by assumption) ?_
   |refine an (by assumption) ?_
   |refine ab (λc=>?_) (λc=>?_))
section
variable {D G:List Nat} {w0 w:A2} {L:List (Nat×List AG)}
theorem Iu (n:Nat):(AZ n [aa 0,aa 0,aa 0,aa 0]).flatten=flat eD (AZ n zD)++[]:=by
 rw[C9,fX];rfl
theorem Ui (H:aJ D G w0 w L) (n:Int) {K:Option AE×Int×Unit->A2->Prop} (hb:n<1\/n>4096-> ∀w1,aJ D G w0 w1 L->K (none,1,()) w1)
 (a:1<=n->n<=4096-> ∀bp bf w1,aJ D G w0 w1 ((bp,[.slice (ae bf) n.toNat n.toNat])::(bf,flat eD (AZ n.toNat zD)++[])::L)->K (some ⟨bp,0,none⟩,0,()) w1):
 aA AC 54 (.bu [bF,aq]) [aa n] w K:=by
 refine aA.go H λw1 H=>aj (AR (Ub n w1 K) ?_);refine ab (λc=>ak.go H (by grind)) (λc=>?_);have b:1<=n/\n<=4096:=by grind
 refine xG.go H rfl (by omega) (by omega) (by omega) (by omega) λbf d H=>?_;rw[Iu] at H;exact aH.go H λbp e H=>ak.go H (by grind)
theorem Uj (H:aJ D G w0 w L) {bp bf n c:Nat} {ds:List DT} {rest:List AG} (g:bq w bp [.slice (ae bf) n c]) (j:bq w bf (flat eD ds++rest)) (k:n=ds.length) (h0:0<n) (p:n<=4096) {K:Option AE->A2->Prop}
 (l: ∀a b d f w1,aJ D G w0 w1 ((a,[.slice (ae b) n d])::(b,flat eD ds++f)::L)->K (ae a) w1):
 aC AC 79 oq [ah (ae bp)] w K:=by
 refine aj (C:=E0) (AR (Uc _ w K) ?_);refine⟨(n:Int),ai.of λw' h=>sP (g.ext h),ab (λm=>?_) (λm=>⟨rfl,rfl,ag.of (some ⟨bf,0,none⟩,n,c) (by rw[aS];exact g.mF rfl) λw1 i=>?_⟩)⟩
 grind
 .refine nm.copy (H.ext i) (e:=eD) (ys:=ds) (j.ext i) ?_ k (by grind) rfl rfl rfl (by omega) λb d f q H=>aH.go H λa r H=>ak.go H λo H=>l a b d f o H;rw[In (by rw[aK];exact Df _),H4 (by rw[aK];exact Df _)]
end
def cB (ds:List DT) (v:Int):Nat:=ds.countP λd=>d.1==v
def dL (ds:List DT) (v:Int):List Nat:=(H5 ds.length).filter λi=>match ds[i]? with
 |some d=>d.2.1==v
 |none=>false
theorem um {ds:List DT} {v:Int} {i:Nat} {d:DT} (h:ds[i]? =some d):cB (ds.take (i+1)) v=cB (ds.take i) v+(if d.1=v then 1 else 0):=by grind[cB,HY]
theorem qN {ds:List DT} {i:Nat} {v:Int} {MI:DT->Int} {x:List AG} (h:(match ds[i]? with
 |some d=>if MI d=v then some [aa (i:Nat)] else none
 |none=>none)=some x): ∃d,ds[i]? =some d/\MI d=v/\x=[aa (i:Nat)]:=by
 grind
theorem CL {ds:List DT} {i:Nat} {v:Int} {MI:DT->Int} (hi:i<ds.length) (h:(match ds[i]? with
 |some d=>if MI d=v then some [aa (i:Nat)] else none
 |none=>none)=none): ∃d,ds[i]? =some d/\MI d≠v:=by grind
theorem Qm {w:A2} {bp bf n c:Nat} {ds:List DT} {rest:List AG} (k:bq w bp [.slice (ae bf) n c]) (m:bq w bf (flat eD ds++rest)) (o:n=ds.length) (p:n<=4096) (v:Int):
 aC AC 123 aT [ah (ae bp),aa v] w (λx w'=>x=(cB ds v:Int)/\Ext w w'):=by
 subst o;refine aQ (C:=E0) (b_:=uX) (AR (Qi _ v w _) ?_);have H:=At.start [] w;refine aH.go H λb w1 H=>aw.all 0 H rfl rfl rfl λA H=>tL H _ v λpc ic kc B H=>?_;refine Aw.go H (Ea (v:=v) (pc:=pc) (ic:=ic) (kc:=kc) (bp:=bp) (bf:=bf) (c:=c) (rest:=rest) p)
  (λi=>[(ic,[.func (.func 278) #[] #[ah (ae kc)]]),(pc,[ah (ae bp)]),(kc,[aa v]),(b,[aa (cB (ds.take i) v:Nat)])])
  (λ_ _=>False) rfl ?_ ?_ ?_ ?_ ?_ ?_
 .exact λD i w' H=>⟨H.get (i:=1) rfl,H.get (i:=0) rfl,H.get (i:=2) rfl,H.iQ k (by simp),H.iQ m (by simp)⟩
 .intro i hi a;have ⟨d,hd,f⟩:=CL hi a;simp only[um hd,ar f,HD]
 .intro i x hi a;obtain⟨d,hd,f,rfl⟩:=qN a;exact⟨((i:Nat),()),rfl⟩
 .intro i x hi a r l rec h R g q _;have ⟨d,hd,f,E⟩:=qN a;refine De.go g rfl (B_.go g λwb H s=>ag.at 3 H rfl rfl (aw.all 3 H rfl rfl rfl λt H=>tj.next s H λu y=>q u ?_));have F:cB (ds.take i) v<=4096:=HB List.countP_le_length (by rw[GS];omega);have e:ay .i64 ((cB (ds.take i) v:Nat):Int) 1=((cB (ds.take (i+1)) v:Nat):Int):=by
   rw[um hd,az f,ao (by omega) (by omega)];rfl
  rw[<-e];exact y
 .intro r rec h g;refine dX.none g λt H=>ag.at 3 H rfl rfl (tq.go H λG H=>?_);exact⟨by rw[J3],H.all⟩
 .exact λj L' r rec h z _=>z.elim
theorem uo {ds:List DT} {v:Int} {i:Nat} {d:DT} (h:ds[i]? =some d):dL (ds.take (i+1)) v=dL (ds.take i) v++(if d.2.1=v then[i] else[]):=by
 have hi:=(B1.1 h).1;unfold dL;rw[GS,GS,Jc (by omega),Jc (by omega),Hr,List.filter_append];congr 1
 .apply List.filter_congr
  grind
 .simp[List.filter_cons,h]
theorem Qn {w:A2} {bp bf n c:Nat} {ds:List DT} {rest:List AG} (t:bq w bp [.slice (ae bf) n c]) (y:bq w bf (flat eD ds++rest)) (z:n=ds.length) (A:n<=4096) (v:Int):
 aC AC 205 di [ah (ae bp),aa v] w (λr w'=>kx w w' eI r ((dL ds v).map λi=>((i:Nat):Int))/\Ext w w'):=by
 subst z;refine aQ (C:=E0) (b_:=uY) (AR (Qj _ v w _) ?_);have H:=At.start [] w;refine aH.go H λkc w1 H=>aH.go H λb V H=>Ue H _ _ λpc ic W H=>?_
 let a:Nat->List Int:=λi=>(dL (ds.take i) v).map λi=>((i:Nat):Int)
 have B: ∀i,(a i).length<=4096:=λi=>by
  simp only[a,I8];refine HB (List.length_filter_le _ _) ?_;simp only[List.length_range,GS];omega
 let g:Option AE×Nat×Nat->List (Nat×List AG):=λs=>[(ic,[.func (.func 281) #[] #[ah (ae kc)]]),(pc,[ah (ae bp)]),(b,[.slice s.1 s.2.1 s.2.2]),(kc,[aa v])]
 let Inv:Nat->List (Nat×List AG)->Prop:=λi L'=> ∃s Ls,L'=Ls++g s/\((s=(none,0,0)/\a i=[]/\Ls=[])\/ ∃bs cs rs,s=(some ⟨bs,0,none⟩,(a i).length,cs)/\Ls=[(bs,flat eI (a i)++rs)]/\(flat eI (a i)++rs).length=cs*aM eI/\(a i).length<=cs)
 refine Aw.inv H (Qk (v:=v) (pc:=pc) (ic:=ic) (kc:=kc) (bp:=bp) (bf:=bf) (c:=c) (rest:=rest) A) Inv
  (λ_ _=>False) ⟨(none,0,0),[],rfl,.inl ⟨rfl,rfl,rfl⟩⟩ ?_ ?_ ?_ ?_ ?_ ?_
 .rintro X i w' L' ⟨s,Ls,rfl, _⟩ H;have H:=H.sub (List.sublist_append_right Ls (g s));exact⟨H.get (i:=1) rfl,H.get (i:=0) rfl,H.get (i:=3) rfl,H.iQ t (by simp),H.iQ y (by simp)⟩
 .rintro i L' hi k ⟨s,Ls,rfl,f⟩;have ⟨d,hd,D⟩:=CL (MI:=λd=>d.2.1) hi k;have e:a (i+1)=a i:=by simp only[a,uo hd,ar D,C9]
  exact⟨s,Ls,rfl,by rw[e];exact f⟩
 .intro i x hi k;obtain⟨d,hd,f,rfl⟩:=qN (MI:=λd=>d.2.1) k;exact⟨((i:Nat),()),rfl⟩
 .rintro i x L' hi k ⟨s,Ls,rfl,f⟩ r l rec o R m E _;have ⟨d,hd,F,G⟩:=qN (MI:=λd=>d.2.1) k;have p:x.1=((i:Nat):Int):=by
   have h:[aa x.1]=[aa (i:Nat)]:=G;simpa using h
  have ⟨Y,u⟩:=x;simp only at p;subst p;have e:a (i+1)=a i++[((i:Nat):Int)]:=by simp only[a,uo hd,az F,List.map_append,List.map_cons,List.map_nil]
  have Z:=B i;have q:(a (i+1)).length=(a i).length+1:=by rw[e];simp
  refine De.go m rfl (B_.go m λwb H I=>ag.of s ?_ (aH.go H λb2 J H=>λK L=>?_))
  .exact(H.d_ (b,[.slice s.1 s.2.1 s.2.2]) (Dl _ (by simp[g]))).mF rfl
  .refine aJ.grow (e:=eI) (x:=((i:Nat):Int)) (Ls:=Ls) (L0:=g s) (H.ext L) f rfl rfl rfl (by omega) λbs cs rs w7 M N H=>?_;refine aw.all 3 H rfl rfl rfl λw8 H=>tj.next I H λO P=>E _ O ⟨(some ⟨bs,0,none⟩,(a i).length+1,cs),[(bs,flat eI (a (i+1))++rs)],rfl,.inr ⟨bs,cs,rs,by rw[q],rfl,by rw[e];exact M,by rw[q];exact N⟩⟩ ?_
   rw[e];exact P
 .rintro L' r rec o ⟨s,Ls,rfl,f⟩ m;refine dX.none m λJ H=>ag.of s ?_ (tq.go H λK H=>?_)
  .exact(H.d_ (b,[.slice s.1 s.2.1 s.2.2]) (Dl _ (by simp[g]))).mF rfl
  .refine⟨?_,H.all⟩;have Q:a ds.length=(dL ds v).map λi=>((i:Nat):Int):=by simp only[a,J3]
   rw[<-Q];rcases f with ⟨rfl,h2,rfl⟩|⟨bs,cs,rs,rfl,rfl,S,T⟩
   .rw[h2];exact kx.nil _ _ _
   .refine⟨rfl,T,.inr ⟨bs, _,rfl,(H.own _ (Fk _ (List.mem_singleton.2 rfl))).resolve_right (by simp),H.get (i:=0) rfl,S,?_⟩⟩;rw[In (by rw[aK];exact Df _),H4 (by rw[aK];exact Df _)]
 .exact λj L' r rec o U _=>U.elim
def jh (ds:List DT):Option Nat:=ds.findIdx? λd=>d.1==0
def dV (ds:List DT) (k o:Int):Int:=match jh ds with
 |none=>0
 |some f=>if oY ds f (aI k o)=0 then(f:Int) else 0
def cJ (ds:List DT) (k o:Int):Int:=if ds.length=0 then 10 else match jh ds with
 |none=>12
 |some f=>oY ds f (aI k o)
def cX (ds:List DT) (k o:Int):List DT:=match jh ds with
 |none=>ds
 |some f=>eC ds f (aI k o)
theorem lW (ds:List DT) (k o:Int):(cX ds k o).length=ds.length:=by
 unfold cX;split
 .rfl
 .exact dY _ _ _
theorem BA {ds:List DT} (h: ∀(j:Nat) d,ds[j]? =some d->d.1≠0):jh ds=none:=by
 unfold jh;rw[List.findIdx?_eq_none_iff];intro d hd;have ⟨j,a⟩:=FA hd;simpa using h j d a
theorem BB {ds:List DT} {i:Nat} {d:DT} (hi:ds[i]? =some d) (hd:d.1=0) (h: ∀(j:Nat) d,j<i->ds[j]? =some d->d.1≠0):jh ds=some i:=by
 unfold jh;have a:i<ds.length:=(B1.1 hi).1;rw[List.findIdx?_eq_some_iff_getElem];refine⟨a,?_,λj b=>?_⟩
 .have e:ds[i]=d:=(B1.1 hi).2;rw[e];simpa using hd
 .have:=h j ds[j] b (B2 (by omega));simpa using this
theorem Uk {w:A2} {bp bf n c:Nat} {ds:List DT} {rest:List AG} (z:bq w bp [.slice (ae bf) n c]) (N:bq w bf (flat eD ds++rest)) (J:bp≠bf) (O:n=ds.length) (K:n<=4096) (k o:Int):
 aC AC 213 (.bu [aq,aq]) [ah (ae bp),aa k,aa o] w
  (λv w'=>v=(dV ds k o,cJ ds k o,())/\bq w' bf (flat eD (cX ds k o)++rest)/\Fr [bf] w w'):=by
 subst O;refine aQ (C:=E0) (b_:=wX) (AR (Ud _ k o w _) ?_);have H:=At.mn N;have A:bp∉[bf]:=by simpa using J
 refine aH.go H λb w1 H=>aH.go H λb1 V H=>aH.go H λb2 W H=>aH.go H λb3 X H=>aH.go H λP Y H=>ag.at 4 H rfl rfl ?_;refine⟨(ds.length:Int),ai.of (s:= .el aq) λw' h=>sP ((H.iQ z A).ext h),ab (λB=>?_) (λB=>ag.at 4 H rfl rfl ?_)⟩
 .have h0:ds.length=0:=by simp only[beq_iff_eq] at B;omega
  have hd:ds=[]:=List.eq_nil_of_length_eq_zero h0;refine aw.all 1 H rfl rfl rfl λQ H=>aw.all 0 H rfl rfl rfl λD H=>ak.go H λp H=>ag.at 1 H rfl rfl (ag.at 0 H rfl rfl ⟨?_,?_,H.fr⟩)
  .subst hd;rfl
  .subst hd;exact H.get (i:=5) rfl
 have h0:ds.length≠0:=by simp only[beq_eq_false_iff_ne,ne_eq] at B;omega
 refine tL H _ 0 λpc ic kc Q H=>?_
 let T:Int->Int->List DT->List (Nat×List AG):=λx y l=>[(ic,[.func (.func 278) #[] #[ah (ae kc)]]),(pc,[ah (ae bp)]),(kc,[aa 0]),(P,[aa y]),(b3,[aa x]),(b2,[aa o]),(b1,[aa k]),(b,[ah (ae bp)]),(bf,flat eD l++rest)]
 refine Aw.inv H (Ea (v:=0) (pc:=pc) (ic:=ic) (kc:=kc) (bp:=bp) (bf:=bf) (c:=c) (rest:=rest) K)
  (λi L'=>L'=T 0 0 ds/\ ∀(j:Nat) d,j<i->ds[j]? =some d->d.1≠0)
  (λj L'=>j= .ret/\ ∃i:Nat,jh ds=some i/\L'=T (if oY ds i (aI k o)=0 then(i:Int) else 0) (oY ds i (aI k o)) (eC ds i (aI k o))) ⟨rfl,λj d f=>absurd f (by omega)⟩ ?_ ?_ ?_ ?_ ?_ ?_
 .rintro Z i w' L' ⟨rfl, _⟩ H;exact⟨H.get (i:=1) rfl,H.get (i:=0) rfl,H.get (i:=2) rfl,H.iQ z A,H.get (i:=8) rfl⟩
 .rintro i L' hi m ⟨rfl,f⟩;have ⟨d,hd,q⟩:=CL (MI:=λd=>d.1) hi m;refine⟨rfl,λj d' C5 E=>?_⟩;by_cases e:j=i
  .subst e;rw[hd] at E;cases E;exact q
  .exact f j d' (by omega) E
 .intro i x hi m;obtain⟨d,hd,q,rfl⟩:=qN (MI:=λd=>d.1) m;exact⟨((i:Nat),()),rfl⟩
 .rintro i ⟨L,u⟩ L' hi m ⟨rfl,f⟩ r l rec D R g _ h2;have ⟨d,hd,q,S⟩:=qN (MI:=λd=>d.1) m;have U:L=((i:Nat):Int):=by
   have h:[aa L]=[aa (i:Nat)]:=S;simpa using h
  subst U;have a:=BB hd q f;refine De.go g rfl (B_.go g λwb H F=>ag.at 7 H rfl rfl (ag.at 6 H rfl rfl (ag.at 5 H rfl rfl ?_)));refine aA.tC H 8 rfl (λp H=>CK (F.2.1.gC H z A) (H.get (i:=8) rfl) J K _ k o) λp H=>ab (λc=>?_) (λc=>?_)
  .have hc: ¬ oY ds (i:Nat) (aI k o)=0:=by simpa using c
   refine aw.all 4 H rfl rfl rfl λG H=>aw.all 3 H rfl rfl rfl λM H=>tj.left F H λt I=>h2 _ _ t ⟨rfl,i,a,?_⟩ I;rw[ar hc];rfl
  .have hc:oY ds (i:Nat) (aI k o)=0:=by simpa using c
   refine aw.all 4 H rfl rfl rfl λG H=>aw.all 3 H rfl rfl rfl λM H=>tj.left F H λt I=>h2 _ _ t ⟨rfl,i,a,?_⟩ I;rw[az hc,hc];rfl
 .rintro L' r rec D ⟨rfl,f⟩ g;have a:jh ds=none:=BA λj d hd=>f j d (B1.1 hd).1 hd;refine dX.none g λp H=>aw.all 4 H rfl rfl rfl λG H=>aw.all 3 H rfl rfl rfl λM H=>tq.go H λt H=>ag.at 4 H rfl rfl (ag.at 3 H rfl rfl ⟨?_,?_,H.fr⟩)
  .unfold dV cJ;rw[a,ar h0]
  .have:cX ds k o=ds:=by unfold cX;rw[a]
   rw[this];exact H.get (i:=8) rfl
 .rintro j L' r rec D ⟨rfl,i,a,rfl⟩ g;refine dX.ret g λp H=>tq.go H λG H=>ag.at 4 H rfl rfl (ag.at 3 H rfl rfl ⟨?_,?_,H.fr⟩)
  .unfold dV cJ;rw[a,ar h0]
  .have:cX ds k o=eC ds i (aI k o):=by unfold cX;rw[a]
   rw[this];exact H.get (i:=8) rfl
theorem Qo (n:Int) (w:A2) (c:Option AE×Int×Unit->A2->Prop):(aL E0 (λ_=>[]) 58 [aa n] w c)=(
 aD (decide (n<1)||decide (n>4096)) (aH w ⟨[.slice none 0 0]⟩ 51 λb a=>ak a (c (some ⟨b,0,none⟩,1,()))) (xG w 32 4 n n ⟨[aa 0,aa 0,aa 0,aa 0]⟩ 166 λb a=>aH a {toList:=[.slice (ae b) n.toNat n.toNat]} 51 λb a=>ak a (c (some ⟨b,0,none⟩,0,())))):=by kernel_rfl
theorem Qq (p:Option AE) (f k o:Int) (w:A2) (c:Int->A2->Prop):(aL E0 (λ_=>[]) 147 [ah p,aa f,aa k,aa o] w c)=(
 ((!decide (f<0))=true->p.isSome=true)/\((!decide (f<0))=true->p.isSome=true)/\ag w (some !decide (f<0)) (ad p 0) bX λx=>aD (decide (f<0)||decide (f>=(↑x.2.1:Int))) (ak w (c 2)) (bD p 0 w λx=>(x.1.isSome=true/\0<=f/\f<(↑x.2.1:Int))/\ag w none (ad x.1 (f.toNat*4)) dh λ(x:Int×Int×Int×Int×Unit)=>True/\aH w ⟨[aa 0,aa 0,aa 0,aa 0]⟩ 166 λb a=>aw a (ae b) [aa (jN x.1 x.2.1 x.2.2.1 x.2.2.2.1 k o),aa (iR x.1 x.2.1 x.2.2.1 x.2.2.2.1 k o),aa 0,aa 0]
 λa=>aD (ff x.1 x.2.1 x.2.2.1 x.2.2.2.1 k o==0) (bD p 0 a λe=>ag a none (ae b) dh λ(d:Int×Int×Int×Int×Unit)=>(e.1.isSome=true/\0<=f/\f<(↑e.2.1:Int))/\aw a (ad e.1 (f.toNat*4)) [aa d.1,aa d.2.1,aa d.2.2.1,aa d.2.2.2.1] λa=>ak a (c (ff x.1 x.2.1 x.2.2.1 x.2.2.2.1 k o))) (ak a (c (ff x.1 x.2.1 x.2.2.1 x.2.2.2.1 k o))))):=by kernel_rfl
theorem Qr (p:Option AE) (f x:Int) (w:A2) (d:Int->A2->Prop):(aL E0 (λ_=>[]) 160 [ah p,aa f,aa x] w d)=(
 ((!decide (f<0))=true->p.isSome=true)/\((!decide (f<0))=true->p.isSome=true)/\ag w (some !decide (f<0)) (ad p 0) bX λi=>aD (decide (f<0)||decide (f>=(↑i.2.1:Int))) (ak w (d 2)) (bD p 0 w λg=>(g.1.isSome=true/\0<=f/\f<(↑g.2.1:Int))/\ag w none (ad g.1 (f.toNat*4)) dh λ(a:Int×Int×Int×Int×Unit)=>(-9223372036854775808<=x/\x<9223372036854775808)/\aH w ⟨[aa 0,aa 0,aa 0,aa 0]⟩ 166 λb c=>aw c (ae b) [aa (kh a.1 a.2.1 a.2.2.1 a.2.2.2.1 x).1,.int
 .i64 (kh a.1 a.2.1 a.2.2.1 a.2.2.2.1 x).2.1,aa (kh a.1 a.2.1 a.2.2.1 a.2.2.2.1 x).2.2.1,aa (kh a.1 a.2.1 a.2.2.1 a.2.2.2.1 x).2.2.2.1] λc=>aD (mI a.1 a.2.1 a.2.2.1 a.2.2.2.1 x==0) (bD p 0 c λh=>ag c none (ae b) dh λ(e:Int×Int×Int×Int×Unit)=>(h.1.isSome=true/\0<=f/\f<(↑h.2.1:Int))/\aw c (ad h.1 (f.toNat*4)) [aa e.1,aa e.2.1,aa e.2.2.1,aa e.2.2.2.1] λc=>ak c (d (mI a.1 a.2.1 a.2.2.1 a.2.2.2.1 x))) (ak c (d (mI
 a.1 a.2.1 a.2.2.1 a.2.2.2.1 x))))):=by kernel_rfl
theorem Qs (p:Option AE) (f:Int) (w:A2) (a:Int->A2->Prop):(aL E0 (λ_=>[]) 237 [ah p,aa f] w a)=(
 aA AC 147 aT [ah p,aa f,aa 0,aa 0] w λ(x:Int) b=>ak b (a x)):=by kernel_rfl
def uZ:Nat->aW:=(λ|2=>[(8,Go.RX.El.one (Go.RX.Sc.int Ce))]| _=>[])
theorem Qt (p:Option AE) (k o:Int) (w:A2) (a:Int×Int×Unit->A2->Prop):(aL E0 uZ 233 [ah p,aa k,aa o] w a)=(
 ∃(I:Nat->Int×Unit->A2->Prop),(∃n, ∀w1,Ext w w1->I n (0,()) w1)/\ ∀(n:Nat) (s:Int×Unit) (w1:A2),I n s w1->bD p 0 w1 λx=>aD (decide (s.1<(↑x.2.1:Int))) (bD p 0 w1 λx=>(x.1.isSome=true/\0<=s.1/\s.1<(↑x.2.1:Int))/\(ad x.1 (DC s.1*4)).isSome=true/\ag w1 none (ad (ad x.1 (DC s.1*4)) 0) aq λ(x:Int)=>aD (x==0) (aA AC 147 aT [ah p,aa s.1,aa k,aa o] w1 λ(x:Int) b=>aD (x != 0) (ak b (a (0,x,()))) (ak b (a (s.1,0,
 ())))) (∀c,Ext w1 c-> ∃(d:Nat),d<n/\I d (ay .i64 s.1 1,()) c)) (ak w1 (a (0,12,())))):=by kernel_rfl
def sg:Nat->aW:=(λ|3=>[(5,Go.RX.El.one (Go.RX.Sc.int Ce)),(6,Go.RX.El.one (Go.RX.Sc.int Ce))]| _=>[])
theorem Km (p:Option AE) (k:Int) (w:A2) (c:Int->A2->Prop):(aL E0 sg 309 [ah p,aa k] w c)=(
 ∃(I:Nat->Int×Int×Unit->A2->Prop),(∃n, ∀w1,Ext w w1->I n (0,0,()) w1)/\ ∀(n:Nat) (s:Int×Int×Unit) (w1:A2),I n s w1->bD p 0 w1 λx=>aD (decide (s.2.1<(↑x.2.1:Int))) (bD p 0 w1 λx=>(x.1.isSome=true/\0<=s.2.1/\s.2.1<(↑x.2.1:Int))/\(ad x.1 (DC s.2.1*4)).isSome=true/\ag w1 none (ad (ad x.1 (DC s.2.1*4)) 0) aq λ(x:Int)=>aD (x==k) (∀a,Ext w1 a-> ∃(b:Nat),b<n/\I b (ay .i64 s.1 1,ay .i64 s.2.1 1,()) a) (∀a,Ext w1 a-> ∃(b:Nat),b<n/\I b (s.1,ay .i64
 s.2.1 1,()) a)) (ak w1 (c s.1))):=by kernel_rfl
def si:Nat->aW:=(λ|3=>[(5,Go.RX.El.one Go.RX.Sc.slice),(6,Go.RX.El.one (Go.RX.Sc.int Ce))]| _=>[])
theorem Ko (p:Option AE) (k:Int) (w:A2) (e:Option AE×Nat×Nat->A2->Prop):(aL E0 si 143 [ah p,aa k] w e)=(
 ∃(I:Nat->(Option AE×Nat×Nat)×Int×Unit->A2->Prop),(∃n, ∀w1,Ext w w1->I n ((none,0,0),0,()) w1)/\ ∀(n:Nat) (s:(Option AE×Nat×Nat)×Int×Unit) (w1:A2),I n s w1->bD p 0 w1 λx=>aD (decide (s.2.1<(↑x.2.1:Int))) (bD p 0 w1 λx=>(x.1.isSome=true/\0<=s.2.1/\s.2.1<(↑x.2.1:Int))/\(ad x.1 (DC s.2.1*4)).isSome=true/\ag w1 none (ad (ad x.1 (DC s.2.1*4)) 1) aq λ(x:Int)=>aD (x==k) (aH w1 ⟨[aa s.2.1]⟩ 3 λb d=> ∀w1,Ext d w1->nm w1 3 1 8 ⟨[aa 0]⟩ (s.1.1,s.1.2.1,
 s.1.2.2) (some ⟨b,0,none⟩,1,1) λ(r:Option AE×Nat×Nat) d=> ∀a,Ext d a-> ∃(c:Nat),c<n/\I c ((r.1,r.2.1,r.2.2),ay .i64 s.2.1 1,()) a) (∀a,Ext w1 a-> ∃(c:Nat),c<n/\I c ((s.1.1,s.1.2.1,s.1.2.2),ay .i64 s.2.1 1,()) a)) (ak w1 (e (s.1.1,s.1.2.1,s.1.2.2)))):=by kernel_rfl
end Go.Proofs.YteeflilbnoknnaaGreat.D
