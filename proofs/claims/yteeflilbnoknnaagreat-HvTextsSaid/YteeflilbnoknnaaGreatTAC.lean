import Derived.Test.YteeflilbnoknnaaGreatTAB
/-! What the statement leans on: texts joined and shortened by a program of mine. -/
set_option linter.unusedVariables false
set_option linter.unusedSimpArgs false
open Go renaming World->A1,Value->A3,Addr->A9,MapEntry->AX,TypeId->DA
open Go.Proofs.Tryz renaming prog->A2
open Eq renaming mpr->A_
open And renaming intro->AC
open List renaming getElem?_eq_getElem->B1,replicate->B2,getElem?_eq_some_iff->B3,getD_eq_getElem?_getD->B4,sublist_cons_self->B5,length_cons->BA,length_nil->Bb,append_nil->Bg,mem_of_getElem?->Bp,getElem?_set_ne->Bq,set_set->Br,getElem?_set_self->DB,mem_cons_self->Di,mem_append_right->Dn,sublist_append_left->EE,length_set->EF,getElem?_map->EH,getElem?_of_mem->Eo,mem_cons_of_mem->Ev,ext_getElem?->Ey,mem_cons->FS,mem_append_left->GS,mem_map->Gi,length_map->H2,length_take->H4,getElem?_append_left->H7,set_append_left->H9,take_of_length_le->HB,range->HH,filter_cons->HL,mem_or_eq_of_mem_set->HO,drop_eq_nil_of_le->HP,drop_drop->HQ,getElem?_take_of_lt->HT,perm_append_comm->Ho,length_append->Hq,take_add_one->Hr,getElem?_eq_none->Ht,length_replicate->Hu,range_succ->Hz,filter_append->I1,map_append->I2,length_filter_le->I_,getElem_mem->IG,getElem?_replicate->IR,nodup_nil->Ia,cons_append->Ib,take_append_drop->Ic,take_append_of_le_length->Ih,take_length->In
open Bool renaming or_eq_false_iff->Bc,and_eq_true->Bd,or_eq_true->Bo,not_eq_true'->C7,and_eq_false_iff->Do,false_eq_true->E4,true_eq_false->E5,not_eq_false'->EA,eq_iff_iff->H5
open Nat renaming le_refl->DS,zero_add->EB,le_trans->H6,add_zero->Hb,eq_of_beq_eq_true->Hc,ne_of_beq_eq_false->Hf,min_eq_left->Ix
open Go.Instr renaming findNow->ED,sameNow->J3
open Go.IntKind renaming i64->Es
open Array renaming getElem?_eq_some_iff->Et
namespace Go.Proofs.YteeflilbnoknnaaGreat
set_option maxRecDepth 100000
open Go.RX
theorem vO {L Ls:List (Nat×List A3)} {k:Nat} {x:Nat×List A3} (h:L[k]? =some x):(L++Ls)[k]? =some x:=by
 rw[H7 (B3.1 h).1];exact h
theorem A0.len {Ls:List (Nat×List A3)} {sl:Option A9×Nat×Nat} {xs:List Int} (h:A0 Ls sl xs):sl.2.1=xs.length:=by
 rcases h with ⟨rfl,rfl,rfl⟩|⟨bs,c,rest,rfl,rfl, _, _⟩
 ·rfl
 ·rfl
theorem A0.rd {D G:List Nat} {w0 w:A1} {L Ls:List (Nat×List A3)} {sl:Option A9×Nat×Nat} {xs:List Int} (h:A0 Ls sl xs) (H:aH D G w0 w L) (b: ∀y∈Ls,y∈L) {i:Nat} {x:Int} (a:xs[i]? =some x):sl.1.isSome=true/\cI w (ae sl.1 (i*1)) (.one (.int .i64)) x:=by
 rcases h with ⟨rfl,rfl,rfl⟩|⟨bs,c,rest,rfl,rfl, _, _⟩
 ·simp at a
 ·exact⟨rfl,eC (e:=eI) (H.cX _ (b _ Di)) a⟩
section
variable {D G:List Nat} {w0 w:A1} {L:List (Nat×List A3)} {bg br c:Nat} {gs:List GT} {rest:List A3}
theorem BI {Ls:List (Nat×List A3)} {a:Nat} {x:Int} {xs:List Int} {sl:Option A9×Nat×Nat} (H:aH D G w0 w ((a,[aa x])::(L++Ls))) (f:A0 Ls sl xs) (hb:xs.length<=900000) {t:DA}
 {R:Option A9×Nat×Nat->A1->Prop} (k: ∀b d w',A0 b d (xs++[x])->aH D G w0 w' (L++b)->R d w'):
 vp w t 1 8 ⟨[aa 0]⟩ sl (some ⟨a,0,none⟩,1,1) R:=by
 refine aH.UB (e:=eI) (ys:=[x]) (ry:=[]) (Ls:=Ls) (L0:=L) (H.perm (.cons _ Ho)) (by simp) f rfl rfl rfl (by simp only[List.length_singleton];omega) λbs c rest w' g h i=>k [(bs,flat eI (xs++[x])++rest)] (some ⟨bs,0,none⟩,(xs++[x]).length,c) w' (.inr ⟨bs,c,rest,rfl,rfl,g,h⟩) (i.perm ?_);exact Ho
theorem Fu (H:aH D G w0 w L) (j s:Nat) (h:L[j]? =some (bg,jU br gs.length c)) (t:L[s]? =some (br,flat eG gs++rest)) (h0:0<gs.length) (J:gs.length<=64) {K:Option A9×Nat×Nat->A1->Prop}
 (k: ∀sl Ls a,A0 Ls sl (cq gs dw gs.length)->aH D G w0 a (L++Ls)->K sl a):
 aB A2 282 (.el (.one .slice)) [ah (ad bg),.func (.func 173) #[] #[]] w K:=by
 refine aB.go H λw1 H=>ai (C:=G3) (aM:=nH) (A_ (EZ _ w1 K) ?_);have y: ∀{w:A1} {L1:List (Nat×List A3)},aH D G w0 w (L++L1)->bh w bg (jU br gs.length c)/\bh w br (flat eG gs++rest):=λ{w L1} H=>⟨H.get (vO h),H.get (vO t)⟩;refine⟨_,kC (H.get h) h0,an rfl ⟨rfl,rfl,aj.bN j H h rfl ?_⟩⟩;refine⟨λn v w'=> ∃(m:Nat) (Ls:List (Nat×List A3)),v.2.1=(m:Int)/\n+m=gs.length/\A0 Ls v.1 (cq gs dw m)/\aH D G w0 w' (L++Ls),⟨gs.length,λa h2=>⟨0,[],rfl,rfl,.inl ⟨rfl,rfl,rfl⟩,by rw[Bg];exact H.ext h2⟩⟩,?_⟩;clear H;rintro n ⟨sl,v,u⟩ a ⟨m,Ls,e,M,f,H⟩;dsimp only at e f ⊢;subst e;refine ab (λi=>?_) (λi=>?_)
 ·have l:m<gs.length:=by simpa using i
  have p:gs[m]? =some (gs.getD m zG):=by
   rw[B4,B1 l];rfl
  have z:aC .i64 (m:Int) 1=((m+1:Nat):Int):=by rw[av (by omega) (by omega)];omega
  have g:=oA gs dw m;obtain⟨x,A⟩: ∃x,x=gs.getD m zG:=⟨_,rfl⟩;rw[<-A] at p g;rw[z];have N:=m6 gs dw m;refine⟨⟨rfl,by omega,by omega⟩,aj.of x (eC (e:=eG) (y H).2 p) (aA.go H λb q H=>aw.all 0 H rfl rfl rfl λO H=>aj.at 0 H rfl (show _=some x from rfl) ?_)⟩;refine⟨trivial,?_⟩;refine ab (λd=>aA.go H λB P H=>λr o=>?_) (λd=>λr o=>⟨n - 1,by omega,m+1,Ls,rfl,by omega,?_,?_⟩)
  ·have d:dw x=true:=d;rw[ax d] at g;have H:=H.ext o;have H:aH D G w0 r ((B,[aa (m:Int)])::(L++Ls)):=H.sub (.cons_cons _ (B5 _ _));refine BI H f (by omega) λE Q R F H=>λS I=>⟨n - 1,by omega,m+1,E,rfl,by omega,?_,H.ext I⟩;rw[g];exact F
  ·have d: ¬ dw x=true:=by
    have d:dw x=false:=d;rw[d];decide
   rw[g,ao d,Bg];exact f
  ·exact(H.sub (B5 _ _)).ext o
 ·have l:m=gs.length:=by
   have: ¬ m<gs.length:=by simpa using i
   omega
  subst l;exact ak.go H λq H=>k sl Ls q f H
theorem Fv (H:aH D G w0 w L) (j z:Nat) (h:L[j]? =some (bg,jU br gs.length c)) (A:L[z]? =some (br,flat eG gs++rest)) (h0:0<gs.length) (O:gs.length<=64) {bc:Nat} {o q t:Int} (hc:(bc,[aa o,aa q,aa t,.bool false,aa 0])∈L) {K:Option A9×Nat×Nat->A1->Prop}
 (k: ∀sl Ls a,A0 Ls sl (cq gs (gv o q t) gs.length)->aH D G w0 a (L++Ls)->K sl a):
 aB A2 282 (.el (.one .slice)) [ah (ad bg),.func (.func 296) #[] #[ah (ad bc)]] w K:=by
 refine aB.go H λw1 H=>ai (C:=G3) (aM:=nI) (A_ (E6 _ _ w1 K) ?_);have B: ∀{w:A1} {L1:List (Nat×List A3)},aH D G w0 w (L++L1)->bh w bg (jU br gs.length c)/\bh w br (flat eG gs++rest):=λ{w L1} H=>⟨H.get (vO h),H.get (vO A)⟩;refine⟨_,kC (H.get h) h0,an rfl ⟨rfl,rfl,aj.bN j H h rfl ?_⟩⟩;refine⟨λn v w'=> ∃(m:Nat) (Ls:List (Nat×List A3)),v.2.1=(m:Int)/\n+m=gs.length/\A0 Ls v.1 (cq gs (gv o q t) m)/\aH D G w0 w' (L++Ls),⟨gs.length,λa h2=>⟨0,[],rfl,rfl,.inl ⟨rfl,rfl,rfl⟩,by rw[Bg];exact H.ext h2⟩⟩,?_⟩;clear H;rintro n ⟨sl,v,u⟩ a ⟨m,Ls,e,P,f,H⟩;dsimp only at e f ⊢;subst e;refine ab (λi=>?_) (λi=>?_)
 ·have l:m<gs.length:=by simpa using i
  have r:gs[m]? =some (gs.getD m zG):=by
   rw[B4,B1 l];rfl
  have E:aC .i64 (m:Int) 1=((m+1:Nat):Int):=by rw[av (by omega) (by omega)];omega
  have g:=oA gs (gv o q t) m;obtain⟨x,F⟩: ∃x,x=gs.getD m zG:=⟨_,rfl⟩;rw[<-F] at r g;rw[E];have Q:=m6 gs (gv o q t) m;refine⟨⟨rfl,by omega,by omega⟩,aj.of x (eC (e:=eG) (B H).2 r) (aA.go H λb s H=>aw.all 0 H rfl rfl rfl λR H=>aj.at 0 H rfl (show _=some x from rfl) ?_)⟩;refine⟨_,Nt (H.cX _ (Ev _ (GS _ hc))) x,?_⟩;refine ab (λd=>aA.go H λI S H=>λy p=>?_) (λd=>λy p=>⟨n - 1,by omega,m+1,Ls,rfl,by omega,?_,?_⟩)
  ·have d:(gv o q t) x=true:=d;rw[ax d] at g;have H:=H.ext p;have H:aH D G w0 y ((I,[aa (m:Int)])::(L++Ls)):=H.sub (.cons_cons _ (B5 _ _));refine BI H f (by omega) λJ T U M H=>λV N=>⟨n - 1,by omega,m+1,J,rfl,by omega,?_,H.ext N⟩;rw[g];exact M
  ·have d: ¬ (gv o q t) x=true:=by
    have d:(gv o q t) x=false:=d;rw[d];decide
   rw[g,ao d,Bg];exact f
  ·exact(H.sub (B5 _ _)).ext p
 ·have l:m=gs.length:=by
   have: ¬ m<gs.length:=by simpa using i
   omega
  subst l;exact ak.go H λs H=>k sl Ls s f H
theorem Fw (H:aH D G w0 w L) (j t:Nat) (i:L[j]? =some (bg,jU br gs.length c)) (y:L[t]? =some (br,flat eG gs++rest)) (h0:0<gs.length) (M:gs.length<=64) {bc:Nat} {g:Int} (hc:(bc,[aa g])∈L) {K:Option A9×Nat×Nat->A1->Prop}
 (k: ∀sl Ls a,A0 Ls sl (cq gs (kj g) gs.length)->aH D G w0 a (L++Ls)->K sl a):
 aB A2 282 (.el (.one .slice)) [ah (ad bg),.func (.func 283) #[] #[ah (ad bc)]] w K:=by
 refine aB.go H λw1 H=>ai (C:=G3) (aM:=nJ) (A_ (E7 _ _ w1 K) ?_);have z: ∀{w:A1} {L1:List (Nat×List A3)},aH D G w0 w (L++L1)->bh w bg (jU br gs.length c)/\bh w br (flat eG gs++rest):=λ{w L1} H=>⟨H.get (vO i),H.get (vO y)⟩;refine⟨_,kC (H.get i) h0,an rfl ⟨rfl,rfl,aj.bN j H i rfl ?_⟩⟩;refine⟨λn v w'=> ∃(m:Nat) (Ls:List (Nat×List A3)),v.2.1=(m:Int)/\n+m=gs.length/\A0 Ls v.1 (cq gs (kj g) m)/\aH D G w0 w' (L++Ls),⟨gs.length,λa h2=>⟨0,[],rfl,rfl,.inl ⟨rfl,rfl,rfl⟩,by rw[Bg];exact H.ext h2⟩⟩,?_⟩;clear H;rintro n ⟨sl,v,u⟩ a ⟨m,Ls,e,N,f,H⟩;dsimp only at e f ⊢;subst e;refine ab (λl=>?_) (λl=>?_)
 ·have o:m<gs.length:=by simpa using l
  have q:gs[m]? =some (gs.getD m zG):=by
   rw[B4,B1 o];rfl
  have A:aC .i64 (m:Int) 1=((m+1:Nat):Int):=by rw[av (by omega) (by omega)];omega
  have h:=oA gs (kj g) m;obtain⟨x,B⟩: ∃x,x=gs.getD m zG:=⟨_,rfl⟩;rw[<-B] at q h;rw[A];have O:=m6 gs (kj g) m;refine⟨⟨rfl,by omega,by omega⟩,aj.of x (eC (e:=eG) (z H).2 q) (aA.go H λb r H=>aw.all 0 H rfl rfl rfl λP H=>aj.at 0 H rfl (show _=some x from rfl) ?_)⟩;refine⟨_,Ki (H.cX _ (Ev _ (GS _ hc))) x,?_⟩;refine ab (λd=>aA.go H λE Q H=>λs p=>?_) (λd=>λs p=>⟨n - 1,by omega,m+1,Ls,rfl,by omega,?_,?_⟩)
  ·have d:(kj g) x=true:=d;rw[ax d] at h;have H:=H.ext p;have H:aH D G w0 s ((E,[aa (m:Int)])::(L++Ls)):=H.sub (.cons_cons _ (B5 _ _));refine BI H f (by omega) λF R S I H=>λT J=>⟨n - 1,by omega,m+1,F,rfl,by omega,?_,H.ext J⟩;rw[h];exact I
  ·have d: ¬ (kj g) x=true:=by
    have d:(kj g) x=false:=d;rw[d];decide
   rw[h,ao d,Bg];exact f
  ·exact(H.sub (B5 _ _)).ext p
 ·have o:m=gs.length:=by
   have: ¬ m<gs.length:=by simpa using l
   omega
  subst o;exact ak.go H λr H=>k sl Ls r f H
theorem xY (H:aH D G w0 w L) (a:Nat) (b:L[a]? =some (br,flat eG gs++rest)) {k:Nat} {x:GT} (c:gs[k]? =some x) {f:Nat} (d:f<5) {s:Sc} {y:s.T} (e:(match (aZ sG x)[f]? with|some v=>s.proj v|none=>none)=some y):cI w (ae (some ⟨br,k*5,none⟩) f) (.one s) y:=by
 rw[aL];refine bI (H.get b) ?_;have h:=Po.DF (ss:=sG) (rest:=rest) c d;show(match (flat eG gs++rest)[k*5+f]? with|some v=>s.proj v|none=>none)=some y;have h:(flat eG gs++rest)[k*5+f]? =(aZ sG x)[f]? :=h;rw[h];exact e
theorem TO (H:aH D G w0 w L) (a:Nat) (d:L[a]? =some (br,flat eG gs++rest)) {k:Nat} {x:GT} (b:gs[k]? =some x) {f:Nat} (e:f<5) {v:A3} (hv:v.oneCell'=true) (y:GT) (g:aZ sG y=(aZ sG x).set f v) {K:A1->Prop} (kk: ∀w1,aH D G w0 w1 (L.set a (br,flat eG (gs.set k y)++rest))->K w1):aw w (ae (some ⟨br,k*5,none⟩) f) [v] K:=by
 have i:k<gs.length:=(B3.1 b).1;refine aw.dF a H d hv ?_ λw1 c=>kk w1 ?_
 ·rw[Nat.blt_eq,Hq,aN];show k*5+f<gs.length*5+rest.length;omega
 ·have h:=Po.wN (ss:=sG) (rest:=rest) (v:=v) b e g;have h:(flat eG gs++rest).set (k*5+f) v=flat eG (gs.set k y)++rest:=h;rw[h] at c;exact c
theorem RC (h:bh w bg (jU br gs.length c)) (d:bh w br (flat eG gs++rest)) (h0:0<gs.length) (i:Int):
 ar A2 218 (.bH [eG,.one .bool]) [ah (ad bg),aa i] w (λx w'=>x=(sH gs i,(jK gs i).isSome,())/\Ext w w'):=by
 refine aO (C:=G3) (aM:=λ_=>[]) (A_ (Rp _ i w _) ?_);have H:=At.start [] w;refine aA.go H λb f H=>?_;have a:=H.all;refine⟨_,Dc (h.ext a) (d.ext a) h0 i,?_⟩;unfold xW xV sH;cases g:jK gs i with
 |none=>exact ay rfl (aw.all 0 H rfl rfl rfl λj H=>ak.go H λl H=>aj.at 0 H rfl (show _=some zG from rfl) ⟨rfl,H.all⟩)
 |some k=>
  obtain⟨_, _, _,m, _⟩:=jn g;have n:cI f (some ⟨br,k*5,none⟩) eG (gs.getD k zG):=by
   have:=eC (e:=eG) (d.ext a) m;rw[aL,EB] at this;exact this
  refine an rfl ⟨rfl,aj.of _ n (aw.all 0 H rfl rfl rfl λj H=>ak.go H λl H=>aj.at 0 H rfl (show _=some (gs.getD k zG) from rfl) ⟨rfl,H.all⟩)⟩
theorem Kw (H:aH D G w0 w L) (j f:Nat) (p:L[j]? =some (bg,jU br gs.length c)) (l:L[f]? =some (br,flat eG gs++rest)) (h0:0<gs.length) (r: ∀x∈gs,0<=x.2.2.2.2.1/\x.2.2.2.2.1<=1000) (i g:Int) (b:Bool) {K:Int->A1->Prop}
 (k: ∀e,aH D G w0 e (L.set f (br,flat eG (db gs i g b)++rest))->K (fq gs i g b) e):
 aB A2 224 (.el (.one (.int .i64))) [ah (ad bg),aa i,aa g,.bool b] w K:=by
 refine aB.go H λw1 H=>ai (C:=G3) (aM:=λ_=>[]) (A_ (JL _ i g b w1 K) ?_);refine⟨_,Dc (H.get p) (H.get l) h0 i,?_⟩;have same:fq gs i g b≠0-> ∀{e},aH D G w0 e L->aH D G w0 e (L.set f (br,flat eG (db gs i g b)++rest)):=λh e H=>by
  unfold db;rw[ao h,HW l];exact H
 have a:fq gs i g b=match jK gs i with
  |none=>4
  |some k=>if((gs.getD k zG).2.2.1 != g||b&& !(gs.getD k zG).2.2.2.1)=true then 7 else if(gs.getD k zG).2.2.2.2.1=1000 then 3 else 0:=rfl
 unfold xW xV;cases n:jK gs i with
 |none=>
  rw[n] at a;dsimp only at a;rw[a] at k same;exact ay rfl (ak.go H λe H=>k e (same (by decide) H))
 |some q=>
  obtain⟨v,y,s,m, _⟩:=jn n;rw[n] at a;dsimp only at a;obtain⟨x,o⟩: ∃x,x=gs.getD q zG:=⟨_,rfl⟩;rw[<-o] at a m;refine an rfl ⟨rfl,rfl,aj.of x.2.2.1 (xY H f l m (by decide) rfl) ⟨λ_=>rfl,λ_=>rfl,aj.of x.2.2.2.1 (xY H f l m (by decide) rfl) (ab (λd=>ak.go H λe H=>?_) (λd=>?_))⟩⟩
  ·rw[ax d] at a;rw[a] at k same;exact k e (same (by decide) H)
  ·rw[ao (by rw[d];decide)] at a;refine⟨rfl,rfl,aj.of x.2.2.2.2.1 (xY H f l m (by decide) rfl) (ab (λd2=>ak.go H λe H=>?_) (λd2=>?_))⟩
   ·rw[ax (by simpa using d2)] at a;rw[a] at k same;exact k e (same (by decide) H)
   ·rw[ao (by simpa using d2)] at a;have hb:=r x (Bp m);refine⟨rfl,rfl,aj.of x.2.2.2.2.1 (xY H f l m (by decide) rfl) ⟨rfl,rfl,?_⟩⟩;rw[av (by omega) (by omega)];refine TO H f l m (by decide) rfl (eo x 1) rfl λe H=>ak.go H λt H=>?_;have u:db gs i g b=gs.set q (eo x 1):=by
     unfold db;rw[ax a, <-s, <-o]
    rw[a,u] at k;exact k t H
end
section
variable {D G:List Nat} {w0 w:A1} {L:List (Nat×List A3)} {bg br c:Nat} {gs:List GT} {rest:List A3}
theorem Ky (H:aH D G w0 w L) (j e:Nat) (o:L[j]? =some (bg,jU br gs.length c)) (f:L[e]? =some (br,flat eG gs++rest)) (h0:0<gs.length) (p: ∀x∈gs,0<=x.2.2.2.2.1/\x.2.2.2.2.1<=1000) (i g:Int) {K:Int->A1->Prop}
 (k: ∀b,aH D G w0 b (L.set e (br,flat eG (dK gs i g)++rest))->K (j_ gs i g) b):
 aB A2 225 (.el (.one (.int .i64))) [ah (ad bg),aa i,aa g] w K:=by
 refine aB.go H λw1 H=>ai (C:=G3) (aM:=λ_=>[]) (A_ (JM _ i g w1 K) ?_);refine⟨_,Dc (H.get o) (H.get f) h0 i,?_⟩;have same:j_ gs i g≠0-> ∀{b},aH D G w0 b L->aH D G w0 b (L.set e (br,flat eG (dK gs i g)++rest)):=λh b H=>by
  unfold dK;rw[ao h,HW f];exact H
 have a:j_ gs i g=match jK gs i with
  |none=>4
  |some k=>if(gs.getD k zG).2.2.1≠g then 7 else if(gs.getD k zG).2.2.2.2.1=0 then 6 else 0:=rfl
 unfold xW xV;cases m:jK gs i with
 |none=>
  rw[m] at a;dsimp only at a;rw[a] at k same;exact ay rfl (ak.go H λb H=>k b (same (by decide) H))
 |some q=>
  obtain⟨u,v,r,l, _⟩:=jn m;rw[m] at a;dsimp only at a;obtain⟨x,n⟩: ∃x,x=gs.getD q zG:=⟨_,rfl⟩;rw[<-n] at a l;refine an rfl ⟨rfl,rfl,aj.of x.2.2.1 (xY H e f l (by decide) rfl) (ab (λd=>ak.go H λb H=>?_) (λd=>?_))⟩
  ·rw[ax (by simpa using d)] at a;rw[a] at k same;exact k b (same (by decide) H)
  ·rw[ao (by simpa using d)] at a;refine⟨rfl,rfl,aj.of x.2.2.2.2.1 (xY H e f l (by decide) rfl) (ab (λd2=>ak.go H λb H=>?_) (λd2=>?_))⟩
   ·rw[ax (by simpa using d2)] at a;rw[a] at k same;exact k b (same (by decide) H)
   ·rw[ao (by simpa using d2)] at a;have hb:=p x (Bp l);refine⟨rfl,rfl,aj.of x.2.2.2.2.1 (xY H e f l (by decide) rfl) ⟨rfl,rfl,?_⟩⟩;rw[bU (by omega) (by omega)];refine TO H e f l (by decide) rfl (eo x (-1)) rfl λb H=>ak.go H λs H=>?_;have t:dK gs i g=gs.set q (eo x (-1)):=by
     unfold dK;rw[ax a, <-r, <-n]
    rw[a,t] at k;exact k s H
theorem Ck (H:aH D G w0 w L) (j f:Nat) (n:L[j]? =some (bg,jU br gs.length c)) (g:L[f]? =some (br,flat eG gs++rest)) (h0:0<gs.length) (i o:Int) {K:Int->A1->Prop}
 (k: ∀b,aH D G w0 b (L.set f (br,flat eG (ji gs i o)++rest))->K (nE gs i o) b):
 aB A2 227 (.el (.one (.int .i64))) [ah (ad bg),aa i,aa o] w K:=by
 refine aB.go H λw1 H=>ai (C:=G3) (aM:=λ_=>[]) (A_ (Cb _ i o w1 K) ?_);refine⟨_,Dc (H.get n) (H.get g) h0 i,?_⟩;have same:nE gs i o≠0-> ∀{b},aH D G w0 b L->aH D G w0 b (L.set f (br,flat eG (ji gs i o)++rest)):=λh b H=>by
  unfold ji;rw[ao h,HW g];exact H
 have a:nE gs i o=match jK gs i with
  |none=>4
  |some k=>if(gs.getD k zG).1≠o then 7 else if(gs.getD k zG).2.2.2.2.1>0 then 9 else 0:=rfl
 unfold xW xV;cases m:jK gs i with
 |none=>
  rw[m] at a;dsimp only at a;rw[a] at k same;exact ay rfl (ak.go H λb H=>k b (same (by decide) H))
 |some q=>
  obtain⟨y,z,p,l, _⟩:=jn m;rw[m] at a;dsimp only at a;obtain⟨x,r⟩: ∃x,x=gs.getD q zG:=⟨_,rfl⟩;rw[<-r] at a l;refine an rfl ⟨rfl,rfl,aj.of x.1 (xY H f g l (by decide) rfl) (ab (λd=>ak.go H λb H=>?_) (λd=>?_))⟩
  ·rw[ax (by simpa using d)] at a;rw[a] at k same;exact k b (same (by decide) H)
  ·rw[ao (by simpa using d)] at a;refine⟨rfl,rfl,aj.of x.2.2.2.2.1 (xY H f g l (by decide) rfl) (ab (λd2=>ak.go H λb H=>?_) (λd2=>?_))⟩
   ·rw[ax (by simpa using d2)] at a;rw[a] at k same;exact k b (same (by decide) H)
   ·rw[ao (by simpa using d2)] at a;refine⟨rfl,?_⟩;have s:q<gs.length:=(B3.1 l).1;have t:(some (⟨br,q*5,none⟩:A9))=ae (ad br) (q*5):=by rw[aL,EB]
    show aw w1 (some (⟨br,q*5,none⟩:A9)) _ _;rw[t];refine aw.flat (e:=eG) f H zG g rfl rfl s λb H=>ak.go H λu H=>?_;have v:ji gs i o=gs.set q zG:=by
     unfold ji;rw[ax a, <-p]
    rw[a,v] at k;exact k u H
theorem Fx (H:aH D G w0 w L) (j m:Nat) (s:L[j]? =some (bg,jU br gs.length c)) (p:L[m]? =some (br,flat eG gs++rest)) (h0:0<gs.length) (M:gs.length<=64) (o q t:Int) (b:Bool) {K:Int×Int×Unit->A1->Prop}
 (k: ∀f,aH D G w0 f (L.set m (br,flat eG (il gs o q t b)++rest))->K (iJ gs o q t,jj gs o q t,()) f):
 aB A2 223 (.bH [.one (.int .i64),.one (.int .i64)]) [ah (ad bg),aa o,aa q,aa t,.bool b] w K:=by
 refine aB.go H λw1 H=>ai (C:=G3) (aM:=λ_=>[]) (A_ (E8 _ o q t b w1 K) ?_);have same:jj gs o q t≠0-> ∀{f},aH D G w0 f L->aH D G w0 f (L.set m (br,flat eG (il gs o q t b)++rest)):=λh f H=>by
  unfold il;rw[ao h,HW p];exact H
 have v:jj gs o q t≠0->iJ gs o q t=0:=λh=>ao h;refine⟨_,kC (H.get s) h0,an rfl ⟨trivial,λ_=>trivial,ab (λd=>ak.go H λf H=>?_) (λd=>?_)⟩⟩
 ·have a:jj gs o q t=1:=ax d;rw[v (by rw[a];decide),a] at k;rw[a] at same;exact k f (same (by decide) H)
 have a:jj gs o q t=if cq gs (gv o q t) gs.length≠[] then 5 else if cq gs dw gs.length=[] then 3 else 0:=ao (by rw[d];decide);refine aA.go H λbc f H=>aw.all 0 H rfl rfl rfl λw3 H=>Fv H (j+1) (m+1) s p h0 M (bc:=bc) (Di) λsl Ls P n H=>?_;obtain⟨A,B,Q⟩:=sl;have E:B=(cq gs (gv o q t) gs.length).length:=n.len;subst E;have H:aH D G w0 P ((bc,[aa o,aa q,aa t,.bool false,aa 0])::L):=H.sub (EE _ Ls);refine ab (λd1=>ak.go H λF H=>?_) (λd1=>?_)
 ·have d1:cq gs (gv o q t) gs.length≠[]:=by
   intro e;rw[e] at d1;simp at d1
  rw[ax d1] at a;rw[v (by rw[a];decide),a] at k;rw[a] at same;exact k F (same (by decide) (H.sub (B5 _ _)))
 have d1: ¬ cq gs (gv o q t) gs.length≠[]:=by
  intro e;have:=List.length_pos_iff.2 e;rw[decide_eq_false_iff_not] at d1;have d1: ¬ (((cq gs (gv o q t) gs.length).length:Nat):Int)>0:=d1;omega
 rw[ao d1] at a;refine Fu H (j+1) (m+1) s p h0 M λsl Ls F n H=>?_;obtain⟨A,B,Q⟩:=sl;have E:B=(cq gs dw gs.length).length:=n.len;subst E;have H:aH D G w0 F ((bc,[aa o,aa q,aa t,.bool false,aa 0])::(L++Ls)):=H;refine ab (λd2=>ak.go H λI H=>?_) (λd2=>?_)
 ·have d2:cq gs dw gs.length=[]:=by
   have:(cq gs dw gs.length).length=0:=by simpa using d2
   exact List.length_eq_zero_iff.1 this
  rw[ax d2] at a;rw[v (by rw[a];decide),a] at k;rw[a] at same;exact k I (same (by decide) (H.sub ((EE L Ls).trans (B5 _ _))))
 have d2: ¬ cq gs dw gs.length=[]:=by
  intro e;rw[e] at d2;simp at d2
 rw[ao d2] at a;have R:il gs o q t b=gs.set (iJ gs o q t).toNat (o,q,t,b,0,()):=ax a;have S:iJ gs o q t=(cq gs dw gs.length).headD 0:=ax a;rw[R,a] at k;obtain⟨z,l,u⟩: ∃z l,cq gs dw gs.length=z::l:=List.exists_cons_of_ne_nil d2;have T:iJ gs o q t=z:=by rw[S,u];rfl
 rw[T] at k;obtain⟨r,U, _,V⟩:=m5.1 (by rw[u];exact Di:z∈cq gs dw gs.length);subst V;rw[u] at n;have N:(cq gs dw gs.length).length=l.length+1:=by rw[u];rfl
 have O: ∀{w:A1} {g:Nat×List A3},aH D G w0 w (g::(L++Ls))->A.isSome=true/\cI w (ae A 0) (.one (.int .i64)) (r:Int):=λ{w g} H=>by
  have h:=n.rd H (λy J=>Ev _ (Dn _ J)) (i:=0) (x:=(r:Int)) rfl;exact⟨h.1,h.2⟩
 have W:(L++Ls)[j]? =some (bg,jU br gs.length c):=vO s;have X:(L++Ls)[m]? =some (br,flat eG gs++rest):=vO p;refine⟨rfl,aw.dF 0 H rfl rfl rfl λI H=>?_⟩;have H:aH D G w0 I ((bc,[aa o,aa q,aa t,.bool b,aa 0])::(L++Ls)):=H;refine⟨rfl,rfl,aj.bN (j+1) H W rfl ⟨⟨(O H).1,by decide,by show(0:Int)<(((cq gs dw gs.length).length:Nat):Int);rw[N];omega⟩,aj.of _ (O H).2 (aj.at 0 H rfl (show _=some (o,q,t,b,0,()) from rfl) ⟨⟨rfl,by omega,by show(r:Int)<((gs.length:Nat):Int);omega⟩,?_⟩)⟩⟩;refine aw.flat (e:=eG) (m+1) H (o,q,t,b,0,()) X rfl rfl U λY H=>?_;have H:aH D G w0 Y ((bc,[aa o,aa q,aa t,.bool b,aa 0])::((L++Ls).set m (br,flat eG (gs.set r (o,q,t,b,0,()))++rest))):=H;rw[H9 _ _ (B3.1 p).1] at H;have h:=n.rd H (λy J=>Ev _ (Dn _ J)) (i:=0) (x:=(r:Int)) rfl;refine⟨⟨h.1,by decide,by show(0:Int)<(((cq gs dw gs.length).length:Nat):Int);rw[N];omega⟩,aj.of _ h.2 (ak.go H λZ H=>k Z (H.sub ((EE _ Ls).trans (B5 _ _))))⟩
theorem Kz (H:aH D G w0 w L) (j b:Nat) (B:L[j]? =some (bg,jU br gs.length c)) (q:L[b]? =some (br,flat eG gs++rest)) (h0:0<gs.length) (E:gs.length<=64) (T:j≠b) (g:Int) {K:Int->A1->Prop}
 (k: ∀n r,aH D G w0 r (L.set b (br,flat eG (cr gs g)++rest))->K n r):
 aB A2 208 (.el (.one (.int .i64))) [ah (ad bg),aa g] w K:=by
 refine aB.go H λw1 H=>ai (C:=G3) (aM:=p8) (A_ (JN _ g w1 K) ?_);refine aA.go H λbc r H=>Fw H (j+1) (b+1) B q h0 E (bc:=bc) (Di) λsl Ls F s H=>?_;have H:aH D G w0 F ((bc,[aa g])::(L++Ls)):=H;have H:aH D G w0 F (L++Ls):=H.sub (B5 _ _);obtain⟨sp,U,sc⟩:=sl;have V:U=(cq gs (kj g) gs.length).length:=s.len;subst V;obtain⟨l,f⟩: ∃l,l=cq gs (kj g) gs.length:=⟨_,rfl⟩;have P2:l.length<=64:=by rw[f];exact H6 (m6 _ _ _) E
 have I: ∀z∈l, ∃i:Nat,i<gs.length/\kj g (gs.getD i zG)=true/\z=(i:Int):=λz J=>by rw[f] at J;exact m5.1 J
 have W: ∀i:Nat,i<gs.length->kj g (gs.getD i zG)=true->(i:Int)∈l:=λi t h2=>by rw[f];exact m5.2 ⟨i,t,h2,rfl⟩
 rw[<-f] at s ⊢;clear f;have Y:=(B3.1 q).1;have M: ∀X:Nat×List A3,((L++Ls).set b X)=L.set b X++Ls:=λX=>H9 _ _ Y;refine⟨λn v w'=> ∃(m:Nat) (a:List GT),v.1=(m:Int)/\n+m=l.length/\a.length=gs.length/\(∀i:Nat,i<gs.length->a.getD i zG=if(i:Int)∈l.take m then zG else gs.getD i zG)/\aH D G w0 w' ((L++Ls).set b (br,flat eG a++rest)),⟨l.length,λZ h4=>⟨0,gs,rfl,rfl,rfl,λi hi=>by simp,by rw[HW (vO q)];exact H.ext h4⟩⟩,?_⟩;clear H;rintro n ⟨v,u⟩ Z ⟨m,a,e,hn,N,x,H⟩;dsimp only at e ⊢;subst e;refine ab (λA=>?_) (λA=>ak.go H λO H=>k _ O ?_)
 ·have P:m<l.length:=by simpa using A
  have o:=B1 P;obtain⟨z,Z6⟩: ∃z,z=l[m]:=⟨_,rfl⟩;rw[<-Z6] at o;obtain⟨d,z1,z2,rfl⟩:=I z (Bp o);have iX:l.take (m+1)=l.take m++[(d:Int)]:=by rw[Hr,o];rfl
  have Q:=s.rd H (λy hy=>by rw[M];exact Dn _ hy) o;have Z7:((L++Ls).set b (br,flat eG a++rest))[j]? =some (bg,jU br a.length c):=by
   rw[N,Bq (λe=>T e.symm)];exact vO B
  have Z8:((L++Ls).set b (br,flat eG a++rest))[b]? =some (br,flat eG a++rest):=by
   rw[DB (by rw[Hq];omega)]
  refine⟨⟨Q.1,by omega,by omega⟩,aj.of _ Q.2 ⟨rfl,rfl,aj.bN j H Z7 rfl ⟨⟨rfl,by omega,by show(d:Int)<((a.length:Nat):Int);omega⟩,?_⟩⟩⟩;refine aw.flat (e:=eG) b H zG Z8 rfl rfl (by omega:d<a.length) λO H=>λw6 R=>⟨n - 1,by omega,m+1,a.set d zG,by rw[av (by omega) (by omega)];omega,by omega,by rw[EF];exact N,λi hi=>?_,?_⟩
  ·rw[iX];by_cases S:i=d
   ·subst S;rw[ax (by simp)];rw[B4,DB (by omega)];rfl
   ·have:(a.set d zG).getD i zG=a.getD i zG:=by
     rw[B4,Bq (λe=>S e.symm), <-B4]
    rw[this,x i hi];by_cases p:(i:Int)∈l.take m
    ·rw[ax p,ax (GS _ p)]
    ·rw[ao p,ao (λh=>?_)];rcases List.mem_append.1 h with h|h
     ·exact p h
     ·have:(i:Int)=d:=by simpa using h
      omega
  ·rw[Br] at H;exact H.ext R
 ·have P: ¬ m<l.length:=by simpa using A
  rw[HB (by omega)] at x;have e:a=cr gs g:=Ey λi=>by
   unfold cr;rw[EH];by_cases hi:i<gs.length
   ·have t:=x i hi;have h2:a[i]? =some (a.getD i zG):=by rw[B4,B1 (by omega)];rfl
    have h3:gs[i]? =some (gs.getD i zG):=by rw[B4,B1 hi];rfl
    rw[h2,h3,t];show _=some (if kj g (gs.getD i zG)=true then zG else gs.getD i zG);by_cases c:kj g (gs.getD i zG)=true
    ·rw[ax c,ax (W i hi c)]
    ·rw[ao c,ao (λh=>?_)];obtain⟨i', _,h5,R⟩:=I _ h;have:i'=i:=by omega
     subst this;exact c h5
   ·rw[Ht (by omega),Ht (by omega)];rfl
  subst e;rw[M] at H;exact H.sub (EE _ _)
theorem Nx (H:aH D G w0 w L) (n:Nat) (g:1<=n/\n<=64) {K:Option A9×Int×Unit->A1->Prop}
 (k: ∀bg br a,aH D G w0 a ((bg,jU br (B2 n zG).length n)::(br,flat eG (B2 n zG)++[])::L)->K (some ⟨bg,0,none⟩,0,()) a):
 aB A2 55 (.bH [.one .ptr,.one (.int .i64)]) [aa (n:Int)] w K:=by
 refine aB.go H λw1 H=>ai (C:=G3) (aM:=λ_=>[]) (A_ (Nc _ w1 K) ?_);refine an (by rw[Bc,decide_eq_false_iff_not,decide_eq_false_iff_not];omega) ?_;refine Hp.go H rfl (by omega) (Int.le_refl _) (by omega) (by omega) λb a H=>aA.go H λc h H=>ak.go H λd H=>?_;have e:(B2 ((n:Nat):Int).toNat [aa 0,aa 0,aa 0,.bool false,aa 0]).flatten=flat eG (B2 n zG)++[]:=by
  rw[Bg,Int.toNat_natCast,jv];rfl
 rw[e] at H;have f:(B2 n zG).length=n:=Hu;refine k c b d ?_;rw[f];exact H
end
end Go.Proofs.YteeflilbnoknnaaGreat
namespace Go.Proofs.YteeflilbnoknnaaGreat.Po
set_option maxRecDepth 100000
open Go.RX
def gp (ps:List PT) (g i:Int):PT:=ps.getD (ix g i) zP
def du (room:Int) (ps:List PT) (g:Int) (x:PT):(Int×Int)×List PT:=if bR room ps g= -1 then((0,3),ps) else((bR room ps g,0),ps.set (ix g (bR room ps g)) x)
def gH (room:Int) (ps:List PT) (g r:Int):(Int×Int)×List PT:=if nn g r=0 then du room ps g (1,r,0,false,false,()) else((0,nn g r),ps)
def f_ (room:Int) (ps:List PT) (g r i:Int):(Int×Int)×List PT:=
 if nn g r=0 then
  match lM room ps r i with
  |none=>((0,4),ps)
  |some k=>
   if(ps.getD k zP).1=2 then((0,6),ps) else if(ps.getD k zP).2.1≠g then((0,7),ps) else
    if bR room ps g= -1 then((0,3),ps) else
     ((bR room ps g,0),(ps.set (ix g (bR room ps g)) (2,r,i,false,false,())).set k (2,(ps.getD k zP).2.1,bR room ps g,(ps.getD k zP).2.2.2))
 else((0,nn g r),ps)
def jk (room:Int) (ps:List PT) (g i:Int):Int×List PT:=
 match lM room ps g i with
 |none=>(4,ps)
 |some k=>if(ps.getD k zP).1=2 then
   let y:=gp ps (ps.getD k zP).2.1 (ps.getD k zP).2.2.1
   (0,ps.set (ix (ps.getD k zP).2.1 (ps.getD k zP).2.2.1) (y.1,y.2.1,y.2.2.1,true,y.2.2.2.2))
  else(6,ps)
def ph (ps:List PT) (g:Int) (i:Nat):Bool:=gI g&&((gp ps g i).2.2.2.1&& !(gp ps g i).2.2.2.2.1)
def mb (room:Int) (ps:List PT) (g:Int):List Int:=((HH room.toNat).filter (ph ps g)).map λi=>((i:Nat):Int)
def fN (room:Int) (ps:List PT) (g:Int):(Int×Bool)×List PT:=
 match mb room ps g with
 |[]=>((0,false),ps)
 |i:: _=>((i,true),ps.set (ix g i) ((gp ps g i).1,(gp ps g i).2.1,(gp ps g i).2.2.1,false,(gp ps g i).2.2.2.2))
def dL (room:Int) (ps:List PT) (g i:Int):Int×List PT:=
 match lM room ps g i with
 |none=>(4,ps)
 |some k=>if(ps.getD k zP).1=2 then
   let y:=gp ps (ps.getD k zP).2.1 (ps.getD k zP).2.2.1
   (0,(ps.set (ix (ps.getD k zP).2.1 (ps.getD k zP).2.2.1) (1,y.2.1,0,y.2.2.2)).set k zP)
  else(0,ps.set k zP)
def gf (room:Int) (ps:List PT) (g:Int):Nat->Int×List PT
 |0=>(0,ps)
 |i+1=>((gf room ps g i).1+(if(dL room (gf room ps g i).2 g i).1=0 then 1 else 0),(dL room (gf room ps g i).2 g i).2)
def me (room g:Int) (s:Int×List PT) (k i:Int):Int×List PT:=
 match lM room s.2 k i with
 |none=>s
 |some x=>if(s.2.getD x zP).2.1=g then(s.1+1,s.2.set x zP) else s
def kr (room g:Int) (s:Int×List PT) (k:Int):Nat->Int×List PT
 |0=>s
 |i+1=>me room g (kr room g s k i) k i
def im (room g:Int) (s:Int×List PT):Nat->Int×List PT
 |0=>s
 |k+1=>kr room g (im room g s k) ((k:Int)+1) room.toNat
def bY (room:Int) (ps:List PT) (g:Int):Int×List PT:=if gI g then im room g (gf room ps g room.toNat) 16 else(0,ps)
structure iY (room:Int) (ps:List PT):Prop extends okS room ps where
 inv: ∀g i,lW room g i=true->gp ps g i=zP\/((gp ps g i).1=1/\(1<=(gp ps g i).2.1/\(gp ps g i).2.1<=16)/\(gp ps g i).2.1≠g/\(gp ps g i).2.2.1=0)\/
  ((gp ps g i).1=2/\(gp ps g i).2.1≠g/\lW room (gp ps g i).2.1 (gp ps g i).2.2.1=true/\(gp ps (gp ps g i).2.1 (gp ps g i).2.2.1).1=2/\(gp ps (gp ps g i).2.1 (gp ps g i).2.2.1).2.1=g/\(gp ps (gp ps g i).2.1 (gp ps g i).2.2.1).2.2.1=i)
theorem vV {ps:List PT} {k:Nat} (h:k<ps.length) (x:PT):(ps.set k x).getD k zP=x:=by simp[B4,h]
theorem mG {ps:List PT} {k j:Nat} (h:k≠j) (x:PT):(ps.set k x).getD j zP=ps.getD j zP:=by simp[B4,Bq h]
theorem gK {room:Int} {ps:List PT} (b:okS room ps) {g i g' a:Int} (h:lW room g i=true) (h':lW room g' a=true) (x:PT):gp (ps.set (ix g i) x) g' a=if g'=g/\a=i then x else gp ps g' a:=by
 unfold gp;by_cases e:g'=g/\a=i
 ·rw[ax e,e.1,e.2];exact vV (by rw[b.len];exact lD h b.hi) x
 ·rw[ao e];exact mG (λc=>e (by have:=IW h h' b.hi c;exact⟨this.1.symm,this.2.symm⟩)) x
theorem og {room:Int} {ps:List PT} {g i:Int} (h:lW room g i=true):lM room ps g i=if gp ps g i=zP then none else some (ix g i):=by
 unfold lM gp;by_cases e:ps.getD (ix g i) zP=zP
 ·rw[ao (λc=>c.2 e),ax e]
 ·rw[ax ⟨h,e⟩,ao e]
theorem mR {g r:Int}:nn g r=0<->gI g=true/\gI r=true/\g≠r:=by
 unfold nn;cases gI g<;>cases gI r<;>by_cases e:g=r<;>simp[e]
section
variable {D G:List Nat} {w0 w:A1} {L:List (Nat×List A3)} {bp:Nat} {room:Int} {ps:List PT}
theorem Bn (H:aH D G w0 w L) (j:Nat) (a:L[j]? =some (bp,fm room ps)) (b:okS room ps) (g i:Int) {r:Option Nat} (c:lM room ps g i=r):ag A2 176 [ah (ad bp),aa g,aa i] w (ah (r.map λk=>⟨bp,k*5,none⟩)):=by
 subst c;exact ag.of (s:= .el (.one .ptr)) λw' h'=>wq ((H.get a).ext h') b g i
theorem Pg (H:aH D G w0 w L) (j:Nat) (a:L[j]? =some (bp,fm room ps)) (b:okS room ps) (g i:Int):ag A2 299 [ah (ad bp),aa g,aa i] w (aa (nn g i)):=
 ag.of (s:= .el (.one (.int .i64))) λw' h'=>RB ((H.get a).ext h') b g i
theorem IX (H:aH D G w0 w L) (j:Nat) (a:L[j]? =some (bp,fm room ps)) (b:okS room ps):ag A2 301 [ah (ad bp)] w (aa 4):=
 ag.of (s:= .el (.one (.int .i64))) λw' h'=>Nw ((H.get a).ext h') b
theorem Ny (H:aH D G w0 w L) (j:Nat) (a:L[j]? =some (bp,fm room ps)) (b:okS room ps):ag A2 174 [ah (ad bp)] w (.bool true):=
 ag.of (s:= .el (.one .bool)) λw' h'=>kD ((H.get a).ext h') b
theorem gN {j:Nat} {x y:Nat×List A3} (h:L[j]? =some x):(L.set j y)[j]? =some y:=by rw[DB (B3.1 h).1]
theorem IY (H:aH D G w0 w L) (j:Nat) (l:L[j]? =some (bp,fm room ps)) (n:okS room ps) (g:Int) (y:gI g=true) (x:PT) {K:Int×Int×Unit->A1->Prop}
 (k: ∀o,aH D G w0 o (L.set j (bp,fm room (du room ps g x).2))->K ((du room ps g x).1.1,(du room ps g x).1.2,()) o):
 aB A2 300 (.bH [.one (.int .i64),.one (.int .i64)]) [ah (ad bp),aa g,.agg ⟨aZ sQ x⟩] w K:=by
 obtain⟨a,d,f,h,i,p⟩:=x;refine aB.go H λw1 H=>ai (C:=R1) (aM:=λ_=>[]) (A_ (RA _ g a d f h i w1 K) ?_);have z:=n.hi;refine aA.go H λb o H=>?_;have t:((b,aZ sQ (a,d,f,h,i,()))::L)[j+1]? =some (bp,fm room ps):=l;refine⟨bR room ps g,ag.of (s:= .el (.one (.int .i64))) λw' h'=>Kv ((H.get t).ext h') n g,ab (λc=>?_) (λc=>?_)⟩
 ·have e:bR room ps g= -1:=by simpa using c
  have q:du room ps g (a,d,f,h,i,p)=((0,3),ps):=ax e;rw[q] at k;refine ak.go H λr H=>k r ?_;have A:L.set j (bp,fm room ps)=L:=Ey λm=>by
   by_cases u:j=m
   ·subst u;rw[gN l,l]
   ·rw[Bq u]
  show aH D G w0 r (L.set j (bp,fm room ps));rw[A];exact H.sub (B5 _ _)
 ·have e:bR room ps g≠ -1:=by simpa using c
  have q:du room ps g (a,d,f,h,i,p)=((bR room ps g,0),ps.set (ix g (bR room ps g)) (a,d,f,h,i,p)):=ao e;rw[q] at k;have v:=(kE y e).1;have J:=cf.1 v;have B:=lD v z;have es:bK .i64 g 1=g - 1:=bU (by omega) (by omega);rw[es];have E:ae (ae (ae (ad bp) 0) ((g - 1).toNat*160)) ((bR room ps g).toNat*5)=ae (ad bp) (ix g (bR room ps g)*aK eQ):=by
   rw[aL,aL,aL,aL];unfold ix;congr 2;show _=0+ _*5;omega
  have F:ae (ae (ad bp) 0) ((g - 1).toNat*160)=some ⟨bp,0+0+(g - 1).toNat*160,none⟩:=by rw[aL,aL]
  rw[E,F];refine aj.at 0 H rfl (x:=(a,d,f,h,i,())) rfl ⟨rfl,rfl,⟨rfl,by omega,by omega⟩,⟨rfl,by omega,by omega⟩,?_⟩;refine aw.flat (j+1) H (a,d,f,h,i,()) t rfl rfl (by rw[n.len];exact B) λr H=>ak.go H λI H=>k I ?_;exact H.sub (B5 _ _)
theorem jo {j:Nat} {x:Nat×List A3} (h:L[j]? =some x):L.set j x=L:=Ey λm=>by
 by_cases a:j=m
 ·subst a;rw[gN h,h]
 ·rw[Bq a]
theorem KA (H:aH D G w0 w L) (j:Nat) (a:L[j]? =some (bp,fm room ps)) (h:okS room ps) (g r:Int) {K:Int×Int×Unit->A1->Prop}
 (k: ∀b,aH D G w0 b (L.set j (bp,fm room (gH room ps g r).2))->K ((gH room ps g r).1.1,(gH room ps g r).1.2,()) b):
 aB A2 228 (.bH [.one (.int .i64),.one (.int .i64)]) [ah (ad bp),aa g,aa r] w K:=by
 refine aB.go H λw1 H=>ai (C:=R1) (aM:=λ_=>[]) (A_ (Ko _ g r w1 K) ?_);refine⟨_,Pg H j a h g r,ab (λc=>?_) (λc=>?_)⟩
 ·have e: ¬ nn g r=0:=by simpa using c
  have d:gH room ps g r=((0,nn g r),ps):=ao e;rw[d] at k;refine ak.go H λf H=>k f ?_;rw[jo a];exact H
 ·have e:nn g r=0:=by simpa using c
  have d:gH room ps g r=du room ps g (1,r,0,false,false,()):=ax e;rw[d] at k;exact IY H j a h g (mR.1 e).1 (1,r,0,false,false,()) λb H=>ak.go H λf H=>k f H
theorem KB (H:aH D G w0 w L) (j:Nat) (a:L[j]? =some (bp,fm room ps)) (b:okS room ps) (g r i:Int) {K:Int×Int×Unit->A1->Prop}
 (k: ∀m,aH D G w0 m (L.set j (bp,fm room (f_ room ps g r i).2))->K ((f_ room ps g r i).1.1,(f_ room ps g r i).1.2,()) m):
 aB A2 229 (.bH [.one (.int .i64),.one (.int .i64)]) [ah (ad bp),aa g,aa r,aa i] w K:=by
 refine aB.go H λw1 H=>ai (C:=R1) (aM:=λ_=>[]) (A_ (Kp _ g r i w1 K) ?_);have f: ∀v:Int×Int,f_ room ps g r i=(v,ps)->ak w1 λw1=>K (v.1,v.2,()) w1:=λv e=>by
  rw[e] at k;refine ak.go H λh H=>k h ?_;rw[jo a];exact H
 refine⟨_,Pg H j a b g r,ab (λc=>?_) (λc=>?_)⟩
 ·have e: ¬ nn g r=0:=by simpa using c
  exact f (0,nn g r) (ao e)
 have e:nn g r=0:=by simpa using c
 obtain⟨t,M,F⟩:=mR.1 e;have hb:f_ room ps g r i= _:=ax e;refine⟨_,Bn H j a b r i rfl,?_⟩;cases n:lM room ps r i with
 |none=>
  rw[n] at hb;exact ay rfl (f (0,4) hb)
 |some kk=>
  rw[n] at hb;obtain⟨u,y,N⟩:=dU n;have o:kk<512:=by rw[y];exact lD u b.hi
  have z:=b.get o;refine an rfl ⟨rfl,rfl,aj.bN j H a (vF z (by decide) rfl) (ab (λl=>?_) (λl=>?_))⟩
  ·exact f (0,6) (hb.trans (ax (by simpa using l)))
  refine⟨rfl,rfl,aj.bN j H a (vF z (by decide) rfl) (ab (λp=>?_) (λp=>?_))⟩
  ·exact f (0,7) (hb.trans ((ao (by simpa using l)).trans (ax (by simpa using p))))
  have A:=hb.trans ((ao (by simpa using l)).trans (ao (by simpa using p)));refine IY H j a b g t (2,r,i,false,false,()) λm H=>?_;by_cases d:bR room ps g= -1
  ·have q:du room ps g (2,r,i,false,false,())=((0,3),ps):=ax d;rw[q] at H ⊢;have s:f_ room ps g r i=((0,3),ps):=A.trans (ax d);rw[s] at k;exact an rfl (ak.go H λh H=>k h H)
  ·have q:du room ps g (2,r,i,false,false,())=((bR room ps g,0),ps.set (ix g (bR room ps g)) (2,r,i,false,false,())):=ao d;rw[q] at H ⊢;have I:ix g (bR room ps g)≠kk:=λB=>by
    rw[y] at B;exact F (IW (kE t d).1 u b.hi B).1
   have s:f_ room ps g r i=((bR room ps g,0), _):=A.trans (ao d);rw[s] at k;have E:=(b.set (ix g (bR room ps g)) (2,r,i,false,false,())).get o;rw[mG I] at E;refine ay rfl ⟨rfl,rfl,?_⟩;refine aw.vF j H (2,(ps.getD kk zP).2.1,(ps.getD kk zP).2.2.1,(ps.getD kk zP).2.2.2.1,(ps.getD kk zP).2.2.2.2.1,()) (gN a) E (by decide) rfl rfl λh H=>⟨rfl,rfl,?_⟩;rw[Br] at H;refine aw.vF j H (x:=(2,(ps.getD kk zP).2.1,(ps.getD kk zP).2.2.1,(ps.getD kk zP).2.2.2.1,(ps.getD kk zP).2.2.2.2.1,())) (2,(ps.getD kk zP).2.1,bR room ps g,(ps.getD kk zP).2.2.2.1,(ps.getD kk zP).2.2.2.2.1,()) (gN a) (by rw[DB (by rw[EF,b.len];exact o)]) (by decide) rfl rfl λO H=>ak.go H λJ H=>k J ?_;rw[Br,Br] at H;exact H
end
theorem iY.nz {room:Int} {ps:List PT} (d:iY room ps) {g i:Int} {k:Nat} (h:lM room ps g i=some k) (h2:(ps.getD k zP).1=2):
 (ps.getD k zP).2.1≠g/\lW room (ps.getD k zP).2.1 (ps.getD k zP).2.2.1=true/\lM room ps (ps.getD k zP).2.1 (ps.getD k zP).2.2.1=some (ix (ps.getD k zP).2.1 (ps.getD k zP).2.2.1):=by
 obtain⟨f,j,a⟩:=dU h;subst j;have l:ps.getD (ix g i) zP=gp ps g i:=rfl;rw[l] at h2 a ⊢;rcases d.inv g i f with e|e|⟨_,m,b,c,o⟩
 ·exact absurd e a
 ·rw[e.1] at h2;exact absurd h2 (by decide)
 ·refine⟨m,b,?_⟩;rw[og b,ao];intro n;rw[n] at c;exact absurd c (by decide)
theorem u7 {room:Int} {ps:List PT} {g i:Int} {k:Nat} (a:lM room ps g i=some k):jk room ps g i=if(ps.getD k zP).1=2 then(0,ps.set (ix (ps.getD k zP).2.1 (ps.getD k zP).2.2.1) ((gp ps (ps.getD k zP).2.1 (ps.getD k zP).2.2.1).1,(gp ps (ps.getD k zP).2.1 (ps.getD k zP).2.2.1).2.1,(gp ps (ps.getD k zP).2.1 (ps.getD k zP).2.2.1).2.2.1,true,(gp ps (ps.getD k zP).2.1 (ps.getD k zP).2.2.1).2.2.2.2)) else(6,ps):=by
 unfold jk;rw[a]
theorem mB {room:Int} {ps:List PT} {g i:Int} {k:Nat} (a:lM room ps g i=some k):dL room ps g i=if(ps.getD k zP).1=2 then(0,(ps.set (ix (ps.getD k zP).2.1 (ps.getD k zP).2.2.1) (1,(gp ps (ps.getD k zP).2.1 (ps.getD k zP).2.2.1).2.1,0,(gp ps (ps.getD k zP).2.1 (ps.getD k zP).2.2.1).2.2.2)).set k zP) else(0,ps.set k zP):=by
 unfold dL;rw[a]
theorem Cl {room:Int} {ps:List PT} {g i:Int} (a:lM room ps g i=none):jk room ps g i=(4,ps):=by unfold jk;rw[a]
theorem r7 {room:Int} {ps:List PT} {g i:Int} (a:lM room ps g i=none):dL room ps g i=(4,ps):=by unfold dL;rw[a]
section
variable {D G:List Nat} {w0 w:A1} {L:List (Nat×List A3)} {bp:Nat} {room:Int} {ps:List PT}
theorem KC (H:aH D G w0 w L) (j:Nat) (a:L[j]? =some (bp,fm room ps)) (h:iY room ps) (g i:Int) {K:Int->A1->Prop}
 (k: ∀l,aH D G w0 l (L.set j (bp,fm room (jk room ps g i).2))->K (jk room ps g i).1 l):
 aB A2 230 (.el (.one (.int .i64))) [ah (ad bp),aa g,aa i] w K:=by
 refine aB.go H λw1 H=>ai (C:=R1) (aM:=λ_=>[]) (A_ (Kq _ g i w1 K) ?_);have b:=h.tookS;have m: ∀v:Int,jk room ps g i=(v,ps)->ak w1 λw1=>K v w1:=λv e=>by
  rw[e] at k;refine ak.go H λn H=>k n ?_;rw[jo a];exact H
 refine⟨_,Bn H j a b g i rfl,?_⟩;cases c:lM room ps g i with
 |none=>exact ay rfl ⟨4,IX H j a b,m 4 (by unfold jk;rw[c])⟩
 |some kk=>
  obtain⟨o,p,y⟩:=dU c;have q:kk<512:=by rw[p];exact lD o b.hi
  have d:=b.get q;have hb:=u7 c;refine an rfl ⟨rfl,rfl,aj.bN j H a (vF d (by decide) rfl) (ab (λf=>?_) (λf=>?_))⟩
  ·exact m 6 (hb.trans (ao (by simpa using f)))
  have h2:(ps.getD kk zP).1=2:=by simpa using f
  rw[hb,ax h2] at k;obtain⟨z,r,s⟩:=h.nz c h2;have t:=lD r b.hi;have u:=b.get t;refine⟨rfl,rfl,aj.bN j H a (vF d (by decide) rfl) ⟨rfl,rfl,aj.bN j H a (vF d (by decide) rfl) ⟨_,Bn H j a b _ _ s,rfl,rfl,?_⟩⟩⟩;exact aw.vF j H (_, _, _,true, _,()) a u (by decide) rfl rfl λn H=>ak.go H λx H=>k x H
theorem aw.port (j:Nat) (H:aH D G w0 w L) (b:L[j]? =some (bp,fm room ps)) {k:Nat} (c:k<ps.length) (y:PT) {a:List A3} (hv:a=aZ sQ y) {K:A1->Prop}
 (d: ∀w1,aH D G w0 w1 (L.set j (bp,fm room (ps.set k y)))->K w1):aw w (some ⟨bp,k*5,none⟩) a K:=by
 have:=aw.flat j H (e:=eQ) (rest:=[aa room]) (i:=k) y b hv rfl c d;rw[aL,EB] at this;exact this
theorem wO (H:aH D G w0 w L) (j:Nat) (a:L[j]? =some (bp,fm room ps)) (n:iY room ps) (g i:Int) {K:Int->A1->Prop}
 (k: ∀o,aH D G w0 o (L.set j (bp,fm room (dL room ps g i).2))->K (dL room ps g i).1 o):
 aB A2 232 (.el (.one (.int .i64))) [ah (ad bp),aa g,aa i] w K:=by
 refine aB.go H λw1 H=>ai (C:=R1) (aM:=λ_=>[]) (A_ (Ft _ g i w1 K) ?_);have b:=n.tookS;refine⟨_,Bn H j a b g i rfl,?_⟩;cases c:lM room ps g i with
 |none=>
  have e:dL room ps g i=(4,ps):=by unfold dL;rw[c]
  rw[e] at k;refine ay rfl ⟨4,IX H j a b,ak.go H λp H=>k p ?_⟩;rw[jo a];exact H
 |some kk=>
  obtain⟨s,t,A⟩:=dU c;have d:kk<512:=by rw[t];exact lD s b.hi
  have f:=b.get d;have hb:=mB c;refine an rfl ⟨rfl,rfl,aj.bN j H a (vF f (by decide) rfl) (ab (λh=>?_) (λh=>?_))⟩
  ·have h2:(ps.getD kk zP).1=2:=by simpa using h
   rw[hb,ax h2] at k;obtain⟨B,u,v⟩:=n.nz c h2;have l:=lD u b.hi;have q:=b.get l;refine⟨rfl,rfl,aj.bN j H a (vF f (by decide) rfl) ⟨rfl,rfl,aj.bN j H a (vF f (by decide) rfl) ⟨_,Bn H j a b _ _ v,rfl,rfl,?_⟩⟩⟩;obtain⟨y,r⟩: ∃y,y=gp ps (ps.getD kk zP).2.1 (ps.getD kk zP).2.2.1:=⟨_,rfl⟩;rw[<-r] at k;have q:ps[ix (ps.getD kk zP).2.1 (ps.getD kk zP).2.2.1]? =some y:=by rw[r];exact b.get l
   refine aw.vF j H (1,y.2.1,y.2.2.1,y.2.2.2.1,y.2.2.2.2.1,()) a q (by decide) rfl rfl λp H=>⟨rfl,rfl,?_⟩;refine aw.vF j H (x:=(1,y.2.1,y.2.2.1,y.2.2.2.1,y.2.2.2.2.1,())) (1,y.2.1,0,y.2.2.2.1,y.2.2.2.2.1,()) (gN a) (by rw[DB (by rw[b.len];exact l)]) (by decide) rfl rfl λE H=>⟨rfl,?_⟩;rw[Br,Br] at H;refine aw.port j H (gN a) (by rw[EF,b.len];exact d) zP rfl λz H=>ak.go H λm H=>k m ?_;rw[Br] at H;exact H
  ·rw[hb,ao (by simpa using h)] at k;exact⟨rfl,aw.port j H a (by rw[b.len];exact d) zP rfl λz H=>ak.go H λm H=>k m H⟩
end
section
variable {room:Int} {ps:List PT}
theorem iY.QG (b:iY room ps) {g i:Int} (h:lW room g i=true) (h2:(gp ps g i).1≠2) {y:PT} (d:y=zP\/(y.1=1/\(1<=y.2.1/\y.2.1<=16)/\y.2.1≠g/\y.2.2.1=0)):iY room (ps.set (ix g i) y) where
 tookS:=b.tookS.set _ _
 inv g' a h':=by
  by_cases e:g'=g/\a=i
  ·have f:gp (ps.set (ix g i) y) g' a=y:=(gK b.tookS h h' y).trans (ax e);rw[f,e.1];rcases d with d|d
   ·exact .inl d
   ·exact .inr (.inl d)
  ·have f:gp (ps.set (ix g i) y) g' a=gp ps g' a:=(gK b.tookS h h' y).trans (ao e);rw[f];rcases b.inv g' a h' with z|z|⟨l,m,k,j,n,o⟩
   ·exact .inl z
   ·exact .inr (.inl z)
   ·have p: ¬ ((gp ps g' a).2.1=g/\(gp ps g' a).2.2.1=i):=λc=>by rw[c.1,c.2] at j;exact h2 j
    have q:gp (ps.set (ix g i) y) (gp ps g' a).2.1 (gp ps g' a).2.2.1=gp ps (gp ps g' a).2.1 (gp ps g' a).2.2.1:=(gK b.tookS h k y).trans (ao p);rw[q];exact .inr (.inr ⟨l,m,k,j,n,o⟩)
theorem iY.oU (c:iY room ps) {g i:Int} (h:lW room g i=true) (k:gp ps g i≠zP) {y:PT} (l:y.1=(gp ps g i).1) (h2:y.2.1=(gp ps g i).2.1) (m:y.2.2.1=(gp ps g i).2.2.1):iY room (ps.set (ix g i) y) where
 tookS:=c.tookS.set _ _
 inv g' d h':=by
  have key: ∀a b,lW room a b=true->(gp (ps.set (ix g i) y) a b).1=(gp ps a b).1/\(gp (ps.set (ix g i) y) a b).2.1=(gp ps a b).2.1/\(gp (ps.set (ix g i) y) a b).2.2.1=(gp ps a b).2.2.1:=λa b f=>by
   by_cases e:a=g/\b=i
   ·rw[(gK c.tookS h f y).trans (ax e),e.1,e.2];exact⟨l,h2,m⟩
   ·rw[(gK c.tookS h f y).trans (ao e)];exact⟨rfl,rfl,rfl⟩
  obtain⟨n,o,p⟩:=key g' d h';rw[n,o,p];rcases c.inv g' d h' with z|z|⟨q,r,j,s,t,u⟩
  ·refine .inl ?_;by_cases e:g'=g/\d=i
   ·rw[e.1,e.2] at z;exact absurd z k
   ·rw[(gK c.tookS h h' y).trans (ao e)];exact z
  ·exact .inr (.inl z)
  ·obtain⟨v,w,x⟩:=key _ _ j;rw[v,w,x];exact .inr (.inr ⟨q,r,j,s,t,u⟩)
theorem iY.du (a:iY room ps) {g:Int} (c:gI g=true) {y:PT} (d:y.1=1/\(1<=y.2.1/\y.2.1<=16)/\y.2.1≠g/\y.2.2.1=0):iY room (du room ps g y).2:=by
 unfold Go.Proofs.YteeflilbnoknnaaGreat.Po.du;split
 ·exact a
 ·rename_i f;obtain⟨b,h2⟩:=kE c f;rw[og b] at h2;have h:gp ps g (bR room ps g)=zP:=by
   by_cases e:gp ps g (bR room ps g)=zP
   ·exact e
   ·rw[ao e] at h2;cases h2
  exact a.QG b (by rw[h];decide) (.inr d)
theorem iY.gH (a:iY room ps) (g r:Int):iY room (gH room ps g r).2:=by
 unfold Go.Proofs.YteeflilbnoknnaaGreat.Po.gH;split
 ·rename_i e;obtain⟨b,h2,c⟩:=mR.1 e;exact a.du b ⟨rfl,iC.1 h2,λe=>c e.symm,rfl⟩
 ·exact a
theorem iY.f_ (f:iY room ps) (g r i:Int):iY room (f_ room ps g r i).2:=by
 unfold Go.Proofs.YteeflilbnoknnaaGreat.Po.f_;split
 ·rename_i e;obtain⟨A,h2,n⟩:=mR.1 e;split
  ·exact f
  ·rename_i k B;split
   ·exact f
   ·split
    ·exact f
    ·split
     ·exact f
     ·rename_i u h C;obtain⟨l,o⟩:=kE A C;rw[og l] at o;have v:gp ps g (bR room ps g)=zP:=by
       by_cases e:gp ps g (bR room ps g)=zP
       ·exact e
       ·rw[ao e] at o;cases o
      obtain⟨p,D,E⟩:=dU B;subst D;have F:ps.getD (ix r i) zP=gp ps r i:=rfl;rw[F] at u h E ⊢;have h:(gp ps r i).2.1=g:=Classical.byContradiction h;generalize bR room ps g=j at l v;have q:=f.tookS;have key: ∀a b,lW room a b=true->gp ((ps.set (ix g j) (2,r,i,false,false,())).set (ix r i) (2,(gp ps r i).2.1,j,(gp ps r i).2.2.2)) a b=if a=r/\b=i then(2,(gp ps r i).2.1,j,(gp ps r i).2.2.2) else if a=g/\b=j then(2,r,i,false,false,()) else gp ps a b:=λa b w=>by
       rw[gK (q.set _ _) p w,gK q l w]
      show iY room ((ps.set (ix g j) (2,r,i,false,false,())).set (ix r i) (2,(gp ps r i).2.1,j,(gp ps r i).2.2.2));have x:=(q.set (ix g j) (2,r,i,false,false,())).set (ix r i) (2,(gp ps r i).2.1,j,(gp ps r i).2.2.2);generalize (ps.set (ix g j) (2,r,i,false,false,())).set (ix r i) (2,(gp ps r i).2.1,j,(gp ps r i).2.2.2)=X at key x ⊢;refine⟨x,λg' d h'=>?_⟩;rw[key g' d h'];by_cases s:g'=r/\d=i
      ·rw[ax s];obtain⟨rfl,rfl⟩:=s;refine .inr (.inr ⟨rfl,by rw[h];exact n,by rw[h];exact l,?_⟩);show(gp _ (gp ps g' d).2.1 j).1=2/\(gp _ (gp ps g' d).2.1 j).2.1=g'/\(gp _ (gp ps g' d).2.1 j).2.2.1=d;rw[h,key g j l,ao (λc=>n c.1),ax ⟨rfl,rfl⟩];exact⟨rfl,rfl,rfl⟩
      ·rw[ao s];by_cases t:g'=g/\d=j
       ·rw[ax t];obtain⟨rfl,rfl⟩:=t;refine .inr (.inr ⟨rfl,λc=>n c.symm,p,?_⟩);show(gp _ r i).1=2/\(gp _ r i).2.1=g'/\(gp _ r i).2.2.1=d;rw[key r i p,ax ⟨rfl,rfl⟩];exact⟨rfl,h,rfl⟩
       ·rw[ao t];rcases f.inv g' d h' with z|z|⟨G,H,y,m,I,J⟩
        ·exact .inl z
        ·exact .inr (.inl z)
        ·rw[key _ _ y,ao,ao]
         ·exact .inr (.inr ⟨G,H,y,m,I,J⟩)
         ·intro c;rw[c.1,c.2,v] at m;exact absurd m (by decide)
         ·intro c;rw[c.1,c.2] at m;exact u m
 ·exact f
theorem iY.jk (a:iY room ps) (g i:Int):iY room (jk room ps g i).2:=by
 cases b:lM room ps g i with
 |none=>rw[Cl b];exact a
 |some k=>
  rw[u7 b];split
  ·rename_i h2;obtain⟨_,c,d⟩:=a.nz b h2;obtain⟨_, _,e⟩:=dU d;exact a.oU c e rfl rfl rfl
  ·exact a
theorem pJ {g x:Int} (h:x∈mb room ps g):lW room g x=true/\(gp ps g x).2.2.2.1=true/\(gp ps g x).2.2.2.2.1=false:=by
 unfold mb at h;rw[Gi] at h;obtain⟨j,a,rfl⟩:=h;rw[List.mem_filter] at a;have:=List.mem_range.1 a.1;have h2:=a.2;unfold ph at h2;simp only[Bd,C7] at h2;exact⟨cf.2 ⟨iC.1 h2.1,by omega,by omega⟩,h2.2.1,h2.2.2⟩
theorem DG {g x:Int} (h:x∈mb room ps g):gp ps g x≠zP:=λe=>by
 have:=(pJ h).2.1;rw[e] at this;cases this
theorem iY.fN (a:iY room ps) (g:Int):iY room (fN room ps g).2:=by
 unfold Go.Proofs.YteeflilbnoknnaaGreat.Po.fN;cases c:mb room ps g with
 |nil=>exact a
 |cons x l=>
  have b:x∈mb room ps g:=by rw[c];exact Di
  exact a.oU (pJ b).1 (DG b) rfl rfl rfl
theorem iY.dL (d:iY room ps) (g i:Int):iY room (dL room ps g i).2:=by
 cases l:lM room ps g i with
 |none=>rw[r7 l];exact d
 |some k=>
  rw[mB l];obtain⟨m,v,w⟩:=dU l;have q:=d.tookS;split
  ·rename_i h2;obtain⟨s,n, _⟩:=d.nz l h2;subst v;have E:ps.getD (ix g i) zP=gp ps g i:=rfl;rw[E] at h2 s n w ⊢;have hi:=d.inv g i m;rcases hi with z|z|⟨_, _, _,x,e,t⟩
   ·exact absurd z w
   ·rw[z.1] at h2;exact absurd h2 (by decide)
   obtain⟨r,y⟩: ∃r,r=(gp ps g i).2.1:=⟨_,rfl⟩;obtain⟨j,A⟩: ∃j,j=(gp ps g i).2.2.1:=⟨_,rfl⟩;rw[<-y] at s x e t n ⊢;rw[<-A] at x e t n ⊢;have key: ∀a b,lW room a b=true->gp ((ps.set (ix r j) (1,(gp ps r j).2.1,0,(gp ps r j).2.2.2)).set (ix g i) zP) a b=if a=g/\b=i then zP else if a=r/\b=j then(1,(gp ps r j).2.1,0,(gp ps r j).2.2.2) else gp ps a b:=λa b B=>by
    rw[gK (q.set _ _) m B,gK q n B]
   show iY room ((ps.set (ix r j) (1,(gp ps r j).2.1,0,(gp ps r j).2.2.2)).set (ix g i) zP);have C:=(q.set (ix r j) (1,(gp ps r j).2.1,0,(gp ps r j).2.2.2)).set (ix g i) zP;generalize (ps.set (ix r j) (1,(gp ps r j).2.1,0,(gp ps r j).2.2.2)).set (ix g i) zP=X at key C ⊢;refine⟨C,λg' o h'=>?_⟩;rw[key g' o h'];by_cases u:g'=g/\o=i
   ·rw[ax u];exact .inl rfl
   ·rw[ao u];by_cases p:g'=r/\o=j
    ·rw[ax p];refine .inr (.inl ⟨rfl,?_,?_,rfl⟩)
     ·show 1<=(gp ps r j).2.1/\(gp ps r j).2.1<=16;rw[e];exact(cf.1 m).1
     ·show(gp ps r j).2.1≠g';rw[e,p.1];exact λc=>s c.symm
    ·rw[ao p];rcases d.inv g' o h' with z|z|⟨F,G,D,H,f,h⟩
     ·exact .inl z
     ·exact .inr (.inl z)
     ·rw[key _ _ D,ao,ao]
      ·exact .inr (.inr ⟨F,G,D,H,f,h⟩)
      ·intro c;rw[c.1,c.2] at f h;exact u ⟨by rw[<-f,e],by rw[<-h,t]⟩
      ·intro c;rw[c.1,c.2] at f h;exact p ⟨by rw[<-f, <-y],by rw[<-h, <-A]⟩
  ·rename_i h2;subst v;exact d.QG m h2 (.inl rfl)
end
section
variable {D G:List Nat} {w0 w:A1} {L:List (Nat×List A3)} {bp:Nat} {room:Int} {ps:List PT}
def wu (ps:List PT) (g:Int) (i:Nat):List Int:=((HH i).filter (ph ps g)).map λi=>((i:Nat):Int)
theorem Cm (g:Int) (i:Nat):wu ps g (i+1)=wu ps g i++(if ph ps g i then[((i:Nat):Int)] else[]):=by
 unfold wu;rw[Hz,I1,I2];by_cases h:ph ps g i=true
 ·rw[ax h,HL,ax h];rfl
 ·rw[ao h,HL,ao h];rfl
theorem Fy (g:Int) (i:Nat):(wu ps g i).length<=i:=by
 unfold wu;rw[H2];exact H6 (I_ _ _) (by simp)
theorem Cn {g:Int} {i:Nat} (hi:(i:Int)<room) (a:lM room ps g i=none):ph ps g i=false:=by
 unfold ph;cases b:gI g with
 |false=>rfl
 |true=>
  have c:lW room g i=true:=cf.2 ⟨iC.1 b,by omega,hi⟩;rw[og c] at a;by_cases e:gp ps g i=zP
  ·rw[e];rfl
  ·rw[ao e] at a;cases a
theorem Co {g:Int} {i:Nat} {k:Nat} (a:lM room ps g i=some k):ph ps g i=((ps.getD k zP).2.2.2.1&& !(ps.getD k zP).2.2.2.2.1):=by
 obtain⟨b,h2, _⟩:=dU a;unfold ph gp;rw[iC.2 (cf.1 b).1,h2];rfl
theorem KE (hb:bh w bp (fm room ps)) (d:okS room ps) (g:Int):ar A2 302 (.el (.one .slice)) [ah (ad bp),aa g] w (λr w'=>jz w w' eI r (mb room ps g)/\Ext w w'):=by
 refine ai (C:=R1) (aM:=qa) (A_ (Ks _ g w _) ?_);have D:=d.lo;have E:=d.hi;refine⟨true,ag.of (s:= .el (.one .bool)) λw' h'=>kD (hb.ext h') d,an rfl ⟨rfl,rfl,aj.iQ (At.start [] w) hb (by simp) (k_ d) ?_⟩⟩;refine⟨λq s w'=> ∃i:Nat,s.2.1=i/\q+i=room.toNat/\At [] w w' []/\jz w w' eI s.1 (wu ps g i),⟨room.toNat,λw1 t=>⟨0,rfl,rfl,(At.start [] w).ext t,jz.start w w1 eI⟩⟩,?_⟩;rintro q ⟨⟨F,G,I⟩,J,u⟩ w1 ⟨i,hi,K,H,f⟩;simp only at hi f;subst hi;dsimp only;refine ab (λc=>?_) (λc=>?_)
 ·have L:i<room.toNat:=by simp at c;omega
  have a:=Cm (ps:=ps) g i;have M:=Fy (ps:=ps) g i;refine⟨_,ag.of (s:= .el (.one .ptr)) λw' h'=>wq ((H.gm hb (by simp)).ext h') d g i,?_⟩;unfold bN;cases j:lM room ps g i with
  |none=>
   rw[Cn (by omega) j] at a;rw[ao (by decide),Bg] at a;refine⟨λh=>by simp at h,λh=>by simp at h,false,λh=>by simp at h,λh=>by simp at h,λh=>by simp at h,false,λh=>by simp at h,an rfl λk h2=>⟨q - 1,by omega,i+1,by rw[av (by omega) (by omega)];rfl,by omega,H.ext h2,by rw[a];exact f.ext h2⟩⟩
  |some kk=>
   obtain⟨v,x,N⟩:=dU j;have y:kk<512:=by rw[x];exact lD v d.hi
   have o:=d.get y;rw[Co j] at a;refine⟨λ_=>rfl,λ_=>rfl,aj.iQ H hb (by simp) (vF o (by decide) rfl) ⟨λ_=>rfl,λ_=>rfl,aj.iQ H hb (by simp) (vF o (by decide) rfl) (ab (λl=>?_) (λl=>?_))⟩⟩
   ·have m:((ps.getD kk zP).2.2.2.1&& !(ps.getD kk zP).2.2.2.2.1)=true:=by simpa using l
    rw[ax m] at a;have n:=At.start [] w1;refine aA.go n λb k n=>λO z=>?_;refine At.Uu (e:=eI) (i:=0) H f (n.ext z) (i:Int) rfl rfl rfl rfl rfl (by omega) λs' P A B Q p=>⟨q - 1,by omega,i+1,by rw[av (by omega) (by omega)];rfl,by omega,A.ext p,?_⟩;rw[a];exact B.ext p
   ·have m: ¬ ((ps.getD kk zP).2.2.2.1&& !(ps.getD kk zP).2.2.2.2.1)=true:=by simpa using l
    rw[ao m,Bg] at a;exact λk h2=>⟨q - 1,by omega,i+1,by rw[av (by omega) (by omega)];rfl,by omega,H.ext h2,by rw[a];exact f.ext h2⟩
 ·have hi:i=room.toNat:=by simp at c;omega
  subst hi;exact λk h2=>⟨f.ext h2,(H.ext h2).all⟩
theorem KF (H:aH D G w0 w L) (j:Nat) (b:L[j]? =some (bp,fm room ps)) (c:okS room ps) (g:Int) {K:Option A9×Nat×Nat->A1->Prop}
 (k: ∀r rows a,aH D G w0 a (L++rows)->jh eI rows r (mb room ps g)->K r a):aB A2 302 (.el (.one .slice)) [ah (ad bp),aa g] w K:=
 aB.QF H (λw1 H=>KE (H.get b) c g) k
theorem u9 {rows:List (Nat×List A3)} {r:Option A9×Nat×Nat} {x:Int} {l:List Int} (a:jh eI rows r (x::l)) (H:aH D G w0 w L) (b: ∀y∈rows,y∈L):r.1.isSome=true/\cI w (ae r.1 0) (.one (.int .i64)) x:=by
 have:=a.sl H b 0 x rfl;simpa using this
theorem KG (H:aH D G w0 w L) (j:Nat) (c:L[j]? =some (bp,fm room ps)) (d:okS room ps) (g:Int) {K:Int×Bool×Unit->A1->Prop}
 (k: ∀h,aH D G w0 h (L.set j (bp,fm room (fN room ps g).2))->K ((fN room ps g).1.1,(fN room ps g).1.2,()) h):
 aB A2 231 (.bH [.one (.int .i64),.one .bool]) [ah (ad bp),aa g] w K:=by
 refine aB.go H λw1 H=>ai (C:=R1) (aM:=λ_=>[]) (A_ (Kt _ g w1 K) ?_);refine KF H j c d g λr rows h H f=>?_;have n:j<L.length:=(B3.1 c).1;have o:(L++rows)[j]? =some (bp,fm room ps):=by rw[H7 n];exact c
 have a:=f.1;cases b:mb room ps g with
 |nil=>
  rw[b] at a;have e:fN room ps g=((0,false),ps):=by unfold fN;rw[b]
  rw[e] at k;refine ay (by rw[a];rfl) (ak.go H λp H=>k p ?_);rw[jo c];exact H.sub (EE _ _)
 |cons x l=>
  have q:x∈mb room ps g:=by rw[b];exact Di
  rw[b] at a f;have e:fN room ps g=((x,true),ps.set (ix g x) ((gp ps g x).1,(gp ps g x).2.1,(gp ps g x).2.2.1,false,(gp ps g x).2.2.2.2)):=by unfold fN;rw[b]
  rw[e] at k;obtain⟨s, _, _⟩:=pJ q;have u:lM room ps g x=some (ix g x):=by rw[og s,ao (DG q)]
  have v:=lD s d.hi;have z:ps[ix g x]? =some (gp ps g x):=d.get v;have h0:=u9 f H (λy i=>Dn _ i);have m:(x::l).length=l.length+1:=rfl;refine an (by rw[a,m];simp;omega) ⟨⟨h0.1,by omega,by rw[a,m];omega⟩,aj.of x h0.2 ⟨_,Bn H j o d g x u,rfl,rfl,?_⟩⟩;refine aw.vF j H ((gp ps g x).1,(gp ps g x).2.1,(gp ps g x).2.2.1,false,(gp ps g x).2.2.2.2.1,()) o z (by decide) rfl rfl λp H=>?_;rw[H9 _ _ n] at H;have t:=u9 f H (λy i=>Dn _ i);refine⟨⟨t.1,by omega,by rw[a,m];omega⟩,aj.of x t.2 (ak.go H λA H=>k A (H.sub (EE _ _)))⟩
theorem pK (a:iY room ps) (g:Int): ∀i,iY room (gf room ps g i).2
 |0=>a
 |i+1=>(pK a g i).dL g i
theorem Ai (g:Int): ∀i:Nat,0<=(gf room ps g i).1/\(gf room ps g i).1<=i
 |0=>by simp[gf]
 |i+1=>by
  have:=Ai g i;simp only[gf];split<;>omega
theorem Fz (h:iY room ps) {g i j:Int} (hi:lW room g i=true) (d:lW room g j=true):gp (dL room ps g i).2 g j=if j=i then zP else gp ps g j:=by
 cases b:lM room ps g i with
 |none=>
  rw[r7 b];rw[og hi] at b;by_cases e:gp ps g i=zP
  ·by_cases a:j=i
   ·rw[ax a,a];exact e
   ·rw[ao a]
  ·rw[ao e] at b;cases b
 |some k=>
  rw[mB b];obtain⟨l,m,p⟩:=dU b;have f:=h.tookS;split
  ·rename_i h2;obtain⟨n,o, _⟩:=h.nz b h2;subst m;show gp ((ps.set _ _).set (ix g i) zP) g j= _;rw[gK (f.set _ _) l d,gK f o d];by_cases a:j=i
   ·rw[ax ⟨rfl,a⟩,ax a]
   ·rw[ao (λc=>a c.2),ao (λc=>n c.1.symm),ao a]
  ·subst m;show gp (ps.set (ix g i) zP) g j= _;rw[gK f l d];by_cases a:j=i
   ·rw[ax ⟨rfl,a⟩,ax a]
   ·rw[ao (λc=>a c.2),ao a]
theorem Aj (b:iY room ps) {g:Int} (a:gI g=true): ∀(n:Nat),(n:Int)<=room-> ∀j,0<=j->j<(n:Int)->gp (gf room ps g n).2 g j=zP
 |0, _,j,h0,c=>by omega
 |n+1,h,j,h0,c=>by
  have d:lW room g n=true:=cf.2 ⟨iC.1 a,by omega,by omega⟩;have f:lW room g j=true:=cf.2 ⟨iC.1 a,by omega,by omega⟩;simp only[gf];rw[Fz (pK b g n) d f];by_cases e:j=n
  ·rw[ax e]
  ·rw[ao e];exact Aj b a n (by omega) j h0 (by omega)
def rD (room:Int) (ps:List PT) (g:Int):Prop:=iY room ps/\ ∀i,lW room g i=true->gp ps g i=zP
theorem KH {g:Int} (h:rD room ps g) {k i:Int} (hi:lW room k i=true) (c:(gp ps k i).2.1=g):(gp ps k i).1≠2:=by
 intro h2;rcases h.1.inv k i hi with z|z|⟨_, _,b,a, _⟩
 ·rw[z] at h2;exact absurd h2 (by decide)
 ·rw[z.1] at h2;exact absurd h2 (by decide)
 ·rw[c] at b a;rw[h.2 _ b] at a;exact absurd a (by decide)
theorem Cp {g:Int} {s:Int×List PT} (h:rD room s.2 g) (k i:Int):rD room (me room g s k i).2 g:=by
 unfold me;split
 ·exact h
 ·rename_i x c;split
  ·rename_i d;obtain⟨a,e,f⟩:=dU c;subst e;refine⟨h.1.QG a (KH h a d) (.inl rfl),λj b=>?_⟩;show gp (s.2.set (ix k i) zP) g j=zP;rw[gK h.1.tookS a b];split
   ·rfl
   ·exact h.2 j b
  ·exact h
theorem oB {g:Int} {s:Int×List PT} (h:rD room s.2 g) (k:Int): ∀i,rD room (kr room g s k i).2 g
 |0=>h
 |i+1=>Cp (oB h k i) k i
theorem oC {g:Int} {s:Int×List PT} (h:rD room s.2 g): ∀k,rD room (im room g s k).2 g
 |0=>h
 |k+1=>oB (oC h k) _ _
theorem KI {g:Int} (s:Int×List PT) (k i:Int):s.1<=(me room g s k i).1/\(me room g s k i).1<=s.1+1:=by
 unfold me;split
 ·omega
 ·split
  ·simp only;omega
  ·omega
theorem uE {g:Int} (s:Int×List PT) (k:Int): ∀i:Nat,s.1<=(kr room g s k i).1/\(kr room g s k i).1<=s.1+i
 |0=>by simp[kr]
 |i+1=>by
  have a:=uE (g:=g) s k i;have h2:=KI (g:=g) (room:=room) (kr room g s k i) k i;simp only[kr];omega
theorem Ak {g:Int} (s:Int×List PT): ∀k:Nat,s.1<=(im room g s k).1/\(im room g s k).1<=s.1+k*room.toNat
 |0=>by simp[im]
 |k+1=>by
  have a:=Ak (g:=g) s k;have h2:=uE (g:=g) (room:=room) (im room g s k) ((k:Int)+1) room.toNat;simp only[im];have e:((k+1:Nat):Int)*(room.toNat:Int)=(k:Int)*(room.toNat:Int)+room.toNat:=by rw[Int.natCast_add,Int.add_mul];simp
  rw[e];omega
theorem u_ (a:iY room ps) {g:Int} (b:gI g=true):rD room (gf room ps g room.toNat).2 g:=by
 have c:=a.tookS.lo;exact⟨pK a g _,λi hi=>Aj a b room.toNat (by omega) i (by rw[cf] at hi;omega) (by rw[cf] at hi;omega)⟩
theorem KJ (a:iY room ps) (g:Int):iY room (bY room ps g).2:=by
 unfold bY;split
 ·rename_i b;exact(oC (u_ a b) 16).1
 ·exact a
theorem KK (H:aH D G w0 w L) (j:Nat) (d:L[j]? =some (bp,fm room ps)) (z:iY room ps) (g:Int) {K:Int->A1->Prop}
 (k: ∀P,aH D G w0 P (L.set j (bp,fm room (bY room ps g).2))->K (bY room ps g).1 P):
 aB A2 209 (.el (.one (.int .i64))) [ah (ad bp),aa g] w K:=by
 refine aB.go H λw1 H=>ai (C:=R1) (aM:=qb) (A_ (Ku _ g w1 K) ?_);have x:=z.tookS;have Hd:=x.lo;have W:=x.hi;refine⟨true,Ny H j d x,λ_=>trivial,ab (λc=>?_) (λc=>?_)⟩
 ·have y:gI g=false:=by simpa using c
  have e:bY room ps g=(0,ps):=by unfold bY;rw[y];rfl
  rw[e] at k;refine ak.go H λA H=>k A ?_;rw[jo d];exact H
 have y:gI g=true:=by simpa using c
 have e:bY room ps g=im room g (gf room ps g room.toNat) 16:=by unfold bY;rw[ax y]
 rw[e] at k;refine⟨rfl,rfl,aj.bN j H d (k_ x) ?_⟩;refine⟨λq s w'=> ∃i:Nat,s.2.1=i/\q+i=room.toNat/\s.1=(gf room ps g i).1/\aH D G w0 w' (L.set j (bp,fm room (gf room ps g i).2)),⟨room.toNat,λA X=>⟨0,rfl,rfl,rfl,by rw[show(gf room ps g 0).2=ps from rfl,jo d];exact H.ext X⟩⟩,?_⟩;clear H;rintro q ⟨a,Y,u⟩ A ⟨i,hi,hq,l,H⟩;simp only at hi l;subst hi;subst l;dsimp only;have Z:=Ai (room:=room) (ps:=ps) g i;refine ab (λB=>?_) (λB=>?_)
 ·have fD:i<room.toNat:=by simp at B;omega
  have Z':=pK z g i;refine wO H j (gN d) Z' g i λQ H=>?_;rw[Br] at H;have p:aC .i64 (i:Int) 1=((i+1:Nat):Int):=by rw[av (by omega) (by omega)];rfl
  refine ab (λn r t=>⟨q - 1,by omega,i+1,p,by omega,?_,H.ext t⟩) (λn r t=>⟨q - 1,by omega,i+1,p,by omega,?_,H.ext t⟩)
  ·have o:(dL room (gf room ps g i).2 g i).1=0:=by simpa using n
   simp only[gf];rw[ax o,av (by omega) (by omega)]
  ·have o: ¬ (dL room (gf room ps g i).2 g i).1=0:=by simpa using n
   simp only[gf];rw[ao o,Int.add_zero]
 have hi:i=room.toNat:=by simp at B;omega
 subst hi;have R:=u_ z y;generalize gf room ps g room.toNat=f at H k R Z;refine⟨λq s w'=> ∃m:Nat,s.2.1=(m:Int)+1/\q+m=16/\s.1=(im room g f m).1/\aH D G w0 w' (L.set j (bp,fm room (im room g f m).2)),⟨16,λQ h4=>⟨0,rfl,rfl,rfl,H.ext h4⟩⟩,?_⟩;clear H;rintro q2 ⟨a,m',u2⟩ Q ⟨m,S,L6,l,H⟩;simp only at S l;subst S;subst l;dsimp only;have T:=oC R m;have hlA:=Ak (room:=room) (g:=g) f m;have aag:(m:Int)*(room.toNat:Int)<=16*32:=Int.mul_le_mul (by omega) (by omega) (by omega) (by omega);refine ab (λn=>?_) (λn=>?_)
 ·have U:m<16:=by simp at n;omega
  refine⟨rfl,rfl,aj.bN j H (gN d) (k_ T.1.tookS) ?_⟩;refine⟨λq s w'=> ∃i:Nat,s.2.1=i/\q+i=room.toNat/\s.1=(kr room g (im room g f m) ((m:Int)+1) i).1/\aH D G w0 w' (L.set j (bp,fm room (kr room g (im room g f m) ((m:Int)+1) i).2)),⟨room.toNat,λr t=>⟨0,rfl,rfl,rfl,H.ext t⟩⟩,?_⟩;clear H;rintro E ⟨a,Y,u3⟩ r ⟨i,hi,hq3,l,H⟩;simp only at hi l;subst hi;subst l;dsimp only;have hgR:=oB T ((m:Int)+1) i;have hlR:=uE (room:=room) (g:=g) (im room g f m) ((m:Int)+1) i;refine ab (λo=>?_) (λo=>?_)
  ·have fD:i<room.toNat:=by simp at o;omega
   have p:aC .i64 (i:Int) 1=((i+1:Nat):Int):=by rw[av (by omega) (by omega)];rfl
   have F:=hgR.1.tookS;have er:kr room g (im room g f m) ((m:Int)+1) (i+1)=me room g (kr room g (im room g f m) ((m:Int)+1) i) ((m:Int)+1) i:=rfl;generalize kr room g (im room g f m) ((m:Int)+1) i=b at*
   refine⟨_,Bn H j (gN d) F ((m:Int)+1) i rfl,?_⟩;cases I:lM room b.2 ((m:Int)+1) i with
   |none=>
    have J:me room g b ((m:Int)+1) i=b:=by unfold me;rw[I]
    rw[J] at er;exact⟨λh=>by simp at h,λh=>by simp at h,(0:Int),λh=>by simp at h,an rfl λM v=>⟨E - 1,by omega,i+1,p,by omega,by rw[er],by rw[er];exact H.ext v⟩⟩
   |some kk=>
    obtain⟨lz,nV,OP⟩:=dU I;have V:kk<512:=by rw[nV];exact lD lz W
    have vH:=F.get V;have J:me room g b ((m:Int)+1) i=if(b.2.getD kk zP).2.1=g then(b.1+1,b.2.set kk zP) else b:=by unfold me;rw[I]
    rw[J] at er;refine⟨λ_=>rfl,λ_=>rfl,aj.bN j H (gN d) (vF vH (by decide) rfl) (ab (λN=>?_) (λN=>?_))⟩
    ·have O:(b.2.getD kk zP).2.1=g:=by simpa using N
     rw[ax O] at er;refine⟨rfl,aw.port j H (gN d) (by rw[F.len];exact V) zP rfl λM H w7 h7=>⟨E - 1,by omega,i+1,p,by omega,?_,?_⟩⟩
     ·rw[er,av (by omega) (by omega)]
     ·rw[er];rw[Br] at H;exact H.ext h7
    ·have O: ¬ (b.2.getD kk zP).2.1=g:=by simpa using N
     rw[ao O] at er;exact λM v=>⟨E - 1,by omega,i+1,p,by omega,by rw[er],by rw[er];exact H.ext v⟩
  ·have hi:i=room.toNat:=by simp at o;omega
   subst hi;exact λM v=>⟨q2 - 1,by omega,m+1,by rw[av (by omega) (by omega)];omega,by omega,rfl,H.ext v⟩
 ·have U:m=16:=by simp at n;omega
  subst U;exact ak.go H λr H=>k r H
end
def Ed (room:Int) (ps:List PT) (u v:Int):Prop:= ∃i,lW room u i=true/\gp ps u i≠zP/\(gp ps u i).2.1=v
inductive Lk (room:Int) (ps:List PT) (a:Int):Int->Prop
 |refl:Lk room ps a a
 |fwd {u v:Int}:Lk room ps a u->Ed room ps u v->Lk room ps a v
 |bwd {u v:Int}:Lk room ps a v->Ed room ps u v->Lk room ps a u
open Classical in
noncomputable def rE (room:Int) (ps:List PT) (a b:Int):Bool:=gI a&&(gI b&&decide (Lk room ps a b))
theorem qW {room:Int} {ps:List PT} {a b:Int}:rE room ps a b=true<->gI a=true/\gI b=true/\Lk room ps a b:=by
 unfold rE;simp
theorem Lk.inv {room:Int} {ps:List PT} {a v:Int} (h:Lk room ps a v) (S:Int->Prop) (d:S a) (c: ∀u v,Ed room ps u v->(S u<->S v)):S v:=by
 induction h with
 |refl=>exact d
 |fwd _ e b=>exact(c _ _ e).1 b
 |bwd _ e b=>exact(c _ _ e).2 b
theorem Ed.sS {room:Int} {ps:List PT} (c:iY room ps) {u v:Int} (h:Ed room ps u v):(1<=u/\u<=16)/\(1<=v/\v<=16)/\u≠v:=by
 obtain⟨i,hi,d,rfl⟩:=h;refine⟨(cf.1 hi).1,?_⟩;rcases c.inv u i hi with z|⟨_,a,b, _⟩|⟨_,a,b, _⟩
 ·exact absurd z d
 ·exact⟨a,λe=>b e.symm⟩
 ·exact⟨(cf.1 b).1,λe=>a e.symm⟩
def tv (bs:List Bool) (v:Int):Bool:=bs.getD v.toNat false
def vZ (bs:List Bool):List A3:=bs.map Value.bool
theorem mg {bs:List Bool} {v:Int} (h:v.toNat<bs.length):l5 (vZ bs) (0+v.toNat*1) (.one .bool)=some (tv bs v):=by
 have:(vZ bs)[0+v.toNat*1]? =some (.bool (tv bs v)):=by
  unfold vZ tv;rw[EB,Nat.mul_one,EH,B1 h,B4,B1 h];rfl
 show(match (vZ bs)[0+v.toNat*1]? with|some v=>Sc.bool.proj v|none=>none)= _;rw[this];rfl
theorem iD {bs:List Bool} {u v:Int} (b:0<=u) (a:u.toNat<bs.length) (hv:0<=v):tv (bs.set u.toNat true) v=if v=u then true else tv bs v:=by
 unfold tv;by_cases e:v=u
 ·subst e;rw[ax rfl];simp[B4,a]
 ·rw[ao e];have:u.toNat≠v.toNat:=by omega
  simp[B4,Bq this]
def mL (bs:List Bool):Nat:=bs.countP (! ·)
theorem iW {bs:List Bool} {k:Nat} (a:k<bs.length):mL (bs.set k true)+(if bs.getD k false=false then 1 else 0)=mL bs:=by
 unfold mL;rw[List.countP_set a];have e:bs.getD k false=bs[k]:=by rw[B4,B1 a];rfl
 rw[e];cases h:bs[k] with
 |true=>simp
 |false=>
  have:0<bs.countP (! ·):=List.countP_pos_iff.2 ⟨bs[k],IG a,by rw[h];rfl⟩;simp;omega
theorem oD {bs:List Bool} {k:Nat} (a:k<bs.length):mL (bs.set k true)<=mL bs:=by have:=iW a;omega
def rF (room:Int) (ps:List PT) (a:Int) (bs:List Bool):Prop:=bs.length=17/\tv bs a=true/\ ∀v,0<=v->tv bs v=true->Lk room ps a v
theorem rF.set {room:Int} {ps:List PT} {a:Int} {bs:List Bool} (h:rF room ps a bs) (f:0<=a) {u:Int} (c:0<=u/\u<=16) (g:Lk room ps a u):rF room ps a (bs.set u.toNat true):=by
 have d:u.toNat<bs.length:=by rw[h.1];omega
 refine⟨by rw[EF];exact h.1,?_,λv hv b=>?_⟩
 ·rw[iD c.1 d f];split
  ·rfl
  ·exact h.2.1
 ·rw[iD c.1 d hv] at b;split at b
  ·rename_i e;rw[e];exact g
  ·exact h.2.2 v hv b
def EqAt (ps:List PT) (bs:List Bool) (g i:Int):Prop:=gp ps g i≠zP->tv bs g=tv bs (gp ps g i).2.1
theorem Cq {room:Int} {ps:List PT} {a b:Int} {bs:List Bool} (c:rF room ps a bs) (hc: ∀g i,lW room g i=true->EqAt ps bs g i) (hb:0<=b):tv bs b=true<->Lk room ps a b:=by
 refine⟨c.2.2 b hb,λh=>h.inv (λv=>tv bs v=true) c.2.1 ?_⟩;rintro u v ⟨i,hi,d,rfl⟩;have:=hc u i hi d;show tv bs u=true<->tv bs (gp ps u i).2.1=true;rw[this]
section
variable {D G:List Nat} {w0 w:A1} {L:List (Nat×List A3)} {bp:Nat} {room:Int} {ps:List PT}
theorem rG (j:Nat) (H:aH D G w0 w L) {b:Nat} {bs:List Bool} {v:Int} (c:L[j]? =some (b,vZ bs)) (f:v.toNat<bs.length) {K:A1->Prop}
 (d: ∀w1,aH D G w0 w1 (L.set j (b,vZ (bs.set v.toNat true)))->K w1):aw w (ae (ad b) (v.toNat*1)) [.bool true] K:=by
 refine aw.dF j H c rfl ?_ λw1 a=>d w1 ?_
 ·rw[Nat.blt_eq];unfold vZ;rw[H2];omega
 ·have e:(vZ bs).set (0+v.toNat*1) (.bool true)=vZ (bs.set v.toNat true):=by unfold vZ;rw[List.map_set,EB,Nat.mul_one]
  rw[e] at a;exact a
theorem Cr (hb:bh w bp (fm room ps)) (T:iY room ps) (a b:Int):ar A2 88 (.el (.one .bool)) [ah (ad bp),aa a,aa b] w (λx w'=>x=rE room ps a b/\Ext w w'):=by
 refine ai (C:=R1) (aM:=mF) (A_ (Cj _ a b w _) ?_);have q:=T.tookS;have Hd:=q.lo;have Ew:=q.hi;refine⟨true,ag.of (s:= .el (.one .bool)) λw' h'=>kD (hb.ext h') q,λ_=>trivial,λ_=>trivial,ab (λc w1 k=>⟨?_,k⟩) (λc=>?_)⟩
 ·unfold rE;cases D:gI a with
  |false=>rfl
  |true=>
   cases G:gI b with
   |false=>rfl
   |true=>rw[D,G] at c;cases c
 have I:gI a=true:=by
  cases D:gI a with
  |false=>rw[D] at c;cases c
  |true=>rfl
 have U:gI b=true:=by
  cases G:gI b with
  |false=>rw[I,G] at c;cases c
  |true=>rfl
 have D:=iC.1 I;have hbr:=iC.1 U;have H:=At.start [] w;refine aA.go H λz w2 H=>⟨⟨rfl,by omega,by omega⟩,?_⟩;have H:At [] w w2 [(z,vZ (B2 17 false))]:=H;refine rG 0 H rfl (by rw[Hu];omega) λw3 H=>?_;have p:rF room ps a ((B2 17 false).set a.toNat true):=by
  refine⟨by simp,?_,λv hv o=>?_⟩
  ·rw[iD (by omega) (by simp;omega) (by omega),ax rfl]
  ·rw[iD (by omega) (by simp;omega) hv] at o;split at o
   ·rename_i e;rw[e];exact .refl
   ·unfold tv at o;rw[B4,IR] at o;split at o<;>cases o
 have H:At [] w w3 [(z,vZ ((B2 17 false).set a.toNat true))]:=H;generalize (B2 17 false).set a.toNat true=bs at p H;refine⟨λn s w'=> ∃bs,rF room ps a bs/\n=mL bs+(if s.1=true then 1 else 0)/\(s.1=false-> ∀g i,lW room g i=true->EqAt ps bs g i)/\At [] w w' [(z,vZ bs)],⟨mL bs+1,λw4 h4=>⟨bs,p,rfl,(λh=>by cases h),H.ext h4⟩⟩,?_⟩;clear H p bs;rintro n ⟨more,u⟩ w4 ⟨r,p,V,W,H⟩;simp only at V W;dsimp only;cases more with
 |false=>
  refine an rfl ⟨⟨rfl,by omega,by omega⟩,aj.bN 0 H rfl (mg (by rw[p.1];omega)) (ak.go H λX H=>⟨?_,H.all⟩)⟩;have:=Cq (b:=b) p (W rfl) (by omega);rw[H5,qW,this];exact⟨λh=>⟨I,U,h⟩,λh=>h.2.2⟩
 |true=>
  rw[ax rfl] at V;refine ay rfl ?_;refine⟨λJ s w'=> ∃(m:Nat) (bs:List Bool),s.2.1=(m:Int)+1/\J+m=16/\rF room ps a bs/\(s.1=true->mL bs<mL r)/\(s.1=false->bs=r/\ ∀g i,lW room g i=true->g<=m->EqAt ps bs g i)/\At [] w w' [(z,vZ bs)],
   ⟨16,λX h5=>⟨0,r,rfl,rfl,p,(λh=>by cases h),λ_=>⟨rfl,λg i hi h0=>by have:=cf.1 hi;omega⟩,H.ext h5⟩⟩,?_⟩
  clear H;rintro J ⟨more,m',u⟩ X ⟨m,bs,Y,vq,f,l,d,H⟩;simp only at Y l d;subst Y;dsimp only;refine ab (λK=>?_) (λK=>?_)
  ·have ME:m<16:=by simp at K;omega
   refine⟨rfl,rfl,aj.iQ H hb (by simp) (k_ q) ?_⟩;refine⟨λA s w'=> ∃(i:Nat) (bs:List Bool),s.2.1=i/\A+i=room.toNat/\rF room ps a bs/\(s.1=true->mL bs<mL r)/\(s.1=false->bs=r/\(∀g i,lW room g i=true->g<=m->EqAt ps bs g i)/\ ∀j:Nat,j<i->EqAt ps bs ((m:Int)+1) j)/\At [] w w' [(z,vZ bs)],
    ⟨room.toNat,λZ L=>⟨0,bs,rfl,rfl,f,l,λh=>⟨(d h).1,(d h).2,λj t=>absurd t (by omega)⟩,H.ext L⟩⟩,?_⟩
   clear H f l d bs;rintro A ⟨more,i',u⟩ Z ⟨i,bs,hi,tl,f,l,d,H⟩;simp only at hi l d;subst hi;dsimp only;refine ab (λM=>?_) (λM=>?_)
   ·have fD:i<room.toNat:=by simp at M;omega
    have N:aC .i64 (i:Int) 1=((i+1:Nat):Int):=by rw[av (by omega) (by omega)];rfl
    have XQ:lW room ((m:Int)+1) i=true:=cf.2 ⟨by omega,by omega,by omega⟩;refine⟨_,ag.of (s:= .el (.one .ptr)) λw' h'=>wq ((H.gm hb (by simp)).ext h') q ((m:Int)+1) i,?_⟩;unfold bN;cases E:lM room ps ((m:Int)+1) i with
    |none=>
     have hz:gp ps ((m:Int)+1) i=zP:=by
      rw[og XQ] at E;by_cases e:gp ps ((m:Int)+1) i=zP
      ·exact e
      ·rw[ao e] at E;cases E
     refine⟨λh=>by simp at h,false,λh=>by simp at h,λh=>by simp at h,λh=>by simp at h,(0:Int),λh=>by simp at h,λh=>by simp at h,false,λh=>by simp at h,an rfl λF B=>⟨A - 1,by omega,i+1,bs,N,by omega,f,l,λh=>⟨(d h).1,(d h).2.1,λj t=>?_⟩,H.ext B⟩⟩;rcases Nat.lt_or_ge j i with k|k
     ·exact(d h).2.2 j k
     ·obtain rfl:j=i:=by omega
      exact λc=>absurd hz c
    |some kk=>
     obtain⟨lz,nV,OP⟩:=dU E;have sP:kk<512:=by rw[nV];exact lD lz Ew
     have O:=q.get sP;have P:ps.getD kk zP=gp ps ((m:Int)+1) i:=by rw[nV];rfl
     have Q:Ed room ps ((m:Int)+1) (ps.getD kk zP).2.1:=⟨i,lz,by rw[<-P];exact OP,by rw[P]⟩;have hr:=Q.sS T;refine⟨λ_=>⟨rfl,by omega,by omega⟩,aj.bN 0 H rfl (mg (by rw[f.1];omega)) ⟨λ_=>rfl,λ_=>rfl,aj.iQ H hb (by simp) (vF O (by decide) rfl) ⟨λ_=>⟨rfl,by omega,by omega⟩,aj.bN 0 H rfl (mg (by rw[f.1];omega)) (ab (λR=>?_) (λR=>?_))⟩⟩⟩
     ·have y:tv bs ((m:Int)+1)≠tv bs (ps.getD kk zP).2.1:=by simpa using R
      have S:((m:Int)+1).toNat<bs.length:=by rw[f.1];omega
      have L8:(ps.getD kk zP).2.1.toNat<(bs.set ((m:Int)+1).toNat true).length:=by rw[EF,f.1];omega
      have YS:Lk room ps a ((m:Int)+1)/\Lk room ps a (ps.getD kk zP).2.1:=by
       cases o:tv bs ((m:Int)+1) with
       |true=>
        have k:=f.2.2 _ (by omega) o;exact⟨k,.fwd k Q⟩
       |false=>
        rw[o] at y;have k:=f.2.2 (ps.getD kk zP).2.1 (by omega) (by cases hh:tv bs (ps.getD kk zP).2.1 with|true=>rfl|false=>rw[hh] at y;exact absurd rfl y);exact⟨.bwd k Q,k⟩
      refine⟨rfl,rfl,aj.iQ H hb (by simp) (vF O (by decide) rfl) ⟨⟨rfl,by omega,by omega⟩,rG 0 H rfl S λF H=>⟨?_,trivial,trivial,⟨rfl,by omega,by omega⟩,rG 0 H rfl L8 λw8 H w9 h9=>⟨A - 1,by omega,i+1, _,N,by omega,(f.set (by omega) (u:=(m:Int)+1) (by omega) YS.1).set (by omega) (u:=(ps.getD kk zP).2.1) (by omega) YS.2,λ_=>?_,(λh=>by cases h),H.ext h9⟩⟩⟩⟩
      ·show cI F (ae (some ⟨bp,kk*5,none⟩) 1) _ _;rw[aL];exact bI (H.gm hb (by simp)) (vF O (by decide) rfl)
      ·have f1:=iW S;have f2:=iW L8;have hle:mL bs<=mL r:=by
        cases more with
        |true=>exact Nat.le_of_lt (l rfl)
        |false=>rw[(d rfl).1];exact DS _
       have e7:(bs.set ((m:Int)+1).toNat true).getD (ps.getD kk zP).2.1.toNat false=tv bs (ps.getD kk zP).2.1:=by
        have:=iD (bs:=bs) (u:=(m:Int)+1) (v:=(ps.getD kk zP).2.1) (by omega) S (by omega);rw[ao (by omega)] at this;exact this
       have e8:bs.getD ((m:Int)+1).toNat false=tv bs ((m:Int)+1):=rfl;rw[e7] at f2;rw[e8] at f1;generalize tv bs (ps.getD kk zP).2.1=t1 at f2 y;generalize tv bs ((m:Int)+1)=t2 at f1 y;have Hy:(t1=false/\t2=true)\/(t1=true/\t2=false):=by
        cases t1<;>cases t2<;>first|exact absurd rfl y|exact .inl ⟨rfl,rfl⟩|exact .inr ⟨rfl,rfl⟩
       rcases Hy with ⟨rfl,rfl⟩|⟨rfl,rfl⟩
       ·rw[ax rfl] at f2;rw[ao (by decide)] at f1;omega
       ·rw[ao (by decide)] at f2;rw[ax rfl] at f1;omega
     ·have heq:tv bs ((m:Int)+1)=tv bs (ps.getD kk zP).2.1:=by simpa using R
      refine λF B=>⟨A - 1,by omega,i+1,bs,N,by omega,f,l,λh=>⟨(d h).1,(d h).2.1,λj t=>?_⟩,H.ext B⟩;rcases Nat.lt_or_ge j i with k|k
      ·exact(d h).2.2 j k
      ·obtain rfl:j=i:=by omega
       intro _;rw[<-P];exact heq
   ·have hi:i=room.toNat:=by simp at M;omega
    refine λF B=>⟨J - 1,by omega,m+1,bs,by rw[av (by omega) (by omega)];omega,by omega,f,l,λh=>⟨(d h).1,λg j t hg=>?_⟩,H.ext B⟩;by_cases e:g<=m
    ·exact(d h).2.1 g j t e
    ·have e2:g=(m:Int)+1:=by omega
     subst e2;have y8:=cf.1 t;have:=(d h).2.2 j.toNat (by omega);rwa[show((j.toNat:Nat):Int)=j by omega] at this
  ·have ME:m=16:=by simp at K;omega
   refine λZ L=>⟨mL bs+(if more=true then 1 else 0),?_,bs,f,rfl,λh g i hi=>(d h).2 g i hi (by have:=cf.1 hi;omega),H.ext L⟩;cases more with
   |true=>have:=l rfl;simp;omega
   |false=>rw[(d rfl).1];simp;omega
end
end Go.Proofs.YteeflilbnoknnaaGreat.Po
namespace Go.Proofs.YteeflilbnoknnaaGreat
set_option maxRecDepth 100000
open Go.RX
open Po (tv vZ mg iD mL iW oD rG)
inductive Rc (E:Int->Int->Prop) (a:Int):Int->Prop
 |refl:Rc E a a
 |step {u v:Int}:Rc E a u->E u v->Rc E a v
theorem Rc.head {E:Int->Int->Prop} {a b v:Int} (h:E a b) (k:Rc E b v):Rc E a v:=by
 induction k with
 |refl=>exact .step .refl h
 |step _ e c=>exact .step c e
theorem Rc.inv {E:Int->Int->Prop} {a v:Int} (h:Rc E a v) (S:Int->Prop) (b:S a) (c: ∀u v,S u->E u v->S v):S v:=by
 induction h with
 |refl=>exact b
 |step _ e d=>exact c _ _ d e
structure OX (E:Int->Int->Prop) (n:Int) (bs v7:List Bool):Prop where
 len:v7.length=17
 mono: ∀v,0<=v->tv bs v=true->tv v7 v=true
 Ez:tv v7 n=true
 snd: ∀v,0<=v->tv v7 v=true->tv bs v=true\/Rc E n v
 cls: ∀u v,0<=u->tv v7 u=true->tv bs u=false->E u v->tv v7 v=true
 mL:mL v7<=mL bs
theorem OX.same {E:Int->Int->Prop} {n:Int} {bs:List Bool} (a:bs.length=17) (h:tv bs n=true):OX E n bs bs:=
 ⟨a,λ_ _ h=>h,h,λ_ _ h=> .inl h,λu v _ b h2=>(by rw[b] at h2;cases h2),DS _⟩
structure Lp (E:Int->Int->Prop) (n:Int) (bs cs:List Bool):Prop where
 len:cs.length=17
 mono: ∀v,0<=v->tv bs v=true->tv cs v=true
 Ez:tv cs n=true
 snd: ∀v,0<=v->tv cs v=true->tv bs v=true\/Rc E n v
 cls: ∀u v,0<=u->u≠n->tv cs u=true->tv bs u=false->E u v->tv cs v=true
 mL:mL cs+(if tv bs n=false then 1 else 0)<=mL bs
theorem Lp.init {E:Int->Int->Prop} {n:Int} {bs:List Bool} (d:bs.length=17) (a:0<=n/\n<=16):Lp E n bs (bs.set n.toNat true):=by
 have b:n.toNat<bs.length:=by omega
 refine⟨by rw[EF];exact d,λv hv h=>?_,?_,λv hv h=>?_,λu v f g c h2 _=>?_,Nat.le_of_eq (iW b)⟩
 ·rw[iD a.1 b hv];split
  ·rfl
  ·exact h
 ·rw[iD a.1 b a.1,ax rfl]
 ·rw[iD a.1 b hv] at h;split at h
  ·rename_i e;subst e;exact .inr .refl
  ·exact .inl h
 ·rw[iD a.1 b f,ao g,h2] at c;cases c
theorem Lp.call {E:Int->Int->Prop} {n m:Int} {bs cs b:List Bool} (h:Lp E n bs cs) (i:E n m) (d:OX E m cs b) (j:0<=n):Lp E n bs b:=by
 refine⟨d.len,λv hv a=>d.mono v hv (h.mono v hv a),d.mono n j h.Ez,λv hv a=>?_,λu v f k a h2 g=>?_,?_⟩
 ·rcases d.snd v hv a with h2|h2
  ·exact h.snd v hv h2
  ·exact .inr (.head i h2)
 ·cases hc:tv cs u with
  |true=>
   have c:=h.cls u v f k hc h2 g;by_cases hv:0<=v
   ·exact d.mono v hv c
   ·have e:tv b v=tv b 0:=by unfold tv;rw[show v.toNat=(0:Int).toNat by omega]
    have l:tv cs v=tv cs 0:=by unfold tv;rw[show v.toNat=(0:Int).toNat by omega]
    rw[e];rw[l] at c;exact d.mono 0 (Int.le_refl _) c
  |false=>exact d.cls u v f a hc g
 ·have:=h.mL;have:=d.mL;omega
theorem Lp.done {E:Int->Int->Prop} {n:Int} {bs cs:List Bool} (h:Lp E n bs cs) (b: ∀v,E n v->tv cs v=true):OX E n bs cs:=
 ⟨h.len,h.mono,h.Ez,h.snd,λu v c d h2 a=>by
  by_cases e:u=n
  ·subst e;exact b v a
  ·exact h.cls u v c e d h2 a,by have:=h.mL;omega⟩
theorem OX.iff {E:Int->Int->Prop} {a b:Int} {v7:List Bool} (d:OX E a (B2 17 false) v7) (hb:0<=b) (f: ∀u v,E u v->0<=u):tv v7 b=true<->Rc E a b:=by
 have h0: ∀v,tv (B2 17 false) v=false:=λv=>by
  unfold tv;rw[B4,IR];split<;>rfl
 constructor
 ·intro h;rcases d.snd b hb h with c|c
  ·rw[h0] at c;cases c
  ·exact c
 ·intro h
  induction h with
  |refl=>exact d.Ez
  |step _ e g=>exact d.cls _ _ (f _ _ e) (g (f _ _ e)) (h0 _) e
open Po (tv vZ mg iD mL iW oD rG)
def Mm (gs:List GT) (u v:Int):Prop:= ∃x∈gs,x≠zG/\((x.1=u/\x.2.2.1=v)\/(x.1=v/\x.2.2.1=u))
def ki (gs:List GT):Prop:= ∀x∈gs,(x=zG\/((1<=x.1/\x.1<=16)/\(1<=x.2.2.1/\x.2.2.1<=16)/\x.1≠x.2.2.1/\0<=x.2.1/\x.2.1<65536))/\0<=x.2.2.2.2.1/\x.2.2.2.2.1<=1000
open Classical in
noncomputable def rH (gs:List GT) (a b:Int):Bool:=gG a&&(gG b&&decide (Rc (Mm gs) a b))
theorem qX {gs:List GT} {a b:Int}:rH gs a b=true<->gG a=true/\gG b=true/\Rc (Mm gs) a b:=by
 unfold rH;simp
theorem Nz {gs:List GT} (h:ki gs) {u v:Int} (e:Mm gs u v):(1<=u/\u<=16)/\(1<=v/\v<=16):=by
 obtain⟨x,b,c,d⟩:=e;rcases(h x b).1 with a|⟨a,h2, _⟩
 ·exact absurd a c
 ·rcases d with ⟨rfl,rfl⟩|⟨rfl,rfl⟩
  ·exact⟨a,h2⟩
  ·exact⟨h2,a⟩
theorem qL {g:Int}:gG g=true<->1<=g/\g<=16:=by unfold gG;simp
section
variable {w0:A1} {bg br c:Nat} {gs:List GT} {rest:List A3}
abbrev rI (be a b bg:Nat) (bs:List Bool) (L:List (Nat×List A3)):List (Nat×List A3):=
 (be,[.func (.func 172) #[] #[ah (ad a),ah (ad b),ah (ad be)]])::(a,vZ bs)::(b,[ah (ad bg)])::L
theorem FA (Q:ki gs) (hl:gs.length<=64) {be g o:Nat} {L:List (Nat×List A3)} (Z:bh w0 bg (jU br gs.length c)) (hw:bh w0 br (flat eG gs++rest)):
 ∀(q:Nat) (bs:List Bool),mL bs<=q->bs.length=17-> ∀{w:A1} {n:Int},1<=n/\n<=16->At [] w0 w (rI be g o bg bs L)-> ∀{K:Unit->A1->Prop},(∀v7 p,OX (Mm gs) n bs v7->At [] w0 p (rI be g o bg v7 L)->K () p)->
 aB A2 172 (.bH []) [aa n,ah (ad g),ah (ad o),ah (ad be)] w K:=by
 intro q
 induction q with
 |zero=>
  intro bs hq hb w n R H K k;refine aB.go H λw1 H=>ai (C:=G4) (aM:=iG) (A_ (rW n _ _ _ w1 K) ?_);have A:n.toNat<bs.length:=by omega
  refine⟨⟨rfl,by omega,by show n<((17:Nat):Int);omega⟩,aj.bN 1 H rfl (mg A) ?_⟩;have B:tv bs n=true:=by
   cases h:tv bs n with
   |true=>rfl
   |false=>
    have:=iW (bs:=bs) A;have h:bs.getD n.toNat false=false:=h;rw[h,ax rfl] at this;omega
  exact ay B (ak.go H λp H=>k bs p (.same hb B) H)
 |succ q S=>
  intro bs hq hb w n R H K k;refine aB.go H λw1 H=>ai (C:=G4) (aM:=iG) (A_ (rW n _ _ _ w1 K) ?_);have A:n.toNat<bs.length:=by omega
  have T:(some (⟨g,0,none⟩:A9)).isSome=true/\0<=n/\n<((17:Nat):Int):=⟨rfl,by omega,by omega⟩;refine⟨T,aj.bN 1 H rfl (mg A) ?_⟩;cases B:tv bs n with
  |true=>exact ay rfl (ak.go H λp H=>k bs p (.same hb B) H)
  |false=>
  refine an rfl ⟨T,rG 1 H rfl A λp H=>aj.at 2 H rfl rfl ⟨rfl,rfl,aj.iQ H Z (by simp) rfl ?_⟩⟩;have L0:=Lp.init (E:=Mm gs) hb ⟨by omega,R.2⟩;have U: ∀{cs},Lp (Mm gs) n bs cs->mL cs<=q:=λ{cs} h=>by
   have:=h.mL;rw[B,ax rfl] at this;omega
  refine⟨λm v w'=> ∃(i:Nat) (cs:List Bool),v.1=(i:Int)/\m+i=gs.length/\Lp (Mm gs) n bs cs/\(∀(k:Nat) (x:GT),k<i->gs[k]? =some x->x≠zG->(x.1=n->tv cs x.2.2.1=true)/\(x.2.2.1=n->tv cs x.1=true))/\At [] w0 w' (rI be g o bg cs L),⟨gs.length,λw3 I=>⟨0, _,rfl,rfl,L0,λk x D=>absurd D (Nat.not_lt_zero _),H.ext I⟩⟩,?_⟩;clear H;rintro m ⟨v,u⟩ w3 ⟨i,cs,e,YT,j,V,H⟩;dsimp only at e ⊢;subst e;refine ab (λJ=>?_) (λJ=>ak.go H λs H=>k cs s (j.done ?_) H)
  ·have hi:i<gs.length:=by simpa using J
   have t:gs[i]? =some (gs.getD i zG):=by
    rw[B4,B1 hi];rfl
   obtain⟨x,tj⟩: ∃x,x=gs.getD i zG:=⟨_,rfl⟩;rw[<-tj] at t;have M:=Bp t;have xX:aC .i64 (i:Int) 1=((i+1:Nat):Int):=by rw[av (by omega) (by omega)];omega
   rw[xX];have F: ∀{l:List Bool} {s:A1},Lp (Mm gs) n bs l->(∀v,0<=v->tv cs v=true->tv l v=true)->(x≠zG->(x.1=n->tv l x.2.2.1=true)/\(x.2.2.1=n->tv l x.1=true))->At [] w0 s (rI be g o bg l L)-> ∀z,Ext s z-> ∃W,W<m/\ ∃(N:Nat) (cs:List Bool),((i+1:Nat):Int)=(N:Int)/\W+N=gs.length/\Lp (Mm gs) n bs cs/\(∀(k:Nat) (x:GT),k<N->gs[k]? =some x->x≠zG->(x.1=n->tv cs x.2.2.1=true)/\(x.2.2.1=n->tv cs x.1=true))/\At [] w0 z (rI be g o bg cs L):=by
    intro l s SH X jB H z h5;refine⟨m - 1,by omega,i+1,l,rfl,by omega,SH,λk y D G a=>?_,H.ext h5⟩;have hr:1<=y.1/\1<=y.2.2.1:=by
     rcases(Q y (Bp G)).1 with f|⟨f,h2, _⟩
     ·exact absurd f a
     ·exact⟨f.1,h2.1⟩
    by_cases ek:k=i
    ·subst ek;rw[t] at G;cases G;exact jB a
    ·obtain⟨f,h2⟩:=V k y (by omega) G a;exact⟨λe=>X _ (by omega) (f e),λe=>X _ (by omega) (h2 e)⟩
   refine⟨⟨rfl,by omega,by omega⟩,aj.of x (eC (e:=eG) (H.gm hw (by simp)) t) (aA.go H λb s H=>aw.all 0 H rfl rfl rfl λz H=>aj.at 0 H rfl (show _=some x from rfl) ⟨trivial,?_⟩)⟩;rw[Ah];refine ab (λd=>F j (λ_ _ h=>h) (λa=>absurd (by simpa[dw] using d) a) (H.sub (B5 _ _))) (λd=>?_);have a:x≠zG:=by simpa[dw] using d
   obtain⟨r1,r2,Y⟩:(1<=x.1/\x.1<=16)/\(1<=x.2.2.1/\x.2.2.1<=16)/\x.1≠x.2.2.1:=by
    rcases(Q x M).1 with f|⟨f,h2,I, _⟩
    ·exact absurd f a
    ·exact⟨f,h2,I⟩
   refine⟨rfl,aj.bN 0 H rfl (show _=some x.1 from rfl) (ab (λd1=>?_) (λd1=>⟨rfl,aj.bN 0 H rfl (show _=some x.2.2.1 from rfl) (ab (λd2=>?_) (λd2=>?_))⟩))⟩
   ·have d1:x.1=n:=by simpa using d1
    refine aj.at 1 H rfl rfl ⟨rfl,aj.bN 0 H rfl (show _=some x.2.2.1 from rfl) ?_⟩;have H:At [] w0 z (rI be g o bg cs L):=H.sub (B5 _ _);refine S cs (U j) j.len r2 H λl w6 r H=>F (j.call ⟨x,M,a,.inl ⟨d1,rfl⟩⟩ r (by omega)) r.mono (λ_=>⟨λ_=>r.Ez,λe=>absurd (d1.trans e.symm) Y⟩) H
   ·have d2:x.2.2.1=n:=by simpa using d2
    refine aj.at 1 H rfl rfl ⟨rfl,aj.bN 0 H rfl (show _=some x.1 from rfl) ?_⟩;have H:At [] w0 z (rI be g o bg cs L):=H.sub (B5 _ _);refine S cs (U j) j.len r1 H λl w6 r H=>F (j.call ⟨x,M,a,.inr ⟨rfl,d2⟩⟩ r (by omega)) r.mono (λ_=>⟨λe=>absurd (e.trans d2.symm) Y,λ_=>r.Ez⟩) H
   ·have d1: ¬ x.1=n:=by simpa using d1
    have d2: ¬ x.2.2.1=n:=by simpa using d2
    exact F j (λ_ _ h=>h) (λ_=>⟨λe=>absurd e d1,λe=>absurd e d2⟩) (H.sub (B5 _ _))
  ·have hi: ¬ i<gs.length:=by simpa using J
   rintro v ⟨x,t,a,hh⟩;obtain⟨k,D⟩:=Eo t;have vo:=(B3.1 D).1;obtain⟨f,h2⟩:=V k x (by omega) D a;rcases hh with ⟨O,P⟩|⟨O,P⟩
   ·rw[<-P];exact f O
   ·rw[<-O];exact h2 P
theorem Cs {w:A1} (h:bh w bg (jU br gs.length c)) (j:bh w br (flat eG gs++rest)) (h0:0<gs.length) (k:gs.length<=64) (g:ki gs) (a b:Int):
 ar A2 87 (.el (.one .bool)) [ah (ad bg),aa a,aa b] w (λx w'=>x=rH gs a b/\Ext w w'):=by
 refine ai (C:=G4) (aM:=λ_=>[]) (A_ (Cc _ a b w _) ?_);have H:=At.start [] w;refine aA.go H λl r H=>aj.at 0 H rfl rfl ⟨_,kC (h.ext H.all) h0,λ_=>trivial,λ_=>trivial,ab (λd=>ak.go H λm H=>⟨?_,H.all⟩) (λd=>?_)⟩
 ·unfold rH;cases f:gG a<;>cases hb:gG b<;>rw[f,hb] at d<;>first|rfl|(cases d)
 have f:gG a=true:=by
  cases f:gG a with
  |true=>rfl
  |false=>rw[f] at d;cases d
 have hb:gG b=true:=by
  cases hb:gG b with
  |true=>rfl
  |false=>rw[f,hb] at d;cases d
 have n:=qL.1 f;have s:=qL.1 hb;refine aA.go H λo m H=>aA.go H λbe t H=>aw.all 0 H rfl rfl rfl λp H=>aj.at 0 H rfl rfl ?_;have H:At [] w p (rI be o l bg (B2 17 false) []):=H;refine FA g k h j (mL (B2 17 false)) (B2 17 false) (DS _) (by simp) n H λv7 y i H=>?_;have q:b.toNat<v7.length:=by rw[i.len];omega
 refine⟨⟨rfl,by omega,by show b<((17:Nat):Int);omega⟩,aj.bN 1 H rfl (mg q) (ak.go H λz H=>⟨?_,H.all⟩)⟩;have:=i.iff (b:=b) (by omega) λu v e=>by have:=Nz g e;omega
 rw[H5,qX,this];exact⟨λh=>⟨f,hb,h⟩,λh=>h.2.2⟩
end
theorem ki.set {gs:List GT} (h:ki gs) (i:Nat) {x:GT} (b:(x=zG\/((1<=x.1/\x.1<=16)/\(1<=x.2.2.1/\x.2.2.1<=16)/\x.1≠x.2.2.1/\0<=x.2.1/\x.2.1<65536))/\0<=x.2.2.2.2.1/\x.2.2.2.2.1<=1000):ki (gs.set i x):=λy a=>by
 rcases HO a with a|rfl
 ·exact h y a
 ·exact b
theorem Iq:((zG:GT)=zG\/((1<=zG.1/\zG.1<=16)/\(1<=zG.2.2.1/\zG.2.2.1<=16)/\zG.1≠zG.2.2.1/\0<=zG.2.1/\zG.2.1<65536))/\0<=zG.2.2.2.2.1/\zG.2.2.2.2.1<=1000:=⟨.inl rfl,by decide,by decide⟩
theorem ki.rev {gs:List GT} (h:ki gs) (i o:Int):ki (ji gs i o):=by
 unfold ji;split
 ·exact h.set _ Iq
 ·exact h
theorem ki.at {gs:List GT} (h:ki gs) {i:Int} {k:Nat} (a:jK gs i=some k):((1<=(gs.getD k zG).1/\(gs.getD k zG).1<=16)/\(1<=(gs.getD k zG).2.2.1/\(gs.getD k zG).2.2.1<=16)/\(gs.getD k zG).1≠(gs.getD k zG).2.2.1/\0<=(gs.getD k zG).2.1/\(gs.getD k zG).2.1<65536)/\0<=(gs.getD k zG).2.2.2.2.1/\(gs.getD k zG).2.2.2.2.1<=1000:=by
 obtain⟨_, _, _,b,c⟩:=jn a;obtain⟨d,h2⟩:=h _ (Bp b);exact⟨d.resolve_left c,h2⟩
theorem ki.take {gs:List GT} (h:ki gs) (i g:Int) (b:Bool):ki (db gs i g b):=by
 unfold db;split
 ·rename_i a;unfold fq at a;cases c:jK gs i with
  |none=>rw[c] at a;cases a
  |some k=>
   rw[c] at a;dsimp only at a;obtain⟨d,h2⟩:=h.at c;obtain⟨_, _,e, _⟩:=jn c;subst e;split at a
   ·cases a
   ·split at a
    ·cases a
    ·rename_i f;refine h.set _ ⟨.inr d,?_,?_⟩
     ·show 0<=(gs.getD i.toNat zG).2.2.2.2.1+1;omega
     ·show(gs.getD i.toNat zG).2.2.2.2.1+1<=1000;omega
 ·exact h
theorem ki.back {gs:List GT} (h:ki gs) (i g:Int):ki (dK gs i g):=by
 unfold dK;split
 ·rename_i a;unfold j_ at a;cases b:jK gs i with
  |none=>rw[b] at a;cases a
  |some k=>
   rw[b] at a;dsimp only at a;obtain⟨c,h2⟩:=h.at b;obtain⟨_, _,d, _⟩:=jn b;subst d;split at a
   ·cases a
   ·split at a
    ·cases a
    ·rename_i e;refine h.set _ ⟨.inr c,?_,?_⟩
     ·show 0<=(gs.getD i.toNat zG).2.2.2.2.1+ -1;omega
     ·show(gs.getD i.toNat zG).2.2.2.2.1+ -1<=1000;omega
 ·exact h
theorem ki.off {gs:List GT} (h:ki gs) (o q t:Int) (b:Bool):ki (il gs o q t b):=by
 unfold il;split
 ·rename_i a;unfold jj at a;split at a
  ·cases a
  ·rename_i hc;have hc:gG o=true/\gG t=true/\o≠t/\0<=q/\q<65536:=by
    simp only[Bo,C7,beq_iff_eq,decide_eq_true_eq,not_or] at hc;obtain⟨⟨⟨⟨c,h2⟩,d⟩,f⟩,g⟩:=hc;exact⟨by simpa using c,by simpa using h2,d,by omega,by omega⟩
   have a1:=qL.1 hc.1;have e:=qL.1 hc.2.1;exact h.set _ ⟨.inr ⟨a1,e,hc.2.2⟩,Int.le_refl 0,(by decide:(0:Int)<=1000)⟩
 ·exact h
theorem ki.drop {gs:List GT} (h:ki gs) (g:Int):ki (cr gs g):=λy a=>by
 unfold cr at a;obtain⟨x,b,rfl⟩:=Gi.1 a;split
 ·exact Iq
 ·exact h x b
theorem ki.new (n:Nat):ki (B2 n zG):=λy a=>by
 rw[List.eq_of_mem_replicate a];exact Iq
theorem ki.use {gs:List GT} (h:ki gs): ∀x∈gs,0<=x.2.2.2.2.1/\x.2.2.2.2.1<=1000:=λx a=>(h x a).2
noncomputable def H0:dn A2:={C3 with rz:=false,quiet:=[91,92]}
theorem FB (w:A1) (u:Option Nat->A1->Prop):(aJ H0 (λ_=>[]) 96 [] w u)=(
 ∀w1,Ext w w1-> ∀c,Ext (w1.alloc (Obj.map ⟨[]⟩ 0)) c-> ∃(r:Nat), ∃(es:Array AX), ∃(a:Nat),some w1.heap.size=some r/\bE c r es a/\gz c r .i64 1 (.agg {toList:=[.string {data:=⟨[99,114,101,97,116,101]⟩},aa 0]}) es a λb=> ∀d,Ext b d-> ∃(r:Nat), ∃(es:Array AX), ∃(a:Nat),some w1.heap.size=some r/\bE d r es a/\gz d r .i64 2 (.agg {toList:=[.string {data:=⟨[100,101,115,116,114,111,121]⟩},aa 1]}) es a λb=> ∀e,Ext b e-> ∃(r:Nat), ∃(es:
 Array AX), ∃(a:Nat),some w1.heap.size=some r/\bE e r es a/\gz e r .i64 3 (.agg {toList:=[.string {data:=⟨[100,111,110,97,116,101]⟩},aa 2]}) es a λb=> ∀f,Ext b f-> ∃(r:Nat), ∃(es:Array AX), ∃(a:Nat),some w1.heap.size=some r/\bE f r es a/\gz f r .i64 4 (.agg {toList:=[.string {data:=⟨[114,101,99,108,97,105,109]⟩},aa 1]}) es a λb=> ∀g,Ext b g-> ∃(r:Nat), ∃(es:Array AX), ∃(a:Nat),some w1.heap.size=some r/\bE g r es a/\
 gz g r .i64 5 (.agg {toList:=[.string {data:=⟨[112,114,111,116,101,99,116]⟩},aa 2]}) es a λb=> ∀h,Ext b h-> ∃(r:Nat), ∃(es:Array AX), ∃(a:Nat),some w1.heap.size=some r/\bE h r es a/\gz h r .i64 6 (.agg {toList:=[.string {data:=⟨[108,111,97,100]⟩},aa 1]}) es a λb=> ∀i,Ext b i-> ∃(r:Nat), ∃(es:Array AX), ∃(a:Nat),some w1.heap.size=some r/\bE i r es a/\gz i r .i64 7 (.agg {toList:=[.string {data:=⟨[115,116,111,114,101]⟩},.int .i64
 2]}) es a λb=> ∀j,Ext b j-> ∃(r:Nat), ∃(es:Array AX), ∃(a:Nat),some w1.heap.size=some r/\bE j r es a/\gz j r .i64 8 (.agg {toList:=[.string {data:=⟨[111,102,102,101,114]⟩},aa 3]}) es a λb=> ∀k,Ext b k-> ∃(r:Nat), ∃(es:Array AX), ∃(a:Nat),some w1.heap.size=some r/\bE k r es a/\gz k r .i64 9 (.agg {toList:=[.string {data:=⟨[116,97,107,101]⟩},aa 3]}) es a λb=> ∀l,Ext b l-> ∃(r:Nat), ∃(es:Array AX), ∃(a:Nat),
 some w1.heap.size=some r/\bE l r es a/\gz l r .i64 10 (.agg {toList:=[.string {data:=⟨[98,97,99,107]⟩},aa 1]}) es a λb=> ∀m,Ext b m-> ∃(r:Nat), ∃(es:Array AX), ∃(a:Nat),some w1.heap.size=some r/\bE m r es a/\gz m r .i64 11 (.agg {toList:=[.string {data:=⟨[114,101,118,111,107,101]⟩},aa 1]}) es a λb=> ∀n,Ext b n-> ∃(r:Nat), ∃(es:Array AX), ∃(a:Nat),some w1.heap.size=some r/\bE n r es a/\gz n r .i64 12 (.agg {toList:=[.string
 {data:=⟨[111,112,101,110]⟩},aa 1]}) es a λb=> ∀o,Ext b o-> ∃(r:Nat), ∃(es:Array AX), ∃(a:Nat),some w1.heap.size=some r/\bE o r es a/\gz o r .i64 13 (.agg {toList:=[.string {data:=⟨[98,105,110,100]⟩},aa 2]}) es a λb=> ∀p,Ext b p-> ∃(r:Nat), ∃(es:Array AX), ∃(a:Nat),some w1.heap.size=some r/\bE p r es a/\gz p r .i64 14 (.agg {toList:=[.string {data:=⟨[115,101,110,100]⟩},aa 1]}) es a λb=> ∀q,Ext b q-> ∃(r
 :Nat), ∃(es:Array AX), ∃(a:Nat),some w1.heap.size=some r/\bE q r es a/\gz q r .i64 15 (.agg {toList:=[.string {data:=⟨[112,111,108,108]⟩},aa 0]}) es a λb=> ∀s,Ext b s-> ∃(r:Nat), ∃(es:Array AX), ∃(a:Nat),some w1.heap.size=some r/\bE s r es a/\gz s r .i64 16 (.agg {toList:=[.string {data:=⟨[99,108,111,115,101]⟩},aa 1]}) es a λb=> ∀t,Ext b t-> ∃(r:Nat), ∃(es:Array AX), ∃(a:Nat),some w1.heap.size=some r/\bE t r es
 a/\gz t r .i64 17 (.agg {toList:=[.string {data:=⟨[115,119,101,101,112]⟩},aa 0]}) es a λb=>ak b (u (some w1.heap.size))):=by kernel_rfl
theorem KL (k:Int) (w:A1) (d:Int->A1->Prop):(aJ H0 (λ_=>[]) 91 [aa k] w d)=(
 aB A2 96 (.el EG) [] w λx a=> ∃(c:ByteArray×Int×Unit), ∃(b:Bool),kV a x .i64 k (.agg {toList:=[.string {data:=⟨[]⟩},aa 0]}) (.agg ⟨[.string c.1,aa c.2.1]⟩) b/\aA a {toList:=[.string {data:=⟨[]⟩},aa 0]} 192 λe a=>aw a (ad e) [.string c.1,aa c.2.1] λa=>aF (!b) (ak a (d (-1))) (true=true/\aQ a (ae (ad e) 1) λx=>ak a (d x))):=by kernel_rfl
theorem AQ (k:Int) (w:A1) (a:Bool->A1->Prop):(aJ H0 (λ_=>[]) 63 [aa k] w a)=(
 ak w (a (k==1||k==2||k==17))):=by kernel_rfl
theorem FC (k a b c:Int) (w:A1) (e:Int×Int×Int×Unit->A1->Prop):(bO H0 (λ_=>[]) 92 [.agg ⟨[aa k,aq a,aq b,aq c]⟩] w e)=(
 aA w ⟨[aa k,aq a,aq b,aq c]⟩ 34 λb d=>aA d ⟨[aq 0,aq 0,aq 0]⟩ 184 λf d=>true=true/\cg d (ae (ad b) 1) λx=>true=true/\cg d (ae (ad b) 2) λg=>true=true/\cg d (ae (ad b) 3) λh=>aw d (ad f) [aq x,aq g,aq h] λd=>ak d λw1=>aj w1 none (ad f) (.agg [.int .u64,.int .u64,.int .u64]) λ(x:Int×Int×Int×Unit)=>e (x.1,x.2.1,x.2.2.1,()) w1):=by kernel_rfl
def nK:Nat->aV:=(λ|5=>[(13,Go.RX.El.one (Go.RX.Sc.int Es))]| _=>[])
theorem FD (k a b c:Int) (w:A1) (f:Bool->A1->Prop):(aJ H0 nK 29 [.agg ⟨[aa k,aq a,aq b,aq c]⟩] w f)=(
 aA w ⟨[aa k,aq a,aq b,aq c]⟩ 34 λb d=>true=true/\aQ d (ae (ad b) 0) λx=> ∃(g:Int),ag A2 91 [aa x] d (aa g)/\aF (g== -1) (ak d (f false)) (aj d none (ad b) nm λ(x:Int×Int×Int×Int×Unit)=> ∃(e:Int×Int×Int×Unit),ag A2 92 [.agg ⟨[aa x.1,aq x.2.1,aq x.2.2.1,aq x.2.2.2.1]⟩] d (.agg ⟨[aq e.1,aq e.2.1,aq e.2.2.1]⟩)/\ ∃(I:Nat->Int×Unit->A1->Prop),(∃n, ∀w1,Ext d w1->I n (0,()) w1)/\ ∀
 (n:Nat) (s:Int×Unit) (w1:A1),I n s w1->aF (decide (s.1<3)) ((0<=s.1/\s.1<(↑3:Int))/\aF (decide (s.1>=g)&&Bf [e.1,e.2.1,e.2.2.1] s.1 != 0) (ak w1 (f false)) (∀h,Ext w1 h-> ∃(i:Nat),i<n/\I i (aC .i64 s.1 1,()) h)) (ak w1 (f true)))):=by kernel_rfl
end Go.Proofs.YteeflilbnoknnaaGreat
namespace Go.RX
set_option maxRecDepth 100000
open Go.RowKit
def lb:Obj->Prop
 | .cells .. =>False
 | _=>True
theorem lb.ne {o:Obj} (h:lb o): ∀a t f,o≠ .cells a t f:=λa t f e=>by subst e;exact h
structure gW (D G:List Nat) (w0 w:A1) (L:List (Nat×List A3)) (M:List (Nat×Obj)):Prop where
 base:aH D G w0 w L
 obj: ∀x∈M,w.heap[x.1]? =some x.2/\lb x.2
 own: ∀x∈M,w0.heap.size<=x.1\/x.1∈G
 nd:(M.map (·.1)).Nodup
 nD: ∀x∈M,x.1∉D
namespace gW
variable {D G:List Nat} {w0 w w1:A1} {L L':List (Nat×List A3)} {M M':List (Nat×Obj)}
theorem ext (H:gW D G w0 w L M) (h:Ext w w1):gW D G w0 w1 L M:=
 ⟨H.base.ext h,λx a=>⟨h.obj (H.obj x a).1,(H.obj x a).2⟩,H.own,H.nd,H.nD⟩
theorem start (G:List Nat) (w:A1):gW [] G w w [] []:=⟨At.start G w,λx a=>(by cases a),λx a=>(by cases a),Ia,λx a=>(by cases a)⟩
theorem of (H:aH D G w0 w L):gW D G w0 w L []:=⟨H,λx a=>(by cases a),λx a=>(by cases a),Ia,λx a=>(by cases a)⟩
theorem sub (H:gW D G w0 w L M) (h:L'.Sublist L):gW D G w0 w L' M:=⟨H.base.sub h,H.obj,H.own,H.nd,H.nD⟩
theorem perm (H:gW D G w0 w L M) (h:L'.Perm L):gW D G w0 w L' M:=⟨H.base.perm h,H.obj,H.own,H.nd,H.nD⟩
theorem EI (H:gW D G w0 w L M) (h:M'.Sublist M):gW D G w0 w L M':=⟨H.base,λx a=>H.obj x (h.subset a),λx a=>H.own x (h.subset a),(h.map _).nodup H.nd,λx a=>H.nD x (h.subset a)⟩
theorem pj (H:gW D G w0 w L M) (h:M'.Perm M):gW D G w0 w L M':=⟨H.base,λx a=>H.obj x (h.subset a),λx a=>H.own x (h.subset a),(h.map _).nodup_iff.2 H.nd,λx a=>H.nD x (h.subset a)⟩
theorem get (H:gW D G w0 w L M) {i r:Nat} {o:Obj} (h:M[i]? =some (r,o)):w.heap[r]? =some o:=(H.obj (r,o) (Bp h)).1
theorem BJ (H:gW D G w0 w L M) {x:Nat×List A3} (b:x∈L) {y:Nat×Obj} (a:y∈M):x.1≠y.1:=
 aH.cN (H.base.cX x b) (H.obj y a).1 (H.obj y a).2.ne
theorem join (H:gW D G w0 w L M) (K:At (L.map (·.1)) w w1 L'):gW D G w0 w1 L' M:=by
 refine⟨H.base.join (λx a=>a) K,λy b=>⟨?_,(H.obj y b).2⟩,H.own,H.nd,H.nD⟩;have c:=(H.obj y b).1;rw[K.fr.block y.1 (Et.1 c).1 (λd=>?_)]
 ·exact c
 ·obtain⟨x,a,e⟩:=Gi.1 d;exact H.BJ a b e
theorem put (H:gW D G w0 w L M) {i r:Nat} {o:Obj} (h:M[i]? =some (r,o)) {o':Obj} (m:lb o'):gW D G w0 (w.putObj r o') L (M.set i (r,o')):=by
 have b:=Bp h;obtain⟨n,h2⟩:=H.obj _ b;have p:r<w.heap.size:=(Et.1 n).1;have s:(M.set i (r,o')).map (·.1)=M.map (·.1):=by
  apply Ey;intro j;rw[EH,EH];by_cases e:i=j
  ·subst e;rw[DB (B3.1 h).1,h];rfl
  ·rw[Bq e]
 refine⟨⟨⟨H.base.fr.os,H.base.fr.tape,H.base.fr.output,by rw[putObj_size];exact H.base.fr.size,λk t g=>?_⟩,λx a=>(H.base.cX x a).putObj (H.BJ a b) _,H.base.own,H.base.nd,λq d=>⟨(H.base.nv q d).1,?_⟩⟩,λx a=>?_,λx a=>?_,by rw[s];exact H.nd,λx a=>?_⟩
 ·rw[eR (λe=>?_)]
  ·exact H.base.fr.block k t g
  ·subst e;rcases H.own _ b with f|f
   ·simp only at f;omega
   ·exact g f
 ·rw[eR (λe=>H.nD _ b (by rw[<-e];exact d))];exact(H.base.nv q d).2
 ·obtain⟨j,c⟩:=Eo a;by_cases e:i=j
  ·subst e;rw[DB (B3.1 h).1] at c;cases c;exact⟨iq p,m⟩
  ·rw[Bq e] at c;have l:=H.obj x (Bp c);refine⟨?_,l.2⟩;rw[eR (λu=>?_)]
   ·exact l.1
   ·have v:(M.map (·.1))[i]? =some r:=by rw[EH,h];rfl
    have y:(M.map (·.1))[j]? =some r:=by rw[EH,c];exact congrArg some u
    have:=(List.getElem?_inj (by rw[H2];exact(B3.1 h).1) H.nd).1 (v.trans y.symm);exact e this
 ·rcases HO a with a|rfl
  ·exact H.own x a
  ·exact H.own (r,o) b
 ·rcases HO a with a|rfl
  ·exact H.nD x a
  ·exact H.nD (r,o) b
theorem alloc (H:gW D G w0 w L M) {o:Obj} (c:lb o):gW D G w0 (w.alloc o) L ((w.heap.size,o)::M):=by
 have b:=H.ext (Ext.alloc w o);have d:(w.alloc o).heap[w.heap.size]? =some o:=by
  show(w.heap.push o)[w.heap.size]? =some o;simp
 refine⟨b.base,λx a=>?_,λx a=>?_,?_,λx a=>?_⟩
 ·rcases FS.1 a with rfl|a
  ·exact⟨d,c⟩
  ·exact b.obj x a
 ·rcases FS.1 a with rfl|a
  ·exact .inl H.base.fr.size
  ·exact H.own x a
 ·refine List.nodup_cons.2 ⟨λf=>?_,H.nd⟩;obtain⟨y,g,e⟩:=Gi.1 f;have:=(Et.1 (H.obj y g).1).1;simp only at e;omega
 ·rcases FS.1 a with rfl|a
  ·intro h;have:=(Et.1 (H.base.nv _ h).2).1;simp only at this;omega
  ·exact H.nD x a
theorem all (H:gW [] [] w0 w L M):Ext w0 w:=H.base.all
end gW
end Go.RX
namespace Go.Proofs.YteeflilbnoknnaaGreat
set_option maxRecDepth 100000
open Go.RX
theorem fI {D G:List Nat} {w0 w:A1} {L:List (Nat×List A3)} {M:List (Nat×Obj)} {r:Nat} {l:List AX} {c:Nat} (H:gW D G w0 w L ((r,.map ⟨l⟩ c)::M)) {n:Int} {val:A3} {K:A1->Prop} (g:ED (.int .i64) (aa n) l 0=some none)
 (k: ∀a,gW D G w0 a L ((r,.map ⟨l++[{key:=aa n,val,born:=c}]⟩ (c+1))::M)->K a):
 ∀w1,Ext w w1-> ∃r' b d,some r=some r'/\bE w1 r' b d/\gz w1 r' .i64 n val b d K:=λw1 h=>by
 have f:=H.ext h;refine⟨r,⟨l⟩,c,rfl,f.get (i:=0) rfl,?_⟩;unfold gz;rw[show(Array.toList ⟨l⟩)=l from rfl,g];have e:Array.push ⟨l⟩ {key:=aa n,val,born:=c}=⟨l++[{key:=aa n,val,born:=c}]⟩:=List.push_toArray _ _;show K (w1.putObj r (.map (Array.push ⟨l⟩ {key:=aa n,val,born:=c}) (c+1)));rw[e];exact k _ (f.put (i:=0) rfl trivial)
theorem _root_.Go.RX.gW.Ph {D G:List Nat} {w0 w:A1} {L:List (Nat×List A3)} {M:List (Nat×Obj)} {r:Nat} {l l':List AX} {c:Nat} (H:gW D G w0 w L ((r,.map ⟨l⟩ c)::M)) (e:l=l'):gW D G w0 w L ((r,.map ⟨l'⟩ c)::M):=by
 subst e;exact H
def cQ (k:Int) (s:ByteArray) (n:Int) (b:Nat):AX:={key:=aa k,val:= .agg ⟨[.string s,aa n]⟩,born:=b}
def b_:Array AX:=⟨[cQ 1 ⟨⟨[99,114,101,97,116,101]⟩⟩ 0 0,cQ 2 ⟨⟨[100,101,115,116,114,111,121]⟩⟩ 1 1,cQ 3 ⟨⟨[100,111,110,97,116,101]⟩⟩ 2 2,cQ 4 ⟨⟨[114,101,99,108,97,105,109]⟩⟩ 1 3,cQ 5 ⟨⟨[112,114,111,116,101,99,116]⟩⟩ 2 4,cQ 6 ⟨⟨[108,111,97,100]⟩⟩ 1 5,cQ 7 ⟨⟨[115,116,111,114,101]⟩⟩ 2 6,cQ 8 ⟨⟨[111,102,102,101,114]⟩⟩ 3 7,cQ 9 ⟨⟨[116,97,107,101]⟩⟩ 3 8,cQ 10 ⟨⟨[98,97,99,107]⟩⟩ 1 9,cQ 11 ⟨⟨[114,101,118,111,107,101]⟩⟩ 1 10,cQ 12 ⟨⟨[111,112,101,110]⟩⟩ 1 11,cQ 13 ⟨⟨[98,105,110,100]⟩⟩ 2 12,cQ 14 ⟨⟨[115,101,110,100]⟩⟩ 1 13,cQ 15 ⟨⟨[112,111,108,108]⟩⟩ 0 14,cQ 16 ⟨⟨[99,108,111,115,101]⟩⟩ 1 15,cQ 17 ⟨⟨[115,119,101,101,112]⟩⟩ 0 16]⟩
def cP (k:Int):Int:=if 1<=k/\k<=17 then([0,1,2,1,2,1,2,3,3,1,1,1,2,1,0,1,0]:List Int).getD (k - 1).toNat 0 else -1
def dT (k a b c:Int):Bool:=decide (cP k>=0)&&((decide (cP k>0)||a==0)&&((decide (cP k>1)||b==0)&&(decide (cP k>2)||c==0)))
def xZ (k:Int):Bool:=k==1||k==2||k==17
section
variable {D G:List Nat} {w0 w:A1} {L:List (Nat×List A3)} {M:List (Nat×Obj)}
theorem m7 (H:gW D G w0 w L M) {K:Option Nat->A1->Prop} (k: ∀r a,gW D G w0 a L ((r,.map b_ 17)::M)->K (some r) a):aB A2 96 (.el (.one .map)) [] w K:=by
 refine λw1 b=>ai (C:=H0) (aM:=λ_=>[]) (A_ (FB w1 K) ?_);have H:=H.ext b;intro c d;have H:=(H.ext d).alloc (o:= .map #[] 0) trivial;refine fI H (by kernel_rfl) λg H=>?_;refine fI H (by kernel_rfl) λh H=>?_;refine fI H (by kernel_rfl) λi H=>?_;refine fI H (by kernel_rfl) λj H=>?_;refine fI H (by kernel_rfl) λl H=>?_;refine fI H (by kernel_rfl) λm H=>?_;refine fI H (by kernel_rfl) λn H=>?_;refine fI H (by kernel_rfl) λp H=>?_;refine fI H (by kernel_rfl) λq H=>?_;refine fI H (by kernel_rfl) λs H=>?_;refine fI H (by kernel_rfl) λt H=>?_;refine fI H (by kernel_rfl) λu H=>?_;refine fI H (by kernel_rfl) λv H=>?_;refine fI H (by kernel_rfl) λx H=>?_;refine fI H (by kernel_rfl) λy H=>?_;refine fI H (by kernel_rfl) λz H=>?_;refine fI H (by kernel_rfl) λA H=>?_;exact λe f=>k c.heap.size e ((H.ext f).Ph (by kernel_rfl))
theorem Ct {r:Nat} (h:bE w r b_ 17) (k:Int): ∃(x:ByteArray×Int×Unit) (b:Bool),kV w (some r) .i64 k (.agg ⟨[.string ⟨⟨[]⟩⟩,aa 0]⟩) (.agg ⟨[.string x.1,aa x.2.1]⟩) b/\(b=false->cP k= -1)/\(b=true->x.2.1=cP k):=by
 by_cases c:1<=k/\k<=17
 ·have:k=1\/k=2\/k=3\/k=4\/k=5\/k=6\/k=7\/k=8\/k=9\/k=10\/k=11\/k=12\/k=13\/k=14\/k=15\/k=16\/k=17:=by omega
  rcases this with rfl|rfl|rfl|rfl|rfl|rfl|rfl|rfl|rfl|rfl|rfl|rfl|rfl|rfl|rfl|rfl|rfl
  ·exact⟨(⟨⟨[99,114,101,97,116,101]⟩⟩,0,()),true,⟨r,b_,17,rfl,h,rfl,rfl⟩,λh=>(by cases h),λ_=>rfl⟩
  ·exact⟨(⟨⟨[100,101,115,116,114,111,121]⟩⟩,1,()),true,⟨r,b_,17,rfl,h,rfl,rfl⟩,λh=>(by cases h),λ_=>rfl⟩
  ·exact⟨(⟨⟨[100,111,110,97,116,101]⟩⟩,2,()),true,⟨r,b_,17,rfl,h,rfl,rfl⟩,λh=>(by cases h),λ_=>rfl⟩
  ·exact⟨(⟨⟨[114,101,99,108,97,105,109]⟩⟩,1,()),true,⟨r,b_,17,rfl,h,rfl,rfl⟩,λh=>(by cases h),λ_=>rfl⟩
  ·exact⟨(⟨⟨[112,114,111,116,101,99,116]⟩⟩,2,()),true,⟨r,b_,17,rfl,h,rfl,rfl⟩,λh=>(by cases h),λ_=>rfl⟩
  ·exact⟨(⟨⟨[108,111,97,100]⟩⟩,1,()),true,⟨r,b_,17,rfl,h,rfl,rfl⟩,λh=>(by cases h),λ_=>rfl⟩
  ·exact⟨(⟨⟨[115,116,111,114,101]⟩⟩,2,()),true,⟨r,b_,17,rfl,h,rfl,rfl⟩,λh=>(by cases h),λ_=>rfl⟩
  ·exact⟨(⟨⟨[111,102,102,101,114]⟩⟩,3,()),true,⟨r,b_,17,rfl,h,rfl,rfl⟩,λh=>(by cases h),λ_=>rfl⟩
  ·exact⟨(⟨⟨[116,97,107,101]⟩⟩,3,()),true,⟨r,b_,17,rfl,h,rfl,rfl⟩,λh=>(by cases h),λ_=>rfl⟩
  ·exact⟨(⟨⟨[98,97,99,107]⟩⟩,1,()),true,⟨r,b_,17,rfl,h,rfl,rfl⟩,λh=>(by cases h),λ_=>rfl⟩
  ·exact⟨(⟨⟨[114,101,118,111,107,101]⟩⟩,1,()),true,⟨r,b_,17,rfl,h,rfl,rfl⟩,λh=>(by cases h),λ_=>rfl⟩
  ·exact⟨(⟨⟨[111,112,101,110]⟩⟩,1,()),true,⟨r,b_,17,rfl,h,rfl,rfl⟩,λh=>(by cases h),λ_=>rfl⟩
  ·exact⟨(⟨⟨[98,105,110,100]⟩⟩,2,()),true,⟨r,b_,17,rfl,h,rfl,rfl⟩,λh=>(by cases h),λ_=>rfl⟩
  ·exact⟨(⟨⟨[115,101,110,100]⟩⟩,1,()),true,⟨r,b_,17,rfl,h,rfl,rfl⟩,λh=>(by cases h),λ_=>rfl⟩
  ·exact⟨(⟨⟨[112,111,108,108]⟩⟩,0,()),true,⟨r,b_,17,rfl,h,rfl,rfl⟩,λh=>(by cases h),λ_=>rfl⟩
  ·exact⟨(⟨⟨[99,108,111,115,101]⟩⟩,1,()),true,⟨r,b_,17,rfl,h,rfl,rfl⟩,λh=>(by cases h),λ_=>rfl⟩
  ·exact⟨(⟨⟨[115,119,101,101,112]⟩⟩,0,()),true,⟨r,b_,17,rfl,h,rfl,rfl⟩,λh=>(by cases h),λ_=>rfl⟩
 ·have d: ∀(l:List AX) (i:Nat),(∀e∈l, ∃j:Int,e.key=aa j/\j≠k)->ED (.int .i64) (aa k) l i=some none:=by
   intro l
   induction l with
   |nil=>intro i _;rfl
   |cons e l f=>
    intro i a;obtain⟨j,g,h2⟩:=a e Di;unfold ED;rw[g];have:J3 (.int .i64) (aa k) (aa j)=some false:=by
     show(if Es=Es then some (k==j) else none)=some false;have:(k==j)=false:=beq_eq_false_iff_ne.2 (λe=>h2 e.symm);rw[ax rfl,this]
    rw[this];exact f (i+1) λm n=>a m (Ev _ n)
  have o:ED (.int .i64) (aa k) b_.toList 0=some none:=d _ 0 λe a=>by
   have a:e∈[cQ 1 ⟨⟨[99,114,101,97,116,101]⟩⟩ 0 0,cQ 2 ⟨⟨[100,101,115,116,114,111,121]⟩⟩ 1 1,cQ 3 ⟨⟨[100,111,110,97,116,101]⟩⟩ 2 2,cQ 4 ⟨⟨[114,101,99,108,97,105,109]⟩⟩ 1 3,cQ 5 ⟨⟨[112,114,111,116,101,99,116]⟩⟩ 2 4,cQ 6 ⟨⟨[108,111,97,100]⟩⟩ 1 5,cQ 7 ⟨⟨[115,116,111,114,101]⟩⟩ 2 6,cQ 8 ⟨⟨[111,102,102,101,114]⟩⟩ 3 7,cQ 9 ⟨⟨[116,97,107,101]⟩⟩ 3 8,cQ 10 ⟨⟨[98,97,99,107]⟩⟩ 1 9,cQ 11 ⟨⟨[114,101,118,111,107,101]⟩⟩ 1 10,cQ 12 ⟨⟨[111,112,101,110]⟩⟩ 1 11,cQ 13 ⟨⟨[98,105,110,100]⟩⟩ 2 12,cQ 14 ⟨⟨[115,101,110,100]⟩⟩ 1 13,cQ 15 ⟨⟨[112,111,108,108]⟩⟩ 0 14,cQ 16 ⟨⟨[99,108,111,115,101]⟩⟩ 1 15,cQ 17 ⟨⟨[115,119,101,101,112]⟩⟩ 0 16]:=a;simp only[FS,List.not_mem_nil,or_false] at a;rcases a with rfl|rfl|rfl|rfl|rfl|rfl|rfl|rfl|rfl|rfl|rfl|rfl|rfl|rfl|rfl|rfl|rfl
   all_goals exact⟨_,rfl,by omega⟩
  refine⟨(⟨⟨[]⟩⟩,0,()),false,⟨r,b_,17,rfl,h,?_⟩,λ_=>ao c,λh=>by cases h⟩;rw[o];exact⟨rfl,rfl⟩
theorem KM (k:Int) (w:A1):ar A2 91 (.el (.one (.int .i64))) [aa k] w (λx w'=>x=cP k/\Ext w w'):=by
 refine ai (C:=H0) (aM:=λ_=>[]) (A_ (KL k w _) ?_);refine m7 (gW.start [] w) λr e H=>?_;obtain⟨x,b,a,h0,c⟩:=Ct (H.get (i:=0) rfl) k;have H:=H.base;refine⟨x,b,a,aA.go H λf g H=>aw.all 0 H rfl rfl rfl λh H=>?_⟩;cases b with
 |false=>exact ay rfl (ak.go H λd H=>⟨(h0 rfl).symm,H.all⟩)
 |true=>exact an rfl ⟨rfl,aj.bN 0 H rfl rfl (ak.go H λd H=>⟨c rfl,H.all⟩)⟩
theorem yq (k:Int):ag A2 91 [aa k] w (aa (cP k)):=ag.of (s:= .el (.one (.int .i64))) λw' _=>KM k w'
theorem Al (k a b c:Int):ag A2 92 [.agg ⟨[aa k,aq a,aq b,aq c]⟩] w (Sh.gj (.el (.agg [.int .u64,.int .u64,.int .u64])) (a,b,c,())):=by
 refine ag.of (s:= .el (.agg [.int .u64,.int .u64,.int .u64])) λw' _=>aO (C:=H0) (aM:=λ_=>[]) (A_ (FC k a b c w' _) ?_);have H:=At.start [] w';refine aA.go H λd e H=>aA.go H λf g H=>⟨rfl,aj.bN 1 H rfl rfl ⟨rfl,aj.bN 1 H rfl rfl ⟨rfl,aj.bN 1 H rfl rfl (aw.all 0 H rfl rfl rfl λh H=>ak.go H λi H=>aj.at 0 H rfl (show _=some (a,b,c,()) from rfl) ⟨rfl,H.all⟩)⟩⟩⟩
theorem FE (k a b c:Int) (w:A1):ar A2 29 (.el (.one .bool)) [.agg ⟨[aa k,aq a,aq b,aq c]⟩] w (λx w'=>x=dT k a b c/\Ext w w'):=by
 refine ai (C:=H0) (aM:=nK) (A_ (FD k a b c w _) ?_);have H:=At.start [] w;have z:cP k= -1\/0<=cP k:=by
  unfold cP;split
  ·rename_i h;right;have:k=1\/k=2\/k=3\/k=4\/k=5\/k=6\/k=7\/k=8\/k=9\/k=10\/k=11\/k=12\/k=13\/k=14\/k=15\/k=16\/k=17:=by omega
   rcases this with rfl|rfl|rfl|rfl|rfl|rfl|rfl|rfl|rfl|rfl|rfl|rfl|rfl|rfl|rfl|rfl|rfl<;>decide
  ·exact .inl rfl
 refine aA.go H λD E H=>⟨rfl,aj.bN 0 H rfl rfl ⟨_,yq k,ab (λd=>ak.go H λo H=>⟨?_,H.all⟩) (λd=>aj.at 0 H rfl (show _=some (k,a,b,c,()) from rfl) ⟨(a,b,c,()),Al k a b c,?_⟩)⟩⟩
 ·have d:cP k= -1:=by simpa using d
  unfold dT;rw[d];rfl
 have d: ¬ cP k= -1:=by simpa using d
 unfold dT;obtain⟨n,A⟩: ∃n,n=cP k:=⟨_,rfl⟩;rw[<-A] at d z ⊢;refine⟨λq v w'=> ∃i:Nat,v.1=(i:Int)/\q+i=3/\(0<i-> ¬ (n<=0/\a≠0))/\(1<i-> ¬ (n<=1/\b≠0))/\(2<i-> ¬ (n<=2/\c≠0))/\Ext w w',⟨3,λo l=>⟨0,rfl,rfl,λh=>by omega,λh=>by omega,λh=>by omega,(H.ext l).all⟩⟩,?_⟩;rintro q ⟨v,u⟩ o ⟨i,e,F,p,h2,l,r⟩;dsimp only at e ⊢;subst e;refine ab (λm=>⟨⟨by omega,by simpa using m⟩,?_⟩) (λm=>λf g=>⟨?_,r.trans g⟩)
 ·have hi:i<3:=by
   have:(i:Int)<3:=by simpa using m
   omega
  have B:(¬ (n<=(i:Int)/\Bf [a,b,c] (i:Int)≠0))-> ∀f,Ext o f-> ∃t,t<q/\ ∃j:Nat,aC .i64 (i:Int) 1=(j:Int)/\t+j=3/\(0<j-> ¬ (n<=0/\a≠0))/\(1<j-> ¬ (n<=1/\b≠0))/\(2<j-> ¬ (n<=2/\c≠0))/\Ext w f:=λs f g=>by
   refine⟨q - 1,by omega,i+1,by rw[av (by omega) (by omega)];omega,by omega,?_,?_,?_,r.trans g⟩
   ·intro _;by_cases e:i=0
    ·subst e;exact s
    ·exact p (by omega)
   ·intro _;by_cases e:i=1
    ·subst e;exact s
    ·exact h2 (by omega)
   ·intro _;have e:i=2:=by omega
    subst e;exact s
  refine ab (λd1=>λf g=>⟨?_,r.trans g⟩) (λd1=>B ?_)
  ·have d1:n<=(i:Int)/\Bf [a,b,c] (i:Int)≠0:=by
    simpa using d1
   have:i=0\/i=1\/i=2:=by omega
   symm;rw[Bool.eq_false_iff];intro y;simp only[Bd,Bo,decide_eq_true_eq,beq_iff_eq] at y;obtain⟨_,G,I,J⟩:=y;rcases this with rfl|rfl|rfl
   ·have d2:n<=0/\a≠0:=d1;omega
   ·have d2:n<=1/\b≠0:=d1;omega
   ·have d2:n<=2/\c≠0:=d1;omega
  ·intro d2;have:(decide ((i:Int)>=n)&&Bf [a,b,c] (i:Int) != 0)=true:=by
    simp only[Bd,decide_eq_true_eq,bne_iff_ne];exact d2
   rw[this] at d1;cases d1
 ·have hi:i=3:=by
   have: ¬ (i:Int)<3:=by simpa using m
   omega
  subst hi;have p:=p (by omega);have h2:=h2 (by omega);have l:=l (by omega);symm;simp only[Bd,Bo,decide_eq_true_eq,beq_iff_eq];omega
theorem uF (k a b c:Int):ag A2 29 [.agg ⟨[aa k,aq a,aq b,aq c]⟩] w (.bool (dT k a b c)):=ag.of (s:= .el (.one .bool)) λw' _=>FE k a b c w'
theorem AR (k:Int) (w:A1):ar A2 63 (.el (.one .bool)) [aa k] w (λx w'=>x=xZ k/\Ext w w'):=
 ai (C:=H0) (aM:=λ_=>[]) (A_ (AQ k w _) λw1 a=>⟨rfl,a⟩)
theorem Cu (k:Int):ag A2 63 [aa k] w (.bool (xZ k)):=ag.of (s:= .el (.one .bool)) λw' _=>AR k w'
end
end Go.Proofs.YteeflilbnoknnaaGreat
namespace Go.RX
set_option maxRecDepth 100000
open Go.ChangeShapes Go.WideShapes Go.RowKit
variable {H:Type} {enc:DA×A3->H} {P:Program} {w:A1} {base:Nat} {spare:Nat->Bool} {held:Bool}
def uh (P:Program) (g:DA->Option (List Sc)):Nat->List Field->Option (List Sc)
 | _,[]=>some []
 |off,f::r=>match g f.type with
  |some a=>if f.offset=off/\P.cellsOf f.type=a.length then match uh P g (off+a.length) r with
    |some b=>some (a++b)
    |none=>none
   else none
  |none=>none
def qM (P:Program):Nat->DA->Option (List Sc)
 |0, _=>none
 |d+1,t=>match P.underlying t with
  |some (.int k)=>some [.int k]
  |some .bool=>some [.bool]
  |some (.struct b)=>match uh P (qM P d) 0 b.toList with
   |some a=>if P.cellsOf t=a.length then some a else none
   |none=>none
  |some (.array n e)=>match qM P d e with
   |some a=>if P.cellsOf e=a.length/\P.cellsOf t=n*a.length then some (B2 n a).flatten else none
   |none=>none
  | _=>none
def XR:(s:Sc)->s.T->Prop
 | .int k,x=>(Lit.int k x).wf=true
 | _, _=>True
def ku:(l:List Sc)->iv l->Prop
 |[], _=>True
 |s::r,x=>XR s x.1/\ku r x.2
theorem oE: ∀(a b:List Sc) (x:iv a) (y:iv b),ku a x->ku b y-> ∃z:iv (a++b),aZ (a++b) z=aZ a x++aZ b y/\ku (a++b) z
 |[],b, _,y, _,c=>⟨y,rfl,c⟩
 |s::r,b,x,y,d,c=>by
  obtain⟨z,e,h2⟩:=oE r b x.2 y d.2 c;exact⟨(x.1,z),by simp only[Ib,aZ,e],d.1,h2⟩
theorem DH {g:DA->Option (List Sc)} {m:Nat} (j: ∀t ss cs y,g t=some ss->DataW.trod enc P w base spare held m t cs=some y-> ∃x:iv ss,cs=aZ ss x/\ku ss x)
 {cs:List A3} {c:Array Field} {xs:List (DataW H×List MemPlace)} (k:xs.length=c.size)
 (n: ∀(i:Nat) (f:Field),c[i]? =some f->DataW.trod enc P w base spare held m f.type ((cs.drop f.offset).take (P.cellsOf f.type))=xs[i]?):
 ∀(l:List Field) (i off:Nat) (ss:List Sc),c.toList.drop i=l->uh P g off l=some ss->cs.length=off+ss.length-> ∃x:iv ss,cs.drop off=aZ ss x/\ku ss x
 |[],i,off,ss, _,h,e=>by
  simp only[uh,Option.some.injEq] at h;subst h;refine⟨(),?_,trivial⟩;rw[HP (by simp at e;omega)];rfl
 |f::r,i,off,ss,d,h,e=>by
  simp only[uh] at h;split at h
  ·rename_i a p;split at h
   ·rename_i hc;split at h
    ·rename_i b hb;cases h;have hi:i<c.toList.length:=by
      apply Nat.lt_of_not_le;intro q;rw[HP q] at d;cases d
     have s:c[i]? =some f:=by
      have:=congrArg (·[0]?) d;simp only[List.getElem?_drop,Hb,List.getElem?_cons_zero] at this;simpa using this
     have o:=n i f s;have v: ∃y,xs[i]? =some y:=⟨_,B1 (by rw[k];simpa using hi)⟩;obtain⟨y,A⟩:=v;rw[A,hc.1,hc.2] at o;obtain⟨x,B,C⟩:=j _ _ _ _ p o;have D:c.toList.drop (i+1)=r:=by
      have:=congrArg (List.drop 1) d;simpa[HQ] using this
     obtain⟨z,E,F⟩:=DH j k n r (i+1) (off+a.length) b D hb (by rw[e];simp;omega);obtain⟨u,G,I⟩:=oE a b x z C F;refine⟨u,?_,I⟩;rw[G, <-B, <-E, <-HQ];exact(Ic _ _).symm
    ·cases h
   ·cases h
  ·cases h
theorem wP {a:List Sc} {cs:List A3}: ∀(n off:Nat),(∀i,i<n-> ∃x:iv a,(cs.drop (off+i*a.length)).take a.length=aZ a x/\ku a x)->cs.length=off+n*a.length->
 ∃x:iv (B2 n a).flatten,cs.drop off=aZ _ x/\ku _ x
 |0,off, _,b=>by
  refine⟨(),?_,trivial⟩;rw[HP (by omega)];rfl
 |n+1,off,h,b=>by
  obtain⟨x,c,d⟩:=h 0 (by omega);obtain⟨z,e,f⟩:=wP (a:=a) (cs:=cs) n (off+a.length) (λi hi=>by
   have:=h (i+1) (by omega);rw[show off+(i+1)*a.length=off+a.length+i*a.length by rw[Nat.add_mul];omega] at this;exact this) (by rw[b,Nat.add_mul];omega)
  obtain⟨u,g,j⟩:=oE a (B2 n a).flatten x z d f;refine⟨u,?_,j⟩;show _=aZ (a++(B2 n a).flatten) u;rw[g, <-c, <-e,Nat.zero_mul,Hb, <-HQ];exact(Ic _ _).symm
theorem qY: ∀(d m:Nat) (t:DA) (ss:List Sc) (cs:List A3) (y:DataW H×List MemPlace),qM P d t=some ss->DataW.trod enc P w base spare held m t cs=some y-> ∃x:iv ss,cs=aZ ss x/\ku ss x
 |0, _, _, _, _, _,h, _=>by simp[qM] at h
 |d+1,m,t,ss,cs,y,h,g=>by
  simp only[qM] at h;split at h
  ·rename_i k c;cases h;obtain⟨n,rfl, _,r⟩:=DataW.trod_int c g;exact⟨(n,()),rfl,r,trivial⟩
  ·rename_i c;cases h;obtain⟨b,rfl, _⟩:=DataW.trod_bool c g;exact⟨(b,()),rfl,trivial,trivial⟩
  ·rename_i s c;split at h
   ·rename_i a j;split at h
    ·rename_i hc;cases h;obtain⟨xs,n, _, _,l,p,o⟩:=DataW.trod_struct c g;obtain⟨x,f,h2⟩:=DH (λt ss cs y f h2=>qY d n t ss cs y f h2) p o s.toList 0 0 _ rfl j (by rw[l,hc];omega);exact⟨x,by simpa using f,h2⟩
    ·cases h
   ·cases h
  ·rename_i n e c;split at h
   ·rename_i a j;split at h
    ·rename_i hc;cases h;obtain⟨xs,k, _, _,l,p,o⟩:=DataW.trod_array c g;obtain⟨x,f,h2⟩:=wP (a:=a) (cs:=cs) n 0 (λi hi=>by
      have q:=o i hi;have u:xs[i]? =some xs[i]:=B1 (by omega);rw[u,hc.1] at q;rw[EB];exact qY d k e a _ _ j q) (by rw[l,hc.2];omega)
     exact⟨x,by simpa using f,h2⟩
    ·cases h
   ·cases h
  ·cases h
theorem sN {t e:DA} {a:Option A9} {n c:Nat} {p:DataW H} {ps:List MemPlace} (d:Nat) {ss:List Sc} (q:P.underlying t=some (.slice e)) (r:qM P d e=some ss) (hc:P.cellsOf e=ss.length)
 (h:DataW.Trod enc P w base spare held t (.slice a n c) p ps): ∃xs:List (iv ss),n=xs.length/\n<=maxLen/\Sl w (.agg ss) a xs/\ ∀x∈xs,ku ss x:=by
 obtain⟨F,s⟩:=h;rcases Deep.open_slice q s with ⟨gQ, _⟩|⟨x,len,cap,m,k,D,G,gQ, _,I,J,u, _,l⟩
 ·simp[Value.cells] at gQ;obtain⟨rfl,rfl,rfl⟩:=gQ;exact⟨[],rfl,Nat.zero_le _,λi x l=>by simp at l,λx l=>by simp at l⟩
 ·simp[Value.cells] at gQ;obtain⟨rfl,rfl,rfl⟩:=gQ;have K:n<=m:=by rw[u];split<;>omega
  have v: ∀i,i<n-> ∃y:iv ss,(∀j,j<ss.length->w.cell? ((x.add (i*ss.length)).add j)=(aZ ss y)[j]?)/\ku ss y:=by
   intro i hi;obtain⟨L,g,h2⟩:=l i (by omega);obtain⟨y,A,B⟩:=qY d _ _ _ _ _ r h2;obtain⟨_,C,pk⟩:=World.cells?_some g;rw[hc] at g C pk;refine⟨y,λj o=>?_,B⟩;rw[<-A];exact pk j o
  have: ∀k,k<=n-> ∃xs:List (iv ss),xs.length=k/\(∀i y,xs[i]? =some y->(∀j,j<ss.length->w.cell? ((x.add (i*ss.length)).add j)=(aZ ss y)[j]?)/\ku ss y):=by
   intro k
   induction k with
   |zero=>intro _;exact⟨[],rfl,λi y b=>by simp at b⟩
   |succ k E=>
    intro M;obtain⟨xs,g,h2⟩:=E (by omega);obtain⟨y,b⟩:=v k (by omega);refine⟨xs++[y],by simp[g],λi z f=>?_⟩;by_cases hi:i<xs.length
    ·rw[H7 hi] at f;exact h2 i z f
    ·rw[List.getElem?_append_right (by omega)] at f;have:i - xs.length=0:=by
      have:=(B3.1 f).1;simp at this;omega
     rw[this] at f;simp at f;subst f;rw[show i=k by omega];exact b
  obtain⟨xs,g,h2⟩:=this n (DS n);refine⟨xs,g.symm,by omega,λi y b=>⟨rfl,x.add (i*ss.length),rfl,λj o=>(h2 i y b).1 j o⟩,λy b=>?_⟩;obtain⟨i,hi⟩:=Eo b;exact(h2 i y hi).2
end Go.RX
namespace Go.Proofs.YteeflilbnoknnaaGreat
set_option maxRecDepth 100000
open Go.RX
section
variable {w0 w:A1} {L:List (Nat×List A3)}
def lA (ws:List Int) (f p t:Int):Nat->Int×Int×FT
 |0=>(f,3,(0,0,0,0,()))
 |k+1=>iI ws p t (lA ws f p t k)
def tG (ws:List Int) (f p t:Int):FT:=if HV f p t then(0,0,0,1,()) else(lA ws f p t 4).2.2
theorem wQ {ws:List Int} {p t:Int} {x:Int×Int×FT} (h:x.2.1= -1):iI ws p t x=x:=ax h
theorem NA {fr pg wt lv:Int} {fd:FT} {ep:Bool} {er:Int} {el:Bool} {ef:Int} (a:0<=lv/\lv<=3):(tookS fr pg wt lv fd ep er el ef).2.1= -1\/((tookS fr pg wt lv fd ep er el ef).2.1=lv - 1/\0<lv):=by
 unfold tookS;split
 ·exact .inl rfl
 ·split
  ·rename_i h;rw[Bd,decide_eq_true_eq] at h;exact .inr ⟨bU (by omega) (by omega),by omega⟩
  ·split
   ·exact .inl rfl
   ·split<;>exact .inl rfl
theorem Pj (ws:List Int) (f p t:Int): ∀k:Nat,(lA ws f p t k).2.1= -1\/((lA ws f p t k).2.1=3 - (k:Int)/\k<=3)
 |0=> .inr ⟨rfl,by decide⟩
 |k+1=>by
  rcases Pj ws f p t k with h|⟨h,a⟩
  ·left;show(iI ws p t (lA ws f p t k)).2.1= -1;rw[wQ h];exact h
  ·show(iI ws p t (lA ws f p t k)).2.1= -1\/((iI ws p t (lA ws f p t k)).2.1=3 - ((k+1:Nat):Int)/\k+1<=3);generalize lA ws f p t k=x at h;unfold iI;rw[ao (by omega)];split
   ·exact .inl rfl
   ·rcases NA (fr:=x.1) (pg:=p) (wt:=t) (lv:=x.2.1) (fd:=x.2.2) (by omega) with e|⟨e,b⟩
    ·exact .inl (e ..)
    ·exact .inr ⟨by rw[e];omega,by omega⟩
theorem yr {ws:List Int} {f p t:Int} {k:Nat} (h:(lA ws f p t k).2.1= -1): ∀j,lA ws f p t (k+j)=lA ws f p t k
 |0=>rfl
 |j+1=>by
  show iI ws p t (lA ws f p t (k+j))= _;rw[yr h j,wQ h]
end
theorem set_perm {α:Type} (a:α): ∀(L:List α) (j:Nat),j<L.length->(L.set j a).Perm (a::L.eraseIdx j)
 |[], _,h=>by simp at h
 |x::L,0, _=>by simp
 |x::L,j+1,h=>by
  rw[List.set_cons_succ,List.eraseIdx_cons_succ];exact((set_perm a L j (by simpa using h)).cons x).trans (.swap a x _)
theorem IZ {α:Type} {L:List α} {j:Nat} {a:α} (b:L[j]? =some a):L.set j a=L:=by
 apply Ey;intro n;by_cases e:j=n
 ·subst e;rw[DB (B3.1 b).1,b]
 ·rw[Bq e]
theorem RD {α:Type} {L:List α} {j d:Nat} {a b:α} (f:L[j]? =some a) (hb:L[d]? =some b) (l:j≠d): ∃g,L.Perm (a::b::g)/\ ∀c,(L.set j c).Perm (c::b::g):=by
 have h:j<L.length:=(B3.1 f).1;have m:b∈L.eraseIdx j:=by
  rw[List.mem_eraseIdx_iff_getElem?];exact⟨d,λe=>l e.symm,hb⟩
 obtain⟨i,hi⟩:=Eo m;have n:i<(L.eraseIdx j).length:=(B3.1 hi).1;have k:(L.eraseIdx j).Perm (b::(L.eraseIdx j).eraseIdx i):=by
  have:=set_perm b (L.eraseIdx j) i n;rwa[IZ hi] at this
 refine⟨(L.eraseIdx j).eraseIdx i,?_,λc=>(set_perm c L j h).trans (k.cons c)⟩;have:=(set_perm a L j h).trans (k.cons a);rwa[IZ f] at this
section
variable {w0 w:A1} {L:List (Nat×List A3)}
end
end Go.Proofs.YteeflilbnoknnaaGreat
namespace Go.Proofs.YteeflilbnoknnaaGreat.D
set_option maxRecDepth 100000
open Go.RX
noncomputable def D0:dn A2:={C3 with rz:=true}
theorem KN (a:Int) (w:A1) (k:Option A9×Nat×Nat->A1->Prop):(aJ D0 (λ_=>[]) 363 [aa a] w k)=(
 ∀w1,Ext w w1->aA (w1.alloc (Obj.map ⟨[]⟩ 0)) ⟨[aa 1,aa 2,aa 3,aa 4]⟩ 3 λb c=> ∀e,Ext c e-> ∃(r:Nat), ∃(es:Array AX), ∃(d:Nat),some w1.heap.size=some r/\bE e r es d/\gz e r .i64 0 (.slice (ad b) 4 4) es d λc=>aA c ⟨[aa 0,aa 2,aa 3,aa 4]⟩ 3 λb c=> ∀f,Ext c f-> ∃(r:Nat), ∃(es:Array AX), ∃(d:Nat),some w1.heap.size=some r/\bE f r es d/\gz f r .i64 1 (.slice (ad b) 4 4) es d λc=>aA c ⟨[aa 5,.int
 .i64 0]⟩ 3 λb c=> ∀g,Ext c g-> ∃(r:Nat), ∃(es:Array AX), ∃(d:Nat),some w1.heap.size=some r/\bE g r es d/\gz g r .i64 2 (.slice (ad b) 2 2) es d λc=>aA c ⟨[aa 5,aa 0]⟩ 3 λb c=> ∀h,Ext c h-> ∃(r:Nat), ∃(es:Array AX), ∃(d:Nat),some w1.heap.size=some r/\bE h r es d/\gz h r .i64 3 (.slice (ad b) 2 2) es d λc=>aA c ⟨[aa 5,aa 0,aa 4]⟩ 3 λb c=> ∀i,Ext c i-> ∃(r:Nat), ∃(es:Array AX), ∃(d:Nat),some
 w1.heap.size=some r/\bE i r es d/\gz i r .i64 4 (.slice (ad b) 3 3) es d λc=>aA c ⟨[aa 0]⟩ 3 λb c=> ∀j,Ext c j-> ∃(r:Nat), ∃(es:Array AX), ∃(d:Nat),some w1.heap.size=some r/\bE j r es d/\gz j r .i64 5 (.slice (ad b) 1 1) es d λc=> ∃(x:Option A9×Nat×Nat),jg c (some w1.heap.size) .i64 a (.slice none 0 0) (.slice x.1 x.2.1 x.2.2)/\ak c (k (x.1,x.2.1,x.2.2))):=by kernel_rfl
def u':Nat->aV:=(λ|2=>[(10,Go.RX.El.one (Go.RX.Sc.int Es))]| _=>[])
theorem RE (a b:Int) (w:A1) (Post:Bool->A1->Prop):(aJ D0 u' 336 [aa a,aa b] w Post)=(
 aB A2 363 (.el (.one .slice)) [aa a] w λx f=> ∀(c:Int),c=(↑x.2.1:Int)-> ∃(I:Nat->Int×Unit->A1->Prop),(∃n, ∀w1,Ext f w1->I n (0,()) w1)/\ ∀(n:Nat) (s:Int×Unit) (w1:A1),I n s w1->aF (decide (s.1<c)) ((x.1.isSome=true/\0<=s.1/\s.1<(↑x.2.1:Int))/\aj w1 none (ae x.1 (Int.toNat s.1*1)) (.one (.int .i64)) λ(x:Int)=>aF (x==b) (ak w1 λw1=>Post true w1) (∀(x:Int),x=aC .i64 s.1 1-> ∀d,Ext w1 d-> ∃(e:Nat),e<n/\I e (x,()) d)) (ak w1 λw1=>Post false w1)):=by
 kernel_rfl
theorem FF (a b:Int) (w:A1) (c:Bool->A1->Prop):(aJ D0 (λ_=>[]) 305 [aa a,aa b] w c)=(
 aF (a==0) (ak w (c (decide (b>=1)&&decide (b<=4)))) (aF (a==1) (ak w (c (b==0||decide (b>=2)&&decide (b<=4)))) (aF (a==2) (aF (a==2) (ak w (c (b==5||b==0))) (aF (a==4) (ak w (c (b==5||b==0||b==4))) (ak w (c (b==0))))) (aF (a==3) (ak w (c (b==5||b==0))) (aF (a==4) (ak w (c (b==5||b==0||b==4))) (ak w (c (b==0)))))))):=by kernel_rfl
theorem FG (n m:Int) (w:A1) (a:Bool->A1->Prop):(aJ D0 (λ_=>[]) 310 [aa n,aa m] w a)=(
 ak w (a (decide (n>=0)&&decide (n<=m)))):=by kernel_rfl
theorem yp {w:A1} {r:Nat} {k:IntKind} {n:Int} {val:A3} {es:Array AX} {a:Nat} {K:A1->Prop} (h:ED (.int k) (.int k n) es.toList 0=some none)
 (b:K (w.putObj r (.map (es.push {key:= .int k n,val,born:=a}) (a+1)))):gz w r k n val es a K:=by
 unfold gz;rw[h];exact b
theorem kF {w0 a c:A1} {r:Nat} {es:Array AX} {b:Nat} {l:List A3} {t:DA} {n:Int} {bs:List (Nat×List A3)} {val:A3} {K:A1->Prop}
 (m:Ext w0 a) (o:w0.heap.size<=r) (p:bE a r es b) (hb: ∀x∈bs,bh a x.1 x.2/\x.1≠r) (h2:Ext (a.alloc (.cells ⟨l⟩ t)) c)
 (q:ED (.int .i64) (aa n) es.toList 0=some none)
 (k: ∀e,Ext w0 e->bE e r (es.push {key:=aa n,val,born:=b}) (b+1)->(∀x∈(a.heap.size,l)::bs,bh e x.1 x.2/\x.1≠r)->K e):
 ∃r' g h,some r=some r'/\bE c r' g h/\gz c r' .i64 n val g h K:=by
 have i:a.heap[r]? =some (.map es b):=p;have s:r<a.heap.size:=(Et.1 i).1;have f:Ext a c:=(Ext.alloc a _).trans h2;have j:c.heap[r]? =some (.map es b):=f.obj i;refine⟨r,es,b,rfl,j,yp q (k _ ((m.trans f).putObj o _) ?_ ?_)⟩
 ·exact iq (Et.1 j).1
 ·intro x d;rcases FS.1 d with rfl|d
  ·have:a.heap.size≠r:=by omega
   exact⟨((bh.new a l t).ext h2).putObj this _,this⟩
  ·exact⟨((hb x d).1.ext f).putObj (hb x d).2 _,(hb x d).2⟩
def dG (a:Int):List Int:=if a=0 then[1,2,3,4] else if a=1 then[0,2,3,4] else if a=2 then[5,0] else if a=3 then[5,0] else if a=4 then[5,0,4] else if a=5 then[0] else[]
theorem KO (a:Int) (w:A1):ar A2 363 (.el (.one .slice)) [aa a] w (λr w'=>Sl w' eI r.1 (dG a)/\r.2.1=(dG a).length/\Ext w w'):=by
 refine ai (C:=D0) (aM:=λ_=>[]) (A_ (KN a w _) ?_);intro w1 b k h2 w3 I;have J:bE k w1.heap.size #[] 0:=h2.obj (fA w1 _);have step: ∀{W:A1} {bs:List (Nat×List A3)} {r:Nat},(∀x∈bs,bh W x.1 x.2/\x.1≠r)-> ∀{z:A1},Ext W z-> ∀x∈bs,bh z x.1 x.2/\x.1≠r:=
  λh _ e x d=>⟨(h x d).1.ext e,(h x d).2⟩
 refine kF (bs:=[]) ((b.da _).trans h2) b.size J (λx d=>by cases d) I rfl λW0 E0 M0 B0 A l w5 K=>?_;refine kF (E0.trans l) b.size (l.obj M0) (step B0 l) K rfl λW1 E1 M1 L B m w7 M=>?_;refine kF (E1.trans m) b.size (m.obj M1) (step L m) M rfl λW2 E2 M2 N D n w9 O=>?_;refine kF (E2.trans n) b.size (n.obj M2) (step N n) O rfl λW3 E3 M3 P E o lL Q=>?_;refine kF (E3.trans o) b.size (o.obj M3) (step P o) Q rfl λW4 R S T F p Ml U=>?_;refine kF (R.trans p) b.size (p.obj S) (step T p) U rfl λg V c f=>?_;have X:=(f (k.heap.size,[aa 1,aa 2,aa 3,aa 4]) (by simp)).1;have Y:=(f (A.heap.size,[aa 0,aa 2,aa 3,aa 4]) (by simp)).1;have Z:=(f (B.heap.size,[aa 5,aa 0]) (by simp)).1;have b3:=(f (D.heap.size,[aa 5,aa 0]) (by simp)).1;have b4:=(f (E.heap.size,[aa 5,aa 0,aa 4]) (by simp)).1;have b5:=(f (F.heap.size,[aa 0]) (by simp)).1;have fin: ∀(x:Option A9×Nat×Nat),jg g (some w1.heap.size) .i64 a (.slice none 0 0) (.slice x.1 x.2.1 x.2.2)->Sl g eI x.1 (dG a)->x.2.1=(dG a).length->
  ∃x:Option A9×Nat×Nat,jg g (some w1.heap.size) .i64 a (.slice none 0 0) (.slice x.1 x.2.1 x.2.2)/\ ∀j,Ext g j->Sl j eI (x.1,x.2.1,x.2.2).1 (dG a)/\(x.1,x.2.1,x.2.2).2.1=(dG a).length/\Ext w j:=
  λx hl hs hn=>⟨x,hl,λj G=>⟨hs.ext G,hn,V.trans G⟩⟩
 by_cases q:a=0
 ·subst q;exact fin (some ⟨k.heap.size,0,none⟩,4,4) ⟨_, _, _,rfl,c,rfl⟩ (Sl.iB X rfl) rfl
 by_cases s:a=1
 ·subst s;exact fin (some ⟨A.heap.size,0,none⟩,4,4) ⟨_, _, _,rfl,c,rfl⟩ (Sl.iB Y rfl) rfl
 by_cases t:a=2
 ·subst t;exact fin (some ⟨B.heap.size,0,none⟩,2,2) ⟨_, _, _,rfl,c,rfl⟩ (Sl.iB Z rfl) rfl
 by_cases u:a=3
 ·subst u;exact fin (some ⟨D.heap.size,0,none⟩,2,2) ⟨_, _, _,rfl,c,rfl⟩ (Sl.iB b3 rfl) rfl
 by_cases v:a=4
 ·subst v;exact fin (some ⟨E.heap.size,0,none⟩,3,3) ⟨_, _, _,rfl,c,rfl⟩ (Sl.iB b4 rfl) rfl
 by_cases y:a=5
 ·subst y;exact fin (some ⟨F.heap.size,0,none⟩,1,1) ⟨_, _, _,rfl,c,rfl⟩ (Sl.iB b5 rfl) rfl
 have H:dG a=[]:=by
  unfold dG;rw[ao q,ao s,ao t,ao u,ao v,ao y]
 refine fin (none,0,0) ⟨_, _, _,rfl,c,?_⟩ (by rw[H];intro i x d;simp at d) (by rw[H];rfl);have d0:(a==0)=false:=by simp[q]
 have d1:(a==1)=false:=by simp[s]
 have d2:(a==2)=false:=by simp[t]
 have d3:(a==3)=false:=by simp[u]
 have d4:(a==4)=false:=by simp[v]
 have d5:(a==5)=false:=by simp[y]
 simp only[Array.toList_push,List.nil_append,Ib,ED,J3,if_true,EB,d0,d1,d2,d3,d4,d5]
theorem FH (a:Int):(dG a).length<=4:=by
 unfold dG
 repeat (split; ·decide)
 decide
theorem RF (a b:Int) (w:A1):ar A2 336 (.el (.one .bool)) [aa a,aa b] w (λx w'=>x=decide (b∈dG a)/\Ext w w'):=by
 refine ai (C:=D0) (aM:=u') (A_ (RE a b w _) ?_);intro w1 q;refine(KO a w1).mono ?_;rintro⟨p,n,c⟩ A ⟨t,B,h2⟩ F v;dsimp only at v B t;subst v;have G:=FH a;refine⟨λk s w'=>Ext A w'/\ ∃i:Nat,s.1=i/\k+i=n/\ ∀j,j<i->(dG a)[j]? ≠some b,⟨n,λD d=>⟨d,0,rfl,rfl,λj g=>absurd g (by omega)⟩⟩,?_⟩;rintro k ⟨H,u⟩ D ⟨d,i,hi,I,g⟩;simp only at hi;subst hi;dsimp only;refine ab (λh=>?_) (λh=>λy f=>⟨?_,((q.trans h2).trans d).trans f⟩)
 ·simp only[decide_eq_true_eq] at h;have l:i<(dG a).length:=by omega
  have r:=(t.ext d) i _ (B1 l);refine⟨⟨r.1,by omega,by omega⟩, _,r.2,ab (λm y f=>⟨?_,((q.trans h2).trans d).trans f⟩) (λm x E y f=>⟨k - 1,by omega,d.trans f,i+1,by rw[E,av (by omega) (by omega)];rfl,by omega,?_⟩)⟩
  ·have:(dG a)[i]=b:=by simpa using m
   have o:b∈dG a:=by rw[<-this];exact IG l
   simp[o]
  ·intro j J;by_cases e:j=i
   ·subst e;rw[B1 l];intro hc;simp only[Option.some.injEq] at hc;simp[hc] at m
   ·exact g j (by omega)
 ·simp only[decide_eq_false_iff_not] at h;have: ¬ b∈dG a:=by
   intro o;obtain⟨j,z⟩:=Eo o;have:=(B3.1 z).1;exact g j (by omega) z
  simp[this]
noncomputable def QH:Entry A2 where
 f:=336
 fn l:=match l with
  |[.int .i64 a,.int .i64 b]=>some (True,.bool (decide (b∈dG a)))
  | _=>none
 ok args pre v h c w:=by
  split at h
  ·rename_i a b;cases h;exact aS (RF a b w)
  ·cases h
def Hh (a b:Int):Bool:=if a=0 then decide (b>=1)&&decide (b<=4) else if a=1 then b==0||decide (b>=2)&&decide (b<=4) else if a=2 then b==5||b==0 else if a=3 then b==5||b==0 else if a=4 then b==5||b==0||b==4 else b==0
theorem FI (a b:Int) (w:A1):ar A2 305 (.el (.one .bool)) [aa a,aa b] w (λx w'=>x=Hh a b/\Ext w w'):=by
 refine ai (C:=D0) (aM:=λ_=>[]) (A_ (FF a b w _) ?_);refine ab (λh0 w1 d=>⟨?_,d⟩) (λh0=>ab (λd w1 c=>⟨?_,c⟩) (λd=>ab (λh2=>ab (λ_ w1 c=>⟨?_,c⟩) (λg=>by rw[h2] at g;cases g)) (λh2=>ab (λe w1 c=>⟨?_,c⟩) (λe=>ab (λf w1 c=>⟨?_,c⟩) (λf w1 c=>⟨?_,c⟩)))))
 all_goals simp only[beq_iff_eq,beq_eq_false_iff_ne,ne_eq] at*
 ·unfold Hh;rw[ax h0]
 ·unfold Hh;rw[ao h0,ax d]
 ·unfold Hh;rw[ao h0,ao d,ax h2]
 ·unfold Hh;rw[ao h0,ao d,ao h2,ax e]
 ·unfold Hh;rw[ao h0,ao d,ao h2,ao e,ax f]
 ·unfold Hh;rw[ao h0,ao d,ao h2,ao e,ao f]
theorem KP {a:Int} (b:Int) (h:0<=a/\a<=5):decide (b∈dG a)=Hh a b:=by
 have:a=0\/a=1\/a=2\/a=3\/a=4\/a=5:=by omega
 rw[H5,decide_eq_true_eq];rcases this with rfl|rfl|rfl|rfl|rfl|rfl<;>simp[dG,Hh]<;>omega
noncomputable def yw:Entry A2 where
 f:=305
 fn l:=match l with
  |[.int .i64 a,.int .i64 b]=>some (True,.bool (Hh a b))
  | _=>none
 ok args pre v h c w:=by
  split at h
  ·rename_i a b;cases h;exact aS (FI a b w)
  ·cases h
noncomputable def yx:Entry A2 where
 f:=310
 fn l:=match l with
  |[.int .i64 n,.int .i64 m]=>some (True,.bool (decide (n>=0)&&decide (n<=m)))
  | _=>none
 ok args pre v h b w:=by
  split at h
  ·rename_i n m;cases h;exact aS (x:=decide (n>=0)&&decide (n<=m)) (ai (C:=D0) (aM:=λ_=>[]) (A_ (FG n m w _) λw1 a=>⟨rfl,a⟩))
  ·cases h
noncomputable def D1:dn A2:={D0 with oG:=[o_,Mj,xS,xT,rB,rC,Bl,Bm,QH,yw,yx]}
abbrev r8 (c:Bool->A1->Prop) (a:A1) (b:Nat):Prop:=
 aj a none (ad b) cY λ(x:Int×Int×Int×Int×Unit)=>true=true/\aQ a (ae (ad b) 0) λd=>ak a λw1=>c (x.1==d&&(x.2.1==0&&(x.2.2.1==0&&(x.2.2.2.1==0&&true)))) w1
abbrev r9 (c:Bool->A1->Prop) (a:A1) (b:Nat):Prop:=
 true=true/\aQ a (ae (ad b) 1) λx=>(decide (x>0)=true->true=true)/\aj a (some (decide (x>0))) (ae (ad b) 3) aT λ(d:Int)=>ak a (c (decide (x>0)&&d==0))
abbrev r_ (b:Bool->A1->Prop) (c:Int) (a:A1) (d:Nat):Prop:=
 aF (c==5) (true=true/\aQ a (ae (ad d) 2) λx=>ak a (b (x==0))) (ak a (b false))
abbrev sa (d:Bool->A1->Prop) (b:Int) (a:A1) (c:Nat):Prop:=
 aF (b==2) (true=true/\aQ a (ae (ad c) 1) λx=>((x==0)=true->true=true)/\aj a (some (x==0)) (ae (ad c) 3) aT λ(e:Int)=>ak a (d (x==0&&e==0))) (aF (b==3) (aF (b==3) (r9 d a c) (r_ d b a c)) (aF (b==4) (r9 d a c) (r_ d b a c)))
theorem uB (k o r e:Int) (w:A1) (f:Bool->A1->Prop):(aJ D1 (λ_=>[]) 335 [.agg ⟨[aa k,aa o,aa r,aa e]⟩] w f)=(
 aA w ⟨[aa k,aa o,aa r,aa e]⟩ 79 λb a=>true=true/\aQ a (ae (ad b) 1) λx=>((!decide (x<0))=true->true=true)/\aj a (some !decide (x<0)) (ae (ad b) 1) aT λ(c:Int)=>((!(decide (x<0)||decide (c>16)))=true->true=true)/\aj a (some !(decide (x<0)||decide (c>16))) (ae (ad b) 2) aT λ(d:Int)=>((!(decide (x<0)||decide (c>16)||decide (d<0)))=true->true=true)/\aj a (some !(decide (x<0)||decide (c>16)||decide (d<0))) (ae (ad b) 2) aT λ(g:Int)=>
 ((!(decide (x<0)||decide (c>16)||decide (d<0)||decide (g>65535)))=true->true=true)/\aj a (some !(decide (x<0)||decide (c>16)||decide (d<0)||decide (g>65535))) (ae (ad b) 3) aT λ(h:Int)=>((!(decide (x<0)||decide (c>16)||decide (d<0)||decide (g>65535)||decide (h<0)))=true->true=true)/\aj a (some !(decide (x<0)||decide (c>16)||decide (d<0)||decide (g>65535)||decide (h<0))) (ae (ad b) 3) aT λ(i:Int)=>aF (decide (x<0)||decide (c>16)||decide (d<0)||
 decide (g>65535)||decide (h<0)||decide (i>4294967295)) (ak a (f false)) (true=true/\aQ a (ae (ad b) 0) λx=>aF (x==0) (aF (x==0) (r8 f a b) (sa f x a b)) (aF (x==1) (r8 f a b) (sa f x a b)))):=by kernel_rfl
abbrev qc (d:Bool->A1->Prop) (a:A1) (b:Nat):Prop:=
 true=true/\aQ a (ae (ad b) 1) λx=>((x==0)=true->true=true)/\aj a (some (x==0)) (ae (ad b) 2) aT λ(c:Int)=>((x==0&&c==0)=true->true=true)/\aj a (some (x==0&&c==0)) (ae (ad b) 3) aT λ(e:Int)=>ak a (d (x==0&&c==0&&e==0))
abbrev qd (c:Bool->A1->Prop) (a:A1) (b:Nat):Prop:=
 true=true/\aQ a (ae (ad b) 1) λx=>(decide (x>0)=true->true=true)/\aj a (some (decide (x>0))) (ae (ad b) 3) aT λ(d:Int)=>ak a (c (decide (x>0)&&d==0))
abbrev qe (b:Bool->A1->Prop) (a:A1) (c:Nat):Prop:=
 true=true/\aQ a (ae (ad c) 2) λx=>ak a (b (x==0))
abbrev qf (c:Bool->A1->Prop) (d:Int) (a:A1) (b:Nat):Prop:=
 aF (d==2) (true=true/\aQ a (ae (ad b) 1) λx=>((x==0)=true->true=true)/\aj a (some (x==0)) (ae (ad b) 3) aT λ(e:Int)=>ak a (c (x==0&&e==0))) (aF (d==3) (aF (d==3) (qd c a b) (qe c a b)) (aF (d==4) (qd c a b) (qe c a b)))
theorem qS (k o r e:Int) (w:A1) (f:Bool->A1->Prop):(aJ D1 (λ_=>[]) 304 [.agg ⟨[aa k,aa o,aa r,aa e]⟩] w f)=(
 aA w ⟨[aa k,aa o,aa r,aa e]⟩ 166 λb c=>true=true/\aQ c (ae (ad b) 0) λx=>True/\((!!(decide (x>=0)&&decide (x<=5)))=true->true=true)/\aj c (some !!(decide (x>=0)&&decide (x<=5))) (ae (ad b) 1) aT λ(a:Int)=>((!!(decide (x>=0)&&decide (x<=5)))=true->True)/\((!(!(decide (x>=0)&&decide (x<=5))|| !(decide (a>=0)&&decide (a<=16))))=true->true=true)/\aj c (some !(!(decide (x>=0)&&decide (x<=5))|| !(decide (a>=0)&&decide (a<=16)))) (ae (ad b) 2) aT λ(d:Int)=>
 ((!(!(decide (x>=0)&&decide (x<=5))|| !(decide (a>=0)&&decide (a<=16))))=true->True)/\((!(!(decide (x>=0)&&decide (x<=5))|| !(decide (a>=0)&&decide (a<=16))|| !(decide (d>=0)&&decide (d<=65535))))=true->true=true)/\aj c (some !(!(decide (x>=0)&&decide (x<=5))|| !(decide (a>=0)&&decide (a<=16))|| !(decide (d>=0)&&decide (d<=65535)))) (ae (ad b) 3) aT λ(g:Int)=>((!(!(decide (x>=0)&&decide (x<=5))|| !(decide (a>=0)&&decide (a<=16))|| !(decide (d>=0)&&decide (d<=65535))))=true->True)/\aF
 (!(decide (x>=0)&&decide (x<=5))|| !(decide (a>=0)&&decide (a<=16))|| !(decide (d>=0)&&decide (d<=65535))|| !(decide (g>=0)&&decide (g<=4294967295))) (ak c (f false)) (true=true/\aQ c (ae (ad b) 0) λx=>aF (x==0) (aF (x==0) (qc f c b) (qf f x c b)) (aF (x==1) (qc f c b) (qf f x c b)))):=by kernel_rfl
def fb (k o r e:Int):Prop:=(0<=o/\o<=16/\0<=r/\r<=65535/\0<=e/\e<=4294967295)/\(((k=0\/k=1)/\o=0/\r=0/\e=0)\/(k=2/\o=0/\e=0)\/((k=3\/k=4)/\0<o/\e=0)\/(k=5/\r=0))
instance (k o r e:Int):Decidable (fb k o r e):=by unfold fb;infer_instance
def cj (k o r e:Int):Bool:=decide (fb k o r e)
theorem wR {k o r e:Int} {b:Bool} (h:b=true<->fb k o r e):b=cj k o r e:=by
 unfold cj;rw[H5,decide_eq_true_eq];exact h
theorem uC (k o r e:Int) (w:A1):ar A2 335 (.el (.one .bool)) [.agg ⟨[aa k,aa o,aa r,aa e]⟩] w (λb w'=>b=cj k o r e/\Ext w w'):=by
 refine ai (C:=D1) (aM:=λ_=>[]) (A_ (uB k o r e w _) ?_);have H:=At.start [] w
 repeat' (first
  |exact Go.RX.aH.all H
  |exact AC (by first|rfl|decide+kernel) (Go.RX.aH.all H)
  |refine AC (by first|exact rfl|exact trivial|exact λ_=>rfl|exact λ_=>trivial|exact⟨rfl,by decide,by decide⟩|exact⟨by decide,by decide⟩|decide+kernel|exact λ_=>by decide|exact λ_=>⟨rfl,by decide,by decide⟩|(dsimp only[BA,Bb];exact⟨rfl,by decide,by decide⟩)) ?_
  |refine aj.bN 0 H rfl rfl ?_
  |refine aj.at 0 H rfl rfl ?_
  |refine aA.go H λb w1 H=>?_
  |refine aw.all 0 H rfl rfl rfl λw1 H=>?_
  |refine aw.dF 0 H rfl rfl rfl λw1 H=>?_
  |refine aw.one 0 H rfl rfl rfl λw1 H=>?_
  |with_reducible refine ak.go H λw1 H=>?_
  |refine fS ?_
  |refine ay (by assumption) ?_
  |refine an (by assumption) ?_
  |refine ab (λc=>?_) (λc=>?_))
 all_goals
  refine AC (wR ?_) H.all;simp only[Bo,Bc,Bd,Do,beq_iff_eq,beq_eq_false_iff_ne,bne_iff_ne,bne_eq_false_iff_eq,decide_eq_true_eq,decide_eq_false_iff_not,E4,E5,C7,EA,and_true,true_and,and_false,false_and,or_true,true_or,or_false,false_or,ne_eq,not_true_eq_false,not_false_eq_true,false_iff,iff_false,true_iff,iff_true] at*
  unfold fb;omega
theorem qT (k o r e:Int) (w:A1):ar A2 304 (.el (.one .bool)) [.agg ⟨[aa k,aa o,aa r,aa e]⟩] w (λb w'=>b=cj k o r e/\Ext w w'):=by
 refine ai (C:=D1) (aM:=λ_=>[]) (A_ (qS k o r e w _) ?_);have H:=At.start [] w
 repeat' (first
  |exact Go.RX.aH.all H
  |exact AC (by first|rfl|decide+kernel) (Go.RX.aH.all H)
  |refine AC (by first|exact rfl|exact trivial|exact λ_=>rfl|exact λ_=>trivial|exact⟨rfl,by decide,by decide⟩|exact⟨by decide,by decide⟩|decide+kernel|exact λ_=>by decide|exact λ_=>⟨rfl,by decide,by decide⟩|(dsimp only[BA,Bb];exact⟨rfl,by decide,by decide⟩)) ?_
  |refine aj.bN 0 H rfl rfl ?_
  |refine aj.at 0 H rfl rfl ?_
  |refine aA.go H λb w1 H=>?_
  |refine aw.all 0 H rfl rfl rfl λw1 H=>?_
  |refine aw.dF 0 H rfl rfl rfl λw1 H=>?_
  |refine aw.one 0 H rfl rfl rfl λw1 H=>?_
  |with_reducible refine ak.go H λw1 H=>?_
  |refine fS ?_
  |refine ay (by assumption) ?_
  |refine an (by assumption) ?_
  |refine ab (λc=>?_) (λc=>?_))
 all_goals
  refine AC (wR ?_) H.all;simp only[Bo,Bc,Bd,Do,beq_iff_eq,beq_eq_false_iff_ne,bne_iff_ne,bne_eq_false_iff_eq,decide_eq_true_eq,decide_eq_false_iff_not,E4,E5,C7,EA,and_true,true_and,and_false,false_and,or_true,true_or,or_false,false_or,ne_eq,not_true_eq_false,not_false_eq_true,false_iff,iff_false,true_iff,iff_true] at*
  unfold fb;omega
noncomputable def qJ:Entry A2 where
 f:=335
 fn l:=match l with
  |[.agg ⟨[.int .i64 k,.int .i64 o,.int .i64 r,.int .i64 e]⟩]=>some (True,.bool (cj k o r e))
  | _=>none
 ok args pre v h a w:=by
  split at h
  ·rename_i k o r e;cases h;exact aS (uC k o r e w)
  ·cases h
noncomputable def mP:Entry A2 where
 f:=304
 fn l:=match l with
  |[.agg ⟨[.int .i64 k,.int .i64 o,.int .i64 r,.int .i64 e]⟩]=>some (True,.bool (cj k o r e))
  | _=>none
 ok args pre v h a w:=by
  split at h
  ·rename_i k o r e;cases h;exact aS (qT k o r e w)
  ·cases h
noncomputable def D2:dn A2:={D0 with oG:=[o_,Mj,xS,xT,rB,rC,Bl,Bm,QH,yw,yx,qJ,mP]}
abbrev va (d:(Int×Int×Int×Int×Unit)×Int×Unit->A1->Prop) (a:A1) (e:Nat) (b:Nat):Prop:=
 aj a none (ad e) cY λ(x:Int×Int×Int×Int×Unit)=>True/\aF (!cj x.1 x.2.1 x.2.2.1 x.2.2.2.1) (aw a (ad b) [aa 0,aa 0,aa 0,aa 0] λc=>ak c λw1=>aj w1 none (ad b) cY λ(x:Int×Int×Int×Int×Unit)=>d ((x.1,x.2.1,x.2.2.1,x.2.2.2.1,()),1,()) w1) (aj a none (ad e) cY λ(x:Int×Int×Int×Int×Unit)=>aw a (ad b) [aa x.1,aa x.2.1,aa x.2.2.1,aa x.2.2.2.1] λc=>ak c λw1=>aj w1 none (ad b) cY λ(x:Int×Int×Int×Int×
 Unit)=>d ((x.1,x.2.1,x.2.2.1,x.2.2.2.1,()),0,()) w1)
theorem NB (k o r e x y:Int) (w:A1) (d:(Int×Int×Int×Int×Unit)×Int×Unit->A1->Prop):(bO D2 (λ_=>[]) 287 [.agg ⟨[aa k,aa o,aa r,aa e]⟩,aa x,aa y] w d)=(
 aA w ⟨[aa k,aa o,aa r,aa e]⟩ 79 λb a=>aA a ⟨[aa 0,aa 0,aa 0,aa 0]⟩ 79 λc a=>aj a none (ad b) cY λ(f:Int×Int×Int×Int×Unit)=>True/\aF (!cj f.1 f.2.1 f.2.2.1 f.2.2.2.1) (aw a (ad c) [aa 0,aa 0,aa 0,aa 0] λa=>ak a λw1=>aj w1 none (ad c) cY λ(x:Int×Int×Int×Int×Unit)=>d ((x.1,x.2.1,x.2.2.1,x.2.2.2.1,()),11,()) w1) (true=true/\aQ a (ae (ad b) 2) λg=>aF (decide (g>0)) (aw a
 (ad c) [aa 0,aa 0,aa 0,aa 0] λa=>ak a λw1=>aj w1 none (ad c) cY λ(x:Int×Int×Int×Int×Unit)=>d ((x.1,x.2.1,x.2.2.1,x.2.2.2.1,()),9,()) w1) (true=true/\aQ a (ae (ad b) 0) λh=>True/\aF (!decide (x∈dG h)) (aw a (ad c) [aa 0,aa 0,aa 0,aa 0] λa=>ak a λw1=>aj w1 none (ad c) cY λ(x:Int×Int×Int×Int×Unit)=>d ((x.1,x.2.1,x.2.2.1,x.2.2.2.1,()),6,()) w1) (aF (x==5) (true=true/\aQ a (ae (ad
 b) 1) λi=>aA a ⟨[aa 0,aa 0,aa 0,aa 0]⟩ 79 λb a=>aw a (ad b) [aa x,aa i,aa 0,aa 0] λa=>va d a b c) (aA a ⟨[aa 0,aa 0,aa 0,aa 0]⟩ 79 λb a=>aw a (ad b) [aa x,aa y,aa 0,aa 0] λa=>va d a b c))))):=by kernel_rfl
abbrev sd (d:(Int×Int×Int×Int×Unit)×Int×Unit->A1->Prop) (a:A1) (e:Nat) (b:Nat):Prop:=
 aj a none (ad e) cY λ(x:Int×Int×Int×Int×Unit)=>True/\aF (!cj x.1 x.2.1 x.2.2.1 x.2.2.2.1) (aw a (ad b) [aa 0,aa 0,aa 0,aa 0] λc=>ak c λw1=>aj w1 none (ad b) cY λ(x:Int×Int×Int×Int×Unit)=>d ((x.1,x.2.1,x.2.2.1,x.2.2.2.1,()),1,()) w1) (aj a none (ad e) cY λ(x:Int×Int×Int×Int×Unit)=>aw a (ad b) [aa x.1,aa x.2.1,aa x.2.2.1,aa x.2.2.2.1] λc=>ak c λw1=>aj w1 none (ad b) cY λ(x:Int×Int×Int×Int×
 Unit)=>d ((x.1,x.2.1,x.2.2.1,x.2.2.2.1,()),0,()) w1)
theorem KQ (k o r e x y:Int) (w:A1) (d:(Int×Int×Int×Int×Unit)×Int×Unit->A1->Prop):(bO D2 (λ_=>[]) 236 [.agg ⟨[aa k,aa o,aa r,aa e]⟩,aa x,aa y] w d)=(
 aA w ⟨[aa k,aa o,aa r,aa e]⟩ 166 λb a=>aA a ⟨[aa 0,aa 0,aa 0,aa 0]⟩ 166 λc a=>aj a none (ad b) cY λ(f:Int×Int×Int×Int×Unit)=>True/\aF (!cj f.1 f.2.1 f.2.2.1 f.2.2.2.1) (aw a (ad c) [aa 0,aa 0,aa 0,aa 0] λa=>ak a λw1=>aj w1 none (ad c) cY λ(x:Int×Int×Int×Int×Unit)=>d ((x.1,x.2.1,x.2.2.1,x.2.2.2.1,()),11,()) w1) (true=true/\aQ a (ae (ad b) 2) λh=>aF (decide (h>0)) (aw
 a (ad c) [aa 0,aa 0,aa 0,aa 0] λa=>ak a λw1=>aj w1 none (ad c) cY λ(x:Int×Int×Int×Int×Unit)=>d ((x.1,x.2.1,x.2.2.1,x.2.2.2.1,()),9,()) w1) (true=true/\aQ a (ae (ad b) 0) λi=>True/\aF (!Hh i x) (aw a (ad c) [aa 0,aa 0,aa 0,aa 0] λa=>ak a λw1=>aj w1 none (ad c) cY λ(x:Int×Int×Int×Int×Unit)=>d ((x.1,x.2.1,x.2.2.1,x.2.2.2.1,()),6,()) w1) (aA a ⟨[aa 0,aa 0,aa 0,.int .i64
 0]⟩ 166 λg a=>aw a (ad g) [aa x,aa y,aa 0,aa 0] λa=>aF (x==5) (true=true/\aQ a (ae (ad b) 1) λx=>true=true/\aw a (ae (ad g) 1) [aa x] λa=>sd d a g c) (sd d a g c))))):=by kernel_rfl
theorem RG (k o r e x:Int) (w:A1) (d:(Int×Int×Int×Int×Unit)×Int×Unit->A1->Prop):(bO D2 (λ_=>[]) 298 [.agg ⟨[aa k,aa o,aa r,aa e]⟩,aa x] w d)=(
 aA w ⟨[aa k,aa o,aa r,aa e]⟩ 79 λb a=>aA a ⟨[aa 0,aa 0,aa 0,aa 0]⟩ 79 λc a=>aj a none (ad b) cY λ(g:Int×Int×Int×Int×Unit)=>True/\aF (!cj g.1 g.2.1 g.2.2.1 g.2.2.2.1) (aw a (ad c) [aa 0,aa 0,aa 0,aa 0] λa=>ak a λw1=>aj w1 none (ad c) cY λ(x:Int×Int×Int×Int×Unit)=>d ((x.1,x.2.1,x.2.2.1,x.2.2.2.1,()),11,()) w1) (true=true/\aQ a (ae (ad b) 0) λf=>((f != 2)=true->true=
 true)/\aj a (some (f != 2)) (ae (ad b) 0) aT λ(i:Int)=>((f != 2&&i != 3)=true->true=true)/\aj a (some (f != 2&&i != 3)) (ae (ad b) 0) aT λ(l:Int)=>aF (f != 2&&i != 3&&l != 4) (aw a (ad c) [aa 0,aa 0,aa 0,aa 0] λa=>ak a λw1=>aj w1 none (ad c) cY λ(x:Int×Int×Int×Int×Unit)=>d ((x.1,x.2.1,x.2.2.1,x.2.2.2.1,()),6,()) w1) (true=true/\aQ a (ae (ad b) 2) λm=> ∀(h:Int),h=bK .i64 65535 m->((!decide (x>h))=true->
 true=true)/\aj a (some !decide (x>h)) (ae (ad b) 2) aT λ(n:Int)=>aF (decide (x>h)||decide (x<bK .i64 0 n)) (aw a (ad c) [aa 0,aa 0,aa 0,aa 0] λa=>ak a λw1=>aj w1 none (ad c) cY λ(x:Int×Int×Int×Int×Unit)=>d ((x.1,x.2.1,x.2.2.1,x.2.2.2.1,()),2,()) w1) (true=true/\aQ a (ae (ad b) 2) λp=> ∀(j:Int),j=aC .i64 p x->true=true/\aw a (ae (ad b) 2) [aa j] λa=>aj a none (ad b) cY λ(x:Int×Int×Int×Int×Unit)=>
 aw a (ad c) [aa x.1,aa x.2.1,aa x.2.2.1,aa x.2.2.2.1] λa=>ak a λw1=>aj w1 none (ad c) cY λ(x:Int×Int×Int×Int×Unit)=>d ((x.1,x.2.1,x.2.2.1,x.2.2.2.1,()),0,()) w1)))):=by kernel_rfl
theorem ND (k o r e x:Int) (w:A1) (d:(Int×Int×Int×Int×Unit)×Int×Unit->A1->Prop):(bO D2 (λ_=>[]) 246 [.agg ⟨[aa k,aa o,aa r,aa e]⟩,aa x] w d)=(
 aA w ⟨[aa k,aa o,aa r,aa e]⟩ 166 λb a=>aA a ⟨[aa 0,aa 0,aa 0,aa 0]⟩ 166 λc a=>aj a none (ad b) cY λ(f:Int×Int×Int×Int×Unit)=>True/\aF (!cj f.1 f.2.1 f.2.2.1 f.2.2.2.1) (aw a (ad c) [aa 0,aa 0,aa 0,aa 0] λa=>ak a λw1=>aj w1 none (ad c) cY λ(x:Int×Int×Int×Int×Unit)=>d ((x.1,x.2.1,x.2.2.1,x.2.2.2.1,()),11,()) w1) (true=true/\aQ a (ae (ad b) 0) λg=>((!decide (g<2))=true
 ->true=true)/\aj a (some !decide (g<2)) (ae (ad b) 0) aT λ(j:Int)=>aF (decide (g<2)||decide (j>4)) (aw a (ad c) [aa 0,aa 0,aa 0,aa 0] λa=>ak a λw1=>aj w1 none (ad c) cY λ(x:Int×Int×Int×Int×Unit)=>d ((x.1,x.2.1,x.2.2.1,x.2.2.2.1,()),6,()) w1) (((!(decide (x>65535)||decide (x< -65535)))=true->true=true)/\aj a (some !(decide (x>65535)||decide (x< -65535))) (ae (ad b) 2) aT λ(l:Int)=> ∀(h:Int),h=aC .i64 l x->((!(decide (x>
 65535)||decide (x< -65535)))=true->True)/\aF (decide (x>65535)||decide (x< -65535)|| !(decide (h>=0)&&decide (h<=65535))) (aw a (ad c) [aa 0,aa 0,aa 0,aa 0] λa=>ak a λw1=>aj w1 none (ad c) cY λ(x:Int×Int×Int×Int×Unit)=>d ((x.1,x.2.1,x.2.2.1,x.2.2.2.1,()),2,()) w1) (true=true/\aQ a (ae (ad b) 2) λm=> ∀(i:Int),i=aC .i64 m x->true=true/\aw a (ae (ad b) 2) [aa i] λa=>aj a none (ad b) cY λ(x:Int×Int×Int×Int×Unit)=>
 aw a (ad c) [aa x.1,aa x.2.1,aa x.2.2.1,aa x.2.2.2.1] λa=>ak a λw1=>aj w1 none (ad c) cY λ(x:Int×Int×Int×Int×Unit)=>d ((x.1,x.2.1,x.2.2.1,x.2.2.2.1,()),0,()) w1)))):=by kernel_rfl
def dM (k o r e x y:Int):Int:=if cj k o r e=false then 11 else if r>0 then 9 else if x∈dG k then(if cj x (if x=5 then o else y) 0 0=false then 1 else 0) else 6
def gS (k o r e x y:Int):Int:=if dM k o r e x y=0 then x else 0
def fZ (k o r e x y:Int):Int:=if dM k o r e x y=0 then(if x=5 then o else y) else 0
theorem NE (k o r e x y:Int) (w:A1):ar A2 287 (.bH [(.agg [.int .i64,.int .i64,.int .i64,.int .i64]),.one (.int .i64)]) [.agg ⟨[aa k,aa o,aa r,aa e]⟩,aa x,aa y] w
 (λv w'=>v=((gS k o r e x y,fZ k o r e x y,(0:Int),(0:Int),()),dM k o r e x y,())/\Ext w w'):=by
 refine aO (C:=D2) (aM:=λ_=>[]) (A_ (NB k o r e x y w _) ?_);have H:=At.start [] w
 repeat' (first
  |exact Go.RX.aH.all H
  |exact AC (by first|rfl|decide+kernel) (Go.RX.aH.all H)
  |refine AC (by first|exact rfl|exact trivial|exact λ_=>rfl|exact λ_=>trivial|exact⟨rfl,by decide,by decide⟩|exact⟨by decide,by decide⟩|decide+kernel|exact λ_=>by decide|exact λ_=>⟨rfl,by decide,by decide⟩|(dsimp only[BA,Bb];exact⟨rfl,by decide,by decide⟩)) ?_
  |refine aj.bN 0 H rfl rfl ?_
  |refine aj.bN 1 H rfl rfl ?_
  |refine aj.bN 2 H rfl rfl ?_
  |refine aj.at 0 H rfl rfl ?_
  |refine aj.at 1 H rfl rfl ?_
  |refine aj.at 2 H rfl rfl ?_
  |refine aA.go H λb w1 H=>?_
  |refine aw.all 0 H rfl rfl rfl λw1 H=>?_
  |refine aw.all 1 H rfl rfl rfl λw1 H=>?_
  |refine aw.all 2 H rfl rfl rfl λw1 H=>?_
  |refine aw.dF 0 H rfl rfl rfl λw1 H=>?_
  |refine aw.dF 1 H rfl rfl rfl λw1 H=>?_
  |refine aw.dF 2 H rfl rfl rfl λw1 H=>?_
  |refine aw.one 0 H rfl rfl rfl λw1 H=>?_
  |refine aw.one 1 H rfl rfl rfl λw1 H=>?_
  |refine aw.one 2 H rfl rfl rfl λw1 H=>?_
  |with_reducible refine ak.go H λw1 H=>?_
  |refine fS ?_
  |refine ay (by assumption) ?_
  |refine an (by assumption) ?_
  |refine ab (λc=>?_) (λc=>?_))
 all_goals
  refine AC ?_ H.all;simp only[Bo,Bc,Bd,Do,beq_iff_eq,beq_eq_false_iff_ne,bne_iff_ne,bne_eq_false_iff_eq,decide_eq_true_eq,decide_eq_false_iff_not,E4,E5,C7,EA,and_true,true_and,and_false,false_and,or_true,true_or,or_false,false_or,ne_eq,not_true_eq_false,not_false_eq_true,false_iff,iff_false,true_iff,iff_true] at*
  first
   |(simp[gS,fZ,dM, *];done)
   |(subst_vars;simp[gS,fZ,dM, *])
theorem KR (k o r e x y:Int) (w:A1):ar A2 236 (.bH [(.agg [.int .i64,.int .i64,.int .i64,.int .i64]),.one (.int .i64)]) [.agg ⟨[aa k,aa o,aa r,aa e]⟩,aa x,aa y] w
 (λv w'=>v=((gS k o r e x y,fZ k o r e x y,(0:Int),(0:Int),()),dM k o r e x y,())/\Ext w w'):=by
 refine aO (C:=D2) (aM:=λ_=>[]) (A_ (KQ k o r e x y w _) ?_);have H:=At.start [] w
 repeat' (first
  |exact Go.RX.aH.all H
  |exact AC (by first|rfl|decide+kernel) (Go.RX.aH.all H)
  |refine AC (by first|exact rfl|exact trivial|exact λ_=>rfl|exact λ_=>trivial|exact⟨rfl,by decide,by decide⟩|exact⟨by decide,by decide⟩|decide+kernel|exact λ_=>by decide|exact λ_=>⟨rfl,by decide,by decide⟩|(dsimp only[BA,Bb];exact⟨rfl,by decide,by decide⟩)) ?_
  |refine aj.bN 0 H rfl rfl ?_
  |refine aj.bN 1 H rfl rfl ?_
  |refine aj.bN 2 H rfl rfl ?_
  |refine aj.at 0 H rfl rfl ?_
  |refine aj.at 1 H rfl rfl ?_
  |refine aj.at 2 H rfl rfl ?_
  |refine aA.go H λb w1 H=>?_
  |refine aw.all 0 H rfl rfl rfl λw1 H=>?_
  |refine aw.all 1 H rfl rfl rfl λw1 H=>?_
  |refine aw.all 2 H rfl rfl rfl λw1 H=>?_
  |refine aw.dF 0 H rfl rfl rfl λw1 H=>?_
  |refine aw.dF 1 H rfl rfl rfl λw1 H=>?_
  |refine aw.dF 2 H rfl rfl rfl λw1 H=>?_
  |refine aw.one 0 H rfl rfl rfl λw1 H=>?_
  |refine aw.one 1 H rfl rfl rfl λw1 H=>?_
  |refine aw.one 2 H rfl rfl rfl λw1 H=>?_
  |with_reducible refine ak.go H λw1 H=>?_
  |refine fS ?_
  |refine ay (by assumption) ?_
  |refine an (by assumption) ?_
  |refine ab (λc=>?_) (λc=>?_))
 all_goals
  refine AC ?_ H.all;simp only[Bo,Bc,Bd,Do,beq_iff_eq,beq_eq_false_iff_ne,bne_iff_ne,bne_eq_false_iff_eq,decide_eq_true_eq,decide_eq_false_iff_not,E4,E5,C7,EA,and_true,true_and,and_false,false_and,or_true,true_or,or_false,false_or,ne_eq,not_true_eq_false,not_false_eq_true,false_iff,iff_false,true_iff,iff_true] at*
  have a: ∀c,Hh k x=c->cj k o r e=true->decide (x∈dG k)=c:=λc h d=>by
   have f:fb k o r e:=of_decide_eq_true d;rw[<-h];exact KP x (by unfold fb at f;omega)
  first
   |(simp[gS,fZ,dM, *];done)
   |(subst_vars;simp[gS,fZ,dM, *];done)
   |(have g:=a _ (by assumption) (by assumption)
     simp only[Bo,Bc,Bd,Do,beq_iff_eq,beq_eq_false_iff_ne,bne_iff_ne,bne_eq_false_iff_eq,decide_eq_true_eq,decide_eq_false_iff_not,E4,E5,C7,EA,and_true,true_and,and_false,false_and,or_true,true_or,or_false,false_or,ne_eq,not_true_eq_false,not_false_eq_true,false_iff,iff_false,true_iff,iff_true] at g
     first
      |(simp[gS,fZ,dM, *];done)
      |(subst_vars;simp[gS,fZ,dM, *]))
def kQ (k o r e x:Int):Int:=if cj k o r e=false then 11 else if k=2\/k=3\/k=4 then(if r+x<0\/r+x>65535 then 2 else 0) else 6
def iR (k o r e x:Int):Int×Int×Int×Int×Unit:=if kQ k o r e x=0 then(k,o,r+x,e,()) else(0,0,0,0,())
theorem RH (k o r e x:Int) (j: -9223372036854775808<=x/\x<9223372036854775808) (w:A1):ar A2 298 (.bH [(.agg [.int .i64,.int .i64,.int .i64,.int .i64]),.one (.int .i64)]) [.agg ⟨[aa k,aa o,aa r,aa e]⟩,aa x] w
 (λv w'=>v=(iR k o r e x,kQ k o r e x,())/\Ext w w'):=by
 refine aO (C:=D2) (aM:=λ_=>[]) (A_ (RG k o r e x w _) ?_);have H:=At.start [] w
 repeat' (first
  |exact Go.RX.aH.all H
  |exact AC (by first|rfl|decide+kernel) (Go.RX.aH.all H)
  |refine AC (by first|exact rfl|exact trivial|exact λ_=>rfl|exact λ_=>trivial|exact⟨rfl,by decide,by decide⟩|exact⟨by decide,by decide⟩|decide+kernel|exact λ_=>by decide|exact λ_=>⟨rfl,by decide,by decide⟩|(dsimp only[BA,Bb];exact⟨rfl,by decide,by decide⟩)) ?_
  |refine aj.bN 0 H rfl rfl ?_
  |refine aj.bN 1 H rfl rfl ?_
  |refine aj.bN 2 H rfl rfl ?_
  |refine aj.at 0 H rfl rfl ?_
  |refine aj.at 1 H rfl rfl ?_
  |refine aj.at 2 H rfl rfl ?_
  |refine aA.go H λb w1 H=>?_
  |refine aw.all 0 H rfl rfl rfl λw1 H=>?_
  |refine aw.all 1 H rfl rfl rfl λw1 H=>?_
  |refine aw.all 2 H rfl rfl rfl λw1 H=>?_
  |refine aw.dF 0 H rfl rfl rfl λw1 H=>?_
  |refine aw.dF 1 H rfl rfl rfl λw1 H=>?_
  |refine aw.dF 2 H rfl rfl rfl λw1 H=>?_
  |refine aw.one 0 H rfl rfl rfl λw1 H=>?_
  |refine aw.one 1 H rfl rfl rfl λw1 H=>?_
  |refine aw.one 2 H rfl rfl rfl λw1 H=>?_
  |with_reducible refine ak.go H λw1 H=>?_
  |refine fS ?_
  |refine ay (by assumption) ?_
  |refine an (by assumption) ?_
  |refine ab (λc=>?_) (λc=>?_))
 all_goals
  refine AC ?_ H.all;simp only[Bo,Bc,Bd,Do,beq_iff_eq,beq_eq_false_iff_ne,bne_iff_ne,bne_eq_false_iff_eq,decide_eq_true_eq,decide_eq_false_iff_not,E4,E5,C7,EA,and_true,true_and,and_false,false_and,or_true,true_or,or_false,false_or,ne_eq,not_true_eq_false,not_false_eq_true,false_iff,iff_false,true_iff,iff_true] at*
 ·simp[iR,kQ, *]
 ·have h2: ¬ (k=2\/k=3\/k=4):=by omega
  simp[iR,kQ, *]
 all_goals
  have a:cj k o r e=true:=by assumption
  have f:fb k o r e:=of_decide_eq_true a;unfold fb at f;have g:bK .i64 65535 r=65535 - r:=bU (by omega) (by omega);have h:bK .i64 0 r=0 - r:=bU (by omega) (by omega);simp only[g,h] at*
  have h2:k=2\/k=3\/k=4:=by omega
 ·have d:r+x<0\/r+x>65535:=by omega
  simp[iR,kQ, *]
 ·have d: ¬ (r+x<0\/r+x>65535):=by omega
  have i:aC .i64 r x=r+x:=av (by omega) (by omega);have:kQ k o r e x=0:=by unfold kQ;rw[ao (by rw[a];decide),ax h2,ao d]
  unfold iR;rw[this,ax rfl,i]
theorem NF (k o r e x:Int) (i: -9223372036854775808<=x/\x<9223372036854775808) (w:A1):ar A2 246 (.bH [(.agg [.int .i64,.int .i64,.int .i64,.int .i64]),.one (.int .i64)]) [.agg ⟨[aa k,aa o,aa r,aa e]⟩,aa x] w
 (λv w'=>v=(iR k o r e x,kQ k o r e x,())/\Ext w w'):=by
 refine aO (C:=D2) (aM:=λ_=>[]) (A_ (ND k o r e x w _) ?_);have H:=At.start [] w
 repeat' (first
  |exact Go.RX.aH.all H
  |exact AC (by first|rfl|decide+kernel) (Go.RX.aH.all H)
  |refine AC (by first|exact rfl|exact trivial|exact λ_=>rfl|exact λ_=>trivial|exact⟨rfl,by decide,by decide⟩|exact⟨by decide,by decide⟩|decide+kernel|exact λ_=>by decide|exact λ_=>⟨rfl,by decide,by decide⟩|(dsimp only[BA,Bb];exact⟨rfl,by decide,by decide⟩)) ?_
  |refine aj.bN 0 H rfl rfl ?_
  |refine aj.bN 1 H rfl rfl ?_
  |refine aj.bN 2 H rfl rfl ?_
  |refine aj.at 0 H rfl rfl ?_
  |refine aj.at 1 H rfl rfl ?_
  |refine aj.at 2 H rfl rfl ?_
  |refine aA.go H λb w1 H=>?_
  |refine aw.all 0 H rfl rfl rfl λw1 H=>?_
  |refine aw.all 1 H rfl rfl rfl λw1 H=>?_
  |refine aw.all 2 H rfl rfl rfl λw1 H=>?_
  |refine aw.dF 0 H rfl rfl rfl λw1 H=>?_
  |refine aw.dF 1 H rfl rfl rfl λw1 H=>?_
  |refine aw.dF 2 H rfl rfl rfl λw1 H=>?_
  |refine aw.one 0 H rfl rfl rfl λw1 H=>?_
  |refine aw.one 1 H rfl rfl rfl λw1 H=>?_
  |refine aw.one 2 H rfl rfl rfl λw1 H=>?_
  |with_reducible refine ak.go H λw1 H=>?_
  |refine fS ?_
  |refine ay (by assumption) ?_
  |refine an (by assumption) ?_
  |refine ab (λc=>?_) (λc=>?_))
 all_goals
  refine AC ?_ H.all;simp only[Bo,Bc,Bd,Do,beq_iff_eq,beq_eq_false_iff_ne,bne_iff_ne,bne_eq_false_iff_eq,decide_eq_true_eq,decide_eq_false_iff_not,E4,E5,C7,EA,and_true,true_and,and_false,false_and,or_true,true_or,or_false,false_or,ne_eq,not_true_eq_false,not_false_eq_true,false_iff,iff_false,true_iff,iff_true] at*
 ·simp[iR,kQ, *]
 all_goals
  have d:cj k o r e=true:=by assumption
  have g:fb k o r e:=of_decide_eq_true d;unfold fb at g
 ·have h2: ¬ (k=2\/k=3\/k=4):=by omega
  simp[iR,kQ, *]
 ·have h2:k=2\/k=3\/k=4:=by omega
  have f:r+x<0\/r+x>65535:=by
   by_cases h:x>65535\/x< -65535
   ·omega
   ·have a:aC .i64 r x=r+x:=av (by omega) (by omega);simp only[a] at*
    omega
  simp[iR,kQ, *]
 ·have h2:k=2\/k=3\/k=4:=by omega
  have a:aC .i64 r x=r+x:=av (by omega) (by omega);simp only[a] at*
  have f: ¬ (r+x<0\/r+x>65535):=by omega
  have:kQ k o r e x=0:=by unfold kQ;rw[ao (by rw[d];decide),ax h2,ao f]
  unfold iR;rw[this,ax rfl]
theorem Da {x:Int} (h:0<=x) (h':x<18446744073709551616):(B x).toNat=x.toNat:=by
 have:=xR h h';unfold U at this;omega
theorem fv (x:Int):aD .u64 x=U (B x):=qG x
def fE (N:Nat):Int:=((N / 4294967296 % 4294967296:Nat):Int)
theorem XS {x:Int} (h:0<=x) (h':x<4294967296):aD .i64 x=x:=dZ (by omega) (by omega)
theorem cE (N:Nat):aD .i64 (fE N)=fE N:=XS (by unfold fE;omega) (by unfold fE;omega)
noncomputable def UC:Entry A2 where
 f:=287
 fn l:=match l with
  |[.agg ⟨[.int .i64 k,.int .i64 o,.int .i64 r,.int .i64 e]⟩,.int .i64 x,.int .i64 y]=>some (True,.tuple ⟨[.agg ⟨[.int .i64 (gS k o r e x y),.int .i64 (fZ k o r e x y),.int .i64 0,.int .i64 0]⟩,.int .i64 (dM k o r e x y)]⟩)
  | _=>none
 ok args pre v h a w:=by
  split at h
  ·rename_i k o r e x y;cases h;exact aS (NE k o r e x y w)
  ·cases h
noncomputable def RI:Entry A2 where
 f:=236
 fn l:=match l with
  |[.agg ⟨[.int .i64 k,.int .i64 o,.int .i64 r,.int .i64 e]⟩,.int .i64 x,.int .i64 y]=>some (True,.tuple ⟨[.agg ⟨[.int .i64 (gS k o r e x y),.int .i64 (fZ k o r e x y),.int .i64 0,.int .i64 0]⟩,.int .i64 (dM k o r e x y)]⟩)
  | _=>none
 ok args pre v h a w:=by
  split at h
  ·rename_i k o r e x y;cases h;exact aS (KR k o r e x y w)
  ·cases h
noncomputable def XT:Entry A2 where
 f:=298
 fn l:=match l with
  |[.agg ⟨[.int .i64 k,.int .i64 o,.int .i64 r,.int .i64 e]⟩,.int .i64 x]=>some ((-9223372036854775808<=x/\x<9223372036854775808),.tuple ⟨[.agg ⟨[.int .i64 (iR k o r e x).1,.int .i64 (iR k o r e x).2.1,.int .i64 (iR k o r e x).2.2.1,.int .i64 (iR k o r e x).2.2.2.1]⟩,.int .i64 (kQ k o r e x)]⟩)
  | _=>none
 ok args pre v h a w:=by
  split at h
  ·rename_i k o r e x;cases h;exact aS (RH k o r e x a w)
  ·cases h
noncomputable def UD:Entry A2 where
 f:=246
 fn l:=match l with
  |[.agg ⟨[.int .i64 k,.int .i64 o,.int .i64 r,.int .i64 e]⟩,.int .i64 x]=>some ((-9223372036854775808<=x/\x<9223372036854775808),.tuple ⟨[.agg ⟨[.int .i64 (iR k o r e x).1,.int .i64 (iR k o r e x).2.1,.int .i64 (iR k o r e x).2.2.1,.int .i64 (iR k o r e x).2.2.2.1]⟩,.int .i64 (kQ k o r e x)]⟩)
  | _=>none
 ok args pre v h a w:=by
  split at h
  ·rename_i k o r e x;cases h;exact aS (NF k o r e x a w)
  ·cases h
noncomputable def D3:dn A2:={D0 with rz:=false,oG:=[o_,Mj,xS,xT,rB,rC,Bl,Bm,QH,yw,yx,qJ,mP,UC,RI,XT,UD]}
noncomputable def E0:dn A2:={D3 with sh:=[(277,.el (.one (.qq 332 2))),(202,.el (.one (.qq 332 2)))],quiet:=[278,281,78]}
noncomputable def E1:dn A2:={E0 with cl:=[(370,.qq 278 1)]}
noncomputable def E2:dn A2:={E0 with cl:=[(370,.qq 281 1)]}
abbrev TP:Sh:= .el (.one (.qq 332 2))
theorem RJ (p:Option A9) (w:A1) (a:Int->A1->Prop):(aJ E0 (λ_=>[]) 78 [ah p] w a)=(
 aF p.isNone (ak w (a 0)) (l4 p 0 w λx=>ak w (a (↑x.2.1:Int)))):=by kernel_rfl
theorem RK (k o r e:Int) (c:Option A9) (w:A1) (d:Bool->A1->Prop):(aJ E0 (λ_=>[]) 278 [.agg ⟨[aa k,aa o,aa r,aa e]⟩,ah c] w d)=(
 aA w ⟨[aa k,aa o,aa r,aa e]⟩ 79 λb a=>true=true/\aQ a (ae (ad b) 0) λx=>aQ a c λf=>ak a (d (x==f))):=by kernel_rfl
theorem FJ (k o r e:Int) (c:Option A9) (w:A1) (d:Bool->A1->Prop):(aJ E0 (λ_=>[]) 281 [.agg ⟨[aa k,aa o,aa r,aa e]⟩,ah c] w d)=(
 aA w ⟨[aa k,aa o,aa r,aa e]⟩ 79 λb a=>true=true/\aQ a (ae (ad b) 1) λx=>aQ a c λf=>ak a (d (x==f))):=by kernel_rfl
theorem UE (p:Option A9) (k:Int) (w:A1) (c:Option A9×Option A9×Unit->A1->Prop):(aJ E0 (λ_=>[]) 202 [ah p,aa k] w c)=(
 aA w ⟨[aa k]⟩ 3 λb a=>aB A2 277 (.el (.one (.qq 332 2))) [ah p,.func (.func 278) ⟨[]⟩ {toList:=[ah (ad b)]}] a λx a=>ak a (c (x.1,x.2.1,()))):=by kernel_rfl
theorem NG (p c:Option A9) (w:A1) (d:Option A9×Option A9×Unit->A1->Prop):(aJ E0 (λ_=>[]) 277 [ah p,.func (.func 278) #[] #[ah c]] w d)=(
 aA w ⟨[ah p]⟩ 47 λb a=>aA a {toList:=[.func (.func 278) ⟨[]⟩ ⟨[ah c]⟩]} 370 λe a=>ak a (d (some ⟨b,0,none⟩,some ⟨e,0,none⟩,()))):=by kernel_rfl
theorem KS (p c:Option A9) (w:A1) (d:Option A9×Option A9×Unit->A1->Prop):(aJ E0 (λ_=>[]) 277 [ah p,.func (.func 281) #[] #[ah c]] w d)=(
 aA w ⟨[ah p]⟩ 47 λb a=>aA a {toList:=[.func (.func 281) ⟨[]⟩ ⟨[ah c]⟩]} 370 λe a=>ak a (d (some ⟨b,0,none⟩,some ⟨e,0,none⟩,()))):=by kernel_rfl
def qg:Nat->aV:=(λ|2=>[(13,Go.RX.El.one (Go.RX.Sc.int Es))]| _=>[])
theorem KT (y:Nat) (p c:Option A9) (w:A1) (f:Unit->A1->Prop):(aJ E1 qg 332 [.func (.yield y) #[] #[],ah p,ah c] w f)=(
 fQ w p λx=>aF x.isNone (ak w (f ())) (fQ w p λx=>l4 x 0 w λx=> ∃(I:Nat->Int×Unit->A1->Prop),(∃n, ∀w1,Ext w w1->I n (0,()) w1)/\ ∀(n:Nat) (s:Int×Unit) (w1:A1),I n s w1->aF (decide (s.1<(↑x.2.1:Int))) ((x.1.isSome=true/\0<=s.1/\s.1<(↑x.2.1:Int))/\aj w1 none (ae x.1 (Int.toNat s.1*4)) cY λ(x:Int×Int×Int×Int×Unit)=>aA w1 ⟨[aa 0,aa 0,aa 0,aa 0]⟩ 79 λb a=>aw a (ad b) [aa x.1,aa x.2.1,aa x.2.2.1,aa x.2.2.2.1] λa=>aj
 a none c (.one (.qq 278 1)) λx=>aj a none (ad b) cY λ(g:Int×Int×Int×Int×Unit)=> ∃h,ag A2 278 [.agg ⟨[aa g.1,aa g.2.1,aa g.2.2.1,aa g.2.2.2.1]⟩,ah x.1] a (.bool h)/\aF h (∀w1,Ext a w1->jZ A2 y [aa s.1] w1 λ(b:Bool) a=>aF (!b) (ak a (f ())) (∀d,Ext a d-> ∃(e:Nat),e<n/\I e (aC .i64 s.1 1,()) d)) (∀d,Ext a d-> ∃(e:Nat),e<n/\I e (aC .i64 s.1 1,()) d)) (ak w1 (f ())))):=by kernel_rfl
def nL:Nat->aV:=(λ|2=>[(13,Go.RX.El.one (Go.RX.Sc.int Es))]| _=>[])
theorem FK (y:Nat) (p c:Option A9) (w:A1) (f:Unit->A1->Prop):(aJ E2 nL 332 [.func (.yield y) #[] #[],ah p,ah c] w f)=(
 fQ w p λx=>aF x.isNone (ak w (f ())) (fQ w p λx=>l4 x 0 w λx=> ∃(I:Nat->Int×Unit->A1->Prop),(∃n, ∀w1,Ext w w1->I n (0,()) w1)/\ ∀(n:Nat) (s:Int×Unit) (w1:A1),I n s w1->aF (decide (s.1<(↑x.2.1:Int))) ((x.1.isSome=true/\0<=s.1/\s.1<(↑x.2.1:Int))/\aj w1 none (ae x.1 (Int.toNat s.1*4)) cY λ(x:Int×Int×Int×Int×Unit)=>aA w1 ⟨[aa 0,aa 0,aa 0,aa 0]⟩ 79 λb a=>aw a (ad b) [aa x.1,aa x.2.1,aa x.2.2.1,aa x.2.2.2.1] λa=>aj
 a none c (.one (.qq 281 1)) λx=>aj a none (ad b) cY λ(g:Int×Int×Int×Int×Unit)=> ∃h,ag A2 281 [.agg ⟨[aa g.1,aa g.2.1,aa g.2.2.1,aa g.2.2.2.1]⟩,ah x.1] a (.bool h)/\aF h (∀w1,Ext a w1->jZ A2 y [aa s.1] w1 λ(b:Bool) a=>aF (!b) (ak a (f ())) (∀d,Ext a d-> ∃(e:Nat),e<n/\I e (aC .i64 s.1 1,()) d)) (∀d,Ext a d-> ∃(e:Nat),e<n/\I e (aC .i64 s.1 1,()) d)) (ak w1 (f ())))):=by kernel_rfl
theorem KU (k o r e:Int) (c d:Option A9) (w:A1) (i:(Int×Int×Int×Int×Unit)×Int×Unit->A1->Prop):(bO E0 (λ_=>[]) 286 [.agg ⟨[aa k,aa o,aa r,aa e]⟩,ah c,ah d] w i)=(
 aA w ⟨[aa k,aa o,aa r,aa e]⟩ 79 λb a=>aA a ⟨[aa 0,aa 0,aa 0,aa 0]⟩ 79 λj a=>aj a none (ad b) cY λ(x:Int×Int×Int×Int×Unit)=>aQ a c λg=>aQ a d λh=>True/\aw a (ad j) [aa (gS x.1 x.2.1 x.2.2.1 x.2.2.2.1 g h),aa (fZ x.1 x.2.1 x.2.2.1 x.2.2.2.1 g h),aa 0,aa 0] λa=>ak a λw1=>aj w1 none (ad j) cY λ(f:Int×Int×Int×Int×Unit)=>i ((f.1,f.2.1,f.2.2.1,f.2.2.2.1,()),dM x.1 x.2.1
 x.2.2.1 x.2.2.2.1 g h,()) w1):=by kernel_rfl
theorem NH (k o r e:Int) (c:Option A9) (w:A1) (g:(Int×Int×Int×Int×Unit)×Int×Unit->A1->Prop):(bO E0 (λ_=>[]) 297 [.agg ⟨[aa k,aa o,aa r,aa e]⟩,ah c] w g)=(
 aA w ⟨[aa k,aa o,aa r,aa e]⟩ 79 λb a=>aA a ⟨[aa 0,aa 0,aa 0,aa 0]⟩ 79 λh a=>aj a none (ad b) cY λ(x:Int×Int×Int×Int×Unit)=>aQ a c λd=>(-9223372036854775808<=d/\d<9223372036854775808)/\aw a (ad h) [aa (iR x.1 x.2.1 x.2.2.1 x.2.2.2.1 d).1,aa (iR x.1 x.2.1 x.2.2.1 x.2.2.2.1 d).2.1,aa (iR x.1 x.2.1 x.2.2.1 x.2.2.2.1 d).2.2.1,aa (iR x.1 x.2.1 x.2.2.1 x.2.2.2.1 d).2.2.2.1] λa=>ak a λw1=>aj w1 none (ad h) cY λ
 (f:Int×Int×Int×Int×Unit)=>g ((f.1,f.2.1,f.2.2.1,f.2.2.2.1,()),kQ x.1 x.2.1 x.2.2.1 x.2.2.2.1 d,()) w1):=by kernel_rfl
theorem FL (p:Option A9) (f:Int) (c d:Option A9) (w:A1) (e:Int->A1->Prop):(aJ E0 (λ_=>[]) 285 [ah p,aa f,.func (.func 286) #[] #[ah c,ah d]] w e)=(
 ∃(x:Int),ag A2 78 [ah p] w (aa x)/\aF (x==0) (ak w (e 10)) (((!decide (f<0))=true->p.isSome=true)/\((!decide (f<0))=true->p.isSome=true)/\aj w (some !decide (f<0)) (ae p 0) jD λx=>aF (decide (f<0)||decide (f>=(↑x.2.1:Int))) (ak w (e 2)) (l4 p 0 w λx=>(x.1.isSome=true/\0<=f/\f<(↑x.2.1:Int))/\aj w none (ae x.1 (f.toNat*4)) cY λ(x:Int×Int×Int×Int×Unit)=>aB A2 286 (.bH [.agg [.int .i64,.int .i64,.int .i64,.int .i64],.one (.int .i64)]) [.agg ⟨[aa x.1,.int .i64
 x.2.1,aa x.2.2.1,aa x.2.2.2.1]⟩,ah c,ah d] w λ(x:(Int×Int×Int×Int×Unit)×Int×Unit) a=>aA a ⟨[aa 0,aa 0,aa 0,aa 0]⟩ 79 λb a=>aw a (ad b) [aa x.1.1,aa x.1.2.1,aa x.1.2.2.1,aa x.1.2.2.2.1] λa=>aF (x.2.1==0) (l4 p 0 a λh=>aj a none (ad b) cY λ(g:Int×Int×Int×Int×Unit)=>(h.1.isSome=true/\0<=f/\f<(↑h.2.1:Int))/\aw a (ae h.1 (f.toNat*4)) [aa g.1,aa g.2.1,aa g.2.2.1,aa g.2.2.2.1]
 λa=>ak a (e x.2.1)) (ak a (e x.2.1))))):=by kernel_rfl
theorem Cv (p:Option A9) (f:Int) (c:Option A9) (w:A1) (d:Int->A1->Prop):(aJ E0 (λ_=>[]) 285 [ah p,aa f,.func (.func 297) #[] #[ah c]] w d)=(
 ∃(x:Int),ag A2 78 [ah p] w (aa x)/\aF (x==0) (ak w (d 10)) (((!decide (f<0))=true->p.isSome=true)/\((!decide (f<0))=true->p.isSome=true)/\aj w (some !decide (f<0)) (ae p 0) jD λx=>aF (decide (f<0)||decide (f>=(↑x.2.1:Int))) (ak w (d 2)) (l4 p 0 w λx=>(x.1.isSome=true/\0<=f/\f<(↑x.2.1:Int))/\aj w none (ae x.1 (f.toNat*4)) cY λ(x:Int×Int×Int×Int×Unit)=>aB A2 297 (.bH [.agg [.int .i64,.int .i64,.int .i64,.int .i64],.one (.int .i64)]) [.agg ⟨[aa x.1,.int .i64
 x.2.1,aa x.2.2.1,aa x.2.2.2.1]⟩,ah c] w λ(x:(Int×Int×Int×Int×Unit)×Int×Unit) a=>aA a ⟨[aa 0,aa 0,aa 0,aa 0]⟩ 79 λb a=>aw a (ad b) [aa x.1.1,aa x.1.2.1,aa x.1.2.2.1,aa x.1.2.2.2.1] λa=>aF (x.2.1==0) (l4 p 0 a λg=>aj a none (ad b) cY λ(e:Int×Int×Int×Int×Unit)=>(g.1.isSome=true/\0<=f/\f<(↑g.2.1:Int))/\aw a (ae g.1 (f.toNat*4)) [aa e.1,aa e.2.1,aa e.2.2.1,aa e.2.2.2.1] λa=>ak
 a (d x.2.1)) (ak a (d x.2.1))))):=by kernel_rfl
theorem NI (p:Option A9) (f k o:Int) (w:A1) (c:Int->A1->Prop):(aJ E0 (λ_=>[]) 211 [ah p,aa f,aa k,aa o] w c)=(
 aA w ⟨[aa k]⟩ 3 λb a=>aA a ⟨[aa o]⟩ 3 λd a=>aB A2 285 (.el aT) [ah p,aa f,.func (.func 286) ⟨[]⟩ {toList:=[ah (ad b),ah (ad d)]}] a λ(x:Int) a=>ak a (c x)):=by kernel_rfl
theorem NJ (p:Option A9) (f x:Int) (w:A1) (c:Int->A1->Prop):(aJ E0 (λ_=>[]) 226 [ah p,aa f,aa x] w c)=(
 aA w ⟨[aa x]⟩ 3 λb a=>aB A2 285 (.el aT) [ah p,aa f,.func (.func 297) ⟨[]⟩ {toList:=[ah (ad b)]}] a λ(x:Int) a=>ak a (c x)):=by kernel_rfl
theorem NK (p:Option A9) (f:Int) (w:A1) (a:Int->A1->Prop):(aJ E0 (λ_=>[]) 215 [ah p,aa f] w a)=(
 aB A2 211 (.el aT) [ah p,aa f,aa 0,aa 0] w λ(x:Int) b=>ak b (a x)):=by kernel_rfl
theorem RM (p:Option A9) (f:Int) (w:A1) (c:(Int×Int×Int×Int×Unit)×Bool×Unit->A1->Prop):(bO E0 (λ_=>[]) 32 [ah p,aa f] w c)=(
 aA w ⟨[aa 0,aa 0,aa 0,aa 0]⟩ 79 λb a=> ∃(x:Int),((!decide (f<0))=true->ag A2 78 [ah p] a (aa x))/\aF (decide (f<0)||decide (f>=x)) (aw a (ad b) [aa 0,aa 0,aa 0,aa 0] λa=>ak a λw1=>aj w1 none (ad b) cY λ(x:Int×Int×Int×Int×Unit)=>c ((x.1,x.2.1,x.2.2.1,x.2.2.2.1,()),false,()) w1) (l4 p 0 a λx=>(x.1.isSome=true/\0<=f/\f<(↑x.2.1:Int))/\aj a none (ae x.1 (f.toNat*4)) cY λ(x:Int×Int×Int×Int×Unit)
 =>aw a (ad b) [aa x.1,aa x.2.1,aa x.2.2.1,aa x.2.2.2.1] λa=>ak a λw1=>aj w1 none (ad b) cY λ(x:Int×Int×Int×Int×Unit)=>c ((x.1,x.2.1,x.2.2.1,x.2.2.2.1,()),true,()) w1)):=by kernel_rfl
theorem NL (n:Int) (w:A1) (a:Option A9×Int×Unit->A1->Prop):(aJ E0 (λ_=>[]) 54 [aa n] w a)=(
 aF (decide (n<1)||decide (n>4096)) (ak w (a (none,1,()))) (Hp w 32 4 n n ⟨[aa 0,aa 0,aa 0,aa 0]⟩ 79 λb c=>aA c {toList:=[.slice (ad b) n.toNat n.toNat]} 198 λb c=>ak c (a (some ⟨b,0,none⟩,0,())))):=by kernel_rfl
theorem NM (p:Option A9) (w:A1) (a:Option A9->A1->Prop):(aJ E0 (λ_=>[]) 79 [ah p] w a)=(
 ∃(x:Int),ag A2 78 [ah p] w (aa x)/\aF (x==0) (ak w (a none)) (l4 p 0 w λx=> ∀w1,Ext w w1->vp w1 79 4 32 ⟨[aa 0,aa 0,aa 0,aa 0]⟩ (none,0,0) (x.1,x.2.1,x.2.2) λ(r:Option A9×Nat×Nat) c=>aA c ⟨[.slice r.1 r.2.1 r.2.2]⟩ 198 λb c=>ak c (a (ad b)))):=by kernel_rfl
def qh:Nat->aV:=(λ|3=>[(9,.one (.int .i64))]| _=>[])
theorem KV (p:Option A9) (k:Int) (w:A1) (d:Int->A1->Prop):(bO E0 qh 123 [ah p,aa k] w d)=(
 aA w ⟨[aa 0]⟩ 3 λb c=>aw c (ad b) [aa 0] λc=>aB A2 202 (.el (.one (.qq 332 2))) [ah p,aa k] c λx c=>vr A2 332 (λ(y:Nat)=>[.func (Fn.yield y) ⟨[]⟩ ⟨[]⟩,ah x.1,ah x.2.1]) ⟨[9]⟩ c (λ(x:Int×Unit)=>[aa x.1]) (λ(l:Nat) (rec:Loop) (x:Int×Unit) e (R:Bool->A1->Prop)=>zd l rec [aa x.1].length 1 e (xG l rec e λa=>aQ a (ad b) λx=>aw a (ad b) [aa (aC .i64 x 1)] λc=>
 oJ l rec none c R)) λ(r:Nat) (rec:Loop) f=>c9 (r+1) rec f (λa=>aQ a (ad b) λx=>oN [r] a λw1=>d x w1) (λ(id:Nat) a=>Decidable.rec (λ(h:id=0->False)=>False) (λ(h:id=0)=>aQ a (ad b) λx=>oN [r] a λw1=>d x w1) (match h:id.beq 0 with|true=>isTrue (Hc h)|false=>isFalse (Hf h))) λa=>oN [r] a λw1=>d 0 w1):=by kernel_rfl
def qi:Nat->aV:=(λ|4=>[(10,.one (.int .i64))]| _=>[])
theorem KW (p:Option A9) (k:Int) (w:A1) (d:Option A9×Nat×Nat->A1->Prop):(bO E0 qi 205 [ah p,aa k] w d)=(
 aA w ⟨[aa k]⟩ 3 λb a=>aA a ⟨[.slice none 0 0]⟩ 30 λe a=>aB A2 277 (.el (.one (.qq 332 2))) [ah p,.func (.func 281) ⟨[]⟩ {toList:=[ah (ad b)]}] a λx a=>vr A2 332 (λ(y:Nat)=>[.func (Fn.yield y) ⟨[]⟩ ⟨[]⟩,ah x.1,ah x.2.1]) ⟨[10]⟩ a (λ(x:Int×Unit)=>[aa x.1]) (λ(l:Nat) (rec:Loop) (x:Int×Unit) g (R:Bool->A1->Prop)=>zd l rec [aa x.1].length 1 g (xG l rec g λc=>tC c (ad e) λf=>aA c ⟨[aa x.1]⟩
 3 λb a=> ∀w1,Ext a w1->vp w1 3 1 8 ⟨[aa 0]⟩ (f.1,f.2.1,f.2.2) (some ⟨b,0,none⟩,1,1) λ(r:Option A9×Nat×Nat) a=>aw a (ad e) [.slice r.1 r.2.1 r.2.2] λa=>oJ l rec none a R)) λ(r:Nat) (rec:Loop) i=>c9 (r+1) rec i (λc=>tC c (ad e) λx=>oN [r] c λw1=>d (x.1,x.2.1,x.2.2) w1) (λ(id:Nat) c=>Decidable.rec (λ(h:id=0->False)=>False) (λ(h:id=0)=>tC c (ad e) λx=>oN [r] c λw1=>d (x.1,
 x.2.1,x.2.2) w1) (match h:id.beq 0 with|true=>isTrue (Hc h)|false=>isFalse (Hf h))) λc=>oN [r] c λw1=>d (none,0,0) w1):=by kernel_rfl
def se:Nat->aV:=(λ|5=>[(15,.one (.int .i64))]| _=>[])
abbrev oF (b:Int×Int×Unit->A1->Prop) (a:A1) (c:Nat) (d:Nat):Prop:=
 aQ a (ad c) λx=>aQ a (ad d) λe=>b (x,e,()) a
abbrev vb (d:Int×Int×Unit->A1->Prop) (e:A1) (b:Nat) (c:Nat) (f:Nat):Prop:=
 aw e (ad b) [aa 0] λa=>aw a (ad c) [aa 12] λa=>oN [f] a λw1=>oF d w1 b c
theorem NN (p:Option A9) (k o:Int) (w:A1) (f:Int×Int×Unit->A1->Prop):(bO E0 se 213 [ah p,aa k,aa o] w f)=(
 aA w ⟨[ah p]⟩ 47 λb a=>aA a ⟨[aa k]⟩ 3 λm a=>aA a ⟨[aa o]⟩ 3 λn a=>aA a ⟨[aa 0]⟩ 3 λd a=>aA a ⟨[aa 0]⟩ 24 λe a=>fQ a (ad b) λx=> ∃(g:Int),ag A2 78 [ah x] a (aa g)/\aF (g==0) (aw a (ad d) [aa 0] λa=>aw a (ad e) [aa 10] λa=>ak a λw1=>oF f w1 d e) (fQ a (ad b) λx=>aB A2 202 (.el (.one (.qq 332 2))) [ah x,.int
 .i64 0] a λx a=>vr A2 332 (λ(y:Nat)=>[.func (Fn.yield y) ⟨[]⟩ ⟨[]⟩,ah x.1,ah x.2.1]) ⟨[15]⟩ a (λ(x:Int×Unit)=>[aa x.1]) (λ(l:Nat) (rec:Loop) (x:Int×Unit) i (R:Bool->A1->Prop)=>zd l rec [aa x.1].length 1 i (xG l rec i λc=>fQ c (ad b) λq=>aQ c (ad m) λs=>aQ c (ad n) λt=>aB A2 211 (.el aT) [ah q,aa x.1,.int .i64
 s,aa t] c λ(j:Int) a=>aF (j != 0) (aw a (ad d) [aa 0] λa=>aw a (ad e) [aa j] λa=>oJ l rec (some Code.ret) a R) (aw a (ad d) [aa x.1] λa=>aw a (ad e) [aa 0] λa=>oJ l rec (some Code.ret) a R))) λ(r:Nat) (rec:Loop) u=>c9 (r+1) rec u (λc=>vb f c d e r) (λ(id:Nat) c=>Decidable.rec (λ(h:id=0->False)=>False) (λ(h:id=0)=>vb f c d e r)
 (match h:id.beq 0 with|true=>isTrue (Hc h)|false=>isFalse (Hf h))) λc=>oN [r] c λw1=>oF f w1 d e)):=by kernel_rfl
abbrev sD:List Sc:=[.int .i64,.int .i64,.int .i64,.int .i64]
abbrev eD:El:= .agg sD
abbrev DT:Type:=Int×Int×Int×Int×Unit
def zD:DT:=(0,0,0,0,())
theorem qN {w:A1} {bp n c:Nat} {a:Option A9} (h:bh w bp [.slice a n c]):ar A2 78 (.el (.one (.int .i64))) [ah (ad bp)] w (λx w'=>x=(n:Int)/\Ext w w'):=by
 refine ai (C:=E0) (aM:=λ_=>[]) (A_ (RJ _ w _) ?_);have H:=At.start [] w;refine an rfl ⟨rfl,rfl,aj.iQ H h (by simp) rfl ?_⟩
 repeat' (first
  |exact Go.RX.aH.all H
  |exact AC (by first|rfl|decide+kernel) (Go.RX.aH.all H)
  |refine AC (by first|exact rfl|exact trivial|exact λ_=>rfl|exact λ_=>trivial|exact⟨rfl,by decide,by decide⟩|exact⟨by decide,by decide⟩|decide+kernel|exact λ_=>by decide|exact λ_=>⟨rfl,by decide,by decide⟩|(dsimp only[BA,Bb];exact⟨rfl,by decide,by decide⟩)) ?_
  |refine aj.bN 0 H rfl rfl ?_
  |refine aj.at 0 H rfl rfl ?_
  |refine aA.go H λb w1 H=>?_
  |refine aw.all 0 H rfl rfl rfl λw1 H=>?_
  |refine aw.dF 0 H rfl rfl rfl λw1 H=>?_
  |refine aw.one 0 H rfl rfl rfl λw1 H=>?_
  |with_reducible refine ak.go H λw1 H=>?_
  |refine fS ?_
  |refine ay (by assumption) ?_
  |refine an (by assumption) ?_
  |refine ab (λc=>?_) (λc=>?_))
theorem RN {w:A1} {kc:Nat} {v:Int} (h:bh w kc [aa v]) (d:DT):ar A2 278 (.el (.one .bool)) [.agg ⟨aZ sD d⟩,ah (ad kc)] w (λx w'=>x=(d.1==v)/\Ext w w'):=by
 obtain⟨k,o,r,e,u⟩:=d;refine ai (C:=E0) (aM:=λ_=>[]) (A_ (RK k o r e _ w _) ?_);have H:=At.start [] w
 repeat' (first
  |refine aj.gm H h (by simp) rfl ?_
  |exact Go.RX.aH.all H
  |exact AC (by first|rfl|decide+kernel) (Go.RX.aH.all H)
  |refine AC (by first|exact rfl|exact trivial|exact λ_=>rfl|exact λ_=>trivial|exact⟨rfl,by decide,by decide⟩|exact⟨by decide,by decide⟩|decide+kernel|exact λ_=>by decide|exact λ_=>⟨rfl,by decide,by decide⟩|(dsimp only[BA,Bb];exact⟨rfl,by decide,by decide⟩)) ?_
  |refine aj.bN 0 H rfl rfl ?_
  |refine aj.at 0 H rfl rfl ?_
  |refine aA.go H λb w1 H=>?_
  |refine aw.all 0 H rfl rfl rfl λw1 H=>?_
  |refine aw.dF 0 H rfl rfl rfl λw1 H=>?_
  |refine aw.one 0 H rfl rfl rfl λw1 H=>?_
  |with_reducible refine ak.go H λw1 H=>?_
  |refine fS ?_
  |refine ay (by assumption) ?_
  |refine an (by assumption) ?_
  |refine ab (λc=>?_) (λc=>?_))
theorem FM {w:A1} {kc:Nat} {v:Int} (h:bh w kc [aa v]) (d:DT):ar A2 281 (.el (.one .bool)) [.agg ⟨aZ sD d⟩,ah (ad kc)] w (λx w'=>x=(d.2.1==v)/\Ext w w'):=by
 obtain⟨k,o,r,e,u⟩:=d;refine ai (C:=E0) (aM:=λ_=>[]) (A_ (FJ k o r e _ w _) ?_);have H:=At.start [] w
 repeat' (first
  |refine aj.gm H h (by simp) rfl ?_
  |exact Go.RX.aH.all H
  |exact AC (by first|rfl|decide+kernel) (Go.RX.aH.all H)
  |refine AC (by first|exact rfl|exact trivial|exact λ_=>rfl|exact λ_=>trivial|exact⟨rfl,by decide,by decide⟩|exact⟨by decide,by decide⟩|decide+kernel|exact λ_=>by decide|exact λ_=>⟨rfl,by decide,by decide⟩|(dsimp only[BA,Bb];exact⟨rfl,by decide,by decide⟩)) ?_
  |refine aj.bN 0 H rfl rfl ?_
  |refine aj.at 0 H rfl rfl ?_
  |refine aA.go H λb w1 H=>?_
  |refine aw.all 0 H rfl rfl rfl λw1 H=>?_
  |refine aw.dF 0 H rfl rfl rfl λw1 H=>?_
  |refine aw.one 0 H rfl rfl rfl λw1 H=>?_
  |with_reducible refine ak.go H λw1 H=>?_
  |refine fS ?_
  |refine ay (by assumption) ?_
  |refine an (by assumption) ?_
  |refine ab (λc=>?_) (λc=>?_))
section
variable {D G:List Nat} {w0 w:A1} {L:List (Nat×List A3)}
theorem pf (H:aH D G w0 w L) (p:Option A9) (k:Int) {K:Option A9×Option A9×Unit->A1->Prop}
 (a: ∀pc ic kc w1,aH D G w0 w1 ((ic,[.func (.func 278) #[] #[ah (ad kc)]])::(pc,[ah p])::(kc,[aa k])::L)->K (some ⟨pc,0,none⟩,some ⟨ic,0,none⟩,()) w1):
 aB A2 202 TP [ah p,aa k] w K:=by
 refine aB.go H λw1 H=>ai (C:=E0) (aM:=λ_=>[]) (A_ (UE p k w1 K) ?_);refine aA.go H λkc d H=>aB.go H λb H=>ai (C:=E0) (aM:=λ_=>[]) (A_ (NG p _ b _) ?_);refine aA.go H λpc e H=>aA.go H λic f H=>ak.go H λg H=>ak.go H λc H=>?_;exact a pc ic kc c H
theorem NO (H:aH D G w0 w L) (p c:Option A9) {K:Option A9×Option A9×Unit->A1->Prop}
 (a: ∀pc ic w1,aH D G w0 w1 ((ic,[.func (.func 281) #[] #[ah c]])::(pc,[ah p])::L)->K (some ⟨pc,0,none⟩,some ⟨ic,0,none⟩,()) w1):
 aB A2 277 TP [ah p,.func (.func 281) #[] #[ah c]] w K:=by
 refine aB.go H λw1 H=>ai (C:=E0) (aM:=λ_=>[]) (A_ (KS p c w1 K) ?_);refine aA.go H λpc d H=>aA.go H λic e H=>ak.go H λb H=>?_;exact a pc ic b H
end
def I0 (fn:FuncId) (pc ic kc bp bf c:Nat) (v:Int) (ds:List DT) (rest:List A3) (w:A1):Prop:=
 bh w pc [ah (ad bp)]/\bh w ic [.func (.func fn) #[] #[ah (ad kc)]]/\bh w kc [aa v]/\bh w bp [.slice (ad bf) ds.length c]/\bh w bf (flat eD ds++rest)
theorem Am {pc ic kc bp bf c:Nat} {v:Int} {ds:List DT} {rest:List A3} (O:ds.length<=4096):
 MC A2 332 (λy=>[.func (.yield y) #[] #[],ah (ad pc),ah (ad ic)]) ds.length
  (λi=>match ds[i]? with
   |some d=>if d.1=v then some [aa (i:Nat)] else none
   |none=>none) (I0 278 pc ic kc bp bf c v ds rest):=by
 intro y w J D a E o F G h0;have key:ar A2 332 (qt E1 332) [.func (.yield y) #[] #[],ah (ad pc),ah (ad ic)] w (λ_ w'=>J ds.length w'\/D w'):=by
  refine ai (C:=E1) (aM:=qg) (A_ (KT y _ _ w _) ?_);obtain⟨s1,p,q,r,t⟩:=o 0 w h0;refine aj.of _ (s1.lJ rfl) (an rfl (aj.of _ (s1.lJ rfl) ⟨rfl,rfl,aj.of (some ⟨bf,0,none⟩,ds.length,c) (by rw[aL];exact r.lJ rfl) ?_⟩));refine⟨λn s w'=> ∃i:Nat,s.1=i/\n+i=ds.length/\J i w',⟨ds.length,λw1 I=>⟨0,rfl,rfl,a _ _ _ h0 I⟩⟩,?_⟩;rintro n ⟨P,u⟩ w1 ⟨i,hi,Q,f⟩;simp only at hi;subst hi;dsimp only;refine ab (λc=>?_) (λc=>?_)
  ·have k:i<ds.length:=by simp only[decide_eq_true_eq] at c;omega
   obtain⟨s1,p,q,r,t⟩:=o i w1 f;have h:ds[i]? =some ds[i]:=B1 k;refine⟨⟨rfl,by omega,by omega⟩,aj.of ds[i] (eC t h) ?_⟩;have H:=At.start [] w1;have next: ∀w',J (i+1) w'-> ∀g,Ext w' g-> ∃z,z<n/\ ∃j:Nat,aC .i64 (i:Nat) 1=j/\z+j=ds.length/\J j g:=λw' l g m=>
    ⟨n - 1,by omega,i+1,by rw[av (by omega) (by omega)];rfl,by omega,a _ _ _ l m⟩
   generalize K:ds[i]=d;rw[K] at h;refine aA.go H λb A H=>aw.all 0 H rfl rfl rfl λA H=>aj.of (some ⟨kc,0,none⟩,()) ((H.gm p (by simp)).lJ rfl) (aj.at 0 H rfl rfl ?_);have B:=a _ _ _ f H.all;refine⟨d.1==v,ag.of (s:= .el (.one .bool)) λw' h'=>RN ((H.gm q (by simp)).ext h') d,ab (λc=>λg m=>?_) (λc=>?_)⟩
   ·refine G i _ k (by simp only[h];rw[ax (by simpa using c)]) g _ (a _ _ _ B m) (λw' l=>?_) (λw' L=>?_)
    ·exact an rfl (next w' l)
    ·exact ay rfl λR M=> .inr (E _ _ L M)
   ·exact next _ (F i k (by simp only[h];rw[ao (by simpa using c)]) _ B)
  ·have:i=ds.length:=by simp only[decide_eq_false_iff_not] at c;omega
   subst this;exact λA h2=> .inl (a _ _ _ f h2)
 exact Calls.mono key λe w' ⟨x,N,f⟩=>⟨_,N,f⟩
theorem KX {pc ic kc bp bf c:Nat} {v:Int} {ds:List DT} {rest:List A3} (O:ds.length<=4096):
 MC A2 332 (λy=>[.func (.yield y) #[] #[],ah (ad pc),ah (ad ic)]) ds.length
  (λi=>match ds[i]? with
   |some d=>if d.2.1=v then some [aa (i:Nat)] else none
   |none=>none) (I0 281 pc ic kc bp bf c v ds rest):=by
 intro y w J D a E o F G h0;have key:ar A2 332 (qt E2 332) [.func (.yield y) #[] #[],ah (ad pc),ah (ad ic)] w (λ_ w'=>J ds.length w'\/D w'):=by
  refine ai (C:=E2) (aM:=nL) (A_ (FK y _ _ w _) ?_);obtain⟨s1,p,q,r,t⟩:=o 0 w h0;refine aj.of _ (s1.lJ rfl) (an rfl (aj.of _ (s1.lJ rfl) ⟨rfl,rfl,aj.of (some ⟨bf,0,none⟩,ds.length,c) (by rw[aL];exact r.lJ rfl) ?_⟩));refine⟨λn s w'=> ∃i:Nat,s.1=i/\n+i=ds.length/\J i w',⟨ds.length,λw1 I=>⟨0,rfl,rfl,a _ _ _ h0 I⟩⟩,?_⟩;rintro n ⟨P,u⟩ w1 ⟨i,hi,Q,f⟩;simp only at hi;subst hi;dsimp only;refine ab (λc=>?_) (λc=>?_)
  ·have k:i<ds.length:=by simp only[decide_eq_true_eq] at c;omega
   obtain⟨s1,p,q,r,t⟩:=o i w1 f;have h:ds[i]? =some ds[i]:=B1 k;refine⟨⟨rfl,by omega,by omega⟩,aj.of ds[i] (eC t h) ?_⟩;have H:=At.start [] w1;have next: ∀w',J (i+1) w'-> ∀g,Ext w' g-> ∃z,z<n/\ ∃j:Nat,aC .i64 (i:Nat) 1=j/\z+j=ds.length/\J j g:=λw' l g m=>
    ⟨n - 1,by omega,i+1,by rw[av (by omega) (by omega)];rfl,by omega,a _ _ _ l m⟩
   generalize K:ds[i]=d;rw[K] at h;refine aA.go H λb A H=>aw.all 0 H rfl rfl rfl λA H=>aj.of (some ⟨kc,0,none⟩,()) ((H.gm p (by simp)).lJ rfl) (aj.at 0 H rfl rfl ?_);have B:=a _ _ _ f H.all;refine⟨d.2.1==v,ag.of (s:= .el (.one .bool)) λw' h'=>FM ((H.gm q (by simp)).ext h') d,ab (λc=>λg m=>?_) (λc=>?_)⟩
   ·refine G i _ k (by simp only[h];rw[ax (by simpa using c)]) g _ (a _ _ _ B m) (λw' l=>?_) (λw' L=>?_)
    ·exact an rfl (next w' l)
    ·exact ay rfl λR M=> .inr (E _ _ L M)
   ·exact next _ (F i k (by simp only[h];rw[ao (by simpa using c)]) _ B)
  ·have:i=ds.length:=by simp only[decide_eq_false_iff_not] at c;omega
   subst this;exact λA h2=> .inl (a _ _ _ f h2)
 exact Calls.mono key λe w' ⟨x,N,f⟩=>⟨_,N,f⟩
def aE (k o:Int) (d:DT):DT×Int:=((gS d.1 d.2.1 d.2.2.1 d.2.2.2.1 k o,fZ d.1 d.2.1 d.2.2.1 d.2.2.2.1 k o,0,0,()),dM d.1 d.2.1 d.2.2.1 d.2.2.2.1 k o)
def gE (x:Int) (d:DT):DT×Int:=(iR d.1 d.2.1 d.2.2.1 d.2.2.2.1 x,kQ d.1 d.2.1 d.2.2.1 d.2.2.2.1 x)
def rq (ds:List DT) (f:Int) (g:DT->DT×Int):Int:=if ds.length=0 then 10 else if f<0\/f>=ds.length then 2 else(g (ds.getD f.toNat zD)).2
def fC (ds:List DT) (f:Int) (g:DT->DT×Int):List DT:=if f<0\/f>=ds.length then ds else if(g (ds.getD f.toNat zD)).2=0 then ds.set f.toNat (g (ds.getD f.toNat zD)).1 else ds
theorem wS {ds:List DT} (h:ds.length=0) (f:Int) (g:DT->DT×Int):rq ds f g=10:=ax h
theorem wT {ds:List DT} (h:ds.length=0) (f:Int) (g:DT->DT×Int):fC ds f g=ds:=ax (by omega)
theorem DI {ds:List DT} (h:ds.length≠0) {f:Int} (a:f<0\/f>=ds.length) (g:DT->DT×Int):rq ds f g=2:=by unfold rq;rw[ao h,ax a]
theorem yy {ds:List DT} {f:Int} (a:f<0\/f>=ds.length) (g:DT->DT×Int):fC ds f g=ds:=ax a
theorem ui {ds:List DT} {f:Int} (a:0<=f/\f<ds.length) (g:DT->DT×Int):rq ds f g=(g (ds.getD f.toNat zD)).2:=by unfold rq;rw[ao (by omega),ao (by omega)]
theorem oh {ds:List DT} {f:Int} (a:0<=f/\f<ds.length) (g:DT->DT×Int):fC ds f g=if(g (ds.getD f.toNat zD)).2=0 then ds.set f.toNat (g (ds.getD f.toNat zD)).1 else ds:=by unfold fC;rw[ao (by omega)]
theorem gO (ds:List DT) (f:Int) (g:DT->DT×Int):(fC ds f g).length=ds.length:=by
 unfold fC;split
 ·rfl
 ·split
  ·simp
  ·rfl
theorem KY {w:A1} {kc f:Nat} {k o:Int} (g:bh w kc [aa k]) (h:bh w f [aa o]) (d:DT):ar A2 286 (.bH [eD,.one (.int .i64)]) [.agg ⟨aZ sD d⟩,ah (ad kc),ah (ad f)] w
 (λv w'=>v=((aE k o d).1,(aE k o d).2,())/\Ext w w'):=by
 obtain⟨a,b,c,e,u⟩:=d;refine aO (C:=E0) (aM:=λ_=>[]) (A_ (KU a b c e _ _ w _) ?_);have H:=At.start [] w
 repeat' (first
  |refine aj.gm H g (by simp) rfl ?_
  |refine aj.gm H h (by simp) rfl ?_
  |exact Go.RX.aH.all H
  |exact AC (by first|rfl|decide+kernel) (Go.RX.aH.all H)
  |refine AC (by first|exact rfl|exact trivial|exact λ_=>rfl|exact λ_=>trivial|exact⟨rfl,by decide,by decide⟩|exact⟨by decide,by decide⟩|decide+kernel|exact λ_=>by decide|exact λ_=>⟨rfl,by decide,by decide⟩|(dsimp only[BA,Bb];exact⟨rfl,by decide,by decide⟩)) ?_
  |refine aj.bN 0 H rfl rfl ?_
  |refine aj.bN 1 H rfl rfl ?_
  |refine aj.at 0 H rfl rfl ?_
  |refine aj.at 1 H rfl rfl ?_
  |refine aA.go H λb w1 H=>?_
  |refine aw.all 0 H rfl rfl rfl λw1 H=>?_
  |refine aw.all 1 H rfl rfl rfl λw1 H=>?_
  |refine aw.dF 0 H rfl rfl rfl λw1 H=>?_
  |refine aw.dF 1 H rfl rfl rfl λw1 H=>?_
  |refine aw.one 0 H rfl rfl rfl λw1 H=>?_
  |refine aw.one 1 H rfl rfl rfl λw1 H=>?_
  |with_reducible refine ak.go H λw1 H=>?_
  |refine fS ?_
  |refine ay (by assumption) ?_
  |refine an (by assumption) ?_
  |refine ab (λc=>?_) (λc=>?_))
theorem NP {w:A1} {kc:Nat} {k:Int} (f:bh w kc [aa k]) (hi: -9223372036854775808<=k/\k<9223372036854775808) (d:DT):ar A2 297 (.bH [eD,.one (.int .i64)]) [.agg ⟨aZ sD d⟩,ah (ad kc)] w
 (λv w'=>v=((gE k d).1,(gE k d).2,())/\Ext w w'):=by
 obtain⟨a,b,c,e,u⟩:=d;refine aO (C:=E0) (aM:=λ_=>[]) (A_ (NH a b c e _ w _) ?_);have H:=At.start [] w
 repeat' (first
  |refine aj.gm H f (by simp) rfl ?_
  |refine AC hi ?_
  |exact Go.RX.aH.all H
  |exact AC (by first|rfl|decide+kernel) (Go.RX.aH.all H)
  |refine AC (by first|exact rfl|exact trivial|exact λ_=>rfl|exact λ_=>trivial|exact⟨rfl,by decide,by decide⟩|exact⟨by decide,by decide⟩|decide+kernel|exact λ_=>by decide|exact λ_=>⟨rfl,by decide,by decide⟩|(dsimp only[BA,Bb];exact⟨rfl,by decide,by decide⟩)) ?_
  |refine aj.bN 0 H rfl rfl ?_
  |refine aj.bN 1 H rfl rfl ?_
  |refine aj.at 0 H rfl rfl ?_
  |refine aj.at 1 H rfl rfl ?_
  |refine aA.go H λb w1 H=>?_
  |refine aw.all 0 H rfl rfl rfl λw1 H=>?_
  |refine aw.all 1 H rfl rfl rfl λw1 H=>?_
  |refine aw.dF 0 H rfl rfl rfl λw1 H=>?_
  |refine aw.dF 1 H rfl rfl rfl λw1 H=>?_
  |refine aw.one 0 H rfl rfl rfl λw1 H=>?_
  |refine aw.one 1 H rfl rfl rfl λw1 H=>?_
  |with_reducible refine ak.go H λw1 H=>?_
  |refine fS ?_
  |refine ay (by assumption) ?_
  |refine an (by assumption) ?_
  |refine ab (λc=>?_) (λc=>?_))
theorem Cw {w:A1} {bp bf c kc l:Nat} {k o:Int} {ds:List DT} {rest:List A3} (g:bh w bp [.slice (ad bf) ds.length c]) (x:bh w bf (flat eD ds++rest)) (y:bp≠bf) (I:ds.length<=4096) (z:bh w kc [aa k]) (A:bh w l [aa o]) (B:kc≠bf) (D:l≠bf) (f:Int):
 ar A2 285 (.el (.one (.int .i64))) [ah (ad bp),aa f,.func (.func 286) #[] #[ah (ad kc),ah (ad l)]] w
  (λe w'=>e=rq ds f (aE k o)/\bh w' bf (flat eD (fC ds f (aE k o))++rest)/\Fr [bf] w w'):=by
 refine ai (C:=E0) (aM:=λ_=>[]) (A_ (FL _ f _ _ w _) ?_);have H:=At.oe x;have m:bp∉[bf]:=by simpa using y
 refine⟨(ds.length:Int),ag.of (s:= .el (.one (.int .i64))) λw' h=>qN (g.ext h),ab (λj=>ak.go H λw1 H=>?_) (λj=>⟨λ_=>rfl,λ_=>rfl,aj.iQ H g m rfl (ab (λn=>ak.go H λw1 H=>?_) (λn=>?_))⟩)⟩
 ·have h0:ds.length=0:=by simp only[beq_iff_eq] at j;omega
  exact⟨(wS h0 f _).symm,by rw[wT h0];exact H.get (i:=0) rfl,H.fr⟩
 ·have h0:ds.length≠0:=by simp only[beq_eq_false_iff_ne,ne_eq] at j;omega
  have a:f<0\/f>=ds.length:=by simpa using n
  exact⟨(DI h0 a _).symm,by rw[yy a];exact H.get (i:=0) rfl,H.fr⟩
 ·have h0:ds.length≠0:=by simp only[beq_eq_false_iff_ne,ne_eq] at j;omega
  have a:0<=f/\f<ds.length:=by simp only[Bc,decide_eq_false_iff_not] at n;omega
  have u:f.toNat<ds.length:=by omega
  have v:ds[f.toNat]? =some ds[f.toNat]:=B1 u;have E:ds.getD f.toNat zD=ds[f.toNat]:=by rw[B4,v];rfl
  have p:=ui a (aE k o);have q:=oh a (aE k o);rw[E] at p q;generalize J:ds[f.toNat]=d at*
  refine⟨rfl,rfl,aj.iQ H g m rfl ⟨⟨rfl,a.1,a.2⟩,aj.of d (eC (H.get (i:=0) rfl) v) ?_⟩⟩;refine aB.val H (s:= .bH [eD,.one (.int .i64)]) (((aE k o) d).1,((aE k o) d).2,()) (λw1 H=>KY (H.gm z (by simpa using B)) (H.gm A (by simpa using D)) d) λw1 H=>?_;refine aA.go H λb F H=>aw.all 0 H rfl rfl rfl λF H=>ab (λr=>⟨rfl,rfl,aj.iQ H g m rfl (aj.at 0 H rfl rfl ⟨⟨rfl,a.1,a.2⟩,?_⟩)⟩) (λr=>ak.go H λG H=>?_)
  ·have t:((aE k o) d).2=0:=by simpa using r
   refine aw.flat (e:=eD) 1 H (xs:=ds) (rest:=rest) ((aE k o) d).1 rfl rfl rfl u λG H=>ak.go H λK H=>?_;exact⟨p.symm,by rw[q,ax t];exact H.get (i:=1) rfl,H.fr⟩
  ·have t: ¬ ((aE k o) d).2=0:=by simpa using r
   exact⟨p.symm,by rw[q,ao t];exact H.get (i:=1) rfl,H.fr⟩
theorem Cx {w:A1} {bp bf c kc:Nat} {k:Int} {ds:List DT} {rest:List A3} (g:bh w bp [.slice (ad bf) ds.length c]) (u:bh w bf (flat eD ds++rest)) (v:bp≠bf) (D:ds.length<=4096) (x:bh w kc [aa k]) (y:kc≠bf) (hi: -9223372036854775808<=k/\k<9223372036854775808) (f:Int):
 ar A2 285 (.el (.one (.int .i64))) [ah (ad bp),aa f,.func (.func 297) #[] #[ah (ad kc)]] w
  (λe w'=>e=rq ds f (gE k)/\bh w' bf (flat eD (fC ds f (gE k))++rest)/\Fr [bf] w w'):=by
 refine ai (C:=E0) (aM:=λ_=>[]) (A_ (Cv _ f _ w _) ?_);have H:=At.oe u;have l:bp∉[bf]:=by simpa using v
 refine⟨(ds.length:Int),ag.of (s:= .el (.one (.int .i64))) λw' h=>qN (g.ext h),ab (λj=>ak.go H λw1 H=>?_) (λj=>⟨λ_=>rfl,λ_=>rfl,aj.iQ H g l rfl (ab (λm=>ak.go H λw1 H=>?_) (λm=>?_))⟩)⟩
 ·have h0:ds.length=0:=by simp only[beq_iff_eq] at j;omega
  exact⟨(wS h0 f _).symm,by rw[wT h0];exact H.get (i:=0) rfl,H.fr⟩
 ·have h0:ds.length≠0:=by simp only[beq_eq_false_iff_ne,ne_eq] at j;omega
  have a:f<0\/f>=ds.length:=by simpa using m
  exact⟨(DI h0 a _).symm,by rw[yy a];exact H.get (i:=0) rfl,H.fr⟩
 ·have h0:ds.length≠0:=by simp only[beq_eq_false_iff_ne,ne_eq] at j;omega
  have a:0<=f/\f<ds.length:=by simp only[Bc,decide_eq_false_iff_not] at m;omega
  have r:f.toNat<ds.length:=by omega
  have t:ds[f.toNat]? =some ds[f.toNat]:=B1 r;have z:ds.getD f.toNat zD=ds[f.toNat]:=by rw[B4,t];rfl
  have n:=ui a (gE k);have o:=oh a (gE k);rw[z] at n o;generalize E:ds[f.toNat]=d at*
  refine⟨rfl,rfl,aj.iQ H g l rfl ⟨⟨rfl,a.1,a.2⟩,aj.of d (eC (H.get (i:=0) rfl) t) ?_⟩⟩;refine aB.val H (s:= .bH [eD,.one (.int .i64)]) (((gE k) d).1,((gE k) d).2,()) (λw1 H=>NP (H.gm x (by simpa using y)) hi d) λw1 H=>?_;refine aA.go H λb A H=>aw.all 0 H rfl rfl rfl λA H=>ab (λp=>⟨rfl,rfl,aj.iQ H g l rfl (aj.at 0 H rfl rfl ⟨⟨rfl,a.1,a.2⟩,?_⟩)⟩) (λp=>ak.go H λB H=>?_)
  ·have q:((gE k) d).2=0:=by simpa using p
   refine aw.flat (e:=eD) 1 H (xs:=ds) (rest:=rest) ((gE k) d).1 rfl rfl rfl r λB H=>ak.go H λF H=>?_;exact⟨n.symm,by rw[o,ax q];exact H.get (i:=1) rfl,H.fr⟩
  ·have q: ¬ ((gE k) d).2=0:=by simpa using p
   exact⟨n.symm,by rw[o,ao q];exact H.get (i:=1) rfl,H.fr⟩
theorem yz {w:A1} {bp bf c:Nat} {ds:List DT} {rest:List A3} (b:bh w bp [.slice (ad bf) ds.length c]) (d:bh w bf (flat eD ds++rest)) (a:bp≠bf) (g:ds.length<=4096) (f k o:Int):
 ar A2 211 (.el (.one (.int .i64))) [ah (ad bp),aa f,aa k,aa o] w (λe w'=>e=rq ds f (aE k o)/\bh w' bf (flat eD (fC ds f (aE k o))++rest)/\Fr [bf] w w'):=by
 refine ai (C:=E0) (aM:=λ_=>[]) (A_ (NI _ f k o w _) ?_);have H:=At.oe d;have h:bp∉[bf]:=by simpa using a
 refine aA.go H λkc w1 H=>aA.go H λm n H=>?_;refine aB.zv H 2 rfl (λl H=>Cw (H.gm b h) (H.get (i:=2) rfl) a g (H.get (i:=1) rfl) (H.get (i:=0) rfl) (H.ne (i:=1) (j:=2) rfl rfl (by decide)) (H.ne (i:=0) (j:=2) rfl rfl (by decide)) f) λl H=>ak.go H λp H=>?_;exact⟨rfl,H.get (i:=2) rfl,H.fr⟩
theorem NQ {w:A1} {bp bf c:Nat} {ds:List DT} {rest:List A3} (b:bh w bp [.slice (ad bf) ds.length c]) (d:bh w bf (flat eD ds++rest)) (a:bp≠bf) (g:ds.length<=4096) (f x:Int) (hi: -9223372036854775808<=x/\x<9223372036854775808):
 ar A2 226 (.el (.one (.int .i64))) [ah (ad bp),aa f,aa x] w (λe w'=>e=rq ds f (gE x)/\bh w' bf (flat eD (fC ds f (gE x))++rest)/\Fr [bf] w w'):=by
 refine ai (C:=E0) (aM:=λ_=>[]) (A_ (NJ _ f x w _) ?_);have H:=At.oe d;have h:bp∉[bf]:=by simpa using a
 refine aA.go H λkc w1 H=>?_;refine aB.zv H 1 rfl (λk H=>Cx (H.gm b h) (H.get (i:=1) rfl) a g (H.get (i:=0) rfl) (H.ne (i:=0) (j:=1) rfl rfl (by decide)) hi f) λk H=>ak.go H λl H=>?_;exact⟨rfl,H.get (i:=1) rfl,H.fr⟩
theorem NR {w:A1} {bp bf c:Nat} {ds:List DT} {rest:List A3} (b:bh w bp [.slice (ad bf) ds.length c]) (d:bh w bf (flat eD ds++rest)) (a:bp≠bf) (g:ds.length<=4096) (f:Int):
 ar A2 215 (.el (.one (.int .i64))) [ah (ad bp),aa f] w (λe w'=>e=rq ds f (aE 0 0)/\bh w' bf (flat eD (fC ds f (aE 0 0))++rest)/\Fr [bf] w w'):=by
 refine ai (C:=E0) (aM:=λ_=>[]) (A_ (NK _ f w _) ?_);have H:=At.oe d;have h:bp∉[bf]:=by simpa using a
 refine aB.zv H 0 rfl (λj H=>yz (H.gm b h) (H.get (i:=0) rfl) a g f 0 0) λj H=>ak.go H λk H=>?_;exact⟨rfl,H.get (i:=0) rfl,H.fr⟩
def oK (ds:List DT) (f:Int):DT:=if f<0\/f>=ds.length then zD else ds.getD f.toNat zD
def vJ (ds:List DT) (f:Int):Bool:= !(decide (f<0\/f>=ds.length))
theorem I3 {w:A1} {bp bf c:Nat} {ds:List DT} {rest:List A3} (i:bh w bp [.slice (ad bf) ds.length c]) (k:bh w bf (flat eD ds++rest)) (f:Int):
 ar A2 32 (.bH [eD,.one .bool]) [ah (ad bp),aa f] w (λv w'=>v=(oK ds f,vJ ds f,())/\Ext w w'):=by
 refine aO (C:=E0) (aM:=λ_=>[]) (A_ (RM _ f w _) ?_);have H:=At.start [] w;refine aA.go H λb w1 H=>⟨(ds.length:Int),λ_=>ag.of (s:= .el (.one (.int .i64))) λw' h=>qN ((H.gm i (by simp)).ext h),ab (λd=>?_) (λd=>?_)⟩
 ·have a:f<0\/f>=ds.length:=by simpa using d
  have e:oK ds f=zD:=ax a;have g:vJ ds f=false:=by unfold vJ;simp[a]
  rw[e,g]
  repeat' (first
   |exact Go.RX.aH.all H
   |exact AC (by first|rfl|decide+kernel) (Go.RX.aH.all H)
   |refine AC (by first|exact rfl|exact trivial|exact λ_=>rfl|exact λ_=>trivial|exact⟨rfl,by decide,by decide⟩|exact⟨by decide,by decide⟩|decide+kernel|exact λ_=>by decide|exact λ_=>⟨rfl,by decide,by decide⟩|(dsimp only[BA,Bb];exact⟨rfl,by decide,by decide⟩)) ?_
   |refine aj.bN 0 H rfl rfl ?_
   |refine aj.at 0 H rfl rfl ?_
   |refine aA.go H λb w1 H=>?_
   |refine aw.all 0 H rfl rfl rfl λw1 H=>?_
   |refine aw.dF 0 H rfl rfl rfl λw1 H=>?_
   |refine aw.one 0 H rfl rfl rfl λw1 H=>?_
   |with_reducible refine ak.go H λw1 H=>?_
   |refine fS ?_
   |refine ay (by assumption) ?_
   |refine an (by assumption) ?_
   |refine ab (λc=>?_) (λc=>?_))
 ·have a: ¬ (f<0\/f>=ds.length):=by
   simp only[Bc,decide_eq_false_iff_not] at d;rintro(h|h)
   ·exact d.1 h
   ·exact d.2 h
  have l:f.toNat<ds.length:=by omega
  have j:ds[f.toNat]? =some ds[f.toNat]:=B1 l;have m:ds.getD f.toNat zD=ds[f.toNat]:=by rw[B4,j];rfl
  have e:oK ds f=ds[f.toNat]:=by unfold oK;rw[ao a,m]
  have g:vJ ds f=true:=by unfold vJ;simp[a]
  rw[e,g];refine⟨rfl,rfl,aj.iQ H i (by simp) rfl ⟨⟨rfl,Int.not_lt.1 (λh=>a (.inl h)),Int.not_le.1 (λh=>a (.inr h))⟩,aj.of ds[f.toNat] (eC (H.gm k (by simp)) j) ?_⟩⟩
  repeat' (first
   |exact Go.RX.aH.all H
   |exact AC (by first|rfl|decide+kernel) (Go.RX.aH.all H)
   |refine AC (by first|exact rfl|exact trivial|exact λ_=>rfl|exact λ_=>trivial|exact⟨rfl,by decide,by decide⟩|exact⟨by decide,by decide⟩|decide+kernel|exact λ_=>by decide|exact λ_=>⟨rfl,by decide,by decide⟩|(dsimp only[BA,Bb];exact⟨rfl,by decide,by decide⟩)) ?_
   |refine aj.bN 0 H rfl rfl ?_
   |refine aj.at 0 H rfl rfl ?_
   |refine aA.go H λb w1 H=>?_
   |refine aw.all 0 H rfl rfl rfl λw1 H=>?_
   |refine aw.dF 0 H rfl rfl rfl λw1 H=>?_
   |refine aw.one 0 H rfl rfl rfl λw1 H=>?_
   |with_reducible refine ak.go H λw1 H=>?_
   |refine fS ?_
   |refine ay (by assumption) ?_
   |refine an (by assumption) ?_
   |refine ab (λc=>?_) (λc=>?_))
section
variable {D G:List Nat} {w0 w:A1} {L:List (Nat×List A3)}
theorem NS (n:Nat):(B2 n [aa 0,aa 0,aa 0,aa 0]).flatten=flat eD (B2 n zD)++[]:=by
 rw[Bg,jv];rfl
theorem NT (H:aH D G w0 w L) (n:Int) {K:Option A9×Int×Unit->A1->Prop} (hb:n<1\/n>4096-> ∀w1,aH D G w0 w1 L->K (none,1,()) w1)
 (d:1<=n->n<=4096-> ∀bp bf w1,aH D G w0 w1 ((bp,[.slice (ad bf) n.toNat n.toNat])::(bf,flat eD (B2 n.toNat zD)++[])::L)->K (some ⟨bp,0,none⟩,0,()) w1):
 aB A2 54 (.bH [.one .ptr,.one (.int .i64)]) [aa n] w K:=by
 refine aB.go H λw1 H=>ai (C:=E0) (aM:=λ_=>[]) (A_ (NL n w1 K) ?_);refine ab (λc=>ak.go H λa H=>hb (by simpa using c) a H) (λc=>?_);have b:1<=n/\n<=4096:=by simp only[Bc,decide_eq_false_iff_not] at c;omega
 refine Hp.go H rfl (by omega) (by omega) (by omega) (by omega) λbf a H=>?_;rw[NS] at H;exact aA.go H λbp f H=>ak.go H λe H=>d b.1 b.2 bp bf e H
theorem NU (H:aH D G w0 w L) {bp bf n c:Nat} {ds:List DT} {rest:List A3} (g:bh w bp [.slice (ad bf) n c]) (l:bh w bf (flat eD ds++rest)) (i:n=ds.length) (h0:0<n) (p:n<=4096) {K:Option A9->A1->Prop}
 (m: ∀a b d f w1,aH D G w0 w1 ((a,[.slice (ad b) n d])::(b,flat eD ds++f)::L)->K (ad a) w1):
 ar A2 79 (.el (.one .ptr)) [ah (ad bp)] w K:=by
 refine ai (C:=E0) (aM:=λ_=>[]) (A_ (NM _ w K) ?_);refine⟨(n:Int),ag.of (s:= .el (.one (.int .i64))) λw' h=>qN (g.ext h),ab (λj=>?_) (λj=>⟨rfl,rfl,aj.of (some ⟨bf,0,none⟩,n,c) (by rw[aL];exact g.lJ rfl) λw1 k=>?_⟩)⟩
 ·simp only[beq_iff_eq] at j;omega
 ·refine vp.copy (H.ext k) (e:=eD) (ys:=ds) (l.ext k) ?_ i (by intro e;subst e;simp at i;omega) rfl rfl rfl (by omega) λb d f q H=>aA.go H λa r H=>ak.go H λo H=>m a b d f o H;rw[Ih (by rw[aN];exact DS _),HB (by rw[aN];exact DS _)]
end
def cz (ds:List DT) (v:Int):Nat:=ds.countP λd=>d.1==v
def fi (ds:List DT) (v:Int):List Nat:=(HH ds.length).filter λi=>match ds[i]? with
 |some d=>d.2.1==v
 |none=>false
theorem An {ds:List DT} {v:Int} {i:Nat} {d:DT} (h:ds[i]? =some d):cz (ds.take (i+1)) v=cz (ds.take i) v+(if d.1=v then 1 else 0):=by
 unfold cz;rw[Hr,h,List.countP_append];congr 1;simp
theorem mS {ds:List DT} {i:Nat} {v:Int} {HA:DT->Int} {x:List A3} (h:(match ds[i]? with
 |some d=>if HA d=v then some [aa (i:Nat)] else none
 |none=>none)=some x): ∃d,ds[i]? =some d/\HA d=v/\x=[aa (i:Nat)]:=by
 split at h
 ·rename_i d a;split at h
  ·rename_i b;cases h;exact⟨d,a,b,rfl⟩
  ·cases h
 ·cases h
theorem yA {ds:List DT} {i:Nat} {v:Int} {HA:DT->Int} (hi:i<ds.length) (h:(match ds[i]? with
 |some d=>if HA d=v then some [aa (i:Nat)] else none
 |none=>none)=none): ∃d,ds[i]? =some d/\HA d≠v:=by
 rw[B1 hi] at h;refine⟨ds[i],B1 hi,?_⟩;intro a;simp only[a,if_true] at h;cases h
theorem KZ {w:A1} {bp bf n c:Nat} {ds:List DT} {rest:List A3} (m:bh w bp [.slice (ad bf) n c]) (o:bh w bf (flat eD ds++rest)) (p:n=ds.length) (q:n<=4096) (v:Int):
 ar A2 123 (.el (.one (.int .i64))) [ah (ad bp),aa v] w (λx w'=>x=(cz ds v:Int)/\Ext w w'):=by
 subst p;refine aO (C:=E0) (aM:=qh) (A_ (KV _ v w _) ?_);have H:=At.start [] w;refine aA.go H λb w1 H=>aw.all 0 H rfl rfl rfl λB H=>pf H _ v λpc ic kc D H=>?_;refine vr.go H (Am (v:=v) (pc:=pc) (ic:=ic) (kc:=kc) (bp:=bp) (bf:=bf) (c:=c) (rest:=rest) q)
  (λi=>[(ic,[.func (.func 278) #[] #[ah (ad kc)]]),(pc,[ah (ad bp)]),(kc,[aa v]),(b,[aa (cz (ds.take i) v:Nat)])])
  (λ_ _=>False) rfl ?_ ?_ ?_ ?_ ?_ ?_
 ·exact λE i w' H=>⟨H.get (i:=1) rfl,H.get (i:=0) rfl,H.get (i:=2) rfl,H.gm m (by simp),H.gm o (by simp)⟩
 ·intro i hi a;obtain⟨d,f,g⟩:=yA hi a;simp only[An f,ao g,Hb]
 ·intro i x hi a;obtain⟨d,f,g,rfl⟩:=mS a;exact⟨((i:Nat),()),rfl⟩
 ·intro i x hi a r l rec k R h s _;obtain⟨d,f,g,F⟩:=mS a;refine zd.go h rfl (xG.go h λwb H t=>aj.at 3 H rfl rfl (aw.all 3 H rfl rfl rfl λu H=>oJ.next t H λy z=>s y ?_));have G:cz (ds.take i) v<=4096:=H6 List.countP_le_length (by rw[H4];omega);have e:aC .i64 ((cz (ds.take i) v:Nat):Int) 1=((cz (ds.take (i+1)) v:Nat):Int):=by
   rw[An f,ax g,av (by omega) (by omega)];rfl
  rw[<-e];exact z
 ·intro r rec k h;refine c9.none h λu H=>aj.at 3 H rfl rfl (oN.go H λI H=>?_);exact⟨by rw[In],H.all⟩
 ·exact λj L' r rec k A _=>A.elim
theorem Ao {ds:List DT} {v:Int} {i:Nat} {d:DT} (h:ds[i]? =some d):fi (ds.take (i+1)) v=fi (ds.take i) v++(if d.2.1=v then[i] else[]):=by
 have hi:i<ds.length:=(B3.1 h).1;unfold fi;rw[H4,H4,Ix (by omega),Ix (by omega),Hz,I1];congr 1
 ·apply List.filter_congr;intro j a;have b:j<i:=by simpa using a
  rw[HT (by omega),HT b]
 ·simp only[HL,List.filter_nil,HT (Nat.lt_succ_self i),h,beq_iff_eq]
theorem K3 {w:A1} {bp bf n c:Nat} {ds:List DT} {rest:List A3} (y:bh w bp [.slice (ad bf) n c]) (z:bh w bf (flat eD ds++rest)) (A:n=ds.length) (B:n<=4096) (v:Int):
 ar A2 205 (.el (.one .slice)) [ah (ad bp),aa v] w (λr w'=>jz w w' eI r ((fi ds v).map λi=>((i:Nat):Int))/\Ext w w'):=by
 subst A;refine aO (C:=E0) (aM:=qi) (A_ (KW _ v w _) ?_);have H:=At.start [] w;refine aA.go H λkc w1 H=>aA.go H λb W H=>NO H _ _ λpc ic X H=>?_
 let a:Nat->List Int:=λi=>(fi (ds.take i) v).map λi=>((i:Nat):Int)
 have D: ∀i,(a i).length<=4096:=λi=>by
  simp only[a,H2];refine H6 (I_ _ _) ?_;simp only[List.length_range,H4];omega
 let g:Option A9×Nat×Nat->List (Nat×List A3):=λs=>[(ic,[.func (.func 281) #[] #[ah (ad kc)]]),(pc,[ah (ad bp)]),(b,[.slice s.1 s.2.1 s.2.2]),(kc,[aa v])]
 let Inv:Nat->List (Nat×List A3)->Prop:=λi L'=> ∃s Ls,L'=Ls++g s/\((s=(none,0,0)/\a i=[]/\Ls=[])\/ ∃bs cs rs,s=(some ⟨bs,0,none⟩,(a i).length,cs)/\Ls=[(bs,flat eI (a i)++rs)]/\(flat eI (a i)++rs).length=cs*aK eI/\(a i).length<=cs)
 refine vr.inv H (KX (v:=v) (pc:=pc) (ic:=ic) (kc:=kc) (bp:=bp) (bf:=bf) (c:=c) (rest:=rest) B) Inv
  (λ_ _=>False) ⟨(none,0,0),[],rfl,.inl ⟨rfl,rfl,rfl⟩⟩ ?_ ?_ ?_ ?_ ?_ ?_
 ·rintro Y i w' L' ⟨s,Ls,rfl, _⟩ H;have H:=H.sub (List.sublist_append_right Ls (g s));exact⟨H.get (i:=1) rfl,H.get (i:=0) rfl,H.get (i:=3) rfl,H.gm y (by simp),H.gm z (by simp)⟩
 ·rintro i L' hi k ⟨s,Ls,rfl,f⟩;obtain⟨d,m,E⟩:=yA (HA:=λd=>d.2.1) hi k;have e:a (i+1)=a i:=by simp only[a,Ao m,ao E,Bg]
  exact⟨s,Ls,rfl,by rw[e];exact f⟩
 ·intro i x hi k;obtain⟨d,m,f,rfl⟩:=mS (HA:=λd=>d.2.1) k;exact⟨((i:Nat),()),rfl⟩
 ·rintro i x L' hi k ⟨s,Ls,rfl,f⟩ r l rec p R o F _;obtain⟨d,m,G,I⟩:=mS (HA:=λd=>d.2.1) k;have q:x.1=((i:Nat):Int):=by
   have h:[aa x.1]=[aa (i:Nat)]:=I;simpa using h
  obtain⟨Z,u⟩:=x;simp only at q;subst q;have e:a (i+1)=a i++[((i:Nat):Int)]:=by simp only[a,Ao m,ax G,I2,List.map_cons,List.map_nil]
  have hl:=D i;have t:(a (i+1)).length=(a i).length+1:=by rw[e];simp
  refine zd.go o rfl (xG.go o λwb H J=>aj.of s ?_ (aA.go H λb2 K H=>λL M=>?_))
  ·exact(H.cX (b,[.slice s.1 s.2.1 s.2.2]) (Dn _ (by simp[g]))).lJ rfl
  ·refine aH.grow (e:=eI) (x:=((i:Nat):Int)) (Ls:=Ls) (L0:=g s) (H.ext M) f rfl rfl rfl (by omega) λbs cs rs w7 N O H=>?_;refine aw.all 3 H rfl rfl rfl λw8 H=>oJ.next J H λP Q=>F _ P ⟨(some ⟨bs,0,none⟩,(a i).length+1,cs),[(bs,flat eI (a (i+1))++rs)],rfl,.inr ⟨bs,cs,rs,by rw[t],rfl,by rw[e];exact N,by rw[t];exact O⟩⟩ ?_
   rw[e];exact Q
 ·rintro L' r rec p ⟨s,Ls,rfl,f⟩ o;refine c9.none o λK H=>aj.of s ?_ (oN.go H λL H=>?_)
  ·exact(H.cX (b,[.slice s.1 s.2.1 s.2.2]) (Dn _ (by simp[g]))).lJ rfl
  ·refine⟨?_,H.all⟩;have S:a ds.length=(fi ds v).map λi=>((i:Nat):Int):=by simp only[a,In]
   rw[<-S];rcases f with ⟨rfl,h2,rfl⟩|⟨bs,cs,rs,rfl,rfl,T,U⟩
   ·rw[h2];exact jz.nil _ _ _
   ·refine⟨rfl,U,.inr ⟨bs, _,rfl,(H.own _ (GS _ (List.mem_singleton.2 rfl))).resolve_right (by simp),H.get (i:=0) rfl,T,?_⟩⟩;rw[Ih (by rw[aN];exact DS _),HB (by rw[aN];exact DS _)]
 ·exact λj L' r rec p V _=>V.elim
def gx (ds:List DT):Option Nat:=ds.findIdx? λd=>d.1==0
def dY (ds:List DT) (k o:Int):Int:=match gx ds with
 |none=>0
 |some f=>if rq ds f (aE k o)=0 then(f:Int) else 0
def dk (ds:List DT) (k o:Int):Int:=if ds.length=0 then 10 else match gx ds with
 |none=>12
 |some f=>rq ds f (aE k o)
def dD (ds:List DT) (k o:Int):List DT:=match gx ds with
 |none=>ds
 |some f=>fC ds f (aE k o)
theorem qZ (ds:List DT) (k o:Int):(dD ds k o).length=ds.length:=by
 unfold dD;split
 ·rfl
 ·exact gO _ _ _
theorem FN {ds:List DT} (h: ∀(j:Nat) d,ds[j]? =some d->d.1≠0):gx ds=none:=by
 unfold gx;rw[List.findIdx?_eq_none_iff];intro d a;obtain⟨j,b⟩:=Eo a;simpa using h j d b
theorem FO {ds:List DT} {i:Nat} {d:DT} (hi:ds[i]? =some d) (a:d.1=0) (h: ∀(j:Nat) d,j<i->ds[j]? =some d->d.1≠0):gx ds=some i:=by
 unfold gx;have b:i<ds.length:=(B3.1 hi).1;rw[List.findIdx?_eq_some_iff_getElem];refine⟨b,?_,λj c=>?_⟩
 ·have e:ds[i]=d:=(B3.1 hi).2;rw[e];simpa using a
 ·have:=h j ds[j] c (B1 (by omega));simpa using this
theorem NV {w:A1} {bp bf n c:Nat} {ds:List DT} {rest:List A3} (A:bh w bp [.slice (ad bf) n c]) (O:bh w bf (flat eD ds++rest)) (K:bp≠bf) (P:n=ds.length) (L:n<=4096) (k o:Int):
 ar A2 213 (.bH [.one (.int .i64),.one (.int .i64)]) [ah (ad bp),aa k,aa o] w
  (λv w'=>v=(dY ds k o,dk ds k o,())/\bh w' bf (flat eD (dD ds k o)++rest)/\Fr [bf] w w'):=by
 subst P;refine aO (C:=E0) (aM:=se) (A_ (NN _ k o w _) ?_);have H:=At.oe O;have B:bp∉[bf]:=by simpa using K
 refine aA.go H λb w1 H=>aA.go H λQ Z H=>aA.go H λS w3 H=>aA.go H λU w4 H=>aA.go H λV w5 H=>aj.at 4 H rfl rfl ?_;refine⟨(ds.length:Int),ag.of (s:= .el (.one (.int .i64))) λw' h=>qN ((H.gm A B).ext h),ab (λD=>?_) (λD=>aj.at 4 H rfl rfl ?_)⟩
 ·have h0:ds.length=0:=by simp only[beq_iff_eq] at D;omega
  have a:ds=[]:=List.eq_nil_of_length_eq_zero h0;refine aw.all 1 H rfl rfl rfl λW H=>aw.all 0 H rfl rfl rfl λE H=>ak.go H λq H=>aj.at 1 H rfl rfl (aj.at 0 H rfl rfl ⟨?_,?_,H.fr⟩)
  ·subst a;rfl
  ·subst a;exact H.get (i:=5) rfl
 have h0:ds.length≠0:=by simp only[beq_eq_false_iff_ne,ne_eq] at D;omega
 refine pf H _ 0 λpc ic kc W H=>?_
 let T:Int->Int->List DT->List (Nat×List A3):=λx y l=>[(ic,[.func (.func 278) #[] #[ah (ad kc)]]),(pc,[ah (ad bp)]),(kc,[aa 0]),(V,[aa y]),(U,[aa x]),(S,[aa o]),(Q,[aa k]),(b,[ah (ad bp)]),(bf,flat eD l++rest)]
 refine vr.inv H (Am (v:=0) (pc:=pc) (ic:=ic) (kc:=kc) (bp:=bp) (bf:=bf) (c:=c) (rest:=rest) L)
  (λi L'=>L'=T 0 0 ds/\ ∀(j:Nat) d,j<i->ds[j]? =some d->d.1≠0)
  (λj L'=>j= .ret/\ ∃i:Nat,gx ds=some i/\L'=T (if rq ds i (aE k o)=0 then(i:Int) else 0) (rq ds i (aE k o)) (fC ds i (aE k o))) ⟨rfl,λj d g=>absurd g (by omega)⟩ ?_ ?_ ?_ ?_ ?_ ?_
 ·rintro D' i w' L' ⟨rfl, _⟩ H;exact⟨H.get (i:=1) rfl,H.get (i:=0) rfl,H.get (i:=2) rfl,H.gm A B,H.get (i:=8) rfl⟩
 ·rintro i L' hi p ⟨rfl,g⟩;obtain⟨d,a,t⟩:=yA (HA:=λd=>d.1) hi p;refine⟨rfl,λj d' vB F=>?_⟩;by_cases e:j=i
  ·subst e;rw[a] at F;cases F;exact t
  ·exact g j d' (by omega) F
 ·intro i x hi p;obtain⟨d,a,t,rfl⟩:=mS (HA:=λd=>d.1) p;exact⟨((i:Nat),()),rfl⟩
 ·rintro i ⟨M,u⟩ L' hi p ⟨rfl,g⟩ r l rec E R m _ h2;obtain⟨d,a,t,X⟩:=mS (HA:=λd=>d.1) p;have Y:M=((i:Nat):Int):=by
   have h:[aa M]=[aa (i:Nat)]:=X;simpa using h
  subst Y;have f:=FO a t g;refine zd.go m rfl (xG.go m λwb H G=>aj.at 7 H rfl rfl (aj.at 6 H rfl rfl (aj.at 5 H rfl rfl ?_)));refine aB.zv H 8 rfl (λq H=>yz (G.2.1.eK H A B) (H.get (i:=8) rfl) K L _ k o) λq H=>ab (λc=>?_) (λc=>?_)
  ·have hc: ¬ rq ds (i:Nat) (aE k o)=0:=by simpa using c
   refine aw.all 4 H rfl rfl rfl λI H=>aw.all 3 H rfl rfl rfl λN H=>oJ.left G H λz J=>h2 _ _ z ⟨rfl,i,f,?_⟩ J;rw[ao hc];rfl
  ·have hc:rq ds (i:Nat) (aE k o)=0:=by simpa using c
   refine aw.all 4 H rfl rfl rfl λI H=>aw.all 3 H rfl rfl rfl λN H=>oJ.left G H λz J=>h2 _ _ z ⟨rfl,i,f,?_⟩ J;rw[ax hc,hc];rfl
 ·rintro L' r rec E ⟨rfl,g⟩ m;have f:gx ds=none:=FN λj d a=>g j d (B3.1 a).1 a;refine c9.none m λq H=>aw.all 4 H rfl rfl rfl λI H=>aw.all 3 H rfl rfl rfl λN H=>oN.go H λz H=>aj.at 4 H rfl rfl (aj.at 3 H rfl rfl ⟨?_,?_,H.fr⟩)
  ·unfold dY dk;rw[f,ao h0]
  ·have:dD ds k o=ds:=by unfold dD;rw[f]
   rw[this];exact H.get (i:=8) rfl
 ·rintro j L' r rec E ⟨rfl,i,f,rfl⟩ m;refine c9.ret m λq H=>oN.go H λI H=>aj.at 4 H rfl rfl (aj.at 3 H rfl rfl ⟨?_,?_,H.fr⟩)
  ·unfold dY dk;rw[f,ao h0]
  ·have:dD ds k o=fC ds i (aE k o):=by unfold dD;rw[f]
   rw[this];exact H.get (i:=8) rfl
end Go.Proofs.YteeflilbnoknnaaGreat.D
