import Derived.Test.YtlcenllcmeebhaaGreatPFF
/-! What the statement leans on: texts joined and shortened by a program of mine. -/
set_option linter.unusedVariables false
set_option linter.unusedSimpArgs false
open Go.Proofs.Tryz renaming prog->A1
open Go renaming World->A2,Value->AB,Addr->AC,Obj->B2,MapEntry->Do
open List renaming range->AL,count_append->AM,count_cons->AY,getElem?_eq_some_iff->Ax,mem_cons_of_mem->Ay,mem_cons_self->B3,mem_append_right->B4,mem_map->B5,getElem?_eq_getElem->Bf,mem_append_left->Bx,count->CJ,getD_eq_getElem?_getD->CK,getElem?_set_self->CL,replicate->Co,mem_range->DA,sublist_cons_self->DB,length_map->DD,mem_of_getElem?->DI,length_set->DJ,append_nil->DY,set_set->DZ,eq_of_mem_replicate->Dn,length_replicate->E4,length_range->E5,getElem?_set_ne->Et,mem_singleton->F2,nodup_cons->F4,getElem?_replicate->F5,sublist_append_right->F7,any_eq_true->FP,mem_cons->FR,eq_nil_iff_forall_not_mem->FS,set_cons_zero->FZ,count_nil->G1,contains_iff_mem->GD,getElem?_of_mem->GH,getElem?_map->GI,length_append->GJ,getD->GO,getElem?_append_left->GS,perm_middle->Ga,map_append->Gc,foldl_cons->Gd,length_cons->Gw,mem_filter->H4,any_eq_false->H5,mem_flatMap->H6,getElem?_range->H7,pairwise_cons->HB,length_filter_le->Hb,take_add_one->Hr,foldl_append->I1,length_singleton->I2,range_succ->IM,mem_of_find?_eq_some->IX,nodup_nil->In,ext_getElem?->J3,getElem?_set->Jc,filter_sublist->K1,nodup_range->KC,map_congr_left->KE,length_nil->KL,length_take->KP,take_length->Kq,append_assoc->Kt,getElem?_eq_none->Kv,getElem?_append_right->LL,nil_sublist->M4
open Eq renaming mpr->B1
open Int renaming toNat_natCast->D8,le_refl->Gi,tmod_eq_emod_of_nonneg->M5
open Bool renaming and_eq_true->DK,or_eq_true->Gj,and_assoc->Gt,eq_false_iff->Gu,false_or->IQ,or_eq_false_iff->Mr
open Prod renaming ext->DO
open Nat renaming le_refl->DQ,zero_le->Ef,le_trans->IR,not_lt_zero->N4
open List.Perm renaming append_left->DV,append_right->GF,trans->IV
open List.Sublist renaming cons->Ep
open Classical renaming byContradiction->GG
open Go.Instr renaming findNow->Gv
namespace Go.Proofs.YtlcenllcmeebhaaGreat
set_option maxRecDepth 100000
open Go.RX D
section
variable {gh dy:Gh} {h h':HS} {v k a b c:Int}
theorem Tf {g g':Nat->Option GV} (a: ∀i,(g' i).isSome=(g i).isSome) (v:Int):aS g' v=aS g v:=by unfold aS;rw[a]
theorem ND (w:Int) (a:aS h.g w=true):aS (gZ h).g w=true:=by
 unfold gZ;split
 ·exact a
 split
 ·obtain⟨b,x,hx⟩:=bY.1 a;refine bY.2 ⟨b,?_⟩;show∃x,bq h.g _ _ w.toNat=some x;unfold bq;split
  ·exact⟨_,rfl⟩
  ·exact⟨x,hx⟩
 ·exact a
theorem wU (v:Int): ∀(n:Nat) (h:HS) (w:Int),aS (fY v n h).g w=aS h.g w
 |0, _, _=>rfl
 |n+1,h,w=>by
  show aS (fY v n (yO v h)).g w= _;rw[wU v n];unfold yO;exact sK ..
theorem Tg {a w:Int} (d:w≠a) (b:aS h.g w=true):aS (tn h a).g w=true:=by
 unfold tn;split
 ·rename_i la;split
  ·exact b
  ·rw[<-wU a (yn h a).length] at b;obtain⟨c,x,hx⟩:=bY.1 b;obtain⟨hv, _⟩:=bY.1 la;refine bY.2 ⟨c,x,?_⟩;show bq (fY a (yn h a).length h).g a.toNat none w.toNat=some x;unfold bq;rw[ao (by omega)];exact hx
 ·exact b
theorem CE.run (d:HI dy (run h v k a b c).1) {P:Nat->Int->Prop} {f:Int} (E:uZ h (run h v k a b c).1 P f) (G:uU gh dy h.s (run h v k a b c).1.s) (e:1<=k/\k<=17) (hc:tg k=false):CE gh dy h (run h v k a b c).1 P (λ_=>False):=
 ⟨d,E.kd,E.pg,λh1 _=>G.1 _ _ h1,λh1=>G.2 _ h1,λ{w} _ h1=>by rw[Tf (WG e hc)];exact h1⟩
theorem Fm (d:k=6\/k=8\/(11<=k/\k<=16)):(run h v k a b c).1.s=h.s/\(run h v k a b c).1.g=h.g:=by
 have:k=6\/k=8\/k=11\/k=12\/k=13\/k=14\/k=15\/k=16:=by omega
 rcases this with rfl|rfl|rfl|rfl|rfl|rfl|rfl|rfl
 ·exact⟨rfl,rfl⟩
 ·show(iM h v a b c).s=h.s/\(iM h v a b c).g=h.g;unfold iM;split<;>exact⟨rfl,rfl⟩
 ·show(gf h v a).s=h.s/\(gf h v a).g=h.g;unfold gf;split<;>exact⟨rfl,rfl⟩
 ·show(l_ h v a).s=h.s/\(l_ h v a).g=h.g;unfold l_;split<;>exact⟨rfl,rfl⟩
 ·show(ma h v a b).s=h.s/\(ma h v a b).g=h.g;unfold ma;split
  ·exact⟨rfl,rfl⟩
  split<;>exact⟨rfl,rfl⟩
 ·show(l9 h v a).s=h.s/\(l9 h v a).g=h.g;unfold l9;split<;>exact⟨rfl,rfl⟩
 ·exact⟨rfl,rfl⟩
 ·show(jg h v a).s=h.s/\(jg h v a).g=h.g;unfold jg;split<;>exact⟨rfl,rfl⟩
theorem Fo (d:oO h v k a b c=0) (e:gw h v k a b c=0):(run h v k a b c).2.2=0:=by unfold oO at d;rw[aw e] at d;exact d
theorem IE (H:HI gh h) (z:0<=a) (A: ¬ (v=0/\k=17/\a=0/\b=0/\c=0)) (B:k=7-> ¬ (aS h.g v=true/\fx k a b c=true/\a<1048576)) (C:oO h v k a b c≠0\/ ¬ (k=2\/k=4\/k=5\/k=10)):
 ∃dy P,CE gh dy h (iX h v k a b c) P (λ_=>False)/\NN h.s (iX h v k a b c).s/\ ∀{j:Nat} {q:Int},P j q->0<=q->q<65536->(gT h j q).2.2.1≠0:=by
 obtain⟨g1,D⟩:=H.step v k b c z;have same:(iX h v k a b c).s=h.s->(iX h v k a b c).g=h.g-> ∃dy P,CE gh dy h (iX h v k a b c) P (λ_=>False)/\NN h.s (iX h v k a b c).s/\ ∀{j:Nat} {q:Int},P j q->0<=q->q<65536->(gT h j q).2.2.1≠0:=λl m=>
  ⟨gh, _,CE.same H D l m,.refl (by rw[l]),λc=>c.elim⟩
 by_cases r:oO h v k a b c=0
 case neg=>
  obtain⟨e, _⟩:=H.fail r;exact same e.1 e.2
 have K:=C.resolve_left λc=>c r;by_cases i:gw h v k a b c=0
 case neg=>
  have e:iX h v k a b c=h:=ao i;rw[e] at same ⊢;exact same rfl rfl
 have d:=Fo r i;obtain⟨x,t,p⟩:=C6 i;have e:iX h v k a b c=(run h v k a b c).1:=aw i;by_cases hs:k=6\/k=8\/(11<=k/\k<=16)
 ·obtain⟨l,m⟩:=Fm (h:=h) (v:=v) (a:=a) (b:=b) (c:=c) hs;exact same (by rw[e];exact l) (by rw[e];exact m)
 rw[e];have:k=1\/k=3\/k=7\/k=9\/k=17:=by omega
 rcases this with rfl|rfl|rfl|rfl|rfl
 ·obtain⟨g',n,E,G⟩:=H.Hi;exact⟨g', _,⟨n,E.kd,E.pg,λh1 _=>G.1 _ _ h1,λh1=>G.2 _ h1,λ{w} _ h1=>ND w h1⟩,NN.Ea h,λ{j q} c F I=>absurd ⟨F,I⟩ c⟩
 ·have d:lf h v a b=0:=by
   have d:(rS h v a b).2=0:=d;unfold rS at d;split at d
   ·assumption
   ·exact d
  obtain⟨g',f,n,O, _,G⟩:=H.Hh (t rfl) (a:=a) (b:=b) d;refine⟨g', _,CE.run (k:=3) n O.ef G x rfl,NN.don ..,λ{j q} o _ _=>?_⟩;rw[o.1,o.2,O.Xx];decide
 ·exfalso;refine B rfl ⟨t rfl,p,?_⟩;refine GG λo=>?_;have d:sd h v a=0:=d;unfold sd jc at d;rw[aw (show a>=1048576 by omega),aw (show((0:Int),(2:Int)).2≠0 by decide)] at d;exact absurd d (show ¬ (2:Int)=0 by decide)
 ·obtain⟨l,g',n,E,J, _,G⟩:=H.Qb (t rfl) (a:=a) (b:=b) (c:=c) d;have m:(run h v 9 a b c).1=iA h v a b c:=l;rw[<-m] at n E G;refine⟨g', _,CE.run (k:=9) n E G x rfl,by rw[m];exact NN.tak ..,λ{j q} o _ _=>?_⟩;rw[o.1,o.2,J];decide
 ·exfalso;have hv:v=0:=by
   unfold gw at i;split at i
   ·exact absurd i (by decide)
   split at i
   ·exact absurd i (by decide)
   rename_i y;by_cases e:v=0
   ·exact e
   ·have:(v==0)=false:=by simpa using e
    rw[this] at y;exact absurd rfl y
  have u:a=0/\b=0/\c=0:=by
   unfold fx at p;simp[jX] at p;exact p
  exact A ⟨hv,rfl,u.1,u.2.1,u.2.2⟩
theorem NE (H:HI gh h) (J:0<=a) (n:oO h v k a b c=0) (A:k=2\/k=4\/k=5\/k=10):
 ∃dy,CE gh dy h (iX h v k a b c) (λj q=>if k=2 then j=a.toNat else j=v.toNat/\q=a) (λw=>k=2/\w=a)/\(k=2->(1<=a/\a<=16)/\v=0)/\(k≠2->(1<=v/\v<=16)/\a<65536):=by
 have l:gw h v k a b c=0:=by
  refine GG λl=>?_;unfold oO at n;rw[ao l] at n;exact l n
 have d:=Fo n l;obtain⟨B,o,K⟩:=C6 l;have e:iX h v k a b c=(run h v k a b c).1:=aw l;rw[e];have fin: ∀{dy:Gh} {f:Int},k≠2->tg k=false->a<65536->HI dy (run h v k a b c).1->uZ h (run h v k a b c).1 (λi q=>i=v.toNat/\q=a) f->uU gh dy h.s (run h v k a b c).1.s-> ∃dy,CE gh dy h (run h v k a b c).1 (λj q=>if k=2 then j=a.toNat else j=v.toNat/\q=a) (λw=>k=2/\w=a)/\(k=2->(1<=a/\a<=16)/\v=0)/\(k≠2->(1<=v/\v<=16)/\a<65536):=λ{dy f} y hc D m E G=>by
  obtain⟨_, _, _, _,p,r⟩:=bX (o hc);have C:=CE.run m E G B hc;refine⟨dy,⟨C.hi,C.kd,⟨λ{i q} t=>C.pg.to λu=>t ?_⟩,λh1 _=>C.gk h1 id,C.gn,λ_ h1=>C.lv id h1⟩,λc=>absurd c y,λ_=>⟨⟨p,r⟩,D⟩⟩;show if k=2 then _ else _;rw[ao y];exact u
 rcases A with rfl|rfl|rfl|rfl
 ·obtain⟨g',m,E,F,I⟩:=H.Ka a;have la:aS h.g a=true:=by
   have d:GN h a=0:=d;unfold GN at d;split at d
   ·assumption
   ·exact absurd d (by decide)
  obtain⟨_, _, _, _,p,r⟩:=bX la;refine⟨g',⟨m,E.kd,⟨λ{i q} t=>E.pg.to λu=>t ?_⟩,λ{f w} h1 x=>F f w h1 λc=>x ⟨rfl,c⟩,λh1=>I _ h1,λ{w} h1 x=>Tg (λc=>h1 ⟨rfl,c⟩) x⟩,λ_=>⟨⟨p,r⟩,?_⟩,λc=>absurd rfl c⟩
  ·show if(2:Int)=2 then _ else _;rw[aw rfl];exact u
  ·unfold gw at l;split at l
   ·exact absurd l (by decide)
   split at l
   ·exact absurd l (by decide)
   rename_i z;by_cases e:v=0
   ·exact e
   ·have:(v==0)=false:=by simpa using e
    rw[this] at z;exact absurd rfl z
 ·have d:mM h v a=0:=by
   have d:(yy h v a).2=0:=d;unfold yy at d;split at d
   ·assumption
   ·exact d
  obtain⟨g',f,m,O,G⟩:=H.C5 (o rfl) d;refine fin (by decide) rfl ?_ m O.ef G;unfold mM at d;split at d
  ·exact absurd d (by decide)
  ·omega
 ·have d:pq h v a b=0:=d;obtain⟨g',m,E, _, _, _,G⟩:=H.J1 (o rfl) d;refine fin (by decide) rfl ?_ m E G;unfold pq at d;split at d
  ·exact absurd d (by decide)
  ·omega
 ·have d:pv h v a=0:=d;obtain⟨g',m,E, _,G⟩:=H.J9 (o rfl) d;refine fin (by decide) rfl ?_ m E G;unfold pv at d;split at d
  ·exact absurd d (by decide)
  ·omega
end
section
variable {gh dy:Gh} {ta:Int->Bool} {n:Nat} {s:MS} {i:Nat}
structure Pd (e e':vM) (fs:List Int):Prop where
 now:e'.now=e.now
 pins:e'.pins=e.pins
 Xx: ∀w∈e'.ws,w∈e.ws\/(w.1∈fs/\w.2=e.now)
 fW: ∀w∈e.ws,w∈e'.ws
 new: ∀f∈fs,f∉e.ws.map (·.1)->(f,e.now)∈e'.ws
 nd:(e.ws.map (·.1)).Nodup->(e'.ws.map (·.1)).Nodup
theorem ac0 (e:vM) (f:Int):Pd e (lj e f) [f]:=by
 unfold lj;split
 ·rename_i h;obtain⟨w,hw,a⟩:=FP.1 h;have a:w.1=f:=by simpa using a
  exact⟨rfl,rfl,λw h=> .inl h,λw h=>h,λg hg b=>absurd (B5.2 ⟨w,hw,by rw[a,F2.1 hg]⟩) b,id⟩
 ·rename_i h;refine⟨rfl,rfl,λw hw=>?_,λw hw=>Ay _ hw,λg hg _=>?_,λb=>?_⟩
  ·rcases FR.1 hw with rfl|hw
   ·exact .inr ⟨F2.2 rfl,rfl⟩
   ·exact .inl hw
  ·rw[F2.1 hg];exact B3
  ·show((f,e.now)::e.ws).map (·.1) |>.Nodup;rw[List.map_cons,F4];refine⟨λc=>h ?_,b⟩;obtain⟨w,hw,a⟩:=B5.1 c;exact FP.2 ⟨w,hw,by simpa using a⟩
theorem Fp: ∀(fs:List Int) (e:vM),Pd e (fs.foldl lj e) fs
 |[],e=>⟨rfl,rfl,λw h=> .inl h,λw h=>h,λf j=>absurd j (by simp),id⟩
 |f::fs,e=>by
  have A:=ac0 e f;have a:=Fp fs (lj e f);show Pd e (fs.foldl lj (lj e f)) (f::fs);refine⟨a.now.trans A.now,a.pins.trans A.pins,λw d=>?_,λw d=>a.fW w (A.fW w d),λg hg i=>?_,λh=>a.nd (A.nd h)⟩
  ·rcases a.Xx w d with h|⟨h1,b⟩
   ·exact(A.Xx w h).imp id λc=>⟨FR.2 (.inl (F2.1 c.1)),c.2⟩
   ·exact .inr ⟨Ay _ h1,by rw[b,A.now]⟩
  ·by_cases c:g=f
   ·exact a.fW _ (A.new g (F2.2 c) i)
   ·have hg:=(FR.1 hg).resolve_left c;rw[<-A.now];refine a.new g hg λk=>?_;obtain⟨w,h1,b⟩:=B5.1 k;rcases A.Xx w h1 with h|⟨h, _⟩
    ·exact i (B5.2 ⟨w,h,b⟩)
    ·exact c (by rw[<-b];exact F2.1 h)
theorem Kh (M:MI gh ta n s) {x:bG} (b:tC s x.ak=true) {j:Nat} {q:List AK} (d:s.bx[j]? =some q) {a:AK} (e:a∈q):a.1≠x.ak:=λc=>by
 unfold tC at b;rw[DK,decide_eq_true_eq,beq_iff_eq] at b;have:=M.oc (x.ak - 1).toNat (by omega);rw[b.2,show(((x.ak - 1).toNat:Nat):Int)+1=x.ak by omega] at this;have f:0<s.bx.countP (λq=>jt q x.ak):=List.countP_pos_iff.2 ⟨q,aB d,FP.2 ⟨a,e,by simpa using c⟩⟩;omega
theorem MI.done (M:MI gh ta n s) {x:bG} (hx:s.cs[i]? =some x) (N:x.ph=4) (U:tC s x.ak=true):MI gh ta n {s with ep:=x.fs.foldl lj s.ep,cs:=s.cs.set i (cv x.ls)}:=by
 have ju:i<s.cs.length:=(Ax.1 hx).1;have R:=Fp x.fs s.ep;generalize v:({s with ep:=x.fs.foldl lj s.ep,cs:=s.cs.set i (cv x.ls)}:MS)=s';have u:s'.h=s.h:=by rw[<-v]
 have he:s'.ep=x.fs.foldl lj s.ep:=by rw[<-v]
 rw[<-he] at R;have D:s'.kn=s.kn:=by rw[<-v]
 have V:s'.sz=s.sz:=by rw[<-v]
 have hb:s'.bx=s.bx:=by rw[<-v]
 have W:s'.op=s.op:=by rw[<-v]
 have eA:s'.cs=s.cs.set i (cv x.ls):=by rw[<-v]
 have hg: ∀{z:Nat} {y:bG},s'.cs[z]? =some y->(z=i/\y=cv x.ls)\/(z≠i/\s.cs[z]? =some y):=λh=>by rw[eA] at h;exact de h
 have A: ∀{y:bG},y∈s'.cs->y=cv x.ls\/ ∃j,j≠i/\s.cs[j]? =some y:=λh=>by
  obtain⟨j,k⟩:=GH h;exact(hg k).imp (·.2) λc=>⟨j,c⟩
 have K: ∀{z:Nat} {y:bG},s.cs[z]? =some y->z≠i->s'.cs[z]? =some y:=λ{z y} h1 p=>by
  rw[eA,Et (λc=>p c.symm)];exact h1
 have O:=M.fk x (aB hx) N;have X: ∀{j:Nat} {y:bG} {f:Int},s.cs[j]? =some y->y.ph=2\/y.ph=3->rT s j f->rT s' j f:=λ{j y f} k sW P=>by
  have Y:=M.pn k;rw[aw sW] at Y;rcases P with ⟨z,y2,h1,p,E⟩|⟨e,h1,p,E⟩
  ·by_cases c:z=i
   ·subst c;rw[hx] at h1;cases h1;exact .inr ⟨_,R.new f E (O f E).2,rfl,by rw[R.pins];exact Y.2.1⟩
   ·exact .inl ⟨z,y2,K h1 c,p,E⟩
  ·exact .inr ⟨e,R.fW e h1,p,by rw[R.pins];exact E⟩
 have i0:(cv x.ls).ph=0:=rfl;refine⟨by rw[u];exact M.hi,M.nn,by rw[eA,DJ];exact M.lc,by rw[hb];exact M.lb,by rw[R.pins];exact M.lp,by rw[V];exact M.sz,λy o=>?_,λy o=>?_,λy o=>?_,
  by rw[D,u];exact M.k5,by rw[D];exact M.nk,λe L=>?_,R.nd M.wn,λy o e=>?_,λy o e=>?_,λ{a b y z} g t Q B C=>?_,λ{m d} g t=>?_,by rw[R.now];exact M.nw,λ{j y} g=>?_,λ{j y} g l Z=>?_,λy o e=>?_,λ{j y} g e=>?_,λ{j y} g e=>?_,λy o e=>?_,λ{a b y z} g t Q B C=>?_,λ{j r} g=>?_,by rw[W,hb];exact M.oc⟩
 ·rcases A o with rfl|⟨j, _,k⟩
  ·rw[i0];decide
  ·exact M.ph y (aB k)
 ·rcases A o with rfl|⟨j, _,k⟩
  ·exact(show cg 0/\cg 0/\cg 0 by decide)
  ·exact M.ar y (aB k)
 ·rw[V];rcases A o with rfl|⟨j, _,k⟩
  ·exact M.tl x (aB hx)
  ·exact M.tl y (aB k)
 ·rw[D,R.now];rcases R.Xx e L with h|⟨h1,p⟩
  ·exact M.wk e h
  ·exact⟨(O _ h1).1,by rw[p];exact M.nw,by rw[p];exact Gi _⟩
 ·rcases A o with rfl|⟨j,k,o⟩
  ·rw[i0] at e;exact absurd e (by decide)
  ·intro f L;obtain⟨a,b⟩:=M.fk y (aB o) e f L;refine⟨by rw[D];exact a,λc=>?_⟩;obtain⟨w,h1,p⟩:=B5.1 c;rcases R.Xx w h1 with h|⟨h, _⟩
   ·exact b (B5.2 ⟨w,h,p⟩)
   ·rw[p] at h;exact M.fd o hx k e N f L h
 ·rcases A o with rfl|⟨j,k,o⟩
  ·rw[i0] at e;exact absurd e (by decide)
  ·exact M.fn y (aB o) e
 ·rcases hg g with ⟨_,rfl⟩|⟨_,g⟩
  ·rw[i0] at B;exact absurd B (by decide)
  ·rcases hg t with ⟨_,rfl⟩|⟨_,t⟩
   ·rw[i0] at C;exact absurd C (by decide)
   ·exact M.fd g t Q B C
 ·rw[u] at g;obtain⟨q1,S⟩:=M.kd g t;rw[D];refine⟨q1,?_⟩;rcases S with S|⟨y,o,g1,F⟩
  ·obtain⟨w,h1,p⟩:=B5.1 S;exact .inl (B5.2 ⟨w,R.fW w h1,p⟩)
  ·obtain⟨j,k⟩:=GH o;by_cases c:j=i
   ·subst c;rw[hx] at k;cases k;exact .inl (B5.2 ⟨_,R.new _ F (O _ F).2,rfl⟩)
   ·exact .inr ⟨y,aB (K k c),g1,F⟩
 ·rw[R.pins,R.now];rcases hg g with ⟨rfl,rfl⟩|⟨_,g⟩
  ·have:=M.pn hx;rw[N,ao (by decide)] at this;rw[i0,ao (by decide)];exact this
  ·exact M.pn g
 ·have Al: ∃T,s.cs[j]? =some T/\l∈T.ls:=by
   rcases hg g with ⟨rfl,rfl⟩|⟨_,g⟩
   ·exact⟨x,hx,Z⟩
   ·exact⟨y,g,Z⟩
  obtain⟨T,g0,g1⟩:=Al;obtain⟨r0,m,d,G,H,I⟩:=M.ln g0 l g1;refine⟨r0,m,d,G,by rw[u];exact H,?_⟩;rw[u,hb];refine I.imp id λ⟨J,q,a,r5,r6,r7,r8⟩=>⟨J,q,a,r5,r6,r7,λe5=>?_⟩;obtain⟨r9,z,y',b,c0,c1,c2,c3,c4,c5⟩:=r8 e5;refine⟨r9,z,y',b,c0,K c1 λc=>?_,c2,c3,c4,c5⟩;subst c;rw[hx] at c1;cases c1;exact Kh M U r5 c0 c4
 ·rw[u];rcases A o with rfl|⟨j, _,k⟩
  ·rw[i0] at e;exact absurd e (by decide)
  ·exact M.ac y (aB k) e
 ·rcases hg g with ⟨_,rfl⟩|⟨_,g⟩
  ·rw[i0] at e;exact absurd e (by decide)
  ·obtain⟨l,G,H,I,J⟩:=M.wl g e;refine⟨l,G,H,I,?_⟩;rw[u];exact J.imp id λc=>⟨c.1,X g (.inl e) c.2.1,c.2.2⟩
 ·rcases hg g with ⟨_,rfl⟩|⟨_,g⟩
  ·rw[i0] at e;exact absurd e (by decide)
  ·obtain⟨⟨m,d,G,H,I⟩,J⟩:=M.rc g e;refine⟨⟨m,d,G,by rw[u];exact H,?_⟩,J⟩;exact I.imp id λc=>⟨c.1,X g (.inr e) c.2.1,c.2.2⟩
 ·rw[W];rcases A o with rfl|⟨j, _,k⟩
  ·rw[i0] at e;exact absurd e (by decide)
  ·exact M.wt y (aB k) e
 ·rcases hg g with ⟨_,rfl⟩|⟨_,g⟩
  ·rw[i0] at B;exact absurd B (by decide)
  ·rcases hg t with ⟨_,rfl⟩|⟨_,t⟩
   ·rw[i0] at C;exact absurd C (by decide)
   ·exact M.wu g t Q B C
 ·rw[hb] at g;obtain⟨g1,F⟩:=M.aq g;refine⟨g1,λa ha=>?_⟩;obtain⟨z,y,f1,f2,f3,f4⟩:=F a ha;refine⟨z,y,f1,K f2 λc=>?_,f3,f4⟩;subst c;rw[hx] at f2;cases f2;exact Kh M U g ha (by rw[f4])
end
section
variable {gh dy:Gh} {ta:Int->Bool} {n:Nat} {s:MS} {i:Nat}
def uV (n:Nat) (s:MS):Prop:= ∃gh ta,MI gh ta n s
theorem Th (M:MI gh ta n s) {x:bG} (hx:s.cs[i]? =some x) (h: ¬ (x.ph=2\/x.ph=3)):vb s.ep i=s.ep:=by
 have:=M.pn hx;rw[ao h] at this;unfold vb;rw[<-this,tW M hx]
theorem MI.ends (M:MI gh ta n s) {x:bG} (hx:s.cs[i]? =some x) (h1:x.ph=1) (kn:List Int) (a:kn=s.kn) (ms:List MT) {ls:List LT} (b:ls=x.ls):MI gh ta n {s with cs:=s.cs.set i (cv ls),kn:=kn,ms:=ms}:=by
 have:=M.idle hx (by omega) (λl c=>M.ln hx l c) (M.tl x (aB hx)) ms;rw[Th M hx (by omega)] at this;subst a b;exact this
theorem lH (s:MS):(cQ s).1.cs=s.cs:=by
 unfold cQ;dsimp only;generalize my (e_ s.ep)=L;generalize b:({s with ep:=CP (e_ s.ep)}:MS)=a;have h0:s.cs=a.cs:=by rw[<-b]
 rw[h0];clear b h0
 induction L generalizing a with
 |nil=>rfl
 |cons f L c=>exact c (g_ a f)
theorem Ti {h':HS} (M:MI gh ta n {s with h:=h'}):eJ s h'=[]:=by
 refine FS.2 λf a=>?_;obtain⟨m,d,rfl,b,c,e⟩:=gA.1 a;exact e (M.kd b c).1
theorem WJ {x:bG} (hx:s.cs[i]? =some x) (x':bG):((s.cs.set i x').getD i x)=x':=by
 rw[CK,CL (Ax.1 hx).1];rfl
theorem MI.call (M:MI gh ta n s) {x:bG} (hx:s.cs[i]? =some x) (h1:x.ph=1) (hb:s.bx[i]? =some []) (l:jG s.h x=false) (A:nJ s i x=false) (B: ¬ (x.vm=0/\x.c=(17,0,0,0,()))):uV n (il (fp s i x) i x).1:=by
 have t:=M.ar x (aB hx);by_cases o:(x.c.1=2\/x.c.1=4\/x.c.1=5\/x.c.1=10)/\oO s.h x.vm x.c.1 x.c.2.1 x.c.2.2.1 x.c.2.2.2.1=0
 ·obtain⟨m,u⟩:=o;obtain⟨g',C,c2,D⟩:=NE M.hi t.1.1 u m;have e:(il (fp s i x) i x).1=mg s (iX s.h x.vm x.c.1 x.c.2.1 x.c.2.2.1 x.c.2.2.2.1) i x (if x.c.1=2 then aE .i64 x.c.2.1 else x.vm) (if x.c.1=2 then -1 else aE .i64 x.c.2.1) (qF s.h x.vm x.c.1 x.c.2.1 x.c.2.2.1 x.c.2.2.2.1,oO s.h x.vm x.c.1 x.c.2.1 x.c.2.2.1 x.c.2.2.2.1) (s.ms++[(1,x.vm,0,x.c,qF s.h x.vm x.c.1 x.c.2.1 x.c.2.2.1 x.c.2.2.2.1,oO s.h x.vm x.c.1 x.c.2.1 x.c.2.2.1 x.c.2.2.2.1)]):=by
   unfold fp;dsimp only;rw[aw m,ao (λc=>c u)];rfl
  rw[e];by_cases f:x.c.1=2
  ·obtain⟨p,w⟩:=c2 f;have r:aE .i64 x.c.2.1=x.c.2.1:=Go.Proofs.YtlcenllcmeebhaaGreat.bJ (by omega);rw[aw f,aw f,r];refine⟨g', _,M.X4 hx h1 hb C p (by decide) (by unfold AR;rw[aw f]) (by unfold AS;rw[aw f]) (λ{j q} c _ _=>?_) (λ{j y} g z c=>?_) _ _⟩
   ·rw[aw f] at c;exact⟨by omega,.inl rfl⟩
   ·have E:j≠i:=λk=>by subst k;rw[hx] at g;cases g;omega
    have:nJ s i x=true:=by
     unfold nJ;refine FP.2 ⟨j,DA.2 (Ax.1 g).1,?_⟩;rw[g];dsimp only;rw[DK,decide_eq_true_eq];refine⟨⟨E,w⟩,?_⟩;rw[Gj];right;rw[f,c.2,z];have:0<x.c.2.1:=by omega
     simp[this]
    rw[A] at this;cases this
  ·obtain⟨p,w⟩:=D f;have r:aE .i64 x.c.2.1=x.c.2.1:=Go.Proofs.YtlcenllcmeebhaaGreat.bJ (by omega);rw[ao f,ao f,r];refine⟨g', _,M.X4 hx h1 hb C p (by omega) (by unfold AR;rw[ao f]) (by unfold AS;rw[ao f]) (λ{j q} c _ _=>?_) (λ{j y} g z c=>f c.1) _ _⟩;rw[ao f] at c;exact⟨by omega,.inr c.2.symm⟩
 ·obtain⟨g',P,C,N,F⟩:=IE (k:=x.c.1) (v:=x.vm) (a:=x.c.2.1) (b:=x.c.2.2.1) (c:=x.c.2.2.2.1) M.hi t.1.1 (λc=>B ⟨c.1,by
   obtain⟨_,k,a,b,d⟩:=c;exact DO k (DO a (DO b (DO d rfl)))⟩) (λG c=>by
   unfold jG a7 at l;rw[G] at l c;rw[c.1,c.2.1,decide_eq_true c.2.2] at l;exact absurd l (by decide)) (by
   by_cases e:x.c.1=2\/x.c.1=4\/x.c.1=5\/x.c.1=10
   ·exact .inl λc=>o ⟨e,c⟩
   ·exact .inr e)
  have M':=M.quiet C N F;have H:=Ti M';have e:(il (fp s i x) i x).1=bS (bS {s with h:=iX s.h x.vm x.c.1 x.c.2.1 x.c.2.2.1 x.c.2.2.2.1,kn:=s.kn++eJ s (iX s.h x.vm x.c.1 x.c.2.1 x.c.2.2.1 x.c.2.2.2.1),ms:=s.ms++[(1,x.vm,0,x.c,qF s.h x.vm x.c.1 x.c.2.1 x.c.2.2.1 x.c.2.2.2.1,oO s.h x.vm x.c.1 x.c.2.1 x.c.2.2.1 x.c.2.2.2.1)]} i {x with rs:=(qF s.h x.vm x.c.1 x.c.2.1 x.c.2.2.1 x.c.2.2.2.1,oO s.h x.vm x.c.1 x.c.2.1 x.c.2.2.1 x.c.2.2.2.1),fs:=eJ s (iX s.h x.vm x.c.1 x.c.2.1 x.c.2.2.1 x.c.2.2.2.1)}) i (cv ((s.cs.set i {x with rs:=(qF s.h x.vm x.c.1 x.c.2.1 x.c.2.2.1 x.c.2.2.2.1,oO s.h x.vm x.c.1 x.c.2.1 x.c.2.2.1 x.c.2.2.2.1),fs:=eJ s (iX s.h x.vm x.c.1 x.c.2.1 x.c.2.2.1 x.c.2.2.2.1)}).getD i x).ls):=by
   unfold fp;dsimp only;split
   ·rename_i m;rw[aw λc=>o ⟨m,c⟩];rfl
   ·rfl
  rw[e,WJ hx,H];refine⟨g',ta,?_⟩;have:=M'.ends hx h1 (s.kn++[]) (DY _) (s.ms++[(1,x.vm,0,x.c,qF s.h x.vm x.c.1 x.c.2.1 x.c.2.2.1 x.c.2.2.2.1,oO s.h x.vm x.c.1 x.c.2.1 x.c.2.2.1 x.c.2.2.2.1)]) (ls:=x.ls) rfl;unfold bS;dsimp only;rw[DZ];exact this
theorem MI.begin (M:MI gh ta n s) {x:bG} (hx:s.cs[i]? =some x) (h1:x.ph=1) (hb:s.bx[i]? =some []):uV n (il (cZ s i x) i x).1:=by
 unfold cZ;cases b:jG s.h x with
 |true=>
  rw[aw rfl];dsimp only;split
  ·rename_i a;have: ∃l∈x.ls,(mW x.ls x.vm (x.c.2.1 / 16) (a7 x.c.1)).1=l.2.2.1:=by
    unfold mW at a ⊢;cases d:x.ls.find? (CO x.vm (x.c.2.1 / 16)) with
    |none=>rw[d] at a;exact absurd a (show ¬ (4:Int)=0 by decide)
    |some l=>
     rw[d] at a;dsimp only at a ⊢;split at a
     ·exact absurd a (show ¬ (7:Int)=0 by decide)
     ·rename_i c;rw[ao c];exact⟨l,IX d,rfl⟩
   obtain⟨l,f,g⟩:=this;rw[g];exact⟨gh,ta,M.F6 hx h1 b f⟩
  ·exact⟨gh,ta,M.aaC hx h1 b⟩
 |false=>
  rw[ao (by decide)];cases j:nJ s i x with
  |true=>
   rw[aw rfl,eT hx];exact⟨gh,ta,M.ends hx h1 s.kn rfl s.ms rfl⟩
  |false=>
   rw[ao (by decide)];split
   ·have e:(cQ s).1.cs[i]? =some x:=by rw[lH];exact hx
    rw[eT e];exact⟨gh,ta,M.free.ends e h1 _ rfl _ rfl⟩
   ·rename_i k;exact M.call hx h1 hb b j k
theorem MI.waits (M:MI gh ta n s) {x:bG} (hx:s.cs[i]? =some x) (a:x.ph=4):uV n (il (h_ s x) i x).1:=by
 unfold h_;split
 ·rename_i b;rw[eT (by exact hx)];exact⟨gh,ta,M.done hx a b⟩
 ·exact⟨gh,ta,M⟩
theorem MI.iB (M:MI gh ta n s) {x:bG} (hx:s.cs[i]? =some x):uV n (Go.Proofs.YtlcenllcmeebhaaGreat.iB s i x).1:=by
 have f:=M.ph x (aB hx);unfold Go.Proofs.YtlcenllcmeebhaaGreat.iB;split
 ·rename_i c;unfold bO;rw[ao (by omega),ao (by omega),ao (by omega),aw c];exact⟨gh,ta,M.reach hx c⟩
 ·rename_i c;have d:i<s.bx.length:=by rw[M.lb, <-M.lc];exact(Ax.1 hx).1
  unfold tq;cases b:s.bx[i]? with
  |none=>rw[Bf d] at b;cases b
  |some q=>
   cases q with
   |cons a q=>exact⟨gh,ta,M.pop hx b⟩
   |nil=>
    dsimp only;unfold bO;split
    ·exact⟨gh,ta,M.free⟩
    split
    ·rename_i h1;exact M.begin hx h1 b
    split
    ·rename_i e;exact⟨gh,ta,M.walk hx e⟩
    ·exact M.waits hx (by omega)
theorem uV.step (M:uV n s) (k:Int):uV n (aR s k).1:=by
 obtain⟨gh,ta,M⟩:=M;unfold aR;split
 ·exact⟨gh,ta,M⟩
 split
 ·exact⟨gh,ta,M⟩
 ·rename_i hx;exact M.iB hx
theorem uV.ask (M:uV n s) (k vm:Int) {c:CT} (hc:cg c.2.1/\cg c.2.2.1/\cg c.2.2.2.1):uV n (cP s k vm c):=by
 obtain⟨gh,ta,M⟩:=M;exact⟨gh,ta,M.ask k vm hc⟩
theorem uV.new {f:Nat} {l:Int} (o:4<=f/\f<=4096) (p:1<=n/\n<=8) (b:1<=l/\l<=64):uV n (m0 f n l):=by
 have hc: ∀{x:bG},x∈(m0 f n l).cs->x=cv []:=λh=>Dn h;have hg: ∀{j:Nat} {x:bG},(m0 f n l).cs[j]? =some x->x=cv []:=λh=>hc (aB h);have no: ∀{k:Int},(cv []).ph=k->k≠0->False:=λh c=>c h.symm;have r: ∀{m:Nat} {d:DT},(m0 f n l).h.s.2[m]? =some d->d.1≠5:=λ{m d} h=>by
  have h:(Co f zD)[m]? =some d:=h;rw[Dn (DI h)];decide
 refine⟨noG,λ_=>false,⟨HI.new o,p,E4,E4,E4,b,λx h=>?_,λx h=>?_,λx h=>?_,λg hg=>absurd hg (by simp[m0]),In,λe t=>absurd t (by simp[m0]),In,λx h e=>?_,λx h e=>?_,λ{i j x y} h1 _ _ e _=>?_,λh1 c=>absurd c (r h1),Gi _,λ{j x} h=>?_,λ{j x} h l b=>?_,λx h e=>?_,λ{j x} h e=>?_,λ{j x} h e=>?_,λx h e=>?_,λ{i j x y} h1 _ _ e _=>?_,λ{j q} h=>?_,λid h=>absurd h (N4 _)⟩⟩
 ·rw[hc h];decide
 ·rw[hc h];decide
 ·rw[hc h];show(0:Int)<=l;omega
 ·rw[hc h] at e;exact(no e (by decide)).elim
 ·rw[hc h] at e;exact(no e (by decide)).elim
 ·rw[hg h1] at e;exact(no e (by decide)).elim
 ·rw[hg h,ao (by decide)];have u:j<n:=by
   have:=(Ax.1 h).1;rw[show(m0 f n l).cs.length=n from E4] at this;exact this
  show(Co n (-1:Int)).getD j 0= -1;rw[CK,F5,aw u];rfl
 ·rw[hg h] at b;exact absurd b (by simp[cv])
 ·rw[hc h] at e;exact(no e (by decide)).elim
 ·rw[hg h] at e;exact(no e (by decide)).elim
 ·rw[hg h] at e;exact(no e (by decide)).elim
 ·rw[hc h] at e;exact(no e (by decide)).elim
 ·rw[hg h1] at e;exact(no e (by decide)).elim
 ·have:q=[]:=Dn (aB h);rw[this];exact⟨List.Pairwise.nil,λa v=>by cases v⟩
end
def qG (x:bG):Nat:=if x.ph=1 then 6 else if x.ph=2 then 2+x.wk.2.1.toNat else if x.ph=3 then 1 else 0
def bl (s:MS) (c:Nat):Nat:=(s.bx.getD c []).length
def o1 (x:bG):Nat:=if x.ph=1 then 1 else 0
structure Pg (s s':MS) (k:Nat) (x x':bG):Prop where
 cs:s'.cs=s.cs.set k x'
 one:x'.ph=1->x.ph=1
 box: ∀j,j≠k->bl s' j+o1 x'<=bl s j+o1 x
 me:bl s' k+qG x'<=bl s k+qG x
 lt:0<bl s k+qG x->bl s' k+qG x'<bl s k+qG x
section
variable {gh dy:Gh} {ta:Int->Bool} {n:Nat} {s s':MS} {i:Nat}
theorem t_ {x:bG} (hx:s.cs[i]? =some x):s.cs.set i x=s.cs:=by
 refine J3 λj=>?_;rw[Jc];by_cases e:i=j
 ·subst e;rw[aw rfl,aw (Ax.1 hx).1,hx]
 ·rw[ao e]
theorem ac1 {x:bG} (h:x.ph=2->x.wk.2.1<=3):qG x<=6:=by
 unfold qG;split
 ·omega
 split
 ·rename_i a;have:=h a;omega
 split<;>omega
theorem Pg.same {x x':bG} (eA:s'.cs=s.cs.set i x') (hb:s'.bx=s.bx) (h1:x'.ph=1->x.ph=1) (b:qG x'<=qG x) (a:0<bl s i+qG x->qG x'<qG x):Pg s s' i x x' where
 cs:=eA
 one:=h1
 box:=λj _=>by
  have:bl s' j=bl s j:=by unfold bl;rw[hb]
  rw[this];unfold o1;split
  ·rename_i c;rw[aw (h1 c)];omega
  ·omega
 me:=by
  have:bl s' i=bl s i:=by unfold bl;rw[hb]
  omega
 lt:=λh=>by
  have:bl s' i=bl s i:=by unfold bl;rw[hb]
  have:=a h;omega
theorem ua (s:MS):(cQ s).1.bx=s.bx:=by
 unfold cQ;dsimp only;generalize my (e_ s.ep)=L;generalize b:({s with ep:=CP (e_ s.ep)}:MS)=a;have h0:s.bx=a.bx:=by rw[<-b]
 rw[h0];clear b h0
 induction L generalizing a with
 |nil=>rfl
 |cons f L c=>exact c (g_ a f)
theorem ub (bx:List (List AK)) (op:List Int) (i:Nat) (t p:Int) (j:Nat):((cz bx op i t p).2.1.getD j []).length<=(bx.getD j []).length+1/\(j=i->((cz bx op i t p).2.1.getD j []).length=(bx.getD j []).length):=by
 unfold cz;split
 ·exact⟨Nat.le_succ _,λ_=>rfl⟩
 split
 ·exact⟨Nat.le_succ _,λ_=>rfl⟩
 ·dsimp only;rw[CK,GI,List.getElem?_zipIdx,CK];cases bx[j]? with
  |none=>exact⟨Ef _,λ_=>rfl⟩
  |some q=>
   show(if 0+j=i then q else q++[_]).length<=q.length+1/\(j=i->(if 0+j=i then q else q++[_]).length=q.length);refine⟨?_,λe=>by rw[aw (by omega)]⟩;split
   ·omega
   ·rw[GJ];simp
theorem lE (ls:List LT):qG (cv ls)=0:=rfl
theorem qB {s1:MS} {r:Int×Int} {x x1:bG} (h:s1.cs[i]? =some x1):(il (s1,r,true) i x).1={s1 with cs:=s1.cs.set i (cv x1.ls)}:=by
 unfold il;rw[aw rfl];show bS s1 i (cv ((s1.cs.getD i x).ls))= _;rw[CK,h];rfl
theorem NF (M:MI gh ta n s) {x:bG} (hx:s.cs[i]? =some x) (h1:x.ph=1) (hb:s.bx[i]? =some []): ∃x',Pg s (il (fp s i x) i x).1 i x x':=by
 have q:qG x=6:=aw h1;by_cases a:(x.c.1=2\/x.c.1=4\/x.c.1=5\/x.c.1=10)/\oO s.h x.vm x.c.1 x.c.2.1 x.c.2.2.1 x.c.2.2.2.1=0
 ·obtain⟨a,g⟩:=a;generalize b:fp s i x=r;unfold fp at b;dsimp only at b;rw[aw a,ao (λc=>c g)] at b;subst b;refine⟨_,rfl,λc=>absurd c (show ¬ (4:Int)=1 by decide),λj u=>?_,?_,λ_=>?_⟩
  ·show(GO (cz s.bx s.op i _ _).2.1 j []).length+0<=bl s j+o1 x;have:o1 x=1:=aw h1;rw[this];exact(ub _ _ _ _ _ j).1
  all_goals
   have d: ∀t p:Int,(GO (cz s.bx s.op i t p).2.1 i []).length=0:=λt p=>by
    rw[(ub _ _ _ _ _ i).2 rfl,CK,hb];rfl
  ·show(GO (cz s.bx s.op i (if x.c.1=2 then aE .i64 x.c.2.1 else x.vm) (if x.c.1=2 then -1 else aE .i64 x.c.2.1)).2.1 i []).length+0<= _;rw[d];omega
  ·show(GO (cz s.bx s.op i (if x.c.1=2 then aE .i64 x.c.2.1 else x.vm) (if x.c.1=2 then -1 else aE .i64 x.c.2.1)).2.1 i []).length+0< _;rw[d];omega
 ·have e: ∃(s1:MS) (x1:bG) (r:Int×Int),fp s i x=(s1,r,true)/\s1.bx=s.bx/\s1.cs=s.cs.set i x1:=by
   unfold fp;dsimp only;split
   ·rename_i k;rw[aw λc=>a ⟨k,c⟩];exact⟨_, _, _,rfl,rfl,rfl⟩
   ·exact⟨_, _, _,rfl,rfl,rfl⟩
  obtain⟨s1,x1,r,l,m,f⟩:=e;rw[l];have o:s1.cs[i]? =some x1:=by rw[f,CL (Ax.1 hx).1]
  rw[qB o];refine⟨cv x1.ls,Pg.same ?_ m (λc=>absurd c (show ¬ (0:Int)=1 by decide)) (by rw[lE];omega) (λ_=>by rw[lE];omega)⟩;show s1.cs.set i _= _;rw[f,DZ]
theorem IF (M:MI gh ta n s) {x:bG} (hx:s.cs[i]? =some x) (h1:x.ph=1) (hb:s.bx[i]? =some []): ∃x',Pg s (il (cZ s i x) i x).1 i x x':=by
 have a:qG x=6:=aw h1;unfold cZ;cases d:jG s.h x with
 |true=>
  rw[aw rfl];dsimp only;split
  ·exact⟨_,Pg.same rfl rfl (λc=>absurd c (show ¬ (3:Int)=1 by decide)) (by show(1:Nat)<= _;omega) (λ_=>by show(1:Nat)< _;omega)⟩
  ·exact⟨_,Pg.same rfl rfl (λc=>absurd c (show ¬ (2:Int)=1 by decide)) (by show 2+(3:Int).toNat<= _;rw[a];decide) (λ_=>by show 2+(3:Int).toNat< _;rw[a];decide)⟩
 |false=>
  rw[ao (by decide)];cases e:nJ s i x with
  |true=>
   rw[aw rfl,eT hx];exact⟨_,Pg.same rfl rfl (λc=>absurd c (show ¬ (0:Int)=1 by decide)) (by rw[lE];omega) (λ_=>by rw[lE];omega)⟩
  |false=>
   rw[ao (by decide)];split
   ·have b:(cQ s).1.cs[i]? =some x:=by rw[lH];exact hx
    rw[eT b];exact⟨_,Pg.same (by rw[lH]) (ua s) (λc=>absurd c (show ¬ (0:Int)=1 by decide)) (by rw[lE];omega) (λ_=>by rw[lE];omega)⟩
   ·exact NF M hx h1 hb
theorem NG (M:MI gh ta n s) {x:bG} (hx:s.cs[i]? =some x) (d:x.ph=2) (hb:s.bx[i]? =some []): ∃x',Pg s (il (j7 s i x) i x).1 i x x':=by
 have k:=M.ar x (aB hx);obtain⟨o,p,v⟩:=M.ac x (aB hx) d;obtain⟨l,w1,q,r,a⟩:=M.wl hx d;have f:=tH ⟨k.1.1,p⟩;have e:x.wk=(x.wk.1,(l:Int),(0,0,0,0,())):=DO rfl (DO w1 r);obtain⟨w,hg,y,u,z,A⟩:=tG M o;have g:qG x=2+l:=by
  unfold qG;rw[ao (by omega),aw d,w1];rfl
 unfold j7;dsimp only;split
 ·rename_i hc;rcases a with a|a
  ·rcases M.hi.inv.nj M.hi.nl (t:=a7 x.c.1) u f a with ⟨m,B,b,C,D,k4⟩|⟨b, _⟩
   ·have j:qG {x with wk:=bF s.h.s.1 (x.c.2.1 / 16) (a7 x.c.1) x.wk}=2+m:=by
     unfold qG;rw[ao (show ¬ x.ph=1 by omega),aw d];show 2+(bF s.h.s.1 (x.c.2.1 / 16) (a7 x.c.1) x.wk).2.1.toNat= _;rw[e,b];rfl
    exact⟨_,Pg.same rfl rfl (λc=>c) (by rw[j,g];omega) (λ_=>by rw[j,g];omega)⟩
   ·rw[e] at hc;exact absurd b hc
  ·obtain⟨b, _⟩:=M.hi.inv.nq (t:=a7 x.c.1) f q a.1;rw[e] at hc;exact absurd b hc
 split
 ·rw[qB (x1:={x with wk:=bF s.h.s.1 (x.c.2.1 / 16) (a7 x.c.1) x.wk}) (by exact(CL (Ax.1 hx).1))];refine⟨cv x.ls,Pg.same ?_ rfl (λc=>absurd c (show ¬ (0:Int)=1 by decide)) (by rw[lE];omega) (λ_=>by rw[lE];omega)⟩;show(s.cs.set i _).set i _= _;rw[DZ]
 ·exact⟨_,Pg.same rfl rfl (λc=>absurd c (show ¬ (3:Int)=1 by decide)) (by show(1:Nat)<= _;omega) (λ_=>by show(1:Nat)< _;omega)⟩
theorem prog (M:MI gh ta n s) {x:bG} (hx:s.cs[i]? =some x): ∃x',Pg s (Go.Proofs.YtlcenllcmeebhaaGreat.iB s i x).1 i x x':=by
 have t:=M.ph x (aB hx);unfold Go.Proofs.YtlcenllcmeebhaaGreat.iB;split
 ·rename_i e;have f:qG x=1:=by unfold qG;rw[ao (by omega),ao (by omega),aw e]
  unfold bO;rw[ao (by omega),ao (by omega),ao (by omega),aw e];have: ∃(s1:MS) (r:Int×Int),fB s i x=(s1,r,true)/\s1.bx=s.bx/\s1.cs=s.cs:=by
   unfold fB;dsimp only;split
   ·exact⟨_, _,rfl,rfl,rfl⟩
   ·exact⟨_, _,rfl,rfl,rfl⟩
  obtain⟨s1,r,m,o,g⟩:=this;rw[m,eT (x:=x) (by rw[g];exact hx)];exact⟨_,Pg.same (by rw[g]) o (λc=>absurd c (show ¬ (0:Int)=1 by decide)) (by rw[lE];omega) (λ_=>by rw[lE];omega)⟩
 ·rename_i e;have h:i<s.bx.length:=by rw[M.lb, <-M.lc];exact(Ax.1 hx).1
  unfold tq;cases b:s.bx[i]? with
  |none=>rw[Bf h] at b;cases b
  |some q=>
   have d:bl s i=q.length:=by unfold bl;rw[CK,b];rfl
   cases q with
   |cons a q=>
    dsimp only;rw[Gw] at d;have k:bl (bS {s with bx:=s.bx.set i q,op:=s.op.set (a.1 - 1).toNat (s.op.getD (a.1 - 1).toNat 0 - 1)} i {x with ls:=iZ x.ls a.2.1 a.2.2.1}) i=q.length:=by
     unfold bl;show((s.bx.set i q).getD i []).length= _;rw[CK,CL h];rfl
    refine⟨_,rfl,id,λj p=>?_,?_,λ_=>?_⟩
    ·show((s.bx.set i q).getD j []).length+o1 x<= _;rw[CK,Et (λc=>p c.symm), <-CK];exact DQ _
    ·rw[k,d];show q.length+qG x<= _;omega
    ·rw[k,d];show q.length+qG x< _;omega
   |nil=>
    have d:bl s i=0:=d;dsimp only;unfold bO;split
    ·rename_i h0;have f:qG x=0:=by unfold qG;rw[ao (by omega),ao (by omega),ao (by omega)]
     exact⟨x,Pg.same (by show(cQ s).1.cs= _;rw[lH,t_ hx]) (ua s) id (DQ _) (λc=>by omega)⟩
    split
    ·rename_i h1;exact IF M hx h1 b
    split
    ·rename_i l;exact NG M hx l b
    ·rename_i h0 h1 l;have f:qG x=0:=by unfold qG;rw[ao (by omega),ao (by omega),ao (by omega)]
     unfold h_;split
     ·rw[eT (by exact hx)];exact⟨_,Pg.same rfl rfl (λc=>absurd c (show ¬ (0:Int)=1 by decide)) (by rw[lE];omega) (λc=>by omega)⟩
     ·exact⟨x,Pg.same (t_ hx).symm rfl id (DQ _) (λc=>by omega)⟩
end
def gC (s:MS) (c:Nat):bG:=s.cs.getD c (cv [])
def Aq (s:MS) (c:Nat):Nat:=bl s c+qG (gC s c)
def pn1 (s:MS):Nat:=s.cs.countP λx=>x.ph==1
def muC (s:MS) (c:Nat):Nat:=Aq s c+pn1 s
def KT (s:MS) (L:List Nat):MS:=L.foldl (λ(s:MS) (c:Nat)=>(aR s (c:Int)).1) s
section
variable {gh dy:Gh} {ta:Int->Bool} {n:Nat} {s s':MS} {i:Nat}
theorem pL {x:bG} {c:Nat} (hx:s.cs[c]? =some x):aR s (c:Int)=Go.Proofs.YtlcenllcmeebhaaGreat.iB s c x:=by
 unfold aR;rw[ao (by omega)];show(match s.cs[c]? with|none=> _|some x=> _)= _;rw[hx];rfl
structure DS (s s':MS) (k:Nat):Prop where
 mu: ∀c,muC s' c<=muC s c
 lt:0<Aq s k->muC s' k<muC s k
 p1:pn1 s'<=pn1 s
 ph: ∀c,(gC s' c).ph=1->(gC s c).ph=1
 ot: ∀c,c≠k->gC s' c=gC s c
def GP (n:Nat):Nat->MS->MS
 |0,s=>s
 |r+1,s=>KT (GP n r s) (AL n)
end
section
variable {gh dy:Gh} {ta:Int->Bool} {n:Nat} {s s':MS} {i:Nat}
structure Zs (n:Nat) (s:MS):Prop where
 x:uV n s
 nu: ∀c,c<n->Aq s c=0
 p1:pn1 s=0
structure Iz (n:Nat) (j:Nat) (s:MS):Prop where
 z:Zs n s
 id: ∀c,c<n->(gC s c).ph=0
 fW: ∀e∈s.ep.ws,e.2+(j:Int)<=s.ep.now
end
section
variable {gh dy:Gh} {ta:Int->Bool} {n:Nat} {s s':MS} {i:Nat}
theorem clean (X:uV n s) {c:Nat} {x:bG} (hx:s.cs[c]? =some x) {l:LT} (j:l∈x.ls):(1<=l.1/\l.1<=16/\0<=l.2.1/\l.2.1<65536)/\ ∃(m:Nat) (d:DT),l.2.2.1=(m:Int)/\s.h.s.2[m]? =some d/\(d.1=4\/d.1=5)/\(s.bx[c]? =some []->d.1=4/\aS s.h.g l.1=true/\gT s.h l.1.toNat l.2.1=(l.2.2.1,l.2.2.2.1,0,())):=by
 obtain⟨gh,ta,M⟩:=X;obtain⟨e,m,d,k,o,b⟩:=M.ln hx l j;refine⟨e,m,d,k,o,?_,λhb=>?_⟩
 ·rcases b with b|b
  ·exact .inl b.1
  ·exact b.1
 ·rcases b with ⟨b,f⟩|⟨_,q,a,i,p, _⟩
  ·refine⟨b,?_,f⟩;cases hg:s.h.g l.1.toNat with
   |none=>rw[fM hg] at f;exact absurd (congrArg (λz=>z.2.2.1) f) (show ¬ (4:Int)=0 by decide)
   |some g=>exact bY.2 ⟨⟨e.1,e.2.1⟩,g,hg⟩
  ·rw[hb] at i;cases i;cases p
def mkS (h:HS) (k:MT):HS:=if k.1=1 then iX h k.2.1 k.2.2.2.1.1 k.2.2.2.1.2.1 k.2.2.2.1.2.2.1 k.2.2.2.1.2.2.2.1 else if k.1=2 then bA h (iz h.s k.2.2.1) else if k.1=3 then h else bA h (dT h.s.1 k.2.2.1 k.2.2.2.2.1,h.s.2)
structure aba (h:HS) (k:MT):Prop where
 kd:1<=k.1/\k.1<=4
 call:k.1=1->qF h k.2.1 k.2.2.2.1.1 k.2.2.2.1.2.1 k.2.2.2.1.2.2.1 k.2.2.2.1.2.2.2.1=k.2.2.2.2.1/\oO h k.2.1 k.2.2.2.1.1 k.2.2.2.1.2.1 k.2.2.2.1.2.2.1 k.2.2.2.1.2.2.2.1=k.2.2.2.2.2/\cg k.2.2.2.1.2.1/\cg k.2.2.2.1.2.2.1/\cg k.2.2.2.1.2.2.2.1
 free:k.1=2->jY h.s k.2.2.1=0
 load:k.1=3->uQ h.s.1 k.2.2.1=true/\dQ h.s.1 k.2.2.1=k.2.2.2.2.1/\k.2.2.2.2.2=0
 store:k.1=4->uQ h.s.1 k.2.2.1=true/\cg k.2.2.2.2.1
 hi: ∃gh,HI gh h
inductive Rp:HS->List MT->HS->Prop
 |nil (h:HS):Rp h [] h
 |snoc {h h1:HS} {l:List MT} {k:MT} (r:Rp h l h1) (o:aba h1 k):Rp h (l++[k]) (mkS h1 k)
theorem Rp.add {h h1 a:HS} {l:List MT} {k:MT} (r:Rp h l h1) (o:aba h1 k) (e:mkS h1 k=a):Rp h (l++[k]) a:=by rw[<-e];exact .snoc r o
theorem Tj {h0:HS} (M:MI gh ta n s) (R:Rp h0 s.ms s.h) {f r:Int} (b:(f,r)∈s.ep.ws):Rp h0 (fJ s f).ms (fJ s f).h:=by
 obtain⟨e, _, _⟩:=M.wk _ b;obtain⟨m,d,a,g,i⟩:=M.k5 f e;have a:f=(m:Int):=a;obtain⟨_,j, _⟩:=M.hi.Je g i;refine R.add ⟨(show 1<=(2:Int)/\(2:Int)<=4 by decide),λc=>absurd c (show ¬ (2:Int)=1 by decide),λ_=>?_,λc=>absurd c (show ¬ (2:Int)=3 by decide),λc=>absurd c (show ¬ (2:Int)=4 by decide),⟨gh,M.hi⟩⟩ rfl;show jY s.h.s f=0;rw[a];exact j
theorem Fq {h0:HS}: ∀(L:List Int) {s:MS},MI gh ta n s->Rp h0 s.ms s.h->L.Nodup->(∀f∈L, ∃r,(f,r)∈s.ep.ws/\r+2<=s.ep.now)->Rp h0 (L.foldl fJ s).ms (L.foldl fJ s).h
 |[], _, _,R, _, _=>R
 |f::L,s,M,R,a,b=>by
  obtain⟨r,h1,d⟩:=b f B3;refine Fq L (M.fJ h1 d) (Tj M R h1) (F4.1 a).2 λg hg=>?_;obtain⟨r',e,i⟩:=b g (Ay _ hg);refine⟨r',H4.2 ⟨e,?_⟩,i⟩;have:g≠f:=λc=>(F4.1 a).1 (by rw[<-c];exact hg);simp[this]
theorem Ki {h0:HS} (M:MI gh ta n s) (R:Rp h0 s.ms s.h):Rp h0 (cQ s).1.ms (cQ s).1.h:=by
 rw[zB M];refine Fq _ M.Uo R ?_ λf a=>yf.1 a;unfold my;refine(jQ _).nodup_iff.2 ?_;exact M.Uo.wn.sublist (K1.map _)
theorem C8 (r:St) (i:Nat) (x:bG):(il r i x).1.ms=r.1.ms/\(il r i x).1.h=r.1.h:=by
 unfold il;split<;>exact⟨rfl,rfl⟩
theorem WK {h0:HS} (M:MI gh ta n s) (R:Rp h0 s.ms s.h) {x:bG} (hx:s.cs[i]? =some x):Rp h0 (fp s i x).1.ms (fp s i x).1.h:=by
 have a:=M.ar x (aB hx);have key:Rp h0 (s.ms++[(1,x.vm,0,x.c,qF s.h x.vm x.c.1 x.c.2.1 x.c.2.2.1 x.c.2.2.2.1,oO s.h x.vm x.c.1 x.c.2.1 x.c.2.2.1 x.c.2.2.2.1)]) (iX s.h x.vm x.c.1 x.c.2.1 x.c.2.2.1 x.c.2.2.2.1):=
  R.add ⟨(show 1<=(1:Int)/\(1:Int)<=4 by decide),λ_=>⟨rfl,rfl,a⟩,λc=>absurd c (show ¬ (1:Int)=2 by decide),λc=>absurd c (show ¬ (1:Int)=3 by decide),λc=>absurd c (show ¬ (1:Int)=4 by decide),⟨gh,M.hi⟩⟩ rfl
 unfold fp;dsimp only;split
 ·split<;>exact key
 ·exact key
theorem Tk {h0:HS} (M:MI gh ta n s) (R:Rp h0 s.ms s.h) {x:bG} (hx:s.cs[i]? =some x) (b:x.ph=3):Rp h0 (fB s i x).1.ms (fB s i x).1.h:=by
 obtain⟨⟨m,d,e,f, _⟩, _⟩:=M.rc hx b;have g:=M.ar x (aB hx);have j:m<s.h.s.2.length:=(Ax.1 f).1;have a:uQ s.h.s.1 (16*x.fr+x.c.2.1 % 16)=true:=by
  have:=M.hi.sz;rw[e];exact jj (by omega) (by omega)
 unfold fB;dsimp only;split
 ·exact R.add ⟨(show 1<=(4:Int)/\(4:Int)<=4 by decide),λc=>absurd c (show ¬ (4:Int)=1 by decide),λc=>absurd c (show ¬ (4:Int)=2 by decide),λc=>absurd c (show ¬ (4:Int)=3 by decide),λ_=>⟨a,g.2.1⟩,⟨gh,M.hi⟩⟩ rfl
 ·exact R.add ⟨(show 1<=(3:Int)/\(3:Int)<=4 by decide),λc=>absurd c (show ¬ (3:Int)=1 by decide),λc=>absurd c (show ¬ (3:Int)=2 by decide),λ_=>⟨a,rfl,rfl⟩,λc=>absurd c (show ¬ (3:Int)=4 by decide),⟨gh,M.hi⟩⟩ rfl
theorem WL {h0:HS} (X:uV n s) (R:Rp h0 s.ms s.h) (k:Int):Rp h0 (aR s k).1.ms (aR s k).1.h:=by
 obtain⟨gh,ta,M⟩:=X;unfold aR;split
 ·exact R
 split
 ·exact R
 ·rename_i x hx;unfold Go.Proofs.YtlcenllcmeebhaaGreat.iB;have c:=M.ph x (aB hx);split
  ·rename_i b;rw[(C8 _ _ _).1,(C8 _ _ _).2];unfold bO;rw[ao (by omega),ao (by omega),ao (by omega),aw b];exact Tk M R hx b
  ·rename_i b;split
   ·rename_i a;unfold tq at a;split at a
    ·cases a;exact R
    ·cases a
   ·rw[(C8 _ _ _).1,(C8 _ _ _).2];unfold bO;split
    ·exact Ki M R
    split
    ·unfold cZ;split
     ·dsimp only;split<;>exact R
     split
     ·exact R
     split
     ·exact Ki M R
     ·exact WK M R hx
    split
    ·unfold j7;dsimp only;split
     ·exact R
     split<;>exact R
    ·unfold h_;split<;>exact R
theorem aaE {h0:HS} (R:Rp h0 s.ms s.h) (k vm:Int) (c:CT):Rp h0 (cP s k vm c).ms (cP s k vm c).h:=by
 unfold cP;split
 ·exact R
 split
 ·exact R
 ·split<;>exact R
end
section
variable {gh dy:Gh} {ta:Int->Bool} {n:Nat} {s s':MS} {i:Nat}
structure Ch (s s':MS) (k:Nat) (x x':bG):Prop where
 cs:s'.cs=s.cs.set k x'
 ls: ∀l∈x'.ls,l∈x.ls\/(x.ph=2/\s.bx[k]? =some []/\l.1=x.vm/\l.2.1=x.c.2.1 / 16/\gT s.h x.vm.toNat (x.c.2.1 / 16)=(l.2.2.1,l.2.2.2.1,0,()))
 vc:x'.ph=0\/(x.ph≠0/\x'.vm=x.vm/\x'.c=x.c)
 p3:x'.ph=3->s.bx[k]? =some []/\((x.ph=1/\ ∃l∈x.ls,l.1=x.vm/\l.2.1=x.c.2.1 / 16/\l.2.2.1=x'.fr)\/(x.ph=2/\ ∃r,gT s.h x.vm.toNat (x.c.2.1 / 16)=(x'.fr,r,0,())))
 p4:x'.ph=4->(x.ph=4/\x'.rs=x.rs)\/(x'.rs.2=0/\x.c.1≠6/\x.c.1≠7)
 md:s'.h=s.h\/s'.h=(cQ s).1.h\/(x.ph=1/\s'.h=iX s.h x.vm x.c.1 x.c.2.1 x.c.2.2.1 x.c.2.2.2.1)\/(x.ph=3/\x.c.1=7/\s'.h=bA s.h (dT s.h.s.1 (16*x.fr+x.c.2.1 % 16) x.c.2.2.1,s.h.s.2))
 p2:x'.ph=2->x.ph=1\/x.ph=2
 bo: ∀j,j≠k-> ∀q,s.bx[j]? =some q-> ∃r,s'.bx[j]? =some (q++r)/\(x.ph=1->x.c.1=6->jG s.h x=true->r=[])/\(x.ph≠1->r=[])
theorem nY {s s':MS} {k:Nat} {x:bG} (hb:s'.bx=s.bx): ∀j,j≠k-> ∀q,s.bx[j]? =some q-> ∃r,s'.bx[j]? =some (q++r)/\(x.ph=1->x.c.1=6->jG s.h x=true->r=[])/\(x.ph≠1->r=[]):=λj _ q h=>⟨[],by rw[hb,DY];exact h,λ_ _ _=>rfl,λ_=>rfl⟩
theorem Ch.idle {x:bG} {ls:List LT} (eA:s'.cs=s.cs.set i (cv ls)) (a:ls=x.ls) (md:s'.h=s.h\/s'.h=(cQ s).1.h\/(x.ph=1/\s'.h=iX s.h x.vm x.c.1 x.c.2.1 x.c.2.2.1 x.c.2.2.2.1)\/(x.ph=3/\x.c.1=7/\s'.h=bA s.h (dT s.h.s.1 (16*x.fr+x.c.2.1 % 16) x.c.2.2.1,s.h.s.2))) (hb:s'.bx=s.bx:=by first|rfl|exact ua _):Ch s s' i x (cv ls):=
 ⟨eA,λl h=> .inl (by rw[<-a];exact h),.inl rfl,λc=>absurd c (show ¬ (0:Int)=3 by decide),λc=>absurd c (show ¬ (0:Int)=4 by decide),md,λc=>absurd c (show ¬ (0:Int)=2 by decide),nY hb⟩
theorem WM {bx:List (List AK)} {op:List Int} {t p:Int} {j:Nat} (b:j≠i) {q:List AK} (a:bx[j]? =some q): ∃r,(cz bx op i t p).2.1[j]? =some (q++r):=by
 unfold cz;split
 ·exact⟨[],by rw[DY];exact a⟩
 split
 ·exact⟨[],by rw[DY];exact a⟩
 ·refine⟨[((op.length:Int)+1,t,p,())],?_⟩;have:=post_at (i:=i) (x:=(((op.length:Int)+1,t,p,()):AK)) a;rw[ao b] at this;exact this
theorem Tl {x:bG} (hx:s.cs[i]? =some x) (h1:x.ph=1): ∃x',Ch s (il (fp s i x) i x).1 i x x':=by
 by_cases a:(x.c.1=2\/x.c.1=4\/x.c.1=5\/x.c.1=10)/\oO s.h x.vm x.c.1 x.c.2.1 x.c.2.2.1 x.c.2.2.2.1=0
 ·obtain⟨a,d⟩:=a;generalize b:fp s i x=r;unfold fp at b;dsimp only at b;rw[aw a,ao (λc=>c d)] at b;subst b;exact⟨_,rfl,λl g=> .inl (tX g).1,.inr ⟨by omega,rfl,rfl⟩,λc=>absurd c (show ¬ (4:Int)=3 by decide),λ_=> .inr ⟨d,by omega,by omega⟩,.inr (.inr (.inl ⟨h1,rfl⟩)),λc=>absurd c (show ¬ (4:Int)=2 by decide),λj k q m=>(WM k m).imp λr h=>⟨h,λ_ c6 _=>(by omega),λc=>absurd h1 c⟩⟩
 ·have e: ∃(s1:MS) (x1:bG) (r:Int×Int),fp s i x=(s1,r,true)/\s1.h=iX s.h x.vm x.c.1 x.c.2.1 x.c.2.2.1 x.c.2.2.2.1/\s1.cs=s.cs.set i x1/\x1.ls=x.ls/\s1.bx=s.bx:=by
   unfold fp;dsimp only;split
   ·rename_i n;rw[aw λc=>a ⟨n,c⟩];exact⟨_,{x with rs:= _,fs:= _}, _,rfl,rfl,rfl,rfl,rfl⟩
   ·exact⟨_,{x with rs:= _,fs:= _}, _,rfl,rfl,rfl,rfl,rfl⟩
  obtain⟨s1,x1,r,o,p,f,t,u⟩:=e;rw[o];have v:s1.cs[i]? =some x1:=by rw[f,CL (Ax.1 hx).1]
  rw[qB v];refine⟨cv x1.ls,Ch.idle ?_ t (.inr (.inr (.inl ⟨h1,p⟩))) u⟩;show s1.cs.set i _= _;rw[f,DZ]
theorem NH {x:bG} (hx:s.cs[i]? =some x) (h1:x.ph=1) (hb:s.bx[i]? =some []): ∃x',Ch s (il (cZ s i x) i x).1 i x x':=by
 unfold cZ;cases f:jG s.h x with
 |true=>
  rw[aw rfl];dsimp only;split
  ·rename_i a;have: ∃l∈x.ls,l.1=x.vm/\l.2.1=x.c.2.1 / 16/\l.2.2.1=(mW x.ls x.vm (x.c.2.1 / 16) (a7 x.c.1)).1:=by
    unfold mW at a ⊢;cases b:x.ls.find? (CO x.vm (x.c.2.1 / 16)) with
    |none=>rw[b] at a;exact absurd a (show ¬ (4:Int)=0 by decide)
    |some l=>
     rw[b] at a;dsimp only at a ⊢;split at a
     ·exact absurd a (show ¬ (7:Int)=0 by decide)
     ·rename_i c;rw[ao c];have d:=List.find?_some b;unfold CO at d;rw[DK,beq_iff_eq,beq_iff_eq] at d;exact⟨l,IX b,d.1,d.2,rfl⟩
   exact⟨_,rfl,λl h=> .inl h,.inr ⟨by omega,rfl,rfl⟩,λ_=>⟨hb,.inl ⟨h1,this⟩⟩,λc=>absurd c (show ¬ (3:Int)=4 by decide),.inl rfl,λc=>absurd c (show ¬ (3:Int)=2 by decide),nY rfl⟩
  ·exact⟨_,rfl,λl h=> .inl h,.inr ⟨by omega,rfl,rfl⟩,λc=>absurd c (show ¬ (2:Int)=3 by decide),λc=>absurd c (show ¬ (2:Int)=4 by decide),.inl rfl,λ_=> .inl h1,nY rfl⟩
 |false=>
  rw[ao (by decide)];cases g:nJ s i x with
  |true=>
   rw[aw rfl,eT hx];exact⟨_,Ch.idle rfl rfl (.inl rfl)⟩
  |false=>
   rw[ao (by decide)];split
   ·have e:(cQ s).1.cs[i]? =some x:=by rw[lH];exact hx
    rw[eT e];exact⟨_,Ch.idle (by rw[lH]) rfl (.inr (.inl rfl))⟩
   ·exact Tl hx h1
theorem Tm (M:MI gh ta n s) {x:bG} (hx:s.cs[i]? =some x) (b:x.ph=2) (hb:s.bx[i]? =some []): ∃x',Ch s (il (j7 s i x) i x).1 i x x':=by
 have q:=M.ar x (aB hx);obtain⟨r,u,B⟩:=M.ac x (aB hx) b;obtain⟨l,w1,v,w,d⟩:=M.wl hx b;have p:=tH ⟨q.1.1,u⟩;have f:x.wk=(x.wk.1,(l:Int),(0,0,0,0,())):=DO rfl (DO w1 w);obtain⟨z,hg,C,A,D,E⟩:=tG M r;unfold j7;dsimp only;split
 ·exact⟨_,rfl,λl h=> .inl h,.inr ⟨by omega,rfl,rfl⟩,λc=>absurd (show x.ph=3 from c) (by omega),λc=>absurd (show x.ph=4 from c) (by omega),.inl rfl,λ_=> .inr b,nY rfl⟩
 split
 ·rw[qB (x1:={x with wk:=bF s.h.s.1 (x.c.2.1 / 16) (a7 x.c.1) x.wk}) (by exact(CL (Ax.1 hx).1))];refine⟨cv x.ls,Ch.idle ?_ rfl (.inl rfl)⟩;show(s.cs.set i _).set i _= _;rw[DZ]
 rename_i g e;have g:(bF s.h.s.1 (x.c.2.1 / 16) (a7 x.c.1) x.wk).2.1= -1:=GG g;have e:(bF s.h.s.1 (x.c.2.1 / 16) (a7 x.c.1) x.wk).2.2.2.2.2.1=0:=GG e;have j:bD s.h.s z.root false (x.c.2.1 / 16)=((bF s.h.s.1 (x.c.2.1 / 16) (a7 x.c.1) x.wk).2.2.1,(bF s.h.s.1 (x.c.2.1 / 16) (a7 x.c.1) x.wk).2.2.2.1,0,()):=by
  rcases d with d|d
  ·rcases M.hi.inv.nj M.hi.nl (t:=a7 x.c.1) A p d with ⟨m, _,k,a,F,k4⟩|⟨k,a⟩
   ·rw[<-f] at k;rw[g] at k;omega
   ·rw[<-f] at a;exact a e
  ·obtain⟨_,a⟩:=M.hi.inv.nq (t:=a7 x.c.1) p v d.1;rw[<-f,e] at a;exact absurd a (by decide)
 rw[<-bP hg] at j;refine⟨_,rfl,λy o=>?_,.inr ⟨by omega,rfl,rfl⟩,λ_=>⟨hb,.inr ⟨b, _,j⟩⟩,λc=>absurd c (show ¬ (3:Int)=4 by decide),.inl rfl,λc=>absurd c (show ¬ (3:Int)=2 by decide),nY rfl⟩;rcases Fj o with o|rfl
 ·exact .inl o
 ·exact .inr ⟨b,hb,rfl,rfl,j⟩
theorem YQ (M:MI gh ta n s) {x:bG} (hx:s.cs[i]? =some x): ∃x',Ch s (Go.Proofs.YtlcenllcmeebhaaGreat.iB s i x).1 i x x':=by
 have y:=M.ph x (aB hx);unfold Go.Proofs.YtlcenllcmeebhaaGreat.iB;split
 ·rename_i b;unfold bO;rw[ao (by omega),ao (by omega),ao (by omega),aw b];have: ∃(s1:MS) (r:Int×Int),fB s i x=(s1,r,true)/\s1.cs=s.cs/\s1.bx=s.bx/\(s1.h=s.h\/(x.ph=3/\x.c.1=7/\s1.h=bA s.h (dT s.h.s.1 (16*x.fr+x.c.2.1 % 16) x.c.2.2.1,s.h.s.2))):=by
   unfold fB;dsimp only;split
   ·rename_i k;exact⟨_, _,rfl,rfl,rfl,.inr ⟨b,k,rfl⟩⟩
   ·exact⟨_, _,rfl,rfl,rfl,.inl rfl⟩
  obtain⟨s1,r,m,f,o,p⟩:=this;rw[m,eT (x:=x) (by rw[f];exact hx)];exact⟨_,Ch.idle (by rw[f]) rfl (p.imp id λc=> .inr (.inr c)) o⟩
 ·rename_i b;have t:i<s.bx.length:=by rw[M.lb, <-M.lc];exact(Ax.1 hx).1
  unfold tq;cases d:s.bx[i]? with
  |none=>rw[Bf t] at d;cases d
  |some q=>
   cases q with
   |cons a q=>
    refine⟨_,rfl,λl u=> .inl (tX u).1,?_,λc=>absurd c b,λc=> .inl ⟨c,rfl⟩,.inl rfl,λc=> .inr c,λj v z w=>⟨[],by rw[DY];show(s.bx.set i q)[j]? = _;rw[Et (λe=>v e.symm)];exact w,λ_ _ _=>rfl,λ_=>rfl⟩⟩;by_cases h0:x.ph=0
    ·exact .inl h0
    ·exact .inr ⟨h0,rfl,rfl⟩
   |nil=>
    dsimp only;unfold bO;split
    ·rename_i h0;exact⟨x,by show(cQ s).1.cs= _;rw[lH,t_ hx],λl h=> .inl h,.inl h0,λc=>absurd c b,λc=> .inl ⟨c,rfl⟩,.inr (.inl rfl),λc=> .inr c,nY (ua s)⟩
    split
    ·rename_i h1;exact NH hx h1 d
    split
    ·rename_i g;exact Tm M hx g d
    ·rename_i h0 h1 g;unfold h_;split
     ·rw[eT (by exact hx)];exact⟨_,Ch.idle rfl rfl (.inl rfl)⟩
     ·exact⟨x,(t_ hx).symm,λl h=> .inl h,.inr ⟨h0,rfl,rfl⟩,λc=>absurd c b,λc=> .inl ⟨c,rfl⟩,.inl rfl,λc=> .inr c,nY rfl⟩
theorem zC (X:uV n s) (k:Int):(aR s k).1=s\/ ∃(c:Nat) (x x':bG),k=(c:Int)/\s.cs[c]? =some x/\Ch s (aR s k).1 c x x':=by
 obtain⟨gh,ta,M⟩:=X;by_cases a:k<0
 ·left;unfold aR;rw[aw a]
 ·cases hx:s.cs[k.toNat]? with
  |none=>left;unfold aR;rw[ao a,hx]
  |some x=>
   obtain⟨x',C⟩:=YQ M hx;refine .inr ⟨k.toNat,x,x',by omega,hx,?_⟩;have e:aR s k=Go.Proofs.YtlcenllcmeebhaaGreat.iB s k.toNat x:=by unfold aR;rw[ao a,hx]
   rw[e];exact C
end
section
variable {gh dy:Gh} {ta:Int->Bool} {n:Nat} {s s':MS} {i:Nat} {N:Int->Int->Prop}
structure Nm (N:Int->Int->Prop) (s:MS):Prop where
 ln: ∀x∈s.cs, ∀l∈x.ls,N l.1 l.2.1
 ca: ∀x∈s.cs,x.ph≠0->x.c.1=6\/x.c.1=7->N x.vm (x.c.2.1 / 16)
theorem Nm.step (H:Nm N s) (X:uV n s) (k:Int):Nm N (aR s k).1:=by
 rcases zC X k with e|⟨c,x,x', _,hx,C⟩
 ·rw[e];exact H
 obtain⟨gh,ta,M⟩:=X;have b:=aB hx;refine⟨λy a l i=>?_,λy a h0 f=>?_⟩
 ·rw[C.cs] at a;rcases iD a with rfl|a
  ·rcases C.ls l i with h|⟨j, _,g,d, _⟩
   ·exact H.ln x b l h
   ·rw[g,d];exact H.ca x b (by omega) (M.ac x b j).2.2
  ·exact H.ln y a l i
 ·rw[C.cs] at a;rcases iD a with rfl|a
  ·rcases C.vc with h|⟨m,g,d⟩
   ·exact absurd h h0
   ·rw[g,d];rw[d] at f;exact H.ca x b m f
  ·exact H.ca y a h0 f
theorem Nm.ask (H:Nm N s) (k vm:Int) {c:CT} (hc:c.1=6\/c.1=7->N vm (c.2.1 / 16)):Nm N (cP s k vm c):=by
 unfold cP;split
 ·exact H
 cases hx:s.cs[k.toNat]? with
 |none=>exact H
 |some x=>
  dsimp only;split
  ·refine⟨λy a l b=>?_,λy a h0 d=>?_⟩
   ·rcases iD (show y∈s.cs.set _ _ from a) with rfl|a
    ·exact H.ln x (aB hx) l b
    ·exact H.ln y a l b
   ·rcases iD (show y∈s.cs.set _ _ from a) with rfl|a
    ·exact hc d
    ·exact H.ca y a h0 d
  ·exact H
theorem Nm.new (f:Nat) (l:Int):Nm N (m0 f n l):=⟨λx hx l a=>(by rw[Dn hx] at a;cases a),λx hx h0=>(by rw[Dn hx] at h0;exact absurd rfl h0)⟩
structure Ou (s:MS):Prop where
 r: ∀x∈s.cs,x.ph=4->x.rs.2=0
theorem Ou.step (H:Ou s) (X:uV n s) (k:Int):Ou (aR s k).1:=by
 rcases zC X k with e|⟨c,x,x', _,hx,C⟩
 ·rw[e];exact H
 refine⟨λy a b=>?_⟩;rw[C.cs] at a;rcases iD a with rfl|a
 ·rcases C.p4 b with ⟨d,f⟩|e
  ·rw[f];exact H.r x (aB hx) d
  ·exact e.1
 ·exact H.r y a b
theorem Ou.ask (H:Ou s) (k vm:Int) (c:CT):Ou (cP s k vm c):=by
 unfold cP;split
 ·exact H
 cases hx:s.cs[k.toNat]? with
 |none=>exact H
 |some x=>
  dsimp only;split
  ·refine⟨λy a b=>?_⟩;rcases iD (show y∈s.cs.set _ _ from a) with rfl|a
   ·exact absurd b (show ¬ (1:Int)=4 by decide)
   ·exact H.r y a b
  ·exact H
theorem Ou.new (f:Nat) (l:Int):Ou (m0 f n l):=⟨λx hx a=>by rw[Dn hx] at a;exact absurd a (show ¬ (0:Int)=4 by decide)⟩
end
theorem c1: ¬ (1:Int)=12:=by decide
theorem c2: ¬ (2:Int)=12:=by decide
theorem c3: ¬ (3:Int)=12:=by decide
theorem c4: ¬ (4:Int)=12:=by decide
theorem c5: ¬ (5:Int)=12:=by decide
theorem c6: ¬ (6:Int)=12:=by decide
theorem c7: ¬ (7:Int)=12:=by decide
theorem c9: ¬ (9:Int)=12:=by decide
theorem YR: ¬ (10:Int)=12:=by decide
theorem c11: ¬ (11:Int)=12:=by decide
section
variable {gh:Gh} {h:HS}
theorem NI (H:HI gh h) {v:Int} (j:aS h.g v=true) {p:Int} (a:0<=p/\p<65536):u_ (a8 h.g v) p 0=false/\(((nC h.s.1 (a8 h.g v) p 0).2.2.2.1=0/\ ∃(m:Nat) (d:DT),(nC h.s.1 (a8 h.g v) p 0).1=(m:Int)/\h.s.2[m]? =some d/\d.1=4)\/(nC h.s.1 (a8 h.g v) p 0).2.2.2.1=4):=by
 obtain⟨x,hx,k,hv, _⟩:=bX j;have b:=H.root hx;have c:=H.inv.P8 H.nl b a (t:=0) (by decide);rw[k];obtain⟨n,o,y⟩:=H.inv.vJ b;refine⟨?_,?_⟩
 ·unfold u_;have q:eB x.root p 3=16*x.root+px 3 p % 16:=lA ⟨n,o⟩ a (l:=3) (by omega);have z:=eY p 3;rw[q,decide_eq_false (by omega),decide_eq_false (by omega),decide_eq_false (by omega)];rfl
 ·by_cases e:(bD h.s x.root false p).2.2.1=0
  ·rw[aw e] at c;have r:lY h v.toNat p=some (bD h.s x.root false p).1:=by rw[cT hx,aw e]
   obtain⟨m,d,h1,u,w, _⟩:=H.Um r;obtain⟨f0,A, _,f⟩:=H.inv.lD b a;have i:=(H.inv.Wx b a f).2.2;rw[<-H.inv.fy b a f] at i;refine .inl ⟨i.2 e,m,d,?_,u,w⟩;rw[c];exact h1
  ·rw[ao e] at c;exact .inr c
end
section
variable {gh dy:Gh} {ta:Int->Bool} {n:Nat} {s s':MS} {i:Nat}
theorem pM {x:bG} (hx:s.cs[i]? =some x) (h0:x.ph=0) (vm:Int) (c:CT):cP s (i:Int) vm c=bS s i {x with ph:=1,vm:=vm,c:=c}/\tr s (i:Int)=0:=by
 refine⟨?_,?_⟩
 ·unfold cP;rw[ao (by omega)];show(match s.cs[i]? with|none=> _|some x=> _)= _;rw[hx];exact aw h0
 ·unfold tr;rw[ao (by omega)];show(match s.cs[i]? with|none=>(2:Int)|some x=> _)= _;rw[hx];exact aw h0
theorem quick {x:bG} (hx:s.cs[i]? =some x) (h0:x.ph=0) (hb:s.bx[i]? =some []) {vm:Int} {c:CT} (g: ¬ (c.1=2\/c.1=4\/c.1=5\/c.1=10)) (l:a7 c.1=0) (m:c.1≠17) (a:nJ s i {x with ph:=1,vm:=vm,c:=c}=false):
 aR (cP s (i:Int) vm c) (i:Int)=({s with h:=iX s.h vm c.1 c.2.1 c.2.2.1 c.2.2.2.1,kn:=s.kn++eJ s (iX s.h vm c.1 c.2.1 c.2.2.1 c.2.2.2.1),ms:=s.ms++[(1,vm,0,c,qF s.h vm c.1 c.2.1 c.2.2.1 c.2.2.2.1,oO s.h vm c.1 c.2.1 c.2.2.1 c.2.2.2.1)],cs:=s.cs.set i (cv x.ls)},(qF s.h vm c.1 c.2.1 c.2.2.1 c.2.2.2.1,oO s.h vm c.1 c.2.1 c.2.2.1 c.2.2.2.1),true):=by
 have d:i<s.cs.length:=(Ax.1 hx).1;rw[(pM hx h0 vm c).1];generalize b:({x with ph:=1,vm:=vm,c:=c}:bG)=y at a ⊢;have n:y.ph=1:=by rw[<-b]
 have hc:y.c=c:=by rw[<-b]
 have hv:y.vm=vm:=by rw[<-b]
 have o:y.ls=x.ls:=by rw[<-b]
 have hg:(bS s i y).cs[i]? =some y:=CL d;rw[pL hg];unfold Go.Proofs.YtlcenllcmeebhaaGreat.iB;rw[ao (by omega)];unfold tq;rw[show(bS s i y).bx[i]? =some [] from hb];dsimp only;unfold bO;rw[ao (by omega),aw n];unfold cZ;have p:jG (bS s i y).h y=false:=by unfold jG;rw[hc,l];rfl
 have q:nJ (bS s i y) i y=false:=by
  unfold nJ at a ⊢;rw[H5] at a ⊢;intro j f;have r:j∈AL s.cs.length:=by
   show j∈AL s.cs.length;rw[show(bS s i y).cs.length=s.cs.length from DJ] at f;exact f
  have:=a j r;by_cases e:j=i
  ·subst e;rw[hg];simp
  ·rw[show(bS s i y).cs[j]? =s.cs[j]? from Et (λk=>e k.symm)];exact this
 rw[p,q,ao (by decide),ao (by decide),ao (λk=>m (by rw[hc] at k;rw[k.2]))];unfold fp;dsimp only;rw[hc,ao g,hv];unfold il;rw[aw rfl];dsimp only;have t: ∀(x1:bG),((s.cs.set i y).set i x1).getD i y=x1:=λx1=>by
  rw[DZ,CK,CL d];rfl
 unfold bS;dsimp only;rw[t];dsimp only;rw[DZ,DZ,o];rfl
theorem Ft (a: ∀y∈s.cs,y.ph=0) (x:bG):nJ s i x=false:=by
 unfold nJ;rw[H5];intro j _;cases b:s.cs[j]? with
 |none=>simp
 |some y=>
  have:=a y (aB b);dsimp only;rw[this];simp
theorem Tn {h:HS} (H:HI gh h) {v:Nat} (a:mU h.g=some v) (hc:0<cm h.s.2 0):oO h 0 1 0 0 0=0/\qF h 0 1 0 0 0=(v:Int)/\(iX h 0 1 0 0 0).g=bq h.g v (some ⟨eV h.s (v:Int),[]⟩)/\cm (iX h 0 1 0 0 0).s.2 0+1=cm h.s.2 0:=by
 have b:gw h 0 1 0 0 0=0:=rfl;obtain⟨h1,f,m⟩:=y8 b;have hv:=(n7.1 a).1;have c:rD h.s (v:Int)=0:=H.inv.aap (by omega) hc;have d:(run h 0 1 0 0 0).1={h with s:=iV h.s (v:Int) λ_=>0,g:=bq h.g v (some ⟨eV h.s (v:Int),[]⟩)}:=by
  show gZ h= _;unfold gZ;rw[a];exact aw c
 have e:(run h 0 1 0 0 0).2.2=0:=by
  show py h=0;unfold py;rw[a];exact c
 have i:(run h 0 1 0 0 0).2.1=(v:Int):=by
  show Be h=(v:Int);unfold Be;rw[a]
 refine⟨f.trans e,?_,?_,?_⟩
 ·unfold qF;rw[aw b,aw e];exact i
 ·rw[h1,d]
 ·rw[h1,d];show cm (dJ h.s.2 3 (v:Int)) 0+1= _;obtain⟨j, _,k, _, _,l⟩:=nf (ds:=h.s.2) (o:=(v:Int)) hc H.inv.fz (by omega);rw[l];have:=qg (d':=((3:Int),(v:Int),(0:Int),(0:Int),())) k 0;rw[aw (show zD.1=0 from rfl),ao (show ¬ (3:Int)=0 by decide)] at this;omega
end
section
variable {gh dy:Gh} {n:Nat} {s s':MS} {f:Nat} {l:Int}
def qO (h:HS):Prop:= ∀i q,lY h i q=none
theorem qO.Ea {h:HS} (H:HI gh h) (b:qO h):qO (iX h 0 1 0 0 0):=λi q=>by
 obtain⟨g',d,E, _⟩:=H.Hi;have e:iX h 0 1 0 0 0=gZ h:=(y8 (show gw h 0 1 0 0 0=0 from rfl)).1;rw[e];cases a:lY (gZ h) i q with
 |none=>rfl
 |some x=>
  obtain⟨_, _,f,g⟩:=d.hc.iY a;have:=b i q;rw[eo,E.pg.to (λc=>c ⟨f,g⟩), <-eo,this] at a;cases a
abbrev xj:CT:=(1,0,0,0,())
structure Bg (f n:Nat) (l:Int) (k:Nat) (s:MS):Prop where
 x:uV n s
 r:Ou s
 np:qO s.h
 cs:s.cs=Co n (cv [])
 bx:s.bx=Co n []
 kn:s.kn=[]
 op:s.op=[]
 ws:s.ep.ws=[]
 sz:s.sz=l
 len:s.h.s.2.length=f
 cnt:cm s.h.s.2 0+k=f
 live: ∀v:Int,aS s.h.g v=true<->1<=v/\v<=(k:Int)
 rp:Rp (h0 f) s.ms s.h
 nm: ∀N:Int->Int->Prop,Nm N s
theorem Bg.new (c:20<=f/\f<=4096) (a:1<=n/\n<=8) (b:1<=l/\l<=64):Bg f n l 0 (m0 f n l) where
 x:=uV.new (by omega) a b
 r:=Ou.new f l
 np:=λi q=>rfl
 cs:=rfl
 bx:=rfl
 kn:=rfl
 op:=rfl
 ws:=rfl
 sz:=rfl
 len:=E4
 cnt:=by
  show cm (Co f zD) 0+0=f;rw[Wb,aw rfl];rfl
 live:=λv=>by
  constructor
  ·intro h;obtain⟨_,x,hx⟩:=bY.1 h;cases hx
  ·intro h;omega
 rp:= .nil _
 nm:=λN=>Nm.new f l
theorem Kj {α:Type} (n i:Nat) (x:α):(Co n x).set i x=Co n x:=by
 refine J3 λj=>?_;rw[Jc];split
 ·rename_i e;subst e;rw[E4,F5]
 ·rfl
theorem Bg.Ea {k:Nat} (b:Bg f n l k s) (F:k<16) (G:k<f) (H:1<=n):(aR (cP s 0 0 xj) 0).2=((((k+1:Nat):Int),0),true)/\Bg f n l (k+1) (aR (cP s 0 0 xj) 0).1/\tr s 0=0:=by
 have hx:s.cs[0]? =some (cv []):=by rw[b.cs,F5,aw (by omega)]
 have hb:s.bx[0]? =some []:=by rw[b.bx,F5,aw (by omega)]
 have p: ∀y∈s.cs,y.ph=0:=λy e=>by rw[b.cs] at e;rw[Dn e];rfl
 have q:=quick (vm:=0) (c:=xj) hx rfl hb (show ¬ ((1:Int)=2\/(1:Int)=4\/(1:Int)=5\/(1:Int)=10) by decide) rfl (show ¬ (1:Int)=17 by decide) (Ft p _);have X':=(b.x.ask 0 0 (c:=xj) (show cg 0/\cg 0/\cg 0 by decide)).step 0;have t:=(b.r.ask 0 0 xj).step (b.x.ask 0 0 (c:=xj) (show cg 0/\cg 0/\cg 0 by decide)) 0;have w:=WL (b.x.ask 0 0 (c:=xj) (show cg 0/\cg 0/\cg 0 by decide)) (aaE b.rp 0 0 xj) 0;have z: ∀N:Int->Int->Prop,Nm N (aR (cP s 0 0 xj) 0).1:=λN=>((b.nm N).ask 0 0 (c:=xj) (λc=>absurd c (show ¬ ((1:Int)=6\/(1:Int)=7) by decide))).step (b.x.ask 0 0 (c:=xj) (show cg 0/\cg 0/\cg 0 by decide)) 0;have q:aR (cP s 0 0 xj) 0= _:=q;obtain⟨gh,ta,M⟩:=b.x;have A:mU s.h.g=some (k+1):=by
  refine n7.2 ⟨by omega,?_,λu I J=>?_⟩
  ·cases hg:s.h.g (k+1) with
   |none=>rfl
   |some g=>
    have:=(b.live ((k+1:Nat):Int)).1 (bY.2 ⟨by omega,g,hg⟩);omega
  ·obtain⟨_,g,hg⟩:=bY.1 ((b.live (u:Int)).2 (by omega));have hg:s.h.g u=some g:=hg;rw[hg];rfl
 obtain⟨c1,c2,c3,c4⟩:=Tn M.hi A (by have:=b.cnt;omega);have nn:NN s.h.s (iX s.h 0 1 0 0 0).s:=by
  rw[(y8 (show gw s.h 0 1 0 0 0=0 from rfl)).1];exact NN.Ea s.h
 have B:eJ s (iX s.h 0 1 0 0 0)=[]:=by
  refine FS.2 λg hg=>?_;obtain⟨m,d, _,C,D, _⟩:=gA.1 hg;obtain⟨d0,j,o⟩:=nn.to C D;have:=(M.kd j o).1;rw[b.kn] at this;cases this
 refine⟨?_,⟨X',t,?_,?_,?_,?_,?_,?_,?_,?_,?_,λv=>?_,w,z⟩,(pM (i:=0) hx rfl 0 xj).2⟩
 ·rw[q];show((qF s.h 0 1 0 0 0,oO s.h 0 1 0 0 0),true)= _;rw[c1,c2]
 ·rw[q];exact b.np.Ea M.hi
 ·rw[q];show s.cs.set 0 (cv [])= _;rw[b.cs,Kj]
 ·rw[q];exact b.bx
 ·rw[q];show s.kn++eJ s (iX s.h 0 1 0 0 0)=[];rw[B,b.kn];rfl
 ·rw[q];exact b.op
 ·rw[q];exact b.ws
 ·rw[q];exact b.sz
 ·rw[q];show(iX s.h 0 1 0 0 0).s.2.length=f;rw[<-b.len];obtain⟨g',E⟩:=M.hi.step 0 1 0 0 (a:=0) (by decide);have j:=E.sz;have o:=M.hi.sz;have K:=Qc s.h 0 1 0 0 0;omega
 ·rw[q];show cm (iX s.h 0 1 0 0 0).s.2 0+(k+1)=f;have:=b.cnt;omega
 ·rw[q];show aS (iX s.h 0 1 0 0 0).g v=true<-> _;rw[c3];constructor
  ·intro h;obtain⟨hv,x,hx⟩:=bY.1 h;unfold bq at hx;split at hx
   ·omega
   ·have:=(b.live v).1 (bY.2 ⟨hv,x,hx⟩);omega
  ·intro h;refine bY.2 ⟨by omega,?_⟩;unfold bq;split
   ·exact⟨_,rfl⟩
   ·obtain⟨_,x,hx⟩:=bY.1 ((b.live v).2 (by omega));exact⟨x,hx⟩
def AT (f n:Nat) (l:Int):MS:=(aR (cP (aR (cP (m0 f n l) 0 0 xj) 0).1 0 0 xj) 0).1
theorem WN (b:20<=f/\f<=4096) (a:1<=n/\n<=8) (c:1<=l/\l<=64):(aR (cP (m0 f n l) 0 0 xj) 0).2=((1,0),true)/\(aR (cP (aR (cP (m0 f n l) 0 0 xj) 0).1 0 0 xj) 0).2=((2,0),true)/\Bg f n l 2 (AT f n l):=by
 obtain⟨a1,d, _⟩:=(Bg.new b a c).Ea (by decide) (by omega) a.1;obtain⟨e,g, _⟩:=d.Ea (by decide) (by omega) a.1;exact⟨a1,e,g⟩
end
section
variable {gh dy:Gh} {n:Nat} {s s':MS} {i:Nat} {h:HS}
def itM (i:Nat):Nat->MS->MS
 |0,s=>s
 |k+1,s=>(aR (itM i k s) (i:Int)).1
end
section
variable {gh dy:Gh} {n:Nat} {s s':MS} {f:Nat} {l:Int}
abbrev TY (p b:Int):CT:=(3,p,b,0,())
structure Bd (f n:Nat) (l p b F:Int) (s:MS):Prop where
 x:uV n s
 r:Ou s
 pg:gT s.h 1 p=(F,b,0,())
 only: ∀i q g,lY s.h i q=some g->i=1/\q=p
 cs:s.cs=Co n (cv [])
 bx:s.bx=Co n []
 kn:s.kn=[]
 op:s.op=[]
 ws:s.ep.ws=[]
 sz:s.sz=l
 live: ∀v:Int,aS s.h.g v=true<->1<=v/\v<=2
 fr: ∃(m:Nat) (d:DT),F=(m:Int)/\s.h.s.2[m]? =some d/\d.1=4/\d.2.1=1/\d.2.2.1=0
theorem Bg.don (e:Bg f n l 2 s) (N:20<=f) (P:1<=n) {p b:Int} (u:0<=p/\p<65536) (hb:1<=b/\b<=7): ∃F,(aR (cP s 0 1 (TY p b)) 0).2=((F,0),true)/\Bd f n l p b F (aR (cP s 0 1 (TY p b)) 0).1:=by
 have hx:s.cs[0]? =some (cv []):=by rw[e.cs,F5,aw (by omega)]
 have B:s.bx[0]? =some []:=by rw[e.bx,F5,aw (by omega)]
 have C: ∀y∈s.cs,y.ph=0:=λy w=>by rw[e.cs] at w;rw[Dn w];rfl
 have q:=quick (vm:=1) (c:=TY p b) hx rfl B (show ¬ ((3:Int)=2\/(3:Int)=4\/(3:Int)=5\/(3:Int)=10) by decide) rfl (show ¬ (3:Int)=17 by decide) (Ft C _);have q:aR (cP s 0 1 (TY p b)) 0= _:=q;have D:cg (TY p b).2.1/\cg (TY p b).2.2.1/\cg (TY p b).2.2.2.1:=⟨⟨u.1,by show p< _;omega⟩,⟨by show 0<=b;omega,by show b< _;omega⟩,(show cg 0 by decide)⟩;have z:=e.x.ask 0 1 D;have X':=z.step 0;have E:=(e.r.ask 0 1 (TY p b)).step z 0;obtain⟨gh,ta,M⟩:=e.x;have k:aS s.h.g 1=true:=(e.live 1).2 (by decide);obtain⟨d1,d2,d3⟩:=aaz (h:=s.h) (v:=1) (a:=p) (b:=b) k;have G: ¬ (gT s.h 1 p).2.2.1=0:=λc=>by
  have:=e.np 1 p;rw[eo,aw c] at this;cases this
 have o:lf s.h 1 p b=0:=by
  rw[M.hi.WE k u hb (by have:=e.cnt;omega)];exact ao G
 obtain⟨g',m,Q,O,H, _⟩:=M.hi.Hh k o;rw[o] at d2;rw[o,aw rfl,H] at d3;have j:iX s.h 1 3 p b 0=js s.h 1 p b:=d1;have I:eJ s (iX s.h 1 3 p b 0)=[]:=by
  refine FS.2 λg hg=>?_;obtain⟨m,d, _,A,J, _⟩:=gA.1 hg;rw[j] at A;obtain⟨d0,K,L⟩:=(NN.don s.h 1 p b).to A J;have:=(M.kd K L).1;rw[e.kn] at this;cases this
 refine⟨(m:Int),?_,X',E,?_,λi t g hg=>?_,?_,?_,?_,?_,?_,?_,λv=>?_,?_⟩
 ·rw[q];show((qF s.h 1 3 p b 0,oO s.h 1 3 p b 0),true)= _;rw[d2,d3]
 ·rw[q];show gT (iX s.h 1 3 p b 0) 1 p= _;rw[j];exact O.pg
 ·rw[q] at hg;have hg:lY (iX s.h 1 3 p b 0) i t=some g:=hg;rw[j] at hg;refine GG λc=>?_;have hc: ¬ (i=(1:Int).toNat/\t=p):=c;rw[eo,O.ef.pg.to hc, <-eo,e.np i t] at hg;cases hg
 ·rw[q];show s.cs.set 0 (cv [])= _;rw[e.cs,Kj]
 ·rw[q];exact e.bx
 ·rw[q];show s.kn++eJ s (iX s.h 1 3 p b 0)=[];rw[I,e.kn];rfl
 ·rw[q];exact e.op
 ·rw[q];exact e.ws
 ·rw[q];exact e.sz
 ·rw[q];show aS (iX s.h 1 3 p b 0).g v=true<-> _;rw[j,O.g];exact e.live v
 ·refine⟨m,(4,1,0,0,()),rfl,?_,rfl,rfl,rfl⟩;rw[q];show(iX s.h 1 3 p b 0).s.2[m]? =some (4,(((1:Int).toNat:Nat):Int),0,0,());rw[j];exact O.f4
end
section
variable {n:Nat} {s:MS} {i:Nat}
theorem Kk (X:uV n s) (a:qO s.h) {c:Nat} {x:bG} (hx:s.cs[c]? =some x) (hb:s.bx[c]? =some []):x.ls=[]:=by
 refine FS.2 λl b=>?_;obtain⟨_, _, _, _, _, _,h⟩:=clean X hx b;obtain⟨_, _,d⟩:=h hb;have:=a l.1.toNat l.2.1;rw[eo,d] at this;cases this
theorem To (X:uV n s) (a:qO s.h) {c:Nat} {x x':bG} {s':MS} (hx:s.cs[c]? =some x) (C:Ch s s' c x x'):x'.ph≠3:=λd=>by
 obtain⟨hb,h⟩:=C.p3 d;rcases h with ⟨_,l,b, _⟩|⟨_,r,e⟩
 ·rw[Kk X a hx hb] at b;cases b
 ·have:=a x.vm.toNat (x.c.2.1 / 16);rw[eo,e] at this;cases this
theorem qO.free {gh:Gh} {ta:Int->Bool} (M:MI gh ta n s) (a:qO s.h):qO (cQ s).1.h:=by
 rw[zB M];have key: ∀(L:List Int) {s:MS},MI gh ta n s->qO s.h->L.Nodup->(∀f∈L, ∃r,(f,r)∈s.ep.ws/\r+2<=s.ep.now)->qO (L.foldl fJ s).h:=by
  intro L
  induction L with
  |nil=>intro s _ a _ _;exact a
  |cons f L k=>
   intro s M a b j;obtain⟨r,h1,l⟩:=j f B3;refine k (M.fJ h1 l) (λi q=>?_) (F4.1 b).2 λg hg=>?_
   ·obtain⟨o, _, _⟩:=M.wk _ h1;obtain⟨m,d,e,b,p⟩:=M.k5 f o;have e:f=(m:Int):=e;obtain⟨t, _, _,u⟩:=M.hi.Je b p;have v:(fJ s f).h=bA s.h (s.h.s.1,s.h.s.2.set m zD):=by
     show bA s.h (iz s.h.s f)= _;rw[e,t]
    rw[v,eo,u.to id, <-eo];exact a i q
   ·obtain⟨r',w,x⟩:=j g (Ay _ hg);refine⟨r',H4.2 ⟨w,?_⟩,x⟩;have:g≠f:=λc=>(F4.1 b).1 (by rw[<-c];exact hg);simp[this]
 refine key _ M.Uo a ?_ λf y=>yf.1 y;unfold my;refine(jQ _).nodup_iff.2 ?_;exact M.Uo.wn.sublist (K1.map _)
theorem qO.rec {gh:Gh} {h:HS} (H:HI gh h) {p:Int} (a:aS h.g 1=true) (e:mM h 1 p=0) (only: ∀i q g,lY h i q=some g->i=1/\q=p):qO (ki h 1 p):=λi q=>by
 obtain⟨dy,f,d,O, _⟩:=H.C5 a e;by_cases c:i=(1:Int).toNat/\q=p
 ·rw[c.1,c.2,eo,O.pg,ao (show ¬ (4:Int)=0 by decide)]
 ·rw[eo,O.ef.pg.to c, <-eo];cases b:lY h i q with
  |none=>rfl
  |some g=>exact absurd (only i q g b) c
end
section
variable {n:Nat} {s:MS}
structure KF (n:Nat) (s:MS):Prop where
 x:uV n s
 np:qO s.h
 k6: ∀(c:Nat) (x:bG),1<=c->s.cs[c]? =some x->x.ph≠4/\(x.ph≠0->x.c.1=6)
 c0: ∀x:bG,s.cs[0]? =some x->x.ph=0\/x.ph=4
 j: ∀(c:Nat) (x:bG),s.cs[c]? =some x->x.ph=3->s.bx[c]? ≠some []
theorem do6 (h:HS) (v a b c:Int):(iX h v 6 a b c).s=h.s/\(iX h v 6 a b c).g=h.g:=by
 unfold iX;split
 ·exact Fm (.inl rfl)
 ·exact⟨rfl,rfl⟩
theorem KF.step (R:KF n s) (k:Int):KF n (aR s k).1:=by
 rcases zC R.x k with e|⟨c,x,x', _,hx,C⟩
 ·rw[e];exact R
 have X':=R.x.step k;obtain⟨gh,ta,M⟩:=R.x;have v:x.ph=1->x.c.1=6:=λh1=>by
  by_cases hc:1<=c
  ·exact(R.k6 c x hc hx).2 (by omega)
  ·have:c=0:=by omega
   subst this;have:=R.c0 x hx;omega
 have f:c<s.cs.length:=(Ax.1 hx).1;have w:=To ⟨gh,ta,M⟩ R.np hx C;refine⟨X',?_,λd y o a=>?_,λy a=>?_,λd y a g=>?_⟩
 ·rcases C.md with h|h|⟨h1,h⟩|⟨g,G, _⟩
  ·rw[h];exact R.np
  ·rw[h];exact qO.free M R.np
  ·rw[h,v h1];obtain⟨z,l⟩:=do6 s.h x.vm x.c.2.1 x.c.2.2.1 x.c.2.2.2.1;intro i q;rw[eo,Fk z l, <-eo];exact R.np i q
  ·by_cases hc:1<=c
   ·have:=(R.k6 c x hc hx).2 (by omega);omega
   ·have:c=0:=by omega
    subst this;have:=R.c0 x hx;omega
 ·rw[C.cs] at a;rcases de a with ⟨rfl,rfl⟩|⟨_,a⟩
  ·obtain⟨A,p⟩:=R.k6 _ x o hx;refine⟨λB=>?_,λh0=>?_⟩
   ·rcases C.p4 B with ⟨e, _⟩|⟨_,e, _⟩
    ·exact A e
    ·rcases C.vc with b|⟨b, _, _⟩
     ·omega
     ·exact e (p b)
   ·rcases C.vc with b|⟨b, _,l⟩
    ·exact absurd b h0
    ·rw[l];exact p b
  ·exact R.k6 d y o a
 ·rw[C.cs] at a;rcases de a with ⟨rfl,rfl⟩|⟨_,a⟩
  ·obtain⟨_, _,M'⟩:=X';have H:=M'.ph y (by rw[C.cs];exact aB (CL f));have I:=R.c0 x hx;by_cases h1:y.ph=1
   ·rcases C.vc with b| _
    ·omega
    ·by_cases m:y.ph=0\/y.ph=4
     ·exact m
     ·exfalso;have P:=prog M hx;obtain⟨t,P⟩:=P;have ks:(aR s k).1.cs=s.cs.set 0 y:=C.cs;have D:aR s k=Go.Proofs.YtlcenllcmeebhaaGreat.iB s 0 x:=by
       have:k=((0:Nat):Int):=by assumption
       rw[this];exact pL hx
      rw[D] at ks;have:s.cs.set 0 y=s.cs.set 0 t:=by rw[<-ks,P.cs]
      have h:(s.cs.set 0 y)[0]? =(s.cs.set 0 t)[0]? :=by rw[this]
      rw[CL f,CL f] at h;cases h;have:=P.one h1;omega
   ·by_cases m:y.ph=2
    ·have:=C.p2 m;omega
    ·omega
  ·exact R.c0 y a
 ·rw[C.cs] at a;rcases de a with ⟨_,rfl⟩|⟨E,a⟩
  ·exact absurd g w
  ·have hb:=R.j d y a g;intro F;have u:d<s.bx.length:=by rw[M.lb, <-M.lc];exact(Ax.1 a).1
   obtain⟨r,e, _⟩:=C.bo d E _ (Bf u);rw[F] at e;have e:=Option.some.inj e;have:s.bx[d]=[]:=(List.append_eq_nil_iff.1 e.symm).1;exact hb (by rw[Bf u,this])
theorem KF.ends (R:KF n s) (h0: ∀x:bG,s.cs[0]? =some x->x.ph=0) {c:Nat} {x:bG} (hx:s.cs[c]? =some x):x.ls=[]/\x.ph≠3:=by
 have hb: ∀(j:Nat) (q:List AK),s.bx[j]? =some q->q=[]:=λj q e=>by
  obtain⟨gh,ta,M⟩:=R.x;refine FS.2 λa f=>?_;obtain⟨z,y, _,b,g, _⟩:=(M.aq e).2 a f;by_cases h:1<=z
  ·exact(R.k6 z y h b).1 g
  ·have:z=0:=by omega
   subst this;have:=h0 y b;omega
 have d:s.bx[c]? =some []:=by
  obtain⟨gh,ta,M⟩:=R.x;have i:c<s.bx.length:=by rw[M.lb, <-M.lc];exact(Ax.1 hx).1
  have:=Bf i;rw[this,hb c _ this]
 exact⟨Kk R.x R.np hx d,λk=>R.j c x hx k d⟩
end
end Go.Proofs.YtlcenllcmeebhaaGreat
namespace Go.Proofs.YtlcenllcmeebhaaGreat.Mu
set_option maxRecDepth 100000
open Go.RX
abbrev eP:El:= .one .ptr
abbrev YS:El:= .agg sMk
abbrev MkT:Type:=Int×Int×Int×Int×Int×Int×Int×Int×Int×Unit
abbrev YT (m:MT):MkT:=(m.1,m.2.1,m.2.2.1,m.2.2.2.1.1,m.2.2.2.1.2.1,m.2.2.2.1.2.2.1,m.2.2.2.1.2.2.2.1,m.2.2.2.2.1,m.2.2.2.2.2,())
structure CA where
 cb:Nat
 tb:Nat
 st:Option AC×Nat×Nat
 sf:Option AC×Nat×Nat
 wp:Option AC
 Lt:List (Nat×List AB)
 Lf:List (Nat×List AB)
 Lw:List (Nat×List AB)
abbrev jU (a:CA) (i:Nat) (x:bG):List AB:=
 [aa (i:Int),ag (af a.tb),aa x.ph,aa x.vm,aa x.c.1,az x.c.2.1,az x.c.2.2.1,az x.c.2.2.2.1,ag a.wp,aa x.fr,az x.rs.1,aa x.rs.2,aa x.ak,.slice a.sf.1 a.sf.2.1 a.sf.2.2]
def WkW (a:CA) (x:bG):Prop:= ∃(bk:Nat) (s:Option AC×Nat×Nat) (b:List (Nat×List AB)) (xs:List Int),a.wp=some ⟨bk,0,none⟩/\a.Lw=(bk,lV x.wk.1 (x.c.2.1 / 16) (a7 x.c.1) x.wk.2.1 x.wk.2.2 s)::b/\Cu b s xs/\(xs.length:Int)<=3 - x.wk.2.1
structure TZ (a:CA) (x:bG):Prop where
 ls:dv ku a.st x.ls a.Lt
 fs:dv eI a.sf x.fs a.Lf
 wk:x.ph=2->WkW a x
def s8 (a:CA) (i:Nat) (x:bG) (sz:Int):List (Nat×List AB):=(a.cb,jU a i x)::(a.tb,dq a.st sz)::(a.Lt++(a.Lf++a.Lw))
structure MB where
 mb:Nat
 eb:Nat
 xb:Nat
 kb:Nat
 wb:Nat
 sc:Option AC×Nat×Nat
 sm:Option AC×Nat×Nat
 sp:Option AC×Nat×Nat
 sb:Option AC×Nat×Nat
 so:Option AC×Nat×Nat
 Lc:List (Nat×List AB)
 Lm:List (Nat×List AB)
 Lp:List (Nat×List AB)
 Lb:List (Nat×List AB)
 Lo:List (Nat×List AB)
 cr:List CR
 ke:List Do
 we:List Do
 kk:Nat
 wk:Nat
 A:Nat->CA
abbrev rU (X:HX) (B:MB):List AB:=[ag (af X.hb),ag (af B.eb),ag (af B.xb),.slice B.sc.1 B.sc.2.1 B.sc.2.2,.map (some B.kb),.slice B.sm.1 B.sm.2.1 B.sm.2.2]
def iv (B:MB) (s:MS) (l:List Nat):List (Nat×List AB):=l.flatMap λi=>match s.cs[i]? with
 |some x=>s8 (B.A i) i x s.sz
 |none=>[]
abbrev yQ (B:MB) (n:Nat):List (Option AC):=(AL n).map λi=>some ⟨(B.A i).cb,0,none⟩
structure MWf (B:MB) (s:MS):Prop where
 c:dv eP B.sc (yQ B s.cs.length) B.Lc
 m:dv YS B.sm (s.ms.map YT) B.Lm
 p:dv eI B.sp s.ep.pins B.Lp
 b:dv eC B.sb (dN B.cr) B.Lb
 o:dv eI B.so s.op B.Lo
 l:B.cr.length=s.bx.length
 k:iI B.ke B.kk (s.kn.map λf=>(f,.bool true))
 w:iI B.we B.wk (s.ep.ws.map F9)
 a: ∀{i x},s.cs[i]? =some x->TZ (B.A i) x
def yR (s:WD):Prop:=0<s.1.length/\0<s.2.length/\s.2.length<=4096/\okW s.1
abbrev IU (X:HX) (B:MB) (s:MS):List (Nat×List AB):=(B.mb,rU X B)::(B.eb,oE s.ep.now B.sp B.wb)::(B.xb,lS B.sb B.so)::(B.Lc++(B.Lm++(B.Lp++(B.Lb++B.Lo))))
abbrev mob (B:MB) (s:MS):List (Nat×B2):=(B.kb,.map ⟨B.ke⟩ B.kk)::(B.wb,.map ⟨B.we⟩ B.wk)::qE B.cr s.bx
abbrev Ge (Q:Sys) (X:HX) (A:Nat->GA) (ca la:Int) (h:HS):List (Nat×List AB):=Q.L ca la h.s (d_ Q X A h (a_ Q A h.g (AL 17)))
def iH (Q:Sys) (X:HX) (D G:List Nat) (w0 w:A2) (B:MB) (s:MS) (T L:List (Nat×List AB)) (M:List (Nat×B2)):Prop:=
 ∃(A:Nat->GA) (ca la:Int),DR A s.h/\yR s.h.s/\MWf B s/\cF D G w0 w (T++(IU X B s++(iv B s (AL s.cs.length)++(Ge Q X A ca la s.h++L)))) (mob B s++(dn A s.h.g (AL 17)++M))
theorem cq {α:Type} {c d:List α} (h: ∀[BEq α] [LawfulBEq α] (a:α),c.count a=d.count a):c.Perm d:=by
 letI:DecidableEq α:=λa b=>Classical.propDecidable (a=b)
 exact List.perm_iff_count.2 λa=>h a
section
variable {Q:Sys} {X:HX} {D G:List Nat} {w0 w w1:A2} {B:MB} {s:MS} {T L:List (Nat×List AB)} {M:List (Nat×B2)}
theorem iH.ext (H:iH Q X D G w0 w B s T L M) (h:Ext w w1):iH Q X D G w0 w1 B s T L M:=by
 obtain⟨A,ca,la,h1,a,b,c⟩:=H;exact⟨A,ca,la,h1,a,b,c.ext h⟩
theorem iH.wf (H:iH Q X D G w0 w B s T L M):MWf B s:=by
 obtain⟨A,ca,la,h1,b,a,c⟩:=H;exact a
theorem iH.all (H:iH Q X [] [] w0 w B s T L M):Ext w0 w:=by
 obtain⟨A,ca,la,h1,b,c,a⟩:=H;exact a.all
theorem iH.tmp (H:iH Q X D G w0 w B s T L M): ∃R a,cF D G w0 w (T++R) a/\(∀x∈IU X B s,x∈R)/\(∀x∈mob B s,x∈a)/\(∀{i x},s.cs[i]? =some x-> ∀y∈s8 (B.A i) i x s.sz,y∈R)/\ ∀{T' w'},cF D G w0 w' (T'++R) a->iH Q X D G w0 w' B s T' L M:=by
 obtain⟨A,ca,la,h1,b,c,d⟩:=H;refine⟨_, _,d,λx hx=>Bx _ hx,λx hx=>Bx _ hx,λ{i x} hi y e=>B4 _ (Bx _ ?_),λh=>⟨A,ca,la,h1,b,c,h⟩⟩;unfold iv;exact H6.2 ⟨i,DA.2 (Ax.1 hi).1,by rw[hi];exact e⟩
theorem iH.al (H:iH Q X D G w0 w B s T L M) {cs:List AB} {e:TypeId} {K:Nat->A2->Prop} (k: ∀b w1,iH Q X D G w0 w1 B s ((b,cs)::T) L M->K b w1):aM w ⟨cs⟩ e K:=by
 obtain⟨R,a,H, _, _, _,J⟩:=H.tmp;exact alM H λb w1 H=>k b w1 (J H)
theorem iH.st (H:iH Q X D G w0 w B s T L M) (i:Nat) {b:Nat} {l vs:List AB} {K:A2->Prop} (a:T[i]? =some (b,l)) (c:vs.all (·.oneCell')=true) (d:vs.length=l.length) (k: ∀w1,iH Q X D G w0 w1 B s (T.set i (b,vs)) L M->K w1):aC w (af b) vs K:=by
 obtain⟨R,e,H, _, _, _,J⟩:=H.tmp;have hi:=(Ax.1 a).1;refine stB H i (by rw[GS hi];exact a) c d λw1 H=>k w1 (J ?_);rw[List.set_append_left _ _ hi] at H;exact H
theorem iH.ld (H:iH Q X D G w0 w B s T L M) (i:Nat) {g:Option Bool} {el:El} {K:el.T->Prop} {b o:Nat} {l:List AB} {x:el.T} (a:T[i]? =some (b,l)) (hv:k9 l o el=some x) (k:K x):aj w g (some ⟨b,o,none⟩) el K:=by
 obtain⟨R,c,H, _, _, _,J⟩:=H.tmp;exact aj.at i H.base (by rw[GS (Ax.1 a).1];exact a) hv k
theorem iH.cJ (H:iH Q X D G w0 w B s T L M) (i:Nat) {g:Option Bool} {el:El} {K:el.T->Prop} {b n:Nat} {l:List AB} {x:el.T} (a:T[i]? =some (b,l)) (hv:k9 l n el=some x) (k:K x):aj w g (ad (af b) n) el K:=by
 obtain⟨R,c,H, _, _, _,J⟩:=H.tmp;exact aj.kM H.base (Bx _ (DI a)) hv k
theorem iH.rC (H:iH Q X D G w0 w B s T L M) {n:Nat} {g:Option Bool} {el:El} {K:el.T->Prop} {x:el.T} (hv:k9 (rU X B) n el=some x) (k:K x):aj w g (ad (af B.mb) n) el K:=by
 obtain⟨R,b,H,a, _, _,J⟩:=H.tmp;exact aj.kM H.base (B4 _ (a _ B3)) hv k
theorem iH.YU (H:iH Q X D G w0 w B s T L M) {i:Nat} {x:bG} (hx:s.cs[i]? =some x) {n:Nat} {g:Option Bool} {el:El} {K:el.T->Prop} {y:el.T} (hv:k9 (jU (B.A i) i x) n el=some y) (k:K y):aj w g (ad (some ⟨(B.A i).cb,0,none⟩) n) el K:=by
 obtain⟨R,a,H, _, _,hc,J⟩:=H.tmp;exact aj.kM H.base (B4 _ (hc hx _ B3)) hv k
theorem iH.sub (H:iH Q X D G w0 w B s T L M) {T':List (Nat×List AB)} (h:T'.Sublist T):iH Q X D G w0 w B s T' L M:=by
 obtain⟨R,a,H, _, _, _,J⟩:=H.tmp;exact J (H.sub (h.append_right _))
def DH (B:MB) (i:Nat) (a:CA):MB:={B with A:=λj=>if j=i then a else B.A j}
theorem m_ (B:MB) (i:Nat) (a:CA):(DH B i a).A i=a:=aw rfl
theorem z_ {B:MB} {s s':MS} {i:Nat} {a:CA} (c:s'.sz=s.sz) (hc: ∀j,j≠i->s'.cs[j]? =s.cs[j]?):iv (DH B i a) s' ((AL s.cs.length).erase i)=iv B s ((AL s.cs.length).erase i):=by
 unfold iv;refine gE λj d=>?_;have b:j≠i:=λe=>by subst e;exact(KC.not_mem_erase) d
 rw[hc j b,c];cases s.cs[j]? with
 |none=>rfl
 |some x=>show s8 ((DH B i a).A j) j x s.sz= _;rw[show(DH B i a).A j=B.A j from ao b]
theorem lN {B:MB} {s:MS} {i:Nat} {x:bG} (hx:s.cs[i]? =some x):(iv B s (AL s.cs.length)).Perm (s8 (B.A i) i x s.sz++iv B s ((AL s.cs.length).erase i)):=by
 unfold iv;refine(List.Perm.flatMap_right _ (List.perm_cons_erase (DA.2 (Ax.1 hx).1))).trans ?_;rw[List.flatMap_cons,hx]
theorem MWf.up (W:MWf B s) {i:Nat} {x x':bG} (hx:s.cs[i]? =some x) {a:CA} (f:a.cb=(B.A i).cb) (g:TZ a x'):MWf (DH B i a) (bS s i x'):=by
 have h:yQ (DH B i a) s.cs.length=yQ B s.cs.length:=by
  refine KE λj _=>?_;by_cases e:j=i
  ·subst e;rw[m_,f]
  ·rw[show(DH B i a).A j=B.A j from ao e]
 refine⟨?_,W.m,W.p,W.b,W.o,W.l,W.k,W.w,λ{j y} d=>?_⟩
 ·show dv eP B.sc (yQ (DH B i a) (s.cs.set i x').length) B.Lc;rw[DJ,h];exact W.c
 ·by_cases e:j=i
  ·subst e;rw[m_];have:(s.cs.set j x')[j]? =some y:=d;rw[CL (Ax.1 hx).1] at this;cases this;exact g
  ·have:(s.cs.set i x')[j]? =some y:=d;rw[Et (λc=>e c.symm)] at this;rw[show(DH B i a).A j=B.A j from ao e];exact W.a this
theorem iH.DG (H:iH Q X D G w0 w B s T L M) {i:Nat} {x:bG} (hx:s.cs[i]? =some x): ∃R b,cF D G w0 w (s8 (B.A i) i x s.sz++(T++R)) b/\
 ∀{T' a x' w'},a.cb=(B.A i).cb->TZ a x'->cF D G w0 w' (s8 a i x' s.sz++(T'++R)) b->iH Q X D G w0 w' (DH B i a) (bS s i x') T' L M:=by
 obtain⟨A,ca,la,h1,e,f,g⟩:=H;refine⟨IU X B s++(iv B s ((AL s.cs.length).erase i)++(Ge Q X A ca la s.h++L)), _,g.perm ?_,λ{T' a x' w'} k l m=>⟨A,ca,la,h1,e,f.up hx k l,m.perm ?_⟩⟩
 ·have:=lN (B:=B) hx;refine IV ?_ (DV T (DV _ (GF _ this.symm)));exact cq λa=>by simp only[AM,AY];omega
 ·have n:(bS s i x').cs[i]? =some x':=CL (Ax.1 hx).1;have d:(bS s i x').cs.length=s.cs.length:=DJ ..;have:=lN (B:=DH B i a) n;rw[m_,d,z_ (s:=s) (s':=bS s i x') rfl λj o=>(show(s.cs.set i x')[j]? =s.cs[j]? from Et (λc=>o c.symm))] at this;rw[d];refine(DV T' (DV _ (GF _ this))).trans ?_;show(T'++(IU X B s++(s8 a i x' s.sz++iv B s ((AL s.cs.length).erase i)++(Ge Q X A ca la s.h++L)))).Perm _;exact cq λa=>by simp only[AM,AY];omega
end
section
variable {Q:Sys} {X:HX} {D G:List Nat} {w0 w:A2} {B:MB} {s:MS} {T L:List (Nat×List AB)} {M:List (Nat×B2)}
theorem jn.yR {h:HS} {L:List (Nat×List AB)} (H:jn Q X D G w0 w h L):yR h.s:=by
 obtain⟨A,W,S⟩:=H;exact⟨S.pos,S.Gz,S.le,S.okw⟩
theorem iH.hv (H:iH Q X D G w0 w B s T L M): ∃i L',jn Q X [] i w w s.h L'/\ ∀{e h'},jn Q X [] i w e h' L'->iH Q X D G w0 e B {s with h:=h'} T L M:=by
 obtain⟨A,ca,la,h1,f,d,r⟩:=H;have j:cF D G w0 w (Q.L ca la s.h.s (d_ Q X A s.h (a_ Q A s.h.g (AL 17)++(T++(IU X B s++(iv B s (AL s.cs.length)++L)))))) (dn A s.h.g (AL 17)++(mob B s++M)):=
  (r.perm (cq λa=>by simp only[Sys.L,AM,AY];omega)).lr (cq λa=>by simp only[AM,AY];omega)
 refine⟨_, _,⟨A,h1,f.1,f.2.1,f.2.2.1,f.2.2.2,ca,la,cF.P3 j⟩,λ{e h'} K=>?_⟩;have t:=jn.yR K;obtain⟨A',u, _, _, _, _,n,q,K⟩:=K;have K:=cF.XY j K;refine⟨A',n,q,u,t,⟨d.c,d.m,d.p,d.b,d.o,d.l,d.k,d.w,d.a⟩,?_⟩;show cF D G w0 e (T++(IU X B s++(iv B s (AL s.cs.length)++(Ge Q X A' n q h'++L)))) (mob B s++(dn A' h'.g (AL 17)++M));exact(K.perm (cq λa=>by
  simp only[Sys.L,AM,AY];omega)).lr (cq λa=>by simp only[AM,AY];omega)
theorem iH.sat (H:iH Q X D G w0 w B s T L M): ∃A j L0,bj Q [] j w w s.h.s L0/\(X.hb,eA Q X A s.h.g)∈L0/\(∀i v,s.h.g i=some v-> ∀x∈gY Q A i v,x∈L0)/\(∀x∈T,x∈L0)/\(∀x∈IU X B s,x∈L0)/\(∀{i x},s.cs[i]? =some x-> ∀y∈s8 (B.A i) i x s.sz,y∈L0)/\
 ∀{T' f s'},bj Q [] j w f s' (T'++L0)->iH Q X D G w0 f B {s with h:=bA s.h s'} (T'++T) L M:=by
 obtain⟨A,ca,la,h1,e,d,t⟩:=H;have n:cF D G w0 w (Q.L ca la s.h.s (d_ Q X A s.h (a_ Q A s.h.g (AL 17)++(T++(IU X B s++(iv B s (AL s.cs.length)++L)))))) ([]++(mob B s++(dn A s.h.g (AL 17)++M))):=
  t.perm (cq λa=>by simp only[Sys.L,AM,AY];omega)
 refine⟨A, _, _,⟨e.1,e.2.1,e.2.2.1,e.2.2.2,ca,la,(cF.P3 n).base⟩,B3,λi v hv x hx=>?_,λx hx=>?_,λx hx=>?_,λ{i x} hi y u=>?_,λ{T' f s'} K=>?_⟩
 ·refine Ay _ (Ay _ (Ay _ (Ay _ (Bx _ (BR (DA.2 ?_) hv x hx)))));have:=h1.iY hv;omega
 ·exact Ay _ (Ay _ (Ay _ (Ay _ (B4 _ (Bx _ hx)))))
 ·exact Ay _ (Ay _ (Ay _ (Ay _ (B4 _ (B4 _ (Bx _ hx))))))
 ·refine Ay _ (Ay _ (Ay _ (Ay _ (B4 _ (B4 _ (B4 _ (Bx _ ?_)))))));unfold iv;exact H6.2 ⟨i,DA.2 (Ax.1 hi).1,by rw[hi];exact u⟩
 ·obtain⟨z,C,E,k4,q,r,K⟩:=K;have K:=cF.XY n (M1':=[]) (cF.of K);refine⟨A,q,r,⟨h1.iY,h1.mp,h1.gl,h1.pt,h1.gk⟩,⟨z,C,E,k4⟩,⟨d.c,d.m,d.p,d.b,d.o,d.l,d.k,d.w,d.a⟩,?_⟩;exact K.perm (cq λa=>by
   show CJ a (T'++T++(IU X B s++(iv B s (AL s.cs.length)++(Q.L q r s' (d_ Q X A s.h (a_ Q A s.h.g (AL 17)))++L))))= _;simp only[Sys.L,AM,AY];omega)
theorem iH.pZ (H:iH Q X D G w0 w B s T L M): ∃R e,cF D G w0 w ((B.mb,rU X B)::(B.Lm++(T++R))) e/\
 ∀{T' sm Lm ms w'},dv YS sm (ms.map YT) Lm->cF D G w0 w' ((B.mb,rU X {B with sm:=sm,Lm:=Lm})::(Lm++(T'++R))) e->iH Q X D G w0 w' {B with sm:=sm,Lm:=Lm} {s with ms:=ms} T' L M:=by
 obtain⟨A,ca,la,h1,f,d,g⟩:=H;refine⟨(B.eb,oE s.ep.now B.sp B.wb)::(B.xb,lS B.sb B.so)::(B.Lc++(B.Lp++(B.Lb++(B.Lo++(iv B s (AL s.cs.length)++(Ge Q X A ca la s.h++L)))))), _,g.perm (cq λa=>by simp only[AM,AY];omega),λ{T' sm Lm ms w'} hs K=>?_⟩;refine⟨A,ca,la,h1,f,⟨d.c,hs,d.p,d.b,d.o,d.l,d.k,d.w,d.a⟩,K.perm (cq λa=>?_)⟩;show CJ a (T'++(IU X {B with sm:=sm,Lm:=Lm} s++(iv B s (AL s.cs.length)++(Ge Q X A ca la s.h++L))))= _;simp only[AM,AY];omega
theorem iH.eps (H:iH Q X D G w0 w B s T L M): ∃R e,cF D G w0 w ((B.eb,oE s.ep.now B.sp B.wb)::(B.Lp++(T++R))) ((B.wb,.map ⟨B.we⟩ B.wk)::e)/\
 ∀{T' sp Lp ep we wk w'},dv eI sp ep.pins Lp->iI we wk (ep.ws.map F9)->cF D G w0 w' ((B.eb,oE ep.now sp B.wb)::(Lp++(T'++R))) ((B.wb,.map ⟨we⟩ wk)::e)->iH Q X D G w0 w' {B with sp:=sp,Lp:=Lp,we:=we,wk:=wk} {s with ep:=ep} T' L M:=by
 obtain⟨A,ca,la,h1,f,d,i⟩:=H;refine⟨(B.mb,rU X B)::(B.xb,lS B.sb B.so)::(B.Lc++(B.Lm++(B.Lb++(B.Lo++(iv B s (AL s.cs.length)++(Ge Q X A ca la s.h++L)))))),(B.kb,.map ⟨B.ke⟩ B.kk)::(qE B.cr s.bx++(dn A s.h.g (AL 17)++M)),(i.perm (cq λa=>by simp only[AM,AY];omega)).lr (cq λa=>by simp only[AM,AY];omega),λ{T' sp Lp ep we wk w'} hs j K=>?_⟩;refine⟨A,ca,la,h1,f,⟨d.c,d.m,hs,d.b,d.o,d.l,d.k,j,d.a⟩,(K.perm (cq λa=>?_)).lr (cq λa=>?_)⟩
 ·show CJ a (T'++(((B.mb,rU X B)::(B.eb,oE ep.now sp B.wb)::(B.xb,lS B.sb B.so)::(B.Lc++(B.Lm++(Lp++(B.Lb++B.Lo)))))++(iv B s (AL s.cs.length)++(Ge Q X A ca la s.h++L))))= _;simp only[AM,AY];omega
 ·show CJ a (((B.kb,Obj.map ⟨B.ke⟩ B.kk)::(B.wb,Obj.map ⟨we⟩ wk)::qE B.cr s.bx)++(dn A s.h.g (AL 17)++M))= _;simp only[AM,AY];omega
theorem iH.kns (H:iH Q X D G w0 w B s T L M): ∃R e,cF D G w0 w (T++R) ((B.kb,.map ⟨B.ke⟩ B.kk)::e)/\
 ∀{T' kn ke kk w'},iI ke kk (kn.map λf=>(f,.bool true))->cF D G w0 w' (T'++R) ((B.kb,.map ⟨ke⟩ kk)::e)->iH Q X D G w0 w' {B with ke:=ke,kk:=kk} {s with kn:=kn} T' L M:=by
 obtain⟨A,ca,la,h1,i,d,j⟩:=H;refine⟨_,(B.wb,.map ⟨B.we⟩ B.wk)::(qE B.cr s.bx++(dn A s.h.g (AL 17)++M)),j,λ{T' kn ke kk w'} k K=>?_⟩;exact⟨A,ca,la,h1,i,⟨d.c,d.m,d.p,d.b,d.o,d.l,k,d.w,d.a⟩,K⟩
theorem iH.bxs (H:iH Q X D G w0 w B s T L M): ∃R e,cF D G w0 w ((B.xb,lS B.sb B.so)::(B.Lb++(B.Lo++(T++R)))) (qE B.cr s.bx++e)/\
 ∀{T' so Lo op cr bx w'},dv eI so op Lo->cr.length=bx.length->dN cr=dN B.cr->cF D G w0 w' ((B.xb,lS B.sb so)::(B.Lb++(Lo++(T'++R)))) (qE cr bx++e)->iH Q X D G w0 w' {B with so:=so,Lo:=Lo,cr:=cr} {s with op:=op,bx:=bx} T' L M:=by
 obtain⟨A,ca,la,h1,f,d,i⟩:=H;refine⟨(B.mb,rU X B)::(B.eb,oE s.ep.now B.sp B.wb)::(B.Lc++(B.Lm++(B.Lp++(iv B s (AL s.cs.length)++(Ge Q X A ca la s.h++L))))),(B.kb,.map ⟨B.ke⟩ B.kk)::(B.wb,.map ⟨B.we⟩ B.wk)::(dn A s.h.g (AL 17)++M),(i.perm (cq λa=>by simp only[AM,AY];omega)).lr (cq λa=>by simp only[AM,AY];omega),λ{T' so Lo op cr bx w'} hs j hc K=>?_⟩;refine⟨A,ca,la,h1,f,⟨d.c,d.m,d.p,?_,hs,j,d.k,d.w,d.a⟩,(K.perm (cq λa=>?_)).lr (cq λa=>?_)⟩
 ·show dv eC B.sb (dN cr) B.Lb;rw[hc];exact d.b
 ·show CJ a (T'++(((B.mb,rU X B)::(B.eb,oE s.ep.now B.sp B.wb)::(B.xb,lS B.sb so)::(B.Lc++(B.Lm++(B.Lp++(B.Lb++Lo)))))++(iv B s (AL s.cs.length)++(Ge Q X A ca la s.h++L))))= _;simp only[AM,AY];omega
 ·show CJ a (((B.kb,Obj.map ⟨B.ke⟩ B.kk)::(B.wb,Obj.map ⟨B.we⟩ B.wk)::qE cr bx)++(dn A s.h.g (AL 17)++M))= _;simp only[AM,AY];omega
end
section
variable {Q:Sys} {X:HX} {D G:List Nat} {w0 w:A2} {B:MB} {s:MS} {T L:List (Nat×List AB)} {M:List (Nat×B2)}
theorem aca (H:iH Q X D G w0 w B s T L M) (n:Int):ae A1 64 [ag (af B.mb),aa n] w (ag (if 0<=n/\n<(s.cs.length:Int) then some ⟨(B.A n.toNat).cb,0,none⟩ else none)):=by
 refine ae.of (s:= .el (.one .ptr)) λw' h'=>ai (C:=U2) (aT:=λ_=>[]) (B1 (P4 _ _ w' _) ?_);have H:=H.ext h';have W:=H.wf;have a:B.sc.2.1=s.cs.length:=by rw[W.c.1,DD,E5]
 refine⟨λ_=>rfl,λ_=>rfl,H.rC (show _=some (B.sc.1,B.sc.2.1,B.sc.2.2) from rfl) ?_⟩;dsimp only;rw[a];by_cases c:0<=n/\n<(s.cs.length:Int)
 ·rw[aw c];obtain⟨R,f,K,d, _, _, _⟩:=H.tmp;have b:=W.c.sl K.base (λy e=>B4 _ (d _ (Ay _ (Ay _ (Ay _ (Bx _ e)))))) n.toNat (some ⟨(B.A n.toNat).cb,0,none⟩) (by rw[GI,H7 (by omega)];rfl);refine an ?_ ⟨rfl,rfl,H.rC (show _=some (B.sc.1,B.sc.2.1,B.sc.2.2) from rfl) ⟨⟨b.1,c.1,by dsimp only;rw[a];exact c.2⟩,aj.of _ b.2 λw1 h1=>⟨rfl,h1⟩⟩⟩;simp only[Option.isNone_some,IQ,Mr,decide_eq_false_iff_not];omega
 ·rw[ao c];refine ay ?_ λw1 h1=>⟨rfl,h1⟩;simp only[Option.isNone_some,IQ,Gj,decide_eq_true_eq];omega
theorem ac2 {a:Int} (h:cg a):aE .i64 (xm .u64 a 16)=a / 16:=by
 unfold cg at h;have e:xm .u64 a 16=a / 16:=by
  show aE .u64 (a.tdiv 16)= _;rw[Int.tdiv_eq_ediv_of_nonneg h.1];exact dK (by omega)
 rw[e];exact bJ (by omega)
theorem WO (H:iH Q X D G w0 w B s T L M) {i:Nat} {x:bG} (hx:s.cs[i]? =some x) (a:cg x.c.2.1):ae A1 160 [ag (some ⟨(B.A i).cb,0,none⟩)] w (aa (x.c.2.1 / 16)):=by
 refine ae.of (s:= .el (.one (.int .i64))) λw' h'=>ai (C:=U2) (aT:=λ_=>[]) (B1 (SP _ w' _) ?_);refine⟨rfl,rfl,rfl,(H.ext h').YU hx (n:=5) (show _=some x.c.2.1 from rfl) λw1 h1=>⟨ac2 a,h1⟩⟩
end
structure MR where
 mb:Nat
 eb:Nat
 xb:Nat
 kb:Nat
 wb:Nat
 cb:Nat->Nat
 tb:Nat->Nat
abbrev MB.rt (B:MB):MR:=⟨B.mb,B.eb,B.xb,B.kb,B.wb,λi=>(B.A i).cb,λi=>(B.A i).tb⟩
theorem X5 {B:MB} {i:Nat} {a:CA} (h1:a.cb=(B.A i).cb) (d:a.tb=(B.A i).tb):(DH B i a).rt=B.rt:=by
 have b:(λj=>((DH _ i a).A j).cb)=λj=>(B.A j).cb:=funext λj=>by
  by_cases e:j=i
  ·subst e;rw[m_];grind
  ·rw[show(DH _ i a).A j=B.A j from ao e]
 have c:(λj=>((DH _ i a).A j).tb)=λj=>(B.A j).tb:=funext λj=>by
  by_cases e:j=i
  ·subst e;rw[m_];grind
  ·rw[show(DH _ i a).A j=B.A j from ao e]
 show MR.mk _ _ _ _ _ _ _=MR.mk _ _ _ _ _ _ _;rw[b,c];rfl
def MU (Q:Sys) (X:HX) (D G:List Nat) (w0 w:A2) (R:MR) (s:MS) (T L:List (Nat×List AB)) (M:List (Nat×B2)):Prop:= ∃B:MB,B.rt=R/\iH Q X D G w0 w B s T L M
theorem NJ {s:MS} {i:Nat} {x:bG} (hx:s.cs[i]? =some x):bS s i x=s:=by
 unfold bS;have:s.cs.set i x=s.cs:=by
  obtain⟨h,e⟩:=Ax.1 hx;subst e;simp
 rw[this]
theorem fh {s:MS} {i:Nat} {x y:bG} (hx:s.cs[i]? =some x):(bS s i y).cs[i]? =some y:=CL (Ax.1 hx).1
theorem kW (s:MS) (i:Nat) (x y:bG):bS (bS s i x) i y=bS s i y:=by unfold bS;simp_all
section
variable {Q:Sys} {X:HX} {D G:List Nat} {w0 w w1:A2} {R:MR} {s:MS} {T L:List (Nat×List AB)} {M:List (Nat×B2)} {i:Nat} {x:bG} {g:Option Bool}
theorem MU.ext (H:MU Q X D G w0 w R s T L M) (h:Ext w w1):MU Q X D G w0 w1 R s T L M:=by
 obtain⟨B,e,H⟩:=H;exact⟨B,e,H.ext h⟩
theorem MU.all (H:MU Q X [] [] w0 w R s T L M):Ext w0 w:=by
 obtain⟨B,e,H⟩:=H;exact H.all
theorem MU.en (H:MU Q X D G w0 w R s T L M) {K:A2->Prop} (k: ∀w1,MU Q X D G w0 w1 R s T L M->K w1):au w K:=λ_ h=>k _ (H.ext h)
theorem MU.go (H:MU Q X D G w0 w R s T L M) {P:Program} {f:FuncId} {sh:Sh} {args:List AB} {K:sh.T->A2->Prop} (k: ∀w1,MU Q X D G w0 w1 R s T L M->aD P f sh args w1 K):aA P f sh args w K:=λ_ h=>k _ (H.ext h)
theorem MU.al (H:MU Q X D G w0 w R s T L M) {cs:List AB} {e:TypeId} {K:Nat->A2->Prop} (k: ∀b w1,MU Q X D G w0 w1 R s ((b,cs)::T) L M->K b w1):aM w ⟨cs⟩ e K:=by
 obtain⟨B,e,H⟩:=H;exact H.al λb w1 H=>k b w1 ⟨B,e,H⟩
theorem MU.st (H:MU Q X D G w0 w R s T L M) (i:Nat) {b:Nat} {l vs:List AB} {K:A2->Prop} (a:T[i]? =some (b,l)) (c:vs.all (·.oneCell')=true) (d:vs.length=l.length) (k: ∀w1,MU Q X D G w0 w1 R s (T.set i (b,vs)) L M->K w1):aC w (af b) vs K:=by
 obtain⟨B,e,H⟩:=H;exact H.st i a c d λw1 H=>k w1 ⟨B,e,H⟩
theorem MU.ld (H:MU Q X D G w0 w R s T L M) (i:Nat) {el:El} {K:el.T->Prop} {b o:Nat} {l:List AB} {x:el.T} (a:T[i]? =some (b,l)) (hv:k9 l o el=some x) (k:K x):aj w g (some ⟨b,o,none⟩) el K:=by
 obtain⟨B,e,H⟩:=H;exact H.ld i a hv k
theorem MU.cJ (H:MU Q X D G w0 w R s T L M) (i:Nat) {el:El} {K:el.T->Prop} {b n:Nat} {l:List AB} {x:el.T} (a:T[i]? =some (b,l)) (hv:k9 l n el=some x) (k:K x):aj w g (ad (af b) n) el K:=by
 obtain⟨B,e,H⟩:=H;exact H.cJ i a hv k
theorem MU.sub (H:MU Q X D G w0 w R s T L M) {T':List (Nat×List AB)} (h:T'.Sublist T):MU Q X D G w0 w R s T' L M:=by
 obtain⟨B,e,H⟩:=H;exact⟨B,e,H.sub h⟩
theorem MU.f0 (H:MU Q X D G w0 w R s T L M) {K:Option AC->Prop} (k:K (af X.hb)):aj w g (ad (af R.mb) 0) (.one .ptr) K:=by
 obtain⟨B,rfl,H⟩:=H;exact H.rC rfl k
theorem MU.f1 (H:MU Q X D G w0 w R s T L M) {K:Option AC->Prop} (k:K (af R.eb)):aj w g (ad (af R.mb) 1) (.one .ptr) K:=by
 obtain⟨B,rfl,H⟩:=H;exact H.rC rfl k
theorem MU.f2 (H:MU Q X D G w0 w R s T L M) {K:Option AC->Prop} (k:K (af R.xb)):aj w g (ad (af R.mb) 2) (.one .ptr) K:=by
 obtain⟨B,rfl,H⟩:=H;exact H.rC rfl k
theorem MU.f4 (H:MU Q X D G w0 w R s T L M) {K:Option Nat->Prop} (k:K (some R.kb)):aj w g (ad (af R.mb) 4) (.one .map) K:=by
 obtain⟨B,rfl,H⟩:=H;exact H.rC rfl k
theorem MU.cf (H:MU Q X D G w0 w R s T L M) (hx:s.cs[i]? =some x) {n:Nat} {el:El} {K:el.T->Prop} {y:el.T} (hv: ∀a:CA,k9 (jU a i x) n el=some y) (k:K y):aj w g (ad (some ⟨R.cb i,0,none⟩) n) el K:=by
 obtain⟨B,rfl,H⟩:=H;exact H.YU hx (hv _) k
theorem MU.c1 (H:MU Q X D G w0 w R s T L M) (hx:s.cs[i]? =some x) {K:Option AC->Prop} (k:K (some ⟨R.tb i,0,none⟩)):aj w g (ad (some ⟨R.cb i,0,none⟩) 1) (.one .ptr) K:=by
 obtain⟨B,rfl,H⟩:=H;exact H.YU hx rfl k
theorem MU.DG (H:MU Q X D G w0 w R s T L M) (hx:s.cs[i]? =some x): ∃(a:CA) (b:List (Nat×List AB)) (c:List (Nat×B2)),a.cb=R.cb i/\a.tb=R.tb i/\TZ a x/\cF D G w0 w (s8 a i x s.sz++(T++b)) c/\
 ∀{T':List (Nat×List AB)} {a':CA} {x':bG} {w':A2},a'.cb=a.cb->a'.tb=a.tb->TZ a' x'->cF D G w0 w' (s8 a' i x' s.sz++(T'++b)) c->MU Q X D G w0 w' R (bS s i x') T' L M:=by
 obtain⟨B,rfl,H⟩:=H;obtain⟨b,c,K,J⟩:=H.DG hx;exact⟨B.A i,b,c,rfl,rfl,H.wf.a hx,K,λh1 d e f=>⟨_,X5 h1 d,J h1 e f⟩⟩
theorem MU.cs (H:MU Q X D G w0 w R s T L M) (hx:s.cs[i]? =some x) (x':bG) (n:Nat) {vs:List AB} (c:vs.all (·.oneCell')=true) (d:Nat.ble (n+vs.length) 14=true) (e: ∀a:CA,(jU a i x).take n++(vs++(jU a i x).drop (n+vs.length))=jU a i x') (f: ∀a,TZ a x->TZ a x') {K:A2->Prop}
 (k: ∀w1,MU Q X D G w0 w1 R (bS s i x') T L M->K w1):aC w (ad (some ⟨R.cb i,0,none⟩) n) vs K:=by
 obtain⟨a,l,m,g,hb,W,b,J⟩:=H.DG hx;rw[<-g,aY,Nat.zero_add];refine λw1 h1=>aC.at 0 (b.ext h1).base.again rfl c (Nat.le_of_ble_eq_true d) (λh j=>k h (J rfl rfl (f a W) ?_)) w1 (Ext.refl w1);have K:=(b.ext h1).join j;rw[e] at K;exact K
theorem Er (H:MU Q X D G w0 w R s T L M) (n:Int):ae A1 64 [ag (af R.mb),aa n] w (ag (if 0<=n/\n<(s.cs.length:Int) then some ⟨R.cb n.toNat,0,none⟩ else none)):=by
 obtain⟨B,rfl,H⟩:=H;exact aca H n
theorem Kl (H:MU Q X D G w0 w R s T L M) (hx:s.cs[i]? =some x) (a:cg x.c.2.1):ae A1 160 [ag (some ⟨R.cb i,0,none⟩)] w (aa (x.c.2.1 / 16)):=by
 obtain⟨B,rfl,H⟩:=H;exact WO H hx a
theorem vC {w:A2} {r:Nat} {es:Array Do} {ck i:Nat} {g:Int} {z v u:AB} (m:bH w r es ck) (h:Gv (.int .i64) (aa g) es.toList 0=some (some (i,u))) (e:v=u):jV w (some r) .i64 g z v:=⟨r,by grind⟩
theorem Ce {w:A2} {r:Nat} {es:Array Do} {ck:Nat} {g:Int} {z v:AB} (m:bH w r es ck) (h:Gv (.int .i64) (aa g) es.toList 0=some none) (e:v=z):jV w (some r) .i64 g z v:=⟨r,by grind⟩
theorem Km (H:MU Q X D G w0 w R s T L M) (hx:s.cs[i]? =some x):ae A1 199 [ag (some ⟨R.cb i,0,none⟩)] w (aa (a7 x.c.1)):=by
 refine ae.of λw1 h1=>ai (C:=U2) (B1 (SQ _ w1 _) λk b p d=>?_);have H0:=(((At.start [] w1).ext b).rW _).ext d;have e:=b.size;have m0:=d.obj (fG k _);refine vh H0 e (by simp) m0 rfl λq l m r f=>?_;refine vh (l.ext f) e (by simp) (f.obj m) rfl λu h a=>?_;have hv:=(iI.nil.push (g:=6) (aa 1) (λt j=>(by cases j))).push (g:=7) (aa 2) (by grind);have H:=H.ext (h1.trans (Ext.trans (h.ext (Ext.refl _)).all (Ext.refl _)));refine⟨rfl,rfl,rfl,H.cf hx (n:=4) (λ_=>rfl) ⟨a7 x.c.1,?_,λy o=>⟨rfl,(h.ext o).all⟩⟩⟩;unfold a7;by_cases c6:x.c.1=6
 ·rw[aw c6,c6];obtain⟨i,hi, _⟩:=hv.F6 (g:=6) (v:=aa 1) (by simp);exact vC a hi rfl
 ·rw[ao c6];by_cases c7:x.c.1=7
  ·rw[aw c7,c7];obtain⟨i,hi, _⟩:=hv.F6 (g:=7) (v:=aa 2) (by simp);exact vC a hi rfl
  ·rw[ao c7];refine Ce a (hv.OI λt j=>?_) rfl
   grind
theorem uc (H:MU Q X D G w0 w R s T L M) (p:s.ms.length<=1000000000) (m:MT) {K:Unit->A2->Prop}
 (k: ∀a,MU Q X D G w0 a R {s with ms:=s.ms++[m]} T L M->K () a):
 aA A1 155 (.bu []) [ag (af R.mb),.agg ⟨[aa m.1,aa m.2.1,aa m.2.2.1,aa m.2.2.2.1.1,az m.2.2.2.1.2.1,az m.2.2.2.1.2.2.1,az m.2.2.2.1.2.2.2.1,az m.2.2.2.2.1,aa m.2.2.2.2.2]⟩] w K:=by
 obtain⟨B,rfl,H⟩:=H;refine λw1 h1=>ai (C:=U2) (aT:=λ_=>[]) (B1 (SS _ _ _ _ _ _ _ _ _ _ w1 K) ?_);refine(H.ext h1).al λb a H=>⟨rfl,rfl,H.rC (rfl) (H.ld 0 rfl (show _=some (YT m) from rfl) (H.al λd q H e f=>?_))⟩;have H:=H.ext f;obtain⟨r,t,g,J⟩:=H.pZ;have c:=g.perm Ga;have hb:bN e d (cellsOf YS (YT m)):=c.base.dp _ (B4 _ (Ay _ B3));refine FO c H.wf.m rfl (ys:=[YT m]) rfl (rY hb) rfl rfl (by grind) λs' h u i j=>⟨rfl,rfl,Xt (j.perm Ga.symm) 0 rfl rfl rfl λv l=>enM l λn o=>k n ⟨{B with sm:=s',Lm:=h},rfl,iH.sub (J (ms:=s.ms++[m]) (by rw[Gc];exact i) o) ?_⟩⟩;simp
theorem Aa (H:MU Q X D G w0 w R s T L M) (hx:s.cs[i]? =some x) (E:(x.ls.length:Int)<=64) (F:0<s.sz) (t g:Int) {K:Unit->A2->Prop}
 (k: ∀b,MU Q X D G w0 b R (bS s i {x with ls:=iZ x.ls t g}) T L M->K () b):
 aA A1 67 (.bu []) [ag (some ⟨R.cb i,0,none⟩),aa t,aa g] w K:=by
 refine H.go λw1 H=>ai (C:=U2) (aT:=λ_=>[]) (B1 (Iw _ _ _ w1 K) ?_);have fin: ∀{b:A2} {a:CA} {j:List (Nat×List AB)} {l:List (Nat×B2)} (o:List LT),TZ a x->a.tb=R.tb i->cF D G w0 b (s8 a i x s.sz++(T++j)) l-> ∃p,cF D G w0 b ((R.tb i,dq a.st s.sz)::(a.Lt++p)) l/\ ∀{q:A2} {s'} {d:List (Nat×List AB)},dv ku s' o d->aK [] (((R.tb i,dq a.st s.sz)::(a.Lt++p)).map (·.1)) b q ((R.tb i,dq s' s.sz)::(d++p))-> ∃a':CA,a'.cb=a.cb/\a'.tb=a.tb/\TZ a' {x with ls:=o}/\cF D G w0 q (s8 a' i {x with ls:=o} s.sz++(T++j)) l:=by
  intro b a j l o W I r;rw[<-I];have m:cF D G w0 b ((a.tb,dq a.st s.sz)::(a.Lt++((a.cb,jU a i x)::(a.Lf++(a.Lw++(T++j)))))) l:=r.perm (cq λy=>by simp only[s8,AM,AY];omega);refine⟨_,m,λ{q s' d} h n=>⟨{a with st:=s',Lt:=d},rfl,rfl,⟨h,W.fs,W.wk⟩,(m.join n).perm (cq λy=>by
   show CJ y ((a.cb,jU a i x)::(a.tb,dq s' s.sz)::(d++(a.Lf++a.Lw))++(T++j))= _
   grind)⟩⟩
 obtain⟨a,j,l,N,hb,W,r,J⟩:=H.DG hx;obtain⟨p,m,f⟩:=fin (iZ x.ls t g) W hb r;refine ab (λc=>⟨rfl,rfl,H.c1 hx ?_⟩) (λc=>⟨rfl,rfl,H.c1 hx ?_⟩)
 ·have e:g= -1:=by simpa using c
  refine HG m.base.again W.ls E F t λv s' d b h n=>?_;have h:dv ku s' (iZ x.ls t g) d:=by unfold iZ;rw[aw e];exact h
  obtain⟨a',h1,u,z,A⟩:=f h n;exact(J h1 u z A).en λB H=>k B H
 ·have e:g≠ -1:=by simpa using c
  refine Bu m.base.again W.ls E F t g λs' d b h n=>?_;have h:dv ku s' (iZ x.ls t g) d:=by unfold iZ;rw[ao e];exact h
  obtain⟨a',h1,u,z,A⟩:=f h n;exact(J h1 u z A).en λB H=>k B H
theorem NK (H:MU Q X D G w0 w R s T L M) (hx:s.cs[i]? =some x):ae A1 152 [ag (af R.mb),ag (some ⟨R.cb i,0,none⟩)] w (.bool (jG s.h x)):=by
 refine ae.of (s:= .el (.one .bool)) λw1 h1=>ai (C:=U2) (aT:=λ_=>[]) (B1 (Ix _ _ w1 _) ?_);have H:=H.ext h1;have a:ae A1 19 [ag (af X.hb),aa x.vm] w1 (.bool (aS s.h.g x.vm)):=by
  obtain⟨B,e,b⟩:=H;obtain⟨A,j,L0,S,d, _⟩:=b.sat;exact qh S d x.vm
 refine⟨_,Km H hx,λ_=>rfl,λ_=>rfl,H.f0 ⟨λ_=>rfl,λ_=>rfl,H.cf hx (n:=3) (λ_=>rfl) ⟨_,λ_=>a,λ_=>rfl,λ_=>rfl,H.cf hx (n:=4) (y:=x.c) (λ_=>rfl) ⟨_,λ_=>EN _ _ _ _,λ_=>rfl,λ_=>rfl,λ_=>rfl,H.cf hx (n:=5) (λ_=>rfl) λk f=>⟨?_,f⟩⟩⟩⟩⟩;unfold jG;simp only[Gt]
end
theorem wV (x:Int): ∀l:List Int,l.Pairwise (λa b=>b<=a)->(jF x l).Pairwise (λa b=>b<=a)
 |[], _=>by simp[jF]
 |y::l,h=>by
  rw[jF];obtain⟨h1,e⟩:=HB.1 h;split
  ·rename_i c;refine HB.2 ⟨λz d=>?_,wV x l e⟩;rcases FR.1 ((vu x l).mem_iff.1 d) with rfl|d
   ·omega
   ·exact h1 z d
  ·rename_i c;refine HB.2 ⟨λz d=>?_,h⟩;rcases FR.1 d with rfl|d
   ·omega
   ·have:=h1 z d;omega
theorem uL: ∀(l a:List Int),a.Pairwise (λa b=>b<=a)->(l.foldl (λa x=>jF x a) a).Pairwise (λa b=>b<=a)
 |[], _,h=>h
 |x::l,a,h=>uL l _ (wV x a h)
theorem X6 {R l:List Int} (h:R.Pairwise (· <= ·)) (c:R.Perm l):R=mQ l:=by
 refine List.Perm.eq_of_pairwise (λa b _ _ h1 d=>by omega) h ?_ (c.trans (jQ l).symm);unfold mQ;rw[List.pairwise_reverse];exact uL l [] List.Pairwise.nil
theorem WQ (e:vM):(e_ e).now=KN e.pins e.now:=by unfold e_ KN;split<;>rfl
theorem Tp (e:vM):(e_ e).pins=e.pins:=by unfold e_;split<;>rfl
theorem vj (e:vM):(e_ e).ws=e.ws:=by unfold e_;split<;>rfl
theorem Qf (e:vM):e.now<=(e_ e).now/\(e_ e).now<=e.now+1:=by
 unfold e_;split
 ·exact⟨by show e.now<=e.now+1;omega,Gi _⟩
 ·omega
theorem Dq: ∀(l:List Int) (s:MS),(l.foldl g_ s).ms.length=s.ms.length+l.length
 |[],s=>rfl
 |f::l,s=>by
  rw[Gd,Dq l];show(s.ms++ _).length+l.length= _;simp only[GJ,Gw,KL];omega
section
variable {Q:Sys} {X:HX} {D G:List Nat} {w0 w w1:A2} {R:MR} {s:MS} {T L:List (Nat×List AB)} {M:List (Nat×B2)} {i:Nat} {x:bG} {g:Option Bool}
theorem MU.base (H:MU Q X D G w0 w R s T L M): ∃L0,aK D G w0 w L0/\ ∀x∈T,x∈L0:=by
 obtain⟨B,e,H⟩:=H;obtain⟨a,b,K, _⟩:=H.tmp;exact⟨_,K.base,λx hx=>Bx _ hx⟩
theorem MU.sat (H:MU Q X D G w0 w R s T L M): ∃A a L0,bj Q [] a w w s.h.s L0/\(X.hb,eA Q X A s.h.g)∈L0/\(∀i v,s.h.g i=some v-> ∀x∈gY Q A i v,x∈L0)/\
 ∀{T' b s'},bj Q [] a w b s' (T'++L0)->MU Q X D G w0 b R {s with h:=bA s.h s'} (T'++T) L M:=by
 obtain⟨B,e,H⟩:=H;obtain⟨A,a,L0,S,h1,c, _, _, _,J⟩:=H.sat;exact⟨A,a,L0,S,h1,c,λK=>⟨B,e,J K⟩⟩
theorem MU.del (H:MU Q X D G w0 w R s T L M) (f:Int) {K:A2->Prop} (k: ∀g,MU Q X D G w0 g R {s with kn:=s.kn.filter (λx=> !(x==f))} T L M->K g):
 ∃(r:Nat) (es:Array Do) (h:Nat),some R.kb=some r/\bH w r es h/\AD w r .i64 f es h K:=by
 obtain⟨B,rfl,H⟩:=H;obtain⟨p,q,a,J⟩:=H.kns;refine⟨B.kb,⟨B.ke⟩,B.kk,rfl,a.get (i:=0) rfl,?_⟩;unfold AD;by_cases c:f∈s.kn
 ·obtain⟨i,j,l,hv⟩:=H.wf.k.F6 (B5.2 ⟨f,c,rfl⟩);rw[show Gv (.int .i64) (aa f) (Array.mk B.ke).toList 0=some (some (i,.bool true)) from j];have b:=a.put (i:=0) rfl (o':= .map ⟨B.ke.eraseIdx i⟩ B.kk) trivial;have m:(Array.mk B.ke).eraseIdxIfInBounds i=⟨B.ke.eraseIdx i⟩:=by
   apply Array.ext';simp[Array.eraseIdxIfInBounds,l]
  show K (w.putObj B.kb (.map ((Array.mk B.ke).eraseIdxIfInBounds i) B.kk));rw[m];refine k _ ⟨{B with ke:=B.ke.eraseIdx i},rfl,J (kn:=s.kn.filter λx=> !(x==f)) ?_ b⟩;rw[List.filter_map] at hv;exact hv
 ·have n: ∀t∈s.kn.map (λf=>((f,.bool true):KV)),t.1≠f:=λt o e=>by
   obtain⟨y,d,rfl⟩:=B5.1 o;exact c (by rw[<-e];exact d)
  rw[show Gv (.int .i64) (aa f) (Array.mk B.ke).toList 0=some none from H.wf.k.OI n];have b:=a.put (i:=0) rfl (o':= .map ⟨B.ke⟩ B.kk) trivial;refine k _ ⟨B,rfl,J (ke:=B.ke) (kk:=B.kk) (kn:=s.kn.filter λx=> !(x==f)) ?_ b⟩;rw[List.filter_eq_self.2 λy d=>by simpa using λe:y=f=>c (e▸d)];exact H.wf.k
theorem Fu (H:MU Q X D G w0 w R s T L M) (O:s.ep.pins.length<=8) (P:0<=s.ep.now/\s.ep.now<4611686018427387000) (U:s.ep.ws.length<=1000000) (V: ∀e∈s.ep.ws,0<=e.2/\e.2<=s.ep.now) (q:s.ms.length<=900000000) {K:Int->A2->Prop}
 (k: ∀b,MU Q X D G w0 b R (cQ s).1 T L M->K (((cQ s).2:Nat):Int) b):aA A1 151 (.el (.one (.int .i64))) [ag (af R.mb)] w K:=by
 refine H.go λw1 H=>ai (C:=U2) (aT:=uG) (B1 (SU _ w1 K) ⟨rfl,rfl,H.f1 ?_⟩);have hle:=Qf s.ep;have Uo: ∀{b},MU Q X D G w0 b R s T L M-> ∀{h:Bool->A2->Prop},(∀v d,MU Q X D G w0 d R {s with ep:=e_ s.ep} T L M->h v d)->aA A1 197 (.el (.one .bool)) [ag (af R.eb)] b h:=by
  intro b a h t;obtain⟨B,rfl,a⟩:=a;obtain⟨E,W,m,J⟩:=a.eps;refine Ve m.base.again a.wf.p O ⟨P.1,by omega⟩ λv d Y=>t v d ⟨{B with sp:=B.sp,Lp:=B.Lp,we:=B.we,wk:=B.wk},rfl,J (ep:=e_ s.ep) (by rw[Tp];exact a.wf.p) (by rw[vj];exact a.wf.w) (by rw[WQ];exact m.join Y)⟩
 refine Uo H λv b H=>⟨rfl,rfl,H.f1 ?_⟩;have free: ∀{f:MS} {b},MU Q X D G w0 b R f T L M->f.ep=e_ s.ep-> ∀{h:Option AC×Nat×Nat->A2->Prop},(∀r g d,dv eI r (my f.ep) g->MU Q X D G w0 d R {f with ep:=CP f.ep} (g++T) L M->h r d)->aA A1 198 (.el (.one .slice)) [ag (af R.eb)] b h:=by
  intro f b a o h t;obtain⟨B,rfl,a⟩:=a;obtain⟨E,W,m,J⟩:=a.eps;refine SI m a.wf.w (by rw[o,vj];omega) B3 (λe q=>?_) (by rw[o];omega) λr Rr g Z d hso hpe hs hv K4=>?_
  ·rw[o,vj] at q;have:=V e q;rw[o];omega
  ·rw[X6 hso hpe] at hs;refine t r g d hs ⟨{B with sp:=B.sp,Lp:=B.Lp,we:=Z,wk:=B.wk},rfl,J (T':=g++T) (ep:=CP f.ep) a.wf.p hv (K4.perm (cq λy=>?_))⟩;show CJ y ((B.eb,oE f.ep.now B.sp B.wb)::(B.Lp++(g++T++E)))= _;simp only[AM,AY];omega
 refine free H rfl λr g d hs H=>?_;generalize u:my (e_ s.ep)=l at*
 have hlen:=hs.1;have hll:l.length<=1000000:=by
  rw[<-u];unfold my;rw[jN,DD];refine IR (Hb _ _) ?_;rw[vj];exact U
 refine⟨λn st z=> ∃j:Nat,j<=l.length/\n=l.length - j/\st.1=(j:Int)/\MU Q X D G w0 z R ((l.take j).foldl g_ {s with ep:=CP (e_ s.ep)}) (g++T) L M,⟨l.length,λz h4=>⟨0,Ef _,rfl,rfl,H.ext h4⟩⟩,?_⟩;clear H;rintro n ⟨i, _⟩ z ⟨j,F,oF,hi,H⟩;have hi:i=(j:Int):=hi;subst hi oF;dsimp only;rw[hlen];refine ab (λc=>?_) (λc=>?_)
 ·have F:j<l.length:=by have:=of_decide_eq_true c;omega
  obtain⟨x,hx⟩: ∃x,l[j]? =some x:=⟨_,Bf F⟩;obtain⟨L0,K0,hT⟩:=H.base;have I:=hs.sl K0 (λy hy=>hT y (Bx _ hy)) j x hx;refine⟨⟨I.1,by omega,by omega⟩,aj.of x (by rw[D8];exact I.2) ⟨rfl,rfl,H.f0 ?_⟩⟩;obtain⟨A,G',L0,S,hk, _,J⟩:=H.sat;refine E6 S hk x λN S=>?_;have H:=J (T':=[]) S;refine⟨rfl,rfl,H.f4 λw6 h6=>(H.ext h6).del x λw7 H=>uc H ?_ (2,0,x,(0,0,0,0,()),0,0) λw8 H w9 h9=>⟨l.length - (j+1),by omega,j+1,by omega,rfl,?_,?_⟩⟩
  ·show(List.foldl g_ _ (l.take j)).ms.length<= _;rw[Dq,KP];show s.ms.length+ _<= _;omega
  ·rw[av (by omega) (by omega)];omega
  ·rw[Hr,hx,I1];exact H.ext h9
 ·have:j=l.length:=by have:=of_decide_eq_false c;omega
  subst this;rw[Kq] at H;refine H.en λN H=>?_;have e:(cQ s).1=l.foldl g_ {s with ep:=CP (e_ s.ep)}:=by unfold cQ;rw[u]
  have e2:(cQ s).2=l.length:=by unfold cQ;rw[u]
  rw[e,e2] at k;exact k N (H.sub (F7 _ _))
end
abbrev Cx:Type:=(Int×Int×Unit)×Bool×Unit
abbrev Ov:Sh:= .bu [.agg ik,.one .bool]
theorem Tq {pins:List Int} {n:Nat} (h:n<pins.length):AI pins n (-1)=pins.set n (-1):=by
 unfold AI;split
 ·rename_i c;have e:pins.getD n 0= -1:=by simpa using c
  rw[CK,Bf h] at e;have e:pins[n]= -1:=e;rw[<-e];exact(List.set_getElem_self h).symm
 ·rfl
theorem Tr {e:vM} {n:Nat} (a:0<=e.now):{e with pins:=AI e.pins n e.now}=AP e n:=by
 unfold AI AP;have h0:(e.now== -1)=false:=by rw[beq_eq_false_iff_ne];omega
 rw[h0];by_cases c:e.pins.getD n 0= -1
 ·rw[aw c,ao (by rw[c];decide)]
 ·rw[ao c,aw (by rw[beq_eq_false_iff_ne.2 c])]
theorem WR (e:vM) (f:Int):OJ (e.ws.map F9) f e.now=(lj e f).ws.map F9:=by
 unfold OJ lj;rw[List.any_map];show(if e.ws.any (λx=>x.1==f)=true then _ else _)= _;split<;>rfl
theorem Dr (e:vM) (f:Int):(lj e f).now=e.now/\(lj e f).pins=e.pins:=by unfold lj;split<;>exact⟨rfl,rfl⟩
theorem zF: ∀(l:List Int) (e:vM),(l.foldl lj e).now=e.now/\(l.foldl lj e).pins=e.pins
 |[],e=>⟨rfl,rfl⟩
 |f::l,e=>by rw[Gd,(zF l _).1,(zF l _).2];exact Dr e f
section
variable {Q:Sys} {X:HX} {D G:List Nat} {w0 w w1:A2} {R:MR} {s:MS} {T L:List (Nat×List AB)} {M:List (Nat×B2)} {i:Nat} {x:bG} {g:Option Bool}
theorem MU.res {b:Nat} {l:List AB} (H:MU Q X D G w0 w R s ((b,l)::T) L M) (d:l.length=2) (V E:Int) (c:Bool) {K:Cx->A2->Prop} (k: ∀a,MU Q X D G w0 a R s T L M->K ((V,E,()),c,()) a):
 aC w (af b) [az V,aa E] λa=>au a λw1=>aj w1 none (af b) (El.agg [.int .u64,.int .i64]) λ(x:Int×Int×Unit)=>K ((x.1,x.2.1,()),c,()) w1:=
 H.st 0 rfl rfl d.symm λa H=>H.en λe H=>H.ld 0 rfl (show _=some (V,E,()) from rfl) (k e (H.sub (DB _ _)))
theorem MU.crd (H:MU Q X D G w0 w R s T L M) (hx:s.cs[i]? =some x) {n:Nat} {el:El} {y:el.T} (hv: ∀a:CA,k9 (jU a i x) n el=some y):cL w (ad (some ⟨R.cb i,0,none⟩) n) el y:=by
 obtain⟨z,h,e⟩:=H.cf (g:=none) (K:=λz=>z=y) hx hv rfl;subst e;exact h
theorem Cf (H:MU Q X D G w0 w R s T L M) (hc:i<s.ep.pins.length) {K:Int->A2->Prop} (k: ∀v b,MU Q X D G w0 b R {s with ep:=vb s.ep i} T L M->K v b):
 aA A1 158 (.el (.one (.int .i64))) [ag (af R.eb),aa (i:Int)] w K:=by
 refine λw1 h1=>?_;obtain⟨B,rfl,a⟩:=H.ext h1;obtain⟨g,h,c,J⟩:=a.eps;refine Lx c.base.again a.wf.p i hc (λv d e hs f=>k v e ⟨{B with sp:=B.sp,Lp:=d,we:=B.we,wk:=B.wk},rfl,J (ep:=vb s.ep i) ?_ a.wf.w (c.join f)⟩) w1 (Ext.refl w1);rw[Tq hc] at hs;exact hs
theorem WT (H:MU Q X D G w0 w R s T L M) (d:0<=s.ep.now) (hc:i<s.ep.pins.length) {K:Int->A2->Prop} (k: ∀v b,MU Q X D G w0 b R {s with ep:=AP s.ep i} T L M->K v b):
 aA A1 200 (.el (.one (.int .i64))) [ag (af R.eb),aa (i:Int)] w K:=by
 refine λw1 h1=>?_;obtain⟨B,rfl,a⟩:=H.ext h1;obtain⟨h,j,c,J⟩:=a.eps;refine Vd c.base.again a.wf.p i hc (λv e f hs g=>k v f ?_) w1 (Ext.refl w1);rw[<-Tr d];exact⟨{B with sp:=B.sp,Lp:=e,we:=B.we,wk:=B.wk},rfl,J (ep:={s.ep with pins:=AI s.ep.pins i s.ep.now}) hs a.wf.w (c.join g)⟩
theorem Ts (H:MU Q X D G w0 w R s T L M) (c:s.ep.pins.length<=8) (d:0<=s.ep.now/\s.ep.now<4611686018427387000) (f:s.ep.ws.length<=1000000) (g: ∀e∈s.ep.ws,0<=e.2/\e.2<=s.ep.now) (h:s.ms.length<=900000000) (p:Option AC) {K:Cx->A2->Prop}
 (k: ∀a,MU Q X D G w0 a R (cQ s).1 T L M->K ((0,0,()),false,()) a):aA A1 109 Ov [ag (af R.mb),ag p] w K:=by
 refine H.go λw1 H=>aQ (C:=U2) (aT:=λ_=>[]) (B1 (SV _ p w1 K) (H.al λb a H=>Fu H c d f g h λi H=>H.res rfl 0 0 false k))
theorem Tt (H:MU Q X D G w0 w R s T L M) (hx:s.cs[i]? =some x) (I:x.ak<4611686018427387904) (hfs:x.fs.length<=1000000) (N: ∀f∈x.fs,0<=f) {K:Cx->A2->Prop}
 (k: ∀l,MU Q X D G w0 l R (h_ s x).1 T L M->K ((if(h_ s x).2.2=true then((h_ s x).2.1.1,(h_ s x).2.1.2,()) else(0,0,())),(h_ s x).2.2,()) l):
 aA A1 113 Ov [ag (af R.mb),ag (some ⟨R.cb i,0,none⟩)] w K:=by
 refine H.go λw1 H=>aQ (C:=U2) (aT:=uH) (B1 (SX _ _ w1 K) (H.al λb l H=>⟨rfl,rfl,H.f2 ⟨rfl,rfl,H.cf hx (n:=12) (λ_=>rfl) ⟨tC s x.ak,?_,?_⟩⟩⟩))
 ·obtain⟨B,rfl,d⟩:=H;obtain⟨m,u,e,J⟩:=d.bxs;have q:=e.base.perm (L':=B.Lo++((B.xb,lS B.sb B.so)::(B.Lb++((b,[az 0,aa 0])::T++m)))) (cq λy=>by simp only[AM,AY];omega);exact Wq q B3 d.wf.o x.ak I
 ·unfold h_ at k;refine ab (λc=>?_) (λc=>?_)
  ·have c:tC s x.ak=false:=by simpa using c
   rw[c] at k;exact H.res rfl 0 0 false k
  ·have c:tC s x.ak=true:=by simpa using c
   rw[c] at k;obtain⟨B,rfl,d⟩:=H;refine⟨rfl,rfl,d.YU hx (n:=13) (show _=some ((B.A i).sf.1,(B.A i).sf.2.1,(B.A i).sf.2.2) from rfl) ?_⟩;have O:(B.A i).sf.2.1=x.fs.length:=(d.wf.a hx).fs.1;refine⟨λn st g=> ∃(j:Nat) (we:List Do) (wk:Nat),j<=x.fs.length/\n=x.fs.length - j/\st.1=(j:Int)/\iH Q X D G w0 g {B with we:=we,wk:=wk} {s with ep:=(x.fs.take j).foldl lj s.ep} ((b, _)::T) L M,⟨x.fs.length,λg P=>⟨0,B.we,B.wk,Ef _,rfl,rfl,d.ext P⟩⟩,?_⟩;rintro n ⟨S, _⟩ g ⟨j,we,wk,z,U,hi,H⟩;have hi:S=(j:Int):=hi;subst hi U;dsimp only;rw[O];refine ab (λc=>?_) (λc=>?_)
   ·have z:j<x.fs.length:=by have:=of_decide_eq_true c;omega
    obtain⟨f,r⟩: ∃f,x.fs[j]? =some f:=⟨_,Bf z⟩;have h:({s with ep:=(x.fs.take j).foldl lj s.ep}:MS).cs[i]? =some x:=hx;obtain⟨m,u,e,hh, _,hc, _⟩:=H.tmp;have E:=(H.wf.a h).fs.sl e.base (λy F=>B4 _ (hc h _ (Ay _ (Ay _ (B4 _ (Bx _ F)))))) j f r;refine⟨⟨E.1,by omega,by omega⟩,aj.of f (by rw[D8];exact E.2) ⟨rfl,rfl,H.rC (show _=some (af B.eb) from rfl) ?_⟩⟩;obtain⟨m,u,e,J⟩:=H.eps;refine Vf e B3 H.wf.w (λt V=>?_) f (N f (DI r)) λv W Y w5 hv q w6 Z=>⟨x.fs.length - (j+1),by omega,j+1,W,Y,by omega,rfl,?_,?_⟩
    ·obtain⟨y,F,rfl⟩:=B5.1 V;exact⟨_,rfl⟩
    ·rw[av (by omega) (by omega)];omega
    ·rw[Hr,r,I1];rw[WR] at hv;refine iH.ext (J (sp:=B.sp) (ep:=lj ((x.fs.take j).foldl lj s.ep) f) ?_ hv ?_) Z
     ·rw[(Dr _ f).2];exact H.wf.p
     ·rw[(Dr _ f).1];exact q
   ·have:j=x.fs.length:=by have:=of_decide_eq_false c;omega
    subst this;rw[Kq] at H;have H:MU Q X D G w0 g B.rt {s with ep:=x.fs.foldl lj s.ep} ((b, _)::T) L M:=⟨{B with we:=we,wk:=wk},rfl,H⟩;have h:({s with ep:=x.fs.foldl lj s.ep}:MS).cs[i]? =some x:=hx;exact⟨rfl,rfl,H.cf h (n:=10) (y:=(x.rs.1,x.rs.2,())) (λ_=>rfl) (H.res rfl _ _ true k)⟩
end
theorem ac3 {a:Int} (h:0<=a):aE .i64 (dz a 16)=a % 16:=by
 have e:dz a 16=a % 16:=by
  unfold dz;exact M5 h
 rw[e];exact bJ (by omega)
theorem atU {f a:Int} (c:0<=f/\f<4096) (b:0<=a):aH .i64 (gq .i64 16 f) (aE .i64 (dz a 16))=16*f+a % 16:=by
 rw[ac3 b,eO (by omega) (by omega),av (by omega) (by omega)]
section
variable {Q:Sys} {X:HX} {D G:List Nat} {w0 w w1:A2} {R:MR} {s:MS} {T L:List (Nat×List AB)} {M:List (Nat×B2)} {i:Nat} {x:bG} {g:Option Bool}
theorem Ab (H:MU Q X D G w0 w R s T L M) {K:Option AC->A2->Prop} (k: ∀a,MU Q X D G w0 a R s T L M->K (af Q.bm) a):
 aA A1 23 (.el (.one .ptr)) [ag (af X.hb)] w K:=by
 obtain⟨A,c,L0,S,b, _,J⟩:=H.sat;exact z5 S b λa S=>k a (J (T':=[]) S)
theorem NL (H:MU Q X D G w0 w R s T L M) (hx:s.cs[i]? =some x) (d:0<=x.fr/\x.fr<4096) (e:cg x.c.2.1) (hb:cg x.c.2.2.1) (hc:i<s.ep.pins.length) (o:s.ms.length<=900000000) {K:Cx->A2->Prop}
 (k: ∀a,MU Q X D G w0 a R (fB s i x).1 T L M->K (((fB s i x).2.1.1,0,()),true,()) a):
 aA A1 112 Ov [ag (af R.mb),ag (some ⟨R.cb i,0,none⟩)] w K:=by
 refine H.go λw1 H=>aQ (C:=U2) (aT:=λ_=>[]) (B1 (Np _ _ w1 K) (H.al λb a H=>⟨rfl,rfl,H.cf hx (n:=9) (λ_=>rfl) ⟨rfl,rfl,rfl,H.cf hx (n:=5) (λ_=>rfl) ⟨rfl,rfl,H.f1 ⟨rfl,rfl,H.cf hx (n:=0) (λ_=>rfl) ?_⟩⟩⟩⟩));rw[atU d e.1];unfold fB at k;dsimp only at k;refine Cf H hc λv p H=>⟨rfl,rfl,rfl,H.cf hx (n:=4) (λ_=>rfl) ?_⟩;refine ab (λc=>?_) (λc=>?_)
 ·have c:x.c.1=7:=by simpa using c
  rw[aw c] at k;refine⟨rfl,rfl,H.f0 ⟨rfl,rfl,rfl,H.cf hx (n:=6) (λ_=>rfl) (Ab H λf H=>⟨H.crd hx (n:=6) λ_=>rfl,trivial,trivial,trivial,?_⟩)⟩⟩;obtain⟨A,g,L0,S,j, _,J⟩:=H.sat;refine S.store _ _ hb λl S=>?_;have H:=J (T':=[]) S;exact⟨rfl,rfl,rfl,H.cf hx (n:=6) (λ_=>rfl) (uc H (by show s.ms.length<= _;omega) (4,0,16*x.fr+x.c.2.1 % 16,(0,0,0,0,()),x.c.2.2.1,0) λm H=>H.res rfl 0 0 true k)⟩
 ·have c:x.c.1≠7:=by simpa using c
  rw[ao c] at k;refine⟨rfl,rfl,H.f0 (Ab H λf H=>?_)⟩;obtain⟨A,g,L0,S,j, _,J⟩:=H.sat;refine S.load _ λl S=>?_;have H:=J (T':=[]) S;exact uc H (by show s.ms.length<= _;omega) (3,0,16*x.fr+x.c.2.1 % 16,(0,0,0,0,()),dQ s.h.s.1 (16*x.fr+x.c.2.1 % 16),0) λm H=>H.res rfl _ 0 true k
end
open Go.RX D
theorem Tu {ws:List Int} {p t:Int} {x:Int×Int×FT} (h:0<=x.2.1/\x.2.1<=3):(bF ws p t x).2.1= -1\/((bF ws p t x).2.1=x.2.1 - 1/\0<x.2.1):=by
 unfold bF;rw[ao (by omega)];split
 ·exact .inl rfl
 ·exact JE h
section
variable {Q:Sys} {X:HX} {D G:List Nat} {w0 w w1:A2} {B:MB} {R:MR} {s:MS} {T L:List (Nat×List AB)} {M:List (Nat×B2)} {i:Nat} {x:bG} {g:Option Bool}
theorem iH.walk (H:iH Q X D G w0 w B s T L M) (hx:s.cs[i]? =some x) (u:x.ph=2): ∃(bk:Nat) (k:Option AC×Nat×Nat) (l:List (Nat×List AB)) (xs:List Int) (p:List (Nat×List AB)) (q:List (Nat×B2)) (ca la:Int),(B.A i).wp=some ⟨bk,0,none⟩/\Cu l k xs/\(xs.length:Int)<=3 - x.wk.2.1/\yR s.h.s/\
 cF D G w0 w ((bk,lV x.wk.1 (x.c.2.1 / 16) (a7 x.c.1) x.wk.2.1 x.wk.2.2 k)::(Q.bm,l7 Q.bw s.h.s.1.length Q.c ca la)::(Q.bw,flat eW s.h.s.1++Q.rw)::(l++p)) q/\
 ∀{xk:Int×Int×FT} {b:Option AC×Nat×Nat} {d:List (Nat×List AB)} {m:List Int} {e f:Int} {w':A2},Cu d b m->(m.length:Int)<=3 - xk.2.1->
  cF D G w0 w' ((bk,lV xk.1 (x.c.2.1 / 16) (a7 x.c.1) xk.2.1 xk.2.2 b)::(Q.bm,l7 Q.bw s.h.s.1.length Q.c e f)::(Q.bw,flat eW s.h.s.1++Q.rw)::(d++p)) q->MU Q X D G w0 w' B.rt (bS s i {x with wk:=xk}) T L M:=by
 obtain⟨A,ca,la,h1,r,n,v⟩:=H;obtain⟨bk,k,l,xs,t,z,C,o⟩:=(n.a hx).wk u;have E:=lN (B:=B) hx;refine⟨bk,k,l,xs,((B.A i).cb,jU (B.A i) i x)::((B.A i).tb,dq (B.A i).st s.sz)::((B.A i).Lt++((B.A i).Lf++(T++(IU X B s++(iv B s ((AL s.cs.length).erase i)++((Q.bf,flat eD s.h.s.2++Q.rf)::(Q.bp,[.slice (af Q.bf) s.h.s.2.length Q.cp])::(d_ Q X A s.h (a_ Q A s.h.g (AL 17))++L))))))), _,ca,la,t,C,o,r,v.perm ?_,λ{xk b d m e f w'} F I K=>?_⟩
 ·refine IV ?_ (DV T (DV _ (GF _ E.symm)));unfold s8;rw[z];exact cq λy=>by simp only[Sys.L,AM,AY];omega
 ·refine⟨DH B i {B.A i with Lw:=(bk,lV xk.1 (x.c.2.1 / 16) (a7 x.c.1) xk.2.1 xk.2.2 b)::d},X5 rfl rfl,A,e,f,h1,r,n.up hx rfl ⟨(n.a hx).ls,(n.a hx).fs,λ_=>⟨bk,b,d,m,t,rfl,F,I⟩⟩,K.perm ?_⟩;generalize J:({B.A i with Lw:=(bk,lV xk.1 (x.c.2.1 / 16) (a7 x.c.1) xk.2.1 xk.2.2 b)::d}:CA)=a;have N:(bS s i {x with wk:=xk}).cs[i]? =some {x with wk:=xk}:=fh hx;have o:(bS s i {x with wk:=xk}).cs.length=s.cs.length:=DJ ..;have:=lN (B:=DH B i a) N;rw[m_,o,z_ (s:=s) (s':=bS s i {x with wk:=xk}) rfl λj O=>(show(s.cs.set i {x with wk:=xk})[j]? =s.cs[j]? from Et (λc=>O c.symm))] at this;rw[o];refine(DV T (DV _ (GF _ this))).trans ?_;subst J;show(T++(IU X B s++(s8 {B.A i with Lw:=(bk,lV xk.1 (x.c.2.1 / 16) (a7 x.c.1) xk.2.1 xk.2.2 b)::d} i {x with wk:=xk} s.sz++iv B s ((AL s.cs.length).erase i)++(Ge Q X A e f s.h++L)))).Perm _;unfold s8;show(T++(IU X B s++(((B.A i).cb,jU (B.A i) i x)::((B.A i).tb,dq (B.A i).st s.sz)::((B.A i).Lt++((B.A i).Lf++((bk,lV xk.1 (x.c.2.1 / 16) (a7 x.c.1) xk.2.1 xk.2.2 b)::d)))++iv B s ((AL s.cs.length).erase i)++(Ge Q X A e f s.h++L)))).Perm _;exact cq λy=>by simp only[Sys.L,AM,AY];omega
theorem MU.rd (H:MU Q X D G w0 w R s T L M) (i:Nat) {el:El} {b n:Nat} {l:List AB} {x:el.T} (a:T[i]? =some (b,l)) (hv:k9 l n el=some x):cL w (ad (af b) n) el x:=by
 obtain⟨z,h,e⟩:=H.cJ (g:=none) (K:=λz=>z=x) i a hv rfl;subst e;exact h
theorem MU.wp (H:MU Q X D G w0 w R s T L M) (hx:s.cs[i]? =some x) (b:x.ph=2): ∃(bk:Nat) (a:Option AC×Nat×Nat) (L0:List (Nat×List AB)),aK D G w0 w L0/\(bk,lV x.wk.1 (x.c.2.1 / 16) (a7 x.c.1) x.wk.2.1 x.wk.2.2 a)∈L0/\ ∀{g:Option Bool} {K:Option AC->Prop},K (af bk)->aj w g (ad (some ⟨R.cb i,0,none⟩) 8) (.one .ptr) K:=by
 obtain⟨B,rfl,H⟩:=H;obtain⟨bk,a,e,xs,f,h,ca,la,d, _, _, _,K, _⟩:=H.walk hx b;exact⟨bk,a, _,K.base,B3,λk=>H.YU hx (n:=8) (show _=some (B.A i).wp from rfl) (by rw[d];exact k)⟩
theorem Tv (H:MU Q X D G w0 w R s T L M) (hx:s.cs[i]? =some x) (f:(x.ls.length:Int)<=s.sz) (g:0<s.sz/\s.sz<=64) (l:LT) (h:lnR l=true) {K:Int->A2->Prop}
 (k: ∀b,MU Q X D G w0 b R (bS s i {x with ls:=qW x.ls s.sz l}) T L M->K 0 b):
 aA A1 159 (.el (.one (.int .i64))) [ag (some ⟨R.tb i,0,none⟩),lnV l] w K:=by
 obtain⟨a,c,j,p,hb,W,m,J⟩:=H.DG hx;have d:cF D G w0 w ((R.tb i,dq a.st s.sz)::(a.Lt++((a.cb,jU a i x)::(a.Lf++(a.Lw++(T++c)))))) j:=m.perm (cq λy=>by rw[<-hb];simp only[s8,AM,AY];omega);refine λw1 h1=>QH (d.ext h1).base.again W.ls f g l h (λs' e b n o=>k b (J (a':={a with st:=s',Lt:=e}) rfl rfl ⟨n,W.fs,W.wk⟩ (((d.ext h1).join o).perm (cq λy=>?_)))) w1 (Ext.refl w1);show CJ y ((a.cb,jU a i x)::(a.tb,dq s' s.sz)::(e++(a.Lf++a.Lw))++(T++c))= _;rw[<-hb];simp only[AM,AY];omega
theorem Tw (H:MU Q X D G w0 w R s T L M) (hx:s.cs[i]? =some x) (r:x.ph=2) (U:0<=x.wk.2.1/\x.wk.2.1<=3) (V:cg x.c.2.1) (hc:i<s.ep.pins.length) (W:(x.ls.length:Int)<=s.sz) (Y:0<s.sz/\s.sz<=64)
 (u:(bF s.h.s.1 (x.c.2.1 / 16) (a7 x.c.1) x.wk).2.1= -1->(bF s.h.s.1 (x.c.2.1 / 16) (a7 x.c.1) x.wk).2.2.2.2.2.1=0->lnR (x.vm,x.c.2.1 / 16,(bF s.h.s.1 (x.c.2.1 / 16) (a7 x.c.1) x.wk).2.2.1,(bF s.h.s.1 (x.c.2.1 / 16) (a7 x.c.1) x.wk).2.2.2.1,())=true) {K:Cx->A2->Prop}
 (k: ∀q,MU Q X D G w0 q R (j7 s i x).1 T L M->K ((0,(j7 s i x).2.1.2,()),(j7 s i x).2.2,()) q):
 aA A1 111 Ov [ag (af R.mb),ag (some ⟨R.cb i,0,none⟩)] w K:=by
 refine H.go λw1 H=>aQ (C:=U2) (aT:=λ_=>[]) (B1 (SW _ _ w1 K) (H.al λb q H=>?_));unfold j7 at k;generalize E:bF s.h.s.1 (x.c.2.1 / 16) (a7 x.c.1) x.wk=Z at*
 have F:=Tu (ws:=s.h.s.1) (p:=x.c.2.1 / 16) (t:=a7 x.c.1) U;rw[E] at F;obtain⟨wf,wl,Av,d,j,f,⟨⟩⟩:=Z;dsimp only at k u F;obtain⟨B,rfl,m⟩:=H;refine⟨rfl,rfl,m.YU hx (n:=8) (show _=some (B.A i).wp from rfl) ⟨rfl,rfl,m.rC (show _=some (af X.hb) from rfl) ?_⟩⟩;obtain⟨A,G',L0,S,hk, _, _, _, _,J⟩:=m.sat;refine z5 S hk λI S=>?_;have m:iH Q X D G w0 I B s ((b,[az 0,aa 0])::T) L M:=J (T':=[]) S;have pj:cL I (ad (some ⟨(B.A i).cb,0,none⟩) 8) (.one .ptr) (B.A i).wp:=by
  obtain⟨z,h,e⟩:=m.YU (g:=none) (el:= .one .ptr) (K:=λz=>z=(B.A i).wp) hx (n:=8) (show _=some (B.A i).wp from rfl) rfl;subst e;exact h
 refine⟨pj,trivial,trivial,?_⟩;obtain⟨bk,s2,Lq,xs,R',Mo,ca,la,e1,hp,hxl,N,O,J⟩:=m.walk hx r;rw[e1];refine EJ O.base.again hp (by omega) rfl N.1 N.2.2.2 (by omega) λw4 cK s3 oB o=>?_;have hw':bF s.h.s.1 (x.c.2.1 / 16) (a7 x.c.1) (x.wk.1,x.wk.2.1,x.wk.2.2)=(wf,wl,Av,d,j,f,()):=E;rw[hw'] at o ⊢;have H:=J (xk:=(wf,wl,Av,d,j,f,())) oB (by rw[GJ,I2];dsimp only;omega) (O.join o);have l:=fh (y:={x with wk:=(wf,wl,Av,d,j,f,())}) hx;refine ab (λc=>?_) (λc=>?_)
 ·have c:wl≠ -1:=by simpa using c
  rw[aw c] at k;exact H.res rfl 0 0 false k
 ·have c:wl= -1:=by simpa using c
  subst c;rw[ao (by decide)] at k;obtain⟨bk',s2',L2,o,hm,Yn⟩:=H.wp l r;have Zd:ae A1 24 [ag (af bk')] w4 ((Sh.bu [.agg sF,.one .bool]).ia ((Av,d,j,f,()),true,())):=ae.of λw5 h5=>Vv ((o.ext h5).dp _ hm);refine⟨rfl,rfl,Yn ⟨((Av,d,j,f,()),true,()),Zd,H.al λb1 w5 H=>H.st 0 rfl rfl rfl λw6 H=>⟨rfl,H.cJ 0 rfl (show _=some f from rfl) ?_⟩⟩⟩;refine ab (λc=>?_) (λc=>?_)
  ·have c:f≠0:=by simpa using c
   rw[aw c] at k;refine⟨rfl,rfl,H.f1 ⟨rfl,rfl,H.cf l (n:=0) (λ_=>rfl) (Cf H hc λv w7 H=>⟨rfl,H.cJ 0 rfl (show _=some f from rfl) ?_⟩)⟩⟩;exact MU.res (H.sub (DB _ _)) rfl 0 f true k
  ·have c:f=0:=by simpa using c
   rw[ao (by rw[c];decide)] at k;have rE:=Kl H l V;refine⟨rfl,rfl,H.c1 l ⟨rfl,rfl,H.cf l (n:=3) (λ_=>rfl) ⟨x.c.2.1 / 16,rE,rfl,H.cJ 0 rfl (show _=some Av from rfl) ⟨rfl,H.cJ 0 rfl (show _=some d from rfl) ?_⟩⟩⟩⟩;refine Tv H l W Y (x.vm,x.c.2.1 / 16,Av,d,()) (u rfl c) λw7 H=>⟨rfl,H.cJ 0 rfl (show _=some Av from rfl) ?_⟩;have P:=fh (y:={x with wk:=(wf,-1,Av,d,j,f,()),ls:=qW x.ls s.sz (x.vm,x.c.2.1 / 16,Av,d,())}) l;refine⟨rfl,rfl,H.cs P {x with wk:=(wf,-1,Av,d,j,f,()),ls:=qW x.ls s.sz (x.vm,x.c.2.1 / 16,Av,d,()),ph:=3} 2 rfl rfl (λ_=>rfl) (λa h=>⟨h.ls,h.fs,λc=>(by cases c)⟩) λw8 H=>⟨H.rd 0 rfl (show _=some Av from rfl),trivial,rfl,rfl,?_⟩⟩;have KG:=fh (y:={x with wk:=(wf,-1,Av,d,j,f,()),ls:=qW x.ls s.sz (x.vm,x.c.2.1 / 16,Av,d,()),ph:=3}) P;refine H.cs KG {x with wk:=(wf,-1,Av,d,j,f,()),ls:=qW x.ls s.sz (x.vm,x.c.2.1 / 16,Av,d,()),ph:=3,fr:=Av} 9 rfl rfl (λ_=>rfl) (λa h=>⟨h.ls,h.fs,λc=>(by cases c)⟩) λw9 H=>?_;simp only[kW] at H;exact MU.res (H.sub (DB _ _)) rfl 0 0 false k
end
theorem Tx (ls:List LT) (t p w:Int):yE ls t p w=((mW ls t p w).1,(mW ls t p w).2,()):=by
 show yE ls t p w= _;unfold yE mW;rw[show(λx=>mr x t p)=CO t p from rfl];cases ls.find? (CO t p) with
 |none=>rfl
 |some l=>
  dsimp only;split<;>rfl
def Eb (s:MS) (n:Nat) (x:bG) (i:Nat):Bool:=match s.cs[i]? with
 |none=>false
 |some y=>decide (i≠n/\x.vm=0)&&((x.c.1==1&&(y.ph==4&&y.c.1==2))||(x.c.1==2&&(decide (y.ph>=2)&&(decide (y.vm>0)&&y.vm==x.c.2.1))))
section
variable {Q:Sys} {X:HX} {D G:List Nat} {w0 w w1:A2} {B:MB} {R:MR} {s:MS} {T L:List (Nat×List AB)} {M:List (Nat×B2)} {i:Nat} {x:bG} {g:Option Bool}
theorem MU.cbk (H:MU Q X D G w0 w R s T L M) (hx:s.cs[i]? =some x): ∃l,bN w (R.cb i) l:=by
 obtain⟨a,d,e,b,hb,W,c,J⟩:=H.DG hx;rw[<-b];exact⟨_,c.base.dp _ B3⟩
theorem MU.cne (H:MU Q X D G w0 w R s T L M) (hx:s.cs[i]? =some x) {j:Nat} {y:bG} (b:s.cs[j]? =some y) (c:j≠i):R.cb j≠R.cb i:=by
 obtain⟨B,rfl,A,ca,la,h1,l,m,d⟩:=H;have f:=lN (B:=B) hx;have g:=d.perm (L':=s8 (B.A i) i x s.sz++(T++(IU X B s++(iv B s ((AL s.cs.length).erase i)++(Ge Q X A ca la s.h++L))))) (by
  refine IV ?_ (DV T (DV _ (GF _ f.symm)));exact cq λa=>by simp only[AM,AY];omega)
 have nd:=g.base.nd;have k:((B.A j).cb,jU (B.A j) j y)∈iv B s ((AL s.cs.length).erase i):=by
  unfold iv;refine H6.2 ⟨j,?_,by rw[b];exact B3⟩;rw[KC.mem_erase_iff];exact⟨c,DA.2 (Ax.1 b).1⟩
 intro e;have e:(B.A j).cb=(B.A i).cb:=e;unfold s8 at nd;rw[List.cons_append,List.map_cons,F4] at nd;refine nd.1 (B5.2 ⟨((B.A j).cb,jU (B.A j) j y),?_,e⟩);exact B4 _ (B4 _ (B4 _ (Bx _ k)))
theorem MU.f3 (H:MU Q X D G w0 w R s T L M): ∃sc:Option AC×Nat×Nat,sc.2.1=s.cs.length/\(∀{g:Option Bool} {K:Option AC×Nat×Nat->Prop},K sc->aj w g (ad (af R.mb) 3) (.one .slice) K)/\ ∀{w1},Ext w w1-> ∀i,i<s.cs.length->sc.1.isSome=true/\cL w1 (ad sc.1 (i*1)) (.one .ptr) (some ⟨R.cb i,0,none⟩):=by
 obtain⟨B,rfl,H⟩:=H;have W:=H.wf;refine⟨B.sc,by rw[W.c.1,DD,E5],λk=>H.rC (show _=some (B.sc.1,B.sc.2.1,B.sc.2.2) from rfl) k,λh1 i hi=>?_⟩;obtain⟨d,e,K,a, _, _, _⟩:=(H.ext h1).tmp;exact W.c.sl K.base (λy b=>B4 _ (a _ (Ay _ (Ay _ (Ay _ (Bx _ b)))))) i (some ⟨(B.A i).cb,0,none⟩) (by rw[GI,H7 hi];rfl)
theorem IG (H:MU Q X D G w0 w R s T L M) (hx:s.cs[i]? =some x) (O:s.cs.length<=8) (hv: ∀y∈s.cs,y.vm<9223372036854775808):ae A1 154 [ag (af R.mb),ag (some ⟨R.cb i,0,none⟩)] w (.bool (nJ s i x)):=by
 refine ae.of (s:= .el (.one .bool)) λw1 h1=>ai (C:=U2) (aT:=oz) (B1 (FK _ _ w1 _) ?_);have H:=H.ext h1;have q:nJ s i x=(AL s.cs.length).any (Eb s i x):=rfl;obtain⟨sc,v,z,A⟩:=H.f3;refine⟨rfl,rfl,z ?_⟩;rw[v];refine⟨λn st h=> ∃j:Nat,j<=s.cs.length/\n=s.cs.length - j/\st.1=(j:Int)/\(∀k,k<j->Eb s i x k=false)/\Ext w1 h,⟨s.cs.length,λh g=>⟨0,Ef _,rfl,rfl,λk m=>absurd m (N4 k),g⟩⟩,?_⟩;rintro n ⟨B, _⟩ h ⟨j,o,E,hi,r,g⟩;have hi:B=(j:Int):=hi;subst hi E;dsimp only;have H:=H.ext g;refine ab (λc=>?_) (λc f l=>⟨?_,Ext.trans g l⟩)
 ·have o:j<s.cs.length:=by have:=of_decide_eq_true c;omega
  obtain⟨y,d⟩: ∃y,s.cs[j]? =some y:=⟨_,Bf o⟩;have P:=hv y (DI d);have t:=A g j o;have hb:Eb s i x j=(decide (j≠i/\x.vm=0)&&((x.c.1==1&&(y.ph==4&&y.c.1==2))||(x.c.1==2&&(decide (y.ph>=2)&&(decide (y.vm>0)&&y.vm==x.c.2.1))))):=by
   unfold Eb;rw[d]
  have next:Eb s i x j=false-> ∀f,Ext h f-> ∃u:Nat,u<s.cs.length - j/\ ∃p:Nat,p<=s.cs.length/\u=s.cs.length - p/\aH .i64 (j:Int) 1=(p:Int)/\(∀k,k<p->Eb s i x k=false)/\Ext w1 f:=λhb f l=>by
   refine⟨s.cs.length - (j+1),by omega,j+1,by omega,rfl,?_,λk m=>?_,Ext.trans g l⟩
   ·rw[av (by omega) (by omega)];omega
   ·by_cases e:k=j
    ·subst e;exact hb
    ·exact r k (by omega)
  have yes:Eb s i x j=true-> ∀f,Ext h f->true=nJ s i x/\Ext w1 f:=λhb f l=>⟨by
   rw[q];exact(FP.2 ⟨j,DA.2 o,hb⟩).symm,Ext.trans g l⟩
  have F:decide ((some ⟨R.cb j,0,none⟩:Option AC)=some ⟨R.cb i,0,none⟩)=decide (j=i):=by
   by_cases e:j=i
   ·subst e;simp
   ·have:=H.cne hx d e;rw[decide_eq_false e,decide_eq_false_iff_not];intro c;exact this (congrArg Addr.block (Option.some.inj c))
  refine⟨⟨t.1,by omega,by omega⟩,aj.of (some ⟨R.cb j,0,none⟩) (by rw[D8];exact t.2) ⟨?_,λ_=>rfl,λ_=>rfl,H.cf hx (n:=3) (λ_=>rfl) ?_⟩⟩
  ·intro a b I hb _;cases I;cases hb;obtain⟨S,t1,J⟩:=H.cbk d;obtain⟨U,t2,K⟩:=H.cbk hx;exact⟨⟨_, _,J⟩,⟨_, _,K⟩⟩
  ·rw[F];refine ab (λc=>next ?_) (λc=>?_)
   ·rw[hb,Bool.and_eq_false_iff];left;simp only[Gj,decide_eq_true_eq,bne_iff_ne] at c;rw[decide_eq_false_iff_not];rintro⟨c1,c2⟩;rcases c with c|c
    ·exact c1 c
    ·exact c c2
   ·have c0:j≠i/\x.vm=0:=by simpa using c
    rw[decide_eq_true c0,Bool.true_and] at hb;refine⟨rfl,rfl,rfl,H.cf hx (n:=4) (λ_=>rfl) ⟨λ_=>rfl,λ_=>rfl,H.cf d (n:=2) (λ_=>rfl) ⟨λ_=>rfl,λ_=>rfl,λ_=>rfl,H.cf d (n:=4) (λ_=>rfl) ?_⟩⟩⟩;refine ab (λc=>yes ?_) (λc1=>?_)
    ·rw[hb,Gj];left;rw[<-Gt];exact c
    ·refine⟨rfl,rfl,rfl,H.cf hx (n:=4) (λ_=>rfl) ⟨λ_=>rfl,λ_=>rfl,H.cf d (n:=2) (λ_=>rfl) ⟨λ_=>rfl,λ_=>rfl,H.cf d (n:=3) (λ_=>rfl) ⟨λ_=>rfl,λ_=>rfl,H.cf d (n:=3) (λ_=>rfl) ⟨λ_=>rfl,λ_=>rfl,λ_=>rfl,H.cf hx (n:=5) (λ_=>rfl) ?_⟩⟩⟩⟩⟩;have e:(x.c.1==2&&decide (y.ph>=2)&&decide (y.vm>0)&&aE .u64 y.vm==x.c.2.1)=Eb s i x j:=by
      rw[hb];rw[show(x.c.1==1&&(y.ph==4&&y.c.1==2))=false from by rw[<-Gt];exact c1,IQ];by_cases N:y.vm>0
      ·rw[dK (by omega)];simp only[Gt]
      ·rw[decide_eq_false N];simp
     rw[e];exact ab (λc=>yes c) (λc=>next c)
 ·have:j=s.cs.length:=by have:=of_decide_eq_false c;omega
  subst this;rw[q];symm;rw[H5];intro k m;rw[r k (DA.1 m)];decide
theorem Ty (H:MU Q X D G w0 w R s T L M) (hx:s.cs[i]? =some x) (t:0<=s.ep.now) (hc:i<s.ep.pins.length) (u:(x.ls.length:Int)<=64) (z:0<s.sz) (l:cg x.c.2.1) (B:u_ (a8 s.h.g x.vm) (x.c.2.1 / 16) (a7 x.c.1)=false) (E:jG s.h x=true) {K:Unit->A2->Prop}
 (k: ∀b,MU Q X D G w0 b R (cZ s i x).1 T L M->K () b):
 aA A1 153 (.bu []) [ag (af R.mb),ag (some ⟨R.cb i,0,none⟩)] w K:=by
 unfold cZ at k;rw[aw E] at k;refine H.go λw1 H=>ai (C:=U2) (aT:=λ_=>[]) (B1 (SY _ _ w1 K) ⟨rfl,rfl,H.f1 ⟨rfl,rfl,H.cf hx (n:=0) (λ_=>rfl) (WT H t hc λv b H=>?_)⟩⟩);have F:ae A1 201 [ag (some ⟨R.tb i,0,none⟩),aa x.vm,aa (x.c.2.1 / 16),aa (a7 x.c.1)] b ((Sh.bu [.one (.int .i64),.one (.int .i64)]).ia ((mW x.ls x.vm (x.c.2.1 / 16) (a7 x.c.1)).1,(mW x.ls x.vm (x.c.2.1 / 16) (a7 x.c.1)).2,())):=by
  rw[<-Tx];obtain⟨a,d,m,l,hb,W,e,J⟩:=H.DG hx;have f:cF D G w0 b ((R.tb i,dq a.st s.sz)::(a.Lt++((a.cb,jU a i x)::(a.Lf++(a.Lw++(T++d)))))) m:=e.perm (cq λy=>by rw[<-hb];simp only[s8,AM,AY];omega);exact Vg f.base W.ls u z _ _ _
 have o:=Kl H hx l;have p:=Km H hx;refine⟨rfl,rfl,H.c1 hx ⟨rfl,rfl,H.cf hx (n:=3) (λ_=>rfl) ⟨_,o, _,p, _,F,?_⟩⟩⟩;dsimp only at k ⊢;refine ab (λc=>?_) (λc=>?_)
 ·have c:(mW x.ls x.vm (x.c.2.1 / 16) (a7 x.c.1)).2=0:=by simpa using c
  rw[aw c] at k;refine⟨rfl,rfl,H.cs hx {x with ph:=3} 2 rfl rfl (λ_=>rfl) (λa h=>⟨h.ls,h.fs,λc=>(by cases c)⟩) λj H=>⟨rfl,rfl,?_⟩⟩;refine H.cs (fh hx) {x with ph:=3,fr:=(mW x.ls x.vm (x.c.2.1 / 16) (a7 x.c.1)).1} 9 rfl rfl (λ_=>rfl) (λa h=>⟨h.ls,h.fs,λc=>(by cases c)⟩) λI H=>H.en λq H=>?_;rw[kW] at H;exact k q H
 ·have c:(mW x.ls x.vm (x.c.2.1 / 16) (a7 x.c.1)).2≠0:=by simpa using c
  rw[ao c] at k;have N:ae A1 21 [ag (af X.hb),aa x.vm] b (aa (a8 s.h.g x.vm)):=by
   obtain⟨A,G',L0,S,O,hg, _⟩:=H.sat;exact JS S O hg x.vm
  refine⟨rfl,rfl,H.f0 ⟨rfl,rfl,H.cf hx (n:=3) (λ_=>rfl) ⟨_,N, _,o, _,p,?_⟩⟩⟩;obtain⟨a,d,m,P,hb,W,e,J⟩:=H.DG hx;refine λj r=>JA (e.ext r).base.again _ _ _ (λhb=>by rw[B] at hb;cases hb) (λ_ bk I f=>?_) j (Ext.refl j);have U:=(e.ext r).join f;rw[<-P];refine⟨rfl,rfl,Xt (n:=2) (U.perm (L':=(a.cb,jU a i x)::(a.tb,dq a.st s.sz)::(a.Lt++(a.Lf++(a.Lw++((bk,lV (a8 s.h.g x.vm) (x.c.2.1 / 16) (a7 x.c.1) 3 (0,0,0,0,()) (none,0,0))::(T++d)))))) (cq λy=>by simp only[s8,AM,AY];omega)) 0 rfl rfl rfl λq V=>⟨rfl,rfl,Xt (n:=8) V 0 rfl rfl rfl λw6 Y=>enM Y λZ K6=>k Z ?_⟩⟩;have K7:=(K6.perm (L':=a.Lw++((a.cb,((jU a i x).set 2 (aa 2)).set 8 (ag (af bk)))::(a.tb,dq a.st s.sz)::(a.Lt++(a.Lf++((bk,lV (a8 s.h.g x.vm) (x.c.2.1 / 16) (a7 x.c.1) 3 (0,0,0,0,()) (none,0,0))::(T++d)))))) (cq λy=>by simp only[FZ,AM,AY];omega)).sub (F7 _ _);refine J (a':={a with wp:=some ⟨bk,0,none⟩,Lw:=[(bk,lV (a8 s.h.g x.vm) (x.c.2.1 / 16) (a7 x.c.1) 3 (0,0,0,0,()) (none,0,0))]}) (x':={x with ph:=2,wk:=lW s.h.s.1 (a8 s.h.g x.vm) (x.c.2.1 / 16) (a7 x.c.1) 0}) rfl rfl ⟨W.ls,W.fs,λ_=>⟨bk,(none,0,0),[],[],rfl,rfl,.inl ⟨rfl,rfl,rfl⟩,by show((0:Nat):Int)<=3 - 3;decide⟩⟩ (K7.perm (cq λy=>?_));show CJ y ((a.cb,((jU a i x).set 2 (aa 2)).set 8 (ag (af bk)))::(a.tb,dq a.st s.sz)::(a.Lt++(a.Lf++[(bk,lV (a8 s.h.g x.vm) (x.c.2.1 / 16) (a7 x.c.1) 3 (0,0,0,0,()) (none,0,0))]))++(T++d))= _;simp only[AM,AY,G1];omega
end
theorem _root_.Go.Proofs.YtlcenllcmeebhaaGreat.iI.perm {es:List Do} {ck:Nat} {a b:List KV} (h:iI es ck a) (c:b.Perm a):iI es ck b:=by
 obtain⟨⟨p,h1,d⟩,e,f,g⟩:=h;exact⟨⟨p,h1.trans c.symm,d⟩,e,f,(c.map _).nodup_iff.2 g⟩
def tu (kn:List Int) (ds:List DT) (n:Nat):List Int:=((AL n).map λ(f:Nat)=>(f:Int)).filter λf=>(oN ds f).1==5&& !kn.contains f
theorem NO (kn:List Int) (ds:List DT) (n:Nat):tu kn ds (n+1)=tu kn ds n++(if((oN ds (n:Int)).1==5&& !kn.contains (n:Int))=true then[(n:Int)] else[]):=by
 unfold tu;rw[IM,Gc,List.filter_append];congr 1;show List.filter _ [(n:Int)]= _;rw[List.filter_cons,List.filter_nil]
theorem WU {kn:List Int} {ds:List DT} {n:Nat} {f:Int} (h:f∈tu kn ds n):0<=f/\f<(n:Int):=by
 obtain⟨m,a,rfl⟩:=B5.1 (H4.1 h).1;have:=DA.1 a;omega
theorem Tz (kn:List Int) (ds:List DT) (n:Nat):(tu kn ds n).length<=n:=by
 refine IR (Hb _ _) ?_;rw[DD,E5];exact DQ _
section
variable {Q:Sys} {X:HX} {D G:List Nat} {w0 w w1:A2} {B:MB} {R:MR} {s:MS} {T L:List (Nat×List AB)} {M:List (Nat×B2)} {i:Nat} {x:bG} {g:Option Bool}
theorem MU.tmp (H:MU Q X D G w0 w R s T L M): ∃a b,cF D G w0 w (T++a) b/\ ∀{T' w'},cF D G w0 w' (T'++a) b->MU Q X D G w0 w' R s T' L M:=by
 obtain⟨B,e,H⟩:=H;obtain⟨a,b,K, _, _, _,J⟩:=H.tmp;exact⟨a,b,K,λK=>⟨B,e,J K⟩⟩
theorem MU.look (H:MU Q X D G w0 w R s T L M) (f:Int):jV w (some R.kb) .i64 f (.bool false) (.bool (s.kn.contains f)):=by
 obtain⟨B,rfl,H⟩:=H;obtain⟨j,l,a,J⟩:=H.kns;by_cases c:f∈s.kn
 ·obtain⟨i,b, _⟩:=H.wf.k.F6 (B5.2 ⟨f,c,rfl⟩);exact vC (a.get (i:=0) rfl) b (by rw[GD.2 c])
 ·refine Ce (a.get (i:=0) rfl) (H.wf.k.OI λt d e=>?_) (by rw[Gu.2 λh=>c (GD.1 h)]);obtain⟨y,g,rfl⟩:=B5.1 d;exact c (by rw[<-e];exact g)
theorem MU.ins (H:MU Q X D G w0 w R s T L M) {f:Int} (c:f∉s.kn) {K:A2->Prop} (k: ∀a,MU Q X D G w0 a R {s with kn:=s.kn++[f]} T L M->K a):
 ∃(r:Nat) (es:Array Do) (b:Nat),some R.kb=some r/\bH w r es b/\ib w r .i64 f (.bool true) es b K:=by
 obtain⟨B,rfl,H⟩:=H;obtain⟨n,o,d,J⟩:=H.kns;have g: ∀t∈s.kn.map (λf=>((f,.bool true):KV)),t.1≠f:=λt h e=>by
  obtain⟨y,j,rfl⟩:=B5.1 h;exact c (by rw[<-e];exact j)
 refine⟨B.kb,⟨B.ke⟩,B.kk,rfl,d.get (i:=0) rfl,xR (H.wf.k.OI g) ?_⟩;have l:=d.put (i:=0) rfl (o':= .map ⟨B.ke++[{key:=aa f,val:= .bool true,born:=B.kk}]⟩ (B.kk+1)) trivial;have m:(Array.mk B.ke).push {key:=aa f,val:= .bool true,born:=B.kk}=⟨B.ke++[{key:=aa f,val:= .bool true,born:=B.kk}]⟩:=by apply Array.ext';simp
 rw[m];refine k _ ⟨{B with ke:=B.ke++[{key:=aa f,val:= .bool true,born:=B.kk}],kk:=B.kk+1},rfl,J (kn:=s.kn++[f]) ((H.wf.k.push _ g).perm ?_) l⟩;rw[Gc];exact List.perm_append_singleton _ _
theorem FM (H:MU Q X D G w0 w R s T L M) (v:s.h.s.2.length<=4096) {K:Option AC×Nat×Nat->A2->Prop}
 (k: ∀r d l,dv eI r (tu s.kn s.h.s.2 s.h.s.2.length) d->MU Q X D G w0 l R {s with kn:=s.kn++tu s.kn s.h.s.2 s.h.s.2.length} (d++T) L M->K r l):
 aA A1 156 (.el (.one .slice)) [ag (af R.mb)] w K:=by
 refine H.go λw1 H=>ai (C:=U2) (aT:=oA) (B1 (FL _ w1 K) ⟨rfl,rfl,H.f0 ?_⟩);obtain⟨A,G',L0,S,x, _,J⟩:=H.sat;refine z4 S x λe a g i l S=>?_;have H:MU Q X D G w0 l R s ((e,[.slice (af a) s.h.s.2.length g])::(a,flat eD s.h.s.2++i)::T) L M:=J (T':=[_, _]) S;clear J S x;generalize I:s.h.s.2.length=N at*
 have O: ∀{z:A2} {P:MS} {U:List (Nat×List AB)},MU Q X D G w0 z R P ((e,[.slice (af a) N g])::(a,flat eD s.h.s.2++i)::U) L M-> ∀f:Int,ae A1 25 [ag (af e),aa f] z ((Sh.bu [eD,.one .bool]).ia (oN s.h.s.2 f,Cv s.h.s.2 f,())):=λH f=>by
  obtain⟨L0,o,p⟩:=H.base;subst I;exact ae.of λw' h'=>PM ((o.dp _ (p _ B3)).ext h') ((o.dp _ (p _ (Ay _ B3))).ext h') f
 have V:ae A1 62 [ag (af e)] l (aa (N:Int)):=by
  obtain⟨L0,o,p⟩:=H.base;exact ae.of (s:= .el (.one (.int .i64))) λw' h'=>r_ ((o.dp _ (p _ B3)).ext h')
 refine⟨_,V,?_⟩;refine⟨λn st q=> ∃(j:Nat) (d:List (Nat×List AB)),j<=N/\n=N - j/\st.2.1=(j:Int)/\dv eI st.1 (tu s.kn s.h.s.2 j) d/\MU Q X D G w0 q R {s with kn:=s.kn++tu s.kn s.h.s.2 j} ((e,[.slice (af a) N g])::(a,flat eD s.h.s.2++i)::(d++T)) L M,⟨N,λq v=>⟨0,[],Ef _,rfl,rfl,dv.nil eI,by
  have:tu s.kn s.h.s.2 0=[]:=rfl;rw[this,DY];exact H.ext v⟩⟩,?_⟩
 clear H;rintro n ⟨r,W, _⟩ q ⟨j,d,Y,Z,hi,hs,H⟩;have hi:W=(j:Int):=hi;have hs:dv eI r (tu s.kn s.h.s.2 j) d:=hs;subst hi Z;dsimp only;refine ab (λc=>?_) (λc=>?_)
 ·have Y:j<N:=by have:=of_decide_eq_true c;omega
  have A3:=Tz s.kn s.h.s.2 j;have hc:(s.kn++tu s.kn s.h.s.2 j).contains (j:Int)=s.kn.contains (j:Int):=by
   rw[Bool.eq_iff_iff,GD,GD,List.mem_append];refine⟨λh=>h.resolve_right λh=>?_,.inl⟩;have:=WU h;omega
  refine⟨_,O H (j:Int),H.al λb B H=>H.st 0 rfl rfl rfl λw6 H=>⟨rfl,H.cJ 0 rfl (show _=some (oN s.h.s.2 (j:Int)).1 from rfl) ⟨λ_=>rfl,λ_=>rfl,H.f4 ⟨s.kn.contains (j:Int),λ_=>?_,?_⟩⟩⟩⟩
  ·have:=H.look (j:Int);rw[show(s.kn++tu s.kn s.h.s.2 j).contains (j:Int)=s.kn.contains (j:Int) from hc] at this;exact this
  ·have H:MU Q X D G w0 w6 R {s with kn:=s.kn++tu s.kn s.h.s.2 j} ((e,[.slice (af a) N g])::(a,flat eD s.h.s.2++i)::(d++T)) L M:=H.sub (DB _ _);have m:=NO s.kn s.h.s.2 j;refine ab (λc=>⟨rfl,rfl,H.f4 λw7 t=>?_⟩) (λc w7 t=>⟨N - (j+1),by omega,j+1,d,by omega,rfl,?_,?_,?_⟩)
   ·rw[aw c] at m;have X_:s.kn.contains (j:Int)=false:=by
     simp only[DK,Bool.not_eq_true'] at c;exact c.2
    refine(H.ext t).ins (f:=(j:Int)) (λh=>?_) λw8 H=>H.al λu w9 H lP A0=>?_
    ·rw[<-GD,hc,X_] at h;cases h
    ·have H:=H.ext A0;obtain⟨R',Mo,E,J⟩:=H.tmp;have hb:bN lP u (cellsOf eI (j:Int)):=E.base.dp _ B3;have K2:=E.perm (L':=d++((u,[aa (j:Int)])::(e,[.slice (af a) N g])::(a,flat eD s.h.s.2++i)::(T++R'))) (cq λy=>by simp only[AM,AY];omega);refine FO K2 hs rfl (ys:=[(j:Int)]) rfl (rY hb) rfl rfl (by rw[I2];omega) λs' F nv fq K3 DN N3=>⟨N - (j+1),by omega,j+1,F,by omega,rfl,?_,?_,?_⟩
     ·rw[av (by omega) (by omega)];omega
     ·rw[m];exact fq
     ·have H2:=J (T':=(u,[aa (j:Int)])::(e,[.slice (af a) N g])::(a,flat eD s.h.s.2++i)::(F++T)) (K3.perm (cq λy=>by simp only[AM,AY];omega));rw[m, <-Kt];exact MU.ext (H2.sub (DB _ _)) N3
   ·rw[av (by omega) (by omega)];omega
   ·rw[m,ao (by rw[c];decide),DY];exact hs
   ·rw[m,ao (by rw[c];decide),DY];exact H.ext t
 ·have:j=N:=by have:=of_decide_eq_false c;omega
  subst this;exact H.en λB H=>k r d B hs (H.sub ((List.Sublist.refl _).cons _ |>.cons _))
end
structure Bn (s:MS):Prop where
 c8:s.cs.length<=8
 pn:s.ep.pins.length=s.cs.length
 bn:s.bx.length=s.cs.length
 now:0<=s.ep.now/\s.ep.now<4611686018427387000
 ws:s.ep.ws.length<=1000000
 wn: ∀e∈s.ep.ws,0<=e.2/\e.2<=s.ep.now
 ms:s.ms.length<=900000000
 op:s.op.length<=900000000
 bl: ∀q∈s.bx,q.length<=16
 sz:0<s.sz/\s.sz<=64
 ls: ∀y∈s.cs,(y.ls.length:Int)<=s.sz
 vm: ∀y∈s.cs,y.vm<9223372036854775808
 cu: ∀y∈s.cs,cg y.c.2.1/\cg y.c.2.2.1/\cg y.c.2.2.2.1
section
variable {Q:Sys} {X:HX} {D G:List Nat} {w0 w w1:A2} {B:MB} {R:MR} {s:MS} {T L:List (Nat×List AB)} {M:List (Nat×B2)} {i:Nat} {x:bG} {g:Option Bool}
theorem MU.sys (H:MU Q X D G w0 w R s T L M):yR s.h.s:=by
 obtain⟨B,e,A,ca,la,h1,a,b⟩:=H;exact a
theorem aaF (H:MU Q X D G w0 w R s T L M) (g:CN Q s.h) (v k:Int) {a b c:Int} (i:cg a) (hb:cg b) (hc:cg c) {K:Int×Int×Unit->A2->Prop}
 (kk: ∀d,MU Q X D G w0 d R {s with h:=iX s.h v k a b c} T L M->K (qF s.h v k a b c,oO s.h v k a b c,()) d):
 aA A1 42 (.el (.agg ik)) [ag (af X.hb),aa v,.agg ⟨gg k a b c⟩] w K:=λw1 h1=>by
 obtain⟨B,e,H⟩:=H.ext h1;obtain⟨j,L',f,J⟩:=H.hv;exact aav f g v k i hb hc λd f=>kk d ⟨B,e,J f⟩
theorem TA (H:MU Q X D G w0 w R s T L M) (hc:i<s.bx.length) (u:s.bx.length<=8) (v:s.op.length<=900000000) (c: ∀q∈s.bx,q.length<=16) (t p:Int) {K:Int×Int×Unit->A2->Prop}
 (k: ∀e a,MU Q X D G w0 a R {s with bx:=(cz s.bx s.op i t p).2.1,op:=(cz s.bx s.op i t p).2.2} T L M->K ((cz s.bx s.op i t p).1,e,()) a):
 aA A1 157 (.bu [.one (.int .i64),.one (.int .i64)]) [ag (af R.xb),aa (i:Int),aa t,aa p] w K:=by
 obtain⟨B,rfl,H⟩:=H;obtain⟨x,y,d,J⟩:=H.bxs;have W:=H.wf;have f:=W.l;refine SL d W.b W.o W.l i (by omega) (by omega) (by omega) c t p λe g h j a m n hs r=>k e a ⟨{B with so:=h,Lo:=j,cr:=g},rfl,J (op:=(cz s.bx s.op i t p).2.2) (bx:=(cz s.bx s.op i t p).2.1) hs ?_ n r⟩;rw[m,f];unfold cz;split
 ·rfl
 ·split
  ·rfl
  ·simp
theorem aaG {b:List (Nat×List AB)} (H:MU Q X D G w0 w R s (b++T) L M) (hx:s.cs[i]? =some x) {r:Option AC×Nat×Nat} {l:List Int} (hs:dv eI r l b) {K:A2->Prop}
 (k: ∀w1,MU Q X D G w0 w1 R (bS s i {x with fs:=l}) T L M->K w1):aC w (ad (some ⟨R.cb i,0,none⟩) 13) [.slice r.1 r.2.1 r.2.2] K:=by
 obtain⟨a,c,j,d,hb,W,e,J⟩:=H.DG hx;rw[<-d];refine Xt (n:=13) (e.perm (L':=(a.cb,jU a i x)::(a.tb,dq a.st s.sz)::(a.Lt++(a.Lw++(a.Lf++(b++(T++c)))))) (cq λy=>by simp only[s8,AM,AY];omega)) 0 rfl rfl rfl λf g=>k f ?_;have h:=(g.perm (L':=a.Lf++((a.cb,(jU a i x).set 13 (.slice r.1 r.2.1 r.2.2))::(a.tb,dq a.st s.sz)::(a.Lt++(a.Lw++(b++(T++c)))))) (cq λy=>by simp only[FZ,AM,AY];omega)).sub (F7 _ _);refine J (a':={a with sf:=r,Lf:=b}) (x':={x with fs:=l}) rfl rfl ⟨W.ls,hs,W.wk⟩ (h.perm (cq λy=>?_));show CJ y ((a.cb,(jU a i x).set 13 (.slice r.1 r.2.1 r.2.2))::(a.tb,dq a.st s.sz)::(a.Lt++(b++a.Lw))++(T++c))= _;simp only[AM,AY];omega
theorem TB {b:Nat} {l:List AB} (H:MU Q X D G w0 w R s ((b,l)::T) L M) (g:l.length=2) (z:s.cs.length<=8) (A:s.bx.length=s.cs.length) (j:s.op.length<=900000000) (m: ∀q∈s.bx,q.length<=16) (o:0<s.sz) (r:(x.ls.length:Int)<=64) (hx:s.cs[i]? =some x) (t p:Int) {K:Cx->A2->Prop}
 (k: ∀d,MU Q X D G w0 d R (bS {s with bx:=(cz s.bx s.op i t p).2.1,op:=(cz s.bx s.op i t p).2.2} i {x with ls:=iZ x.ls t p,ak:=(cz s.bx s.op i t p).1,ph:=4}) T L M->K ((0,0,()),false,()) d):
 aA A1 67 (.bu []) [ag (some ⟨R.cb i,0,none⟩),aa t,aa p] w λ_ d=>
  (some ⟨R.mb,0,none⟩:Option AC).isSome=true/\(some ⟨R.mb,0,none⟩:Option AC).isSome=true/\aj d none (ad (af R.mb) 2) (.one .ptr) λ(x1:Option AC)=>
  (some ⟨R.cb i,0,none⟩:Option AC).isSome=true/\(some ⟨R.cb i,0,none⟩:Option AC).isSome=true/\aj d none (ad (some ⟨R.cb i,0,none⟩) 0) (.one (.int .i64)) λ(u:Int)=>
  aA A1 157 (.bu [.one (.int .i64),.one (.int .i64)]) [ag x1,aa u,aa t,aa p] d λ(v:Int×Int×Unit) d=>
  (some ⟨R.cb i,0,none⟩:Option AC).isSome=true/\(some ⟨R.cb i,0,none⟩:Option AC).isSome=true/\aC d (ad (some ⟨R.cb i,0,none⟩) 12) [aa v.1] λd=>
  (some ⟨R.cb i,0,none⟩:Option AC).isSome=true/\(some ⟨R.cb i,0,none⟩:Option AC).isSome=true/\aC d (ad (some ⟨R.cb i,0,none⟩) 2) [aa 4] λd=>
  aC d (af b) [az 0,aa 0] λd=>au d λw1=>aj w1 none (af b) (El.agg [.int .u64,.int .i64]) λ(x:Int×Int×Unit)=>K ((x.1,x.2.1,()),false,()) w1:=by
 have B:=(Ax.1 hx).1;refine Aa H hx r o t p λd H=>⟨rfl,rfl,H.f2 ⟨rfl,rfl,H.cf (fh hx) (n:=0) (λ_=>rfl) ?_⟩⟩;refine TA H (show i<s.bx.length by omega) (show s.bx.length<=8 by omega) j m t p λe y H=>⟨rfl,rfl,?_⟩;have f:(bS {s with bx:=(cz s.bx s.op i t p).2.1,op:=(cz s.bx s.op i t p).2.2} i {x with ls:=iZ x.ls t p}).cs[i]? =some {x with ls:=iZ x.ls t p}:=fh (s:={s with bx:=(cz s.bx s.op i t p).2.1,op:=(cz s.bx s.op i t p).2.2}) hx;have H:MU Q X D G w0 y R (bS {s with bx:=(cz s.bx s.op i t p).2.1,op:=(cz s.bx s.op i t p).2.2} i {x with ls:=iZ x.ls t p}) ((b,l)::T) L M:=H;refine H.cs f {x with ls:=iZ x.ls t p,ak:=(cz s.bx s.op i t p).1} 12 rfl rfl (λ_=>rfl) (λa h=>⟨h.ls,h.fs,h.wk⟩) λC H=>⟨rfl,rfl,?_⟩;refine H.cs (fh f) {x with ls:=iZ x.ls t p,ak:=(cz s.bx s.op i t p).1,ph:=4} 2 rfl rfl (λ_=>rfl) (λa h=>⟨h.ls,h.fs,λc=>(by cases c)⟩) λE H=>?_;rw[kW,kW] at H;exact H.res g 0 0 false k
end
section
variable {Q:Sys} {X:HX} {D G:List Nat} {w0 w w1:A2} {B:MB} {R:MR} {s:MS} {T L:List (Nat×List AB)} {M:List (Nat×B2)} {i:Nat} {x:bG} {g:Option Bool}
theorem NP (H:MU Q X D G w0 w R s T L M) (Bd:Bn s) (hx:s.cs[i]? =some x) (U:CN Q s.h) (W:jG s.h x=true->u_ (a8 s.h.g x.vm) (x.c.2.1 / 16) (a7 x.c.1)=false) {K:Cx->A2->Prop}
 (k: ∀d,MU Q X D G w0 d R (cZ s i x).1 T L M->K (((cZ s i x).2.1.1,(cZ s i x).2.1.2,()),(cZ s i x).2.2,()) d):
 aA A1 110 Ov [ag (af R.mb),ag (some ⟨R.cb i,0,none⟩)] w K:=by
 have B:=DI hx;have ju:=(Ax.1 hx).1;have Og:=Bd.ls x B;have F:=Bd.sz;have q:=Bd.cu x B;have I:=Bd.c8;have FU:=Bd.pn;refine H.go λw1 H=>aQ (C:=U2) (aT:=λ_=>[]) (B1 (Nq _ _ w1 K) (H.al λb d H=>⟨jG s.h x,NK H hx,?_⟩));by_cases l:jG s.h x=true
 ·have Y:(cZ s i x).2=((0,0),false):=by
   unfold cZ;rw[aw l];dsimp only;split<;>rfl
  rw[Y] at k;exact ay l (Ty H hx Bd.now.1 (by omega) (by omega) F.1 q.1 (W l) l λJ H=>H.res rfl 0 0 false k)
 refine an (Gu.2 l) ⟨nJ s i x,IG H hx I Bd.vm,?_⟩;by_cases m:nJ s i x=true
 ·have e:cZ s i x=(s,(0,9),true):=by unfold cZ;rw[ao l,aw m]
  rw[e] at k;exact ay m (H.res rfl 0 9 true k)
 refine an (Gu.2 m) ⟨rfl,rfl,H.cf hx (n:=3) (λ_=>rfl) ⟨λ_=>rfl,λ_=>rfl,H.cf hx (n:=4) (y:=x.c) (λ_=>rfl) ?_⟩⟩;have N:(x.vm==0&&(x.c.1==17&&(x.c.2.1==0&&(x.c.2.2.1==0&&(x.c.2.2.2.1==0&&true)))))=true<->(x.vm=0/\x.c=(17,0,0,0,())):=by
  obtain⟨k1,a1,b1,c1,⟨⟩⟩:=x.c;simp only[DK,beq_iff_eq,Prod.mk.injEq,and_true]
 by_cases u:x.vm=0/\x.c=(17,0,0,0,())
 ·have e:cZ s i x=((cQ s).1,((((cQ s).2:Nat):Int),0),true):=by unfold cZ;rw[ao l,ao m,aw u]
  rw[e] at k;refine ay (N.2 u) (Fu H (by omega) Bd.now Bd.ws Bd.wn Bd.ms λJ H=>?_);have hlen:(cQ s).2<=s.ep.ws.length:=by
   unfold cQ my;rw[jN,DD];refine IR (Hb _ _) ?_;rw[vj];exact DQ _
  have yq:=Bd.ws;rw[dK (by omega)];exact H.res rfl _ 0 true k
 refine an (Gu.2 λc=>u (N.1 c)) ?_;have e:cZ s i x=fp s i x:=by unfold cZ;rw[ao l,ao m,ao u]
 rw[e] at k;refine⟨rfl,rfl,H.f0 ⟨rfl,rfl,H.cf hx (n:=3) (λ_=>rfl) ⟨rfl,rfl,H.cf hx (n:=4) (y:=x.c) (λ_=>rfl) (aaF H U x.vm x.c.1 q.1 q.2.1 q.2.2 λJ H=>⟨rfl,rfl,?_⟩)⟩⟩⟩;unfold fp at k;generalize hh':iX s.h x.vm x.c.1 x.c.2.1 x.c.2.2.1 x.c.2.2.2.1=h' at*
 generalize hV:qF s.h x.vm x.c.1 x.c.2.1 x.c.2.2.1 x.c.2.2.2.1=V at*
 generalize f:oO s.h x.vm x.c.1 x.c.2.1 x.c.2.2.1 x.c.2.2.2.1=E at*
 dsimp only at k ⊢;have O:({s with h:=h'}:MS).cs[i]? =some x:=hx;refine H.cs O {x with rs:=(V,E)} 10 rfl rfl (λ_=>rfl) (λa h=>⟨h.ls,h.fs,h.wk⟩) λw4 H=>?_;have v:=fh (y:={x with rs:=(V,E)}) O;refine⟨rfl,rfl,H.cf v (n:=3) (λ_=>rfl) ⟨rfl,rfl,H.cf v (n:=4) (y:=x.c) (λ_=>rfl) ⟨rfl,rfl,H.cf v (n:=10) (y:=(V,E,())) (λ_=>rfl) ?_⟩⟩⟩;have hms:=Bd.ms;refine uc H (show s.ms.length<= _ by omega) (1,x.vm,0,x.c,V,E) λw5 H=>FM H H.sys.2.2.1 λr Lr w6 hs H=>⟨rfl,rfl,?_⟩;have Z:({ {bS {s with h:=h'} i {x with rs:=(V,E)} with ms:=s.ms++[(1,x.vm,0,x.c,V,E)]} with kn:=s.kn++eJ s h'}:MS).cs[i]? =some {x with rs:=(V,E)}:=v;refine aaG (x:={x with rs:=(V,E)}) H Z hs λz H=>?_;have H:MU Q X D G w0 z R (bS {s with h:=h',kn:=s.kn++eJ s h',ms:=s.ms++[(1,x.vm,0,x.c,V,E)]} i {x with rs:=(V,E),fs:=eJ s h'}) ((b,[az 0,aa 0])::T) L M:=by
  have H:=H;unfold bS at H;simp only[DZ] at H;exact H
 have j:=fh (s:={s with h:=h',kn:=s.kn++eJ s h',ms:=s.ms++[(1,x.vm,0,x.c,V,E)]}) (y:={x with rs:=(V,E),fs:=eJ s h'}) hx;have kE:(x.c.1=2\/x.c.1=4\/x.c.1=5\/x.c.1=10->E≠0)-> ∀d,MU Q X D G w0 d R (bS {s with h:=h',kn:=s.kn++eJ s h',ms:=s.ms++[(1,x.vm,0,x.c,V,E)]} i {x with rs:=(V,E),fs:=eJ s h'}) T L M->K ((V,E,()),true,()) d:=λf d H=>by
  have:=k d;by_cases c:x.c.1=2\/x.c.1=4\/x.c.1=5\/x.c.1=10
  ·rw[aw c,aw (f c)] at this;exact this H
  ·rw[ao c] at this;exact this H
 have kP:x.c.1=2\/x.c.1=4\/x.c.1=5\/x.c.1=10->E=0-> ∀t p:Int,(if x.c.1=2 then aE .i64 x.c.2.1 else x.vm)=t->(if x.c.1=2 then -1 else aE .i64 x.c.2.1)=p-> ∀d,MU Q X D G w0 d R (bS {s with h:=h',kn:=s.kn++eJ s h',ms:=s.ms++[(1,x.vm,0,x.c,V,E)],bx:=(cz s.bx s.op i t p).2.1,op:=(cz s.bx s.op i t p).2.2} i {x with rs:=(V,E),fs:=eJ s h',ls:=iZ x.ls t p,ak:=(cz s.bx s.op i t p).1,ph:=4}) T L M->K ((0,0,()),false,()) d:=λc f t p A o d H=>by
  have:=k d;rw[aw c,ao (by omega),A,o] at this;exact this H
 have tl:=λ(c:x.c.1=2\/x.c.1=4\/x.c.1=5\/x.c.1=10) (f:E=0) (t p:Int) (A:(if x.c.1=2 then aE .i64 x.c.2.1 else x.vm)=t) (o:(if x.c.1=2 then -1 else aE .i64 x.c.2.1)=p)=>TB (i:=i) (K:=K) (x:={x with rs:=(V,E),fs:=eJ s h'}) H rfl (show(s.cs.set i _).length<=8 by rw[DJ];exact I) (show s.bx.length=(s.cs.set i _).length by rw[DJ];exact Bd.bn) Bd.op Bd.bl F.1 (show(x.ls.length:Int)<=64 by omega) j t p λS H=>kP c f t p A o S (by
  have H:MU Q X D G w0 S R (bS (bS {s with h:=h',kn:=s.kn++eJ s h',ms:=s.ms++[(1,x.vm,0,x.c,V,E)],bx:=(cz s.bx s.op i t p).2.1,op:=(cz s.bx s.op i t p).2.2} i {x with rs:=(V,E),fs:=eJ s h'}) i {x with rs:=(V,E),fs:=eJ s h',ls:=iZ x.ls t p,ak:=(cz s.bx s.op i t p).1,ph:=4}) T L M:=H;rw[kW] at H;exact H)
 refine⟨rfl,rfl,H.cf j (n:=3) (λ_=>rfl) ⟨rfl,rfl,rfl,H.cf j (n:=5) (λ_=>rfl) ⟨rfl,rfl,rfl,H.cf j (n:=4) (λ_=>rfl) ?_⟩⟩⟩;have br: ∀{P:Prop},(E=0->P)->aI (E != 0) ((some ⟨R.cb i,0,none⟩:Option AC).isSome=true/\(some ⟨R.cb i,0,none⟩:Option AC).isSome=true/\aj z none (ad (some ⟨R.cb i,0,none⟩) 10) (El.agg [.int .u64,.int .i64]) λ(x:Int×Int×Unit)=>aC z (af b) [az x.1,aa x.2.1] λd=>au d λw1=>aj w1 none (af b) (El.agg [.int .u64,.int .i64]) λ(x:Int×Int×Unit)=>K ((x.1,x.2.1,()),true,()) w1) P:=λo=>by
  refine ab (λc=>⟨rfl,rfl,H.cf j (n:=10) (y:=(V,E,())) (λ_=>rfl) (H.res rfl _ _ true (kE λ_=>by simpa using c))⟩) (λc=>o (by simpa using c))
 by_cases c2:x.c.1=2
 ·refine ay (by rw[c2];rfl) ⟨rfl,rfl,rfl,H.cf j (n:=5) (λ_=>rfl) ⟨rfl,rfl,rfl,H.cf j (n:=11) (λ_=>rfl) (br λf=>?_)⟩⟩;exact tl (.inl c2) f _ _ (aw c2) (aw c2)
 refine an (beq_eq_false_iff_ne.2 c2) ?_;by_cases c4:x.c.1=4
 ·refine ay (by rw[c4];rfl) (ay (by rw[c4];rfl) ⟨rfl,rfl,rfl,H.cf j (n:=11) (λ_=>rfl) (br λf=>?_)⟩);exact tl (.inr (.inl c4)) f _ _ (ao c2) (ao c2)
 refine an (beq_eq_false_iff_ne.2 c4) ?_;by_cases c5:x.c.1=5
 ·refine ay (by rw[c5];rfl) (ay (by rw[c5];rfl) ⟨rfl,rfl,rfl,H.cf j (n:=11) (λ_=>rfl) (br λf=>?_)⟩);exact tl (.inr (.inr (.inl c5))) f _ _ (ao c2) (ao c2)
 refine an (beq_eq_false_iff_ne.2 c5) ?_;by_cases YR:x.c.1=10
 ·refine ay (by rw[YR];rfl) ⟨rfl,rfl,rfl,H.cf j (n:=11) (λ_=>rfl) (br λf=>?_)⟩;exact tl (.inr (.inr (.inr YR))) f _ _ (ao c2) (ao c2)
 refine an (beq_eq_false_iff_ne.2 YR) ⟨rfl,rfl,H.cf j (n:=10) (y:=(V,E,())) (λ_=>rfl) (H.res rfl _ _ true (kE λc=>?_))⟩;rcases c with c|c|c|c
 ·exact absurd c c2
 ·exact absurd c c4
 ·exact absurd c c5
 ·exact absurd c YR
end
def Jf (l:List AB) (n:Int):AB:=match l.get?Internal n.toNat with
 |some x=>x
 |none=>Value.tuple ⟨[]⟩
abbrev sFs:El:= .agg [.func,.func,.func,.func,.func]
def KU (x:Option AC) (n:Int) (b c:Nat) (Post:Cx->A2->Prop) (r:Cx) (a:A2):Prop:=
 aC a (af c) [az r.1.1,aa r.1.2.1] λa=>
  aI (!r.2.1)
   (aC a (af b) [az 0,aa 0] λa=>au a λw1=>aj w1 none (af b) (.agg ik) λ(y:Int×Int×Unit)=>Post ((y.1,y.2.1,()),false,()) w1)
   (x.isSome=true/\x.isSome=true/\aj a none (ad x 1) (.one .ptr) λ(t:Option AC)=>x.isSome=true/\
    aC a x [aa n,ag t,aa 0,aa 0,aa 0,az 0,az 0,az 0,ag none,aa 0,az 0,aa 0,aa 0,.slice none 0 0] λa=>
    aj a none (af c) (.agg ik) λ(y:Int×Int×Unit)=>aC a (af b) [az y.1,aa y.2.1] λa=>au a λw1=>aj w1 none (af b) (.agg ik) λ(y:Int×Int×Unit)=>Post ((y.1,y.2.1,()),true,()) w1)
def acd (p x:Option AC) (n:Int) (b:Nat) (Post:Cx->A2->Prop) (a:A2):Prop:=
 x.isSome=true/\x.isSome=true/\aj a none (ad x 2) (.one (.int .i64)) λ(ph:Int)=>
  (aA A1 68 (.el sFs) [ag p] a λ(f:AB×AB×AB×AB×AB×Unit) a=>cL a (ad x 2) (.one (.int .i64)) ph/\True/\True/\(0<=ph/\ph<((5:Nat):Int))/\
   (Ak A1 (Jf [f.1,f.2.1,f.2.2.1,f.2.2.2.1,f.2.2.2.2.1] ph) Ov [ag x] a λ(r:Cx) a=>aM a ⟨[az 0,aa 0]⟩ 61 λc a=>KU x n b c Post r a)/\
   aM a ⟨[az 0,aa 0]⟩ 61 λc a=>Ak A1 (Jf [f.1,f.2.1,f.2.2.1,f.2.2.2.1,f.2.2.2.2.1] ph) Ov [ag x] a λ(r:Cx) a=>KU x n b c Post r a)/\
  aM a ⟨[az 0,aa 0]⟩ 61 λc a=>aA A1 68 (.el sFs) [ag p] a λ(f:AB×AB×AB×AB×AB×Unit) a=>cL a (ad x 2) (.one (.int .i64)) ph/\True/\True/\(0<=ph/\ph<((5:Nat):Int))/\
   Ak A1 (Jf [f.1,f.2.1,f.2.2.1,f.2.2.2.1,f.2.2.2.2.1] ph) Ov [ag x] a λ(r:Cx) a=>KU x n b c Post r a
theorem Es {a:Nat} {sh:Sh} {first args:List AB} {w:A2} {K:sh.T->A2->Prop} (hc:bM A1 a=true) (b:aA A1 a sh (first++args) w K):Ak A1 (.func (.func a) ⟨first⟩ #[]) sh args w K:=by
 unfold Ak;refine λw1 h1=>⟨a,⟨first⟩, #[],rfl,hc,?_⟩;have e:db ⟨first⟩ args #[]=first++args:=by unfold db;simp
 rw[e];exact b w1 h1
abbrev Gf (mb f:Nat):AB:= .func (.func f) ⟨[ag (af mb)]⟩ #[]
structure Sx (s:MS) (i:Nat) (x:bG):Prop where
 ph:0<=x.ph/\x.ph<=4
 wk:x.ph=2->0<=x.wk.2.1/\x.wk.2.1<=3
 ln:x.ph=2->(bF s.h.s.1 (x.c.2.1 / 16) (a7 x.c.1) x.wk).2.1= -1->(bF s.h.s.1 (x.c.2.1 / 16) (a7 x.c.1) x.wk).2.2.2.2.2.1=0->lnR (x.vm,x.c.2.1 / 16,(bF s.h.s.1 (x.c.2.1 / 16) (a7 x.c.1) x.wk).2.2.1,(bF s.h.s.1 (x.c.2.1 / 16) (a7 x.c.1) x.wk).2.2.2.1,())=true
 fr:x.ph=3->0<=x.fr/\x.fr<4096
 ak:x.ph=4->x.ak<4611686018427387904/\x.fs.length<=1000000/\ ∀f∈x.fs,0<=f
 bw:jG s.h x=true->u_ (a8 s.h.g x.vm) (x.c.2.1 / 16) (a7 x.c.1)=false
 tk: ∀a q,s.bx[i]? =some (a::q)->(1<=a.1/\a.1<=(s.op.length:Int))/\ -1000<=s.op.getD (a.1 - 1).toNat 0/\s.op.getD (a.1 - 1).toNat 0<=1000
section
variable {Q:Sys} {X:HX} {D G:List Nat} {w0 w w1:A2} {B:MB} {R:MR} {s:MS} {T L:List (Nat×List AB)} {M:List (Nat×B2)} {i:Nat} {x:bG} {g:Option Bool}
theorem Ac (H:MU Q X D G w0 w R s T L M) {K:AB×AB×AB×AB×AB×Unit->A2->Prop} (k: ∀a,MU Q X D G w0 a R s T L M->K (Gf R.mb 109,Gf R.mb 110,Gf R.mb 111,Gf R.mb 112,Gf R.mb 113,()) a):
 aA A1 68 (.el sFs) [ag (af R.mb)] w K:=by
 refine H.go λw1 H=>aQ (C:=U2) (aT:=λ_=>[]) (B1 (Iv _ w1 K) (H.al λb a H=>H.st 0 rfl rfl rfl λd H=>H.en λc H=>H.ld 0 rfl (show _=some (Gf R.mb 109,Gf R.mb 110,Gf R.mb 111,Gf R.mb 112,Gf R.mb 113,()) from rfl) (k c (H.sub (DB _ _)))))
theorem vD (H:MU Q X D G w0 w R s T L M) (Bd:Bn s) (hx:s.cs[i]? =some x) (d:CN Q s.h) (S:Sx s i x) {K:Cx->A2->Prop}
 (k: ∀c,MU Q X D G w0 c R (bO s i x).1 T L M->K (((bO s i x).2.1.1,(bO s i x).2.1.2,()),(bO s i x).2.2,()) c):
 Ak A1 (Jf [Gf R.mb 109,Gf R.mb 110,Gf R.mb 111,Gf R.mb 112,Gf R.mb 113] x.ph) Ov [ag (some ⟨R.cb i,0,none⟩)] w K:=by
 have b:=DI hx;have f:=(Ax.1 hx).1;have g:=Bd.pn;have j:=Bd.c8;have l:=S.ph;by_cases c0:x.ph=0
 ·have e:bO s i x=((cQ s).1,(0,0),false):=aw c0;rw[e] at k;rw[c0];exact Es (first:=[_]) (by kernel_rfl) (Ts H (by omega) Bd.now Bd.ws Bd.wn Bd.ms _ k)
 by_cases c1:x.ph=1
 ·have e:bO s i x=cZ s i x:=by unfold bO;rw[ao c0,aw c1]
  rw[e] at k;rw[c1];exact Es (first:=[_]) (by kernel_rfl) (NP H Bd hx d S.bw k)
 by_cases c2:x.ph=2
 ·have e:bO s i x=j7 s i x:=by unfold bO;rw[ao c0,ao c1,aw c2]
  rw[e] at k;rw[c2];have a:(j7 s i x).2.1.1=0:=by
   unfold j7;dsimp only;split
   ·rfl
   ·split<;>rfl
  rw[a] at k;exact Es (first:=[_]) (by kernel_rfl) (Tw H hx c2 (S.wk c2) (Bd.cu x b).1 (by omega) (Bd.ls x b) Bd.sz (S.ln c2) k)
 by_cases c3:x.ph=3
 ·have e:bO s i x=fB s i x:=by unfold bO;rw[ao c0,ao c1,ao c2,aw c3]
  rw[e] at k;rw[c3];have a:(fB s i x).2.1.2=0/\(fB s i x).2.2=true:=by
   unfold fB;dsimp only;split<;>exact⟨rfl,rfl⟩
  rw[a.1,a.2] at k;exact Es (first:=[_]) (by kernel_rfl) (NL H hx (S.fr c3) (Bd.cu x b).1 (Bd.cu x b).2.1 (by omega) Bd.ms k)
 have c4:x.ph=4:=by omega
 have e:bO s i x=h_ s x:=by unfold bO;rw[ao c0,ao c1,ao c2,ao c3]
 rw[e] at k;rw[c4];have a:(if(h_ s x).2.2=true then((h_ s x).2.1.1,(h_ s x).2.1.2,()) else(0,0,()))=((h_ s x).2.1.1,(h_ s x).2.1.2,()):=by
  unfold h_;split<;>rfl
 rw[<-a] at k;exact Es (first:=[_]) (by kernel_rfl) (Tt H hx (S.ak c4).1 (S.ak c4).2.1 (S.ak c4).2.2 k)
end
theorem Ds: ∀(l:List Int) (s:MS),(l.foldl g_ s).cs=s.cs
 |[],s=>rfl
 |f::l,s=>by rw[Gd,Ds l];rfl
theorem Ko (s:MS):(cQ s).1.cs=s.cs:=by unfold cQ;rw[Ds]
theorem NQ (s:MS) (i:Nat) (x:bG):(cZ s i x).1.cs.length=s.cs.length:=by
 have hs: ∀(s:MS) (y:bG),(bS s i y).cs.length=s.cs.length:=λs y=>DJ ..;unfold cZ;split
 ·dsimp only;split<;>exact hs _ _
 ·split
  ·rfl
  ·split
   ·dsimp only;rw[Ko]
   ·unfold fp;dsimp only;split
    ·split<;>exact hs _ _
    ·exact hs _ _
theorem NR (s:MS) (i:Nat) (x:bG):(bO s i x).1.cs.length=s.cs.length:=by
 have hs: ∀(s:MS) (y:bG),(bS s i y).cs.length=s.cs.length:=λs y=>DJ ..;unfold bO;split
 ·dsimp only;rw[Ko]
 ·split
  ·exact NQ s i x
  ·split
   ·unfold j7;dsimp only;split
    ·exact hs _ _
    ·split<;>exact hs _ _
   ·split
    ·unfold fB;dsimp only;split<;>rfl
    ·unfold h_;split<;>rfl
section
variable {Q:Sys} {X:HX} {D G:List Nat} {w0 w w1:A2} {B:MB} {R:MR} {s:MS} {T L:List (Nat×List AB)} {M:List (Nat×B2)} {i:Nat} {x:bG} {g:Option Bool}
theorem WV {b d:Nat} {l g:List AB} (H:MU Q X D G w0 w R s ((d,g)::(b,l)::T) L M) (h:l.length=2) (j:g.length=2) (hx:s.cs[i]? =some x) (r:Cx) {K:Cx->A2->Prop}
 (k: ∀e,MU Q X D G w0 e R (if r.2.1=true then bS s i (cv x.ls) else s) T L M->K (if r.2.1=true then((r.1.1,r.1.2.1,()),true,()) else((0,0,()),false,())) e):
 KU (some ⟨R.cb i,0,none⟩) (i:Int) b d K r w:=by
 unfold KU;refine H.st 0 rfl rfl j.symm λe H=>ab (λc=>?_) (λc=>?_)
 ·have c:r.2.1=false:=by simpa using c
  rw[c] at k;exact MU.res (H.sub (DB _ _)) h 0 0 false k
 ·have c:r.2.1=true:=by simpa using c
  rw[c] at k;refine⟨rfl,rfl,H.c1 hx ⟨rfl,?_⟩⟩;obtain⟨a,f,t,m,hb,W,n,J⟩:=H.DG hx;rw[<-m, <-hb];refine stB (n.perm (L':=(a.cb,jU a i x)::(a.tb,dq a.st s.sz)::(a.Lt++(a.Lf++(a.Lw++(((d,[az r.1.1,aa r.1.2.1])::(b,l)::T)++f))))) (cq λy=>by simp only[af,s8,AM,AY,FZ];omega)) 0 rfl rfl rfl λo p=>?_;have q:=(p.perm (L':=a.Lf++(a.Lw++((a.cb,[aa (i:Int),ag (af a.tb),aa 0,aa 0,aa 0,az 0,az 0,az 0,ag none,aa 0,az 0,aa 0,aa 0,.slice none 0 0])::(a.tb,dq a.st s.sz)::(a.Lt++(((d,[az r.1.1,aa r.1.2.1])::(b,l)::T)++f))))) (cq λy=>by simp only[af,FZ,AM,AY];omega)).sub ((F7 _ _).trans (F7 _ _));have H:MU Q X D G w0 o R (bS s i (cv x.ls)) ((d,[az r.1.1,aa r.1.2.1])::(b,l)::T) L M:=by
   refine J (a':={a with wp:=none,sf:=(none,0,0),Lf:=[],Lw:=[]}) (x':=cv x.ls) rfl rfl ⟨W.ls,dv.nil eI,λc=>(by cases c)⟩ (q.perm (cq λy=>?_));show CJ y ((a.cb,[aa (i:Int),ag (af a.tb),aa 0,aa 0,aa 0,az 0,az 0,az 0,ag none,aa 0,az 0,aa 0,aa 0,.slice none 0 0])::(a.tb,dq a.st s.sz)::(a.Lt++([]++[]))++(((d,[az r.1.1,aa r.1.2.1])::(b,l)::T)++f))= _;simp only[af,AM,AY,G1];omega
  exact H.ld 0 rfl (show _=some (r.1.1,r.1.2.1,()) from rfl) (MU.res (H.sub (DB _ _)) h _ _ true k)
theorem Fv {b:Nat} {l:List AB} (H:MU Q X D G w0 w R s ((b,l)::T) L M) (p:l.length=2) (Bd:Bn s) (hx:s.cs[i]? =some x) (f:CN Q s.h) (S:Sx s i x) {K:Cx->A2->Prop}
 (k: ∀a,MU Q X D G w0 a R (il (bO s i x) i x).1 T L M->K (((il (bO s i x) i x).2.1.1,(il (bO s i x) i x).2.1.2,()),(il (bO s i x) i x).2.2,()) a):
 acd (af R.mb) (some ⟨R.cb i,0,none⟩) (i:Int) b K w:=by
 have t:=(Ax.1 hx).1;have u:=NR s i x;obtain⟨x',g⟩: ∃x',(bO s i x).1.cs[i]? =some x':=⟨_,Bf (by omega)⟩;have q:(bO s i x).1.cs.getD i x=x':=by rw[CK,g];rfl
 unfold il at k;rw[q] at k;have j:=S.ph;have fin: ∀{d:Nat} {m:List AB} {a:A2},m.length=2->MU Q X D G w0 a R (bO s i x).1 ((d,m)::(b,l)::T) L M->KU (some ⟨R.cb i,0,none⟩) (i:Int) b d K (((bO s i x).2.1.1,(bO s i x).2.1.2,()),(bO s i x).2.2,()) a:=λr H=>by
  refine WV H p r g _ λe H=>?_;have:=k e;dsimp only at H ⊢;by_cases c:(bO s i x).2.2=true
  ·rw[aw c] at H this ⊢;exact this H
  ·rw[ao c] at H this ⊢;exact this H
 refine⟨rfl,rfl,H.cf hx (n:=2) (λ_=>rfl) ⟨?_,?_⟩⟩
 ·refine Ac H λa H=>⟨H.crd hx (n:=2) λ_=>rfl,trivial,trivial,⟨j.1,by show x.ph<5;omega⟩,?_,?_⟩
  ·exact vD H Bd hx f S λe H=>H.al λd o H=>fin rfl H
  ·exact H.al λd e H=>vD H Bd hx f S λo H=>fin rfl H
 ·exact H.al λd a H=>Ac H λe H=>⟨H.crd hx (n:=2) λ_=>rfl,trivial,trivial,⟨j.1,by show x.ph<5;omega⟩,vD H Bd hx f S λo H=>fin rfl H⟩
theorem TC (H:MU Q X D G w0 w R s T L M) (Bd:Bn s) (hi:i<s.cs.length) (k: ∀a q,s.bx[i]? =some (a::q)->(1<=a.1/\a.1<=(s.op.length:Int))/\ -1000<=s.op.getD (a.1 - 1).toNat 0/\s.op.getD (a.1 - 1).toNat 0<=1000) {K:(Int×Int×Int×Unit)×Bool×Unit->A2->Prop}
 (kn:tq s i=none-> ∀c,MU Q X D G w0 c R s T L M->K ((0,0,0,()),false,()) c)
 (ks: ∀a s1,tq s i=some (a,s1)-> ∀c,MU Q X D G w0 c R s1 T L M->K (a,true,()) c):
 aA A1 66 (.bu [.agg [.int .i64,.int .i64,.int .i64],.one .bool]) [ag (af R.xb),aa (i:Int)] w K:=by
 obtain⟨B,rfl,H⟩:=H;obtain⟨n,p,m,J⟩:=H.bxs;have W:=H.wf;have e:=W.l;have r:=Bd.bn;have t:=Bd.op;refine SK m W.b W.o W.l i (by omega) k (by omega) λf g c h j hs d=>?_;unfold vU at hs d ⊢;unfold tq at kn ks;cases hb:s.bx[i]? with
 |none=>
  rw[hb] at hs d kn;exact kn rfl c ⟨{B with so:=B.so,Lo:=g,cr:=f},rfl,J (op:=s.op) (bx:=s.bx) hs (by rw[h,e]) j d⟩
 |some q=>
  cases q with
  |nil=>
   rw[hb] at hs d kn;exact kn rfl c ⟨{B with so:=B.so,Lo:=g,cr:=f},rfl,J (op:=s.op) (bx:=s.bx) hs (by rw[h,e]) j d⟩
  |cons a q=>
   rw[hb] at hs d ks;refine ks a _ rfl c ⟨{B with so:=B.so,Lo:=g,cr:=f},rfl,J (op:=s.op.set (a.1 - 1).toNat (s.op.getD (a.1 - 1).toNat 0 - 1)) (bx:=s.bx.set i q) hs (by rw[h,e,DJ]) j d⟩
theorem TD (H:MU Q X D G w0 w R s T L M) (Bd:Bn s) (g:CN Q s.h) (S: ∀i x,s.cs[i]? =some x->Sx s i x) (n:Int) {K:Cx->A2->Prop}
 (k: ∀f,MU Q X D G w0 f R (aR s n).1 T L M->K (((aR s n).2.1.1,(aR s n).2.1.2,()),(aR s n).2.2,()) f):
 aA A1 31 Ov [ag (af R.mb),aa n] w K:=by
 refine H.go λw1 H=>aQ (C:=U3) (aT:=λ_=>[]) (B1 (Fc _ n w1 K) (H.al λb f H=>⟨_,Er H n,?_⟩));by_cases c:0<=n/\n<(s.cs.length:Int)
 ·obtain⟨i,rfl⟩: ∃i:Nat,n=(i:Int):=⟨n.toNat,by omega⟩;rw[aw c,D8];have j:i<s.cs.length:=by omega
  obtain⟨x,hx⟩: ∃x,s.cs[i]? =some x:=⟨_,Bf j⟩;have r:=Bd.ls x (DI hx);have t:=Bd.sz;have e:aR s (i:Int)=iB s i x:=by unfold aR;rw[ao (by omega),D8,hx]
  rw[e] at k;unfold iB at k;refine an rfl ⟨rfl,rfl,H.cf hx (n:=2) (λ_=>rfl) (ab (λc=>?_) (λc=>?_))⟩
  ·have c3:x.ph≠3:=by simpa using c
   rw[ao c3] at k;refine⟨rfl,rfl,H.f2 (TC H Bd j (S i x hx).tk (λd l H=>?_) (λa s1 d l H=>?_))⟩
   ·rw[d] at k;exact H.al λm o H=>H.st 0 rfl rfl rfl λp H=>an rfl (Fv (H.sub (DB _ _)) rfl Bd hx g (S i x hx) k)
   ·rw[d] at k;have q:s1.cs[i]? =some x:=by
     unfold tq at d;split at d
     ·cases d;exact hx
     ·cases d
    have u:s1.sz=s.sz:=by
     unfold tq at d;split at d
     ·cases d;rfl
     ·cases d
    refine H.al λm o H=>H.st 0 rfl rfl rfl λp H=>ay rfl ⟨rfl,H.cJ 0 rfl (show _=some a.2.1 from rfl) ⟨rfl,H.cJ 0 rfl (show _=some a.2.2.1 from rfl) ?_⟩⟩;exact Aa H q (by omega) (by omega) _ _ λv H=>MU.res (H.sub (DB _ _)) rfl 0 0 false k
  ·have c3:x.ph=3:=by simpa using c
   rw[aw c3] at k;exact Fv H rfl Bd hx g (S i x hx) k
 ·rw[ao c];have e:aR s n=(s,(0,0),false):=by
   unfold aR;by_cases h:n<0
   ·rw[aw h]
   ·rw[ao h,Kv (by omega)]
  rw[e] at k;exact ay rfl (H.res rfl 0 0 false k)
end
def s9 (s:MS) (n:Int):Int:=if n<0 then 0 else match s.cs[n.toNat]? with
 |none=>0
 |some x=>x.ph
def XB (s:MS) (n:Int):List LT:=if n<0 then[] else match s.cs[n.toNat]? with
 |none=>[]
 |some x=>x.ls
def UF (s:MS) (n:Int):Int:=if 0<=n/\n<(s.cs.length:Int) then((s.bx.getD n.toNat []).length:Int) else 0
section
variable {Q:Sys} {X:HX} {D G:List Nat} {w0 w w1:A2} {B:MB} {R:MR} {s:MS} {T L:List (Nat×List AB)} {M:List (Nat×B2)} {i:Nat} {x:bG} {g:Option Bool}
theorem Hj {n:Int} (c: ¬ (0<=n/\n<(s.cs.length:Int))):n<0\/s.cs[n.toNat]? =none:=by
 by_cases h:n<0
 ·exact .inl h
 ·exact .inr (Kv (by omega))
theorem mn (H:MU Q X D G w0 w R s T L M) (n vm k:Int) {a b c:Int} {K:Int->A2->Prop}
 (kk: ∀f,MU Q X D G w0 f R (cP s n vm (k,a,b,c,())) T L M->K (tr s n) f):
 aA A1 29 (.el (.one (.int .i64))) [ag (af R.mb),aa n,aa vm,.agg ⟨gg k a b c⟩] w K:=by
 refine H.go λw1 H=>ai (C:=U2) (aT:=λ_=>[]) (B1 (J0 _ n vm k a b c w1 K) (H.al λj f H=>⟨_,Er H n,λ_=>rfl,λ_=>rfl,H.f0 (an rfl ?_)⟩));by_cases hc:0<=n/\n<(s.cs.length:Int)
 ·obtain⟨i,rfl⟩: ∃i:Nat,n=(i:Int):=⟨n.toNat,by omega⟩;rw[aw hc,D8];obtain⟨x,hx⟩: ∃x,s.cs[i]? =some x:=⟨_,Bf (by omega)⟩;unfold cP tr at kk;rw[ao (by omega),ao (by omega),D8,hx] at kk;dsimp only at kk;refine an rfl ⟨rfl,rfl,H.cf hx (n:=2) (λ_=>rfl) (ab (λe=>?_) (λe=>?_))⟩
  ·have e:x.ph≠0:=by simpa using e
   rw[ao e,ao e] at kk;exact H.en λd H=>kk d (H.sub (DB _ _))
  ·have c0:x.ph=0:=by simpa using e
   rw[aw c0,aw c0] at kk;refine H.ld 0 rfl (show _=some (k,a,b,c,()) from rfl) ⟨rfl,rfl,H.cs hx {x with ph:=1} 2 rfl rfl (λ_=>rfl) (λa h=>⟨h.ls,h.fs,λc=>(by cases c)⟩) λd H=>⟨?_,rfl,rfl,?_⟩⟩
   ·have:=H.rd 0 (n:=0) (el:= .agg sCl) rfl (show _=some (k,a,b,c,()) from rfl);rw[aY] at this;exact this
   refine H.cs (fh hx) {x with ph:=1,vm:=vm} 3 rfl rfl (λ_=>rfl) (λa h=>⟨h.ls,h.fs,λc=>(by cases c)⟩) λl H=>⟨?_,rfl,rfl,?_⟩
   ·have:=H.rd 0 (n:=0) (el:= .agg sCl) rfl (show _=some (k,a,b,c,()) from rfl);rw[aY] at this;exact this
   refine H.cs (fh (fh hx)) {x with ph:=1,vm:=vm,c:=(k,a,b,c,())} 4 rfl rfl (λ_=>rfl) (λa h=>⟨h.ls,h.fs,λc=>(by cases c)⟩) λm H=>H.en λg H=>?_;simp only[kW] at H;exact kk g (H.sub (DB _ _))
 ·rw[ao hc];have e:cP s n vm (k,a,b,c,())=s/\tr s n=2:=by
   unfold cP tr;rcases Hj hc with h|h
   ·rw[aw h,aw h];exact⟨rfl,rfl⟩
   ·rw[h];constructor<;>split<;>rfl
  rw[e.1,e.2] at kk;exact ay rfl (H.en λd H=>kk d (H.sub (DB _ _)))
theorem lI (H:MU Q X D G w0 w R s T L M) (n:Int):ae A1 49 [ag (af R.mb),aa n] w (aa (s9 s n)):=by
 refine ae.of (s:= .el (.one (.int .i64))) λw1 h1=>ai (C:=U2) (aT:=λ_=>[]) (B1 (BY _ n w1 _) ?_);have H:=H.ext h1;refine⟨_,Er H n,?_⟩;unfold s9;by_cases hc:0<=n/\n<(s.cs.length:Int)
 ·rw[aw hc,ao (by omega)];obtain⟨x,hx⟩: ∃x,s.cs[n.toNat]? =some x:=⟨_,Bf (by omega)⟩;rw[hx];exact an rfl ⟨rfl,rfl,H.cf hx (n:=2) (λ_=>rfl) λb a=>⟨rfl,a⟩⟩
 ·rw[ao hc];refine ay rfl λb a=>⟨?_,a⟩;rcases Hj hc with h|h
  ·rw[aw h]
  ·rw[h];split<;>rfl
theorem WW (H:MU Q X D G w0 w R s T L M) (m:s.bx.length=s.cs.length) (n:Int):ae A1 50 [ag (af R.mb),aa n] w (aa (UF s n)):=by
 refine ae.of (s:= .el (.one (.int .i64))) λw1 h1=>ai (C:=U2) (aT:=λ_=>[]) (B1 (Fe _ n w1 _) ?_);have H:=H.ext h1;refine⟨_,Er H n,?_⟩;unfold UF;by_cases hc:0<=n/\n<(s.cs.length:Int)
 ·rw[aw hc,aw hc];obtain⟨i,rfl⟩: ∃i:Nat,n=(i:Int):=⟨n.toNat,by omega⟩;rw[D8];obtain⟨q,d⟩: ∃q,s.bx[i]? =some q:=⟨_,Bf (by omega)⟩;rw[CK,d];refine an rfl ⟨rfl,rfl,H.f2 ⟨(q.length:Int),?_,λf a=>⟨rfl,a⟩⟩⟩;obtain⟨B,rfl,e⟩:=H;obtain⟨g,o,h,J⟩:=e.bxs;have W:=e.wf;have p:=W.l;obtain⟨c,j⟩: ∃c,B.cr[i]? =some c:=⟨_,Bf (by omega)⟩;have k:=h.perm (L':=B.Lb++((B.xb,lS B.sb B.so)::(B.Lo++(T++g)))) (cq λy=>by simp only[AM,AY];omega);exact SJ k B3 W.b (λx hx=>Bx _ hx) j d
 ·rw[ao hc,ao hc];exact ay rfl λf a=>⟨rfl,a⟩
theorem TE (H:MU Q X D G w0 w R s T L M):ae A1 17 [ag (af R.mb)] w (ag (af X.hb)):=by
 refine ae.of (s:= .el (.one .ptr)) λw1 h1=>ai (C:=U2) (aT:=λ_=>[]) (B1 (B7 _ w1 _) ?_);exact an rfl ⟨rfl,rfl,(H.ext h1).f0 λb a=>⟨rfl,a⟩⟩
theorem NS (H:MU Q X D G w0 w R s T L M) (n:s.ms.length<=1000000000) {K:Option AC×Nat×Nat->A2->Prop}
 (k: ∀r c b,dv YS r (s.ms.map YT) c->MU Q X D G w0 b R s (c++T) L M->K r b):
 aA A1 41 (.el (.one .slice)) [ag (af R.mb)] w K:=by
 refine H.go λw1 H=>ai (C:=U2) (aT:=λ_=>[]) (B1 (BZ _ w1 K) (an rfl ⟨rfl,rfl,?_⟩));obtain⟨B,rfl,a⟩:=H;refine a.rC (show _=some (B.sm.1,B.sm.2.1,B.sm.2.2) from rfl) λb f=>?_;have a:=a.ext f;obtain⟨o,p,d,g, _, _,J⟩:=a.tmp;have W:=a.wf;have h:=W.m.oQ d.base (λx hx=>B4 _ (g _ (Ay _ (Ay _ (Ay _ (B4 _ (Bx _ hx)))))));refine FO (Ls:=[]) d (dv.nil YS) rfl (q:=B.sm) W.m.1 h rfl rfl (by rw[DD,KL];omega) λs' e t hs i j l=>k _ e j hs ⟨B,rfl,?_⟩;exact J (T':=e++T) (by rw[Kt];exact i.ext l)
theorem vE (H:MU Q X D G w0 w R s T L M) (f:0<s.sz/\s.sz<=64) (g: ∀y∈s.cs,(y.ls.length:Int)<=s.sz) (n:Int) {K:Option AC×Nat×Nat->A2->Prop}
 (k: ∀r b c,dv ku r (XB s n) b->MU Q X D G w0 c R s (b++T) L M->K r c):
 aA A1 51 (.el (.one .slice)) [ag (af R.mb),aa n] w K:=by
 refine H.go λw1 H=>ai (C:=U2) (aT:=λ_=>[]) (B1 (B6 _ n w1 K) ⟨_,Er H n,?_⟩);unfold XB at k;by_cases hc:0<=n/\n<(s.cs.length:Int)
 ·rw[ao (by omega)] at k;rw[aw hc];obtain⟨x,hx⟩: ∃x,s.cs[n.toNat]? =some x:=⟨_,Bf (by omega)⟩;rw[hx] at k;have u:=g x (DI hx);refine an rfl ⟨rfl,rfl,H.c1 hx ?_⟩;obtain⟨a,i,j,v,hb,W,l,J⟩:=H.DG hx;have d:cF D G w0 w1 ((R.tb n.toNat,dq a.st s.sz)::(a.Lt++((a.cb,jU a n.toNat x)::(a.Lf++(a.Lw++(T++i)))))) j:=l.perm (cq λy=>by rw[<-hb];simp only[s8,AM,AY];omega);refine Ly d.base.again W.ls (by omega) f.1 λr b c m o p q=>k r b p m ?_;have:=J (T':=b++T) rfl rfl W (((d.join o).perm (cq λy=>by rw[<-hb];simp only[s8,AM,AY];omega)).ext q);rw[NJ hx] at this;exact this
 ·rw[ao hc];have e:(if n<0 then[] else match s.cs[n.toNat]? with|none=>[]|some x=>x.ls)=([]:List LT):=by
   rcases Hj hc with h|h
   ·rw[aw h]
   ·rw[h];split<;>rfl
  rw[e] at k;exact ay rfl λc t=>k (none,0,0) [] c (dv.nil ku) (H.ext t)
theorem wW (H:MU Q X D G w0 w R s T L M) (j:s.ep.ws.length<=1000000) {K:Option AC×Nat×Nat->A2->Prop}
 (k: ∀r a c,dv eI r (mQ (s.ep.ws.map (·.1))) a->MU Q X D G w0 c R s (a++T) L M->K r c):
 aA A1 32 (.el (.one .slice)) [ag (af R.mb)] w K:=by
 refine H.go λw1 H=>ai (C:=U2) (aT:=λ_=>[]) (B1 (wR _ w1 K) (an rfl ⟨rfl,rfl,H.f1 ?_⟩));obtain⟨B,rfl,b⟩:=H;obtain⟨l,m,d,J⟩:=b.eps;refine SH d b.wf.w (by omega) B3 λr n a c e f hs g h i=>k r a h (by rw[<-X6 e f];exact hs) ⟨_,rfl,J (T':=a++T) (ep:=s.ep) b.wf.p b.wf.w ((g.perm (cq λy=>by simp only[AM,AY];omega)).ext i)⟩
end
section
variable {Q:Sys} {X:HX} {D G:List Nat} {w0 w w1:A2} {B:MB} {R:MR} {s:MS} {T L:List (Nat×List AB)} {M:List (Nat×B2)} {i:Nat} {x:bG} {g:Option Bool}
abbrev tw (B:MB) (n:Nat) (sc:Option AC×Nat×Nat) (Lc:List (Nat×List AB)) (a:CA):MB:={B with sc:=sc,Lc:=Lc,A:=λk=>if k=n then a else B.A k}
theorem iH.cps (H:iH Q X D G w0 w B s T L M): ∃j n,cF D G w0 w ((B.mb,rU X B)::(B.Lc++(T++j))) n/\
 ∀{T' sc Lc a x w'},dv eP sc (yQ B s.cs.length++[some ⟨a.cb,0,none⟩]) Lc->TZ a x->cF D G w0 w' ((B.mb,rU X (tw B s.cs.length sc Lc a))::(Lc++(s8 a s.cs.length x s.sz++(T'++j)))) n->iH Q X D G w0 w' (tw B s.cs.length sc Lc a) {s with cs:=s.cs++[x]} T' L M:=by
 obtain⟨A,ca,la,h1,r,d,t⟩:=H;refine⟨(B.eb,oE s.ep.now B.sp B.wb)::(B.xb,lS B.sb B.so)::(B.Lm++(B.Lp++(B.Lb++(B.Lo++(iv B s (AL s.cs.length)++(Ge Q X A ca la s.h++L)))))), _,t.perm (cq λa=>by simp only[AM,AY];omega),λ{T' sc Lc a x w'} hs u K=>?_⟩;have g: ∀k,k<s.cs.length->(tw B s.cs.length sc Lc a).A k=B.A k:=λk c=>ao (by omega);have i:(tw B s.cs.length sc Lc a).A s.cs.length=a:=aw rfl;have q:(s.cs++[x]).length=s.cs.length+1:=by rw[GJ];rfl
 have v:yQ (tw B s.cs.length sc Lc a) (s.cs++[x]).length=yQ B s.cs.length++[some ⟨a.cb,0,none⟩]:=by
  show(AL (s.cs++[x]).length).map _= _;rw[q,IM,Gc];congr 1
  ·exact KE λk c=>by rw[g k (DA.1 c)]
  ·show[some (⟨((tw B s.cs.length sc Lc a).A s.cs.length).cb,0,none⟩:AC)]= _;rw[i]
 have z:iv (tw B s.cs.length sc Lc a) {s with cs:=s.cs++[x]} (AL (s.cs++[x]).length)=iv B s (AL s.cs.length)++s8 a s.cs.length x s.sz:=by
  unfold iv;rw[q,IM,List.flatMap_append];congr 1
  ·refine gE λk c=>?_;have c:=DA.1 c;show(match (s.cs++[x])[k]? with|some x=> _|none=> _)= _;rw[GS c,g k c]<;>cases s.cs[k]? <;>rfl
  ·show(match (s.cs++[x])[s.cs.length]? with|some x=>s8 ((tw B s.cs.length sc Lc a).A s.cs.length) s.cs.length x s.sz|none=> _)++[]= _;rw[LL (DQ _),Nat.sub_self,i];exact DY _
 refine⟨A,ca,la,h1,r,⟨by rw[v];exact hs,d.m,d.p,d.b,d.o,d.l,d.k,d.w,λ{k y} f=>?_⟩,K.perm ?_⟩
 ·have f:(s.cs++[x])[k]? =some y:=f;by_cases c:k<s.cs.length
  ·rw[GS c] at f;rw[g k c];exact d.a f
  ·have C:=(Ax.1 f).1;have e:k=s.cs.length:=by omega
   subst e;rw[LL (DQ _),Nat.sub_self] at f;cases f;rw[i];exact u
 ·show(T'++(((B.mb,rU X (tw B s.cs.length sc Lc a))::(B.eb,oE s.ep.now B.sp B.wb)::(B.xb,lS B.sb B.so)::(Lc++(B.Lm++(B.Lp++(B.Lb++B.Lo)))))++(iv (tw B s.cs.length sc Lc a) {s with cs:=s.cs++[x]} (AL (s.cs++[x]).length)++(Ge Q X A ca la s.h++L)))).Perm _;rw[z];exact cq λa=>by simp only[AM,AY];omega
abbrev mZ (f c j:Nat) (l:Int):MS:={m0 f c l with cs:=Co j (cv [])}
theorem xQ (H:aK D G w0 w L) (f c l:Int) (hf:4<=f/\f<=4096) (hl:1<=l/\l<=64) {K:Option AC×Int×Unit->A2->Prop} (kb:c<1\/c>8-> ∀w1,aK D G w0 w1 L->K (none,1,()) w1)
 (U:1<=c->c<=8-> ∀Q X R w1,Q.c=16*f.toNat->MU Q X D G w0 w1 R (m0 f.toNat c.toNat l) [] L []->K (some ⟨R.mb,0,none⟩,0,()) w1):
 aA A1 52 (.bu [.one .ptr,.one (.int .i64)]) [aa f,aa c,aa l] w K:=by
 refine aA.go H λw1 H=>ai (C:=U2) (aT:=wS) (B1 (Wu f c l w1 K) ?_);refine Wt H f (λh=>by omega) λ_ _ Q X w2 V H=>an rfl ?_;obtain⟨A,W,S⟩:=H;have Y:yR (h0 f.toNat).s:=⟨S.pos,S.Gz,S.le,S.okw⟩;obtain⟨_, _, _, _,ca,la,H⟩:=S;refine Dc H c (λhc Z H=>ay rfl λF I=>kb hc F ?_) λc1 c8 eb wb sp Lp Z Xi H=>an rfl λF I=>?_
 ·refine(H.base.sub ?_).ext I;refine Ep _ (Ep _ (Ep _ (Ep _ (Ep _ (Ep _ (Ep _ (Ep _ (F7 _ _))))))))
 obtain⟨n,rfl⟩: ∃n:Nat,c=(n:Int):=⟨c.toNat,by omega⟩;obtain⟨m,rfl⟩: ∃m:Nat,f=(m:Int):=⟨f.toNat,by omega⟩;simp only[af,D8] at*
 have H:=(H.ext I).alloc (o:= .map ⟨[]⟩ 0) trivial;obtain⟨q,hkb⟩: ∃b,b=F.heap.size:=⟨_,rfl⟩;rw[<-hkb] at H ⊢;refine alM H λmb w5 H=>Ws H (n:Int) (λh=>by omega) λ_ _ xb cr sb Lb w6 N hsb H=>⟨trivial,trivial,?_⟩;rw[D8] at N H;refine Xt (n:=2) (H.perm (L':=(mb,[ag (af X.hb),ag (af eb),ag none,.slice none 0 0,.map (some q),.slice none 0 0])::((xb,lS sb (none,0,0))::(Lb++((eb,oE 0 sp wb)::(Lp++Q.L ca la (h0 m).s (d_ Q X A (h0 m) (a_ Q A (h0 m).g (AL 17)++L))))))) (cq λy=>by simp only[af,AM,AY];omega)) 0 rfl rfl rfl λw7 H=>?_;have H0:iH Q X D G w0 w7 {mb:=mb,eb:=eb,xb:=xb,kb:=q,wb:=wb,sc:=(none,0,0),sm:=(none,0,0),sp:=sp,sb:=sb,so:=(none,0,0),Lc:=[],Lm:=[],Lp:=Lp,Lb:=Lb,Lo:=[],cr:=cr,ke:=[],we:=[],kk:=0,wk:=0,A:=λ_=>⟨0,0,(none,0,0),(none,0,0),none,[],[],[]⟩} (mZ m n 0 l) [] L []:=by
  refine⟨A,ca,la,W,Y,⟨dv.nil eP,dv.nil YS,Xi,hsb,dv.nil eI,by rw[N];exact E4.symm,iI.nil,iI.nil,λ{i x} hx=>?_⟩,(H.perm (cq λy=>?_)).lr (cq λy=>?_)⟩
  ·have hx:(Co 0 (cv []))[i]? =some x:=hx;rw[List.replicate_zero] at hx;cases hx
  ·show CJ y ([]++((mb,[ag (af X.hb),ag (af eb),ag (af xb),.slice none 0 0,.map (some q),.slice none 0 0])::(eb,oE 0 sp wb)::(xb,lS sb (none,0,0))::([]++([]++(Lp++(Lb++[]))))++([]++(Q.L ca la (h0 m).s (d_ Q X A (h0 m) (a_ Q A (h0 m).g (AL 17)))++L))))= _;simp only[af,Sys.L,List.set_cons_succ,FZ,AM,AY,G1];omega
  ·show CJ y ((q,Obj.map ⟨[]⟩ 0)::(wb,Obj.map ⟨[]⟩ 0)::qE cr (Co n [])++(dn A (h0 m).g (AL 17)++[]))= _;simp only[af,AM,AY,G1];omega
 generalize t:({mb:=mb,eb:=eb,xb:=xb,kb:=q,wb:=wb,sc:=(none,0,0),sm:=(none,0,0),sp:=sp,sb:=sb,so:=(none,0,0),Lc:=[],Lm:=[],Lp:=Lp,Lb:=Lb,Lo:=[],cr:=cr,ke:=[],we:=[],kk:=0,wk:=0,A:=λ_=>⟨0,0,(none,0,0),(none,0,0),none,[],[],[]⟩}:MB)=B0 at H0;have t:B0.mb=mb:=by rw[<-t]
 refine⟨λk st M=> ∃(j:Nat) (B:MB),j<=n/\k=n - j/\st.1=(j:Int)/\B.mb=mb/\iH Q X D G w0 M B (mZ m n j l) [] L [],⟨n,λM h8=>⟨0,B0,Ef _,rfl,rfl,t,H0.ext h8⟩⟩,?_⟩;clear H H0 t;rintro k ⟨i, _⟩ M ⟨j,B,hj,hk',hi,rfl,HH⟩;have hi:i=(j:Int):=hi;have H:=HH;subst hi hk';dsimp only;refine ab (λc=>?_) (λc=>?_)
 ·have hj:j<n:=by have:=of_decide_eq_true c;omega
  obtain⟨r,O,u, _, _, _,J⟩:=H.tmp;refine λv z=>Vh (u.ext z).base.again l (λh=>by omega) (λ_ _ tb lP E=>an rfl ⟨trivial,trivial,?_⟩) v (Ext.refl v);have H:iH Q X D G w0 lP B (mZ m n j l) [(tb,dq (none,0,0) l)] L []:=J (T':=[(tb,dq (none,0,0) l)]) ((u.ext z).join E);refine H.rC (show _=some (B.sc.1,B.sc.2.1,B.sc.2.2) from rfl) (H.al λa nv H=>H.al λp DN H Om h13=>?_);have H:=H.ext h13;obtain⟨r,O,u,J⟩:=H.cps;have hlen:(mZ m n j l).cs.length=j:=E4;have P:=H.wf.c;rw[hlen] at J P;have E:=u.perm (L':=B.Lc++((B.mb,rU X B)::([(p,[ag (af a)]),(a,[aa (j:Int),ag (af tb),aa 0,aa 0,aa 0,az 0,az 0,az 0,ag none,aa 0,az 0,aa 0,aa 0,.slice none 0 0]),(tb,dq (none,0,0) l)]++r))) Ga;have hb:bN Om p (cellsOf eP (af a)):=E.base.dp _ (B4 _ (Ay _ B3));refine FO E P rfl (ys:=[some ⟨a,0,none⟩]) rfl (rY hb) rfl rfl (by rw[DD,E5,I2];omega) λs' d Gb fq K3=>⟨trivial,trivial,Xt (n:=3) (K3.perm Ga.symm) 0 rfl rfl rfl λXj K4 TS Xu=>⟨n - (j+1),by omega,j+1,tw B j s' d ⟨a,tb,(none,0,0),(none,0,0),none,[],[],[]⟩,by omega,rfl,?_,rfl,?_⟩⟩
  ·rw[av (by omega) (by omega)];omega
  ·have K5:cF D G w0 Xj ((B.mb,rU X (tw B j s' d ⟨a,tb,(none,0,0),(none,0,0),none,[],[],[]⟩))::(d++(s8 ⟨a,tb,(none,0,0),(none,0,0),none,[],[],[]⟩ j (cv []) (mZ m n j l).sz++([(p,[ag (af a)])]++r)))) O:=K4.perm (cq λy=>by
    show CJ y ((B.mb,rU X (tw B j s' d ⟨a,tb,(none,0,0),(none,0,0),none,[],[],[]⟩))::(d++(((a,jU ⟨a,tb,(none,0,0),(none,0,0),none,[],[],[]⟩ j (cv []))::(tb,dq (none,0,0) l)::([]++([]++[])))++([(p,[ag (af a)])]++r))))=CJ y ((B.mb,rU X (tw B j s' d ⟨a,tb,(none,0,0),(none,0,0),none,[],[],[]⟩))::(d++([(p,[ag (af a)]),(a,jU ⟨a,tb,(none,0,0),(none,0,0),none,[],[],[]⟩ j (cv [])),(tb,dq (none,0,0) l)]++r)));simp only[af,AM,AY,G1];omega)
   have T:=(J (T':=[(p,[ag (af a)])]) (x:=cv []) fq ⟨dv.nil ku,dv.nil eI,λc=>(by cases c)⟩ K5).ext Xu;have e:({mZ m n j l with cs:=(mZ m n j l).cs++[cv []]}:MS)=mZ m n (j+1) l:=by
    show MS.mk _ _ _ _ _ _ _ _=MS.mk _ _ _ _ _ _ _ _;rw[List.replicate_succ']
   rw[e] at T;exact T.sub (M4 _)
 ·have:j=n:=by have:=of_decide_eq_false c;omega
  subst this;exact λv z=>U c1 c8 Q X B.rt v V ⟨B,rfl,H.ext z⟩
end
theorem FN {ws:List Int} {p t:Int} {x:Int×Int×FT} (e:0<=x.2.1/\x.2.1<=3) (h1:(bF ws p t x).2.1= -1) (a:(bF ws p t x).2.2.2.2.2.1=0):1<=(bF ws p t x).2.2.2.1/\(bF ws p t x).2.2.2.1<=7:=by
 have b: ∀n:Nat,F' n<=7:=λn=>by unfold F';split<;>omega
 have d: ∀{lv wt fr:Int} {ep:Bool} {er:Int} {el:Bool} {ef:Int},(ym lv wt fr ep er el ef).2.2.2.1=0->er<=7->1<=(ym lv wt fr ep er el ef).2.1/\(ym lv wt fr ep er el ef).2.1<=7:=λ{lv wt fr ep er el ef} h f=>by
  unfold ym at h ⊢;split
  grind
  ·rename_i c;rw[ao c] at h;split
   ·rename_i c2;unfold gO at c2
    grind
   grind
 unfold bF at h1 a ⊢;rw[ao (by omega)] at h1 a ⊢;split
 ·rename_i c;rw[aw c] at a;exact absurd a (show ¬ (11:Int)=0 by decide)
 ·rename_i c;rw[ao c] at h1 a;revert h1 a;generalize (B (dQ ws (eB x.1 p x.2.1))).toNat=N;intro h1 a;unfold tookS at h1 a ⊢;split
  ·rename_i c;rw[aw c] at a;exact absurd a (show ¬ (4:Int)=0 by decide)
  ·rename_i c;rw[ao c] at h1 a;split
   ·rename_i c;rw[aw c] at h1;rw[DK,decide_eq_true_eq] at c;have h1:aX .i64 x.2.1 1= -1:=h1;rw[bC (by omega) (by omega)] at h1;omega
   ·rename_i c;rw[ao c] at h1 a;split
    ·rename_i c;rw[aw c] at a;exact d a (b N)
    ·rename_i c;rw[ao c] at a;split
     ·rename_i c;rw[aw c] at a;exact d a (b N)
     ·rename_i c;rw[ao c] at a;exact absurd a (show ¬ (11:Int)=0 by decide)
structure MG (Q:Sys) (n k:Nat) (s:MS):Prop where
 XC:uV n s
 Oa:Oq Q s.h.s
 now:s.ep.now<=(k:Int)
 ms:s.ms.length<=5000*k
 op:s.op.length<=k
 vm: ∀y∈s.cs,y.vm<9223372036854775808
section
variable {Q:Sys} {n k:Nat} {s:MS} {gh:Gh} {ta:Int->Bool}
theorem Qg (M:MI gh ta n s):s.ep.ws.length<=4096:=by
 have:=tZ _ _ M.wn λf a=>by
  obtain⟨e,b,rfl⟩:=B5.1 a;obtain⟨m,d,h1,c, _⟩:=M.k5 _ (M.wk e b).1;rw[h1];exact B5.2 ⟨m,DA.2 (Ax.1 c).1,rfl⟩
 rw[DD,DD,E5] at this;have:=M.hi.inv.le;omega
theorem MG.bn (H:MG Q n k s) (d:k<=100000):Bn s:=by
 obtain⟨gh,ta,M⟩:=H.XC;have f:=M.nn;have h1:=M.lc;have g:=M.lb;have h:=M.lp;have i:=M.sz;have l:=H.now;have m:=H.ms;have o:=H.op;have p:=Qg M;exact⟨by omega,by omega,by omega,⟨M.nw,by omega⟩,by omega,λe a=>(M.wk e a).2,by omega,by omega,λq b=>by
  obtain⟨j,c⟩:=GH b;have:=M.box c;omega,by omega,M.tl,H.vm,M.ar⟩
theorem MG.rdy (H:MG Q n k s):CN Q s.h:=by
 obtain⟨gh,ta,M⟩:=H.XC;exact M.hi.rdy H.Oa
theorem MG.sx (H:MG Q n k s) (V:k<=100000) {i:Nat} {x:bG} (hx:s.cs[i]? =some x):Sx s i x:=by
 obtain⟨gh,ta,M⟩:=H.XC;have g:=DI hx;have F:=M.ar x g;have W:=H.op;have X:=M.hi.inv.le;refine⟨M.ph x g,λb=>?_,λb G I=>?_,λz=>?_,λo=>?_,λA=>?_,λa q u=>?_⟩
 ·obtain⟨l,w1,J, _⟩:=M.wl hx b;rw[w1];omega
 ·obtain⟨B,C,Y⟩:=M.ac x g b;obtain⟨l,w1,J,L,r⟩:=M.wl hx b;have v:=tH ⟨F.1.1,C⟩;have K:x.wk=(x.wk.1,(l:Int),(0,0,0,0,())):=DO rfl (DO w1 L);obtain⟨N,hg,Z,O,s6,qD⟩:=tG M B;have sZ:=FN (x:=x.wk) (by rw[w1];omega) G I;have u:bD s.h.s N.root false (x.c.2.1 / 16)=((bF s.h.s.1 (x.c.2.1 / 16) (a7 x.c.1) x.wk).2.2.1,(bF s.h.s.1 (x.c.2.1 / 16) (a7 x.c.1) x.wk).2.2.2.1,0,()):=by
   rcases r with r|r
   ·rcases M.hi.inv.nj M.hi.nl (t:=a7 x.c.1) O v r with ⟨m, _,D,w,k3,k4⟩|⟨D,w⟩
    ·rw[<-K] at D;rw[G] at D;omega
    ·rw[<-K] at w;exact w I
   ·obtain⟨_,w⟩:=M.hi.inv.nq (t:=a7 x.c.1) v J r.1
    grind
  have P:gT s.h x.vm.toNat (x.c.2.1 / 16)=((bF s.h.s.1 (x.c.2.1 / 16) (a7 x.c.1) x.wk).2.2.1,(bF s.h.s.1 (x.c.2.1 / 16) (a7 x.c.1) x.wk).2.2.2.1,0,()):=by rw[bP hg];exact u
  have R:lY s.h x.vm.toNat (x.c.2.1 / 16)=some (bF s.h.s.1 (x.c.2.1 / 16) (a7 x.c.1) x.wk).2.2.1:=by rw[eo,P];rfl
  obtain⟨m,d,rB,S,d4, _⟩:=M.hi.Um R;have:=(Ax.1 S).1;unfold lnR
  grind
 ·obtain⟨⟨m,d,h1,b, _⟩, _⟩:=M.rc hx z;have:=(Ax.1 b).1;omega
 ·obtain⟨h1,b, _⟩:=M.wt x g o;refine⟨by omega,?_,λf E=>?_⟩
  ·have:=tZ x.fs _ (M.fn x g o) λf E=>by
    obtain⟨m,d,h1,b, _⟩:=M.k5 _ (M.fk x g o f E).1;rw[h1];exact B5.2 ⟨m,DA.2 (Ax.1 b).1,rfl⟩
   grind
  ·obtain⟨m,d,h1,b, _⟩:=M.k5 _ (M.fk x g o f E).1;omega
 ·unfold jG at A;simp only[DK,decide_eq_true_eq] at A;obtain⟨h0,B, _,C⟩:=A;have v:=tH ⟨F.1.1,C⟩;have hb:=(NI M.hi B v).1;unfold u_ at hb ⊢;simp only[Mr,decide_eq_false_iff_not] at hb ⊢;refine⟨⟨hb.1.1,by omega⟩,?_⟩;unfold a7;split
  ·decide
  ·split<;>decide
 ·have h1:=M.fW u B3;obtain⟨j,y, _,z,o,T⟩:=(M.aq u).2 a B3;have h6:=(M.wt y (DI z) o).1;have e:a.1=y.ak:=by rw[T]
  refine⟨⟨by omega,h1⟩,?_⟩;have U:=M.oc (a.1 - 1).toNat (by omega);rw[U];have h8:=List.countP_le_length (p:=λq=>jt q (((a.1 - 1).toNat:Int)+1)) (l:=s.bx);have h9:=M.lb;have A0:=M.nn;omega
structure Cn (s s':MS):Prop where
 now:s'.ep.now<=s.ep.now+1
 ms:s'.ms.length<=s.ms.length+5000
 op:s'.op.length<=s.op.length+1
 wd:s'.h.s.1.length=s.h.s.1.length
 vm: ∀y∈s'.cs,y.vm=0\/ ∃x∈s.cs,x.vm=y.vm
theorem Cn.same (s:MS):Cn s s:=⟨by omega,by omega,by omega,rfl,by grind⟩
theorem Cn.set {s':MS} (h:Cn s s') {i:Nat} {x:bG} (y:bG) (hx:y.vm=0\/ ∃x∈s.cs,x.vm=y.vm):Cn s (bS s' i y):=by
 refine⟨h.now,h.ms,h.op,h.wd,λz a=>?_⟩;rcases iD a with rfl|a
 ·grind
 ·exact h.vm z a
theorem vk: ∀(l:List Int) (s:MS),(l.foldl g_ s).h.s.1=s.h.s.1/\(l.foldl g_ s).op=s.op/\(l.foldl g_ s).ep=s.ep
 |[],s=>⟨rfl,rfl,rfl⟩
 |f::l,s=>by
  rw[Gd,(vk l _).1,(vk l _).2.1,(vk l _).2.2];refine⟨?_,rfl,rfl⟩;show(iz _ f).1= _;unfold iz;grind
theorem Cn.free (a:s.ep.ws.length<=4096):Cn s (cQ s).1:=by
 have b:(my (e_ s.ep)).length<=4096:=by
  unfold my;rw[jN];rw[vj];grind
 unfold cQ;refine⟨?_,?_,?_,?_,?_⟩
 ·rw[(vk _ _).2.2];exact(Qf _).2
 ·rw[Dq];grind
 ·rw[(vk _ _).2.1];grind
 ·rw[(vk _ _).1]
 ·rw[Ds];grind
theorem Cn.post {s':MS} (h:Cn s s') (b:s'.op=s.op) (bx:List (List AK)) (i:Nat) (t p:Int) (a:List (List AK)):Cn s {s' with bx:=a,op:=(cz bx s.op i t p).2.2}:=by
 refine⟨h.now,h.ms,?_,h.wd,h.vm⟩;unfold cz
 grind
theorem Cn.call {i:Nat} {x:bG} (a:x∈s.cs):Cn s (fp s i x).1:=by
 have h1:Cn s {s with h:=iX _ x.vm x.c.1 x.c.2.1 x.c.2.2.1 x.c.2.2.2.1,kn:=s.kn++eJ s (iX s.h x.vm x.c.1 x.c.2.1 x.c.2.2.1 x.c.2.2.2.1),ms:=s.ms++[(1,x.vm,0,x.c,qF s.h x.vm x.c.1 x.c.2.1 x.c.2.2.1 x.c.2.2.2.1,oO s.h x.vm x.c.1 x.c.2.1 x.c.2.2.1 x.c.2.2.2.1)]}:=
  ⟨by grind,by simp,by simp,Qc ..,by grind⟩
 have hx: ∀y:bG,y.vm=x.vm->y.vm=0\/ ∃x∈s.cs,x.vm=y.vm:=λy e=> .inr (by grind);unfold fp;dsimp;split
 ·split
  ·exact h1.set (x:=x) _ (hx _ rfl)
  ·exact(h1.post rfl _ _ _ _ _).set (x:=x) _ (hx _ rfl)
 ·exact h1.set (x:=x) _ (hx _ rfl)
theorem Cn.phase (c:s.ep.ws.length<=4096) {i:Nat} {x:bG} (d:x∈s.cs):Cn s (bO s i x).1:=by
 have hx: ∀y:bG,y.vm=x.vm->y.vm=0\/ ∃x∈s.cs,x.vm=y.vm:=λy e=> .inr ⟨x,d,e.symm⟩;have b: ∀e:vM,e.now=s.ep.now->Cn s {s with ep:=e}:=λe h=>⟨by show e.now<= _;omega,by show s.ms.length<= _;omega,by show s.op.length<= _;omega,rfl,λy a=> .inr ⟨y,a,rfl⟩⟩;have f:(AP s.ep i).now=s.ep.now:=by unfold AP;split<;>rfl
 unfold bO;split
 ·exact Cn.free c
 split
 ·unfold cZ;split
  ·dsimp only;split<;>exact(b _ f).set (x:=x) _ (hx _ rfl)
  split
  ·exact Cn.same s
  split
  ·exact Cn.free c
  ·exact Cn.call d
 split
 ·unfold j7;dsimp only;split
  ·exact(Cn.same s).set (x:=x) _ (hx _ rfl)
  split
  ·exact(b (vb s.ep i) rfl).set (x:=x) _ (hx _ rfl)
  ·exact(Cn.same s).set (x:=x) _ (hx _ rfl)
 split
 ·unfold fB;dsimp only;split
  ·exact⟨by show s.ep.now<= _;omega,by simp,by show s.op.length<= _;omega,cH ..,λy a=> .inr ⟨y,a,rfl⟩⟩
  ·exact⟨by show s.ep.now<= _;omega,by grind,by show s.op.length<= _;omega,rfl,λy a=> .inr ⟨y,a,rfl⟩⟩
 ·unfold h_;split
  ·exact b _ (zF _ _).1
  ·exact Cn.same s
theorem Cn.step (g:s.ep.ws.length<=4096) (c:Int):Cn s (aR s c).1:=by
 have h: ∀{i:Nat} {x:bG},x∈s.cs->Cn s (il (bO s i x) i x).1:=λ{i x} d=>by
  unfold il;split
  ·exact(Cn.phase g d).set (x:=x) _ (.inl rfl)
  ·exact Cn.phase g d
 unfold aR;split
 ·exact Cn.same s
 split
 ·exact Cn.same s
 ·rename_i x hx;have d:=DI hx;unfold iB;split
  ·exact h d
  ·split
   ·rename_i a s1 f;unfold tq at f;split at f
    ·cases f;have k: ∀y:bG,y.vm=x.vm->y.vm=0\/ ∃x∈s.cs,x.vm=y.vm:=λy e=> .inr ⟨x,d,e.symm⟩;have h0: ∀(b:List (List AK)) (j:Nat) (v:Int),Cn s {s with bx:=b,op:=s.op.set j v}:=λb j v=>⟨by grind,by simp,by simp,rfl,by grind⟩;exact(h0 _ _ _).set (x:=x) _ (k _ rfl)
    ·cases f
   ·exact h d
theorem MG.step (H:MG Q n k s) (c:Int):MG Q n (k+1) (aR s c).1:=by
 obtain⟨gh,ta,M⟩:=H.XC;have C:=Cn.step (Qg M) c;have h1:=H.now;have b:=H.ms;have d:=H.op;have f:=C.now;have g:=C.ms;have h:=C.op;refine⟨H.XC.step c,⟨by rw[C.wd];exact H.Oa.1,by rw[C.wd];exact H.Oa.2⟩,by omega,by omega,by omega,λy a=>?_⟩;rcases C.vm y a with e|⟨x,hx,e⟩
 ·grind
 ·rw[<-e];exact H.vm x hx
theorem MG.mono (H:MG Q n k s) {a:Nat} (h:k<=a):MG Q n a s:=by
 have h1:=H.now;have b:=H.ms;have c:=H.op;exact⟨H.XC,H.Oa,by omega,by omega,by omega,H.vm⟩
theorem MG.ask (H:MG Q n k s) (c vm:Int) (hv:vm<9223372036854775808) {ct:CT} (hc:cg ct.2.1/\cg ct.2.2.1/\cg ct.2.2.2.1):MG Q n k (cP s c vm ct):=by
 refine⟨H.XC.ask c vm hc,?_,?_,?_,?_,?_⟩<;>unfold cP
 ·split
  ·exact H.Oa
  ·split
   ·exact H.Oa
   ·split<;>exact H.Oa
 ·split
  ·exact H.now
  ·split
   ·exact H.now
   ·split<;>exact H.now
 ·split
  ·exact H.ms
  ·split
   ·exact H.ms
   ·split<;>exact H.ms
 ·split
  ·exact H.op
  ·split
   ·exact H.op
   ·split<;>exact H.op
 ·split
  ·exact H.vm
  ·split
   ·exact H.vm
   ·split
    ·intro y a;rcases iD a with rfl|a
     ·grind
     ·exact H.vm y a
    ·exact H.vm
theorem MG.new {f:Nat} {l:Int} (a:4<=f/\f<=4096) (b:1<=n/\n<=8) (d:1<=l/\l<=64) (g:Q.c=16*f):MG Q n 0 (m0 f n l):=by
 refine⟨uV.new a b d,⟨?_,?_⟩,Gi _,DQ _,DQ _,λy e=>?_⟩
 ·show(Co _ _).length<=Q.c
  grind
 ·show(Co _ 0).length<= _
  grind
 ·rw[Dn e];decide
end
abbrev sOp:List Sc:=[.int .i64,.bool,.int .i64,.int .i64,.int .u64,.int .u64,.int .u64]
noncomputable def U4:dM A1:={U2 with quiet:=[49,50,17]++U2.quiet}
def rq:Nat->a6:=(λ|5=>[(10,Go.RX.El.one (Go.RX.Sc.int Go.IntKind.i64))]| _=>[])
theorem NT (f c l:Int) (w:A2) (d:Option AC×Bool×Unit->A2->Prop):(aJ U4 rq 15 [aa f,aa c,aa l] w d)=(
 aA A1 52 (.bu [.one .ptr,.one (.int .i64)]) [aa f,aa c,aa l] w λ(x:Option AC×Int×Unit) a=>aI (x.2.1 != 0||x.1.isNone) (au a (d (none,false,()))) (∃(I:Nat->Int×Unit->A2->Prop),(∃n, ∀w1,Ext a w1->I n (0,()) w1)/\ ∀(n:Nat) (s:Int×Unit) (w1:A2),I n s w1->aI (decide (s.1<2)) (aA A1 29 (.el aV) [ag x.1,aa 0,aa 0,.agg ⟨[aa 1,az 0,az 0,az 0]⟩] w1 λ(h:Int) a=>aI (h != 0) (au a (d (none,false,()))) (aA
 A1 31 (.bu [.agg [.int .u64,.int .i64],.one .bool]) [ag x.1,aa 0] a λ(x:(Int×Int×Unit)×Bool×Unit) a=>aM a ⟨[az 0,aa 0]⟩ 61 λb a=>aC a (af b) [az x.1.1,aa x.1.2.1] λa=>((!!x.2.1)=true->true=true)/\aj a (some !!x.2.1) (ad (af b) 0) rI λ(i:Int)=>aI (!x.2.1||i != aE .u64 (aH .i64 1 s.1)) (au a (d (none,false,()))) (∀e,Ext a e-> ∃(g:Nat),g<n/\I g (aH .i64 s.1 1,()) e))) (au w1 (d (x.1,true,()))))):=by kernel_rfl
def ru:Nat->a6:=(λ|1=>[(6,Go.RX.El.one (Go.RX.Sc.int Go.IntKind.i64))]|4=>[(7,Go.RX.El.one (Go.RX.Sc.int Go.IntKind.i64))]| _=>[])
theorem NU (p:Option AC) (c r:Int) (w:A2) (f:Unit->A2->Prop):(aJ U4 ru 48 [ag p,aa c,aa r] w f)=(
 ∃(I:Nat->Int×Unit->A2->Prop),(∃n, ∀w1,Ext w w1->I n (0,()) w1)/\ ∀(n:Nat) (s:Int×Unit) (w1:A2),I n s w1->aI (decide (s.1<r)) (∃(e:Nat->Int×Unit->A2->Prop),(∃n, ∀g,Ext w1 g->e n (0,()) g)/\ ∀(h:Nat) (d:Int×Unit) (w1:A2),e h d w1->aI (decide (d.1<c)) (aA A1 31 (.bu [.agg [.int .u64,.int .i64],.one .bool]) [ag p,aa d.1] w1 λ(x:(Int×Int×Unit)×Bool×Unit) i=> ∀a,Ext i a-> ∃(b:Nat),b<h/\e b (aH .i64 d.1 1,()) a) (∀a,
 Ext w1 a-> ∃(b:Nat),b<n/\I b (aH .i64 s.1 1,()) a)) (au w1 (f ()))):=by kernel_rfl
def rz:Nat->a6:=(λ|10=>[(9,Go.RX.El.one (Go.RX.Sc.int Go.IntKind.i64))]| _=>[])
theorem NV (w:A2) (f:Bool->A2->Prop):(aJ U4 rz 46 [] w f)=(
 aA A1 15 (.bu [.one .ptr,.one .bool]) [aa 30,aa 2,aa 4] w λx a=>aA A1 52 (.bu [.one .ptr,.one (.int .i64)]) [aa 30,aa 9,aa 4] a λ(q:Option AC×Int×Unit) a=>aI (!x.2.1) (au a (f false)) (aA A1 29 (.el aV) [ag x.1,aa 0,aa 1,.agg ⟨[aa 3,az 5,az 3,az 0]⟩] a λ(r:Int) a=>aA A1 29 (.el aV) [ag x.1,aa 0,aa 1,.agg ⟨[aa 15,az 0,az 0,az 0]⟩] a λ(t:Int) a=>aA
 A1 31 (.bu [.agg [.int .u64,.int .i64],.one .bool]) [ag x.1,aa 0] a λ(k:(Int×Int×Unit)×Bool×Unit) a=>aM a ⟨[az 0,aa 0]⟩ 61 λb a=>aC a (af b) [az k.1.1,aa k.1.2.1] λa=>aA A1 29 (.el aV) [ag x.1,aa 1,aa 1,.agg ⟨[aa 7,az 81,az 7,az 0]⟩] a λ(F:Int) a=> ∃(I:Nat->Int×Unit->A2->Prop),(∃n, ∀w1,Ext a w1->I n (0,()) w1)/\ ∀(n:Nat) (s:Int×Unit) (w1:A2),I n s w1-> ∃(u:Int),(decide (s.1<9)=
 true->ae A1 49 [ag x.1,aa 1] w1 (aa u))/\aI (decide (s.1<9)&&u != 0) (aA A1 31 (.bu [.agg [.int .u64,.int .i64],.one .bool]) [ag x.1,aa 1] w1 λ(x:(Int×Int×Unit)×Bool×Unit) a=> ∀v,Ext a v-> ∃(y:Nat),y<n/\I y (aH .i64 s.1 1,()) v) (aA A1 29 (.el aV) [ag x.1,aa 0,aa 1,.agg ⟨[aa 4,az 5,az 0,az 0]⟩] w1 λ(G:Int) a=>aA A1 31 (.bu [.agg [.int .u64,.int .i64],.one .bool]) [ag x.1,aa 0] a λ(H
 :(Int×Int×Unit)×Bool×Unit) a=>aA A1 31 (.bu [.agg [.int .u64,.int .i64],.one .bool]) [ag x.1,aa 0] a λ(l:(Int×Int×Unit)×Bool×Unit) a=>aM a ⟨[az 0,aa 0]⟩ 61 λD a=>aC a (af D) [az l.1.1,aa l.1.2.1] λa=> ∃(z:Int),ae A1 50 [ag x.1,aa 1] a (aa z)/\aA A1 51 (.el eH) [ag x.1,aa 1] a λE a=>aA A1 31 (.bu [.agg [.int .u64,.int .i64],.one .bool]) [ag x.1,aa 1] a λ(J:(Int×Int×Unit)
 ×Bool×Unit) a=>aA A1 31 (.bu [.agg [.int .u64,.int .i64],.one .bool]) [ag x.1,aa 0] a λ(h:(Int×Int×Unit)×Bool×Unit) a=>aM a ⟨[az 0,aa 0]⟩ 61 λm a=>aC a (af m) [az h.1.1,aa h.1.2.1] λa=>aA A1 32 (.el eH) [ag x.1] a λo a=>aA A1 41 (.el eH) [ag x.1] a λd a=>aA A1 48 (.bu []) [ag x.1,aa 2,aa 3] a λK a=>aj a (some (q.2.1==1&&r==0&&t==9)) (af b) cD λ(A:Int×Int×Unit)=>
 aI (q.2.1==1&&r==0&&t==9&&(A.1==2&&(A.2.1==0&&true))&&k.2.1&&s.1==6&& !l.2.1&&z==1&&(↑E.2.1:Int)==1) (aA A1 51 (.el eH) [ag x.1,aa 1] a λi a=>aj a (some ((↑i.2.1:Int)==0)) (af m) cD λ(e:Int×Int×Unit)=>(((↑i.2.1:Int)==0&&(e.1==2&&(e.2.1==0&&true))&&h.2.1&&(↑o.2.1:Int)==4&&(↑d.2.1:Int)==5)=true->d.1.isSome=true/\(0:Int)<=3/\3<(↑d.2.1:Int))/\aj a (some ((↑i.2.1:Int)==0&&(e.1==2&&(e.2.1==
 0&&true))&&h.2.1&&(↑o.2.1:Int)==4&&(↑d.2.1:Int)==5)) (ad d.1 27) Ze λ(c:Int×Int×Int×Int×Int×Int×Int×Int×Int×Unit)=>aI ((↑i.2.1:Int)==0&&(e.1==2&&(e.2.1==0&&true))&&h.2.1&&(↑o.2.1:Int)==4&&(↑d.2.1:Int)==5&&(c.1==4&&(c.2.1==0&&(c.2.2.1==33&&(c.2.2.2.1==0&&(c.2.2.2.2.1==0&&(c.2.2.2.2.2.1==0&&(c.2.2.2.2.2.2.1==0&&true)))&&(c.2.2.2.2.2.2.2.1==7&&(c.2.2.2.2.2.2.2.2.1==0&&true)&&true)))))) (aA A1 32 (.el eH)
 [ag x.1] a λg a=> ∃(j:Option AC),(((↑g.2.1:Int)==0)=true->ae A1 17 [ag x.1] a (ag j))/\aI ((↑g.2.1:Int)==0) (aA A1 18 (.el lZ) [ag j] a λp a=>aA A1 30 (.el aV) [ag p,aa 5] a λ(B:Int) a=> ∃(C:Int),((B==0)=true->ae A1 49 [ag x.1,aa 2] a (aa C))/\au a (f (B==0&&C==0))) (∃(p:Int),(false=true->ae A1 49 [ag x.1,aa 2] a (aa p))/\au a (f false))) (∃
 (g:Option AC),(false=true->ae A1 17 [ag x.1] a (ag g))/\ ∃(j:Int),(false=true->ae A1 49 [ag x.1,aa 2] a (aa j))/\au a (f false))) (aj a (some false) (af m) cD λ(i:Int×Int×Unit)=>(false=true->d.1.isSome=true/\(0:Int)<=3/\3<(↑d.2.1:Int))/\aj a (some false) (ad d.1 27) Ze λ(e:Int×Int×Int×Int×Int×Int×Int×Int×Int×Unit)=> ∃(c:Option AC),(false=true->ae A1 17 [ag x.1] a (ag c))/\ ∃(g:Int),
 (false=true->ae A1 49 [ag x.1,aa 2] a (aa g))/\au a (f false))))):=by kernel_rfl
def kA:MS:=cP (AT 30 2 4) 0 1 (3,5,3,0,())
def kB:MS:=(aR kA 0).1
def kC:MS:=cP kB 1 1 (7,81,7,0,())
def kD (j:Nat):MS:=j.rec kC λ_ s=>(aR s 1).1
def kE:MS:=cP (kD 6) 0 1 (4,5,0,0,())
def kF:MS:=(aR kE 0).1
def kG:MS:=(aR kF 0).1
def kH:MS:=(aR kG 1).1
def kI':MS:=(aR kH 0).1
def kJ:MS:=GP 2 3 kI'
def abe:Bool:=tr (AT 30 2 4) 0==0&&(tr kA 0==9&&((aR kA 0).2==((2,0),true)&&(s9 kC 1 != 0&&(s9 (kD 1) 1 != 0&&(s9 (kD 2) 1 != 0&&(s9 (kD 3) 1 != 0&&(s9 (kD 4) 1 != 0&&(s9 (kD 5) 1 != 0&&s9 (kD 6) 1==0))))))))
theorem WX:abe=true:=by decide+kernel
def abf:Bool:=(aR kF 0).2.2==false&&(UF kG 1==1&&((XB kG 1).length==1&&((aR kH 0).2==((2,0),true)&&(kI'.ep.ws.length==4&&(kI'.ms.length==5&&(kI'.ms[3]? ==some (4,0,33,(0,0,0,0,()),7,0)&&(XB kJ 1==[]&&(kJ.ep.ws==[]&&(cm kJ.h.s.2 5==0&&s9 kJ 2==0)))))))))
theorem WY:abf=true:=by decide+kernel
abbrev OpT:Type:=Int×Bool×Int×Int×Int×Int×Int×Unit
section
variable {Q:Sys} {X:HX} {D G:List Nat} {w0 w w1:A2} {R:MR} {s:MS} {T L:List (Nat×List AB)} {M:List (Nat×B2)} {n k:Nat}
theorem MU.dp (H:MU Q X D G w0 w R s T L M) {x:Nat×List AB} (hx:x∈T):bN w x.1 x.2:=by
 obtain⟨L0,K,h⟩:=H.base;exact K.dp _ (h x hx)
theorem gP (H:MU Q X D G w0 w R s T L M) (a:MG Q n k s) (b:k<=100000) (c:Int) {K:Cx->A2->Prop}
 (kk: ∀d,MU Q X D G w0 d R (aR s c).1 T L M->K (((aR s c).2.1.1,(aR s c).2.1.2,()),(aR s c).2.2,()) d):
 aA A1 31 Ov [ag (af R.mb),aa c] w K:=
 TD H (a.bn b) a.rdy (λ_ _ hx=>a.sx b hx) c kk
theorem ace {f n:Nat} {l:Int} {j:Nat} {s:MS} (B:Bg f n l j s) (a:j<16) (b:j<f) (c:1<=n):(aR (cP s 0 0 xj) 0).2=((((j+1:Nat):Int),0),true)/\Bg f n l (j+1) (aR (cP s 0 0 xj) 0).1/\tr s 0=0:=B.Ea a b c
theorem Cg (H:aK D G w0 w L) (f c:Nat) (l:Int) (p:20<=f/\f<=4096) (hc:1<=c/\c<=8) (a:1<=l/\l<=64) {K:Option AC×Bool×Unit->A2->Prop}
 (q: ∀Q X R w1,MU Q X D G w0 w1 R (AT f c l) [] L []->MG Q c 2 (AT f c l)->K (some ⟨R.mb,0,none⟩,true,()) w1):
 aA A1 15 (.bu [.one .ptr,.one .bool]) [aa (f:Int),aa (c:Int),aa l] w K:=by
 refine aA.go H λw1 H=>ai (C:=U4) (aT:=rq) (B1 (NT _ _ l w1 K) ?_);refine xQ H _ _ l (by omega) a (λh=>by omega) λ_ _ Q X R F g H=>an rfl ?_;rw[D8,D8] at H;rw[D8] at g;have hb:AT f c l=(aR (cP (aR (cP (m0 f c l) 0 0 xj) 0).1 0 0 xj) 0).1:=rfl;refine⟨λn st d=> ∃(j:Nat) (s:MS),j<=2/\n=2 - j/\st.1=(j:Int)/\Bg f c l j s/\(j=0->s=m0 f c l)/\(j=1->s=(aR (cP (m0 f c l) 0 0 xj) 0).1)/\(j=2->s=AT f c l)/\MG Q c j s/\MU Q X D G w0 d R s [] L [],⟨2,λd r=>⟨0,m0 f c l,by omega,rfl,rfl,Bg.new p hc a,λ_=>rfl,λh=>(by cases h),λh=>(by cases h),MG.new (by omega) hc a g,H.ext r⟩⟩,?_⟩;clear H;rintro n ⟨t, _⟩ d ⟨j,s,I,u,hi,v,x,y,i,k,H⟩;have hi:t=(j:Int):=hi;subst hi u;dsimp only;refine ab (λe=>?_) (λe=>?_)
 ·have J:j<2:=by have:=of_decide_eq_true e;omega
  obtain⟨z,A,B⟩:=ace v (by omega) (by omega) hc.1;have m:MG Q c j (cP s 0 0 xj):=k.ask 0 0 (by decide) ⟨⟨by decide,by decide⟩,⟨by decide,by decide⟩,⟨by decide,by decide⟩⟩;refine mn H 0 0 1 λo H=>?_;rw[B];refine an rfl (gP H m (by omega) 0 λM H=>?_);rw[z];refine H.al λb N H=>H.st 0 rfl rfl rfl λO H=>⟨λ_=>rfl,H.cJ 0 rfl (show _=some ((j+1:Nat):Int) from rfl) (an ?_ λP E=>⟨2 - (j+1),by omega,j+1,(aR (cP s 0 0 xj) 0).1,by omega,rfl,?_,A,λh=>(by omega),λh=>?_,λh=>?_,m.step 0,(MU.sub H (M4 _)).ext E⟩)⟩
  ·have:j=0\/j=1:=by omega
   rcases this with rfl|rfl<;>decide
  ·rw[av (by omega) (by omega)];omega
  ·rw[x (by omega)]
  ·rw[hb,y (by omega)]
 ·have:j=2:=by have:=of_decide_eq_false e;omega
  subst this;refine H.en λo H=>q Q X R o (by rw[<-i rfl];exact H) (by rw[<-i rfl];exact k)
theorem MG.run: ∀(l:List Nat) {k:Nat} {s:MS},MG Q n k s->MG Q n (k+l.length) (KT s l)
 |[], _, _,h=>h
 |c::l,k,s,h=>by
  have:=MG.run l (h.step (c:Int));rw[Gw,show k+(l.length+1)=k+1+l.length by omega];exact this
theorem MG.rnd (H:MG Q n k s) (m:Nat): ∀r,MG Q n (k+r*m) (GP m r s)
 |0=>by rw[Nat.zero_mul];exact H
 |r+1=>by
  have:=MG.run (AL m) (MG.rnd H m r);rw[E5] at this;rw[Nat.succ_mul, <-Nat.add_assoc];exact this
theorem TF {m j:Nat} (s:MS) (h:j<m):KT s ((AL m).take (j+1))=(aR (KT s ((AL m).take j)) (j:Int)).1:=by
 unfold KT;rw[Hr,H7 h,I1];rfl
theorem NW (H:MU Q X D G w0 w R s T L M) (o:MG Q n k s) (m r:Nat) (B:k+r*m<=100000) (E:m<=1000) (F:r<=1000) {K:Unit->A2->Prop} (kk: ∀a,MU Q X D G w0 a R (GP m r s) T L M->K () a):
 aA A1 48 (.bu []) [ag (af R.mb),aa (m:Int),aa (r:Int)] w K:=by
 refine H.go λw1 H=>ai (C:=U4) (aT:=ru) (B1 (NU _ _ _ w1 K) ?_);refine⟨λg st a=> ∃j:Nat,j<=r/\g=r - j/\st.1=(j:Int)/\MU Q X D G w0 a R (GP m j s) T L M,⟨r,λa p=>⟨0,Ef _,rfl,rfl,H.ext p⟩⟩,?_⟩;clear H;rintro g ⟨d, _⟩ a ⟨j,q,t,hi,H⟩;have hi:d=(j:Int):=hi;subst hi t;dsimp only;refine ab (λc=>?_) (λc=>?_)
 ·have q:j<r:=by have:=of_decide_eq_true c;omega
  have u:=o.rnd m j;have I:j*m+m<=r*m:=by
   have:=Nat.mul_le_mul_right m (show j+1<=r by omega);rw[Nat.succ_mul] at this;exact this
  refine⟨λh st b=> ∃i:Nat,i<=m/\h=m - i/\st.1=(i:Int)/\MU Q X D G w0 b R (KT (GP m j s) ((AL m).take i)) T L M,⟨m,λb v=>⟨0,Ef _,rfl,rfl,H.ext v⟩⟩,?_⟩;clear H;rintro h ⟨d, _⟩ b ⟨i,J,x,f,H⟩;have f:d=(i:Int):=f;subst f x;dsimp only;refine ab (λc=>?_) (λc=>?_)
  ·have hi:i<m:=by have:=of_decide_eq_true c;omega
   have l:=MG.run ((AL m).take i) u;rw[KP,E5] at l;refine gP H l (by omega) (i:Int) λy H N z=>⟨m - (i+1),by omega,i+1,by omega,rfl,?_,?_⟩
   ·rw[av (by omega) (by omega)];omega
   ·rw[TF _ hi];exact H.ext z
  ·have:i=m:=by have:=of_decide_eq_false c;omega
   subst this;refine λy A=>⟨r - (j+1),by omega,j+1,by omega,rfl,?_,?_⟩
   ·rw[av (by omega) (by omega)];omega
   ·have e:(AL i).take i=AL i:=List.take_of_length_le (by rw[E5];exact DQ _);rw[e] at H;exact H.ext A
 ·have:j=r:=by have:=of_decide_eq_false c;omega
  subst this;exact H.en λb H=>kk b H
theorem IH (H:MU Q X D G w0 w R s T L M) {K:Option AC->A2->Prop} (k: ∀bp bf c rest a,MU Q X D G w0 a R s ((bp,[.slice (af bf) s.h.s.2.length c])::(bf,flat eD s.h.s.2++rest)::T) L M->K (af bp) a):
 aA A1 18 (.el (.one .ptr)) [ag (af X.hb)] w K:=by
 obtain⟨A,i,L0,S,b, _,J⟩:=H.sat;exact z4 S b λd e f g a S=>k d e f g a (J (T':=[_, _]) S)
theorem NX (H:MU Q X D G w0 w R s T L M) {bp bf c:Nat} {ds:List DT} {rest:List AB} (h1:(bp,[.slice (af bf) ds.length c])∈T) (b:(bf,flat eD ds++rest)∈T) (v:Int) (d:ds.length<=4096) {K:Int->A2->Prop} (k: ∀a,MU Q X D G w0 a R s T L M->K (cm ds v:Int) a):
 aA A1 30 (.el (.one (.int .i64))) [ag (af bp),aa v] w K:=by
 refine H.go λw1 H=>(EQ (H.dp h1) (H.dp b) rfl d v).mono λx a ⟨e,h⟩=>?_;subst e;exact k a (H.ext h)
end
section
variable {Q:Sys} {X:HX} {D G:List Nat} {w0 w w1:A2} {R:MR} {s:MS} {T L:List (Nat×List AB)} {M:List (Nat×B2)} {n k:Nat}
theorem MU.ldm (H:MU Q X D G w0 w R s T L M) {g:Option Bool} {el:El} {K:el.T->Prop} {b o:Nat} {l:List AB} {x:el.T} (a:(b,l)∈T) (hv:k9 l o el=some x) (k:K x):aj w g (some ⟨b,o,none⟩) el K:=by
 obtain⟨i,hi⟩:=GH a;exact H.ld i hi hv k
theorem MU.sl (H:MU Q X D G w0 w R s T L M) {e:El} {r:Option AC×Nat×Nat} {xs:List e.T} {a:List (Nat×List AB)} (hs:dv e r xs a) (b: ∀x∈a,x∈T) {i:Nat} {x:e.T} (hx:xs[i]? =some x):r.1.isSome=true/\cL w (ad r.1 (i*aF e)) e x:=by
 obtain⟨L0,K,h⟩:=H.base;exact hs.sl K (λy c=>h y (b y c)) i x hx
theorem TG {f c l:Int} (d:4<=f/\f<=4096) (e:1<=l/\l<=64) (hc:c<1\/c>8) {K:Option AC×Int×Unit->A2->Prop} (k: ∀w1,Ext w w1->K (none,1,()) w1):
 aA A1 52 (.bu [.one .ptr,.one (.int .i64)]) [aa f,aa c,aa l] w K:=λw1 h1=>
 xQ (At.start [] w1) f c l d e (λ_ g H=>k g (Ext.trans h1 H.all)) (λa b=>by omega) w1 (Ext.refl w1)
theorem WZ: ∃(c sA e f:MS) (sD:Nat->MS) (g sF sG d a b:MS),c=AT 30 2 4/\(sA=cP c 0 1 (3,5,3,0,())/\e=(aR sA 0).1/\f=cP e 1 1 (7,81,7,0,())/\sD 0=f/\(∀j,sD (j+1)=(aR (sD j) 1).1)/\g=cP (sD 6) 0 1 (4,5,0,0,())/\sF=(aR g 0).1/\sG=(aR sF 0).1/\d=(aR sG 1).1/\a=(aR d 0).1/\b=GP 2 3 a)/\
 (tr c 0=0/\tr sA 0=9/\(aR sA 0).2=((2,0),true)/\(∀j,j<6->s9 (sD j) 1≠0)/\s9 (sD 6) 1=0)/\
 ((aR sF 0).2.2=false/\UF sG 1=1/\(XB sG 1).length=1/\(aR d 0).2=((2,0),true)/\a.ep.ws.length=4/\a.ms.length=5/\a.ms[3]? =some (4,0,33,(0,0,0,0,()),7,0)/\XB b 1=[]/\b.ep.ws=[]/\cm b.h.s.2 5=0/\s9 b 2=0):=by
 have t1:=WX;unfold abe at t1;simp only[DK,beq_iff_eq,bne_iff_ne,ne_eq] at t1;obtain⟨a1,i,k,l,p1,p2,p3,p4,m,n⟩:=t1;have t2:=WY;unfold abf at t2;simp only[DK,beq_iff_eq] at t2;refine⟨_,kA,kB,kC,kD,kE,kF,kG,kH,kI',kJ,rfl,⟨rfl,rfl,rfl,rfl,λ_=>rfl,rfl,rfl,rfl,rfl,rfl,rfl⟩,⟨a1,i,k,λj o=>?_,n⟩,t2⟩;have:j=0\/j=1\/j=2\/j=3\/j=4\/j=5:=by omega
 rcases this with rfl|rfl|rfl|rfl|rfl|rfl
 ·exact l
 ·exact p1
 ·exact p2
 ·exact p3
 ·exact p4
 ·exact m
theorem TH {s:MS} {c:Int} (h0: ¬ c<0) (h:tr s c≠0) (vm:Int) (ct:CT):cP s c vm ct=s:=by
 unfold cP;unfold tr at h;rw[ao h0] at h ⊢;cases hx:s.cs[c.toNat]? with
 |none=>rfl
 |some x=>
  rw[hx] at h;dsimp only at h ⊢;rw[ao λc=>h (aw c)]
theorem Ci (w:A2):aD A1 46 (.el (.one .bool)) [] w (λb w'=>b=true/\Ext w w'):=by
 obtain⟨s0,sA,P,S,sD,T,sF,sG,U,V,W,h0,⟨o,p,q,r,s,t,u,v,y,z,A⟩,⟨a1,B,Y,Z,p6⟩,c1,c2,c3,c4,c5,c6,c7,c8,c9,YR,c11⟩:=WZ;have d: ∀{a:Int},decide (0<=a/\a<18446744073709551616)=true->cg a:=λh=>of_decide_eq_true h;refine ai (C:=U4) (aT:=rz) (B1 (NV w _) ?_);refine Cg (At.start [] w) 30 2 4 (by omega) (by omega) (by omega) λQ X R w1 H D=>TG (by omega) (by omega) (by omega) λw2 h2=>?_;have H:=H.ext h2;rw[<-h0] at H D;clear h0;refine an rfl ?_;have GA:MG Q 2 2 sA:=by rw[o];exact D.ask 0 1 (by decide) ⟨d rfl,d rfl,d rfl⟩
 have GB:MG Q 2 3 P:=by rw[p];exact GA.step 0
 have GC:MG Q 2 3 S:=by rw[q];exact GB.ask 1 1 (by decide) ⟨d rfl,d rfl,d rfl⟩
 have E: ∀j:Nat,MG Q 2 (3+j) (sD j):=λj=>by
  induction j with
  |zero=>rw[r];exact GC
  |succ j ih=>rw[s];exact ih.step 1
 have GE:MG Q 2 9 T:=by rw[t];exact(E 6).ask 0 1 (by decide) ⟨d rfl,d rfl,d rfl⟩
 have F:MG Q 2 10 sF:=by rw[u];exact GE.step 0
 have f:MG Q 2 11 sG:=by rw[v];exact F.step 0
 have G:MG Q 2 12 U:=by rw[y];exact f.step 1
 have g:MG Q 2 13 V:=by rw[z];exact G.step 0
 have k:MG Q 2 19 W:=by rw[A];exact g.rnd 2 3
 refine mn H 0 1 3 λw3 H=>?_;rw[a1];rw[<-o] at H;refine mn H 0 1 15 λw4 H=>?_;rw[B];rw[TH (by decide) (by rw[B];decide)] at H;refine gP H GA (by decide) 0 λw5 H=>?_;rw[Y];rw[<-p] at H;refine H.al λb w6 H=>H.st 0 rfl rfl rfl λw7 H=>mn H 1 1 7 λw8 H=>?_;rw[<-q, <-r] at H;refine⟨λn st l=> ∃j:Nat,j<=6/\n=6 - j/\st.1=(j:Int)/\MU Q X [] [] w l R (sD j) [(b,[az 2,aa 0])] [] [],⟨6,λl h9=>⟨0,by omega,rfl,rfl,H.ext h9⟩⟩,?_⟩;clear H;rintro n ⟨ii, _⟩ l ⟨j,hj,oF,hi,H⟩;have hi:ii=(j:Int):=hi;subst hi oF;dsimp only;refine⟨_,λ_=>lI H 1,ab (λc=>?_) (λc=>?_)⟩
 ·have hj6:j<6:=by
   by_cases e:j=6
   ·subst e;rw[p6] at c;simp at c
   ·omega
  refine gP H (E j) (by omega) 1 λlP H nv FW=>⟨6 - (j+1),by omega,j+1,by omega,rfl,?_,?_⟩
  ·rw[av (by omega) (by omega)];omega
  ·rw[s];exact H.ext FW
 ·have:j=6:=by
   by_cases e:j=6
   ·exact e
   ·have h6:=Z j (by omega);have:(decide ((j:Int)<9)&&s9 (sD j) 1 != 0)=true:=by
     rw[DK,decide_eq_true_eq,bne_iff_ne];exact⟨by omega,h6⟩
    rw[this] at c;cases c
  subst this;refine mn H 0 1 4 λlP H=>?_;rw[<-t] at H;refine gP H GE (by decide) 0 λnv H=>?_;rw[<-u] at H;refine gP H F (by decide) 0 λDN H=>?_;rw[<-v] at H;refine H.al λI Om H=>H.st 0 rfl rfl rfl λGb H=>⟨_,WW H (f.bn (by decide)).bn 1,?_⟩;rw[c2];refine vE H (f.bn (by decide)).sz (f.bn (by decide)).ls 1 λr11 J Xj ac5 H=>?_;have e11:r11.2.1=1:=by rw[ac5.1,c3]
  refine gP H f (by decide) 1 λTS H=>?_;rw[<-y] at H;refine gP H G (by decide) 0 λw17 H=>?_;rw[c4];rw[<-z] at H;refine H.al λm w18 H=>H.st 0 rfl rfl rfl λw19 H=>wW H (g.bn (by decide)).ws λr14 K w20 ac6 H=>?_;have e14:r14.2.1=4:=by rw[ac6.1,jN,DD,c5]
  refine NS H (by rw[c6];decide) λr15 L w21 M H=>?_;have N:r15.2.1=5:=by rw[M.1,DD,c6]
  refine NW H g 2 3 (by decide) (by decide) (by decide) λw22 H=>?_;rw[<-A] at H;have DF:(m,[az 2,aa 0])∈L++(K++((m,[az 2,aa 0])::(J++[(I,[az (aR sF 0).2.1.1,aa (aR sF 0).2.1.2]),(b,[az 2,aa 0])]))):=by simp
  have hb:(b,[az 2,aa 0])∈L++(K++((m,[az 2,aa 0])::(J++[(I,[az (aR sF 0).2.1.1,aa (aR sF 0).2.1.2]),(b,[az 2,aa 0])]))):=by simp
  refine H.ldm (x:=(2,0,())) hb rfl (ay ?_ ?_)
  ·dsimp only;rw[c1,e11];decide
  refine vE H (k.bn (by decide)).sz (k.bn (by decide)).ls 1 λr18 L18 w23 ac7 H=>?_;have e18:r18.2.1=0:=by rw[ac7.1,c8];rfl
  refine H.ldm (x:=(2,0,())) (B4 _ DF) rfl ?_;have O:=H.sl M (λx hx=>B4 _ (Bx _ hx)) (i:=3) (x:=YT (4,0,33,(0,0,0,0,()),7,0)) (by rw[GI,c7];rfl);refine⟨λ_=>⟨O.1,by decide,by rw[N];decide⟩,aj.of _ O.2 (ay ?_ ?_)⟩
  ·dsimp only;rw[e18,e14,N];decide
  refine wW H (k.bn (by decide)).ws λr21 L21 w24 ac8 H=>⟨_,λ_=>TE H,?_⟩;have e21:r21.2.1=0:=by rw[ac8.1,jN,DD,c9];rfl
  refine ay (by rw[e21];rfl) (IH H λbp bf c rest w25 H=>NX H B3 (Ay _ B3) 5 H.sys.2.2.1 λw26 H=>⟨_,λ_=>lI H 2,H.en λw27 H=>⟨?_,H.all⟩⟩);rw[YR,c11];rfl
end
noncomputable def U5:dM A1:={U4 with quiet:=[25,19,21]++U4.quiet}
theorem abh {x:Int} (h:(Lit.int .u8 x).wf=true):0<=x/\x<256:=by
 simp[Lit.wf,IntKind.min,IntKind.max,IntKind.bits,IntKind.signed] at h;omega
theorem ac9 {x d:Int} (h:0<=x/\x<256):dz (aE .i64 x) d=x % d:=by
 rw[bJ (by omega)];unfold dz;exact M5 h.1
theorem ac_ {x:Int} (h:(Lit.int .u8 x).wf=true) (a d:Nat) (b:0<d/\d<=1000) (c:a<=1000):aH .i64 (a:Int) (dz (aE .i64 x) (d:Int))=((a+x.toNat % d:Nat):Int):=by
 have h:=abh h;have:(((x.toNat % d:Nat)):Int)=x % (d:Int):=by rw[Int.natCast_emod,Int.toNat_of_nonneg h.1]
 have e:x.toNat % d<d:=Nat.mod_lt _ b.1;rw[ac9 h, <-this,av (by omega) (by omega)];omega
section
variable {Q:Sys} {X:HX} {D G:List Nat} {w0 w w1:A2} {R:MR} {s:MS} {T L:List (Nat×List AB)} {M:List (Nat×B2)} {n k:Nat}
theorem MU.op (H:MU Q X [] [] w0 w R s T L M) {e:El} {p:Option AC} {xs:List e.T} (hx:Sl w0 e p xs) {i:Nat} {x:e.T} (hi:xs[i]? =some x):p.isSome=true/\cL w (ad p (i*aF e)) e x:=(hx.ext H.all) i x hi
theorem aaH (H:MU Q X [] [] w0 w R s T L M):aA A1 46 (.el (.one .bool)) [] w λ(x:Bool) (a:A2)=>au a λ(w1:A2)=>x=true/\Ext w0 w1:=
 aA.val ((At.start [] w0).ext H.all) (s:= .el (.one .bool)) true (λb _=>Ci b) λc H=>au.go H λd H=>⟨rfl,H.all⟩
theorem Kp {c:Nat} {x:bG} (hx:s.cs[c]? =some x):s9 s (c:Int)=x.ph:=by
 unfold s9;rw[ao (by omega),D8,hx]
theorem MG.lc (a:MG Q n k s):s.cs.length=n:=by
 obtain⟨gh,ta,M⟩:=a.XC;exact M.lc
end
noncomputable def U6:dM A1:={U5 with quiet:=[27]++U5.quiet}
theorem W6 (n k a b d:Int) (w:A2) (f:Bool->A2->Prop):(aJ U6 (λ_=>[]) 10 [aa n,.agg ⟨[aa k,az a,az b,az d]⟩] w f)=(
 aM w ⟨[aa k,az a,az b,az d]⟩ 31 λb c=>aM c ⟨[ag none,ag none,ag none,.slice none 0 0,.map none,.slice none 0 0]⟩ 103 λe c=>aA A1 31 (.bu [.agg [.int .u64,.int .i64],.one .bool]) [ag none,aa n] c λ(x:(Int×Int×Unit)×Bool×Unit) c=>aM c ⟨[az 0,aa 0]⟩ 61 λq c=>aC c (af q) [az x.1.1,aa x.1.2.1] λc=>aA A1 31 (.bu [.agg [.int .u64,.int .i64],.one .bool]) [ag (af e),aa n] c λ(h:(Int×Int×Unit)×Bool
 ×Unit) c=>aM c ⟨[az 0,aa 0]⟩ 61 λr c=>aC c (af r) [az h.1.1,aa h.1.2.1] λc=>aj c none (af q) cD λ(g:Int×Int×Unit)=>aj c (some (g.1==0&&(g.2.1==0&&true)&& !x.2.1)) (af r) cD λ(i:Int×Int×Unit)=>aj c (some (g.1==0&&(g.2.1==0&&true)&& !x.2.1&&(i.1==0&&(i.2.1==0&&true))&& !h.2.1)) (af b) rK λ(j:Int×Int×Int×Int×Unit)=>aI (g.1==0&&(g.2.1==0&&true)&& !x.2.1&&(i.1==0&&(i.2.1==0&&true))&& !h.2.1) (aA A1
 29 (.el aV) [ag none,aa n,aa 1,.agg ⟨[aa j.1,az j.2.1,az j.2.2.1,az j.2.2.2.1]⟩] c λ(x:Int) c=>aj c (some (x==10)) (af b) rK λ(l:Int×Int×Int×Int×Unit)=>aI (x==10) (aA A1 29 (.el aV) [ag (af e),aa n,aa 1,.agg ⟨[aa l.1,az l.2.1,az l.2.2.1,az l.2.2.2.1]⟩] c λ(x:Int) c=> ∃(o:Int),((x==10)=true->ae A1 49 [ag none,aa n] c (aa o))/\ ∃(s:Int),((x==10&&o==0)=
 true->ae A1 49 [ag (af e),aa n] c (aa s))/\aI (x==10&&o==0&&s==0) (aA A1 41 (.el eH) [ag none] c λx c=>aI ((↑x.2.1:Int)==0) (aA A1 41 (.el eH) [ag (af e)] c λx c=>aI ((↑x.2.1:Int)==0) (aA A1 51 (.el eH) [ag none,aa n] c λx c=> ∃(m:Int),(((↑x.2.1:Int)==0)=true->ae A1 50 [ag (af e),aa n] c (aa m))/\ ∃(p:Option AC),(((↑x.2.1:Int)==0&&m==0)=true->ae A1 17 [ag none] c
 (ag p))/\ ∃(t:Option AC),(((↑x.2.1:Int)==0&&m==0&&p.isNone)=true->ae A1 17 [ag (af e)] c (ag t))/\aI ((↑x.2.1:Int)==0&&m==0&&p.isNone&&t.isNone) (aA A1 32 (.el eH) [ag none] c λx c=>aI ((↑x.2.1:Int)==0) (aA A1 46 (.el rJ) [] c λx c=>au c (f x)) (au c (f false))) (au c (f false))) (∃(x:Int),(false=true->ae A1 50 [ag (af e),aa n] c (aa x))/\ ∃(x:Option AC),(false=true->ae A1 17 [ag none]
 c (ag x))/\ ∃(x:Option AC),(false=true->ae A1 17 [ag (af e)] c (ag x))/\au c (f false))) (∃(x:Int),(false=true->ae A1 50 [ag (af e),aa n] c (aa x))/\ ∃(x:Option AC),(false=true->ae A1 17 [ag none] c (ag x))/\ ∃(x:Option AC),(false=true->ae A1 17 [ag (af e)] c (ag x))/\au c (f false))) (∃(x:Int),(false=true->ae A1 50 [ag (af e),aa n] c (aa x))/\ ∃(x:Option AC),(false=true->ae
 A1 17 [ag none] c (ag x))/\ ∃(x:Option AC),(false=true->ae A1 17 [ag (af e)] c (ag x))/\au c (f false))) (∃(x:Int),(false=true->ae A1 49 [ag none,aa n] c (aa x))/\ ∃(x:Int),(false=true->ae A1 49 [ag (af e),aa n] c (aa x))/\ ∃(x:Int),(false=true->ae A1 50 [ag (af e),aa n] c (aa x))/\ ∃(x:Option AC),(false=true->ae A1 17 [ag none] c (ag x))/\ ∃(x:Option AC),(false=true->
 ae A1 17 [ag (af e)] c (ag x))/\au c (f false))) (aj c (some false) (af b) rK λ(x:Int×Int×Int×Int×Unit)=> ∃(x:Int),(false=true->ae A1 49 [ag none,aa n] c (aa x))/\ ∃(x:Int),(false=true->ae A1 49 [ag (af e),aa n] c (aa x))/\ ∃(x:Int),(false=true->ae A1 50 [ag (af e),aa n] c (aa x))/\ ∃(x:Option AC),(false=true->ae A1 17 [ag none] c (ag x))/\ ∃(x:Option AC),(false=true->ae
 A1 17 [ag (af e)] c (ag x))/\au c (f false))):=by kernel_rfl
end Go.Proofs.YtlcenllcmeebhaaGreat.Mu
