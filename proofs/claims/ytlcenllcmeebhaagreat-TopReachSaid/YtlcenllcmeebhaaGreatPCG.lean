import Derived.Test.YtlcenllcmeebhaaGreatPCF
/-! What the statement leans on: texts joined and shortened by a program of mine. -/
set_option linter.unusedVariables false
set_option linter.unusedSimpArgs false
open Go renaming World->A2,Value->AB,Addr->AR,Obj->B3,MapEntry->Db
open Go.Proofs.Tryz renaming prog->AC
open List renaming range->Ab,count_append->Ax,count_cons->Az,mem_cons_of_mem->B1,getElem?_eq_some_iff->B2,mem_cons_self->B5,mem_map->B9,mem_append_right->B_,mem_append_left->BN,count->BT,sublist_cons_self->Bs,replicate->C8,mem_range->Ca,mem_of_getElem?->DA,getElem?_eq_getElem->DG,length_set->DJ,append_nil->DU,length_map->DY,getElem?_set_self->Dc,eq_of_mem_replicate->Dd,length_replicate->Df,getD_eq_getElem?_getD->Ds,set_set->Dt,mem_singleton->Dy,getElem?_set_ne->E4,sublist_append_right->E5,length_singleton->F5,any_eq_true->FG,mem_cons->FS,getElem?_append_left->FV,length_range->FW,foldl_cons->FX,length_append->FY,set_cons_zero->Fo,count_nil->Ft,contains_iff_mem->Fw,nodup_cons->G1,getElem?_of_mem->GS,getElem?_replicate->Ga,perm_middle->Gd,map_append->Gi,nil_sublist->H4,any_eq_false->Ij,mem_flatMap->Ik,pairwise_cons->In,length_filter_le->Ix,range_succ->J3,getElem?_append_right->J4,eq_nil_iff_forall_not_mem->JP,mem_of_find?_eq_some->JQ,nodup_nil->JV,ext_getElem?->JW,getElem?_set->K1,mem_filter->LL,nodup_range->M4,map_congr_left->M5,getElem?_map->N2,getElem?_range->N4,take_add_one->N5,foldl_append->N6,take_length->N7,append_assoc->NO,getElem?_eq_none->NP
open Eq renaming mpr->B4
open Int renaming toNat_natCast->Bx,toNat->C6,le_refl->H5,tmod_eq_emod_of_nonneg->NU
open Prod renaming ext->DB
open List.Perm renaming append_left->DM,append_right->Fy,trans->J8
open Bool renaming and_eq_true->Dj,or_eq_true->H6,and_assoc->H7,eq_false_iff->HB,false_or->JJ,or_eq_false_iff->NY
open Nat renaming le_refl->Dl,zero_le->FC,mod_lt->HZ,le_trans->JL,sub_self->JN,not_lt_zero->Nl
open List.Sublist renaming cons->Dn
open Go.IntKind renaming i64->Do,min->Hb,max->Hr,bits->I1,signed->I2
open Classical renaming byContradiction->IR
open Go.Instr renaming findNow->If
namespace Go.Proofs.YtlcenllcmeebhaaGreat
set_option maxRecDepth 100000
open Go.RX D
section
variable {gh dt:Gh} {h h':HS} {v k a b c:Int}
theorem Sv {g g':Nat->Option GV} (a: ∀i,(g' i).isSome=(g i).isSome) (v:Int):aW g' v=aW g v:=by unfold aW;rw[a]
theorem ML (w:Int) (a:aW h.g w=true):aW (gR h).g w=true:=by
 unfold gR;split
 ·exact a
 split
 ·obtain⟨b,x,c⟩:=cw.1 a;refine cw.2 ⟨b,?_⟩;show∃x,bz h.g _ _ w.toNat=some x;unfold bz;split
  ·exact⟨_,rfl⟩
  ·exact⟨x,c⟩
 ·exact a
theorem wI (v:Int): ∀(n:Nat) (h:HS) (w:Int),aW (e9 v n h).g w=aW h.g w
 |0, _, _=>rfl
 |n+1,h,w=>by
  show aW (e9 v n (yw v h)).g w= _;rw[wI v n];unfold yw;exact sd ..
theorem Sw {a w:Int} (e:w≠a) (b:aW h.g w=true):aW (sV h a).g w=true:=by
 unfold sV;split
 ·rename_i la;split
  ·exact b
  ·rw[<-wI a (vA h a).length] at b;obtain⟨c,x,d⟩:=cw.1 b;obtain⟨hv, _⟩:=cw.1 la;refine cw.2 ⟨c,x,?_⟩;show bz (e9 a (vA h a).length h).g a.toNat none w.toNat=some x;unfold bz;rw[ao (by omega)];exact d
 ·exact b
theorem CE.run (d:HI dt (run h v k a b c).1) {P:Nat->Int->Prop} {f:Int} (E:uJ h (run h v k a b c).1 P f) (G:uE gh dt h.s (run h v k a b c).1.s) (e:1<=k/\k<=17) (hc:uQ k=false):CE gh dt h (run h v k a b c).1 P (λ_=>False):=
 ⟨d,E.kd,E.pg,λh1 _=>G.1 _ _ h1,λh1=>G.2 _ h1,λ{w} _ h1=>by rw[Sv (VS e hc)];exact h1⟩
theorem Sy (d:k=6\/k=8\/(11<=k/\k<=16)):(run h v k a b c).1.s=h.s/\(run h v k a b c).1.g=h.g:=by
 have:k=6\/k=8\/k=11\/k=12\/k=13\/k=14\/k=15\/k=16:=by omega
 rcases this with rfl|rfl|rfl|rfl|rfl|rfl|rfl|rfl
 ·exact⟨rfl,rfl⟩
 ·show(iH h v a b c).s=h.s/\(iH h v a b c).g=h.g;unfold iH;split<;>exact⟨rfl,rfl⟩
 ·show(fV h v a).s=h.s/\(fV h v a).g=h.g;unfold fV;split<;>exact⟨rfl,rfl⟩
 ·show(lW h v a).s=h.s/\(lW h v a).g=h.g;unfold lW;split<;>exact⟨rfl,rfl⟩
 ·show(lX h v a b).s=h.s/\(lX h v a b).g=h.g;unfold lX;split
  ·exact⟨rfl,rfl⟩
  split<;>exact⟨rfl,rfl⟩
 ·show(lV h v a).s=h.s/\(lV h v a).g=h.g;unfold lV;split<;>exact⟨rfl,rfl⟩
 ·exact⟨rfl,rfl⟩
 ·show(i_ h v a).s=h.s/\(i_ h v a).g=h.g;unfold i_;split<;>exact⟨rfl,rfl⟩
theorem EO (d:oW h v k a b c=0) (e:iN h v k a b c=0):(run h v k a b c).2.2=0:=by unfold oW at d;rw[ax e] at d;exact d
theorem HP (H:HI gh h) (z:0<=a) (A: ¬ (v=0/\k=17/\a=0/\b=0/\c=0)) (B:k=7-> ¬ (aW h.g v=true/\iG k a b c=true/\a<1048576)) (C:oW h v k a b c≠0\/ ¬ (k=2\/k=4\/k=5\/k=10)):
 ∃dt P,CE gh dt h (kO h v k a b c) P (λ_=>False)/\NN h.s (kO h v k a b c).s/\ ∀{j:Nat} {q:Int},P j q->0<=q->q<65536->(jP h j q).2.2.1≠0:=by
 obtain⟨g1,D⟩:=H.step v k b c z;have same:(kO h v k a b c).s=h.s->(kO h v k a b c).g=h.g-> ∃dt P,CE gh dt h (kO h v k a b c) P (λ_=>False)/\NN h.s (kO h v k a b c).s/\ ∀{j:Nat} {q:Int},P j q->0<=q->q<65536->(jP h j q).2.2.1≠0:=λl m=>
  ⟨gh, _,CE.same H D l m,.refl (by rw[l]),λc=>c.elim⟩
 by_cases r:oW h v k a b c=0
 case neg=>
  obtain⟨e, _⟩:=H.fail r;exact same e.1 e.2
 have L:=C.resolve_left λc=>c r;by_cases i:iN h v k a b c=0
 case neg=>
  have e:kO h v k a b c=h:=ao i;rw[e] at same ⊢;exact same rfl rfl
 have d:=EO r i;obtain⟨x,t,p⟩:=yK i;have e:kO h v k a b c=(run h v k a b c).1:=ax i;by_cases F:k=6\/k=8\/(11<=k/\k<=16)
 ·obtain⟨l,m⟩:=Sy (h:=h) (v:=v) (a:=a) (b:=b) (c:=c) F;exact same (by rw[e];exact l) (by rw[e];exact m)
 rw[e];have:k=1\/k=3\/k=7\/k=9\/k=17:=by omega
 rcases this with rfl|rfl|rfl|rfl|rfl
 ·obtain⟨g',n,E,G⟩:=H.Gu;exact⟨g', _,⟨n,E.kd,E.pg,λh1 _=>G.1 _ _ h1,λh1=>G.2 _ h1,λ{w} _ h1=>ML w h1⟩,NN.DE h,λ{j q} c I J=>absurd ⟨I,J⟩ c⟩
 ·have d:oQ h v a b=0:=by
   have d:(uS h v a b).2=0:=d;unfold uS at d;split at d
   ·assumption
   ·exact d
  obtain⟨g',f,n,O, _,G⟩:=H.Pn (t rfl) (a:=a) (b:=b) d;refine⟨g', _,CE.run (k:=3) n O.ef G x rfl,NN.don ..,λ{j q} o _ _=>?_⟩;rw[o.1,o.2,O.Wy];decide
 ·exfalso;refine B rfl ⟨t rfl,p,?_⟩;refine IR λo=>?_;have d:nL h v a=0:=d;unfold nL il at d;rw[ax (show a>=1048576 by omega),ax (show((0:Int),(2:Int)).2≠0 by decide)] at d;exact absurd d (show ¬ (2:Int)=0 by decide)
 ·obtain⟨l,g',n,E,K, _,G⟩:=H.Pu (t rfl) (a:=a) (b:=b) (c:=c) d;have m:(run h v 9 a b c).1=im h v a b c:=l;rw[<-m] at n E G;refine⟨g', _,CE.run (k:=9) n E G x rfl,by rw[m];exact NN.tak ..,λ{j q} o _ _=>?_⟩;rw[o.1,o.2,K];decide
 ·exfalso;have hv:v=0:=by
   unfold iN at i;split at i
   ·exact absurd i (by decide)
   split at i
   ·exact absurd i (by decide)
   rename_i y;by_cases e:v=0
   ·exact e
   ·have:(v==0)=false:=by simpa using e
    rw[this] at y;exact absurd rfl y
  have u:a=0/\b=0/\c=0:=by
   unfold iG at p;simp[jW] at p;exact p
  exact A ⟨hv,rfl,u.1,u.2.1,u.2.2⟩
theorem MM (H:HI gh h) (J:0<=a) (n:oW h v k a b c=0) (A:k=2\/k=4\/k=5\/k=10):
 ∃dt,CE gh dt h (kO h v k a b c) (λj q=>if k=2 then j=a.toNat else j=v.toNat/\q=a) (λw=>k=2/\w=a)/\(k=2->(1<=a/\a<=16)/\v=0)/\(k≠2->(1<=v/\v<=16)/\a<65536):=by
 have l:iN h v k a b c=0:=by
  refine IR λl=>?_;unfold oW at n;rw[ao l] at n;exact l n
 have d:=EO n l;obtain⟨B,o,K⟩:=yK l;have e:kO h v k a b c=(run h v k a b c).1:=ax l;rw[e];have fin: ∀{dt:Gh} {f:Int},k≠2->uQ k=false->a<65536->HI dt (run h v k a b c).1->uJ h (run h v k a b c).1 (λi q=>i=v.toNat/\q=a) f->uE gh dt h.s (run h v k a b c).1.s-> ∃dt,CE gh dt h (run h v k a b c).1 (λj q=>if k=2 then j=a.toNat else j=v.toNat/\q=a) (λw=>k=2/\w=a)/\(k=2->(1<=a/\a<=16)/\v=0)/\(k≠2->(1<=v/\v<=16)/\a<65536):=λ{dt f} y hc D m E G=>by
  obtain⟨_, _, _, _,p,r⟩:=bR (o hc);have C:=CE.run m E G B hc;refine⟨dt,⟨C.hi,C.kd,⟨λ{i q} t=>C.pg.to λu=>t ?_⟩,λh1 _=>C.gk h1 id,C.gn,λ_ h1=>C.lv id h1⟩,λc=>absurd c y,λ_=>⟨⟨p,r⟩,D⟩⟩;show if k=2 then _ else _;rw[ao y];exact u
 rcases A with rfl|rfl|rfl|rfl
 ·obtain⟨g',m,E,F,I⟩:=H.Jv a;have la:aW h.g a=true:=by
   have d:Cc h a=0:=d;unfold Cc at d;split at d
   ·assumption
   ·exact absurd d (by decide)
  obtain⟨_, _, _, _,p,r⟩:=bR la;refine⟨g',⟨m,E.kd,⟨λ{i q} t=>E.pg.to λu=>t ?_⟩,λ{f w} h1 x=>F f w h1 λc=>x ⟨rfl,c⟩,λh1=>I _ h1,λ{w} h1 x=>Sw (λc=>h1 ⟨rfl,c⟩) x⟩,λ_=>⟨⟨p,r⟩,?_⟩,λc=>absurd rfl c⟩
  ·show if(2:Int)=2 then _ else _;rw[ax rfl];exact u
  ·unfold iN at l;split at l
   ·exact absurd l (by decide)
   split at l
   ·exact absurd l (by decide)
   rename_i z;by_cases e:v=0
   ·exact e
   ·have:(v==0)=false:=by simpa using e
    rw[this] at z;exact absurd rfl z
 ·have d:sU h v a=0:=by
   have d:(x_ h v a).2=0:=d;unfold x_ at d;split at d
   ·assumption
   ·exact d
  obtain⟨g',f,m,O,G⟩:=H.Pr (o rfl) d;refine fin (by decide) rfl ?_ m O.ef G;unfold sU at d;split at d
  ·exact absurd d (by decide)
  ·omega
 ·have d:mJ h v a b=0:=d;obtain⟨g',m,E, _, _, _,G⟩:=H.Jm (o rfl) d;refine fin (by decide) rfl ?_ m E G;unfold mJ at d;split at d
  ·exact absurd d (by decide)
  ·omega
 ·have d:mK h v a=0:=d;obtain⟨g',m,E, _,G⟩:=H.Js (o rfl) d;refine fin (by decide) rfl ?_ m E G;unfold mK at d;split at d
  ·exact absurd d (by decide)
  ·omega
end
section
variable {gh dt:Gh} {ta:Int->Bool} {n:Nat} {s:MS} {i:Nat}
structure Oz (e e':vB) (fs:List Int):Prop where
 now:e'.now=e.now
 pins:e'.pins=e.pins
 Wy: ∀w∈e'.ws,w∈e.ws\/(w.1∈fs/\w.2=e.now)
 fQ: ∀w∈e.ws,w∈e'.ws
 new: ∀f∈fs,f∉e.ws.map (·.1)->(f,e.now)∈e'.ws
 nd:(e.ws.map (·.1)).Nodup->(e'.ws.map (·.1)).Nodup
theorem acs (e:vB) (f:Int):Oz e (lj e f) [f]:=by
 unfold lj;split
 ·rename_i h;obtain⟨w,hw,a⟩:=FG.1 h;have a:w.1=f:=by simpa using a
  exact⟨rfl,rfl,λw h=> .inl h,λw h=>h,λg b d=>absurd (B9.2 ⟨w,hw,by rw[a,Dy.1 b]⟩) d,id⟩
 ·rename_i h;refine⟨rfl,rfl,λw hw=>?_,λw hw=>B1 _ hw,λg b _=>?_,λd=>?_⟩
  ·rcases FS.1 hw with rfl|hw
   ·exact .inr ⟨Dy.2 rfl,rfl⟩
   ·exact .inl hw
  ·rw[Dy.1 b];exact B5
  ·show((f,e.now)::e.ws).map (·.1) |>.Nodup;rw[List.map_cons,G1];refine⟨λc=>h ?_,d⟩;obtain⟨w,hw,a⟩:=B9.1 c;exact FG.2 ⟨w,hw,by simpa using a⟩
theorem EP: ∀(fs:List Int) (e:vB),Oz e (fs.foldl lj e) fs
 |[],e=>⟨rfl,rfl,λw h=> .inl h,λw h=>h,λf l=>absurd l (by simp),id⟩
 |f::fs,e=>by
  have A:=acs e f;have a:=EP fs (lj e f);show Oz e (fs.foldl lj (lj e f)) (f::fs);refine⟨a.now.trans A.now,a.pins.trans A.pins,λw d=>?_,λw d=>a.fQ w (A.fQ w d),λg i j=>?_,λh=>a.nd (A.nd h)⟩
  ·rcases a.Wy w d with h|⟨h1,b⟩
   ·exact(A.Wy w h).imp id λc=>⟨FS.2 (.inl (Dy.1 c.1)),c.2⟩
   ·exact .inr ⟨B1 _ h1,by rw[b,A.now]⟩
  ·by_cases c:g=f
   ·exact a.fQ _ (A.new g (Dy.2 c) j)
   ·have i:=(FS.1 i).resolve_left c;rw[<-A.now];refine a.new g i λk=>?_;obtain⟨w,h1,b⟩:=B9.1 k;rcases A.Wy w h1 with h|⟨h, _⟩
    ·exact j (B9.2 ⟨w,h,b⟩)
    ·exact c (by rw[<-b];exact Dy.1 h)
theorem JC (M:MI gh ta n s) {x:bZ} (b:yy s x.ak=true) {j:Nat} {q:List AK} (d:s.bx[j]? =some q) {a:AK} (e:a∈q):a.1≠x.ak:=λc=>by
 unfold yy at b;rw[Dj,decide_eq_true_eq,beq_iff_eq] at b;have:=M.oc (x.ak - 1).toNat (by omega);rw[b.2,show(((x.ak - 1).toNat:Nat):Int)+1=x.ak by omega] at this;have f:0<s.bx.countP (λq=>jB q x.ak):=List.countP_pos_iff.2 ⟨q,aC d,FG.2 ⟨a,e,by simpa using c⟩⟩;omega
theorem MI.done (M:MI gh ta n s) {x:bZ} (t:s.cs[i]? =some x) (Q:x.ph=4) (W:yy s x.ak=true):MI gh ta n {s with ep:=x.fs.foldl lj s.ep,cs:=s.cs.set i (cJ x.ls)}:=by
 have nc:i<s.cs.length:=(B2.1 t).1;have R:=EP x.fs s.ep;generalize B:({s with ep:=x.fs.foldl lj s.ep,cs:=s.cs.set i (cJ x.ls)}:MS)=s';have A:s'.h=s.h:=by rw[<-B]
 have he:s'.ep=x.fs.foldl lj s.ep:=by rw[<-B]
 rw[<-he] at R;have F:s'.kn=s.kn:=by rw[<-B]
 have X:s'.sz=s.sz:=by rw[<-B]
 have hb:s'.bx=s.bx:=by rw[<-B]
 have Y:s'.op=s.op:=by rw[<-B]
 have fg:s'.cs=s.cs.set i (cJ x.ls):=by rw[<-B]
 have u: ∀{z:Nat} {y:bZ},s'.cs[z]? =some y->(z=i/\y=cJ x.ls)\/(z≠i/\s.cs[z]? =some y):=λh=>by rw[fg] at h;exact jZ h
 have C: ∀{y:bZ},y∈s'.cs->y=cJ x.ls\/ ∃j,j≠i/\s.cs[j]? =some y:=λh=>by
  obtain⟨j,k⟩:=GS h;exact(u k).imp (·.2) λc=>⟨j,c⟩
 have N: ∀{z:Nat} {y:bZ},s.cs[z]? =some y->z≠i->s'.cs[z]? =some y:=λ{z y} h1 p=>by
  rw[fg,E4 (λc=>p c.symm)];exact h1
 have S:=M.fk x (aC t) Q;have Z: ∀{j:Nat} {y:bZ} {f:Int},s.cs[j]? =some y->y.ph=2\/y.ph=3->rI s j f->rI s' j f:=λ{j y f} k sE P=>by
  have Fp:=M.pn k;rw[ax sE] at Fp;rcases P with ⟨z,y2,h1,p,G⟩|⟨e,h1,p,G⟩
  ·by_cases c:z=i
   ·subst c;rw[t] at h1;cases h1;exact .inr ⟨_,R.new f G (S f G).2,rfl,by rw[R.pins];exact Fp.2.1⟩
   ·exact .inl ⟨z,y2,N h1 c,p,G⟩
  ·exact .inr ⟨e,R.fQ e h1,p,by rw[R.pins];exact G⟩
 have i0:(cJ x.ls).ph=0:=rfl;refine⟨by rw[A];exact M.hi,M.nn,by rw[fg,DJ];exact M.lc,by rw[hb];exact M.lb,by rw[R.pins];exact M.lp,by rw[X];exact M.sz,λy o=>?_,λy o=>?_,λy o=>?_,
  by rw[F,A];exact M.k5,by rw[F];exact M.nk,λe O=>?_,R.nd M.wn,λy o e=>?_,λy o e=>?_,λ{a b y z} g v T D E=>?_,λ{m d} g v=>?_,by rw[R.now];exact M.nw,λ{j y} g=>?_,λ{j y} g l hl=>?_,λy o e=>?_,λ{j y} g e=>?_,λ{j y} g e=>?_,λy o e=>?_,λ{a b y z} g v T D E=>?_,λ{j r} g=>?_,by rw[Y,hb];exact M.oc⟩
 ·rcases C o with rfl|⟨j, _,k⟩
  ·rw[i0];decide
  ·exact M.ph y (aC k)
 ·rcases C o with rfl|⟨j, _,k⟩
  ·exact(show cL 0/\cL 0/\cL 0 by decide)
  ·exact M.ar y (aC k)
 ·rw[X];rcases C o with rfl|⟨j, _,k⟩
  ·exact M.tl x (aC t)
  ·exact M.tl y (aC k)
 ·rw[F,R.now];rcases R.Wy e O with h|⟨h1,p⟩
  ·exact M.wk e h
  ·exact⟨(S _ h1).1,by rw[p];exact M.nw,by rw[p];exact H5 _⟩
 ·rcases C o with rfl|⟨j,k,o⟩
  ·rw[i0] at e;exact absurd e (by decide)
  ·intro f O;obtain⟨a,b⟩:=M.fk y (aC o) e f O;refine⟨by rw[F];exact a,λc=>?_⟩;obtain⟨w,h1,p⟩:=B9.1 c;rcases R.Wy w h1 with h|⟨h, _⟩
   ·exact b (B9.2 ⟨w,h,p⟩)
   ·rw[p] at h;exact M.fd o t k e Q f O h
 ·rcases C o with rfl|⟨j,k,o⟩
  ·rw[i0] at e;exact absurd e (by decide)
  ·exact M.fn y (aC o) e
 ·rcases u g with ⟨_,rfl⟩|⟨_,g⟩
  ·rw[i0] at D;exact absurd D (by decide)
  ·rcases u v with ⟨_,rfl⟩|⟨_,v⟩
   ·rw[i0] at E;exact absurd E (by decide)
   ·exact M.fd g v T D E
 ·rw[A] at g;obtain⟨q1,U⟩:=M.kd g v;rw[F];refine⟨q1,?_⟩;rcases U with U|⟨y,o,g1,H⟩
  ·obtain⟨w,h1,p⟩:=B9.1 U;exact .inl (B9.2 ⟨w,R.fQ w h1,p⟩)
  ·obtain⟨j,k⟩:=GS o;by_cases c:j=i
   ·subst c;rw[t] at k;cases k;exact .inl (B9.2 ⟨_,R.new _ H (S _ H).2,rfl⟩)
   ·exact .inr ⟨y,aC (N k c),g1,H⟩
 ·rw[R.pins,R.now];rcases u g with ⟨rfl,rfl⟩|⟨_,g⟩
  ·have:=M.pn t;rw[Q,ao (by decide)] at this;rw[i0,ao (by decide)];exact this
  ·exact M.pn g
 ·have zY: ∃V,s.cs[j]? =some V/\l∈V.ls:=by
   rcases u g with ⟨rfl,rfl⟩|⟨_,g⟩
   ·exact⟨x,t,hl⟩
   ·exact⟨y,g,hl⟩
  obtain⟨V,g0,g1⟩:=zY;obtain⟨r0,m,d,I,J,K⟩:=M.ln g0 l g1;refine⟨r0,m,d,I,by rw[A];exact J,?_⟩;rw[A,hb];refine K.imp id λ⟨L,q,a,r5,r6,r7,r8⟩=>⟨L,q,a,r5,r6,r7,λe5=>?_⟩;obtain⟨r9,z,y',b,c0,c1,c2,c3,c4,c5⟩:=r8 e5;refine⟨r9,z,y',b,c0,N c1 λc=>?_,c2,c3,c4,c5⟩;subst c;rw[t] at c1;cases c1;exact JC M W r5 c0 c4
 ·rw[A];rcases C o with rfl|⟨j, _,k⟩
  ·rw[i0] at e;exact absurd e (by decide)
  ·exact M.ac y (aC k) e
 ·rcases u g with ⟨_,rfl⟩|⟨_,g⟩
  ·rw[i0] at e;exact absurd e (by decide)
  ·obtain⟨l,I,J,K,L⟩:=M.wl g e;refine⟨l,I,J,K,?_⟩;rw[A];exact L.imp id λc=>⟨c.1,Z g (.inl e) c.2.1,c.2.2⟩
 ·rcases u g with ⟨_,rfl⟩|⟨_,g⟩
  ·rw[i0] at e;exact absurd e (by decide)
  ·obtain⟨⟨m,d,I,J,K⟩,L⟩:=M.rc g e;refine⟨⟨m,d,I,by rw[A];exact J,?_⟩,L⟩;exact K.imp id λc=>⟨c.1,Z g (.inr e) c.2.1,c.2.2⟩
 ·rw[Y];rcases C o with rfl|⟨j, _,k⟩
  ·rw[i0] at e;exact absurd e (by decide)
  ·exact M.wt y (aC k) e
 ·rcases u g with ⟨_,rfl⟩|⟨_,g⟩
  ·rw[i0] at D;exact absurd D (by decide)
  ·rcases u v with ⟨_,rfl⟩|⟨_,v⟩
   ·rw[i0] at E;exact absurd E (by decide)
   ·exact M.wu g v T D E
 ·rw[hb] at g;obtain⟨g1,H⟩:=M.aq g;refine⟨g1,λa ha=>?_⟩;obtain⟨z,y,f1,f2,f3,f4⟩:=H a ha;refine⟨z,y,f1,N f2 λc=>?_,f3,f4⟩;subst c;rw[t] at f2;cases f2;exact JC M W g ha (by rw[f4])
end
section
variable {gh dt:Gh} {ta:Int->Bool} {n:Nat} {s:MS} {i:Nat}
def uK (n:Nat) (s:MS):Prop:= ∃gh ta,MI gh ta n s
theorem Sz (M:MI gh ta n s) {x:bZ} (a:s.cs[i]? =some x) (h: ¬ (x.ph=2\/x.ph=3)):uV s.ep i=s.ep:=by
 have:=M.pn a;rw[ao h] at this;unfold uV;rw[<-this,tH M a]
theorem MI.ends (M:MI gh ta n s) {x:bZ} (a:s.cs[i]? =some x) (h1:x.ph=1) (kn:List Int) (b:kn=s.kn) (ms:List MT) {ls:List LT} (c:ls=x.ls):MI gh ta n {s with cs:=s.cs.set i (cJ ls),kn:=kn,ms:=ms}:=by
 have:=M.idle a (by omega) (λl d=>M.ln a l d) (M.tl x (aC a)) ms;rw[Sz M a (by omega)] at this;subst b c;exact this
theorem tL (s:MS):(dE s).1.cs=s.cs:=by
 unfold dE;dsimp only;generalize oR (fm s.ep)=L;generalize b:({s with ep:=Cf (fm s.ep)}:MS)=a;have h0:s.cs=a.cs:=by rw[<-b]
 rw[h0];clear b h0
 induction L generalizing a with
 |nil=>rfl
 |cons f L c=>exact c (gS a f)
theorem SA {h':HS} (M:MI gh ta n {s with h:=h'}):eR s h'=[]:=by
 refine JP.2 λf a=>?_;obtain⟨m,d,rfl,b,c,e⟩:=iw.1 a;exact e (M.kd b c).1
theorem VV {x:bZ} (a:s.cs[i]? =some x) (x':bZ):((s.cs.set i x').getD i x)=x':=by
 rw[Ds,Dc (B2.1 a).1];rfl
theorem MI.call (M:MI gh ta n s) {x:bZ} (g:s.cs[i]? =some x) (h1:x.ph=1) (hb:s.bx[i]? =some []) (m:mg s.h x=false) (B:qH s i x=false) (D: ¬ (x.vm=0/\x.c=(17,0,0,0,()))):uK n (ig (iq s i x) i x).1:=by
 have u:=M.ar x (aC g);by_cases p:(x.c.1=2\/x.c.1=4\/x.c.1=5\/x.c.1=10)/\oW s.h x.vm x.c.1 x.c.2.1 x.c.2.2.1 x.c.2.2.2.1=0
 ·obtain⟨o,w⟩:=p;obtain⟨g',C,c2,E⟩:=MM M.hi u.1.1 w o;have e:(ig (iq s i x) i x).1=AT s (kO s.h x.vm x.c.1 x.c.2.1 x.c.2.2.1 x.c.2.2.2.1) i x (if x.c.1=2 then aG .i64 x.c.2.1 else x.vm) (if x.c.1=2 then -1 else aG .i64 x.c.2.1) (xX s.h x.vm x.c.1 x.c.2.1 x.c.2.2.1 x.c.2.2.2.1,oW s.h x.vm x.c.1 x.c.2.1 x.c.2.2.1 x.c.2.2.2.1) (s.ms++[(1,x.vm,0,x.c,xX s.h x.vm x.c.1 x.c.2.1 x.c.2.2.1 x.c.2.2.2.1,oW s.h x.vm x.c.1 x.c.2.1 x.c.2.2.1 x.c.2.2.2.1)]):=by
   unfold iq;dsimp only;rw[ax o,ao (λc=>c w)];rfl
  rw[e];by_cases f:x.c.1=2
  ·obtain⟨r,z⟩:=c2 f;have t:aG .i64 x.c.2.1=x.c.2.1:=Go.Proofs.YtlcenllcmeebhaaGreat.bM (by omega);rw[ax f,ax f,t];refine⟨g', _,M.W_ g h1 hb C r (by decide) (by unfold Ar;rw[ax f]) (by unfold As;rw[ax f]) (λ{j q} c _ _=>?_) (λ{j y} l A c=>?_) _ _⟩
   ·rw[ax f] at c;exact⟨by omega,.inl rfl⟩
   ·have F:j≠i:=λk=>by subst k;rw[g] at l;cases l;omega
    have:qH s i x=true:=by
     unfold qH;refine FG.2 ⟨j,Ca.2 (B2.1 l).1,?_⟩;rw[l];dsimp only;rw[Dj,decide_eq_true_eq];refine⟨⟨F,z⟩,?_⟩;rw[H6];right;rw[f,c.2,A];have:0<x.c.2.1:=by omega
     simp[this]
    rw[B] at this;cases this
  ·obtain⟨r,z⟩:=E f;have t:aG .i64 x.c.2.1=x.c.2.1:=Go.Proofs.YtlcenllcmeebhaaGreat.bM (by omega);rw[ao f,ao f,t];refine⟨g', _,M.W_ g h1 hb C r (by omega) (by unfold Ar;rw[ao f]) (by unfold As;rw[ao f]) (λ{j q} c _ _=>?_) (λ{j y} l A c=>f c.1) _ _⟩;rw[ao f] at c;exact⟨by omega,.inr c.2.symm⟩
 ·obtain⟨g',P,C,N,G⟩:=HP (k:=x.c.1) (v:=x.vm) (a:=x.c.2.1) (b:=x.c.2.2.1) (c:=x.c.2.2.2.1) M.hi u.1.1 (λc=>D ⟨c.1,by
   obtain⟨_,k,a,b,d⟩:=c;exact DB k (DB a (DB b (DB d rfl)))⟩) (λH c=>by
   unfold mg bh at m;rw[H] at m c;rw[c.1,c.2.1,decide_eq_true c.2.2] at m;exact absurd m (by decide)) (by
   by_cases e:x.c.1=2\/x.c.1=4\/x.c.1=5\/x.c.1=10
   ·exact .inl λc=>p ⟨e,c⟩
   ·exact .inr e)
  have M':=M.quiet C N G;have I:=SA M';have e:(ig (iq s i x) i x).1=cD (cD {s with h:=kO s.h x.vm x.c.1 x.c.2.1 x.c.2.2.1 x.c.2.2.2.1,kn:=s.kn++eR s (kO s.h x.vm x.c.1 x.c.2.1 x.c.2.2.1 x.c.2.2.2.1),ms:=s.ms++[(1,x.vm,0,x.c,xX s.h x.vm x.c.1 x.c.2.1 x.c.2.2.1 x.c.2.2.2.1,oW s.h x.vm x.c.1 x.c.2.1 x.c.2.2.1 x.c.2.2.2.1)]} i {x with rs:=(xX s.h x.vm x.c.1 x.c.2.1 x.c.2.2.1 x.c.2.2.2.1,oW s.h x.vm x.c.1 x.c.2.1 x.c.2.2.1 x.c.2.2.2.1),fs:=eR s (kO s.h x.vm x.c.1 x.c.2.1 x.c.2.2.1 x.c.2.2.2.1)}) i (cJ ((s.cs.set i {x with rs:=(xX s.h x.vm x.c.1 x.c.2.1 x.c.2.2.1 x.c.2.2.2.1,oW s.h x.vm x.c.1 x.c.2.1 x.c.2.2.1 x.c.2.2.2.1),fs:=eR s (kO s.h x.vm x.c.1 x.c.2.1 x.c.2.2.1 x.c.2.2.2.1)}).getD i x).ls):=by
   unfold iq;dsimp only;split
   ·rename_i o;rw[ax λc=>p ⟨o,c⟩];rfl
   ·rfl
  rw[e,VV g,I];refine⟨g',ta,?_⟩;have:=M'.ends g h1 (s.kn++[]) (DU _) (s.ms++[(1,x.vm,0,x.c,xX s.h x.vm x.c.1 x.c.2.1 x.c.2.2.1 x.c.2.2.2.1,oW s.h x.vm x.c.1 x.c.2.1 x.c.2.2.1 x.c.2.2.2.1)]) (ls:=x.ls) rfl;unfold cD;dsimp only;rw[Dt];exact this
theorem MI.begin (M:MI gh ta n s) {x:bZ} (b:s.cs[i]? =some x) (h1:x.ph=1) (hb:s.bx[i]? =some []):uK n (ig (dn s i x) i x).1:=by
 unfold dn;cases d:mg s.h x with
 |true=>
  rw[ax rfl];dsimp only;split
  ·rename_i a;have: ∃l∈x.ls,(mO x.ls x.vm (x.c.2.1 / 16) (bh x.c.1)).1=l.2.2.1:=by
    unfold mO at a ⊢;cases e:x.ls.find? (Ce x.vm (x.c.2.1 / 16)) with
    |none=>rw[e] at a;exact absurd a (show ¬ (4:Int)=0 by decide)
    |some l=>
     rw[e] at a;dsimp only at a ⊢;split at a
     ·exact absurd a (show ¬ (7:Int)=0 by decide)
     ·rename_i c;rw[ao c];exact⟨l,JQ e,rfl⟩
   obtain⟨l,g,j⟩:=this;rw[j];exact⟨gh,ta,M.BS b h1 d g⟩
  ·exact⟨gh,ta,M.ZM b h1 d⟩
 |false=>
  rw[ao (by decide)];cases k:qH s i x with
  |true=>
   rw[ax rfl,jg b];exact⟨gh,ta,M.ends b h1 s.kn rfl s.ms rfl⟩
  |false=>
   rw[ao (by decide)];split
   ·have f:(dE s).1.cs[i]? =some x:=by rw[tL];exact b
    rw[jg f];exact⟨gh,ta,M.free.ends f h1 _ rfl _ rfl⟩
   ·rename_i m;exact M.call b h1 hb d k m
theorem MI.waits (M:MI gh ta n s) {x:bZ} (a:s.cs[i]? =some x) (b:x.ph=4):uK n (ig (ir s x) i x).1:=by
 unfold ir;split
 ·rename_i c;rw[jg (by exact a)];exact⟨gh,ta,M.done a b c⟩
 ·exact⟨gh,ta,M⟩
theorem MI.lz (M:MI gh ta n s) {x:bZ} (b:s.cs[i]? =some x):uK n (Go.Proofs.YtlcenllcmeebhaaGreat.lz s i x).1:=by
 have g:=M.ph x (aC b);unfold Go.Proofs.YtlcenllcmeebhaaGreat.lz;split
 ·rename_i d;unfold bQ;rw[ao (by omega),ao (by omega),ao (by omega),ax d];exact⟨gh,ta,M.reach b d⟩
 ·rename_i d;have e:i<s.bx.length:=by rw[M.lb, <-M.lc];exact(B2.1 b).1
  unfold yc;cases c:s.bx[i]? with
  |none=>rw[DG e] at c;cases c
  |some q=>
   cases q with
   |cons a q=>exact⟨gh,ta,M.pop b c⟩
   |nil=>
    dsimp only;unfold bQ;split
    ·exact⟨gh,ta,M.free⟩
    split
    ·rename_i h1;exact M.begin b h1 c
    split
    ·rename_i f;exact⟨gh,ta,M.walk b f⟩
    ·exact M.waits b (by omega)
theorem uK.step (M:uK n s) (k:Int):uK n (bA s k).1:=by
 obtain⟨gh,ta,M⟩:=M;unfold bA;split
 ·exact⟨gh,ta,M⟩
 split
 ·exact⟨gh,ta,M⟩
 ·rename_i a;exact M.lz a
theorem uK.ask (M:uK n s) (k vm:Int) {c:CT} (hc:cL c.2.1/\cL c.2.2.1/\cL c.2.2.2.1):uK n (eh s k vm c):=by
 obtain⟨gh,ta,M⟩:=M;exact⟨gh,ta,M.ask k vm hc⟩
theorem uK.new {f:Nat} {l:Int} (p:4<=f/\f<=4096) (r:1<=n/\n<=8) (c:1<=l/\l<=64):uK n (m0 f n l):=by
 have hc: ∀{x:bZ},x∈(m0 f n l).cs->x=cJ []:=λh=>Dd h;have b: ∀{j:Nat} {x:bZ},(m0 f n l).cs[j]? =some x->x=cJ []:=λh=>hc (aC h);have no: ∀{k:Int},(cJ []).ph=k->k≠0->False:=λh o=>o h.symm;have t: ∀{m:Nat} {d:DT},(m0 f n l).h.s.2[m]? =some d->d.1≠5:=λ{m d} h=>by
  have h:(C8 f zD)[m]? =some d:=h;rw[Dd (DA h)];decide
 refine⟨noG,λ_=>false,⟨HI.new p,r,Df,Df,Df,c,λx h=>?_,λx h=>?_,λx h=>?_,λg b=>absurd b (by simp[m0]),JV,λe u=>absurd u (by simp[m0]),JV,λx h e=>?_,λx h e=>?_,λ{i j x y} h1 _ _ e _=>?_,λh1 o=>absurd o (t h1),H5 _,λ{j x} h=>?_,λ{j x} h l c=>?_,λx h e=>?_,λ{j x} h e=>?_,λ{j x} h e=>?_,λx h e=>?_,λ{i j x y} h1 _ _ e _=>?_,λ{j q} h=>?_,λid h=>absurd h (Nl _)⟩⟩
 ·rw[hc h];decide
 ·rw[hc h];decide
 ·rw[hc h];show(0:Int)<=l;omega
 ·rw[hc h] at e;exact(no e (by decide)).elim
 ·rw[hc h] at e;exact(no e (by decide)).elim
 ·rw[b h1] at e;exact(no e (by decide)).elim
 ·rw[b h,ao (by decide)];have v:j<n:=by
   have:=(B2.1 h).1;rw[show(m0 f n l).cs.length=n from Df] at this;exact this
  show(C8 n (-1:Int)).getD j 0= -1;rw[Ds,Ga,ax v];rfl
 ·rw[b h] at c;exact absurd c (by simp[cJ])
 ·rw[hc h] at e;exact(no e (by decide)).elim
 ·rw[b h] at e;exact(no e (by decide)).elim
 ·rw[b h] at e;exact(no e (by decide)).elim
 ·rw[hc h] at e;exact(no e (by decide)).elim
 ·rw[b h1] at e;exact(no e (by decide)).elim
 ·have:q=[]:=Dd (aC h);rw[this];exact⟨List.Pairwise.nil,λa w=>by cases w⟩
end
def wOf (x:bZ):Nat:=if x.ph=1 then 6 else if x.ph=2 then 2+x.wk.2.1.toNat else if x.ph=3 then 1 else 0
def bl (s:MS) (c:Nat):Nat:=(s.bx.getD c []).length
def o1 (x:bZ):Nat:=if x.ph=1 then 1 else 0
structure Pg (s s':MS) (k:Nat) (x x':bZ):Prop where
 cs:s'.cs=s.cs.set k x'
 one:x'.ph=1->x.ph=1
 box: ∀j,j≠k->bl s' j+o1 x'<=bl s j+o1 x
 me:bl s' k+wOf x'<=bl s k+wOf x
 lt:0<bl s k+wOf x->bl s' k+wOf x'<bl s k+wOf x
section
variable {gh dt:Gh} {ta:Int->Bool} {n:Nat} {s s':MS} {i:Nat}
theorem EQ {x:bZ} (a:s.cs[i]? =some x):s.cs.set i x=s.cs:=by
 refine JW λj=>?_;rw[K1];by_cases e:i=j
 ·subst e;rw[ax rfl,ax (B2.1 a).1,a]
 ·rw[ao e]
theorem ER (s:MS):(dE s).1.bx=s.bx:=by
 unfold dE;dsimp only;generalize oR (fm s.ep)=L;generalize b:({s with ep:=Cf (fm s.ep)}:MS)=a;have h0:s.bx=a.bx:=by rw[<-b]
 rw[h0];clear b h0
 induction L generalizing a with
 |nil=>rfl
 |cons f L c=>exact c (gS a f)
theorem BH {s1:MS} {r:Int×Int} {x x1:bZ} (h:s1.cs[i]? =some x1):(ig (s1,r,true) i x).1={s1 with cs:=s1.cs.set i (cJ x1.ls)}:=by
 unfold ig;rw[ax rfl];show cD s1 i (cJ ((s1.cs.getD i x).ls))= _;rw[Ds,h];rfl
end
def gC (s:MS) (c:Nat):bZ:=s.cs.getD c (cJ [])
def nuC (s:MS) (c:Nat):Nat:=bl s c+wOf (gC s c)
def pn1 (s:MS):Nat:=s.cs.countP λx=>x.ph==1
def muC (s:MS) (c:Nat):Nat:=nuC s c+pn1 s
section
variable {gh dt:Gh} {ta:Int->Bool} {n:Nat} {s s':MS} {i:Nat}
theorem SB {x:bZ} {c:Nat} (a:s.cs[c]? =some x):bA s (c:Int)=Go.Proofs.YtlcenllcmeebhaaGreat.lz s c x:=by
 unfold bA;rw[ao (by omega)];show(match s.cs[c]? with|none=> _|some x=> _)= _;rw[a];rfl
structure DS (s s':MS) (k:Nat):Prop where
 mu: ∀c,muC s' c<=muC s c
 lt:0<nuC s k->muC s' k<muC s k
 p1:pn1 s'<=pn1 s
 ph: ∀c,(gC s' c).ph=1->(gC s c).ph=1
 ot: ∀c,c≠k->gC s' c=gC s c
end
section
variable {gh dt:Gh} {ta:Int->Bool} {n:Nat} {s s':MS} {i:Nat}
structure Zs (n:Nat) (s:MS):Prop where
 x:uK n s
 nu: ∀c,c<n->nuC s c=0
 p1:pn1 s=0
structure Iz (n:Nat) (j:Nat) (s:MS):Prop where
 z:Zs n s
 id: ∀c,c<n->(gC s c).ph=0
 fQ: ∀e∈s.ep.ws,e.2+(j:Int)<=s.ep.now
end
section
variable {gh dt:Gh} {ta:Int->Bool} {n:Nat} {s s':MS} {i:Nat}
def mkS (h:HS) (k:MT):HS:=if k.1=1 then kO h k.2.1 k.2.2.2.1.1 k.2.2.2.1.2.1 k.2.2.2.1.2.2.1 k.2.2.2.1.2.2.2.1 else if k.1=2 then bF h (gQ h.s k.2.2.1) else if k.1=3 then h else bF h (dO h.s.1 k.2.2.1 k.2.2.2.2.1,h.s.2)
structure aaC (h:HS) (k:MT):Prop where
 kd:1<=k.1/\k.1<=4
 call:k.1=1->xX h k.2.1 k.2.2.2.1.1 k.2.2.2.1.2.1 k.2.2.2.1.2.2.1 k.2.2.2.1.2.2.2.1=k.2.2.2.2.1/\oW h k.2.1 k.2.2.2.1.1 k.2.2.2.1.2.1 k.2.2.2.1.2.2.1 k.2.2.2.1.2.2.2.1=k.2.2.2.2.2/\cL k.2.2.2.1.2.1/\cL k.2.2.2.1.2.2.1/\cL k.2.2.2.1.2.2.2.1
 free:k.1=2->jX h.s k.2.2.1=0
 load:k.1=3->uy h.s.1 k.2.2.1=true/\dL h.s.1 k.2.2.1=k.2.2.2.2.1/\k.2.2.2.2.2=0
 store:k.1=4->uy h.s.1 k.2.2.1=true/\cL k.2.2.2.2.1
inductive Rp:HS->List MT->HS->Prop
 |nil (h:HS):Rp h [] h
 |snoc {h h1:HS} {l:List MT} {k:MT} (r:Rp h l h1) (o:aaC h1 k):Rp h (l++[k]) (mkS h1 k)
theorem Rp.add {h h1 a:HS} {l:List MT} {k:MT} (r:Rp h l h1) (o:aaC h1 k) (e:mkS h1 k=a):Rp h (l++[k]) a:=by rw[<-e];exact .snoc r o
theorem SC {h0:HS} (M:MI gh ta n s) (R:Rp h0 s.ms s.h) {f r:Int} (b:(f,r)∈s.ep.ws):Rp h0 (gT s f).ms (gT s f).h:=by
 obtain⟨e, _, _⟩:=M.wk _ b;obtain⟨m,d,a,g,i⟩:=M.k5 f e;have a:f=(m:Int):=a;obtain⟨_,j, _⟩:=M.hi.Ox g i;refine R.add ⟨(show 1<=(2:Int)/\(2:Int)<=4 by decide),λc=>absurd c (show ¬ (2:Int)=1 by decide),λ_=>?_,λc=>absurd c (show ¬ (2:Int)=3 by decide),λc=>absurd c (show ¬ (2:Int)=4 by decide)⟩ rfl;show jX s.h.s f=0;rw[a];exact j
theorem ES {h0:HS}: ∀(L:List Int) {s:MS},MI gh ta n s->Rp h0 s.ms s.h->L.Nodup->(∀f∈L, ∃r,(f,r)∈s.ep.ws/\r+2<=s.ep.now)->Rp h0 (L.foldl gT s).ms (L.foldl gT s).h
 |[], _, _,R, _, _=>R
 |f::L,s,M,R,a,b=>by
  obtain⟨r,h1,e⟩:=b f B5;refine ES L (M.gT h1 e) (SC M R h1) (G1.1 a).2 λg d=>?_;obtain⟨r',i,j⟩:=b g (B1 _ d);refine⟨r',LL.2 ⟨i,?_⟩,j⟩;have:g≠f:=λc=>(G1.1 a).1 (by rw[<-c];exact d);simp[this]
theorem JD {h0:HS} (M:MI gh ta n s) (R:Rp h0 s.ms s.h):Rp h0 (dE s).1.ms (dE s).1.h:=by
 rw[EK M];refine ES _ M.XY R ?_ λf a=>CM.1 a;unfold oR;refine(jL _).nodup_iff.2 ?_;exact M.XY.wn.sublist (List.filter_sublist.map _)
theorem Cs (r:St) (i:Nat) (x:bZ):(ig r i x).1.ms=r.1.ms/\(ig r i x).1.h=r.1.h:=by
 unfold ig;split<;>exact⟨rfl,rfl⟩
theorem VW {h0:HS} (M:MI gh ta n s) (R:Rp h0 s.ms s.h) {x:bZ} (a:s.cs[i]? =some x):Rp h0 (iq s i x).1.ms (iq s i x).1.h:=by
 have b:=M.ar x (aC a);have key:Rp h0 (s.ms++[(1,x.vm,0,x.c,xX s.h x.vm x.c.1 x.c.2.1 x.c.2.2.1 x.c.2.2.2.1,oW s.h x.vm x.c.1 x.c.2.1 x.c.2.2.1 x.c.2.2.2.1)]) (kO s.h x.vm x.c.1 x.c.2.1 x.c.2.2.1 x.c.2.2.2.1):=
  R.add ⟨(show 1<=(1:Int)/\(1:Int)<=4 by decide),λ_=>⟨rfl,rfl,b⟩,λc=>absurd c (show ¬ (1:Int)=2 by decide),λc=>absurd c (show ¬ (1:Int)=3 by decide),λc=>absurd c (show ¬ (1:Int)=4 by decide)⟩ rfl
 unfold iq;dsimp only;split
 ·split<;>exact key
 ·exact key
theorem SD {h0:HS} (M:MI gh ta n s) (R:Rp h0 s.ms s.h) {x:bZ} (a:s.cs[i]? =some x) (e:x.ph=3):Rp h0 (fP s i x).1.ms (fP s i x).1.h:=by
 obtain⟨⟨m,d,f,g, _⟩, _⟩:=M.rc a e;have j:=M.ar x (aC a);have k:m<s.h.s.2.length:=(B2.1 g).1;have b:uy s.h.s.1 (16*x.fr+x.c.2.1 % 16)=true:=by
  have:=M.hi.sz;rw[f];exact jd (by omega) (by omega)
 unfold fP;dsimp only;split
 ·exact R.add ⟨(show 1<=(4:Int)/\(4:Int)<=4 by decide),λc=>absurd c (show ¬ (4:Int)=1 by decide),λc=>absurd c (show ¬ (4:Int)=2 by decide),λc=>absurd c (show ¬ (4:Int)=3 by decide),λ_=>⟨b,j.2.1⟩⟩ rfl
 ·exact R.add ⟨(show 1<=(3:Int)/\(3:Int)<=4 by decide),λc=>absurd c (show ¬ (3:Int)=1 by decide),λc=>absurd c (show ¬ (3:Int)=2 by decide),λ_=>⟨b,rfl,rfl⟩,λc=>absurd c (show ¬ (3:Int)=4 by decide)⟩ rfl
theorem VX {h0:HS} (X:uK n s) (R:Rp h0 s.ms s.h) (k:Int):Rp h0 (bA s k).1.ms (bA s k).1.h:=by
 obtain⟨gh,ta,M⟩:=X;unfold bA;split
 ·exact R
 split
 ·exact R
 ·rename_i x b;unfold Go.Proofs.YtlcenllcmeebhaaGreat.lz;have d:=M.ph x (aC b);split
  ·rename_i c;rw[(Cs _ _ _).1,(Cs _ _ _).2];unfold bQ;rw[ao (by omega),ao (by omega),ao (by omega),ax c];exact SD M R b c
  ·rename_i c;split
   ·rename_i a;unfold yc at a;split at a
    ·cases a;exact R
    ·cases a
   ·rw[(Cs _ _ _).1,(Cs _ _ _).2];unfold bQ;split
    ·exact JD M R
    split
    ·unfold dn;split
     ·dsimp only;split<;>exact R
     split
     ·exact R
     split
     ·exact JD M R
     ·exact VW M R b
    split
    ·unfold kz;dsimp only;split
     ·exact R
     split<;>exact R
    ·unfold ir;split<;>exact R
theorem ZO {h0:HS} (R:Rp h0 s.ms s.h) (k vm:Int) (c:CT):Rp h0 (eh s k vm c).ms (eh s k vm c).h:=by
 unfold eh;split
 ·exact R
 split
 ·exact R
 ·split<;>exact R
end
section
variable {gh dt:Gh} {ta:Int->Bool} {n:Nat} {s s':MS} {i:Nat}
structure Ch (s s':MS) (k:Nat) (x x':bZ):Prop where
 cs:s'.cs=s.cs.set k x'
 ls: ∀l∈x'.ls,l∈x.ls\/(x.ph=2/\s.bx[k]? =some []/\l.1=x.vm/\l.2.1=x.c.2.1 / 16/\jP s.h x.vm.toNat (x.c.2.1 / 16)=(l.2.2.1,l.2.2.2.1,0,()))
 vc:x'.ph=0\/(x.ph≠0/\x'.vm=x.vm/\x'.c=x.c)
 p3:x'.ph=3->s.bx[k]? =some []/\((x.ph=1/\ ∃l∈x.ls,l.1=x.vm/\l.2.1=x.c.2.1 / 16/\l.2.2.1=x'.fr)\/(x.ph=2/\ ∃r,jP s.h x.vm.toNat (x.c.2.1 / 16)=(x'.fr,r,0,())))
 p4:x'.ph=4->(x.ph=4/\x'.rs=x.rs)\/(x'.rs.2=0/\x.c.1≠6/\x.c.1≠7)
 md:s'.h=s.h\/s'.h=(dE s).1.h\/(x.ph=1/\s'.h=kO s.h x.vm x.c.1 x.c.2.1 x.c.2.2.1 x.c.2.2.2.1)\/(x.ph=3/\x.c.1=7/\s'.h=bF s.h (dO s.h.s.1 (16*x.fr+x.c.2.1 % 16) x.c.2.2.1,s.h.s.2))
 p2:x'.ph=2->x.ph=1\/x.ph=2
 bo: ∀j,j≠k-> ∀q,s.bx[j]? =some q-> ∃r,s'.bx[j]? =some (q++r)/\(x.ph=1->x.c.1=6->mg s.h x=true->r=[])/\(x.ph≠1->r=[])
theorem nY {s s':MS} {k:Nat} {x:bZ} (hb:s'.bx=s.bx): ∀j,j≠k-> ∀q,s.bx[j]? =some q-> ∃r,s'.bx[j]? =some (q++r)/\(x.ph=1->x.c.1=6->mg s.h x=true->r=[])/\(x.ph≠1->r=[]):=λj _ q h=>⟨[],by rw[hb,DU];exact h,λ_ _ _=>rfl,λ_=>rfl⟩
theorem Ch.idle {x:bZ} {ls:List LT} (fg:s'.cs=s.cs.set i (cJ ls)) (a:ls=x.ls) (md:s'.h=s.h\/s'.h=(dE s).1.h\/(x.ph=1/\s'.h=kO s.h x.vm x.c.1 x.c.2.1 x.c.2.2.1 x.c.2.2.2.1)\/(x.ph=3/\x.c.1=7/\s'.h=bF s.h (dO s.h.s.1 (16*x.fr+x.c.2.1 % 16) x.c.2.2.1,s.h.s.2))) (hb:s'.bx=s.bx:=by first|rfl|exact ER _):Ch s s' i x (cJ ls):=
 ⟨fg,λl h=> .inl (by rw[<-a];exact h),.inl rfl,λc=>absurd c (show ¬ (0:Int)=3 by decide),λc=>absurd c (show ¬ (0:Int)=4 by decide),md,λc=>absurd c (show ¬ (0:Int)=2 by decide),nY hb⟩
theorem VY {bx:List (List AK)} {op:List Int} {t p:Int} {j:Nat} (b:j≠i) {q:List AK} (a:bx[j]? =some q): ∃r,(dF bx op i t p).2.1[j]? =some (q++r):=by
 unfold dF;split
 ·exact⟨[],by rw[DU];exact a⟩
 split
 ·exact⟨[],by rw[DU];exact a⟩
 ·refine⟨[((op.length:Int)+1,t,p,())],?_⟩;have:=post_at (i:=i) (x:=(((op.length:Int)+1,t,p,()):AK)) a;rw[ao b] at this;exact this
theorem SE {x:bZ} (g:s.cs[i]? =some x) (h1:x.ph=1): ∃x',Ch s (ig (iq s i x) i x).1 i x x':=by
 by_cases a:(x.c.1=2\/x.c.1=4\/x.c.1=5\/x.c.1=10)/\oW s.h x.vm x.c.1 x.c.2.1 x.c.2.2.1 x.c.2.2.2.1=0
 ·obtain⟨a,d⟩:=a;generalize b:iq s i x=r;unfold iq at b;dsimp only at b;rw[ax a,ao (λc=>c d)] at b;subst b;exact⟨_,rfl,λl k=> .inl (tI k).1,.inr ⟨by omega,rfl,rfl⟩,λc=>absurd c (show ¬ (4:Int)=3 by decide),λ_=> .inr ⟨d,by omega,by omega⟩,.inr (.inr (.inl ⟨h1,rfl⟩)),λc=>absurd c (show ¬ (4:Int)=2 by decide),λj m q n=>(VY m n).imp λr h=>⟨h,λ_ c6 _=>(by omega),λc=>absurd h1 c⟩⟩
 ·have e: ∃(s1:MS) (x1:bZ) (r:Int×Int),iq s i x=(s1,r,true)/\s1.h=kO s.h x.vm x.c.1 x.c.2.1 x.c.2.2.1 x.c.2.2.2.1/\s1.cs=s.cs.set i x1/\x1.ls=x.ls/\s1.bx=s.bx:=by
   unfold iq;dsimp only;split
   ·rename_i o;rw[ax λc=>a ⟨o,c⟩];exact⟨_,{x with rs:= _,fs:= _}, _,rfl,rfl,rfl,rfl,rfl⟩
   ·exact⟨_,{x with rs:= _,fs:= _}, _,rfl,rfl,rfl,rfl,rfl⟩
  obtain⟨s1,x1,r,p,t,f,u,v⟩:=e;rw[p];have w:s1.cs[i]? =some x1:=by rw[f,Dc (B2.1 g).1]
  rw[BH w];refine⟨cJ x1.ls,Ch.idle ?_ u (.inr (.inr (.inl ⟨h1,t⟩))) v⟩;show s1.cs.set i _= _;rw[f,Dt]
theorem MN {x:bZ} (e:s.cs[i]? =some x) (h1:x.ph=1) (hb:s.bx[i]? =some []): ∃x',Ch s (ig (dn s i x) i x).1 i x x':=by
 unfold dn;cases g:mg s.h x with
 |true=>
  rw[ax rfl];dsimp only;split
  ·rename_i a;have: ∃l∈x.ls,l.1=x.vm/\l.2.1=x.c.2.1 / 16/\l.2.2.1=(mO x.ls x.vm (x.c.2.1 / 16) (bh x.c.1)).1:=by
    unfold mO at a ⊢;cases b:x.ls.find? (Ce x.vm (x.c.2.1 / 16)) with
    |none=>rw[b] at a;exact absurd a (show ¬ (4:Int)=0 by decide)
    |some l=>
     rw[b] at a;dsimp only at a ⊢;split at a
     ·exact absurd a (show ¬ (7:Int)=0 by decide)
     ·rename_i c;rw[ao c];have d:=List.find?_some b;unfold Ce at d;rw[Dj,beq_iff_eq,beq_iff_eq] at d;exact⟨l,JQ b,d.1,d.2,rfl⟩
   exact⟨_,rfl,λl h=> .inl h,.inr ⟨by omega,rfl,rfl⟩,λ_=>⟨hb,.inl ⟨h1,this⟩⟩,λc=>absurd c (show ¬ (3:Int)=4 by decide),.inl rfl,λc=>absurd c (show ¬ (3:Int)=2 by decide),nY rfl⟩
  ·exact⟨_,rfl,λl h=> .inl h,.inr ⟨by omega,rfl,rfl⟩,λc=>absurd c (show ¬ (2:Int)=3 by decide),λc=>absurd c (show ¬ (2:Int)=4 by decide),.inl rfl,λ_=> .inl h1,nY rfl⟩
 |false=>
  rw[ao (by decide)];cases j:qH s i x with
  |true=>
   rw[ax rfl,jg e];exact⟨_,Ch.idle rfl rfl (.inl rfl)⟩
  |false=>
   rw[ao (by decide)];split
   ·have f:(dE s).1.cs[i]? =some x:=by rw[tL];exact e
    rw[jg f];exact⟨_,Ch.idle (by rw[tL]) rfl (.inr (.inl rfl))⟩
   ·exact SE e h1
theorem SF (M:MI gh ta n s) {x:bZ} (e:s.cs[i]? =some x) (b:x.ph=2) (hb:s.bx[i]? =some []): ∃x',Ch s (ig (kz s i x) i x).1 i x x':=by
 have r:=M.ar x (aC e);obtain⟨u,v,D⟩:=M.ac x (aC e) b;obtain⟨l,w1,w,z,d⟩:=M.wl e b;have q:=xN ⟨r.1.1,v⟩;have g:x.wk=(x.wk.1,(l:Int),(0,0,0,0,())):=DB rfl (DB w1 z);obtain⟨A,B,E,C,F,G⟩:=xM M u;unfold kz;dsimp only;split
 ·exact⟨_,rfl,λl h=> .inl h,.inr ⟨by omega,rfl,rfl⟩,λc=>absurd (show x.ph=3 from c) (by omega),λc=>absurd (show x.ph=4 from c) (by omega),.inl rfl,λ_=> .inr b,nY rfl⟩
 split
 ·rw[BH (x1:={x with wk:=bj s.h.s.1 (x.c.2.1 / 16) (bh x.c.1) x.wk}) (by exact(Dc (B2.1 e).1))];refine⟨cJ x.ls,Ch.idle ?_ rfl (.inl rfl)⟩;show(s.cs.set i _).set i _= _;rw[Dt]
 rename_i j f;have j:(bj s.h.s.1 (x.c.2.1 / 16) (bh x.c.1) x.wk).2.1= -1:=IR j;have f:(bj s.h.s.1 (x.c.2.1 / 16) (bh x.c.1) x.wk).2.2.2.2.2.1=0:=IR f;have k:bC s.h.s A.root false (x.c.2.1 / 16)=((bj s.h.s.1 (x.c.2.1 / 16) (bh x.c.1) x.wk).2.2.1,(bj s.h.s.1 (x.c.2.1 / 16) (bh x.c.1) x.wk).2.2.2.1,0,()):=by
  rcases d with d|d
  ·rcases M.hi.inv.m_ M.hi.nl (t:=bh x.c.1) C q d with ⟨m, _,o,a,H,k4⟩|⟨o,a⟩
   ·rw[<-g] at o;rw[j] at o;omega
   ·rw[<-g] at a;exact a f
  ·obtain⟨_,a⟩:=M.hi.inv.qy (t:=bh x.c.1) q w d.1;rw[<-g,f] at a;exact absurd a (by decide)
 rw[<-bS B] at k;refine⟨_,rfl,λy p=>?_,.inr ⟨by omega,rfl,rfl⟩,λ_=>⟨hb,.inr ⟨b, _,k⟩⟩,λc=>absurd c (show ¬ (3:Int)=4 by decide),.inl rfl,λc=>absurd c (show ¬ (3:Int)=2 by decide),nY rfl⟩;rcases EM p with p|rfl
 ·exact .inl p
 ·exact .inr ⟨b,hb,rfl,rfl,k⟩
theorem chg (M:MI gh ta n s) {x:bZ} (b:s.cs[i]? =some x): ∃x',Ch s (Go.Proofs.YtlcenllcmeebhaaGreat.lz s i x).1 i x x':=by
 have z:=M.ph x (aC b);unfold Go.Proofs.YtlcenllcmeebhaaGreat.lz;split
 ·rename_i d;unfold bQ;rw[ao (by omega),ao (by omega),ao (by omega),ax d];have: ∃(s1:MS) (r:Int×Int),fP s i x=(s1,r,true)/\s1.cs=s.cs/\s1.bx=s.bx/\(s1.h=s.h\/(x.ph=3/\x.c.1=7/\s1.h=bF s.h (dO s.h.s.1 (16*x.fr+x.c.2.1 % 16) x.c.2.2.1,s.h.s.2))):=by
   unfold fP;dsimp only;split
   ·rename_i m;exact⟨_, _,rfl,rfl,rfl,.inr ⟨d,m,rfl⟩⟩
   ·exact⟨_, _,rfl,rfl,rfl,.inl rfl⟩
  obtain⟨s1,r,o,g,p,t⟩:=this;rw[o,jg (x:=x) (by rw[g];exact b)];exact⟨_,Ch.idle (by rw[g]) rfl (t.imp id λc=> .inr (.inr c)) p⟩
 ·rename_i d;have u:i<s.bx.length:=by rw[M.lb, <-M.lc];exact(B2.1 b).1
  unfold yc;cases f:s.bx[i]? with
  |none=>rw[DG u] at f;cases f
  |some q=>
   cases q with
   |cons a q=>
    refine⟨_,rfl,λl v=> .inl (tI v).1,?_,λc=>absurd c d,λc=> .inl ⟨c,rfl⟩,.inl rfl,λc=> .inr c,λj w A y=>⟨[],by rw[DU];show(s.bx.set i q)[j]? = _;rw[E4 (λe=>w e.symm)];exact y,λ_ _ _=>rfl,λ_=>rfl⟩⟩;by_cases h0:x.ph=0
    ·exact .inl h0
    ·exact .inr ⟨h0,rfl,rfl⟩
   |nil=>
    dsimp only;unfold bQ;split
    ·rename_i h0;exact⟨x,by show(dE s).1.cs= _;rw[tL,EQ b],λl h=> .inl h,.inl h0,λc=>absurd c d,λc=> .inl ⟨c,rfl⟩,.inr (.inl rfl),λc=> .inr c,nY (ER s)⟩
    split
    ·rename_i h1;exact MN b h1 f
    split
    ·rename_i k;exact SF M b k f
    ·rename_i h0 h1 k;unfold ir;split
     ·rw[jg (by exact b)];exact⟨_,Ch.idle rfl rfl (.inl rfl)⟩
     ·exact⟨x,(EQ b).symm,λl h=> .inl h,.inr ⟨h0,rfl,rfl⟩,λc=>absurd c d,λc=> .inl ⟨c,rfl⟩,.inl rfl,λc=> .inr c,nY rfl⟩
theorem zh (X:uK n s) (k:Int):(bA s k).1=s\/ ∃(c:Nat) (x x':bZ),k=(c:Int)/\s.cs[c]? =some x/\Ch s (bA s k).1 c x x':=by
 obtain⟨gh,ta,M⟩:=X;by_cases b:k<0
 ·left;unfold bA;rw[ax b]
 ·cases a:s.cs[k.toNat]? with
  |none=>left;unfold bA;rw[ao b,a]
  |some x=>
   obtain⟨x',C⟩:=chg M a;refine .inr ⟨k.toNat,x,x',by omega,a,?_⟩;have e:bA s k=Go.Proofs.YtlcenllcmeebhaaGreat.lz s k.toNat x:=by unfold bA;rw[ao b,a]
   rw[e];exact C
end
section
variable {gh dt:Gh} {ta:Int->Bool} {n:Nat} {s s':MS} {i:Nat} {N:Int->Int->Prop}
structure Nm (N:Int->Int->Prop) (s:MS):Prop where
 ln: ∀x∈s.cs, ∀l∈x.ls,N l.1 l.2.1
 ca: ∀x∈s.cs,x.ph≠0->x.c.1=6\/x.c.1=7->N x.vm (x.c.2.1 / 16)
theorem Nm.step (H:Nm N s) (X:uK n s) (k:Int):Nm N (bA s k).1:=by
 rcases zh X k with e|⟨c,x,x', _,j,C⟩
 ·rw[e];exact H
 obtain⟨gh,ta,M⟩:=X;have b:=aC j;refine⟨λy a l i=>?_,λy a h0 f=>?_⟩
 ·rw[C.cs] at a;rcases iv a with rfl|a
  ·rcases C.ls l i with h|⟨m, _,g,d, _⟩
   ·exact H.ln x b l h
   ·rw[g,d];exact H.ca x b (by omega) (M.ac x b m).2.2
  ·exact H.ln y a l i
 ·rw[C.cs] at a;rcases iv a with rfl|a
  ·rcases C.vc with h|⟨o,g,d⟩
   ·exact absurd h h0
   ·rw[g,d];rw[d] at f;exact H.ca x b o f
  ·exact H.ca y a h0 f
theorem Nm.ask (H:Nm N s) (k vm:Int) {c:CT} (hc:c.1=6\/c.1=7->N vm (c.2.1 / 16)):Nm N (eh s k vm c):=by
 unfold eh;split
 ·exact H
 cases e:s.cs[k.toNat]? with
 |none=>exact H
 |some x=>
  dsimp only;split
  ·refine⟨λy a l b=>?_,λy a h0 d=>?_⟩
   ·rcases iv (show y∈s.cs.set _ _ from a) with rfl|a
    ·exact H.ln x (aC e) l b
    ·exact H.ln y a l b
   ·rcases iv (show y∈s.cs.set _ _ from a) with rfl|a
    ·exact hc d
    ·exact H.ca y a h0 d
  ·exact H
theorem Nm.new (f:Nat) (l:Int):Nm N (m0 f n l):=⟨λx a l b=>(by rw[Dd a] at b;cases b),λx a h0=>(by rw[Dd a] at h0;exact absurd rfl h0)⟩
structure Ii (s:MS):Prop where
 r: ∀x∈s.cs,x.ph=4->x.rs.2=0
theorem Ii.step (H:Ii s) (X:uK n s) (k:Int):Ii (bA s k).1:=by
 rcases zh X k with e|⟨c,x,x', _,d,C⟩
 ·rw[e];exact H
 refine⟨λy a b=>?_⟩;rw[C.cs] at a;rcases iv a with rfl|a
 ·rcases C.p4 b with ⟨f,g⟩|e
  ·rw[g];exact H.r x (aC d) f
  ·exact e.1
 ·exact H.r y a b
theorem Ii.ask (H:Ii s) (k vm:Int) (c:CT):Ii (eh s k vm c):=by
 unfold eh;split
 ·exact H
 cases d:s.cs[k.toNat]? with
 |none=>exact H
 |some x=>
  dsimp only;split
  ·refine⟨λy a b=>?_⟩;rcases iv (show y∈s.cs.set _ _ from a) with rfl|a
   ·exact absurd b (show ¬ (1:Int)=4 by decide)
   ·exact H.r y a b
  ·exact H
theorem Ii.new (f:Nat) (l:Int):Ii (m0 f n l):=⟨λx b a=>by rw[Dd b] at a;exact absurd a (show ¬ (0:Int)=4 by decide)⟩
theorem SG (X:uK n s) (H:Ii s) (k:Int):(bA s k).2.1.2≠12\/ ∃(x:bZ),x∈s.cs/\(bA s k).2.1.2=oW s.h x.vm x.c.1 x.c.2.1 x.c.2.2.1 x.c.2.2.2.1:=by
 obtain⟨gh,ta,M⟩:=X;have a: ¬ (0:Int)=12:=by decide
 unfold bA;split
 ·exact .inl a
 split
 ·exact .inl a
 ·rename_i x d;have b:=aC d;have j:=M.ph x b;have fin: ∀{r:St},(r.2.1.2≠12\/r.2.1.2=oW s.h x.vm x.c.1 x.c.2.1 x.c.2.2.1 x.c.2.2.2.1)->(ig r k.toNat x).2.1.2≠12\/ ∃(y:bZ),y∈s.cs/\(ig r k.toNat x).2.1.2=oW s.h y.vm y.c.1 y.c.2.1 y.c.2.2.1 y.c.2.2.2.1:=λ{r} h=>by
   unfold ig;split
   ·exact h.imp id λh=>⟨x,b,h⟩
   ·exact .inl a
  unfold Go.Proofs.YtlcenllcmeebhaaGreat.lz;split
  ·rename_i e;refine fin (.inl ?_);unfold bQ;rw[ao (by omega),ao (by omega),ao (by omega),ax e];unfold fP;dsimp only;split<;>exact a
  ·split
   ·exact .inl a
   ·refine fin ?_;unfold bQ;split
    ·exact .inl a
    split
    ·unfold dn;split
     ·dsimp only;split<;>exact .inl a
     split
     ·exact .inl (show ¬ (9:Int)=12 by decide)
     split
     ·exact .inl a
     ·unfold iq;dsimp only;split
      ·split
       ·exact .inr rfl
       ·exact .inl a
      ·exact .inr rfl
    split
    ·rename_i f;obtain⟨l,w1,m,g, _⟩:=M.wl d f;have i:x.wk=(x.wk.1,(l:Int),(0,0,0,0,())):=DB rfl (DB w1 g);unfold kz;dsimp only;split
     ·exact .inl a
     split
     ·refine .inl ?_;dsimp only;rw[i];unfold bj;split
      ·exact a
      split
      ·exact(show ¬ (11:Int)=12 by decide)
      ·unfold tookS;split
       ·exact(show ¬ (4:Int)=12 by decide)
       split
       ·exact a
       split
       ·unfold uI;split
        ·exact(show ¬ (11:Int)=12 by decide)
        split
        ·exact a
        ·exact(show ¬ (7:Int)=12 by decide)
       split
       ·unfold uI;split
        ·exact(show ¬ (11:Int)=12 by decide)
        split
        ·exact a
        ·exact(show ¬ (7:Int)=12 by decide)
       ·exact(show ¬ (11:Int)=12 by decide)
     ·exact .inl a
    ·unfold ir;split
     ·refine .inl ?_;have:=H.r x b (by omega);show ¬ x.rs.2=12;omega
     ·exact .inl a
end
theorem c0: ¬ (0:Int)=12:=by decide
theorem c1: ¬ (1:Int)=12:=by decide
theorem c2: ¬ (2:Int)=12:=by decide
theorem c3: ¬ (3:Int)=12:=by decide
theorem c4: ¬ (4:Int)=12:=by decide
theorem c5: ¬ (5:Int)=12:=by decide
theorem c6: ¬ (6:Int)=12:=by decide
theorem c7: ¬ (7:Int)=12:=by decide
theorem c9: ¬ (9:Int)=12:=by decide
theorem X3: ¬ (10:Int)=12:=by decide
theorem c11: ¬ (11:Int)=12:=by decide
theorem acu {ds:List DT} {f k o:Int}: ¬ uz ds f (aP k o)=12:=by
 unfold uz;split
 ·exact X3
 split
 ·exact c2
 ·show ¬ fS _ _ _ _ _ _=12;unfold fS;split
  ·exact c11
  split
  ·exact c9
  split
  ·split
   ·split
    ·exact c1
    ·exact c0
   ·split
    ·exact c1
    ·exact c0
  ·exact c6
theorem YI {ds:List DT} {k o:Int} (h:dC ds k o=12):bu ds 0=0:=by
 unfold dC at h;split at h
 ·exact absurd h X3
 split at h
 ·rename_i a;unfold ik at a;rw[List.findIdx?_eq_none_iff] at a;unfold bu;rw[List.countP_eq_zero];intro d b c;rw[a d b] at c;cases c
 ·exact absurd h acu
theorem VZ (ds:List DT) (k o:Int):bu ds 0<=bu (di ds k o) 0+1:=by
 unfold di;split
 ·omega
 ·rename_i f _;by_cases a:(f:Int)<0\/(f:Int)>=ds.length
  ·rw[s8 a];omega
  ·rw[nJ (by omega)];split
   ·unfold bu;rw[List.countP_set (by omega)];split<;>split<;>omega
   ·omega
theorem Xa {s:WD} {r pg f rt:Int} (h:kJ s r false pg f rt=12):bu s.2 0<=2:=by
 unfold kJ at h;rw[ao (by decide)] at h;split at h
 ·unfold lQ at h;split at h
  ·exact absurd h c5
  split at h
  ·have:=I9 s.1 r pg;omega
  ·exact absurd h c0
 ·rename_i h0;unfold l9 at h;split at h
  ·exact absurd h c2
  split at h
  ·exact absurd h c7
  ·exact absurd h c0
theorem abz {s:WD} {o r pg rt:Int} (h:B8 s o r false pg rt=12):bu s.2 0=0:=by
 unfold B8 at h;rw[ao (by decide)] at h;split at h
 ·split at h
  ·split at h
   ·exact absurd h c0
   ·unfold lR at h;split at h
    ·exact absurd h c0
    ·exact YI h
  ·exact absurd h c4
 ·unfold l9 at h;split at h
  ·exact absurd h c2
  split at h
  ·exact absurd h c7
  ·exact absurd h c0
theorem abA (g:Nat->Option GV) (s:WD) (v p:Int): ¬ (fy g s v p).2.2.1=12:=by
 unfold fy;split
 ·split
  ·unfold bC;split
   ·exact c6
   split
   ·exact c2
   split
   ·exact c0
   ·exact c4
  ·exact c4
 ·exact c4
theorem ZP {ws:List Int} {p t:Int} {x:Int×Int×FT} (h: ¬ x.2.2.2.2.2.1=12): ¬ (bj ws p t x).2.2.2.2.2.1=12:=by
 unfold bj;split
 ·exact h
 split
 ·exact c11
 ·unfold tookS;split
  ·exact c4
  split
  ·exact h
  split
  ·unfold uI;split
   ·exact c11
   split
   ·exact c0
   ·exact c7
  split
  ·unfold uI;split
   ·exact c11
   split
   ·exact c0
   ·exact c7
  ·exact c11
theorem aaD (ws:List Int) (f p t:Int): ∀k,¬ (fX ws f p t k).2.2.2.2.2.1=12
 |0=>c0
 |k+1=>ZP (aaD ws f p t k)
theorem Px (h:HS) (v a t:Int): ¬ (il h v a t).2=12:=by
 unfold il;split
 ·exact c2
 ·show ¬ (k_ _ _ _ _).2.2.2.1=12;unfold k_;split
  ·exact c1
  ·exact aaD _ _ _ _ 4
theorem aaE (ws:List Int) (i:Int): ¬ Aa ws i=12:=by
 unfold Aa;split
 ·exact c0
 ·exact c2
theorem Xb (g r:Int): ¬ Po.o8 g r=12:=by
 unfold Po.o8;split
 ·exact c1
 ·exact c0
theorem Xc (g:Nat->Option GV) (v a:Int): ¬ cN g v a=12:=by
 unfold cN;split
 ·exact c1
 split
 ·exact c0
 ·exact c4
theorem V2 (gs:List GT) (i g:Int) (b:Bool): ¬ fN gs i g b=12:=by
 unfold fN;split
 ·exact c4
 split
 ·exact c7
 split
 ·exact c3
 ·exact c0
theorem abB {h:HS} {v k a b c:Int} (f:1<=k/\k<=17) (e:(run h v k a b c).2.2=12):bu h.s.2 0<=3:=by
 have:k=1\/k=2\/k=3\/k=4\/k=5\/k=6\/k=7\/k=8\/k=9\/k=10\/k=11\/k=12\/k=13\/k=14\/k=15\/k=16\/k=17:=by omega
 rcases this with rfl|rfl|rfl|rfl|rfl|rfl|rfl|rfl|rfl|rfl|rfl|rfl|rfl|rfl|rfl|rfl|rfl
 ·have e:mM h=12:=e;unfold mM at e;split at e
  ·exact absurd e c3
  ·have:=YI e;omega
 ·have e:Cc h a=12:=e;unfold Cc at e;split at e
  ·split at e
   ·exact absurd e c9
   ·exact absurd e c0
  ·exact absurd e c4
 ·have e:(uS h v a b).2=12:=e;unfold uS at e;split at e
  ·exact absurd e c0
  ·have e:oQ h v a b=12:=e;unfold oQ at e;split at e
   ·exact absurd e c2
   split at e
   ·exact absurd e c7
   split at e
   ·have:=YI e;omega
   ·have h1:=Xa e;have g:=VZ h.s.2 4 v;have d:(kf h v).2=di h.s.2 4 v:=rfl;rw[d] at h1;omega
 ·have e:(x_ h v a).2=12:=e;unfold x_ at e;split at e
  ·exact absurd e c0
  ·have e:sU h v a=12:=e;unfold sU at e;split at e
   ·exact absurd e c2
   split at e
   ·exact absurd e (abA _ _ _ _)
   split at e
   ·exact absurd e c7
   split at e
   ·exact absurd e c9
   ·exact absurd e c0
 ·have e:mJ h v a b=12:=e;unfold mJ at e;split at e
  ·exact absurd e c2
  split at e
  ·exact absurd e c7
  split at e
  ·exact absurd e c7
  ·have:=abz e;omega
 ·have e:(AO h v a).2=12:=e;unfold AO at e;split at e
  ·exact absurd e (Px _ _ _ _)
  ·exact absurd e (aaE _ _)
 ·have e:nL h v a=12:=e;unfold nL at e;split at e
  ·exact absurd e (Px _ _ _ _)
  ·exact absurd e (aaE _ _)
 ·have e:(rQ h v a b c).2=12:=e;unfold rQ at e;split at e
  ·have e:jU h.gr v a b=12:=e;unfold jU at e;split at e
   ·exact absurd e c1
   split at e
   ·exact absurd e c5
   split at e
   ·exact absurd e c3
   ·exact absurd e c0
  ·have e:nK h v a b c=12:=e;unfold nK at e;split at e
   ·exact absurd e c2
   split at e
   ·exact absurd e c1
   split at e
   ·exact absurd e c4
   split at e
   ·exact absurd e c7
   ·exact absurd e c0
 ·have e:ma h v a b c=12:=e;unfold ma at e;split at e
  ·exact absurd e c2
  split at e
  ·exact absurd e c1
  split at e
  ·exact absurd e c4
  split at e
  ·exact absurd e c7
  split at e
  ·exact absurd e c4
  split at e
  ·exact absurd e c7
  split at e
  ·exact absurd e (V2 _ _ _ _)
  ·have:=Xa e;omega
 ·have e:mK h v a=12:=e;unfold mK at e;split at e
  ·exact absurd e c2
  split at e
  ·exact absurd e c0
  ·exact absurd e c4
 ·have e:td h v a=12:=e;unfold td at e;split at e
  ·exact absurd e c1
  ·unfold pk at e;split at e
   ·exact absurd e c4
   split at e
   ·exact absurd e c7
   split at e
   ·exact absurd e c9
   ·exact absurd e c0
 ·have e:(AM h v a).2=12:=e;unfold AM at e;split at e
  ·unfold Po.iK at e;split at e
   ·unfold Po.dN at e;split at e
    ·exact absurd e c3
    ·exact absurd e c0
   ·exact absurd e (Xb _ _)
  ·exact absurd e (Xc _ _ _)
 ·have e:(AN h v a b).2=12:=e;unfold AN at e;split at e
  ·exact absurd e c1
  split at e
  ·unfold Po.gN at e;split at e
   ·split at e
    ·exact absurd e c4
    split at e
    ·exact absurd e c6
    split at e
    ·exact absurd e c7
    split at e
    ·exact absurd e c3
    ·exact absurd e c0
   ·exact absurd e (Xb _ _)
  ·exact absurd e (Xc _ _ _)
 ·have e:DV h v a=12:=e;unfold DV at e;split at e
  ·exact absurd e c1
  ·unfold Po.ku at e;split at e
   ·exact absurd e c4
   split at e
   ·exact absurd e c0
   ·exact absurd e c6
 ·exact absurd (show(0:Int)=12 from e) c0
 ·have e:yI h v a=12:=e;unfold yI at e;split at e
  ·exact absurd e c1
  ·unfold Po.d_ at e;split at e
   ·exact absurd e c4
   split at e
   ·exact absurd e c0
   ·exact absurd e c0
 ·exact absurd (show(0:Int)=12 from e) c0
theorem acv {h:HS} {v k a b c:Int} (e:oW h v k a b c=12):bu h.s.2 0<=3:=by
 unfold oW at e;split at e
 ·rename_i d;exact abB (yK d).1 e
 ·unfold iN at e;split at e
  ·exact absurd e c1
  split at e
  ·exact absurd e c7
  split at e
  ·exact absurd e c4
  ·exact absurd e c0
theorem Gx {n:Nat} {s:MS} (X:uK n s) (H:Ii s) (k:Int) (e:(bA s k).2.1.2=12):bu s.h.s.2 0<=3:=by
 rcases SG X H k with h|⟨x, _,h⟩
 ·exact absurd e h
 ·rw[h] at e;exact acv e
section
variable {gh:Gh} {h:HS}
theorem EU (H:HI gh h) {v:Int} (b:aW h.g v=true) {p t:Int} (c:0<=p/\p<65536): ∀k:Nat,(∃m:Nat,m+k=3/\(fX h.s.1 (aY h.g v) p t k).2.1=(m:Int)/\(fX h.s.1 (aY h.g v) p t k).2.2=(0,0,0,0,())/\gh (fX h.s.1 (aY h.g v) p t k).1=some (v,m,px (m+1) p))\/(1<=k/\(fX h.s.1 (aY h.g v) p t k).2.1= -1)
 |0=>by
  obtain⟨x,d,i,hv, _⟩:=bR b;have a:=H.root d;rw[hv] at a;refine .inl ⟨3,rfl,rfl,rfl,?_⟩;show gh (aY h.g v)=some (v,3,px 4 p);rw[XK c,i];exact a
 |k+1=>by
  obtain⟨x,d,i,hv, _⟩:=bR b;have a:=H.root d;rw[hv] at a;rcases EU H b (t:=t) c k with ⟨m,r,h1,j,l⟩|⟨_,h1⟩
  ·have e:fX h.s.1 (aY h.g v) p t k=((fX h.s.1 (aY h.g v) p t k).1,(m:Int),(0,0,0,0,())):=DB rfl (DB h1 j);have es:fX h.s.1 (aY h.g v) p t (k+1)=bj h.s.1 p t ((fX h.s.1 (aY h.g v) p t k).1,(m:Int),(0,0,0,0,())):=by rw[<-e];rfl
   rw[es];rcases H.inv.m_ H.nl (t:=t) a c l with ⟨n,u,f,w,o,q⟩|⟨f, _⟩
   ·exact .inl ⟨n,by omega,f,o,q⟩
   ·exact .inr ⟨by omega,f⟩
  ·right;refine⟨by omega,?_⟩;show(bj h.s.1 p t (fX h.s.1 (aY h.g v) p t k)).2.1= -1;rw[mY h1];exact h1
theorem MO (H:HI gh h) {v f:Int} {m:Nat} {x:Int} (d:gh f=some (v,m,x)):0<=f/\f<4096/\f<h.s.2.length/\h.s.2[f.toNat]? =some (3,v,0,0,()):=by
 obtain⟨a,b,c, _⟩:=H.inv.kd d;have:=H.inv.le;exact⟨a,by omega,b,c⟩
theorem BI (H:HI gh h) {v:Int} (k:aW h.g v=true) {p:Int} (a:0<=p/\p<65536):sP (aY h.g v) p 0=false/\(((k_ h.s.1 (aY h.g v) p 0).2.2.2.1=0/\ ∃(m:Nat) (d:DT),(k_ h.s.1 (aY h.g v) p 0).1=(m:Int)/\h.s.2[m]? =some d/\d.1=4)\/(k_ h.s.1 (aY h.g v) p 0).2.2.2.1=4):=by
 obtain⟨x,f,n,hv, _⟩:=bR k;have b:=H.root f;have c:=H.inv.Pm H.nl b a (t:=0) (by decide);rw[n];obtain⟨o,q,z⟩:=H.inv.vx b;refine⟨?_,?_⟩
 ·unfold sP;have r:dW x.root p 3=16*x.root+px 3 p % 16:=ky ⟨o,q⟩ a (l:=3) (by omega);have A:=ee p 3;rw[r,decide_eq_false (by omega),decide_eq_false (by omega),decide_eq_false (by omega)];rfl
 ·by_cases e:(bC h.s x.root false p).2.2.1=0
  ·rw[ax e] at c;have u:ni h v.toNat p=some (bC h.s x.root false p).1:=by rw[cP f,ax e]
   obtain⟨m,d,h1,w,y, _⟩:=H.TF u;obtain⟨f0,B, _,i⟩:=H.inv.mq b a;have j:=(H.inv.VN b a i).2.2;rw[<-H.inv.fO b a i] at j;refine .inl ⟨j.2 e,m,d,?_,w,y⟩;rw[c];exact h1
  ·rw[ao e] at c;exact .inr c
end
section
variable {gh dt:Gh} {ta:Int->Bool} {n:Nat} {s s':MS} {i:Nat}
theorem EV {x:bZ} (a:s.cs[i]? =some x) (h0:x.ph=0) (vm:Int) (c:CT):eh s (i:Int) vm c=cD s i {x with ph:=1,vm:=vm,c:=c}/\Dz s (i:Int)=0:=by
 refine⟨?_,?_⟩
 ·unfold eh;rw[ao (by omega)];show(match s.cs[i]? with|none=> _|some x=> _)= _;rw[a];exact ax h0
 ·unfold Dz;rw[ao (by omega)];show(match s.cs[i]? with|none=>(2:Int)|some x=> _)= _;rw[a];exact ax h0
theorem quick {x:bZ} (d:s.cs[i]? =some x) (h0:x.ph=0) (hb:s.bx[i]? =some []) {vm:Int} {c:CT} (m: ¬ (c.1=2\/c.1=4\/c.1=5\/c.1=10)) (n:bh c.1=0) (o:c.1≠17) (a:qH s i {x with ph:=1,vm:=vm,c:=c}=false):
 bA (eh s (i:Int) vm c) (i:Int)=({s with h:=kO s.h vm c.1 c.2.1 c.2.2.1 c.2.2.2.1,kn:=s.kn++eR s (kO s.h vm c.1 c.2.1 c.2.2.1 c.2.2.2.1),ms:=s.ms++[(1,vm,0,c,xX s.h vm c.1 c.2.1 c.2.2.1 c.2.2.2.1,oW s.h vm c.1 c.2.1 c.2.2.1 c.2.2.2.1)],cs:=s.cs.set i (cJ x.ls)},(xX s.h vm c.1 c.2.1 c.2.2.1 c.2.2.2.1,oW s.h vm c.1 c.2.1 c.2.2.1 c.2.2.2.1),true):=by
 have f:i<s.cs.length:=(B2.1 d).1;rw[(EV d h0 vm c).1];generalize b:({x with ph:=1,vm:=vm,c:=c}:bZ)=y at a ⊢;have p:y.ph=1:=by rw[<-b]
 have hc:y.c=c:=by rw[<-b]
 have hv:y.vm=vm:=by rw[<-b]
 have q:y.ls=x.ls:=by rw[<-b]
 have g:(cD s i y).cs[i]? =some y:=Dc f;rw[SB g];unfold Go.Proofs.YtlcenllcmeebhaaGreat.lz;rw[ao (by omega)];unfold yc;rw[show(cD s i y).bx[i]? =some [] from hb];dsimp only;unfold bQ;rw[ao (by omega),ax p];unfold dn;have r:mg (cD s i y).h y=false:=by unfold mg;rw[hc,n];rfl
 have t:qH (cD s i y) i y=false:=by
  unfold qH at a ⊢;rw[Ij] at a ⊢;intro j l;have u:j∈Ab s.cs.length:=by
   show j∈Ab s.cs.length;rw[show(cD s i y).cs.length=s.cs.length from DJ] at l;exact l
  have:=a j u;by_cases e:j=i
  ·subst e;rw[g];simp
  ·rw[show(cD s i y).cs[j]? =s.cs[j]? from E4 (λk=>e k.symm)];exact this
 rw[r,t,ao (by decide),ao (by decide),ao (λk=>o (by rw[hc] at k;rw[k.2]))];unfold iq;dsimp only;rw[hc,ao m,hv];unfold ig;rw[ax rfl];dsimp only;have v: ∀(x1:bZ),((s.cs.set i y).set i x1).getD i y=x1:=λx1=>by
  rw[Dt,Ds,Dc f];rfl
 unfold cD;dsimp only;rw[v];dsimp only;rw[Dt,Dt,q];rfl
theorem SH (a: ∀y∈s.cs,y.ph=0) (x:bZ):qH s i x=false:=by
 unfold qH;rw[Ij];intro j _;cases b:s.cs[j]? with
 |none=>simp
 |some y=>
  have:=a y (aC b);dsimp only;rw[this];simp
theorem SI {h:HS} (H:HI gh h) {v:Nat} (a:mL h.g=some v) (hc:0<bu h.s.2 0):oW h 0 1 0 0 0=0/\xX h 0 1 0 0 0=(v:Int)/\(kO h 0 1 0 0 0).g=bz h.g v (some ⟨eK h.s (v:Int),[]⟩)/\bu (kO h 0 1 0 0 0).s.2 0+1=bu h.s.2 0:=by
 have b:iN h 0 1 0 0 0=0:=rfl;obtain⟨h1,f,m⟩:=Gw b;have hv:=(n6.1 a).1;have c:rA h.s (v:Int)=0:=H.inv.ZB (by omega) hc;have d:(run h 0 1 0 0 0).1={h with s:=iW h.s (v:Int) λ_=>0,g:=bz h.g v (some ⟨eK h.s (v:Int),[]⟩)}:=by
  show gR h= _;unfold gR;rw[a];exact ax c
 have e:(run h 0 1 0 0 0).2.2=0:=by
  show mM h=0;unfold mM;rw[a];exact c
 have i:(run h 0 1 0 0 0).2.1=(v:Int):=by
  show AQ h=(v:Int);unfold AQ;rw[a]
 refine⟨f.trans e,?_,?_,?_⟩
 ·unfold xX;rw[ax b,ax e];exact i
 ·rw[h1,d]
 ·rw[h1,d];show bu (di h.s.2 3 (v:Int)) 0+1= _;obtain⟨j, _,k, _, _,l⟩:=m6 (ds:=h.s.2) (o:=(v:Int)) hc H.inv.fz (by omega);rw[l];have:=tc (d':=((3:Int),(v:Int),(0:Int),(0:Int),())) k 0;rw[ax (show zD.1=0 from rfl),ao (show ¬ (3:Int)=0 by decide)] at this;omega
end
section
variable {gh dt:Gh} {n:Nat} {s s':MS} {f:Nat} {l:Int}
def N9 (h:HS):Prop:= ∀i q,ni h i q=none
theorem N9.DE {h:HS} (H:HI gh h) (b:N9 h):N9 (kO h 0 1 0 0 0):=λi q=>by
 obtain⟨g',d,E, _⟩:=H.Gu;have e:kO h 0 1 0 0 0=gR h:=(Gw (show iN h 0 1 0 0 0=0 from rfl)).1;rw[e];cases a:ni (gR h) i q with
 |none=>rfl
 |some x=>
  obtain⟨_, _,f,g⟩:=d.hc.jj a;have:=b i q;rw[rR,E.pg.to (λc=>c ⟨f,g⟩), <-rR,this] at a;cases a
abbrev wR:CT:=(1,0,0,0,())
structure Bg (f n:Nat) (l:Int) (k:Nat) (s:MS):Prop where
 x:uK n s
 r:Ii s
 np:N9 s.h
 cs:s.cs=C8 n (cJ [])
 bx:s.bx=C8 n []
 kn:s.kn=[]
 op:s.op=[]
 ws:s.ep.ws=[]
 sz:s.sz=l
 len:s.h.s.2.length=f
 cnt:bu s.h.s.2 0+k=f
 live: ∀v:Int,aW s.h.g v=true<->1<=v/\v<=(k:Int)
 rp:Rp (h0 f) s.ms s.h
 nm: ∀N:Int->Int->Prop,Nm N s
theorem Bg.new (d:20<=f/\f<=4096) (a:1<=n/\n<=8) (b:1<=l/\l<=64):Bg f n l 0 (m0 f n l) where
 x:=uK.new (by omega) a b
 r:=Ii.new f l
 np:=λi q=>rfl
 cs:=rfl
 bx:=rfl
 kn:=rfl
 op:=rfl
 ws:=rfl
 sz:=rfl
 len:=Df
 cnt:=by
  show bu (C8 f zD) 0+0=f;rw[Vt,ax rfl];rfl
 live:=λv=>by
  constructor
  ·intro h;obtain⟨_,x,c⟩:=cw.1 h;cases c
  ·intro h;omega
 rp:= .nil _
 nm:=λN=>Nm.new f l
theorem V3 {α:Type} (n i:Nat) (x:α):(C8 n x).set i x=C8 n x:=by
 refine JW λj=>?_;rw[K1];split
 ·rename_i e;subst e;rw[Df,Ga]
 ·rfl
theorem Bg.DE {k:Nat} (b:Bg f n l k s) (H:k<16) (I:k<f) (J:1<=n):(bA (eh s 0 0 wR) 0).2=((((k+1:Nat):Int),0),true)/\Bg f n l (k+1) (bA (eh s 0 0 wR) 0).1/\Dz s 0=0:=by
 have e:s.cs[0]? =some (cJ []):=by rw[b.cs,Ga,ax (by omega)]
 have hb:s.bx[0]? =some []:=by rw[b.bx,Ga,ax (by omega)]
 have w: ∀y∈s.cs,y.ph=0:=λy o=>by rw[b.cs] at o;rw[Dd o];rfl
 have q:=quick (vm:=0) (c:=wR) e rfl hb (show ¬ ((1:Int)=2\/(1:Int)=4\/(1:Int)=5\/(1:Int)=10) by decide) rfl (show ¬ (1:Int)=17 by decide) (SH w _);have X':=(b.x.ask 0 0 (c:=wR) (show cL 0/\cL 0/\cL 0 by decide)).step 0;have z:=(b.r.ask 0 0 wR).step (b.x.ask 0 0 (c:=wR) (show cL 0/\cL 0/\cL 0 by decide)) 0;have A:=VX (b.x.ask 0 0 (c:=wR) (show cL 0/\cL 0/\cL 0 by decide)) (ZO b.rp 0 0 wR) 0;have B: ∀N:Int->Int->Prop,Nm N (bA (eh s 0 0 wR) 0).1:=λN=>((b.nm N).ask 0 0 (c:=wR) (λc=>absurd c (show ¬ ((1:Int)=6\/(1:Int)=7) by decide))).step (b.x.ask 0 0 (c:=wR) (show cL 0/\cL 0/\cL 0 by decide)) 0;have q:bA (eh s 0 0 wR) 0= _:=q;obtain⟨gh,ta,M⟩:=b.x;have C:mL s.h.g=some (k+1):=by
  refine n6.2 ⟨by omega,?_,λu K L=>?_⟩
  ·cases j:s.h.g (k+1) with
   |none=>rfl
   |some g=>
    have:=(b.live ((k+1:Nat):Int)).1 (cw.2 ⟨by omega,g,j⟩);omega
  ·obtain⟨_,g,j⟩:=cw.1 ((b.live (u:Int)).2 (by omega));have j:s.h.g u=some g:=j;rw[j];rfl
 obtain⟨c1,c2,c3,c4⟩:=SI M.hi C (by have:=b.cnt;omega);have nn:NN s.h.s (kO s.h 0 1 0 0 0).s:=by
  rw[(Gw (show iN s.h 0 1 0 0 0=0 from rfl)).1];exact NN.DE s.h
 have D:eR s (kO s.h 0 1 0 0 0)=[]:=by
  refine JP.2 λg j=>?_;obtain⟨m,d, _,E,F, _⟩:=iw.1 j;obtain⟨d0,p,t⟩:=nn.to E F;have:=(M.kd p t).1;rw[b.kn] at this;cases this
 refine⟨?_,⟨X',z,?_,?_,?_,?_,?_,?_,?_,?_,?_,λv=>?_,A,B⟩,(EV (i:=0) e rfl 0 wR).2⟩
 ·rw[q];show((xX s.h 0 1 0 0 0,oW s.h 0 1 0 0 0),true)= _;rw[c1,c2]
 ·rw[q];exact b.np.DE M.hi
 ·rw[q];show s.cs.set 0 (cJ [])= _;rw[b.cs,V3]
 ·rw[q];exact b.bx
 ·rw[q];show s.kn++eR s (kO s.h 0 1 0 0 0)=[];rw[D,b.kn];rfl
 ·rw[q];exact b.op
 ·rw[q];exact b.ws
 ·rw[q];exact b.sz
 ·rw[q];show(kO s.h 0 1 0 0 0).s.2.length=f;rw[<-b.len];obtain⟨g',G⟩:=M.hi.step 0 1 0 0 (a:=0) (by decide);have p:=G.sz;have t:=M.hi.sz;have O:=Gv s.h 0 1 0 0 0;omega
 ·rw[q];show bu (kO s.h 0 1 0 0 0).s.2 0+(k+1)=f;have:=b.cnt;omega
 ·rw[q];show aW (kO s.h 0 1 0 0 0).g v=true<-> _;rw[c3];constructor
  ·intro h;obtain⟨hv,x,e⟩:=cw.1 h;unfold bz at e;split at e
   ·omega
   ·have:=(b.live v).1 (cw.2 ⟨hv,x,e⟩);omega
  ·intro h;refine cw.2 ⟨by omega,?_⟩;unfold bz;split
   ·exact⟨_,rfl⟩
   ·obtain⟨_,x,e⟩:=cw.1 ((b.live v).2 (by omega));exact⟨x,e⟩
def F6 (f n:Nat) (l:Int):MS:=(bA (eh (bA (eh (m0 f n l) 0 0 wR) 0).1 0 0 wR) 0).1
theorem V4 (b:20<=f/\f<=4096) (a:1<=n/\n<=8) (c:1<=l/\l<=64):(bA (eh (m0 f n l) 0 0 wR) 0).2=((1,0),true)/\(bA (eh (bA (eh (m0 f n l) 0 0 wR) 0).1 0 0 wR) 0).2=((2,0),true)/\Bg f n l 2 (F6 f n l):=by
 obtain⟨a1,d, _⟩:=(Bg.new b a c).DE (by decide) (by omega) a.1;obtain⟨e,g, _⟩:=d.DE (by decide) (by omega) a.1;exact⟨a1,e,g⟩
end
section
variable {gh dt:Gh} {n:Nat} {s s':MS} {i:Nat} {h:HS}
theorem JE {ws:List Int} {r p t:Int} {k:Nat} (h:(fX ws r p t k).2.1= -1): ∀j,(fX ws r p t (k+j)).2.1= -1
 |0=>h
 |j+1=>by
  have:=JE h j;show(bj ws p t (fX ws r p t (k+j))).2.1= -1;rw[mY this];exact this
end
section
variable {gh dt:Gh} {n:Nat} {s s':MS} {i:Nat} {h:HS}
def itM (i:Nat):Nat->MS->MS
 |0,s=>s
 |k+1,s=>(bA (itM i k s) (i:Int)).1
end
section
variable {gh dt:Gh} {n:Nat} {s s':MS} {f:Nat} {l:Int}
structure Bd (f n:Nat) (l p b F:Int) (s:MS):Prop where
 x:uK n s
 r:Ii s
 pg:jP s.h 1 p=(F,b,0,())
 only: ∀i q g,ni s.h i q=some g->i=1/\q=p
 cs:s.cs=C8 n (cJ [])
 bx:s.bx=C8 n []
 kn:s.kn=[]
 op:s.op=[]
 ws:s.ep.ws=[]
 sz:s.sz=l
 live: ∀v:Int,aW s.h.g v=true<->1<=v/\v<=2
 fr: ∃(m:Nat) (d:DT),F=(m:Int)/\s.h.s.2[m]? =some d/\d.1=4/\d.2.1=1
end
section
variable {n:Nat} {s:MS} {i:Nat}
theorem HQ (X:uK n s):bu s.h.s.2 0+bu s.h.s.2 3+bu s.h.s.2 4+bu s.h.s.2 5=s.h.s.2.length/\ ∀f∈lx (s.ep.ws.map (·.1)), ∃(m:Nat) (d:DT),f=(m:Int)/\s.h.s.2[m]? =some d/\d.1=5:=by
 obtain⟨gh,ta,M⟩:=X;refine⟨M.hi.MK,λf a=>?_⟩;rw[(jL _).mem_iff] at a;obtain⟨e,b,rfl⟩:=B9.1 a;exact M.k5 _ (M.wk e b).1
end
section
variable {n:Nat} {s:MS}
structure Ret (n:Nat) (s:MS):Prop where
 x:uK n s
 np:N9 s.h
 k6: ∀(c:Nat) (x:bZ),1<=c->s.cs[c]? =some x->x.ph≠4/\(x.ph≠0->x.c.1=6)
 c0: ∀x:bZ,s.cs[0]? =some x->x.ph=0\/x.ph=4
 j: ∀(c:Nat) (x:bZ),s.cs[c]? =some x->x.ph=3->s.bx[c]? ≠some []
end
end Go.Proofs.YtlcenllcmeebhaaGreat
namespace Go.Proofs.YtlcenllcmeebhaaGreat.Mu
set_option maxRecDepth 100000
open Go.RX
abbrev eP:El:= .one .ptr
abbrev eMk:El:= .agg sMk
abbrev MkT:Type:=Int×Int×Int×Int×Int×Int×Int×Int×Int×Unit
abbrev mkT (m:MT):MkT:=(m.1,m.2.1,m.2.2.1,m.2.2.2.1.1,m.2.2.2.1.2.1,m.2.2.2.1.2.2.1,m.2.2.2.1.2.2.2.1,m.2.2.2.2.1,m.2.2.2.2.2,())
structure CA where
 cb:Nat
 tb:Nat
 st:Option AR×Nat×Nat
 sf:Option AR×Nat×Nat
 wp:Option AR
 Lt:List (Nat×List AB)
 Lf:List (Nat×List AB)
 Lw:List (Nat×List AB)
abbrev kh (a:CA) (i:Nat) (x:bZ):List AB:=
 [aa (i:Int),ag (ae a.tb),aa x.ph,aa x.vm,aa x.c.1,ay x.c.2.1,ay x.c.2.2.1,ay x.c.2.2.2.1,ag a.wp,aa x.fr,ay x.rs.1,aa x.rs.2,aa x.ak,.slice a.sf.1 a.sf.2.1 a.sf.2.2]
def WkW (a:CA) (x:bZ):Prop:= ∃(bk:Nat) (s:Option AR×Nat×Nat) (b:List (Nat×List AB)) (xs:List Int),a.wp=some ⟨bk,0,none⟩/\a.Lw=(bk,jM x.wk.1 (x.c.2.1 / 16) (bh x.c.1) x.wk.2.1 x.wk.2.2 s)::b/\xm b s xs/\(xs.length:Int)<=3 - x.wk.2.1
structure Tg (a:CA) (x:bZ):Prop where
 ls:dy lN a.st x.ls a.Lt
 fs:dy eI a.sf x.fs a.Lf
 wk:x.ph=2->WkW a x
def uL (a:CA) (i:Nat) (x:bZ) (sz:Int):List (Nat×List AB):=(a.cb,kh a i x)::(a.tb,dz a.st sz)::(a.Lt++(a.Lf++a.Lw))
structure MB where
 mb:Nat
 eb:Nat
 xb:Nat
 kb:Nat
 wb:Nat
 sc:Option AR×Nat×Nat
 sm:Option AR×Nat×Nat
 sp:Option AR×Nat×Nat
 sb:Option AR×Nat×Nat
 so:Option AR×Nat×Nat
 Lc:List (Nat×List AB)
 Lm:List (Nat×List AB)
 Lp:List (Nat×List AB)
 Lb:List (Nat×List AB)
 Lo:List (Nat×List AB)
 cr:List CR
 ke:List Db
 we:List Db
 kk:Nat
 wk:Nat
 A:Nat->CA
abbrev rJ (X:HX) (B:MB):List AB:=[ag (ae X.hb),ag (ae B.eb),ag (ae B.xb),.slice B.sc.1 B.sc.2.1 B.sc.2.2,.map (some B.kb),.slice B.sm.1 B.sm.2.1 B.sm.2.2]
def gX (B:MB) (s:MS) (l:List Nat):List (Nat×List AB):=l.flatMap λi=>match s.cs[i]? with
 |some x=>uL (B.A i) i x s.sz
 |none=>[]
abbrev yz (B:MB) (n:Nat):List (Option AR):=(Ab n).map λi=>some ⟨(B.A i).cb,0,none⟩
structure MWf (B:MB) (s:MS):Prop where
 c:dy eP B.sc (yz B s.cs.length) B.Lc
 m:dy eMk B.sm (s.ms.map mkT) B.Lm
 p:dy eI B.sp s.ep.pins B.Lp
 b:dy eC B.sb (dI B.cr) B.Lb
 o:dy eI B.so s.op B.Lo
 l:B.cr.length=s.bx.length
 k:iE B.ke B.kk (s.kn.map λf=>(f,.bool true))
 w:iE B.we B.wk (s.ep.ws.map FD)
 a: ∀{i x},s.cs[i]? =some x->Tg (B.A i) x
def vP (s:WD):Prop:=0<s.1.length/\0<s.2.length/\s.2.length<=4096/\okW s.1
abbrev FH (X:HX) (B:MB) (s:MS):List (Nat×List AB):=(B.mb,rJ X B)::(B.eb,oJ s.ep.now B.sp B.wb)::(B.xb,lU B.sb B.so)::(B.Lc++(B.Lm++(B.Lp++(B.Lb++B.Lo))))
abbrev mob (B:MB) (s:MS):List (Nat×B3):=(B.kb,.map ⟨B.ke⟩ B.kk)::(B.wb,.map ⟨B.we⟩ B.wk)::qP B.cr s.bx
abbrev FI (Q:Sys) (X:HX) (A:Nat->GA) (ca la:Int) (h:HS):List (Nat×List AB):=Q.L ca la h.s (dS Q X A h (a_ Q A h.g (Ab 17)))
def iC (Q:Sys) (X:HX) (D G:List Nat) (w0 w:A2) (B:MB) (s:MS) (T L:List (Nat×List AB)) (M:List (Nat×B3)):Prop:=
 ∃(A:Nat->GA) (ca la:Int),Dm A s.h/\vP s.h.s/\MWf B s/\cC D G w0 w (T++(FH X B s++(gX B s (Ab s.cs.length)++(FI Q X A ca la s.h++L)))) (mob B s++(dj A s.h.g (Ab 17)++M))
theorem b_ {α:Type} {c d:List α} (h: ∀[BEq α] [LawfulBEq α] (a:α),c.count a=d.count a):c.Perm d:=by
 letI:DecidableEq α:=λa b=>Classical.propDecidable (a=b)
 exact List.perm_iff_count.2 λa=>h a
section
variable {Q:Sys} {X:HX} {D G:List Nat} {w0 w w1:A2} {B:MB} {s:MS} {T L:List (Nat×List AB)} {M:List (Nat×B3)}
theorem iC.ext (H:iC Q X D G w0 w B s T L M) (h:Ext w w1):iC Q X D G w0 w1 B s T L M:=by
 obtain⟨A,ca,la,h1,a,b,c⟩:=H;exact⟨A,ca,la,h1,a,b,c.ext h⟩
theorem iC.wf (H:iC Q X D G w0 w B s T L M):MWf B s:=by
 obtain⟨A,ca,la,h1,b,a,c⟩:=H;exact a
theorem iC.all (H:iC Q X [] [] w0 w B s T L M):Ext w0 w:=by
 obtain⟨A,ca,la,h1,b,c,a⟩:=H;exact a.all
theorem iC.tmp (H:iC Q X D G w0 w B s T L M): ∃R a,cC D G w0 w (T++R) a/\(∀x∈FH X B s,x∈R)/\(∀x∈mob B s,x∈a)/\(∀{i x},s.cs[i]? =some x-> ∀y∈uL (B.A i) i x s.sz,y∈R)/\ ∀{T' w'},cC D G w0 w' (T'++R) a->iC Q X D G w0 w' B s T' L M:=by
 obtain⟨A,ca,la,h1,c,d,e⟩:=H;refine⟨_, _,e,λx b=>BN _ b,λx b=>BN _ b,λ{i x} hi y f=>B_ _ (BN _ ?_),λh=>⟨A,ca,la,h1,c,d,h⟩⟩;unfold gX;exact Ik.2 ⟨i,Ca.2 (B2.1 hi).1,by rw[hi];exact f⟩
theorem iC.al (H:iC Q X D G w0 w B s T L M) {cs:List AB} {e:TypeId} {K:Nat->A2->Prop} (k: ∀b w1,iC Q X D G w0 w1 B s ((b,cs)::T) L M->K b w1):aL w ⟨cs⟩ e K:=by
 obtain⟨R,a,H, _, _, _,J⟩:=H.tmp;exact alM H λb w1 H=>k b w1 (J H)
theorem iC.st (H:iC Q X D G w0 w B s T L M) (i:Nat) {b:Nat} {l vs:List AB} {K:A2->Prop} (a:T[i]? =some (b,l)) (c:vs.all (·.oneCell')=true) (d:vs.length=l.length) (k: ∀w1,iC Q X D G w0 w1 B s (T.set i (b,vs)) L M->K w1):az w (ae b) vs K:=by
 obtain⟨R,e,H, _, _, _,J⟩:=H.tmp;have hi:=(B2.1 a).1;refine stB H i (by rw[FV hi];exact a) c d λw1 H=>k w1 (J ?_);rw[List.set_append_left _ _ hi] at H;exact H
theorem iC.ld (H:iC Q X D G w0 w B s T L M) (i:Nat) {g:Option Bool} {el:El} {K:el.T->Prop} {b o:Nat} {l:List AB} {x:el.T} (a:T[i]? =some (b,l)) (hv:kH l o el=some x) (k:K x):aj w g (some ⟨b,o,none⟩) el K:=by
 obtain⟨R,c,H, _, _, _,J⟩:=H.tmp;exact aj.at i H.base (by rw[FV (B2.1 a).1];exact a) hv k
theorem iC.cm (H:iC Q X D G w0 w B s T L M) (i:Nat) {g:Option Bool} {el:El} {K:el.T->Prop} {b n:Nat} {l:List AB} {x:el.T} (a:T[i]? =some (b,l)) (hv:kH l n el=some x) (k:K x):aj w g (ad (ae b) n) el K:=by
 obtain⟨R,c,H, _, _, _,J⟩:=H.tmp;exact aj.k9 H.base (BN _ (DA a)) hv k
theorem iC.sv (H:iC Q X D G w0 w B s T L M) {n:Nat} {g:Option Bool} {el:El} {K:el.T->Prop} {x:el.T} (hv:kH (rJ X B) n el=some x) (k:K x):aj w g (ad (ae B.mb) n) el K:=by
 obtain⟨R,b,H,a, _, _,J⟩:=H.tmp;exact aj.k9 H.base (B_ _ (a _ B5)) hv k
theorem iC.X4 (H:iC Q X D G w0 w B s T L M) {i:Nat} {x:bZ} (a:s.cs[i]? =some x) {n:Nat} {g:Option Bool} {el:El} {K:el.T->Prop} {y:el.T} (hv:kH (kh (B.A i) i x) n el=some y) (k:K y):aj w g (ad (some ⟨(B.A i).cb,0,none⟩) n) el K:=by
 obtain⟨R,b,H, _, _,hc,J⟩:=H.tmp;exact aj.k9 H.base (B_ _ (hc a _ B5)) hv k
theorem iC.sub (H:iC Q X D G w0 w B s T L M) {T':List (Nat×List AB)} (h:T'.Sublist T):iC Q X D G w0 w B s T' L M:=by
 obtain⟨R,a,H, _, _, _,J⟩:=H.tmp;exact J (H.sub (h.append_right _))
def Da (B:MB) (i:Nat) (a:CA):MB:={B with A:=λj=>if j=i then a else B.A j}
theorem mV (B:MB) (i:Nat) (a:CA):(Da B i a).A i=a:=ax rfl
theorem zQ {B:MB} {s s':MS} {i:Nat} {a:CA} (c:s'.sz=s.sz) (hc: ∀j,j≠i->s'.cs[j]? =s.cs[j]?):gX (Da B i a) s' ((Ab s.cs.length).erase i)=gX B s ((Ab s.cs.length).erase i):=by
 unfold gX;refine gy λj d=>?_;have b:j≠i:=λe=>by subst e;exact(M4.not_mem_erase) d
 rw[hc j b,c];cases s.cs[j]? with
 |none=>rfl
 |some x=>show uL ((Da B i a).A j) j x s.sz= _;rw[show(Da B i a).A j=B.A j from ao b]
theorem lH {B:MB} {s:MS} {i:Nat} {x:bZ} (a:s.cs[i]? =some x):(gX B s (Ab s.cs.length)).Perm (uL (B.A i) i x s.sz++gX B s ((Ab s.cs.length).erase i)):=by
 unfold gX;refine(List.Perm.flatMap_right _ (List.perm_cons_erase (Ca.2 (B2.1 a).1))).trans ?_;rw[List.flatMap_cons,a]
theorem MWf.up (W:MWf B s) {i:Nat} {x x':bZ} (f:s.cs[i]? =some x) {a:CA} (g:a.cb=(B.A i).cb) (h:Tg a x'):MWf (Da B i a) (cD s i x'):=by
 have n:yz (Da B i a) s.cs.length=yz B s.cs.length:=by
  refine M5 λj _=>?_;by_cases e:j=i
  ·subst e;rw[mV,g]
  ·rw[show(Da B i a).A j=B.A j from ao e]
 refine⟨?_,W.m,W.p,W.b,W.o,W.l,W.k,W.w,λ{j y} d=>?_⟩
 ·show dy eP B.sc (yz (Da B i a) (s.cs.set i x').length) B.Lc;rw[DJ,n];exact W.c
 ·by_cases e:j=i
  ·subst e;rw[mV];have:(s.cs.set j x')[j]? =some y:=d;rw[Dc (B2.1 f).1] at this;cases this;exact h
  ·have:(s.cs.set i x')[j]? =some y:=d;rw[E4 (λc=>e c.symm)] at this;rw[show(Da B i a).A j=B.A j from ao e];exact W.a this
theorem iC.Dp (H:iC Q X D G w0 w B s T L M) {i:Nat} {x:bZ} (b:s.cs[i]? =some x): ∃R d,cC D G w0 w (uL (B.A i) i x s.sz++(T++R)) d/\
 ∀{T' a x' w'},a.cb=(B.A i).cb->Tg a x'->cC D G w0 w' (uL a i x' s.sz++(T'++R)) d->iC Q X D G w0 w' (Da B i a) (cD s i x') T' L M:=by
 obtain⟨A,ca,la,h1,f,g,k⟩:=H;refine⟨FH X B s++(gX B s ((Ab s.cs.length).erase i)++(FI Q X A ca la s.h++L)), _,k.perm ?_,λ{T' a x' w'} l m n=>⟨A,ca,la,h1,f,g.up b l m,n.perm ?_⟩⟩
 ·have:=lH (B:=B) b;refine J8 ?_ (DM T (DM _ (Fy _ this.symm)));exact b_ λa=>by simp only[Ax,Az];omega
 ·have o:(cD s i x').cs[i]? =some x':=Dc (B2.1 b).1;have e:(cD s i x').cs.length=s.cs.length:=DJ ..;have:=lH (B:=Da B i a) o;rw[mV,e,zQ (s:=s) (s':=cD s i x') rfl λj p=>(show(s.cs.set i x')[j]? =s.cs[j]? from E4 (λc=>p c.symm))] at this;rw[e];refine(DM T' (DM _ (Fy _ this))).trans ?_;show(T'++(FH X B s++(uL a i x' s.sz++gX B s ((Ab s.cs.length).erase i)++(FI Q X A ca la s.h++L)))).Perm _;exact b_ λa=>by simp only[Ax,Az];omega
end
section
variable {Q:Sys} {X:HX} {D G:List Nat} {w0 w:A2} {B:MB} {s:MS} {T L:List (Nat×List AB)} {M:List (Nat×B3)}
theorem jk.vP {h:HS} {L:List (Nat×List AB)} (H:jk Q X D G w0 w h L):vP h.s:=by
 obtain⟨A,W,S⟩:=H;exact⟨S.pos,S.F1,S.le,S.okw⟩
theorem iC.hv (H:iC Q X D G w0 w B s T L M): ∃i L',jk Q X [] i w w s.h L'/\ ∀{e h'},jk Q X [] i w e h' L'->iC Q X D G w0 e B {s with h:=h'} T L M:=by
 obtain⟨A,ca,la,h1,f,d,n⟩:=H;have j:cC D G w0 w (Q.L ca la s.h.s (dS Q X A s.h (a_ Q A s.h.g (Ab 17)++(T++(FH X B s++(gX B s (Ab s.cs.length)++L)))))) (dj A s.h.g (Ab 17)++(mob B s++M)):=
  (n.perm (b_ λa=>by simp only[Sys.L,Ax,Az];omega)).lr (b_ λa=>by simp only[Ax,Az];omega)
 refine⟨_, _,⟨A,h1,f.1,f.2.1,f.2.2.1,f.2.2.2,ca,la,cC.Pe j⟩,λ{e h'} K=>?_⟩;have q:=jk.vP K;obtain⟨A',r, _, _, _, _,qO,C_,K⟩:=K;have K:=cC.W6 j K;refine⟨A',qO,C_,r,q,⟨d.c,d.m,d.p,d.b,d.o,d.l,d.k,d.w,d.a⟩,?_⟩;show cC D G w0 e (T++(FH X B s++(gX B s (Ab s.cs.length)++(FI Q X A' qO C_ h'++L)))) (mob B s++(dj A' h'.g (Ab 17)++M));exact(K.perm (b_ λa=>by
  simp only[Sys.L,Ax,Az];omega)).lr (b_ λa=>by simp only[Ax,Az];omega)
theorem iC.sat (H:iC Q X D G w0 w B s T L M): ∃A n L0,bq Q [] n w w s.h.s L0/\(X.hb,fg Q X A s.h.g)∈L0/\(∀i v,s.h.g i=some v-> ∀x∈gP Q A i v,x∈L0)/\(∀x∈T,x∈L0)/\(∀x∈FH X B s,x∈L0)/\(∀{i x},s.cs[i]? =some x-> ∀y∈uL (B.A i) i x s.sz,y∈L0)/\
 ∀{T' j s'},bq Q [] n w j s' (T'++L0)->iC Q X D G w0 j B {s with h:=bF s.h s'} (T'++T) L M:=by
 obtain⟨A,ca,la,h1,f,d,r⟩:=H;have q:cC D G w0 w (Q.L ca la s.h.s (dS Q X A s.h (a_ Q A s.h.g (Ab 17)++(T++(FH X B s++(gX B s (Ab s.cs.length)++L)))))) ([]++(mob B s++(dj A s.h.g (Ab 17)++M))):=
  r.perm (b_ λa=>by simp only[Sys.L,Ax,Az];omega)
 refine⟨A, _, _,⟨f.1,f.2.1,f.2.2.1,f.2.2.2,ca,la,(cC.Pe q).base⟩,B5,λi v hv x e=>?_,λx e=>?_,λx e=>?_,λ{i x} hi y t=>?_,λ{T' j s'} K=>?_⟩
 ·refine B1 _ (B1 _ (B1 _ (B1 _ (BN _ (Bt (Ca.2 ?_) hv x e)))));have:=h1.jj hv;omega
 ·exact B1 _ (B1 _ (B1 _ (B1 _ (B_ _ (BN _ e)))))
 ·exact B1 _ (B1 _ (B1 _ (B1 _ (B_ _ (B_ _ (BN _ e))))))
 ·refine B1 _ (B1 _ (B1 _ (B1 _ (B_ _ (B_ _ (B_ _ (BN _ ?_)))))));unfold gX;exact Ik.2 ⟨i,Ca.2 (B2.1 hi).1,by rw[hi];exact t⟩
 ·obtain⟨u,z,C,k4,qO,C_,K⟩:=K;have K:=cC.W6 q (M1':=[]) (cC.of K);refine⟨A,qO,C_,⟨h1.jj,h1.mp,h1.gl,h1.pt,h1.gk⟩,⟨u,z,C,k4⟩,⟨d.c,d.m,d.p,d.b,d.o,d.l,d.k,d.w,d.a⟩,?_⟩;exact K.perm (b_ λa=>by
   show BT a (T'++T++(FH X B s++(gX B s (Ab s.cs.length)++(Q.L qO C_ s' (dS Q X A s.h (a_ Q A s.h.g (Ab 17)))++L))))= _;simp only[Sys.L,Ax,Az];omega)
theorem iC.pY (H:iC Q X D G w0 w B s T L M): ∃R e,cC D G w0 w ((B.mb,rJ X B)::(B.Lm++(T++R))) e/\
 ∀{T' sm Lm ms w'},dy eMk sm (ms.map mkT) Lm->cC D G w0 w' ((B.mb,rJ X {B with sm:=sm,Lm:=Lm})::(Lm++(T'++R))) e->iC Q X D G w0 w' {B with sm:=sm,Lm:=Lm} {s with ms:=ms} T' L M:=by
 obtain⟨A,ca,la,h1,f,d,g⟩:=H;refine⟨(B.eb,oJ s.ep.now B.sp B.wb)::(B.xb,lU B.sb B.so)::(B.Lc++(B.Lp++(B.Lb++(B.Lo++(gX B s (Ab s.cs.length)++(FI Q X A ca la s.h++L)))))), _,g.perm (b_ λa=>by simp only[Ax,Az];omega),λ{T' sm Lm ms w'} i K=>?_⟩;refine⟨A,ca,la,h1,f,⟨d.c,i,d.p,d.b,d.o,d.l,d.k,d.w,d.a⟩,K.perm (b_ λa=>?_)⟩;show BT a (T'++(FH X {B with sm:=sm,Lm:=Lm} s++(gX B s (Ab s.cs.length)++(FI Q X A ca la s.h++L))))= _;simp only[Ax,Az];omega
theorem iC.eps (H:iC Q X D G w0 w B s T L M): ∃R e,cC D G w0 w ((B.eb,oJ s.ep.now B.sp B.wb)::(B.Lp++(T++R))) ((B.wb,.map ⟨B.we⟩ B.wk)::e)/\
 ∀{T' sp Lp ep we wk w'},dy eI sp ep.pins Lp->iE we wk (ep.ws.map FD)->cC D G w0 w' ((B.eb,oJ ep.now sp B.wb)::(Lp++(T'++R))) ((B.wb,.map ⟨we⟩ wk)::e)->iC Q X D G w0 w' {B with sp:=sp,Lp:=Lp,we:=we,wk:=wk} {s with ep:=ep} T' L M:=by
 obtain⟨A,ca,la,h1,f,d,i⟩:=H;refine⟨(B.mb,rJ X B)::(B.xb,lU B.sb B.so)::(B.Lc++(B.Lm++(B.Lb++(B.Lo++(gX B s (Ab s.cs.length)++(FI Q X A ca la s.h++L)))))),(B.kb,.map ⟨B.ke⟩ B.kk)::(qP B.cr s.bx++(dj A s.h.g (Ab 17)++M)),(i.perm (b_ λa=>by simp only[Ax,Az];omega)).lr (b_ λa=>by simp only[Ax,Az];omega),λ{T' sp Lp ep we wk w'} j n K=>?_⟩;refine⟨A,ca,la,h1,f,⟨d.c,d.m,j,d.b,d.o,d.l,d.k,n,d.a⟩,(K.perm (b_ λa=>?_)).lr (b_ λa=>?_)⟩
 ·show BT a (T'++(((B.mb,rJ X B)::(B.eb,oJ ep.now sp B.wb)::(B.xb,lU B.sb B.so)::(B.Lc++(B.Lm++(Lp++(B.Lb++B.Lo)))))++(gX B s (Ab s.cs.length)++(FI Q X A ca la s.h++L))))= _;simp only[Ax,Az];omega
 ·show BT a (((B.kb,Obj.map ⟨B.ke⟩ B.kk)::(B.wb,Obj.map ⟨we⟩ wk)::qP B.cr s.bx)++(dj A s.h.g (Ab 17)++M))= _;simp only[Ax,Az];omega
theorem iC.kns (H:iC Q X D G w0 w B s T L M): ∃R e,cC D G w0 w (T++R) ((B.kb,.map ⟨B.ke⟩ B.kk)::e)/\
 ∀{T' kn ke kk w'},iE ke kk (kn.map λf=>(f,.bool true))->cC D G w0 w' (T'++R) ((B.kb,.map ⟨ke⟩ kk)::e)->iC Q X D G w0 w' {B with ke:=ke,kk:=kk} {s with kn:=kn} T' L M:=by
 obtain⟨A,ca,la,h1,i,d,j⟩:=H;refine⟨_,(B.wb,.map ⟨B.we⟩ B.wk)::(qP B.cr s.bx++(dj A s.h.g (Ab 17)++M)),j,λ{T' kn ke kk w'} k K=>?_⟩;exact⟨A,ca,la,h1,i,⟨d.c,d.m,d.p,d.b,d.o,d.l,k,d.w,d.a⟩,K⟩
theorem iC.bxs (H:iC Q X D G w0 w B s T L M): ∃R e,cC D G w0 w ((B.xb,lU B.sb B.so)::(B.Lb++(B.Lo++(T++R)))) (qP B.cr s.bx++e)/\
 ∀{T' so Lo op cr bx w'},dy eI so op Lo->cr.length=bx.length->dI cr=dI B.cr->cC D G w0 w' ((B.xb,lU B.sb so)::(B.Lb++(Lo++(T'++R)))) (qP cr bx++e)->iC Q X D G w0 w' {B with so:=so,Lo:=Lo,cr:=cr} {s with op:=op,bx:=bx} T' L M:=by
 obtain⟨A,ca,la,h1,f,d,i⟩:=H;refine⟨(B.mb,rJ X B)::(B.eb,oJ s.ep.now B.sp B.wb)::(B.Lc++(B.Lm++(B.Lp++(gX B s (Ab s.cs.length)++(FI Q X A ca la s.h++L))))),(B.kb,.map ⟨B.ke⟩ B.kk)::(B.wb,.map ⟨B.we⟩ B.wk)::(dj A s.h.g (Ab 17)++M),(i.perm (b_ λa=>by simp only[Ax,Az];omega)).lr (b_ λa=>by simp only[Ax,Az];omega),λ{T' so Lo op cr bx w'} j l hc K=>?_⟩;refine⟨A,ca,la,h1,f,⟨d.c,d.m,d.p,?_,j,l,d.k,d.w,d.a⟩,(K.perm (b_ λa=>?_)).lr (b_ λa=>?_)⟩
 ·show dy eC B.sb (dI cr) B.Lb;rw[hc];exact d.b
 ·show BT a (T'++(((B.mb,rJ X B)::(B.eb,oJ s.ep.now B.sp B.wb)::(B.xb,lU B.sb so)::(B.Lc++(B.Lm++(B.Lp++(B.Lb++Lo)))))++(gX B s (Ab s.cs.length)++(FI Q X A ca la s.h++L))))= _;simp only[Ax,Az];omega
 ·show BT a (((B.kb,Obj.map ⟨B.ke⟩ B.kk)::(B.wb,Obj.map ⟨B.we⟩ B.wk)::qP cr bx)++(dj A s.h.g (Ab 17)++M))= _;simp only[Ax,Az];omega
end
section
variable {Q:Sys} {X:HX} {D G:List Nat} {w0 w:A2} {B:MB} {s:MS} {T L:List (Nat×List AB)} {M:List (Nat×B3)}
theorem abC (H:iC Q X D G w0 w B s T L M) (n:Int):af AC 64 [ag (ae B.mb),aa n] w (ag (if 0<=n/\n<(s.cs.length:Int) then some ⟨(B.A n.toNat).cb,0,none⟩ else none)):=by
 refine af.of (s:= .el (.one .ptr)) λw' h'=>ai (C:=U2) (aS:=λ_=>[]) (B4 (ZI _ _ w' _) ?_);have H:=H.ext h';have W:=H.wf;have a:B.sc.2.1=s.cs.length:=by rw[W.c.1,DY,FW]
 refine⟨λ_=>rfl,λ_=>rfl,H.sv (show _=some (B.sc.1,B.sc.2.1,B.sc.2.2) from rfl) ?_⟩;dsimp only;rw[a];by_cases c:0<=n/\n<(s.cs.length:Int)
 ·rw[ax c];obtain⟨R,f,K,d, _, _, _⟩:=H.tmp;have b:=W.c.sl K.base (λy e=>B_ _ (d _ (B1 _ (B1 _ (B1 _ (BN _ e)))))) n.toNat (some ⟨(B.A n.toNat).cb,0,none⟩) (by rw[N2,N4 (by omega)];rfl);refine an ?_ ⟨rfl,rfl,H.sv (show _=some (B.sc.1,B.sc.2.1,B.sc.2.2) from rfl) ⟨⟨b.1,c.1,by dsimp only;rw[a];exact c.2⟩,aj.of _ b.2 λw1 h1=>⟨rfl,h1⟩⟩⟩;simp only[Option.isNone_some,JJ,NY,decide_eq_false_iff_not];omega
 ·rw[ao c];refine aD ?_ λw1 h1=>⟨rfl,h1⟩;simp only[Option.isNone_some,JJ,H6,decide_eq_true_eq];omega
theorem acw {a:Int} (h:cL a):aG .i64 (wT .u64 a 16)=a / 16:=by
 unfold cL at h;have e:wT .u64 a 16=a / 16:=by
  show aG .u64 (a.tdiv 16)= _;rw[Int.tdiv_eq_ediv_of_nonneg h.1];exact eJ (by omega)
 rw[e];exact bM (by omega)
theorem V5 (H:iC Q X D G w0 w B s T L M) {i:Nat} {x:bZ} (a:s.cs[i]? =some x) (b:cL x.c.2.1):af AC 160 [ag (some ⟨(B.A i).cb,0,none⟩)] w (aa (x.c.2.1 / 16)):=by
 refine af.of (s:= .el (.one (.int .i64))) λw' h'=>ai (C:=U2) (aS:=λ_=>[]) (B4 (R5 _ w' _) ?_);refine⟨rfl,rfl,rfl,(H.ext h').X4 a (n:=5) (show _=some x.c.2.1 from rfl) λw1 h1=>⟨acw b,h1⟩⟩
end
structure MR where
 mb:Nat
 eb:Nat
 xb:Nat
 kb:Nat
 wb:Nat
 cb:Nat->Nat
 tb:Nat->Nat
abbrev MB.rt (B:MB):MR:=⟨B.mb,B.eb,B.xb,B.kb,B.wb,λi=>(B.A i).cb,λi=>(B.A i).tb⟩
theorem Xd {B:MB} {i:Nat} {a:CA} (h1:a.cb=(B.A i).cb) (d:a.tb=(B.A i).tb):(Da B i a).rt=B.rt:=by
 have b:(λj=>((Da _ i a).A j).cb)=λj=>(B.A j).cb:=funext λj=>by
  by_cases e:j=i
  ·subst e;rw[mV];grind
  ·rw[show(Da _ i a).A j=B.A j from ao e]
 have c:(λj=>((Da _ i a).A j).tb)=λj=>(B.A j).tb:=funext λj=>by
  by_cases e:j=i
  ·subst e;rw[mV];grind
  ·rw[show(Da _ i a).A j=B.A j from ao e]
 show MR.mk _ _ _ _ _ _ _=MR.mk _ _ _ _ _ _ _;rw[b,c];rfl
def MU (Q:Sys) (X:HX) (D G:List Nat) (w0 w:A2) (R:MR) (s:MS) (T L:List (Nat×List AB)) (M:List (Nat×B3)):Prop:= ∃B:MB,B.rt=R/\iC Q X D G w0 w B s T L M
theorem e_ {s:MS} {i:Nat} {x y:bZ} (a:s.cs[i]? =some x):(cD s i y).cs[i]? =some y:=Dc (B2.1 a).1
theorem kW (s:MS) (i:Nat) (x y:bZ):cD (cD s i x) i y=cD s i y:=by unfold cD;simp_all
section
variable {Q:Sys} {X:HX} {D G:List Nat} {w0 w w1:A2} {R:MR} {s:MS} {T L:List (Nat×List AB)} {M:List (Nat×B3)} {i:Nat} {x:bZ} {g:Option Bool}
theorem MU.ext (H:MU Q X D G w0 w R s T L M) (h:Ext w w1):MU Q X D G w0 w1 R s T L M:=by
 obtain⟨B,e,H⟩:=H;exact⟨B,e,H.ext h⟩
theorem MU.all (H:MU Q X [] [] w0 w R s T L M):Ext w0 w:=by
 obtain⟨B,e,H⟩:=H;exact H.all
theorem MU.en (H:MU Q X D G w0 w R s T L M) {K:A2->Prop} (k: ∀w1,MU Q X D G w0 w1 R s T L M->K w1):au w K:=λ_ h=>k _ (H.ext h)
theorem MU.go (H:MU Q X D G w0 w R s T L M) {P:Program} {f:FuncId} {sh:Sh} {args:List AB} {K:sh.T->A2->Prop} (k: ∀w1,MU Q X D G w0 w1 R s T L M->aE P f sh args w1 K):aB P f sh args w K:=λ_ h=>k _ (H.ext h)
theorem MU.al (H:MU Q X D G w0 w R s T L M) {cs:List AB} {e:TypeId} {K:Nat->A2->Prop} (k: ∀b w1,MU Q X D G w0 w1 R s ((b,cs)::T) L M->K b w1):aL w ⟨cs⟩ e K:=by
 obtain⟨B,e,H⟩:=H;exact H.al λb w1 H=>k b w1 ⟨B,e,H⟩
theorem MU.st (H:MU Q X D G w0 w R s T L M) (i:Nat) {b:Nat} {l vs:List AB} {K:A2->Prop} (a:T[i]? =some (b,l)) (c:vs.all (·.oneCell')=true) (d:vs.length=l.length) (k: ∀w1,MU Q X D G w0 w1 R s (T.set i (b,vs)) L M->K w1):az w (ae b) vs K:=by
 obtain⟨B,e,H⟩:=H;exact H.st i a c d λw1 H=>k w1 ⟨B,e,H⟩
theorem MU.ld (H:MU Q X D G w0 w R s T L M) (i:Nat) {el:El} {K:el.T->Prop} {b o:Nat} {l:List AB} {x:el.T} (a:T[i]? =some (b,l)) (hv:kH l o el=some x) (k:K x):aj w g (some ⟨b,o,none⟩) el K:=by
 obtain⟨B,e,H⟩:=H;exact H.ld i a hv k
theorem MU.cm (H:MU Q X D G w0 w R s T L M) (i:Nat) {el:El} {K:el.T->Prop} {b n:Nat} {l:List AB} {x:el.T} (a:T[i]? =some (b,l)) (hv:kH l n el=some x) (k:K x):aj w g (ad (ae b) n) el K:=by
 obtain⟨B,e,H⟩:=H;exact H.cm i a hv k
theorem MU.sub (H:MU Q X D G w0 w R s T L M) {T':List (Nat×List AB)} (h:T'.Sublist T):MU Q X D G w0 w R s T' L M:=by
 obtain⟨B,e,H⟩:=H;exact⟨B,e,H.sub h⟩
theorem MU.f0 (H:MU Q X D G w0 w R s T L M) {K:Option AR->Prop} (k:K (ae X.hb)):aj w g (ad (ae R.mb) 0) (.one .ptr) K:=by
 obtain⟨B,rfl,H⟩:=H;exact H.sv rfl k
theorem MU.f1 (H:MU Q X D G w0 w R s T L M) {K:Option AR->Prop} (k:K (ae R.eb)):aj w g (ad (ae R.mb) 1) (.one .ptr) K:=by
 obtain⟨B,rfl,H⟩:=H;exact H.sv rfl k
theorem MU.f2 (H:MU Q X D G w0 w R s T L M) {K:Option AR->Prop} (k:K (ae R.xb)):aj w g (ad (ae R.mb) 2) (.one .ptr) K:=by
 obtain⟨B,rfl,H⟩:=H;exact H.sv rfl k
theorem MU.f4 (H:MU Q X D G w0 w R s T L M) {K:Option Nat->Prop} (k:K (some R.kb)):aj w g (ad (ae R.mb) 4) (.one .map) K:=by
 obtain⟨B,rfl,H⟩:=H;exact H.sv rfl k
theorem MU.cf (H:MU Q X D G w0 w R s T L M) (b:s.cs[i]? =some x) {n:Nat} {el:El} {K:el.T->Prop} {y:el.T} (hv: ∀a:CA,kH (kh a i x) n el=some y) (k:K y):aj w g (ad (some ⟨R.cb i,0,none⟩) n) el K:=by
 obtain⟨B,rfl,H⟩:=H;exact H.X4 b (hv _) k
theorem MU.c1 (H:MU Q X D G w0 w R s T L M) (a:s.cs[i]? =some x) {K:Option AR->Prop} (k:K (some ⟨R.tb i,0,none⟩)):aj w g (ad (some ⟨R.cb i,0,none⟩) 1) (.one .ptr) K:=by
 obtain⟨B,rfl,H⟩:=H;exact H.X4 a rfl k
theorem MU.Dp (H:MU Q X D G w0 w R s T L M) (d:s.cs[i]? =some x): ∃(a:CA) (b:List (Nat×List AB)) (c:List (Nat×B3)),a.cb=R.cb i/\a.tb=R.tb i/\Tg a x/\cC D G w0 w (uL a i x s.sz++(T++b)) c/\
 ∀{T':List (Nat×List AB)} {a':CA} {x':bZ} {w':A2},a'.cb=a.cb->a'.tb=a.tb->Tg a' x'->cC D G w0 w' (uL a' i x' s.sz++(T'++b)) c->MU Q X D G w0 w' R (cD s i x') T' L M:=by
 obtain⟨B,rfl,H⟩:=H;obtain⟨b,c,K,J⟩:=H.Dp d;exact⟨B.A i,b,c,rfl,rfl,H.wf.a d,K,λh1 e f g=>⟨_,Xd h1 e,J h1 f g⟩⟩
theorem MU.cs (H:MU Q X D G w0 w R s T L M) (c:s.cs[i]? =some x) (x':bZ) (n:Nat) {vs:List AB} (d:vs.all (·.oneCell')=true) (e:Nat.ble (n+vs.length) 14=true) (f: ∀a:CA,(kh a i x).take n++(vs++(kh a i x).drop (n+vs.length))=kh a i x') (g: ∀a,Tg a x->Tg a x') {K:A2->Prop}
 (k: ∀w1,MU Q X D G w0 w1 R (cD s i x') T L M->K w1):az w (ad (some ⟨R.cb i,0,none⟩) n) vs K:=by
 obtain⟨a,m,o,h,hb,W,b,J⟩:=H.Dp c;rw[<-h,aX,Nat.zero_add];refine λw1 h1=>az.at 0 (b.ext h1).base.again rfl d (Nat.le_of_ble_eq_true e) (λj l=>k j (J rfl rfl (g a W) ?_)) w1 (Ext.refl w1);have K:=(b.ext h1).join l;rw[f] at K;exact K
theorem Xe (H:MU Q X D G w0 w R s T L M) (n:Int):af AC 64 [ag (ae R.mb),aa n] w (ag (if 0<=n/\n<(s.cs.length:Int) then some ⟨R.cb n.toNat,0,none⟩ else none)):=by
 obtain⟨B,rfl,H⟩:=H;exact abC H n
theorem JF (H:MU Q X D G w0 w R s T L M) (a:s.cs[i]? =some x) (b:cL x.c.2.1):af AC 160 [ag (some ⟨R.cb i,0,none⟩)] w (aa (x.c.2.1 / 16)):=by
 obtain⟨B,rfl,H⟩:=H;exact V5 H a b
theorem vl {w:A2} {r:Nat} {es:Array Db} {ck i:Nat} {g:Int} {z v u:AB} (m:bH w r es ck) (h:If (.int .i64) (aa g) es.toList 0=some (some (i,u))) (e:v=u):jT w (some r) .i64 g z v:=⟨r,by grind⟩
theorem BJ {w:A2} {r:Nat} {es:Array Db} {ck:Nat} {g:Int} {z v:AB} (m:bH w r es ck) (h:If (.int .i64) (aa g) es.toList 0=some none) (e:v=z):jT w (some r) .i64 g z v:=⟨r,by grind⟩
theorem JG (H:MU Q X D G w0 w R s T L M) (k:s.cs[i]? =some x):af AC 199 [ag (some ⟨R.cb i,0,none⟩)] w (aa (bh x.c.1)):=by
 refine af.of λw1 h1=>ai (C:=U2) (B4 (R6 _ w1 _) λl b q d=>?_);have H0:=(((At.start [] w1).ext b).rL _).ext d;have e:=b.size;have m0:=d.obj (fw l _);refine u0 H0 e (by simp) m0 rfl λr m o u f=>?_;refine u0 (m.ext f) e (by simp) (f.obj o) rfl λy h a=>?_;have hv:=(iE.nil.push (g:=6) (aa 1) (λt j=>(by cases j))).push (g:=7) (aa 2) (by grind);have H:=H.ext (h1.trans (Ext.trans (h.ext (Ext.refl _)).all (Ext.refl _)));refine⟨rfl,rfl,rfl,H.cf k (n:=4) (λ_=>rfl) ⟨bh x.c.1,?_,λz p=>⟨rfl,(h.ext p).all⟩⟩⟩;unfold bh;by_cases c6:x.c.1=6
 ·rw[ax c6,c6];obtain⟨i,hi, _⟩:=hv.BS (g:=6) (v:=aa 1) (by simp);exact vl a hi rfl
 ·rw[ao c6];by_cases c7:x.c.1=7
  ·rw[ax c7,c7];obtain⟨i,hi, _⟩:=hv.BS (g:=7) (v:=aa 2) (by simp);exact vl a hi rfl
  ·rw[ao c7];refine BJ a (hv.NW λt j=>?_) rfl
   grind
theorem tM (H:MU Q X D G w0 w R s T L M) (p:s.ms.length<=1000000000) (m:MT) {K:Unit->A2->Prop}
 (k: ∀a,MU Q X D G w0 a R {s with ms:=s.ms++[m]} T L M->K () a):
 aB AC 155 (.bG []) [ag (ae R.mb),.agg ⟨[aa m.1,aa m.2.1,aa m.2.2.1,aa m.2.2.2.1.1,ay m.2.2.2.1.2.1,ay m.2.2.2.1.2.2.1,ay m.2.2.2.1.2.2.2.1,ay m.2.2.2.2.1,aa m.2.2.2.2.2]⟩] w K:=by
 obtain⟨B,rfl,H⟩:=H;refine λw1 h1=>ai (C:=U2) (aS:=λ_=>[]) (B4 (R7 _ _ _ _ _ _ _ _ _ _ w1 K) ?_);refine(H.ext h1).al λb a H=>⟨rfl,rfl,H.sv (rfl) (H.ld 0 rfl (show _=some (mkT m) from rfl) (H.al λd q H e f=>?_))⟩;have H:=H.ext f;obtain⟨r,t,g,J⟩:=H.pY;have c:=g.perm Gd;have hb:bN e d (cellsOf eMk (mkT m)):=c.base.cZ _ (B_ _ (B1 _ B5));refine Fz c H.wf.m rfl (ys:=[mkT m]) rfl (rN hb) rfl rfl (by grind) λs' h u i j=>⟨rfl,rfl,Wv (j.perm Gd.symm) 0 rfl rfl rfl λv l=>enM l λn o=>k n ⟨{B with sm:=s',Lm:=h},rfl,iC.sub (J (ms:=s.ms++[m]) (by rw[Gi];exact i) o) ?_⟩⟩;simp
theorem zR (H:MU Q X D G w0 w R s T L M) (q:s.cs[i]? =some x) (F:(x.ls.length:Int)<=64) (I:0<s.sz) (t g:Int) {K:Unit->A2->Prop}
 (k: ∀b,MU Q X D G w0 b R (cD s i {x with ls:=jq x.ls t g}) T L M->K () b):
 aB AC 67 (.bG []) [ag (some ⟨R.cb i,0,none⟩),aa t,aa g] w K:=by
 refine H.go λw1 H=>ai (C:=U2) (aS:=λ_=>[]) (B4 (HG _ _ _ w1 K) ?_);have fin: ∀{b:A2} {a:CA} {j:List (Nat×List AB)} {l:List (Nat×B3)} (o:List LT),Tg a x->a.tb=R.tb i->cC D G w0 b (uL a i x s.sz++(T++j)) l-> ∃p,cC D G w0 b ((R.tb i,dz a.st s.sz)::(a.Lt++p)) l/\ ∀{r:A2} {s'} {d:List (Nat×List AB)},dy lN s' o d->aK [] (((R.tb i,dz a.st s.sz)::(a.Lt++p)).map (·.1)) b r ((R.tb i,dz s' s.sz)::(d++p))-> ∃a':CA,a'.cb=a.cb/\a'.tb=a.tb/\Tg a' {x with ls:=o}/\cC D G w0 r (uL a' i {x with ls:=o} s.sz++(T++j)) l:=by
  intro b a j l o W N u;rw[<-N];have m:cC D G w0 b ((a.tb,dz a.st s.sz)::(a.Lt++((a.cb,kh a i x)::(a.Lf++(a.Lw++(T++j)))))) l:=u.perm (b_ λy=>by simp only[uL,Ax,Az];omega);refine⟨_,m,λ{r s' d} h n=>⟨{a with st:=s',Lt:=d},rfl,rfl,⟨h,W.fs,W.wk⟩,(m.join n).perm (b_ λy=>by
   show BT y ((a.cb,kh a i x)::(a.tb,dz s' s.sz)::(d++(a.Lf++a.Lw))++(T++j))= _
   grind)⟩⟩
 obtain⟨a,j,l,O,hb,W,u,J⟩:=H.Dp q;obtain⟨p,m,f⟩:=fin (jq x.ls t g) W hb u;refine ab (λc=>⟨rfl,rfl,H.c1 q ?_⟩) (λc=>⟨rfl,rfl,H.c1 q ?_⟩)
 ·have e:g= -1:=by simpa using c
  refine GW m.base.again W.ls F I t λv s' d b h n=>?_;have h:dy lN s' (jq x.ls t g) d:=by unfold jq;rw[ax e];exact h
  obtain⟨a',h1,z,A,B⟩:=f h n;exact(J h1 z A B).en λE H=>k E H
 ·have e:g≠ -1:=by simpa using c
  refine A4 m.base.again W.ls F I t g λs' d b h n=>?_;have h:dy lN s' (jq x.ls t g) d:=by unfold jq;rw[ao e];exact h
  obtain⟨a',h1,z,A,B⟩:=f h n;exact(J h1 z A B).en λE H=>k E H
theorem MP (H:MU Q X D G w0 w R s T L M) (a:s.cs[i]? =some x):af AC 152 [ag (ae R.mb),ag (some ⟨R.cb i,0,none⟩)] w (.bool (mg s.h x)):=by
 refine af.of (s:= .el (.one .bool)) λw1 h1=>ai (C:=U2) (aS:=λ_=>[]) (B4 (HJ _ _ w1 _) ?_);have H:=H.ext h1;have b:af AC 19 [ag (ae X.hb),aa x.vm] w1 (.bool (aW s.h.g x.vm)):=by
  obtain⟨B,e,d⟩:=H;obtain⟨A,k,L0,S,f, _⟩:=d.sat;exact nV S f x.vm
 refine⟨_,JG H a,λ_=>rfl,λ_=>rfl,H.f0 ⟨λ_=>rfl,λ_=>rfl,H.cf a (n:=3) (λ_=>rfl) ⟨_,λ_=>b,λ_=>rfl,λ_=>rfl,H.cf a (n:=4) (y:=x.c) (λ_=>rfl) ⟨_,λ_=>Em _ _ _ _,λ_=>rfl,λ_=>rfl,λ_=>rfl,H.cf a (n:=5) (λ_=>rfl) λl j=>⟨?_,j⟩⟩⟩⟩⟩;unfold mg;simp only[H7]
end
theorem wJ (x:Int): ∀l:List Int,l.Pairwise (λa b=>b<=a)->(jA x l).Pairwise (λa b=>b<=a)
 |[], _=>by simp[jA]
 |y::l,h=>by
  rw[jA];obtain⟨h1,e⟩:=In.1 h;split
  ·rename_i c;refine In.2 ⟨λz d=>?_,wJ x l e⟩;rcases FS.1 ((ve x l).mem_iff.1 d) with rfl|d
   ·omega
   ·exact h1 z d
  ·rename_i c;refine In.2 ⟨λz d=>?_,h⟩;rcases FS.1 d with rfl|d
   ·omega
   ·have:=h1 z d;omega
theorem uu: ∀(l a:List Int),a.Pairwise (λa b=>b<=a)->(l.foldl (λa x=>jA x a) a).Pairwise (λa b=>b<=a)
 |[], _,h=>h
 |x::l,a,h=>uu l _ (wJ x a h)
theorem Xf {R l:List Int} (h:R.Pairwise (· <= ·)) (c:R.Perm l):R=lx l:=by
 refine List.Perm.eq_of_pairwise (λa b _ _ h1 d=>by omega) h ?_ (c.trans (jL l).symm);unfold lx;rw[List.pairwise_reverse];exact uu l [] List.Pairwise.nil
theorem V6 (e:vB):(fm e).now=J6 e.pins e.now:=by unfold fm J6;split<;>rfl
theorem SJ (e:vB):(fm e).pins=e.pins:=by unfold fm;split<;>rfl
theorem u6 (e:vB):(fm e).ws=e.ws:=by unfold fm;split<;>rfl
theorem Py (e:vB):e.now<=(fm e).now/\(fm e).now<=e.now+1:=by
 unfold fm;split
 ·exact⟨by show e.now<=e.now+1;omega,H5 _⟩
 ·omega
theorem CO: ∀(l:List Int) (s:MS),(l.foldl gS s).ms.length=s.ms.length+l.length
 |[],s=>rfl
 |f::l,s=>by
  rw[FX,CO l];show(s.ms++ _).length+l.length= _;simp only[FY,List.length_cons,List.length_nil];omega
section
variable {Q:Sys} {X:HX} {D G:List Nat} {w0 w w1:A2} {R:MR} {s:MS} {T L:List (Nat×List AB)} {M:List (Nat×B3)} {i:Nat} {x:bZ} {g:Option Bool}
theorem MU.base (H:MU Q X D G w0 w R s T L M): ∃L0,aK D G w0 w L0/\ ∀x∈T,x∈L0:=by
 obtain⟨B,e,H⟩:=H;obtain⟨b,c,K, _⟩:=H.tmp;exact⟨_,K.base,λx a=>BN _ a⟩
theorem MU.sat (H:MU Q X D G w0 w R s T L M): ∃A a L0,bq Q [] a w w s.h.s L0/\(X.hb,fg Q X A s.h.g)∈L0/\(∀i v,s.h.g i=some v-> ∀x∈gP Q A i v,x∈L0)/\
 ∀{T' b s'},bq Q [] a w b s' (T'++L0)->MU Q X D G w0 b R {s with h:=bF s.h s'} (T'++T) L M:=by
 obtain⟨B,e,H⟩:=H;obtain⟨A,a,L0,S,h1,c, _, _, _,J⟩:=H.sat;exact⟨A,a,L0,S,h1,c,λK=>⟨B,e,J K⟩⟩
theorem MU.del (H:MU Q X D G w0 w R s T L M) (f:Int) {K:A2->Prop} (k: ∀g,MU Q X D G w0 g R {s with kn:=s.kn.filter (λx=> !(x==f))} T L M->K g):
 ∃(r:Nat) (es:Array Db) (h:Nat),some R.kb=some r/\bH w r es h/\Ag w r .i64 f es h K:=by
 obtain⟨B,rfl,H⟩:=H;obtain⟨p,q,a,J⟩:=H.kns;refine⟨B.kb,⟨B.ke⟩,B.kk,rfl,a.get (i:=0) rfl,?_⟩;unfold Ag;by_cases c:f∈s.kn
 ·obtain⟨i,j,l,hv⟩:=H.wf.k.BS (B9.2 ⟨f,c,rfl⟩);rw[show If (.int .i64) (aa f) (Array.mk B.ke).toList 0=some (some (i,.bool true)) from j];have b:=a.put (i:=0) rfl (o':= .map ⟨B.ke.eraseIdx i⟩ B.kk) trivial;have m:(Array.mk B.ke).eraseIdxIfInBounds i=⟨B.ke.eraseIdx i⟩:=by
   apply Array.ext';simp[Array.eraseIdxIfInBounds,l]
  show K (w.putObj B.kb (.map ((Array.mk B.ke).eraseIdxIfInBounds i) B.kk));rw[m];refine k _ ⟨{B with ke:=B.ke.eraseIdx i},rfl,J (kn:=s.kn.filter λx=> !(x==f)) ?_ b⟩;rw[List.filter_map] at hv;exact hv
 ·have n: ∀t∈s.kn.map (λf=>((f,.bool true):KV)),t.1≠f:=λt o e=>by
   obtain⟨y,d,rfl⟩:=B9.1 o;exact c (by rw[<-e];exact d)
  rw[show If (.int .i64) (aa f) (Array.mk B.ke).toList 0=some none from H.wf.k.NW n];have b:=a.put (i:=0) rfl (o':= .map ⟨B.ke⟩ B.kk) trivial;refine k _ ⟨B,rfl,J (ke:=B.ke) (kk:=B.kk) (kn:=s.kn.filter λx=> !(x==f)) ?_ b⟩;rw[List.filter_eq_self.2 λy d=>by simpa using λe:y=f=>c (e▸d)];exact H.wf.k
theorem EW (H:MU Q X D G w0 w R s T L M) (U:s.ep.pins.length<=8) (V:0<=s.ep.now/\s.ep.now<4611686018427387000) (W:s.ep.ws.length<=1000000) (Y: ∀e∈s.ep.ws,0<=e.2/\e.2<=s.ep.now) (t:s.ms.length<=900000000) {K:Int->A2->Prop}
 (k: ∀b,MU Q X D G w0 b R (dE s).1 T L M->K (((dE s).2:Nat):Int) b):aB AC 151 (.el (.one (.int .i64))) [ag (ae R.mb)] w K:=by
 refine H.go λw1 H=>ai (C:=U2) (aS:=uk) (B4 (R9 _ w1 K) ⟨rfl,rfl,H.f1 ?_⟩);have hle:=Py s.ep;have XY: ∀{b},MU Q X D G w0 b R s T L M-> ∀{h:Bool->A2->Prop},(∀v d,MU Q X D G w0 d R {s with ep:=fm s.ep} T L M->h v d)->aB AC 197 (.el (.one .bool)) [ag (ae R.eb)] b h:=by
  intro b a h u;obtain⟨B,rfl,a⟩:=a;obtain⟨F,Z,o,J⟩:=a.eps;refine Us o.base.again a.wf.p U ⟨V.1,by omega⟩ λv d K2=>u v d ⟨{B with sp:=B.sp,Lp:=B.Lp,we:=B.we,wk:=B.wk},rfl,J (ep:=fm s.ep) (by rw[SJ];exact a.wf.p) (by rw[u6];exact a.wf.w) (by rw[V6];exact o.join K2)⟩
 refine XY H λv b H=>⟨rfl,rfl,H.f1 ?_⟩;have free: ∀{f:MS} {b},MU Q X D G w0 b R f T L M->f.ep=fm s.ep-> ∀{h:Option AR×Nat×Nat->A2->Prop},(∀r g d,dy eI r (oR f.ep) g->MU Q X D G w0 d R {f with ep:=Cf f.ep} (g++T) L M->h r d)->aB AC 198 (.el (.one .slice)) [ag (ae R.eb)] b h:=by
  intro f b a q h u;obtain⟨B,rfl,a⟩:=a;obtain⟨F,Z,o,J⟩:=a.eps;refine RY o a.wf.w (by rw[q,u6];omega) B5 (λe t=>?_) (by rw[q];omega) λr Rr g qM d hso hpe m hv K4=>?_
  ·rw[q,u6] at t;have:=Y e t;rw[q];omega
  ·rw[Xf hso hpe] at m;refine u r g d m ⟨{B with sp:=B.sp,Lp:=B.Lp,we:=qM,wk:=B.wk},rfl,J (T':=g++T) (ep:=Cf f.ep) a.wf.p hv (K4.perm (b_ λy=>?_))⟩;show BT y ((B.eb,oJ f.ep.now B.sp B.wb)::(B.Lp++(g++T++F)))= _;simp only[Ax,Az];omega
 refine free H rfl λr g d m H=>?_;generalize z:oR (fm s.ep)=l at*
 have hlen:=m.1;have hll:l.length<=1000000:=by
  rw[<-z];unfold oR;rw[kS,DY];refine JL (Ix _ _) ?_;rw[u6];exact W
 refine⟨λn st E=> ∃j:Nat,j<=l.length/\n=l.length - j/\st.1=(j:Int)/\MU Q X D G w0 E R ((l.take j).foldl gS {s with ep:=Cf (fm s.ep)}) (g++T) L M,⟨l.length,λE h4=>⟨0,FC _,rfl,rfl,H.ext h4⟩⟩,?_⟩;clear H;rintro n ⟨i, _⟩ E ⟨j,I,rz,hi,H⟩;have hi:i=(j:Int):=hi;subst hi rz;dsimp only;rw[hlen];refine ab (λc=>?_) (λc=>?_)
 ·have I:j<l.length:=by have:=of_decide_eq_true c;omega
  obtain⟨x,N⟩: ∃x,l[j]? =some x:=⟨_,DG I⟩;obtain⟨L0,K0,hT⟩:=H.base;have O:=m.sl K0 (λy hy=>hT y (BN _ hy)) j x N;refine⟨⟨O.1,by omega,by omega⟩,aj.of x (by rw[Bx];exact O.2) ⟨rfl,rfl,H.f0 ?_⟩⟩;obtain⟨A,G',L0,S,hk, _,J⟩:=H.sat;refine Ez S hk x λP S=>?_;have H:=J (T':=[]) S;refine⟨rfl,rfl,H.f4 λw6 h6=>(H.ext h6).del x λw7 H=>tM H ?_ (2,0,x,(0,0,0,0,()),0,0) λw8 H w9 h9=>⟨l.length - (j+1),by omega,j+1,by omega,rfl,?_,?_⟩⟩
  ·show(List.foldl gS _ (l.take j)).ms.length<= _;rw[CO,List.length_take];show s.ms.length+ _<= _;omega
  ·rw[av (by omega) (by omega)];omega
  ·rw[N5,N,N6];exact H.ext h9
 ·have:j=l.length:=by have:=of_decide_eq_false c;omega
  subst this;rw[N7] at H;refine H.en λP H=>?_;have e:(dE s).1=l.foldl gS {s with ep:=Cf (fm s.ep)}:=by unfold dE;rw[z]
  have e2:(dE s).2=l.length:=by unfold dE;rw[z]
  rw[e,e2] at k;exact k P (H.sub (E5 _ _))
end
abbrev BU:Type:=(Int×Int×Unit)×Bool×Unit
abbrev NH:Sh:= .bG [.agg iS,.one .bool]
theorem SK {pins:List Int} {n:Nat} (h:n<pins.length):Al pins n (-1)=pins.set n (-1):=by
 unfold Al;split
 ·rename_i c;have e:pins.getD n 0= -1:=by simpa using c
  rw[Ds,DG h] at e;have e:pins[n]= -1:=e;rw[<-e];exact(List.set_getElem_self h).symm
 ·rfl
theorem SL {e:vB} {n:Nat} (a:0<=e.now):{e with pins:=Al e.pins n e.now}=Ap e n:=by
 unfold Al Ap;have h0:(e.now== -1)=false:=by rw[beq_eq_false_iff_ne];omega
 rw[h0];by_cases c:e.pins.getD n 0= -1
 ·rw[ax c,ao (by rw[c];decide)]
 ·rw[ao c,ax (by rw[beq_eq_false_iff_ne.2 c])]
theorem V7 (e:vB) (f:Int):NX (e.ws.map FD) f e.now=(lj e f).ws.map FD:=by
 unfold NX lj;rw[List.any_map];show(if e.ws.any (λx=>x.1==f)=true then _ else _)= _;split<;>rfl
theorem CP (e:vB) (f:Int):(lj e f).now=e.now/\(lj e f).pins=e.pins:=by unfold lj;split<;>exact⟨rfl,rfl⟩
theorem zj: ∀(l:List Int) (e:vB),(l.foldl lj e).now=e.now/\(l.foldl lj e).pins=e.pins
 |[],e=>⟨rfl,rfl⟩
 |f::l,e=>by rw[FX,(zj l _).1,(zj l _).2];exact CP e f
section
variable {Q:Sys} {X:HX} {D G:List Nat} {w0 w w1:A2} {R:MR} {s:MS} {T L:List (Nat×List AB)} {M:List (Nat×B3)} {i:Nat} {x:bZ} {g:Option Bool}
theorem MU.res {b:Nat} {l:List AB} (H:MU Q X D G w0 w R s ((b,l)::T) L M) (d:l.length=2) (V E:Int) (c:Bool) {K:BU->A2->Prop} (k: ∀a,MU Q X D G w0 a R s T L M->K ((V,E,()),c,()) a):
 az w (ae b) [ay V,aa E] λa=>au a λw1=>aj w1 none (ae b) (El.agg [.int .u64,.int .i64]) λ(x:Int×Int×Unit)=>K ((x.1,x.2.1,()),c,()) w1:=
 H.st 0 rfl rfl d.symm λa H=>H.en λe H=>H.ld 0 rfl (show _=some (V,E,()) from rfl) (k e (H.sub (Bs _ _)))
theorem MU.crd (H:MU Q X D G w0 w R s T L M) (b:s.cs[i]? =some x) {n:Nat} {el:El} {y:el.T} (hv: ∀a:CA,kH (kh a i x) n el=some y):cH w (ad (some ⟨R.cb i,0,none⟩) n) el y:=by
 obtain⟨z,h,e⟩:=H.cf (g:=none) (K:=λz=>z=y) b hv rfl;subst e;exact h
theorem BK (H:MU Q X D G w0 w R s T L M) (hc:i<s.ep.pins.length) {K:Int->A2->Prop} (k: ∀v b,MU Q X D G w0 b R {s with ep:=uV s.ep i} T L M->K v b):
 aB AC 158 (.el (.one (.int .i64))) [ag (ae R.eb),aa (i:Int)] w K:=by
 refine λw1 h1=>?_;obtain⟨B,rfl,a⟩:=H.ext h1;obtain⟨h,j,c,J⟩:=a.eps;refine Kt c.base.again a.wf.p i hc (λv e f d g=>k v f ⟨{B with sp:=B.sp,Lp:=e,we:=B.we,wk:=B.wk},rfl,J (ep:=uV s.ep i) ?_ a.wf.w (c.join g)⟩) w1 (Ext.refl w1);rw[SK hc] at d;exact d
theorem V8 (H:MU Q X D G w0 w R s T L M) (d:0<=s.ep.now) (hc:i<s.ep.pins.length) {K:Int->A2->Prop} (k: ∀v b,MU Q X D G w0 b R {s with ep:=Ap s.ep i} T L M->K v b):
 aB AC 200 (.el (.one (.int .i64))) [ag (ae R.eb),aa (i:Int)] w K:=by
 refine λw1 h1=>?_;obtain⟨B,rfl,a⟩:=H.ext h1;obtain⟨j,l,c,J⟩:=a.eps;refine Ur c.base.again a.wf.p i hc (λv e f g h=>k v f ?_) w1 (Ext.refl w1);rw[<-SL d];exact⟨{B with sp:=B.sp,Lp:=e,we:=B.we,wk:=B.wk},rfl,J (ep:={s.ep with pins:=Al s.ep.pins i s.ep.now}) g a.wf.w (c.join h)⟩
theorem SN (H:MU Q X D G w0 w R s T L M) (c:s.ep.pins.length<=8) (d:0<=s.ep.now/\s.ep.now<4611686018427387000) (f:s.ep.ws.length<=1000000) (g: ∀e∈s.ep.ws,0<=e.2/\e.2<=s.ep.now) (h:s.ms.length<=900000000) (p:Option AR) {K:BU->A2->Prop}
 (k: ∀a,MU Q X D G w0 a R (dE s).1 T L M->K ((0,0,()),false,()) a):aB AC 109 NH [ag (ae R.mb),ag p] w K:=by
 refine H.go λw1 H=>aR (C:=U2) (aS:=λ_=>[]) (B4 (R_ _ p w1 K) (H.al λb a H=>EW H c d f g h λi H=>H.res rfl 0 0 false k))
theorem SO (H:MU Q X D G w0 w R s T L M) (e:s.cs[i]? =some x) (N:x.ak<4611686018427387904) (hfs:x.fs.length<=1000000) (O: ∀f∈x.fs,0<=f) {K:BU->A2->Prop}
 (k: ∀m,MU Q X D G w0 m R (ir s x).1 T L M->K ((if(ir s x).2.2=true then((ir s x).2.1.1,(ir s x).2.1.2,()) else(0,0,())),(ir s x).2.2,()) m):
 aB AC 113 NH [ag (ae R.mb),ag (some ⟨R.cb i,0,none⟩)] w K:=by
 refine H.go λw1 H=>aR (C:=U2) (aS:=um) (B4 (Sb _ _ w1 K) (H.al λb m H=>⟨rfl,rfl,H.f2 ⟨rfl,rfl,H.cf e (n:=12) (λ_=>rfl) ⟨yy s x.ak,?_,?_⟩⟩⟩))
 ·obtain⟨B,rfl,d⟩:=H;obtain⟨q,z,g,J⟩:=d.bxs;have r:=g.base.perm (L':=B.Lo++((B.xb,lU B.sb B.so)::(B.Lb++((b,[ay 0,aa 0])::T++q)))) (b_ λy=>by simp only[Ax,Az];omega);exact VG r B5 d.wf.o x.ak N
 ·unfold ir at k;refine ab (λc=>?_) (λc=>?_)
  ·have c:yy s x.ak=false:=by simpa using c
   rw[c] at k;exact H.res rfl 0 0 false k
  ·have c:yy s x.ak=true:=by simpa using c
   rw[c] at k;obtain⟨B,rfl,d⟩:=H;refine⟨rfl,rfl,d.X4 e (n:=13) (show _=some ((B.A i).sf.1,(B.A i).sf.2.1,(B.A i).sf.2.2) from rfl) ?_⟩;have P:(B.A i).sf.2.1=x.fs.length:=(d.wf.a e).fs.1;refine⟨λn st h=> ∃(j:Nat) (we:List Db) (wk:Nat),j<=x.fs.length/\n=x.fs.length - j/\st.1=(j:Int)/\iC Q X D G w0 h {B with we:=we,wk:=wk} {s with ep:=(x.fs.take j).foldl lj s.ep} ((b, _)::T) L M,⟨x.fs.length,λh S=>⟨0,B.we,B.wk,FC _,rfl,rfl,d.ext S⟩⟩,?_⟩;rintro n ⟨U, _⟩ h ⟨j,we,wk,E,V,hi,H⟩;have hi:U=(j:Int):=hi;subst hi V;dsimp only;rw[P];refine ab (λc=>?_) (λc=>?_)
   ·have E:j<x.fs.length:=by have:=of_decide_eq_true c;omega
    obtain⟨f,u⟩: ∃f,x.fs[j]? =some f:=⟨_,DG E⟩;have l:({s with ep:=(x.fs.take j).foldl lj s.ep}:MS).cs[i]? =some x:=e;obtain⟨q,z,g,hh, _,hc, _⟩:=H.tmp;have F:=(H.wf.a l).fs.sl g.base (λy I=>B_ _ (hc l _ (B1 _ (B1 _ (B_ _ (BN _ I)))))) j f u;refine⟨⟨F.1,by omega,by omega⟩,aj.of f (by rw[Bx];exact F.2) ⟨rfl,rfl,H.sv (show _=some (ae B.eb) from rfl) ?_⟩⟩;obtain⟨q,z,g,J⟩:=H.eps;refine Ut g B5 H.wf.w (λt W=>?_) f (O f (DA u)) λv Y Z w5 hv r w6 h6=>⟨x.fs.length - (j+1),by omega,j+1,Y,Z,by omega,rfl,?_,?_⟩
    ·obtain⟨y,I,rfl⟩:=B9.1 W;exact⟨_,rfl⟩
    ·rw[av (by omega) (by omega)];omega
    ·rw[N5,u,N6];rw[V7] at hv;refine iC.ext (J (sp:=B.sp) (ep:=lj ((x.fs.take j).foldl lj s.ep) f) ?_ hv ?_) h6
     ·rw[(CP _ f).2];exact H.wf.p
     ·rw[(CP _ f).1];exact r
   ·have:j=x.fs.length:=by have:=of_decide_eq_false c;omega
    subst this;rw[N7] at H;have H:MU Q X D G w0 h B.rt {s with ep:=x.fs.foldl lj s.ep} ((b, _)::T) L M:=⟨{B with we:=we,wk:=wk},rfl,H⟩;have l:({s with ep:=x.fs.foldl lj s.ep}:MS).cs[i]? =some x:=e;exact⟨rfl,rfl,H.cf l (n:=10) (y:=(x.rs.1,x.rs.2,())) (λ_=>rfl) (H.res rfl _ _ true k)⟩
end
theorem acx {a:Int} (h:0<=a):aG .i64 (fb a 16)=a % 16:=by
 have e:fb a 16=a % 16:=by
  unfold fb;exact NU h
 rw[e];exact bM (by omega)
theorem atU {f a:Int} (c:0<=f/\f<4096) (b:0<=a):aI .i64 (iD .i64 16 f) (aG .i64 (fb a 16))=16*f+a % 16:=by
 rw[acx b,eH (by omega) (by omega),av (by omega) (by omega)]
section
variable {Q:Sys} {X:HX} {D G:List Nat} {w0 w w1:A2} {R:MR} {s:MS} {T L:List (Nat×List AB)} {M:List (Nat×B3)} {i:Nat} {x:bZ} {g:Option Bool}
theorem se (H:MU Q X D G w0 w R s T L M) {K:Option AR->A2->Prop} (k: ∀a,MU Q X D G w0 a R s T L M->K (ae Q.bm) a):
 aB AC 23 (.el (.one .ptr)) [ag (ae X.hb)] w K:=by
 obtain⟨A,c,L0,S,b, _,J⟩:=H.sat;exact zJ S b λa S=>k a (J (T':=[]) S)
theorem MQ (H:MU Q X D G w0 w R s T L M) (a:s.cs[i]? =some x) (e:0<=x.fr/\x.fr<4096) (f:cL x.c.2.1) (hb:cL x.c.2.2.1) (hc:i<s.ep.pins.length) (p:s.ms.length<=900000000) {K:BU->A2->Prop}
 (k: ∀d,MU Q X D G w0 d R (fP s i x).1 T L M->K (((fP s i x).2.1.1,0,()),true,()) d):
 aB AC 112 NH [ag (ae R.mb),ag (some ⟨R.cb i,0,none⟩)] w K:=by
 refine H.go λw1 H=>aR (C:=U2) (aS:=λ_=>[]) (B4 (Mq _ _ w1 K) (H.al λb d H=>⟨rfl,rfl,H.cf a (n:=9) (λ_=>rfl) ⟨rfl,rfl,rfl,H.cf a (n:=5) (λ_=>rfl) ⟨rfl,rfl,H.f1 ⟨rfl,rfl,H.cf a (n:=0) (λ_=>rfl) ?_⟩⟩⟩⟩));rw[atU e f.1];unfold fP at k;dsimp only at k;refine BK H hc λv q H=>⟨rfl,rfl,rfl,H.cf a (n:=4) (λ_=>rfl) ?_⟩;refine ab (λc=>?_) (λc=>?_)
 ·have c:x.c.1=7:=by simpa using c
  rw[ax c] at k;refine⟨rfl,rfl,H.f0 ⟨rfl,rfl,rfl,H.cf a (n:=6) (λ_=>rfl) (se H λg H=>⟨H.crd a (n:=6) λ_=>rfl,trivial,trivial,trivial,?_⟩)⟩⟩;obtain⟨A,j,L0,S,l, _,J⟩:=H.sat;refine S.store _ _ hb λm S=>?_;have H:=J (T':=[]) S;exact⟨rfl,rfl,rfl,H.cf a (n:=6) (λ_=>rfl) (tM H (by show s.ms.length<= _;omega) (4,0,16*x.fr+x.c.2.1 % 16,(0,0,0,0,()),x.c.2.2.1,0) λo H=>H.res rfl 0 0 true k)⟩
 ·have c:x.c.1≠7:=by simpa using c
  rw[ao c] at k;refine⟨rfl,rfl,H.f0 (se H λg H=>?_)⟩;obtain⟨A,j,L0,S,l, _,J⟩:=H.sat;refine S.load _ λm S=>?_;have H:=J (T':=[]) S;exact tM H (by show s.ms.length<= _;omega) (3,0,16*x.fr+x.c.2.1 % 16,(0,0,0,0,()),dL s.h.s.1 (16*x.fr+x.c.2.1 % 16),0) λo H=>H.res rfl _ 0 true k
end
open Go.RX D
theorem SP {ws:List Int} {p t:Int} {x:Int×Int×FT} (h:0<=x.2.1/\x.2.1<=3):(bj ws p t x).2.1= -1\/((bj ws p t x).2.1=x.2.1 - 1/\0<x.2.1):=by
 unfold bj;rw[ao (by omega)];split
 ·exact .inl rfl
 ·exact I0 h
section
variable {Q:Sys} {X:HX} {D G:List Nat} {w0 w w1:A2} {B:MB} {R:MR} {s:MS} {T L:List (Nat×List AB)} {M:List (Nat×B3)} {i:Nat} {x:bZ} {g:Option Bool}
theorem iC.walk (H:iC Q X D G w0 w B s T L M) (e:s.cs[i]? =some x) (t:x.ph=2): ∃(bk:Nat) (f:Option AR×Nat×Nat) (k:List (Nat×List AB)) (xs:List Int) (o:List (Nat×List AB)) (p:List (Nat×B3)) (ca la:Int),(B.A i).wp=some ⟨bk,0,none⟩/\xm k f xs/\(xs.length:Int)<=3 - x.wk.2.1/\vP s.h.s/\
 cC D G w0 w ((bk,jM x.wk.1 (x.c.2.1 / 16) (bh x.c.1) x.wk.2.1 x.wk.2.2 f)::(Q.bm,kY Q.bw s.h.s.1.length Q.c ca la)::(Q.bw,flat eW s.h.s.1++Q.rw)::(k++o)) p/\
 ∀{wS:Int×Int×FT} {b:Option AR×Nat×Nat} {d:List (Nat×List AB)} {l:List Int} {qO C_:Int} {w':A2},xm d b l->(l.length:Int)<=3 - wS.2.1->
  cC D G w0 w' ((bk,jM wS.1 (x.c.2.1 / 16) (bh x.c.1) wS.2.1 wS.2.2 b)::(Q.bm,kY Q.bw s.h.s.1.length Q.c qO C_)::(Q.bw,flat eW s.h.s.1++Q.rw)::(d++o)) p->MU Q X D G w0 w' B.rt (cD s i {x with wk:=wS}) T L M:=by
 obtain⟨A,ca,la,h1,q,m,u⟩:=H;obtain⟨bk,f,k,xs,r,v,z,n⟩:=(m.a e).wk t;have C:=lH (B:=B) e;refine⟨bk,f,k,xs,((B.A i).cb,kh (B.A i) i x)::((B.A i).tb,dz (B.A i).st s.sz)::((B.A i).Lt++((B.A i).Lf++(T++(FH X B s++(gX B s ((Ab s.cs.length).erase i)++((Q.bf,flat eD s.h.s.2++Q.rf)::(Q.bp,[.slice (ae Q.bf) s.h.s.2.length Q.cp])::(dS Q X A s.h (a_ Q A s.h.g (Ab 17))++L))))))), _,ca,la,r,z,n,q,u.perm ?_,λ{wS b d l qO C_ w'} E F K=>?_⟩
 ·refine J8 ?_ (DM T (DM _ (Fy _ C.symm)));unfold uL;rw[v];exact b_ λy=>by simp only[Sys.L,Ax,Az];omega
 ·refine⟨Da B i {B.A i with Lw:=(bk,jM wS.1 (x.c.2.1 / 16) (bh x.c.1) wS.2.1 wS.2.2 b)::d},Xd rfl rfl,A,qO,C_,h1,q,m.up e rfl ⟨(m.a e).ls,(m.a e).fs,λ_=>⟨bk,b,d,l,r,rfl,E,F⟩⟩,K.perm ?_⟩;generalize I:({B.A i with Lw:=(bk,jM wS.1 (x.c.2.1 / 16) (bh x.c.1) wS.2.1 wS.2.2 b)::d}:CA)=a;have J:(cD s i {x with wk:=wS}).cs[i]? =some {x with wk:=wS}:=e_ e;have n:(cD s i {x with wk:=wS}).cs.length=s.cs.length:=DJ ..;have:=lH (B:=Da B i a) J;rw[mV,n,zQ (s:=s) (s':=cD s i {x with wk:=wS}) rfl λj N=>(show(s.cs.set i {x with wk:=wS})[j]? =s.cs[j]? from E4 (λc=>N c.symm))] at this;rw[n];refine(DM T (DM _ (Fy _ this))).trans ?_;subst I;show(T++(FH X B s++(uL {B.A i with Lw:=(bk,jM wS.1 (x.c.2.1 / 16) (bh x.c.1) wS.2.1 wS.2.2 b)::d} i {x with wk:=wS} s.sz++gX B s ((Ab s.cs.length).erase i)++(FI Q X A qO C_ s.h++L)))).Perm _;unfold uL;show(T++(FH X B s++(((B.A i).cb,kh (B.A i) i x)::((B.A i).tb,dz (B.A i).st s.sz)::((B.A i).Lt++((B.A i).Lf++((bk,jM wS.1 (x.c.2.1 / 16) (bh x.c.1) wS.2.1 wS.2.2 b)::d)))++gX B s ((Ab s.cs.length).erase i)++(FI Q X A qO C_ s.h++L)))).Perm _;exact b_ λy=>by simp only[Sys.L,Ax,Az];omega
theorem MU.rd (H:MU Q X D G w0 w R s T L M) (i:Nat) {el:El} {b n:Nat} {l:List AB} {x:el.T} (a:T[i]? =some (b,l)) (hv:kH l n el=some x):cH w (ad (ae b) n) el x:=by
 obtain⟨z,h,e⟩:=H.cm (g:=none) (K:=λz=>z=x) i a hv rfl;subst e;exact h
theorem MU.wp (H:MU Q X D G w0 w R s T L M) (b:s.cs[i]? =some x) (d:x.ph=2): ∃(bk:Nat) (a:Option AR×Nat×Nat) (L0:List (Nat×List AB)),aK D G w0 w L0/\(bk,jM x.wk.1 (x.c.2.1 / 16) (bh x.c.1) x.wk.2.1 x.wk.2.2 a)∈L0/\ ∀{g:Option Bool} {K:Option AR->Prop},K (ae bk)->aj w g (ad (some ⟨R.cb i,0,none⟩) 8) (.one .ptr) K:=by
 obtain⟨B,rfl,H⟩:=H;obtain⟨bk,a,f,xs,h,j,ca,la,e, _, _, _,K, _⟩:=H.walk b d;exact⟨bk,a, _,K.base,B5,λk=>H.X4 b (n:=8) (show _=some (B.A i).wp from rfl) (by rw[e];exact k)⟩
theorem SQ (H:MU Q X D G w0 w R s T L M) (f:s.cs[i]? =some x) (g:(x.ls.length:Int)<=s.sz) (h:0<s.sz/\s.sz<=64) (l:LT) (j:lnR l=true) {K:Int->A2->Prop}
 (k: ∀b,MU Q X D G w0 b R (cD s i {x with ls:=qT x.ls s.sz l}) T L M->K 0 b):
 aB AC 159 (.el (.one (.int .i64))) [ag (some ⟨R.tb i,0,none⟩),lnV l] w K:=by
 obtain⟨a,c,m,q,hb,W,n,J⟩:=H.Dp f;have d:cC D G w0 w ((R.tb i,dz a.st s.sz)::(a.Lt++((a.cb,kh a i x)::(a.Lf++(a.Lw++(T++c)))))) m:=n.perm (b_ λy=>by rw[<-hb];simp only[uL,Ax,Az];omega);refine λw1 h1=>P4 (d.ext h1).base.again W.ls g h l j (λs' e b o p=>k b (J (a':={a with st:=s',Lt:=e}) rfl rfl ⟨o,W.fs,W.wk⟩ (((d.ext h1).join p).perm (b_ λy=>?_)))) w1 (Ext.refl w1);show BT y ((a.cb,kh a i x)::(a.tb,dz s' s.sz)::(e++(a.Lf++a.Lw))++(T++c))= _;rw[<-hb];simp only[Ax,Az];omega
theorem SS (H:MU Q X D G w0 w R s T L M) (o:s.cs[i]? =some x) (u:x.ph=2) (V:0<=x.wk.2.1/\x.wk.2.1<=3) (W:cL x.c.2.1) (hc:i<s.ep.pins.length) (Y:(x.ls.length:Int)<=s.sz) (Z:0<s.sz/\s.sz<=64)
 (E:(bj s.h.s.1 (x.c.2.1 / 16) (bh x.c.1) x.wk).2.1= -1->(bj s.h.s.1 (x.c.2.1 / 16) (bh x.c.1) x.wk).2.2.2.2.2.1=0->lnR (x.vm,x.c.2.1 / 16,(bj s.h.s.1 (x.c.2.1 / 16) (bh x.c.1) x.wk).2.2.1,(bj s.h.s.1 (x.c.2.1 / 16) (bh x.c.1) x.wk).2.2.2.1,())=true) {K:BU->A2->Prop}
 (k: ∀r,MU Q X D G w0 r R (kz s i x).1 T L M->K ((0,(kz s i x).2.1.2,()),(kz s i x).2.2,()) r):
 aB AC 111 NH [ag (ae R.mb),ag (some ⟨R.cb i,0,none⟩)] w K:=by
 refine H.go λw1 H=>aR (C:=U2) (aS:=λ_=>[]) (B4 (Sa _ _ w1 K) (H.al λb r H=>?_));unfold kz at k;generalize F:bj s.h.s.1 (x.c.2.1 / 16) (bh x.c.1) x.wk=wv at*
 have I:=SP (ws:=s.h.s.1) (p:=x.c.2.1 / 16) (t:=bh x.c.1) V;rw[F] at I;obtain⟨wf,wl,z_,d,j,f,⟨⟩⟩:=wv;dsimp only at k E I;obtain⟨B,rfl,m⟩:=H;refine⟨rfl,rfl,m.X4 o (n:=8) (show _=some (B.A i).wp from rfl) ⟨rfl,rfl,m.sv (show _=some (ae X.hb) from rfl) ?_⟩⟩;obtain⟨A,G',L0,S,hk, _, _, _, _,J⟩:=m.sat;refine zJ S hk λN S=>?_;have m:iC Q X D G w0 N B s ((b,[ay 0,aa 0])::T) L M:=J (T':=[]) S;have pz:cH N (ad (some ⟨(B.A i).cb,0,none⟩) 8) (.one .ptr) (B.A i).wp:=by
  obtain⟨z,h,e⟩:=m.X4 (g:=none) (el:= .one .ptr) (K:=λz=>z=(B.A i).wp) o (n:=8) (show _=some (B.A i).wp from rfl) rfl;subst e;exact h
 refine⟨pz,trivial,trivial,?_⟩;obtain⟨bk,s2,Lq,xs,R',Mo,ca,la,e1,hp,hxl,O,P,J⟩:=m.walk o u;rw[e1];refine y6 P.base.again hp (by omega) rfl O.1 O.2.2.2 (by omega) λw4 cA s3 nf q=>?_;have hw':bj s.h.s.1 (x.c.2.1 / 16) (bh x.c.1) (x.wk.1,x.wk.2.1,x.wk.2.2)=(wf,wl,z_,d,j,f,()):=F;rw[hw'] at q ⊢;have H:=J (wS:=(wf,wl,z_,d,j,f,())) nf (by rw[FY,F5];dsimp only;omega) (P.join q);have l:=e_ (y:={x with wk:=(wf,wl,z_,d,j,f,())}) o;refine ab (λc=>?_) (λc=>?_)
 ·have c:wl≠ -1:=by simpa using c
  rw[ax c] at k;exact H.res rfl 0 0 false k
 ·have c:wl= -1:=by simpa using c
  subst c;rw[ao (by decide)] at k;obtain⟨bk',s2',L2,q,hm,Xw⟩:=H.wp l u;have NQ:af AC 24 [ag (ae bk')] w4 ((Sh.bG [.agg sF,.one .bool]).gz ((z_,d,j,f,()),true,())):=af.of λw5 h5=>IW ((q.ext h5).cZ _ hm);refine⟨rfl,rfl,Xw ⟨((z_,d,j,f,()),true,()),NQ,H.al λb1 w5 H=>H.st 0 rfl rfl rfl λw6 H=>⟨rfl,H.cm 0 rfl (show _=some f from rfl) ?_⟩⟩⟩;refine ab (λc=>?_) (λc=>?_)
  ·have c:f≠0:=by simpa using c
   rw[ax c] at k;refine⟨rfl,rfl,H.f1 ⟨rfl,rfl,H.cf l (n:=0) (λ_=>rfl) (BK H hc λv w7 H=>⟨rfl,H.cm 0 rfl (show _=some f from rfl) ?_⟩)⟩⟩;exact MU.res (H.sub (Bs _ _)) rfl 0 f true k
  ·have c:f=0:=by simpa using c
   rw[ao (by rw[c];decide)] at k;have z5:=JF H l W;refine⟨rfl,rfl,H.c1 l ⟨rfl,rfl,H.cf l (n:=3) (λ_=>rfl) ⟨x.c.2.1 / 16,z5,rfl,H.cm 0 rfl (show _=some z_ from rfl) ⟨rfl,H.cm 0 rfl (show _=some d from rfl) ?_⟩⟩⟩⟩;refine SQ H l Y Z (x.vm,x.c.2.1 / 16,z_,d,()) (E rfl c) λw7 H=>⟨rfl,H.cm 0 rfl (show _=some z_ from rfl) ?_⟩;have U:=e_ (y:={x with wk:=(wf,-1,z_,d,j,f,()),ls:=qT x.ls s.sz (x.vm,x.c.2.1 / 16,z_,d,())}) l;refine⟨rfl,rfl,H.cs U {x with wk:=(wf,-1,z_,d,j,f,()),ls:=qT x.ls s.sz (x.vm,x.c.2.1 / 16,z_,d,()),ph:=3} 2 rfl rfl (λ_=>rfl) (λa h=>⟨h.ls,h.fs,λc=>(by cases c)⟩) λw8 H=>⟨H.rd 0 rfl (show _=some z_ from rfl),trivial,rfl,rfl,?_⟩⟩;have JX:=e_ (y:={x with wk:=(wf,-1,z_,d,j,f,()),ls:=qT x.ls s.sz (x.vm,x.c.2.1 / 16,z_,d,()),ph:=3}) U;refine H.cs JX {x with wk:=(wf,-1,z_,d,j,f,()),ls:=qT x.ls s.sz (x.vm,x.c.2.1 / 16,z_,d,()),ph:=3,fr:=z_} 9 rfl rfl (λ_=>rfl) (λa h=>⟨h.ls,h.fs,λc=>(by cases c)⟩) λw9 H=>?_;simp only[kW] at H;exact MU.res (H.sub (Bs _ _)) rfl 0 0 false k
end
theorem SU (ls:List LT) (t p w:Int):yh ls t p w=((mO ls t p w).1,(mO ls t p w).2,()):=by
 show yh ls t p w= _;unfold yh mO;rw[show(λx=>l8 x t p)=Ce t p from rfl];cases ls.find? (Ce t p) with
 |none=>rfl
 |some l=>
  dsimp only;split<;>rfl
def DF (s:MS) (n:Nat) (x:bZ) (i:Nat):Bool:=match s.cs[i]? with
 |none=>false
 |some y=>decide (i≠n/\x.vm=0)&&((x.c.1==1&&(y.ph==4&&y.c.1==2))||(x.c.1==2&&(decide (y.ph>=2)&&(decide (y.vm>0)&&y.vm==x.c.2.1))))
section
variable {Q:Sys} {X:HX} {D G:List Nat} {w0 w w1:A2} {B:MB} {R:MR} {s:MS} {T L:List (Nat×List AB)} {M:List (Nat×B3)} {i:Nat} {x:bZ} {g:Option Bool}
theorem MU.cbk (H:MU Q X D G w0 w R s T L M) (b:s.cs[i]? =some x): ∃l,bN w (R.cb i) l:=by
 obtain⟨a,e,f,c,hb,W,d,J⟩:=H.Dp b;rw[<-c];exact⟨_,d.base.cZ _ B5⟩
theorem MU.cne (H:MU Q X D G w0 w R s T L M) (c:s.cs[i]? =some x) {j:Nat} {y:bZ} (b:s.cs[j]? =some y) (d:j≠i):R.cb j≠R.cb i:=by
 obtain⟨B,rfl,A,ca,la,h1,m,n,f⟩:=H;have g:=lH (B:=B) c;have k:=f.perm (L':=uL (B.A i) i x s.sz++(T++(FH X B s++(gX B s ((Ab s.cs.length).erase i)++(FI Q X A ca la s.h++L))))) (by
  refine J8 ?_ (DM T (DM _ (Fy _ g.symm)));exact b_ λa=>by simp only[Ax,Az];omega)
 have nd:=k.base.nd;have l:((B.A j).cb,kh (B.A j) j y)∈gX B s ((Ab s.cs.length).erase i):=by
  unfold gX;refine Ik.2 ⟨j,?_,by rw[b];exact B5⟩;rw[M4.mem_erase_iff];exact⟨d,Ca.2 (B2.1 b).1⟩
 intro e;have e:(B.A j).cb=(B.A i).cb:=e;unfold uL at nd;rw[List.cons_append,List.map_cons,G1] at nd;refine nd.1 (B9.2 ⟨((B.A j).cb,kh (B.A j) j y),?_,e⟩);exact B_ _ (B_ _ (B_ _ (BN _ l)))
theorem MU.f3 (H:MU Q X D G w0 w R s T L M): ∃sc:Option AR×Nat×Nat,sc.2.1=s.cs.length/\(∀{g:Option Bool} {K:Option AR×Nat×Nat->Prop},K sc->aj w g (ad (ae R.mb) 3) (.one .slice) K)/\ ∀{w1},Ext w w1-> ∀i,i<s.cs.length->sc.1.isSome=true/\cH w1 (ad sc.1 (i*1)) (.one .ptr) (some ⟨R.cb i,0,none⟩):=by
 obtain⟨B,rfl,H⟩:=H;have W:=H.wf;refine⟨B.sc,by rw[W.c.1,DY,FW],λk=>H.sv (show _=some (B.sc.1,B.sc.2.1,B.sc.2.2) from rfl) k,λh1 i hi=>?_⟩;obtain⟨d,e,K,a, _, _, _⟩:=(H.ext h1).tmp;exact W.c.sl K.base (λy b=>B_ _ (a _ (B1 _ (B1 _ (B1 _ (BN _ b)))))) i (some ⟨(B.A i).cb,0,none⟩) (by rw[N2,N4 hi];rfl)
theorem HR (H:MU Q X D G w0 w R s T L M) (h:s.cs[i]? =some x) (P:s.cs.length<=8) (hv: ∀y∈s.cs,y.vm<9223372036854775808):af AC 154 [ag (ae R.mb),ag (some ⟨R.cb i,0,none⟩)] w (.bool (qH s i x)):=by
 refine af.of (s:= .el (.one .bool)) λw1 h1=>ai (C:=U2) (aS:=oG) (B4 (Fg _ _ w1 _) ?_);have H:=H.ext h1;have r:qH s i x=(Ab s.cs.length).any (DF s i x):=rfl;obtain⟨sc,z,A,B⟩:=H.f3;refine⟨rfl,rfl,A ?_⟩;rw[z];refine⟨λn st l=> ∃j:Nat,j<=s.cs.length/\n=s.cs.length - j/\st.1=(j:Int)/\(∀k,k<j->DF s i x k=false)/\Ext w1 l,⟨s.cs.length,λl g=>⟨0,FC _,rfl,rfl,λk o=>absurd o (Nl k),g⟩⟩,?_⟩;rintro n ⟨E, _⟩ l ⟨j,p,F,hi,t,g⟩;have hi:E=(j:Int):=hi;subst hi F;dsimp only;have H:=H.ext g;refine ab (λc=>?_) (λc f m=>⟨?_,Ext.trans g m⟩)
 ·have p:j<s.cs.length:=by have:=of_decide_eq_true c;omega
  obtain⟨y,d⟩: ∃y,s.cs[j]? =some y:=⟨_,DG p⟩;have S:=hv y (DA d);have u:=B g j p;have hb:DF s i x j=(decide (j≠i/\x.vm=0)&&((x.c.1==1&&(y.ph==4&&y.c.1==2))||(x.c.1==2&&(decide (y.ph>=2)&&(decide (y.vm>0)&&y.vm==x.c.2.1))))):=by
   unfold DF;rw[d]
  have next:DF s i x j=false-> ∀f,Ext l f-> ∃v:Nat,v<s.cs.length - j/\ ∃q:Nat,q<=s.cs.length/\v=s.cs.length - q/\aI .i64 (j:Int) 1=(q:Int)/\(∀k,k<q->DF s i x k=false)/\Ext w1 f:=λhb f m=>by
   refine⟨s.cs.length - (j+1),by omega,j+1,by omega,rfl,?_,λk o=>?_,Ext.trans g m⟩
   ·rw[av (by omega) (by omega)];omega
   ·by_cases e:k=j
    ·subst e;exact hb
    ·exact t k (by omega)
  have yes:DF s i x j=true-> ∀f,Ext l f->true=qH s i x/\Ext w1 f:=λhb f m=>⟨by
   rw[r];exact(FG.2 ⟨j,Ca.2 p,hb⟩).symm,Ext.trans g m⟩
  have I:decide ((some ⟨R.cb j,0,none⟩:Option AR)=some ⟨R.cb i,0,none⟩)=decide (j=i):=by
   by_cases e:j=i
   ·subst e;simp
   ·have:=H.cne h d e;rw[decide_eq_false e,decide_eq_false_iff_not];intro c;exact this (congrArg Addr.block (Option.some.inj c))
  refine⟨⟨u.1,by omega,by omega⟩,aj.of (some ⟨R.cb j,0,none⟩) (by rw[Bx];exact u.2) ⟨?_,λ_=>rfl,λ_=>rfl,H.cf h (n:=3) (λ_=>rfl) ?_⟩⟩
  ·intro a b J hb _;cases J;cases hb;obtain⟨U,t1,K⟩:=H.cbk d;obtain⟨V,t2,N⟩:=H.cbk h;exact⟨⟨_, _,K⟩,⟨_, _,N⟩⟩
  ·rw[I];refine ab (λc=>next ?_) (λc=>?_)
   ·rw[hb,Bool.and_eq_false_iff];left;simp only[H6,decide_eq_true_eq,bne_iff_ne] at c;rw[decide_eq_false_iff_not];rintro⟨c1,c2⟩;rcases c with c|c
    ·exact c1 c
    ·exact c c2
   ·have c0:j≠i/\x.vm=0:=by simpa using c
    rw[decide_eq_true c0,Bool.true_and] at hb;refine⟨rfl,rfl,rfl,H.cf h (n:=4) (λ_=>rfl) ⟨λ_=>rfl,λ_=>rfl,H.cf d (n:=2) (λ_=>rfl) ⟨λ_=>rfl,λ_=>rfl,λ_=>rfl,H.cf d (n:=4) (λ_=>rfl) ?_⟩⟩⟩;refine ab (λc=>yes ?_) (λc1=>?_)
    ·rw[hb,H6];left;rw[<-H7];exact c
    ·refine⟨rfl,rfl,rfl,H.cf h (n:=4) (λ_=>rfl) ⟨λ_=>rfl,λ_=>rfl,H.cf d (n:=2) (λ_=>rfl) ⟨λ_=>rfl,λ_=>rfl,H.cf d (n:=3) (λ_=>rfl) ⟨λ_=>rfl,λ_=>rfl,H.cf d (n:=3) (λ_=>rfl) ⟨λ_=>rfl,λ_=>rfl,λ_=>rfl,H.cf h (n:=5) (λ_=>rfl) ?_⟩⟩⟩⟩⟩;have e:(x.c.1==2&&decide (y.ph>=2)&&decide (y.vm>0)&&aG .u64 y.vm==x.c.2.1)=DF s i x j:=by
      rw[hb];rw[show(x.c.1==1&&(y.ph==4&&y.c.1==2))=false from by rw[<-H7];exact c1,JJ];by_cases O:y.vm>0
      ·rw[eJ (by omega)];simp only[H7]
      ·rw[decide_eq_false O];simp
     rw[e];exact ab (λc=>yes c) (λc=>next c)
 ·have:j=s.cs.length:=by have:=of_decide_eq_false c;omega
  subst this;rw[r];symm;rw[Ij];intro k o;rw[t k (Ca.1 o)];decide
theorem SV (H:MU Q X D G w0 w R s T L M) (b:s.cs[i]? =some x) (u:0<=s.ep.now) (hc:i<s.ep.pins.length) (z:(x.ls.length:Int)<=64) (B:0<s.sz) (m:cL x.c.2.1) (E:sP (aY s.h.g x.vm) (x.c.2.1 / 16) (bh x.c.1)=false) (F:mg s.h x=true) {K:Unit->A2->Prop}
 (k: ∀d,MU Q X D G w0 d R (dn s i x).1 T L M->K () d):
 aB AC 153 (.bG []) [ag (ae R.mb),ag (some ⟨R.cb i,0,none⟩)] w K:=by
 unfold dn at k;rw[ax F] at k;refine H.go λw1 H=>ai (C:=U2) (aS:=λ_=>[]) (B4 (Se _ _ w1 K) ⟨rfl,rfl,H.f1 ⟨rfl,rfl,H.cf b (n:=0) (λ_=>rfl) (V8 H u hc λv d H=>?_)⟩⟩);have I:af AC 201 [ag (some ⟨R.tb i,0,none⟩),aa x.vm,aa (x.c.2.1 / 16),aa (bh x.c.1)] d ((Sh.bG [.one (.int .i64),.one (.int .i64)]).gz ((mO x.ls x.vm (x.c.2.1 / 16) (bh x.c.1)).1,(mO x.ls x.vm (x.c.2.1 / 16) (bh x.c.1)).2,())):=by
  rw[<-SU];obtain⟨a,e,o,m,hb,W,f,J⟩:=H.Dp b;have j:cC D G w0 d ((R.tb i,dz a.st s.sz)::(a.Lt++((a.cb,kh a i x)::(a.Lf++(a.Lw++(T++e)))))) o:=f.perm (b_ λy=>by rw[<-hb];simp only[uL,Ax,Az];omega);exact Uu j.base W.ls z B _ _ _
 have p:=JF H b m;have q:=JG H b;refine⟨rfl,rfl,H.c1 b ⟨rfl,rfl,H.cf b (n:=3) (λ_=>rfl) ⟨_,p, _,q, _,I,?_⟩⟩⟩;dsimp only at k ⊢;refine ab (λc=>?_) (λc=>?_)
 ·have c:(mO x.ls x.vm (x.c.2.1 / 16) (bh x.c.1)).2=0:=by simpa using c
  rw[ax c] at k;refine⟨rfl,rfl,H.cs b {x with ph:=3} 2 rfl rfl (λ_=>rfl) (λa h=>⟨h.ls,h.fs,λc=>(by cases c)⟩) λl H=>⟨rfl,rfl,?_⟩⟩;refine H.cs (e_ b) {x with ph:=3,fr:=(mO x.ls x.vm (x.c.2.1 / 16) (bh x.c.1)).1} 9 rfl rfl (λ_=>rfl) (λa h=>⟨h.ls,h.fs,λc=>(by cases c)⟩) λN H=>H.en λr H=>?_;rw[kW] at H;exact k r H
 ·have c:(mO x.ls x.vm (x.c.2.1 / 16) (bh x.c.1)).2≠0:=by simpa using c
  rw[ao c] at k;have O:af AC 21 [ag (ae X.hb),aa x.vm] d (aa (aY s.h.g x.vm)):=by
   obtain⟨A,G',L0,S,P,U, _⟩:=H.sat;exact CF S P U x.vm
  refine⟨rfl,rfl,H.f0 ⟨rfl,rfl,H.cf b (n:=3) (λ_=>rfl) ⟨_,O, _,p, _,q,?_⟩⟩⟩;obtain⟨a,e,o,V,hb,W,f,J⟩:=H.Dp b;refine λl t=>Cw (f.ext t).base.again _ _ _ (λhb=>by rw[E] at hb;cases hb) (λ_ bk N j=>?_) l (Ext.refl l);have Y:=(f.ext t).join j;rw[<-V];refine⟨rfl,rfl,Wv (n:=2) (Y.perm (L':=(a.cb,kh a i x)::(a.tb,dz a.st s.sz)::(a.Lt++(a.Lf++(a.Lw++((bk,jM (aY s.h.g x.vm) (x.c.2.1 / 16) (bh x.c.1) 3 (0,0,0,0,()) (none,0,0))::(T++e)))))) (b_ λy=>by simp only[uL,Ax,Az];omega)) 0 rfl rfl rfl λr Z=>⟨rfl,rfl,Wv (n:=8) Z 0 rfl rfl rfl λw6 K5=>enM K5 λw7 K6=>k w7 ?_⟩⟩;have K7:=(K6.perm (L':=a.Lw++((a.cb,((kh a i x).set 2 (aa 2)).set 8 (ag (ae bk)))::(a.tb,dz a.st s.sz)::(a.Lt++(a.Lf++((bk,jM (aY s.h.g x.vm) (x.c.2.1 / 16) (bh x.c.1) 3 (0,0,0,0,()) (none,0,0))::(T++e)))))) (b_ λy=>by simp only[Fo,Ax,Az];omega)).sub (E5 _ _);refine J (a':={a with wp:=some ⟨bk,0,none⟩,Lw:=[(bk,jM (aY s.h.g x.vm) (x.c.2.1 / 16) (bh x.c.1) 3 (0,0,0,0,()) (none,0,0))]}) (x':={x with ph:=2,wk:=fX s.h.s.1 (aY s.h.g x.vm) (x.c.2.1 / 16) (bh x.c.1) 0}) rfl rfl ⟨W.ls,W.fs,λ_=>⟨bk,(none,0,0),[],[],rfl,rfl,.inl ⟨rfl,rfl,rfl⟩,by show((0:Nat):Int)<=3 - 3;decide⟩⟩ (K7.perm (b_ λy=>?_));show BT y ((a.cb,((kh a i x).set 2 (aa 2)).set 8 (ag (ae bk)))::(a.tb,dz a.st s.sz)::(a.Lt++(a.Lf++[(bk,jM (aY s.h.g x.vm) (x.c.2.1 / 16) (bh x.c.1) 3 (0,0,0,0,()) (none,0,0))]))++(T++e))= _;simp only[Ax,Az,Ft];omega
end
theorem _root_.Go.Proofs.YtlcenllcmeebhaaGreat.iE.perm {es:List Db} {ck:Nat} {a b:List KV} (h:iE es ck a) (c:b.Perm a):iE es ck b:=by
 obtain⟨⟨p,h1,d⟩,e,f,g⟩:=h;exact⟨⟨p,h1.trans c.symm,d⟩,e,f,(c.map _).nodup_iff.2 g⟩
def sW (kn:List Int) (ds:List DT) (n:Nat):List Int:=((Ab n).map λ(f:Nat)=>(f:Int)).filter λf=>(mz ds f).1==5&& !kn.contains f
theorem MV (kn:List Int) (ds:List DT) (n:Nat):sW kn ds (n+1)=sW kn ds n++(if((mz ds (n:Int)).1==5&& !kn.contains (n:Int))=true then[(n:Int)] else[]):=by
 unfold sW;rw[J3,Gi,List.filter_append];congr 1;show List.filter _ [(n:Int)]= _;rw[List.filter_cons,List.filter_nil]
theorem V9 {kn:List Int} {ds:List DT} {n:Nat} {f:Int} (h:f∈sW kn ds n):0<=f/\f<(n:Int):=by
 obtain⟨m,a,rfl⟩:=B9.1 (LL.1 h).1;have:=Ca.1 a;omega
theorem SW (kn:List Int) (ds:List DT) (n:Nat):(sW kn ds n).length<=n:=by
 refine JL (Ix _ _) ?_;rw[DY,FW];exact Dl _
section
variable {Q:Sys} {X:HX} {D G:List Nat} {w0 w w1:A2} {B:MB} {R:MR} {s:MS} {T L:List (Nat×List AB)} {M:List (Nat×B3)} {i:Nat} {x:bZ} {g:Option Bool}
theorem MU.tmp (H:MU Q X D G w0 w R s T L M): ∃a b,cC D G w0 w (T++a) b/\ ∀{T' w'},cC D G w0 w' (T'++a) b->MU Q X D G w0 w' R s T' L M:=by
 obtain⟨B,e,H⟩:=H;obtain⟨a,b,K, _, _, _,J⟩:=H.tmp;exact⟨a,b,K,λK=>⟨B,e,J K⟩⟩
theorem MU.look (H:MU Q X D G w0 w R s T L M) (f:Int):jT w (some R.kb) .i64 f (.bool false) (.bool (s.kn.contains f)):=by
 obtain⟨B,rfl,H⟩:=H;obtain⟨j,l,a,J⟩:=H.kns;by_cases c:f∈s.kn
 ·obtain⟨i,b, _⟩:=H.wf.k.BS (B9.2 ⟨f,c,rfl⟩);exact vl (a.get (i:=0) rfl) b (by rw[Fw.2 c])
 ·refine BJ (a.get (i:=0) rfl) (H.wf.k.NW λt d e=>?_) (by rw[HB.2 λh=>c (Fw.1 h)]);obtain⟨y,g,rfl⟩:=B9.1 d;exact c (by rw[<-e];exact g)
theorem MU.ins (H:MU Q X D G w0 w R s T L M) {f:Int} (c:f∉s.kn) {K:A2->Prop} (k: ∀a,MU Q X D G w0 a R {s with kn:=s.kn++[f]} T L M->K a):
 ∃(r:Nat) (es:Array Db) (b:Nat),some R.kb=some r/\bH w r es b/\gU w r .i64 f (.bool true) es b K:=by
 obtain⟨B,rfl,H⟩:=H;obtain⟨n,o,d,J⟩:=H.kns;have g: ∀t∈s.kn.map (λf=>((f,.bool true):KV)),t.1≠f:=λt h e=>by
  obtain⟨y,j,rfl⟩:=B9.1 h;exact c (by rw[<-e];exact j)
 refine⟨B.kb,⟨B.ke⟩,B.kk,rfl,d.get (i:=0) rfl,xB (H.wf.k.NW g) ?_⟩;have l:=d.put (i:=0) rfl (o':= .map ⟨B.ke++[{key:=aa f,val:= .bool true,born:=B.kk}]⟩ (B.kk+1)) trivial;have m:(Array.mk B.ke).push {key:=aa f,val:= .bool true,born:=B.kk}=⟨B.ke++[{key:=aa f,val:= .bool true,born:=B.kk}]⟩:=by apply Array.ext';simp
 rw[m];refine k _ ⟨{B with ke:=B.ke++[{key:=aa f,val:= .bool true,born:=B.kk}],kk:=B.kk+1},rfl,J (kn:=s.kn++[f]) ((H.wf.k.push _ g).perm ?_) l⟩;rw[Gi];exact List.perm_append_singleton _ _
theorem Fj (H:MU Q X D G w0 w R s T L M) (x:s.h.s.2.length<=4096) {K:Option AR×Nat×Nat->A2->Prop}
 (k: ∀r d l,dy eI r (sW s.kn s.h.s.2 s.h.s.2.length) d->MU Q X D G w0 l R {s with kn:=s.kn++sW s.kn s.h.s.2 s.h.s.2.length} (d++T) L M->K r l):
 aB AC 156 (.el (.one .slice)) [ag (ae R.mb)] w K:=by
 refine H.go λw1 H=>ai (C:=U2) (aS:=oH) (B4 (Fh _ w1 K) ⟨rfl,rfl,H.f0 ?_⟩);obtain⟨A,G',L0,S,z, _,J⟩:=H.sat;refine zI S z λe a g i l S=>?_;have H:MU Q X D G w0 l R s ((e,[.slice (ae a) s.h.s.2.length g])::(a,flat eD s.h.s.2++i)::T) L M:=J (T':=[_, _]) S;clear J S z;generalize O:s.h.s.2.length=N at*
 have P: ∀{B:A2} {U:MS} {V:List (Nat×List AB)},MU Q X D G w0 B R U ((e,[.slice (ae a) N g])::(a,flat eD s.h.s.2++i)::V) L M-> ∀f:Int,af AC 25 [ag (ae e),aa f] B ((Sh.bG [eD,.one .bool]).gz (mz s.h.s.2 f,xq s.h.s.2 f,())):=λH f=>by
  obtain⟨L0,p,q⟩:=H.base;subst O;exact af.of λw' h'=>Gm ((p.cZ _ (q _ B5)).ext h') ((p.cZ _ (q _ (B1 _ B5))).ext h') f
 have W:af AC 62 [ag (ae e)] l (aa (N:Int)):=by
  obtain⟨L0,p,q⟩:=H.base;exact af.of (s:= .el (.one (.int .i64))) λw' h'=>rP ((p.cZ _ (q _ B5)).ext h')
 refine⟨_,W,?_⟩;refine⟨λn st t=> ∃(j:Nat) (d:List (Nat×List AB)),j<=N/\n=N - j/\st.2.1=(j:Int)/\dy eI st.1 (sW s.kn s.h.s.2 j) d/\MU Q X D G w0 t R {s with kn:=s.kn++sW s.kn s.h.s.2 j} ((e,[.slice (ae a) N g])::(a,flat eD s.h.s.2++i)::(d++T)) L M,⟨N,λt x=>⟨0,[],FC _,rfl,rfl,dy.nil eI,by
  have:sW s.kn s.h.s.2 0=[]:=rfl;rw[this,DU];exact H.ext x⟩⟩,?_⟩
 clear H;rintro n ⟨r,Y, _⟩ t ⟨j,d,Z,rz,hi,m,H⟩;have hi:Y=(j:Int):=hi;have m:dy eI r (sW s.kn s.h.s.2 j) d:=m;subst hi rz;dsimp only;refine ab (λc=>?_) (λc=>?_)
 ·have Z:j<N:=by have:=of_decide_eq_true c;omega
  have AA:=SW s.kn s.h.s.2 j;have hc:(s.kn++sW s.kn s.h.s.2 j).contains (j:Int)=s.kn.contains (j:Int):=by
   rw[Bool.eq_iff_iff,Fw,Fw,List.mem_append];refine⟨λh=>h.resolve_right λh=>?_,.inl⟩;have:=V9 h;omega
  refine⟨_,P H (j:Int),H.al λb E H=>H.st 0 rfl rfl rfl λw6 H=>⟨rfl,H.cm 0 rfl (show _=some (mz s.h.s.2 (j:Int)).1 from rfl) ⟨λ_=>rfl,λ_=>rfl,H.f4 ⟨s.kn.contains (j:Int),λ_=>?_,?_⟩⟩⟩⟩
  ·have:=H.look (j:Int);rw[show(s.kn++sW s.kn s.h.s.2 j).contains (j:Int)=s.kn.contains (j:Int) from hc] at this;exact this
  ·have H:MU Q X D G w0 w6 R {s with kn:=s.kn++sW s.kn s.h.s.2 j} ((e,[.slice (ae a) N g])::(a,flat eD s.h.s.2++i)::(d++T)) L M:=H.sub (Bs _ _);have o:=MV s.kn s.h.s.2 j;refine ab (λc=>⟨rfl,rfl,H.f4 λw7 u=>?_⟩) (λc w7 u=>⟨N - (j+1),by omega,j+1,d,by omega,rfl,?_,?_,?_⟩)
   ·rw[ax c] at o;have Xj:s.kn.contains (j:Int)=false:=by
     simp only[Dj,Bool.not_eq_true'] at c;exact c.2
    refine(H.ext u).ins (f:=(j:Int)) (λh=>?_) λw8 H=>H.al λv w9 H oh Ib=>?_
    ·rw[<-Fw,hc,Xj] at h;cases h
    ·have H:=H.ext Ib;obtain⟨R',Mo,F,J⟩:=H.tmp;have hb:bN oh v (cellsOf eI (j:Int)):=F.base.cZ _ B5;have K2:=F.perm (L':=d++((v,[aa (j:Int)])::(e,[.slice (ae a) N g])::(a,flat eD s.h.s.2++i)::(T++R'))) (b_ λy=>by simp only[Ax,Az];omega);refine Fz K2 m rfl (ys:=[(j:Int)]) rfl (rN hb) rfl rfl (by rw[F5];omega) λs' I nh fh K3 C9 Tv=>⟨N - (j+1),by omega,j+1,I,by omega,rfl,?_,?_,?_⟩
     ·rw[av (by omega) (by omega)];omega
     ·rw[o];exact fh
     ·have H2:=J (T':=(v,[aa (j:Int)])::(e,[.slice (ae a) N g])::(a,flat eD s.h.s.2++i)::(I++T)) (K3.perm (b_ λy=>by simp only[Ax,Az];omega));rw[o, <-NO];exact MU.ext (H2.sub (Bs _ _)) Tv
   ·rw[av (by omega) (by omega)];omega
   ·rw[o,ao (by rw[c];decide),DU];exact m
   ·rw[o,ao (by rw[c];decide),DU];exact H.ext u
 ·have:j=N:=by have:=of_decide_eq_false c;omega
  subst this;exact H.en λE H=>k r d E m (H.sub ((List.Sublist.refl _).cons _ |>.cons _))
end
structure Bn (s:MS):Prop where
 c8:s.cs.length<=8
 pn:s.ep.pins.length=s.cs.length
 bn:s.bx.length=s.cs.length
 now:0<=s.ep.now/\s.ep.now<4611686018427387000
 ws:s.ep.ws.length<=1000000
 wn: ∀e∈s.ep.ws,0<=e.2/\e.2<=s.ep.now
 ms:s.ms.length<=900000000
 op:s.op.length<=900000000
 bl: ∀q∈s.bx,q.length<=16
 sz:0<s.sz/\s.sz<=64
 ls: ∀y∈s.cs,(y.ls.length:Int)<=s.sz
 vm: ∀y∈s.cs,y.vm<9223372036854775808
 cu: ∀y∈s.cs,cL y.c.2.1/\cL y.c.2.2.1/\cL y.c.2.2.2.1
section
variable {Q:Sys} {X:HX} {D G:List Nat} {w0 w w1:A2} {B:MB} {R:MR} {s:MS} {T L:List (Nat×List AB)} {M:List (Nat×B3)} {i:Nat} {x:bZ} {g:Option Bool}
theorem MU.sys (H:MU Q X D G w0 w R s T L M):vP s.h.s:=by
 obtain⟨B,e,A,ca,la,h1,a,b⟩:=H;exact a
theorem ZQ (H:MU Q X D G w0 w R s T L M) (g:Cd Q s.h) (v k:Int) {a b c:Int} (i:cL a) (hb:cL b) (hc:cL c) {K:Int×Int×Unit->A2->Prop}
 (kk: ∀d,MU Q X D G w0 d R {s with h:=kO s.h v k a b c} T L M->K (xX s.h v k a b c,oW s.h v k a b c,()) d):
 aB AC 42 (.el (.agg iS)) [ag (ae X.hb),aa v,.agg ⟨gf k a b c⟩] w K:=λw1 h1=>by
 obtain⟨B,e,H⟩:=H.ext h1;obtain⟨j,L',f,J⟩:=H.hv;exact ZH f g v k i hb hc λd f=>kk d ⟨B,e,J f⟩
theorem SX (H:MU Q X D G w0 w R s T L M) (hc:i<s.bx.length) (v:s.bx.length<=8) (x:s.op.length<=900000000) (c: ∀q∈s.bx,q.length<=16) (t p:Int) {K:Int×Int×Unit->A2->Prop}
 (k: ∀e a,MU Q X D G w0 a R {s with bx:=(dF s.bx s.op i t p).2.1,op:=(dF s.bx s.op i t p).2.2} T L M->K ((dF s.bx s.op i t p).1,e,()) a):
 aB AC 157 (.bG [.one (.int .i64),.one (.int .i64)]) [ag (ae R.xb),aa (i:Int),aa t,aa p] w K:=by
 obtain⟨B,rfl,H⟩:=H;obtain⟨y,z,d,J⟩:=H.bxs;have W:=H.wf;have f:=W.l;refine R2 d W.b W.o W.l i (by omega) (by omega) (by omega) c t p λe g h j a m n r u=>k e a ⟨{B with so:=h,Lo:=j,cr:=g},rfl,J (op:=(dF s.bx s.op i t p).2.2) (bx:=(dF s.bx s.op i t p).2.1) r ?_ n u⟩;rw[m,f];unfold dF;split
 ·rfl
 ·split
  ·rfl
  ·simp
theorem ZR {b:List (Nat×List AB)} (H:MU Q X D G w0 w R s (b++T) L M) (d:s.cs[i]? =some x) {r:Option AR×Nat×Nat} {l:List Int} (e:dy eI r l b) {K:A2->Prop}
 (k: ∀w1,MU Q X D G w0 w1 R (cD s i {x with fs:=l}) T L M->K w1):az w (ad (some ⟨R.cb i,0,none⟩) 13) [.slice r.1 r.2.1 r.2.2] K:=by
 obtain⟨a,c,o,f,hb,W,g,J⟩:=H.Dp d;rw[<-f];refine Wv (n:=13) (g.perm (L':=(a.cb,kh a i x)::(a.tb,dz a.st s.sz)::(a.Lt++(a.Lw++(a.Lf++(b++(T++c)))))) (b_ λy=>by simp only[uL,Ax,Az];omega)) 0 rfl rfl rfl λh j=>k h ?_;have m:=(j.perm (L':=a.Lf++((a.cb,(kh a i x).set 13 (.slice r.1 r.2.1 r.2.2))::(a.tb,dz a.st s.sz)::(a.Lt++(a.Lw++(b++(T++c)))))) (b_ λy=>by simp only[Fo,Ax,Az];omega)).sub (E5 _ _);refine J (a':={a with sf:=r,Lf:=b}) (x':={x with fs:=l}) rfl rfl ⟨W.ls,e,W.wk⟩ (m.perm (b_ λy=>?_));show BT y ((a.cb,(kh a i x).set 13 (.slice r.1 r.2.1 r.2.2))::(a.tb,dz a.st s.sz)::(a.Lt++(b++a.Lw))++(T++c))= _;simp only[Ax,Az];omega
theorem SY {b:Nat} {l:List AB} (H:MU Q X D G w0 w R s ((b,l)::T) L M) (j:l.length=2) (A:s.cs.length<=8) (B:s.bx.length=s.cs.length) (m:s.op.length<=900000000) (o: ∀q∈s.bx,q.length<=16) (r:0<s.sz) (u:(x.ls.length:Int)<=64) (f:s.cs[i]? =some x) (t p:Int) {K:BU->A2->Prop}
 (k: ∀d,MU Q X D G w0 d R (cD {s with bx:=(dF s.bx s.op i t p).2.1,op:=(dF s.bx s.op i t p).2.2} i {x with ls:=jq x.ls t p,ak:=(dF s.bx s.op i t p).1,ph:=4}) T L M->K ((0,0,()),false,()) d):
 aB AC 67 (.bG []) [ag (some ⟨R.cb i,0,none⟩),aa t,aa p] w λ_ d=>
  (some ⟨R.mb,0,none⟩:Option AR).isSome=true/\(some ⟨R.mb,0,none⟩:Option AR).isSome=true/\aj d none (ad (ae R.mb) 2) (.one .ptr) λ(x1:Option AR)=>
  (some ⟨R.cb i,0,none⟩:Option AR).isSome=true/\(some ⟨R.cb i,0,none⟩:Option AR).isSome=true/\aj d none (ad (some ⟨R.cb i,0,none⟩) 0) (.one (.int .i64)) λ(v:Int)=>
  aB AC 157 (.bG [.one (.int .i64),.one (.int .i64)]) [ag x1,aa v,aa t,aa p] d λ(y:Int×Int×Unit) d=>
  (some ⟨R.cb i,0,none⟩:Option AR).isSome=true/\(some ⟨R.cb i,0,none⟩:Option AR).isSome=true/\az d (ad (some ⟨R.cb i,0,none⟩) 12) [aa y.1] λd=>
  (some ⟨R.cb i,0,none⟩:Option AR).isSome=true/\(some ⟨R.cb i,0,none⟩:Option AR).isSome=true/\az d (ad (some ⟨R.cb i,0,none⟩) 2) [aa 4] λd=>
  az d (ae b) [ay 0,aa 0] λd=>au d λw1=>aj w1 none (ae b) (El.agg [.int .u64,.int .i64]) λ(x:Int×Int×Unit)=>K ((x.1,x.2.1,()),false,()) w1:=by
 have C:=(B2.1 f).1;refine zR H f u r t p λd H=>⟨rfl,rfl,H.f2 ⟨rfl,rfl,H.cf (e_ f) (n:=0) (λ_=>rfl) ?_⟩⟩;refine SX H (show i<s.bx.length by omega) (show s.bx.length<=8 by omega) m o t p λe z H=>⟨rfl,rfl,?_⟩;have g:(cD {s with bx:=(dF s.bx s.op i t p).2.1,op:=(dF s.bx s.op i t p).2.2} i {x with ls:=jq x.ls t p}).cs[i]? =some {x with ls:=jq x.ls t p}:=e_ (s:={s with bx:=(dF s.bx s.op i t p).2.1,op:=(dF s.bx s.op i t p).2.2}) f;have H:MU Q X D G w0 z R (cD {s with bx:=(dF s.bx s.op i t p).2.1,op:=(dF s.bx s.op i t p).2.2} i {x with ls:=jq x.ls t p}) ((b,l)::T) L M:=H;refine H.cs g {x with ls:=jq x.ls t p,ak:=(dF s.bx s.op i t p).1} 12 rfl rfl (λ_=>rfl) (λa h=>⟨h.ls,h.fs,h.wk⟩) λE H=>⟨rfl,rfl,?_⟩;refine H.cs (e_ g) {x with ls:=jq x.ls t p,ak:=(dF s.bx s.op i t p).1,ph:=4} 2 rfl rfl (λ_=>rfl) (λa h=>⟨h.ls,h.fs,λc=>(by cases c)⟩) λF H=>?_;rw[kW,kW] at H;exact H.res j 0 0 false k
end
section
variable {Q:Sys} {X:HX} {D G:List Nat} {w0 w w1:A2} {B:MB} {R:MR} {s:MS} {T L:List (Nat×List AB)} {M:List (Nat×B3)} {i:Nat} {x:bZ} {g:Option Bool}
theorem MW (H:MU Q X D G w0 w R s T L M) (Bd:Bn s) (j:s.cs[i]? =some x) (W:Cd Q s.h) (Y:mg s.h x=true->sP (aY s.h.g x.vm) (x.c.2.1 / 16) (bh x.c.1)=false) {K:BU->A2->Prop}
 (k: ∀d,MU Q X D G w0 d R (dn s i x).1 T L M->K (((dn s i x).2.1.1,(dn s i x).2.1.2,()),(dn s i x).2.2,()) d):
 aB AC 110 NH [ag (ae R.mb),ag (some ⟨R.cb i,0,none⟩)] w K:=by
 have F:=DA j;have nc:=(B2.1 j).1;have To:=Bd.ls x F;have I:=Bd.sz;have u:=Bd.cu x F;have J:=Bd.c8;have Fp:=Bd.pn;refine H.go λw1 H=>aR (C:=U2) (aS:=λ_=>[]) (B4 (Ms _ _ w1 K) (H.al λb d H=>⟨mg s.h x,MP H j,?_⟩));by_cases m:mg s.h x=true
 ·have Z:(dn s i x).2=((0,0),false):=by
   unfold dn;rw[ax m];dsimp only;split<;>rfl
  rw[Z] at k;exact aD m (SV H j Bd.now.1 (by omega) (by omega) I.1 u.1 (Y m) m λN H=>H.res rfl 0 0 false k)
 refine an (HB.2 m) ⟨qH s i x,HR H j J Bd.vm,?_⟩;by_cases o:qH s i x=true
 ·have e:dn s i x=(s,(0,9),true):=by unfold dn;rw[ao m,ax o]
  rw[e] at k;exact aD o (H.res rfl 0 9 true k)
 refine an (HB.2 o) ⟨rfl,rfl,H.cf j (n:=3) (λ_=>rfl) ⟨λ_=>rfl,λ_=>rfl,H.cf j (n:=4) (y:=x.c) (λ_=>rfl) ?_⟩⟩;have O:(x.vm==0&&(x.c.1==17&&(x.c.2.1==0&&(x.c.2.2.1==0&&(x.c.2.2.2.1==0&&true)))))=true<->(x.vm=0/\x.c=(17,0,0,0,())):=by
  obtain⟨k1,a1,b1,c1,⟨⟩⟩:=x.c;simp only[Dj,beq_iff_eq,Prod.mk.injEq,and_true]
 by_cases v:x.vm=0/\x.c=(17,0,0,0,())
 ·have e:dn s i x=((dE s).1,((((dE s).2:Nat):Int),0),true):=by unfold dn;rw[ao m,ao o,ax v]
  rw[e] at k;refine aD (O.2 v) (EW H (by omega) Bd.now Bd.ws Bd.wn Bd.ms λN H=>?_);have hlen:(dE s).2<=s.ep.ws.length:=by
   unfold dE oR;rw[kS,DY];refine JL (Ix _ _) ?_;rw[u6];exact Dl _
  have xv:=Bd.ws;rw[eJ (by omega)];exact H.res rfl _ 0 true k
 refine an (HB.2 λc=>v (O.1 c)) ?_;have e:dn s i x=iq s i x:=by unfold dn;rw[ao m,ao o,ao v]
 rw[e] at k;refine⟨rfl,rfl,H.f0 ⟨rfl,rfl,H.cf j (n:=3) (λ_=>rfl) ⟨rfl,rfl,H.cf j (n:=4) (y:=x.c) (λ_=>rfl) (ZQ H W x.vm x.c.1 u.1 u.2.1 u.2.2 λN H=>⟨rfl,rfl,?_⟩)⟩⟩⟩;unfold iq at k;generalize hh':kO s.h x.vm x.c.1 x.c.2.1 x.c.2.2.1 x.c.2.2.2.1=h' at*
 generalize hV:xX s.h x.vm x.c.1 x.c.2.1 x.c.2.2.1 x.c.2.2.2.1=V at*
 generalize f:oW s.h x.vm x.c.1 x.c.2.1 x.c.2.2.1 x.c.2.2.2.1=E at*
 dsimp only at k ⊢;have S:({s with h:=h'}:MS).cs[i]? =some x:=j;refine H.cs S {x with rs:=(V,E)} 10 rfl rfl (λ_=>rfl) (λa h=>⟨h.ls,h.fs,h.wk⟩) λw4 H=>?_;have z:=e_ (y:={x with rs:=(V,E)}) S;refine⟨rfl,rfl,H.cf z (n:=3) (λ_=>rfl) ⟨rfl,rfl,H.cf z (n:=4) (y:=x.c) (λ_=>rfl) ⟨rfl,rfl,H.cf z (n:=10) (y:=(V,E,())) (λ_=>rfl) ?_⟩⟩⟩;have hms:=Bd.ms;refine tM H (show s.ms.length<= _ by omega) (1,x.vm,0,x.c,V,E) λw5 H=>Fj H H.sys.2.2.1 λr Lr w6 hs H=>⟨rfl,rfl,?_⟩;have vr:({ {cD {s with h:=h'} i {x with rs:=(V,E)} with ms:=s.ms++[(1,x.vm,0,x.c,V,E)]} with kn:=s.kn++eR s h'}:MS).cs[i]? =some {x with rs:=(V,E)}:=z;refine ZR (x:={x with rs:=(V,E)}) H vr hs λA H=>?_;have H:MU Q X D G w0 A R (cD {s with h:=h',kn:=s.kn++eR s h',ms:=s.ms++[(1,x.vm,0,x.c,V,E)]} i {x with rs:=(V,E),fs:=eR s h'}) ((b,[ay 0,aa 0])::T) L M:=by
  have H:=H;unfold cD at H;simp only[Dt] at H;exact H
 have l:=e_ (s:={s with h:=h',kn:=s.kn++eR s h',ms:=s.ms++[(1,x.vm,0,x.c,V,E)]}) (y:={x with rs:=(V,E),fs:=eR s h'}) j;have kE:(x.c.1=2\/x.c.1=4\/x.c.1=5\/x.c.1=10->E≠0)-> ∀d,MU Q X D G w0 d R (cD {s with h:=h',kn:=s.kn++eR s h',ms:=s.ms++[(1,x.vm,0,x.c,V,E)]} i {x with rs:=(V,E),fs:=eR s h'}) T L M->K ((V,E,()),true,()) d:=λf d H=>by
  have:=k d;by_cases c:x.c.1=2\/x.c.1=4\/x.c.1=5\/x.c.1=10
  ·rw[ax c,ax (f c)] at this;exact this H
  ·rw[ao c] at this;exact this H
 have kP:x.c.1=2\/x.c.1=4\/x.c.1=5\/x.c.1=10->E=0-> ∀t p:Int,(if x.c.1=2 then aG .i64 x.c.2.1 else x.vm)=t->(if x.c.1=2 then -1 else aG .i64 x.c.2.1)=p-> ∀d,MU Q X D G w0 d R (cD {s with h:=h',kn:=s.kn++eR s h',ms:=s.ms++[(1,x.vm,0,x.c,V,E)],bx:=(dF s.bx s.op i t p).2.1,op:=(dF s.bx s.op i t p).2.2} i {x with rs:=(V,E),fs:=eR s h',ls:=jq x.ls t p,ak:=(dF s.bx s.op i t p).1,ph:=4}) T L M->K ((0,0,()),false,()) d:=λc f t p B q d H=>by
  have:=k d;rw[ax c,ao (by omega),B,q] at this;exact this H
 have tl:=λ(c:x.c.1=2\/x.c.1=4\/x.c.1=5\/x.c.1=10) (f:E=0) (t p:Int) (B:(if x.c.1=2 then aG .i64 x.c.2.1 else x.vm)=t) (q:(if x.c.1=2 then -1 else aG .i64 x.c.2.1)=p)=>SY (i:=i) (K:=K) (x:={x with rs:=(V,E),fs:=eR s h'}) H rfl (show(s.cs.set i _).length<=8 by rw[DJ];exact J) (show s.bx.length=(s.cs.set i _).length by rw[DJ];exact Bd.bn) Bd.op Bd.bl I.1 (show(x.ls.length:Int)<=64 by omega) l t p λU H=>kP c f t p B q U (by
  have H:MU Q X D G w0 U R (cD (cD {s with h:=h',kn:=s.kn++eR s h',ms:=s.ms++[(1,x.vm,0,x.c,V,E)],bx:=(dF s.bx s.op i t p).2.1,op:=(dF s.bx s.op i t p).2.2} i {x with rs:=(V,E),fs:=eR s h'}) i {x with rs:=(V,E),fs:=eR s h',ls:=jq x.ls t p,ak:=(dF s.bx s.op i t p).1,ph:=4}) T L M:=H;rw[kW] at H;exact H)
 refine⟨rfl,rfl,H.cf l (n:=3) (λ_=>rfl) ⟨rfl,rfl,rfl,H.cf l (n:=5) (λ_=>rfl) ⟨rfl,rfl,rfl,H.cf l (n:=4) (λ_=>rfl) ?_⟩⟩⟩;have br: ∀{P:Prop},(E=0->P)->aJ (E != 0) ((some ⟨R.cb i,0,none⟩:Option AR).isSome=true/\(some ⟨R.cb i,0,none⟩:Option AR).isSome=true/\aj A none (ad (some ⟨R.cb i,0,none⟩) 10) (El.agg [.int .u64,.int .i64]) λ(x:Int×Int×Unit)=>az A (ae b) [ay x.1,aa x.2.1] λd=>au d λw1=>aj w1 none (ae b) (El.agg [.int .u64,.int .i64]) λ(x:Int×Int×Unit)=>K ((x.1,x.2.1,()),true,()) w1) P:=λq=>by
  refine ab (λc=>⟨rfl,rfl,H.cf l (n:=10) (y:=(V,E,())) (λ_=>rfl) (H.res rfl _ _ true (kE λ_=>by simpa using c))⟩) (λc=>q (by simpa using c))
 by_cases c2:x.c.1=2
 ·refine aD (by rw[c2];rfl) ⟨rfl,rfl,rfl,H.cf l (n:=5) (λ_=>rfl) ⟨rfl,rfl,rfl,H.cf l (n:=11) (λ_=>rfl) (br λf=>?_)⟩⟩;exact tl (.inl c2) f _ _ (ax c2) (ax c2)
 refine an (beq_eq_false_iff_ne.2 c2) ?_;by_cases c4:x.c.1=4
 ·refine aD (by rw[c4];rfl) (aD (by rw[c4];rfl) ⟨rfl,rfl,rfl,H.cf l (n:=11) (λ_=>rfl) (br λf=>?_)⟩);exact tl (.inr (.inl c4)) f _ _ (ao c2) (ao c2)
 refine an (beq_eq_false_iff_ne.2 c4) ?_;by_cases c5:x.c.1=5
 ·refine aD (by rw[c5];rfl) (aD (by rw[c5];rfl) ⟨rfl,rfl,rfl,H.cf l (n:=11) (λ_=>rfl) (br λf=>?_)⟩);exact tl (.inr (.inr (.inl c5))) f _ _ (ao c2) (ao c2)
 refine an (beq_eq_false_iff_ne.2 c5) ?_;by_cases X3:x.c.1=10
 ·refine aD (by rw[X3];rfl) ⟨rfl,rfl,rfl,H.cf l (n:=11) (λ_=>rfl) (br λf=>?_)⟩;exact tl (.inr (.inr (.inr X3))) f _ _ (ao c2) (ao c2)
 refine an (beq_eq_false_iff_ne.2 X3) ⟨rfl,rfl,H.cf l (n:=10) (y:=(V,E,())) (λ_=>rfl) (H.res rfl _ _ true (kE λc=>?_))⟩;rcases c with c|c|c|c
 ·exact absurd c c2
 ·exact absurd c c4
 ·exact absurd c c5
 ·exact absurd c X3
end
def IA (l:List AB) (n:Int):AB:=match l.get?Internal n.toNat with
 |some x=>x
 |none=>Value.tuple ⟨[]⟩
abbrev sFs:El:= .agg [.func,.func,.func,.func,.func]
def Ka (x:Option AR) (n:Int) (b c:Nat) (Post:BU->A2->Prop) (r:BU) (a:A2):Prop:=
 az a (ae c) [ay r.1.1,aa r.1.2.1] λa=>
  aJ (!r.2.1)
   (az a (ae b) [ay 0,aa 0] λa=>au a λw1=>aj w1 none (ae b) (.agg iS) λ(y:Int×Int×Unit)=>Post ((y.1,y.2.1,()),false,()) w1)
   (x.isSome=true/\x.isSome=true/\aj a none (ad x 1) (.one .ptr) λ(t:Option AR)=>x.isSome=true/\
    az a x [aa n,ag t,aa 0,aa 0,aa 0,ay 0,ay 0,ay 0,ag none,aa 0,ay 0,aa 0,aa 0,.slice none 0 0] λa=>
    aj a none (ae c) (.agg iS) λ(y:Int×Int×Unit)=>az a (ae b) [ay y.1,aa y.2.1] λa=>au a λw1=>aj w1 none (ae b) (.agg iS) λ(y:Int×Int×Unit)=>Post ((y.1,y.2.1,()),true,()) w1)
def abE (p x:Option AR) (n:Int) (b:Nat) (Post:BU->A2->Prop) (a:A2):Prop:=
 x.isSome=true/\x.isSome=true/\aj a none (ad x 2) (.one (.int .i64)) λ(ph:Int)=>
  (aB AC 68 (.el sFs) [ag p] a λ(f:AB×AB×AB×AB×AB×Unit) a=>cH a (ad x 2) (.one (.int .i64)) ph/\True/\True/\(0<=ph/\ph<((5:Nat):Int))/\
   (zX AC (IA [f.1,f.2.1,f.2.2.1,f.2.2.2.1,f.2.2.2.2.1] ph) NH [ag x] a λ(r:BU) a=>aL a ⟨[ay 0,aa 0]⟩ 61 λc a=>Ka x n b c Post r a)/\
   aL a ⟨[ay 0,aa 0]⟩ 61 λc a=>zX AC (IA [f.1,f.2.1,f.2.2.1,f.2.2.2.1,f.2.2.2.2.1] ph) NH [ag x] a λ(r:BU) a=>Ka x n b c Post r a)/\
  aL a ⟨[ay 0,aa 0]⟩ 61 λc a=>aB AC 68 (.el sFs) [ag p] a λ(f:AB×AB×AB×AB×AB×Unit) a=>cH a (ad x 2) (.one (.int .i64)) ph/\True/\True/\(0<=ph/\ph<((5:Nat):Int))/\
   zX AC (IA [f.1,f.2.1,f.2.2.1,f.2.2.2.1,f.2.2.2.2.1] ph) NH [ag x] a λ(r:BU) a=>Ka x n b c Post r a
theorem DX {a:Nat} {sh:Sh} {first args:List AB} {w:A2} {K:sh.T->A2->Prop} (hc:bL AC a=true) (b:aB AC a sh (first++args) w K):zX AC (.func (.func a) ⟨first⟩ #[]) sh args w K:=by
 unfold zX;refine λw1 h1=>⟨a,⟨first⟩, #[],rfl,hc,?_⟩;have e:cY ⟨first⟩ args #[]=first++args:=by unfold cY;simp
 rw[e];exact b w1 h1
abbrev FJ (mb f:Nat):AB:= .func (.func f) ⟨[ag (ae mb)]⟩ #[]
structure Sx (s:MS) (i:Nat) (x:bZ):Prop where
 ph:0<=x.ph/\x.ph<=4
 wk:x.ph=2->0<=x.wk.2.1/\x.wk.2.1<=3
 ln:x.ph=2->(bj s.h.s.1 (x.c.2.1 / 16) (bh x.c.1) x.wk).2.1= -1->(bj s.h.s.1 (x.c.2.1 / 16) (bh x.c.1) x.wk).2.2.2.2.2.1=0->lnR (x.vm,x.c.2.1 / 16,(bj s.h.s.1 (x.c.2.1 / 16) (bh x.c.1) x.wk).2.2.1,(bj s.h.s.1 (x.c.2.1 / 16) (bh x.c.1) x.wk).2.2.2.1,())=true
 fr:x.ph=3->0<=x.fr/\x.fr<4096
 ak:x.ph=4->x.ak<4611686018427387904/\x.fs.length<=1000000/\ ∀f∈x.fs,0<=f
 bw:mg s.h x=true->sP (aY s.h.g x.vm) (x.c.2.1 / 16) (bh x.c.1)=false
 tk: ∀a q,s.bx[i]? =some (a::q)->(1<=a.1/\a.1<=(s.op.length:Int))/\ -1000<=s.op.getD (a.1 - 1).toNat 0/\s.op.getD (a.1 - 1).toNat 0<=1000
section
variable {Q:Sys} {X:HX} {D G:List Nat} {w0 w w1:A2} {B:MB} {R:MR} {s:MS} {T L:List (Nat×List AB)} {M:List (Nat×B3)} {i:Nat} {x:bZ} {g:Option Bool}
theorem zS (H:MU Q X D G w0 w R s T L M) {K:AB×AB×AB×AB×AB×Unit->A2->Prop} (k: ∀a,MU Q X D G w0 a R s T L M->K (FJ R.mb 109,FJ R.mb 110,FJ R.mb 111,FJ R.mb 112,FJ R.mb 113,()) a):
 aB AC 68 (.el sFs) [ag (ae R.mb)] w K:=by
 refine H.go λw1 H=>aR (C:=U2) (aS:=λ_=>[]) (B4 (HF _ w1 K) (H.al λb a H=>H.st 0 rfl rfl rfl λd H=>H.en λc H=>H.ld 0 rfl (show _=some (FJ R.mb 109,FJ R.mb 110,FJ R.mb 111,FJ R.mb 112,FJ R.mb 113,()) from rfl) (k c (H.sub (Bs _ _)))))
theorem vn (H:MU Q X D G w0 w R s T L M) (Bd:Bn s) (a:s.cs[i]? =some x) (f:Cd Q s.h) (S:Sx s i x) {K:BU->A2->Prop}
 (k: ∀d,MU Q X D G w0 d R (bQ s i x).1 T L M->K (((bQ s i x).2.1.1,(bQ s i x).2.1.2,()),(bQ s i x).2.2,()) d):
 zX AC (IA [FJ R.mb 109,FJ R.mb 110,FJ R.mb 111,FJ R.mb 112,FJ R.mb 113] x.ph) NH [ag (some ⟨R.cb i,0,none⟩)] w K:=by
 have c:=DA a;have g:=(B2.1 a).1;have j:=Bd.pn;have l:=Bd.c8;have m:=S.ph;by_cases c0:x.ph=0
 ·have e:bQ s i x=((dE s).1,(0,0),false):=ax c0;rw[e] at k;rw[c0];exact DX (first:=[_]) (by kernel_rfl) (SN H (by omega) Bd.now Bd.ws Bd.wn Bd.ms _ k)
 by_cases c1:x.ph=1
 ·have e:bQ s i x=dn s i x:=by unfold bQ;rw[ao c0,ax c1]
  rw[e] at k;rw[c1];exact DX (first:=[_]) (by kernel_rfl) (MW H Bd a f S.bw k)
 by_cases c2:x.ph=2
 ·have e:bQ s i x=kz s i x:=by unfold bQ;rw[ao c0,ao c1,ax c2]
  rw[e] at k;rw[c2];have b:(kz s i x).2.1.1=0:=by
   unfold kz;dsimp only;split
   ·rfl
   ·split<;>rfl
  rw[b] at k;exact DX (first:=[_]) (by kernel_rfl) (SS H a c2 (S.wk c2) (Bd.cu x c).1 (by omega) (Bd.ls x c) Bd.sz (S.ln c2) k)
 by_cases c3:x.ph=3
 ·have e:bQ s i x=fP s i x:=by unfold bQ;rw[ao c0,ao c1,ao c2,ax c3]
  rw[e] at k;rw[c3];have b:(fP s i x).2.1.2=0/\(fP s i x).2.2=true:=by
   unfold fP;dsimp only;split<;>exact⟨rfl,rfl⟩
  rw[b.1,b.2] at k;exact DX (first:=[_]) (by kernel_rfl) (MQ H a (S.fr c3) (Bd.cu x c).1 (Bd.cu x c).2.1 (by omega) Bd.ms k)
 have c4:x.ph=4:=by omega
 have e:bQ s i x=ir s x:=by unfold bQ;rw[ao c0,ao c1,ao c2,ao c3]
 rw[e] at k;rw[c4];have b:(if(ir s x).2.2=true then((ir s x).2.1.1,(ir s x).2.1.2,()) else(0,0,()))=((ir s x).2.1.1,(ir s x).2.1.2,()):=by
  unfold ir;split<;>rfl
 rw[<-b] at k;exact DX (first:=[_]) (by kernel_rfl) (SO H a (S.ak c4).1 (S.ak c4).2.1 (S.ak c4).2.2 k)
end
theorem CQ: ∀(l:List Int) (s:MS),(l.foldl gS s).cs=s.cs
 |[],s=>rfl
 |f::l,s=>by rw[FX,CQ l];rfl
theorem JH (s:MS):(dE s).1.cs=s.cs:=by unfold dE;rw[CQ]
theorem MX (s:MS) (i:Nat) (x:bZ):(dn s i x).1.cs.length=s.cs.length:=by
 have a: ∀(s:MS) (y:bZ),(cD s i y).cs.length=s.cs.length:=λs y=>DJ ..;unfold dn;split
 ·dsimp only;split<;>exact a _ _
 ·split
  ·rfl
  ·split
   ·dsimp only;rw[JH]
   ·unfold iq;dsimp only;split
    ·split<;>exact a _ _
    ·exact a _ _
theorem MY (s:MS) (i:Nat) (x:bZ):(bQ s i x).1.cs.length=s.cs.length:=by
 have a: ∀(s:MS) (y:bZ),(cD s i y).cs.length=s.cs.length:=λs y=>DJ ..;unfold bQ;split
 ·dsimp only;rw[JH]
 ·split
  ·exact MX s i x
  ·split
   ·unfold kz;dsimp only;split
    ·exact a _ _
    ·split<;>exact a _ _
   ·split
    ·unfold fP;dsimp only;split<;>rfl
    ·unfold ir;split<;>rfl
section
variable {Q:Sys} {X:HX} {D G:List Nat} {w0 w w1:A2} {B:MB} {R:MR} {s:MS} {T L:List (Nat×List AB)} {M:List (Nat×B3)} {i:Nat} {x:bZ} {g:Option Bool}
theorem V_ {b d:Nat} {l g:List AB} (H:MU Q X D G w0 w R s ((d,g)::(b,l)::T) L M) (h:l.length=2) (m:g.length=2) (j:s.cs[i]? =some x) (r:BU) {K:BU->A2->Prop}
 (k: ∀e,MU Q X D G w0 e R (if r.2.1=true then cD s i (cJ x.ls) else s) T L M->K (if r.2.1=true then((r.1.1,r.1.2.1,()),true,()) else((0,0,()),false,())) e):
 Ka (some ⟨R.cb i,0,none⟩) (i:Int) b d K r w:=by
 unfold Ka;refine H.st 0 rfl rfl m.symm λe H=>ab (λc=>?_) (λc=>?_)
 ·have c:r.2.1=false:=by simpa using c
  rw[c] at k;exact MU.res (H.sub (Bs _ _)) h 0 0 false k
 ·have c:r.2.1=true:=by simpa using c
  rw[c] at k;refine⟨rfl,rfl,H.c1 j ⟨rfl,?_⟩⟩;obtain⟨a,f,u,n,hb,W,o,J⟩:=H.Dp j;rw[<-n, <-hb];refine stB (o.perm (L':=(a.cb,kh a i x)::(a.tb,dz a.st s.sz)::(a.Lt++(a.Lf++(a.Lw++(((d,[ay r.1.1,aa r.1.2.1])::(b,l)::T)++f))))) (b_ λy=>by simp only[ae,uL,Ax,Az,Fo];omega)) 0 rfl rfl rfl λp q=>?_;have t:=(q.perm (L':=a.Lf++(a.Lw++((a.cb,[aa (i:Int),ag (ae a.tb),aa 0,aa 0,aa 0,ay 0,ay 0,ay 0,ag none,aa 0,ay 0,aa 0,aa 0,.slice none 0 0])::(a.tb,dz a.st s.sz)::(a.Lt++(((d,[ay r.1.1,aa r.1.2.1])::(b,l)::T)++f))))) (b_ λy=>by simp only[ae,Fo,Ax,Az];omega)).sub ((E5 _ _).trans (E5 _ _));have H:MU Q X D G w0 p R (cD s i (cJ x.ls)) ((d,[ay r.1.1,aa r.1.2.1])::(b,l)::T) L M:=by
   refine J (a':={a with wp:=none,sf:=(none,0,0),Lf:=[],Lw:=[]}) (x':=cJ x.ls) rfl rfl ⟨W.ls,dy.nil eI,λc=>(by cases c)⟩ (t.perm (b_ λy=>?_));show BT y ((a.cb,[aa (i:Int),ag (ae a.tb),aa 0,aa 0,aa 0,ay 0,ay 0,ay 0,ag none,aa 0,ay 0,aa 0,aa 0,.slice none 0 0])::(a.tb,dz a.st s.sz)::(a.Lt++([]++[]))++(((d,[ay r.1.1,aa r.1.2.1])::(b,l)::T)++f))= _;simp only[ae,Ax,Az,Ft];omega
  exact H.ld 0 rfl (show _=some (r.1.1,r.1.2.1,()) from rfl) (MU.res (H.sub (Bs _ _)) h _ _ true k)
theorem EX {b:Nat} {l:List AB} (H:MU Q X D G w0 w R s ((b,l)::T) L M) (q:l.length=2) (Bd:Bn s) (a:s.cs[i]? =some x) (g:Cd Q s.h) (S:Sx s i x) {K:BU->A2->Prop}
 (k: ∀d,MU Q X D G w0 d R (ig (bQ s i x) i x).1 T L M->K (((ig (bQ s i x) i x).2.1.1,(ig (bQ s i x) i x).2.1.2,()),(ig (bQ s i x) i x).2.2,()) d):
 abE (ae R.mb) (some ⟨R.cb i,0,none⟩) (i:Int) b K w:=by
 have u:=(B2.1 a).1;have v:=MY s i x;obtain⟨x',j⟩: ∃x',(bQ s i x).1.cs[i]? =some x':=⟨_,DG (by omega)⟩;have r:(bQ s i x).1.cs.getD i x=x':=by rw[Ds,j];rfl
 unfold ig at k;rw[r] at k;have m:=S.ph;have fin: ∀{e:Nat} {o:List AB} {d:A2},o.length=2->MU Q X D G w0 d R (bQ s i x).1 ((e,o)::(b,l)::T) L M->Ka (some ⟨R.cb i,0,none⟩) (i:Int) b e K (((bQ s i x).2.1.1,(bQ s i x).2.1.2,()),(bQ s i x).2.2,()) d:=λt H=>by
  refine V_ H q t j _ λf H=>?_;have:=k f;dsimp only at H ⊢;by_cases c:(bQ s i x).2.2=true
  ·rw[ax c] at H this ⊢;exact this H
  ·rw[ao c] at H this ⊢;exact this H
 refine⟨rfl,rfl,H.cf a (n:=2) (λ_=>rfl) ⟨?_,?_⟩⟩
 ·refine zS H λd H=>⟨H.crd a (n:=2) λ_=>rfl,trivial,trivial,⟨m.1,by show x.ph<5;omega⟩,?_,?_⟩
  ·exact vn H Bd a g S λf H=>H.al λe p H=>fin rfl H
  ·exact H.al λe f H=>vn H Bd a g S λp H=>fin rfl H
 ·exact H.al λe d H=>zS H λf H=>⟨H.crd a (n:=2) λ_=>rfl,trivial,trivial,⟨m.1,by show x.ph<5;omega⟩,vn H Bd a g S λp H=>fin rfl H⟩
theorem SZ (H:MU Q X D G w0 w R s T L M) (Bd:Bn s) (hi:i<s.cs.length) (m: ∀a q,s.bx[i]? =some (a::q)->(1<=a.1/\a.1<=(s.op.length:Int))/\ -1000<=s.op.getD (a.1 - 1).toNat 0/\s.op.getD (a.1 - 1).toNat 0<=1000) {K:(Int×Int×Int×Unit)×Bool×Unit->A2->Prop}
 (kn:yc s i=none-> ∀c,MU Q X D G w0 c R s T L M->K ((0,0,0,()),false,()) c)
 (ks: ∀a s1,yc s i=some (a,s1)-> ∀c,MU Q X D G w0 c R s1 T L M->K (a,true,()) c):
 aB AC 66 (.bG [.agg [.int .i64,.int .i64,.int .i64],.one .bool]) [ag (ae R.xb),aa (i:Int)] w K:=by
 obtain⟨B,rfl,H⟩:=H;obtain⟨p,r,n,J⟩:=H.bxs;have W:=H.wf;have f:=W.l;have t:=Bd.bn;have u:=Bd.op;refine RZ n W.b W.o W.l i (by omega) m (by omega) λg h c j k d e=>?_;unfold vJ at d e ⊢;unfold yc at kn ks;cases hb:s.bx[i]? with
 |none=>
  rw[hb] at d e kn;exact kn rfl c ⟨{B with so:=B.so,Lo:=h,cr:=g},rfl,J (op:=s.op) (bx:=s.bx) d (by rw[j,f]) k e⟩
 |some q=>
  cases q with
  |nil=>
   rw[hb] at d e kn;exact kn rfl c ⟨{B with so:=B.so,Lo:=h,cr:=g},rfl,J (op:=s.op) (bx:=s.bx) d (by rw[j,f]) k e⟩
  |cons a q=>
   rw[hb] at d e ks;refine ks a _ rfl c ⟨{B with so:=B.so,Lo:=h,cr:=g},rfl,J (op:=s.op.set (a.1 - 1).toNat (s.op.getD (a.1 - 1).toNat 0 - 1)) (bx:=s.bx.set i q) d (by rw[j,f,DJ]) k e⟩
theorem S3 (H:MU Q X D G w0 w R s T L M) (Bd:Bn s) (j:Cd Q s.h) (S: ∀i x,s.cs[i]? =some x->Sx s i x) (n:Int) {K:BU->A2->Prop}
 (k: ∀g,MU Q X D G w0 g R (bA s n).1 T L M->K (((bA s n).2.1.1,(bA s n).2.1.2,()),(bA s n).2.2,()) g):
 aB AC 31 NH [ag (ae R.mb),aa n] w K:=by
 refine H.go λw1 H=>aR (C:=U3) (aS:=λ_=>[]) (B4 (R8 _ n w1 K) (H.al λb g H=>⟨_,Xe H n,?_⟩));by_cases c:0<=n/\n<(s.cs.length:Int)
 ·obtain⟨i,rfl⟩: ∃i:Nat,n=(i:Int):=⟨n.toNat,by omega⟩;rw[ax c,Bx];have l:i<s.cs.length:=by omega
  obtain⟨x,f⟩: ∃x,s.cs[i]? =some x:=⟨_,DG l⟩;have t:=Bd.ls x (DA f);have u:=Bd.sz;have e:bA s (i:Int)=lz s i x:=by unfold bA;rw[ao (by omega),Bx,f]
  rw[e] at k;unfold lz at k;refine an rfl ⟨rfl,rfl,H.cf f (n:=2) (λ_=>rfl) (ab (λc=>?_) (λc=>?_))⟩
  ·have c3:x.ph≠3:=by simpa using c
   rw[ao c3] at k;refine⟨rfl,rfl,H.f2 (SZ H Bd l (S i x f).tk (λd m H=>?_) (λa s1 d m H=>?_))⟩
   ·rw[d] at k;exact H.al λo p H=>H.st 0 rfl rfl rfl λq H=>an rfl (EX (H.sub (Bs _ _)) rfl Bd f j (S i x f) k)
   ·rw[d] at k;have r:s1.cs[i]? =some x:=by
     unfold yc at d;split at d
     ·cases d;exact f
     ·cases d
    have v:s1.sz=s.sz:=by
     unfold yc at d;split at d
     ·cases d;rfl
     ·cases d
    refine H.al λo p H=>H.st 0 rfl rfl rfl λq H=>aD rfl ⟨rfl,H.cm 0 rfl (show _=some a.2.1 from rfl) ⟨rfl,H.cm 0 rfl (show _=some a.2.2.1 from rfl) ?_⟩⟩;exact zR H r (by omega) (by omega) _ _ λy H=>MU.res (H.sub (Bs _ _)) rfl 0 0 false k
  ·have c3:x.ph=3:=by simpa using c
   rw[ax c3] at k;exact EX H rfl Bd f j (S i x f) k
 ·rw[ao c];have e:bA s n=(s,(0,0),false):=by
   unfold bA;by_cases h:n<0
   ·rw[ax h]
   ·rw[ao h,NP (by omega)]
  rw[e] at k;exact aD rfl (H.res rfl 0 0 false k)
end
def phN (s:MS) (n:Int):Int:=if n<0 then 0 else match s.cs[n.toNat]? with
 |none=>0
 |some x=>x.ph
section
variable {Q:Sys} {X:HX} {D G:List Nat} {w0 w w1:A2} {B:MB} {R:MR} {s:MS} {T L:List (Nat×List AB)} {M:List (Nat×B3)} {i:Nat} {x:bZ} {g:Option Bool}
theorem ZS {n:Int} (c: ¬ (0<=n/\n<(s.cs.length:Int))):n<0\/s.cs[n.toNat]? =none:=by
 by_cases h:n<0
 ·exact .inl h
 ·exact .inr (NP (by omega))
theorem xO (H:MU Q X D G w0 w R s T L M) (n vm k:Int) {a b c:Int} {K:Int->A2->Prop}
 (kk: ∀g,MU Q X D G w0 g R (eh s n vm (k,a,b,c,())) T L M->K (Dz s n) g):
 aB AC 29 (.el (.one (.int .i64))) [ag (ae R.mb),aa n,aa vm,.agg ⟨gf k a b c⟩] w K:=by
 refine H.go λw1 H=>ai (C:=U2) (aS:=λ_=>[]) (B4 (VJ _ n vm k a b c w1 K) (H.al λl g H=>⟨_,Xe H n,λ_=>rfl,λ_=>rfl,H.f0 (an rfl ?_)⟩));by_cases hc:0<=n/\n<(s.cs.length:Int)
 ·obtain⟨i,rfl⟩: ∃i:Nat,n=(i:Int):=⟨n.toNat,by omega⟩;rw[ax hc,Bx];obtain⟨x,d⟩: ∃x,s.cs[i]? =some x:=⟨_,DG (by omega)⟩;unfold eh Dz at kk;rw[ao (by omega),ao (by omega),Bx,d] at kk;dsimp only at kk;refine an rfl ⟨rfl,rfl,H.cf d (n:=2) (λ_=>rfl) (ab (λe=>?_) (λe=>?_))⟩
  ·have e:x.ph≠0:=by simpa using e
   rw[ao e,ao e] at kk;exact H.en λf H=>kk f (H.sub (Bs _ _))
  ·have c0:x.ph=0:=by simpa using e
   rw[ax c0,ax c0] at kk;refine H.ld 0 rfl (show _=some (k,a,b,c,()) from rfl) ⟨rfl,rfl,H.cs d {x with ph:=1} 2 rfl rfl (λ_=>rfl) (λa h=>⟨h.ls,h.fs,λc=>(by cases c)⟩) λf H=>⟨?_,rfl,rfl,?_⟩⟩
   ·have:=H.rd 0 (n:=0) (el:= .agg sCl) rfl (show _=some (k,a,b,c,()) from rfl);rw[aX] at this;exact this
   refine H.cs (e_ d) {x with ph:=1,vm:=vm} 3 rfl rfl (λ_=>rfl) (λa h=>⟨h.ls,h.fs,λc=>(by cases c)⟩) λm H=>⟨?_,rfl,rfl,?_⟩
   ·have:=H.rd 0 (n:=0) (el:= .agg sCl) rfl (show _=some (k,a,b,c,()) from rfl);rw[aX] at this;exact this
   refine H.cs (e_ (e_ d)) {x with ph:=1,vm:=vm,c:=(k,a,b,c,())} 4 rfl rfl (λ_=>rfl) (λa h=>⟨h.ls,h.fs,λc=>(by cases c)⟩) λo H=>H.en λj H=>?_;simp only[kW] at H;exact kk j (H.sub (Bs _ _))
 ·rw[ao hc];have e:eh s n vm (k,a,b,c,())=s/\Dz s n=2:=by
   unfold eh Dz;rcases ZS hc with h|h
   ·rw[ax h,ax h];exact⟨rfl,rfl⟩
   ·rw[h];constructor<;>split<;>rfl
  rw[e.1,e.2] at kk;exact aD rfl (H.en λf H=>kk f (H.sub (Bs _ _)))
theorem zk (H:MU Q X D G w0 w R s T L M):af AC 17 [ag (ae R.mb)] w (ag (ae X.hb)):=by
 refine af.of (s:= .el (.one .ptr)) λw1 h1=>ai (C:=U2) (aS:=λ_=>[]) (B4 (Mt _ w1 _) ?_);exact an rfl ⟨rfl,rfl,(H.ext h1).f0 λb a=>⟨rfl,a⟩⟩
theorem Fk (H:MU Q X D G w0 w R s T L M) (l:s.ep.ws.length<=1000000) {K:Option AR×Nat×Nat->A2->Prop}
 (k: ∀r a c,dy eI r (lx (s.ep.ws.map (·.1))) a->MU Q X D G w0 c R s (a++T) L M->K r c):
 aB AC 32 (.el (.one .slice)) [ag (ae R.mb)] w K:=by
 refine H.go λw1 H=>ai (C:=U2) (aS:=λ_=>[]) (B4 (Fi _ w1 K) (an rfl ⟨rfl,rfl,H.f1 ?_⟩));obtain⟨B,rfl,b⟩:=H;obtain⟨m,n,d,J⟩:=b.eps;refine RW d b.wf.w (by omega) B5 λr o a c e f g h i j=>k r a i (by rw[<-Xf e f];exact g) ⟨_,rfl,J (T':=a++T) (ep:=s.ep) b.wf.p b.wf.w ((h.perm (b_ λy=>by simp only[Ax,Az];omega)).ext j)⟩
end
section
variable {Q:Sys} {X:HX} {D G:List Nat} {w0 w w1:A2} {B:MB} {R:MR} {s:MS} {T L:List (Nat×List AB)} {M:List (Nat×B3)} {i:Nat} {x:bZ} {g:Option Bool}
abbrev sX (B:MB) (n:Nat) (sc:Option AR×Nat×Nat) (Lc:List (Nat×List AB)) (a:CA):MB:={B with sc:=sc,Lc:=Lc,A:=λk=>if k=n then a else B.A k}
theorem iC.cps (H:iC Q X D G w0 w B s T L M): ∃j n,cC D G w0 w ((B.mb,rJ X B)::(B.Lc++(T++j))) n/\
 ∀{T' sc Lc a x w'},dy eP sc (yz B s.cs.length++[some ⟨a.cb,0,none⟩]) Lc->Tg a x->cC D G w0 w' ((B.mb,rJ X (sX B s.cs.length sc Lc a))::(Lc++(uL a s.cs.length x s.sz++(T'++j)))) n->iC Q X D G w0 w' (sX B s.cs.length sc Lc a) {s with cs:=s.cs++[x]} T' L M:=by
 obtain⟨A,ca,la,h1,r,d,t⟩:=H;refine⟨(B.eb,oJ s.ep.now B.sp B.wb)::(B.xb,lU B.sb B.so)::(B.Lm++(B.Lp++(B.Lb++(B.Lo++(gX B s (Ab s.cs.length)++(FI Q X A ca la s.h++L)))))), _,t.perm (b_ λa=>by simp only[Ax,Az];omega),λ{T' sc Lc a x w'} u v K=>?_⟩;have g: ∀k,k<s.cs.length->(sX B s.cs.length sc Lc a).A k=B.A k:=λk c=>ao (by omega);have i:(sX B s.cs.length sc Lc a).A s.cs.length=a:=ax rfl;have q:(s.cs++[x]).length=s.cs.length+1:=by rw[FY];rfl
 have z:yz (sX B s.cs.length sc Lc a) (s.cs++[x]).length=yz B s.cs.length++[some ⟨a.cb,0,none⟩]:=by
  show(Ab (s.cs++[x]).length).map _= _;rw[q,J3,Gi];congr 1
  ·exact M5 λk c=>by rw[g k (Ca.1 c)]
  ·show[some (⟨((sX B s.cs.length sc Lc a).A s.cs.length).cb,0,none⟩:AR)]= _;rw[i]
 have C:gX (sX B s.cs.length sc Lc a) {s with cs:=s.cs++[x]} (Ab (s.cs++[x]).length)=gX B s (Ab s.cs.length)++uL a s.cs.length x s.sz:=by
  unfold gX;rw[q,J3,List.flatMap_append];congr 1
  ·refine gy λk c=>?_;have c:=Ca.1 c;show(match (s.cs++[x])[k]? with|some x=> _|none=> _)= _;rw[FV c,g k c]<;>cases s.cs[k]? <;>rfl
  ·show(match (s.cs++[x])[s.cs.length]? with|some x=>uL ((sX B s.cs.length sc Lc a).A s.cs.length) s.cs.length x s.sz|none=> _)++[]= _;rw[J4 (Dl _),JN,i];exact DU _
 refine⟨A,ca,la,h1,r,⟨by rw[z];exact u,d.m,d.p,d.b,d.o,d.l,d.k,d.w,λ{k y} f=>?_⟩,K.perm ?_⟩
 ·have f:(s.cs++[x])[k]? =some y:=f;by_cases c:k<s.cs.length
  ·rw[FV c] at f;rw[g k c];exact d.a f
  ·have E:=(B2.1 f).1;have e:k=s.cs.length:=by omega
   subst e;rw[J4 (Dl _),JN] at f;cases f;rw[i];exact v
 ·show(T'++(((B.mb,rJ X (sX B s.cs.length sc Lc a))::(B.eb,oJ s.ep.now B.sp B.wb)::(B.xb,lU B.sb B.so)::(Lc++(B.Lm++(B.Lp++(B.Lb++B.Lo)))))++(gX (sX B s.cs.length sc Lc a) {s with cs:=s.cs++[x]} (Ab (s.cs++[x]).length)++(FI Q X A ca la s.h++L)))).Perm _;rw[C];exact b_ λa=>by simp only[Ax,Az];omega
abbrev mZ (f c j:Nat) (l:Int):MS:={m0 f c l with cs:=C8 j (cJ [])}
theorem Cv (H:aK D G w0 w L) (f c l:Int) (hf:4<=f/\f<=4096) (hl:1<=l/\l<=64) {K:Option AR×Int×Unit->A2->Prop} (kb:c<1\/c>8-> ∀w1,aK D G w0 w1 L->K (none,1,()) w1)
 (V:1<=c->c<=8-> ∀Q X R w1,Q.c=16*f.toNat->MU Q X D G w0 w1 R (m0 f.toNat c.toNat l) [] L []->K (some ⟨R.mb,0,none⟩,0,()) w1):
 aB AC 52 (.bG [.one .ptr,.one (.int .i64)]) [aa f,aa c,aa l] w K:=by
 refine aB.go H λw1 H=>ai (C:=U2) (aS:=wG) (B4 (VK f c l w1 K) ?_);refine VI H f (λh=>by omega) λ_ _ Q X w2 Y H=>an rfl ?_;obtain⟨A,W,S⟩:=H;have Z:vP (h0 f.toNat).s:=⟨S.pos,S.F1,S.le,S.okw⟩;obtain⟨_, _, _, _,ca,la,H⟩:=S;refine Cy H c (λhc w3 H=>aD rfl λI M=>kb hc I ?_) λc1 c8 eb wb sp Lp w3 Wj H=>an rfl λI M=>?_
 ·refine(H.base.sub ?_).ext M;refine Dn _ (Dn _ (Dn _ (Dn _ (Dn _ (Dn _ (Dn _ (Dn _ (E5 _ _))))))))
 obtain⟨n,rfl⟩: ∃n:Nat,c=(n:Int):=⟨c.toNat,by omega⟩;obtain⟨m,rfl⟩: ∃m:Nat,f=(m:Int):=⟨f.toNat,by omega⟩;simp only[ae,Bx] at*
 have H:=(H.ext M).alloc (o:= .map ⟨[]⟩ 0) trivial;obtain⟨q,hkb⟩: ∃b,b=I.heap.size:=⟨_,rfl⟩;rw[<-hkb] at H ⊢;refine alM H λmb w5 H=>VH H (n:Int) (λh=>by omega) λ_ _ xb cr sb Lb w6 O hsb H=>⟨trivial,trivial,?_⟩;rw[Bx] at O H;refine Wv (n:=2) (H.perm (L':=(mb,[ag (ae X.hb),ag (ae eb),ag none,.slice none 0 0,.map (some q),.slice none 0 0])::((xb,lU sb (none,0,0))::(Lb++((eb,oJ 0 sp wb)::(Lp++Q.L ca la (h0 m).s (dS Q X A (h0 m) (a_ Q A (h0 m).g (Ab 17)++L))))))) (b_ λy=>by simp only[ae,Ax,Az];omega)) 0 rfl rfl rfl λw7 H=>?_;have H0:iC Q X D G w0 w7 {mb:=mb,eb:=eb,xb:=xb,kb:=q,wb:=wb,sc:=(none,0,0),sm:=(none,0,0),sp:=sp,sb:=sb,so:=(none,0,0),Lc:=[],Lm:=[],Lp:=Lp,Lb:=Lb,Lo:=[],cr:=cr,ke:=[],we:=[],kk:=0,wk:=0,A:=λ_=>⟨0,0,(none,0,0),(none,0,0),none,[],[],[]⟩} (mZ m n 0 l) [] L []:=by
  refine⟨A,ca,la,W,Z,⟨dy.nil eP,dy.nil eMk,Wj,hsb,dy.nil eI,by rw[O];exact Df.symm,iE.nil,iE.nil,λ{i x} t=>?_⟩,(H.perm (b_ λy=>?_)).lr (b_ λy=>?_)⟩
  ·have t:(C8 0 (cJ []))[i]? =some x:=t;rw[List.replicate_zero] at t;cases t
  ·show BT y ([]++((mb,[ag (ae X.hb),ag (ae eb),ag (ae xb),.slice none 0 0,.map (some q),.slice none 0 0])::(eb,oJ 0 sp wb)::(xb,lU sb (none,0,0))::([]++([]++(Lp++(Lb++[]))))++([]++(Q.L ca la (h0 m).s (dS Q X A (h0 m) (a_ Q A (h0 m).g (Ab 17)))++L))))= _;simp only[ae,Sys.L,List.set_cons_succ,Fo,Ax,Az,Ft];omega
  ·show BT y ((q,Obj.map ⟨[]⟩ 0)::(wb,Obj.map ⟨[]⟩ 0)::qP cr (C8 n [])++(dj A (h0 m).g (Ab 17)++[]))= _;simp only[ae,Ax,Az,Ft];omega
 generalize u:({mb:=mb,eb:=eb,xb:=xb,kb:=q,wb:=wb,sc:=(none,0,0),sm:=(none,0,0),sp:=sp,sb:=sb,so:=(none,0,0),Lc:=[],Lm:=[],Lp:=Lp,Lb:=Lb,Lo:=[],cr:=cr,ke:=[],we:=[],kk:=0,wk:=0,A:=λ_=>⟨0,0,(none,0,0),(none,0,0),none,[],[],[]⟩}:MB)=B0 at H0;have u:B0.mb=mb:=by rw[<-u]
 refine⟨λk st N=> ∃(j:Nat) (B:MB),j<=n/\k=n - j/\st.1=(j:Int)/\B.mb=mb/\iC Q X D G w0 N B (mZ m n j l) [] L [],⟨n,λN h8=>⟨0,B0,FC _,rfl,rfl,u,H0.ext h8⟩⟩,?_⟩;clear H H0 u;rintro k ⟨i, _⟩ N ⟨j,B,hj,hk',hi,rfl,HH⟩;have hi:i=(j:Int):=hi;have H:=HH;subst hi hk';dsimp only;refine ab (λc=>?_) (λc=>?_)
 ·have hj:j<n:=by have:=of_decide_eq_true c;omega
  obtain⟨r,P,v, _, _, _,J⟩:=H.tmp;refine λz E=>Uv (v.ext E).base.again l (λh=>by omega) (λ_ _ tb oh F=>an rfl ⟨trivial,trivial,?_⟩) z (Ext.refl z);have H:iC Q X D G w0 oh B (mZ m n j l) [(tb,dz (none,0,0) l)] L []:=J (T':=[(tb,dz (none,0,0) l)]) ((v.ext E).join F);refine H.sv (show _=some (B.sc.1,B.sc.2.1,B.sc.2.2) from rfl) (H.al λa nh H=>H.al λp C9 H Nh h13=>?_);have H:=H.ext h13;obtain⟨r,P,v,J⟩:=H.cps;have hlen:(mZ m n j l).cs.length=j:=Df;have T:=H.wf.c;rw[hlen] at J T;have F:=v.perm (L':=B.Lc++((B.mb,rJ X B)::([(p,[ag (ae a)]),(a,[aa (j:Int),ag (ae tb),aa 0,aa 0,aa 0,ay 0,ay 0,ay 0,ag none,aa 0,ay 0,aa 0,aa 0,.slice none 0 0]),(tb,dz (none,0,0) l)]++r))) Gd;have hb:bN Nh p (cellsOf eP (ae a)):=F.base.cZ _ (B_ _ (B1 _ B5));refine Fz F T rfl (ys:=[some ⟨a,0,none⟩]) rfl (rN hb) rfl rfl (by rw[DY,FW,F5];omega) λs' d HY fh K3=>⟨trivial,trivial,Wv (n:=3) (K3.perm Gd.symm) 0 rfl rfl rfl λXB K4 Tt Ww=>⟨n - (j+1),by omega,j+1,sX B j s' d ⟨a,tb,(none,0,0),(none,0,0),none,[],[],[]⟩,by omega,rfl,?_,rfl,?_⟩⟩
  ·rw[av (by omega) (by omega)];omega
  ·have K5:cC D G w0 XB ((B.mb,rJ X (sX B j s' d ⟨a,tb,(none,0,0),(none,0,0),none,[],[],[]⟩))::(d++(uL ⟨a,tb,(none,0,0),(none,0,0),none,[],[],[]⟩ j (cJ []) (mZ m n j l).sz++([(p,[ag (ae a)])]++r)))) P:=K4.perm (b_ λy=>by
    show BT y ((B.mb,rJ X (sX B j s' d ⟨a,tb,(none,0,0),(none,0,0),none,[],[],[]⟩))::(d++(((a,kh ⟨a,tb,(none,0,0),(none,0,0),none,[],[],[]⟩ j (cJ []))::(tb,dz (none,0,0) l)::([]++([]++[])))++([(p,[ag (ae a)])]++r))))=BT y ((B.mb,rJ X (sX B j s' d ⟨a,tb,(none,0,0),(none,0,0),none,[],[],[]⟩))::(d++([(p,[ag (ae a)]),(a,kh ⟨a,tb,(none,0,0),(none,0,0),none,[],[],[]⟩ j (cJ [])),(tb,dz (none,0,0) l)]++r)));simp only[ae,Ax,Az,Ft];omega)
   have U:=(J (T':=[(p,[ag (ae a)])]) (x:=cJ []) fh ⟨dy.nil lN,dy.nil eI,λc=>(by cases c)⟩ K5).ext Ww;have e:({mZ m n j l with cs:=(mZ m n j l).cs++[cJ []]}:MS)=mZ m n (j+1) l:=by
    show MS.mk _ _ _ _ _ _ _ _=MS.mk _ _ _ _ _ _ _ _;rw[List.replicate_succ']
   rw[e] at U;exact U.sub (H4 _)
 ·have:j=n:=by have:=of_decide_eq_false c;omega
  subst this;exact λz E=>V c1 c8 Q X B.rt z Y ⟨B,rfl,H.ext E⟩
end
theorem Fl {ws:List Int} {p t:Int} {x:Int×Int×FT} (e:0<=x.2.1/\x.2.1<=3) (h1:(bj ws p t x).2.1= -1) (a:(bj ws p t x).2.2.2.2.2.1=0):1<=(bj ws p t x).2.2.2.1/\(bj ws p t x).2.2.2.1<=7:=by
 have b: ∀n:Nat,FF n<=7:=λn=>by unfold FF;split<;>omega
 have d: ∀{lv wt fr:Int} {ep:Bool} {er:Int} {el:Bool} {ef:Int},(uI lv wt fr ep er el ef).2.2.2.1=0->er<=7->1<=(uI lv wt fr ep er el ef).2.1/\(uI lv wt fr ep er el ef).2.1<=7:=λ{lv wt fr ep er el ef} h f=>by
  unfold uI at h ⊢;split
  grind
  ·rename_i c;rw[ao c] at h;split
   ·rename_i c2;unfold gH at c2
    grind
   grind
 unfold bj at h1 a ⊢;rw[ao (by omega)] at h1 a ⊢;split
 ·rename_i c;rw[ax c] at a;exact absurd a (show ¬ (11:Int)=0 by decide)
 ·rename_i c;rw[ao c] at h1 a;revert h1 a;generalize (B (dL ws (dW x.1 p x.2.1))).toNat=N;intro h1 a;unfold tookS at h1 a ⊢;split
  ·rename_i c;rw[ax c] at a;exact absurd a (show ¬ (4:Int)=0 by decide)
  ·rename_i c;rw[ao c] at h1 a;split
   ·rename_i c;rw[ax c] at h1;rw[Dj,decide_eq_true_eq] at c;have h1:aZ .i64 x.2.1 1= -1:=h1;rw[bD (by omega) (by omega)] at h1;omega
   ·rename_i c;rw[ao c] at h1 a;split
    ·rename_i c;rw[ax c] at a;exact d a (b N)
    ·rename_i c;rw[ao c] at a;split
     ·rename_i c;rw[ax c] at a;exact d a (b N)
     ·rename_i c;rw[ao c] at a;exact absurd a (show ¬ (11:Int)=0 by decide)
structure MG (Q:Sys) (n k:Nat) (s:MS):Prop where
 JY:uK n s
 No:ND Q s.h.s
 now:s.ep.now<=(k:Int)
 ms:s.ms.length<=5000*k
 op:s.op.length<=k
 vm: ∀y∈s.cs,y.vm<9223372036854775808
section
variable {Q:Sys} {n k:Nat} {s:MS} {gh:Gh} {ta:Int->Bool}
theorem Gy (M:MI gh ta n s):s.ep.ws.length<=4096:=by
 have:=tK _ _ M.wn λf a=>by
  obtain⟨e,b,rfl⟩:=B9.1 a;obtain⟨m,d,h1,c, _⟩:=M.k5 _ (M.wk e b).1;rw[h1];exact B9.2 ⟨m,Ca.2 (B2.1 c).1,rfl⟩
 rw[DY,DY,FW] at this;have:=M.hi.inv.le;omega
theorem MG.bn (H:MG Q n k s) (d:k<=100000):Bn s:=by
 obtain⟨gh,ta,M⟩:=H.JY;have f:=M.nn;have h1:=M.lc;have g:=M.lb;have h:=M.lp;have i:=M.sz;have l:=H.now;have m:=H.ms;have o:=H.op;have p:=Gy M;exact⟨by omega,by omega,by omega,⟨M.nw,by omega⟩,by omega,λe a=>(M.wk e a).2,by omega,by omega,λq b=>by
  obtain⟨j,c⟩:=GS b;have:=M.box c;omega,by omega,M.tl,H.vm,M.ar⟩
theorem MG.rdy (H:MG Q n k s):Cd Q s.h:=by
 obtain⟨gh,ta,M⟩:=H.JY;exact M.hi.rdy H.No
theorem MG.sx (H:MG Q n k s) (X:k<=100000) {i:Nat} {x:bZ} (u:s.cs[i]? =some x):Sx s i x:=by
 obtain⟨gh,ta,M⟩:=H.JY;have g:=DA u;have G:=M.ar x g;have Y:=H.op;have Z:=M.hi.inv.le;refine⟨M.ph x g,λb=>?_,λb I J=>?_,λA=>?_,λo=>?_,λB=>?_,λa q v=>?_⟩
 ·obtain⟨l,w1,K, _⟩:=M.wl u b;rw[w1];omega
 ·obtain⟨C,D,sB⟩:=M.ac x g b;obtain⟨l,w1,K,N,r⟩:=M.wl u b;have w:=xN ⟨G.1.1,D⟩;have L:x.wk=(x.wk.1,(l:Int),(0,0,0,0,())):=DB rfl (DB w1 N);obtain⟨O,P,hr,R,vy,sw⟩:=xM M C;have qN:=Fl (x:=x.wk) (by rw[w1];omega) I J;have v:bC s.h.s O.root false (x.c.2.1 / 16)=((bj s.h.s.1 (x.c.2.1 / 16) (bh x.c.1) x.wk).2.2.1,(bj s.h.s.1 (x.c.2.1 / 16) (bh x.c.1) x.wk).2.2.2.1,0,()):=by
   rcases r with r|r
   ·rcases M.hi.inv.m_ M.hi.nl (t:=bh x.c.1) R w r with ⟨m, _,E,z,k3,k4⟩|⟨E,z⟩
    ·rw[<-L] at E;rw[I] at E;omega
    ·rw[<-L] at z;exact z J
   ·obtain⟨_,z⟩:=M.hi.inv.qy (t:=bh x.c.1) w K r.1
    grind
  have S:jP s.h x.vm.toNat (x.c.2.1 / 16)=((bj s.h.s.1 (x.c.2.1 / 16) (bh x.c.1) x.wk).2.2.1,(bj s.h.s.1 (x.c.2.1 / 16) (bh x.c.1) x.wk).2.2.2.1,0,()):=by rw[bS P];exact v
  have T:ni s.h x.vm.toNat (x.c.2.1 / 16)=some (bj s.h.s.1 (x.c.2.1 / 16) (bh x.c.1) x.wk).2.2.1:=by rw[rR,S];rfl
  obtain⟨m,d,ru,U,d4, _⟩:=M.hi.TF T;have:=(B2.1 U).1;unfold lnR
  grind
 ·obtain⟨⟨m,d,h1,b, _⟩, _⟩:=M.rc u A;have:=(B2.1 b).1;omega
 ·obtain⟨h1,b, _⟩:=M.wt x g o;refine⟨by omega,?_,λf F=>?_⟩
  ·have:=tK x.fs _ (M.fn x g o) λf F=>by
    obtain⟨m,d,h1,b, _⟩:=M.k5 _ (M.fk x g o f F).1;rw[h1];exact B9.2 ⟨m,Ca.2 (B2.1 b).1,rfl⟩
   grind
  ·obtain⟨m,d,h1,b, _⟩:=M.k5 _ (M.fk x g o f F).1;omega
 ·unfold mg at B;simp only[Dj,decide_eq_true_eq] at B;obtain⟨h0,C, _,D⟩:=B;have w:=xN ⟨G.1.1,D⟩;have hb:=(BI M.hi C w).1;unfold sP at hb ⊢;simp only[NY,decide_eq_false_iff_not] at hb ⊢;refine⟨⟨hb.1.1,by omega⟩,?_⟩;unfold bh;split
  ·decide
  ·split<;>decide
 ·have h1:=M.fQ v B5;obtain⟨j,y, _,A,o,V⟩:=(M.aq v).2 a B5;have h6:=(M.wt y (DA A) o).1;have e:a.1=y.ak:=by rw[V]
  refine⟨⟨by omega,h1⟩,?_⟩;have W:=M.oc (a.1 - 1).toNat (by omega);rw[W];have h8:=List.countP_le_length (p:=λq=>jB q (((a.1 - 1).toNat:Int)+1)) (l:=s.bx);have h9:=M.lb;have Ib:=M.nn;omega
structure Cn (s s':MS):Prop where
 now:s'.ep.now<=s.ep.now+1
 ms:s'.ms.length<=s.ms.length+5000
 op:s'.op.length<=s.op.length+1
 wd:s'.h.s.1.length=s.h.s.1.length
 vm: ∀y∈s'.cs,y.vm=0\/ ∃x∈s.cs,x.vm=y.vm
theorem Cn.same (s:MS):Cn s s:=⟨by omega,by omega,by omega,rfl,by grind⟩
theorem Cn.set {s':MS} (h:Cn s s') {i:Nat} {x:bZ} (y:bZ) (b:y.vm=0\/ ∃x∈s.cs,x.vm=y.vm):Cn s (cD s' i y):=by
 refine⟨h.now,h.ms,h.op,h.wd,λz a=>?_⟩;rcases iv a with rfl|a
 ·grind
 ·exact h.vm z a
theorem u7: ∀(l:List Int) (s:MS),(l.foldl gS s).h.s.1=s.h.s.1/\(l.foldl gS s).op=s.op/\(l.foldl gS s).ep=s.ep
 |[],s=>⟨rfl,rfl,rfl⟩
 |f::l,s=>by
  rw[FX,(u7 l _).1,(u7 l _).2.1,(u7 l _).2.2];refine⟨?_,rfl,rfl⟩;show(gQ _ f).1= _;unfold gQ;grind
theorem Cn.free (a:s.ep.ws.length<=4096):Cn s (dE s).1:=by
 have b:(oR (fm s.ep)).length<=4096:=by
  unfold oR;rw[kS];rw[u6];grind
 unfold dE;refine⟨?_,?_,?_,?_,?_⟩
 ·rw[(u7 _ _).2.2];exact(Py _).2
 ·rw[CO];grind
 ·rw[(u7 _ _).2.1];grind
 ·rw[(u7 _ _).1]
 ·rw[CQ];grind
theorem Cn.post {s':MS} (h:Cn s s') (b:s'.op=s.op) (bx:List (List AK)) (i:Nat) (t p:Int) (a:List (List AK)):Cn s {s' with bx:=a,op:=(dF bx s.op i t p).2.2}:=by
 refine⟨h.now,h.ms,?_,h.wd,h.vm⟩;unfold dF
 grind
theorem Cn.call {i:Nat} {x:bZ} (b:x∈s.cs):Cn s (iq s i x).1:=by
 have h1:Cn s {s with h:=kO _ x.vm x.c.1 x.c.2.1 x.c.2.2.1 x.c.2.2.2.1,kn:=s.kn++eR s (kO s.h x.vm x.c.1 x.c.2.1 x.c.2.2.1 x.c.2.2.2.1),ms:=s.ms++[(1,x.vm,0,x.c,xX s.h x.vm x.c.1 x.c.2.1 x.c.2.2.1 x.c.2.2.2.1,oW s.h x.vm x.c.1 x.c.2.1 x.c.2.2.1 x.c.2.2.2.1)]}:=
  ⟨by grind,by simp,by simp,Gv ..,by grind⟩
 have a: ∀y:bZ,y.vm=x.vm->y.vm=0\/ ∃x∈s.cs,x.vm=y.vm:=λy e=> .inr (by grind);unfold iq;dsimp;split
 ·split
  ·exact h1.set (x:=x) _ (a _ rfl)
  ·exact(h1.post rfl _ _ _ _ _).set (x:=x) _ (a _ rfl)
 ·exact h1.set (x:=x) _ (a _ rfl)
theorem Cn.phase (d:s.ep.ws.length<=4096) {i:Nat} {x:bZ} (f:x∈s.cs):Cn s (bQ s i x).1:=by
 have b: ∀y:bZ,y.vm=x.vm->y.vm=0\/ ∃x∈s.cs,x.vm=y.vm:=λy e=> .inr ⟨x,f,e.symm⟩;have c: ∀e:vB,e.now=s.ep.now->Cn s {s with ep:=e}:=λe h=>⟨by show e.now<= _;omega,by show s.ms.length<= _;omega,by show s.op.length<= _;omega,rfl,λy a=> .inr ⟨y,a,rfl⟩⟩;have g:(Ap s.ep i).now=s.ep.now:=by unfold Ap;split<;>rfl
 unfold bQ;split
 ·exact Cn.free d
 split
 ·unfold dn;split
  ·dsimp only;split<;>exact(c _ g).set (x:=x) _ (b _ rfl)
  split
  ·exact Cn.same s
  split
  ·exact Cn.free d
  ·exact Cn.call f
 split
 ·unfold kz;dsimp only;split
  ·exact(Cn.same s).set (x:=x) _ (b _ rfl)
  split
  ·exact(c (uV s.ep i) rfl).set (x:=x) _ (b _ rfl)
  ·exact(Cn.same s).set (x:=x) _ (b _ rfl)
 split
 ·unfold fP;dsimp only;split
  ·exact⟨by show s.ep.now<= _;omega,by simp,by show s.op.length<= _;omega,cF ..,λy a=> .inr ⟨y,a,rfl⟩⟩
  ·exact⟨by show s.ep.now<= _;omega,by grind,by show s.op.length<= _;omega,rfl,λy a=> .inr ⟨y,a,rfl⟩⟩
 ·unfold ir;split
  ·exact c _ (zj _ _).1
  ·exact Cn.same s
theorem Cn.step (g:s.ep.ws.length<=4096) (c:Int):Cn s (bA s c).1:=by
 have h: ∀{i:Nat} {x:bZ},x∈s.cs->Cn s (ig (bQ s i x) i x).1:=λ{i x} d=>by
  unfold ig;split
  ·exact(Cn.phase g d).set (x:=x) _ (.inl rfl)
  ·exact Cn.phase g d
 unfold bA;split
 ·exact Cn.same s
 split
 ·exact Cn.same s
 ·rename_i x k;have d:=DA k;unfold lz;split
  ·exact h d
  ·split
   ·rename_i a s1 f;unfold yc at f;split at f
    ·cases f;have l: ∀y:bZ,y.vm=x.vm->y.vm=0\/ ∃x∈s.cs,x.vm=y.vm:=λy e=> .inr ⟨x,d,e.symm⟩;have h0: ∀(b:List (List AK)) (j:Nat) (v:Int),Cn s {s with bx:=b,op:=s.op.set j v}:=λb j v=>⟨by grind,by simp,by simp,rfl,by grind⟩;exact(h0 _ _ _).set (x:=x) _ (l _ rfl)
    ·cases f
   ·exact h d
theorem MG.step (H:MG Q n k s) (c:Int):MG Q n (k+1) (bA s c).1:=by
 obtain⟨gh,ta,M⟩:=H.JY;have C:=Cn.step (Gy M) c;have h1:=H.now;have d:=H.ms;have f:=H.op;have g:=C.now;have h:=C.ms;have i:=C.op;refine⟨H.JY.step c,⟨by rw[C.wd];exact H.No.1,by rw[C.wd];exact H.No.2⟩,by omega,by omega,by omega,λy a=>?_⟩;rcases C.vm y a with e|⟨x,b,e⟩
 ·grind
 ·rw[<-e];exact H.vm x b
theorem MG.mono (H:MG Q n k s) {a:Nat} (h:k<=a):MG Q n a s:=by
 have h1:=H.now;have b:=H.ms;have c:=H.op;exact⟨H.JY,H.No,by omega,by omega,by omega,H.vm⟩
theorem MG.ask (H:MG Q n k s) (c vm:Int) (hv:vm<9223372036854775808) {ct:CT} (hc:cL ct.2.1/\cL ct.2.2.1/\cL ct.2.2.2.1):MG Q n k (eh s c vm ct):=by
 refine⟨H.JY.ask c vm hc,?_,?_,?_,?_,?_⟩<;>unfold eh
 ·split
  ·exact H.No
  ·split
   ·exact H.No
   ·split<;>exact H.No
 ·split
  ·exact H.now
  ·split
   ·exact H.now
   ·split<;>exact H.now
 ·split
  ·exact H.ms
  ·split
   ·exact H.ms
   ·split<;>exact H.ms
 ·split
  ·exact H.op
  ·split
   ·exact H.op
   ·split<;>exact H.op
 ·split
  ·exact H.vm
  ·split
   ·exact H.vm
   ·split
    ·intro y a;rcases iv a with rfl|a
     ·grind
     ·exact H.vm y a
    ·exact H.vm
theorem MG.new {f:Nat} {l:Int} (a:4<=f/\f<=4096) (b:1<=n/\n<=8) (d:1<=l/\l<=64) (g:Q.c=16*f):MG Q n 0 (m0 f n l):=by
 refine⟨uK.new a b d,⟨?_,?_⟩,H5 _,Dl _,Dl _,λy e=>?_⟩
 ·show(C8 _ _).length<=Q.c
  grind
 ·show(C8 _ 0).length<= _
  grind
 ·rw[Dd e];decide
end
abbrev NI:List Sc:=[.int .i64,.bool,.int .i64,.int .i64,.int .u64,.int .u64,.int .u64]
noncomputable def U4:dH AC:={U2 with quiet:=[49,50,17]++U2.quiet}
def rl:Nat->a7:=(λ|5=>[(10,Go.RX.El.one (Go.RX.Sc.int Do))]| _=>[])
theorem MZ (f c l:Int) (w:A2) (d:Option AR×Bool×Unit->A2->Prop):(aM U4 rl 15 [aa f,aa c,aa l] w d)=(
 aB AC 52 (.bG [.one .ptr,.one (.int .i64)]) [aa f,aa c,aa l] w λ(x:Option AR×Int×Unit) a=>aJ (x.2.1 != 0||x.1.isNone) (au a (d (none,false,()))) (∃(I:Nat->Int×Unit->A2->Prop),(∃n, ∀w1,Ext a w1->I n (0,()) w1)/\ ∀(n:Nat) (s:Int×Unit) (w1:A2),I n s w1->aJ (decide (s.1<2)) (aB AC 29 (.el aU) [ag x.1,aa 0,aa 0,.agg ⟨[aa 1,ay 0,ay 0,ay 0]⟩] w1 λ(h:Int) a=>aJ (h != 0) (au a (d (none,false,()))) (aB
 AC 31 (.bG [.agg [.int .u64,.int .i64],.one .bool]) [ag x.1,aa 0] a λ(x:(Int×Int×Unit)×Bool×Unit) a=>aL a ⟨[ay 0,aa 0]⟩ 61 λb a=>az a (ae b) [ay x.1.1,aa x.1.2.1] λa=>((!!x.2.1)=true->true=true)/\aj a (some !!x.2.1) (ad (ae b) 0) rD λ(i:Int)=>aJ (!x.2.1||i != aG .u64 (aI .i64 1 s.1)) (au a (d (none,false,()))) (∀e,Ext a e-> ∃(g:Nat),g<n/\I g (aI .i64 s.1 1,()) e))) (au w1 (d (x.1,true,()))))):=by kernel_rfl
theorem ZT (p:Option AR) (a:Int) (b:Bool) (v k x y z:Int) (w:A2) (e:Unit->A2->Prop):(aM U4 (λ_=>[]) 16 [ag p,.agg ⟨[aa a,.bool b,aa v,aa k,ay x,ay y,ay z]⟩] w e)=(
 aL w ⟨[aa a,.bool b,aa v,aa k,ay x,ay y,ay z]⟩ 33 λb c=>true=true/\sK c (ad (ae b) 1) λx=>aJ x (true=true/\aT c (ad (ae b) 0) λx=>true=true/\aT c (ad (ae b) 2) λf=>true=true/\aj c none (ad (ae b) 3) sM λ(d:Int×Int×Int×Int×Unit)=>aB AC 29 (.el aU) [ag p,aa x,aa f,.agg ⟨[aa d.1,ay d.2.1,ay d.2.2.1,ay d.2.2.2.1]⟩] c λ(x:Int) c=>au c (e ())) (true=true/\aT c (ad (ae b)
 0) λx=>aB AC 31 (.bG [.agg [.int .u64,.int .i64],.one .bool]) [ag p,aa x] c λ(x:(Int×Int×Unit)×Bool×Unit) c=>au c (e ()))):=by kernel_rfl
def rm:Nat->a7:=(λ_=>[])
theorem M6 (w:A2) (c:Bool->A2->Prop):(aM U4 rm 28 [] w c)=(
 aB AC 15 (.bG [.one .ptr,.one .bool]) [aa 30,aa 1,aa 2] w λx a=>aJ (!x.2.1) (au a (c false)) (aB AC 29 (.el aU) [ag x.1,aa 0,aa 1,.agg ⟨[aa 3,ay 1,ay 3,ay 0]⟩] a λ(e:Int) a=>aB AC 31 (.bG [.agg [.int .u64,.int .i64],.one .bool]) [ag x.1,aa 0] a λ(x:(Int×Int×Unit)×Bool×Unit) a=>aL a ⟨[ay 0,aa 0]⟩ 61 λb a=>az a (ae b) [ay x.1.1,aa x.1.2.1] λa=>aj a (some x.2.1) (ae b) cI λ(d:
 Int×Int×Unit)=>au a λw1=>c (x.2.1&&(d.1==2&&(d.2.1==0&&true))) w1)):=by kernel_rfl
def kA:MS:=eh (F6 30 2 4) 0 1 (3,5,3,0,())
def kB:MS:=(bA kA 0).1
def kC:MS:=eh kB 1 1 (7,81,7,0,())
def kD (j:Nat):MS:=j.rec kC λ_ s=>(bA s 1).1
def kE:MS:=eh (kD 6) 0 1 (4,5,0,0,())
def aA:MS:=eh (F6 30 1 2) 0 1 (3,1,3,0,())
theorem abF:(bA aA 0).2=((2,0),true):=by decide+kernel
abbrev OpT:Type:=Int×Bool×Int×Int×Int×Int×Int×Unit
def opM (s:MS) (o:OpT):MS:=if o.2.1=true then eh s o.1 o.2.2.1 (o.2.2.2.1,o.2.2.2.2.1,o.2.2.2.2.2.1,o.2.2.2.2.2.2.1,()) else(bA s o.1).1
def aaG (o:OpT):Prop:=o.2.2.1<9223372036854775808/\cL o.2.2.2.2.1/\cL o.2.2.2.2.2.1/\cL o.2.2.2.2.2.2.1
section
variable {Q:Sys} {X:HX} {D G:List Nat} {w0 w w1:A2} {R:MR} {s:MS} {T L:List (Nat×List AB)} {M:List (Nat×B3)} {n k:Nat}
theorem MG.op' (H:MG Q n k s) {o:OpT} (a:aaG o):MG Q n (k+1) (opM s o):=by
 unfold opM;split
 ·exact(H.ask _ _ a.1 a.2).mono (by omega)
 ·exact H.step _
theorem MU.cZ (H:MU Q X D G w0 w R s T L M) {x:Nat×List AB} (a:x∈T):bN w x.1 x.2:=by
 obtain⟨L0,K,h⟩:=H.base;exact K.cZ _ (h x a)
theorem xQ (H:MU Q X D G w0 w R s T L M) (a:MG Q n k s) (b:k<=100000) (c:Int) {K:BU->A2->Prop}
 (kk: ∀d,MU Q X D G w0 d R (bA s c).1 T L M->K (((bA s c).2.1.1,(bA s c).2.1.2,()),(bA s c).2.2,()) d):
 aB AC 31 NH [ag (ae R.mb),aa c] w K:=
 S3 H (a.bn b) a.rdy (λ_ _ e=>a.sx b e) c kk
theorem abG {f n:Nat} {l:Int} {j:Nat} {s:MS} (B:Bg f n l j s) (a:j<16) (b:j<f) (c:1<=n):(bA (eh s 0 0 wR) 0).2=((((j+1:Nat):Int),0),true)/\Bg f n l (j+1) (bA (eh s 0 0 wR) 0).1/\Dz s 0=0:=B.DE a b c
theorem vo (H:aK D G w0 w L) (f c:Nat) (l:Int) (p:20<=f/\f<=4096) (hc:1<=c/\c<=8) (a:1<=l/\l<=64) {K:Option AR×Bool×Unit->A2->Prop}
 (q: ∀Q X R w1,MU Q X D G w0 w1 R (F6 f c l) [] L []->MG Q c 2 (F6 f c l)->K (some ⟨R.mb,0,none⟩,true,()) w1):
 aB AC 15 (.bG [.one .ptr,.one .bool]) [aa (f:Int),aa (c:Int),aa l] w K:=by
 refine aB.go H λw1 H=>ai (C:=U4) (aS:=rl) (B4 (MZ _ _ l w1 K) ?_);refine Cv H _ _ l (by omega) a (λh=>by omega) λ_ _ Q X R F g H=>an rfl ?_;rw[Bx,Bx] at H;rw[Bx] at g;have hb:F6 f c l=(bA (eh (bA (eh (m0 f c l) 0 0 wR) 0).1 0 0 wR) 0).1:=rfl;refine⟨λn st d=> ∃(j:Nat) (s:MS),j<=2/\n=2 - j/\st.1=(j:Int)/\Bg f c l j s/\(j=0->s=m0 f c l)/\(j=1->s=(bA (eh (m0 f c l) 0 0 wR) 0).1)/\(j=2->s=F6 f c l)/\MG Q c j s/\MU Q X D G w0 d R s [] L [],⟨2,λd r=>⟨0,m0 f c l,by omega,rfl,rfl,Bg.new p hc a,λ_=>rfl,λh=>(by cases h),λh=>(by cases h),MG.new (by omega) hc a g,H.ext r⟩⟩,?_⟩;clear H;rintro n ⟨t, _⟩ d ⟨j,s,I,u,hi,v,x,y,i,k,H⟩;have hi:t=(j:Int):=hi;subst hi u;dsimp only;refine ab (λe=>?_) (λe=>?_)
 ·have J:j<2:=by have:=of_decide_eq_true e;omega
  obtain⟨z,A,B⟩:=abG v (by omega) (by omega) hc.1;have m:MG Q c j (eh s 0 0 wR):=k.ask 0 0 (by decide) ⟨⟨by decide,by decide⟩,⟨by decide,by decide⟩,⟨by decide,by decide⟩⟩;refine xO H 0 0 1 λo H=>?_;rw[B];refine an rfl (xQ H m (by omega) 0 λM H=>?_);rw[z];refine H.al λb N H=>H.st 0 rfl rfl rfl λO H=>⟨λ_=>rfl,H.cm 0 rfl (show _=some ((j+1:Nat):Int) from rfl) (an ?_ λP E=>⟨2 - (j+1),by omega,j+1,(bA (eh s 0 0 wR) 0).1,by omega,rfl,?_,A,λh=>(by omega),λh=>?_,λh=>?_,m.step 0,(MU.sub H (H4 _)).ext E⟩)⟩
  ·have:j=0\/j=1:=by omega
   rcases this with rfl|rfl<;>decide
  ·rw[av (by omega) (by omega)];omega
  ·rw[x (by omega)]
  ·rw[hb,y (by omega)]
 ·have:j=2:=by have:=of_decide_eq_false e;omega
  subst this;refine H.en λo H=>q Q X R o (by rw[<-i rfl];exact H) (by rw[<-i rfl];exact k)
theorem ZU (H:MU Q X D G w0 w R s T L M) (f:MG Q n k s) (g:k<=100000) (o:OpT) {K:Unit->A2->Prop} (kk: ∀d,MU Q X D G w0 d R (opM s o) T L M->K () d):
 aB AC 16 (.bG []) [ag (ae R.mb),.agg ⟨[aa o.1,.bool o.2.1,aa o.2.2.1,aa o.2.2.2.1,ay o.2.2.2.2.1,ay o.2.2.2.2.2.1,ay o.2.2.2.2.2.2.1]⟩] w K:=by
 obtain⟨a,b,v,q,x,y,z,⟨⟩⟩:=o;refine H.go λw1 H=>ai (C:=U4) (aS:=λ_=>[]) (B4 (ZT _ a b v q x y z w1 K) (H.al λi d H=>⟨rfl,H.cm 0 rfl (show _=some b from rfl) ?_⟩));unfold opM at kk;dsimp only at kk;refine ab (λc=>?_) (λc=>?_)
 ·rw[ax c] at kk;refine⟨rfl,H.cm 0 rfl (show _=some a from rfl) ⟨rfl,H.cm 0 rfl (show _=some v from rfl) ⟨rfl,H.cm 0 rfl (show _=some (q,x,y,z,()) from rfl) (xO H a v q λh H=>H.en λe H=>kk e (H.sub (Bs _ _)))⟩⟩⟩
 ·rw[ao (by rw[c];decide)] at kk;exact⟨rfl,H.cm 0 rfl (show _=some a from rfl) (xQ H f g a λh H=>H.en λe H=>kk e (H.sub (Bs _ _)))⟩
theorem sg (H:MU Q X D G w0 w R s T L M) {K:Option AR->A2->Prop} (k: ∀bp bf c rest a,MU Q X D G w0 a R s ((bp,[.slice (ae bf) s.h.s.2.length c])::(bf,flat eD s.h.s.2++rest)::T) L M->K (ae bp) a):
 aB AC 18 (.el (.one .ptr)) [ag (ae X.hb)] w K:=by
 obtain⟨A,i,L0,S,b, _,J⟩:=H.sat;exact zI S b λd e f g a S=>k d e f g a (J (T':=[_, _]) S)
theorem M7 (H:MU Q X D G w0 w R s T L M) {bp bf c:Nat} {ds:List DT} {rest:List AB} (h1:(bp,[.slice (ae bf) ds.length c])∈T) (b:(bf,flat eD ds++rest)∈T) (v:Int) (d:ds.length<=4096) {K:Int->A2->Prop} (k: ∀a,MU Q X D G w0 a R s T L M->K (bu ds v:Int) a):
 aB AC 30 (.el (.one (.int .i64))) [ag (ae bp),aa v] w K:=by
 refine H.go λw1 H=>(Ep (H.cZ h1) (H.cZ b) rfl d v).mono λx a ⟨e,h⟩=>?_;subst e;exact k a (H.ext h)
theorem OA (H:MU Q X D G w0 w R s T L M) {bp bf c:Nat} {ds:List DT} {rest:List AB} (h1:(bp,[.slice (ae bf) ds.length c])∈T) (a:(bf,flat eD ds++rest)∈T) (f:Int):af AC 25 [ag (ae bp),aa f] w ((Sh.bG [eD,.one .bool]).gz (mz ds f,xq ds f,())):=
 af.of λw' h'=>Gm ((H.cZ h1).ext h') ((H.cZ a).ext h') f
end
section
variable {Q:Sys} {X:HX} {D G:List Nat} {w0 w w1:A2} {R:MR} {s:MS} {T L:List (Nat×List AB)} {M:List (Nat×B3)} {n k:Nat}
theorem MU.ldm (H:MU Q X D G w0 w R s T L M) {g:Option Bool} {el:El} {K:el.T->Prop} {b o:Nat} {l:List AB} {x:el.T} (a:(b,l)∈T) (hv:kH l o el=some x) (k:K x):aj w g (some ⟨b,o,none⟩) el K:=by
 obtain⟨i,hi⟩:=GS a;exact H.ld i hi hv k
theorem MU.sl (H:MU Q X D G w0 w R s T L M) {e:El} {r:Option AR×Nat×Nat} {xs:List e.T} {a:List (Nat×List AB)} (b:dy e r xs a) (c: ∀x∈a,x∈T) {i:Nat} {x:e.T} (d:xs[i]? =some x):r.1.isSome=true/\cH w (ad r.1 (i*aF e)) e x:=by
 obtain⟨L0,K,h⟩:=H.base;exact b.sl K (λy f=>h y (c y f)) i x d
theorem M8 (w:A2):aE AC 28 (.el (.one .bool)) [] w (λb w'=>b=true/\Ext w w'):=by
 refine ai (C:=U4) (aS:=rm) (B4 (M6 w _) ?_);refine vo (At.start [] w) 30 1 2 (by omega) (by omega) (by omega) λQ X R w1 H a=>an rfl ?_;refine xO H 0 1 3 λd H=>?_;have c:MG Q 1 2 aA:=a.ask 0 1 (by decide) ⟨⟨by decide,by decide⟩,⟨by decide,by decide⟩,⟨by decide,by decide⟩⟩;refine xQ (s:=aA) H c (by decide) 0 λe H=>?_;rw[abF];generalize (bA aA 0).1=f at H;exact H.al λb g H=>H.st 0 rfl rfl rfl λh H=>H.ld 0 rfl (show _=some (2,0,()) from rfl) (H.en λi H=>⟨rfl,H.all⟩)
end
noncomputable def U5:dH AC:={U4 with quiet:=[25,19,21]++U4.quiet}
abbrev sX3:List Sc:=[.int .u8,.int .u8,.int .u8]
theorem acy {x:Int} (h:(Lit.int .u8 x).wf=true):0<=x/\x<256:=by
 simp[Lit.wf,Hb,Hr,I1,I2] at h;omega
theorem YJ {x:Int} (h:(Lit.int .u64 x).wf=true):cL x:=by
 simp[Lit.wf,Hb,Hr,I1,I2] at h;unfold cL;omega
theorem acz {x:Int} (h:(Lit.int .i64 x).wf=true):x<9223372036854775808:=by
 simp[Lit.wf,Hb,Hr,I1,I2] at h;omega
theorem acA {x d:Int} (h:0<=x/\x<256):fb (aG .i64 x) d=x % d:=by
 rw[bM (by omega)];unfold fb;exact NU h.1
theorem N_ {x:Int} (h:(Lit.int .u8 x).wf=true) (a d:Nat) (b:0<d/\d<=1000) (c:a<=1000):aI .i64 (a:Int) (fb (aG .i64 x) (d:Int))=((a+x.toNat % d:Nat):Int):=by
 have h:=acy h;have:(((x.toNat % d:Nat)):Int)=x % (d:Int):=by rw[Int.natCast_emod,Int.toNat_of_nonneg h.1]
 have e:x.toNat % d<d:=HZ _ b.1;rw[acA h, <-this,av (by omega) (by omega)];omega
theorem Xg {o:g_ NI} (h:js NI o):aaG o:=⟨acz h.2.2.1,YJ h.2.2.2.2.1,YJ h.2.2.2.2.2.1,YJ h.2.2.2.2.2.2.1⟩
section
variable {Q:Sys} {X:HX} {D G:List Nat} {w0 w w1:A2} {R:MR} {s:MS} {T L:List (Nat×List AB)} {M:List (Nat×B3)} {n k:Nat}
theorem MU.op (H:MU Q X [] [] w0 w R s T L M) {e:El} {p:Option AR} {xs:List e.T} (a:Sl w0 e p xs) {i:Nat} {x:e.T} (hi:xs[i]? =some x):p.isSome=true/\cH w (ad p (i*aF e)) e x:=(a.ext H.all) i x hi
end
noncomputable def U6:dH AC:={U5 with quiet:=[27]++U5.quiet}
def uv:Nat->a7:=(λ|7=>[(9,Go.RX.El.one (Go.RX.Sc.int Do))]|20=>[(15,Go.RX.El.one (Go.RX.Sc.int Do))]| _=>[])
theorem S4 (q x1 r:Int) (p:Option AR) (m c:Nat) (w:A2) (g:Bool->A2->Prop):(aM U6 uv 4 [.agg ⟨[.int .u8 q,.int .u8 x1,.int .u8 r]⟩,.slice p m c] w g)=(
 aL w ⟨[.int .u8 q,.int .u8 x1,.int .u8 r]⟩ 22 λb a=>(true=true/\(0:Int)<=0/\0<(↑3:Int))/\aj a none (ad (ae b) 0) (.one (.int .u8)) λ(x:Int)=>(true=true/\(0:Int)<=1/\1<(↑3:Int))/\aj a none (ad (ae b) 1) (.one (.int .u8)) λ(y:Int)=>(true=true/\(0:Int)<=2/\2<(↑3:Int))/\aj a none (ad (ae b) 2) (.one (.int .u8)) λ(z:Int)=>aB AC 15 (.bG [.one .ptr,.one .bool]) [aa (aI .i64 20 (fb (aG .i64 x) 60)),aa (aI .i64 1 (fb (aG .i64 y) 8)),aa (aI .i64 1 (fb (aG .i64
 z) 8))] a λh a=>aJ (!h.2.1) (au a (g false)) (∃(I:Nat->Int×Unit->A2->Prop),(∃n, ∀w1,Ext a w1->I n (0,()) w1)/\ ∀(n:Nat) (s:Int×Unit) (w1:A2),I n s w1->aJ (decide (s.1<(↑m:Int))&&decide (s.1<300)) ((p.isSome=true/\0<=s.1/\s.1<(↑m:Int))/\(ad p (C6 s.1*7)).isSome=true/\aj w1 none (ad (ad p (C6 s.1*7)) 1) oY λA=>aJ A ((p.isSome=true/\0<=s.1/\s.1<(↑m:Int))/\(ad p (C6 s.1*7)).isSome=true/\aj w1 none (ad (ad p (C6 s.1*7)) 0) aU λ(x:Int)=>
 (p.isSome=true/\0<=s.1/\s.1<(↑m:Int))/\(ad p (C6 s.1*7)).isSome=true/\aj w1 none (ad (ad p (C6 s.1*7)) 2) aU λ(l:Int)=>(p.isSome=true/\0<=s.1/\s.1<(↑m:Int))/\(ad p (C6 s.1*7)).isSome=true/\aj w1 none (ad (ad p (C6 s.1*7)) 3) sM λ(i:Int×Int×Int×Int×Unit)=>aB AC 29 (.el aU) [ag h.1,aa x,aa l,.agg ⟨[aa i.1,ay i.2.1,ay i.2.2.1,ay i.2.2.2.1]⟩] w1 λ(x:Int) a=> ∀e,Ext a e-> ∃(f:Nat),f<n/\I f (aI
 .i64 s.1 1,()) e) (∃(l:Option AR),af AC 17 [ag h.1] w1 (ag l)/\aB AC 18 (.el jQ) [ag l] w1 λi a=>aB AC 30 (.el aU) [ag i,aa 0] a λ(B:Int) a=>(p.isSome=true/\0<=s.1/\s.1<(↑m:Int))/\(ad p (C6 s.1*7)).isSome=true/\aj a none (ad (ad p (C6 s.1*7)) 0) aU λ(C:Int)=>aB AC 31 (.bG [.agg [.int .u64,.int .i64],.one .bool]) [ag h.1,aa C] a λ(t:(Int×Int×Unit)×Bool×Unit) a=>aL a ⟨[ay 0,.int
 .i64 0]⟩ 61 λb a=>az a (ae b) [ay t.1.1,aa t.1.2.1] λa=> ∃(u:Option AR),af AC 17 [ag h.1] a (ag u)/\aB AC 18 (.el jQ) [ag u] a λk a=>true=true/\aT a (ad (ae b) 1) λD=>aJ (D==12&&decide (B>3)) (au a (g false)) (aB AC 30 (.el aU) [ag k,aa 0] a λ(E:Int) a=>aB AC 30 (.el aU) [ag k,aa 3] a λ(F:Int) a=>aB AC 30 (.el aU) [ag k,aa 4] a λ(G:Int) a=>aB
 AC 30 (.el aU) [ag k,aa 5] a λ(H:Int) a=>aJ (aI .i64 (aI .i64 (aI .i64 E F) G) H != aI .i64 20 (fb (aG .i64 x) 60)) (au a (g false)) (aB AC 32 (.el fZ) [ag h.1] a λx a=> ∃(o:Nat->Int×Unit->A2->Prop),(∃n, ∀w1,Ext a w1->o n (0,()) w1)/\ ∀(v:Nat) (j:Int×Unit) (w1:A2),o v j w1->aJ (decide (j.1<(↑x.2.1:Int))) ((x.1.isSome=true/\0<=j.1/\j.1<(↑x.2.1:Int))/\aT w1 (ad x.1 (C6 j.1*1)) λx=> ∃(d:(Int×Int×Int×
 Int×Unit)×Bool×Unit),af AC 25 [ag k,aa x] w1 (.tuple {toList:=[.agg ⟨[aa d.1.1,aa d.1.2.1,aa d.1.2.2.1,aa d.1.2.2.2.1]⟩,.bool d.2.1]})/\aL w1 ⟨[aa 0,aa 0,aa 0,aa 0]⟩ 52 λb a=>az a (ae b) [aa d.1.1,aa d.1.2.1,aa d.1.2.2.1,aa d.1.2.2.2.1] λa=>((!!d.2.1)=true->true=true)/\aj a (some !!d.2.1) (ad (ae b) 0) aU λ(x:Int)=>aJ (!d.2.1||x != 5) (au a (g false)) (∀e,Ext a e-> ∃(f:Nat),
 f<v/\o f (aI .i64 j.1 1,()) e)) (∀e,Ext w1 e-> ∃(f:Nat),f<n/\I f (aI .i64 s.1 1,()) e))))) (aB AC 28 (.el oY) [] w1 λx a=>au a (g x)))):=by kernel_rfl
end Go.Proofs.YtlcenllcmeebhaaGreat.Mu
namespace Go.Proofs.YtlcenllcmeebhaaGreat
set_option maxRecDepth 100000
open Go.RX D
theorem Pz: ∀(l:List Int) (s:MS),(l.foldl gS s).h.s.2.length=s.h.s.2.length
 |[], _=>rfl
 |f::l,s=>by
  rw[FX,Pz l _];show(gQ s.h.s f).2.length= _;unfold gQ;split
  ·exact iB _ _ _
  ·rfl
theorem M9 {n:Nat} {s:MS} (X:uK n s) (k:Int):(bA s k).1.h.s.2.length=s.h.s.2.length:=by
 rcases zh X k with e|⟨c,x,x', _,a,C⟩
 ·rw[e]
 obtain⟨gh,ta,M⟩:=X;rcases C.md with e|e|⟨_,e⟩|⟨_, _,e⟩<;>rw[e]
 ·unfold dE;exact Pz _ _
 ·exact VT ⟨gh,M.hi⟩ (M.ar x (aC a)).1.1
 ·rfl
theorem abH (s:MS) (c vm:Int) (ct:CT):(eh s c vm ct).h=s.h:=by
 unfold eh;split
 ·rfl
 ·split
  ·rfl
  ·split<;>rfl
namespace Mu
theorem PA {Q:Sys} {X:HX} {w0 w:A2} {R:MR} {s:MS} {T L:List (Nat×List AB)} {M:List (Nat×B3)} (H:MU Q X [] [] w0 w R s T L M):aB AC 28 (.el (.one .bool)) [] w λ(x:Bool) (a:A2)=>au a λ(w1:A2)=>x=true/\Ext w0 w1:=
 aB.val ((At.start [] w0).ext H.all) (s:= .el (.one .bool)) true (λb _=>M8 b) λc H=>au.go H λd H=>⟨rfl,H.all⟩
theorem ZV (a:AR) (n:Nat):(a.add 3).add n=a.add (n+3):=by
 unfold Addr.add;by_cases b:n=0<;>simp[b]<;>omega
theorem M_ {w:A2} {p:Option AR} {x:g_ NI} (h:cH w p (.agg NI) x):cH w (ad p 3) (.agg sCl) x.2.2.2:=by
 obtain⟨a,rfl,h⟩:=h;refine⟨a.add 3,rfl,λi hi=>?_⟩;rw[ZV,h (i+3) (by simp at hi ⊢;omega)];rfl
section
variable {Q:Sys} {X:HX} {D G:List Nat} {w0 w w1:A2} {R:MR} {s:MS} {T L:List (Nat×List AB)} {M:List (Nat×B3)} {bp bf c:Nat} {rest:List AB}
theorem tg (H:MU Q X D G w0 w R s ((bp,[.slice (ae bf) s.h.s.2.length c])::(bf,flat eD s.h.s.2++rest)::T) L M) (v:Int) {K:Int->A2->Prop} (k: ∀a,MU Q X D G w0 a R s ((bp,[.slice (ae bf) s.h.s.2.length c])::(bf,flat eD s.h.s.2++rest)::T) L M->K (bu s.h.s.2 v:Int) a):
 aB AC 30 (.el (.one (.int .i64))) [ag (ae bp),aa v] w K:=
 M7 H B5 (B1 _ B5) v H.sys.2.2.1 k
end
theorem Na (x:g_ sX3) (I:js sX3 x) (p:Option AR) (m c:Nat) (xs:List (g_ NI)) (hm:m=xs.length) (hmx:m<=maxLen) {w:A2} (Y:Sl w (.agg NI) p xs) (hxs: ∀x∈xs,js NI x):
 aE AC 4 (.el (.one .bool)) [.agg ⟨a9 _ x⟩,.slice p m c] w (λb w'=>b=true/\Ext w w'):=by
 obtain⟨k,x1,l,u⟩:=x;refine ai (C:=U6) (aS:=uv) (B4 (S4 k x1 l p m c w _) ?_);refine aL.go (At.start [] w) λG w2 H=>⟨⟨rfl,by decide,by decide⟩,aj.at 0 H rfl (show _=some k from rfl) ⟨⟨rfl,by decide,by decide⟩,aj.at 0 H rfl (show _=some x1 from rfl) ⟨⟨rfl,by decide,by decide⟩,aj.at 0 H rfl (show _=some l from rfl) ?_⟩⟩⟩;rw[show aI .i64 20 (fb (aG .i64 k) 60)= _ from N_ I.1 20 60 (by decide) (by decide),show aI .i64 1 (fb (aG .i64 x1) 8)= _ from N_ I.2.1 1 8 (by decide) (by decide),show aI .i64 1 (fb (aG .i64 l) 8)= _ from N_ I.2.2.1 1 8 (by decide) (by decide)];have J:1<=1+x1.toNat % 8/\1+x1.toNat % 8<=8:=by have:=HZ x1.toNat (show 0<8 by decide);omega
 have K:1<=((1+l.toNat % 8:Nat):Int)/\((1+l.toNat % 8:Nat):Int)<=64:=by have:=HZ l.toNat (show 0<8 by decide);omega
 have L:20<=20+k.toNat % 60/\20+k.toNat % 60<=4096:=by have:=HZ k.toNat (show 0<60 by decide);omega
 generalize 1+x1.toNat % 8=n at J;generalize ((1+l.toNat % 8:Nat):Int)=ln at K;generalize 20+k.toNat % 60=f at L;have M:=(V4 L J K).2.2;refine vo H f n ln L J K λQ X R w4 H a=>an rfl ?_;refine⟨λi st t=> ∃(j:Nat) (s:MS),j<=m/\j<=300/\i=m - j/\st.1=(j:Int)/\MG Q n (2+j) s/\Ii s/\s.h.s.2.length=f/\MU Q X [] [] w t R s [] [(G,[.int .u8 k,.int .u8 x1,.int .u8 l])] [],⟨m,λt z=>⟨0, _,by omega,by omega,rfl,rfl,a,M.r,M.len,H.ext z⟩⟩,?_⟩;clear H a M;rintro i ⟨N, _⟩ t ⟨j,s,hj,Ic,Nf,hi,a,A,Z,H⟩;have hi:N=(j:Int):=hi;subst hi Nf;dsimp only;refine ab (λD=>?_) (λD=>PA H);have hjm:j<m/\j<300:=by
  simp only[Dj,decide_eq_true_eq] at D;omega
 obtain⟨o,O⟩: ∃o,xs[j]? =some o:=⟨_,DG (by omega)⟩;have E: ∀{w1:A2} {s:MS} {T:List (Nat×List AB)},MU Q X [] [] w w1 R s T [(G,[.int .u8 k,.int .u8 x1,.int .u8 l])] []->cH w1 (ad p (j*7)) (.agg NI) o:=λH=>(H.op Y O).2;have hoo:=Xg (hxs o (DA O));have v:p.isSome=true/\(0:Int)<=(j:Int)/\(j:Int)<(m:Int):=⟨(H.op Y O).1,by omega,by omega⟩;have F:(ad p (j*7)).isSome=true:=Kf v.1 _;obtain⟨oc,oa,S,ok,ox,oy,oz,ou⟩:=o;rw[Bx];refine⟨v,F,aj.of oa (tu (E H) (by decide) rfl) (ab (λca=>?_) (λca=>?_))⟩
 ·refine⟨v,F,aj.of oc (tu (E H) (by decide) rfl) ⟨v,F,aj.of S (tu (E H) (by decide) rfl) ⟨v,F,aj.of (ok,ox,oy,oz,()) (M_ (E H)) (xO H oc S ok λU H w7 h7=>⟨m - (j+1),by omega,j+1, _,by omega,by omega,rfl,by rw[av (by omega) (by omega)];omega,(a.ask oc S hoo.1 hoo.2).mono (by omega),A.ask _ _ _,by rw[abH];exact Z,H.ext h7⟩)⟩⟩⟩
 ·refine⟨_,zk H,sg H λbp bf c rest U H=>tg H 0 λw7 H=>⟨v,F,aj.of oc (tu (E H) (by decide) rfl) ?_⟩⟩;have H:=H.sub (H4 _);refine xQ H a (by omega) oc λw8 H=>H.al λb w9 H=>H.st 0 rfl rfl rfl λoh H=>⟨_,zk H,sg H λbp bf c rest nh H=>⟨rfl,H.cm 2 rfl (show _=some (bA s oc).2.1.2 from rfl) ?_⟩⟩;have gV: ¬ ((bA s oc).2.1.2=12/\(bu s.h.s.2 0:Int)>3):=λe=>by
   have:=Gx a.JY A oc e.1;omega
  refine an (by simpa using gV) ?_;have acB:(bA s oc).1.h.s.2.length=f:=(M9 a.JY oc).trans Z;have A:=A.step a.JY oc;have a:=a.step oc;obtain⟨acQ,xv⟩:=HQ a.JY;generalize (bA s oc).2.1=r0 at*
  generalize (bA s oc).1=s at*
  refine tg H 0 λC9 H=>tg H 3 λNh H=>tg H 4 λHY H=>tg H 5 λXB H=>an ?_ ?_
  ·have e:(bu s.h.s.2 0:Int)+bu s.h.s.2 3+bu s.h.s.2 4+bu s.h.s.2 5=f:=by omega
   rw[show aI .i64 (bu s.h.s.2 0:Int) (bu s.h.s.2 3)= _ from av (by omega) (by omega),show aI .i64 ((bu s.h.s.2 0:Int)+bu s.h.s.2 3) (bu s.h.s.2 4)= _ from av (by omega) (by omega),av (by omega) (by omega),e];simp
  have B:=a.bn (by omega);refine Fk H B.ws λr Lr Tt V H=>?_;have hr:=V.1;generalize hP:lx (s.ep.ws.map (·.1))=P at V hr xv;have hPl:P.length<=4096:=by rw[<-hP,kS,DY];exact Gy (a.JY.choose_spec.choose_spec)
  obtain⟨T,hT⟩: ∃T,T=((bp,[Value.slice (ae bf) s.h.s.2.length c])::(bf,flat eD s.h.s.2++rest)::[(b,[ay r0.1,aa r0.2])]):=⟨_,rfl⟩;have H:MU Q X [] [] w Tt R s (Lr++T) [(G,[.int .u8 k,.int .u8 x1,.int .u8 l])] []:=by rw[hT];exact H
  refine⟨λn2 st t=> ∃i:Nat,i<=P.length/\n2=P.length - i/\st.1=(i:Int)/\MU Q X [] [] w t R s (Lr++T) [(G,[.int .u8 k,.int .u8 x1,.int .u8 l])] [],⟨P.length,λt z=>⟨0,FC _,rfl,rfl,H.ext z⟩⟩,?_⟩;clear H;rintro n2 ⟨N, _⟩ t ⟨i,z4,xi,W,H⟩;have W:N=(i:Int):=W;subst W xi;dsimp only;refine ab (λD=>?_) (λD U h6=>⟨m - (j+1),by omega,j+1,s,by omega,by omega,rfl,by rw[av (by omega) (by omega)];omega,a.mono (by omega),A,acB,(H.sub (H4 _)).ext h6⟩);have hi:i<P.length:=by have:=of_decide_eq_true D;omega
  obtain⟨g,hg⟩: ∃g,P[i]? =some g:=⟨_,DG hi⟩;obtain⟨a1,a2⟩:=H.sl V (λy hy=>BN _ hy) hg;obtain⟨q,d,rfl,hd,z⟩:=xv g (DA hg);have hq:=(B2.1 hd).1;have hov:mz s.h.s.2 (q:Int)=d:=by
   unfold mz;rw[ao (by omega),Bx,Ds,hd];rfl
  have uw:xq s.h.s.2 (q:Int)=true:=by
   unfold xq;rw[decide_eq_false (by omega)];rfl
  subst hT;refine⟨⟨a1,by omega,by omega⟩,aj.of (q:Int) (by rw[Bx];exact a2) ⟨_,OA H (B_ _ B5) (B_ _ (B1 _ B5)) q,H.al λb U H=>H.st 0 rfl rfl rfl λw7 H=>?_⟩⟩;dsimp only at H ⊢;rw[hov] at H;rw[uw];exact⟨λ_=>rfl,H.cm 0 rfl (show _=some d.1 from rfl) (an (by rw[z];rfl) λw8 h8=>⟨P.length - (i+1),by omega,i+1,by omega,rfl,by rw[av (by omega) (by omega)];omega,(H.sub (Bs _ _)).ext h8⟩)⟩
end Mu
end Go.Proofs.YtlcenllcmeebhaaGreat
namespace Go.Proofs.YtlcenllcmeebhaaGreat.Mu
set_option maxRecDepth 100000
open Go.RX D
section
variable {Q:Sys} {X:HX} {D G:List Nat} {w0 w w1:A2} {R:MR} {s:MS} {T L:List (Nat×List AB)} {M:List (Nat×B3)} {n k:Nat}
theorem V' (H:MU Q X D G w0 w R s T L M) (v:Int):af AC 19 [ag (ae X.hb),aa v] w (.bool (aW s.h.g v)):=by
 obtain⟨A,b,L0,S,a,c,J⟩:=H.sat;exact nV S a v
end
def Hq (c:CT):List Nat->MS->Prop
 |[], _=>True
 |N::l,S=> ∃a r,(∀k,k+1<N->(bA (itM 0 k (eh S 0 1 c)) 0).2.2=false)/\1<=N/\N<=9/\bA (itM 0 (N - 1) (eh S 0 1 c)) 0=(a,r,true)/\phN a 0=0/\Hq c l a
theorem abI {x:Int} (h:(Lit.int .u16 x).wf=true):0<=x/\x<65536:=by
 simp[Lit.wf,Hb,Hr,I1,I2] at h;omega
def rn:Nat->a7:=(λ|6=>[(10,Go.RX.El.one (Go.RX.Sc.int Do))]|12=>[(13,Go.RX.El.one (Go.RX.Sc.int Do))]|15=>[(14,Go.RX.El.one (Go.RX.Sc.int Do))]|22=>[(17,Go.RX.El.one (Go.RX.Sc.int Do))]|31=>[(23,Go.RX.El.one (Go.RX.Sc.int Do))]| _=>[])
theorem Nb (E x1 F:Int) (p:Option AR) (m c:Nat) (g:Int) (w:A2) (r:Bool->A2->Prop):(aM U6 rn 3 [.agg ⟨[.int .u8 E,.int .u8 x1,.int .u8 F]⟩,.slice p m c,.int .u16 g] w r)=(
 aL w ⟨[.int .u8 E,.int .u8 x1,.int .u8 F]⟩ 22 λb a=>(true=true/\(0:Int)<=1/\1<(↑3:Int))/\aj a none (ad (ae b) 1) (.one (.int .u8)) λ(x:Int)=>(true=true/\(0:Int)<=0/\0<(↑3:Int))/\aj a none (ad (ae b) 0) (.one (.int .u8)) λ(P:Int)=>aB AC 15 (.bG [.one .ptr,.one .bool]) [aa (aI .i64 20 (fb (aG .i64 P) 60)),aa (aI .i64 1 (fb (aG .i64 x) 8)),aa 4] a λx a=>aJ (!x.2.1) (au a (r false)) (∃(I:Nat->Int×Unit->A2->Prop),(∃n, ∀w1,Ext a w1->I n (0,()) w1)/\ ∀
 (n:Nat) (s:Int×Unit) (w1:A2),I n s w1->aJ (decide (s.1<(↑m:Int))&&decide (s.1<300)) ((p.isSome=true/\0<=s.1/\s.1<(↑m:Int))/\aj w1 none (ad p (C6 s.1*7)) (.agg [.int .i64,.bool,.int .i64,.int .i64,.int .u64,.int .u64,.int .u64]) λ(l:Int×Bool×Int×Int×Int×Int×Int×Unit)=>aB AC 16 (.bG []) [ag x.1,.agg {toList:=[aa l.1,.bool l.2.1,aa l.2.2.1,aa l.2.2.2.1,ay l.2.2.2.2.1,ay l.2.2.2.2.2.1,ay l.2.2.2.2.2.2.1]}] w1 λU a=> ∃(t:Option
 AR),af AC 17 [ag x.1] a (ag t)/\aB AC 18 (.el jQ) [ag t] a λx a=> ∃(z:Nat->Int×Unit->A2->Prop),(∃n, ∀w1,Ext a w1->z n (1,()) w1)/\ ∀(G:Nat) (h:Int×Unit) (w1:A2),z G h w1->aJ (decide (h.1<4)) (∃(I:Nat->Int×Unit->A2->Prop),(∃n, ∀H,Ext w1 H->I n (0,()) H)/\ ∀(n:Nat) (s:Int×Unit) (w1:A2),I n s w1-> ∃J,(decide (s.1<5)=true->af AC 19 [ag t,aa h.1] w1 (.bool J))/\aJ (decide (s.1<5)&&J) (aL w1
 ⟨[aa 0,aa 1,aa 2,aa 3,aa (aG .i64 g)]⟩ 3 λb a=>(true=true/\0<=s.1/\s.1<(↑5:Int))/\aT a (ad (ae b) (C6 s.1*1)) λK=> ∃(L:Int),af AC 21 [ag t,aa h.1] a (aa L)/\aB AC 20 (.el jQ) [aa L,aa K,aa 0] a λv a=>aJ v.isNone (au a (r false)) (∃(A:Nat->Int×Unit->A2->Prop),(∃n, ∀w1,Ext a w1->A n (0,()) w1)/\ ∀(M:Nat) (B:Int×Unit) (w1:A2),A M B w1->aJ (decide (B.1<4)) (aB
 AC 23 (.el jQ) [ag t] w1 λx a=>aB AC 22 (.el oY) [ag v,ag x] a λx a=> ∀d,Ext a d-> ∃(e:Nat),e<M/\A e (aI .i64 B.1 1,()) d) (∃(i:(Int×Int×Int×Int×Unit)×Bool×Unit),af AC 24 [ag v] w1 (.tuple {toList:=[.agg ⟨[aa i.1.1,aa i.1.2.1,aa i.1.2.2.1,aa i.1.2.2.2.1]⟩,.bool i.2.1]})/\aL w1 ⟨[aa 0,aa 0,aa 0,aa 0]⟩ 48 λb a=>az a (ae b) [aa i.1.1,aa i.1.2.1,aa i.1.2.2.1,
 aa i.1.2.2.2.1] λa=>true=true/\aT a (ad (ae b) 0) λQ=> ∃(j:(Int×Int×Int×Int×Unit)×Bool×Unit),af AC 25 [ag x,aa Q] a (.tuple {toList:=[.agg ⟨[aa j.1.1,aa j.1.2.1,aa j.1.2.2.1,aa j.1.2.2.2.1]⟩,.bool j.2.1]})/\aL a ⟨[aa 0,aa 0,aa 0,aa 0]⟩ 52 λN a=>az a (ae N) [aa j.1.1,aa j.1.2.1,aa j.1.2.2.1,aa j.1.2.2.2.1] λa=>true=true/\aT a (ad (ae b) 3) λo=>((o==
 0)=true->true=true)/\aj a (some (o==0)) (ad (ae N) 0) aU λ(u:Int)=>((!(o==0&&u != 4))=true->true=true)/\aj a (some !(o==0&&u != 4)) (ad (ae b) 3) aU λ(C:Int)=>((!(o==0&&u != 4)&&C != 0)=true->true=true)/\aj a (some (!(o==0&&u != 4)&&C != 0)) (ad (ae b) 3) aU λ(R:Int)=>aJ (o==0&&u != 4||C != 0&&R != 4) (au a (r false)) (aB AC 26 (.el fZ) [ag v] a λq a=> ∃(D:Nat->Int×Unit->A2->Prop),(∃n, ∀w1,Ext a w1->
 D n (0,()) w1)/\ ∀(O:Nat) (f:Int×Unit) (w1:A2),D O f w1->aJ (decide (f.1<(↑q.2.1:Int))) ((q.1.isSome=true/\0<=f.1/\f.1<(↑q.2.1:Int))/\aT w1 (ad q.1 (C6 f.1*1)) λS=> ∃(k:(Int×Int×Int×Int×Unit)×Bool×Unit),af AC 25 [ag x,aa S] w1 (.tuple {toList:=[.agg {toList:=[aa k.1.1,aa k.1.2.1,aa k.1.2.2.1,aa k.1.2.2.2.1]},.bool k.2.1]})/\aL w1 ⟨[aa 0,aa 0,aa 0,aa 0]⟩ 52 λb a=>az
 a (ae b) [aa k.1.1,aa k.1.2.1,aa k.1.2.2.1,aa k.1.2.2.2.1] λa=>true=true/\aT a (ad (ae b) 0) λx=>((!x != 3)=true->true=true)/\aj a (some !x != 3) (ad (ae b) 1) aU λ(y:Int)=>((!(x != 3||y != h.1))=true->q.1.isSome=true/\0<=f.1/\f.1<(↑q.2.1:Int))/\aj a (some !(x != 3||y != h.1)) (ad q.1 (C6 f.1*1)) aU λ(T:Int)=>((!(x != 3||y != h.1))=true->True)/\aJ (x != 3||y != h.1||decide (dW T K (aZ .i64 3 f.1)<0)) (au a
 (r false)) (∀d,Ext a d-> ∃(e:Nat),e<O/\D e (aI .i64 f.1 1,()) d)) (∀d,Ext w1 d-> ∃(e:Nat),e<n/\I e (aI .i64 s.1 1,()) d))))) (∀d,Ext w1 d-> ∃(e:Nat),e<G/\z e (aI .i64 h.1 1,()) d)) (∀d,Ext w1 d-> ∃(e:Nat),e<n/\I e (aI .i64 s.1 1,()) d)) (aB AC 28 (.el oY) [] w1 λx a=>au a (r x)))):=by kernel_rfl
end Go.Proofs.YtlcenllcmeebhaaGreat.Mu
namespace Go.Proofs.YtlcenllcmeebhaaGreat
set_option maxRecDepth 100000
open Go.RX D
def qI (ws:List Int) (r p:Int):Nat->List Int
 |0=>[]
 |k+1=>if(fX ws r p 0 k).2.1= -1 then qI ws r p k else qI ws r p k++[(fX ws r p 0 k).1]
theorem Gz (ws:List Int) (r p:Int): ∀k,(qI ws r p k).length<=k
 |0=>Dl _
 |k+1=>by
  have:=Gz ws r p k;unfold qI;split
  ·omega
  ·rw[FY,F5];omega
theorem JI (ws:List Int) (r p:Int): ∀k,(fX ws r p 0 k).2.1≠ -1->(qI ws r p k).length=k
 |0, _=>rfl
 |k+1,h=>by
  have h':(fX ws r p 0 k).2.1≠ -1:=λc=>h (JE c 1);have:=JI ws r p k h';unfold qI;rw[ao h',FY,F5,this]
theorem CS (ws:List Int) (r p:Int): ∀k {e:Nat} {f:Int},(qI ws r p k)[e]? =some f->e<k/\(fX ws r p 0 e).1=f/\(fX ws r p 0 e).2.1≠ -1
 |0,e,f,h=>by unfold qI at h;simp at h
 |k+1,e,f,h=>by
  unfold qI at h;split at h
  ·have:=CS ws r p k h;exact⟨by omega,this.2⟩
  ·rename_i c;have a:=JI ws r p k c;by_cases b:e<(qI ws r p k).length
   ·rw[FV b] at h;have:=CS ws r p k h;exact⟨by omega,this.2⟩
   ·rw[J4 (by omega)] at h;have d:e=k:=by
     have:=(B2.1 h).1;rw[F5] at this;omega
    subst d;rw[a,JN] at h;cases h;exact⟨by omega,rfl,c⟩
theorem PB (ws:List Int) (r p:Int): ∀k,qI ws r p (k+1)≠[]
 |0=>by
  unfold qI;rw[ao (show ¬ (fX ws r p 0 0).2.1= -1 from(show ¬ (3:Int)= -1 by decide))];exact List.cons_ne_nil _ _
 |k+1=>by
  unfold qI;split
  ·exact PB ws r p k
  ·exact λc=>by simp at c
namespace Mu
section
variable {Q:Sys} {X:HX} {D G:List Nat} {w0 w w1:A2} {R:MR} {s:MS} {T L:List (Nat×List AB)} {M:List (Nat×B3)} {n k:Nat}
theorem Wa (H:MU Q X D G w0 w R s T L M) (v:Int):af AC 21 [ag (ae X.hb),aa v] w (aa (aY s.h.g v)):=by
 obtain⟨A,c,L0,S,a,b,J⟩:=H.sat;exact CF S a b v
theorem S5 (H:MU Q X D G w0 w R s T L M) (f p:Int) (hb:sP f p 0=false) {K:Option AR->A2->Prop}
 (k: ∀bk w1,MU Q X D G w0 w1 R s ((bk,jM f p 0 3 (0,0,0,0,()) (none,0,0))::T) L M->K (ae bk) w1):
 aB AC 20 (.el (.one .ptr)) [aa f,aa p,aa 0] w K:=by
 obtain⟨d,e,a,J⟩:=H.tmp;exact Cw a.base.again f p 0 (λc=>by rw[hb] at c;cases c) λ_ bk w1 b=>k bk w1 (J (T':= _::T) (a.join b))
theorem MU.mem (H:MU Q X D G w0 w R s T L M): ∃(a:List (Nat×List AB)) (b:List (Nat×B3)) (ca la:Int),vP s.h.s/\cC D G w0 w (T++((Q.bm,kY Q.bw s.h.s.1.length Q.c ca la)::(Q.bw,flat eW s.h.s.1++Q.rw)::a)) b/\
 ∀{T':List (Nat×List AB)} {qO C_:Int} {w':A2},cC D G w0 w' (T'++((Q.bm,kY Q.bw s.h.s.1.length Q.c qO C_)::(Q.bw,flat eW s.h.s.1++Q.rw)::a)) b->MU Q X D G w0 w' R s T' L M:=by
 obtain⟨B,rfl,A,ca,la,h1,d,e,f⟩:=H;refine⟨FH X B s++(gX B s (Ab s.cs.length)++((Q.bf,flat eD s.h.s.2++Q.rf)::(Q.bp,[.slice (ae Q.bf) s.h.s.2.length Q.cp])::(dS Q X A s.h (a_ Q A s.h.g (Ab 17))++L))), _,ca,la,d,f.perm ?_,λ{T' qO C_ w'} K=>⟨B,rfl,A,qO,C_,h1,d,e,K.perm ?_⟩⟩<;>
 exact b_ λy=>by simp only[Sys.L,Ax,Az];omega
theorem Nc {bk:Nat} {p:Int} {x:Int×Int×FT} {sl:Option AR×Nat×Nat} {xs:List Int} {Ls:List (Nat×List AB)} (H:MU Q X D G w0 w R s ((bk,jM x.1 p 0 x.2.1 x.2.2 sl)::(Ls++T)) L M) (m:xm Ls sl xs) (q:xs.length<=1000) {K:Bool->A2->Prop}
 (k: ∀b a d n,xm d n (if x.2.1= -1 then xs else xs++[x.1])->MU Q X D G w0 a R s ((bk,jM (bj s.h.s.1 p 0 x).1 p 0 (bj s.h.s.1 p 0 x).2.1 (bj s.h.s.1 p 0 x).2.2 n)::(d++T)) L M->K b a):
 aB AC 22 (.el (.one .bool)) [ag (ae bk),ag (ae Q.bm)] w K:=by
 obtain⟨f,i,j⟩:=x;obtain⟨r,A,ca,la,o,l,J⟩:=H.mem;by_cases c:i= -1
 ·subst c;rw[ax rfl] at k;have e:bj s.h.s.1 p 0 (f,-1,j)=(f,-1,j):=mY rfl;rw[e] at k;exact G4 l.base.again 0 rfl _ λa g=>k true a Ls sl m (J (l.join g))
 ·rw[ao c] at k;have g:=l.perm (L':=(bk,jM f p 0 i j sl)::(Q.bm,kY Q.bw s.h.s.1.length Q.c ca la)::(Q.bw,flat eW s.h.s.1++Q.rw)::(Ls++(T++r))) (b_ λy=>by simp only[Ax,Az];omega);refine y6 g.base.again m q rfl o.1 o.2.2.2 c λt d u v z=>k _ t d u v (J (qO:=vu s.h.s.1 (dW f p i) ca) (C_:=la) ((g.join z).perm (b_ λy=>by simp only[Ax,Az];omega)))
theorem ZW {Ls:List (Nat×List AB)} {sl:Option AR×Nat×Nat} {xs:List Int} (h:xm Ls sl xs):dy eI sl xs Ls:=by
 rcases h with ⟨rfl,rfl,rfl⟩|⟨bs,c,rest,rfl,rfl,a,b⟩
 ·exact dy.nil _
 ·exact⟨rfl,b,.inr ⟨bs,rest,rfl,rfl,by rw[a];exact Dl _⟩⟩
theorem S6 {bk:Nat} {f p l:Int} {fd:FT} {sl:Option AR×Nat×Nat} {xs:List Int} {Ls:List (Nat×List AB)} (H:MU Q X D G w0 w R s T L M) (g:(bk,jM f p 0 l fd sl)∈T) (b:dy eI sl xs Ls) (h: ∀y∈Ls,y∈T) (hb:xs.length<=1000) {K:Option AR×Nat×Nat->A2->Prop}
 (k: ∀r c a,dy eI r xs c->MU Q X D G w0 a R s (c++T) L M->K r a):
 aB AC 26 (.el (.one .slice)) [ag (ae bk)] w K:=by
 refine H.go λw1 H=>ai (C:=M1) (aS:=λ_=>[]) (B4 (Qw _ w1 K) (an rfl ⟨rfl,rfl,?_⟩));rw[aX];refine H.ldm g (x:=(sl.1,sl.2.1,sl.2.2)) rfl λa i=>?_;have H:=H.ext i;obtain⟨u,v,d,J⟩:=H.tmp;exact Fz (Ls:=[]) d (dy.nil eI) rfl (q:=sl) b.1 (b.pX d.base (λx j=>BN _ (h x j))) rfl rfl (by show(0+xs.length)*8<=140737488355328;omega) λs' e z m n o t=>k _ e o m (J (T':=e++T) (by rw[NO];exact n.ext t))
end
end Mu
end Go.Proofs.YtlcenllcmeebhaaGreat
