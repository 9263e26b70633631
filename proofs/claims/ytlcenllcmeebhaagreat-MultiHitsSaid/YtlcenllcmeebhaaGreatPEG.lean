import Derived.Test.YtlcenllcmeebhaaGreatPEF
/-! What the statement leans on: texts joined and shortened by a program of mine. -/
set_option linter.unusedVariables false
set_option linter.unusedSimpArgs false
open Go renaming World->A2,Value->AC,Addr->AN,Obj->B3,MapEntry->Dl
open Go.Proofs.Tryz renaming prog->AA
open List renaming range->Ak,count_append->Al,count_cons->Av,mem_cons_of_mem->Ay,getElem?_eq_some_iff->B1,mem_cons_self->B4,mem_append_right->B5,mem_map->B6,mem_append_left->B8,count->B9,replicate->BQ,mem_range->Bx,getElem?_eq_getElem->C7,sublist_cons_self->C8,getElem?_set_self->C9,set_set->CX,length_map->DA,mem_of_getElem?->DB,length_set->DK,append_nil->Df,eq_of_mem_replicate->Dk,getD_eq_getElem?_getD->Dn,length_replicate->Do,length_range->Ds,mem_singleton->F1,getElem?_set_ne->FB,getElem?_replicate->FM,sublist_append_right->FN,any_eq_true->FP,mem_cons->FS,set_cons_zero->FY,count_nil->Fg,contains_iff_mem->Fp,nodup_cons->G1,getElem?_of_mem->GD,getElem?_append_left->GF,perm_middle->GG,map_append->GH,foldl_cons->GI,eq_nil_iff_forall_not_mem->Gj,any_eq_false->H4,mem_flatMap->H5,getElem?_map->H6,getElem?_range->H7,pairwise_cons->HB,length_append->Hb,length_filter_le->Hr,take_add_one->I1,foldl_append->I2,length_singleton->IA,range_succ->IR,mem_of_find?_eq_some->Ik,nodup_nil->In,ext_getElem?->J3,getElem?_set->J7,mem_filter->JM,nodup_range->JN,map_congr_left->JP,length_cons->JR,length_nil->JS,length_take->JW,take_length->JX,append_assoc->JY,getElem?_eq_none->JZ,getElem?_append_right->K1,nil_sublist->LL
open Eq renaming mpr->B2
open Prod renaming ext->BI
open Int renaming toNat_natCast->Bs,le_refl->GJ,tmod_eq_emod_of_nonneg->M4
open Bool renaming and_eq_true->DE,or_eq_true->GS,and_assoc->Ga,eq_false_iff->Gd,false_or->Ia,or_eq_false_iff->M5
open List.Perm renaming append_left->Dd,append_right->Fu,trans->If
open List.Sublist renaming cons->Dz
open Nat renaming zero_le->E4,le_refl->E5,le_trans->Ij,not_lt_zero->N5
open Go.IntKind renaming i64->FO
open Classical renaming byContradiction->Fv
open Go.Instr renaming findNow->Gi
namespace Go.Proofs.YtlcenllcmeebhaaGreat
set_option maxRecDepth 100000
open Go.RX D
section
variable {gh dw:Gh} {h h':HS} {v k a b c:Int}
theorem Ss {g g':Nat->Option GV} (a: ∀i,(g' i).isSome=(g i).isSome) (v:Int):aR g' v=aR g v:=by unfold aR;rw[a]
theorem MW (w:Int) (a:aR h.g w=true):aR (gS h).g w=true:=by
 unfold gS;split
 ·exact a
 split
 ·obtain⟨b,x,c⟩:=cj.1 a;refine cj.2 ⟨b,?_⟩;show∃x,bq h.g _ _ w.toNat=some x;unfold bq;split
  ·exact⟨_,rfl⟩
  ·exact⟨x,c⟩
 ·exact a
theorem wE (v:Int): ∀(n:Nat) (h:HS) (w:Int),aR (e9 v n h).g w=aR h.g w
 |0, _, _=>rfl
 |n+1,h,w=>by
  show aR (e9 v n (yx v h)).g w= _;rw[wE v n];unfold yx;exact sd ..
theorem Su {a w:Int} (e:w≠a) (b:aR h.g w=true):aR (s7 h a).g w=true:=by
 unfold s7;split
 ·rename_i la;split
  ·exact b
  ·rw[<-wE a (vt h a).length] at b;obtain⟨c,x,d⟩:=cj.1 b;obtain⟨hv, _⟩:=cj.1 la;refine cj.2 ⟨c,x,?_⟩;show bq (e9 a (vt h a).length h).g a.toNat none w.toNat=some x;unfold bq;rw[ao (by omega)];exact d
 ·exact b
theorem CE.run (d:HI dw (run h v k a b c).1) {P:Nat->Int->Prop} {f:Int} (E:uM h (run h v k a b c).1 P f) (G:uE gh dw h.s (run h v k a b c).1.s) (e:1<=k/\k<=17) (hc:sX k=false):CE gh dw h (run h v k a b c).1 P (λ_=>False):=
 ⟨d,E.kd,E.pg,λh1 _=>G.1 _ _ h1,λh1=>G.2 _ h1,λ{w} _ h1=>by rw[Ss (VS e hc)];exact h1⟩
theorem Sv (d:k=6\/k=8\/(11<=k/\k<=16)):(run h v k a b c).1.s=h.s/\(run h v k a b c).1.g=h.g:=by
 have:k=6\/k=8\/k=11\/k=12\/k=13\/k=14\/k=15\/k=16:=by omega
 rcases this with rfl|rfl|rfl|rfl|rfl|rfl|rfl|rfl
 ·exact⟨rfl,rfl⟩
 ·show(iC h v a b c).s=h.s/\(iC h v a b c).g=h.g;unfold iC;split<;>exact⟨rfl,rfl⟩
 ·show(fU h v a).s=h.s/\(fU h v a).g=h.g;unfold fU;split<;>exact⟨rfl,rfl⟩
 ·show(l8 h v a).s=h.s/\(l8 h v a).g=h.g;unfold l8;split<;>exact⟨rfl,rfl⟩
 ·show(l9 h v a b).s=h.s/\(l9 h v a b).g=h.g;unfold l9;split
  ·exact⟨rfl,rfl⟩
  split<;>exact⟨rfl,rfl⟩
 ·show(l7 h v a).s=h.s/\(l7 h v a).g=h.g;unfold l7;split<;>exact⟨rfl,rfl⟩
 ·exact⟨rfl,rfl⟩
 ·show(iZ h v a).s=h.s/\(iZ h v a).g=h.g;unfold iZ;split<;>exact⟨rfl,rfl⟩
theorem EG (d:qH h v k a b c=0) (e:ik h v k a b c=0):(run h v k a b c).2.2=0:=by unfold qH at d;rw[av e] at d;exact d
theorem HT (H:HI gh h) (z:0<=a) (A: ¬ (v=0/\k=17/\a=0/\b=0/\c=0)) (B:k=7-> ¬ (aR h.g v=true/\fN k a b c=true/\a<1048576)) (C:qH h v k a b c≠0\/ ¬ (k=2\/k=4\/k=5\/k=10)):
 ∃dw P,CE gh dw h (jB h v k a b c) P (λ_=>False)/\NN h.s (jB h v k a b c).s/\ ∀{j:Nat} {q:Int},P j q->0<=q->q<65536->(iw h j q).2.2.1≠0:=by
 obtain⟨g1,D⟩:=H.step v k b c z;have same:(jB h v k a b c).s=h.s->(jB h v k a b c).g=h.g-> ∃dw P,CE gh dw h (jB h v k a b c) P (λ_=>False)/\NN h.s (jB h v k a b c).s/\ ∀{j:Nat} {q:Int},P j q->0<=q->q<65536->(iw h j q).2.2.1≠0:=λl m=>
  ⟨gh, _,CE.same H D l m,.refl (by rw[l]),λc=>c.elim⟩
 by_cases r:qH h v k a b c=0
 case neg=>
  obtain⟨e, _⟩:=H.fail r;exact same e.1 e.2
 have L:=C.resolve_left λc=>c r;by_cases i:ik h v k a b c=0
 case neg=>
  have e:jB h v k a b c=h:=ao i;rw[e] at same ⊢;exact same rfl rfl
 have d:=EG r i;obtain⟨x,t,p⟩:=Cm i;have e:jB h v k a b c=(run h v k a b c).1:=av i;by_cases F:k=6\/k=8\/(11<=k/\k<=16)
 ·obtain⟨l,m⟩:=Sv (h:=h) (v:=v) (a:=a) (b:=b) (c:=c) F;exact same (by rw[e];exact l) (by rw[e];exact m)
 rw[e];have:k=1\/k=3\/k=7\/k=9\/k=17:=by omega
 rcases this with rfl|rfl|rfl|rfl|rfl
 ·obtain⟨g',n,E,G⟩:=H.Gu;exact⟨g', _,⟨n,E.kd,E.pg,λh1 _=>G.1 _ _ h1,λh1=>G.2 _ h1,λ{w} _ h1=>MW w h1⟩,NN.Dv h,λ{j q} c I J=>absurd ⟨I,J⟩ c⟩
 ·have d:lj h v a b=0:=by
   have d:(rH h v a b).2=0:=d;unfold rH at d;split at d
   ·assumption
   ·exact d
  obtain⟨g',f,n,O, _,G⟩:=H.Gt (t rfl) (a:=a) (b:=b) d;refine⟨g', _,CE.run (k:=3) n O.ef G x rfl,NN.don ..,λ{j q} o _ _=>?_⟩;rw[o.1,o.2,O.Wv];decide
 ·exfalso;refine B rfl ⟨t rfl,p,?_⟩;refine Fv λo=>?_;have d:rS h v a=0:=d;unfold rS iW at d;rw[av (show a>=1048576 by omega),av (show((0:Int),(2:Int)).2≠0 by decide)] at d;exact absurd d (show ¬ (2:Int)=0 by decide)
 ·obtain⟨l,g',n,E,K, _,G⟩:=H.Pt (t rfl) (a:=a) (b:=b) (c:=c) d;have m:(run h v 9 a b c).1=ij h v a b c:=l;rw[<-m] at n E G;refine⟨g', _,CE.run (k:=9) n E G x rfl,by rw[m];exact NN.tak ..,λ{j q} o _ _=>?_⟩;rw[o.1,o.2,K];decide
 ·exfalso;have hv:v=0:=by
   unfold ik at i;split at i
   ·exact absurd i (by decide)
   split at i
   ·exact absurd i (by decide)
   rename_i y;by_cases e:v=0
   ·exact e
   ·have:(v==0)=false:=by simpa using e
    rw[this] at y;exact absurd rfl y
  have u:a=0/\b=0/\c=0:=by
   unfold fN at p;simp[jZ] at p;exact p
  exact A ⟨hv,rfl,u.1,u.2.1,u.2.2⟩
theorem MX (H:HI gh h) (J:0<=a) (n:qH h v k a b c=0) (A:k=2\/k=4\/k=5\/k=10):
 ∃dw,CE gh dw h (jB h v k a b c) (λj q=>if k=2 then j=a.toNat else j=v.toNat/\q=a) (λw=>k=2/\w=a)/\(k=2->(1<=a/\a<=16)/\v=0)/\(k≠2->(1<=v/\v<=16)/\a<65536):=by
 have l:ik h v k a b c=0:=by
  refine Fv λl=>?_;unfold qH at n;rw[ao l] at n;exact l n
 have d:=EG n l;obtain⟨B,o,K⟩:=Cm l;have e:jB h v k a b c=(run h v k a b c).1:=av l;rw[e];have fin: ∀{dw:Gh} {f:Int},k≠2->sX k=false->a<65536->HI dw (run h v k a b c).1->uM h (run h v k a b c).1 (λi q=>i=v.toNat/\q=a) f->uE gh dw h.s (run h v k a b c).1.s-> ∃dw,CE gh dw h (run h v k a b c).1 (λj q=>if k=2 then j=a.toNat else j=v.toNat/\q=a) (λw=>k=2/\w=a)/\(k=2->(1<=a/\a<=16)/\v=0)/\(k≠2->(1<=v/\v<=16)/\a<65536):=λ{dw f} y hc D m E G=>by
  obtain⟨_, _, _, _,p,r⟩:=bL (o hc);have C:=CE.run m E G B hc;refine⟨dw,⟨C.hi,C.kd,⟨λ{i q} t=>C.pg.to λu=>t ?_⟩,λh1 _=>C.gk h1 id,C.gn,λ_ h1=>C.lv id h1⟩,λc=>absurd c y,λ_=>⟨⟨p,r⟩,D⟩⟩;show if k=2 then _ else _;rw[ao y];exact u
 rcases A with rfl|rfl|rfl|rfl
 ·obtain⟨g',m,E,F,I⟩:=H.Jw a;have la:aR h.g a=true:=by
   have d:FZ h a=0:=d;unfold FZ at d;split at d
   ·assumption
   ·exact absurd d (by decide)
  obtain⟨_, _, _, _,p,r⟩:=bL la;refine⟨g',⟨m,E.kd,⟨λ{i q} t=>E.pg.to λu=>t ?_⟩,λ{f w} h1 x=>F f w h1 λc=>x ⟨rfl,c⟩,λh1=>I _ h1,λ{w} h1 x=>Su (λc=>h1 ⟨rfl,c⟩) x⟩,λ_=>⟨⟨p,r⟩,?_⟩,λc=>absurd rfl c⟩
  ·show if(2:Int)=2 then _ else _;rw[av rfl];exact u
  ·unfold ik at l;split at l
   ·exact absurd l (by decide)
   split at l
   ·exact absurd l (by decide)
   rename_i z;by_cases e:v=0
   ·exact e
   ·have:(v==0)=false:=by simpa using e
    rw[this] at z;exact absurd rfl z
 ·have d:xi h v a=0:=by
   have d:(B7 h v a).2=0:=d;unfold B7 at d;split at d
   ·assumption
   ·exact d
  obtain⟨g',f,m,O,G⟩:=H.Pq (o rfl) d;refine fin (by decide) rfl ?_ m O.ef G;unfold xi at d;split at d
  ·exact absurd d (by decide)
  ·omega
 ·have d:oX h v a b=0:=d;obtain⟨g',m,E, _, _, _,G⟩:=H.Jn (o rfl) d;refine fin (by decide) rfl ?_ m E G;unfold oX at d;split at d
  ·exact absurd d (by decide)
  ·omega
 ·have d:oY h v a=0:=d;obtain⟨g',m,E, _,G⟩:=H.Jt (o rfl) d;refine fin (by decide) rfl ?_ m E G;unfold oY at d;split at d
  ·exact absurd d (by decide)
  ·omega
end
section
variable {gh dw:Gh} {ta:Int->Bool} {n:Nat} {s:MS} {i:Nat}
structure OC (e e':vu) (fs:List Int):Prop where
 now:e'.now=e.now
 pins:e'.pins=e.pins
 Wv: ∀w∈e'.ws,w∈e.ws\/(w.1∈fs/\w.2=e.now)
 fP: ∀w∈e.ws,w∈e'.ws
 new: ∀f∈fs,f∉e.ws.map (·.1)->(f,e.now)∈e'.ws
 nd:(e.ws.map (·.1)).Nodup->(e'.ws.map (·.1)).Nodup
theorem aco (e:vu) (f:Int):OC e (lq e f) [f]:=by
 unfold lq;split
 ·rename_i h;obtain⟨w,hw,a⟩:=FP.1 h;have a:w.1=f:=by simpa using a
  exact⟨rfl,rfl,λw h=> .inl h,λw h=>h,λg b d=>absurd (B6.2 ⟨w,hw,by rw[a,F1.1 b]⟩) d,id⟩
 ·rename_i h;refine⟨rfl,rfl,λw hw=>?_,λw hw=>Ay _ hw,λg b _=>?_,λd=>?_⟩
  ·rcases FS.1 hw with rfl|hw
   ·exact .inr ⟨F1.2 rfl,rfl⟩
   ·exact .inl hw
  ·rw[F1.1 b];exact B4
  ·show((f,e.now)::e.ws).map (·.1) |>.Nodup;rw[List.map_cons,G1];refine⟨λc=>h ?_,d⟩;obtain⟨w,hw,a⟩:=B6.1 c;exact FP.2 ⟨w,hw,by simpa using a⟩
theorem EH: ∀(fs:List Int) (e:vu),OC e (fs.foldl lq e) fs
 |[],e=>⟨rfl,rfl,λw h=> .inl h,λw h=>h,λf l=>absurd l (by simp),id⟩
 |f::fs,e=>by
  have A:=aco e f;have a:=EH fs (lq e f);show OC e (fs.foldl lq (lq e f)) (f::fs);refine⟨a.now.trans A.now,a.pins.trans A.pins,λw d=>?_,λw d=>a.fP w (A.fP w d),λg i j=>?_,λh=>a.nd (A.nd h)⟩
  ·rcases a.Wv w d with h|⟨h1,b⟩
   ·exact(A.Wv w h).imp id λc=>⟨FS.2 (.inl (F1.1 c.1)),c.2⟩
   ·exact .inr ⟨Ay _ h1,by rw[b,A.now]⟩
  ·by_cases c:g=f
   ·exact a.fP _ (A.new g (F1.2 c) j)
   ·have i:=(FS.1 i).resolve_left c;rw[<-A.now];refine a.new g i λk=>?_;obtain⟨w,h1,b⟩:=B6.1 k;rcases A.Wv w h1 with h|⟨h, _⟩
    ·exact j (B6.2 ⟨w,h,b⟩)
    ·exact c (by rw[<-b];exact F1.1 h)
theorem JD (M:MI gh ta n s) {x:bU} (b:yz s x.ak=true) {j:Nat} {q:List AK} (d:s.bx[j]? =some q) {a:AK} (e:a∈q):a.1≠x.ak:=λc=>by
 unfold yz at b;rw[DE,decide_eq_true_eq,beq_iff_eq] at b;have:=M.oc (x.ak - 1).toNat (by omega);rw[b.2,show(((x.ak - 1).toNat:Nat):Int)+1=x.ak by omega] at this;have f:0<s.bx.countP (λq=>jH q x.ak):=List.countP_pos_iff.2 ⟨q,aE d,FP.2 ⟨a,e,by simpa using c⟩⟩;omega
theorem MI.done (M:MI gh ta n s) {x:bU} (t:s.cs[i]? =some x) (Q:x.ph=4) (W:yz s x.ak=true):MI gh ta n {s with ep:=x.fs.foldl lq s.ep,cs:=s.cs.set i (bD x.ls)}:=by
 have iR:i<s.cs.length:=(B1.1 t).1;have R:=EH x.fs s.ep;generalize B:({s with ep:=x.fs.foldl lq s.ep,cs:=s.cs.set i (bD x.ls)}:MS)=s';have A:s'.h=s.h:=by rw[<-B]
 have he:s'.ep=x.fs.foldl lq s.ep:=by rw[<-B]
 rw[<-he] at R;have F:s'.kn=s.kn:=by rw[<-B]
 have X:s'.sz=s.sz:=by rw[<-B]
 have hb:s'.bx=s.bx:=by rw[<-B]
 have Y:s'.op=s.op:=by rw[<-B]
 have fV:s'.cs=s.cs.set i (bD x.ls):=by rw[<-B]
 have u: ∀{z:Nat} {y:bU},s'.cs[z]? =some y->(z=i/\y=bD x.ls)\/(z≠i/\s.cs[z]? =some y):=λh=>by rw[fV] at h;exact ka h
 have C: ∀{y:bU},y∈s'.cs->y=bD x.ls\/ ∃j,j≠i/\s.cs[j]? =some y:=λh=>by
  obtain⟨j,k⟩:=GD h;exact(u k).imp (·.2) λc=>⟨j,c⟩
 have N: ∀{z:Nat} {y:bU},s.cs[z]? =some y->z≠i->s'.cs[z]? =some y:=λ{z y} h1 p=>by
  rw[fV,FB (λc=>p c.symm)];exact h1
 have S:=M.fk x (aE t) Q;have Z: ∀{j:Nat} {y:bU} {f:Int},s.cs[j]? =some y->y.ph=2\/y.ph=3->rJ s j f->rJ s' j f:=λ{j y f} k sL P=>by
  have Fh:=M.pn k;rw[av sL] at Fh;rcases P with ⟨z,y2,h1,p,G⟩|⟨e,h1,p,G⟩
  ·by_cases c:z=i
   ·subst c;rw[t] at h1;cases h1;exact .inr ⟨_,R.new f G (S f G).2,rfl,by rw[R.pins];exact Fh.2.1⟩
   ·exact .inl ⟨z,y2,N h1 c,p,G⟩
  ·exact .inr ⟨e,R.fP e h1,p,by rw[R.pins];exact G⟩
 have i0:(bD x.ls).ph=0:=rfl;refine⟨by rw[A];exact M.hi,M.nn,by rw[fV,DK];exact M.lc,by rw[hb];exact M.lb,by rw[R.pins];exact M.lp,by rw[X];exact M.sz,λy o=>?_,λy o=>?_,λy o=>?_,
  by rw[F,A];exact M.k5,by rw[F];exact M.nk,λe O=>?_,R.nd M.wn,λy o e=>?_,λy o e=>?_,λ{a b y z} g v T D E=>?_,λ{m d} g v=>?_,by rw[R.now];exact M.nw,λ{j y} g=>?_,λ{j y} g l hl=>?_,λy o e=>?_,λ{j y} g e=>?_,λ{j y} g e=>?_,λy o e=>?_,λ{a b y z} g v T D E=>?_,λ{j r} g=>?_,by rw[Y,hb];exact M.oc⟩
 ·rcases C o with rfl|⟨j, _,k⟩
  ·rw[i0];decide
  ·exact M.ph y (aE k)
 ·rcases C o with rfl|⟨j, _,k⟩
  ·exact(show cI 0/\cI 0/\cI 0 by decide)
  ·exact M.ar y (aE k)
 ·rw[X];rcases C o with rfl|⟨j, _,k⟩
  ·exact M.tl x (aE t)
  ·exact M.tl y (aE k)
 ·rw[F,R.now];rcases R.Wv e O with h|⟨h1,p⟩
  ·exact M.wk e h
  ·exact⟨(S _ h1).1,by rw[p];exact M.nw,by rw[p];exact GJ _⟩
 ·rcases C o with rfl|⟨j,k,o⟩
  ·rw[i0] at e;exact absurd e (by decide)
  ·intro f O;obtain⟨a,b⟩:=M.fk y (aE o) e f O;refine⟨by rw[F];exact a,λc=>?_⟩;obtain⟨w,h1,p⟩:=B6.1 c;rcases R.Wv w h1 with h|⟨h, _⟩
   ·exact b (B6.2 ⟨w,h,p⟩)
   ·rw[p] at h;exact M.fd o t k e Q f O h
 ·rcases C o with rfl|⟨j,k,o⟩
  ·rw[i0] at e;exact absurd e (by decide)
  ·exact M.fn y (aE o) e
 ·rcases u g with ⟨_,rfl⟩|⟨_,g⟩
  ·rw[i0] at D;exact absurd D (by decide)
  ·rcases u v with ⟨_,rfl⟩|⟨_,v⟩
   ·rw[i0] at E;exact absurd E (by decide)
   ·exact M.fd g v T D E
 ·rw[A] at g;obtain⟨q1,U⟩:=M.kd g v;rw[F];refine⟨q1,?_⟩;rcases U with U|⟨y,o,g1,H⟩
  ·obtain⟨w,h1,p⟩:=B6.1 U;exact .inl (B6.2 ⟨w,R.fP w h1,p⟩)
  ·obtain⟨j,k⟩:=GD o;by_cases c:j=i
   ·subst c;rw[t] at k;cases k;exact .inl (B6.2 ⟨_,R.new _ H (S _ H).2,rfl⟩)
   ·exact .inr ⟨y,aE (N k c),g1,H⟩
 ·rw[R.pins,R.now];rcases u g with ⟨rfl,rfl⟩|⟨_,g⟩
  ·have:=M.pn t;rw[Q,ao (by decide)] at this;rw[i0,ao (by decide)];exact this
  ·exact M.pn g
 ·have wH: ∃V,s.cs[j]? =some V/\l∈V.ls:=by
   rcases u g with ⟨rfl,rfl⟩|⟨_,g⟩
   ·exact⟨x,t,hl⟩
   ·exact⟨y,g,hl⟩
  obtain⟨V,g0,g1⟩:=wH;obtain⟨r0,m,d,I,J,K⟩:=M.ln g0 l g1;refine⟨r0,m,d,I,by rw[A];exact J,?_⟩;rw[A,hb];refine K.imp id λ⟨L,q,a,r5,r6,r7,r8⟩=>⟨L,q,a,r5,r6,r7,λe5=>?_⟩;obtain⟨r9,z,y',b,c0,c1,c2,c3,c4,c5⟩:=r8 e5;refine⟨r9,z,y',b,c0,N c1 λc=>?_,c2,c3,c4,c5⟩;subst c;rw[t] at c1;cases c1;exact JD M W r5 c0 c4
 ·rw[A];rcases C o with rfl|⟨j, _,k⟩
  ·rw[i0] at e;exact absurd e (by decide)
  ·exact M.ac y (aE k) e
 ·rcases u g with ⟨_,rfl⟩|⟨_,g⟩
  ·rw[i0] at e;exact absurd e (by decide)
  ·obtain⟨l,I,J,K,L⟩:=M.wl g e;refine⟨l,I,J,K,?_⟩;rw[A];exact L.imp id λc=>⟨c.1,Z g (.inl e) c.2.1,c.2.2⟩
 ·rcases u g with ⟨_,rfl⟩|⟨_,g⟩
  ·rw[i0] at e;exact absurd e (by decide)
  ·obtain⟨⟨m,d,I,J,K⟩,L⟩:=M.rc g e;refine⟨⟨m,d,I,by rw[A];exact J,?_⟩,L⟩;exact K.imp id λc=>⟨c.1,Z g (.inr e) c.2.1,c.2.2⟩
 ·rw[Y];rcases C o with rfl|⟨j, _,k⟩
  ·rw[i0] at e;exact absurd e (by decide)
  ·exact M.wt y (aE k) e
 ·rcases u g with ⟨_,rfl⟩|⟨_,g⟩
  ·rw[i0] at D;exact absurd D (by decide)
  ·rcases u v with ⟨_,rfl⟩|⟨_,v⟩
   ·rw[i0] at E;exact absurd E (by decide)
   ·exact M.wu g v T D E
 ·rw[hb] at g;obtain⟨g1,H⟩:=M.aq g;refine⟨g1,λa ha=>?_⟩;obtain⟨z,y,f1,f2,f3,f4⟩:=H a ha;refine⟨z,y,f1,N f2 λc=>?_,f3,f4⟩;subst c;rw[t] at f2;cases f2;exact JD M W g ha (by rw[f4])
end
section
variable {gh dw:Gh} {ta:Int->Bool} {n:Nat} {s:MS} {i:Nat}
def x9 (n:Nat) (s:MS):Prop:= ∃gh ta,MI gh ta n s
theorem Sw (M:MI gh ta n s) {x:bU} (a:s.cs[i]? =some x) (h: ¬ (x.ph=2\/x.ph=3)):oO s.ep i=s.ep:=by
 have:=M.pn a;rw[ao h] at this;unfold oO;rw[<-this,tJ M a]
theorem MI.ends (M:MI gh ta n s) {x:bU} (a:s.cs[i]? =some x) (h1:x.ph=1) (kn:List Int) (b:kn=s.kn) (ms:List MT) {ls:List LT} (c:ls=x.ls):MI gh ta n {s with cs:=s.cs.set i (bD ls),kn:=kn,ms:=ms}:=by
 have:=M.idle a (by omega) (λl d=>M.ln a l d) (M.tl x (aE a)) ms;rw[Sw M a (by omega)] at this;subst b c;exact this
theorem tN (s:MS):(dM s).1.cs=s.cs:=by
 unfold dM;dsimp only;generalize oC (fo s.ep)=L;generalize b:({s with ep:=Cb (fo s.ep)}:MS)=a;have h0:s.cs=a.cs:=by rw[<-b]
 rw[h0];clear b h0
 induction L generalizing a with
 |nil=>rfl
 |cons f L c=>exact c (il a f)
theorem Sy {h':HS} (M:MI gh ta n {s with h:=h'}):eh s h'=[]:=by
 refine Gj.2 λf a=>?_;obtain⟨m,d,rfl,b,c,e⟩:=gy.1 a;exact e (M.kd b c).1
theorem VU {x:bU} (a:s.cs[i]? =some x) (x':bU):((s.cs.set i x').getD i x)=x':=by
 rw[Dn,C9 (B1.1 a).1];rfl
theorem MI.call (M:MI gh ta n s) {x:bU} (g:s.cs[i]? =some x) (h1:x.ph=1) (hb:s.bx[i]? =some []) (m:jt s.h x=false) (B:qD s i x=false) (D: ¬ (x.vm=0/\x.c=(17,0,0,0,()))):x9 n (gJ (iI s i x) i x).1:=by
 have u:=M.ar x (aE g);by_cases p:(x.c.1=2\/x.c.1=4\/x.c.1=5\/x.c.1=10)/\qH s.h x.vm x.c.1 x.c.2.1 x.c.2.2.1 x.c.2.2.2.1=0
 ·obtain⟨o,w⟩:=p;obtain⟨g',C,c2,E⟩:=MX M.hi u.1.1 w o;have e:(gJ (iI s i x) i x).1=AP s (jB s.h x.vm x.c.1 x.c.2.1 x.c.2.2.1 x.c.2.2.2.1) i x (if x.c.1=2 then aG .i64 x.c.2.1 else x.vm) (if x.c.1=2 then -1 else aG .i64 x.c.2.1) (wP s.h x.vm x.c.1 x.c.2.1 x.c.2.2.1 x.c.2.2.2.1,qH s.h x.vm x.c.1 x.c.2.1 x.c.2.2.1 x.c.2.2.2.1) (s.ms++[(1,x.vm,0,x.c,wP s.h x.vm x.c.1 x.c.2.1 x.c.2.2.1 x.c.2.2.2.1,qH s.h x.vm x.c.1 x.c.2.1 x.c.2.2.1 x.c.2.2.2.1)]):=by
   unfold iI;dsimp only;rw[av o,ao (λc=>c w)];rfl
  rw[e];by_cases f:x.c.1=2
  ·obtain⟨r,z⟩:=c2 f;have t:aG .i64 x.c.2.1=x.c.2.1:=Go.Proofs.YtlcenllcmeebhaaGreat.bP (by omega);rw[av f,av f,t];refine⟨g', _,M.W7 g h1 hb C r (by decide) (by unfold Ap;rw[av f]) (by unfold Aq;rw[av f]) (λ{j q} c _ _=>?_) (λ{j y} l A c=>?_) _ _⟩
   ·rw[av f] at c;exact⟨by omega,.inl rfl⟩
   ·have F:j≠i:=λk=>by subst k;rw[g] at l;cases l;omega
    have:qD s i x=true:=by
     unfold qD;refine FP.2 ⟨j,Bx.2 (B1.1 l).1,?_⟩;rw[l];dsimp only;rw[DE,decide_eq_true_eq];refine⟨⟨F,z⟩,?_⟩;rw[GS];right;rw[f,c.2,A];have:0<x.c.2.1:=by omega
     simp[this]
    rw[B] at this;cases this
  ·obtain⟨r,z⟩:=E f;have t:aG .i64 x.c.2.1=x.c.2.1:=Go.Proofs.YtlcenllcmeebhaaGreat.bP (by omega);rw[ao f,ao f,t];refine⟨g', _,M.W7 g h1 hb C r (by omega) (by unfold Ap;rw[ao f]) (by unfold Aq;rw[ao f]) (λ{j q} c _ _=>?_) (λ{j y} l A c=>f c.1) _ _⟩;rw[ao f] at c;exact⟨by omega,.inr c.2.symm⟩
 ·obtain⟨g',P,C,N,G⟩:=HT (k:=x.c.1) (v:=x.vm) (a:=x.c.2.1) (b:=x.c.2.2.1) (c:=x.c.2.2.2.1) M.hi u.1.1 (λc=>D ⟨c.1,by
   obtain⟨_,k,a,b,d⟩:=c;exact BI k (BI a (BI b (BI d rfl)))⟩) (λH c=>by
   unfold jt aV at m;rw[H] at m c;rw[c.1,c.2.1,decide_eq_true c.2.2] at m;exact absurd m (by decide)) (by
   by_cases e:x.c.1=2\/x.c.1=4\/x.c.1=5\/x.c.1=10
   ·exact .inl λc=>p ⟨e,c⟩
   ·exact .inr e)
  have M':=M.quiet C N G;have I:=Sy M';have e:(gJ (iI s i x) i x).1=a_ (a_ {s with h:=jB s.h x.vm x.c.1 x.c.2.1 x.c.2.2.1 x.c.2.2.2.1,kn:=s.kn++eh s (jB s.h x.vm x.c.1 x.c.2.1 x.c.2.2.1 x.c.2.2.2.1),ms:=s.ms++[(1,x.vm,0,x.c,wP s.h x.vm x.c.1 x.c.2.1 x.c.2.2.1 x.c.2.2.2.1,qH s.h x.vm x.c.1 x.c.2.1 x.c.2.2.1 x.c.2.2.2.1)]} i {x with rs:=(wP s.h x.vm x.c.1 x.c.2.1 x.c.2.2.1 x.c.2.2.2.1,qH s.h x.vm x.c.1 x.c.2.1 x.c.2.2.1 x.c.2.2.2.1),fs:=eh s (jB s.h x.vm x.c.1 x.c.2.1 x.c.2.2.1 x.c.2.2.2.1)}) i (bD ((s.cs.set i {x with rs:=(wP s.h x.vm x.c.1 x.c.2.1 x.c.2.2.1 x.c.2.2.2.1,qH s.h x.vm x.c.1 x.c.2.1 x.c.2.2.1 x.c.2.2.2.1),fs:=eh s (jB s.h x.vm x.c.1 x.c.2.1 x.c.2.2.1 x.c.2.2.2.1)}).getD i x).ls):=by
   unfold iI;dsimp only;split
   ·rename_i o;rw[av λc=>p ⟨o,c⟩];rfl
   ·rfl
  rw[e,VU g,I];refine⟨g',ta,?_⟩;have:=M'.ends g h1 (s.kn++[]) (Df _) (s.ms++[(1,x.vm,0,x.c,wP s.h x.vm x.c.1 x.c.2.1 x.c.2.2.1 x.c.2.2.2.1,qH s.h x.vm x.c.1 x.c.2.1 x.c.2.2.1 x.c.2.2.2.1)]) (ls:=x.ls) rfl;unfold a_;dsimp only;rw[CX];exact this
theorem MI.begin (M:MI gh ta n s) {x:bU} (b:s.cs[i]? =some x) (h1:x.ph=1) (hb:s.bx[i]? =some []):x9 n (gJ (dp s i x) i x).1:=by
 unfold dp;cases d:jt s.h x with
 |true=>
  rw[av rfl];dsimp only;split
  ·rename_i a;have: ∃l∈x.ls,(iH x.ls x.vm (x.c.2.1 / 16) (aV x.c.1)).1=l.2.2.1:=by
    unfold iH at a ⊢;cases e:x.ls.find? (uU x.vm (x.c.2.1 / 16)) with
    |none=>rw[e] at a;exact absurd a (show ¬ (4:Int)=0 by decide)
    |some l=>
     rw[e] at a;dsimp only at a ⊢;split at a
     ·exact absurd a (show ¬ (7:Int)=0 by decide)
     ·rename_i c;rw[ao c];exact⟨l,Ik e,rfl⟩
   obtain⟨l,g,j⟩:=this;rw[j];exact⟨gh,ta,M.Fw b h1 d g⟩
  ·exact⟨gh,ta,M.ZK b h1 d⟩
 |false=>
  rw[ao (by decide)];cases k:qD s i x with
  |true=>
   rw[av rfl,jg b];exact⟨gh,ta,M.ends b h1 s.kn rfl s.ms rfl⟩
  |false=>
   rw[ao (by decide)];split
   ·have f:(dM s).1.cs[i]? =some x:=by rw[tN];exact b
    rw[jg f];exact⟨gh,ta,M.free.ends f h1 _ rfl _ rfl⟩
   ·rename_i m;exact M.call b h1 hb d k m
theorem MI.waits (M:MI gh ta n s) {x:bU} (a:s.cs[i]? =some x) (b:x.ph=4):x9 n (gJ (iJ s x) i x).1:=by
 unfold iJ;split
 ·rename_i c;rw[jg (by exact a)];exact⟨gh,ta,M.done a b c⟩
 ·exact⟨gh,ta,M⟩
theorem MI.jz (M:MI gh ta n s) {x:bU} (b:s.cs[i]? =some x):x9 n (Go.Proofs.YtlcenllcmeebhaaGreat.jz s i x).1:=by
 have g:=M.ph x (aE b);unfold Go.Proofs.YtlcenllcmeebhaaGreat.jz;split
 ·rename_i d;unfold bO;rw[ao (by omega),ao (by omega),ao (by omega),av d];exact⟨gh,ta,M.reach b d⟩
 ·rename_i d;have e:i<s.bx.length:=by rw[M.lb, <-M.lc];exact(B1.1 b).1
  unfold s9;cases c:s.bx[i]? with
  |none=>rw[C7 e] at c;cases c
  |some q=>
   cases q with
   |cons a q=>exact⟨gh,ta,M.pop b c⟩
   |nil=>
    dsimp only;unfold bO;split
    ·exact⟨gh,ta,M.free⟩
    split
    ·rename_i h1;exact M.begin b h1 c
    split
    ·rename_i f;exact⟨gh,ta,M.walk b f⟩
    ·exact M.waits b (by omega)
theorem x9.step (M:x9 n s) (k:Int):x9 n (aP s k).1:=by
 obtain⟨gh,ta,M⟩:=M;unfold aP;split
 ·exact⟨gh,ta,M⟩
 split
 ·exact⟨gh,ta,M⟩
 ·rename_i a;exact M.jz a
theorem x9.ask (M:x9 n s) (k vm:Int) {c:CT} (hc:cI c.2.1/\cI c.2.2.1/\cI c.2.2.2.1):x9 n (cA s k vm c):=by
 obtain⟨gh,ta,M⟩:=M;exact⟨gh,ta,M.ask k vm hc⟩
theorem x9.new {f:Nat} {l:Int} (p:4<=f/\f<=4096) (r:1<=n/\n<=8) (c:1<=l/\l<=64):x9 n (m0 f n l):=by
 have hc: ∀{x:bU},x∈(m0 f n l).cs->x=bD []:=λh=>Dk h;have b: ∀{j:Nat} {x:bU},(m0 f n l).cs[j]? =some x->x=bD []:=λh=>hc (aE h);have no: ∀{k:Int},(bD []).ph=k->k≠0->False:=λh o=>o h.symm;have t: ∀{m:Nat} {d:DT},(m0 f n l).h.s.2[m]? =some d->d.1≠5:=λ{m d} h=>by
  have h:(BQ f zD)[m]? =some d:=h;rw[Dk (DB h)];decide
 refine⟨noG,λ_=>false,⟨HI.new p,r,Do,Do,Do,c,λx h=>?_,λx h=>?_,λx h=>?_,λg b=>absurd b (by simp[m0]),In,λe u=>absurd u (by simp[m0]),In,λx h e=>?_,λx h e=>?_,λ{i j x y} h1 _ _ e _=>?_,λh1 o=>absurd o (t h1),GJ _,λ{j x} h=>?_,λ{j x} h l c=>?_,λx h e=>?_,λ{j x} h e=>?_,λ{j x} h e=>?_,λx h e=>?_,λ{i j x y} h1 _ _ e _=>?_,λ{j q} h=>?_,λid h=>absurd h (N5 _)⟩⟩
 ·rw[hc h];decide
 ·rw[hc h];decide
 ·rw[hc h];show(0:Int)<=l;omega
 ·rw[hc h] at e;exact(no e (by decide)).elim
 ·rw[hc h] at e;exact(no e (by decide)).elim
 ·rw[b h1] at e;exact(no e (by decide)).elim
 ·rw[b h,ao (by decide)];have v:j<n:=by
   have:=(B1.1 h).1;rw[show(m0 f n l).cs.length=n from Do] at this;exact this
  show(BQ n (-1:Int)).getD j 0= -1;rw[Dn,FM,av v];rfl
 ·rw[b h] at c;exact absurd c (by simp[bD])
 ·rw[hc h] at e;exact(no e (by decide)).elim
 ·rw[b h] at e;exact(no e (by decide)).elim
 ·rw[b h] at e;exact(no e (by decide)).elim
 ·rw[hc h] at e;exact(no e (by decide)).elim
 ·rw[b h1] at e;exact(no e (by decide)).elim
 ·have:q=[]:=Dk (aE h);rw[this];exact⟨List.Pairwise.nil,λa w=>by cases w⟩
end
def wOf (x:bU):Nat:=if x.ph=1 then 6 else if x.ph=2 then 2+x.wk.2.1.toNat else if x.ph=3 then 1 else 0
def bl (s:MS) (c:Nat):Nat:=(s.bx.getD c []).length
def o1 (x:bU):Nat:=if x.ph=1 then 1 else 0
structure Pg (s s':MS) (k:Nat) (x x':bU):Prop where
 cs:s'.cs=s.cs.set k x'
 one:x'.ph=1->x.ph=1
 box: ∀j,j≠k->bl s' j+o1 x'<=bl s j+o1 x
 me:bl s' k+wOf x'<=bl s k+wOf x
 lt:0<bl s k+wOf x->bl s' k+wOf x'<bl s k+wOf x
section
variable {gh dw:Gh} {ta:Int->Bool} {n:Nat} {s s':MS} {i:Nat}
theorem EI {x:bU} (a:s.cs[i]? =some x):s.cs.set i x=s.cs:=by
 refine J3 λj=>?_;rw[J7];by_cases e:i=j
 ·subst e;rw[av rfl,av (B1.1 a).1,a]
 ·rw[ao e]
theorem EJ (s:MS):(dM s).1.bx=s.bx:=by
 unfold dM;dsimp only;generalize oC (fo s.ep)=L;generalize b:({s with ep:=Cb (fo s.ep)}:MS)=a;have h0:s.bx=a.bx:=by rw[<-b]
 rw[h0];clear b h0
 induction L generalizing a with
 |nil=>rfl
 |cons f L c=>exact c (il a f)
theorem BB {s1:MS} {r:Int×Int} {x x1:bU} (h:s1.cs[i]? =some x1):(gJ (s1,r,true) i x).1={s1 with cs:=s1.cs.set i (bD x1.ls)}:=by
 unfold gJ;rw[av rfl];show a_ s1 i (bD ((s1.cs.getD i x).ls))= _;rw[Dn,h];rfl
end
def gC (s:MS) (c:Nat):bU:=s.cs.getD c (bD [])
def nuC (s:MS) (c:Nat):Nat:=bl s c+wOf (gC s c)
def pn1 (s:MS):Nat:=s.cs.countP λx=>x.ph==1
def muC (s:MS) (c:Nat):Nat:=nuC s c+pn1 s
def Kd (s:MS) (L:List Nat):MS:=L.foldl (λ(s:MS) (c:Nat)=>(aP s (c:Int)).1) s
section
variable {gh dw:Gh} {ta:Int->Bool} {n:Nat} {s s':MS} {i:Nat}
theorem pA {x:bU} {c:Nat} (a:s.cs[c]? =some x):aP s (c:Int)=Go.Proofs.YtlcenllcmeebhaaGreat.jz s c x:=by
 unfold aP;rw[ao (by omega)];show(match s.cs[c]? with|none=> _|some x=> _)= _;rw[a];rfl
structure DS (s s':MS) (k:Nat):Prop where
 mu: ∀c,muC s' c<=muC s c
 lt:0<nuC s k->muC s' k<muC s k
 p1:pn1 s'<=pn1 s
 ph: ∀c,(gC s' c).ph=1->(gC s c).ph=1
 ot: ∀c,c≠k->gC s' c=gC s c
def F2 (n:Nat):Nat->MS->MS
 |0,s=>s
 |r+1,s=>Kd (F2 n r s) (Ak n)
end
section
variable {gh dw:Gh} {ta:Int->Bool} {n:Nat} {s s':MS} {i:Nat}
structure Zs (n:Nat) (s:MS):Prop where
 x:x9 n s
 nu: ∀c,c<n->nuC s c=0
 p1:pn1 s=0
structure Iz (n:Nat) (j:Nat) (s:MS):Prop where
 z:Zs n s
 id: ∀c,c<n->(gC s c).ph=0
 fP: ∀e∈s.ep.ws,e.2+(j:Int)<=s.ep.now
end
section
variable {gh dw:Gh} {ta:Int->Bool} {n:Nat} {s s':MS} {i:Nat}
def mkS (h:HS) (k:MT):HS:=if k.1=1 then jB h k.2.1 k.2.2.2.1.1 k.2.2.2.1.2.1 k.2.2.2.1.2.2.1 k.2.2.2.1.2.2.2.1 else if k.1=2 then bE h (iG h.s k.2.2.1) else if k.1=3 then h else bE h (dO h.s.1 k.2.2.1 k.2.2.2.2.1,h.s.2)
structure aaD (h:HS) (k:MT):Prop where
 kd:1<=k.1/\k.1<=4
 call:k.1=1->wP h k.2.1 k.2.2.2.1.1 k.2.2.2.1.2.1 k.2.2.2.1.2.2.1 k.2.2.2.1.2.2.2.1=k.2.2.2.2.1/\qH h k.2.1 k.2.2.2.1.1 k.2.2.2.1.2.1 k.2.2.2.1.2.2.1 k.2.2.2.1.2.2.2.1=k.2.2.2.2.2/\cI k.2.2.2.1.2.1/\cI k.2.2.2.1.2.2.1/\cI k.2.2.2.1.2.2.2.1
 free:k.1=2->j7 h.s k.2.2.1=0
 load:k.1=3->uA h.s.1 k.2.2.1=true/\dv h.s.1 k.2.2.1=k.2.2.2.2.1/\k.2.2.2.2.2=0
 store:k.1=4->uA h.s.1 k.2.2.1=true/\cI k.2.2.2.2.1
inductive Rp:HS->List MT->HS->Prop
 |nil (h:HS):Rp h [] h
 |snoc {h h1:HS} {l:List MT} {k:MT} (r:Rp h l h1) (o:aaD h1 k):Rp h (l++[k]) (mkS h1 k)
theorem Rp.add {h h1 a:HS} {l:List MT} {k:MT} (r:Rp h l h1) (o:aaD h1 k) (e:mkS h1 k=a):Rp h (l++[k]) a:=by rw[<-e];exact .snoc r o
theorem Sz {h0:HS} (M:MI gh ta n s) (R:Rp h0 s.ms s.h) {f r:Int} (b:(f,r)∈s.ep.ws):Rp h0 (gT s f).ms (gT s f).h:=by
 obtain⟨e, _, _⟩:=M.wk _ b;obtain⟨m,d,a,g,i⟩:=M.k5 f e;have a:f=(m:Int):=a;obtain⟨_,j, _⟩:=M.hi.OA g i;refine R.add ⟨(show 1<=(2:Int)/\(2:Int)<=4 by decide),λc=>absurd c (show ¬ (2:Int)=1 by decide),λ_=>?_,λc=>absurd c (show ¬ (2:Int)=3 by decide),λc=>absurd c (show ¬ (2:Int)=4 by decide)⟩ rfl;show j7 s.h.s f=0;rw[a];exact j
theorem EK {h0:HS}: ∀(L:List Int) {s:MS},MI gh ta n s->Rp h0 s.ms s.h->L.Nodup->(∀f∈L, ∃r,(f,r)∈s.ep.ws/\r+2<=s.ep.now)->Rp h0 (L.foldl gT s).ms (L.foldl gT s).h
 |[], _, _,R, _, _=>R
 |f::L,s,M,R,a,b=>by
  obtain⟨r,h1,e⟩:=b f B4;refine EK L (M.gT h1 e) (Sz M R h1) (G1.1 a).2 λg d=>?_;obtain⟨r',i,j⟩:=b g (Ay _ d);refine⟨r',JM.2 ⟨i,?_⟩,j⟩;have:g≠f:=λc=>(G1.1 a).1 (by rw[<-c];exact d);simp[this]
theorem JE {h0:HS} (M:MI gh ta n s) (R:Rp h0 s.ms s.h):Rp h0 (dM s).1.ms (dM s).1.h:=by
 rw[EC M];refine EK _ M.XS R ?_ λf a=>CG.1 a;unfold oC;refine(lL _).nodup_iff.2 ?_;exact M.XS.wn.sublist (List.filter_sublist.map _)
theorem Cq (r:St) (i:Nat) (x:bU):(gJ r i x).1.ms=r.1.ms/\(gJ r i x).1.h=r.1.h:=by
 unfold gJ;split<;>exact⟨rfl,rfl⟩
theorem VV {h0:HS} (M:MI gh ta n s) (R:Rp h0 s.ms s.h) {x:bU} (a:s.cs[i]? =some x):Rp h0 (iI s i x).1.ms (iI s i x).1.h:=by
 have b:=M.ar x (aE a);have key:Rp h0 (s.ms++[(1,x.vm,0,x.c,wP s.h x.vm x.c.1 x.c.2.1 x.c.2.2.1 x.c.2.2.2.1,qH s.h x.vm x.c.1 x.c.2.1 x.c.2.2.1 x.c.2.2.2.1)]) (jB s.h x.vm x.c.1 x.c.2.1 x.c.2.2.1 x.c.2.2.2.1):=
  R.add ⟨(show 1<=(1:Int)/\(1:Int)<=4 by decide),λ_=>⟨rfl,rfl,b⟩,λc=>absurd c (show ¬ (1:Int)=2 by decide),λc=>absurd c (show ¬ (1:Int)=3 by decide),λc=>absurd c (show ¬ (1:Int)=4 by decide)⟩ rfl
 unfold iI;dsimp only;split
 ·split<;>exact key
 ·exact key
theorem SA {h0:HS} (M:MI gh ta n s) (R:Rp h0 s.ms s.h) {x:bU} (a:s.cs[i]? =some x) (e:x.ph=3):Rp h0 (fO s i x).1.ms (fO s i x).1.h:=by
 obtain⟨⟨m,d,f,g, _⟩, _⟩:=M.rc a e;have j:=M.ar x (aE a);have k:m<s.h.s.2.length:=(B1.1 g).1;have b:uA s.h.s.1 (16*x.fr+x.c.2.1 % 16)=true:=by
  have:=M.hi.sz;rw[f];exact jd (by omega) (by omega)
 unfold fO;dsimp only;split
 ·exact R.add ⟨(show 1<=(4:Int)/\(4:Int)<=4 by decide),λc=>absurd c (show ¬ (4:Int)=1 by decide),λc=>absurd c (show ¬ (4:Int)=2 by decide),λc=>absurd c (show ¬ (4:Int)=3 by decide),λ_=>⟨b,j.2.1⟩⟩ rfl
 ·exact R.add ⟨(show 1<=(3:Int)/\(3:Int)<=4 by decide),λc=>absurd c (show ¬ (3:Int)=1 by decide),λc=>absurd c (show ¬ (3:Int)=2 by decide),λ_=>⟨b,rfl,rfl⟩,λc=>absurd c (show ¬ (3:Int)=4 by decide)⟩ rfl
theorem VW {h0:HS} (X:x9 n s) (R:Rp h0 s.ms s.h) (k:Int):Rp h0 (aP s k).1.ms (aP s k).1.h:=by
 obtain⟨gh,ta,M⟩:=X;unfold aP;split
 ·exact R
 split
 ·exact R
 ·rename_i x b;unfold Go.Proofs.YtlcenllcmeebhaaGreat.jz;have d:=M.ph x (aE b);split
  ·rename_i c;rw[(Cq _ _ _).1,(Cq _ _ _).2];unfold bO;rw[ao (by omega),ao (by omega),ao (by omega),av c];exact SA M R b c
  ·rename_i c;split
   ·rename_i a;unfold s9 at a;split at a
    ·cases a;exact R
    ·cases a
   ·rw[(Cq _ _ _).1,(Cq _ _ _).2];unfold bO;split
    ·exact JE M R
    split
    ·unfold dp;split
     ·dsimp only;split<;>exact R
     split
     ·exact R
     split
     ·exact JE M R
     ·exact VV M R b
    split
    ·unfold j_;dsimp only;split
     ·exact R
     split<;>exact R
    ·unfold iJ;split<;>exact R
theorem ZM {h0:HS} (R:Rp h0 s.ms s.h) (k vm:Int) (c:CT):Rp h0 (cA s k vm c).ms (cA s k vm c).h:=by
 unfold cA;split
 ·exact R
 split
 ·exact R
 ·split<;>exact R
end
section
variable {gh dw:Gh} {ta:Int->Bool} {n:Nat} {s s':MS} {i:Nat}
structure Ch (s s':MS) (k:Nat) (x x':bU):Prop where
 cs:s'.cs=s.cs.set k x'
 ls: ∀l∈x'.ls,l∈x.ls\/(x.ph=2/\s.bx[k]? =some []/\l.1=x.vm/\l.2.1=x.c.2.1 / 16/\iw s.h x.vm.toNat (x.c.2.1 / 16)=(l.2.2.1,l.2.2.2.1,0,()))
 vc:x'.ph=0\/(x.ph≠0/\x'.vm=x.vm/\x'.c=x.c)
 p3:x'.ph=3->s.bx[k]? =some []/\((x.ph=1/\ ∃l∈x.ls,l.1=x.vm/\l.2.1=x.c.2.1 / 16/\l.2.2.1=x'.fr)\/(x.ph=2/\ ∃r,iw s.h x.vm.toNat (x.c.2.1 / 16)=(x'.fr,r,0,())))
 p4:x'.ph=4->(x.ph=4/\x'.rs=x.rs)\/(x'.rs.2=0/\x.c.1≠6/\x.c.1≠7)
 md:s'.h=s.h\/s'.h=(dM s).1.h\/(x.ph=1/\s'.h=jB s.h x.vm x.c.1 x.c.2.1 x.c.2.2.1 x.c.2.2.2.1)\/(x.ph=3/\x.c.1=7/\s'.h=bE s.h (dO s.h.s.1 (16*x.fr+x.c.2.1 % 16) x.c.2.2.1,s.h.s.2))
 p2:x'.ph=2->x.ph=1\/x.ph=2
 bo: ∀j,j≠k-> ∀q,s.bx[j]? =some q-> ∃r,s'.bx[j]? =some (q++r)/\(x.ph=1->x.c.1=6->jt s.h x=true->r=[])/\(x.ph≠1->r=[])
theorem nP {s s':MS} {k:Nat} {x:bU} (hb:s'.bx=s.bx): ∀j,j≠k-> ∀q,s.bx[j]? =some q-> ∃r,s'.bx[j]? =some (q++r)/\(x.ph=1->x.c.1=6->jt s.h x=true->r=[])/\(x.ph≠1->r=[]):=λj _ q h=>⟨[],by rw[hb,Df];exact h,λ_ _ _=>rfl,λ_=>rfl⟩
theorem Ch.idle {x:bU} {ls:List LT} (fV:s'.cs=s.cs.set i (bD ls)) (a:ls=x.ls) (md:s'.h=s.h\/s'.h=(dM s).1.h\/(x.ph=1/\s'.h=jB s.h x.vm x.c.1 x.c.2.1 x.c.2.2.1 x.c.2.2.2.1)\/(x.ph=3/\x.c.1=7/\s'.h=bE s.h (dO s.h.s.1 (16*x.fr+x.c.2.1 % 16) x.c.2.2.1,s.h.s.2))) (hb:s'.bx=s.bx:=by first|rfl|exact EJ _):Ch s s' i x (bD ls):=
 ⟨fV,λl h=> .inl (by rw[<-a];exact h),.inl rfl,λc=>absurd c (show ¬ (0:Int)=3 by decide),λc=>absurd c (show ¬ (0:Int)=4 by decide),md,λc=>absurd c (show ¬ (0:Int)=2 by decide),nP hb⟩
theorem VX {bx:List (List AK)} {op:List Int} {t p:Int} {j:Nat} (b:j≠i) {q:List AK} (a:bx[j]? =some q): ∃r,(dG bx op i t p).2.1[j]? =some (q++r):=by
 unfold dG;split
 ·exact⟨[],by rw[Df];exact a⟩
 split
 ·exact⟨[],by rw[Df];exact a⟩
 ·refine⟨[((op.length:Int)+1,t,p,())],?_⟩;have:=post_at (i:=i) (x:=(((op.length:Int)+1,t,p,()):AK)) a;rw[ao b] at this;exact this
theorem SB {x:bU} (g:s.cs[i]? =some x) (h1:x.ph=1): ∃x',Ch s (gJ (iI s i x) i x).1 i x x':=by
 by_cases a:(x.c.1=2\/x.c.1=4\/x.c.1=5\/x.c.1=10)/\qH s.h x.vm x.c.1 x.c.2.1 x.c.2.2.1 x.c.2.2.2.1=0
 ·obtain⟨a,d⟩:=a;generalize b:iI s i x=r;unfold iI at b;dsimp only at b;rw[av a,ao (λc=>c d)] at b;subst b;exact⟨_,rfl,λl k=> .inl (tK k).1,.inr ⟨by omega,rfl,rfl⟩,λc=>absurd c (show ¬ (4:Int)=3 by decide),λ_=> .inr ⟨d,by omega,by omega⟩,.inr (.inr (.inl ⟨h1,rfl⟩)),λc=>absurd c (show ¬ (4:Int)=2 by decide),λj m q n=>(VX m n).imp λr h=>⟨h,λ_ c6 _=>(by omega),λc=>absurd h1 c⟩⟩
 ·have e: ∃(s1:MS) (x1:bU) (r:Int×Int),iI s i x=(s1,r,true)/\s1.h=jB s.h x.vm x.c.1 x.c.2.1 x.c.2.2.1 x.c.2.2.2.1/\s1.cs=s.cs.set i x1/\x1.ls=x.ls/\s1.bx=s.bx:=by
   unfold iI;dsimp only;split
   ·rename_i o;rw[av λc=>a ⟨o,c⟩];exact⟨_,{x with rs:= _,fs:= _}, _,rfl,rfl,rfl,rfl,rfl⟩
   ·exact⟨_,{x with rs:= _,fs:= _}, _,rfl,rfl,rfl,rfl,rfl⟩
  obtain⟨s1,x1,r,p,t,f,u,v⟩:=e;rw[p];have w:s1.cs[i]? =some x1:=by rw[f,C9 (B1.1 g).1]
  rw[BB w];refine⟨bD x1.ls,Ch.idle ?_ u (.inr (.inr (.inl ⟨h1,t⟩))) v⟩;show s1.cs.set i _= _;rw[f,CX]
theorem MY {x:bU} (e:s.cs[i]? =some x) (h1:x.ph=1) (hb:s.bx[i]? =some []): ∃x',Ch s (gJ (dp s i x) i x).1 i x x':=by
 unfold dp;cases g:jt s.h x with
 |true=>
  rw[av rfl];dsimp only;split
  ·rename_i a;have: ∃l∈x.ls,l.1=x.vm/\l.2.1=x.c.2.1 / 16/\l.2.2.1=(iH x.ls x.vm (x.c.2.1 / 16) (aV x.c.1)).1:=by
    unfold iH at a ⊢;cases b:x.ls.find? (uU x.vm (x.c.2.1 / 16)) with
    |none=>rw[b] at a;exact absurd a (show ¬ (4:Int)=0 by decide)
    |some l=>
     rw[b] at a;dsimp only at a ⊢;split at a
     ·exact absurd a (show ¬ (7:Int)=0 by decide)
     ·rename_i c;rw[ao c];have d:=List.find?_some b;unfold uU at d;rw[DE,beq_iff_eq,beq_iff_eq] at d;exact⟨l,Ik b,d.1,d.2,rfl⟩
   exact⟨_,rfl,λl h=> .inl h,.inr ⟨by omega,rfl,rfl⟩,λ_=>⟨hb,.inl ⟨h1,this⟩⟩,λc=>absurd c (show ¬ (3:Int)=4 by decide),.inl rfl,λc=>absurd c (show ¬ (3:Int)=2 by decide),nP rfl⟩
  ·exact⟨_,rfl,λl h=> .inl h,.inr ⟨by omega,rfl,rfl⟩,λc=>absurd c (show ¬ (2:Int)=3 by decide),λc=>absurd c (show ¬ (2:Int)=4 by decide),.inl rfl,λ_=> .inl h1,nP rfl⟩
 |false=>
  rw[ao (by decide)];cases j:qD s i x with
  |true=>
   rw[av rfl,jg e];exact⟨_,Ch.idle rfl rfl (.inl rfl)⟩
  |false=>
   rw[ao (by decide)];split
   ·have f:(dM s).1.cs[i]? =some x:=by rw[tN];exact e
    rw[jg f];exact⟨_,Ch.idle (by rw[tN]) rfl (.inr (.inl rfl))⟩
   ·exact SB e h1
theorem SC (M:MI gh ta n s) {x:bU} (e:s.cs[i]? =some x) (b:x.ph=2) (hb:s.bx[i]? =some []): ∃x',Ch s (gJ (j_ s i x) i x).1 i x x':=by
 have r:=M.ar x (aE e);obtain⟨u,v,D⟩:=M.ac x (aE e) b;obtain⟨l,w1,w,z,d⟩:=M.wl e b;have q:=xQ ⟨r.1.1,v⟩;have g:x.wk=(x.wk.1,(l:Int),(0,0,0,0,())):=BI rfl (BI w1 z);obtain⟨A,B,E,C,F,G⟩:=xO M u;unfold j_;dsimp only;split
 ·exact⟨_,rfl,λl h=> .inl h,.inr ⟨by omega,rfl,rfl⟩,λc=>absurd (show x.ph=3 from c) (by omega),λc=>absurd (show x.ph=4 from c) (by omega),.inl rfl,λ_=> .inr b,nP rfl⟩
 split
 ·rw[BB (x1:={x with wk:=bz s.h.s.1 (x.c.2.1 / 16) (aV x.c.1) x.wk}) (by exact(C9 (B1.1 e).1))];refine⟨bD x.ls,Ch.idle ?_ rfl (.inl rfl)⟩;show(s.cs.set i _).set i _= _;rw[CX]
 rename_i j f;have j:(bz s.h.s.1 (x.c.2.1 / 16) (aV x.c.1) x.wk).2.1= -1:=Fv j;have f:(bz s.h.s.1 (x.c.2.1 / 16) (aV x.c.1) x.wk).2.2.2.2.2.1=0:=Fv f;have k:bu s.h.s A.root false (x.c.2.1 / 16)=((bz s.h.s.1 (x.c.2.1 / 16) (aV x.c.1) x.wk).2.2.1,(bz s.h.s.1 (x.c.2.1 / 16) (aV x.c.1) x.wk).2.2.2.1,0,()):=by
  rcases d with d|d
  ·rcases M.hi.inv.nc M.hi.nl (t:=aV x.c.1) C q d with ⟨m, _,o,a,H,k4⟩|⟨o,a⟩
   ·rw[<-g] at o;rw[j] at o;omega
   ·rw[<-g] at a;exact a f
  ·obtain⟨_,a⟩:=M.hi.inv.qo (t:=aV x.c.1) q w d.1;rw[<-g,f] at a;exact absurd a (by decide)
 rw[<-bM B] at k;refine⟨_,rfl,λy p=>?_,.inr ⟨by omega,rfl,rfl⟩,λ_=>⟨hb,.inr ⟨b, _,k⟩⟩,λc=>absurd c (show ¬ (3:Int)=4 by decide),.inl rfl,λc=>absurd c (show ¬ (3:Int)=2 by decide),nP rfl⟩;rcases EE p with p|rfl
 ·exact .inl p
 ·exact .inr ⟨b,hb,rfl,rfl,k⟩
theorem chg (M:MI gh ta n s) {x:bU} (b:s.cs[i]? =some x): ∃x',Ch s (Go.Proofs.YtlcenllcmeebhaaGreat.jz s i x).1 i x x':=by
 have z:=M.ph x (aE b);unfold Go.Proofs.YtlcenllcmeebhaaGreat.jz;split
 ·rename_i d;unfold bO;rw[ao (by omega),ao (by omega),ao (by omega),av d];have: ∃(s1:MS) (r:Int×Int),fO s i x=(s1,r,true)/\s1.cs=s.cs/\s1.bx=s.bx/\(s1.h=s.h\/(x.ph=3/\x.c.1=7/\s1.h=bE s.h (dO s.h.s.1 (16*x.fr+x.c.2.1 % 16) x.c.2.2.1,s.h.s.2))):=by
   unfold fO;dsimp only;split
   ·rename_i m;exact⟨_, _,rfl,rfl,rfl,.inr ⟨d,m,rfl⟩⟩
   ·exact⟨_, _,rfl,rfl,rfl,.inl rfl⟩
  obtain⟨s1,r,o,g,p,t⟩:=this;rw[o,jg (x:=x) (by rw[g];exact b)];exact⟨_,Ch.idle (by rw[g]) rfl (t.imp id λc=> .inr (.inr c)) p⟩
 ·rename_i d;have u:i<s.bx.length:=by rw[M.lb, <-M.lc];exact(B1.1 b).1
  unfold s9;cases f:s.bx[i]? with
  |none=>rw[C7 u] at f;cases f
  |some q=>
   cases q with
   |cons a q=>
    refine⟨_,rfl,λl v=> .inl (tK v).1,?_,λc=>absurd c d,λc=> .inl ⟨c,rfl⟩,.inl rfl,λc=> .inr c,λj w A y=>⟨[],by rw[Df];show(s.bx.set i q)[j]? = _;rw[FB (λe=>w e.symm)];exact y,λ_ _ _=>rfl,λ_=>rfl⟩⟩;by_cases h0:x.ph=0
    ·exact .inl h0
    ·exact .inr ⟨h0,rfl,rfl⟩
   |nil=>
    dsimp only;unfold bO;split
    ·rename_i h0;exact⟨x,by show(dM s).1.cs= _;rw[tN,EI b],λl h=> .inl h,.inl h0,λc=>absurd c d,λc=> .inl ⟨c,rfl⟩,.inr (.inl rfl),λc=> .inr c,nP (EJ s)⟩
    split
    ·rename_i h1;exact MY b h1 f
    split
    ·rename_i k;exact SC M b k f
    ·rename_i h0 h1 k;unfold iJ;split
     ·rw[jg (by exact b)];exact⟨_,Ch.idle rfl rfl (.inl rfl)⟩
     ·exact⟨x,(EI b).symm,λl h=> .inl h,.inr ⟨h0,rfl,rfl⟩,λc=>absurd c d,λc=> .inl ⟨c,rfl⟩,.inl rfl,λc=> .inr c,nP rfl⟩
theorem EL (X:x9 n s) (k:Int):(aP s k).1=s\/ ∃(c:Nat) (x x':bU),k=(c:Int)/\s.cs[c]? =some x/\Ch s (aP s k).1 c x x':=by
 obtain⟨gh,ta,M⟩:=X;by_cases b:k<0
 ·left;unfold aP;rw[av b]
 ·cases a:s.cs[k.toNat]? with
  |none=>left;unfold aP;rw[ao b,a]
  |some x=>
   obtain⟨x',C⟩:=chg M a;refine .inr ⟨k.toNat,x,x',by omega,a,?_⟩;have e:aP s k=Go.Proofs.YtlcenllcmeebhaaGreat.jz s k.toNat x:=by unfold aP;rw[ao b,a]
   rw[e];exact C
end
section
variable {gh dw:Gh} {ta:Int->Bool} {n:Nat} {s s':MS} {i:Nat} {N:Int->Int->Prop}
structure Nm (N:Int->Int->Prop) (s:MS):Prop where
 ln: ∀x∈s.cs, ∀l∈x.ls,N l.1 l.2.1
 ca: ∀x∈s.cs,x.ph≠0->x.c.1=6\/x.c.1=7->N x.vm (x.c.2.1 / 16)
theorem Nm.step (H:Nm N s) (X:x9 n s) (k:Int):Nm N (aP s k).1:=by
 rcases EL X k with e|⟨c,x,x', _,j,C⟩
 ·rw[e];exact H
 obtain⟨gh,ta,M⟩:=X;have b:=aE j;refine⟨λy a l i=>?_,λy a h0 f=>?_⟩
 ·rw[C.cs] at a;rcases iq a with rfl|a
  ·rcases C.ls l i with h|⟨m, _,g,d, _⟩
   ·exact H.ln x b l h
   ·rw[g,d];exact H.ca x b (by omega) (M.ac x b m).2.2
  ·exact H.ln y a l i
 ·rw[C.cs] at a;rcases iq a with rfl|a
  ·rcases C.vc with h|⟨o,g,d⟩
   ·exact absurd h h0
   ·rw[g,d];rw[d] at f;exact H.ca x b o f
  ·exact H.ca y a h0 f
theorem Nm.ask (H:Nm N s) (k vm:Int) {c:CT} (hc:c.1=6\/c.1=7->N vm (c.2.1 / 16)):Nm N (cA s k vm c):=by
 unfold cA;split
 ·exact H
 cases e:s.cs[k.toNat]? with
 |none=>exact H
 |some x=>
  dsimp only;split
  ·refine⟨λy a l b=>?_,λy a h0 d=>?_⟩
   ·rcases iq (show y∈s.cs.set _ _ from a) with rfl|a
    ·exact H.ln x (aE e) l b
    ·exact H.ln y a l b
   ·rcases iq (show y∈s.cs.set _ _ from a) with rfl|a
    ·exact hc d
    ·exact H.ca y a h0 d
  ·exact H
theorem Nm.new (f:Nat) (l:Int):Nm N (m0 f n l):=⟨λx a l b=>(by rw[Dk a] at b;cases b),λx a h0=>(by rw[Dk a] at h0;exact absurd rfl h0)⟩
structure NM (s:MS):Prop where
 r: ∀x∈s.cs,x.ph=4->x.rs.2=0
theorem NM.step (H:NM s) (X:x9 n s) (k:Int):NM (aP s k).1:=by
 rcases EL X k with e|⟨c,x,x', _,d,C⟩
 ·rw[e];exact H
 refine⟨λy a b=>?_⟩;rw[C.cs] at a;rcases iq a with rfl|a
 ·rcases C.p4 b with ⟨f,g⟩|e
  ·rw[g];exact H.r x (aE d) f
  ·exact e.1
 ·exact H.r y a b
theorem NM.ask (H:NM s) (k vm:Int) (c:CT):NM (cA s k vm c):=by
 unfold cA;split
 ·exact H
 cases d:s.cs[k.toNat]? with
 |none=>exact H
 |some x=>
  dsimp only;split
  ·refine⟨λy a b=>?_⟩;rcases iq (show y∈s.cs.set _ _ from a) with rfl|a
   ·exact absurd b (show ¬ (1:Int)=4 by decide)
   ·exact H.r y a b
  ·exact H
theorem NM.new (f:Nat) (l:Int):NM (m0 f n l):=⟨λx b a=>by rw[Dk b] at a;exact absurd a (show ¬ (0:Int)=4 by decide)⟩
end
theorem c1: ¬ (1:Int)=12:=by decide
theorem c2: ¬ (2:Int)=12:=by decide
theorem c3: ¬ (3:Int)=12:=by decide
theorem c4: ¬ (4:Int)=12:=by decide
theorem c5: ¬ (5:Int)=12:=by decide
theorem c6: ¬ (6:Int)=12:=by decide
theorem c7: ¬ (7:Int)=12:=by decide
theorem c9: ¬ (9:Int)=12:=by decide
theorem XV: ¬ (10:Int)=12:=by decide
theorem c11: ¬ (11:Int)=12:=by decide
section
variable {gh:Gh} {h:HS}
theorem zg (H:HI gh h) {v:Int} (b:aR h.g v=true) {p t:Int} (c:0<=p/\p<65536): ∀k:Nat,(∃m:Nat,m+k=3/\(fZ h.s.1 (aT h.g v) p t k).2.1=(m:Int)/\(fZ h.s.1 (aT h.g v) p t k).2.2=(0,0,0,0,())/\gh (fZ h.s.1 (aT h.g v) p t k).1=some (v,m,px (m+1) p))\/(1<=k/\(fZ h.s.1 (aT h.g v) p t k).2.1= -1)
 |0=>by
  obtain⟨x,d,i,hv, _⟩:=bL b;have a:=H.root d;rw[hv] at a;refine .inl ⟨3,rfl,rfl,rfl,?_⟩;show gh (aT h.g v)=some (v,3,px 4 p);rw[XE c,i];exact a
 |k+1=>by
  obtain⟨x,d,i,hv, _⟩:=bL b;have a:=H.root d;rw[hv] at a;rcases zg H b (t:=t) c k with ⟨m,r,h1,j,l⟩|⟨_,h1⟩
  ·have e:fZ h.s.1 (aT h.g v) p t k=((fZ h.s.1 (aT h.g v) p t k).1,(m:Int),(0,0,0,0,())):=BI rfl (BI h1 j);have es:fZ h.s.1 (aT h.g v) p t (k+1)=bz h.s.1 p t ((fZ h.s.1 (aT h.g v) p t k).1,(m:Int),(0,0,0,0,())):=by rw[<-e];rfl
   rw[es];rcases H.inv.nc H.nl (t:=t) a c l with ⟨n,u,f,w,o,q⟩|⟨f, _⟩
   ·exact .inl ⟨n,by omega,f,o,q⟩
   ·exact .inr ⟨by omega,f⟩
  ·right;refine⟨by omega,?_⟩;show(bz h.s.1 p t (fZ h.s.1 (aT h.g v) p t k)).2.1= -1;rw[qf h1];exact h1
theorem MZ (H:HI gh h) {v:Int} (k:aR h.g v=true) {p:Int} (a:0<=p/\p<65536):rB (aT h.g v) p 0=false/\(((mG h.s.1 (aT h.g v) p 0).2.2.2.1=0/\ ∃(m:Nat) (d:DT),(mG h.s.1 (aT h.g v) p 0).1=(m:Int)/\h.s.2[m]? =some d/\d.1=4)\/(mG h.s.1 (aT h.g v) p 0).2.2.2.1=4):=by
 obtain⟨x,f,n,hv, _⟩:=bL k;have b:=H.root f;have c:=H.inv.Gs H.nl b a (t:=0) (by decide);rw[n];obtain⟨o,q,z⟩:=H.inv.uJ b;refine⟨?_,?_⟩
 ·unfold rB;have r:dZ x.root p 3=16*x.root+px 3 p % 16:=kL ⟨o,q⟩ a (l:=3) (by omega);have A:=ee p 3;rw[r,decide_eq_false (by omega),decide_eq_false (by omega),decide_eq_false (by omega)];rfl
 ·by_cases e:(bu h.s x.root false p).2.2.1=0
  ·rw[av e] at c;have u:ng h v.toNat p=some (bu h.s x.root false p).1:=by rw[cN f,av e]
   obtain⟨m,d,h1,w,y, _⟩:=H.TC u;obtain⟨f0,B, _,i⟩:=H.inv.lE b a;have j:=(H.inv.VM b a i).2.2;rw[<-H.inv.ft b a i] at j;refine .inl ⟨j.2 e,m,d,?_,w,y⟩;rw[c];exact h1
  ·rw[ao e] at c;exact .inr c
end
section
variable {gh dw:Gh} {ta:Int->Bool} {n:Nat} {s s':MS} {i:Nat}
theorem pB {x:bU} (a:s.cs[i]? =some x) (h0:x.ph=0) (vm:Int) (c:CT):cA s (i:Int) vm c=a_ s i {x with ph:=1,vm:=vm,c:=c}/\rI s (i:Int)=0:=by
 refine⟨?_,?_⟩
 ·unfold cA;rw[ao (by omega)];show(match s.cs[i]? with|none=> _|some x=> _)= _;rw[a];exact av h0
 ·unfold rI;rw[ao (by omega)];show(match s.cs[i]? with|none=>(2:Int)|some x=> _)= _;rw[a];exact av h0
theorem quick {x:bU} (d:s.cs[i]? =some x) (h0:x.ph=0) (hb:s.bx[i]? =some []) {vm:Int} {c:CT} (m: ¬ (c.1=2\/c.1=4\/c.1=5\/c.1=10)) (n:aV c.1=0) (o:c.1≠17) (a:qD s i {x with ph:=1,vm:=vm,c:=c}=false):
 aP (cA s (i:Int) vm c) (i:Int)=({s with h:=jB s.h vm c.1 c.2.1 c.2.2.1 c.2.2.2.1,kn:=s.kn++eh s (jB s.h vm c.1 c.2.1 c.2.2.1 c.2.2.2.1),ms:=s.ms++[(1,vm,0,c,wP s.h vm c.1 c.2.1 c.2.2.1 c.2.2.2.1,qH s.h vm c.1 c.2.1 c.2.2.1 c.2.2.2.1)],cs:=s.cs.set i (bD x.ls)},(wP s.h vm c.1 c.2.1 c.2.2.1 c.2.2.2.1,qH s.h vm c.1 c.2.1 c.2.2.1 c.2.2.2.1),true):=by
 have f:i<s.cs.length:=(B1.1 d).1;rw[(pB d h0 vm c).1];generalize b:({x with ph:=1,vm:=vm,c:=c}:bU)=y at a ⊢;have p:y.ph=1:=by rw[<-b]
 have hc:y.c=c:=by rw[<-b]
 have hv:y.vm=vm:=by rw[<-b]
 have q:y.ls=x.ls:=by rw[<-b]
 have g:(a_ s i y).cs[i]? =some y:=C9 f;rw[pA g];unfold Go.Proofs.YtlcenllcmeebhaaGreat.jz;rw[ao (by omega)];unfold s9;rw[show(a_ s i y).bx[i]? =some [] from hb];dsimp only;unfold bO;rw[ao (by omega),av p];unfold dp;have r:jt (a_ s i y).h y=false:=by unfold jt;rw[hc,n];rfl
 have t:qD (a_ s i y) i y=false:=by
  unfold qD at a ⊢;rw[H4] at a ⊢;intro j l;have u:j∈Ak s.cs.length:=by
   show j∈Ak s.cs.length;rw[show(a_ s i y).cs.length=s.cs.length from DK] at l;exact l
  have:=a j u;by_cases e:j=i
  ·subst e;rw[g];simp
  ·rw[show(a_ s i y).cs[j]? =s.cs[j]? from FB (λk=>e k.symm)];exact this
 rw[r,t,ao (by decide),ao (by decide),ao (λk=>o (by rw[hc] at k;rw[k.2]))];unfold iI;dsimp only;rw[hc,ao m,hv];unfold gJ;rw[av rfl];dsimp only;have v: ∀(x1:bU),((s.cs.set i y).set i x1).getD i y=x1:=λx1=>by
  rw[CX,Dn,C9 f];rfl
 unfold a_;dsimp only;rw[v];dsimp only;rw[CX,CX,q];rfl
theorem EM (a: ∀y∈s.cs,y.ph=0) (x:bU):qD s i x=false:=by
 unfold qD;rw[H4];intro j _;cases b:s.cs[j]? with
 |none=>simp
 |some y=>
  have:=a y (aE b);dsimp only;rw[this];simp
theorem SD {h:HS} (H:HI gh h) {v:Nat} (a:mR h.g=some v) (hc:0<cd h.s.2 0):qH h 0 1 0 0 0=0/\wP h 0 1 0 0 0=(v:Int)/\(jB h 0 1 0 0 0).g=bq h.g v (some ⟨eK h.s (v:Int),[]⟩)/\cd (jB h 0 1 0 0 0).s.2 0+1=cd h.s.2 0:=by
 have b:ik h 0 1 0 0 0=0:=rfl;obtain⟨h1,f,m⟩:=Co b;have hv:=(nT.1 a).1;have c:rk h.s (v:Int)=0:=H.inv.Zw (by omega) hc;have d:(run h 0 1 0 0 0).1={h with s:=iT h.s (v:Int) λ_=>0,g:=bq h.g v (some ⟨eK h.s (v:Int),[]⟩)}:=by
  show gS h= _;unfold gS;rw[a];exact av c
 have e:(run h 0 1 0 0 0).2.2=0:=by
  show oZ h=0;unfold oZ;rw[a];exact c
 have i:(run h 0 1 0 0 0).2.1=(v:Int):=by
  show AM h=(v:Int);unfold AM;rw[a]
 refine⟨f.trans e,?_,?_,?_⟩
 ·unfold wP;rw[av b,av e];exact i
 ·rw[h1,d]
 ·rw[h1,d];show cd (dF h.s.2 3 (v:Int)) 0+1= _;obtain⟨j, _,k, _, _,l⟩:=m9 (ds:=h.s.2) (o:=(v:Int)) hc H.inv.fz (by omega);rw[l];have:=pX (d':=((3:Int),(v:Int),(0:Int),(0:Int),())) k 0;rw[av (show zD.1=0 from rfl),ao (show ¬ (3:Int)=0 by decide)] at this;omega
end
section
variable {gh dw:Gh} {n:Nat} {s s':MS} {f:Nat} {l:Int}
def Oa (h:HS):Prop:= ∀i q,ng h i q=none
theorem Oa.Dv {h:HS} (H:HI gh h) (b:Oa h):Oa (jB h 0 1 0 0 0):=λi q=>by
 obtain⟨g',d,E, _⟩:=H.Gu;have e:jB h 0 1 0 0 0=gS h:=(Co (show ik h 0 1 0 0 0=0 from rfl)).1;rw[e];cases a:ng (gS h) i q with
 |none=>rfl
 |some x=>
  obtain⟨_, _,f,g⟩:=d.hc.jl a;have:=b i q;rw[mC,E.pg.to (λc=>c ⟨f,g⟩), <-mC,this] at a;cases a
abbrev wQ:CT:=(1,0,0,0,())
structure Bg (f n:Nat) (l:Int) (k:Nat) (s:MS):Prop where
 x:x9 n s
 r:NM s
 np:Oa s.h
 cs:s.cs=BQ n (bD [])
 bx:s.bx=BQ n []
 kn:s.kn=[]
 op:s.op=[]
 ws:s.ep.ws=[]
 sz:s.sz=l
 len:s.h.s.2.length=f
 cnt:cd s.h.s.2 0+k=f
 live: ∀v:Int,aR s.h.g v=true<->1<=v/\v<=(k:Int)
 rp:Rp (h0 f) s.ms s.h
 nm: ∀N:Int->Int->Prop,Nm N s
theorem Bg.new (d:20<=f/\f<=4096) (a:1<=n/\n<=8) (b:1<=l/\l<=64):Bg f n l 0 (m0 f n l) where
 x:=x9.new (by omega) a b
 r:=NM.new f l
 np:=λi q=>rfl
 cs:=rfl
 bx:=rfl
 kn:=rfl
 op:=rfl
 ws:=rfl
 sz:=rfl
 len:=Do
 cnt:=by
  show cd (BQ f zD) 0+0=f;rw[Vr,av rfl];rfl
 live:=λv=>by
  constructor
  ·intro h;obtain⟨_,x,c⟩:=cj.1 h;cases c
  ·intro h;omega
 rp:= .nil _
 nm:=λN=>Nm.new f l
theorem JF {α:Type} (n i:Nat) (x:α):(BQ n x).set i x=BQ n x:=by
 refine J3 λj=>?_;rw[J7];split
 ·rename_i e;subst e;rw[Do,FM]
 ·rfl
theorem Bg.Dv {k:Nat} (b:Bg f n l k s) (H:k<16) (I:k<f) (J:1<=n):(aP (cA s 0 0 wQ) 0).2=((((k+1:Nat):Int),0),true)/\Bg f n l (k+1) (aP (cA s 0 0 wQ) 0).1/\rI s 0=0:=by
 have e:s.cs[0]? =some (bD []):=by rw[b.cs,FM,av (by omega)]
 have hb:s.bx[0]? =some []:=by rw[b.bx,FM,av (by omega)]
 have w: ∀y∈s.cs,y.ph=0:=λy o=>by rw[b.cs] at o;rw[Dk o];rfl
 have q:=quick (vm:=0) (c:=wQ) e rfl hb (show ¬ ((1:Int)=2\/(1:Int)=4\/(1:Int)=5\/(1:Int)=10) by decide) rfl (show ¬ (1:Int)=17 by decide) (EM w _);have X':=(b.x.ask 0 0 (c:=wQ) (show cI 0/\cI 0/\cI 0 by decide)).step 0;have z:=(b.r.ask 0 0 wQ).step (b.x.ask 0 0 (c:=wQ) (show cI 0/\cI 0/\cI 0 by decide)) 0;have A:=VW (b.x.ask 0 0 (c:=wQ) (show cI 0/\cI 0/\cI 0 by decide)) (ZM b.rp 0 0 wQ) 0;have B: ∀N:Int->Int->Prop,Nm N (aP (cA s 0 0 wQ) 0).1:=λN=>((b.nm N).ask 0 0 (c:=wQ) (λc=>absurd c (show ¬ ((1:Int)=6\/(1:Int)=7) by decide))).step (b.x.ask 0 0 (c:=wQ) (show cI 0/\cI 0/\cI 0 by decide)) 0;have q:aP (cA s 0 0 wQ) 0= _:=q;obtain⟨gh,ta,M⟩:=b.x;have C:mR s.h.g=some (k+1):=by
  refine nT.2 ⟨by omega,?_,λu K L=>?_⟩
  ·cases j:s.h.g (k+1) with
   |none=>rfl
   |some g=>
    have:=(b.live ((k+1:Nat):Int)).1 (cj.2 ⟨by omega,g,j⟩);omega
  ·obtain⟨_,g,j⟩:=cj.1 ((b.live (u:Int)).2 (by omega));have j:s.h.g u=some g:=j;rw[j];rfl
 obtain⟨c1,c2,c3,c4⟩:=SD M.hi C (by have:=b.cnt;omega);have nn:NN s.h.s (jB s.h 0 1 0 0 0).s:=by
  rw[(Co (show ik s.h 0 1 0 0 0=0 from rfl)).1];exact NN.Dv s.h
 have D:eh s (jB s.h 0 1 0 0 0)=[]:=by
  refine Gj.2 λg j=>?_;obtain⟨m,d, _,E,F, _⟩:=gy.1 j;obtain⟨d0,p,t⟩:=nn.to E F;have:=(M.kd p t).1;rw[b.kn] at this;cases this
 refine⟨?_,⟨X',z,?_,?_,?_,?_,?_,?_,?_,?_,?_,λv=>?_,A,B⟩,(pB (i:=0) e rfl 0 wQ).2⟩
 ·rw[q];show((wP s.h 0 1 0 0 0,qH s.h 0 1 0 0 0),true)= _;rw[c1,c2]
 ·rw[q];exact b.np.Dv M.hi
 ·rw[q];show s.cs.set 0 (bD [])= _;rw[b.cs,JF]
 ·rw[q];exact b.bx
 ·rw[q];show s.kn++eh s (jB s.h 0 1 0 0 0)=[];rw[D,b.kn];rfl
 ·rw[q];exact b.op
 ·rw[q];exact b.ws
 ·rw[q];exact b.sz
 ·rw[q];show(jB s.h 0 1 0 0 0).s.2.length=f;rw[<-b.len];obtain⟨g',G⟩:=M.hi.step 0 1 0 0 (a:=0) (by decide);have p:=G.sz;have t:=M.hi.sz;have O:=Pu s.h 0 1 0 0 0;omega
 ·rw[q];show cd (jB s.h 0 1 0 0 0).s.2 0+(k+1)=f;have:=b.cnt;omega
 ·rw[q];show aR (jB s.h 0 1 0 0 0).g v=true<-> _;rw[c3];constructor
  ·intro h;obtain⟨hv,x,e⟩:=cj.1 h;unfold bq at e;split at e
   ·omega
   ·have:=(b.live v).1 (cj.2 ⟨hv,x,e⟩);omega
  ·intro h;refine cj.2 ⟨by omega,?_⟩;unfold bq;split
   ·exact⟨_,rfl⟩
   ·obtain⟨_,x,e⟩:=cj.1 ((b.live v).2 (by omega));exact⟨x,e⟩
def yd (f n:Nat) (l:Int):MS:=(aP (cA (aP (cA (m0 f n l) 0 0 wQ) 0).1 0 0 wQ) 0).1
theorem VY (b:20<=f/\f<=4096) (a:1<=n/\n<=8) (c:1<=l/\l<=64):(aP (cA (m0 f n l) 0 0 wQ) 0).2=((1,0),true)/\(aP (cA (aP (cA (m0 f n l) 0 0 wQ) 0).1 0 0 wQ) 0).2=((2,0),true)/\Bg f n l 2 (yd f n l):=by
 obtain⟨a1,d, _⟩:=(Bg.new b a c).Dv (by decide) (by omega) a.1;obtain⟨e,g, _⟩:=d.Dv (by decide) (by omega) a.1;exact⟨a1,e,g⟩
end
section
variable {gh dw:Gh} {n:Nat} {s s':MS} {i:Nat} {h:HS}
theorem JG {ws:List Int} {r p t:Int} {k:Nat} (h:(fZ ws r p t k).2.1= -1): ∀j,(fZ ws r p t (k+j)).2.1= -1
 |0=>h
 |j+1=>by
  have:=JG h j;show(bz ws p t (fZ ws r p t (k+j))).2.1= -1;rw[qf this];exact this
theorem four (H:HI gh h) {v:Int} (c:aR h.g v=true) {p t:Int} (a:0<=p/\p<65536) (o:0<=t/\t<=7) (e:(iw h v.toNat p).2.2.1=0):
 (∀k:Nat,k<=3->(fZ h.s.1 (aT h.g v) p t k).2.1=((3 - k:Nat):Int))/\(fZ h.s.1 (aT h.g v) p t 4).2.1= -1/\(fZ h.s.1 (aT h.g v) p t 4).2.2=((iw h v.toNat p).1,(iw h v.toNat p).2.1,0,(if dV true (iw h v.toNat p).2.1 false (iw h v.toNat p).1 t=true then 0 else 7),()):=by
 obtain⟨x,i,d,hv, _⟩:=bL c;have b:=H.root i;rw[hv] at b;rw[bM i] at e ⊢;obtain⟨f,q, _, _⟩:=H.inv.aay H.nl b a e;have r:=H.inv.xN (t:=t) b a 3 (j:=0) rfl q.1;rw[d];have lv: ∀k:Nat,k<=3->(fZ h.s.1 x.root p t k).2.1=((3 - k:Nat):Int):=λk A=>by
  have:=zg H c (t:=t) a k;rw[d] at this;rcases this with ⟨m,u,h1, _⟩|⟨_,h1⟩
  ·rw[h1];omega
  ·have:=JG h1 (3 - k);rw[show k+(3 - k)=3 by omega,r] at this;exact absurd this (show ¬ (0:Int)= -1 by decide)
 refine⟨lv,?_,?_⟩
 ·have:=zg H c (t:=t) a 4;rw[d] at this;rcases this with ⟨m,u, _⟩|⟨_,h1⟩
  ·omega
  ·exact h1
 ·have n:=H.inv.Gs H.nl b a o;rw[av e] at n;have hb:rB x.root p t=false:=by
   obtain⟨w,y,B⟩:=H.inv.uJ b;unfold rB;have z:dZ x.root p 3=16*x.root+px 3 p % 16:=kL ⟨w,y⟩ a (l:=3) (by omega);have C:=ee p 3;rw[z,decide_eq_false (by omega),decide_eq_false (by omega),decide_eq_false (by omega)];rfl
  rw[<-n];unfold mG;rw[hb];rfl
def fa (s:MS) (i:Nat) (y:bU) (k:Nat):MS:=a_ {s with ep:=mJ s.ep i} i {y with ph:=2,wk:=fZ s.h.s.1 (aT s.h.g y.vm) (y.c.2.1 / 16) (aV y.c.1) k}
theorem CI {y:bU} (a:i<s.cs.length) (hb:s.bx[i]? =some []) {k:Nat} (b:(fZ s.h.s.1 (aT s.h.g y.vm) (y.c.2.1 / 16) (aV y.c.1) (k+1)).2.1≠ -1):aP (fa s i y k) (i:Int)=(fa s i y (k+1),(0,0),false):=by
 have d:(fa s i y k).cs[i]? =some {y with ph:=2,wk:=fZ s.h.s.1 (aT s.h.g y.vm) (y.c.2.1 / 16) (aV y.c.1) k}:=C9 a;rw[pA d];unfold Go.Proofs.YtlcenllcmeebhaaGreat.jz;rw[ao (show ¬ (2:Int)=3 by decide)];unfold s9;rw[show(fa s i y k).bx[i]? =some [] from hb];dsimp only;unfold bO;rw[ao (show ¬ (2:Int)=0 by decide),ao (show ¬ (2:Int)=1 by decide),av (show(2:Int)=2 from rfl)];unfold j_;dsimp only;rw[av (show(bz (fa s i y k).h.s.1 (y.c.2.1 / 16) (aV y.c.1) (fZ s.h.s.1 (aT s.h.g y.vm) (y.c.2.1 / 16) (aV y.c.1) k)).2.1≠ -1 from b)];unfold gJ;rw[ao (show ¬ false=true by decide)];refine BI ?_ rfl;show a_ (fa s i y k) i _= _;unfold fa a_;dsimp only;rw[CX];rfl
def CJ (s:MS) (i:Nat) (y:bU) (f r:Int):MS:=a_ {s with ep:=mJ s.ep i} i {y with ph:=3,wk:=fZ s.h.s.1 (aT s.h.g y.vm) (y.c.2.1 / 16) (aV y.c.1) 4,ls:=j9 y.ls s.sz (y.vm,y.c.2.1 / 16,f,r,()),fr:=f}
theorem SE {y:bU} (a:i<s.cs.length) (hb:s.bx[i]? =some []) {f r:Int} (h1:(fZ s.h.s.1 (aT s.h.g y.vm) (y.c.2.1 / 16) (aV y.c.1) 4).2.1= -1) (b:(fZ s.h.s.1 (aT s.h.g y.vm) (y.c.2.1 / 16) (aV y.c.1) 4).2.2=(f,r,0,0,())):aP (fa s i y 3) (i:Int)=(CJ s i y f r,(0,0),false):=by
 have d:(fa s i y 3).cs[i]? =some {y with ph:=2,wk:=fZ s.h.s.1 (aT s.h.g y.vm) (y.c.2.1 / 16) (aV y.c.1) 3}:=C9 a;rw[pA d];unfold Go.Proofs.YtlcenllcmeebhaaGreat.jz;rw[ao (show ¬ (2:Int)=3 by decide)];unfold s9;rw[show(fa s i y 3).bx[i]? =some [] from hb];dsimp only;unfold bO;rw[ao (show ¬ (2:Int)=0 by decide),ao (show ¬ (2:Int)=1 by decide),av (show(2:Int)=2 from rfl)];unfold j_;dsimp only;have es:bz (fa s i y 3).h.s.1 (y.c.2.1 / 16) (aV y.c.1) (fZ s.h.s.1 (aT s.h.g y.vm) (y.c.2.1 / 16) (aV y.c.1) 3)=fZ s.h.s.1 (aT s.h.g y.vm) (y.c.2.1 / 16) (aV y.c.1) 4:=rfl;rw[es,ao (λc=>c h1),b,ao (λc=>c rfl)];unfold gJ;rw[ao (show ¬ false=true by decide)];refine BI ?_ rfl;show a_ (fa s i y 3) i _= _;unfold fa CJ a_;dsimp only;rw[CX]
end
section
variable {gh dw:Gh} {n:Nat} {s s':MS} {i:Nat} {h:HS}
theorem EN {y:bU} (a:i<s.cs.length) (hb:s.bx[i]? =some []) (h1:y.ph=1) (b:jt s.h y=true):
 aP (a_ s i y) (i:Int)=(if(iH y.ls y.vm (y.c.2.1 / 16) (aV y.c.1)).2=0 then a_ {s with ep:=mJ s.ep i} i {y with ph:=3,fr:=(iH y.ls y.vm (y.c.2.1 / 16) (aV y.c.1)).1} else fa s i y 0,(0,0),false):=by
 have d:(a_ s i y).cs[i]? =some y:=C9 a;rw[pA d];unfold Go.Proofs.YtlcenllcmeebhaaGreat.jz;rw[ao (by omega)];unfold s9;rw[show(a_ s i y).bx[i]? =some [] from hb];dsimp only;unfold bO;rw[ao (by omega),av h1];unfold dp;rw[show jt (a_ s i y).h y=true from b,av rfl];dsimp only;split
 ·unfold gJ;rw[ao (show ¬ false=true by decide)];refine BI ?_ rfl;show a_ {a_ s i y with ep:=mJ s.ep i} i _= _;unfold a_;dsimp only;rw[CX]
 ·unfold gJ;rw[ao (show ¬ false=true by decide)];refine BI ?_ rfl;show a_ {a_ s i y with ep:=mJ s.ep i} i _= _;unfold a_ fa a_;dsimp only;rw[CX]
theorem EO {y:bU} (d:i<s.cs.length) (a:y.ph=3) (e:y.c.1≠7):
 aP (a_ s i y) (i:Int)=({s with cs:=s.cs.set i (bD y.ls),ep:=oO s.ep i,ms:=s.ms++[(3,0,16*y.fr+y.c.2.1 % 16,(0,0,0,0,()),dv s.h.s.1 (16*y.fr+y.c.2.1 % 16),0)]},(dv s.h.s.1 (16*y.fr+y.c.2.1 % 16),0),true):=by
 have b:(a_ s i y).cs[i]? =some y:=C9 d;rw[pA b];unfold Go.Proofs.YtlcenllcmeebhaaGreat.jz;rw[av a];unfold bO;rw[ao (by omega),ao (by omega),ao (by omega),av a];unfold fO;dsimp only;rw[ao e];unfold gJ;rw[av rfl];dsimp only;rw[show(a_ s i y).cs.getD i y=y by
  rw[Dn,b];rfl]
 refine BI ?_ rfl;unfold a_;dsimp only;rw[CX]
def vw (i:Nat):Nat->MS->MS
 |0,s=>s
 |k+1,s=>(aP (vw i k s) (i:Int)).1
theorem abD (H:HI gh s.h) {y:bU} (a:i<s.cs.length) (hb:s.bx[i]? =some []) (h1:y.ph=1) (z:y.c.1=6) (g:jt s.h y=true) (J:0<=y.c.2.1) (A: ∀l∈y.ls,uU y.vm (y.c.2.1 / 16) l=false) {f r:Int} (j:iw s.h y.vm.toNat (y.c.2.1 / 16)=(f,r,0,())) (B:dV true r false f 1=true):
 (∀k,k<=4->(aP (vw i k (a_ s i y)) (i:Int)).2=((0,0),false))/\aP (vw i 5 (a_ s i y)) (i:Int)=({s with cs:=s.cs.set i (bD (j9 y.ls s.sz (y.vm,y.c.2.1 / 16,f,r,()))),ep:=oO (mJ s.ep i) i,ms:=s.ms++[(3,0,16*f+y.c.2.1 % 16,(0,0,0,0,()),dv s.h.s.1 (16*f+y.c.2.1 % 16),0)]},(dv s.h.s.1 (16*f+y.c.2.1 % 16),0),true):=by
 have b:aV y.c.1=1:=by rw[z];rfl
 have d:=g;unfold jt at d;simp only[DE,decide_eq_true_eq] at d;obtain⟨_,C, _,K⟩:=d;have D:0<=y.c.2.1 / 16/\y.c.2.1 / 16<65536:=by omega
 obtain⟨e,E,m⟩:=four H C (t:=aV y.c.1) D (by rw[b];decide) (by rw[j]);rw[j,b,B,av rfl, <-b] at m;have F:iH y.ls y.vm (y.c.2.1 / 16) (aV y.c.1)=(0,4):=by
  unfold iH;have:y.ls.find? (uU y.vm (y.c.2.1 / 16))=none:=List.find?_eq_none.2 λl G=>by rw[A l G];decide
  rw[this]
 have n:aP (a_ s i y) (i:Int)=(fa s i y 0,(0,0),false):=by
  rw[EN a hb h1 g,F,ao (show ¬ (4:Int)=0 by decide)]
 have s1:=CI (y:=y) a hb (k:=0) (by rw[e 1 (by decide)];decide);have o:=CI (y:=y) a hb (k:=1) (by rw[e 2 (by decide)];decide);have p:=CI (y:=y) a hb (k:=2) (by rw[e 3 (by decide)];decide);have q:=SE (y:=y) a hb E m;have u:vw i 1 (a_ s i y)=fa s i y 0:=by show(aP (a_ s i y) (i:Int)).1= _;rw[n]
 have v:vw i 2 (a_ s i y)=fa s i y 1:=by show(aP (vw i 1 (a_ s i y)) (i:Int)).1= _;rw[u,s1]
 have w:vw i 3 (a_ s i y)=fa s i y 2:=by show(aP (vw i 2 (a_ s i y)) (i:Int)).1= _;rw[v,o]
 have x:vw i 4 (a_ s i y)=fa s i y 3:=by show(aP (vw i 3 (a_ s i y)) (i:Int)).1= _;rw[w,p]
 have I:vw i 5 (a_ s i y)=CJ s i y f r:=by show(aP (vw i 4 (a_ s i y)) (i:Int)).1= _;rw[x,q]
 refine⟨λk L=>?_,?_⟩
 ·have:k=0\/k=1\/k=2\/k=3\/k=4:=by omega
  rcases this with rfl|rfl|rfl|rfl|rfl
  ·show(aP (a_ s i y) (i:Int)).2= _;rw[n]
  ·rw[u,s1]
  ·rw[v,o]
  ·rw[w,p]
  ·rw[x,q]
 ·rw[I];exact EO (s:={s with ep:=mJ s.ep i}) a rfl (show ¬ y.c.1=7 by omega)
theorem abE {y:bU} (b:i<s.cs.length) (hb:s.bx[i]? =some []) (h1:y.ph=1) (d:y.c.1=6) (e:jt s.h y=true) {f:Int} (g:iH y.ls y.vm (y.c.2.1 / 16) 1=(f,0)):
 (aP (a_ s i y) (i:Int)).2=((0,0),false)/\aP (vw i 1 (a_ s i y)) (i:Int)=({s with cs:=s.cs.set i (bD y.ls),ep:=oO (mJ s.ep i) i,ms:=s.ms++[(3,0,16*f+y.c.2.1 % 16,(0,0,0,0,()),dv s.h.s.1 (16*f+y.c.2.1 % 16),0)]},(dv s.h.s.1 (16*f+y.c.2.1 % 16),0),true):=by
 have j:aV y.c.1=1:=by rw[d];rfl
 have a:=EN b hb h1 e;rw[j,g,av rfl] at a;refine⟨by rw[a],?_⟩;show aP (aP (a_ s i y) (i:Int)).1 (i:Int)= _;rw[a];exact EO (s:={s with ep:=mJ s.ep i}) b rfl (show ¬ y.c.1=7 by omega)
end
section
variable {gh dw:Gh} {n:Nat} {s s':MS} {f:Nat} {l:Int}
abbrev NO (p b:Int):CT:=(3,p,b,0,())
theorem SF {b F:Int} (hb:1<=b/\b<=7) (h1:b % 2=1) (a:0<=F/\F<4096):dV true b false F 1=true:=by
 unfold dV bT;have:b=1\/b=3\/b=5\/b=7:=by omega
 have h1:decide (F>=0)=true:=decide_eq_true a.1;have c:decide (F<4096)=true:=decide_eq_true a.2;rcases this with rfl|rfl|rfl|rfl<;>simp<;>first|omega|(refine⟨by omega,?_⟩;decide)|(constructor<;>first|omega|decide)
structure Bd (f n:Nat) (l p b F:Int) (s:MS):Prop where
 x:x9 n s
 r:NM s
 pg:iw s.h 1 p=(F,b,0,())
 only: ∀i q g,ng s.h i q=some g->i=1/\q=p
 cs:s.cs=BQ n (bD [])
 bx:s.bx=BQ n []
 kn:s.kn=[]
 op:s.op=[]
 ws:s.ep.ws=[]
 sz:s.sz=l
 live: ∀v:Int,aR s.h.g v=true<->1<=v/\v<=2
 fr: ∃(m:Nat) (d:DT),F=(m:Int)/\s.h.s.2[m]? =some d/\d.1=4/\d.2.1=1/\d.2.2.1=0
theorem Bg.don (e:Bg f n l 2 s) (Q:20<=f) (R:1<=n) {p b:Int} (w:0<=p/\p<65536) (hb:1<=b/\b<=7): ∃F,(aP (cA s 0 1 (NO p b)) 0).2=((F,0),true)/\Bd f n l p b F (aP (cA s 0 1 (NO p b)) 0).1:=by
 have C:s.cs[0]? =some (bD []):=by rw[e.cs,FM,av (by omega)]
 have D:s.bx[0]? =some []:=by rw[e.bx,FM,av (by omega)]
 have E: ∀y∈s.cs,y.ph=0:=λy z=>by rw[e.cs] at z;rw[Dk z];rfl
 have q:=quick (vm:=1) (c:=NO p b) C rfl D (show ¬ ((3:Int)=2\/(3:Int)=4\/(3:Int)=5\/(3:Int)=10) by decide) rfl (show ¬ (3:Int)=17 by decide) (EM E _);have q:aP (cA s 0 1 (NO p b)) 0= _:=q;have G:cI (NO p b).2.1/\cI (NO p b).2.2.1/\cI (NO p b).2.2.2.1:=⟨⟨w.1,by show p< _;omega⟩,⟨by show 0<=b;omega,by show b< _;omega⟩,(show cI 0 by decide)⟩;have A:=e.x.ask 0 1 G;have X':=A.step 0;have H:=(e.r.ask 0 1 (NO p b)).step A 0;obtain⟨gh,ta,M⟩:=e.x;have o:aR s.h.g 1=true:=(e.live 1).2 (by decide);obtain⟨d1,d2,d3⟩:=ZH (h:=s.h) (v:=1) (a:=p) (b:=b) o;have I: ¬ (iw s.h 1 p).2.2.1=0:=λc=>by
  have:=e.np 1 p;rw[mC,av c] at this;cases this
 have t:lj s.h 1 p b=0:=by
  rw[M.hi.VR o w hb (by have:=e.cnt;omega)];exact ao I
 obtain⟨g',m,S,O,J, _⟩:=M.hi.Gt o t;rw[t] at d2;rw[t,av rfl,J] at d3;have k:jB s.h 1 3 p b 0=jq s.h 1 p b:=d1;have K:eh s (jB s.h 1 3 p b 0)=[]:=by
  refine Gj.2 λg j=>?_;obtain⟨m,d, _,B,L, _⟩:=gy.1 j;rw[k] at B;obtain⟨d0,N,P⟩:=(NN.don s.h 1 p b).to B L;have:=(M.kd N P).1;rw[e.kn] at this;cases this
 refine⟨(m:Int),?_,X',H,?_,λi u g j=>?_,?_,?_,?_,?_,?_,?_,λv=>?_,?_⟩
 ·rw[q];show((wP s.h 1 3 p b 0,qH s.h 1 3 p b 0),true)= _;rw[d2,d3]
 ·rw[q];show iw (jB s.h 1 3 p b 0) 1 p= _;rw[k];exact O.pg
 ·rw[q] at j;have j:ng (jB s.h 1 3 p b 0) i u=some g:=j;rw[k] at j;refine Fv λc=>?_;have hc: ¬ (i=(1:Int).toNat/\u=p):=c;rw[mC,O.ef.pg.to hc, <-mC,e.np i u] at j;cases j
 ·rw[q];show s.cs.set 0 (bD [])= _;rw[e.cs,JF]
 ·rw[q];exact e.bx
 ·rw[q];show s.kn++eh s (jB s.h 1 3 p b 0)=[];rw[K,e.kn];rfl
 ·rw[q];exact e.op
 ·rw[q];exact e.ws
 ·rw[q];exact e.sz
 ·rw[q];show aR (jB s.h 1 3 p b 0).g v=true<-> _;rw[k,O.g];exact e.live v
 ·refine⟨m,(4,1,0,0,()),rfl,?_,rfl,rfl,rfl⟩;rw[q];show(jB s.h 1 3 p b 0).s.2[m]? =some (4,(((1:Int).toNat:Nat):Int),0,0,());rw[k];exact O.f4
end
section
variable {n:Nat} {s:MS} {f:Nat} {l:Int}
abbrev vx (a:Int):CT:=(6,a,0,0,())
theorem acp (u:1<=l/\l<=64) {p F o:Int} (b:Bd f 1 l p 1 F s) (O:0<=p/\p<65536) (P:0<=o/\o<16):
 (∀k,k<=4->(aP (vw 0 k (cA s 0 1 (vx (16*p+o)))) 0).2.2=false)/\ ∃a r,aP (vw 0 5 (cA s 0 1 (vx (16*p+o)))) 0=(a,r,true)/\a.cs=[bD [(1,p,F,1,())]]/\rI a 0=0/\
  (aP (cA a 0 1 (vx (16*p+o))) 0).2.2=false/\ ∃v r,aP (aP (cA a 0 1 (vx (16*p+o))) 0).1 0=(v,r,true)/\v.cs=[bD [(1,p,F,1,())]]:=by
 obtain⟨gh,ta,M⟩:=b.x;have w:s.cs[0]? =some (bD []):=by rw[b.cs];rfl
 have z:s.bx[0]? =some []:=by rw[b.bx];rfl
 have D:0<s.cs.length:=(B1.1 w).1;have E:aR s.h.g 1=true:=(b.live 1).2 (by decide);have t:(16*p+o) / 16=p:=by omega
 have G:dV true 1 false F 1=true:=by
  obtain⟨m,d,Q,H, _⟩:=b.fr;have:=(B1.1 H).1;have:=M.hi.inv.le;exact SF (by decide) (by decide) (by omega)
 have A: ∀(ls:List LT) (s':MS),s'.h=s.h->jt s'.h {bD ls with ph:=1,vm:=1,c:=vx (16*p+o)}=true:=λls s' e=>by
  unfold jt;rw[e];show(decide (aV 6>0)&&(aR s.h.g 1&&(fN 6 (16*p+o) 0 0&&decide (16*p+o<1048576))))=true;rw[E,decide_eq_true (show 16*p+o<1048576 by omega),show fN 6 (16*p+o) 0 0=true from rfl];rfl
 have a1:=(pB w rfl 1 (vx (16*p+o))).1;have a1:cA s 0 1 (vx (16*p+o))=a_ s 0 {bD [] with ph:=1,vm:=1,c:=vx (16*p+o)}:=a1;obtain⟨B,j⟩:=abD M.hi (y:={bD [] with ph:=1,vm:=1,c:=vx (16*p+o)}) D z rfl rfl (A [] s rfl) (show 0<=16*p+o by omega) (λl u=>by cases u) (f:=F) (r:=1) (by show iw s.h 1 ((16*p+o) / 16)= _;rw[t];exact b.pg) G;rw[<-a1] at B j;have fV:s.cs.set 0 (bD (j9 [] s.sz (1,(16*p+o) / 16,F,1,())))=[bD [(1,p,F,1,())]]:=by
  rw[b.cs,t];show[bD (j9 [] s.sz (1,p,F,1,()))]= _;have:j9 [] s.sz (1,p,F,1,())=[(1,p,F,1,())]:=by
   unfold j9;rw[ao (by simp)];have:=b.sz;rw[ao (by show ¬ ((0:Nat):Int)=s.sz;omega)];rfl
  rw[this]
 obtain⟨a,n⟩: ∃a:MS,a={s with cs:=s.cs.set 0 (bD (j9 [] s.sz (1,(16*p+o) / 16,F,1,()))),ep:=oO (mJ s.ep 0) 0,ms:=s.ms++[(3,0,16*F+(16*p+o) % 16,(0,0,0,0,()),dv s.h.s.1 (16*F+(16*p+o) % 16),0)]}:=⟨_,rfl⟩;have j:aP (vw 0 5 (cA s 0 1 (vx (16*p+o)))) 0=(a,(dv s.h.s.1 (16*F+(16*p+o) % 16),0),true):=by rw[n];exact j
 have c6:a.cs=[bD [(1,p,F,1,())]]:=by rw[n];exact fV
 have I:a.bx[0]? =some []:=by rw[n];exact z
 have J:a.h=s.h:=by rw[n]
 have C:a.cs[0]? =some (bD [(1,p,F,1,())]):=by rw[c6];rfl
 refine⟨λk K=>?_,a, _,j,c6,(pB (i:=0) C rfl 1 (vx 0)).2,?_⟩
 ·have:=B k K;show(aP (vw 0 k (cA s 0 1 (vx (16*p+o)))) ((0:Nat):Int)).2.2=false;rw[this]
 ·skip
  have L:cA a 0 1 (vx (16*p+o))=a_ a 0 {bD [(1,p,F,1,())] with ph:=1,vm:=1,c:=vx (16*p+o)}:=(pB C rfl 1 (vx (16*p+o))).1;have N:iH [((1,p,F,1,()):LT)] 1 ((16*p+o) / 16) 1=(F,0):=by
   unfold iH;rw[t];have:[((1,p,F,1,()):LT)].find? (uU 1 p)=some (1,p,F,1,()):=by
    rw[List.find?_cons_of_pos];unfold uU;simp
   rw[this];dsimp only;rw[ao (show ¬ ((1:Int)<0\/(1:Int)>7\/fR .i64 1 1≠0) by decide)]
  obtain⟨g1,q⟩:=abE (s:=a) (i:=0) (y:={bD [(1,p,F,1,())] with ph:=1,vm:=1,c:=vx (16*p+o)}) (by rw[c6];exact Nat.zero_lt_one) I rfl rfl (A _ a J) (f:=F) N;rw[<-L] at g1 q;have q:aP (aP (cA a 0 1 (vx (16*p+o))) 0).1 0= _:=q;refine⟨?_, _, _,q,?_⟩
  ·show(aP (cA a 0 1 (vx (16*p+o))) ((0:Nat):Int)).2.2=false;rw[g1]
  ·show a.cs.set 0 _= _;rw[c6];rfl
end
section
variable {n:Nat} {s:MS}
structure Ret (n:Nat) (s:MS):Prop where
 x:x9 n s
 np:Oa s.h
 k6: ∀(c:Nat) (x:bU),1<=c->s.cs[c]? =some x->x.ph≠4/\(x.ph≠0->x.c.1=6)
 c0: ∀x:bU,s.cs[0]? =some x->x.ph=0\/x.ph=4
 j: ∀(c:Nat) (x:bU),s.cs[c]? =some x->x.ph=3->s.bx[c]? ≠some []
end
end Go.Proofs.YtlcenllcmeebhaaGreat
namespace Go.Proofs.YtlcenllcmeebhaaGreat.Mu
set_option maxRecDepth 100000
open Go.RX
abbrev eP:El:= .one .ptr
abbrev eMk:El:= .agg sMk
abbrev MkT:Type:=Int×Int×Int×Int×Int×Int×Int×Int×Int×Unit
abbrev XW (m:MT):MkT:=(m.1,m.2.1,m.2.2.1,m.2.2.2.1.1,m.2.2.2.1.2.1,m.2.2.2.1.2.2.1,m.2.2.2.1.2.2.2.1,m.2.2.2.2.1,m.2.2.2.2.2,())
structure CA where
 cb:Nat
 tb:Nat
 st:Option AN×Nat×Nat
 sf:Option AN×Nat×Nat
 wp:Option AN
 Lt:List (Nat×List AC)
 Lf:List (Nat×List AC)
 Lw:List (Nat×List AC)
abbrev jW (a:CA) (i:Nat) (x:bU):List AC:=
 [aa (i:Int),ag (ae a.tb),aa x.ph,aa x.vm,aa x.c.1,ay x.c.2.1,ay x.c.2.2.1,ay x.c.2.2.2.1,ag a.wp,aa x.fr,ay x.rs.1,aa x.rs.2,aa x.ak,.slice a.sf.1 a.sf.2.1 a.sf.2.2]
def WkW (a:CA) (x:bU):Prop:= ∃(bk:Nat) (s:Option AN×Nat×Nat) (b:List (Nat×List AC)) (xs:List Int),a.wp=some ⟨bk,0,none⟩/\a.Lw=(bk,lT x.wk.1 (x.c.2.1 / 16) (aV x.c.1) x.wk.2.1 x.wk.2.2 s)::b/\BO b s xs/\(xs.length:Int)<=3 - x.wk.2.1
structure Tf (a:CA) (x:bU):Prop where
 ls:du ky a.st x.ls a.Lt
 fs:du eI a.sf x.fs a.Lf
 wk:x.ph=2->WkW a x
def sP (a:CA) (i:Nat) (x:bU) (sz:Int):List (Nat×List AC):=(a.cb,jW a i x)::(a.tb,di a.st sz)::(a.Lt++(a.Lf++a.Lw))
structure MB where
 mb:Nat
 eb:Nat
 xb:Nat
 kb:Nat
 wb:Nat
 sc:Option AN×Nat×Nat
 sm:Option AN×Nat×Nat
 sp:Option AN×Nat×Nat
 sb:Option AN×Nat×Nat
 so:Option AN×Nat×Nat
 Lc:List (Nat×List AC)
 Lm:List (Nat×List AC)
 Lp:List (Nat×List AC)
 Lb:List (Nat×List AC)
 Lo:List (Nat×List AC)
 cr:List CR
 ke:List Dl
 we:List Dl
 kk:Nat
 wk:Nat
 A:Nat->CA
abbrev rK (X:HX) (B:MB):List AC:=[ag (ae X.hb),ag (ae B.eb),ag (ae B.xb),.slice B.sc.1 B.sc.2.1 B.sc.2.2,.map (some B.kb),.slice B.sm.1 B.sm.2.1 B.sm.2.2]
def ia (B:MB) (s:MS) (l:List Nat):List (Nat×List AC):=l.flatMap λi=>match s.cs[i]? with
 |some x=>sP (B.A i) i x s.sz
 |none=>[]
abbrev yA (B:MB) (n:Nat):List (Option AN):=(Ak n).map λi=>some ⟨(B.A i).cb,0,none⟩
structure MWf (B:MB) (s:MS):Prop where
 c:du eP B.sc (yA B s.cs.length) B.Lc
 m:du eMk B.sm (s.ms.map XW) B.Lm
 p:du eI B.sp s.ep.pins B.Lp
 b:du eC B.sb (dJ B.cr) B.Lb
 o:du eI B.so s.op B.Lo
 l:B.cr.length=s.bx.length
 k:iz B.ke B.kk (s.kn.map λf=>(f,.bool true))
 w:iz B.we B.wk (s.ep.ws.map Fy)
 a: ∀{i x},s.cs[i]? =some x->Tf (B.A i) x
def yB (s:WD):Prop:=0<s.1.length/\0<s.2.length/\s.2.length<=4096/\okW s.1
abbrev Ii (X:HX) (B:MB) (s:MS):List (Nat×List AC):=(B.mb,rK X B)::(B.eb,ow s.ep.now B.sp B.wb)::(B.xb,lQ B.sb B.so)::(B.Lc++(B.Lm++(B.Lp++(B.Lb++B.Lo))))
abbrev mob (B:MB) (s:MS):List (Nat×B3):=(B.kb,.map ⟨B.ke⟩ B.kk)::(B.wb,.map ⟨B.we⟩ B.wk)::qu B.cr s.bx
abbrev FC (Q:Sys) (X:HX) (A:Nat->GA) (ca la:Int) (h:HS):List (Nat×List AC):=Q.L ca la h.s (dX Q X A h (bh Q A h.g (Ak 17)))
def iy (Q:Sys) (X:HX) (D G:List Nat) (w0 w:A2) (B:MB) (s:MS) (T L:List (Nat×List AC)) (M:List (Nat×B3)):Prop:=
 ∃(A:Nat->GA) (ca la:Int),Dg A s.h/\yB s.h.s/\MWf B s/\cC D G w0 w (T++(Ii X B s++(ia B s (Ak s.cs.length)++(FC Q X A ca la s.h++L)))) (mob B s++(dg A s.h.g (Ak 17)++M))
theorem cg {α:Type} {c d:List α} (h: ∀[BEq α] [LawfulBEq α] (a:α),c.count a=d.count a):c.Perm d:=by
 letI:DecidableEq α:=λa b=>Classical.propDecidable (a=b)
 exact List.perm_iff_count.2 λa=>h a
section
variable {Q:Sys} {X:HX} {D G:List Nat} {w0 w w1:A2} {B:MB} {s:MS} {T L:List (Nat×List AC)} {M:List (Nat×B3)}
theorem iy.ext (H:iy Q X D G w0 w B s T L M) (h:Ext w w1):iy Q X D G w0 w1 B s T L M:=by
 obtain⟨A,ca,la,h1,a,b,c⟩:=H;exact⟨A,ca,la,h1,a,b,c.ext h⟩
theorem iy.wf (H:iy Q X D G w0 w B s T L M):MWf B s:=by
 obtain⟨A,ca,la,h1,b,a,c⟩:=H;exact a
theorem iy.all (H:iy Q X [] [] w0 w B s T L M):Ext w0 w:=by
 obtain⟨A,ca,la,h1,b,c,a⟩:=H;exact a.all
theorem iy.tmp (H:iy Q X D G w0 w B s T L M): ∃R a,cC D G w0 w (T++R) a/\(∀x∈Ii X B s,x∈R)/\(∀x∈mob B s,x∈a)/\(∀{i x},s.cs[i]? =some x-> ∀y∈sP (B.A i) i x s.sz,y∈R)/\ ∀{T' w'},cC D G w0 w' (T'++R) a->iy Q X D G w0 w' B s T' L M:=by
 obtain⟨A,ca,la,h1,c,d,e⟩:=H;refine⟨_, _,e,λx b=>B8 _ b,λx b=>B8 _ b,λ{i x} hi y f=>B5 _ (B8 _ ?_),λh=>⟨A,ca,la,h1,c,d,h⟩⟩;unfold ia;exact H5.2 ⟨i,Bx.2 (B1.1 hi).1,by rw[hi];exact f⟩
theorem iy.al (H:iy Q X D G w0 w B s T L M) {cs:List AC} {e:TypeId} {K:Nat->A2->Prop} (k: ∀b w1,iy Q X D G w0 w1 B s ((b,cs)::T) L M->K b w1):aM w ⟨cs⟩ e K:=by
 obtain⟨R,a,H, _, _, _,J⟩:=H.tmp;exact alM H λb w1 H=>k b w1 (J H)
theorem iy.st (H:iy Q X D G w0 w B s T L M) (i:Nat) {b:Nat} {l vs:List AC} {K:A2->Prop} (a:T[i]? =some (b,l)) (c:vs.all (·.oneCell')=true) (d:vs.length=l.length) (k: ∀w1,iy Q X D G w0 w1 B s (T.set i (b,vs)) L M->K w1):az w (ae b) vs K:=by
 obtain⟨R,e,H, _, _, _,J⟩:=H.tmp;have hi:=(B1.1 a).1;refine stB H i (by rw[GF hi];exact a) c d λw1 H=>k w1 (J ?_);rw[List.set_append_left _ _ hi] at H;exact H
theorem iy.ld (H:iy Q X D G w0 w B s T L M) (i:Nat) {g:Option Bool} {el:El} {K:el.T->Prop} {b o:Nat} {l:List AC} {x:el.T} (a:T[i]? =some (b,l)) (hv:k_ l o el=some x) (k:K x):aj w g (some ⟨b,o,none⟩) el K:=by
 obtain⟨R,c,H, _, _, _,J⟩:=H.tmp;exact aj.at i H.base (by rw[GF (B1.1 a).1];exact a) hv k
theorem iy.cH (H:iy Q X D G w0 w B s T L M) (i:Nat) {g:Option Bool} {el:El} {K:el.T->Prop} {b n:Nat} {l:List AC} {x:el.T} (a:T[i]? =some (b,l)) (hv:k_ l n el=some x) (k:K x):aj w g (ad (ae b) n) el K:=by
 obtain⟨R,c,H, _, _, _,J⟩:=H.tmp;exact aj.kO H.base (B8 _ (DB a)) hv k
theorem iy.rj (H:iy Q X D G w0 w B s T L M) {n:Nat} {g:Option Bool} {el:El} {K:el.T->Prop} {x:el.T} (hv:k_ (rK X B) n el=some x) (k:K x):aj w g (ad (ae B.mb) n) el K:=by
 obtain⟨R,b,H,a, _, _,J⟩:=H.tmp;exact aj.kO H.base (B5 _ (a _ B4)) hv k
theorem iy.XX (H:iy Q X D G w0 w B s T L M) {i:Nat} {x:bU} (a:s.cs[i]? =some x) {n:Nat} {g:Option Bool} {el:El} {K:el.T->Prop} {y:el.T} (hv:k_ (jW (B.A i) i x) n el=some y) (k:K y):aj w g (ad (some ⟨(B.A i).cb,0,none⟩) n) el K:=by
 obtain⟨R,b,H, _, _,hc,J⟩:=H.tmp;exact aj.kO H.base (B5 _ (hc a _ B4)) hv k
theorem iy.sub (H:iy Q X D G w0 w B s T L M) {T':List (Nat×List AC)} (h:T'.Sublist T):iy Q X D G w0 w B s T' L M:=by
 obtain⟨R,a,H, _, _, _,J⟩:=H.tmp;exact J (H.sub (h.append_right _))
def C6 (B:MB) (i:Nat) (a:CA):MB:={B with A:=λj=>if j=i then a else B.A j}
theorem m5 (B:MB) (i:Nat) (a:CA):(C6 B i a).A i=a:=av rfl
theorem zN {B:MB} {s s':MS} {i:Nat} {a:CA} (c:s'.sz=s.sz) (hc: ∀j,j≠i->s'.cs[j]? =s.cs[j]?):ia (C6 B i a) s' ((Ak s.cs.length).erase i)=ia B s ((Ak s.cs.length).erase i):=by
 unfold ia;refine gB λj d=>?_;have b:j≠i:=λe=>by subst e;exact(JN.not_mem_erase) d
 rw[hc j b,c];cases s.cs[j]? with
 |none=>rfl
 |some x=>show sP ((C6 B i a).A j) j x s.sz= _;rw[show(C6 B i a).A j=B.A j from ao b]
theorem lM {B:MB} {s:MS} {i:Nat} {x:bU} (a:s.cs[i]? =some x):(ia B s (Ak s.cs.length)).Perm (sP (B.A i) i x s.sz++ia B s ((Ak s.cs.length).erase i)):=by
 unfold ia;refine(List.Perm.flatMap_right _ (List.perm_cons_erase (Bx.2 (B1.1 a).1))).trans ?_;rw[List.flatMap_cons,a]
theorem MWf.up (W:MWf B s) {i:Nat} {x x':bU} (f:s.cs[i]? =some x) {a:CA} (g:a.cb=(B.A i).cb) (h:Tf a x'):MWf (C6 B i a) (a_ s i x'):=by
 have n:yA (C6 B i a) s.cs.length=yA B s.cs.length:=by
  refine JP λj _=>?_;by_cases e:j=i
  ·subst e;rw[m5,g]
  ·rw[show(C6 B i a).A j=B.A j from ao e]
 refine⟨?_,W.m,W.p,W.b,W.o,W.l,W.k,W.w,λ{j y} d=>?_⟩
 ·show du eP B.sc (yA (C6 B i a) (s.cs.set i x').length) B.Lc;rw[DK,n];exact W.c
 ·by_cases e:j=i
  ·subst e;rw[m5];have:(s.cs.set j x')[j]? =some y:=d;rw[C9 (B1.1 f).1] at this;cases this;exact h
  ·have:(s.cs.set i x')[j]? =some y:=d;rw[FB (λc=>e c.symm)] at this;rw[show(C6 B i a).A j=B.A j from ao e];exact W.a this
theorem iy.C5 (H:iy Q X D G w0 w B s T L M) {i:Nat} {x:bU} (b:s.cs[i]? =some x): ∃R d,cC D G w0 w (sP (B.A i) i x s.sz++(T++R)) d/\
 ∀{T' a x' w'},a.cb=(B.A i).cb->Tf a x'->cC D G w0 w' (sP a i x' s.sz++(T'++R)) d->iy Q X D G w0 w' (C6 B i a) (a_ s i x') T' L M:=by
 obtain⟨A,ca,la,h1,f,g,k⟩:=H;refine⟨Ii X B s++(ia B s ((Ak s.cs.length).erase i)++(FC Q X A ca la s.h++L)), _,k.perm ?_,λ{T' a x' w'} l m n=>⟨A,ca,la,h1,f,g.up b l m,n.perm ?_⟩⟩
 ·have:=lM (B:=B) b;refine If ?_ (Dd T (Dd _ (Fu _ this.symm)));exact cg λa=>by simp only[Al,Av];omega
 ·have o:(a_ s i x').cs[i]? =some x':=C9 (B1.1 b).1;have e:(a_ s i x').cs.length=s.cs.length:=DK ..;have:=lM (B:=C6 B i a) o;rw[m5,e,zN (s:=s) (s':=a_ s i x') rfl λj p=>(show(s.cs.set i x')[j]? =s.cs[j]? from FB (λc=>p c.symm))] at this;rw[e];refine(Dd T' (Dd _ (Fu _ this))).trans ?_;show(T'++(Ii X B s++(sP a i x' s.sz++ia B s ((Ak s.cs.length).erase i)++(FC Q X A ca la s.h++L)))).Perm _;exact cg λa=>by simp only[Al,Av];omega
end
section
variable {Q:Sys} {X:HX} {D G:List Nat} {w0 w:A2} {B:MB} {s:MS} {T L:List (Nat×List AC)} {M:List (Nat×B3)}
theorem jm.yB {h:HS} {L:List (Nat×List AC)} (H:jm Q X D G w0 w h L):yB h.s:=by
 obtain⟨A,W,S⟩:=H;exact⟨S.pos,S.FU,S.le,S.Z'⟩
theorem iy.hv (H:iy Q X D G w0 w B s T L M): ∃i L',jm Q X [] i w w s.h L'/\ ∀{e h'},jm Q X [] i w e h' L'->iy Q X D G w0 e B {s with h:=h'} T L M:=by
 obtain⟨A,ca,la,h1,f,d,r⟩:=H;have j:cC D G w0 w (Q.L ca la s.h.s (dX Q X A s.h (bh Q A s.h.g (Ak 17)++(T++(Ii X B s++(ia B s (Ak s.cs.length)++L)))))) (dg A s.h.g (Ak 17)++(mob B s++M)):=
  (r.perm (cg λa=>by simp only[Sys.L,Al,Av];omega)).ly (cg λa=>by simp only[Al,Av];omega)
 refine⟨_, _,⟨A,h1,f.1,f.2.1,f.2.2.1,f.2.2.2,ca,la,cC.Ph j⟩,λ{e h'} K=>?_⟩;have t:=jm.yB K;obtain⟨A',u, _, _, _, _,n,q,K⟩:=K;have K:=cC.WX j K;refine⟨A',n,q,u,t,⟨d.c,d.m,d.p,d.b,d.o,d.l,d.k,d.w,d.a⟩,?_⟩;show cC D G w0 e (T++(Ii X B s++(ia B s (Ak s.cs.length)++(FC Q X A' n q h'++L)))) (mob B s++(dg A' h'.g (Ak 17)++M));exact(K.perm (cg λa=>by
  simp only[Sys.L,Al,Av];omega)).ly (cg λa=>by simp only[Al,Av];omega)
theorem iy.sat (H:iy Q X D G w0 w B s T L M): ∃A n L0,bj Q [] n w w s.h.s L0/\(X.hb,fV Q X A s.h.g)∈L0/\(∀i v,s.h.g i=some v-> ∀x∈gR Q A i v,x∈L0)/\(∀x∈T,x∈L0)/\(∀x∈Ii X B s,x∈L0)/\(∀{i x},s.cs[i]? =some x-> ∀y∈sP (B.A i) i x s.sz,y∈L0)/\
 ∀{T' j s'},bj Q [] n w j s' (T'++L0)->iy Q X D G w0 j B {s with h:=bE s.h s'} (T'++T) L M:=by
 obtain⟨A,ca,la,h1,f,d,u⟩:=H;have q:cC D G w0 w (Q.L ca la s.h.s (dX Q X A s.h (bh Q A s.h.g (Ak 17)++(T++(Ii X B s++(ia B s (Ak s.cs.length)++L)))))) ([]++(mob B s++(dg A s.h.g (Ak 17)++M))):=
  u.perm (cg λa=>by simp only[Sys.L,Al,Av];omega)
 refine⟨A, _, _,⟨f.1,f.2.1,f.2.2.1,f.2.2.2,ca,la,(cC.Ph q).base⟩,B4,λi v hv x e=>?_,λx e=>?_,λx e=>?_,λ{i x} hi y z=>?_,λ{T' j s'} K=>?_⟩
 ·refine Ay _ (Ay _ (Ay _ (Ay _ (B8 _ (Bl (Bx.2 ?_) hv x e)))));have:=h1.jl hv;omega
 ·exact Ay _ (Ay _ (Ay _ (Ay _ (B5 _ (B8 _ e)))))
 ·exact Ay _ (Ay _ (Ay _ (Ay _ (B5 _ (B5 _ (B8 _ e))))))
 ·refine Ay _ (Ay _ (Ay _ (Ay _ (B5 _ (B5 _ (B5 _ (B8 _ ?_)))))));unfold ia;exact H5.2 ⟨i,Bx.2 (B1.1 hi).1,by rw[hi];exact z⟩
 ·obtain⟨C,E,F,k4,r,t,K⟩:=K;have K:=cC.WX q (M1':=[]) (cC.of K);refine⟨A,r,t,⟨h1.jl,h1.mp,h1.gl,h1.pt,h1.gk⟩,⟨C,E,F,k4⟩,⟨d.c,d.m,d.p,d.b,d.o,d.l,d.k,d.w,d.a⟩,?_⟩;exact K.perm (cg λa=>by
   show B9 a (T'++T++(Ii X B s++(ia B s (Ak s.cs.length)++(Q.L r t s' (dX Q X A s.h (bh Q A s.h.g (Ak 17)))++L))))= _;simp only[Sys.L,Al,Av];omega)
theorem iy.pO (H:iy Q X D G w0 w B s T L M): ∃R e,cC D G w0 w ((B.mb,rK X B)::(B.Lm++(T++R))) e/\
 ∀{T' sm Lm ms w'},du eMk sm (ms.map XW) Lm->cC D G w0 w' ((B.mb,rK X {B with sm:=sm,Lm:=Lm})::(Lm++(T'++R))) e->iy Q X D G w0 w' {B with sm:=sm,Lm:=Lm} {s with ms:=ms} T' L M:=by
 obtain⟨A,ca,la,h1,f,d,g⟩:=H;refine⟨(B.eb,ow s.ep.now B.sp B.wb)::(B.xb,lQ B.sb B.so)::(B.Lc++(B.Lp++(B.Lb++(B.Lo++(ia B s (Ak s.cs.length)++(FC Q X A ca la s.h++L)))))), _,g.perm (cg λa=>by simp only[Al,Av];omega),λ{T' sm Lm ms w'} i K=>?_⟩;refine⟨A,ca,la,h1,f,⟨d.c,i,d.p,d.b,d.o,d.l,d.k,d.w,d.a⟩,K.perm (cg λa=>?_)⟩;show B9 a (T'++(Ii X {B with sm:=sm,Lm:=Lm} s++(ia B s (Ak s.cs.length)++(FC Q X A ca la s.h++L))))= _;simp only[Al,Av];omega
theorem iy.eps (H:iy Q X D G w0 w B s T L M): ∃R e,cC D G w0 w ((B.eb,ow s.ep.now B.sp B.wb)::(B.Lp++(T++R))) ((B.wb,.map ⟨B.we⟩ B.wk)::e)/\
 ∀{T' sp Lp ep we wk w'},du eI sp ep.pins Lp->iz we wk (ep.ws.map Fy)->cC D G w0 w' ((B.eb,ow ep.now sp B.wb)::(Lp++(T'++R))) ((B.wb,.map ⟨we⟩ wk)::e)->iy Q X D G w0 w' {B with sp:=sp,Lp:=Lp,we:=we,wk:=wk} {s with ep:=ep} T' L M:=by
 obtain⟨A,ca,la,h1,f,d,i⟩:=H;refine⟨(B.mb,rK X B)::(B.xb,lQ B.sb B.so)::(B.Lc++(B.Lm++(B.Lb++(B.Lo++(ia B s (Ak s.cs.length)++(FC Q X A ca la s.h++L)))))),(B.kb,.map ⟨B.ke⟩ B.kk)::(qu B.cr s.bx++(dg A s.h.g (Ak 17)++M)),(i.perm (cg λa=>by simp only[Al,Av];omega)).ly (cg λa=>by simp only[Al,Av];omega),λ{T' sp Lp ep we wk w'} j n K=>?_⟩;refine⟨A,ca,la,h1,f,⟨d.c,d.m,j,d.b,d.o,d.l,d.k,n,d.a⟩,(K.perm (cg λa=>?_)).ly (cg λa=>?_)⟩
 ·show B9 a (T'++(((B.mb,rK X B)::(B.eb,ow ep.now sp B.wb)::(B.xb,lQ B.sb B.so)::(B.Lc++(B.Lm++(Lp++(B.Lb++B.Lo)))))++(ia B s (Ak s.cs.length)++(FC Q X A ca la s.h++L))))= _;simp only[Al,Av];omega
 ·show B9 a (((B.kb,Obj.map ⟨B.ke⟩ B.kk)::(B.wb,Obj.map ⟨we⟩ wk)::qu B.cr s.bx)++(dg A s.h.g (Ak 17)++M))= _;simp only[Al,Av];omega
theorem iy.kns (H:iy Q X D G w0 w B s T L M): ∃R e,cC D G w0 w (T++R) ((B.kb,.map ⟨B.ke⟩ B.kk)::e)/\
 ∀{T' kn ke kk w'},iz ke kk (kn.map λf=>(f,.bool true))->cC D G w0 w' (T'++R) ((B.kb,.map ⟨ke⟩ kk)::e)->iy Q X D G w0 w' {B with ke:=ke,kk:=kk} {s with kn:=kn} T' L M:=by
 obtain⟨A,ca,la,h1,i,d,j⟩:=H;refine⟨_,(B.wb,.map ⟨B.we⟩ B.wk)::(qu B.cr s.bx++(dg A s.h.g (Ak 17)++M)),j,λ{T' kn ke kk w'} k K=>?_⟩;exact⟨A,ca,la,h1,i,⟨d.c,d.m,d.p,d.b,d.o,d.l,k,d.w,d.a⟩,K⟩
theorem iy.bxs (H:iy Q X D G w0 w B s T L M): ∃R e,cC D G w0 w ((B.xb,lQ B.sb B.so)::(B.Lb++(B.Lo++(T++R)))) (qu B.cr s.bx++e)/\
 ∀{T' so Lo op cr bx w'},du eI so op Lo->cr.length=bx.length->dJ cr=dJ B.cr->cC D G w0 w' ((B.xb,lQ B.sb so)::(B.Lb++(Lo++(T'++R)))) (qu cr bx++e)->iy Q X D G w0 w' {B with so:=so,Lo:=Lo,cr:=cr} {s with op:=op,bx:=bx} T' L M:=by
 obtain⟨A,ca,la,h1,f,d,i⟩:=H;refine⟨(B.mb,rK X B)::(B.eb,ow s.ep.now B.sp B.wb)::(B.Lc++(B.Lm++(B.Lp++(ia B s (Ak s.cs.length)++(FC Q X A ca la s.h++L))))),(B.kb,.map ⟨B.ke⟩ B.kk)::(B.wb,.map ⟨B.we⟩ B.wk)::(dg A s.h.g (Ak 17)++M),(i.perm (cg λa=>by simp only[Al,Av];omega)).ly (cg λa=>by simp only[Al,Av];omega),λ{T' so Lo op cr bx w'} j l hc K=>?_⟩;refine⟨A,ca,la,h1,f,⟨d.c,d.m,d.p,?_,j,l,d.k,d.w,d.a⟩,(K.perm (cg λa=>?_)).ly (cg λa=>?_)⟩
 ·show du eC B.sb (dJ cr) B.Lb;rw[hc];exact d.b
 ·show B9 a (T'++(((B.mb,rK X B)::(B.eb,ow s.ep.now B.sp B.wb)::(B.xb,lQ B.sb so)::(B.Lc++(B.Lm++(B.Lp++(B.Lb++Lo)))))++(ia B s (Ak s.cs.length)++(FC Q X A ca la s.h++L))))= _;simp only[Al,Av];omega
 ·show B9 a (((B.kb,Obj.map ⟨B.ke⟩ B.kk)::(B.wb,Obj.map ⟨B.we⟩ B.wk)::qu cr bx)++(dg A s.h.g (Ak 17)++M))= _;simp only[Al,Av];omega
end
section
variable {Q:Sys} {X:HX} {D G:List Nat} {w0 w:A2} {B:MB} {s:MS} {T L:List (Nat×List AC)} {M:List (Nat×B3)}
theorem abF (H:iy Q X D G w0 w B s T L M) (n:Int):af AA 64 [ag (ae B.mb),aa n] w (ag (if 0<=n/\n<(s.cs.length:Int) then some ⟨(B.A n.toNat).cb,0,none⟩ else none)):=by
 refine af.of (s:= .el (.one .ptr)) λw' h'=>ai (C:=U2) (aS:=λ_=>[]) (B2 (ZD _ _ w' _) ?_);have H:=H.ext h';have W:=H.wf;have a:B.sc.2.1=s.cs.length:=by rw[W.c.1,DA,Ds]
 refine⟨λ_=>rfl,λ_=>rfl,H.rj (show _=some (B.sc.1,B.sc.2.1,B.sc.2.2) from rfl) ?_⟩;dsimp only;rw[a];by_cases c:0<=n/\n<(s.cs.length:Int)
 ·rw[av c];obtain⟨R,f,K,d, _, _, _⟩:=H.tmp;have b:=W.c.sl K.base (λy e=>B5 _ (d _ (Ay _ (Ay _ (Ay _ (B8 _ e)))))) n.toNat (some ⟨(B.A n.toNat).cb,0,none⟩) (by rw[H6,H7 (by omega)];rfl);refine an ?_ ⟨rfl,rfl,H.rj (show _=some (B.sc.1,B.sc.2.1,B.sc.2.2) from rfl) ⟨⟨b.1,c.1,by dsimp only;rw[a];exact c.2⟩,aj.of _ b.2 λw1 h1=>⟨rfl,h1⟩⟩⟩;simp only[Option.isNone_some,Ia,M5,decide_eq_false_iff_not];omega
 ·rw[ao c];refine aB ?_ λw1 h1=>⟨rfl,h1⟩;simp only[Option.isNone_some,Ia,GS,decide_eq_true_eq];omega
theorem acq {a:Int} (h:cI a):aG .i64 (wT .u64 a 16)=a / 16:=by
 unfold cI at h;have e:wT .u64 a 16=a / 16:=by
  show aG .u64 (a.tdiv 16)= _;rw[Int.tdiv_eq_ediv_of_nonneg h.1];exact cY (by omega)
 rw[e];exact bP (by omega)
theorem VZ (H:iy Q X D G w0 w B s T L M) {i:Nat} {x:bU} (a:s.cs[i]? =some x) (b:cI x.c.2.1):af AA 160 [ag (some ⟨(B.A i).cb,0,none⟩)] w (aa (x.c.2.1 / 16)):=by
 refine af.of (s:= .el (.one (.int .i64))) λw' h'=>ai (C:=U2) (aS:=λ_=>[]) (B2 (RZ _ w' _) ?_);refine⟨rfl,rfl,rfl,(H.ext h').XX a (n:=5) (show _=some x.c.2.1 from rfl) λw1 h1=>⟨acq b,h1⟩⟩
end
structure MR where
 mb:Nat
 eb:Nat
 xb:Nat
 kb:Nat
 wb:Nat
 cb:Nat->Nat
 tb:Nat->Nat
abbrev MB.rt (B:MB):MR:=⟨B.mb,B.eb,B.xb,B.kb,B.wb,λi=>(B.A i).cb,λi=>(B.A i).tb⟩
theorem W8 {B:MB} {i:Nat} {a:CA} (h1:a.cb=(B.A i).cb) (d:a.tb=(B.A i).tb):(C6 B i a).rt=B.rt:=by
 have b:(λj=>((C6 _ i a).A j).cb)=λj=>(B.A j).cb:=funext λj=>by
  by_cases e:j=i
  ·subst e;rw[m5];grind
  ·rw[show(C6 _ i a).A j=B.A j from ao e]
 have c:(λj=>((C6 _ i a).A j).tb)=λj=>(B.A j).tb:=funext λj=>by
  by_cases e:j=i
  ·subst e;rw[m5];grind
  ·rw[show(C6 _ i a).A j=B.A j from ao e]
 show MR.mk _ _ _ _ _ _ _=MR.mk _ _ _ _ _ _ _;rw[b,c];rfl
def MU (Q:Sys) (X:HX) (D G:List Nat) (w0 w:A2) (R:MR) (s:MS) (T L:List (Nat×List AC)) (M:List (Nat×B3)):Prop:= ∃B:MB,B.rt=R/\iy Q X D G w0 w B s T L M
theorem M6 {s:MS} {i:Nat} {x:bU} (a:s.cs[i]? =some x):a_ s i x=s:=by
 unfold a_;have:s.cs.set i x=s.cs:=by
  obtain⟨h,e⟩:=B1.1 a;subst e;simp
 rw[this]
theorem fb {s:MS} {i:Nat} {x y:bU} (a:s.cs[i]? =some x):(a_ s i y).cs[i]? =some y:=C9 (B1.1 a).1
theorem kY (s:MS) (i:Nat) (x y:bU):a_ (a_ s i x) i y=a_ s i y:=by unfold a_;simp_all
section
variable {Q:Sys} {X:HX} {D G:List Nat} {w0 w w1:A2} {R:MR} {s:MS} {T L:List (Nat×List AC)} {M:List (Nat×B3)} {i:Nat} {x:bU} {g:Option Bool}
theorem MU.ext (H:MU Q X D G w0 w R s T L M) (h:Ext w w1):MU Q X D G w0 w1 R s T L M:=by
 obtain⟨B,e,H⟩:=H;exact⟨B,e,H.ext h⟩
theorem MU.all (H:MU Q X [] [] w0 w R s T L M):Ext w0 w:=by
 obtain⟨B,e,H⟩:=H;exact H.all
theorem MU.en (H:MU Q X D G w0 w R s T L M) {K:A2->Prop} (k: ∀w1,MU Q X D G w0 w1 R s T L M->K w1):au w K:=λ_ h=>k _ (H.ext h)
theorem MU.go (H:MU Q X D G w0 w R s T L M) {P:Program} {f:FuncId} {sh:Sh} {args:List AC} {K:sh.T->A2->Prop} (k: ∀w1,MU Q X D G w0 w1 R s T L M->aC P f sh args w1 K):aA P f sh args w K:=λ_ h=>k _ (H.ext h)
theorem MU.al (H:MU Q X D G w0 w R s T L M) {cs:List AC} {e:TypeId} {K:Nat->A2->Prop} (k: ∀b w1,MU Q X D G w0 w1 R s ((b,cs)::T) L M->K b w1):aM w ⟨cs⟩ e K:=by
 obtain⟨B,e,H⟩:=H;exact H.al λb w1 H=>k b w1 ⟨B,e,H⟩
theorem MU.st (H:MU Q X D G w0 w R s T L M) (i:Nat) {b:Nat} {l vs:List AC} {K:A2->Prop} (a:T[i]? =some (b,l)) (c:vs.all (·.oneCell')=true) (d:vs.length=l.length) (k: ∀w1,MU Q X D G w0 w1 R s (T.set i (b,vs)) L M->K w1):az w (ae b) vs K:=by
 obtain⟨B,e,H⟩:=H;exact H.st i a c d λw1 H=>k w1 ⟨B,e,H⟩
theorem MU.ld (H:MU Q X D G w0 w R s T L M) (i:Nat) {el:El} {K:el.T->Prop} {b o:Nat} {l:List AC} {x:el.T} (a:T[i]? =some (b,l)) (hv:k_ l o el=some x) (k:K x):aj w g (some ⟨b,o,none⟩) el K:=by
 obtain⟨B,e,H⟩:=H;exact H.ld i a hv k
theorem MU.cH (H:MU Q X D G w0 w R s T L M) (i:Nat) {el:El} {K:el.T->Prop} {b n:Nat} {l:List AC} {x:el.T} (a:T[i]? =some (b,l)) (hv:k_ l n el=some x) (k:K x):aj w g (ad (ae b) n) el K:=by
 obtain⟨B,e,H⟩:=H;exact H.cH i a hv k
theorem MU.sub (H:MU Q X D G w0 w R s T L M) {T':List (Nat×List AC)} (h:T'.Sublist T):MU Q X D G w0 w R s T' L M:=by
 obtain⟨B,e,H⟩:=H;exact⟨B,e,H.sub h⟩
theorem MU.f0 (H:MU Q X D G w0 w R s T L M) {K:Option AN->Prop} (k:K (ae X.hb)):aj w g (ad (ae R.mb) 0) (.one .ptr) K:=by
 obtain⟨B,rfl,H⟩:=H;exact H.rj rfl k
theorem MU.f1 (H:MU Q X D G w0 w R s T L M) {K:Option AN->Prop} (k:K (ae R.eb)):aj w g (ad (ae R.mb) 1) (.one .ptr) K:=by
 obtain⟨B,rfl,H⟩:=H;exact H.rj rfl k
theorem MU.f2 (H:MU Q X D G w0 w R s T L M) {K:Option AN->Prop} (k:K (ae R.xb)):aj w g (ad (ae R.mb) 2) (.one .ptr) K:=by
 obtain⟨B,rfl,H⟩:=H;exact H.rj rfl k
theorem MU.f4 (H:MU Q X D G w0 w R s T L M) {K:Option Nat->Prop} (k:K (some R.kb)):aj w g (ad (ae R.mb) 4) (.one .map) K:=by
 obtain⟨B,rfl,H⟩:=H;exact H.rj rfl k
theorem MU.cf (H:MU Q X D G w0 w R s T L M) (b:s.cs[i]? =some x) {n:Nat} {el:El} {K:el.T->Prop} {y:el.T} (hv: ∀a:CA,k_ (jW a i x) n el=some y) (k:K y):aj w g (ad (some ⟨R.cb i,0,none⟩) n) el K:=by
 obtain⟨B,rfl,H⟩:=H;exact H.XX b (hv _) k
theorem MU.c1 (H:MU Q X D G w0 w R s T L M) (a:s.cs[i]? =some x) {K:Option AN->Prop} (k:K (some ⟨R.tb i,0,none⟩)):aj w g (ad (some ⟨R.cb i,0,none⟩) 1) (.one .ptr) K:=by
 obtain⟨B,rfl,H⟩:=H;exact H.XX a rfl k
theorem MU.C5 (H:MU Q X D G w0 w R s T L M) (d:s.cs[i]? =some x): ∃(a:CA) (b:List (Nat×List AC)) (c:List (Nat×B3)),a.cb=R.cb i/\a.tb=R.tb i/\Tf a x/\cC D G w0 w (sP a i x s.sz++(T++b)) c/\
 ∀{T':List (Nat×List AC)} {a':CA} {x':bU} {w':A2},a'.cb=a.cb->a'.tb=a.tb->Tf a' x'->cC D G w0 w' (sP a' i x' s.sz++(T'++b)) c->MU Q X D G w0 w' R (a_ s i x') T' L M:=by
 obtain⟨B,rfl,H⟩:=H;obtain⟨b,c,K,J⟩:=H.C5 d;exact⟨B.A i,b,c,rfl,rfl,H.wf.a d,K,λh1 e f g=>⟨_,W8 h1 e,J h1 f g⟩⟩
theorem MU.cs (H:MU Q X D G w0 w R s T L M) (c:s.cs[i]? =some x) (x':bU) (n:Nat) {vs:List AC} (d:vs.all (·.oneCell')=true) (e:Nat.ble (n+vs.length) 14=true) (f: ∀a:CA,(jW a i x).take n++(vs++(jW a i x).drop (n+vs.length))=jW a i x') (g: ∀a,Tf a x->Tf a x') {K:A2->Prop}
 (k: ∀w1,MU Q X D G w0 w1 R (a_ s i x') T L M->K w1):az w (ad (some ⟨R.cb i,0,none⟩) n) vs K:=by
 obtain⟨a,m,o,h,hb,W,b,J⟩:=H.C5 c;rw[<-h,aY,Nat.zero_add];refine λw1 h1=>az.at 0 (b.ext h1).base.again rfl d (Nat.le_of_ble_eq_true e) (λj l=>k j (J rfl rfl (g a W) ?_)) w1 (Ext.refl w1);have K:=(b.ext h1).join l;rw[f] at K;exact K
theorem DL (H:MU Q X D G w0 w R s T L M) (n:Int):af AA 64 [ag (ae R.mb),aa n] w (ag (if 0<=n/\n<(s.cs.length:Int) then some ⟨R.cb n.toNat,0,none⟩ else none)):=by
 obtain⟨B,rfl,H⟩:=H;exact abF H n
theorem JH (H:MU Q X D G w0 w R s T L M) (a:s.cs[i]? =some x) (b:cI x.c.2.1):af AA 160 [ag (some ⟨R.cb i,0,none⟩)] w (aa (x.c.2.1 / 16)):=by
 obtain⟨B,rfl,H⟩:=H;exact VZ H a b
theorem vj {w:A2} {r:Nat} {es:Array Dl} {ck i:Nat} {g:Int} {z v u:AC} (m:bG w r es ck) (h:Gi (.int .i64) (aa g) es.toList 0=some (some (i,u))) (e:v=u):jX w (some r) .i64 g z v:=⟨r,by grind⟩
theorem BC {w:A2} {r:Nat} {es:Array Dl} {ck:Nat} {g:Int} {z v:AC} (m:bG w r es ck) (h:Gi (.int .i64) (aa g) es.toList 0=some none) (e:v=z):jX w (some r) .i64 g z v:=⟨r,by grind⟩
theorem JI (H:MU Q X D G w0 w R s T L M) (k:s.cs[i]? =some x):af AA 199 [ag (some ⟨R.cb i,0,none⟩)] w (aa (aV x.c.1)):=by
 refine af.of λw1 h1=>ai (C:=U2) (B2 (R2 _ w1 _) λl b q d=>?_);have H0:=(((At.start [] w1).ext b).rM _).ext d;have e:=b.size;have m0:=d.obj (fx l _);refine uZ H0 e (by simp) m0 rfl λr m o u f=>?_;refine uZ (m.ext f) e (by simp) (f.obj o) rfl λy h a=>?_;have hv:=(iz.nil.push (g:=6) (aa 1) (λt j=>(by cases j))).push (g:=7) (aa 2) (by grind);have H:=H.ext (h1.trans (Ext.trans (h.ext (Ext.refl _)).all (Ext.refl _)));refine⟨rfl,rfl,rfl,H.cf k (n:=4) (λ_=>rfl) ⟨aV x.c.1,?_,λz p=>⟨rfl,(h.ext p).all⟩⟩⟩;unfold aV;by_cases c6:x.c.1=6
 ·rw[av c6,c6];obtain⟨i,hi, _⟩:=hv.Fw (g:=6) (v:=aa 1) (by simp);exact vj a hi rfl
 ·rw[ao c6];by_cases c7:x.c.1=7
  ·rw[av c7,c7];obtain⟨i,hi, _⟩:=hv.Fw (g:=7) (v:=aa 2) (by simp);exact vj a hi rfl
  ·rw[ao c7];refine BC a (hv.N3 λt j=>?_) rfl
   grind
theorem tO (H:MU Q X D G w0 w R s T L M) (p:s.ms.length<=1000000000) (m:MT) {K:Unit->A2->Prop}
 (k: ∀a,MU Q X D G w0 a R {s with ms:=s.ms++[m]} T L M->K () a):
 aA AA 155 (.bA []) [ag (ae R.mb),.agg ⟨[aa m.1,aa m.2.1,aa m.2.2.1,aa m.2.2.2.1.1,ay m.2.2.2.1.2.1,ay m.2.2.2.1.2.2.1,ay m.2.2.2.1.2.2.2.1,ay m.2.2.2.2.1,aa m.2.2.2.2.2]⟩] w K:=by
 obtain⟨B,rfl,H⟩:=H;refine λw1 h1=>ai (C:=U2) (aS:=λ_=>[]) (B2 (R3 _ _ _ _ _ _ _ _ _ _ w1 K) ?_);refine(H.ext h1).al λb a H=>⟨rfl,rfl,H.rj (rfl) (H.ld 0 rfl (show _=some (XW m) from rfl) (H.al λd q H e f=>?_))⟩;have H:=H.ext f;obtain⟨r,t,g,J⟩:=H.pO;have c:=g.perm GG;have hb:bN e d (cellsOf eMk (XW m)):=c.base.dm _ (B5 _ (Ay _ B4));refine Fq c H.wf.m rfl (ys:=[XW m]) rfl (rP hb) rfl rfl (by grind) λs' h u i j=>⟨rfl,rfl,Wq (j.perm GG.symm) 0 rfl rfl rfl λv l=>enM l λn o=>k n ⟨{B with sm:=s',Lm:=h},rfl,iy.sub (J (ms:=s.ms++[m]) (by rw[GH];exact i) o) ?_⟩⟩;simp
theorem zO (H:MU Q X D G w0 w R s T L M) (q:s.cs[i]? =some x) (F:(x.ls.length:Int)<=64) (I:0<s.sz) (t g:Int) {K:Unit->A2->Prop}
 (k: ∀b,MU Q X D G w0 b R (a_ s i {x with ls:=js x.ls t g}) T L M->K () b):
 aA AA 67 (.bA []) [ag (some ⟨R.cb i,0,none⟩),aa t,aa g] w K:=by
 refine H.go λw1 H=>ai (C:=U2) (aS:=λ_=>[]) (B2 (HL _ _ _ w1 K) ?_);have fin: ∀{b:A2} {a:CA} {j:List (Nat×List AC)} {l:List (Nat×B3)} (o:List LT),Tf a x->a.tb=R.tb i->cC D G w0 b (sP a i x s.sz++(T++j)) l-> ∃p,cC D G w0 b ((R.tb i,di a.st s.sz)::(a.Lt++p)) l/\ ∀{r:A2} {s'} {d:List (Nat×List AC)},du ky s' o d->aJ [] (((R.tb i,di a.st s.sz)::(a.Lt++p)).map (·.1)) b r ((R.tb i,di s' s.sz)::(d++p))-> ∃a':CA,a'.cb=a.cb/\a'.tb=a.tb/\Tf a' {x with ls:=o}/\cC D G w0 r (sP a' i {x with ls:=o} s.sz++(T++j)) l:=by
  intro b a j l o W N u;rw[<-N];have m:cC D G w0 b ((a.tb,di a.st s.sz)::(a.Lt++((a.cb,jW a i x)::(a.Lf++(a.Lw++(T++j)))))) l:=u.perm (cg λy=>by simp only[sP,Al,Av];omega);refine⟨_,m,λ{r s' d} h n=>⟨{a with st:=s',Lt:=d},rfl,rfl,⟨h,W.fs,W.wk⟩,(m.join n).perm (cg λy=>by
   show B9 y ((a.cb,jW a i x)::(a.tb,di s' s.sz)::(d++(a.Lf++a.Lw))++(T++j))= _
   grind)⟩⟩
 obtain⟨a,j,l,O,hb,W,u,J⟩:=H.C5 q;obtain⟨p,m,f⟩:=fin (js x.ls t g) W hb u;refine ab (λc=>⟨rfl,rfl,H.c1 q ?_⟩) (λc=>⟨rfl,rfl,H.c1 q ?_⟩)
 ·have e:g= -1:=by simpa using c
  refine G4 m.base.again W.ls F I t λv s' d b h n=>?_;have h:du ky s' (js x.ls t g) d:=by unfold js;rw[av e];exact h
  obtain⟨a',h1,z,A,B⟩:=f h n;exact(J h1 z A B).en λE H=>k E H
 ·have e:g≠ -1:=by simpa using c
  refine AZ m.base.again W.ls F I t g λs' d b h n=>?_;have h:du ky s' (js x.ls t g) d:=by unfold js;rw[ao e];exact h
  obtain⟨a',h1,z,A,B⟩:=f h n;exact(J h1 z A B).en λE H=>k E H
theorem M7 (H:MU Q X D G w0 w R s T L M) (a:s.cs[i]? =some x):af AA 152 [ag (ae R.mb),ag (some ⟨R.cb i,0,none⟩)] w (.bool (jt s.h x)):=by
 refine af.of (s:= .el (.one .bool)) λw1 h1=>ai (C:=U2) (aS:=λ_=>[]) (B2 (HM _ _ w1 _) ?_);have H:=H.ext h1;have b:af AA 19 [ag (ae X.hb),aa x.vm] w1 (.bool (aR s.h.g x.vm)):=by
  obtain⟨B,e,d⟩:=H;obtain⟨A,k,L0,S,f, _⟩:=d.sat;exact pY S f x.vm
 refine⟨_,JI H a,λ_=>rfl,λ_=>rfl,H.f0 ⟨λ_=>rfl,λ_=>rfl,H.cf a (n:=3) (λ_=>rfl) ⟨_,λ_=>b,λ_=>rfl,λ_=>rfl,H.cf a (n:=4) (y:=x.c) (λ_=>rfl) ⟨_,λ_=>Ec _ _ _ _,λ_=>rfl,λ_=>rfl,λ_=>rfl,H.cf a (n:=5) (λ_=>rfl) λl j=>⟨?_,j⟩⟩⟩⟩⟩;unfold jt;simp only[Ga]
end
theorem wF (x:Int): ∀l:List Int,l.Pairwise (λa b=>b<=a)->(jG x l).Pairwise (λa b=>b<=a)
 |[], _=>by simp[jG]
 |y::l,h=>by
  rw[jG];obtain⟨h1,e⟩:=HB.1 h;split
  ·rename_i c;refine HB.2 ⟨λz d=>?_,wF x l e⟩;rcases FS.1 ((vd x l).mem_iff.1 d) with rfl|d
   ·omega
   ·exact h1 z d
  ·rename_i c;refine HB.2 ⟨λz d=>?_,h⟩;rcases FS.1 d with rfl|d
   ·omega
   ·have:=h1 z d;omega
theorem uw: ∀(l a:List Int),a.Pairwise (λa b=>b<=a)->(l.foldl (λa x=>jG x a) a).Pairwise (λa b=>b<=a)
 |[], _,h=>h
 |x::l,a,h=>uw l _ (wF x a h)
theorem W9 {R l:List Int} (h:R.Pairwise (· <= ·)) (c:R.Perm l):R=mN l:=by
 refine List.Perm.eq_of_pairwise (λa b _ _ h1 d=>by omega) h ?_ (c.trans (lL l).symm);unfold mN;rw[List.pairwise_reverse];exact uw l [] List.Pairwise.nil
theorem V2 (e:vu):(fo e).now=J9 e.pins e.now:=by unfold fo J9;split<;>rfl
theorem SG (e:vu):(fo e).pins=e.pins:=by unfold fo;split<;>rfl
theorem u5 (e:vu):(fo e).ws=e.ws:=by unfold fo;split<;>rfl
theorem Px (e:vu):e.now<=(fo e).now/\(fo e).now<=e.now+1:=by
 unfold fo;split
 ·exact⟨by show e.now<=e.now+1;omega,GJ _⟩
 ·omega
theorem CK: ∀(l:List Int) (s:MS),(l.foldl il s).ms.length=s.ms.length+l.length
 |[],s=>rfl
 |f::l,s=>by
  rw[GI,CK l];show(s.ms++ _).length+l.length= _;simp only[Hb,JR,JS];omega
section
variable {Q:Sys} {X:HX} {D G:List Nat} {w0 w w1:A2} {R:MR} {s:MS} {T L:List (Nat×List AC)} {M:List (Nat×B3)} {i:Nat} {x:bU} {g:Option Bool}
theorem MU.base (H:MU Q X D G w0 w R s T L M): ∃L0,aJ D G w0 w L0/\ ∀x∈T,x∈L0:=by
 obtain⟨B,e,H⟩:=H;obtain⟨b,c,K, _⟩:=H.tmp;exact⟨_,K.base,λx a=>B8 _ a⟩
theorem MU.sat (H:MU Q X D G w0 w R s T L M): ∃A a L0,bj Q [] a w w s.h.s L0/\(X.hb,fV Q X A s.h.g)∈L0/\(∀i v,s.h.g i=some v-> ∀x∈gR Q A i v,x∈L0)/\
 ∀{T' b s'},bj Q [] a w b s' (T'++L0)->MU Q X D G w0 b R {s with h:=bE s.h s'} (T'++T) L M:=by
 obtain⟨B,e,H⟩:=H;obtain⟨A,a,L0,S,h1,c, _, _, _,J⟩:=H.sat;exact⟨A,a,L0,S,h1,c,λK=>⟨B,e,J K⟩⟩
theorem MU.del (H:MU Q X D G w0 w R s T L M) (f:Int) {K:A2->Prop} (k: ∀g,MU Q X D G w0 g R {s with kn:=s.kn.filter (λx=> !(x==f))} T L M->K g):
 ∃(r:Nat) (es:Array Dl) (h:Nat),some R.kb=some r/\bG w r es h/\Ac w r .i64 f es h K:=by
 obtain⟨B,rfl,H⟩:=H;obtain⟨p,q,a,J⟩:=H.kns;refine⟨B.kb,⟨B.ke⟩,B.kk,rfl,a.get (i:=0) rfl,?_⟩;unfold Ac;by_cases c:f∈s.kn
 ·obtain⟨i,j,l,hv⟩:=H.wf.k.Fw (B6.2 ⟨f,c,rfl⟩);rw[show Gi (.int .i64) (aa f) (Array.mk B.ke).toList 0=some (some (i,.bool true)) from j];have b:=a.put (i:=0) rfl (o':= .map ⟨B.ke.eraseIdx i⟩ B.kk) trivial;have m:(Array.mk B.ke).eraseIdxIfInBounds i=⟨B.ke.eraseIdx i⟩:=by
   apply Array.ext';simp[Array.eraseIdxIfInBounds,l]
  show K (w.putObj B.kb (.map ((Array.mk B.ke).eraseIdxIfInBounds i) B.kk));rw[m];refine k _ ⟨{B with ke:=B.ke.eraseIdx i},rfl,J (kn:=s.kn.filter λx=> !(x==f)) ?_ b⟩;rw[List.filter_map] at hv;exact hv
 ·have n: ∀t∈s.kn.map (λf=>((f,.bool true):KV)),t.1≠f:=λt o e=>by
   obtain⟨y,d,rfl⟩:=B6.1 o;exact c (by rw[<-e];exact d)
  rw[show Gi (.int .i64) (aa f) (Array.mk B.ke).toList 0=some none from H.wf.k.N3 n];have b:=a.put (i:=0) rfl (o':= .map ⟨B.ke⟩ B.kk) trivial;refine k _ ⟨B,rfl,J (ke:=B.ke) (kk:=B.kk) (kn:=s.kn.filter λx=> !(x==f)) ?_ b⟩;rw[List.filter_eq_self.2 λy d=>by simpa using λe:y=f=>c (e▸d)];exact H.wf.k
theorem EP (H:MU Q X D G w0 w R s T L M) (U:s.ep.pins.length<=8) (V:0<=s.ep.now/\s.ep.now<4611686018427387000) (W:s.ep.ws.length<=1000000) (Y: ∀e∈s.ep.ws,0<=e.2/\e.2<=s.ep.now) (t:s.ms.length<=900000000) {K:Int->A2->Prop}
 (k: ∀b,MU Q X D G w0 b R (dM s).1 T L M->K (((dM s).2:Nat):Int) b):aA AA 151 (.el (.one (.int .i64))) [ag (ae R.mb)] w K:=by
 refine H.go λw1 H=>ai (C:=U2) (aS:=uo) (B2 (R5 _ w1 K) ⟨rfl,rfl,H.f1 ?_⟩);have hle:=Px s.ep;have XS: ∀{b},MU Q X D G w0 b R s T L M-> ∀{h:Bool->A2->Prop},(∀v d,MU Q X D G w0 d R {s with ep:=fo s.ep} T L M->h v d)->aA AA 197 (.el (.one .bool)) [ag (ae R.eb)] b h:=by
  intro b a h u;obtain⟨B,rfl,a⟩:=a;obtain⟨F,Z,o,J⟩:=a.eps;refine Un o.base.again a.wf.p U ⟨V.1,by omega⟩ λv d K2=>u v d ⟨{B with sp:=B.sp,Lp:=B.Lp,we:=B.we,wk:=B.wk},rfl,J (ep:=fo s.ep) (by rw[SG];exact a.wf.p) (by rw[u5];exact a.wf.w) (by rw[V2];exact o.join K2)⟩
 refine XS H λv b H=>⟨rfl,rfl,H.f1 ?_⟩;have free: ∀{f:MS} {b},MU Q X D G w0 b R f T L M->f.ep=fo s.ep-> ∀{h:Option AN×Nat×Nat->A2->Prop},(∀r g d,du eI r (oC f.ep) g->MU Q X D G w0 d R {f with ep:=Cb f.ep} (g++T) L M->h r d)->aA AA 198 (.el (.one .slice)) [ag (ae R.eb)] b h:=by
  intro f b a q h u;obtain⟨B,rfl,a⟩:=a;obtain⟨F,Z,o,J⟩:=a.eps;refine RQ o a.wf.w (by rw[q,u5];omega) B4 (λe t=>?_) (by rw[q];omega) λr Rr g qG d hso hpe m hv K4=>?_
  ·rw[q,u5] at t;have:=Y e t;rw[q];omega
  ·rw[W9 hso hpe] at m;refine u r g d m ⟨{B with sp:=B.sp,Lp:=B.Lp,we:=qG,wk:=B.wk},rfl,J (T':=g++T) (ep:=Cb f.ep) a.wf.p hv (K4.perm (cg λy=>?_))⟩;show B9 y ((B.eb,ow f.ep.now B.sp B.wb)::(B.Lp++(g++T++F)))= _;simp only[Al,Av];omega
 refine free H rfl λr g d m H=>?_;generalize z:oC (fo s.ep)=l at*
 have hlen:=m.1;have hll:l.length<=1000000:=by
  rw[<-z];unfold oC;rw[jP,DA];refine Ij (Hr _ _) ?_;rw[u5];exact W
 refine⟨λn st E=> ∃j:Nat,j<=l.length/\n=l.length - j/\st.1=(j:Int)/\MU Q X D G w0 E R ((l.take j).foldl il {s with ep:=Cb (fo s.ep)}) (g++T) L M,⟨l.length,λE h4=>⟨0,E4 _,rfl,rfl,H.ext h4⟩⟩,?_⟩;clear H;rintro n ⟨i, _⟩ E ⟨j,I,qs,hi,H⟩;have hi:i=(j:Int):=hi;subst hi qs;dsimp only;rw[hlen];refine ab (λc=>?_) (λc=>?_)
 ·have I:j<l.length:=by have:=of_decide_eq_true c;omega
  obtain⟨x,N⟩: ∃x,l[j]? =some x:=⟨_,C7 I⟩;obtain⟨L0,K0,hT⟩:=H.base;have O:=m.sl K0 (λy hy=>hT y (B8 _ hy)) j x N;refine⟨⟨O.1,by omega,by omega⟩,aj.of x (by rw[Bs];exact O.2) ⟨rfl,rfl,H.f0 ?_⟩⟩;obtain⟨A,G',L0,S,hk, _,J⟩:=H.sat;refine Er S hk x λP S=>?_;have H:=J (T':=[]) S;refine⟨rfl,rfl,H.f4 λw6 h6=>(H.ext h6).del x λw7 H=>tO H ?_ (2,0,x,(0,0,0,0,()),0,0) λw8 H w9 h9=>⟨l.length - (j+1),by omega,j+1,by omega,rfl,?_,?_⟩⟩
  ·show(List.foldl il _ (l.take j)).ms.length<= _;rw[CK,JW];show s.ms.length+ _<= _;omega
  ·rw[ax (by omega) (by omega)];omega
  ·rw[I1,N,I2];exact H.ext h9
 ·have:j=l.length:=by have:=of_decide_eq_false c;omega
  subst this;rw[JX] at H;refine H.en λP H=>?_;have e:(dM s).1=l.foldl il {s with ep:=Cb (fo s.ep)}:=by unfold dM;rw[z]
  have e2:(dM s).2=l.length:=by unfold dM;rw[z]
  rw[e,e2] at k;exact k P (H.sub (FN _ _))
end
abbrev BR:Type:=(Int×Int×Unit)×Bool×Unit
abbrev NP:Sh:= .bA [.agg iN,.one .bool]
theorem SH {pins:List Int} {n:Nat} (h:n<pins.length):Ai pins n (-1)=pins.set n (-1):=by
 unfold Ai;split
 ·rename_i c;have e:pins.getD n 0= -1:=by simpa using c
  rw[Dn,C7 h] at e;have e:pins[n]= -1:=e;rw[<-e];exact(List.set_getElem_self h).symm
 ·rfl
theorem SI {e:vu} {n:Nat} (a:0<=e.now):{e with pins:=Ai e.pins n e.now}=mJ e n:=by
 unfold Ai mJ;have h0:(e.now== -1)=false:=by rw[beq_eq_false_iff_ne];omega
 rw[h0];by_cases c:e.pins.getD n 0= -1
 ·rw[av c,ao (by rw[c];decide)]
 ·rw[ao c,av (by rw[beq_eq_false_iff_ne.2 c])]
theorem V3 (e:vu) (f:Int):N4 (e.ws.map Fy) f e.now=(lq e f).ws.map Fy:=by
 unfold N4 lq;rw[List.any_map];show(if e.ws.any (λx=>x.1==f)=true then _ else _)= _;split<;>rfl
theorem CL (e:vu) (f:Int):(lq e f).now=e.now/\(lq e f).pins=e.pins:=by unfold lq;split<;>exact⟨rfl,rfl⟩
theorem zh: ∀(l:List Int) (e:vu),(l.foldl lq e).now=e.now/\(l.foldl lq e).pins=e.pins
 |[],e=>⟨rfl,rfl⟩
 |f::l,e=>by rw[GI,(zh l _).1,(zh l _).2];exact CL e f
section
variable {Q:Sys} {X:HX} {D G:List Nat} {w0 w w1:A2} {R:MR} {s:MS} {T L:List (Nat×List AC)} {M:List (Nat×B3)} {i:Nat} {x:bU} {g:Option Bool}
theorem MU.res {b:Nat} {l:List AC} (H:MU Q X D G w0 w R s ((b,l)::T) L M) (d:l.length=2) (V E:Int) (c:Bool) {K:BR->A2->Prop} (k: ∀a,MU Q X D G w0 a R s T L M->K ((V,E,()),c,()) a):
 az w (ae b) [ay V,aa E] λa=>au a λw1=>aj w1 none (ae b) (El.agg [.int .u64,.int .i64]) λ(x:Int×Int×Unit)=>K ((x.1,x.2.1,()),c,()) w1:=
 H.st 0 rfl rfl d.symm λa H=>H.en λe H=>H.ld 0 rfl (show _=some (V,E,()) from rfl) (k e (H.sub (C8 _ _)))
theorem MU.crd (H:MU Q X D G w0 w R s T L M) (b:s.cs[i]? =some x) {n:Nat} {el:El} {y:el.T} (hv: ∀a:CA,k_ (jW a i x) n el=some y):cQ w (ad (some ⟨R.cb i,0,none⟩) n) el y:=by
 obtain⟨z,h,e⟩:=H.cf (g:=none) (K:=λz=>z=y) b hv rfl;subst e;exact h
theorem BD (H:MU Q X D G w0 w R s T L M) (hc:i<s.ep.pins.length) {K:Int->A2->Prop} (k: ∀v b,MU Q X D G w0 b R {s with ep:=oO s.ep i} T L M->K v b):
 aA AA 158 (.el (.one (.int .i64))) [ag (ae R.eb),aa (i:Int)] w K:=by
 refine λw1 h1=>?_;obtain⟨B,rfl,a⟩:=H.ext h1;obtain⟨h,j,c,J⟩:=a.eps;refine Kz c.base.again a.wf.p i hc (λv e f d g=>k v f ⟨{B with sp:=B.sp,Lp:=e,we:=B.we,wk:=B.wk},rfl,J (ep:=oO s.ep i) ?_ a.wf.w (c.join g)⟩) w1 (Ext.refl w1);rw[SH hc] at d;exact d
theorem V4 (H:MU Q X D G w0 w R s T L M) (d:0<=s.ep.now) (hc:i<s.ep.pins.length) {K:Int->A2->Prop} (k: ∀v b,MU Q X D G w0 b R {s with ep:=mJ s.ep i} T L M->K v b):
 aA AA 200 (.el (.one (.int .i64))) [ag (ae R.eb),aa (i:Int)] w K:=by
 refine λw1 h1=>?_;obtain⟨B,rfl,a⟩:=H.ext h1;obtain⟨j,l,c,J⟩:=a.eps;refine Um c.base.again a.wf.p i hc (λv e f g h=>k v f ?_) w1 (Ext.refl w1);rw[<-SI d];exact⟨{B with sp:=B.sp,Lp:=e,we:=B.we,wk:=B.wk},rfl,J (ep:={s.ep with pins:=Ai s.ep.pins i s.ep.now}) g a.wf.w (c.join h)⟩
theorem SJ (H:MU Q X D G w0 w R s T L M) (c:s.ep.pins.length<=8) (d:0<=s.ep.now/\s.ep.now<4611686018427387000) (f:s.ep.ws.length<=1000000) (g: ∀e∈s.ep.ws,0<=e.2/\e.2<=s.ep.now) (h:s.ms.length<=900000000) (p:Option AN) {K:BR->A2->Prop}
 (k: ∀a,MU Q X D G w0 a R (dM s).1 T L M->K ((0,0,()),false,()) a):aA AA 109 NP [ag (ae R.mb),ag p] w K:=by
 refine H.go λw1 H=>aQ (C:=U2) (aS:=λ_=>[]) (B2 (R6 _ p w1 K) (H.al λb a H=>EP H c d f g h λi H=>H.res rfl 0 0 false k))
theorem SK (H:MU Q X D G w0 w R s T L M) (e:s.cs[i]? =some x) (N:x.ak<4611686018427387904) (hfs:x.fs.length<=1000000) (O: ∀f∈x.fs,0<=f) {K:BR->A2->Prop}
 (k: ∀m,MU Q X D G w0 m R (iJ s x).1 T L M->K ((if(iJ s x).2.2=true then((iJ s x).2.1.1,(iJ s x).2.1.2,()) else(0,0,())),(iJ s x).2.2,()) m):
 aA AA 113 NP [ag (ae R.mb),ag (some ⟨R.cb i,0,none⟩)] w K:=by
 refine H.go λw1 H=>aQ (C:=U2) (aS:=uq) (B2 (R8 _ _ w1 K) (H.al λb m H=>⟨rfl,rfl,H.f2 ⟨rfl,rfl,H.cf e (n:=12) (λ_=>rfl) ⟨yz s x.ak,?_,?_⟩⟩⟩))
 ·obtain⟨B,rfl,d⟩:=H;obtain⟨q,z,g,J⟩:=d.bxs;have r:=g.base.perm (L':=B.Lo++((B.xb,lQ B.sb B.so)::(B.Lb++((b,[ay 0,aa 0])::T++q)))) (cg λy=>by simp only[Al,Av];omega);exact VF r B4 d.wf.o x.ak N
 ·unfold iJ at k;refine ab (λc=>?_) (λc=>?_)
  ·have c:yz s x.ak=false:=by simpa using c
   rw[c] at k;exact H.res rfl 0 0 false k
  ·have c:yz s x.ak=true:=by simpa using c
   rw[c] at k;obtain⟨B,rfl,d⟩:=H;refine⟨rfl,rfl,d.XX e (n:=13) (show _=some ((B.A i).sf.1,(B.A i).sf.2.1,(B.A i).sf.2.2) from rfl) ?_⟩;have P:(B.A i).sf.2.1=x.fs.length:=(d.wf.a e).fs.1;refine⟨λn st h=> ∃(j:Nat) (we:List Dl) (wk:Nat),j<=x.fs.length/\n=x.fs.length - j/\st.1=(j:Int)/\iy Q X D G w0 h {B with we:=we,wk:=wk} {s with ep:=(x.fs.take j).foldl lq s.ep} ((b, _)::T) L M,⟨x.fs.length,λh S=>⟨0,B.we,B.wk,E4 _,rfl,rfl,d.ext S⟩⟩,?_⟩;rintro n ⟨U, _⟩ h ⟨j,we,wk,E,V,hi,H⟩;have hi:U=(j:Int):=hi;subst hi V;dsimp only;rw[P];refine ab (λc=>?_) (λc=>?_)
   ·have E:j<x.fs.length:=by have:=of_decide_eq_true c;omega
    obtain⟨f,u⟩: ∃f,x.fs[j]? =some f:=⟨_,C7 E⟩;have l:({s with ep:=(x.fs.take j).foldl lq s.ep}:MS).cs[i]? =some x:=e;obtain⟨q,z,g,hh, _,hc, _⟩:=H.tmp;have F:=(H.wf.a l).fs.sl g.base (λy I=>B5 _ (hc l _ (Ay _ (Ay _ (B5 _ (B8 _ I)))))) j f u;refine⟨⟨F.1,by omega,by omega⟩,aj.of f (by rw[Bs];exact F.2) ⟨rfl,rfl,H.rj (show _=some (ae B.eb) from rfl) ?_⟩⟩;obtain⟨q,z,g,J⟩:=H.eps;refine Uo g B4 H.wf.w (λt W=>?_) f (O f (DB u)) λv Y Z w5 hv r w6 h6=>⟨x.fs.length - (j+1),by omega,j+1,Y,Z,by omega,rfl,?_,?_⟩
    ·obtain⟨y,I,rfl⟩:=B6.1 W;exact⟨_,rfl⟩
    ·rw[ax (by omega) (by omega)];omega
    ·rw[I1,u,I2];rw[V3] at hv;refine iy.ext (J (sp:=B.sp) (ep:=lq ((x.fs.take j).foldl lq s.ep) f) ?_ hv ?_) h6
     ·rw[(CL _ f).2];exact H.wf.p
     ·rw[(CL _ f).1];exact r
   ·have:j=x.fs.length:=by have:=of_decide_eq_false c;omega
    subst this;rw[JX] at H;have H:MU Q X D G w0 h B.rt {s with ep:=x.fs.foldl lq s.ep} ((b, _)::T) L M:=⟨{B with we:=we,wk:=wk},rfl,H⟩;have l:({s with ep:=x.fs.foldl lq s.ep}:MS).cs[i]? =some x:=e;exact⟨rfl,rfl,H.cf l (n:=10) (y:=(x.rs.1,x.rs.2,())) (λ_=>rfl) (H.res rfl _ _ true k)⟩
end
theorem acr {a:Int} (h:0<=a):aG .i64 (f_ a 16)=a % 16:=by
 have e:f_ a 16=a % 16:=by
  unfold f_;exact M4 h
 rw[e];exact bP (by omega)
theorem atU {f a:Int} (c:0<=f/\f<4096) (b:0<=a):aL .i64 (fy .i64 16 f) (aG .i64 (f_ a 16))=16*f+a % 16:=by
 rw[acr b,eH (by omega) (by omega),ax (by omega) (by omega)]
section
variable {Q:Sys} {X:HX} {D G:List Nat} {w0 w w1:A2} {R:MR} {s:MS} {T L:List (Nat×List AC)} {M:List (Nat×B3)} {i:Nat} {x:bU} {g:Option Bool}
theorem zQ (H:MU Q X D G w0 w R s T L M) {K:Option AN->A2->Prop} (k: ∀a,MU Q X D G w0 a R s T L M->K (ae Q.bm) a):
 aA AA 23 (.el (.one .ptr)) [ag (ae X.hb)] w K:=by
 obtain⟨A,c,L0,S,b, _,J⟩:=H.sat;exact zI S b λa S=>k a (J (T':=[]) S)
theorem M8 (H:MU Q X D G w0 w R s T L M) (a:s.cs[i]? =some x) (e:0<=x.fr/\x.fr<4096) (f:cI x.c.2.1) (hb:cI x.c.2.2.1) (hc:i<s.ep.pins.length) (p:s.ms.length<=900000000) {K:BR->A2->Prop}
 (k: ∀d,MU Q X D G w0 d R (fO s i x).1 T L M->K (((fO s i x).2.1.1,0,()),true,()) d):
 aA AA 112 NP [ag (ae R.mb),ag (some ⟨R.cb i,0,none⟩)] w K:=by
 refine H.go λw1 H=>aQ (C:=U2) (aS:=λ_=>[]) (B2 (Mx _ _ w1 K) (H.al λb d H=>⟨rfl,rfl,H.cf a (n:=9) (λ_=>rfl) ⟨rfl,rfl,rfl,H.cf a (n:=5) (λ_=>rfl) ⟨rfl,rfl,H.f1 ⟨rfl,rfl,H.cf a (n:=0) (λ_=>rfl) ?_⟩⟩⟩⟩));rw[atU e f.1];unfold fO at k;dsimp only at k;refine BD H hc λv q H=>⟨rfl,rfl,rfl,H.cf a (n:=4) (λ_=>rfl) ?_⟩;refine ab (λc=>?_) (λc=>?_)
 ·have c:x.c.1=7:=by simpa using c
  rw[av c] at k;refine⟨rfl,rfl,H.f0 ⟨rfl,rfl,rfl,H.cf a (n:=6) (λ_=>rfl) (zQ H λg H=>⟨H.crd a (n:=6) λ_=>rfl,trivial,trivial,trivial,?_⟩)⟩⟩;obtain⟨A,j,L0,S,l, _,J⟩:=H.sat;refine S.store _ _ hb λm S=>?_;have H:=J (T':=[]) S;exact⟨rfl,rfl,rfl,H.cf a (n:=6) (λ_=>rfl) (tO H (by show s.ms.length<= _;omega) (4,0,16*x.fr+x.c.2.1 % 16,(0,0,0,0,()),x.c.2.2.1,0) λo H=>H.res rfl 0 0 true k)⟩
 ·have c:x.c.1≠7:=by simpa using c
  rw[ao c] at k;refine⟨rfl,rfl,H.f0 (zQ H λg H=>?_)⟩;obtain⟨A,j,L0,S,l, _,J⟩:=H.sat;refine S.load _ λm S=>?_;have H:=J (T':=[]) S;exact tO H (by show s.ms.length<= _;omega) (3,0,16*x.fr+x.c.2.1 % 16,(0,0,0,0,()),dv s.h.s.1 (16*x.fr+x.c.2.1 % 16),0) λo H=>H.res rfl _ 0 true k
end
open Go.RX D
theorem SL {ws:List Int} {p t:Int} {x:Int×Int×FT} (h:0<=x.2.1/\x.2.1<=3):(bz ws p t x).2.1= -1\/((bz ws p t x).2.1=x.2.1 - 1/\0<x.2.1):=by
 unfold bz;rw[ao (by omega)];split
 ·exact .inl rfl
 ·exact I3 h
section
variable {Q:Sys} {X:HX} {D G:List Nat} {w0 w w1:A2} {B:MB} {R:MR} {s:MS} {T L:List (Nat×List AC)} {M:List (Nat×B3)} {i:Nat} {x:bU} {g:Option Bool}
theorem iy.walk (H:iy Q X D G w0 w B s T L M) (e:s.cs[i]? =some x) (v:x.ph=2): ∃(bk:Nat) (l:Option AN×Nat×Nat) (m:List (Nat×List AC)) (xs:List Int) (q:List (Nat×List AC)) (r:List (Nat×B3)) (ca la:Int),(B.A i).wp=some ⟨bk,0,none⟩/\BO m l xs/\(xs.length:Int)<=3 - x.wk.2.1/\yB s.h.s/\
 cC D G w0 w ((bk,lT x.wk.1 (x.c.2.1 / 16) (aV x.c.1) x.wk.2.1 x.wk.2.2 l)::(Q.bm,l5 Q.bw s.h.s.1.length Q.c ca la)::(Q.bw,flat eW s.h.s.1++Q.rw)::(m++q)) r/\
 ∀{wR:Int×Int×FT} {b:Option AN×Nat×Nat} {d:List (Nat×List AC)} {n:List Int} {f k:Int} {w':A2},BO d b n->(n.length:Int)<=3 - wR.2.1->
  cC D G w0 w' ((bk,lT wR.1 (x.c.2.1 / 16) (aV x.c.1) wR.2.1 wR.2.2 b)::(Q.bm,l5 Q.bw s.h.s.1.length Q.c f k)::(Q.bw,flat eW s.h.s.1++Q.rw)::(d++q)) r->MU Q X D G w0 w' B.rt (a_ s i {x with wk:=wR}) T L M:=by
 obtain⟨A,ca,la,h1,t,o,z⟩:=H;obtain⟨bk,l,m,xs,u,C,E,p⟩:=(o.a e).wk v;have F:=lM (B:=B) e;refine⟨bk,l,m,xs,((B.A i).cb,jW (B.A i) i x)::((B.A i).tb,di (B.A i).st s.sz)::((B.A i).Lt++((B.A i).Lf++(T++(Ii X B s++(ia B s ((Ak s.cs.length).erase i)++((Q.bf,flat eD s.h.s.2++Q.rf)::(Q.bp,[.slice (ae Q.bf) s.h.s.2.length Q.cp])::(dX Q X A s.h (bh Q A s.h.g (Ak 17))++L))))))), _,ca,la,u,E,p,t,z.perm ?_,λ{wR b d n f k w'} I J K=>?_⟩
 ·refine If ?_ (Dd T (Dd _ (Fu _ F.symm)));unfold sP;rw[C];exact cg λy=>by simp only[Sys.L,Al,Av];omega
 ·refine⟨C6 B i {B.A i with Lw:=(bk,lT wR.1 (x.c.2.1 / 16) (aV x.c.1) wR.2.1 wR.2.2 b)::d},W8 rfl rfl,A,f,k,h1,t,o.up e rfl ⟨(o.a e).ls,(o.a e).fs,λ_=>⟨bk,b,d,n,u,rfl,I,J⟩⟩,K.perm ?_⟩;generalize N:({B.A i with Lw:=(bk,lT wR.1 (x.c.2.1 / 16) (aV x.c.1) wR.2.1 wR.2.2 b)::d}:CA)=a;have O:(a_ s i {x with wk:=wR}).cs[i]? =some {x with wk:=wR}:=fb e;have p:(a_ s i {x with wk:=wR}).cs.length=s.cs.length:=DK ..;have:=lM (B:=C6 B i a) O;rw[m5,p,zN (s:=s) (s':=a_ s i {x with wk:=wR}) rfl λj P=>(show(s.cs.set i {x with wk:=wR})[j]? =s.cs[j]? from FB (λc=>P c.symm))] at this;rw[p];refine(Dd T (Dd _ (Fu _ this))).trans ?_;subst N;show(T++(Ii X B s++(sP {B.A i with Lw:=(bk,lT wR.1 (x.c.2.1 / 16) (aV x.c.1) wR.2.1 wR.2.2 b)::d} i {x with wk:=wR} s.sz++ia B s ((Ak s.cs.length).erase i)++(FC Q X A f k s.h++L)))).Perm _;unfold sP;show(T++(Ii X B s++(((B.A i).cb,jW (B.A i) i x)::((B.A i).tb,di (B.A i).st s.sz)::((B.A i).Lt++((B.A i).Lf++((bk,lT wR.1 (x.c.2.1 / 16) (aV x.c.1) wR.2.1 wR.2.2 b)::d)))++ia B s ((Ak s.cs.length).erase i)++(FC Q X A f k s.h++L)))).Perm _;exact cg λy=>by simp only[Sys.L,Al,Av];omega
theorem MU.rd (H:MU Q X D G w0 w R s T L M) (i:Nat) {el:El} {b n:Nat} {l:List AC} {x:el.T} (a:T[i]? =some (b,l)) (hv:k_ l n el=some x):cQ w (ad (ae b) n) el x:=by
 obtain⟨z,h,e⟩:=H.cH (g:=none) (K:=λz=>z=x) i a hv rfl;subst e;exact h
theorem MU.wp (H:MU Q X D G w0 w R s T L M) (b:s.cs[i]? =some x) (d:x.ph=2): ∃(bk:Nat) (a:Option AN×Nat×Nat) (L0:List (Nat×List AC)),aJ D G w0 w L0/\(bk,lT x.wk.1 (x.c.2.1 / 16) (aV x.c.1) x.wk.2.1 x.wk.2.2 a)∈L0/\ ∀{g:Option Bool} {K:Option AN->Prop},K (ae bk)->aj w g (ad (some ⟨R.cb i,0,none⟩) 8) (.one .ptr) K:=by
 obtain⟨B,rfl,H⟩:=H;obtain⟨bk,a,f,xs,h,j,ca,la,e, _, _, _,K, _⟩:=H.walk b d;exact⟨bk,a, _,K.base,B4,λk=>H.XX b (n:=8) (show _=some (B.A i).wp from rfl) (by rw[e];exact k)⟩
theorem SN (H:MU Q X D G w0 w R s T L M) (f:s.cs[i]? =some x) (g:(x.ls.length:Int)<=s.sz) (h:0<s.sz/\s.sz<=64) (l:LT) (j:Z7 l=true) {K:Int->A2->Prop}
 (k: ∀b,MU Q X D G w0 b R (a_ s i {x with ls:=j9 x.ls s.sz l}) T L M->K 0 b):
 aA AA 159 (.el (.one (.int .i64))) [ag (some ⟨R.tb i,0,none⟩),lnV l] w K:=by
 obtain⟨a,c,m,q,hb,W,n,J⟩:=H.C5 f;have d:cC D G w0 w ((R.tb i,di a.st s.sz)::(a.Lt++((a.cb,jW a i x)::(a.Lf++(a.Lw++(T++c)))))) m:=n.perm (cg λy=>by rw[<-hb];simp only[sP,Al,Av];omega);refine λw1 h1=>P0 (d.ext h1).base.again W.ls g h l j (λs' e b o p=>k b (J (a':={a with st:=s',Lt:=e}) rfl rfl ⟨o,W.fs,W.wk⟩ (((d.ext h1).join p).perm (cg λy=>?_)))) w1 (Ext.refl w1);show B9 y ((a.cb,jW a i x)::(a.tb,di s' s.sz)::(e++(a.Lf++a.Lw))++(T++c))= _;rw[<-hb];simp only[Al,Av];omega
theorem SO (H:MU Q X D G w0 w R s T L M) (o:s.cs[i]? =some x) (u:x.ph=2) (V:0<=x.wk.2.1/\x.wk.2.1<=3) (W:cI x.c.2.1) (hc:i<s.ep.pins.length) (Y:(x.ls.length:Int)<=s.sz) (Z:0<s.sz/\s.sz<=64)
 (E:(bz s.h.s.1 (x.c.2.1 / 16) (aV x.c.1) x.wk).2.1= -1->(bz s.h.s.1 (x.c.2.1 / 16) (aV x.c.1) x.wk).2.2.2.2.2.1=0->Z7 (x.vm,x.c.2.1 / 16,(bz s.h.s.1 (x.c.2.1 / 16) (aV x.c.1) x.wk).2.2.1,(bz s.h.s.1 (x.c.2.1 / 16) (aV x.c.1) x.wk).2.2.2.1,())=true) {K:BR->A2->Prop}
 (k: ∀r,MU Q X D G w0 r R (j_ s i x).1 T L M->K ((0,(j_ s i x).2.1.2,()),(j_ s i x).2.2,()) r):
 aA AA 111 NP [ag (ae R.mb),ag (some ⟨R.cb i,0,none⟩)] w K:=by
 refine H.go λw1 H=>aQ (C:=U2) (aS:=λ_=>[]) (B2 (R7 _ _ w1 K) (H.al λb r H=>?_));unfold j_ at k;generalize F:bz s.h.s.1 (x.c.2.1 / 16) (aV x.c.1) x.wk=wv at*
 have I:=SL (ws:=s.h.s.1) (p:=x.c.2.1 / 16) (t:=aV x.c.1) V;rw[F] at I;obtain⟨wf,wl,z8,d,j,f,⟨⟩⟩:=wv;dsimp only at k E I;obtain⟨B,rfl,m⟩:=H;refine⟨rfl,rfl,m.XX o (n:=8) (show _=some (B.A i).wp from rfl) ⟨rfl,rfl,m.rj (show _=some (ae X.hb) from rfl) ?_⟩⟩;obtain⟨A,G',L0,S,hk, _, _, _, _,J⟩:=m.sat;refine zI S hk λN S=>?_;have m:iy Q X D G w0 N B s ((b,[ay 0,aa 0])::T) L M:=J (T':=[]) S;have vF:cQ N (ad (some ⟨(B.A i).cb,0,none⟩) 8) (.one .ptr) (B.A i).wp:=by
  obtain⟨z,h,e⟩:=m.XX (g:=none) (el:= .one .ptr) (K:=λz=>z=(B.A i).wp) o (n:=8) (show _=some (B.A i).wp from rfl) rfl;subst e;exact h
 refine⟨vF,trivial,trivial,?_⟩;obtain⟨bk,s2,Lq,xs,R',Mo,ca,la,e1,hp,hxl,O,P,J⟩:=m.walk o u;rw[e1];refine D9 P.base.again hp (by omega) rfl O.1 O.2.2.2 (by omega) λw4 cJ s3 ou q=>?_;have hw':bz s.h.s.1 (x.c.2.1 / 16) (aV x.c.1) (x.wk.1,x.wk.2.1,x.wk.2.2)=(wf,wl,z8,d,j,f,()):=F;rw[hw'] at q ⊢;have H:=J (wR:=(wf,wl,z8,d,j,f,())) ou (by rw[Hb,IA];dsimp only;omega) (P.join q);have l:=fb (y:={x with wk:=(wf,wl,z8,d,j,f,())}) o;refine ab (λc=>?_) (λc=>?_)
 ·have c:wl≠ -1:=by simpa using c
  rw[av c] at k;exact H.res rfl 0 0 false k
 ·have c:wl= -1:=by simpa using c
  subst c;rw[ao (by decide)] at k;obtain⟨bk',s2',L2,q,hm,Xp⟩:=H.wp l u;have Yk:af AA 24 [ag (ae bk')] w4 ((Sh.bA [.agg sF,.one .bool]).gZ ((z8,d,j,f,()),true,())):=af.of λw5 h5=>UF ((q.ext h5).dm _ hm);refine⟨rfl,rfl,Xp ⟨((z8,d,j,f,()),true,()),Yk,H.al λb1 w5 H=>H.st 0 rfl rfl rfl λw6 H=>⟨rfl,H.cH 0 rfl (show _=some f from rfl) ?_⟩⟩⟩;refine ab (λc=>?_) (λc=>?_)
  ·have c:f≠0:=by simpa using c
   rw[av c] at k;refine⟨rfl,rfl,H.f1 ⟨rfl,rfl,H.cf l (n:=0) (λ_=>rfl) (BD H hc λv w7 H=>⟨rfl,H.cH 0 rfl (show _=some f from rfl) ?_⟩)⟩⟩;exact MU.res (H.sub (C8 _ _)) rfl 0 f true k
  ·have c:f=0:=by simpa using c
   rw[ao (by rw[c];decide)] at k;have Ax:=JH H l W;refine⟨rfl,rfl,H.c1 l ⟨rfl,rfl,H.cf l (n:=3) (λ_=>rfl) ⟨x.c.2.1 / 16,Ax,rfl,H.cH 0 rfl (show _=some z8 from rfl) ⟨rfl,H.cH 0 rfl (show _=some d from rfl) ?_⟩⟩⟩⟩;refine SN H l Y Z (x.vm,x.c.2.1 / 16,z8,d,()) (E rfl c) λw7 H=>⟨rfl,H.cH 0 rfl (show _=some z8 from rfl) ?_⟩;have U:=fb (y:={x with wk:=(wf,-1,z8,d,j,f,()),ls:=j9 x.ls s.sz (x.vm,x.c.2.1 / 16,z8,d,())}) l;refine⟨rfl,rfl,H.cs U {x with wk:=(wf,-1,z8,d,j,f,()),ls:=j9 x.ls s.sz (x.vm,x.c.2.1 / 16,z8,d,()),ph:=3} 2 rfl rfl (λ_=>rfl) (λa h=>⟨h.ls,h.fs,λc=>(by cases c)⟩) λw8 H=>⟨H.rd 0 rfl (show _=some z8 from rfl),trivial,rfl,rfl,?_⟩⟩;have J0:=fb (y:={x with wk:=(wf,-1,z8,d,j,f,()),ls:=j9 x.ls s.sz (x.vm,x.c.2.1 / 16,z8,d,()),ph:=3}) U;refine H.cs J0 {x with wk:=(wf,-1,z8,d,j,f,()),ls:=j9 x.ls s.sz (x.vm,x.c.2.1 / 16,z8,d,()),ph:=3,fr:=z8} 9 rfl rfl (λ_=>rfl) (λa h=>⟨h.ls,h.fs,λc=>(by cases c)⟩) λw9 H=>?_;simp only[kY] at H;exact MU.res (H.sub (C8 _ _)) rfl 0 0 false k
end
theorem SP (ls:List LT) (t p w:Int):yi ls t p w=((iH ls t p w).1,(iH ls t p w).2,()):=by
 show yi ls t p w= _;unfold yi iH;rw[show(λx=>mm x t p)=uU t p from rfl];cases ls.find? (uU t p) with
 |none=>rfl
 |some l=>
  dsimp only;split<;>rfl
def Dw (s:MS) (n:Nat) (x:bU) (i:Nat):Bool:=match s.cs[i]? with
 |none=>false
 |some y=>decide (i≠n/\x.vm=0)&&((x.c.1==1&&(y.ph==4&&y.c.1==2))||(x.c.1==2&&(decide (y.ph>=2)&&(decide (y.vm>0)&&y.vm==x.c.2.1))))
section
variable {Q:Sys} {X:HX} {D G:List Nat} {w0 w w1:A2} {B:MB} {R:MR} {s:MS} {T L:List (Nat×List AC)} {M:List (Nat×B3)} {i:Nat} {x:bU} {g:Option Bool}
theorem MU.cbk (H:MU Q X D G w0 w R s T L M) (b:s.cs[i]? =some x): ∃l,bN w (R.cb i) l:=by
 obtain⟨a,e,f,c,hb,W,d,J⟩:=H.C5 b;rw[<-c];exact⟨_,d.base.dm _ B4⟩
theorem MU.cne (H:MU Q X D G w0 w R s T L M) (c:s.cs[i]? =some x) {j:Nat} {y:bU} (b:s.cs[j]? =some y) (d:j≠i):R.cb j≠R.cb i:=by
 obtain⟨B,rfl,A,ca,la,h1,m,n,f⟩:=H;have g:=lM (B:=B) c;have k:=f.perm (L':=sP (B.A i) i x s.sz++(T++(Ii X B s++(ia B s ((Ak s.cs.length).erase i)++(FC Q X A ca la s.h++L))))) (by
  refine If ?_ (Dd T (Dd _ (Fu _ g.symm)));exact cg λa=>by simp only[Al,Av];omega)
 have nd:=k.base.nd;have l:((B.A j).cb,jW (B.A j) j y)∈ia B s ((Ak s.cs.length).erase i):=by
  unfold ia;refine H5.2 ⟨j,?_,by rw[b];exact B4⟩;rw[JN.mem_erase_iff];exact⟨d,Bx.2 (B1.1 b).1⟩
 intro e;have e:(B.A j).cb=(B.A i).cb:=e;unfold sP at nd;rw[List.cons_append,List.map_cons,G1] at nd;refine nd.1 (B6.2 ⟨((B.A j).cb,jW (B.A j) j y),?_,e⟩);exact B5 _ (B5 _ (B5 _ (B8 _ l)))
theorem MU.f3 (H:MU Q X D G w0 w R s T L M): ∃sc:Option AN×Nat×Nat,sc.2.1=s.cs.length/\(∀{g:Option Bool} {K:Option AN×Nat×Nat->Prop},K sc->aj w g (ad (ae R.mb) 3) (.one .slice) K)/\ ∀{w1},Ext w w1-> ∀i,i<s.cs.length->sc.1.isSome=true/\cQ w1 (ad sc.1 (i*1)) (.one .ptr) (some ⟨R.cb i,0,none⟩):=by
 obtain⟨B,rfl,H⟩:=H;have W:=H.wf;refine⟨B.sc,by rw[W.c.1,DA,Ds],λk=>H.rj (show _=some (B.sc.1,B.sc.2.1,B.sc.2.2) from rfl) k,λh1 i hi=>?_⟩;obtain⟨d,e,K,a, _, _, _⟩:=(H.ext h1).tmp;exact W.c.sl K.base (λy b=>B5 _ (a _ (Ay _ (Ay _ (Ay _ (B8 _ b)))))) i (some ⟨(B.A i).cb,0,none⟩) (by rw[H6,H7 hi];rfl)
theorem HU (H:MU Q X D G w0 w R s T L M) (h:s.cs[i]? =some x) (P:s.cs.length<=8) (hv: ∀y∈s.cs,y.vm<9223372036854775808):af AA 154 [ag (ae R.mb),ag (some ⟨R.cb i,0,none⟩)] w (.bool (qD s i x)):=by
 refine af.of (s:= .el (.one .bool)) λw1 h1=>ai (C:=U2) (aS:=oo) (B2 (E' _ _ w1 _) ?_);have H:=H.ext h1;have r:qD s i x=(Ak s.cs.length).any (Dw s i x):=rfl;obtain⟨sc,z,A,B⟩:=H.f3;refine⟨rfl,rfl,A ?_⟩;rw[z];refine⟨λn st l=> ∃j:Nat,j<=s.cs.length/\n=s.cs.length - j/\st.1=(j:Int)/\(∀k,k<j->Dw s i x k=false)/\Ext w1 l,⟨s.cs.length,λl g=>⟨0,E4 _,rfl,rfl,λk o=>absurd o (N5 k),g⟩⟩,?_⟩;rintro n ⟨E, _⟩ l ⟨j,p,F,hi,t,g⟩;have hi:E=(j:Int):=hi;subst hi F;dsimp only;have H:=H.ext g;refine ab (λc=>?_) (λc f m=>⟨?_,Ext.trans g m⟩)
 ·have p:j<s.cs.length:=by have:=of_decide_eq_true c;omega
  obtain⟨y,d⟩: ∃y,s.cs[j]? =some y:=⟨_,C7 p⟩;have S:=hv y (DB d);have u:=B g j p;have hb:Dw s i x j=(decide (j≠i/\x.vm=0)&&((x.c.1==1&&(y.ph==4&&y.c.1==2))||(x.c.1==2&&(decide (y.ph>=2)&&(decide (y.vm>0)&&y.vm==x.c.2.1))))):=by
   unfold Dw;rw[d]
  have next:Dw s i x j=false-> ∀f,Ext l f-> ∃v:Nat,v<s.cs.length - j/\ ∃q:Nat,q<=s.cs.length/\v=s.cs.length - q/\aL .i64 (j:Int) 1=(q:Int)/\(∀k,k<q->Dw s i x k=false)/\Ext w1 f:=λhb f m=>by
   refine⟨s.cs.length - (j+1),by omega,j+1,by omega,rfl,?_,λk o=>?_,Ext.trans g m⟩
   ·rw[ax (by omega) (by omega)];omega
   ·by_cases e:k=j
    ·subst e;exact hb
    ·exact t k (by omega)
  have yes:Dw s i x j=true-> ∀f,Ext l f->true=qD s i x/\Ext w1 f:=λhb f m=>⟨by
   rw[r];exact(FP.2 ⟨j,Bx.2 p,hb⟩).symm,Ext.trans g m⟩
  have I:decide ((some ⟨R.cb j,0,none⟩:Option AN)=some ⟨R.cb i,0,none⟩)=decide (j=i):=by
   by_cases e:j=i
   ·subst e;simp
   ·have:=H.cne h d e;rw[decide_eq_false e,decide_eq_false_iff_not];intro c;exact this (congrArg Addr.block (Option.some.inj c))
  refine⟨⟨u.1,by omega,by omega⟩,aj.of (some ⟨R.cb j,0,none⟩) (by rw[Bs];exact u.2) ⟨?_,λ_=>rfl,λ_=>rfl,H.cf h (n:=3) (λ_=>rfl) ?_⟩⟩
  ·intro a b J hb _;cases J;cases hb;obtain⟨U,t1,K⟩:=H.cbk d;obtain⟨V,t2,N⟩:=H.cbk h;exact⟨⟨_, _,K⟩,⟨_, _,N⟩⟩
  ·rw[I];refine ab (λc=>next ?_) (λc=>?_)
   ·rw[hb,Bool.and_eq_false_iff];left;simp only[GS,decide_eq_true_eq,bne_iff_ne] at c;rw[decide_eq_false_iff_not];rintro⟨c1,c2⟩;rcases c with c|c
    ·exact c1 c
    ·exact c c2
   ·have c0:j≠i/\x.vm=0:=by simpa using c
    rw[decide_eq_true c0,Bool.true_and] at hb;refine⟨rfl,rfl,rfl,H.cf h (n:=4) (λ_=>rfl) ⟨λ_=>rfl,λ_=>rfl,H.cf d (n:=2) (λ_=>rfl) ⟨λ_=>rfl,λ_=>rfl,λ_=>rfl,H.cf d (n:=4) (λ_=>rfl) ?_⟩⟩⟩;refine ab (λc=>yes ?_) (λc1=>?_)
    ·rw[hb,GS];left;rw[<-Ga];exact c
    ·refine⟨rfl,rfl,rfl,H.cf h (n:=4) (λ_=>rfl) ⟨λ_=>rfl,λ_=>rfl,H.cf d (n:=2) (λ_=>rfl) ⟨λ_=>rfl,λ_=>rfl,H.cf d (n:=3) (λ_=>rfl) ⟨λ_=>rfl,λ_=>rfl,H.cf d (n:=3) (λ_=>rfl) ⟨λ_=>rfl,λ_=>rfl,λ_=>rfl,H.cf h (n:=5) (λ_=>rfl) ?_⟩⟩⟩⟩⟩;have e:(x.c.1==2&&decide (y.ph>=2)&&decide (y.vm>0)&&aG .u64 y.vm==x.c.2.1)=Dw s i x j:=by
      rw[hb];rw[show(x.c.1==1&&(y.ph==4&&y.c.1==2))=false from by rw[<-Ga];exact c1,Ia];by_cases O:y.vm>0
      ·rw[cY (by omega)];simp only[Ga]
      ·rw[decide_eq_false O];simp
     rw[e];exact ab (λc=>yes c) (λc=>next c)
 ·have:j=s.cs.length:=by have:=of_decide_eq_false c;omega
  subst this;rw[r];symm;rw[H4];intro k o;rw[t k (Bx.1 o)];decide
theorem SQ (H:MU Q X D G w0 w R s T L M) (b:s.cs[i]? =some x) (u:0<=s.ep.now) (hc:i<s.ep.pins.length) (z:(x.ls.length:Int)<=64) (B:0<s.sz) (m:cI x.c.2.1) (E:rB (aT s.h.g x.vm) (x.c.2.1 / 16) (aV x.c.1)=false) (F:jt s.h x=true) {K:Unit->A2->Prop}
 (k: ∀d,MU Q X D G w0 d R (dp s i x).1 T L M->K () d):
 aA AA 153 (.bA []) [ag (ae R.mb),ag (some ⟨R.cb i,0,none⟩)] w K:=by
 unfold dp at k;rw[av F] at k;refine H.go λw1 H=>ai (C:=U2) (aS:=λ_=>[]) (B2 (R9 _ _ w1 K) ⟨rfl,rfl,H.f1 ⟨rfl,rfl,H.cf b (n:=0) (λ_=>rfl) (V4 H u hc λv d H=>?_)⟩⟩);have I:af AA 201 [ag (some ⟨R.tb i,0,none⟩),aa x.vm,aa (x.c.2.1 / 16),aa (aV x.c.1)] d ((Sh.bA [.one (.int .i64),.one (.int .i64)]).gZ ((iH x.ls x.vm (x.c.2.1 / 16) (aV x.c.1)).1,(iH x.ls x.vm (x.c.2.1 / 16) (aV x.c.1)).2,())):=by
  rw[<-SP];obtain⟨a,e,o,m,hb,W,f,J⟩:=H.C5 b;have j:cC D G w0 d ((R.tb i,di a.st s.sz)::(a.Lt++((a.cb,jW a i x)::(a.Lf++(a.Lw++(T++e)))))) o:=f.perm (cg λy=>by rw[<-hb];simp only[sP,Al,Av];omega);exact Uq j.base W.ls z B _ _ _
 have p:=JH H b m;have q:=JI H b;refine⟨rfl,rfl,H.c1 b ⟨rfl,rfl,H.cf b (n:=3) (λ_=>rfl) ⟨_,p, _,q, _,I,?_⟩⟩⟩;dsimp only at k ⊢;refine ab (λc=>?_) (λc=>?_)
 ·have c:(iH x.ls x.vm (x.c.2.1 / 16) (aV x.c.1)).2=0:=by simpa using c
  rw[av c] at k;refine⟨rfl,rfl,H.cs b {x with ph:=3} 2 rfl rfl (λ_=>rfl) (λa h=>⟨h.ls,h.fs,λc=>(by cases c)⟩) λl H=>⟨rfl,rfl,?_⟩⟩;refine H.cs (fb b) {x with ph:=3,fr:=(iH x.ls x.vm (x.c.2.1 / 16) (aV x.c.1)).1} 9 rfl rfl (λ_=>rfl) (λa h=>⟨h.ls,h.fs,λc=>(by cases c)⟩) λN H=>H.en λr H=>?_;rw[kY] at H;exact k r H
 ·have c:(iH x.ls x.vm (x.c.2.1 / 16) (aV x.c.1)).2≠0:=by simpa using c
  rw[ao c] at k;have O:af AA 21 [ag (ae X.hb),aa x.vm] d (aa (aT s.h.g x.vm)):=by
   obtain⟨A,G',L0,S,P,U, _⟩:=H.sat;exact Jf S P U x.vm
  refine⟨rfl,rfl,H.f0 ⟨rfl,rfl,H.cf b (n:=3) (λ_=>rfl) ⟨_,O, _,p, _,q,?_⟩⟩⟩;obtain⟨a,e,o,V,hb,W,f,J⟩:=H.C5 b;refine λl t=>IY (f.ext t).base.again _ _ _ (λhb=>by rw[E] at hb;cases hb) (λ_ bk N j=>?_) l (Ext.refl l);have Y:=(f.ext t).join j;rw[<-V];refine⟨rfl,rfl,Wq (n:=2) (Y.perm (L':=(a.cb,jW a i x)::(a.tb,di a.st s.sz)::(a.Lt++(a.Lf++(a.Lw++((bk,lT (aT s.h.g x.vm) (x.c.2.1 / 16) (aV x.c.1) 3 (0,0,0,0,()) (none,0,0))::(T++e)))))) (cg λy=>by simp only[sP,Al,Av];omega)) 0 rfl rfl rfl λr Z=>⟨rfl,rfl,Wq (n:=8) Z 0 rfl rfl rfl λw6 K5=>enM K5 λw7 K6=>k w7 ?_⟩⟩;have K7:=(K6.perm (L':=a.Lw++((a.cb,((jW a i x).set 2 (aa 2)).set 8 (ag (ae bk)))::(a.tb,di a.st s.sz)::(a.Lt++(a.Lf++((bk,lT (aT s.h.g x.vm) (x.c.2.1 / 16) (aV x.c.1) 3 (0,0,0,0,()) (none,0,0))::(T++e)))))) (cg λy=>by simp only[FY,Al,Av];omega)).sub (FN _ _);refine J (a':={a with wp:=some ⟨bk,0,none⟩,Lw:=[(bk,lT (aT s.h.g x.vm) (x.c.2.1 / 16) (aV x.c.1) 3 (0,0,0,0,()) (none,0,0))]}) (x':={x with ph:=2,wk:=fZ s.h.s.1 (aT s.h.g x.vm) (x.c.2.1 / 16) (aV x.c.1) 0}) rfl rfl ⟨W.ls,W.fs,λ_=>⟨bk,(none,0,0),[],[],rfl,rfl,.inl ⟨rfl,rfl,rfl⟩,by show((0:Nat):Int)<=3 - 3;decide⟩⟩ (K7.perm (cg λy=>?_));show B9 y ((a.cb,((jW a i x).set 2 (aa 2)).set 8 (ag (ae bk)))::(a.tb,di a.st s.sz)::(a.Lt++(a.Lf++[(bk,lT (aT s.h.g x.vm) (x.c.2.1 / 16) (aV x.c.1) 3 (0,0,0,0,()) (none,0,0))]))++(T++e))= _;simp only[Al,Av,Fg];omega
end
theorem _root_.Go.Proofs.YtlcenllcmeebhaaGreat.iz.perm {es:List Dl} {ck:Nat} {a b:List KV} (h:iz es ck a) (c:b.Perm a):iz es ck b:=by
 obtain⟨⟨p,h1,d⟩,e,f,g⟩:=h;exact⟨⟨p,h1.trans c.symm,d⟩,e,f,(c.map _).nodup_iff.2 g⟩
def s_ (kn:List Int) (ds:List DT) (n:Nat):List Int:=((Ak n).map λ(f:Nat)=>(f:Int)).filter λf=>(qt ds f).1==5&& !kn.contains f
theorem M9 (kn:List Int) (ds:List DT) (n:Nat):s_ kn ds (n+1)=s_ kn ds n++(if((qt ds (n:Int)).1==5&& !kn.contains (n:Int))=true then[(n:Int)] else[]):=by
 unfold s_;rw[IR,GH,List.filter_append];congr 1;show List.filter _ [(n:Int)]= _;rw[List.filter_cons,List.filter_nil]
theorem V5 {kn:List Int} {ds:List DT} {n:Nat} {f:Int} (h:f∈s_ kn ds n):0<=f/\f<(n:Int):=by
 obtain⟨m,a,rfl⟩:=B6.1 (JM.1 h).1;have:=Bx.1 a;omega
theorem SS (kn:List Int) (ds:List DT) (n:Nat):(s_ kn ds n).length<=n:=by
 refine Ij (Hr _ _) ?_;rw[DA,Ds];exact E5 _
section
variable {Q:Sys} {X:HX} {D G:List Nat} {w0 w w1:A2} {B:MB} {R:MR} {s:MS} {T L:List (Nat×List AC)} {M:List (Nat×B3)} {i:Nat} {x:bU} {g:Option Bool}
theorem MU.tmp (H:MU Q X D G w0 w R s T L M): ∃a b,cC D G w0 w (T++a) b/\ ∀{T' w'},cC D G w0 w' (T'++a) b->MU Q X D G w0 w' R s T' L M:=by
 obtain⟨B,e,H⟩:=H;obtain⟨a,b,K, _, _, _,J⟩:=H.tmp;exact⟨a,b,K,λK=>⟨B,e,J K⟩⟩
theorem MU.look (H:MU Q X D G w0 w R s T L M) (f:Int):jX w (some R.kb) .i64 f (.bool false) (.bool (s.kn.contains f)):=by
 obtain⟨B,rfl,H⟩:=H;obtain⟨j,l,a,J⟩:=H.kns;by_cases c:f∈s.kn
 ·obtain⟨i,b, _⟩:=H.wf.k.Fw (B6.2 ⟨f,c,rfl⟩);exact vj (a.get (i:=0) rfl) b (by rw[Fp.2 c])
 ·refine BC (a.get (i:=0) rfl) (H.wf.k.N3 λt d e=>?_) (by rw[Gd.2 λh=>c (Fp.1 h)]);obtain⟨y,g,rfl⟩:=B6.1 d;exact c (by rw[<-e];exact g)
theorem MU.ins (H:MU Q X D G w0 w R s T L M) {f:Int} (c:f∉s.kn) {K:A2->Prop} (k: ∀a,MU Q X D G w0 a R {s with kn:=s.kn++[f]} T L M->K a):
 ∃(r:Nat) (es:Array Dl) (b:Nat),some R.kb=some r/\bG w r es b/\gU w r .i64 f (.bool true) es b K:=by
 obtain⟨B,rfl,H⟩:=H;obtain⟨n,o,d,J⟩:=H.kns;have g: ∀t∈s.kn.map (λf=>((f,.bool true):KV)),t.1≠f:=λt h e=>by
  obtain⟨y,j,rfl⟩:=B6.1 h;exact c (by rw[<-e];exact j)
 refine⟨B.kb,⟨B.ke⟩,B.kk,rfl,d.get (i:=0) rfl,xA (H.wf.k.N3 g) ?_⟩;have l:=d.put (i:=0) rfl (o':= .map ⟨B.ke++[{key:=aa f,val:= .bool true,born:=B.kk}]⟩ (B.kk+1)) trivial;have m:(Array.mk B.ke).push {key:=aa f,val:= .bool true,born:=B.kk}=⟨B.ke++[{key:=aa f,val:= .bool true,born:=B.kk}]⟩:=by apply Array.ext';simp
 rw[m];refine k _ ⟨{B with ke:=B.ke++[{key:=aa f,val:= .bool true,born:=B.kk}],kk:=B.kk+1},rfl,J (kn:=s.kn++[f]) ((H.wf.k.push _ g).perm ?_) l⟩;rw[GH];exact List.perm_append_singleton _ _
theorem Fc (H:MU Q X D G w0 w R s T L M) (x:s.h.s.2.length<=4096) {K:Option AN×Nat×Nat->A2->Prop}
 (k: ∀r d l,du eI r (s_ s.kn s.h.s.2 s.h.s.2.length) d->MU Q X D G w0 l R {s with kn:=s.kn++s_ s.kn s.h.s.2 s.h.s.2.length} (d++T) L M->K r l):
 aA AA 156 (.el (.one .slice)) [ag (ae R.mb)] w K:=by
 refine H.go λw1 H=>ai (C:=U2) (aS:=oq) (B2 (Fa _ w1 K) ⟨rfl,rfl,H.f0 ?_⟩);obtain⟨A,G',L0,S,z, _,J⟩:=H.sat;refine zH S z λe a g i l S=>?_;have H:MU Q X D G w0 l R s ((e,[.slice (ae a) s.h.s.2.length g])::(a,flat eD s.h.s.2++i)::T) L M:=J (T':=[_, _]) S;clear J S z;generalize O:s.h.s.2.length=N at*
 have P: ∀{B:A2} {U:MS} {V:List (Nat×List AC)},MU Q X D G w0 B R U ((e,[.slice (ae a) N g])::(a,flat eD s.h.s.2++i)::V) L M-> ∀f:Int,af AA 25 [ag (ae e),aa f] B ((Sh.bA [eD,.one .bool]).gZ (qt s.h.s.2 f,BP s.h.s.2 f,())):=λH f=>by
  obtain⟨L0,p,q⟩:=H.base;subst O;exact af.of λw' h'=>O5 ((p.dm _ (q _ B4)).ext h') ((p.dm _ (q _ (Ay _ B4))).ext h') f
 have W:af AA 62 [ag (ae e)] l (aa (N:Int)):=by
  obtain⟨L0,p,q⟩:=H.base;exact af.of (s:= .el (.one (.int .i64))) λw' h'=>rQ ((p.dm _ (q _ B4)).ext h')
 refine⟨_,W,?_⟩;refine⟨λn st t=> ∃(j:Nat) (d:List (Nat×List AC)),j<=N/\n=N - j/\st.2.1=(j:Int)/\du eI st.1 (s_ s.kn s.h.s.2 j) d/\MU Q X D G w0 t R {s with kn:=s.kn++s_ s.kn s.h.s.2 j} ((e,[.slice (ae a) N g])::(a,flat eD s.h.s.2++i)::(d++T)) L M,⟨N,λt x=>⟨0,[],E4 _,rfl,rfl,du.nil eI,by
  have:s_ s.kn s.h.s.2 0=[]:=rfl;rw[this,Df];exact H.ext x⟩⟩,?_⟩
 clear H;rintro n ⟨r,Y, _⟩ t ⟨j,d,Z,qs,hi,m,H⟩;have hi:Y=(j:Int):=hi;have m:du eI r (s_ s.kn s.h.s.2 j) d:=m;subst hi qs;dsimp only;refine ab (λc=>?_) (λc=>?_)
 ·have Z:j<N:=by have:=of_decide_eq_true c;omega
  have Az:=SS s.kn s.h.s.2 j;have hc:(s.kn++s_ s.kn s.h.s.2 j).contains (j:Int)=s.kn.contains (j:Int):=by
   rw[Bool.eq_iff_iff,Fp,Fp,List.mem_append];refine⟨λh=>h.resolve_right λh=>?_,.inl⟩;have:=V5 h;omega
  refine⟨_,P H (j:Int),H.al λb E H=>H.st 0 rfl rfl rfl λw6 H=>⟨rfl,H.cH 0 rfl (show _=some (qt s.h.s.2 (j:Int)).1 from rfl) ⟨λ_=>rfl,λ_=>rfl,H.f4 ⟨s.kn.contains (j:Int),λ_=>?_,?_⟩⟩⟩⟩
  ·have:=H.look (j:Int);rw[show(s.kn++s_ s.kn s.h.s.2 j).contains (j:Int)=s.kn.contains (j:Int) from hc] at this;exact this
  ·have H:MU Q X D G w0 w6 R {s with kn:=s.kn++s_ s.kn s.h.s.2 j} ((e,[.slice (ae a) N g])::(a,flat eD s.h.s.2++i)::(d++T)) L M:=H.sub (C8 _ _);have o:=M9 s.kn s.h.s.2 j;refine ab (λc=>⟨rfl,rfl,H.f4 λw7 u=>?_⟩) (λc w7 u=>⟨N - (j+1),by omega,j+1,d,by omega,rfl,?_,?_,?_⟩)
   ·rw[av c] at o;have Xd:s.kn.contains (j:Int)=false:=by
     simp only[DE,Bool.not_eq_true'] at c;exact c.2
    refine(H.ext u).ins (f:=(j:Int)) (λh=>?_) λw8 H=>H.al λv w9 H nh Fk=>?_
    ·rw[<-Fp,hc,Xd] at h;cases h
    ·have H:=H.ext Fk;obtain⟨R',Mo,F,J⟩:=H.tmp;have hb:bN nh v (cellsOf eI (j:Int)):=F.base.dm _ B4;have K2:=F.perm (L':=d++((v,[aa (j:Int)])::(e,[.slice (ae a) N g])::(a,flat eD s.h.s.2++i)::(T++R'))) (cg λy=>by simp only[Al,Av];omega);refine Fq K2 m rfl (ys:=[(j:Int)]) rfl (rP hb) rfl rfl (by rw[IA];omega) λs' I oF fh K3 Fj Tr=>⟨N - (j+1),by omega,j+1,I,by omega,rfl,?_,?_,?_⟩
     ·rw[ax (by omega) (by omega)];omega
     ·rw[o];exact fh
     ·have H2:=J (T':=(v,[aa (j:Int)])::(e,[.slice (ae a) N g])::(a,flat eD s.h.s.2++i)::(I++T)) (K3.perm (cg λy=>by simp only[Al,Av];omega));rw[o, <-JY];exact MU.ext (H2.sub (C8 _ _)) Tr
   ·rw[ax (by omega) (by omega)];omega
   ·rw[o,ao (by rw[c];decide),Df];exact m
   ·rw[o,ao (by rw[c];decide),Df];exact H.ext u
 ·have:j=N:=by have:=of_decide_eq_false c;omega
  subst this;exact H.en λE H=>k r d E m (H.sub ((List.Sublist.refl _).cons _ |>.cons _))
end
structure Bn (s:MS):Prop where
 c8:s.cs.length<=8
 pn:s.ep.pins.length=s.cs.length
 bn:s.bx.length=s.cs.length
 now:0<=s.ep.now/\s.ep.now<4611686018427387000
 ws:s.ep.ws.length<=1000000
 wn: ∀e∈s.ep.ws,0<=e.2/\e.2<=s.ep.now
 ms:s.ms.length<=900000000
 op:s.op.length<=900000000
 bl: ∀q∈s.bx,q.length<=16
 sz:0<s.sz/\s.sz<=64
 ls: ∀y∈s.cs,(y.ls.length:Int)<=s.sz
 vm: ∀y∈s.cs,y.vm<9223372036854775808
 cu: ∀y∈s.cs,cI y.c.2.1/\cI y.c.2.2.1/\cI y.c.2.2.2.1
section
variable {Q:Sys} {X:HX} {D G:List Nat} {w0 w w1:A2} {B:MB} {R:MR} {s:MS} {T L:List (Nat×List AC)} {M:List (Nat×B3)} {i:Nat} {x:bU} {g:Option Bool}
theorem MU.sys (H:MU Q X D G w0 w R s T L M):yB s.h.s:=by
 obtain⟨B,e,A,ca,la,h1,a,b⟩:=H;exact a
theorem ZN (H:MU Q X D G w0 w R s T L M) (g:Ca Q s.h) (v k:Int) {a b c:Int} (i:cI a) (hb:cI b) (hc:cI c) {K:Int×Int×Unit->A2->Prop}
 (kk: ∀d,MU Q X D G w0 d R {s with h:=jB s.h v k a b c} T L M->K (wP s.h v k a b c,qH s.h v k a b c,()) d):
 aA AA 42 (.el (.agg iN)) [ag (ae X.hb),aa v,.agg ⟨gg k a b c⟩] w K:=λw1 h1=>by
 obtain⟨B,e,H⟩:=H.ext h1;obtain⟨j,L',f,J⟩:=H.hv;exact ZC f g v k i hb hc λd f=>kk d ⟨B,e,J f⟩
theorem SU (H:MU Q X D G w0 w R s T L M) (hc:i<s.bx.length) (v:s.bx.length<=8) (x:s.op.length<=900000000) (c: ∀q∈s.bx,q.length<=16) (t p:Int) {K:Int×Int×Unit->A2->Prop}
 (k: ∀e a,MU Q X D G w0 a R {s with bx:=(dG s.bx s.op i t p).2.1,op:=(dG s.bx s.op i t p).2.2} T L M->K ((dG s.bx s.op i t p).1,e,()) a):
 aA AA 157 (.bA [.one (.int .i64),.one (.int .i64)]) [ag (ae R.xb),aa (i:Int),aa t,aa p] w K:=by
 obtain⟨B,rfl,H⟩:=H;obtain⟨y,z,d,J⟩:=H.bxs;have W:=H.wf;have f:=W.l;refine RV d W.b W.o W.l i (by omega) (by omega) (by omega) c t p λe g h j a m n r u=>k e a ⟨{B with so:=h,Lo:=j,cr:=g},rfl,J (op:=(dG s.bx s.op i t p).2.2) (bx:=(dG s.bx s.op i t p).2.1) r ?_ n u⟩;rw[m,f];unfold dG;split
 ·rfl
 ·split
  ·rfl
  ·simp
theorem ZO {b:List (Nat×List AC)} (H:MU Q X D G w0 w R s (b++T) L M) (d:s.cs[i]? =some x) {r:Option AN×Nat×Nat} {l:List Int} (e:du eI r l b) {K:A2->Prop}
 (k: ∀w1,MU Q X D G w0 w1 R (a_ s i {x with fs:=l}) T L M->K w1):az w (ad (some ⟨R.cb i,0,none⟩) 13) [.slice r.1 r.2.1 r.2.2] K:=by
 obtain⟨a,c,o,f,hb,W,g,J⟩:=H.C5 d;rw[<-f];refine Wq (n:=13) (g.perm (L':=(a.cb,jW a i x)::(a.tb,di a.st s.sz)::(a.Lt++(a.Lw++(a.Lf++(b++(T++c)))))) (cg λy=>by simp only[sP,Al,Av];omega)) 0 rfl rfl rfl λh j=>k h ?_;have m:=(j.perm (L':=a.Lf++((a.cb,(jW a i x).set 13 (.slice r.1 r.2.1 r.2.2))::(a.tb,di a.st s.sz)::(a.Lt++(a.Lw++(b++(T++c)))))) (cg λy=>by simp only[FY,Al,Av];omega)).sub (FN _ _);refine J (a':={a with sf:=r,Lf:=b}) (x':={x with fs:=l}) rfl rfl ⟨W.ls,e,W.wk⟩ (m.perm (cg λy=>?_));show B9 y ((a.cb,(jW a i x).set 13 (.slice r.1 r.2.1 r.2.2))::(a.tb,di a.st s.sz)::(a.Lt++(b++a.Lw))++(T++c))= _;simp only[Al,Av];omega
theorem SV {b:Nat} {l:List AC} (H:MU Q X D G w0 w R s ((b,l)::T) L M) (j:l.length=2) (A:s.cs.length<=8) (B:s.bx.length=s.cs.length) (m:s.op.length<=900000000) (o: ∀q∈s.bx,q.length<=16) (r:0<s.sz) (u:(x.ls.length:Int)<=64) (f:s.cs[i]? =some x) (t p:Int) {K:BR->A2->Prop}
 (k: ∀d,MU Q X D G w0 d R (a_ {s with bx:=(dG s.bx s.op i t p).2.1,op:=(dG s.bx s.op i t p).2.2} i {x with ls:=js x.ls t p,ak:=(dG s.bx s.op i t p).1,ph:=4}) T L M->K ((0,0,()),false,()) d):
 aA AA 67 (.bA []) [ag (some ⟨R.cb i,0,none⟩),aa t,aa p] w λ_ d=>
  (some ⟨R.mb,0,none⟩:Option AN).isSome=true/\(some ⟨R.mb,0,none⟩:Option AN).isSome=true/\aj d none (ad (ae R.mb) 2) (.one .ptr) λ(x1:Option AN)=>
  (some ⟨R.cb i,0,none⟩:Option AN).isSome=true/\(some ⟨R.cb i,0,none⟩:Option AN).isSome=true/\aj d none (ad (some ⟨R.cb i,0,none⟩) 0) (.one (.int .i64)) λ(v:Int)=>
  aA AA 157 (.bA [.one (.int .i64),.one (.int .i64)]) [ag x1,aa v,aa t,aa p] d λ(y:Int×Int×Unit) d=>
  (some ⟨R.cb i,0,none⟩:Option AN).isSome=true/\(some ⟨R.cb i,0,none⟩:Option AN).isSome=true/\az d (ad (some ⟨R.cb i,0,none⟩) 12) [aa y.1] λd=>
  (some ⟨R.cb i,0,none⟩:Option AN).isSome=true/\(some ⟨R.cb i,0,none⟩:Option AN).isSome=true/\az d (ad (some ⟨R.cb i,0,none⟩) 2) [aa 4] λd=>
  az d (ae b) [ay 0,aa 0] λd=>au d λw1=>aj w1 none (ae b) (El.agg [.int .u64,.int .i64]) λ(x:Int×Int×Unit)=>K ((x.1,x.2.1,()),false,()) w1:=by
 have C:=(B1.1 f).1;refine zO H f u r t p λd H=>⟨rfl,rfl,H.f2 ⟨rfl,rfl,H.cf (fb f) (n:=0) (λ_=>rfl) ?_⟩⟩;refine SU H (show i<s.bx.length by omega) (show s.bx.length<=8 by omega) m o t p λe z H=>⟨rfl,rfl,?_⟩;have g:(a_ {s with bx:=(dG s.bx s.op i t p).2.1,op:=(dG s.bx s.op i t p).2.2} i {x with ls:=js x.ls t p}).cs[i]? =some {x with ls:=js x.ls t p}:=fb (s:={s with bx:=(dG s.bx s.op i t p).2.1,op:=(dG s.bx s.op i t p).2.2}) f;have H:MU Q X D G w0 z R (a_ {s with bx:=(dG s.bx s.op i t p).2.1,op:=(dG s.bx s.op i t p).2.2} i {x with ls:=js x.ls t p}) ((b,l)::T) L M:=H;refine H.cs g {x with ls:=js x.ls t p,ak:=(dG s.bx s.op i t p).1} 12 rfl rfl (λ_=>rfl) (λa h=>⟨h.ls,h.fs,h.wk⟩) λE H=>⟨rfl,rfl,?_⟩;refine H.cs (fb g) {x with ls:=js x.ls t p,ak:=(dG s.bx s.op i t p).1,ph:=4} 2 rfl rfl (λ_=>rfl) (λa h=>⟨h.ls,h.fs,λc=>(by cases c)⟩) λF H=>?_;rw[kY,kY] at H;exact H.res j 0 0 false k
end
section
variable {Q:Sys} {X:HX} {D G:List Nat} {w0 w w1:A2} {B:MB} {R:MR} {s:MS} {T L:List (Nat×List AC)} {M:List (Nat×B3)} {i:Nat} {x:bU} {g:Option Bool}
theorem M_ (H:MU Q X D G w0 w R s T L M) (Bd:Bn s) (j:s.cs[i]? =some x) (W:Ca Q s.h) (Y:jt s.h x=true->rB (aT s.h.g x.vm) (x.c.2.1 / 16) (aV x.c.1)=false) {K:BR->A2->Prop}
 (k: ∀d,MU Q X D G w0 d R (dp s i x).1 T L M->K (((dp s i x).2.1.1,(dp s i x).2.1.2,()),(dp s i x).2.2,()) d):
 aA AA 110 NP [ag (ae R.mb),ag (some ⟨R.cb i,0,none⟩)] w K:=by
 have F:=DB j;have iR:=(B1.1 j).1;have NA:=Bd.ls x F;have I:=Bd.sz;have u:=Bd.cu x F;have J:=Bd.c8;have Fh:=Bd.pn;refine H.go λw1 H=>aQ (C:=U2) (aS:=λ_=>[]) (B2 (My _ _ w1 K) (H.al λb d H=>⟨jt s.h x,M7 H j,?_⟩));by_cases m:jt s.h x=true
 ·have Z:(dp s i x).2=((0,0),false):=by
   unfold dp;rw[av m];dsimp only;split<;>rfl
  rw[Z] at k;exact aB m (SQ H j Bd.now.1 (by omega) (by omega) I.1 u.1 (Y m) m λN H=>H.res rfl 0 0 false k)
 refine an (Gd.2 m) ⟨qD s i x,HU H j J Bd.vm,?_⟩;by_cases o:qD s i x=true
 ·have e:dp s i x=(s,(0,9),true):=by unfold dp;rw[ao m,av o]
  rw[e] at k;exact aB o (H.res rfl 0 9 true k)
 refine an (Gd.2 o) ⟨rfl,rfl,H.cf j (n:=3) (λ_=>rfl) ⟨λ_=>rfl,λ_=>rfl,H.cf j (n:=4) (y:=x.c) (λ_=>rfl) ?_⟩⟩;have O:(x.vm==0&&(x.c.1==17&&(x.c.2.1==0&&(x.c.2.2.1==0&&(x.c.2.2.2.1==0&&true)))))=true<->(x.vm=0/\x.c=(17,0,0,0,())):=by
  obtain⟨k1,a1,b1,c1,⟨⟩⟩:=x.c;simp only[DE,beq_iff_eq,Prod.mk.injEq,and_true]
 by_cases v:x.vm=0/\x.c=(17,0,0,0,())
 ·have e:dp s i x=((dM s).1,((((dM s).2:Nat):Int),0),true):=by unfold dp;rw[ao m,ao o,av v]
  rw[e] at k;refine aB (O.2 v) (EP H (by omega) Bd.now Bd.ws Bd.wn Bd.ms λN H=>?_);have hlen:(dM s).2<=s.ep.ws.length:=by
   unfold dM oC;rw[jP,DA];refine Ij (Hr _ _) ?_;rw[u5];exact E5 _
  have Ab:=Bd.ws;rw[cY (by omega)];exact H.res rfl _ 0 true k
 refine an (Gd.2 λc=>v (O.1 c)) ?_;have e:dp s i x=iI s i x:=by unfold dp;rw[ao m,ao o,ao v]
 rw[e] at k;refine⟨rfl,rfl,H.f0 ⟨rfl,rfl,H.cf j (n:=3) (λ_=>rfl) ⟨rfl,rfl,H.cf j (n:=4) (y:=x.c) (λ_=>rfl) (ZN H W x.vm x.c.1 u.1 u.2.1 u.2.2 λN H=>⟨rfl,rfl,?_⟩)⟩⟩⟩;unfold iI at k;generalize hh':jB s.h x.vm x.c.1 x.c.2.1 x.c.2.2.1 x.c.2.2.2.1=h' at*
 generalize hV:wP s.h x.vm x.c.1 x.c.2.1 x.c.2.2.1 x.c.2.2.2.1=V at*
 generalize f:qH s.h x.vm x.c.1 x.c.2.1 x.c.2.2.1 x.c.2.2.2.1=E at*
 dsimp only at k ⊢;have S:({s with h:=h'}:MS).cs[i]? =some x:=j;refine H.cs S {x with rs:=(V,E)} 10 rfl rfl (λ_=>rfl) (λa h=>⟨h.ls,h.fs,h.wk⟩) λw4 H=>?_;have z:=fb (y:={x with rs:=(V,E)}) S;refine⟨rfl,rfl,H.cf z (n:=3) (λ_=>rfl) ⟨rfl,rfl,H.cf z (n:=4) (y:=x.c) (λ_=>rfl) ⟨rfl,rfl,H.cf z (n:=10) (y:=(V,E,())) (λ_=>rfl) ?_⟩⟩⟩;have hms:=Bd.ms;refine tO H (show s.ms.length<= _ by omega) (1,x.vm,0,x.c,V,E) λw5 H=>Fc H H.sys.2.2.1 λr Lr w6 hs H=>⟨rfl,rfl,?_⟩;have zY:({ {a_ {s with h:=h'} i {x with rs:=(V,E)} with ms:=s.ms++[(1,x.vm,0,x.c,V,E)]} with kn:=s.kn++eh s h'}:MS).cs[i]? =some {x with rs:=(V,E)}:=z;refine ZO (x:={x with rs:=(V,E)}) H zY hs λA H=>?_;have H:MU Q X D G w0 A R (a_ {s with h:=h',kn:=s.kn++eh s h',ms:=s.ms++[(1,x.vm,0,x.c,V,E)]} i {x with rs:=(V,E),fs:=eh s h'}) ((b,[ay 0,aa 0])::T) L M:=by
  have H:=H;unfold a_ at H;simp only[CX] at H;exact H
 have l:=fb (s:={s with h:=h',kn:=s.kn++eh s h',ms:=s.ms++[(1,x.vm,0,x.c,V,E)]}) (y:={x with rs:=(V,E),fs:=eh s h'}) j;have kE:(x.c.1=2\/x.c.1=4\/x.c.1=5\/x.c.1=10->E≠0)-> ∀d,MU Q X D G w0 d R (a_ {s with h:=h',kn:=s.kn++eh s h',ms:=s.ms++[(1,x.vm,0,x.c,V,E)]} i {x with rs:=(V,E),fs:=eh s h'}) T L M->K ((V,E,()),true,()) d:=λf d H=>by
  have:=k d;by_cases c:x.c.1=2\/x.c.1=4\/x.c.1=5\/x.c.1=10
  ·rw[av c,av (f c)] at this;exact this H
  ·rw[ao c] at this;exact this H
 have kP:x.c.1=2\/x.c.1=4\/x.c.1=5\/x.c.1=10->E=0-> ∀t p:Int,(if x.c.1=2 then aG .i64 x.c.2.1 else x.vm)=t->(if x.c.1=2 then -1 else aG .i64 x.c.2.1)=p-> ∀d,MU Q X D G w0 d R (a_ {s with h:=h',kn:=s.kn++eh s h',ms:=s.ms++[(1,x.vm,0,x.c,V,E)],bx:=(dG s.bx s.op i t p).2.1,op:=(dG s.bx s.op i t p).2.2} i {x with rs:=(V,E),fs:=eh s h',ls:=js x.ls t p,ak:=(dG s.bx s.op i t p).1,ph:=4}) T L M->K ((0,0,()),false,()) d:=λc f t p B q d H=>by
  have:=k d;rw[av c,ao (by omega),B,q] at this;exact this H
 have tl:=λ(c:x.c.1=2\/x.c.1=4\/x.c.1=5\/x.c.1=10) (f:E=0) (t p:Int) (B:(if x.c.1=2 then aG .i64 x.c.2.1 else x.vm)=t) (q:(if x.c.1=2 then -1 else aG .i64 x.c.2.1)=p)=>SV (i:=i) (K:=K) (x:={x with rs:=(V,E),fs:=eh s h'}) H rfl (show(s.cs.set i _).length<=8 by rw[DK];exact J) (show s.bx.length=(s.cs.set i _).length by rw[DK];exact Bd.bn) Bd.op Bd.bl I.1 (show(x.ls.length:Int)<=64 by omega) l t p λU H=>kP c f t p B q U (by
  have H:MU Q X D G w0 U R (a_ (a_ {s with h:=h',kn:=s.kn++eh s h',ms:=s.ms++[(1,x.vm,0,x.c,V,E)],bx:=(dG s.bx s.op i t p).2.1,op:=(dG s.bx s.op i t p).2.2} i {x with rs:=(V,E),fs:=eh s h'}) i {x with rs:=(V,E),fs:=eh s h',ls:=js x.ls t p,ak:=(dG s.bx s.op i t p).1,ph:=4}) T L M:=H;rw[kY] at H;exact H)
 refine⟨rfl,rfl,H.cf l (n:=3) (λ_=>rfl) ⟨rfl,rfl,rfl,H.cf l (n:=5) (λ_=>rfl) ⟨rfl,rfl,rfl,H.cf l (n:=4) (λ_=>rfl) ?_⟩⟩⟩;have br: ∀{P:Prop},(E=0->P)->aH (E != 0) ((some ⟨R.cb i,0,none⟩:Option AN).isSome=true/\(some ⟨R.cb i,0,none⟩:Option AN).isSome=true/\aj A none (ad (some ⟨R.cb i,0,none⟩) 10) (El.agg [.int .u64,.int .i64]) λ(x:Int×Int×Unit)=>az A (ae b) [ay x.1,aa x.2.1] λd=>au d λw1=>aj w1 none (ae b) (El.agg [.int .u64,.int .i64]) λ(x:Int×Int×Unit)=>K ((x.1,x.2.1,()),true,()) w1) P:=λq=>by
  refine ab (λc=>⟨rfl,rfl,H.cf l (n:=10) (y:=(V,E,())) (λ_=>rfl) (H.res rfl _ _ true (kE λ_=>by simpa using c))⟩) (λc=>q (by simpa using c))
 by_cases c2:x.c.1=2
 ·refine aB (by rw[c2];rfl) ⟨rfl,rfl,rfl,H.cf l (n:=5) (λ_=>rfl) ⟨rfl,rfl,rfl,H.cf l (n:=11) (λ_=>rfl) (br λf=>?_)⟩⟩;exact tl (.inl c2) f _ _ (av c2) (av c2)
 refine an (beq_eq_false_iff_ne.2 c2) ?_;by_cases c4:x.c.1=4
 ·refine aB (by rw[c4];rfl) (aB (by rw[c4];rfl) ⟨rfl,rfl,rfl,H.cf l (n:=11) (λ_=>rfl) (br λf=>?_)⟩);exact tl (.inr (.inl c4)) f _ _ (ao c2) (ao c2)
 refine an (beq_eq_false_iff_ne.2 c4) ?_;by_cases c5:x.c.1=5
 ·refine aB (by rw[c5];rfl) (aB (by rw[c5];rfl) ⟨rfl,rfl,rfl,H.cf l (n:=11) (λ_=>rfl) (br λf=>?_)⟩);exact tl (.inr (.inr (.inl c5))) f _ _ (ao c2) (ao c2)
 refine an (beq_eq_false_iff_ne.2 c5) ?_;by_cases XV:x.c.1=10
 ·refine aB (by rw[XV];rfl) ⟨rfl,rfl,rfl,H.cf l (n:=11) (λ_=>rfl) (br λf=>?_)⟩;exact tl (.inr (.inr (.inr XV))) f _ _ (ao c2) (ao c2)
 refine an (beq_eq_false_iff_ne.2 XV) ⟨rfl,rfl,H.cf l (n:=10) (y:=(V,E,())) (λ_=>rfl) (H.res rfl _ _ true (kE λc=>?_))⟩;rcases c with c|c|c|c
 ·exact absurd c c2
 ·exact absurd c c4
 ·exact absurd c c5
 ·exact absurd c XV
end
def IC (l:List AC) (n:Int):AC:=match l.get?Internal n.toNat with
 |some x=>x
 |none=>Value.tuple ⟨[]⟩
abbrev sFs:El:= .agg [.func,.func,.func,.func,.func]
def Ke (x:Option AN) (n:Int) (b c:Nat) (Post:BR->A2->Prop) (r:BR) (a:A2):Prop:=
 az a (ae c) [ay r.1.1,aa r.1.2.1] λa=>
  aH (!r.2.1)
   (az a (ae b) [ay 0,aa 0] λa=>au a λw1=>aj w1 none (ae b) (.agg iN) λ(y:Int×Int×Unit)=>Post ((y.1,y.2.1,()),false,()) w1)
   (x.isSome=true/\x.isSome=true/\aj a none (ad x 1) (.one .ptr) λ(t:Option AN)=>x.isSome=true/\
    az a x [aa n,ag t,aa 0,aa 0,aa 0,ay 0,ay 0,ay 0,ag none,aa 0,ay 0,aa 0,aa 0,.slice none 0 0] λa=>
    aj a none (ae c) (.agg iN) λ(y:Int×Int×Unit)=>az a (ae b) [ay y.1,aa y.2.1] λa=>au a λw1=>aj w1 none (ae b) (.agg iN) λ(y:Int×Int×Unit)=>Post ((y.1,y.2.1,()),true,()) w1)
def abH (p x:Option AN) (n:Int) (b:Nat) (Post:BR->A2->Prop) (a:A2):Prop:=
 x.isSome=true/\x.isSome=true/\aj a none (ad x 2) (.one (.int .i64)) λ(ph:Int)=>
  (aA AA 68 (.el sFs) [ag p] a λ(f:AC×AC×AC×AC×AC×Unit) a=>cQ a (ad x 2) (.one (.int .i64)) ph/\True/\True/\(0<=ph/\ph<((5:Nat):Int))/\
   (zW AA (IC [f.1,f.2.1,f.2.2.1,f.2.2.2.1,f.2.2.2.2.1] ph) NP [ag x] a λ(r:BR) a=>aM a ⟨[ay 0,aa 0]⟩ 61 λc a=>Ke x n b c Post r a)/\
   aM a ⟨[ay 0,aa 0]⟩ 61 λc a=>zW AA (IC [f.1,f.2.1,f.2.2.1,f.2.2.2.1,f.2.2.2.2.1] ph) NP [ag x] a λ(r:BR) a=>Ke x n b c Post r a)/\
  aM a ⟨[ay 0,aa 0]⟩ 61 λc a=>aA AA 68 (.el sFs) [ag p] a λ(f:AC×AC×AC×AC×AC×Unit) a=>cQ a (ad x 2) (.one (.int .i64)) ph/\True/\True/\(0<=ph/\ph<((5:Nat):Int))/\
   zW AA (IC [f.1,f.2.1,f.2.2.1,f.2.2.2.1,f.2.2.2.2.1] ph) NP [ag x] a λ(r:BR) a=>Ke x n b c Post r a
theorem DM {a:Nat} {sh:Sh} {first args:List AC} {w:A2} {K:sh.T->A2->Prop} (hc:bK AA a=true) (b:aA AA a sh (first++args) w K):zW AA (.func (.func a) ⟨first⟩ #[]) sh args w K:=by
 unfold zW;refine λw1 h1=>⟨a,⟨first⟩, #[],rfl,hc,?_⟩;have e:cX ⟨first⟩ args #[]=first++args:=by unfold cX;simp
 rw[e];exact b w1 h1
abbrev FD (mb f:Nat):AC:= .func (.func f) ⟨[ag (ae mb)]⟩ #[]
structure Sx (s:MS) (i:Nat) (x:bU):Prop where
 ph:0<=x.ph/\x.ph<=4
 wk:x.ph=2->0<=x.wk.2.1/\x.wk.2.1<=3
 ln:x.ph=2->(bz s.h.s.1 (x.c.2.1 / 16) (aV x.c.1) x.wk).2.1= -1->(bz s.h.s.1 (x.c.2.1 / 16) (aV x.c.1) x.wk).2.2.2.2.2.1=0->Z7 (x.vm,x.c.2.1 / 16,(bz s.h.s.1 (x.c.2.1 / 16) (aV x.c.1) x.wk).2.2.1,(bz s.h.s.1 (x.c.2.1 / 16) (aV x.c.1) x.wk).2.2.2.1,())=true
 fr:x.ph=3->0<=x.fr/\x.fr<4096
 ak:x.ph=4->x.ak<4611686018427387904/\x.fs.length<=1000000/\ ∀f∈x.fs,0<=f
 bw:jt s.h x=true->rB (aT s.h.g x.vm) (x.c.2.1 / 16) (aV x.c.1)=false
 tk: ∀a q,s.bx[i]? =some (a::q)->(1<=a.1/\a.1<=(s.op.length:Int))/\ -1000<=s.op.getD (a.1 - 1).toNat 0/\s.op.getD (a.1 - 1).toNat 0<=1000
section
variable {Q:Sys} {X:HX} {D G:List Nat} {w0 w w1:A2} {B:MB} {R:MR} {s:MS} {T L:List (Nat×List AC)} {M:List (Nat×B3)} {i:Nat} {x:bU} {g:Option Bool}
theorem zR (H:MU Q X D G w0 w R s T L M) {K:AC×AC×AC×AC×AC×Unit->A2->Prop} (k: ∀a,MU Q X D G w0 a R s T L M->K (FD R.mb 109,FD R.mb 110,FD R.mb 111,FD R.mb 112,FD R.mb 113,()) a):
 aA AA 68 (.el sFs) [ag (ae R.mb)] w K:=by
 refine H.go λw1 H=>aQ (C:=U2) (aS:=λ_=>[]) (B2 (HK _ w1 K) (H.al λb a H=>H.st 0 rfl rfl rfl λd H=>H.en λc H=>H.ld 0 rfl (show _=some (FD R.mb 109,FD R.mb 110,FD R.mb 111,FD R.mb 112,FD R.mb 113,()) from rfl) (k c (H.sub (C8 _ _)))))
theorem vk (H:MU Q X D G w0 w R s T L M) (Bd:Bn s) (a:s.cs[i]? =some x) (f:Ca Q s.h) (S:Sx s i x) {K:BR->A2->Prop}
 (k: ∀d,MU Q X D G w0 d R (bO s i x).1 T L M->K (((bO s i x).2.1.1,(bO s i x).2.1.2,()),(bO s i x).2.2,()) d):
 zW AA (IC [FD R.mb 109,FD R.mb 110,FD R.mb 111,FD R.mb 112,FD R.mb 113] x.ph) NP [ag (some ⟨R.cb i,0,none⟩)] w K:=by
 have c:=DB a;have g:=(B1.1 a).1;have j:=Bd.pn;have l:=Bd.c8;have m:=S.ph;by_cases c0:x.ph=0
 ·have e:bO s i x=((dM s).1,(0,0),false):=av c0;rw[e] at k;rw[c0];exact DM (first:=[_]) (by kernel_rfl) (SJ H (by omega) Bd.now Bd.ws Bd.wn Bd.ms _ k)
 by_cases c1:x.ph=1
 ·have e:bO s i x=dp s i x:=by unfold bO;rw[ao c0,av c1]
  rw[e] at k;rw[c1];exact DM (first:=[_]) (by kernel_rfl) (M_ H Bd a f S.bw k)
 by_cases c2:x.ph=2
 ·have e:bO s i x=j_ s i x:=by unfold bO;rw[ao c0,ao c1,av c2]
  rw[e] at k;rw[c2];have b:(j_ s i x).2.1.1=0:=by
   unfold j_;dsimp only;split
   ·rfl
   ·split<;>rfl
  rw[b] at k;exact DM (first:=[_]) (by kernel_rfl) (SO H a c2 (S.wk c2) (Bd.cu x c).1 (by omega) (Bd.ls x c) Bd.sz (S.ln c2) k)
 by_cases c3:x.ph=3
 ·have e:bO s i x=fO s i x:=by unfold bO;rw[ao c0,ao c1,ao c2,av c3]
  rw[e] at k;rw[c3];have b:(fO s i x).2.1.2=0/\(fO s i x).2.2=true:=by
   unfold fO;dsimp only;split<;>exact⟨rfl,rfl⟩
  rw[b.1,b.2] at k;exact DM (first:=[_]) (by kernel_rfl) (M8 H a (S.fr c3) (Bd.cu x c).1 (Bd.cu x c).2.1 (by omega) Bd.ms k)
 have c4:x.ph=4:=by omega
 have e:bO s i x=iJ s x:=by unfold bO;rw[ao c0,ao c1,ao c2,ao c3]
 rw[e] at k;rw[c4];have b:(if(iJ s x).2.2=true then((iJ s x).2.1.1,(iJ s x).2.1.2,()) else(0,0,()))=((iJ s x).2.1.1,(iJ s x).2.1.2,()):=by
  unfold iJ;split<;>rfl
 rw[<-b] at k;exact DM (first:=[_]) (by kernel_rfl) (SK H a (S.ak c4).1 (S.ak c4).2.1 (S.ak c4).2.2 k)
end
theorem CM: ∀(l:List Int) (s:MS),(l.foldl il s).cs=s.cs
 |[],s=>rfl
 |f::l,s=>by rw[GI,CM l];rfl
theorem JJ (s:MS):(dM s).1.cs=s.cs:=by unfold dM;rw[CM]
theorem Na (s:MS) (i:Nat) (x:bU):(dp s i x).1.cs.length=s.cs.length:=by
 have a: ∀(s:MS) (y:bU),(a_ s i y).cs.length=s.cs.length:=λs y=>DK ..;unfold dp;split
 ·dsimp only;split<;>exact a _ _
 ·split
  ·rfl
  ·split
   ·dsimp only;rw[JJ]
   ·unfold iI;dsimp only;split
    ·split<;>exact a _ _
    ·exact a _ _
theorem Nb (s:MS) (i:Nat) (x:bU):(bO s i x).1.cs.length=s.cs.length:=by
 have a: ∀(s:MS) (y:bU),(a_ s i y).cs.length=s.cs.length:=λs y=>DK ..;unfold bO;split
 ·dsimp only;rw[JJ]
 ·split
  ·exact Na s i x
  ·split
   ·unfold j_;dsimp only;split
    ·exact a _ _
    ·split<;>exact a _ _
   ·split
    ·unfold fO;dsimp only;split<;>rfl
    ·unfold iJ;split<;>rfl
section
variable {Q:Sys} {X:HX} {D G:List Nat} {w0 w w1:A2} {B:MB} {R:MR} {s:MS} {T L:List (Nat×List AC)} {M:List (Nat×B3)} {i:Nat} {x:bU} {g:Option Bool}
theorem V6 {b d:Nat} {l g:List AC} (H:MU Q X D G w0 w R s ((d,g)::(b,l)::T) L M) (h:l.length=2) (m:g.length=2) (j:s.cs[i]? =some x) (r:BR) {K:BR->A2->Prop}
 (k: ∀e,MU Q X D G w0 e R (if r.2.1=true then a_ s i (bD x.ls) else s) T L M->K (if r.2.1=true then((r.1.1,r.1.2.1,()),true,()) else((0,0,()),false,())) e):
 Ke (some ⟨R.cb i,0,none⟩) (i:Int) b d K r w:=by
 unfold Ke;refine H.st 0 rfl rfl m.symm λe H=>ab (λc=>?_) (λc=>?_)
 ·have c:r.2.1=false:=by simpa using c
  rw[c] at k;exact MU.res (H.sub (C8 _ _)) h 0 0 false k
 ·have c:r.2.1=true:=by simpa using c
  rw[c] at k;refine⟨rfl,rfl,H.c1 j ⟨rfl,?_⟩⟩;obtain⟨a,f,u,n,hb,W,o,J⟩:=H.C5 j;rw[<-n, <-hb];refine stB (o.perm (L':=(a.cb,jW a i x)::(a.tb,di a.st s.sz)::(a.Lt++(a.Lf++(a.Lw++(((d,[ay r.1.1,aa r.1.2.1])::(b,l)::T)++f))))) (cg λy=>by simp only[ae,sP,Al,Av,FY];omega)) 0 rfl rfl rfl λp q=>?_;have t:=(q.perm (L':=a.Lf++(a.Lw++((a.cb,[aa (i:Int),ag (ae a.tb),aa 0,aa 0,aa 0,ay 0,ay 0,ay 0,ag none,aa 0,ay 0,aa 0,aa 0,.slice none 0 0])::(a.tb,di a.st s.sz)::(a.Lt++(((d,[ay r.1.1,aa r.1.2.1])::(b,l)::T)++f))))) (cg λy=>by simp only[ae,FY,Al,Av];omega)).sub ((FN _ _).trans (FN _ _));have H:MU Q X D G w0 p R (a_ s i (bD x.ls)) ((d,[ay r.1.1,aa r.1.2.1])::(b,l)::T) L M:=by
   refine J (a':={a with wp:=none,sf:=(none,0,0),Lf:=[],Lw:=[]}) (x':=bD x.ls) rfl rfl ⟨W.ls,du.nil eI,λc=>(by cases c)⟩ (t.perm (cg λy=>?_));show B9 y ((a.cb,[aa (i:Int),ag (ae a.tb),aa 0,aa 0,aa 0,ay 0,ay 0,ay 0,ag none,aa 0,ay 0,aa 0,aa 0,.slice none 0 0])::(a.tb,di a.st s.sz)::(a.Lt++([]++[]))++(((d,[ay r.1.1,aa r.1.2.1])::(b,l)::T)++f))= _;simp only[ae,Al,Av,Fg];omega
  exact H.ld 0 rfl (show _=some (r.1.1,r.1.2.1,()) from rfl) (MU.res (H.sub (C8 _ _)) h _ _ true k)
theorem EQ {b:Nat} {l:List AC} (H:MU Q X D G w0 w R s ((b,l)::T) L M) (q:l.length=2) (Bd:Bn s) (a:s.cs[i]? =some x) (g:Ca Q s.h) (S:Sx s i x) {K:BR->A2->Prop}
 (k: ∀d,MU Q X D G w0 d R (gJ (bO s i x) i x).1 T L M->K (((gJ (bO s i x) i x).2.1.1,(gJ (bO s i x) i x).2.1.2,()),(gJ (bO s i x) i x).2.2,()) d):
 abH (ae R.mb) (some ⟨R.cb i,0,none⟩) (i:Int) b K w:=by
 have u:=(B1.1 a).1;have v:=Nb s i x;obtain⟨x',j⟩: ∃x',(bO s i x).1.cs[i]? =some x':=⟨_,C7 (by omega)⟩;have r:(bO s i x).1.cs.getD i x=x':=by rw[Dn,j];rfl
 unfold gJ at k;rw[r] at k;have m:=S.ph;have fin: ∀{e:Nat} {o:List AC} {d:A2},o.length=2->MU Q X D G w0 d R (bO s i x).1 ((e,o)::(b,l)::T) L M->Ke (some ⟨R.cb i,0,none⟩) (i:Int) b e K (((bO s i x).2.1.1,(bO s i x).2.1.2,()),(bO s i x).2.2,()) d:=λt H=>by
  refine V6 H q t j _ λf H=>?_;have:=k f;dsimp only at H ⊢;by_cases c:(bO s i x).2.2=true
  ·rw[av c] at H this ⊢;exact this H
  ·rw[ao c] at H this ⊢;exact this H
 refine⟨rfl,rfl,H.cf a (n:=2) (λ_=>rfl) ⟨?_,?_⟩⟩
 ·refine zR H λd H=>⟨H.crd a (n:=2) λ_=>rfl,trivial,trivial,⟨m.1,by show x.ph<5;omega⟩,?_,?_⟩
  ·exact vk H Bd a g S λf H=>H.al λe p H=>fin rfl H
  ·exact H.al λe f H=>vk H Bd a g S λp H=>fin rfl H
 ·exact H.al λe d H=>zR H λf H=>⟨H.crd a (n:=2) λ_=>rfl,trivial,trivial,⟨m.1,by show x.ph<5;omega⟩,vk H Bd a g S λp H=>fin rfl H⟩
theorem SW (H:MU Q X D G w0 w R s T L M) (Bd:Bn s) (hi:i<s.cs.length) (m: ∀a q,s.bx[i]? =some (a::q)->(1<=a.1/\a.1<=(s.op.length:Int))/\ -1000<=s.op.getD (a.1 - 1).toNat 0/\s.op.getD (a.1 - 1).toNat 0<=1000) {K:(Int×Int×Int×Unit)×Bool×Unit->A2->Prop}
 (kn:s9 s i=none-> ∀c,MU Q X D G w0 c R s T L M->K ((0,0,0,()),false,()) c)
 (ks: ∀a s1,s9 s i=some (a,s1)-> ∀c,MU Q X D G w0 c R s1 T L M->K (a,true,()) c):
 aA AA 66 (.bA [.agg [.int .i64,.int .i64,.int .i64],.one .bool]) [ag (ae R.xb),aa (i:Int)] w K:=by
 obtain⟨B,rfl,H⟩:=H;obtain⟨p,r,n,J⟩:=H.bxs;have W:=H.wf;have f:=W.l;have t:=Bd.bn;have u:=Bd.op;refine RU n W.b W.o W.l i (by omega) m (by omega) λg h c j k d e=>?_;unfold vG at d e ⊢;unfold s9 at kn ks;cases hb:s.bx[i]? with
 |none=>
  rw[hb] at d e kn;exact kn rfl c ⟨{B with so:=B.so,Lo:=h,cr:=g},rfl,J (op:=s.op) (bx:=s.bx) d (by rw[j,f]) k e⟩
 |some q=>
  cases q with
  |nil=>
   rw[hb] at d e kn;exact kn rfl c ⟨{B with so:=B.so,Lo:=h,cr:=g},rfl,J (op:=s.op) (bx:=s.bx) d (by rw[j,f]) k e⟩
  |cons a q=>
   rw[hb] at d e ks;refine ks a _ rfl c ⟨{B with so:=B.so,Lo:=h,cr:=g},rfl,J (op:=s.op.set (a.1 - 1).toNat (s.op.getD (a.1 - 1).toNat 0 - 1)) (bx:=s.bx.set i q) d (by rw[j,f,DK]) k e⟩
theorem SX (H:MU Q X D G w0 w R s T L M) (Bd:Bn s) (j:Ca Q s.h) (S: ∀i x,s.cs[i]? =some x->Sx s i x) (n:Int) {K:BR->A2->Prop}
 (k: ∀g,MU Q X D G w0 g R (aP s n).1 T L M->K (((aP s n).2.1.1,(aP s n).2.1.2,()),(aP s n).2.2,()) g):
 aA AA 31 NP [ag (ae R.mb),aa n] w K:=by
 refine H.go λw1 H=>aQ (C:=U3) (aS:=λ_=>[]) (B2 (R4 _ n w1 K) (H.al λb g H=>⟨_,DL H n,?_⟩));by_cases c:0<=n/\n<(s.cs.length:Int)
 ·obtain⟨i,rfl⟩: ∃i:Nat,n=(i:Int):=⟨n.toNat,by omega⟩;rw[av c,Bs];have l:i<s.cs.length:=by omega
  obtain⟨x,f⟩: ∃x,s.cs[i]? =some x:=⟨_,C7 l⟩;have t:=Bd.ls x (DB f);have u:=Bd.sz;have e:aP s (i:Int)=jz s i x:=by unfold aP;rw[ao (by omega),Bs,f]
  rw[e] at k;unfold jz at k;refine an rfl ⟨rfl,rfl,H.cf f (n:=2) (λ_=>rfl) (ab (λc=>?_) (λc=>?_))⟩
  ·have c3:x.ph≠3:=by simpa using c
   rw[ao c3] at k;refine⟨rfl,rfl,H.f2 (SW H Bd l (S i x f).tk (λd m H=>?_) (λa s1 d m H=>?_))⟩
   ·rw[d] at k;exact H.al λo p H=>H.st 0 rfl rfl rfl λq H=>an rfl (EQ (H.sub (C8 _ _)) rfl Bd f j (S i x f) k)
   ·rw[d] at k;have r:s1.cs[i]? =some x:=by
     unfold s9 at d;split at d
     ·cases d;exact f
     ·cases d
    have v:s1.sz=s.sz:=by
     unfold s9 at d;split at d
     ·cases d;rfl
     ·cases d
    refine H.al λo p H=>H.st 0 rfl rfl rfl λq H=>aB rfl ⟨rfl,H.cH 0 rfl (show _=some a.2.1 from rfl) ⟨rfl,H.cH 0 rfl (show _=some a.2.2.1 from rfl) ?_⟩⟩;exact zO H r (by omega) (by omega) _ _ λy H=>MU.res (H.sub (C8 _ _)) rfl 0 0 false k
  ·have c3:x.ph=3:=by simpa using c
   rw[av c3] at k;exact EQ H rfl Bd f j (S i x f) k
 ·rw[ao c];have e:aP s n=(s,(0,0),false):=by
   unfold aP;by_cases h:n<0
   ·rw[av h]
   ·rw[ao h,JZ (by omega)]
  rw[e] at k;exact aB rfl (H.res rfl 0 0 false k)
end
def Dh (s:MS) (n:Int):Int:=if n<0 then 0 else match s.cs[n.toNat]? with
 |none=>0
 |some x=>x.ph
def lnN (s:MS) (n:Int):List LT:=if n<0 then[] else match s.cs[n.toNat]? with
 |none=>[]
 |some x=>x.ls
def TT (s:MS) (n:Int):Int:=if 0<=n/\n<(s.cs.length:Int) then((s.bx.getD n.toNat []).length:Int) else 0
section
variable {Q:Sys} {X:HX} {D G:List Nat} {w0 w w1:A2} {B:MB} {R:MR} {s:MS} {T L:List (Nat×List AC)} {M:List (Nat×B3)} {i:Nat} {x:bU} {g:Option Bool}
theorem Gv {n:Int} (c: ¬ (0<=n/\n<(s.cs.length:Int))):n<0\/s.cs[n.toNat]? =none:=by
 by_cases h:n<0
 ·exact .inl h
 ·exact .inr (JZ (by omega))
theorem nQ (H:MU Q X D G w0 w R s T L M) (n vm k:Int) {a b c:Int} {K:Int->A2->Prop}
 (kk: ∀g,MU Q X D G w0 g R (cA s n vm (k,a,b,c,())) T L M->K (rI s n) g):
 aA AA 29 (.el (.one (.int .i64))) [ag (ae R.mb),aa n,aa vm,.agg ⟨gg k a b c⟩] w K:=by
 refine H.go λw1 H=>ai (C:=U2) (aS:=λ_=>[]) (B2 (VI _ n vm k a b c w1 K) (H.al λl g H=>⟨_,DL H n,λ_=>rfl,λ_=>rfl,H.f0 (an rfl ?_)⟩));by_cases hc:0<=n/\n<(s.cs.length:Int)
 ·obtain⟨i,rfl⟩: ∃i:Nat,n=(i:Int):=⟨n.toNat,by omega⟩;rw[av hc,Bs];obtain⟨x,d⟩: ∃x,s.cs[i]? =some x:=⟨_,C7 (by omega)⟩;unfold cA rI at kk;rw[ao (by omega),ao (by omega),Bs,d] at kk;dsimp only at kk;refine an rfl ⟨rfl,rfl,H.cf d (n:=2) (λ_=>rfl) (ab (λe=>?_) (λe=>?_))⟩
  ·have e:x.ph≠0:=by simpa using e
   rw[ao e,ao e] at kk;exact H.en λf H=>kk f (H.sub (C8 _ _))
  ·have c0:x.ph=0:=by simpa using e
   rw[av c0,av c0] at kk;refine H.ld 0 rfl (show _=some (k,a,b,c,()) from rfl) ⟨rfl,rfl,H.cs d {x with ph:=1} 2 rfl rfl (λ_=>rfl) (λa h=>⟨h.ls,h.fs,λc=>(by cases c)⟩) λf H=>⟨?_,rfl,rfl,?_⟩⟩
   ·have:=H.rd 0 (n:=0) (el:= .agg sCl) rfl (show _=some (k,a,b,c,()) from rfl);rw[aY] at this;exact this
   refine H.cs (fb d) {x with ph:=1,vm:=vm} 3 rfl rfl (λ_=>rfl) (λa h=>⟨h.ls,h.fs,λc=>(by cases c)⟩) λm H=>⟨?_,rfl,rfl,?_⟩
   ·have:=H.rd 0 (n:=0) (el:= .agg sCl) rfl (show _=some (k,a,b,c,()) from rfl);rw[aY] at this;exact this
   refine H.cs (fb (fb d)) {x with ph:=1,vm:=vm,c:=(k,a,b,c,())} 4 rfl rfl (λ_=>rfl) (λa h=>⟨h.ls,h.fs,λc=>(by cases c)⟩) λo H=>H.en λj H=>?_;simp only[kY] at H;exact kk j (H.sub (C8 _ _))
 ·rw[ao hc];have e:cA s n vm (k,a,b,c,())=s/\rI s n=2:=by
   unfold cA rI;rcases Gv hc with h|h
   ·rw[av h,av h];exact⟨rfl,rfl⟩
   ·rw[h];constructor<;>split<;>rfl
  rw[e.1,e.2] at kk;exact aB rfl (H.en λf H=>kk f (H.sub (C8 _ _)))
theorem zj (H:MU Q X D G w0 w R s T L M) (n:Int):af AA 49 [ag (ae R.mb),aa n] w (aa (Dh s n)):=by
 refine af.of (s:= .el (.one (.int .i64))) λw1 h1=>ai (C:=U2) (aS:=λ_=>[]) (B2 (Mz _ n w1 _) ?_);have H:=H.ext h1;refine⟨_,DL H n,?_⟩;unfold Dh;by_cases hc:0<=n/\n<(s.cs.length:Int)
 ·rw[av hc,ao (by omega)];obtain⟨x,b⟩: ∃x,s.cs[n.toNat]? =some x:=⟨_,C7 (by omega)⟩;rw[b];exact an rfl ⟨rfl,rfl,H.cf b (n:=2) (λ_=>rfl) λc a=>⟨rfl,a⟩⟩
 ·rw[ao hc];refine aB rfl λc a=>⟨?_,a⟩;rcases Gv hc with h|h
  ·rw[av h]
  ·rw[h];split<;>rfl
theorem V7 (H:MU Q X D G w0 w R s T L M) (o:s.bx.length=s.cs.length) (n:Int):af AA 50 [ag (ae R.mb),aa n] w (aa (TT s n)):=by
 refine af.of (s:= .el (.one (.int .i64))) λw1 h1=>ai (C:=U2) (aS:=λ_=>[]) (B2 (R_ _ n w1 _) ?_);have H:=H.ext h1;refine⟨_,DL H n,?_⟩;unfold TT;by_cases hc:0<=n/\n<(s.cs.length:Int)
 ·rw[av hc,av hc];obtain⟨i,rfl⟩: ∃i:Nat,n=(i:Int):=⟨n.toNat,by omega⟩;rw[Bs];obtain⟨q,d⟩: ∃q,s.bx[i]? =some q:=⟨_,C7 (by omega)⟩;rw[Dn,d];refine an rfl ⟨rfl,rfl,H.f2 ⟨(q.length:Int),?_,λf a=>⟨rfl,a⟩⟩⟩;obtain⟨B,rfl,e⟩:=H;obtain⟨g,p,h,J⟩:=e.bxs;have W:=e.wf;have r:=W.l;obtain⟨c,j⟩: ∃c,B.cr[i]? =some c:=⟨_,C7 (by omega)⟩;have k:=h.perm (L':=B.Lb++((B.xb,lQ B.sb B.so)::(B.Lo++(T++g)))) (cg λy=>by simp only[Al,Av];omega);exact RR k B4 W.b (λx m=>B8 _ m) j d
 ·rw[ao hc,ao hc];exact aB rfl λf a=>⟨rfl,a⟩
theorem SY (H:MU Q X D G w0 w R s T L M):af AA 17 [ag (ae R.mb)] w (ag (ae X.hb)):=by
 refine af.of (s:= .el (.one .ptr)) λw1 h1=>ai (C:=U2) (aS:=λ_=>[]) (B2 (ME _ w1 _) ?_);exact an rfl ⟨rfl,rfl,(H.ext h1).f0 λb a=>⟨rfl,a⟩⟩
theorem Nc (H:MU Q X D G w0 w R s T L M) (p:s.ms.length<=1000000000) {K:Option AN×Nat×Nat->A2->Prop}
 (k: ∀r c b,du eMk r (s.ms.map XW) c->MU Q X D G w0 b R s (c++T) L M->K r b):
 aA AA 41 (.el (.one .slice)) [ag (ae R.mb)] w K:=by
 refine H.go λw1 H=>ai (C:=U2) (aS:=λ_=>[]) (B2 (MC _ w1 K) (an rfl ⟨rfl,rfl,?_⟩));obtain⟨B,rfl,a⟩:=H;refine a.rj (show _=some (B.sm.1,B.sm.2.1,B.sm.2.2) from rfl) λb f=>?_;have a:=a.ext f;obtain⟨t,u,d,g, _, _,J⟩:=a.tmp;have W:=a.wf;have h:=W.m.oE d.base (λx i=>B5 _ (g _ (Ay _ (Ay _ (Ay _ (B5 _ (B8 _ i)))))));refine Fq (Ls:=[]) d (du.nil eMk) rfl (q:=B.sm) W.m.1 h rfl rfl (by rw[DA,JS];omega) λs' e v j l n o=>k _ e n j ⟨B,rfl,?_⟩;exact J (T':=e++T) (by rw[JY];exact l.ext o)
theorem BE (H:MU Q X D G w0 w R s T L M) (g:0<s.sz/\s.sz<=64) (i: ∀y∈s.cs,(y.ls.length:Int)<=s.sz) (n:Int) {K:Option AN×Nat×Nat->A2->Prop}
 (k: ∀r b c,du ky r (lnN s n) b->MU Q X D G w0 c R s (b++T) L M->K r c):
 aA AA 51 (.el (.one .slice)) [ag (ae R.mb),aa n] w K:=by
 refine H.go λw1 H=>ai (C:=U2) (aS:=λ_=>[]) (B2 (MD _ n w1 K) ⟨_,DL H n,?_⟩);unfold lnN at k;by_cases hc:0<=n/\n<(s.cs.length:Int)
 ·rw[ao (by omega)] at k;rw[av hc];obtain⟨x,d⟩: ∃x,s.cs[n.toNat]? =some x:=⟨_,C7 (by omega)⟩;rw[d] at k;have v:=i x (DB d);refine an rfl ⟨rfl,rfl,H.c1 d ?_⟩;obtain⟨a,j,l,z,hb,W,m,J⟩:=H.C5 d;have f:cC D G w0 w1 ((R.tb n.toNat,di a.st s.sz)::(a.Lt++((a.cb,jW a n.toNat x)::(a.Lf++(a.Lw++(T++j)))))) l:=m.perm (cg λy=>by rw[<-hb];simp only[sP,Al,Av];omega);refine KA f.base.again W.ls (by omega) g.1 λr b c o p q t=>k r b q o ?_;have:=J (T':=b++T) rfl rfl W (((f.join p).perm (cg λy=>by rw[<-hb];simp only[sP,Al,Av];omega)).ext t);rw[M6 d] at this;exact this
 ·rw[ao hc];have e:(if n<0 then[] else match s.cs[n.toNat]? with|none=>[]|some x=>x.ls)=([]:List LT):=by
   rcases Gv hc with h|h
   ·rw[av h]
   ·rw[h];split<;>rfl
  rw[e] at k;exact aB rfl λc u=>k (none,0,0) [] c (du.nil ky) (H.ext u)
theorem wG (H:MU Q X D G w0 w R s T L M) (l:s.ep.ws.length<=1000000) {K:Option AN×Nat×Nat->A2->Prop}
 (k: ∀r a c,du eI r (mN (s.ep.ws.map (·.1))) a->MU Q X D G w0 c R s (a++T) L M->K r c):
 aA AA 32 (.el (.one .slice)) [ag (ae R.mb)] w K:=by
 refine H.go λw1 H=>ai (C:=U2) (aS:=λ_=>[]) (B2 (Fb _ w1 K) (an rfl ⟨rfl,rfl,H.f1 ?_⟩));obtain⟨B,rfl,b⟩:=H;obtain⟨m,n,d,J⟩:=b.eps;refine RP d b.wf.w (by omega) B4 λr o a c e f g h i j=>k r a i (by rw[<-W9 e f];exact g) ⟨_,rfl,J (T':=a++T) (ep:=s.ep) b.wf.p b.wf.w ((h.perm (cg λy=>by simp only[Al,Av];omega)).ext j)⟩
end
section
variable {Q:Sys} {X:HX} {D G:List Nat} {w0 w w1:A2} {B:MB} {R:MR} {s:MS} {T L:List (Nat×List AC)} {M:List (Nat×B3)} {i:Nat} {x:bU} {g:Option Bool}
abbrev tc (B:MB) (n:Nat) (sc:Option AN×Nat×Nat) (Lc:List (Nat×List AC)) (a:CA):MB:={B with sc:=sc,Lc:=Lc,A:=λk=>if k=n then a else B.A k}
theorem iy.cps (H:iy Q X D G w0 w B s T L M): ∃j n,cC D G w0 w ((B.mb,rK X B)::(B.Lc++(T++j))) n/\
 ∀{T' sc Lc a x w'},du eP sc (yA B s.cs.length++[some ⟨a.cb,0,none⟩]) Lc->Tf a x->cC D G w0 w' ((B.mb,rK X (tc B s.cs.length sc Lc a))::(Lc++(sP a s.cs.length x s.sz++(T'++j)))) n->iy Q X D G w0 w' (tc B s.cs.length sc Lc a) {s with cs:=s.cs++[x]} T' L M:=by
 obtain⟨A,ca,la,h1,r,d,t⟩:=H;refine⟨(B.eb,ow s.ep.now B.sp B.wb)::(B.xb,lQ B.sb B.so)::(B.Lm++(B.Lp++(B.Lb++(B.Lo++(ia B s (Ak s.cs.length)++(FC Q X A ca la s.h++L)))))), _,t.perm (cg λa=>by simp only[Al,Av];omega),λ{T' sc Lc a x w'} u v K=>?_⟩;have g: ∀k,k<s.cs.length->(tc B s.cs.length sc Lc a).A k=B.A k:=λk c=>ao (by omega);have i:(tc B s.cs.length sc Lc a).A s.cs.length=a:=av rfl;have q:(s.cs++[x]).length=s.cs.length+1:=by rw[Hb];rfl
 have z:yA (tc B s.cs.length sc Lc a) (s.cs++[x]).length=yA B s.cs.length++[some ⟨a.cb,0,none⟩]:=by
  show(Ak (s.cs++[x]).length).map _= _;rw[q,IR,GH];congr 1
  ·exact JP λk c=>by rw[g k (Bx.1 c)]
  ·show[some (⟨((tc B s.cs.length sc Lc a).A s.cs.length).cb,0,none⟩:AN)]= _;rw[i]
 have C:ia (tc B s.cs.length sc Lc a) {s with cs:=s.cs++[x]} (Ak (s.cs++[x]).length)=ia B s (Ak s.cs.length)++sP a s.cs.length x s.sz:=by
  unfold ia;rw[q,IR,List.flatMap_append];congr 1
  ·refine gB λk c=>?_;have c:=Bx.1 c;show(match (s.cs++[x])[k]? with|some x=> _|none=> _)= _;rw[GF c,g k c]<;>cases s.cs[k]? <;>rfl
  ·show(match (s.cs++[x])[s.cs.length]? with|some x=>sP ((tc B s.cs.length sc Lc a).A s.cs.length) s.cs.length x s.sz|none=> _)++[]= _;rw[K1 (E5 _),Nat.sub_self,i];exact Df _
 refine⟨A,ca,la,h1,r,⟨by rw[z];exact u,d.m,d.p,d.b,d.o,d.l,d.k,d.w,λ{k y} f=>?_⟩,K.perm ?_⟩
 ·have f:(s.cs++[x])[k]? =some y:=f;by_cases c:k<s.cs.length
  ·rw[GF c] at f;rw[g k c];exact d.a f
  ·have E:=(B1.1 f).1;have e:k=s.cs.length:=by omega
   subst e;rw[K1 (E5 _),Nat.sub_self] at f;cases f;rw[i];exact v
 ·show(T'++(((B.mb,rK X (tc B s.cs.length sc Lc a))::(B.eb,ow s.ep.now B.sp B.wb)::(B.xb,lQ B.sb B.so)::(Lc++(B.Lm++(B.Lp++(B.Lb++B.Lo)))))++(ia (tc B s.cs.length sc Lc a) {s with cs:=s.cs++[x]} (Ak (s.cs++[x]).length)++(FC Q X A ca la s.h++L)))).Perm _;rw[C];exact cg λa=>by simp only[Al,Av];omega
abbrev mZ (f c j:Nat) (l:Int):MS:={m0 f c l with cs:=BQ j (bD [])}
theorem xz (H:aJ D G w0 w L) (f c l:Int) (hf:4<=f/\f<=4096) (hl:1<=l/\l<=64) {K:Option AN×Int×Unit->A2->Prop} (kb:c<1\/c>8-> ∀w1,aJ D G w0 w1 L->K (none,1,()) w1)
 (V:1<=c->c<=8-> ∀Q X R w1,Q.c=16*f.toNat->MU Q X D G w0 w1 R (m0 f.toNat c.toNat l) [] L []->K (some ⟨R.mb,0,none⟩,0,()) w1):
 aA AA 52 (.bA [.one .ptr,.one (.int .i64)]) [aa f,aa c,aa l] w K:=by
 refine aA.go H λw1 H=>ai (C:=U2) (aS:=wC) (B2 (VJ f c l w1 K) ?_);refine VH H f (λh=>by omega) λ_ _ Q X w2 Y H=>an rfl ?_;obtain⟨A,W,S⟩:=H;have Z:yB (h0 f.toNat).s:=⟨S.pos,S.FU,S.le,S.Z'⟩;obtain⟨_, _, _, _,ca,la,H⟩:=S;refine Cu H c (λhc w3 H=>aB rfl λI M=>kb hc I ?_) λc1 c8 eb wb sp Lp w3 Wh H=>an rfl λI M=>?_
 ·refine(H.base.sub ?_).ext M;refine Dz _ (Dz _ (Dz _ (Dz _ (Dz _ (Dz _ (Dz _ (Dz _ (FN _ _))))))))
 obtain⟨n,rfl⟩: ∃n:Nat,c=(n:Int):=⟨c.toNat,by omega⟩;obtain⟨m,rfl⟩: ∃m:Nat,f=(m:Int):=⟨f.toNat,by omega⟩;simp only[ae,Bs] at*
 have H:=(H.ext M).alloc (o:= .map ⟨[]⟩ 0) trivial;obtain⟨q,hkb⟩: ∃b,b=I.heap.size:=⟨_,rfl⟩;rw[<-hkb] at H ⊢;refine alM H λmb w5 H=>VG H (n:Int) (λh=>by omega) λ_ _ xb cr sb Lb w6 O hsb H=>⟨trivial,trivial,?_⟩;rw[Bs] at O H;refine Wq (n:=2) (H.perm (L':=(mb,[ag (ae X.hb),ag (ae eb),ag none,.slice none 0 0,.map (some q),.slice none 0 0])::((xb,lQ sb (none,0,0))::(Lb++((eb,ow 0 sp wb)::(Lp++Q.L ca la (h0 m).s (dX Q X A (h0 m) (bh Q A (h0 m).g (Ak 17)++L))))))) (cg λy=>by simp only[ae,Al,Av];omega)) 0 rfl rfl rfl λw7 H=>?_;have H0:iy Q X D G w0 w7 {mb:=mb,eb:=eb,xb:=xb,kb:=q,wb:=wb,sc:=(none,0,0),sm:=(none,0,0),sp:=sp,sb:=sb,so:=(none,0,0),Lc:=[],Lm:=[],Lp:=Lp,Lb:=Lb,Lo:=[],cr:=cr,ke:=[],we:=[],kk:=0,wk:=0,A:=λ_=>⟨0,0,(none,0,0),(none,0,0),none,[],[],[]⟩} (mZ m n 0 l) [] L []:=by
  refine⟨A,ca,la,W,Z,⟨du.nil eP,du.nil eMk,Wh,hsb,du.nil eI,by rw[O];exact Do.symm,iz.nil,iz.nil,λ{i x} t=>?_⟩,(H.perm (cg λy=>?_)).ly (cg λy=>?_)⟩
  ·have t:(BQ 0 (bD []))[i]? =some x:=t;rw[List.replicate_zero] at t;cases t
  ·show B9 y ([]++((mb,[ag (ae X.hb),ag (ae eb),ag (ae xb),.slice none 0 0,.map (some q),.slice none 0 0])::(eb,ow 0 sp wb)::(xb,lQ sb (none,0,0))::([]++([]++(Lp++(Lb++[]))))++([]++(Q.L ca la (h0 m).s (dX Q X A (h0 m) (bh Q A (h0 m).g (Ak 17)))++L))))= _;simp only[ae,Sys.L,List.set_cons_succ,FY,Al,Av,Fg];omega
  ·show B9 y ((q,Obj.map ⟨[]⟩ 0)::(wb,Obj.map ⟨[]⟩ 0)::qu cr (BQ n [])++(dg A (h0 m).g (Ak 17)++[]))= _;simp only[ae,Al,Av,Fg];omega
 generalize u:({mb:=mb,eb:=eb,xb:=xb,kb:=q,wb:=wb,sc:=(none,0,0),sm:=(none,0,0),sp:=sp,sb:=sb,so:=(none,0,0),Lc:=[],Lm:=[],Lp:=Lp,Lb:=Lb,Lo:=[],cr:=cr,ke:=[],we:=[],kk:=0,wk:=0,A:=λ_=>⟨0,0,(none,0,0),(none,0,0),none,[],[],[]⟩}:MB)=B0 at H0;have u:B0.mb=mb:=by rw[<-u]
 refine⟨λk st N=> ∃(j:Nat) (B:MB),j<=n/\k=n - j/\st.1=(j:Int)/\B.mb=mb/\iy Q X D G w0 N B (mZ m n j l) [] L [],⟨n,λN h8=>⟨0,B0,E4 _,rfl,rfl,u,H0.ext h8⟩⟩,?_⟩;clear H H0 u;rintro k ⟨i, _⟩ N ⟨j,B,hj,hk',hi,rfl,HH⟩;have hi:i=(j:Int):=hi;have H:=HH;subst hi hk';dsimp only;refine ab (λc=>?_) (λc=>?_)
 ·have hj:j<n:=by have:=of_decide_eq_true c;omega
  obtain⟨r,P,v, _, _, _,J⟩:=H.tmp;refine λz E=>Ur (v.ext E).base.again l (λh=>by omega) (λ_ _ tb nh F=>an rfl ⟨trivial,trivial,?_⟩) z (Ext.refl z);have H:iy Q X D G w0 nh B (mZ m n j l) [(tb,di (none,0,0) l)] L []:=J (T':=[(tb,di (none,0,0) l)]) ((v.ext E).join F);refine H.rj (show _=some (B.sc.1,B.sc.2.1,B.sc.2.2) from rfl) (H.al λa oF H=>H.al λp Fj H Ta h13=>?_);have H:=H.ext h13;obtain⟨r,P,v,J⟩:=H.cps;have hlen:(mZ m n j l).cs.length=j:=Do;have T:=H.wf.c;rw[hlen] at J T;have F:=v.perm (L':=B.Lc++((B.mb,rK X B)::([(p,[ag (ae a)]),(a,[aa (j:Int),ag (ae tb),aa 0,aa 0,aa 0,ay 0,ay 0,ay 0,ag none,aa 0,ay 0,aa 0,aa 0,.slice none 0 0]),(tb,di (none,0,0) l)]++r))) GG;have hb:bN Ta p (cellsOf eP (ae a)):=F.base.dm _ (B5 _ (Ay _ B4));refine Fq F T rfl (ys:=[some ⟨a,0,none⟩]) rfl (rP hb) rfl rfl (by rw[DA,Ds,IA];omega) λs' d Nn fh K3=>⟨trivial,trivial,Wq (n:=3) (K3.perm GG.symm) 0 rfl rfl rfl λZ8 K4 Xv Ws=>⟨n - (j+1),by omega,j+1,tc B j s' d ⟨a,tb,(none,0,0),(none,0,0),none,[],[],[]⟩,by omega,rfl,?_,rfl,?_⟩⟩
  ·rw[ax (by omega) (by omega)];omega
  ·have K5:cC D G w0 Z8 ((B.mb,rK X (tc B j s' d ⟨a,tb,(none,0,0),(none,0,0),none,[],[],[]⟩))::(d++(sP ⟨a,tb,(none,0,0),(none,0,0),none,[],[],[]⟩ j (bD []) (mZ m n j l).sz++([(p,[ag (ae a)])]++r)))) P:=K4.perm (cg λy=>by
    show B9 y ((B.mb,rK X (tc B j s' d ⟨a,tb,(none,0,0),(none,0,0),none,[],[],[]⟩))::(d++(((a,jW ⟨a,tb,(none,0,0),(none,0,0),none,[],[],[]⟩ j (bD []))::(tb,di (none,0,0) l)::([]++([]++[])))++([(p,[ag (ae a)])]++r))))=B9 y ((B.mb,rK X (tc B j s' d ⟨a,tb,(none,0,0),(none,0,0),none,[],[],[]⟩))::(d++([(p,[ag (ae a)]),(a,jW ⟨a,tb,(none,0,0),(none,0,0),none,[],[],[]⟩ j (bD [])),(tb,di (none,0,0) l)]++r)));simp only[ae,Al,Av,Fg];omega)
   have U:=(J (T':=[(p,[ag (ae a)])]) (x:=bD []) fh ⟨du.nil ky,du.nil eI,λc=>(by cases c)⟩ K5).ext Ws;have e:({mZ m n j l with cs:=(mZ m n j l).cs++[bD []]}:MS)=mZ m n (j+1) l:=by
    show MS.mk _ _ _ _ _ _ _ _=MS.mk _ _ _ _ _ _ _ _;rw[List.replicate_succ']
   rw[e] at U;exact U.sub (LL _)
 ·have:j=n:=by have:=of_decide_eq_false c;omega
  subst this;exact λz E=>V c1 c8 Q X B.rt z Y ⟨B,rfl,H.ext E⟩
end
theorem Fe {ws:List Int} {p t:Int} {x:Int×Int×FT} (e:0<=x.2.1/\x.2.1<=3) (h1:(bz ws p t x).2.1= -1) (a:(bz ws p t x).2.2.2.2.2.1=0):1<=(bz ws p t x).2.2.2.1/\(bz ws p t x).2.2.2.1<=7:=by
 have b: ∀n:Nat,FA n<=7:=λn=>by unfold FA;split<;>omega
 have d: ∀{lv wt fr:Int} {ep:Bool} {er:Int} {el:Bool} {ef:Int},(xZ lv wt fr ep er el ef).2.2.2.1=0->er<=7->1<=(xZ lv wt fr ep er el ef).2.1/\(xZ lv wt fr ep er el ef).2.1<=7:=λ{lv wt fr ep er el ef} h f=>by
  unfold xZ at h ⊢;split
  grind
  ·rename_i c;rw[ao c] at h;split
   ·rename_i c2;unfold dV at c2
    grind
   grind
 unfold bz at h1 a ⊢;rw[ao (by omega)] at h1 a ⊢;split
 ·rename_i c;rw[av c] at a;exact absurd a (show ¬ (11:Int)=0 by decide)
 ·rename_i c;rw[ao c] at h1 a;revert h1 a;generalize (B (dv ws (dZ x.1 p x.2.1))).toNat=N;intro h1 a;unfold tookS at h1 a ⊢;split
  ·rename_i c;rw[av c] at a;exact absurd a (show ¬ (4:Int)=0 by decide)
  ·rename_i c;rw[ao c] at h1 a;split
   ·rename_i c;rw[av c] at h1;rw[DE,decide_eq_true_eq] at c;have h1:aZ .i64 x.2.1 1= -1:=h1;rw[bF (by omega) (by omega)] at h1;omega
   ·rename_i c;rw[ao c] at h1 a;split
    ·rename_i c;rw[av c] at a;exact d a (b N)
    ·rename_i c;rw[ao c] at a;split
     ·rename_i c;rw[av c] at a;exact d a (b N)
     ·rename_i c;rw[ao c] at a;exact absurd a (show ¬ (11:Int)=0 by decide)
structure MG (Q:Sys) (n k:Nat) (s:MS):Prop where
 XY:x9 n s
 Nv:NK Q s.h.s
 now:s.ep.now<=(k:Int)
 ms:s.ms.length<=5000*k
 op:s.op.length<=k
 vm: ∀y∈s.cs,y.vm<9223372036854775808
section
variable {Q:Sys} {n k:Nat} {s:MS} {gh:Gh} {ta:Int->Bool}
theorem Py (M:MI gh ta n s):s.ep.ws.length<=4096:=by
 have:=tM _ _ M.wn λf a=>by
  obtain⟨e,b,rfl⟩:=B6.1 a;obtain⟨m,d,h1,c, _⟩:=M.k5 _ (M.wk e b).1;rw[h1];exact B6.2 ⟨m,Bx.2 (B1.1 c).1,rfl⟩
 rw[DA,DA,Ds] at this;have:=M.hi.inv.le;omega
theorem MG.bn (H:MG Q n k s) (d:k<=100000):Bn s:=by
 obtain⟨gh,ta,M⟩:=H.XY;have f:=M.nn;have h1:=M.lc;have g:=M.lb;have h:=M.lp;have i:=M.sz;have l:=H.now;have m:=H.ms;have o:=H.op;have p:=Py M;exact⟨by omega,by omega,by omega,⟨M.nw,by omega⟩,by omega,λe a=>(M.wk e a).2,by omega,by omega,λq b=>by
  obtain⟨j,c⟩:=GD b;have:=M.box c;omega,by omega,M.tl,H.vm,M.ar⟩
theorem MG.rdy (H:MG Q n k s):Ca Q s.h:=by
 obtain⟨gh,ta,M⟩:=H.XY;exact M.hi.rdy H.Nv
theorem MG.sx (H:MG Q n k s) (X:k<=100000) {i:Nat} {x:bU} (u:s.cs[i]? =some x):Sx s i x:=by
 obtain⟨gh,ta,M⟩:=H.XY;have g:=DB u;have G:=M.ar x g;have Y:=H.op;have Z:=M.hi.inv.le;refine⟨M.ph x g,λb=>?_,λb I J=>?_,λA=>?_,λo=>?_,λB=>?_,λa q v=>?_⟩
 ·obtain⟨l,w1,K, _⟩:=M.wl u b;rw[w1];omega
 ·obtain⟨C,D,sy⟩:=M.ac x g b;obtain⟨l,w1,K,N,r⟩:=M.wl u b;have w:=xQ ⟨G.1.1,D⟩;have L:x.wk=(x.wk.1,(l:Int),(0,0,0,0,())):=BI rfl (BI w1 N);obtain⟨O,P,hr,R,uL,rl⟩:=xO M C;have n8:=Fe (x:=x.wk) (by rw[w1];omega) I J;have v:bu s.h.s O.root false (x.c.2.1 / 16)=((bz s.h.s.1 (x.c.2.1 / 16) (aV x.c.1) x.wk).2.2.1,(bz s.h.s.1 (x.c.2.1 / 16) (aV x.c.1) x.wk).2.2.2.1,0,()):=by
   rcases r with r|r
   ·rcases M.hi.inv.nc M.hi.nl (t:=aV x.c.1) R w r with ⟨m, _,E,z,k3,k4⟩|⟨E,z⟩
    ·rw[<-L] at E;rw[I] at E;omega
    ·rw[<-L] at z;exact z J
   ·obtain⟨_,z⟩:=M.hi.inv.qo (t:=aV x.c.1) w K r.1
    grind
  have S:iw s.h x.vm.toNat (x.c.2.1 / 16)=((bz s.h.s.1 (x.c.2.1 / 16) (aV x.c.1) x.wk).2.2.1,(bz s.h.s.1 (x.c.2.1 / 16) (aV x.c.1) x.wk).2.2.2.1,0,()):=by rw[bM P];exact v
  have T:ng s.h x.vm.toNat (x.c.2.1 / 16)=some (bz s.h.s.1 (x.c.2.1 / 16) (aV x.c.1) x.wk).2.2.1:=by rw[mC,S];rfl
  obtain⟨m,d,rh,U,d4, _⟩:=M.hi.TC T;have:=(B1.1 U).1;unfold Z7
  grind
 ·obtain⟨⟨m,d,h1,b, _⟩, _⟩:=M.rc u A;have:=(B1.1 b).1;omega
 ·obtain⟨h1,b, _⟩:=M.wt x g o;refine⟨by omega,?_,λf F=>?_⟩
  ·have:=tM x.fs _ (M.fn x g o) λf F=>by
    obtain⟨m,d,h1,b, _⟩:=M.k5 _ (M.fk x g o f F).1;rw[h1];exact B6.2 ⟨m,Bx.2 (B1.1 b).1,rfl⟩
   grind
  ·obtain⟨m,d,h1,b, _⟩:=M.k5 _ (M.fk x g o f F).1;omega
 ·unfold jt at B;simp only[DE,decide_eq_true_eq] at B;obtain⟨h0,C, _,D⟩:=B;have w:=xQ ⟨G.1.1,D⟩;have hb:=(MZ M.hi C w).1;unfold rB at hb ⊢;simp only[M5,decide_eq_false_iff_not] at hb ⊢;refine⟨⟨hb.1.1,by omega⟩,?_⟩;unfold aV;split
  ·decide
  ·split<;>decide
 ·have h1:=M.fP v B4;obtain⟨j,y, _,A,o,V⟩:=(M.aq v).2 a B4;have h6:=(M.wt y (DB A) o).1;have e:a.1=y.ak:=by rw[V]
  refine⟨⟨by omega,h1⟩,?_⟩;have W:=M.oc (a.1 - 1).toNat (by omega);rw[W];have h8:=List.countP_le_length (p:=λq=>jH q (((a.1 - 1).toNat:Int)+1)) (l:=s.bx);have h9:=M.lb;have Fk:=M.nn;omega
structure Cn (s s':MS):Prop where
 now:s'.ep.now<=s.ep.now+1
 ms:s'.ms.length<=s.ms.length+5000
 op:s'.op.length<=s.op.length+1
 wd:s'.h.s.1.length=s.h.s.1.length
 vm: ∀y∈s'.cs,y.vm=0\/ ∃x∈s.cs,x.vm=y.vm
theorem Cn.same (s:MS):Cn s s:=⟨by omega,by omega,by omega,rfl,by grind⟩
theorem Cn.set {s':MS} (h:Cn s s') {i:Nat} {x:bU} (y:bU) (b:y.vm=0\/ ∃x∈s.cs,x.vm=y.vm):Cn s (a_ s' i y):=by
 refine⟨h.now,h.ms,h.op,h.wd,λz a=>?_⟩;rcases iq a with rfl|a
 ·grind
 ·exact h.vm z a
theorem u6: ∀(l:List Int) (s:MS),(l.foldl il s).h.s.1=s.h.s.1/\(l.foldl il s).op=s.op/\(l.foldl il s).ep=s.ep
 |[],s=>⟨rfl,rfl,rfl⟩
 |f::l,s=>by
  rw[GI,(u6 l _).1,(u6 l _).2.1,(u6 l _).2.2];refine⟨?_,rfl,rfl⟩;show(iG _ f).1= _;unfold iG;grind
theorem Cn.free (a:s.ep.ws.length<=4096):Cn s (dM s).1:=by
 have b:(oC (fo s.ep)).length<=4096:=by
  unfold oC;rw[jP];rw[u5];grind
 unfold dM;refine⟨?_,?_,?_,?_,?_⟩
 ·rw[(u6 _ _).2.2];exact(Px _).2
 ·rw[CK];grind
 ·rw[(u6 _ _).2.1];grind
 ·rw[(u6 _ _).1]
 ·rw[CM];grind
theorem Cn.post {s':MS} (h:Cn s s') (b:s'.op=s.op) (bx:List (List AK)) (i:Nat) (t p:Int) (a:List (List AK)):Cn s {s' with bx:=a,op:=(dG bx s.op i t p).2.2}:=by
 refine⟨h.now,h.ms,?_,h.wd,h.vm⟩;unfold dG
 grind
theorem Cn.call {i:Nat} {x:bU} (b:x∈s.cs):Cn s (iI s i x).1:=by
 have h1:Cn s {s with h:=jB _ x.vm x.c.1 x.c.2.1 x.c.2.2.1 x.c.2.2.2.1,kn:=s.kn++eh s (jB s.h x.vm x.c.1 x.c.2.1 x.c.2.2.1 x.c.2.2.2.1),ms:=s.ms++[(1,x.vm,0,x.c,wP s.h x.vm x.c.1 x.c.2.1 x.c.2.2.1 x.c.2.2.2.1,qH s.h x.vm x.c.1 x.c.2.1 x.c.2.2.1 x.c.2.2.2.1)]}:=
  ⟨by grind,by simp,by simp,Pu ..,by grind⟩
 have a: ∀y:bU,y.vm=x.vm->y.vm=0\/ ∃x∈s.cs,x.vm=y.vm:=λy e=> .inr (by grind);unfold iI;dsimp;split
 ·split
  ·exact h1.set (x:=x) _ (a _ rfl)
  ·exact(h1.post rfl _ _ _ _ _).set (x:=x) _ (a _ rfl)
 ·exact h1.set (x:=x) _ (a _ rfl)
theorem Cn.phase (d:s.ep.ws.length<=4096) {i:Nat} {x:bU} (f:x∈s.cs):Cn s (bO s i x).1:=by
 have b: ∀y:bU,y.vm=x.vm->y.vm=0\/ ∃x∈s.cs,x.vm=y.vm:=λy e=> .inr ⟨x,f,e.symm⟩;have c: ∀e:vu,e.now=s.ep.now->Cn s {s with ep:=e}:=λe h=>⟨by show e.now<= _;omega,by show s.ms.length<= _;omega,by show s.op.length<= _;omega,rfl,λy a=> .inr ⟨y,a,rfl⟩⟩;have g:(mJ s.ep i).now=s.ep.now:=by unfold mJ;split<;>rfl
 unfold bO;split
 ·exact Cn.free d
 split
 ·unfold dp;split
  ·dsimp only;split<;>exact(c _ g).set (x:=x) _ (b _ rfl)
  split
  ·exact Cn.same s
  split
  ·exact Cn.free d
  ·exact Cn.call f
 split
 ·unfold j_;dsimp only;split
  ·exact(Cn.same s).set (x:=x) _ (b _ rfl)
  split
  ·exact(c (oO s.ep i) rfl).set (x:=x) _ (b _ rfl)
  ·exact(Cn.same s).set (x:=x) _ (b _ rfl)
 split
 ·unfold fO;dsimp only;split
  ·exact⟨by show s.ep.now<= _;omega,by simp,by show s.op.length<= _;omega,cF ..,λy a=> .inr ⟨y,a,rfl⟩⟩
  ·exact⟨by show s.ep.now<= _;omega,by grind,by show s.op.length<= _;omega,rfl,λy a=> .inr ⟨y,a,rfl⟩⟩
 ·unfold iJ;split
  ·exact c _ (zh _ _).1
  ·exact Cn.same s
theorem Cn.step (g:s.ep.ws.length<=4096) (c:Int):Cn s (aP s c).1:=by
 have h: ∀{i:Nat} {x:bU},x∈s.cs->Cn s (gJ (bO s i x) i x).1:=λ{i x} d=>by
  unfold gJ;split
  ·exact(Cn.phase g d).set (x:=x) _ (.inl rfl)
  ·exact Cn.phase g d
 unfold aP;split
 ·exact Cn.same s
 split
 ·exact Cn.same s
 ·rename_i x k;have d:=DB k;unfold jz;split
  ·exact h d
  ·split
   ·rename_i a s1 f;unfold s9 at f;split at f
    ·cases f;have l: ∀y:bU,y.vm=x.vm->y.vm=0\/ ∃x∈s.cs,x.vm=y.vm:=λy e=> .inr ⟨x,d,e.symm⟩;have h0: ∀(b:List (List AK)) (j:Nat) (v:Int),Cn s {s with bx:=b,op:=s.op.set j v}:=λb j v=>⟨by grind,by simp,by simp,rfl,by grind⟩;exact(h0 _ _ _).set (x:=x) _ (l _ rfl)
    ·cases f
   ·exact h d
theorem MG.step (H:MG Q n k s) (c:Int):MG Q n (k+1) (aP s c).1:=by
 obtain⟨gh,ta,M⟩:=H.XY;have C:=Cn.step (Py M) c;have h1:=H.now;have d:=H.ms;have f:=H.op;have g:=C.now;have h:=C.ms;have i:=C.op;refine⟨H.XY.step c,⟨by rw[C.wd];exact H.Nv.1,by rw[C.wd];exact H.Nv.2⟩,by omega,by omega,by omega,λy a=>?_⟩;rcases C.vm y a with e|⟨x,b,e⟩
 ·grind
 ·rw[<-e];exact H.vm x b
theorem MG.mono (H:MG Q n k s) {a:Nat} (h:k<=a):MG Q n a s:=by
 have h1:=H.now;have b:=H.ms;have c:=H.op;exact⟨H.XY,H.Nv,by omega,by omega,by omega,H.vm⟩
theorem MG.ask (H:MG Q n k s) (c vm:Int) (hv:vm<9223372036854775808) {ct:CT} (hc:cI ct.2.1/\cI ct.2.2.1/\cI ct.2.2.2.1):MG Q n k (cA s c vm ct):=by
 refine⟨H.XY.ask c vm hc,?_,?_,?_,?_,?_⟩<;>unfold cA
 ·split
  ·exact H.Nv
  ·split
   ·exact H.Nv
   ·split<;>exact H.Nv
 ·split
  ·exact H.now
  ·split
   ·exact H.now
   ·split<;>exact H.now
 ·split
  ·exact H.ms
  ·split
   ·exact H.ms
   ·split<;>exact H.ms
 ·split
  ·exact H.op
  ·split
   ·exact H.op
   ·split<;>exact H.op
 ·split
  ·exact H.vm
  ·split
   ·exact H.vm
   ·split
    ·intro y a;rcases iq a with rfl|a
     ·grind
     ·exact H.vm y a
    ·exact H.vm
theorem MG.new {f:Nat} {l:Int} (a:4<=f/\f<=4096) (b:1<=n/\n<=8) (d:1<=l/\l<=64) (g:Q.c=16*f):MG Q n 0 (m0 f n l):=by
 refine⟨x9.new a b d,⟨?_,?_⟩,GJ _,E5 _,E5 _,λy e=>?_⟩
 ·show(BQ _ _).length<=Q.c
  grind
 ·show(BQ _ 0).length<= _
  grind
 ·rw[Dk e];decide
end
noncomputable def U4:dI AA:={U2 with quiet:=[49,50,17]++U2.quiet}
def qY:Nat->a8:=(λ|5=>[(10,Go.RX.El.one (Go.RX.Sc.int FO))]| _=>[])
theorem Nd (f c l:Int) (w:A2) (d:Option AN×Bool×Unit->A2->Prop):(aI U4 qY 15 [aa f,aa c,aa l] w d)=(
 aA AA 52 (.bA [.one .ptr,.one (.int .i64)]) [aa f,aa c,aa l] w λ(x:Option AN×Int×Unit) a=>aH (x.2.1 != 0||x.1.isNone) (au a (d (none,false,()))) (∃(I:Nat->Int×Unit->A2->Prop),(∃n, ∀w1,Ext a w1->I n (0,()) w1)/\ ∀(n:Nat) (s:Int×Unit) (w1:A2),I n s w1->aH (decide (s.1<2)) (aA AA 29 (.el aX) [ag x.1,aa 0,aa 0,.agg ⟨[aa 1,ay 0,ay 0,ay 0]⟩] w1 λ(h:Int) a=>aH (h != 0) (au a (d (none,false,()))) (aA
 AA 31 (.bA [.agg [.int .u64,.int .i64],.one .bool]) [ag x.1,aa 0] a λ(x:(Int×Int×Unit)×Bool×Unit) a=>aM a ⟨[ay 0,aa 0]⟩ 61 λb a=>az a (ae b) [ay x.1.1,aa x.1.2.1] λa=>((!!x.2.1)=true->true=true)/\aj a (some !!x.2.1) (ad (ae b) 0) ru λ(i:Int)=>aH (!x.2.1||i != aG .u64 (aL .i64 1 s.1)) (au a (d (none,false,()))) (∀e,Ext a e-> ∃(g:Nat),g<n/\I g (aL .i64 s.1 1,()) e))) (au w1 (d (x.1,true,()))))):=by kernel_rfl
def qZ:Nat->a8:=(λ|1=>[(6,Go.RX.El.one (Go.RX.Sc.int FO))]|4=>[(7,Go.RX.El.one (Go.RX.Sc.int FO))]| _=>[])
theorem Nf (p:Option AN) (c r:Int) (w:A2) (f:Unit->A2->Prop):(aI U4 qZ 48 [ag p,aa c,aa r] w f)=(
 ∃(I:Nat->Int×Unit->A2->Prop),(∃n, ∀w1,Ext w w1->I n (0,()) w1)/\ ∀(n:Nat) (s:Int×Unit) (w1:A2),I n s w1->aH (decide (s.1<r)) (∃(e:Nat->Int×Unit->A2->Prop),(∃n, ∀g,Ext w1 g->e n (0,()) g)/\ ∀(h:Nat) (d:Int×Unit) (w1:A2),e h d w1->aH (decide (d.1<c)) (aA AA 31 (.bA [.agg [.int .u64,.int .i64],.one .bool]) [ag p,aa d.1] w1 λ(x:(Int×Int×Unit)×Bool×Unit) i=> ∀a,Ext i a-> ∃(b:Nat),b<h/\e b (aL .i64 d.1 1,()) a) (∀a,
 Ext w1 a-> ∃(b:Nat),b<n/\I b (aL .i64 s.1 1,()) a)) (au w1 (f ()))):=by kernel_rfl
def q_:Nat->a8:=(λ|10=>[(9,Go.RX.El.one (Go.RX.Sc.int FO))]| _=>[])
theorem Ng (w:A2) (f:Bool->A2->Prop):(aI U4 q_ 46 [] w f)=(
 aA AA 15 (.bA [.one .ptr,.one .bool]) [aa 30,aa 2,aa 4] w λx a=>aA AA 52 (.bA [.one .ptr,.one (.int .i64)]) [aa 30,aa 9,aa 4] a λ(q:Option AN×Int×Unit) a=>aH (!x.2.1) (au a (f false)) (aA AA 29 (.el aX) [ag x.1,aa 0,aa 1,.agg ⟨[aa 3,ay 5,ay 3,ay 0]⟩] a λ(r:Int) a=>aA AA 29 (.el aX) [ag x.1,aa 0,aa 1,.agg ⟨[aa 15,ay 0,ay 0,ay 0]⟩] a λ(t:Int) a=>aA
 AA 31 (.bA [.agg [.int .u64,.int .i64],.one .bool]) [ag x.1,aa 0] a λ(k:(Int×Int×Unit)×Bool×Unit) a=>aM a ⟨[ay 0,aa 0]⟩ 61 λb a=>az a (ae b) [ay k.1.1,aa k.1.2.1] λa=>aA AA 29 (.el aX) [ag x.1,aa 1,aa 1,.agg ⟨[aa 7,ay 81,ay 7,ay 0]⟩] a λ(F:Int) a=> ∃(I:Nat->Int×Unit->A2->Prop),(∃n, ∀w1,Ext a w1->I n (0,()) w1)/\ ∀(n:Nat) (s:Int×Unit) (w1:A2),I n s w1-> ∃(u:Int),(decide (s.1<9)=
 true->af AA 49 [ag x.1,aa 1] w1 (aa u))/\aH (decide (s.1<9)&&u != 0) (aA AA 31 (.bA [.agg [.int .u64,.int .i64],.one .bool]) [ag x.1,aa 1] w1 λ(x:(Int×Int×Unit)×Bool×Unit) a=> ∀v,Ext a v-> ∃(y:Nat),y<n/\I y (aL .i64 s.1 1,()) v) (aA AA 29 (.el aX) [ag x.1,aa 0,aa 1,.agg ⟨[aa 4,ay 5,ay 0,ay 0]⟩] w1 λ(G:Int) a=>aA AA 31 (.bA [.agg [.int .u64,.int .i64],.one .bool]) [ag x.1,aa 0] a λ(H
 :(Int×Int×Unit)×Bool×Unit) a=>aA AA 31 (.bA [.agg [.int .u64,.int .i64],.one .bool]) [ag x.1,aa 0] a λ(l:(Int×Int×Unit)×Bool×Unit) a=>aM a ⟨[ay 0,aa 0]⟩ 61 λD a=>az a (ae D) [ay l.1.1,aa l.1.2.1] λa=> ∃(z:Int),af AA 50 [ag x.1,aa 1] a (aa z)/\aA AA 51 (.el fi) [ag x.1,aa 1] a λE a=>aA AA 31 (.bA [.agg [.int .u64,.int .i64],.one .bool]) [ag x.1,aa 1] a λ(J:(Int×Int×Unit)
 ×Bool×Unit) a=>aA AA 31 (.bA [.agg [.int .u64,.int .i64],.one .bool]) [ag x.1,aa 0] a λ(h:(Int×Int×Unit)×Bool×Unit) a=>aM a ⟨[ay 0,aa 0]⟩ 61 λm a=>az a (ae m) [ay h.1.1,aa h.1.2.1] λa=>aA AA 32 (.el fi) [ag x.1] a λo a=>aA AA 41 (.el fi) [ag x.1] a λd a=>aA AA 48 (.bA []) [ag x.1,aa 2,aa 3] a λK a=>aj a (some (q.2.1==1&&r==0&&t==9)) (ae b) cD λ(A:Int×Int×Unit)=>
 aH (q.2.1==1&&r==0&&t==9&&(A.1==2&&(A.2.1==0&&true))&&k.2.1&&s.1==6&& !l.2.1&&z==1&&(↑E.2.1:Int)==1) (aA AA 51 (.el fi) [ag x.1,aa 1] a λi a=>aj a (some ((↑i.2.1:Int)==0)) (ae m) cD λ(e:Int×Int×Unit)=>(((↑i.2.1:Int)==0&&(e.1==2&&(e.2.1==0&&true))&&h.2.1&&(↑o.2.1:Int)==4&&(↑d.2.1:Int)==5)=true->d.1.isSome=true/\(0:Int)<=3/\3<(↑d.2.1:Int))/\aj a (some ((↑i.2.1:Int)==0&&(e.1==2&&(e.2.1==
 0&&true))&&h.2.1&&(↑o.2.1:Int)==4&&(↑d.2.1:Int)==5)) (ad d.1 27) Yl λ(c:Int×Int×Int×Int×Int×Int×Int×Int×Int×Unit)=>aH ((↑i.2.1:Int)==0&&(e.1==2&&(e.2.1==0&&true))&&h.2.1&&(↑o.2.1:Int)==4&&(↑d.2.1:Int)==5&&(c.1==4&&(c.2.1==0&&(c.2.2.1==33&&(c.2.2.2.1==0&&(c.2.2.2.2.1==0&&(c.2.2.2.2.2.1==0&&(c.2.2.2.2.2.2.1==0&&true)))&&(c.2.2.2.2.2.2.2.1==7&&(c.2.2.2.2.2.2.2.2.1==0&&true)&&true)))))) (aA AA 32 (.el fi)
 [ag x.1] a λg a=> ∃(j:Option AN),(((↑g.2.1:Int)==0)=true->af AA 17 [ag x.1] a (ag j))/\aH ((↑g.2.1:Int)==0) (aA AA 18 (.el lW) [ag j] a λp a=>aA AA 30 (.el aX) [ag p,aa 5] a λ(B:Int) a=> ∃(C:Int),((B==0)=true->af AA 49 [ag x.1,aa 2] a (aa C))/\au a (f (B==0&&C==0))) (∃(p:Int),(false=true->af AA 49 [ag x.1,aa 2] a (aa p))/\au a (f false))) (∃
 (g:Option AN),(false=true->af AA 17 [ag x.1] a (ag g))/\ ∃(j:Int),(false=true->af AA 49 [ag x.1,aa 2] a (aa j))/\au a (f false))) (aj a (some false) (ae m) cD λ(i:Int×Int×Unit)=>(false=true->d.1.isSome=true/\(0:Int)<=3/\3<(↑d.2.1:Int))/\aj a (some false) (ad d.1 27) Yl λ(e:Int×Int×Int×Int×Int×Int×Int×Int×Int×Unit)=> ∃(c:Option AN),(false=true->af AA 17 [ag x.1] a (ag c))/\ ∃(g:Int),
 (false=true->af AA 49 [ag x.1,aa 2] a (aa g))/\au a (f false))))):=by kernel_rfl
def kA:MS:=cA (yd 30 2 4) 0 1 (3,5,3,0,())
def kB:MS:=(aP kA 0).1
def kC:MS:=cA kB 1 1 (7,81,7,0,())
def kD (j:Nat):MS:=j.rec kC λ_ s=>(aP s 1).1
def kE:MS:=cA (kD 6) 0 1 (4,5,0,0,())
def kF:MS:=(aP kE 0).1
def kG:MS:=(aP kF 0).1
def kH:MS:=(aP kG 1).1
def kI':MS:=(aP kH 0).1
def kJ:MS:=F2 2 3 kI'
def aaH:Bool:=rI (yd 30 2 4) 0==0&&(rI kA 0==9&&((aP kA 0).2==((2,0),true)&&(Dh kC 1 != 0&&(Dh (kD 1) 1 != 0&&(Dh (kD 2) 1 != 0&&(Dh (kD 3) 1 != 0&&(Dh (kD 4) 1 != 0&&(Dh (kD 5) 1 != 0&&Dh (kD 6) 1==0))))))))
theorem V8:aaH=true:=by decide+kernel
def aaI:Bool:=(aP kF 0).2.2==false&&(TT kG 1==1&&((lnN kG 1).length==1&&((aP kH 0).2==((2,0),true)&&(kI'.ep.ws.length==4&&(kI'.ms.length==5&&(kI'.ms[3]? ==some (4,0,33,(0,0,0,0,()),7,0)&&(lnN kJ 1==[]&&(kJ.ep.ws==[]&&(cd kJ.h.s.2 5==0&&Dh kJ 2==0)))))))))
theorem V9:aaI=true:=by decide+kernel
section
variable {Q:Sys} {X:HX} {D G:List Nat} {w0 w w1:A2} {R:MR} {s:MS} {T L:List (Nat×List AC)} {M:List (Nat×B3)} {n k:Nat}
theorem MU.dm (H:MU Q X D G w0 w R s T L M) {x:Nat×List AC} (a:x∈T):bN w x.1 x.2:=by
 obtain⟨L0,K,h⟩:=H.base;exact K.dm _ (h x a)
theorem jT (H:MU Q X D G w0 w R s T L M) (a:MG Q n k s) (b:k<=100000) (c:Int) {K:BR->A2->Prop}
 (kk: ∀d,MU Q X D G w0 d R (aP s c).1 T L M->K (((aP s c).2.1.1,(aP s c).2.1.2,()),(aP s c).2.2,()) d):
 aA AA 31 NP [ag (ae R.mb),aa c] w K:=
 SX H (a.bn b) a.rdy (λ_ _ e=>a.sx b e) c kk
theorem abI {f n:Nat} {l:Int} {j:Nat} {s:MS} (B:Bg f n l j s) (a:j<16) (b:j<f) (c:1<=n):(aP (cA s 0 0 wQ) 0).2=((((j+1:Nat):Int),0),true)/\Bg f n l (j+1) (aP (cA s 0 0 wQ) 0).1/\rI s 0=0:=B.Dv a b c
theorem BF (H:aJ D G w0 w L) (f c:Nat) (l:Int) (p:20<=f/\f<=4096) (hc:1<=c/\c<=8) (a:1<=l/\l<=64) {K:Option AN×Bool×Unit->A2->Prop}
 (q: ∀Q X R w1,MU Q X D G w0 w1 R (yd f c l) [] L []->MG Q c 2 (yd f c l)->K (some ⟨R.mb,0,none⟩,true,()) w1):
 aA AA 15 (.bA [.one .ptr,.one .bool]) [aa (f:Int),aa (c:Int),aa l] w K:=by
 refine aA.go H λw1 H=>ai (C:=U4) (aS:=qY) (B2 (Nd _ _ l w1 K) ?_);refine xz H _ _ l (by omega) a (λh=>by omega) λ_ _ Q X R F g H=>an rfl ?_;rw[Bs,Bs] at H;rw[Bs] at g;have hb:yd f c l=(aP (cA (aP (cA (m0 f c l) 0 0 wQ) 0).1 0 0 wQ) 0).1:=rfl;refine⟨λn st d=> ∃(j:Nat) (s:MS),j<=2/\n=2 - j/\st.1=(j:Int)/\Bg f c l j s/\(j=0->s=m0 f c l)/\(j=1->s=(aP (cA (m0 f c l) 0 0 wQ) 0).1)/\(j=2->s=yd f c l)/\MG Q c j s/\MU Q X D G w0 d R s [] L [],⟨2,λd r=>⟨0,m0 f c l,by omega,rfl,rfl,Bg.new p hc a,λ_=>rfl,λh=>(by cases h),λh=>(by cases h),MG.new (by omega) hc a g,H.ext r⟩⟩,?_⟩;clear H;rintro n ⟨t, _⟩ d ⟨j,s,I,u,hi,v,x,y,i,k,H⟩;have hi:t=(j:Int):=hi;subst hi u;dsimp only;refine ab (λe=>?_) (λe=>?_)
 ·have J:j<2:=by have:=of_decide_eq_true e;omega
  obtain⟨z,A,B⟩:=abI v (by omega) (by omega) hc.1;have m:MG Q c j (cA s 0 0 wQ):=k.ask 0 0 (by decide) ⟨⟨by decide,by decide⟩,⟨by decide,by decide⟩,⟨by decide,by decide⟩⟩;refine nQ H 0 0 1 λo H=>?_;rw[B];refine an rfl (jT H m (by omega) 0 λM H=>?_);rw[z];refine H.al λb N H=>H.st 0 rfl rfl rfl λO H=>⟨λ_=>rfl,H.cH 0 rfl (show _=some ((j+1:Nat):Int) from rfl) (an ?_ λP E=>⟨2 - (j+1),by omega,j+1,(aP (cA s 0 0 wQ) 0).1,by omega,rfl,?_,A,λh=>(by omega),λh=>?_,λh=>?_,m.step 0,(MU.sub H (LL _)).ext E⟩)⟩
  ·have:j=0\/j=1:=by omega
   rcases this with rfl|rfl<;>decide
  ·rw[ax (by omega) (by omega)];omega
  ·rw[x (by omega)]
  ·rw[hb,y (by omega)]
 ·have:j=2:=by have:=of_decide_eq_false e;omega
  subst this;refine H.en λo H=>q Q X R o (by rw[<-i rfl];exact H) (by rw[<-i rfl];exact k)
theorem MG.run: ∀(l:List Nat) {k:Nat} {s:MS},MG Q n k s->MG Q n (k+l.length) (Kd s l)
 |[], _, _,h=>h
 |c::l,k,s,h=>by
  have:=MG.run l (h.step (c:Int));rw[JR,show k+(l.length+1)=k+1+l.length by omega];exact this
theorem MG.rnd (H:MG Q n k s) (m:Nat): ∀r,MG Q n (k+r*m) (F2 m r s)
 |0=>by rw[Nat.zero_mul];exact H
 |r+1=>by
  have:=MG.run (Ak m) (MG.rnd H m r);rw[Ds] at this;rw[Nat.succ_mul, <-Nat.add_assoc];exact this
theorem SZ {m j:Nat} (s:MS) (h:j<m):Kd s ((Ak m).take (j+1))=(aP (Kd s ((Ak m).take j)) (j:Int)).1:=by
 unfold Kd;rw[I1,H7 h,I2];rfl
theorem Nh (H:MU Q X D G w0 w R s T L M) (o:MG Q n k s) (m r:Nat) (B:k+r*m<=100000) (E:m<=1000) (F:r<=1000) {K:Unit->A2->Prop} (kk: ∀a,MU Q X D G w0 a R (F2 m r s) T L M->K () a):
 aA AA 48 (.bA []) [ag (ae R.mb),aa (m:Int),aa (r:Int)] w K:=by
 refine H.go λw1 H=>ai (C:=U4) (aS:=qZ) (B2 (Nf _ _ _ w1 K) ?_);refine⟨λg st a=> ∃j:Nat,j<=r/\g=r - j/\st.1=(j:Int)/\MU Q X D G w0 a R (F2 m j s) T L M,⟨r,λa p=>⟨0,E4 _,rfl,rfl,H.ext p⟩⟩,?_⟩;clear H;rintro g ⟨d, _⟩ a ⟨j,q,t,hi,H⟩;have hi:d=(j:Int):=hi;subst hi t;dsimp only;refine ab (λc=>?_) (λc=>?_)
 ·have q:j<r:=by have:=of_decide_eq_true c;omega
  have u:=o.rnd m j;have I:j*m+m<=r*m:=by
   have:=Nat.mul_le_mul_right m (show j+1<=r by omega);rw[Nat.succ_mul] at this;exact this
  refine⟨λh st b=> ∃i:Nat,i<=m/\h=m - i/\st.1=(i:Int)/\MU Q X D G w0 b R (Kd (F2 m j s) ((Ak m).take i)) T L M,⟨m,λb v=>⟨0,E4 _,rfl,rfl,H.ext v⟩⟩,?_⟩;clear H;rintro h ⟨d, _⟩ b ⟨i,J,x,f,H⟩;have f:d=(i:Int):=f;subst f x;dsimp only;refine ab (λc=>?_) (λc=>?_)
  ·have hi:i<m:=by have:=of_decide_eq_true c;omega
   have l:=MG.run ((Ak m).take i) u;rw[JW,Ds] at l;refine jT H l (by omega) (i:Int) λy H N z=>⟨m - (i+1),by omega,i+1,by omega,rfl,?_,?_⟩
   ·rw[ax (by omega) (by omega)];omega
   ·rw[SZ _ hi];exact H.ext z
  ·have:i=m:=by have:=of_decide_eq_false c;omega
   subst this;refine λy A=>⟨r - (j+1),by omega,j+1,by omega,rfl,?_,?_⟩
   ·rw[ax (by omega) (by omega)];omega
   ·have e:(Ak i).take i=Ak i:=List.take_of_length_le (by rw[Ds];exact E5 _);rw[e] at H;exact H.ext A
 ·have:j=r:=by have:=of_decide_eq_false c;omega
  subst this;exact H.en λb H=>kk b H
theorem HV (H:MU Q X D G w0 w R s T L M) {K:Option AN->A2->Prop} (k: ∀bp bf c rest a,MU Q X D G w0 a R s ((bp,[.slice (ae bf) s.h.s.2.length c])::(bf,flat eD s.h.s.2++rest)::T) L M->K (ae bp) a):
 aA AA 18 (.el (.one .ptr)) [ag (ae X.hb)] w K:=by
 obtain⟨A,i,L0,S,b, _,J⟩:=H.sat;exact zH S b λd e f g a S=>k d e f g a (J (T':=[_, _]) S)
theorem Ni (H:MU Q X D G w0 w R s T L M) {bp bf c:Nat} {ds:List DT} {rest:List AC} (h1:(bp,[.slice (ae bf) ds.length c])∈T) (b:(bf,flat eD ds++rest)∈T) (v:Int) (d:ds.length<=4096) {K:Int->A2->Prop} (k: ∀a,MU Q X D G w0 a R s T L M->K (cd ds v:Int) a):
 aA AA 30 (.el (.one (.int .i64))) [ag (ae bp),aa v] w K:=by
 refine H.go λw1 H=>(Eg (H.dm h1) (H.dm b) rfl d v).mono λx a ⟨e,h⟩=>?_;subst e;exact k a (H.ext h)
end
section
variable {Q:Sys} {X:HX} {D G:List Nat} {w0 w w1:A2} {R:MR} {s:MS} {T L:List (Nat×List AC)} {M:List (Nat×B3)} {n k:Nat}
theorem MU.ldm (H:MU Q X D G w0 w R s T L M) {g:Option Bool} {el:El} {K:el.T->Prop} {b o:Nat} {l:List AC} {x:el.T} (a:(b,l)∈T) (hv:k_ l o el=some x) (k:K x):aj w g (some ⟨b,o,none⟩) el K:=by
 obtain⟨i,hi⟩:=GD a;exact H.ld i hi hv k
theorem MU.sl (H:MU Q X D G w0 w R s T L M) {e:El} {r:Option AN×Nat×Nat} {xs:List e.T} {a:List (Nat×List AC)} (b:du e r xs a) (c: ∀x∈a,x∈T) {i:Nat} {x:e.T} (d:xs[i]? =some x):r.1.isSome=true/\cQ w (ad r.1 (i*aD e)) e x:=by
 obtain⟨L0,K,h⟩:=H.base;exact b.sl K (λy f=>h y (c y f)) i x d
theorem S3 {f c l:Int} (d:4<=f/\f<=4096) (e:1<=l/\l<=64) (hc:c<1\/c>8) {K:Option AN×Int×Unit->A2->Prop} (k: ∀w1,Ext w w1->K (none,1,()) w1):
 aA AA 52 (.bA [.one .ptr,.one (.int .i64)]) [aa f,aa c,aa l] w K:=λw1 h1=>
 xz (At.start [] w1) f c l d e (λ_ g H=>k g (Ext.trans h1 H.all)) (λa b=>by omega) w1 (Ext.refl w1)
theorem V_: ∃(c sA e f:MS) (sD:Nat->MS) (g sF sG d a b:MS),c=yd 30 2 4/\(sA=cA c 0 1 (3,5,3,0,())/\e=(aP sA 0).1/\f=cA e 1 1 (7,81,7,0,())/\sD 0=f/\(∀j,sD (j+1)=(aP (sD j) 1).1)/\g=cA (sD 6) 0 1 (4,5,0,0,())/\sF=(aP g 0).1/\sG=(aP sF 0).1/\d=(aP sG 1).1/\a=(aP d 0).1/\b=F2 2 3 a)/\
 (rI c 0=0/\rI sA 0=9/\(aP sA 0).2=((2,0),true)/\(∀j,j<6->Dh (sD j) 1≠0)/\Dh (sD 6) 1=0)/\
 ((aP sF 0).2.2=false/\TT sG 1=1/\(lnN sG 1).length=1/\(aP d 0).2=((2,0),true)/\a.ep.ws.length=4/\a.ms.length=5/\a.ms[3]? =some (4,0,33,(0,0,0,0,()),7,0)/\lnN b 1=[]/\b.ep.ws=[]/\cd b.h.s.2 5=0/\Dh b 2=0):=by
 have t1:=V8;unfold aaH at t1;simp only[DE,beq_iff_eq,bne_iff_ne,ne_eq] at t1;obtain⟨a1,i,k,l,p1,p2,p3,p4,m,n⟩:=t1;have t2:=V9;unfold aaI at t2;simp only[DE,beq_iff_eq] at t2;refine⟨_,kA,kB,kC,kD,kE,kF,kG,kH,kI',kJ,rfl,⟨rfl,rfl,rfl,rfl,λ_=>rfl,rfl,rfl,rfl,rfl,rfl,rfl⟩,⟨a1,i,k,λj o=>?_,n⟩,t2⟩;have:j=0\/j=1\/j=2\/j=3\/j=4\/j=5:=by omega
 rcases this with rfl|rfl|rfl|rfl|rfl|rfl
 ·exact l
 ·exact p1
 ·exact p2
 ·exact p3
 ·exact p4
 ·exact m
theorem S4 {s:MS} {c:Int} (h0: ¬ c<0) (h:rI s c≠0) (vm:Int) (ct:CT):cA s c vm ct=s:=by
 unfold cA;unfold rI at h;rw[ao h0] at h ⊢;cases a:s.cs[c.toNat]? with
 |none=>rfl
 |some x=>
  rw[a] at h;dsimp only at h ⊢;rw[ao λc=>h (av c)]
theorem Nj (w:A2):aC AA 46 (.el (.one .bool)) [] w (λb w'=>b=true/\Ext w w'):=by
 obtain⟨s0,sA,P,S,sD,T,sF,sG,U,V,W,h0,⟨o,p,q,r,s,t,u,v,y,z,A⟩,⟨a1,B,Y,Z,p6⟩,c1,c2,c3,c4,c5,c6,c7,c8,c9,XV,c11⟩:=V_;have d: ∀{a:Int},decide (0<=a/\a<18446744073709551616)=true->cI a:=λh=>of_decide_eq_true h;refine ai (C:=U4) (aS:=q_) (B2 (Ng w _) ?_);refine BF (At.start [] w) 30 2 4 (by omega) (by omega) (by omega) λQ X R w1 H D=>S3 (by omega) (by omega) (by omega) λw2 h2=>?_;have H:=H.ext h2;rw[<-h0] at H D;clear h0;refine an rfl ?_;have GA:MG Q 2 2 sA:=by rw[o];exact D.ask 0 1 (by decide) ⟨d rfl,d rfl,d rfl⟩
 have GB:MG Q 2 3 P:=by rw[p];exact GA.step 0
 have GC:MG Q 2 3 S:=by rw[q];exact GB.ask 1 1 (by decide) ⟨d rfl,d rfl,d rfl⟩
 have E: ∀j:Nat,MG Q 2 (3+j) (sD j):=λj=>by
  induction j with
  |zero=>rw[r];exact GC
  |succ j ih=>rw[s];exact ih.step 1
 have GE:MG Q 2 9 T:=by rw[t];exact(E 6).ask 0 1 (by decide) ⟨d rfl,d rfl,d rfl⟩
 have F:MG Q 2 10 sF:=by rw[u];exact GE.step 0
 have f:MG Q 2 11 sG:=by rw[v];exact F.step 0
 have G:MG Q 2 12 U:=by rw[y];exact f.step 1
 have g:MG Q 2 13 V:=by rw[z];exact G.step 0
 have k:MG Q 2 19 W:=by rw[A];exact g.rnd 2 3
 refine nQ H 0 1 3 λw3 H=>?_;rw[a1];rw[<-o] at H;refine nQ H 0 1 15 λw4 H=>?_;rw[B];rw[S4 (by decide) (by rw[B];decide)] at H;refine jT H GA (by decide) 0 λw5 H=>?_;rw[Y];rw[<-p] at H;refine H.al λb w6 H=>H.st 0 rfl rfl rfl λw7 H=>nQ H 1 1 7 λw8 H=>?_;rw[<-q, <-r] at H;refine⟨λn st l=> ∃j:Nat,j<=6/\n=6 - j/\st.1=(j:Int)/\MU Q X [] [] w l R (sD j) [(b,[ay 2,aa 0])] [] [],⟨6,λl h9=>⟨0,by omega,rfl,rfl,H.ext h9⟩⟩,?_⟩;clear H;rintro n ⟨ii, _⟩ l ⟨j,hj,qs,hi,H⟩;have hi:ii=(j:Int):=hi;subst hi qs;dsimp only;refine⟨_,λ_=>zj H 1,ab (λc=>?_) (λc=>?_)⟩
 ·have hj6:j<6:=by
   by_cases e:j=6
   ·subst e;rw[p6] at c;simp at c
   ·omega
  refine jT H (E j) (by omega) 1 λnh H oF H_=>⟨6 - (j+1),by omega,j+1,by omega,rfl,?_,?_⟩
  ·rw[ax (by omega) (by omega)];omega
  ·rw[s];exact H.ext H_
 ·have:j=6:=by
   by_cases e:j=6
   ·exact e
   ·have h6:=Z j (by omega);have:(decide ((j:Int)<9)&&Dh (sD j) 1 != 0)=true:=by
     rw[DE,decide_eq_true_eq,bne_iff_ne];exact⟨by omega,h6⟩
    rw[this] at c;cases c
  subst this;refine nQ H 0 1 4 λnh H=>?_;rw[<-t] at H;refine jT H GE (by decide) 0 λoF H=>?_;rw[<-u] at H;refine jT H F (by decide) 0 λFj H=>?_;rw[<-v] at H;refine H.al λI Ta H=>H.st 0 rfl rfl rfl λNn H=>⟨_,V7 H (f.bn (by decide)).bn 1,?_⟩;rw[c2];refine BE H (f.bn (by decide)).sz (f.bn (by decide)).ls 1 λr11 J Z8 acu H=>?_;have e11:r11.2.1=1:=by rw[acu.1,c3]
  refine jT H f (by decide) 1 λXv H=>?_;rw[<-y] at H;refine jT H G (by decide) 0 λw17 H=>?_;rw[c4];rw[<-z] at H;refine H.al λm w18 H=>H.st 0 rfl rfl rfl λw19 H=>wG H (g.bn (by decide)).ws λr14 K w20 acv H=>?_;have e14:r14.2.1=4:=by rw[acv.1,jP,DA,c5]
  refine Nc H (by rw[c6];decide) λr15 L w21 M H=>?_;have N:r15.2.1=5:=by rw[M.1,DA,c6]
  refine Nh H g 2 3 (by decide) (by decide) (by decide) λw22 H=>?_;rw[<-A] at H;have CZ:(m,[ay 2,aa 0])∈L++(K++((m,[ay 2,aa 0])::(J++[(I,[ay (aP sF 0).2.1.1,aa (aP sF 0).2.1.2]),(b,[ay 2,aa 0])]))):=by simp
  have hb:(b,[ay 2,aa 0])∈L++(K++((m,[ay 2,aa 0])::(J++[(I,[ay (aP sF 0).2.1.1,aa (aP sF 0).2.1.2]),(b,[ay 2,aa 0])]))):=by simp
  refine H.ldm (x:=(2,0,())) hb rfl (aB ?_ ?_)
  ·dsimp only;rw[c1,e11];decide
  refine BE H (k.bn (by decide)).sz (k.bn (by decide)).ls 1 λr18 L18 w23 acw H=>?_;have e18:r18.2.1=0:=by rw[acw.1,c8];rfl
  refine H.ldm (x:=(2,0,())) (B5 _ CZ) rfl ?_;have O:=H.sl M (λx hx=>B5 _ (B8 _ hx)) (i:=3) (x:=XW (4,0,33,(0,0,0,0,()),7,0)) (by rw[H6,c7];rfl);refine⟨λ_=>⟨O.1,by decide,by rw[N];decide⟩,aj.of _ O.2 (aB ?_ ?_)⟩
  ·dsimp only;rw[e18,e14,N];decide
  refine wG H (k.bn (by decide)).ws λr21 L21 w24 acx H=>⟨_,λ_=>SY H,?_⟩;have e21:r21.2.1=0:=by rw[acx.1,jP,DA,c9];rfl
  refine aB (by rw[e21];rfl) (HV H λbp bf c rest w25 H=>Ni H B4 (Ay _ B4) 5 H.sys.2.2.1 λw26 H=>⟨_,λ_=>zj H 2,H.en λw27 H=>⟨?_,H.all⟩⟩);rw[XV,c11];rfl
end
noncomputable def U5:dI AA:={U4 with quiet:=[25,19,21]++U4.quiet}
theorem aaK {x:Int} (h:(Lit.int .u8 x).wf=true):0<=x/\x<256:=by
 simp[Lit.wf,IntKind.min,IntKind.max,IntKind.bits,IntKind.signed] at h;omega
theorem acy {x d:Int} (h:0<=x/\x<256):f_ (aG .i64 x) d=x % d:=by
 rw[bP (by omega)];unfold f_;exact M4 h.1
theorem acz {x:Int} (h:(Lit.int .u8 x).wf=true) (a d:Nat) (b:0<d/\d<=1000) (c:a<=1000):aL .i64 (a:Int) (f_ (aG .i64 x) (d:Int))=((a+x.toNat % d:Nat):Int):=by
 have h:=aaK h;have:(((x.toNat % d:Nat)):Int)=x % (d:Int):=by rw[Int.natCast_emod,Int.toNat_of_nonneg h.1]
 have e:x.toNat % d<d:=Nat.mod_lt _ b.1;rw[acy h, <-this,ax (by omega) (by omega)];omega
section
variable {Q:Sys} {X:HX} {D G:List Nat} {w0 w w1:A2} {R:MR} {s:MS} {T L:List (Nat×List AC)} {M:List (Nat×B3)} {n k:Nat}
theorem ZP (H:MU Q X [] [] w0 w R s T L M):aA AA 46 (.el (.one .bool)) [] w λ(x:Bool) (a:A2)=>au a λ(w1:A2)=>x=true/\Ext w0 w1:=
 aA.val ((At.start [] w0).ext H.all) (s:= .el (.one .bool)) true (λb _=>Nj b) λc H=>au.go H λd H=>⟨rfl,H.all⟩
theorem JL {c:Nat} {x:bU} (a:s.cs[c]? =some x):Dh s (c:Int)=x.ph:=by
 unfold Dh;rw[ao (by omega),Bs,a]
end
noncomputable def U6:dI AA:={U5 with quiet:=[27]++U5.quiet}
def ux:Nat->a8:=(λ|7=>[(9,Go.RX.El.one (Go.RX.Sc.int FO))]|12=>[(10,Go.RX.El.one (Go.RX.Sc.int FO)),(11,Go.RX.El.one Go.RX.Sc.bool)]| _=>[])
theorem S5 (p l a:Int) (w:A2) (g:Bool->A2->Prop):(aI U6 ux 11 [.int .u16 p,.int .u8 l,.int .u8 a] w g)=(
 aA AA 15 (.bA [.one .ptr,.one .bool]) [aa 60,aa 1,aa (aL .i64 1 (f_ (aG .i64 l) 8))] w λx c=>aH (!x.2.1) (au c (g false)) (aA AA 29 (.el aX) [ag x.1,aa 0,aa 1,.agg ⟨[aa 3,ay (aG .u64 p),ay 1,ay 0]⟩] c λ(k:Int) c=>aA AA 31 (.bA [.agg [.int .u64,.int .i64],.one .bool]) [ag x.1,aa 0] c λ(m:(Int×Int×Unit)×Bool×Unit) c=> ∃(I:Nat->Int×Unit->A2->Prop),(∃n, ∀w1,Ext c w1->I n (0,()) w1)/\ ∀(n:Nat) (s:
 Int×Unit) (w1:A2),I n s w1->aH (decide (s.1<2)) (aA AA 29 (.el aX) [ag x.1,aa 0,aa 1,.agg ⟨[aa 6,ay (aL .u64 (fy .u64 16 (aG .u64 p)) (f_ (aG .u64 a) 16)),ay 0,ay 0]⟩] w1 λ(o:Int) c=> ∃(h:Nat->Int×Bool×Unit->A2->Prop),(∃n, ∀w1,Ext c w1->h n (0,false,()) w1)/\ ∀(i:Nat) (d:Int×Bool×Unit) (w1:A2),h i d w1->aH (decide (d.1<10)&& !d.2.1) (aA AA 31 (.bA [.agg [.int .u64,.int .i64],.one .bool]) [ag x.1,aa 0] w1 λ
 (x:(Int×Int×Unit)×Bool×Unit) c=>aM c ⟨[ay 0,aa 0]⟩ 61 λb c=>az c (ae b) [ay x.1.1,aa x.1.2.1] λc=> ∀e,Ext c e-> ∃(f:Nat),f<i/\h f (aL .i64 d.1 1,x.2.1,()) e) (∃(j:Int),((!d.1 != aZ .i64 6 (fy .i64 4 s.1))=true->af AA 49 [ag x.1,aa 0] w1 (aa j))/\aH (d.1 != aZ .i64 6 (fy .i64 4 s.1)||j != 0) (au w1 (g false)) (∀e,Ext w1 e-> ∃(f:Nat),f<n/\I f (aL .i64 s.1 1,()) e))) (aA AA 46 (.el sT) [] w1 λx c=>au
 c (g x)))):=by kernel_rfl
end Go.Proofs.YtlcenllcmeebhaaGreat.Mu
