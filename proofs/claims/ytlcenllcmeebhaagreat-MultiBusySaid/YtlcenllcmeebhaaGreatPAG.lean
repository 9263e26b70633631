import Derived.Test.YtlcenllcmeebhaaGreatPAF
/-! What the statement leans on: texts joined and shortened by a program of mine. -/
set_option linter.unusedVariables false
set_option linter.unusedSimpArgs false
open Go renaming World->A2,Value->AC,Addr->AF,Obj->B2,MapEntry->Dn
open Go.Proofs.Tryz renaming prog->AB
open List renaming range->AG,count_append->AH,count_cons->AT,mem_cons_of_mem->Ae,getElem?_eq_some_iff->Ap,mem_append_right->B1,mem_append_left->B3,mem_cons_self->B4,mem_map->B5,length_map->BO,count->BX,sublist_cons_self->Bs,getElem?_eq_getElem->Bx,replicate->C5,mem_range->Ca,length_set->Cd,mem_singleton->DA,mem_of_getElem?->DE,length_replicate->DH,getElem?_set_self->Db,getD_eq_getElem?_getD->Dd,append_nil->Dh,length_range->Dl,length_append->Do,set_set->Dr,eq_of_mem_replicate->Dw,getElem?_of_mem->F4,length_singleton->FC,mem_cons->FR,getElem?_set_ne->FS,sublist_append_right->FU,getElem?_append_left->FV,any_eq_true->Fh,set_cons_zero->Ft,count_nil->Fw,contains_iff_mem->Fx,any_eq_false->GG,nodup_cons->GH,getElem?_replicate->GI,perm_middle->GJ,map_append->GS,foldl_cons->Ga,length_filter_le->Gd,mem_append->HB,getElem?_append_right->Hb,mem_flatMap->Hq,getElem?_map->Hr,getElem?_range->I1,pairwise_cons->I2,take_add_one->IE,foldl_append->IR,range_succ->Ij,eq_nil_iff_forall_not_mem->J0,mem_of_find?_eq_some->J1,nodup_nil->J3,ext_getElem?->J4,getElem?_set->J5,mem_filter->J_,nodup_range->JP,map_congr_left->JQ,set_getElem_self->JS,length_cons->JU,length_nil->JW,length_take->K1,take_length->Kc,append_assoc->LL,getElem?_eq_none->M4,nil_sublist->M5
open Eq renaming mpr->Aq
open Int renaming toNat_natCast->Cc,le_refl->G1,toNat_of_nonneg->N7
open Bool renaming and_eq_true->DB,or_eq_true->Gi,and_assoc->Gj,eq_false_iff->H4,false_or->Im,or_eq_false_iff->N8
open Nat renaming le_refl->DN,zero_le->FQ,le_trans->H5,sub_self->In,not_lt_zero->NA
open List.Perm renaming append_left->DQ,append_right->GD,trans->Io
open Prod renaming ext->E4
open List.Sublist renaming cons->E5,refl->NF
open Classical renaming byContradiction->GF
open Go.Instr renaming findNow->H7
namespace Go.Proofs.YtlcenllcmeebhaaGreat
set_option maxRecDepth 100000
open Go.RX D
section
variable {gh dA:Gh} {ta:Int->Bool} {n:Nat} {s:MS} {i:Nat} {h':HS} {P:Nat->Int->Prop} {U:Int->Prop}
def X_ (gh:Gh) (ta:Int->Bool) (fs:List Int) (f:Int):Bool:=if fs.contains f=true then(gh f).isSome else ta f
def AV (s:MS) (h':HS) (i:Nat) (x:bW) (t p:Int) (rs:Int×Int) (ms:List MT):MS:=
 {s with h:=h',kn:=s.kn++eV s h',ms:=ms,bx:=(dy s.bx s.op i t p).2.1,op:=(dy s.bx s.op i t p).2.2,cs:=s.cs.set i {x with rs:=rs,fs:=eV s h',ls:=js x.ls t p,ak:=(dy s.bx s.op i t p).1,ph:=4}}
theorem MI.Xl (M:MI gh ta n s) {x:bW} (hx:s.cs[i]? =some x) (h1:x.ph=1) (hbx:s.bx[i]? =some []) (C:CE gh dA s.h h' P U) {t p:Int} (ht:1<=t/\t<=16) (hp: -1<=p/\p<65536) (sv:Aw x=t) (Tw:Ax x=p)
 (hP: ∀{j:Nat} {q:Int},P j q->0<=q->q<65536->(j:Int)=t/\(p= -1\/p=q)) (hU: ∀{j:Nat} {y:bW},s.cs[j]? =some y->y.ph=2-> ¬ U y.vm) (rs:Int×Int) (ms:List MT):
 MI dA (X_ gh ta (eV s h')) n (AV s h' i x t p rs ms):=by
 have mA:i<s.cs.length:=(Ap.1 hx).1;have h4:x.ph≠4:=by omega
 generalize Y:AV s h' i x t p rs ms=s';have J:s'.h=h':=by rw[<-Y];rfl
 have R:s'.ep=s.ep:=by rw[<-Y];rfl
 have hk:s'.kn=s.kn++eV s h':=by rw[<-Y];rfl
 have gW:s'.sz=s.sz:=by rw[<-Y];rfl
 have hb:s'.bx=s.bx.zipIdx.map λ(q,j)=>if j=i then q else q++[((s.op.length:Int)+1,t,p,())]:=by rw[<-Y];unfold AV;dsimp only;rw[CN M i ht hp]
 have ho:s'.op=s.op++[(s.bx.length:Int) - 1]:=by rw[<-Y];unfold AV;dsimp only;rw[CN M i ht hp]
 have fj:s'.cs=s.cs.set i {x with rs:=rs,fs:=eV s h',ls:=js x.ls t p,ak:=(s.op.length:Int)+1,ph:=4}:=by rw[<-Y];unfold AV;dsimp only;rw[CN M i ht hp]
 have XZ:s'.op.length=s.op.length+1:=by rw[ho,Do];rfl
 have X2:s'.bx.length=s.bx.length:=by rw[hb,BO,List.length_zipIdx]
 generalize Z:({x with rs:=rs,fs:=eV s h',ls:=js x.ls t p,ak:=(s.op.length:Int)+1,ph:=4}:bW)=x' at fj;have O:x'.ph=4:=by rw[<-Z]
 have X:x'.fs=eV s h':=by rw[<-Z]
 have xa:x'.ak=(s.op.length:Int)+1:=by rw[<-Z]
 have xl:x'.ls=js x.ls t p:=by rw[<-Z]
 have xc:x'.c=x.c:=by rw[<-Z]
 have xT:Aw x'=t:=by rw[<-sv, <-Z];rfl
 have xP:Ax x'=p:=by rw[<-Tw, <-Z];rfl
 have vO:s'.cs[i]? =some x':=by rw[fj,Db mA]
 have hw: ∀{z:Nat} {y:bW},s.cs[z]? =some y->y.ph=4->s'.cs[z]? =some y:=λ{z y} h1 h2=>by rw[fj];exact EF hx h4 _ h1 h2
 have Q: ∀{z:Nat} {y:bW},s'.cs[z]? =some y->(z=i/\y=x')\/(z≠i/\s.cs[z]? =some y):=λh=>by rw[fj] at h;exact jX h
 have hm: ∀{y:bW},y∈s'.cs->y=x'\/y∈s.cs:=λh=>by rw[fj] at h;exact im h
 have hbg: ∀{j:Nat} {q:List AK},s.bx[j]? =some q->j≠i->s'.bx[j]? =some (q++[((s.op.length:Int)+1,t,p,())]):=λ{j q} h e=>by rw[hb,post_at h,ao e]
 have ack: ∀{m:Nat} {d:DT},s.h.s.2[m]? =some d->(m:Int)∈s.kn->d.1=5:=λ{m d} h1 h2=>by
  obtain⟨m',d',A,u,S⟩:=M.k5 _ h2;have:m=m':=by omega
  subst this;rw[h1] at u;cases u;exact S
 have T7: ∀{m:Nat} {d d':DT},s.h.s.2[m]? =some d->d.1≠5->h'.s.2[m]? =some d'->d'.1=5->(m:Int)∈eV s h':=λh1 h2 h3 h5=>iq.2 ⟨_, _,rfl,h3,h5,λc=>h2 (ack h1 c)⟩;have ON: ∀{m:Nat} {d:DT},s.h.s.2[m]? =some d->d.1=4->(m:Int)∈eV s h'->X_ gh ta (eV s h') (m:Int)=false:=λ{m d} h1 h4 G=>by
  unfold X_;rw[av (by simpa using G)];cases hgm:gh (m:Int) with
  |none=>rfl
  |some w=>
   obtain⟨o,l,y⟩:=w;have:=(M.hi.inv.kd hgm).2.2.1;rw[show((m:Int)).toNat=m from rfl,h1] at this;cases this;exact absurd h4 (show ¬ (3:Int)=4 by decide)
 have abB: ∀{f:Int},f∈s.kn->X_ gh ta (eV s h') f=ta f:=λ{f} B=>by
  unfold X_;rw[ao];intro c;have c:f∈eV s h':=by simpa using c
  obtain⟨_, _, _, _, _,k⟩:=iq.1 c;exact k B
 have YR: ∀{m:Nat} {d:DT},s.h.s.2[m]? =some d->d.1=5->X_ gh ta (eV s h') (m:Int)=ta (m:Int):=λh1 h2=>abB (M.kd h1 h2).1;have JG: ∀{j:Nat} {f:Int},rM s j f->rM s' j f:=λh=>h.dv hw (by rw[R]) (by rw[R]);have JH: ∀{j:Nat} {f:Int},f∈eV s h'->rM s' j f:=λh=> .inl ⟨i,x',vO,O,by rw[X];exact h⟩;have PJ: ∀{l:LT},(1<=l.1/\l.1<=16/\0<=l.2.1/\l.2.1<65536)->jo s.h l.1.toNat l.2.1=(l.2.2.1,l.2.2.2.1,0,())-> ¬ (t=l.1/\(p= -1\/p=l.2.1))-> ∃(m:Nat) (d:DT),l.2.2.1=(m:Int)/\h'.s.2[m]? =some d/\d.1=4/\jo h' l.1.toNat l.2.1=(l.2.2.1,l.2.2.2.1,0,()):=λ{l} L E D=>by
  have AE:jo h' l.1.toNat l.2.1=(l.2.2.1,l.2.2.2.1,0,()):=by
   rw[C.pg.to λc=>D ?_]
   ·exact E
   ·obtain⟨c1,c2⟩:=hP c L.2.2.1 L.2.2.2;exact⟨by omega,c2⟩
  have gz:mC h' l.1.toNat l.2.1=some l.2.2.1:=by rw[rW,AE];rfl
  obtain⟨m,d,A,u,S, _⟩:=C.hi.TQ gz;exact⟨m,d,A,u,S,AE⟩
 refine⟨by rw[J];exact C.hi,M.nn,by rw[fj,Cd];exact M.lc,by rw[X2];exact M.lb,by rw[R];exact M.lp,by rw[gW];exact M.sz,λy v=>?_,λy v=>?_,λy v=>?_,
  λf B=>?_,?_,λe B=>?_,by rw[R];exact M.wn,λy v e=>?_,λy v e=>?_,λ{a b y z} g H sN A u=>?_,λ{m d} g H=>?_,by rw[R];exact M.nw,λ{j y} g=>?_,λ{j y} g l hl=>?_,λy v e=>?_,λ{j y} g e=>?_,λ{j y} g e=>?_,λy v e=>?_,λ{a b y z} g H sN A u=>?_,λ{j r} g=>?_,λid JX=>?_⟩
 ·rcases hm v with rfl|v
  ·rw[O];decide
  ·exact M.ph y v
 ·rcases hm v with rfl|v
  ·rw[xc];exact M.ar x (aE hx)
  ·exact M.ar y v
 ·rw[gW];rcases hm v with rfl|v
  ·rw[xl];have:=EC x.ls t p;have:=M.tl x (aE hx);omega
  ·exact M.tl y v
 ·
  rw[J];rw[hk] at B;rcases HB.1 B with B|B
  ·obtain⟨m,d,A,u,S⟩:=M.k5 f B;obtain⟨d',g1,T⟩:=C.kd.k5 u S;exact⟨m,d',A,g1,T⟩
  ·obtain⟨m,d,A,u,S, _⟩:=iq.1 B;exact⟨m,d,A,u,S⟩
 ·rw[hk];refine List.nodup_append.2 ⟨M.nk,zO,λa K b hb c=>?_⟩;subst c;obtain⟨_, _, _, _, _,k⟩:=iq.1 hb;exact k K
 ·rw[R] at B ⊢;obtain⟨a,b,c⟩:=M.wk e B;rw[hk];exact⟨B3 _ a,b,c⟩
 ·rw[hk,R];rcases hm v with rfl|v
  ·intro f B;rw[X] at B;refine⟨B1 _ B,λc=>?_⟩;obtain⟨_, _, _, _, _,k⟩:=iq.1 B;obtain⟨e',I,F⟩:=B5.1 c;exact k (by rw[<-F];exact(M.wk e' I).1)
  ·intro f B;obtain⟨a,b⟩:=M.fk y v e f B;exact⟨B3 _ a,b⟩
 ·rcases hm v with rfl|v
  ·rw[X];exact zO
  ·exact M.fn y v e
 ·rcases Q g with ⟨_,rfl⟩|⟨_,g⟩
  ·rcases Q H with ⟨q, _⟩|⟨_,H⟩
   ·omega
   ·intro f B c;rw[X] at B;obtain⟨_, _, _, _, _,k⟩:=iq.1 B;exact k (M.fk z (aE H) u f c).1
  ·rcases Q H with ⟨_,rfl⟩|⟨_,H⟩
   ·intro f B c;rw[X] at c;obtain⟨_, _, _, _, _,k⟩:=iq.1 c;exact k (M.fk y (aE g) A f B).1
   ·exact M.fd g H sN A u
 ·rw[J] at g;rw[hk,R];by_cases c:(m:Int)∈eV s h'
  ·exact⟨B1 _ c,.inr ⟨x',aE vO,O,by rw[X];exact c⟩⟩
  ·have hkm:(m:Int)∈s.kn:=GF λG=>c (iq.2 ⟨m,d,rfl,g,H,G⟩);obtain⟨m',d',A,u,S⟩:=M.k5 _ hkm;have:m=m':=by omega
   subst this;obtain⟨_,T⟩:=M.kd u S;refine⟨B3 _ hkm,T.imp id λ⟨y,v,I,F⟩=>?_⟩;obtain⟨j,V⟩:=F4 v;exact⟨y,aE (hw V I),I,F⟩
 ·rw[R];rcases Q g with ⟨rfl,rfl⟩|⟨_,g⟩
  ·have:=M.pn hx;rw[h1,ao (by decide)] at this;rw[O,ao (by decide)];exact this
  ·exact M.pn g
 ·
  rcases Q g with ⟨rfl,rfl⟩|⟨V,g⟩
  ·rw[xl] at hl;obtain⟨l1,l2⟩:=tQ hl;obtain⟨L,m,d,E,D,N⟩:=M.ln hx l l1;rcases N with ⟨_,N⟩|⟨_,q,a,r5,r6, _⟩
   ·obtain⟨m',d',g1,T,g3,g4⟩:=PJ L N l2;exact⟨L,m',d',g1,by rw[J];exact T,.inl ⟨g3,by rw[J];exact g4⟩⟩
   ·rw[hbx] at r5;cases r5;cases r6
  ·obtain⟨L,m,d,E,D,N⟩:=M.ln g l hl;rcases N with ⟨d4,N⟩|⟨W,q,a,r5,r6,r7,r8⟩
   ·by_cases l2:t=l.1/\(p= -1\/p=l.2.1)
    ·obtain⟨d',A,u⟩:=C.kd.k4 D d4;have NU:j<s.bx.length:=by rw[M.lb, <-M.lc];exact(Ap.1 g).1
     refine⟨L,m,d',E,by rw[J];exact A,.inr ⟨u, _, _,hbg (Bx NU) V,B1 _ (DA.2 rfl),l2,λe5=>?_⟩⟩;have G:=T7 D (by omega) A e5;rw[E];exact⟨ON D d4 G,i,x', _,B1 _ (DA.2 rfl),vO,O,by rw[X];exact G,xa.symm,G1 _⟩
    ·obtain⟨m',d',g1,T,g3,g4⟩:=PJ L N l2;exact⟨L,m',d',g1,by rw[J];exact T,.inl ⟨g3,by rw[J];exact g4⟩⟩
   ·rcases W with d4|d5
    ·obtain⟨d',A,u⟩:=C.kd.k4 D d4;refine⟨L,m,d',E,by rw[J];exact A,.inr ⟨u, _,a,hbg r5 V,B3 _ r6,r7,λe5=>?_⟩⟩;have G:=T7 D (by omega) A e5;have:=M.fQ r5 r6;rw[E];exact⟨ON D d4 G,i,x', _,B1 _ (DA.2 rfl),vO,O,by rw[X];exact G,xa.symm,by show a.1<=(s.op.length:Int)+1;omega⟩
    ·obtain⟨d',A,u⟩:=C.kd.k5 D d5;refine⟨L,m,d',E,by rw[J];exact A,.inr ⟨.inr u, _,a,hbg r5 V,B3 _ r6,r7,λ_=>?_⟩⟩;obtain⟨I,z,y',b,F,q3,q4,q5,q6,q7⟩:=r8 d5;refine⟨?_,z,y',b,B3 _ F,hw q3 q4,q4,q5,q6,q7⟩;rw[E,YR D d5, <-E];exact I
 ·rw[J];rcases hm v with rfl|v
  ·rw[O] at e;exact absurd e (by decide)
  ·obtain⟨j,V⟩:=F4 v;obtain⟨I,F⟩:=M.ac y v e;exact⟨C.lv (hU V e) I,F⟩
 ·rcases Q g with ⟨_,rfl⟩|⟨_,g⟩
  ·rw[O] at e;exact absurd e (by decide)
  ·obtain⟨l,E,D,N,W⟩:=M.wl g e;refine⟨l,E,D,N,?_⟩;rw[J];rcases W with W|⟨c1,c2,c3⟩
   ·rcases C.gk W (hU g e) with k|k
    ·exact .inl k
    ·have G:y.wk.1∈eV s h':=by
      obtain⟨q0,d',I,F, _⟩:=k;have h3:=(M.hi.inv.kd W).2.2.1;have:=T7 h3 (by show ¬ (3:Int)=5;decide) I F;rw[N7 q0] at this;exact this
     refine .inr ⟨k,JH G,?_⟩;unfold X_;rw[av (by simpa using G),W];rfl
   ·refine .inr ⟨C.gn c1,JG c2,?_⟩;obtain⟨q0,d',I,F, _⟩:=c1;have:=YR I F;rw[N7 q0] at this;rw[this];exact c3
 ·rcases Q g with ⟨_,rfl⟩|⟨_,g⟩
  ·rw[O] at e;exact absurd e (by decide)
  ·obtain⟨⟨m,d,E,D,N⟩,W⟩:=M.rc g e;refine⟨?_,W⟩;rcases N with d4|⟨d5,c2,c3⟩
   ·obtain⟨d',A,u⟩:=C.kd.k4 D d4;refine⟨m,d',E,by rw[J];exact A,?_⟩;rcases u with u|u
    ·exact .inl u
    ·have G:=T7 D (by omega) A u;rw[E];exact .inr ⟨u,JH G,ON D d4 G⟩
   ·obtain⟨d',A,u⟩:=C.kd.k5 D d5;refine⟨m,d',E,by rw[J];exact A,.inr ⟨u,JG c2,?_⟩⟩;rw[E,YR D d5, <-E];exact c3
 ·rw[XZ];rcases hm v with rfl|v
  ·rw[xT,xP,xa];omega
  ·have:=M.wt y v e;omega
 ·rcases Q g with ⟨_,rfl⟩|⟨_,g⟩
  ·rcases Q H with ⟨q, _⟩|⟨_,H⟩
   ·omega
   ·have:=M.wt z (aE H) u;rw[xa];omega
  ·rcases Q H with ⟨_,rfl⟩|⟨_,H⟩
   ·have:=M.wt y (aE g) A;rw[xa];omega
   ·exact M.wu g H sN A u
 ·rw[hb] at g;obtain⟨q,I,F⟩:=SF g;obtain⟨g1,T⟩:=M.aq I;have dv: ∀a∈q, ∃(z:Nat) (y:bW),z≠j/\s'.cs[z]? =some y/\y.ph=4/\a=(y.ak,Aw y,Ax y,()):=λa K=>by
   obtain⟨z,y,f1,f2,f3,f4⟩:=T a K;exact⟨z,y,f1,hw f2 f3,f3,f4⟩
  by_cases e:j=i
  ·rw[av e] at F;rw[F];exact⟨g1,dv⟩
  ·rw[ao e] at F;rw[F];refine⟨List.pairwise_append.2 ⟨g1,List.pairwise_singleton ..,λa K b hb=>?_⟩,λa K=>?_⟩
   ·have:=M.fQ I K;rw[DA.1 hb];show a.1<(s.op.length:Int)+1;omega
   ·rcases HB.1 K with K|K
    ·exact dv a K
    ·refine⟨i,x',λc=>e c.symm,vO,O,?_⟩;rw[DA.1 K,xa,xT,xP]
 ·rw[XZ] at JX;rw[ho,hb,Dd];by_cases e:id<s.op.length
  ·rw[SG (by show(s.op.length:Int)+1≠ _;omega),FV e, <-Dd];exact M.oc id e
  ·have e:id=s.op.length:=by omega
   subst e;have acm:i<s.bx.length:=by rw[M.lb, <-M.lc];exact mA
   rw[Hb (DN _),In];have:=SH (i:=i) (x:=(((s.op.length:Int)+1,t,p,()):AK)) acm λq hq=>by
    unfold jD;rw[GG];intro a K c;obtain⟨j,V⟩:=F4 hq;have:=M.fQ V K;have c:a.1=(s.op.length:Int)+1:=by simpa using c
    omega
   show(s.bx.length:Int) - 1= _;rw[this];omega
end
section
variable {gh dA:Gh} {h h':HS} {v k a b c:Int}
theorem SI {g g':Nat->Option GV} (a: ∀i,(g' i).isSome=(g i).isSome) (v:Int):aV g' v=aV g v:=by unfold aV;rw[a]
theorem M7 (w:Int) (a:aV h.g w=true):aV (gP h).g w=true:=by
 unfold gP;split
 ·exact a
 split
 ·obtain⟨b,x,c⟩:=cd.1 a;refine cd.2 ⟨b,?_⟩;show∃x,bj h.g _ _ w.toNat=some x;unfold bj;split
  ·exact⟨_,rfl⟩
  ·exact⟨x,c⟩
 ·exact a
theorem wG (v:Int): ∀(n:Nat) (h:HS) (w:Int),aV (fa v n h).g w=aV h.g w
 |0, _, _=>rfl
 |n+1,h,w=>by
  show aV (fa v n (yy v h)).g w= _;rw[wG v n];unfold yy;exact sk ..
theorem SJ {a w:Int} (e:w≠a) (b:aV h.g w=true):aV (te h a).g w=true:=by
 unfold te;split
 ·rename_i la;split
  ·exact b
  ·rw[<-wG a (vC h a).length] at b;obtain⟨c,x,d⟩:=cd.1 b;obtain⟨hv, _⟩:=cd.1 la;refine cd.2 ⟨c,x,?_⟩;show bj (fa a (vC h a).length h).g a.toNat none w.toNat=some x;unfold bj;rw[ao (by omega)];exact d
 ·exact b
theorem CE.run (d:HI dA (run h v k a b c).1) {P:Nat->Int->Prop} {f:Int} (E:uQ h (run h v k a b c).1 P f) (G:uK gh dA h.s (run h v k a b c).1.s) (e:1<=k/\k<=17) (hc:uW k=false):CE gh dA h (run h v k a b c).1 P (λ_=>False):=
 ⟨d,E.kd,E.pg,λh1 _=>G.1 _ _ h1,λh1=>G.2 _ h1,λ{w} _ h1=>by rw[SI (V4 e hc)];exact h1⟩
theorem SK (d:k=6\/k=8\/(11<=k/\k<=16)):(run h v k a b c).1.s=h.s/\(run h v k a b c).1.g=h.g:=by
 have:k=6\/k=8\/k=11\/k=12\/k=13\/k=14\/k=15\/k=16:=by omega
 rcases this with rfl|rfl|rfl|rfl|rfl|rfl|rfl|rfl
 ·exact⟨rfl,rfl⟩
 ·show(iD h v a b c).s=h.s/\(iD h v a b c).g=h.g;unfold iD;split<;>exact⟨rfl,rfl⟩
 ·show(fW h v a).s=h.s/\(fW h v a).g=h.g;unfold fW;split<;>exact⟨rfl,rfl⟩
 ·show(lW h v a).s=h.s/\(lW h v a).g=h.g;unfold lW;split<;>exact⟨rfl,rfl⟩
 ·show(lX h v a b).s=h.s/\(lX h v a b).g=h.g;unfold lX;split
  ·exact⟨rfl,rfl⟩
  split<;>exact⟨rfl,rfl⟩
 ·show(lV h v a).s=h.s/\(lV h v a).g=h.g;unfold lV;split<;>exact⟨rfl,rfl⟩
 ·exact⟨rfl,rfl⟩
 ·show(jc h v a).s=h.s/\(jc h v a).g=h.g;unfold jc;split<;>exact⟨rfl,rfl⟩
theorem EI (d:sM h v k a b c=0) (e:iY h v k a b c=0):(run h v k a b c).2.2=0:=by unfold sM at d;rw[av e] at d;exact d
theorem HY (H:HI gh h) (z:0<=a) (A: ¬ (v=0/\k=17/\a=0/\b=0/\c=0)) (B:k=7-> ¬ (aV h.g v=true/\iC k a b c=true/\a<1048576)) (C:sM h v k a b c≠0\/ ¬ (k=2\/k=4\/k=5\/k=10)):
 ∃dA P,CE gh dA h (kU h v k a b c) P (λ_=>False)/\NN h.s (kU h v k a b c).s/\ ∀{j:Nat} {q:Int},P j q->0<=q->q<65536->(jo h j q).2.2.1≠0:=by
 obtain⟨g1,D⟩:=H.step v k b c z;have same:(kU h v k a b c).s=h.s->(kU h v k a b c).g=h.g-> ∃dA P,CE gh dA h (kU h v k a b c) P (λ_=>False)/\NN h.s (kU h v k a b c).s/\ ∀{j:Nat} {q:Int},P j q->0<=q->q<65536->(jo h j q).2.2.1≠0:=λl m=>
  ⟨gh, _,CE.same H D l m,.refl (by rw[l]),λc=>c.elim⟩
 by_cases r:sM h v k a b c=0
 case neg=>
  obtain⟨e, _⟩:=H.fail r;exact same e.1 e.2
 have L:=C.resolve_left λc=>c r;by_cases i:iY h v k a b c=0
 case neg=>
  have e:kU h v k a b c=h:=ao i;rw[e] at same ⊢;exact same rfl rfl
 have d:=EI r i;obtain⟨x,t,p⟩:=Ct i;have e:kU h v k a b c=(run h v k a b c).1:=av i;by_cases F:k=6\/k=8\/(11<=k/\k<=16)
 ·obtain⟨l,m⟩:=SK (h:=h) (v:=v) (a:=a) (b:=b) (c:=c) F;exact same (by rw[e];exact l) (by rw[e];exact m)
 rw[e];have:k=1\/k=3\/k=7\/k=9\/k=17:=by omega
 rcases this with rfl|rfl|rfl|rfl|rfl
 ·obtain⟨g',n,E,G⟩:=H.Gy;exact⟨g', _,⟨n,E.kd,E.pg,λh1 _=>G.1 _ _ h1,λh1=>G.2 _ h1,λ{w} _ h1=>M7 w h1⟩,NN.Kg h,λ{j q} c I J=>absurd ⟨I,J⟩ c⟩
 ·have d:qI h v a b=0:=by
   have d:(yc h v a b).2=0:=d;unfold yc at d;split at d
   ·assumption
   ·exact d
  obtain⟨g',f,n,O, _,G⟩:=H.PB (t rfl) (a:=a) (b:=b) d;refine⟨g', _,CE.run (k:=3) n O.ef G x rfl,NN.don ..,λ{j q} o _ _=>?_⟩;rw[o.1,o.2,O.WI];decide
 ·exfalso;refine B rfl ⟨t rfl,p,?_⟩;refine GF λo=>?_;have d:rV h v a=0:=d;unfold rV iI at d;rw[av (show a>=1048576 by omega),av (show((0:Int),(2:Int)).2≠0 by decide)] at d;exact absurd d (show ¬ (2:Int)=0 by decide)
 ·obtain⟨l,g',n,E,K, _,G⟩:=H.PG (t rfl) (a:=a) (b:=b) (c:=c) d;have m:(run h v 9 a b c).1=ij h v a b c:=l;rw[<-m] at n E G;refine⟨g', _,CE.run (k:=9) n E G x rfl,by rw[m];exact NN.tak ..,λ{j q} o _ _=>?_⟩;rw[o.1,o.2,K];decide
 ·exfalso;have hv:v=0:=by
   unfold iY at i;split at i
   ·exact absurd i (by decide)
   split at i
   ·exact absurd i (by decide)
   rename_i y;by_cases e:v=0
   ·exact e
   ·have:(v==0)=false:=by simpa using e
    rw[this] at y;exact absurd rfl y
  have u:a=0/\b=0/\c=0:=by
   unfold iC at p;simp[jV] at p;exact p
  exact A ⟨hv,rfl,u.1,u.2.1,u.2.2⟩
theorem M8 (H:HI gh h) (J:0<=a) (n:sM h v k a b c=0) (A:k=2\/k=4\/k=5\/k=10):
 ∃dA,CE gh dA h (kU h v k a b c) (λj q=>if k=2 then j=a.toNat else j=v.toNat/\q=a) (λw=>k=2/\w=a)/\(k=2->(1<=a/\a<=16)/\v=0)/\(k≠2->(1<=v/\v<=16)/\a<65536):=by
 have l:iY h v k a b c=0:=by
  refine GF λl=>?_;unfold sM at n;rw[ao l] at n;exact l n
 have d:=EI n l;obtain⟨B,o,K⟩:=Ct l;have e:kU h v k a b c=(run h v k a b c).1:=av l;rw[e];have fin: ∀{dA:Gh} {f:Int},k≠2->uW k=false->a<65536->HI dA (run h v k a b c).1->uQ h (run h v k a b c).1 (λi q=>i=v.toNat/\q=a) f->uK gh dA h.s (run h v k a b c).1.s-> ∃dA,CE gh dA h (run h v k a b c).1 (λj q=>if k=2 then j=a.toNat else j=v.toNat/\q=a) (λw=>k=2/\w=a)/\(k=2->(1<=a/\a<=16)/\v=0)/\(k≠2->(1<=v/\v<=16)/\a<65536):=λ{dA f} y hc D m E G=>by
  obtain⟨_, _, _, _,p,r⟩:=bZ (o hc);have C:=CE.run m E G B hc;refine⟨dA,⟨C.hi,C.kd,⟨λ{i q} t=>C.pg.to λu=>t ?_⟩,λh1 _=>C.gk h1 id,C.gn,λ_ h1=>C.lv id h1⟩,λc=>absurd c y,λ_=>⟨⟨p,r⟩,D⟩⟩;show if k=2 then _ else _;rw[ao y];exact u
 rcases A with rfl|rfl|rfl|rfl
 ·obtain⟨g',m,E,F,I⟩:=H.JB a;have la:aV h.g a=true:=by
   have d:F3 h a=0:=d;unfold F3 at d;split at d
   ·assumption
   ·exact absurd d (by decide)
  obtain⟨_, _, _, _,p,r⟩:=bZ la;refine⟨g',⟨m,E.kd,⟨λ{i q} t=>E.pg.to λu=>t ?_⟩,λ{f w} h1 x=>F f w h1 λc=>x ⟨rfl,c⟩,λh1=>I _ h1,λ{w} h1 x=>SJ (λc=>h1 ⟨rfl,c⟩) x⟩,λ_=>⟨⟨p,r⟩,?_⟩,λc=>absurd rfl c⟩
  ·show if(2:Int)=2 then _ else _;rw[av rfl];exact u
  ·unfold iY at l;split at l
   ·exact absurd l (by decide)
   split at l
   ·exact absurd l (by decide)
   rename_i z;by_cases e:v=0
   ·exact e
   ·have:(v==0)=false:=by simpa using e
    rw[this] at z;exact absurd rfl z
 ·have d:xe h v a=0:=by
   have d:(Cb h v a).2=0:=d;unfold Cb at d;split at d
   ·assumption
   ·exact d
  obtain⟨g',f,m,O,G⟩:=H.PD (o rfl) d;refine fin (by decide) rfl ?_ m O.ef G;unfold xe at d;split at d
  ·exact absurd d (by decide)
  ·omega
 ·have d:oY h v a b=0:=d;obtain⟨g',m,E, _, _, _,G⟩:=H.Js (o rfl) d;refine fin (by decide) rfl ?_ m E G;unfold oY at d;split at d
  ·exact absurd d (by decide)
  ·omega
 ·have d:oZ h v a=0:=d;obtain⟨g',m,E, _,G⟩:=H.Jy (o rfl) d;refine fin (by decide) rfl ?_ m E G;unfold oZ at d;split at d
  ·exact absurd d (by decide)
  ·omega
end
section
variable {gh dA:Gh} {ta:Int->Bool} {n:Nat} {s:MS} {i:Nat}
structure OO (e e':vD) (fs:List Int):Prop where
 now:e'.now=e.now
 pins:e'.pins=e.pins
 WI: ∀w∈e'.ws,w∈e.ws\/(w.1∈fs/\w.2=e.now)
 fQ: ∀w∈e.ws,w∈e'.ws
 new: ∀f∈fs,f∉e.ws.map (·.1)->(f,e.now)∈e'.ws
 nd:(e.ws.map (·.1)).Nodup->(e'.ws.map (·.1)).Nodup
theorem acn (e:vD) (f:Int):OO e (k8 e f) [f]:=by
 unfold k8;split
 ·rename_i h;obtain⟨w,hw,a⟩:=Fh.1 h;have a:w.1=f:=by simpa using a
  exact⟨rfl,rfl,λw h=> .inl h,λw h=>h,λg b d=>absurd (B5.2 ⟨w,hw,by rw[a,DA.1 b]⟩) d,id⟩
 ·rename_i h;refine⟨rfl,rfl,λw hw=>?_,λw hw=>Ae _ hw,λg b _=>?_,λd=>?_⟩
  ·rcases FR.1 hw with rfl|hw
   ·exact .inr ⟨DA.2 rfl,rfl⟩
   ·exact .inl hw
  ·rw[DA.1 b];exact B4
  ·show((f,e.now)::e.ws).map (·.1) |>.Nodup;rw[List.map_cons,GH];refine⟨λc=>h ?_,d⟩;obtain⟨w,hw,a⟩:=B5.1 c;exact Fh.2 ⟨w,hw,by simpa using a⟩
theorem EJ: ∀(fs:List Int) (e:vD),OO e (fs.foldl k8 e) fs
 |[],e=>⟨rfl,rfl,λw h=> .inl h,λw h=>h,λf l=>absurd l (by simp),id⟩
 |f::fs,e=>by
  have A:=acn e f;have a:=EJ fs (k8 e f);show OO e (fs.foldl k8 (k8 e f)) (f::fs);refine⟨a.now.trans A.now,a.pins.trans A.pins,λw d=>?_,λw d=>a.fQ w (A.fQ w d),λg i j=>?_,λh=>a.nd (A.nd h)⟩
  ·rcases a.WI w d with h|⟨h1,b⟩
   ·exact(A.WI w h).imp id λc=>⟨FR.2 (.inl (DA.1 c.1)),c.2⟩
   ·exact .inr ⟨Ae _ h1,by rw[b,A.now]⟩
  ·by_cases c:g=f
   ·exact a.fQ _ (A.new g (DA.2 c) j)
   ·have i:=(FR.1 i).resolve_left c;rw[<-A.now];refine a.new g i λk=>?_;obtain⟨w,h1,b⟩:=B5.1 k;rcases A.WI w h1 with h|⟨h, _⟩
    ·exact j (B5.2 ⟨w,h,b⟩)
    ·exact c (by rw[<-b];exact DA.1 h)
theorem JI (M:MI gh ta n s) {x:bW} (b:yA s x.ak=true) {j:Nat} {q:List AK} (d:s.bx[j]? =some q) {a:AK} (e:a∈q):a.1≠x.ak:=λc=>by
 unfold yA at b;rw[DB,decide_eq_true_eq,beq_iff_eq] at b;have:=M.oc (x.ak - 1).toNat (by omega);rw[b.2,show(((x.ak - 1).toNat:Nat):Int)+1=x.ak by omega] at this;have f:0<s.bx.countP (λq=>jD q x.ak):=List.countP_pos_iff.2 ⟨q,aE d,Fh.2 ⟨a,e,by simpa using c⟩⟩;omega
theorem MI.done (M:MI gh ta n s) {x:bW} (t:s.cs[i]? =some x) (Q:x.ph=4) (W:yA s x.ak=true):MI gh ta n {s with ep:=x.fs.foldl k8 s.ep,cs:=s.cs.set i (cC x.ls)}:=by
 have mA:i<s.cs.length:=(Ap.1 t).1;have R:=EJ x.fs s.ep;generalize B:({s with ep:=x.fs.foldl k8 s.ep,cs:=s.cs.set i (cC x.ls)}:MS)=s';have A:s'.h=s.h:=by rw[<-B]
 have he:s'.ep=x.fs.foldl k8 s.ep:=by rw[<-B]
 rw[<-he] at R;have F:s'.kn=s.kn:=by rw[<-B]
 have X:s'.sz=s.sz:=by rw[<-B]
 have hb:s'.bx=s.bx:=by rw[<-B]
 have Y:s'.op=s.op:=by rw[<-B]
 have fj:s'.cs=s.cs.set i (cC x.ls):=by rw[<-B]
 have u: ∀{z:Nat} {y:bW},s'.cs[z]? =some y->(z=i/\y=cC x.ls)\/(z≠i/\s.cs[z]? =some y):=λh=>by rw[fj] at h;exact jX h
 have C: ∀{y:bW},y∈s'.cs->y=cC x.ls\/ ∃j,j≠i/\s.cs[j]? =some y:=λh=>by
  obtain⟨j,k⟩:=F4 h;exact(u k).imp (·.2) λc=>⟨j,c⟩
 have N: ∀{z:Nat} {y:bW},s.cs[z]? =some y->z≠i->s'.cs[z]? =some y:=λ{z y} h1 p=>by
  rw[fj,FS (λc=>p c.symm)];exact h1
 have S:=M.fk x (aE t) Q;have Z: ∀{j:Nat} {y:bW} {f:Int},s.cs[j]? =some y->y.ph=2\/y.ph=3->rM s j f->rM s' j f:=λ{j y f} k sS P=>by
  have Df:=M.pn k;rw[av sS] at Df;rcases P with ⟨z,y2,h1,p,G⟩|⟨e,h1,p,G⟩
  ·by_cases c:z=i
   ·subst c;rw[t] at h1;cases h1;exact .inr ⟨_,R.new f G (S f G).2,rfl,by rw[R.pins];exact Df.2.1⟩
   ·exact .inl ⟨z,y2,N h1 c,p,G⟩
  ·exact .inr ⟨e,R.fQ e h1,p,by rw[R.pins];exact G⟩
 have i0:(cC x.ls).ph=0:=rfl;refine⟨by rw[A];exact M.hi,M.nn,by rw[fj,Cd];exact M.lc,by rw[hb];exact M.lb,by rw[R.pins];exact M.lp,by rw[X];exact M.sz,λy o=>?_,λy o=>?_,λy o=>?_,
  by rw[F,A];exact M.k5,by rw[F];exact M.nk,λe O=>?_,R.nd M.wn,λy o e=>?_,λy o e=>?_,λ{a b y z} g v T D E=>?_,λ{m d} g v=>?_,by rw[R.now];exact M.nw,λ{j y} g=>?_,λ{j y} g l hl=>?_,λy o e=>?_,λ{j y} g e=>?_,λ{j y} g e=>?_,λy o e=>?_,λ{a b y z} g v T D E=>?_,λ{j r} g=>?_,by rw[Y,hb];exact M.oc⟩
 ·rcases C o with rfl|⟨j, _,k⟩
  ·rw[i0];decide
  ·exact M.ph y (aE k)
 ·rcases C o with rfl|⟨j, _,k⟩
  ·exact(show cL 0/\cL 0/\cL 0 by decide)
  ·exact M.ar y (aE k)
 ·rw[X];rcases C o with rfl|⟨j, _,k⟩
  ·exact M.tl x (aE t)
  ·exact M.tl y (aE k)
 ·rw[F,R.now];rcases R.WI e O with h|⟨h1,p⟩
  ·exact M.wk e h
  ·exact⟨(S _ h1).1,by rw[p];exact M.nw,by rw[p];exact G1 _⟩
 ·rcases C o with rfl|⟨j,k,o⟩
  ·rw[i0] at e;exact absurd e (by decide)
  ·intro f O;obtain⟨a,b⟩:=M.fk y (aE o) e f O;refine⟨by rw[F];exact a,λc=>?_⟩;obtain⟨w,h1,p⟩:=B5.1 c;rcases R.WI w h1 with h|⟨h, _⟩
   ·exact b (B5.2 ⟨w,h,p⟩)
   ·rw[p] at h;exact M.fd o t k e Q f O h
 ·rcases C o with rfl|⟨j,k,o⟩
  ·rw[i0] at e;exact absurd e (by decide)
  ·exact M.fn y (aE o) e
 ·rcases u g with ⟨_,rfl⟩|⟨_,g⟩
  ·rw[i0] at D;exact absurd D (by decide)
  ·rcases u v with ⟨_,rfl⟩|⟨_,v⟩
   ·rw[i0] at E;exact absurd E (by decide)
   ·exact M.fd g v T D E
 ·rw[A] at g;obtain⟨q1,U⟩:=M.kd g v;rw[F];refine⟨q1,?_⟩;rcases U with U|⟨y,o,g1,H⟩
  ·obtain⟨w,h1,p⟩:=B5.1 U;exact .inl (B5.2 ⟨w,R.fQ w h1,p⟩)
  ·obtain⟨j,k⟩:=F4 o;by_cases c:j=i
   ·subst c;rw[t] at k;cases k;exact .inl (B5.2 ⟨_,R.new _ H (S _ H).2,rfl⟩)
   ·exact .inr ⟨y,aE (N k c),g1,H⟩
 ·rw[R.pins,R.now];rcases u g with ⟨rfl,rfl⟩|⟨_,g⟩
  ·have:=M.pn t;rw[Q,ao (by decide)] at this;rw[i0,ao (by decide)];exact this
  ·exact M.pn g
 ·have z4: ∃V,s.cs[j]? =some V/\l∈V.ls:=by
   rcases u g with ⟨rfl,rfl⟩|⟨_,g⟩
   ·exact⟨x,t,hl⟩
   ·exact⟨y,g,hl⟩
  obtain⟨V,g0,g1⟩:=z4;obtain⟨r0,m,d,I,J,K⟩:=M.ln g0 l g1;refine⟨r0,m,d,I,by rw[A];exact J,?_⟩;rw[A,hb];refine K.imp id λ⟨L,q,a,r5,r6,r7,r8⟩=>⟨L,q,a,r5,r6,r7,λe5=>?_⟩;obtain⟨r9,z,y',b,c0,c1,c2,c3,c4,c5⟩:=r8 e5;refine⟨r9,z,y',b,c0,N c1 λc=>?_,c2,c3,c4,c5⟩;subst c;rw[t] at c1;cases c1;exact JI M W r5 c0 c4
 ·rw[A];rcases C o with rfl|⟨j, _,k⟩
  ·rw[i0] at e;exact absurd e (by decide)
  ·exact M.ac y (aE k) e
 ·rcases u g with ⟨_,rfl⟩|⟨_,g⟩
  ·rw[i0] at e;exact absurd e (by decide)
  ·obtain⟨l,I,J,K,L⟩:=M.wl g e;refine⟨l,I,J,K,?_⟩;rw[A];exact L.imp id λc=>⟨c.1,Z g (.inl e) c.2.1,c.2.2⟩
 ·rcases u g with ⟨_,rfl⟩|⟨_,g⟩
  ·rw[i0] at e;exact absurd e (by decide)
  ·obtain⟨⟨m,d,I,J,K⟩,L⟩:=M.rc g e;refine⟨⟨m,d,I,by rw[A];exact J,?_⟩,L⟩;exact K.imp id λc=>⟨c.1,Z g (.inr e) c.2.1,c.2.2⟩
 ·rw[Y];rcases C o with rfl|⟨j, _,k⟩
  ·rw[i0] at e;exact absurd e (by decide)
  ·exact M.wt y (aE k) e
 ·rcases u g with ⟨_,rfl⟩|⟨_,g⟩
  ·rw[i0] at D;exact absurd D (by decide)
  ·rcases u v with ⟨_,rfl⟩|⟨_,v⟩
   ·rw[i0] at E;exact absurd E (by decide)
   ·exact M.wu g v T D E
 ·rw[hb] at g;obtain⟨g1,H⟩:=M.aq g;refine⟨g1,λa ha=>?_⟩;obtain⟨z,y,f1,f2,f3,f4⟩:=H a ha;refine⟨z,y,f1,N f2 λc=>?_,f3,f4⟩;subst c;rw[t] at f2;cases f2;exact JI M W g ha (by rw[f4])
end
section
variable {gh dA:Gh} {ta:Int->Bool} {n:Nat} {s:MS} {i:Nat}
def xq (n:Nat) (s:MS):Prop:= ∃gh ta,MI gh ta n s
theorem SL (M:MI gh ta n s) {x:bW} (a:s.cs[i]? =some x) (h: ¬ (x.ph=2\/x.ph=3)):rL s.ep i=s.ep:=by
 have:=M.pn a;rw[ao h] at this;unfold rL;rw[<-this,tP M a]
theorem MI.ends (M:MI gh ta n s) {x:bW} (a:s.cs[i]? =some x) (h1:x.ph=1) (kn:List Int) (b:kn=s.kn) (ms:List MT) {ls:List LT} (c:ls=x.ls):MI gh ta n {s with cs:=s.cs.set i (cC ls),kn:=kn,ms:=ms}:=by
 have:=M.idle a (by omega) (λl d=>M.ln a l d) (M.tl x (aE a)) ms;rw[SL M a (by omega)] at this;subst b c;exact this
theorem tT (s:MS):(dO s).1.cs=s.cs:=by
 unfold dO;dsimp only;generalize oE (ft s.ep)=L;generalize b:({s with ep:=Ci (ft s.ep)}:MS)=a;have h0:s.cs=a.cs:=by rw[<-b]
 rw[h0];clear b h0
 induction L generalizing a with
 |nil=>rfl
 |cons f L c=>exact c (ik a f)
theorem SN {h':HS} (M:MI gh ta n {s with h:=h'}):eV s h'=[]:=by
 refine J0.2 λf a=>?_;obtain⟨m,d,rfl,b,c,e⟩:=iq.1 a;exact e (M.kd b c).1
theorem V6 {x:bW} (a:s.cs[i]? =some x) (x':bW):((s.cs.set i x').getD i x)=x':=by
 rw[Dd,Db (Ap.1 a).1];rfl
theorem MI.call (M:MI gh ta n s) {x:bW} (g:s.cs[i]? =some x) (h1:x.ph=1) (hb:s.bx[i]? =some []) (m:mi s.h x=false) (B:qJ s i x=false) (D: ¬ (x.vm=0/\x.c=(17,0,0,0,()))):xq n (iV (iJ s i x) i x).1:=by
 have u:=M.ar x (aE g);by_cases p:(x.c.1=2\/x.c.1=4\/x.c.1=5\/x.c.1=10)/\sM s.h x.vm x.c.1 x.c.2.1 x.c.2.2.1 x.c.2.2.2.1=0
 ·obtain⟨o,w⟩:=p;obtain⟨g',C,c2,E⟩:=M8 M.hi u.1.1 w o;have e:(iV (iJ s i x) i x).1=AV s (kU s.h x.vm x.c.1 x.c.2.1 x.c.2.2.1 x.c.2.2.2.1) i x (if x.c.1=2 then aF .i64 x.c.2.1 else x.vm) (if x.c.1=2 then -1 else aF .i64 x.c.2.1) (xY s.h x.vm x.c.1 x.c.2.1 x.c.2.2.1 x.c.2.2.2.1,sM s.h x.vm x.c.1 x.c.2.1 x.c.2.2.1 x.c.2.2.2.1) (s.ms++[(1,x.vm,0,x.c,xY s.h x.vm x.c.1 x.c.2.1 x.c.2.2.1 x.c.2.2.2.1,sM s.h x.vm x.c.1 x.c.2.1 x.c.2.2.1 x.c.2.2.2.1)]):=by
   unfold iJ;dsimp only;rw[av o,ao (λc=>c w)];rfl
  rw[e];by_cases f:x.c.1=2
  ·obtain⟨r,z⟩:=c2 f;have t:aF .i64 x.c.2.1=x.c.2.1:=Go.Proofs.YtlcenllcmeebhaaGreat.bL (by omega);rw[av f,av f,t];refine⟨g', _,M.Xl g h1 hb C r (by decide) (by unfold Aw;rw[av f]) (by unfold Ax;rw[av f]) (λ{j q} c _ _=>?_) (λ{j y} l A c=>?_) _ _⟩
   ·rw[av f] at c;exact⟨by omega,.inl rfl⟩
   ·have F:j≠i:=λk=>by subst k;rw[g] at l;cases l;omega
    have:qJ s i x=true:=by
     unfold qJ;refine Fh.2 ⟨j,Ca.2 (Ap.1 l).1,?_⟩;rw[l];dsimp only;rw[DB,decide_eq_true_eq];refine⟨⟨F,z⟩,?_⟩;rw[Gi];right;rw[f,c.2,A];have:0<x.c.2.1:=by omega
     simp[this]
    rw[B] at this;cases this
  ·obtain⟨r,z⟩:=E f;have t:aF .i64 x.c.2.1=x.c.2.1:=Go.Proofs.YtlcenllcmeebhaaGreat.bL (by omega);rw[ao f,ao f,t];refine⟨g', _,M.Xl g h1 hb C r (by omega) (by unfold Aw;rw[ao f]) (by unfold Ax;rw[ao f]) (λ{j q} c _ _=>?_) (λ{j y} l A c=>f c.1) _ _⟩;rw[ao f] at c;exact⟨by omega,.inr c.2.symm⟩
 ·obtain⟨g',P,C,N,G⟩:=HY (k:=x.c.1) (v:=x.vm) (a:=x.c.2.1) (b:=x.c.2.2.1) (c:=x.c.2.2.2.1) M.hi u.1.1 (λc=>D ⟨c.1,by
   obtain⟨_,k,a,b,d⟩:=c;exact E4 k (E4 a (E4 b (E4 d rfl)))⟩) (λH c=>by
   unfold mi a9 at m;rw[H] at m c;rw[c.1,c.2.1,decide_eq_true c.2.2] at m;exact absurd m (by decide)) (by
   by_cases e:x.c.1=2\/x.c.1=4\/x.c.1=5\/x.c.1=10
   ·exact .inl λc=>p ⟨e,c⟩
   ·exact .inr e)
  have M':=M.quiet C N G;have I:=SN M';have e:(iV (iJ s i x) i x).1=cj (cj {s with h:=kU s.h x.vm x.c.1 x.c.2.1 x.c.2.2.1 x.c.2.2.2.1,kn:=s.kn++eV s (kU s.h x.vm x.c.1 x.c.2.1 x.c.2.2.1 x.c.2.2.2.1),ms:=s.ms++[(1,x.vm,0,x.c,xY s.h x.vm x.c.1 x.c.2.1 x.c.2.2.1 x.c.2.2.2.1,sM s.h x.vm x.c.1 x.c.2.1 x.c.2.2.1 x.c.2.2.2.1)]} i {x with rs:=(xY s.h x.vm x.c.1 x.c.2.1 x.c.2.2.1 x.c.2.2.2.1,sM s.h x.vm x.c.1 x.c.2.1 x.c.2.2.1 x.c.2.2.2.1),fs:=eV s (kU s.h x.vm x.c.1 x.c.2.1 x.c.2.2.1 x.c.2.2.2.1)}) i (cC ((s.cs.set i {x with rs:=(xY s.h x.vm x.c.1 x.c.2.1 x.c.2.2.1 x.c.2.2.2.1,sM s.h x.vm x.c.1 x.c.2.1 x.c.2.2.1 x.c.2.2.2.1),fs:=eV s (kU s.h x.vm x.c.1 x.c.2.1 x.c.2.2.1 x.c.2.2.2.1)}).getD i x).ls):=by
   unfold iJ;dsimp only;split
   ·rename_i o;rw[av λc=>p ⟨o,c⟩];rfl
   ·rfl
  rw[e,V6 g,I];refine⟨g',ta,?_⟩;have:=M'.ends g h1 (s.kn++[]) (Dh _) (s.ms++[(1,x.vm,0,x.c,xY s.h x.vm x.c.1 x.c.2.1 x.c.2.2.1 x.c.2.2.2.1,sM s.h x.vm x.c.1 x.c.2.1 x.c.2.2.1 x.c.2.2.2.1)]) (ls:=x.ls) rfl;unfold cj;dsimp only;rw[Dr];exact this
theorem MI.begin (M:MI gh ta n s) {x:bW} (b:s.cs[i]? =some x) (h1:x.ph=1) (hb:s.bx[i]? =some []):xq n (iV (dB s i x) i x).1:=by
 unfold dB;cases d:mi s.h x with
 |true=>
  rw[av rfl];dsimp only;split
  ·rename_i a;have: ∃l∈x.ls,(mP x.ls x.vm (x.c.2.1 / 16) (a9 x.c.1)).1=l.2.2.1:=by
    unfold mP at a ⊢;cases e:x.ls.find? (Cg x.vm (x.c.2.1 / 16)) with
    |none=>rw[e] at a;exact absurd a (show ¬ (4:Int)=0 by decide)
    |some l=>
     rw[e] at a;dsimp only at a ⊢;split at a
     ·exact absurd a (show ¬ (7:Int)=0 by decide)
     ·rename_i c;rw[ao c];exact⟨l,J1 e,rfl⟩
   obtain⟨l,g,j⟩:=this;rw[j];exact⟨gh,ta,M.Fi b h1 d g⟩
  ·exact⟨gh,ta,M.ZX b h1 d⟩
 |false=>
  rw[ao (by decide)];cases k:qJ s i x with
  |true=>
   rw[av rfl,jj b];exact⟨gh,ta,M.ends b h1 s.kn rfl s.ms rfl⟩
  |false=>
   rw[ao (by decide)];split
   ·have f:(dO s).1.cs[i]? =some x:=by rw[tT];exact b
    rw[jj f];exact⟨gh,ta,M.free.ends f h1 _ rfl _ rfl⟩
   ·rename_i m;exact M.call b h1 hb d k m
theorem MI.waits (M:MI gh ta n s) {x:bW} (a:s.cs[i]? =some x) (b:x.ph=4):xq n (iV (iK s x) i x).1:=by
 unfold iK;split
 ·rename_i c;rw[jj (by exact a)];exact⟨gh,ta,M.done a b c⟩
 ·exact⟨gh,ta,M⟩
theorem MI.lY (M:MI gh ta n s) {x:bW} (b:s.cs[i]? =some x):xq n (Go.Proofs.YtlcenllcmeebhaaGreat.lY s i x).1:=by
 have g:=M.ph x (aE b);unfold Go.Proofs.YtlcenllcmeebhaaGreat.lY;split
 ·rename_i d;unfold bS;rw[ao (by omega),ao (by omega),ao (by omega),av d];exact⟨gh,ta,M.reach b d⟩
 ·rename_i d;have e:i<s.bx.length:=by rw[M.lb, <-M.lc];exact(Ap.1 b).1
  unfold ye;cases c:s.bx[i]? with
  |none=>rw[Bx e] at c;cases c
  |some q=>
   cases q with
   |cons a q=>exact⟨gh,ta,M.pop b c⟩
   |nil=>
    dsimp only;unfold bS;split
    ·exact⟨gh,ta,M.free⟩
    split
    ·rename_i h1;exact M.begin b h1 c
    split
    ·rename_i f;exact⟨gh,ta,M.walk b f⟩
    ·exact M.waits b (by omega)
theorem xq.step (M:xq n s) (k:Int):xq n (bh s k).1:=by
 obtain⟨gh,ta,M⟩:=M;unfold bh;split
 ·exact⟨gh,ta,M⟩
 split
 ·exact⟨gh,ta,M⟩
 ·rename_i a;exact M.lY a
theorem xq.ask (M:xq n s) (k vm:Int) {c:CT} (hc:cL c.2.1/\cL c.2.2.1/\cL c.2.2.2.1):xq n (eM s k vm c):=by
 obtain⟨gh,ta,M⟩:=M;exact⟨gh,ta,M.ask k vm hc⟩
theorem xq.new {f:Nat} {l:Int} (p:4<=f/\f<=4096) (r:1<=n/\n<=8) (c:1<=l/\l<=64):xq n (m0 f n l):=by
 have hc: ∀{x:bW},x∈(m0 f n l).cs->x=cC []:=λh=>Dw h;have b: ∀{j:Nat} {x:bW},(m0 f n l).cs[j]? =some x->x=cC []:=λh=>hc (aE h);have no: ∀{k:Int},(cC []).ph=k->k≠0->False:=λh o=>o h.symm;have t: ∀{m:Nat} {d:DT},(m0 f n l).h.s.2[m]? =some d->d.1≠5:=λ{m d} h=>by
  have h:(C5 f zD)[m]? =some d:=h;rw[Dw (DE h)];decide
 refine⟨noG,λ_=>false,⟨HI.new p,r,DH,DH,DH,c,λx h=>?_,λx h=>?_,λx h=>?_,λg b=>absurd b (by simp[m0]),J3,λe u=>absurd u (by simp[m0]),J3,λx h e=>?_,λx h e=>?_,λ{i j x y} h1 _ _ e _=>?_,λh1 o=>absurd o (t h1),G1 _,λ{j x} h=>?_,λ{j x} h l c=>?_,λx h e=>?_,λ{j x} h e=>?_,λ{j x} h e=>?_,λx h e=>?_,λ{i j x y} h1 _ _ e _=>?_,λ{j q} h=>?_,λid h=>absurd h (NA _)⟩⟩
 ·rw[hc h];decide
 ·rw[hc h];decide
 ·rw[hc h];show(0:Int)<=l;omega
 ·rw[hc h] at e;exact(no e (by decide)).elim
 ·rw[hc h] at e;exact(no e (by decide)).elim
 ·rw[b h1] at e;exact(no e (by decide)).elim
 ·rw[b h,ao (by decide)];have v:j<n:=by
   have:=(Ap.1 h).1;rw[show(m0 f n l).cs.length=n from DH] at this;exact this
  show(C5 n (-1:Int)).getD j 0= -1;rw[Dd,GI,av v];rfl
 ·rw[b h] at c;exact absurd c (by simp[cC])
 ·rw[hc h] at e;exact(no e (by decide)).elim
 ·rw[b h] at e;exact(no e (by decide)).elim
 ·rw[b h] at e;exact(no e (by decide)).elim
 ·rw[hc h] at e;exact(no e (by decide)).elim
 ·rw[b h1] at e;exact(no e (by decide)).elim
 ·have:q=[]:=Dw (aE h);rw[this];exact⟨List.Pairwise.nil,λa w=>by cases w⟩
end
def wOf (x:bW):Nat:=if x.ph=1 then 6 else if x.ph=2 then 2+x.wk.2.1.toNat else if x.ph=3 then 1 else 0
def bl (s:MS) (c:Nat):Nat:=(s.bx.getD c []).length
def o1 (x:bW):Nat:=if x.ph=1 then 1 else 0
structure Pg (s s':MS) (k:Nat) (x x':bW):Prop where
 cs:s'.cs=s.cs.set k x'
 one:x'.ph=1->x.ph=1
 box: ∀j,j≠k->bl s' j+o1 x'<=bl s j+o1 x
 me:bl s' k+wOf x'<=bl s k+wOf x
 lt:0<bl s k+wOf x->bl s' k+wOf x'<bl s k+wOf x
section
variable {gh dA:Gh} {ta:Int->Bool} {n:Nat} {s s':MS} {i:Nat}
theorem EK {x:bW} (a:s.cs[i]? =some x):s.cs.set i x=s.cs:=by
 refine J4 λj=>?_;rw[J5];by_cases e:i=j
 ·subst e;rw[av rfl,av (Ap.1 a).1,a]
 ·rw[ao e]
theorem EL (s:MS):(dO s).1.bx=s.bx:=by
 unfold dO;dsimp only;generalize oE (ft s.ep)=L;generalize b:({s with ep:=Ci (ft s.ep)}:MS)=a;have h0:s.bx=a.bx:=by rw[<-b]
 rw[h0];clear b h0
 induction L generalizing a with
 |nil=>rfl
 |cons f L c=>exact c (ik a f)
theorem BJ {s1:MS} {r:Int×Int} {x x1:bW} (h:s1.cs[i]? =some x1):(iV (s1,r,true) i x).1={s1 with cs:=s1.cs.set i (cC x1.ls)}:=by
 unfold iV;rw[av rfl];show cj s1 i (cC ((s1.cs.getD i x).ls))= _;rw[Dd,h];rfl
end
def gC (s:MS) (c:Nat):bW:=s.cs.getD c (cC [])
def nuC (s:MS) (c:Nat):Nat:=bl s c+wOf (gC s c)
def pn1 (s:MS):Nat:=s.cs.countP λx=>x.ph==1
def muC (s:MS) (c:Nat):Nat:=nuC s c+pn1 s
def Kh (s:MS) (L:List Nat):MS:=L.foldl (λ(s:MS) (c:Nat)=>(bh s (c:Int)).1) s
section
variable {gh dA:Gh} {ta:Int->Bool} {n:Nat} {s s':MS} {i:Nat}
theorem SO {x:bW} {c:Nat} (a:s.cs[c]? =some x):bh s (c:Int)=Go.Proofs.YtlcenllcmeebhaaGreat.lY s c x:=by
 unfold bh;rw[ao (by omega)];show(match s.cs[c]? with|none=> _|some x=> _)= _;rw[a];rfl
structure DS (s s':MS) (k:Nat):Prop where
 mu: ∀c,muC s' c<=muC s c
 lt:0<nuC s k->muC s' k<muC s k
 p1:pn1 s'<=pn1 s
 ph: ∀c,(gC s' c).ph=1->(gC s c).ph=1
 ot: ∀c,c≠k->gC s' c=gC s c
def F5 (n:Nat):Nat->MS->MS
 |0,s=>s
 |r+1,s=>Kh (F5 n r s) (AG n)
end
section
variable {gh dA:Gh} {ta:Int->Bool} {n:Nat} {s s':MS} {i:Nat}
structure Zs (n:Nat) (s:MS):Prop where
 x:xq n s
 nu: ∀c,c<n->nuC s c=0
 p1:pn1 s=0
structure Iz (n:Nat) (j:Nat) (s:MS):Prop where
 z:Zs n s
 id: ∀c,c<n->(gC s c).ph=0
 fQ: ∀e∈s.ep.ws,e.2+(j:Int)<=s.ep.now
end
section
variable {gh dA:Gh} {ta:Int->Bool} {n:Nat} {s s':MS} {i:Nat}
theorem clean (X:xq n s) {c:Nat} {x:bW} (k:s.cs[c]? =some x) {l:LT} (o:l∈x.ls):(1<=l.1/\l.1<=16/\0<=l.2.1/\l.2.1<65536)/\ ∃(m:Nat) (d:DT),l.2.2.1=(m:Int)/\s.h.s.2[m]? =some d/\(d.1=4\/d.1=5)/\(s.bx[c]? =some []->d.1=4/\aV s.h.g l.1=true/\jo s.h l.1.toNat l.2.1=(l.2.2.1,l.2.2.2.1,0,())):=by
 obtain⟨gh,ta,M⟩:=X;obtain⟨e,m,d,p,r,b⟩:=M.ln k l o;refine⟨e,m,d,p,r,?_,λhb=>?_⟩
 ·rcases b with b|b
  ·exact .inl b.1
  ·exact b.1
 ·rcases b with ⟨b,f⟩|⟨_,q,a,i,t, _⟩
  ·refine⟨b,?_,f⟩;cases j:s.h.g l.1.toNat with
   |none=>rw[fH j] at f;exact absurd (congrArg (λz=>z.2.2.1) f) (show ¬ (4:Int)=0 by decide)
   |some g=>exact cd.2 ⟨⟨e.1,e.2.1⟩,g,j⟩
  ·rw[hb] at i;cases i;cases t
def mkS (h:HS) (k:MT):HS:=if k.1=1 then kU h k.2.1 k.2.2.2.1.1 k.2.2.2.1.2.1 k.2.2.2.1.2.2.1 k.2.2.2.1.2.2.2.1 else if k.1=2 then bA h (ig h.s k.2.2.1) else if k.1=3 then h else bA h (cW h.s.1 k.2.2.1 k.2.2.2.2.1,h.s.2)
structure aaC (h:HS) (k:MT):Prop where
 kd:1<=k.1/\k.1<=4
 call:k.1=1->xY h k.2.1 k.2.2.2.1.1 k.2.2.2.1.2.1 k.2.2.2.1.2.2.1 k.2.2.2.1.2.2.2.1=k.2.2.2.2.1/\sM h k.2.1 k.2.2.2.1.1 k.2.2.2.1.2.1 k.2.2.2.1.2.2.1 k.2.2.2.1.2.2.2.1=k.2.2.2.2.2/\cL k.2.2.2.1.2.1/\cL k.2.2.2.1.2.2.1/\cL k.2.2.2.1.2.2.2.1
 free:k.1=2->ju h.s k.2.2.1=0
 load:k.1=3->uH h.s.1 k.2.2.1=true/\dC h.s.1 k.2.2.1=k.2.2.2.2.1/\k.2.2.2.2.2=0
 store:k.1=4->uH h.s.1 k.2.2.1=true/\cL k.2.2.2.2.1
inductive Rp:HS->List MT->HS->Prop
 |nil (h:HS):Rp h [] h
 |snoc {h h1:HS} {l:List MT} {k:MT} (r:Rp h l h1) (o:aaC h1 k):Rp h (l++[k]) (mkS h1 k)
theorem Rp.add {h h1 a:HS} {l:List MT} {k:MT} (r:Rp h l h1) (o:aaC h1 k) (e:mkS h1 k=a):Rp h (l++[k]) a:=by rw[<-e];exact .snoc r o
theorem SP {h0:HS} (M:MI gh ta n s) (R:Rp h0 s.ms s.h) {f r:Int} (b:(f,r)∈s.ep.ws):Rp h0 (gQ s f).ms (gQ s f).h:=by
 obtain⟨e, _, _⟩:=M.wk _ b;obtain⟨m,d,a,g,i⟩:=M.k5 f e;have a:f=(m:Int):=a;obtain⟨_,j, _⟩:=M.hi.OM g i;refine R.add ⟨(show 1<=(2:Int)/\(2:Int)<=4 by decide),λc=>absurd c (show ¬ (2:Int)=1 by decide),λ_=>?_,λc=>absurd c (show ¬ (2:Int)=3 by decide),λc=>absurd c (show ¬ (2:Int)=4 by decide)⟩ rfl;show ju s.h.s f=0;rw[a];exact j
theorem EM {h0:HS}: ∀(L:List Int) {s:MS},MI gh ta n s->Rp h0 s.ms s.h->L.Nodup->(∀f∈L, ∃r,(f,r)∈s.ep.ws/\r+2<=s.ep.now)->Rp h0 (L.foldl gQ s).ms (L.foldl gQ s).h
 |[], _, _,R, _, _=>R
 |f::L,s,M,R,a,b=>by
  obtain⟨r,h1,e⟩:=b f B4;refine EM L (M.gQ h1 e) (SP M R h1) (GH.1 a).2 λg d=>?_;obtain⟨r',i,j⟩:=b g (Ae _ d);refine⟨r',J_.2 ⟨i,?_⟩,j⟩;have:g≠f:=λc=>(GH.1 a).1 (by rw[<-c];exact d);simp[this]
theorem JJ {h0:HS} (M:MI gh ta n s) (R:Rp h0 s.ms s.h):Rp h0 (dO s).1.ms (dO s).1.h:=by
 rw[EE M];refine EM _ M.X9 R ?_ λf a=>CM.1 a;unfold oE;refine(lF _).nodup_iff.2 ?_;exact M.X9.wn.sublist (List.filter_sublist.map _)
theorem Cv (r:St) (i:Nat) (x:bW):(iV r i x).1.ms=r.1.ms/\(iV r i x).1.h=r.1.h:=by
 unfold iV;split<;>exact⟨rfl,rfl⟩
theorem V7 {h0:HS} (M:MI gh ta n s) (R:Rp h0 s.ms s.h) {x:bW} (a:s.cs[i]? =some x):Rp h0 (iJ s i x).1.ms (iJ s i x).1.h:=by
 have b:=M.ar x (aE a);have key:Rp h0 (s.ms++[(1,x.vm,0,x.c,xY s.h x.vm x.c.1 x.c.2.1 x.c.2.2.1 x.c.2.2.2.1,sM s.h x.vm x.c.1 x.c.2.1 x.c.2.2.1 x.c.2.2.2.1)]) (kU s.h x.vm x.c.1 x.c.2.1 x.c.2.2.1 x.c.2.2.2.1):=
  R.add ⟨(show 1<=(1:Int)/\(1:Int)<=4 by decide),λ_=>⟨rfl,rfl,b⟩,λc=>absurd c (show ¬ (1:Int)=2 by decide),λc=>absurd c (show ¬ (1:Int)=3 by decide),λc=>absurd c (show ¬ (1:Int)=4 by decide)⟩ rfl
 unfold iJ;dsimp only;split
 ·split<;>exact key
 ·exact key
theorem SQ {h0:HS} (M:MI gh ta n s) (R:Rp h0 s.ms s.h) {x:bW} (a:s.cs[i]? =some x) (e:x.ph=3):Rp h0 (gi s i x).1.ms (gi s i x).1.h:=by
 obtain⟨⟨m,d,f,g, _⟩, _⟩:=M.rc a e;have j:=M.ar x (aE a);have k:m<s.h.s.2.length:=(Ap.1 g).1;have b:uH s.h.s.1 (16*x.fr+x.c.2.1 % 16)=true:=by
  have:=M.hi.sz;rw[f];exact jh (by omega) (by omega)
 unfold gi;dsimp only;split
 ·exact R.add ⟨(show 1<=(4:Int)/\(4:Int)<=4 by decide),λc=>absurd c (show ¬ (4:Int)=1 by decide),λc=>absurd c (show ¬ (4:Int)=2 by decide),λc=>absurd c (show ¬ (4:Int)=3 by decide),λ_=>⟨b,j.2.1⟩⟩ rfl
 ·exact R.add ⟨(show 1<=(3:Int)/\(3:Int)<=4 by decide),λc=>absurd c (show ¬ (3:Int)=1 by decide),λc=>absurd c (show ¬ (3:Int)=2 by decide),λ_=>⟨b,rfl,rfl⟩,λc=>absurd c (show ¬ (3:Int)=4 by decide)⟩ rfl
theorem V8 {h0:HS} (X:xq n s) (R:Rp h0 s.ms s.h) (k:Int):Rp h0 (bh s k).1.ms (bh s k).1.h:=by
 obtain⟨gh,ta,M⟩:=X;unfold bh;split
 ·exact R
 split
 ·exact R
 ·rename_i x b;unfold Go.Proofs.YtlcenllcmeebhaaGreat.lY;have d:=M.ph x (aE b);split
  ·rename_i c;rw[(Cv _ _ _).1,(Cv _ _ _).2];unfold bS;rw[ao (by omega),ao (by omega),ao (by omega),av c];exact SQ M R b c
  ·rename_i c;split
   ·rename_i a;unfold ye at a;split at a
    ·cases a;exact R
    ·cases a
   ·rw[(Cv _ _ _).1,(Cv _ _ _).2];unfold bS;split
    ·exact JJ M R
    split
    ·unfold dB;split
     ·dsimp only;split<;>exact R
     split
     ·exact R
     split
     ·exact JJ M R
     ·exact V7 M R b
    split
    ·unfold lx;dsimp only;split
     ·exact R
     split<;>exact R
    ·unfold iK;split<;>exact R
theorem ZZ {h0:HS} (R:Rp h0 s.ms s.h) (k vm:Int) (c:CT):Rp h0 (eM s k vm c).ms (eM s k vm c).h:=by
 unfold eM;split
 ·exact R
 split
 ·exact R
 ·split<;>exact R
end
section
variable {gh dA:Gh} {ta:Int->Bool} {n:Nat} {s s':MS} {i:Nat}
structure Ch (s s':MS) (k:Nat) (x x':bW):Prop where
 cs:s'.cs=s.cs.set k x'
 ls: ∀l∈x'.ls,l∈x.ls\/(x.ph=2/\s.bx[k]? =some []/\l.1=x.vm/\l.2.1=x.c.2.1 / 16/\jo s.h x.vm.toNat (x.c.2.1 / 16)=(l.2.2.1,l.2.2.2.1,0,()))
 vc:x'.ph=0\/(x.ph≠0/\x'.vm=x.vm/\x'.c=x.c)
 p3:x'.ph=3->s.bx[k]? =some []/\((x.ph=1/\ ∃l∈x.ls,l.1=x.vm/\l.2.1=x.c.2.1 / 16/\l.2.2.1=x'.fr)\/(x.ph=2/\ ∃r,jo s.h x.vm.toNat (x.c.2.1 / 16)=(x'.fr,r,0,())))
 p4:x'.ph=4->(x.ph=4/\x'.rs=x.rs)\/(x'.rs.2=0/\x.c.1≠6/\x.c.1≠7)
 md:s'.h=s.h\/s'.h=(dO s).1.h\/(x.ph=1/\s'.h=kU s.h x.vm x.c.1 x.c.2.1 x.c.2.2.1 x.c.2.2.2.1)\/(x.ph=3/\x.c.1=7/\s'.h=bA s.h (cW s.h.s.1 (16*x.fr+x.c.2.1 % 16) x.c.2.2.1,s.h.s.2))
 p2:x'.ph=2->x.ph=1\/x.ph=2
 bo: ∀j,j≠k-> ∀q,s.bx[j]? =some q-> ∃r,s'.bx[j]? =some (q++r)/\(x.ph=1->x.c.1=6->mi s.h x=true->r=[])/\(x.ph≠1->r=[])
theorem nN {s s':MS} {k:Nat} {x:bW} (hb:s'.bx=s.bx): ∀j,j≠k-> ∀q,s.bx[j]? =some q-> ∃r,s'.bx[j]? =some (q++r)/\(x.ph=1->x.c.1=6->mi s.h x=true->r=[])/\(x.ph≠1->r=[]):=λj _ q h=>⟨[],by rw[hb,Dh];exact h,λ_ _ _=>rfl,λ_=>rfl⟩
theorem Ch.idle {x:bW} {ls:List LT} (fj:s'.cs=s.cs.set i (cC ls)) (a:ls=x.ls) (md:s'.h=s.h\/s'.h=(dO s).1.h\/(x.ph=1/\s'.h=kU s.h x.vm x.c.1 x.c.2.1 x.c.2.2.1 x.c.2.2.2.1)\/(x.ph=3/\x.c.1=7/\s'.h=bA s.h (cW s.h.s.1 (16*x.fr+x.c.2.1 % 16) x.c.2.2.1,s.h.s.2))) (hb:s'.bx=s.bx:=by first|rfl|exact EL _):Ch s s' i x (cC ls):=
 ⟨fj,λl h=> .inl (by rw[<-a];exact h),.inl rfl,λc=>absurd c (show ¬ (0:Int)=3 by decide),λc=>absurd c (show ¬ (0:Int)=4 by decide),md,λc=>absurd c (show ¬ (0:Int)=2 by decide),nN hb⟩
theorem V9 {bx:List (List AK)} {op:List Int} {t p:Int} {j:Nat} (b:j≠i) {q:List AK} (a:bx[j]? =some q): ∃r,(dy bx op i t p).2.1[j]? =some (q++r):=by
 unfold dy;split
 ·exact⟨[],by rw[Dh];exact a⟩
 split
 ·exact⟨[],by rw[Dh];exact a⟩
 ·refine⟨[((op.length:Int)+1,t,p,())],?_⟩;have:=post_at (i:=i) (x:=(((op.length:Int)+1,t,p,()):AK)) a;rw[ao b] at this;exact this
theorem SS {x:bW} (g:s.cs[i]? =some x) (h1:x.ph=1): ∃x',Ch s (iV (iJ s i x) i x).1 i x x':=by
 by_cases a:(x.c.1=2\/x.c.1=4\/x.c.1=5\/x.c.1=10)/\sM s.h x.vm x.c.1 x.c.2.1 x.c.2.2.1 x.c.2.2.2.1=0
 ·obtain⟨a,d⟩:=a;generalize b:iJ s i x=r;unfold iJ at b;dsimp only at b;rw[av a,ao (λc=>c d)] at b;subst b;exact⟨_,rfl,λl k=> .inl (tQ k).1,.inr ⟨by omega,rfl,rfl⟩,λc=>absurd c (show ¬ (4:Int)=3 by decide),λ_=> .inr ⟨d,by omega,by omega⟩,.inr (.inr (.inl ⟨h1,rfl⟩)),λc=>absurd c (show ¬ (4:Int)=2 by decide),λj m q n=>(V9 m n).imp λr h=>⟨h,λ_ c6 _=>(by omega),λc=>absurd h1 c⟩⟩
 ·have e: ∃(s1:MS) (x1:bW) (r:Int×Int),iJ s i x=(s1,r,true)/\s1.h=kU s.h x.vm x.c.1 x.c.2.1 x.c.2.2.1 x.c.2.2.2.1/\s1.cs=s.cs.set i x1/\x1.ls=x.ls/\s1.bx=s.bx:=by
   unfold iJ;dsimp only;split
   ·rename_i o;rw[av λc=>a ⟨o,c⟩];exact⟨_,{x with rs:= _,fs:= _}, _,rfl,rfl,rfl,rfl,rfl⟩
   ·exact⟨_,{x with rs:= _,fs:= _}, _,rfl,rfl,rfl,rfl,rfl⟩
  obtain⟨s1,x1,r,p,t,f,u,v⟩:=e;rw[p];have w:s1.cs[i]? =some x1:=by rw[f,Db (Ap.1 g).1]
  rw[BJ w];refine⟨cC x1.ls,Ch.idle ?_ u (.inr (.inr (.inl ⟨h1,t⟩))) v⟩;show s1.cs.set i _= _;rw[f,Dr]
theorem M9 {x:bW} (e:s.cs[i]? =some x) (h1:x.ph=1) (hb:s.bx[i]? =some []): ∃x',Ch s (iV (dB s i x) i x).1 i x x':=by
 unfold dB;cases g:mi s.h x with
 |true=>
  rw[av rfl];dsimp only;split
  ·rename_i a;have: ∃l∈x.ls,l.1=x.vm/\l.2.1=x.c.2.1 / 16/\l.2.2.1=(mP x.ls x.vm (x.c.2.1 / 16) (a9 x.c.1)).1:=by
    unfold mP at a ⊢;cases b:x.ls.find? (Cg x.vm (x.c.2.1 / 16)) with
    |none=>rw[b] at a;exact absurd a (show ¬ (4:Int)=0 by decide)
    |some l=>
     rw[b] at a;dsimp only at a ⊢;split at a
     ·exact absurd a (show ¬ (7:Int)=0 by decide)
     ·rename_i c;rw[ao c];have d:=List.find?_some b;unfold Cg at d;rw[DB,beq_iff_eq,beq_iff_eq] at d;exact⟨l,J1 b,d.1,d.2,rfl⟩
   exact⟨_,rfl,λl h=> .inl h,.inr ⟨by omega,rfl,rfl⟩,λ_=>⟨hb,.inl ⟨h1,this⟩⟩,λc=>absurd c (show ¬ (3:Int)=4 by decide),.inl rfl,λc=>absurd c (show ¬ (3:Int)=2 by decide),nN rfl⟩
  ·exact⟨_,rfl,λl h=> .inl h,.inr ⟨by omega,rfl,rfl⟩,λc=>absurd c (show ¬ (2:Int)=3 by decide),λc=>absurd c (show ¬ (2:Int)=4 by decide),.inl rfl,λ_=> .inl h1,nN rfl⟩
 |false=>
  rw[ao (by decide)];cases j:qJ s i x with
  |true=>
   rw[av rfl,jj e];exact⟨_,Ch.idle rfl rfl (.inl rfl)⟩
  |false=>
   rw[ao (by decide)];split
   ·have f:(dO s).1.cs[i]? =some x:=by rw[tT];exact e
    rw[jj f];exact⟨_,Ch.idle (by rw[tT]) rfl (.inr (.inl rfl))⟩
   ·exact SS e h1
theorem SU (M:MI gh ta n s) {x:bW} (e:s.cs[i]? =some x) (b:x.ph=2) (hb:s.bx[i]? =some []): ∃x',Ch s (iV (lx s i x) i x).1 i x x':=by
 have r:=M.ar x (aE e);obtain⟨u,v,D⟩:=M.ac x (aE e) b;obtain⟨l,w1,w,z,d⟩:=M.wl e b;have q:=xO ⟨r.1.1,v⟩;have g:x.wk=(x.wk.1,(l:Int),(0,0,0,0,())):=E4 rfl (E4 w1 z);obtain⟨A,B,E,C,F,G⟩:=xN M u;unfold lx;dsimp only;split
 ·exact⟨_,rfl,λl h=> .inl h,.inr ⟨by omega,rfl,rfl⟩,λc=>absurd (show x.ph=3 from c) (by omega),λc=>absurd (show x.ph=4 from c) (by omega),.inl rfl,λ_=> .inr b,nN rfl⟩
 split
 ·rw[BJ (x1:={x with wk:=bE s.h.s.1 (x.c.2.1 / 16) (a9 x.c.1) x.wk}) (by exact(Db (Ap.1 e).1))];refine⟨cC x.ls,Ch.idle ?_ rfl (.inl rfl)⟩;show(s.cs.set i _).set i _= _;rw[Dr]
 rename_i j f;have j:(bE s.h.s.1 (x.c.2.1 / 16) (a9 x.c.1) x.wk).2.1= -1:=GF j;have f:(bE s.h.s.1 (x.c.2.1 / 16) (a9 x.c.1) x.wk).2.2.2.2.2.1=0:=GF f;have k:bz s.h.s A.root false (x.c.2.1 / 16)=((bE s.h.s.1 (x.c.2.1 / 16) (a9 x.c.1) x.wk).2.2.1,(bE s.h.s.1 (x.c.2.1 / 16) (a9 x.c.1) x.wk).2.2.2.1,0,()):=by
  rcases d with d|d
  ·rcases M.hi.inv.qv M.hi.nl (t:=a9 x.c.1) C q d with ⟨m, _,o,a,H,k4⟩|⟨o,a⟩
   ·rw[<-g] at o;rw[j] at o;omega
   ·rw[<-g] at a;exact a f
  ·obtain⟨_,a⟩:=M.hi.inv.qw (t:=a9 x.c.1) q w d.1;rw[<-g,f] at a;exact absurd a (by decide)
 rw[<-bP B] at k;refine⟨_,rfl,λy p=>?_,.inr ⟨by omega,rfl,rfl⟩,λ_=>⟨hb,.inr ⟨b, _,k⟩⟩,λc=>absurd c (show ¬ (3:Int)=4 by decide),.inl rfl,λc=>absurd c (show ¬ (3:Int)=2 by decide),nN rfl⟩;rcases EG p with p|rfl
 ·exact .inl p
 ·exact .inr ⟨b,hb,rfl,rfl,k⟩
theorem chg (M:MI gh ta n s) {x:bW} (b:s.cs[i]? =some x): ∃x',Ch s (Go.Proofs.YtlcenllcmeebhaaGreat.lY s i x).1 i x x':=by
 have z:=M.ph x (aE b);unfold Go.Proofs.YtlcenllcmeebhaaGreat.lY;split
 ·rename_i d;unfold bS;rw[ao (by omega),ao (by omega),ao (by omega),av d];have: ∃(s1:MS) (r:Int×Int),gi s i x=(s1,r,true)/\s1.cs=s.cs/\s1.bx=s.bx/\(s1.h=s.h\/(x.ph=3/\x.c.1=7/\s1.h=bA s.h (cW s.h.s.1 (16*x.fr+x.c.2.1 % 16) x.c.2.2.1,s.h.s.2))):=by
   unfold gi;dsimp only;split
   ·rename_i m;exact⟨_, _,rfl,rfl,rfl,.inr ⟨d,m,rfl⟩⟩
   ·exact⟨_, _,rfl,rfl,rfl,.inl rfl⟩
  obtain⟨s1,r,o,g,p,t⟩:=this;rw[o,jj (x:=x) (by rw[g];exact b)];exact⟨_,Ch.idle (by rw[g]) rfl (t.imp id λc=> .inr (.inr c)) p⟩
 ·rename_i d;have u:i<s.bx.length:=by rw[M.lb, <-M.lc];exact(Ap.1 b).1
  unfold ye;cases f:s.bx[i]? with
  |none=>rw[Bx u] at f;cases f
  |some q=>
   cases q with
   |cons a q=>
    refine⟨_,rfl,λl v=> .inl (tQ v).1,?_,λc=>absurd c d,λc=> .inl ⟨c,rfl⟩,.inl rfl,λc=> .inr c,λj w A y=>⟨[],by rw[Dh];show(s.bx.set i q)[j]? = _;rw[FS (λe=>w e.symm)];exact y,λ_ _ _=>rfl,λ_=>rfl⟩⟩;by_cases h0:x.ph=0
    ·exact .inl h0
    ·exact .inr ⟨h0,rfl,rfl⟩
   |nil=>
    dsimp only;unfold bS;split
    ·rename_i h0;exact⟨x,by show(dO s).1.cs= _;rw[tT,EK b],λl h=> .inl h,.inl h0,λc=>absurd c d,λc=> .inl ⟨c,rfl⟩,.inr (.inl rfl),λc=> .inr c,nN (EL s)⟩
    split
    ·rename_i h1;exact M9 b h1 f
    split
    ·rename_i k;exact SU M b k f
    ·rename_i h0 h1 k;unfold iK;split
     ·rw[jj (by exact b)];exact⟨_,Ch.idle rfl rfl (.inl rfl)⟩
     ·exact⟨x,(EK b).symm,λl h=> .inl h,.inr ⟨h0,rfl,rfl⟩,λc=>absurd c d,λc=> .inl ⟨c,rfl⟩,.inl rfl,λc=> .inr c,nN rfl⟩
theorem EN (X:xq n s) (k:Int):(bh s k).1=s\/ ∃(c:Nat) (x x':bW),k=(c:Int)/\s.cs[c]? =some x/\Ch s (bh s k).1 c x x':=by
 obtain⟨gh,ta,M⟩:=X;by_cases b:k<0
 ·left;unfold bh;rw[av b]
 ·cases a:s.cs[k.toNat]? with
  |none=>left;unfold bh;rw[ao b,a]
  |some x=>
   obtain⟨x',C⟩:=chg M a;refine .inr ⟨k.toNat,x,x',by omega,a,?_⟩;have e:bh s k=Go.Proofs.YtlcenllcmeebhaaGreat.lY s k.toNat x:=by unfold bh;rw[ao b,a]
   rw[e];exact C
end
section
variable {gh dA:Gh} {ta:Int->Bool} {n:Nat} {s s':MS} {i:Nat} {N:Int->Int->Prop}
structure Nm (N:Int->Int->Prop) (s:MS):Prop where
 ln: ∀x∈s.cs, ∀l∈x.ls,N l.1 l.2.1
 ca: ∀x∈s.cs,x.ph≠0->x.c.1=6\/x.c.1=7->N x.vm (x.c.2.1 / 16)
theorem Nm.step (H:Nm N s) (X:xq n s) (k:Int):Nm N (bh s k).1:=by
 rcases EN X k with e|⟨c,x,x', _,j,C⟩
 ·rw[e];exact H
 obtain⟨gh,ta,M⟩:=X;have b:=aE j;refine⟨λy a l i=>?_,λy a h0 f=>?_⟩
 ·rw[C.cs] at a;rcases im a with rfl|a
  ·rcases C.ls l i with h|⟨m, _,g,d, _⟩
   ·exact H.ln x b l h
   ·rw[g,d];exact H.ca x b (by omega) (M.ac x b m).2.2
  ·exact H.ln y a l i
 ·rw[C.cs] at a;rcases im a with rfl|a
  ·rcases C.vc with h|⟨o,g,d⟩
   ·exact absurd h h0
   ·rw[g,d];rw[d] at f;exact H.ca x b o f
  ·exact H.ca y a h0 f
theorem Nm.ask (H:Nm N s) (k vm:Int) {c:CT} (hc:c.1=6\/c.1=7->N vm (c.2.1 / 16)):Nm N (eM s k vm c):=by
 unfold eM;split
 ·exact H
 cases e:s.cs[k.toNat]? with
 |none=>exact H
 |some x=>
  dsimp only;split
  ·refine⟨λy a l b=>?_,λy a h0 d=>?_⟩
   ·rcases im (show y∈s.cs.set _ _ from a) with rfl|a
    ·exact H.ln x (aE e) l b
    ·exact H.ln y a l b
   ·rcases im (show y∈s.cs.set _ _ from a) with rfl|a
    ·exact hc d
    ·exact H.ca y a h0 d
  ·exact H
theorem Nm.new (f:Nat) (l:Int):Nm N (m0 f n l):=⟨λx a l b=>(by rw[Dw a] at b;cases b),λx a h0=>(by rw[Dw a] at h0;exact absurd rfl h0)⟩
structure NZ (s:MS):Prop where
 r: ∀x∈s.cs,x.ph=4->x.rs.2=0
theorem NZ.step (H:NZ s) (X:xq n s) (k:Int):NZ (bh s k).1:=by
 rcases EN X k with e|⟨c,x,x', _,d,C⟩
 ·rw[e];exact H
 refine⟨λy a b=>?_⟩;rw[C.cs] at a;rcases im a with rfl|a
 ·rcases C.p4 b with ⟨f,g⟩|e
  ·rw[g];exact H.r x (aE d) f
  ·exact e.1
 ·exact H.r y a b
theorem NZ.ask (H:NZ s) (k vm:Int) (c:CT):NZ (eM s k vm c):=by
 unfold eM;split
 ·exact H
 cases d:s.cs[k.toNat]? with
 |none=>exact H
 |some x=>
  dsimp only;split
  ·refine⟨λy a b=>?_⟩;rcases im (show y∈s.cs.set _ _ from a) with rfl|a
   ·exact absurd b (show ¬ (1:Int)=4 by decide)
   ·exact H.r y a b
  ·exact H
theorem NZ.new (f:Nat) (l:Int):NZ (m0 f n l):=⟨λx b a=>by rw[Dw b] at a;exact absurd a (show ¬ (0:Int)=4 by decide)⟩
end
theorem c1: ¬ (1:Int)=12:=by decide
theorem c2: ¬ (2:Int)=12:=by decide
theorem c3: ¬ (3:Int)=12:=by decide
theorem c4: ¬ (4:Int)=12:=by decide
theorem c5: ¬ (5:Int)=12:=by decide
theorem c6: ¬ (6:Int)=12:=by decide
theorem c7: ¬ (7:Int)=12:=by decide
theorem c9: ¬ (9:Int)=12:=by decide
theorem Yb: ¬ (10:Int)=12:=by decide
theorem c11: ¬ (11:Int)=12:=by decide
section
variable {gh:Gh} {h:HS}
theorem M_ (H:HI gh h) {v:Int} (k:aV h.g v=true) {p:Int} (a:0<=p/\p<65536):uV (a6 h.g v) p 0=false/\(((nc h.s.1 (a6 h.g v) p 0).2.2.2.1=0/\ ∃(m:Nat) (d:DT),(nc h.s.1 (a6 h.g v) p 0).1=(m:Int)/\h.s.2[m]? =some d/\d.1=4)\/(nc h.s.1 (a6 h.g v) p 0).2.2.2.1=4):=by
 obtain⟨x,f,n,hv, _⟩:=bZ k;have b:=H.root f;have c:=H.inv.PA H.nl b a (t:=0) (by decide);rw[n];obtain⟨o,q,z⟩:=H.inv.vA b;refine⟨?_,?_⟩
 ·unfold uV;have r:dQ x.root p 3=16*x.root+px 3 p % 16:=lq ⟨o,q⟩ a (l:=3) (by omega);have A:=dZ p 3;rw[r,decide_eq_false (by omega),decide_eq_false (by omega),decide_eq_false (by omega)];rfl
 ·by_cases e:(bz h.s x.root false p).2.2.1=0
  ·rw[av e] at c;have u:mC h v.toNat p=some (bz h.s x.root false p).1:=by rw[cQ f,av e]
   obtain⟨m,d,h1,w,y, _⟩:=H.TQ u;obtain⟨f0,B, _,i⟩:=H.inv.mv b a;have j:=(H.inv.VW b a i).2.2;rw[<-H.inv.fP b a i] at j;refine .inl ⟨j.2 e,m,d,?_,w,y⟩;rw[c];exact h1
  ·rw[ao e] at c;exact .inr c
end
section
variable {gh dA:Gh} {ta:Int->Bool} {n:Nat} {s s':MS} {i:Nat}
theorem EO {x:bW} (a:s.cs[i]? =some x) (h0:x.ph=0) (vm:Int) (c:CT):eM s (i:Int) vm c=cj s i {x with ph:=1,vm:=vm,c:=c}/\qK s (i:Int)=0:=by
 refine⟨?_,?_⟩
 ·unfold eM;rw[ao (by omega)];show(match s.cs[i]? with|none=> _|some x=> _)= _;rw[a];exact av h0
 ·unfold qK;rw[ao (by omega)];show(match s.cs[i]? with|none=>(2:Int)|some x=> _)= _;rw[a];exact av h0
theorem quick {x:bW} (d:s.cs[i]? =some x) (h0:x.ph=0) (hb:s.bx[i]? =some []) {vm:Int} {c:CT} (m: ¬ (c.1=2\/c.1=4\/c.1=5\/c.1=10)) (n:a9 c.1=0) (o:c.1≠17) (a:qJ s i {x with ph:=1,vm:=vm,c:=c}=false):
 bh (eM s (i:Int) vm c) (i:Int)=({s with h:=kU s.h vm c.1 c.2.1 c.2.2.1 c.2.2.2.1,kn:=s.kn++eV s (kU s.h vm c.1 c.2.1 c.2.2.1 c.2.2.2.1),ms:=s.ms++[(1,vm,0,c,xY s.h vm c.1 c.2.1 c.2.2.1 c.2.2.2.1,sM s.h vm c.1 c.2.1 c.2.2.1 c.2.2.2.1)],cs:=s.cs.set i (cC x.ls)},(xY s.h vm c.1 c.2.1 c.2.2.1 c.2.2.2.1,sM s.h vm c.1 c.2.1 c.2.2.1 c.2.2.2.1),true):=by
 have f:i<s.cs.length:=(Ap.1 d).1;rw[(EO d h0 vm c).1];generalize b:({x with ph:=1,vm:=vm,c:=c}:bW)=y at a ⊢;have p:y.ph=1:=by rw[<-b]
 have hc:y.c=c:=by rw[<-b]
 have hv:y.vm=vm:=by rw[<-b]
 have q:y.ls=x.ls:=by rw[<-b]
 have g:(cj s i y).cs[i]? =some y:=Db f;rw[SO g];unfold Go.Proofs.YtlcenllcmeebhaaGreat.lY;rw[ao (by omega)];unfold ye;rw[show(cj s i y).bx[i]? =some [] from hb];dsimp only;unfold bS;rw[ao (by omega),av p];unfold dB;have r:mi (cj s i y).h y=false:=by unfold mi;rw[hc,n];rfl
 have t:qJ (cj s i y) i y=false:=by
  unfold qJ at a ⊢;rw[GG] at a ⊢;intro j l;have u:j∈AG s.cs.length:=by
   show j∈AG s.cs.length;rw[show(cj s i y).cs.length=s.cs.length from Cd] at l;exact l
  have:=a j u;by_cases e:j=i
  ·subst e;rw[g];simp
  ·rw[show(cj s i y).cs[j]? =s.cs[j]? from FS (λk=>e k.symm)];exact this
 rw[r,t,ao (by decide),ao (by decide),ao (λk=>o (by rw[hc] at k;rw[k.2]))];unfold iJ;dsimp only;rw[hc,ao m,hv];unfold iV;rw[av rfl];dsimp only;have v: ∀(x1:bW),((s.cs.set i y).set i x1).getD i y=x1:=λx1=>by
  rw[Dr,Dd,Db f];rfl
 unfold cj;dsimp only;rw[v];dsimp only;rw[Dr,Dr,q];rfl
theorem SV (a: ∀y∈s.cs,y.ph=0) (x:bW):qJ s i x=false:=by
 unfold qJ;rw[GG];intro j _;cases b:s.cs[j]? with
 |none=>simp
 |some y=>
  have:=a y (aE b);dsimp only;rw[this];simp
theorem SW {h:HS} (H:HI gh h) {v:Nat} (a:mN h.g=some v) (hc:0<cq h.s.2 0):sM h 0 1 0 0 0=0/\xY h 0 1 0 0 0=(v:Int)/\(kU h 0 1 0 0 0).g=bj h.g v (some ⟨dX h.s (v:Int),[]⟩)/\cq (kU h 0 1 0 0 0).s.2 0+1=cq h.s.2 0:=by
 have b:iY h 0 1 0 0 0=0:=rfl;obtain⟨h1,f,m⟩:=Gz b;have hv:=(nR.1 a).1;have c:rz h.s (v:Int)=0:=H.inv.ZL (by omega) hc;have d:(run h 0 1 0 0 0).1={h with s:=iF h.s (v:Int) λ_=>0,g:=bj h.g v (some ⟨dX h.s (v:Int),[]⟩)}:=by
  show gP h= _;unfold gP;rw[a];exact av c
 have e:(run h 0 1 0 0 0).2.2=0:=by
  show o7 h=0;unfold o7;rw[a];exact c
 have i:(run h 0 1 0 0 0).2.1=(v:Int):=by
  show AS h=(v:Int);unfold AS;rw[a]
 refine⟨f.trans e,?_,?_,?_⟩
 ·unfold xY;rw[av b,av e];exact i
 ·rw[h1,d]
 ·rw[h1,d];show cq (dG h.s.2 3 (v:Int)) 0+1= _;obtain⟨j, _,k, _, _,l⟩:=m5 (ds:=h.s.2) (o:=(v:Int)) hc H.inv.fz (by omega);rw[l];have:=tB (d':=((3:Int),(v:Int),(0:Int),(0:Int),())) k 0;rw[av (show zD.1=0 from rfl),ao (show ¬ (3:Int)=0 by decide)] at this;omega
end
section
variable {gh dA:Gh} {n:Nat} {s s':MS} {f:Nat} {l:Int}
def Om (h:HS):Prop:= ∀i q,mC h i q=none
theorem Om.Kg {h:HS} (H:HI gh h) (b:Om h):Om (kU h 0 1 0 0 0):=λi q=>by
 obtain⟨g',d,E, _⟩:=H.Gy;have e:kU h 0 1 0 0 0=gP h:=(Gz (show iY h 0 1 0 0 0=0 from rfl)).1;rw[e];cases a:mC (gP h) i q with
 |none=>rfl
 |some x=>
  obtain⟨_, _,f,g⟩:=d.hc.jm a;have:=b i q;rw[rW,E.pg.to (λc=>c ⟨f,g⟩), <-rW,this] at a;cases a
abbrev z9:CT:=(1,0,0,0,())
structure Bg (f n:Nat) (l:Int) (k:Nat) (s:MS):Prop where
 x:xq n s
 r:NZ s
 np:Om s.h
 cs:s.cs=C5 n (cC [])
 bx:s.bx=C5 n []
 kn:s.kn=[]
 op:s.op=[]
 ws:s.ep.ws=[]
 sz:s.sz=l
 len:s.h.s.2.length=f
 cnt:cq s.h.s.2 0+k=f
 live: ∀v:Int,aV s.h.g v=true<->1<=v/\v<=(k:Int)
 rp:Rp (h0 f) s.ms s.h
 nm: ∀N:Int->Int->Prop,Nm N s
theorem Bg.new (d:20<=f/\f<=4096) (a:1<=n/\n<=8) (b:1<=l/\l<=64):Bg f n l 0 (m0 f n l) where
 x:=xq.new (by omega) a b
 r:=NZ.new f l
 np:=λi q=>rfl
 cs:=rfl
 bx:=rfl
 kn:=rfl
 op:=rfl
 ws:=rfl
 sz:=rfl
 len:=DH
 cnt:=by
  show cq (C5 f zD) 0+0=f;rw[VC,av rfl];rfl
 live:=λv=>by
  constructor
  ·intro h;obtain⟨_,x,c⟩:=cd.1 h;cases c
  ·intro h;omega
 rp:= .nil _
 nm:=λN=>Nm.new f l
theorem V_ {α:Type} (n i:Nat) (x:α):(C5 n x).set i x=C5 n x:=by
 refine J4 λj=>?_;rw[J5];split
 ·rename_i e;subst e;rw[DH,GI]
 ·rfl
theorem Bg.Kg {k:Nat} (b:Bg f n l k s) (H:k<16) (I:k<f) (J:1<=n):(bh (eM s 0 0 z9) 0).2=((((k+1:Nat):Int),0),true)/\Bg f n l (k+1) (bh (eM s 0 0 z9) 0).1/\qK s 0=0:=by
 have e:s.cs[0]? =some (cC []):=by rw[b.cs,GI,av (by omega)]
 have hb:s.bx[0]? =some []:=by rw[b.bx,GI,av (by omega)]
 have w: ∀y∈s.cs,y.ph=0:=λy o=>by rw[b.cs] at o;rw[Dw o];rfl
 have q:=quick (vm:=0) (c:=z9) e rfl hb (show ¬ ((1:Int)=2\/(1:Int)=4\/(1:Int)=5\/(1:Int)=10) by decide) rfl (show ¬ (1:Int)=17 by decide) (SV w _);have X':=(b.x.ask 0 0 (c:=z9) (show cL 0/\cL 0/\cL 0 by decide)).step 0;have z:=(b.r.ask 0 0 z9).step (b.x.ask 0 0 (c:=z9) (show cL 0/\cL 0/\cL 0 by decide)) 0;have A:=V8 (b.x.ask 0 0 (c:=z9) (show cL 0/\cL 0/\cL 0 by decide)) (ZZ b.rp 0 0 z9) 0;have B: ∀N:Int->Int->Prop,Nm N (bh (eM s 0 0 z9) 0).1:=λN=>((b.nm N).ask 0 0 (c:=z9) (λc=>absurd c (show ¬ ((1:Int)=6\/(1:Int)=7) by decide))).step (b.x.ask 0 0 (c:=z9) (show cL 0/\cL 0/\cL 0 by decide)) 0;have q:bh (eM s 0 0 z9) 0= _:=q;obtain⟨gh,ta,M⟩:=b.x;have C:mN s.h.g=some (k+1):=by
  refine nR.2 ⟨by omega,?_,λu K L=>?_⟩
  ·cases j:s.h.g (k+1) with
   |none=>rfl
   |some g=>
    have:=(b.live ((k+1:Nat):Int)).1 (cd.2 ⟨by omega,g,j⟩);omega
  ·obtain⟨_,g,j⟩:=cd.1 ((b.live (u:Int)).2 (by omega));have j:s.h.g u=some g:=j;rw[j];rfl
 obtain⟨c1,c2,c3,c4⟩:=SW M.hi C (by have:=b.cnt;omega);have nn:NN s.h.s (kU s.h 0 1 0 0 0).s:=by
  rw[(Gz (show iY s.h 0 1 0 0 0=0 from rfl)).1];exact NN.Kg s.h
 have D:eV s (kU s.h 0 1 0 0 0)=[]:=by
  refine J0.2 λg j=>?_;obtain⟨m,d, _,E,F, _⟩:=iq.1 j;obtain⟨d0,p,t⟩:=nn.to E F;have:=(M.kd p t).1;rw[b.kn] at this;cases this
 refine⟨?_,⟨X',z,?_,?_,?_,?_,?_,?_,?_,?_,?_,λv=>?_,A,B⟩,(EO (i:=0) e rfl 0 z9).2⟩
 ·rw[q];show((xY s.h 0 1 0 0 0,sM s.h 0 1 0 0 0),true)= _;rw[c1,c2]
 ·rw[q];exact b.np.Kg M.hi
 ·rw[q];show s.cs.set 0 (cC [])= _;rw[b.cs,V_]
 ·rw[q];exact b.bx
 ·rw[q];show s.kn++eV s (kU s.h 0 1 0 0 0)=[];rw[D,b.kn];rfl
 ·rw[q];exact b.op
 ·rw[q];exact b.ws
 ·rw[q];exact b.sz
 ·rw[q];show(kU s.h 0 1 0 0 0).s.2.length=f;rw[<-b.len];obtain⟨g',G⟩:=M.hi.step 0 1 0 0 (a:=0) (by decide);have p:=G.sz;have t:=M.hi.sz;have O:=PH s.h 0 1 0 0 0;omega
 ·rw[q];show cq (kU s.h 0 1 0 0 0).s.2 0+(k+1)=f;have:=b.cnt;omega
 ·rw[q];show aV (kU s.h 0 1 0 0 0).g v=true<-> _;rw[c3];constructor
  ·intro h;obtain⟨hv,x,e⟩:=cd.1 h;unfold bj at e;split at e
   ·omega
   ·have:=(b.live v).1 (cd.2 ⟨hv,x,e⟩);omega
  ·intro h;refine cd.2 ⟨by omega,?_⟩;unfold bj;split
   ·exact⟨_,rfl⟩
   ·obtain⟨_,x,e⟩:=cd.1 ((b.live v).2 (by omega));exact⟨x,e⟩
def F6 (f n:Nat) (l:Int):MS:=(bh (eM (bh (eM (m0 f n l) 0 0 z9) 0).1 0 0 z9) 0).1
end
section
variable {gh dA:Gh} {n:Nat} {s s':MS} {f:Nat} {l:Int}
structure Bd (f n:Nat) (l p b F:Int) (s:MS):Prop where
 x:xq n s
 r:NZ s
 pg:jo s.h 1 p=(F,b,0,())
 only: ∀i q g,mC s.h i q=some g->i=1/\q=p
 cs:s.cs=C5 n (cC [])
 bx:s.bx=C5 n []
 kn:s.kn=[]
 op:s.op=[]
 ws:s.ep.ws=[]
 sz:s.sz=l
 live: ∀v:Int,aV s.h.g v=true<->1<=v/\v<=2
 fr: ∃(m:Nat) (d:DT),F=(m:Int)/\s.h.s.2[m]? =some d/\d.1=4/\d.2.1=1
end
section
variable {n:Nat} {s:MS} {i:Nat}
theorem busy {x:bW} (a:s.cs[i]? =some x) (h0:x.ph≠0) (vm:Int) (c:CT):qK s (i:Int)=9/\eM s (i:Int) vm c=s:=by
 refine⟨?_,?_⟩
 ·unfold qK;rw[ao (by omega)];show(match s.cs[i]? with|none=>(2:Int)|some x=>if x.ph=0 then 0 else 9)= _;rw[a];exact ao h0
 ·unfold eM;rw[ao (by omega)];show(match s.cs[i]? with|none=>s|some x=>if x.ph=0 then cj s i {x with ph:=1,vm:=vm,c:=c} else s)= _;rw[a];exact ao h0
end
section
variable {n:Nat} {s:MS}
structure Ret (n:Nat) (s:MS):Prop where
 x:xq n s
 np:Om s.h
 k6: ∀(c:Nat) (x:bW),1<=c->s.cs[c]? =some x->x.ph≠4/\(x.ph≠0->x.c.1=6)
 c0: ∀x:bW,s.cs[0]? =some x->x.ph=0\/x.ph=4
 j: ∀(c:Nat) (x:bW),s.cs[c]? =some x->x.ph=3->s.bx[c]? ≠some []
end
end Go.Proofs.YtlcenllcmeebhaaGreat
namespace Go.Proofs.YtlcenllcmeebhaaGreat.Mu
set_option maxRecDepth 100000
open Go.RX
abbrev eP:El:= .one .ptr
abbrev eMk:El:= .agg sMk
abbrev MkT:Type:=Int×Int×Int×Int×Int×Int×Int×Int×Int×Unit
abbrev Yc (m:MT):MkT:=(m.1,m.2.1,m.2.2.1,m.2.2.2.1.1,m.2.2.2.1.2.1,m.2.2.2.1.2.2.1,m.2.2.2.1.2.2.2.1,m.2.2.2.2.1,m.2.2.2.2.2,())
structure CA where
 cb:Nat
 tb:Nat
 st:Option AF×Nat×Nat
 sf:Option AF×Nat×Nat
 wp:Option AF
 Lt:List (Nat×List AC)
 Lf:List (Nat×List AC)
 Lw:List (Nat×List AC)
abbrev jE (a:CA) (i:Nat) (x:bW):List AC:=
 [aa (i:Int),ag (af a.tb),aa x.ph,aa x.vm,aa x.c.1,ay x.c.2.1,ay x.c.2.2.1,ay x.c.2.2.2.1,ag a.wp,aa x.fr,ay x.rs.1,aa x.rs.2,aa x.ak,.slice a.sf.1 a.sf.2.1 a.sf.2.2]
def WkW (a:CA) (x:bW):Prop:= ∃(bk:Nat) (s:Option AF×Nat×Nat) (b:List (Nat×List AC)) (xs:List Int),a.wp=some ⟨bk,0,none⟩/\a.Lw=(bk,lO x.wk.1 (x.c.2.1 / 16) (a9 x.c.1) x.wk.2.1 x.wk.2.2 s)::b/\BU b s xs/\(xs.length:Int)<=3 - x.wk.2.1
structure Tr (a:CA) (x:bW):Prop where
 ls:du jQ a.st x.ls a.Lt
 fs:du eI a.sf x.fs a.Lf
 wk:x.ph=2->WkW a x
def sX (a:CA) (i:Nat) (x:bW) (sz:Int):List (Nat×List AC):=(a.cb,jE a i x)::(a.tb,db a.st sz)::(a.Lt++(a.Lf++a.Lw))
structure MB where
 mb:Nat
 eb:Nat
 xb:Nat
 kb:Nat
 wb:Nat
 sc:Option AF×Nat×Nat
 sm:Option AF×Nat×Nat
 sp:Option AF×Nat×Nat
 sb:Option AF×Nat×Nat
 so:Option AF×Nat×Nat
 Lc:List (Nat×List AC)
 Lm:List (Nat×List AC)
 Lp:List (Nat×List AC)
 Lb:List (Nat×List AC)
 Lo:List (Nat×List AC)
 cr:List CR
 ke:List Dn
 we:List Dn
 kk:Nat
 wk:Nat
 A:Nat->CA
abbrev rN (X:HX) (B:MB):List AC:=[ag (af X.hb),ag (af B.eb),ag (af B.xb),.slice B.sc.1 B.sc.2.1 B.sc.2.2,.map (some B.kb),.slice B.sm.1 B.sm.2.1 B.sm.2.2]
def gS (B:MB) (s:MS) (l:List Nat):List (Nat×List AC):=l.flatMap λi=>match s.cs[i]? with
 |some x=>sX (B.A i) i x s.sz
 |none=>[]
abbrev yB (B:MB) (n:Nat):List (Option AF):=(AG n).map λi=>some ⟨(B.A i).cb,0,none⟩
structure MWf (B:MB) (s:MS):Prop where
 c:du eP B.sc (yB B s.cs.length) B.Lc
 m:du eMk B.sm (s.ms.map Yc) B.Lm
 p:du eI B.sp s.ep.pins B.Lp
 b:du eC B.sb (dD B.cr) B.Lb
 o:du eI B.so s.op B.Lo
 l:B.cr.length=s.bx.length
 k:iz B.ke B.kk (s.kn.map λf=>(f,.bool true))
 w:iz B.we B.wk (s.ep.ws.map Fy)
 a: ∀{i x},s.cs[i]? =some x->Tr (B.A i) x
def yC (s:WD):Prop:=0<s.1.length/\0<s.2.length/\s.2.length<=4096/\okW s.1
abbrev FE (X:HX) (B:MB) (s:MS):List (Nat×List AC):=(B.mb,rN X B)::(B.eb,m_ s.ep.now B.sp B.wb)::(B.xb,kq B.sb B.so)::(B.Lc++(B.Lm++(B.Lp++(B.Lb++B.Lo))))
abbrev mob (B:MB) (s:MS):List (Nat×B2):=(B.kb,.map ⟨B.ke⟩ B.kk)::(B.wb,.map ⟨B.we⟩ B.wk)::n7 B.cr s.bx
abbrev Fo (Q:Sys) (X:HX) (A:Nat->GA) (ca la:Int) (h:HS):List (Nat×List AC):=Q.L ca la h.s (d_ Q X A h (a_ Q A h.g (AG 17)))
def iw (Q:Sys) (X:HX) (D G:List Nat) (w0 w:A2) (B:MB) (s:MS) (T L:List (Nat×List AC)) (M:List (Nat×B2)):Prop:=
 ∃(A:Nat->GA) (ca la:Int),Dm A s.h/\yC s.h.s/\MWf B s/\cw D G w0 w (T++(FE X B s++(gS B s (AG s.cs.length)++(Fo Q X A ca la s.h++L)))) (mob B s++(dm A s.h.g (AG 17)++M))
theorem bY {α:Type} {c d:List α} (h: ∀[BEq α] [LawfulBEq α] (a:α),c.count a=d.count a):c.Perm d:=by
 letI:DecidableEq α:=λa b=>Classical.propDecidable (a=b)
 exact List.perm_iff_count.2 λa=>h a
section
variable {Q:Sys} {X:HX} {D G:List Nat} {w0 w w1:A2} {B:MB} {s:MS} {T L:List (Nat×List AC)} {M:List (Nat×B2)}
theorem iw.ext (H:iw Q X D G w0 w B s T L M) (h:Ext w w1):iw Q X D G w0 w1 B s T L M:=by
 obtain⟨A,ca,la,h1,a,b,c⟩:=H;exact⟨A,ca,la,h1,a,b,c.ext h⟩
theorem iw.wf (H:iw Q X D G w0 w B s T L M):MWf B s:=by
 obtain⟨A,ca,la,h1,b,a,c⟩:=H;exact a
theorem iw.all (H:iw Q X [] [] w0 w B s T L M):Ext w0 w:=by
 obtain⟨A,ca,la,h1,b,c,a⟩:=H;exact a.all
theorem iw.tmp (H:iw Q X D G w0 w B s T L M): ∃R a,cw D G w0 w (T++R) a/\(∀x∈FE X B s,x∈R)/\(∀x∈mob B s,x∈a)/\(∀{i x},s.cs[i]? =some x-> ∀y∈sX (B.A i) i x s.sz,y∈R)/\ ∀{T' w'},cw D G w0 w' (T'++R) a->iw Q X D G w0 w' B s T' L M:=by
 obtain⟨A,ca,la,h1,c,d,e⟩:=H;refine⟨_, _,e,λx b=>B3 _ b,λx b=>B3 _ b,λ{i x} hi y f=>B1 _ (B3 _ ?_),λh=>⟨A,ca,la,h1,c,d,h⟩⟩;unfold gS;exact Hq.2 ⟨i,Ca.2 (Ap.1 hi).1,by rw[hi];exact f⟩
theorem iw.al (H:iw Q X D G w0 w B s T L M) {cs:List AC} {e:TypeId} {K:Nat->A2->Prop} (k: ∀b w1,iw Q X D G w0 w1 B s ((b,cs)::T) L M->K b w1):aN w ⟨cs⟩ e K:=by
 obtain⟨R,a,H, _, _, _,J⟩:=H.tmp;exact alM H λb w1 H=>k b w1 (J H)
theorem iw.st (H:iw Q X D G w0 w B s T L M) (i:Nat) {b:Nat} {l vs:List AC} {K:A2->Prop} (a:T[i]? =some (b,l)) (c:vs.all (·.oneCell')=true) (d:vs.length=l.length) (k: ∀w1,iw Q X D G w0 w1 B s (T.set i (b,vs)) L M->K w1):az w (af b) vs K:=by
 obtain⟨R,e,H, _, _, _,J⟩:=H.tmp;have hi:=(Ap.1 a).1;refine stB H i (by rw[FV hi];exact a) c d λw1 H=>k w1 (J ?_);rw[List.set_append_left _ _ hi] at H;exact H
theorem iw.ld (H:iw Q X D G w0 w B s T L M) (i:Nat) {g:Option Bool} {el:El} {K:el.T->Prop} {b o:Nat} {l:List AC} {x:el.T} (a:T[i]? =some (b,l)) (hv:kx l o el=some x) (k:K x):aj w g (some ⟨b,o,none⟩) el K:=by
 obtain⟨R,c,H, _, _, _,J⟩:=H.tmp;exact aj.at i H.base (by rw[FV (Ap.1 a).1];exact a) hv k
theorem iw.cA (H:iw Q X D G w0 w B s T L M) (i:Nat) {g:Option Bool} {el:El} {K:el.T->Prop} {b n:Nat} {l:List AC} {x:el.T} (a:T[i]? =some (b,l)) (hv:kx l n el=some x) (k:K x):aj w g (ad (af b) n) el K:=by
 obtain⟨R,c,H, _, _, _,J⟩:=H.tmp;exact aj.ky H.base (B3 _ (DE a)) hv k
theorem iw.ru (H:iw Q X D G w0 w B s T L M) {n:Nat} {g:Option Bool} {el:El} {K:el.T->Prop} {x:el.T} (hv:kx (rN X B) n el=some x) (k:K x):aj w g (ad (af B.mb) n) el K:=by
 obtain⟨R,b,H,a, _, _,J⟩:=H.tmp;exact aj.ky H.base (B1 _ (a _ B4)) hv k
theorem iw.Ye (H:iw Q X D G w0 w B s T L M) {i:Nat} {x:bW} (a:s.cs[i]? =some x) {n:Nat} {g:Option Bool} {el:El} {K:el.T->Prop} {y:el.T} (hv:kx (jE (B.A i) i x) n el=some y) (k:K y):aj w g (ad (some ⟨(B.A i).cb,0,none⟩) n) el K:=by
 obtain⟨R,b,H, _, _,hc,J⟩:=H.tmp;exact aj.ky H.base (B1 _ (hc a _ B4)) hv k
theorem iw.sub (H:iw Q X D G w0 w B s T L M) {T':List (Nat×List AC)} (h:T'.Sublist T):iw Q X D G w0 w B s T' L M:=by
 obtain⟨R,a,H, _, _, _,J⟩:=H.tmp;exact J (H.sub (h.append_right _))
def C_ (B:MB) (i:Nat) (a:CA):MB:={B with A:=λj=>if j=i then a else B.A j}
theorem mW (B:MB) (i:Nat) (a:CA):(C_ B i a).A i=a:=av rfl
theorem zQ {B:MB} {s s':MS} {i:Nat} {a:CA} (c:s'.sz=s.sz) (hc: ∀j,j≠i->s'.cs[j]? =s.cs[j]?):gS (C_ B i a) s' ((AG s.cs.length).erase i)=gS B s ((AG s.cs.length).erase i):=by
 unfold gS;refine gx λj d=>?_;have b:j≠i:=λe=>by subst e;exact(JP.not_mem_erase) d
 rw[hc j b,c];cases s.cs[j]? with
 |none=>rfl
 |some x=>show sX ((C_ B i a).A j) j x s.sz= _;rw[show(C_ B i a).A j=B.A j from ao b]
theorem lG {B:MB} {s:MS} {i:Nat} {x:bW} (a:s.cs[i]? =some x):(gS B s (AG s.cs.length)).Perm (sX (B.A i) i x s.sz++gS B s ((AG s.cs.length).erase i)):=by
 unfold gS;refine(List.Perm.flatMap_right _ (List.perm_cons_erase (Ca.2 (Ap.1 a).1))).trans ?_;rw[List.flatMap_cons,a]
theorem MWf.up (W:MWf B s) {i:Nat} {x x':bW} (f:s.cs[i]? =some x) {a:CA} (g:a.cb=(B.A i).cb) (h:Tr a x'):MWf (C_ B i a) (cj s i x'):=by
 have n:yB (C_ B i a) s.cs.length=yB B s.cs.length:=by
  refine JQ λj _=>?_;by_cases e:j=i
  ·subst e;rw[mW,g]
  ·rw[show(C_ B i a).A j=B.A j from ao e]
 refine⟨?_,W.m,W.p,W.b,W.o,W.l,W.k,W.w,λ{j y} d=>?_⟩
 ·show du eP B.sc (yB (C_ B i a) (s.cs.set i x').length) B.Lc;rw[Cd,n];exact W.c
 ·by_cases e:j=i
  ·subst e;rw[mW];have:(s.cs.set j x')[j]? =some y:=d;rw[Db (Ap.1 f).1] at this;cases this;exact h
  ·have:(s.cs.set i x')[j]? =some y:=d;rw[FS (λc=>e c.symm)] at this;rw[show(C_ B i a).A j=B.A j from ao e];exact W.a this
theorem iw.C9 (H:iw Q X D G w0 w B s T L M) {i:Nat} {x:bW} (b:s.cs[i]? =some x): ∃R d,cw D G w0 w (sX (B.A i) i x s.sz++(T++R)) d/\
 ∀{T' a x' w'},a.cb=(B.A i).cb->Tr a x'->cw D G w0 w' (sX a i x' s.sz++(T'++R)) d->iw Q X D G w0 w' (C_ B i a) (cj s i x') T' L M:=by
 obtain⟨A,ca,la,h1,f,g,k⟩:=H;refine⟨FE X B s++(gS B s ((AG s.cs.length).erase i)++(Fo Q X A ca la s.h++L)), _,k.perm ?_,λ{T' a x' w'} l m n=>⟨A,ca,la,h1,f,g.up b l m,n.perm ?_⟩⟩
 ·have:=lG (B:=B) b;refine Io ?_ (DQ T (DQ _ (GD _ this.symm)));exact bY λa=>by simp only[AH,AT];omega
 ·have o:(cj s i x').cs[i]? =some x':=Db (Ap.1 b).1;have e:(cj s i x').cs.length=s.cs.length:=Cd ..;have:=lG (B:=C_ B i a) o;rw[mW,e,zQ (s:=s) (s':=cj s i x') rfl λj p=>(show(s.cs.set i x')[j]? =s.cs[j]? from FS (λc=>p c.symm))] at this;rw[e];refine(DQ T' (DQ _ (GD _ this))).trans ?_;show(T'++(FE X B s++(sX a i x' s.sz++gS B s ((AG s.cs.length).erase i)++(Fo Q X A ca la s.h++L)))).Perm _;exact bY λa=>by simp only[AH,AT];omega
end
section
variable {Q:Sys} {X:HX} {D G:List Nat} {w0 w:A2} {B:MB} {s:MS} {T L:List (Nat×List AC)} {M:List (Nat×B2)}
theorem jn.yC {h:HS} {L:List (Nat×List AC)} (H:jn Q X D G w0 w h L):yC h.s:=by
 obtain⟨A,W,S⟩:=H;exact⟨S.pos,S.FY,S.le,S.okw⟩
theorem iw.hv (H:iw Q X D G w0 w B s T L M): ∃i L',jn Q X [] i w w s.h L'/\ ∀{e h'},jn Q X [] i w e h' L'->iw Q X D G w0 e B {s with h:=h'} T L M:=by
 obtain⟨A,ca,la,h1,f,d,r⟩:=H;have j:cw D G w0 w (Q.L ca la s.h.s (d_ Q X A s.h (a_ Q A s.h.g (AG 17)++(T++(FE X B s++(gS B s (AG s.cs.length)++L)))))) (dm A s.h.g (AG 17)++(mob B s++M)):=
  (r.perm (bY λa=>by simp only[Sys.L,AH,AT];omega)).lf (bY λa=>by simp only[AH,AT];omega)
 refine⟨_, _,⟨A,h1,f.1,f.2.1,f.2.2.1,f.2.2.2,ca,la,cw.Pw j⟩,λ{e h'} K=>?_⟩;have t:=jn.yC K;obtain⟨A',u, _, _, _, _,n,q,K⟩:=K;have K:=cw.Xg j K;refine⟨A',n,q,u,t,⟨d.c,d.m,d.p,d.b,d.o,d.l,d.k,d.w,d.a⟩,?_⟩;show cw D G w0 e (T++(FE X B s++(gS B s (AG s.cs.length)++(Fo Q X A' n q h'++L)))) (mob B s++(dm A' h'.g (AG 17)++M));exact(K.perm (bY λa=>by
  simp only[Sys.L,AH,AT];omega)).lf (bY λa=>by simp only[AH,AT];omega)
theorem iw.sat (H:iw Q X D G w0 w B s T L M): ∃A n L0,bq Q [] n w w s.h.s L0/\(X.hb,fj Q X A s.h.g)∈L0/\(∀i v,s.h.g i=some v-> ∀x∈gO Q A i v,x∈L0)/\(∀x∈T,x∈L0)/\(∀x∈FE X B s,x∈L0)/\(∀{i x},s.cs[i]? =some x-> ∀y∈sX (B.A i) i x s.sz,y∈L0)/\
 ∀{T' j s'},bq Q [] n w j s' (T'++L0)->iw Q X D G w0 j B {s with h:=bA s.h s'} (T'++T) L M:=by
 obtain⟨A,ca,la,h1,f,d,u⟩:=H;have q:cw D G w0 w (Q.L ca la s.h.s (d_ Q X A s.h (a_ Q A s.h.g (AG 17)++(T++(FE X B s++(gS B s (AG s.cs.length)++L)))))) ([]++(mob B s++(dm A s.h.g (AG 17)++M))):=
  u.perm (bY λa=>by simp only[Sys.L,AH,AT];omega)
 refine⟨A, _, _,⟨f.1,f.2.1,f.2.2.1,f.2.2.2,ca,la,(cw.Pw q).base⟩,B4,λi v hv x e=>?_,λx e=>?_,λx e=>?_,λ{i x} hi y z=>?_,λ{T' j s'} K=>?_⟩
 ·refine Ae _ (Ae _ (Ae _ (Ae _ (B3 _ (Bv (Ca.2 ?_) hv x e)))));have:=h1.jm hv;omega
 ·exact Ae _ (Ae _ (Ae _ (Ae _ (B1 _ (B3 _ e)))))
 ·exact Ae _ (Ae _ (Ae _ (Ae _ (B1 _ (B1 _ (B3 _ e))))))
 ·refine Ae _ (Ae _ (Ae _ (Ae _ (B1 _ (B1 _ (B1 _ (B3 _ ?_)))))));unfold gS;exact Hq.2 ⟨i,Ca.2 (Ap.1 hi).1,by rw[hi];exact z⟩
 ·obtain⟨C,E,F,k4,r,t,K⟩:=K;have K:=cw.Xg q (M1':=[]) (cw.of K);refine⟨A,r,t,⟨h1.jm,h1.mp,h1.gl,h1.pt,h1.gk⟩,⟨C,E,F,k4⟩,⟨d.c,d.m,d.p,d.b,d.o,d.l,d.k,d.w,d.a⟩,?_⟩;exact K.perm (bY λa=>by
   show BX a (T'++T++(FE X B s++(gS B s (AG s.cs.length)++(Q.L r t s' (d_ Q X A s.h (a_ Q A s.h.g (AG 17)))++L))))= _;simp only[Sys.L,AH,AT];omega)
theorem iw.pQ (H:iw Q X D G w0 w B s T L M): ∃R e,cw D G w0 w ((B.mb,rN X B)::(B.Lm++(T++R))) e/\
 ∀{T' sm Lm ms w'},du eMk sm (ms.map Yc) Lm->cw D G w0 w' ((B.mb,rN X {B with sm:=sm,Lm:=Lm})::(Lm++(T'++R))) e->iw Q X D G w0 w' {B with sm:=sm,Lm:=Lm} {s with ms:=ms} T' L M:=by
 obtain⟨A,ca,la,h1,f,d,g⟩:=H;refine⟨(B.eb,m_ s.ep.now B.sp B.wb)::(B.xb,kq B.sb B.so)::(B.Lc++(B.Lp++(B.Lb++(B.Lo++(gS B s (AG s.cs.length)++(Fo Q X A ca la s.h++L)))))), _,g.perm (bY λa=>by simp only[AH,AT];omega),λ{T' sm Lm ms w'} i K=>?_⟩;refine⟨A,ca,la,h1,f,⟨d.c,i,d.p,d.b,d.o,d.l,d.k,d.w,d.a⟩,K.perm (bY λa=>?_)⟩;show BX a (T'++(FE X {B with sm:=sm,Lm:=Lm} s++(gS B s (AG s.cs.length)++(Fo Q X A ca la s.h++L))))= _;simp only[AH,AT];omega
theorem iw.eps (H:iw Q X D G w0 w B s T L M): ∃R e,cw D G w0 w ((B.eb,m_ s.ep.now B.sp B.wb)::(B.Lp++(T++R))) ((B.wb,.map ⟨B.we⟩ B.wk)::e)/\
 ∀{T' sp Lp ep we wk w'},du eI sp ep.pins Lp->iz we wk (ep.ws.map Fy)->cw D G w0 w' ((B.eb,m_ ep.now sp B.wb)::(Lp++(T'++R))) ((B.wb,.map ⟨we⟩ wk)::e)->iw Q X D G w0 w' {B with sp:=sp,Lp:=Lp,we:=we,wk:=wk} {s with ep:=ep} T' L M:=by
 obtain⟨A,ca,la,h1,f,d,i⟩:=H;refine⟨(B.mb,rN X B)::(B.xb,kq B.sb B.so)::(B.Lc++(B.Lm++(B.Lb++(B.Lo++(gS B s (AG s.cs.length)++(Fo Q X A ca la s.h++L)))))),(B.kb,.map ⟨B.ke⟩ B.kk)::(n7 B.cr s.bx++(dm A s.h.g (AG 17)++M)),(i.perm (bY λa=>by simp only[AH,AT];omega)).lf (bY λa=>by simp only[AH,AT];omega),λ{T' sp Lp ep we wk w'} j n K=>?_⟩;refine⟨A,ca,la,h1,f,⟨d.c,d.m,j,d.b,d.o,d.l,d.k,n,d.a⟩,(K.perm (bY λa=>?_)).lf (bY λa=>?_)⟩
 ·show BX a (T'++(((B.mb,rN X B)::(B.eb,m_ ep.now sp B.wb)::(B.xb,kq B.sb B.so)::(B.Lc++(B.Lm++(Lp++(B.Lb++B.Lo)))))++(gS B s (AG s.cs.length)++(Fo Q X A ca la s.h++L))))= _;simp only[AH,AT];omega
 ·show BX a (((B.kb,Obj.map ⟨B.ke⟩ B.kk)::(B.wb,Obj.map ⟨we⟩ wk)::n7 B.cr s.bx)++(dm A s.h.g (AG 17)++M))= _;simp only[AH,AT];omega
theorem iw.kns (H:iw Q X D G w0 w B s T L M): ∃R e,cw D G w0 w (T++R) ((B.kb,.map ⟨B.ke⟩ B.kk)::e)/\
 ∀{T' kn ke kk w'},iz ke kk (kn.map λf=>(f,.bool true))->cw D G w0 w' (T'++R) ((B.kb,.map ⟨ke⟩ kk)::e)->iw Q X D G w0 w' {B with ke:=ke,kk:=kk} {s with kn:=kn} T' L M:=by
 obtain⟨A,ca,la,h1,i,d,j⟩:=H;refine⟨_,(B.wb,.map ⟨B.we⟩ B.wk)::(n7 B.cr s.bx++(dm A s.h.g (AG 17)++M)),j,λ{T' kn ke kk w'} k K=>?_⟩;exact⟨A,ca,la,h1,i,⟨d.c,d.m,d.p,d.b,d.o,d.l,k,d.w,d.a⟩,K⟩
theorem iw.bxs (H:iw Q X D G w0 w B s T L M): ∃R e,cw D G w0 w ((B.xb,kq B.sb B.so)::(B.Lb++(B.Lo++(T++R)))) (n7 B.cr s.bx++e)/\
 ∀{T' so Lo op cr bx w'},du eI so op Lo->cr.length=bx.length->dD cr=dD B.cr->cw D G w0 w' ((B.xb,kq B.sb so)::(B.Lb++(Lo++(T'++R)))) (n7 cr bx++e)->iw Q X D G w0 w' {B with so:=so,Lo:=Lo,cr:=cr} {s with op:=op,bx:=bx} T' L M:=by
 obtain⟨A,ca,la,h1,f,d,i⟩:=H;refine⟨(B.mb,rN X B)::(B.eb,m_ s.ep.now B.sp B.wb)::(B.Lc++(B.Lm++(B.Lp++(gS B s (AG s.cs.length)++(Fo Q X A ca la s.h++L))))),(B.kb,.map ⟨B.ke⟩ B.kk)::(B.wb,.map ⟨B.we⟩ B.wk)::(dm A s.h.g (AG 17)++M),(i.perm (bY λa=>by simp only[AH,AT];omega)).lf (bY λa=>by simp only[AH,AT];omega),λ{T' so Lo op cr bx w'} j l hc K=>?_⟩;refine⟨A,ca,la,h1,f,⟨d.c,d.m,d.p,?_,j,l,d.k,d.w,d.a⟩,(K.perm (bY λa=>?_)).lf (bY λa=>?_)⟩
 ·show du eC B.sb (dD cr) B.Lb;rw[hc];exact d.b
 ·show BX a (T'++(((B.mb,rN X B)::(B.eb,m_ s.ep.now B.sp B.wb)::(B.xb,kq B.sb so)::(B.Lc++(B.Lm++(B.Lp++(B.Lb++Lo)))))++(gS B s (AG s.cs.length)++(Fo Q X A ca la s.h++L))))= _;simp only[AH,AT];omega
 ·show BX a (((B.kb,Obj.map ⟨B.ke⟩ B.kk)::(B.wb,Obj.map ⟨B.we⟩ B.wk)::n7 cr bx)++(dm A s.h.g (AG 17)++M))= _;simp only[AH,AT];omega
end
section
variable {Q:Sys} {X:HX} {D G:List Nat} {w0 w:A2} {B:MB} {s:MS} {T L:List (Nat×List AC)} {M:List (Nat×B2)}
theorem abC (H:iw Q X D G w0 w B s T L M) (n:Int):ae AB 64 [ag (af B.mb),aa n] w (ag (if 0<=n/\n<(s.cs.length:Int) then some ⟨(B.A n.toNat).cb,0,none⟩ else none)):=by
 refine ae.of (s:= .el (.one .ptr)) λw' h'=>ai (C:=U2) (aQ:=λ_=>[]) (Aq (ZS _ _ w' _) ?_);have H:=H.ext h';have W:=H.wf;have a:B.sc.2.1=s.cs.length:=by rw[W.c.1,BO,Dl]
 refine⟨λ_=>rfl,λ_=>rfl,H.ru (show _=some (B.sc.1,B.sc.2.1,B.sc.2.2) from rfl) ?_⟩;dsimp only;rw[a];by_cases c:0<=n/\n<(s.cs.length:Int)
 ·rw[av c];obtain⟨R,f,K,d, _, _, _⟩:=H.tmp;have b:=W.c.sl K.base (λy e=>B1 _ (d _ (Ae _ (Ae _ (Ae _ (B3 _ e)))))) n.toNat (some ⟨(B.A n.toNat).cb,0,none⟩) (by rw[Hr,I1 (by omega)];rfl);refine an ?_ ⟨rfl,rfl,H.ru (show _=some (B.sc.1,B.sc.2.1,B.sc.2.2) from rfl) ⟨⟨b.1,c.1,by dsimp only;rw[a];exact c.2⟩,aj.of _ b.2 λw1 h1=>⟨rfl,h1⟩⟩⟩;simp only[Option.isNone_some,Im,N8,decide_eq_false_iff_not];omega
 ·rw[ao c];refine aB ?_ λw1 h1=>⟨rfl,h1⟩;simp only[Option.isNone_some,Im,Gi,decide_eq_true_eq];omega
theorem aco {a:Int} (h:cL a):aF .i64 (wS .u64 a 16)=a / 16:=by
 unfold cL at h;have e:wS .u64 a 16=a / 16:=by
  show aF .u64 (a.tdiv 16)= _;rw[Int.tdiv_eq_ediv_of_nonneg h.1];exact eK (by omega)
 rw[e];exact bL (by omega)
theorem V' (H:iw Q X D G w0 w B s T L M) {i:Nat} {x:bW} (a:s.cs[i]? =some x) (b:cL x.c.2.1):ae AB 160 [ag (some ⟨(B.A i).cb,0,none⟩)] w (aa (x.c.2.1 / 16)):=by
 refine ae.of (s:= .el (.one (.int .i64))) λw' h'=>ai (C:=U2) (aQ:=λ_=>[]) (Aq (Si _ w' _) ?_);refine⟨rfl,rfl,rfl,(H.ext h').Ye a (n:=5) (show _=some x.c.2.1 from rfl) λw1 h1=>⟨aco b,h1⟩⟩
end
structure MR where
 mb:Nat
 eb:Nat
 xb:Nat
 kb:Nat
 wb:Nat
 cb:Nat->Nat
 tb:Nat->Nat
abbrev MB.rt (B:MB):MR:=⟨B.mb,B.eb,B.xb,B.kb,B.wb,λi=>(B.A i).cb,λi=>(B.A i).tb⟩
theorem Xm {B:MB} {i:Nat} {a:CA} (h1:a.cb=(B.A i).cb) (b:a.tb=(B.A i).tb):(C_ B i a).rt=B.rt:=by
 have c:(λj=>((C_ B i a).A j).cb)=λj=>(B.A j).cb:=funext λj=>by
  by_cases e:j=i
  ·subst e;rw[mW];exact h1
  ·rw[show(C_ B i a).A j=B.A j from ao e]
 have d:(λj=>((C_ B i a).A j).tb)=λj=>(B.A j).tb:=funext λj=>by
  by_cases e:j=i
  ·subst e;rw[mW];exact b
  ·rw[show(C_ B i a).A j=B.A j from ao e]
 show MR.mk _ _ _ _ _ _ _=MR.mk _ _ _ _ _ _ _;rw[c,d];rfl
def MU (Q:Sys) (X:HX) (D G:List Nat) (w0 w:A2) (R:MR) (s:MS) (T L:List (Nat×List AC)) (M:List (Nat×B2)):Prop:= ∃B:MB,B.rt=R/\iw Q X D G w0 w B s T L M
theorem Na {s:MS} {i:Nat} {x:bW} (a:s.cs[i]? =some x):cj s i x=s:=by
 unfold cj;have:s.cs.set i x=s.cs:=by
  obtain⟨h,e⟩:=Ap.1 a;subst e;exact JS h
 rw[this]
theorem fb {s:MS} {i:Nat} {x y:bW} (a:s.cs[i]? =some x):(cj s i y).cs[i]? =some y:=Db (Ap.1 a).1
theorem kT (s:MS) (i:Nat) (x y:bW):cj (cj s i x) i y=cj s i y:=by unfold cj;simp only[Dr]
section
variable {Q:Sys} {X:HX} {D G:List Nat} {w0 w w1:A2} {R:MR} {s:MS} {T L:List (Nat×List AC)} {M:List (Nat×B2)} {i:Nat} {x:bW} {g:Option Bool}
theorem MU.ext (H:MU Q X D G w0 w R s T L M) (h:Ext w w1):MU Q X D G w0 w1 R s T L M:=by
 obtain⟨B,e,H⟩:=H;exact⟨B,e,H.ext h⟩
theorem MU.all (H:MU Q X [] [] w0 w R s T L M):Ext w0 w:=by
 obtain⟨B,e,H⟩:=H;exact H.all
theorem MU.en (H:MU Q X D G w0 w R s T L M) {K:A2->Prop} (k: ∀w1,MU Q X D G w0 w1 R s T L M->K w1):au w K:=λ_ h=>k _ (H.ext h)
theorem MU.go (H:MU Q X D G w0 w R s T L M) {P:Program} {f:FuncId} {sh:Sh} {args:List AC} {K:sh.T->A2->Prop} (k: ∀w1,MU Q X D G w0 w1 R s T L M->aC P f sh args w1 K):aA P f sh args w K:=λ_ h=>k _ (H.ext h)
theorem MU.al (H:MU Q X D G w0 w R s T L M) {cs:List AC} {e:TypeId} {K:Nat->A2->Prop} (k: ∀b w1,MU Q X D G w0 w1 R s ((b,cs)::T) L M->K b w1):aN w ⟨cs⟩ e K:=by
 obtain⟨B,e,H⟩:=H;exact H.al λb w1 H=>k b w1 ⟨B,e,H⟩
theorem MU.st (H:MU Q X D G w0 w R s T L M) (i:Nat) {b:Nat} {l vs:List AC} {K:A2->Prop} (a:T[i]? =some (b,l)) (c:vs.all (·.oneCell')=true) (d:vs.length=l.length) (k: ∀w1,MU Q X D G w0 w1 R s (T.set i (b,vs)) L M->K w1):az w (af b) vs K:=by
 obtain⟨B,e,H⟩:=H;exact H.st i a c d λw1 H=>k w1 ⟨B,e,H⟩
theorem MU.ld (H:MU Q X D G w0 w R s T L M) (i:Nat) {el:El} {K:el.T->Prop} {b o:Nat} {l:List AC} {x:el.T} (a:T[i]? =some (b,l)) (hv:kx l o el=some x) (k:K x):aj w g (some ⟨b,o,none⟩) el K:=by
 obtain⟨B,e,H⟩:=H;exact H.ld i a hv k
theorem MU.cA (H:MU Q X D G w0 w R s T L M) (i:Nat) {el:El} {K:el.T->Prop} {b n:Nat} {l:List AC} {x:el.T} (a:T[i]? =some (b,l)) (hv:kx l n el=some x) (k:K x):aj w g (ad (af b) n) el K:=by
 obtain⟨B,e,H⟩:=H;exact H.cA i a hv k
theorem MU.sub (H:MU Q X D G w0 w R s T L M) {T':List (Nat×List AC)} (h:T'.Sublist T):MU Q X D G w0 w R s T' L M:=by
 obtain⟨B,e,H⟩:=H;exact⟨B,e,H.sub h⟩
theorem MU.f0 (H:MU Q X D G w0 w R s T L M) {K:Option AF->Prop} (k:K (af X.hb)):aj w g (ad (af R.mb) 0) (.one .ptr) K:=by
 obtain⟨B,rfl,H⟩:=H;exact H.ru rfl k
theorem MU.f1 (H:MU Q X D G w0 w R s T L M) {K:Option AF->Prop} (k:K (af R.eb)):aj w g (ad (af R.mb) 1) (.one .ptr) K:=by
 obtain⟨B,rfl,H⟩:=H;exact H.ru rfl k
theorem MU.f2 (H:MU Q X D G w0 w R s T L M) {K:Option AF->Prop} (k:K (af R.xb)):aj w g (ad (af R.mb) 2) (.one .ptr) K:=by
 obtain⟨B,rfl,H⟩:=H;exact H.ru rfl k
theorem MU.f4 (H:MU Q X D G w0 w R s T L M) {K:Option Nat->Prop} (k:K (some R.kb)):aj w g (ad (af R.mb) 4) (.one .map) K:=by
 obtain⟨B,rfl,H⟩:=H;exact H.ru rfl k
theorem MU.cf (H:MU Q X D G w0 w R s T L M) (b:s.cs[i]? =some x) {n:Nat} {el:El} {K:el.T->Prop} {y:el.T} (hv: ∀a:CA,kx (jE a i x) n el=some y) (k:K y):aj w g (ad (some ⟨R.cb i,0,none⟩) n) el K:=by
 obtain⟨B,rfl,H⟩:=H;exact H.Ye b (hv _) k
theorem MU.c1 (H:MU Q X D G w0 w R s T L M) (a:s.cs[i]? =some x) {K:Option AF->Prop} (k:K (some ⟨R.tb i,0,none⟩)):aj w g (ad (some ⟨R.cb i,0,none⟩) 1) (.one .ptr) K:=by
 obtain⟨B,rfl,H⟩:=H;exact H.Ye a (show _=some (some ⟨(B.A i).tb,0,none⟩) from rfl) k
theorem MU.C9 (H:MU Q X D G w0 w R s T L M) (d:s.cs[i]? =some x): ∃(a:CA) (b:List (Nat×List AC)) (c:List (Nat×B2)),a.cb=R.cb i/\a.tb=R.tb i/\Tr a x/\cw D G w0 w (sX a i x s.sz++(T++b)) c/\
 ∀{T':List (Nat×List AC)} {a':CA} {x':bW} {w':A2},a'.cb=a.cb->a'.tb=a.tb->Tr a' x'->cw D G w0 w' (sX a' i x' s.sz++(T'++b)) c->MU Q X D G w0 w' R (cj s i x') T' L M:=by
 obtain⟨B,rfl,H⟩:=H;obtain⟨b,c,K,J⟩:=H.C9 d;exact⟨B.A i,b,c,rfl,rfl,H.wf.a d,K,λ{T' a' x' w'} h1 e f g=>⟨_,Xm h1 e,J h1 f g⟩⟩
theorem MU.cs (H:MU Q X D G w0 w R s T L M) (c:s.cs[i]? =some x) (x':bW) (n:Nat) {vs:List AC} (d:vs.all (·.oneCell')=true) (e:Nat.ble (n+vs.length) 14=true) (f: ∀a:CA,(jE a i x).take n++(vs++(jE a i x).drop (n+vs.length))=jE a i x') (g: ∀a,Tr a x->Tr a x') {K:A2->Prop}
 (k: ∀w1,MU Q X D G w0 w1 R (cj s i x') T L M->K w1):az w (ad (some ⟨R.cb i,0,none⟩) n) vs K:=by
 obtain⟨a,m,o,h,hb,W,b,J⟩:=H.C9 c;rw[<-h,aW,Nat.zero_add];refine λw1 h1=>az.at 0 (b.ext h1).base.again (show _=some (a.cb,jE a i x) from rfl) d (Nat.le_of_ble_eq_true e) (λj l=>k j (J rfl rfl (g a W) ?_)) w1 (Ext.refl w1);have K:=(b.ext h1).join l;rw[f a] at K;exact K
theorem DO (H:MU Q X D G w0 w R s T L M) (n:Int):ae AB 64 [ag (af R.mb),aa n] w (ag (if 0<=n/\n<(s.cs.length:Int) then some ⟨R.cb n.toNat,0,none⟩ else none)):=by
 obtain⟨B,rfl,H⟩:=H;exact abC H n
theorem JL (H:MU Q X D G w0 w R s T L M) (a:s.cs[i]? =some x) (b:cL x.c.2.1):ae AB 160 [ag (some ⟨R.cb i,0,none⟩)] w (aa (x.c.2.1 / 16)):=by
 obtain⟨B,rfl,H⟩:=H;exact V' H a b
theorem vp {w:A2} {r:Nat} {es:Array Dn} {ck i:Nat} {g:Int} {z v u:AC} (m:bF w r es ck) (h:H7 (.int .i64) (aa g) es.toList 0=some (some (i,u))) (e:v=u):jS w (some r) .i64 g z v:=⟨r,es,ck,rfl,m,by rw[h];exact e⟩
theorem BK {w:A2} {r:Nat} {es:Array Dn} {ck:Nat} {g:Int} {z v:AC} (m:bF w r es ck) (h:H7 (.int .i64) (aa g) es.toList 0=some none) (e:v=z):jS w (some r) .i64 g z v:=⟨r,es,ck,rfl,m,by rw[h];exact e⟩
theorem JM (H:MU Q X D G w0 w R s T L M) (l:s.cs[i]? =some x):ae AB 199 [ag (some ⟨R.cb i,0,none⟩)] w (aa (a9 x.c.1)):=by
 refine ae.of (s:= .el (.one (.int .i64))) λw1 h1=>ai (C:=U2) (aQ:=λ_=>[]) (Aq (Sj _ w1 _) λb e m f=>?_);have H0:=(((At.start [] w1).ext e).rP (.map ⟨[]⟩ 0)).ext f;have h:w1.heap.size<=b.heap.size:=e.size;have m0:bF m b.heap.size ⟨[]⟩ 0:=f.obj (fB b _);refine u7 H0 h (by simp) m0 rfl λr o p u j=>?_;refine u7 (o.ext j) h (by simp) (j.obj p) rfl λy k d=>?_;have hv:=(iz.nil.push (g:=6) (aa 1) (λt a=>(by cases a))).push (g:=7) (aa 2) (λt a=>by rw[DA.1 a];decide);have H:=H.ext (h1.trans (Ext.trans (k.ext (Ext.refl _)).all (Ext.refl _)));refine⟨rfl,rfl,rfl,H.cf l (n:=4) (λ_=>rfl) ⟨a9 x.c.1,?_,λz q=>⟨rfl,(k.ext q).all⟩⟩⟩;unfold a9;by_cases c6:x.c.1=6
 ·rw[av c6,c6];obtain⟨i,hi, _⟩:=hv.Fi (g:=6) (v:=aa 1) (by simp);exact vp d hi rfl
 ·rw[ao c6];by_cases c7:x.c.1=7
  ·rw[av c7,c7];obtain⟨i,hi, _⟩:=hv.Fi (g:=7) (v:=aa 2) (by simp);exact vp d hi rfl
  ·rw[ao c7];refine BK d (hv.Oe λt a=>?_) rfl;simp only[FR,List.not_mem_nil,or_false] at a;rcases a with rfl|rfl
   ·exact λc=>c7 c.symm
   ·exact λc=>c6 c.symm
theorem tU (H:MU Q X D G w0 w R s T L M) (p:s.ms.length<=1000000000) (m:MT) {K:Unit->A2->Prop}
 (k: ∀a,MU Q X D G w0 a R {s with ms:=s.ms++[m]} T L M->K () a):
 aA AB 155 (.bu []) [ag (af R.mb),.agg ⟨[aa m.1,aa m.2.1,aa m.2.2.1,aa m.2.2.2.1.1,ay m.2.2.2.1.2.1,ay m.2.2.2.1.2.2.1,ay m.2.2.2.1.2.2.2.1,ay m.2.2.2.2.1,aa m.2.2.2.2.2]⟩] w K:=by
 obtain⟨B,rfl,H⟩:=H;refine λw1 h1=>ai (C:=U2) (aQ:=λ_=>[]) (Aq (Sk _ _ _ _ _ _ _ _ _ _ w1 K) ?_);refine(H.ext h1).al λb a H=>⟨rfl,rfl,H.ru (show _=some (B.sm.1,B.sm.2.1,B.sm.2.2) from rfl) (H.ld 0 rfl (show _=some (Yc m) from rfl) (H.al λd q H e f=>?_))⟩;have H:=H.ext f;obtain⟨r,t,g,J⟩:=H.pQ;have c:=g.perm GJ;have hb:bK e d (cellsOf eMk (Yc m)):=c.base.dk _ (B1 _ (Ae _ B4));refine Fu c H.wf.m rfl (ys:=[Yc m]) rfl (rR hb) rfl rfl (by rw[BO,FC];omega) λs' h u i j=>⟨rfl,rfl,WC (j.perm GJ.symm) 0 rfl rfl rfl λv l=>enM l λn o=>k n ⟨{B with sm:=s',Lm:=h},rfl,iw.sub (J (ms:=s.ms++[m]) (by rw[GS];exact i) o) ?_⟩⟩;exact(NF T).cons _ |>.cons _
theorem zR (H:MU Q X D G w0 w R s T L M) (q:s.cs[i]? =some x) (F:(x.ls.length:Int)<=64) (I:0<s.sz) (t g:Int) {K:Unit->A2->Prop}
 (k: ∀b,MU Q X D G w0 b R (cj s i {x with ls:=js x.ls t g}) T L M->K () b):
 aA AB 67 (.bu []) [ag (some ⟨R.cb i,0,none⟩),aa t,aa g] w K:=by
 refine H.go λw1 H=>ai (C:=U2) (aQ:=λ_=>[]) (Aq (HP _ _ _ w1 K) ?_);have fin: ∀{b:A2} {a:CA} {j:List (Nat×List AC)} {l:List (Nat×B2)} (o:List LT),Tr a x->a.tb=R.tb i->cw D G w0 b (sX a i x s.sz++(T++j)) l-> ∃p,cw D G w0 b ((R.tb i,db a.st s.sz)::(a.Lt++p)) l/\ ∀{r:A2} {s':Option AF×Nat×Nat} {d:List (Nat×List AC)},du jQ s' o d->aL [] (((R.tb i,db a.st s.sz)::(a.Lt++p)).map (·.1)) b r ((R.tb i,db s' s.sz)::(d++p))-> ∃a':CA,a'.cb=a.cb/\a'.tb=a.tb/\Tr a' {x with ls:=o}/\cw D G w0 r (sX a' i {x with ls:=o} s.sz++(T++j)) l:=by
  intro b a j l o W N u;rw[<-N];have m:cw D G w0 b ((a.tb,db a.st s.sz)::(a.Lt++((a.cb,jE a i x)::(a.Lf++(a.Lw++(T++j)))))) l:=u.perm (bY λy=>by simp only[sX,AH,AT];omega);refine⟨_,m,λ{r s' d} h n=>⟨{a with st:=s',Lt:=d},rfl,rfl,⟨h,W.fs,W.wk⟩,(m.join n).perm (bY λy=>by
   show BX y ((a.cb,jE a i x)::(a.tb,db s' s.sz)::(d++(a.Lf++a.Lw))++(T++j))= _;simp only[AH,AT];omega)⟩⟩
 obtain⟨a,j,l,O,hb,W,u,J⟩:=H.C9 q;obtain⟨p,m,f⟩:=fin (js x.ls t g) W hb u;refine ab (λc=>⟨rfl,rfl,H.c1 q ?_⟩) (λc=>⟨rfl,rfl,H.c1 q ?_⟩)
 ·have e:g= -1:=by simpa using c
  refine G9 m.base.again W.ls F I t λv s' d b h n=>?_;have h:du jQ s' (js x.ls t g) d:=by unfold js;rw[av e];exact h
  obtain⟨a',h1,z,A,B⟩:=f h n;exact(J h1 z A B).en λE H=>k E H
 ·have e:g≠ -1:=by simpa using c
  refine A6 m.base.again W.ls F I t g λs' d b h n=>?_;have h:du jQ s' (js x.ls t g) d:=by unfold js;rw[ao e];exact h
  obtain⟨a',h1,z,A,B⟩:=f h n;exact(J h1 z A B).en λE H=>k E H
theorem Nb (H:MU Q X D G w0 w R s T L M) (a:s.cs[i]? =some x):ae AB 152 [ag (af R.mb),ag (some ⟨R.cb i,0,none⟩)] w (.bool (mi s.h x)):=by
 refine ae.of (s:= .el (.one .bool)) λw1 h1=>ai (C:=U2) (aQ:=λ_=>[]) (Aq (HQ _ _ w1 _) ?_);have H:=H.ext h1;have b:ae AB 19 [ag (af X.hb),aa x.vm] w1 (.bool (aV s.h.g x.vm)):=by
  obtain⟨B,e,d⟩:=H;obtain⟨A,k,L0,S,f, _⟩:=d.sat;exact pZ S f x.vm
 refine⟨_,JM H a,λ_=>rfl,λ_=>rfl,H.f0 ⟨λ_=>rfl,λ_=>rfl,H.cf a (n:=3) (λ_=>rfl) ⟨_,λ_=>b,λ_=>rfl,λ_=>rfl,H.cf a (n:=4) (y:=x.c) (λ_=>rfl) ⟨_,λ_=>Ef _ _ _ _,λ_=>rfl,λ_=>rfl,λ_=>rfl,H.cf a (n:=5) (λ_=>rfl) λl j=>⟨?_,j⟩⟩⟩⟩⟩;unfold mi;simp only[Gj]
end
theorem wH (x:Int): ∀l:List Int,l.Pairwise (λa b=>b<=a)->(jq x l).Pairwise (λa b=>b<=a)
 |[], _=>by simp[jq]
 |y::l,h=>by
  rw[jq];obtain⟨h1,e⟩:=I2.1 h;split
  ·rename_i c;refine I2.2 ⟨λz d=>?_,wH x l e⟩;rcases FR.1 ((vj x l).mem_iff.1 d) with rfl|d
   ·omega
   ·exact h1 z d
  ·rename_i c;refine I2.2 ⟨λz d=>?_,h⟩;rcases FR.1 d with rfl|d
   ·omega
   ·have:=h1 z d;omega
theorem uD: ∀(l a:List Int),a.Pairwise (λa b=>b<=a)->(l.foldl (λa x=>jq x a) a).Pairwise (λa b=>b<=a)
 |[], _,h=>h
 |x::l,a,h=>uD l _ (wH x a h)
theorem Xn {R l:List Int} (h:R.Pairwise (· <= ·)) (c:R.Perm l):R=mJ l:=by
 refine List.Perm.eq_of_pairwise (λa b _ _ h1 d=>by omega) h ?_ (c.trans (lF l).symm);unfold mJ;rw[List.pairwise_reverse];exact uD l [] List.Pairwise.nil
theorem Wa (e:vD):(ft e).now=Ka e.pins e.now:=by unfold ft Ka;split<;>rfl
theorem SX (e:vD):(ft e).pins=e.pins:=by unfold ft;split<;>rfl
theorem u_ (e:vD):(ft e).ws=e.ws:=by unfold ft;split<;>rfl
theorem PK (e:vD):e.now<=(ft e).now/\(ft e).now<=e.now+1:=by
 unfold ft;split
 ·exact⟨by show e.now<=e.now+1;omega,G1 _⟩
 ·omega
theorem CO: ∀(l:List Int) (s:MS),(l.foldl ik s).ms.length=s.ms.length+l.length
 |[],s=>rfl
 |f::l,s=>by
  rw[Ga,CO l];show(s.ms++ _).length+l.length= _;simp only[Do,JU,JW];omega
section
variable {Q:Sys} {X:HX} {D G:List Nat} {w0 w w1:A2} {R:MR} {s:MS} {T L:List (Nat×List AC)} {M:List (Nat×B2)} {i:Nat} {x:bW} {g:Option Bool}
theorem MU.base (H:MU Q X D G w0 w R s T L M): ∃L0,aL D G w0 w L0/\ ∀x∈T,x∈L0:=by
 obtain⟨B,e,H⟩:=H;obtain⟨b,c,K, _⟩:=H.tmp;exact⟨_,K.base,λx a=>B3 _ a⟩
theorem MU.sat (H:MU Q X D G w0 w R s T L M): ∃A a L0,bq Q [] a w w s.h.s L0/\(X.hb,fj Q X A s.h.g)∈L0/\(∀i v,s.h.g i=some v-> ∀x∈gO Q A i v,x∈L0)/\
 ∀{T' b s'},bq Q [] a w b s' (T'++L0)->MU Q X D G w0 b R {s with h:=bA s.h s'} (T'++T) L M:=by
 obtain⟨B,e,H⟩:=H;obtain⟨A,a,L0,S,h1,c, _, _, _,J⟩:=H.sat;exact⟨A,a,L0,S,h1,c,λK=>⟨B,e,J K⟩⟩
theorem MU.del (H:MU Q X D G w0 w R s T L M) (f:Int) {K:A2->Prop} (k: ∀g,MU Q X D G w0 g R {s with kn:=s.kn.filter (λx=> !(x==f))} T L M->K g):
 ∃(r:Nat) (es:Array Dn) (h:Nat),some R.kb=some r/\bF w r es h/\Aj w r .i64 f es h K:=by
 obtain⟨B,rfl,H⟩:=H;obtain⟨p,q,a,J⟩:=H.kns;refine⟨B.kb,⟨B.ke⟩,B.kk,rfl,a.get (i:=0) rfl,?_⟩;unfold Aj;by_cases c:f∈s.kn
 ·obtain⟨i,j,l,hv⟩:=H.wf.k.Fi (B5.2 ⟨f,c,rfl⟩);rw[show H7 (.int .i64) (aa f) (Array.mk B.ke).toList 0=some (some (i,.bool true)) from j];have b:=a.put (i:=0) rfl (o':= .map ⟨B.ke.eraseIdx i⟩ B.kk) trivial;have m:(Array.mk B.ke).eraseIdxIfInBounds i=⟨B.ke.eraseIdx i⟩:=by
   apply Array.ext';simp[Array.eraseIdxIfInBounds,l]
  show K (w.putObj B.kb (.map ((Array.mk B.ke).eraseIdxIfInBounds i) B.kk));rw[m];refine k _ ⟨{B with ke:=B.ke.eraseIdx i},rfl,J (kn:=s.kn.filter λx=> !(x==f)) ?_ b⟩;rw[List.filter_map] at hv;exact hv
 ·have n: ∀t∈s.kn.map (λf=>((f,.bool true):KV)),t.1≠f:=λt o e=>by
   obtain⟨y,d,rfl⟩:=B5.1 o;exact c (by rw[<-e];exact d)
  rw[show H7 (.int .i64) (aa f) (Array.mk B.ke).toList 0=some none from H.wf.k.Oe n];have b:=a.put (i:=0) rfl (o':= .map ⟨B.ke⟩ B.kk) trivial;refine k _ ⟨B,rfl,J (ke:=B.ke) (kk:=B.kk) (kn:=s.kn.filter λx=> !(x==f)) ?_ b⟩;rw[List.filter_eq_self.2 λy d=>by simpa using λe:y=f=>c (e▸d)];exact H.wf.k
theorem EP (H:MU Q X D G w0 w R s T L M) (U:s.ep.pins.length<=8) (V:0<=s.ep.now/\s.ep.now<4611686018427387000) (W:s.ep.ws.length<=1000000) (Y: ∀e∈s.ep.ws,0<=e.2/\e.2<=s.ep.now) (t:s.ms.length<=900000000) {K:Int->A2->Prop}
 (k: ∀b,MU Q X D G w0 b R (dO s).1 T L M->K (((dO s).2:Nat):Int) b):aA AB 151 (.el (.one (.int .i64))) [ag (af R.mb)] w K:=by
 refine H.go λw1 H=>ai (C:=U2) (aQ:=uy) (Aq (Sn _ w1 K) ⟨rfl,rfl,H.f1 ?_⟩);have hle:=PK s.ep;have X9: ∀{b},MU Q X D G w0 b R s T L M-> ∀{h:Bool->A2->Prop},(∀v d,MU Q X D G w0 d R {s with ep:=ft s.ep} T L M->h v d)->aA AB 197 (.el (.one .bool)) [ag (af R.eb)] b h:=by
  intro b a h u;obtain⟨B,rfl,a⟩:=a;obtain⟨F,Z,o,J⟩:=a.eps;refine UA o.base.again a.wf.p U ⟨V.1,by omega⟩ λv d K2=>u v d ⟨{B with sp:=B.sp,Lp:=B.Lp,we:=B.we,wk:=B.wk},rfl,J (ep:=ft s.ep) (by rw[SX];exact a.wf.p) (by rw[u_];exact a.wf.w) (by rw[Wa];exact o.join K2)⟩
 refine X9 H λv b H=>⟨rfl,rfl,H.f1 ?_⟩;have free: ∀{f:MS} {b},MU Q X D G w0 b R f T L M->f.ep=ft s.ep-> ∀{h:Option AF×Nat×Nat->A2->Prop},(∀r g d,du eI r (oE f.ep) g->MU Q X D G w0 d R {f with ep:=Ci f.ep} (g++T) L M->h r d)->aA AB 198 (.el (.one .slice)) [ag (af R.eb)] b h:=by
  intro f b a q h u;obtain⟨B,rfl,a⟩:=a;obtain⟨F,Z,o,J⟩:=a.eps;refine R_ o a.wf.w (by rw[q,u_];omega) B4 (λe t=>?_) (by rw[q];omega) λr Rr g qM d hso hpe m hv K4=>?_
  ·rw[q,u_] at t;have:=Y e t;rw[q];omega
  ·rw[Xn hso hpe] at m;refine u r g d m ⟨{B with sp:=B.sp,Lp:=B.Lp,we:=qM,wk:=B.wk},rfl,J (T':=g++T) (ep:=Ci f.ep) a.wf.p hv (K4.perm (bY λy=>?_))⟩;show BX y ((B.eb,m_ f.ep.now B.sp B.wb)::(B.Lp++(g++T++F)))= _;simp only[AH,AT];omega
 refine free H rfl λr g d m H=>?_;generalize z:oE (ft s.ep)=l at*
 have hlen:=m.1;have hll:l.length<=1000000:=by
  rw[<-z];unfold oE;rw[jM,BO];refine H5 (Gd _ _) ?_;rw[u_];exact W
 refine⟨λn st E=> ∃j:Nat,j<=l.length/\n=l.length - j/\st.1=(j:Int)/\MU Q X D G w0 E R ((l.take j).foldl ik {s with ep:=Ci (ft s.ep)}) (g++T) L M,⟨l.length,λE h4=>⟨0,FQ _,rfl,rfl,H.ext h4⟩⟩,?_⟩;clear H;rintro n ⟨i, _⟩ E ⟨j,I,qy,hi,H⟩;have hi:i=(j:Int):=hi;subst hi qy;dsimp only;rw[hlen];refine ab (λc=>?_) (λc=>?_)
 ·have I:j<l.length:=by have:=of_decide_eq_true c;omega
  obtain⟨x,N⟩: ∃x,l[j]? =some x:=⟨_,Bx I⟩;obtain⟨L0,K0,hT⟩:=H.base;have O:=m.sl K0 (λy hy=>hT y (B3 _ hy)) j x N;refine⟨⟨O.1,by omega,by omega⟩,aj.of x (by rw[Cc];exact O.2) ⟨rfl,rfl,H.f0 ?_⟩⟩;obtain⟨A,G',L0,S,hk, _,J⟩:=H.sat;refine Et S hk x λP S=>?_;have H:=J (T':=[]) S;refine⟨rfl,rfl,H.f4 λw6 h6=>(H.ext h6).del x λw7 H=>tU H ?_ (2,0,x,(0,0,0,0,()),0,0) λw8 H w9 h9=>⟨l.length - (j+1),by omega,j+1,by omega,rfl,?_,?_⟩⟩
  ·show(List.foldl ik _ (l.take j)).ms.length<= _;rw[CO,K1];show s.ms.length+ _<= _;omega
  ·rw[ax (by omega) (by omega)];omega
  ·rw[IE,N,IR];exact H.ext h9
 ·have:j=l.length:=by have:=of_decide_eq_false c;omega
  subst this;rw[Kc] at H;refine H.en λP H=>?_;have e:(dO s).1=l.foldl ik {s with ep:=Ci (ft s.ep)}:=by unfold dO;rw[z]
  have e2:(dO s).2=l.length:=by unfold dO;rw[z]
  rw[e,e2] at k;exact k P (H.sub (FU _ _))
end
abbrev BW:Type:=(Int×Int×Unit)×Bool×Unit
abbrev N2:Sh:= .bu [.agg iP,.one .bool]
theorem SY {pins:List Int} {n:Nat} (h:n<pins.length):An pins n (-1)=pins.set n (-1):=by
 unfold An;split
 ·rename_i c;have e:pins.getD n 0= -1:=by simpa using c
  rw[Dd,Bx h] at e;have e:pins[n]= -1:=e;rw[<-e];exact(JS h).symm
 ·rfl
theorem SZ {e:vD} {n:Nat} (a:0<=e.now):{e with pins:=An e.pins n e.now}=Au e n:=by
 unfold An Au;have h0:(e.now== -1)=false:=by rw[beq_eq_false_iff_ne];omega
 rw[h0];by_cases c:e.pins.getD n 0= -1
 ·rw[av c,ao (by rw[c];decide)]
 ·rw[ao c,av (by rw[beq_eq_false_iff_ne.2 c])]
theorem Wb (e:vD) (f:Int):Of (e.ws.map Fy) f e.now=(k8 e f).ws.map Fy:=by
 unfold Of k8;rw[List.any_map];show(if e.ws.any (λx=>x.1==f)=true then _ else _)= _;split<;>rfl
theorem CP (e:vD) (f:Int):(k8 e f).now=e.now/\(k8 e f).pins=e.pins:=by unfold k8;split<;>exact⟨rfl,rfl⟩
theorem zj: ∀(l:List Int) (e:vD),(l.foldl k8 e).now=e.now/\(l.foldl k8 e).pins=e.pins
 |[],e=>⟨rfl,rfl⟩
 |f::l,e=>by rw[Ga,(zj l _).1,(zj l _).2];exact CP e f
section
variable {Q:Sys} {X:HX} {D G:List Nat} {w0 w w1:A2} {R:MR} {s:MS} {T L:List (Nat×List AC)} {M:List (Nat×B2)} {i:Nat} {x:bW} {g:Option Bool}
theorem MU.res {b:Nat} {l:List AC} (H:MU Q X D G w0 w R s ((b,l)::T) L M) (d:l.length=2) (V E:Int) (c:Bool) {K:BW->A2->Prop} (k: ∀a,MU Q X D G w0 a R s T L M->K ((V,E,()),c,()) a):
 az w (af b) [ay V,aa E] λa=>au a λw1=>aj w1 none (af b) (El.agg [.int .u64,.int .i64]) λ(x:Int×Int×Unit)=>K ((x.1,x.2.1,()),c,()) w1:=
 H.st 0 rfl rfl d.symm λa H=>H.en λe H=>H.ld 0 rfl (show _=some (V,E,()) from rfl) (k e (H.sub (Bs _ _)))
theorem MU.crd (H:MU Q X D G w0 w R s T L M) (b:s.cs[i]? =some x) {n:Nat} {el:El} {y:el.T} (hv: ∀a:CA,kx (jE a i x) n el=some y):cI w (ad (some ⟨R.cb i,0,none⟩) n) el y:=by
 obtain⟨z,h,e⟩:=H.cf (g:=none) (K:=λz=>z=y) b hv rfl;subst e;exact h
theorem BL (H:MU Q X D G w0 w R s T L M) (hc:i<s.ep.pins.length) {K:Int->A2->Prop} (k: ∀v b,MU Q X D G w0 b R {s with ep:=rL s.ep i} T L M->K v b):
 aA AB 158 (.el (.one (.int .i64))) [ag (af R.eb),aa (i:Int)] w K:=by
 refine λw1 h1=>?_;obtain⟨B,rfl,a⟩:=H.ext h1;obtain⟨h,j,c,J⟩:=a.eps;refine KF c.base.again a.wf.p i hc (λv e f d g=>k v f ⟨{B with sp:=B.sp,Lp:=e,we:=B.we,wk:=B.wk},rfl,J (ep:=rL s.ep i) ?_ a.wf.w (c.join g)⟩) w1 (Ext.refl w1);rw[SY hc] at d;exact d
theorem Wc (H:MU Q X D G w0 w R s T L M) (d:0<=s.ep.now) (hc:i<s.ep.pins.length) {K:Int->A2->Prop} (k: ∀v b,MU Q X D G w0 b R {s with ep:=Au s.ep i} T L M->K v b):
 aA AB 200 (.el (.one (.int .i64))) [ag (af R.eb),aa (i:Int)] w K:=by
 refine λw1 h1=>?_;obtain⟨B,rfl,a⟩:=H.ext h1;obtain⟨j,l,c,J⟩:=a.eps;refine Uz c.base.again a.wf.p i hc (λv e f g h=>k v f ?_) w1 (Ext.refl w1);rw[<-SZ d];exact⟨{B with sp:=B.sp,Lp:=e,we:=B.we,wk:=B.wk},rfl,J (ep:={s.ep with pins:=An s.ep.pins i s.ep.now}) g a.wf.w (c.join h)⟩
theorem S3 (H:MU Q X D G w0 w R s T L M) (c:s.ep.pins.length<=8) (d:0<=s.ep.now/\s.ep.now<4611686018427387000) (f:s.ep.ws.length<=1000000) (g: ∀e∈s.ep.ws,0<=e.2/\e.2<=s.ep.now) (h:s.ms.length<=900000000) (p:Option AF) {K:BW->A2->Prop}
 (k: ∀a,MU Q X D G w0 a R (dO s).1 T L M->K ((0,0,()),false,()) a):aA AB 109 N2 [ag (af R.mb),ag p] w K:=by
 refine H.go λw1 H=>aR (C:=U2) (aQ:=λ_=>[]) (Aq (So _ p w1 K) (H.al λb a H=>EP H c d f g h λi H=>H.res rfl 0 0 false k))
theorem S4 (H:MU Q X D G w0 w R s T L M) (e:s.cs[i]? =some x) (N:x.ak<4611686018427387904) (hfs:x.fs.length<=1000000) (O: ∀f∈x.fs,0<=f) {K:BW->A2->Prop}
 (k: ∀m,MU Q X D G w0 m R (iK s x).1 T L M->K ((if(iK s x).2.2=true then((iK s x).2.1.1,(iK s x).2.1.2,()) else(0,0,())),(iK s x).2.2,()) m):
 aA AB 113 N2 [ag (af R.mb),ag (some ⟨R.cb i,0,none⟩)] w K:=by
 refine H.go λw1 H=>aR (C:=U2) (aQ:=uz) (Aq (Sq _ _ w1 K) (H.al λb m H=>⟨rfl,rfl,H.f2 ⟨rfl,rfl,H.cf e (n:=12) (λ_=>rfl) ⟨yA s x.ak,?_,?_⟩⟩⟩))
 ·obtain⟨B,rfl,d⟩:=H;obtain⟨q,z,g,J⟩:=d.bxs;have r:=g.base.perm (L':=B.Lo++((B.xb,kq B.sb B.so)::(B.Lb++((b,[ay 0,aa 0])::T++q)))) (bY λy=>by simp only[AH,AT];omega);exact VP r B4 d.wf.o x.ak N
 ·unfold iK at k;refine ab (λc=>?_) (λc=>?_)
  ·have c:yA s x.ak=false:=by simpa using c
   rw[c] at k;exact H.res rfl 0 0 false k
  ·have c:yA s x.ak=true:=by simpa using c
   rw[c] at k;obtain⟨B,rfl,d⟩:=H;refine⟨rfl,rfl,d.Ye e (n:=13) (show _=some ((B.A i).sf.1,(B.A i).sf.2.1,(B.A i).sf.2.2) from rfl) ?_⟩;have P:(B.A i).sf.2.1=x.fs.length:=(d.wf.a e).fs.1;refine⟨λn st h=> ∃(j:Nat) (we:List Dn) (wk:Nat),j<=x.fs.length/\n=x.fs.length - j/\st.1=(j:Int)/\iw Q X D G w0 h {B with we:=we,wk:=wk} {s with ep:=(x.fs.take j).foldl k8 s.ep} ((b, _)::T) L M,⟨x.fs.length,λh S=>⟨0,B.we,B.wk,FQ _,rfl,rfl,d.ext S⟩⟩,?_⟩;rintro n ⟨U, _⟩ h ⟨j,we,wk,E,V,hi,H⟩;have hi:U=(j:Int):=hi;subst hi V;dsimp only;rw[P];refine ab (λc=>?_) (λc=>?_)
   ·have E:j<x.fs.length:=by have:=of_decide_eq_true c;omega
    obtain⟨f,u⟩: ∃f,x.fs[j]? =some f:=⟨_,Bx E⟩;have l:({s with ep:=(x.fs.take j).foldl k8 s.ep}:MS).cs[i]? =some x:=e;obtain⟨q,z,g,hh, _,hc, _⟩:=H.tmp;have F:=(H.wf.a l).fs.sl g.base (λy I=>B1 _ (hc l _ (Ae _ (Ae _ (B1 _ (B3 _ I)))))) j f u;refine⟨⟨F.1,by omega,by omega⟩,aj.of f (by rw[Cc];exact F.2) ⟨rfl,rfl,H.ru (show _=some (af B.eb) from rfl) ?_⟩⟩;obtain⟨q,z,g,J⟩:=H.eps;refine UB g B4 H.wf.w (λt W=>?_) f (O f (DE u)) λv Y Z w5 hv r w6 h6=>⟨x.fs.length - (j+1),by omega,j+1,Y,Z,by omega,rfl,?_,?_⟩
    ·obtain⟨y,I,rfl⟩:=B5.1 W;exact⟨_,rfl⟩
    ·rw[ax (by omega) (by omega)];omega
    ·rw[IE,u,IR];rw[Wb] at hv;refine iw.ext (J (sp:=B.sp) (ep:=k8 ((x.fs.take j).foldl k8 s.ep) f) ?_ hv ?_) h6
     ·rw[(CP _ f).2];exact H.wf.p
     ·rw[(CP _ f).1];exact r
   ·have:j=x.fs.length:=by have:=of_decide_eq_false c;omega
    subst this;rw[Kc] at H;have H:MU Q X D G w0 h B.rt {s with ep:=x.fs.foldl k8 s.ep} ((b, _)::T) L M:=⟨{B with we:=we,wk:=wk},rfl,H⟩;have l:({s with ep:=x.fs.foldl k8 s.ep}:MS).cs[i]? =some x:=e;exact⟨rfl,rfl,H.cf l (n:=10) (y:=(x.rs.1,x.rs.2,())) (λ_=>rfl) (H.res rfl _ _ true k)⟩
end
theorem acp {a:Int} (h:0<=a):aF .i64 (eZ a 16)=a % 16:=by
 have e:eZ a 16=a % 16:=by
  unfold eZ;exact Int.tmod_eq_emod_of_nonneg h
 rw[e];exact bL (by omega)
theorem atU {f a:Int} (c:0<=f/\f<4096) (b:0<=a):aJ .i64 (iy .i64 16 f) (aF .i64 (eZ a 16))=16*f+a % 16:=by
 rw[acp b,eJ (by omega) (by omega),ax (by omega) (by omega)]
section
variable {Q:Sys} {X:HX} {D G:List Nat} {w0 w w1:A2} {R:MR} {s:MS} {T L:List (Nat×List AC)} {M:List (Nat×B2)} {i:Nat} {x:bW} {g:Option Bool}
theorem zS (H:MU Q X D G w0 w R s T L M) {K:Option AF->A2->Prop} (k: ∀a,MU Q X D G w0 a R s T L M->K (af Q.bm) a):
 aA AB 23 (.el (.one .ptr)) [ag (af X.hb)] w K:=by
 obtain⟨A,c,L0,S,b, _,J⟩:=H.sat;exact zJ S b λa S=>k a (J (T':=[]) S)
theorem Nc (H:MU Q X D G w0 w R s T L M) (a:s.cs[i]? =some x) (e:0<=x.fr/\x.fr<4096) (f:cL x.c.2.1) (hb:cL x.c.2.2.1) (hc:i<s.ep.pins.length) (p:s.ms.length<=900000000) {K:BW->A2->Prop}
 (k: ∀d,MU Q X D G w0 d R (gi s i x).1 T L M->K (((gi s i x).2.1.1,0,()),true,()) d):
 aA AB 112 N2 [ag (af R.mb),ag (some ⟨R.cb i,0,none⟩)] w K:=by
 refine H.go λw1 H=>aR (C:=U2) (aQ:=λ_=>[]) (Aq (ME _ _ w1 K) (H.al λb d H=>⟨rfl,rfl,H.cf a (n:=9) (λ_=>rfl) ⟨rfl,rfl,rfl,H.cf a (n:=5) (λ_=>rfl) ⟨rfl,rfl,H.f1 ⟨rfl,rfl,H.cf a (n:=0) (λ_=>rfl) ?_⟩⟩⟩⟩));rw[atU e f.1];unfold gi at k;dsimp only at k;refine BL H hc λv q H=>⟨rfl,rfl,rfl,H.cf a (n:=4) (λ_=>rfl) ?_⟩;refine ab (λc=>?_) (λc=>?_)
 ·have c:x.c.1=7:=by simpa using c
  rw[av c] at k;refine⟨rfl,rfl,H.f0 ⟨rfl,rfl,rfl,H.cf a (n:=6) (λ_=>rfl) (zS H λg H=>⟨H.crd a (n:=6) λ_=>rfl,trivial,trivial,trivial,?_⟩)⟩⟩;obtain⟨A,j,L0,S,l, _,J⟩:=H.sat;refine S.store _ _ hb λm S=>?_;have H:=J (T':=[]) S;exact⟨rfl,rfl,rfl,H.cf a (n:=6) (λ_=>rfl) (tU H (by show s.ms.length<= _;omega) (4,0,16*x.fr+x.c.2.1 % 16,(0,0,0,0,()),x.c.2.2.1,0) λo H=>H.res rfl 0 0 true k)⟩
 ·have c:x.c.1≠7:=by simpa using c
  rw[ao c] at k;refine⟨rfl,rfl,H.f0 (zS H λg H=>?_)⟩;obtain⟨A,j,L0,S,l, _,J⟩:=H.sat;refine S.load _ λm S=>?_;have H:=J (T':=[]) S;exact tU H (by show s.ms.length<= _;omega) (3,0,16*x.fr+x.c.2.1 % 16,(0,0,0,0,()),dC s.h.s.1 (16*x.fr+x.c.2.1 % 16),0) λo H=>H.res rfl _ 0 true k
end
open Go.RX D
theorem S5 {ws:List Int} {p t:Int} {x:Int×Int×FT} (h:0<=x.2.1/\x.2.1<=3):(bE ws p t x).2.1= -1\/((bE ws p t x).2.1=x.2.1 - 1/\0<x.2.1):=by
 unfold bE;rw[ao (by omega)];split
 ·exact .inl rfl
 ·exact I8 h
section
variable {Q:Sys} {X:HX} {D G:List Nat} {w0 w w1:A2} {B:MB} {R:MR} {s:MS} {T L:List (Nat×List AC)} {M:List (Nat×B2)} {i:Nat} {x:bW} {g:Option Bool}
theorem iw.walk (H:iw Q X D G w0 w B s T L M) (e:s.cs[i]? =some x) (v:x.ph=2): ∃(bk:Nat) (l:Option AF×Nat×Nat) (m:List (Nat×List AC)) (xs:List Int) (q:List (Nat×List AC)) (r:List (Nat×B2)) (ca la:Int),(B.A i).wp=some ⟨bk,0,none⟩/\BU m l xs/\(xs.length:Int)<=3 - x.wk.2.1/\yC s.h.s/\
 cw D G w0 w ((bk,lO x.wk.1 (x.c.2.1 / 16) (a9 x.c.1) x.wk.2.1 x.wk.2.2 l)::(Q.bm,lT Q.bw s.h.s.1.length Q.c ca la)::(Q.bw,flat eW s.h.s.1++Q.rw)::(m++q)) r/\
 ∀{wR:Int×Int×FT} {b:Option AF×Nat×Nat} {d:List (Nat×List AC)} {n:List Int} {f k:Int} {w':A2},BU d b n->(n.length:Int)<=3 - wR.2.1->
  cw D G w0 w' ((bk,lO wR.1 (x.c.2.1 / 16) (a9 x.c.1) wR.2.1 wR.2.2 b)::(Q.bm,lT Q.bw s.h.s.1.length Q.c f k)::(Q.bw,flat eW s.h.s.1++Q.rw)::(d++q)) r->MU Q X D G w0 w' B.rt (cj s i {x with wk:=wR}) T L M:=by
 obtain⟨A,ca,la,h1,t,o,z⟩:=H;obtain⟨bk,l,m,xs,u,C,E,p⟩:=(o.a e).wk v;have F:=lG (B:=B) e;refine⟨bk,l,m,xs,((B.A i).cb,jE (B.A i) i x)::((B.A i).tb,db (B.A i).st s.sz)::((B.A i).Lt++((B.A i).Lf++(T++(FE X B s++(gS B s ((AG s.cs.length).erase i)++((Q.bf,flat eD s.h.s.2++Q.rf)::(Q.bp,[.slice (af Q.bf) s.h.s.2.length Q.cp])::(d_ Q X A s.h (a_ Q A s.h.g (AG 17))++L))))))), _,ca,la,u,E,p,t,z.perm ?_,λ{wR b d n f k w'} I J K=>?_⟩
 ·refine Io ?_ (DQ T (DQ _ (GD _ F.symm)));unfold sX;rw[C];exact bY λy=>by simp only[Sys.L,AH,AT];omega
 ·refine⟨C_ B i {B.A i with Lw:=(bk,lO wR.1 (x.c.2.1 / 16) (a9 x.c.1) wR.2.1 wR.2.2 b)::d},Xm rfl rfl,A,f,k,h1,t,o.up e rfl ⟨(o.a e).ls,(o.a e).fs,λ_=>⟨bk,b,d,n,u,rfl,I,J⟩⟩,K.perm ?_⟩;generalize N:({B.A i with Lw:=(bk,lO wR.1 (x.c.2.1 / 16) (a9 x.c.1) wR.2.1 wR.2.2 b)::d}:CA)=a;have O:(cj s i {x with wk:=wR}).cs[i]? =some {x with wk:=wR}:=fb e;have p:(cj s i {x with wk:=wR}).cs.length=s.cs.length:=Cd ..;have:=lG (B:=C_ B i a) O;rw[mW,p,zQ (s:=s) (s':=cj s i {x with wk:=wR}) rfl λj P=>(show(s.cs.set i {x with wk:=wR})[j]? =s.cs[j]? from FS (λc=>P c.symm))] at this;rw[p];refine(DQ T (DQ _ (GD _ this))).trans ?_;subst N;show(T++(FE X B s++(sX {B.A i with Lw:=(bk,lO wR.1 (x.c.2.1 / 16) (a9 x.c.1) wR.2.1 wR.2.2 b)::d} i {x with wk:=wR} s.sz++gS B s ((AG s.cs.length).erase i)++(Fo Q X A f k s.h++L)))).Perm _;unfold sX;show(T++(FE X B s++(((B.A i).cb,jE (B.A i) i x)::((B.A i).tb,db (B.A i).st s.sz)::((B.A i).Lt++((B.A i).Lf++((bk,lO wR.1 (x.c.2.1 / 16) (a9 x.c.1) wR.2.1 wR.2.2 b)::d)))++gS B s ((AG s.cs.length).erase i)++(Fo Q X A f k s.h++L)))).Perm _;exact bY λy=>by simp only[Sys.L,AH,AT];omega
theorem MU.rd (H:MU Q X D G w0 w R s T L M) (i:Nat) {el:El} {b n:Nat} {l:List AC} {x:el.T} (a:T[i]? =some (b,l)) (hv:kx l n el=some x):cI w (ad (af b) n) el x:=by
 obtain⟨z,h,e⟩:=H.cA (g:=none) (K:=λz=>z=x) i a hv rfl;subst e;exact h
theorem MU.wp (H:MU Q X D G w0 w R s T L M) (b:s.cs[i]? =some x) (d:x.ph=2): ∃(bk:Nat) (a:Option AF×Nat×Nat) (L0:List (Nat×List AC)),aL D G w0 w L0/\(bk,lO x.wk.1 (x.c.2.1 / 16) (a9 x.c.1) x.wk.2.1 x.wk.2.2 a)∈L0/\ ∀{g:Option Bool} {K:Option AF->Prop},K (af bk)->aj w g (ad (some ⟨R.cb i,0,none⟩) 8) (.one .ptr) K:=by
 obtain⟨B,rfl,H⟩:=H;obtain⟨bk,a,f,xs,h,j,ca,la,e, _, _, _,K, _⟩:=H.walk b d;exact⟨bk,a, _,K.base,B4,λk=>H.Ye b (n:=8) (show _=some (B.A i).wp from rfl) (by rw[e];exact k)⟩
theorem S6 (H:MU Q X D G w0 w R s T L M) (f:s.cs[i]? =some x) (g:(x.ls.length:Int)<=s.sz) (h:0<s.sz/\s.sz<=64) (l:LT) (j:lnR l=true) {K:Int->A2->Prop}
 (k: ∀b,MU Q X D G w0 b R (cj s i {x with ls:=o8 x.ls s.sz l}) T L M->K 0 b):
 aA AB 159 (.el (.one (.int .i64))) [ag (some ⟨R.tb i,0,none⟩),lnV l] w K:=by
 obtain⟨a,c,m,q,hb,W,n,J⟩:=H.C9 f;have d:cw D G w0 w ((R.tb i,db a.st s.sz)::(a.Lt++((a.cb,jE a i x)::(a.Lf++(a.Lw++(T++c)))))) m:=n.perm (bY λy=>by rw[<-hb];simp only[sX,AH,AT];omega);refine λw1 h1=>Qe (d.ext h1).base.again W.ls g h l j (λs' e b o p=>k b (J (a':={a with st:=s',Lt:=e}) rfl rfl ⟨o,W.fs,W.wk⟩ (((d.ext h1).join p).perm (bY λy=>?_)))) w1 (Ext.refl w1);show BX y ((a.cb,jE a i x)::(a.tb,db s' s.sz)::(e++(a.Lf++a.Lw))++(T++c))= _;rw[<-hb];simp only[AH,AT];omega
theorem S7 (H:MU Q X D G w0 w R s T L M) (o:s.cs[i]? =some x) (u:x.ph=2) (V:0<=x.wk.2.1/\x.wk.2.1<=3) (W:cL x.c.2.1) (hc:i<s.ep.pins.length) (Y:(x.ls.length:Int)<=s.sz) (Z:0<s.sz/\s.sz<=64)
 (E:(bE s.h.s.1 (x.c.2.1 / 16) (a9 x.c.1) x.wk).2.1= -1->(bE s.h.s.1 (x.c.2.1 / 16) (a9 x.c.1) x.wk).2.2.2.2.2.1=0->lnR (x.vm,x.c.2.1 / 16,(bE s.h.s.1 (x.c.2.1 / 16) (a9 x.c.1) x.wk).2.2.1,(bE s.h.s.1 (x.c.2.1 / 16) (a9 x.c.1) x.wk).2.2.2.1,())=true) {K:BW->A2->Prop}
 (k: ∀r,MU Q X D G w0 r R (lx s i x).1 T L M->K ((0,(lx s i x).2.1.2,()),(lx s i x).2.2,()) r):
 aA AB 111 N2 [ag (af R.mb),ag (some ⟨R.cb i,0,none⟩)] w K:=by
 refine H.go λw1 H=>aR (C:=U2) (aQ:=λ_=>[]) (Aq (Sp _ _ w1 K) (H.al λb r H=>?_));unfold lx at k;generalize F:bE s.h.s.1 (x.c.2.1 / 16) (a9 x.c.1) x.wk=wv at*
 have I:=S5 (ws:=s.h.s.1) (p:=x.c.2.1 / 16) (t:=a9 x.c.1) V;rw[F] at I;obtain⟨wf,wl,Ac,d,j,f,⟨⟩⟩:=wv;dsimp only at k E I;obtain⟨B,rfl,m⟩:=H;refine⟨rfl,rfl,m.Ye o (n:=8) (show _=some (B.A i).wp from rfl) ⟨rfl,rfl,m.ru (show _=some (af X.hb) from rfl) ?_⟩⟩;obtain⟨A,G',L0,S,hk, _, _, _, _,J⟩:=m.sat;refine zJ S hk λN S=>?_;have m:iw Q X D G w0 N B s ((b,[ay 0,aa 0])::T) L M:=J (T':=[]) S;have oW:cI N (ad (some ⟨(B.A i).cb,0,none⟩) 8) (.one .ptr) (B.A i).wp:=by
  obtain⟨z,h,e⟩:=m.Ye (g:=none) (el:= .one .ptr) (K:=λz=>z=(B.A i).wp) o (n:=8) (show _=some (B.A i).wp from rfl) rfl;subst e;exact h
 refine⟨oW,trivial,trivial,?_⟩;obtain⟨bk,s2,Lq,xs,R',Mo,ca,la,e1,hp,hxl,O,P,J⟩:=m.walk o u;rw[e1];refine Ea P.base.again hp (by omega) rfl O.1 O.2.2.2 (by omega) λw4 cJ s3 ou q=>?_;have hw':bE s.h.s.1 (x.c.2.1 / 16) (a9 x.c.1) (x.wk.1,x.wk.2.1,x.wk.2.2)=(wf,wl,Ac,d,j,f,()):=F;rw[hw'] at q ⊢;have H:=J (wR:=(wf,wl,Ac,d,j,f,())) ou (by rw[Do,FC];dsimp only;omega) (P.join q);have l:=fb (y:={x with wk:=(wf,wl,Ac,d,j,f,())}) o;refine ab (λc=>?_) (λc=>?_)
 ·have c:wl≠ -1:=by simpa using c
  rw[av c] at k;exact H.res rfl 0 0 false k
 ·have c:wl= -1:=by simpa using c
  subst c;rw[ao (by decide)] at k;obtain⟨bk',s2',L2,q,hm,XE⟩:=H.wp l u;have Yy:ae AB 24 [ag (af bk')] w4 ((Sh.bu [.agg sF,.one .bool]).gK ((Ac,d,j,f,()),true,())):=ae.of λw5 h5=>UR ((q.ext h5).dk _ hm);refine⟨rfl,rfl,XE ⟨((Ac,d,j,f,()),true,()),Yy,H.al λb1 w5 H=>H.st 0 rfl rfl rfl λw6 H=>⟨rfl,H.cA 0 rfl (show _=some f from rfl) ?_⟩⟩⟩;refine ab (λc=>?_) (λc=>?_)
  ·have c:f≠0:=by simpa using c
   rw[av c] at k;refine⟨rfl,rfl,H.f1 ⟨rfl,rfl,H.cf l (n:=0) (λ_=>rfl) (BL H hc λv w7 H=>⟨rfl,H.cA 0 rfl (show _=some f from rfl) ?_⟩)⟩⟩;exact MU.res (H.sub (Bs _ _)) rfl 0 f true k
  ·have c:f=0:=by simpa using c
   rw[ao (by rw[c];decide)] at k;have AE:=JL H l W;refine⟨rfl,rfl,H.c1 l ⟨rfl,rfl,H.cf l (n:=3) (λ_=>rfl) ⟨x.c.2.1 / 16,AE,rfl,H.cA 0 rfl (show _=some Ac from rfl) ⟨rfl,H.cA 0 rfl (show _=some d from rfl) ?_⟩⟩⟩⟩;refine S6 H l Y Z (x.vm,x.c.2.1 / 16,Ac,d,()) (E rfl c) λw7 H=>⟨rfl,H.cA 0 rfl (show _=some Ac from rfl) ?_⟩;have U:=fb (y:={x with wk:=(wf,-1,Ac,d,j,f,()),ls:=o8 x.ls s.sz (x.vm,x.c.2.1 / 16,Ac,d,())}) l;refine⟨rfl,rfl,H.cs U {x with wk:=(wf,-1,Ac,d,j,f,()),ls:=o8 x.ls s.sz (x.vm,x.c.2.1 / 16,Ac,d,()),ph:=3} 2 rfl rfl (λ_=>rfl) (λa h=>⟨h.ls,h.fs,λc=>(by cases c)⟩) λw8 H=>⟨H.rd 0 rfl (show _=some Ac from rfl),trivial,rfl,rfl,?_⟩⟩;have J6:=fb (y:={x with wk:=(wf,-1,Ac,d,j,f,()),ls:=o8 x.ls s.sz (x.vm,x.c.2.1 / 16,Ac,d,()),ph:=3}) U;refine H.cs J6 {x with wk:=(wf,-1,Ac,d,j,f,()),ls:=o8 x.ls s.sz (x.vm,x.c.2.1 / 16,Ac,d,()),ph:=3,fr:=Ac} 9 rfl rfl (λ_=>rfl) (λa h=>⟨h.ls,h.fs,λc=>(by cases c)⟩) λw9 H=>?_;simp only[kT] at H;exact MU.res (H.sub (Bs _ _)) rfl 0 0 false k
end
theorem S8 (ls:List LT) (t p w:Int):yj ls t p w=((mP ls t p w).1,(mP ls t p w).2,()):=by
 show yj ls t p w= _;unfold yj mP;rw[show(λx=>kY x t p)=Cg t p from rfl];cases ls.find? (Cg t p) with
 |none=>rfl
 |some l=>
  dsimp only;split<;>rfl
def Dz (s:MS) (n:Nat) (x:bW) (i:Nat):Bool:=match s.cs[i]? with
 |none=>false
 |some y=>decide (i≠n/\x.vm=0)&&((x.c.1==1&&(y.ph==4&&y.c.1==2))||(x.c.1==2&&(decide (y.ph>=2)&&(decide (y.vm>0)&&y.vm==x.c.2.1))))
section
variable {Q:Sys} {X:HX} {D G:List Nat} {w0 w w1:A2} {B:MB} {R:MR} {s:MS} {T L:List (Nat×List AC)} {M:List (Nat×B2)} {i:Nat} {x:bW} {g:Option Bool}
theorem MU.cbk (H:MU Q X D G w0 w R s T L M) (b:s.cs[i]? =some x): ∃l,bK w (R.cb i) l:=by
 obtain⟨a,e,f,c,hb,W,d,J⟩:=H.C9 b;rw[<-c];exact⟨_,d.base.dk _ B4⟩
theorem MU.cne (H:MU Q X D G w0 w R s T L M) (c:s.cs[i]? =some x) {j:Nat} {y:bW} (b:s.cs[j]? =some y) (d:j≠i):R.cb j≠R.cb i:=by
 obtain⟨B,rfl,A,ca,la,h1,m,n,f⟩:=H;have g:=lG (B:=B) c;have k:=f.perm (L':=sX (B.A i) i x s.sz++(T++(FE X B s++(gS B s ((AG s.cs.length).erase i)++(Fo Q X A ca la s.h++L))))) (by
  refine Io ?_ (DQ T (DQ _ (GD _ g.symm)));exact bY λa=>by simp only[AH,AT];omega)
 have nd:=k.base.nd;have l:((B.A j).cb,jE (B.A j) j y)∈gS B s ((AG s.cs.length).erase i):=by
  unfold gS;refine Hq.2 ⟨j,?_,by rw[b];exact B4⟩;rw[JP.mem_erase_iff];exact⟨d,Ca.2 (Ap.1 b).1⟩
 intro e;have e:(B.A j).cb=(B.A i).cb:=e;unfold sX at nd;rw[List.cons_append,List.map_cons,GH] at nd;refine nd.1 (B5.2 ⟨((B.A j).cb,jE (B.A j) j y),?_,e⟩);exact B1 _ (B1 _ (B1 _ (B3 _ l)))
theorem MU.f3 (H:MU Q X D G w0 w R s T L M): ∃sc:Option AF×Nat×Nat,sc.2.1=s.cs.length/\(∀{g:Option Bool} {K:Option AF×Nat×Nat->Prop},K sc->aj w g (ad (af R.mb) 3) (.one .slice) K)/\ ∀{w1},Ext w w1-> ∀i,i<s.cs.length->sc.1.isSome=true/\cI w1 (ad sc.1 (i*1)) (.one .ptr) (some ⟨R.cb i,0,none⟩):=by
 obtain⟨B,rfl,H⟩:=H;have W:=H.wf;refine⟨B.sc,by rw[W.c.1,BO,Dl],λk=>H.ru (show _=some (B.sc.1,B.sc.2.1,B.sc.2.2) from rfl) k,λh1 i hi=>?_⟩;obtain⟨d,e,K,a, _, _, _⟩:=(H.ext h1).tmp;exact W.c.sl K.base (λy b=>B1 _ (a _ (Ae _ (Ae _ (Ae _ (B3 _ b)))))) i (some ⟨(B.A i).cb,0,none⟩) (by rw[Hr,I1 hi];rfl)
theorem HZ (H:MU Q X D G w0 w R s T L M) (h:s.cs[i]? =some x) (P:s.cs.length<=8) (hv: ∀y∈s.cs,y.vm<9223372036854775808):ae AB 154 [ag (af R.mb),ag (some ⟨R.cb i,0,none⟩)] w (.bool (qJ s i x)):=by
 refine ae.of (s:= .el (.one .bool)) λw1 h1=>ai (C:=U2) (aQ:=oo) (Aq (Fa _ _ w1 _) ?_);have H:=H.ext h1;have r:qJ s i x=(AG s.cs.length).any (Dz s i x):=rfl;obtain⟨sc,z,A,B⟩:=H.f3;refine⟨rfl,rfl,A ?_⟩;rw[z];refine⟨λn st l=> ∃j:Nat,j<=s.cs.length/\n=s.cs.length - j/\st.1=(j:Int)/\(∀k,k<j->Dz s i x k=false)/\Ext w1 l,⟨s.cs.length,λl g=>⟨0,FQ _,rfl,rfl,λk o=>absurd o (NA k),g⟩⟩,?_⟩;rintro n ⟨E, _⟩ l ⟨j,p,F,hi,t,g⟩;have hi:E=(j:Int):=hi;subst hi F;dsimp only;have H:=H.ext g;refine ab (λc=>?_) (λc f m=>⟨?_,Ext.trans g m⟩)
 ·have p:j<s.cs.length:=by have:=of_decide_eq_true c;omega
  obtain⟨y,d⟩: ∃y,s.cs[j]? =some y:=⟨_,Bx p⟩;have S:=hv y (DE d);have u:=B g j p;have hb:Dz s i x j=(decide (j≠i/\x.vm=0)&&((x.c.1==1&&(y.ph==4&&y.c.1==2))||(x.c.1==2&&(decide (y.ph>=2)&&(decide (y.vm>0)&&y.vm==x.c.2.1))))):=by
   unfold Dz;rw[d]
  have next:Dz s i x j=false-> ∀f,Ext l f-> ∃v:Nat,v<s.cs.length - j/\ ∃q:Nat,q<=s.cs.length/\v=s.cs.length - q/\aJ .i64 (j:Int) 1=(q:Int)/\(∀k,k<q->Dz s i x k=false)/\Ext w1 f:=λhb f m=>by
   refine⟨s.cs.length - (j+1),by omega,j+1,by omega,rfl,?_,λk o=>?_,Ext.trans g m⟩
   ·rw[ax (by omega) (by omega)];omega
   ·by_cases e:k=j
    ·subst e;exact hb
    ·exact t k (by omega)
  have yes:Dz s i x j=true-> ∀f,Ext l f->true=qJ s i x/\Ext w1 f:=λhb f m=>⟨by
   rw[r];exact(Fh.2 ⟨j,Ca.2 p,hb⟩).symm,Ext.trans g m⟩
  have I:decide ((some ⟨R.cb j,0,none⟩:Option AF)=some ⟨R.cb i,0,none⟩)=decide (j=i):=by
   by_cases e:j=i
   ·subst e;simp
   ·have:=H.cne h d e;rw[decide_eq_false e,decide_eq_false_iff_not];intro c;exact this (congrArg Addr.block (Option.some.inj c))
  refine⟨⟨u.1,by omega,by omega⟩,aj.of (some ⟨R.cb j,0,none⟩) (by rw[Cc];exact u.2) ⟨?_,λ_=>rfl,λ_=>rfl,H.cf h (n:=3) (λ_=>rfl) ?_⟩⟩
  ·intro a b J hb _;cases J;cases hb;obtain⟨U,t1,K⟩:=H.cbk d;obtain⟨V,t2,N⟩:=H.cbk h;exact⟨⟨_, _,K⟩,⟨_, _,N⟩⟩
  ·rw[I];refine ab (λc=>next ?_) (λc=>?_)
   ·rw[hb,Bool.and_eq_false_iff];left;simp only[Gi,decide_eq_true_eq,bne_iff_ne] at c;rw[decide_eq_false_iff_not];rintro⟨c1,c2⟩;rcases c with c|c
    ·exact c1 c
    ·exact c c2
   ·have c0:j≠i/\x.vm=0:=by simpa using c
    rw[decide_eq_true c0,Bool.true_and] at hb;refine⟨rfl,rfl,rfl,H.cf h (n:=4) (λ_=>rfl) ⟨λ_=>rfl,λ_=>rfl,H.cf d (n:=2) (λ_=>rfl) ⟨λ_=>rfl,λ_=>rfl,λ_=>rfl,H.cf d (n:=4) (λ_=>rfl) ?_⟩⟩⟩;refine ab (λc=>yes ?_) (λc1=>?_)
    ·rw[hb,Gi];left;rw[<-Gj];exact c
    ·refine⟨rfl,rfl,rfl,H.cf h (n:=4) (λ_=>rfl) ⟨λ_=>rfl,λ_=>rfl,H.cf d (n:=2) (λ_=>rfl) ⟨λ_=>rfl,λ_=>rfl,H.cf d (n:=3) (λ_=>rfl) ⟨λ_=>rfl,λ_=>rfl,H.cf d (n:=3) (λ_=>rfl) ⟨λ_=>rfl,λ_=>rfl,λ_=>rfl,H.cf h (n:=5) (λ_=>rfl) ?_⟩⟩⟩⟩⟩;have e:(x.c.1==2&&decide (y.ph>=2)&&decide (y.vm>0)&&aF .u64 y.vm==x.c.2.1)=Dz s i x j:=by
      rw[hb];rw[show(x.c.1==1&&(y.ph==4&&y.c.1==2))=false from by rw[<-Gj];exact c1,Im];by_cases O:y.vm>0
      ·rw[eK (by omega)];simp only[Gj]
      ·rw[decide_eq_false O];simp
     rw[e];exact ab (λc=>yes c) (λc=>next c)
 ·have:j=s.cs.length:=by have:=of_decide_eq_false c;omega
  subst this;rw[r];symm;rw[GG];intro k o;rw[t k (Ca.1 o)];decide
theorem S9 (H:MU Q X D G w0 w R s T L M) (b:s.cs[i]? =some x) (u:0<=s.ep.now) (hc:i<s.ep.pins.length) (z:(x.ls.length:Int)<=64) (B:0<s.sz) (m:cL x.c.2.1) (E:uV (a6 s.h.g x.vm) (x.c.2.1 / 16) (a9 x.c.1)=false) (F:mi s.h x=true) {K:Unit->A2->Prop}
 (k: ∀d,MU Q X D G w0 d R (dB s i x).1 T L M->K () d):
 aA AB 153 (.bu []) [ag (af R.mb),ag (some ⟨R.cb i,0,none⟩)] w K:=by
 unfold dB at k;rw[av F] at k;refine H.go λw1 H=>ai (C:=U2) (aQ:=λ_=>[]) (Aq (Sr _ _ w1 K) ⟨rfl,rfl,H.f1 ⟨rfl,rfl,H.cf b (n:=0) (λ_=>rfl) (Wc H u hc λv d H=>?_)⟩⟩);have I:ae AB 201 [ag (some ⟨R.tb i,0,none⟩),aa x.vm,aa (x.c.2.1 / 16),aa (a9 x.c.1)] d ((Sh.bu [.one (.int .i64),.one (.int .i64)]).gK ((mP x.ls x.vm (x.c.2.1 / 16) (a9 x.c.1)).1,(mP x.ls x.vm (x.c.2.1 / 16) (a9 x.c.1)).2,())):=by
  rw[<-S8];obtain⟨a,e,o,m,hb,W,f,J⟩:=H.C9 b;have j:cw D G w0 d ((R.tb i,db a.st s.sz)::(a.Lt++((a.cb,jE a i x)::(a.Lf++(a.Lw++(T++e)))))) o:=f.perm (bY λy=>by rw[<-hb];simp only[sX,AH,AT];omega);exact UC j.base W.ls z B _ _ _
 have p:=JL H b m;have q:=JM H b;refine⟨rfl,rfl,H.c1 b ⟨rfl,rfl,H.cf b (n:=3) (λ_=>rfl) ⟨_,p, _,q, _,I,?_⟩⟩⟩;dsimp only at k ⊢;refine ab (λc=>?_) (λc=>?_)
 ·have c:(mP x.ls x.vm (x.c.2.1 / 16) (a9 x.c.1)).2=0:=by simpa using c
  rw[av c] at k;refine⟨rfl,rfl,H.cs b {x with ph:=3} 2 rfl rfl (λ_=>rfl) (λa h=>⟨h.ls,h.fs,λc=>(by cases c)⟩) λl H=>⟨rfl,rfl,?_⟩⟩;refine H.cs (fb b) {x with ph:=3,fr:=(mP x.ls x.vm (x.c.2.1 / 16) (a9 x.c.1)).1} 9 rfl rfl (λ_=>rfl) (λa h=>⟨h.ls,h.fs,λc=>(by cases c)⟩) λN H=>H.en λr H=>?_;rw[kT] at H;exact k r H
 ·have c:(mP x.ls x.vm (x.c.2.1 / 16) (a9 x.c.1)).2≠0:=by simpa using c
  rw[ao c] at k;have O:ae AB 21 [ag (af X.hb),aa x.vm] d (aa (a6 s.h.g x.vm)):=by
   obtain⟨A,G',L0,S,P,U, _⟩:=H.sat;exact Jk S P U x.vm
  refine⟨rfl,rfl,H.f0 ⟨rfl,rfl,H.cf b (n:=3) (λ_=>rfl) ⟨_,O, _,p, _,q,?_⟩⟩⟩;obtain⟨a,e,o,V,hb,W,f,J⟩:=H.C9 b;refine λl t=>I4 (f.ext t).base.again _ _ _ (λhb=>by rw[E] at hb;cases hb) (λ_ bk N j=>?_) l (Ext.refl l);have Y:=(f.ext t).join j;rw[<-V];refine⟨rfl,rfl,WC (n:=2) (Y.perm (L':=(a.cb,jE a i x)::(a.tb,db a.st s.sz)::(a.Lt++(a.Lf++(a.Lw++((bk,lO (a6 s.h.g x.vm) (x.c.2.1 / 16) (a9 x.c.1) 3 (0,0,0,0,()) (none,0,0))::(T++e)))))) (bY λy=>by simp only[sX,AH,AT];omega)) 0 rfl rfl rfl λr Z=>⟨rfl,rfl,WC (n:=8) Z 0 rfl rfl rfl λw6 K5=>enM K5 λw7 K6=>k w7 ?_⟩⟩;have K7:=(K6.perm (L':=a.Lw++((a.cb,((jE a i x).set 2 (aa 2)).set 8 (ag (af bk)))::(a.tb,db a.st s.sz)::(a.Lt++(a.Lf++((bk,lO (a6 s.h.g x.vm) (x.c.2.1 / 16) (a9 x.c.1) 3 (0,0,0,0,()) (none,0,0))::(T++e)))))) (bY λy=>by simp only[Ft,AH,AT];omega)).sub (FU _ _);refine J (a':={a with wp:=some ⟨bk,0,none⟩,Lw:=[(bk,lO (a6 s.h.g x.vm) (x.c.2.1 / 16) (a9 x.c.1) 3 (0,0,0,0,()) (none,0,0))]}) (x':={x with ph:=2,wk:=lK s.h.s.1 (a6 s.h.g x.vm) (x.c.2.1 / 16) (a9 x.c.1) 0}) rfl rfl ⟨W.ls,W.fs,λ_=>⟨bk,(none,0,0),[],[],rfl,rfl,.inl ⟨rfl,rfl,rfl⟩,by show((0:Nat):Int)<=3 - 3;decide⟩⟩ (K7.perm (bY λy=>?_));show BX y ((a.cb,((jE a i x).set 2 (aa 2)).set 8 (ag (af bk)))::(a.tb,db a.st s.sz)::(a.Lt++(a.Lf++[(bk,lO (a6 s.h.g x.vm) (x.c.2.1 / 16) (a9 x.c.1) 3 (0,0,0,0,()) (none,0,0))]))++(T++e))= _;simp only[AH,AT,Fw];omega
end
theorem _root_.Go.Proofs.YtlcenllcmeebhaaGreat.iz.perm {es:List Dn} {ck:Nat} {a b:List KV} (h:iz es ck a) (c:b.Perm a):iz es ck b:=by
 obtain⟨⟨p,h1,d⟩,e,f,g⟩:=h;exact⟨⟨p,h1.trans c.symm,d⟩,e,f,(c.map _).nodup_iff.2 g⟩
def tg (kn:List Int) (ds:List DT) (n:Nat):List Int:=((AG n).map λ(f:Nat)=>(f:Int)).filter λf=>(oH ds f).1==5&& !kn.contains f
theorem Nd (kn:List Int) (ds:List DT) (n:Nat):tg kn ds (n+1)=tg kn ds n++(if((oH ds (n:Int)).1==5&& !kn.contains (n:Int))=true then[(n:Int)] else[]):=by
 unfold tg;rw[Ij,GS,List.filter_append];congr 1;show List.filter _ [(n:Int)]= _;rw[List.filter_cons,List.filter_nil]
theorem Wd {kn:List Int} {ds:List DT} {n:Nat} {f:Int} (h:f∈tg kn ds n):0<=f/\f<(n:Int):=by
 obtain⟨m,a,rfl⟩:=B5.1 (J_.1 h).1;have:=Ca.1 a;omega
theorem S_ (kn:List Int) (ds:List DT) (n:Nat):(tg kn ds n).length<=n:=by
 refine H5 (Gd _ _) ?_;rw[BO,Dl];exact DN _
section
variable {Q:Sys} {X:HX} {D G:List Nat} {w0 w w1:A2} {B:MB} {R:MR} {s:MS} {T L:List (Nat×List AC)} {M:List (Nat×B2)} {i:Nat} {x:bW} {g:Option Bool}
theorem MU.tmp (H:MU Q X D G w0 w R s T L M): ∃a b,cw D G w0 w (T++a) b/\ ∀{T' w'},cw D G w0 w' (T'++a) b->MU Q X D G w0 w' R s T' L M:=by
 obtain⟨B,e,H⟩:=H;obtain⟨a,b,K, _, _, _,J⟩:=H.tmp;exact⟨a,b,K,λK=>⟨B,e,J K⟩⟩
theorem MU.look (H:MU Q X D G w0 w R s T L M) (f:Int):jS w (some R.kb) .i64 f (.bool false) (.bool (s.kn.contains f)):=by
 obtain⟨B,rfl,H⟩:=H;obtain⟨j,l,a,J⟩:=H.kns;by_cases c:f∈s.kn
 ·obtain⟨i,b, _⟩:=H.wf.k.Fi (B5.2 ⟨f,c,rfl⟩);exact vp (a.get (i:=0) rfl) b (by rw[Fx.2 c])
 ·refine BK (a.get (i:=0) rfl) (H.wf.k.Oe λt d e=>?_) (by rw[H4.2 λh=>c (Fx.1 h)]);obtain⟨y,g,rfl⟩:=B5.1 d;exact c (by rw[<-e];exact g)
theorem MU.ins (H:MU Q X D G w0 w R s T L M) {f:Int} (c:f∉s.kn) {K:A2->Prop} (k: ∀a,MU Q X D G w0 a R {s with kn:=s.kn++[f]} T L M->K a):
 ∃(r:Nat) (es:Array Dn) (b:Nat),some R.kb=some r/\bF w r es b/\gR w r .i64 f (.bool true) es b K:=by
 obtain⟨B,rfl,H⟩:=H;obtain⟨n,o,d,J⟩:=H.kns;have g: ∀t∈s.kn.map (λf=>((f,.bool true):KV)),t.1≠f:=λt h e=>by
  obtain⟨y,j,rfl⟩:=B5.1 h;exact c (by rw[<-e];exact j)
 refine⟨B.kb,⟨B.ke⟩,B.kk,rfl,d.get (i:=0) rfl,xA (H.wf.k.Oe g) ?_⟩;have l:=d.put (i:=0) rfl (o':= .map ⟨B.ke++[{key:=aa f,val:= .bool true,born:=B.kk}]⟩ (B.kk+1)) trivial;have m:(Array.mk B.ke).push {key:=aa f,val:= .bool true,born:=B.kk}=⟨B.ke++[{key:=aa f,val:= .bool true,born:=B.kk}]⟩:=by apply Array.ext';simp
 rw[m];refine k _ ⟨{B with ke:=B.ke++[{key:=aa f,val:= .bool true,born:=B.kk}],kk:=B.kk+1},rfl,J (kn:=s.kn++[f]) ((H.wf.k.push _ g).perm ?_) l⟩;rw[GS];exact List.perm_append_singleton _ _
theorem Fe (H:MU Q X D G w0 w R s T L M) (x:s.h.s.2.length<=4096) {K:Option AF×Nat×Nat->A2->Prop}
 (k: ∀r d l,du eI r (tg s.kn s.h.s.2 s.h.s.2.length) d->MU Q X D G w0 l R {s with kn:=s.kn++tg s.kn s.h.s.2 s.h.s.2.length} (d++T) L M->K r l):
 aA AB 156 (.el (.one .slice)) [ag (af R.mb)] w K:=by
 refine H.go λw1 H=>ai (C:=U2) (aQ:=oq) (Aq (Fb _ w1 K) ⟨rfl,rfl,H.f0 ?_⟩);obtain⟨A,G',L0,S,z, _,J⟩:=H.sat;refine zI S z λe a g i l S=>?_;have H:MU Q X D G w0 l R s ((e,[.slice (af a) s.h.s.2.length g])::(a,flat eD s.h.s.2++i)::T) L M:=J (T':=[_, _]) S;clear J S z;generalize O:s.h.s.2.length=N at*
 have P: ∀{B:A2} {U:MS} {V:List (Nat×List AC)},MU Q X D G w0 B R U ((e,[.slice (af a) N g])::(a,flat eD s.h.s.2++i)::V) L M-> ∀f:Int,ae AB 25 [ag (af e),aa f] B ((Sh.bu [eD,.one .bool]).gK (oH s.h.s.2 f,xk s.h.s.2 f,())):=λH f=>by
  obtain⟨L0,p,q⟩:=H.base;subst O;exact ae.of λw' h'=>Gn ((p.dk _ (q _ B4)).ext h') ((p.dk _ (q _ (Ae _ B4))).ext h') f
 have W:ae AB 62 [ag (af e)] l (aa (N:Int)):=by
  obtain⟨L0,p,q⟩:=H.base;exact ae.of (s:= .el (.one (.int .i64))) λw' h'=>rT ((p.dk _ (q _ B4)).ext h')
 refine⟨_,W,?_⟩;refine⟨λn st t=> ∃(j:Nat) (d:List (Nat×List AC)),j<=N/\n=N - j/\st.2.1=(j:Int)/\du eI st.1 (tg s.kn s.h.s.2 j) d/\MU Q X D G w0 t R {s with kn:=s.kn++tg s.kn s.h.s.2 j} ((e,[.slice (af a) N g])::(a,flat eD s.h.s.2++i)::(d++T)) L M,⟨N,λt x=>⟨0,[],FQ _,rfl,rfl,du.nil eI,by
  have:tg s.kn s.h.s.2 0=[]:=rfl;rw[this,Dh];exact H.ext x⟩⟩,?_⟩
 clear H;rintro n ⟨r,Y, _⟩ t ⟨j,d,Z,qy,hi,m,H⟩;have hi:Y=(j:Int):=hi;have m:du eI r (tg s.kn s.h.s.2 j) d:=m;subst hi qy;dsimp only;refine ab (λc=>?_) (λc=>?_)
 ·have Z:j<N:=by have:=of_decide_eq_true c;omega
  have z8:=S_ s.kn s.h.s.2 j;have hc:(s.kn++tg s.kn s.h.s.2 j).contains (j:Int)=s.kn.contains (j:Int):=by
   rw[Bool.eq_iff_iff,Fx,Fx,HB];refine⟨λh=>h.resolve_right λh=>?_,.inl⟩;have:=Wd h;omega
  refine⟨_,P H (j:Int),H.al λb E H=>H.st 0 rfl rfl rfl λw6 H=>⟨rfl,H.cA 0 rfl (show _=some (oH s.h.s.2 (j:Int)).1 from rfl) ⟨λ_=>rfl,λ_=>rfl,H.f4 ⟨s.kn.contains (j:Int),λ_=>?_,?_⟩⟩⟩⟩
  ·have:=H.look (j:Int);rw[show(s.kn++tg s.kn s.h.s.2 j).contains (j:Int)=s.kn.contains (j:Int) from hc] at this;exact this
  ·have H:MU Q X D G w0 w6 R {s with kn:=s.kn++tg s.kn s.h.s.2 j} ((e,[.slice (af a) N g])::(a,flat eD s.h.s.2++i)::(d++T)) L M:=H.sub (Bs _ _);have o:=Nd s.kn s.h.s.2 j;refine ab (λc=>⟨rfl,rfl,H.f4 λw7 u=>?_⟩) (λc w7 u=>⟨N - (j+1),by omega,j+1,d,by omega,rfl,?_,?_,?_⟩)
   ·rw[av c] at o;have Xs:s.kn.contains (j:Int)=false:=by
     simp only[DB,Bool.not_eq_true'] at c;exact c.2
    refine(H.ext u).ins (f:=(j:Int)) (λh=>?_) λw8 H=>H.al λv w9 H n5 Ih=>?_
    ·rw[<-Fx,hc,Xs] at h;cases h
    ·have H:=H.ext Ih;obtain⟨R',Mo,F,J⟩:=H.tmp;have hb:bK n5 v (cellsOf eI (j:Int)):=F.base.dk _ B4;have K2:=F.perm (L':=d++((v,[aa (j:Int)])::(e,[.slice (af a) N g])::(a,flat eD s.h.s.2++i)::(T++R'))) (bY λy=>by simp only[AH,AT];omega);refine Fu K2 m rfl (ys:=[(j:Int)]) rfl (rR hb) rfl rfl (by rw[FC];omega) λs' I oJ fl K3 Fk TE=>⟨N - (j+1),by omega,j+1,I,by omega,rfl,?_,?_,?_⟩
     ·rw[ax (by omega) (by omega)];omega
     ·rw[o];exact fl
     ·have H2:=J (T':=(v,[aa (j:Int)])::(e,[.slice (af a) N g])::(a,flat eD s.h.s.2++i)::(I++T)) (K3.perm (bY λy=>by simp only[AH,AT];omega));rw[o, <-LL];exact MU.ext (H2.sub (Bs _ _)) TE
   ·rw[ax (by omega) (by omega)];omega
   ·rw[o,ao (by rw[c];decide),Dh];exact m
   ·rw[o,ao (by rw[c];decide),Dh];exact H.ext u
 ·have:j=N:=by have:=of_decide_eq_false c;omega
  subst this;exact H.en λE H=>k r d E m (H.sub ((NF _).cons _ |>.cons _))
end
structure Bn (s:MS):Prop where
 c8:s.cs.length<=8
 pn:s.ep.pins.length=s.cs.length
 bn:s.bx.length=s.cs.length
 now:0<=s.ep.now/\s.ep.now<4611686018427387000
 ws:s.ep.ws.length<=1000000
 wn: ∀e∈s.ep.ws,0<=e.2/\e.2<=s.ep.now
 ms:s.ms.length<=900000000
 op:s.op.length<=900000000
 bl: ∀q∈s.bx,q.length<=16
 sz:0<s.sz/\s.sz<=64
 ls: ∀y∈s.cs,(y.ls.length:Int)<=s.sz
 vm: ∀y∈s.cs,y.vm<9223372036854775808
 cu: ∀y∈s.cs,cL y.c.2.1/\cL y.c.2.2.1/\cL y.c.2.2.2.1
section
variable {Q:Sys} {X:HX} {D G:List Nat} {w0 w w1:A2} {B:MB} {R:MR} {s:MS} {T L:List (Nat×List AC)} {M:List (Nat×B2)} {i:Nat} {x:bW} {g:Option Bool}
theorem MU.sys (H:MU Q X D G w0 w R s T L M):yC s.h.s:=by
 obtain⟨B,e,A,ca,la,h1,a,b⟩:=H;exact a
theorem Z0 (H:MU Q X D G w0 w R s T L M) (g:Cf Q s.h) (v k:Int) {a b c:Int} (i:cL a) (hb:cL b) (hc:cL c) {K:Int×Int×Unit->A2->Prop}
 (kk: ∀d,MU Q X D G w0 d R {s with h:=kU s.h v k a b c} T L M->K (xY s.h v k a b c,sM s.h v k a b c,()) d):
 aA AB 42 (.el (.agg iP)) [ag (af X.hb),aa v,.agg ⟨f_ k a b c⟩] w K:=λw1 h1=>by
 obtain⟨B,e,H⟩:=H.ext h1;obtain⟨j,L',f,J⟩:=H.hv;exact ZR f g v k i hb hc λd f=>kk d ⟨B,e,J f⟩
theorem Ta (H:MU Q X D G w0 w R s T L M) (hc:i<s.bx.length) (v:s.bx.length<=8) (x:s.op.length<=900000000) (c: ∀q∈s.bx,q.length<=16) (t p:Int) {K:Int×Int×Unit->A2->Prop}
 (k: ∀e a,MU Q X D G w0 a R {s with bx:=(dy s.bx s.op i t p).2.1,op:=(dy s.bx s.op i t p).2.2} T L M->K ((dy s.bx s.op i t p).1,e,()) a):
 aA AB 157 (.bu [.one (.int .i64),.one (.int .i64)]) [ag (af R.xb),aa (i:Int),aa t,aa p] w K:=by
 obtain⟨B,rfl,H⟩:=H;obtain⟨y,z,d,J⟩:=H.bxs;have W:=H.wf;have f:=W.l;refine Se d W.b W.o W.l i (by omega) (by omega) (by omega) c t p λe g h j a m n r u=>k e a ⟨{B with so:=h,Lo:=j,cr:=g},rfl,J (op:=(dy s.bx s.op i t p).2.2) (bx:=(dy s.bx s.op i t p).2.1) r ?_ n u⟩;rw[m,f];unfold dy;split
 ·rfl
 ·split
  ·rfl
  ·simp
theorem Z1 {b:List (Nat×List AC)} (H:MU Q X D G w0 w R s (b++T) L M) (d:s.cs[i]? =some x) {r:Option AF×Nat×Nat} {l:List Int} (e:du eI r l b) {K:A2->Prop}
 (k: ∀w1,MU Q X D G w0 w1 R (cj s i {x with fs:=l}) T L M->K w1):az w (ad (some ⟨R.cb i,0,none⟩) 13) [.slice r.1 r.2.1 r.2.2] K:=by
 obtain⟨a,c,o,f,hb,W,g,J⟩:=H.C9 d;rw[<-f];refine WC (n:=13) (g.perm (L':=(a.cb,jE a i x)::(a.tb,db a.st s.sz)::(a.Lt++(a.Lw++(a.Lf++(b++(T++c)))))) (bY λy=>by simp only[sX,AH,AT];omega)) 0 rfl rfl rfl λh j=>k h ?_;have m:=(j.perm (L':=a.Lf++((a.cb,(jE a i x).set 13 (.slice r.1 r.2.1 r.2.2))::(a.tb,db a.st s.sz)::(a.Lt++(a.Lw++(b++(T++c)))))) (bY λy=>by simp only[Ft,AH,AT];omega)).sub (FU _ _);refine J (a':={a with sf:=r,Lf:=b}) (x':={x with fs:=l}) rfl rfl ⟨W.ls,e,W.wk⟩ (m.perm (bY λy=>?_));show BX y ((a.cb,(jE a i x).set 13 (.slice r.1 r.2.1 r.2.2))::(a.tb,db a.st s.sz)::(a.Lt++(b++a.Lw))++(T++c))= _;simp only[AH,AT];omega
theorem Tb {b:Nat} {l:List AC} (H:MU Q X D G w0 w R s ((b,l)::T) L M) (j:l.length=2) (A:s.cs.length<=8) (B:s.bx.length=s.cs.length) (m:s.op.length<=900000000) (o: ∀q∈s.bx,q.length<=16) (r:0<s.sz) (u:(x.ls.length:Int)<=64) (f:s.cs[i]? =some x) (t p:Int) {K:BW->A2->Prop}
 (k: ∀d,MU Q X D G w0 d R (cj {s with bx:=(dy s.bx s.op i t p).2.1,op:=(dy s.bx s.op i t p).2.2} i {x with ls:=js x.ls t p,ak:=(dy s.bx s.op i t p).1,ph:=4}) T L M->K ((0,0,()),false,()) d):
 aA AB 67 (.bu []) [ag (some ⟨R.cb i,0,none⟩),aa t,aa p] w λ_ d=>
  (some ⟨R.mb,0,none⟩:Option AF).isSome=true/\(some ⟨R.mb,0,none⟩:Option AF).isSome=true/\aj d none (ad (af R.mb) 2) (.one .ptr) λ(x1:Option AF)=>
  (some ⟨R.cb i,0,none⟩:Option AF).isSome=true/\(some ⟨R.cb i,0,none⟩:Option AF).isSome=true/\aj d none (ad (some ⟨R.cb i,0,none⟩) 0) (.one (.int .i64)) λ(v:Int)=>
  aA AB 157 (.bu [.one (.int .i64),.one (.int .i64)]) [ag x1,aa v,aa t,aa p] d λ(y:Int×Int×Unit) d=>
  (some ⟨R.cb i,0,none⟩:Option AF).isSome=true/\(some ⟨R.cb i,0,none⟩:Option AF).isSome=true/\az d (ad (some ⟨R.cb i,0,none⟩) 12) [aa y.1] λd=>
  (some ⟨R.cb i,0,none⟩:Option AF).isSome=true/\(some ⟨R.cb i,0,none⟩:Option AF).isSome=true/\az d (ad (some ⟨R.cb i,0,none⟩) 2) [aa 4] λd=>
  az d (af b) [ay 0,aa 0] λd=>au d λw1=>aj w1 none (af b) (El.agg [.int .u64,.int .i64]) λ(x:Int×Int×Unit)=>K ((x.1,x.2.1,()),false,()) w1:=by
 have C:=(Ap.1 f).1;refine zR H f u r t p λd H=>⟨rfl,rfl,H.f2 ⟨rfl,rfl,H.cf (fb f) (n:=0) (λ_=>rfl) ?_⟩⟩;refine Ta H (show i<s.bx.length by omega) (show s.bx.length<=8 by omega) m o t p λe z H=>⟨rfl,rfl,?_⟩;have g:(cj {s with bx:=(dy s.bx s.op i t p).2.1,op:=(dy s.bx s.op i t p).2.2} i {x with ls:=js x.ls t p}).cs[i]? =some {x with ls:=js x.ls t p}:=fb (s:={s with bx:=(dy s.bx s.op i t p).2.1,op:=(dy s.bx s.op i t p).2.2}) f;have H:MU Q X D G w0 z R (cj {s with bx:=(dy s.bx s.op i t p).2.1,op:=(dy s.bx s.op i t p).2.2} i {x with ls:=js x.ls t p}) ((b,l)::T) L M:=H;refine H.cs g {x with ls:=js x.ls t p,ak:=(dy s.bx s.op i t p).1} 12 rfl rfl (λ_=>rfl) (λa h=>⟨h.ls,h.fs,h.wk⟩) λE H=>⟨rfl,rfl,?_⟩;refine H.cs (fb g) {x with ls:=js x.ls t p,ak:=(dy s.bx s.op i t p).1,ph:=4} 2 rfl rfl (λ_=>rfl) (λa h=>⟨h.ls,h.fs,λc=>(by cases c)⟩) λF H=>?_;rw[kT,kT] at H;exact H.res j 0 0 false k
end
section
variable {Q:Sys} {X:HX} {D G:List Nat} {w0 w w1:A2} {B:MB} {R:MR} {s:MS} {T L:List (Nat×List AC)} {M:List (Nat×B2)} {i:Nat} {x:bW} {g:Option Bool}
theorem Nf (H:MU Q X D G w0 w R s T L M) (Bd:Bn s) (j:s.cs[i]? =some x) (W:Cf Q s.h) (Y:mi s.h x=true->uV (a6 s.h.g x.vm) (x.c.2.1 / 16) (a9 x.c.1)=false) {K:BW->A2->Prop}
 (k: ∀d,MU Q X D G w0 d R (dB s i x).1 T L M->K (((dB s i x).2.1.1,(dB s i x).2.1.2,()),(dB s i x).2.2,()) d):
 aA AB 110 N2 [ag (af R.mb),ag (some ⟨R.cb i,0,none⟩)] w K:=by
 have F:=DE j;have mA:=(Ap.1 j).1;have NM:=Bd.ls x F;have I:=Bd.sz;have u:=Bd.cu x F;have J:=Bd.c8;have Df:=Bd.pn;refine H.go λw1 H=>aR (C:=U2) (aQ:=λ_=>[]) (Aq (MF _ _ w1 K) (H.al λb d H=>⟨mi s.h x,Nb H j,?_⟩));by_cases m:mi s.h x=true
 ·have Z:(dB s i x).2=((0,0),false):=by
   unfold dB;rw[av m];dsimp only;split<;>rfl
  rw[Z] at k;exact aB m (S9 H j Bd.now.1 (by omega) (by omega) I.1 u.1 (Y m) m λN H=>H.res rfl 0 0 false k)
 refine an (H4.2 m) ⟨qJ s i x,HZ H j J Bd.vm,?_⟩;by_cases o:qJ s i x=true
 ·have e:dB s i x=(s,(0,9),true):=by unfold dB;rw[ao m,av o]
  rw[e] at k;exact aB o (H.res rfl 0 9 true k)
 refine an (H4.2 o) ⟨rfl,rfl,H.cf j (n:=3) (λ_=>rfl) ⟨λ_=>rfl,λ_=>rfl,H.cf j (n:=4) (y:=x.c) (λ_=>rfl) ?_⟩⟩;have O:(x.vm==0&&(x.c.1==17&&(x.c.2.1==0&&(x.c.2.2.1==0&&(x.c.2.2.2.1==0&&true)))))=true<->(x.vm=0/\x.c=(17,0,0,0,())):=by
  obtain⟨k1,a1,b1,c1,⟨⟩⟩:=x.c;simp only[DB,beq_iff_eq,Prod.mk.injEq,and_true]
 by_cases v:x.vm=0/\x.c=(17,0,0,0,())
 ·have e:dB s i x=((dO s).1,((((dO s).2:Nat):Int),0),true):=by unfold dB;rw[ao m,ao o,av v]
  rw[e] at k;refine aB (O.2 v) (EP H (by omega) Bd.now Bd.ws Bd.wn Bd.ms λN H=>?_);have hlen:(dO s).2<=s.ep.ws.length:=by
   unfold dO oE;rw[jM,BO];refine H5 (Gd _ _) ?_;rw[u_];exact DN _
  have Ai:=Bd.ws;rw[eK (by omega)];exact H.res rfl _ 0 true k
 refine an (H4.2 λc=>v (O.1 c)) ?_;have e:dB s i x=iJ s i x:=by unfold dB;rw[ao m,ao o,ao v]
 rw[e] at k;refine⟨rfl,rfl,H.f0 ⟨rfl,rfl,H.cf j (n:=3) (λ_=>rfl) ⟨rfl,rfl,H.cf j (n:=4) (y:=x.c) (λ_=>rfl) (Z0 H W x.vm x.c.1 u.1 u.2.1 u.2.2 λN H=>⟨rfl,rfl,?_⟩)⟩⟩⟩;unfold iJ at k;generalize hh':kU s.h x.vm x.c.1 x.c.2.1 x.c.2.2.1 x.c.2.2.2.1=h' at*
 generalize hV:xY s.h x.vm x.c.1 x.c.2.1 x.c.2.2.1 x.c.2.2.2.1=V at*
 generalize f:sM s.h x.vm x.c.1 x.c.2.1 x.c.2.2.1 x.c.2.2.2.1=E at*
 dsimp only at k ⊢;have S:({s with h:=h'}:MS).cs[i]? =some x:=j;refine H.cs S {x with rs:=(V,E)} 10 rfl rfl (λ_=>rfl) (λa h=>⟨h.ls,h.fs,h.wk⟩) λw4 H=>?_;have z:=fb (y:={x with rs:=(V,E)}) S;refine⟨rfl,rfl,H.cf z (n:=3) (λ_=>rfl) ⟨rfl,rfl,H.cf z (n:=4) (y:=x.c) (λ_=>rfl) ⟨rfl,rfl,H.cf z (n:=10) (y:=(V,E,())) (λ_=>rfl) ?_⟩⟩⟩;have hms:=Bd.ms;refine tU H (show s.ms.length<= _ by omega) (1,x.vm,0,x.c,V,E) λw5 H=>Fe H H.sys.2.2.1 λr Lr w6 hs H=>⟨rfl,rfl,?_⟩;have vx:({ {cj {s with h:=h'} i {x with rs:=(V,E)} with ms:=s.ms++[(1,x.vm,0,x.c,V,E)]} with kn:=s.kn++eV s h'}:MS).cs[i]? =some {x with rs:=(V,E)}:=z;refine Z1 (x:={x with rs:=(V,E)}) H vx hs λA H=>?_;have H:MU Q X D G w0 A R (cj {s with h:=h',kn:=s.kn++eV s h',ms:=s.ms++[(1,x.vm,0,x.c,V,E)]} i {x with rs:=(V,E),fs:=eV s h'}) ((b,[ay 0,aa 0])::T) L M:=by
  have H:=H;unfold cj at H;simp only[Dr] at H;exact H
 have l:=fb (s:={s with h:=h',kn:=s.kn++eV s h',ms:=s.ms++[(1,x.vm,0,x.c,V,E)]}) (y:={x with rs:=(V,E),fs:=eV s h'}) j;have kE:(x.c.1=2\/x.c.1=4\/x.c.1=5\/x.c.1=10->E≠0)-> ∀d,MU Q X D G w0 d R (cj {s with h:=h',kn:=s.kn++eV s h',ms:=s.ms++[(1,x.vm,0,x.c,V,E)]} i {x with rs:=(V,E),fs:=eV s h'}) T L M->K ((V,E,()),true,()) d:=λf d H=>by
  have:=k d;by_cases c:x.c.1=2\/x.c.1=4\/x.c.1=5\/x.c.1=10
  ·rw[av c,av (f c)] at this;exact this H
  ·rw[ao c] at this;exact this H
 have kP:x.c.1=2\/x.c.1=4\/x.c.1=5\/x.c.1=10->E=0-> ∀t p:Int,(if x.c.1=2 then aF .i64 x.c.2.1 else x.vm)=t->(if x.c.1=2 then -1 else aF .i64 x.c.2.1)=p-> ∀d,MU Q X D G w0 d R (cj {s with h:=h',kn:=s.kn++eV s h',ms:=s.ms++[(1,x.vm,0,x.c,V,E)],bx:=(dy s.bx s.op i t p).2.1,op:=(dy s.bx s.op i t p).2.2} i {x with rs:=(V,E),fs:=eV s h',ls:=js x.ls t p,ak:=(dy s.bx s.op i t p).1,ph:=4}) T L M->K ((0,0,()),false,()) d:=λc f t p B q d H=>by
  have:=k d;rw[av c,ao (by omega),B,q] at this;exact this H
 have tl:=λ(c:x.c.1=2\/x.c.1=4\/x.c.1=5\/x.c.1=10) (f:E=0) (t p:Int) (B:(if x.c.1=2 then aF .i64 x.c.2.1 else x.vm)=t) (q:(if x.c.1=2 then -1 else aF .i64 x.c.2.1)=p)=>Tb (i:=i) (K:=K) (x:={x with rs:=(V,E),fs:=eV s h'}) H rfl (show(s.cs.set i _).length<=8 by rw[Cd];exact J) (show s.bx.length=(s.cs.set i _).length by rw[Cd];exact Bd.bn) Bd.op Bd.bl I.1 (show(x.ls.length:Int)<=64 by omega) l t p λU H=>kP c f t p B q U (by
  have H:MU Q X D G w0 U R (cj (cj {s with h:=h',kn:=s.kn++eV s h',ms:=s.ms++[(1,x.vm,0,x.c,V,E)],bx:=(dy s.bx s.op i t p).2.1,op:=(dy s.bx s.op i t p).2.2} i {x with rs:=(V,E),fs:=eV s h'}) i {x with rs:=(V,E),fs:=eV s h',ls:=js x.ls t p,ak:=(dy s.bx s.op i t p).1,ph:=4}) T L M:=H;rw[kT] at H;exact H)
 refine⟨rfl,rfl,H.cf l (n:=3) (λ_=>rfl) ⟨rfl,rfl,rfl,H.cf l (n:=5) (λ_=>rfl) ⟨rfl,rfl,rfl,H.cf l (n:=4) (λ_=>rfl) ?_⟩⟩⟩;have br: ∀{P:Prop},(E=0->P)->aI (E != 0) ((some ⟨R.cb i,0,none⟩:Option AF).isSome=true/\(some ⟨R.cb i,0,none⟩:Option AF).isSome=true/\aj A none (ad (some ⟨R.cb i,0,none⟩) 10) (El.agg [.int .u64,.int .i64]) λ(x:Int×Int×Unit)=>az A (af b) [ay x.1,aa x.2.1] λd=>au d λw1=>aj w1 none (af b) (El.agg [.int .u64,.int .i64]) λ(x:Int×Int×Unit)=>K ((x.1,x.2.1,()),true,()) w1) P:=λq=>by
  refine ab (λc=>⟨rfl,rfl,H.cf l (n:=10) (y:=(V,E,())) (λ_=>rfl) (H.res rfl _ _ true (kE λ_=>by simpa using c))⟩) (λc=>q (by simpa using c))
 by_cases c2:x.c.1=2
 ·refine aB (by rw[c2];rfl) ⟨rfl,rfl,rfl,H.cf l (n:=5) (λ_=>rfl) ⟨rfl,rfl,rfl,H.cf l (n:=11) (λ_=>rfl) (br λf=>?_)⟩⟩;exact tl (.inl c2) f _ _ (av c2) (av c2)
 refine an (beq_eq_false_iff_ne.2 c2) ?_;by_cases c4:x.c.1=4
 ·refine aB (by rw[c4];rfl) (aB (by rw[c4];rfl) ⟨rfl,rfl,rfl,H.cf l (n:=11) (λ_=>rfl) (br λf=>?_)⟩);exact tl (.inr (.inl c4)) f _ _ (ao c2) (ao c2)
 refine an (beq_eq_false_iff_ne.2 c4) ?_;by_cases c5:x.c.1=5
 ·refine aB (by rw[c5];rfl) (aB (by rw[c5];rfl) ⟨rfl,rfl,rfl,H.cf l (n:=11) (λ_=>rfl) (br λf=>?_)⟩);exact tl (.inr (.inr (.inl c5))) f _ _ (ao c2) (ao c2)
 refine an (beq_eq_false_iff_ne.2 c5) ?_;by_cases Yb:x.c.1=10
 ·refine aB (by rw[Yb];rfl) ⟨rfl,rfl,rfl,H.cf l (n:=11) (λ_=>rfl) (br λf=>?_)⟩;exact tl (.inr (.inr (.inr Yb))) f _ _ (ao c2) (ao c2)
 refine an (beq_eq_false_iff_ne.2 Yb) ⟨rfl,rfl,H.cf l (n:=10) (y:=(V,E,())) (λ_=>rfl) (H.res rfl _ _ true (kE λc=>?_))⟩;rcases c with c|c|c|c
 ·exact absurd c c2
 ·exact absurd c c4
 ·exact absurd c c5
 ·exact absurd c Yb
end
def IG (l:List AC) (n:Int):AC:=match l.get?Internal n.toNat with
 |some x=>x
 |none=>Value.tuple ⟨[]⟩
abbrev sFs:El:= .agg [.func,.func,.func,.func,.func]
def Ki (x:Option AF) (n:Int) (b c:Nat) (Post:BW->A2->Prop) (r:BW) (a:A2):Prop:=
 az a (af c) [ay r.1.1,aa r.1.2.1] λa=>
  aI (!r.2.1)
   (az a (af b) [ay 0,aa 0] λa=>au a λw1=>aj w1 none (af b) (.agg iP) λ(y:Int×Int×Unit)=>Post ((y.1,y.2.1,()),false,()) w1)
   (x.isSome=true/\x.isSome=true/\aj a none (ad x 1) (.one .ptr) λ(t:Option AF)=>x.isSome=true/\
    az a x [aa n,ag t,aa 0,aa 0,aa 0,ay 0,ay 0,ay 0,ag none,aa 0,ay 0,aa 0,aa 0,.slice none 0 0] λa=>
    aj a none (af c) (.agg iP) λ(y:Int×Int×Unit)=>az a (af b) [ay y.1,aa y.2.1] λa=>au a λw1=>aj w1 none (af b) (.agg iP) λ(y:Int×Int×Unit)=>Post ((y.1,y.2.1,()),true,()) w1)
def abE (p x:Option AF) (n:Int) (b:Nat) (Post:BW->A2->Prop) (a:A2):Prop:=
 x.isSome=true/\x.isSome=true/\aj a none (ad x 2) (.one (.int .i64)) λ(ph:Int)=>
  (aA AB 68 (.el sFs) [ag p] a λ(f:AC×AC×AC×AC×AC×Unit) a=>cI a (ad x 2) (.one (.int .i64)) ph/\True/\True/\(0<=ph/\ph<((5:Nat):Int))/\
   (zZ AB (IG [f.1,f.2.1,f.2.2.1,f.2.2.2.1,f.2.2.2.2.1] ph) N2 [ag x] a λ(r:BW) a=>aN a ⟨[ay 0,aa 0]⟩ 61 λc a=>Ki x n b c Post r a)/\
   aN a ⟨[ay 0,aa 0]⟩ 61 λc a=>zZ AB (IG [f.1,f.2.1,f.2.2.1,f.2.2.2.1,f.2.2.2.2.1] ph) N2 [ag x] a λ(r:BW) a=>Ki x n b c Post r a)/\
  aN a ⟨[ay 0,aa 0]⟩ 61 λc a=>aA AB 68 (.el sFs) [ag p] a λ(f:AC×AC×AC×AC×AC×Unit) a=>cI a (ad x 2) (.one (.int .i64)) ph/\True/\True/\(0<=ph/\ph<((5:Nat):Int))/\
   zZ AB (IG [f.1,f.2.1,f.2.2.1,f.2.2.2.1,f.2.2.2.2.1] ph) N2 [ag x] a λ(r:BW) a=>Ki x n b c Post r a
theorem DP {a:Nat} {sh:Sh} {first args:List AC} {w:A2} {K:sh.T->A2->Prop} (hc:bJ AB a=true) (b:aA AB a sh (first++args) w K):zZ AB (.func (.func a) ⟨first⟩ #[]) sh args w K:=by
 unfold zZ;refine λw1 h1=>⟨a,⟨first⟩, #[],rfl,hc,?_⟩;have e:c_ ⟨first⟩ args #[]=first++args:=by unfold c_;simp
 rw[e];exact b w1 h1
abbrev FF (mb f:Nat):AC:= .func (.func f) ⟨[ag (af mb)]⟩ #[]
structure Sx (s:MS) (i:Nat) (x:bW):Prop where
 ph:0<=x.ph/\x.ph<=4
 wk:x.ph=2->0<=x.wk.2.1/\x.wk.2.1<=3
 ln:x.ph=2->(bE s.h.s.1 (x.c.2.1 / 16) (a9 x.c.1) x.wk).2.1= -1->(bE s.h.s.1 (x.c.2.1 / 16) (a9 x.c.1) x.wk).2.2.2.2.2.1=0->lnR (x.vm,x.c.2.1 / 16,(bE s.h.s.1 (x.c.2.1 / 16) (a9 x.c.1) x.wk).2.2.1,(bE s.h.s.1 (x.c.2.1 / 16) (a9 x.c.1) x.wk).2.2.2.1,())=true
 fr:x.ph=3->0<=x.fr/\x.fr<4096
 ak:x.ph=4->x.ak<4611686018427387904/\x.fs.length<=1000000/\ ∀f∈x.fs,0<=f
 bw:mi s.h x=true->uV (a6 s.h.g x.vm) (x.c.2.1 / 16) (a9 x.c.1)=false
 tk: ∀a q,s.bx[i]? =some (a::q)->(1<=a.1/\a.1<=(s.op.length:Int))/\ -1000<=s.op.getD (a.1 - 1).toNat 0/\s.op.getD (a.1 - 1).toNat 0<=1000
section
variable {Q:Sys} {X:HX} {D G:List Nat} {w0 w w1:A2} {B:MB} {R:MR} {s:MS} {T L:List (Nat×List AC)} {M:List (Nat×B2)} {i:Nat} {x:bW} {g:Option Bool}
theorem zT (H:MU Q X D G w0 w R s T L M) {K:AC×AC×AC×AC×AC×Unit->A2->Prop} (k: ∀a,MU Q X D G w0 a R s T L M->K (FF R.mb 109,FF R.mb 110,FF R.mb 111,FF R.mb 112,FF R.mb 113,()) a):
 aA AB 68 (.el sFs) [ag (af R.mb)] w K:=by
 refine H.go λw1 H=>aR (C:=U2) (aQ:=λ_=>[]) (Aq (HO _ w1 K) (H.al λb a H=>H.st 0 rfl rfl rfl λd H=>H.en λc H=>H.ld 0 rfl (show _=some (FF R.mb 109,FF R.mb 110,FF R.mb 111,FF R.mb 112,FF R.mb 113,()) from rfl) (k c (H.sub (Bs _ _)))))
theorem vq (H:MU Q X D G w0 w R s T L M) (Bd:Bn s) (a:s.cs[i]? =some x) (f:Cf Q s.h) (S:Sx s i x) {K:BW->A2->Prop}
 (k: ∀d,MU Q X D G w0 d R (bS s i x).1 T L M->K (((bS s i x).2.1.1,(bS s i x).2.1.2,()),(bS s i x).2.2,()) d):
 zZ AB (IG [FF R.mb 109,FF R.mb 110,FF R.mb 111,FF R.mb 112,FF R.mb 113] x.ph) N2 [ag (some ⟨R.cb i,0,none⟩)] w K:=by
 have c:=DE a;have g:=(Ap.1 a).1;have j:=Bd.pn;have l:=Bd.c8;have m:=S.ph;by_cases c0:x.ph=0
 ·have e:bS s i x=((dO s).1,(0,0),false):=av c0;rw[e] at k;rw[c0];exact DP (first:=[_]) (by kernel_rfl) (S3 H (by omega) Bd.now Bd.ws Bd.wn Bd.ms _ k)
 by_cases c1:x.ph=1
 ·have e:bS s i x=dB s i x:=by unfold bS;rw[ao c0,av c1]
  rw[e] at k;rw[c1];exact DP (first:=[_]) (by kernel_rfl) (Nf H Bd a f S.bw k)
 by_cases c2:x.ph=2
 ·have e:bS s i x=lx s i x:=by unfold bS;rw[ao c0,ao c1,av c2]
  rw[e] at k;rw[c2];have b:(lx s i x).2.1.1=0:=by
   unfold lx;dsimp only;split
   ·rfl
   ·split<;>rfl
  rw[b] at k;exact DP (first:=[_]) (by kernel_rfl) (S7 H a c2 (S.wk c2) (Bd.cu x c).1 (by omega) (Bd.ls x c) Bd.sz (S.ln c2) k)
 by_cases c3:x.ph=3
 ·have e:bS s i x=gi s i x:=by unfold bS;rw[ao c0,ao c1,ao c2,av c3]
  rw[e] at k;rw[c3];have b:(gi s i x).2.1.2=0/\(gi s i x).2.2=true:=by
   unfold gi;dsimp only;split<;>exact⟨rfl,rfl⟩
  rw[b.1,b.2] at k;exact DP (first:=[_]) (by kernel_rfl) (Nc H a (S.fr c3) (Bd.cu x c).1 (Bd.cu x c).2.1 (by omega) Bd.ms k)
 have c4:x.ph=4:=by omega
 have e:bS s i x=iK s x:=by unfold bS;rw[ao c0,ao c1,ao c2,ao c3]
 rw[e] at k;rw[c4];have b:(if(iK s x).2.2=true then((iK s x).2.1.1,(iK s x).2.1.2,()) else(0,0,()))=((iK s x).2.1.1,(iK s x).2.1.2,()):=by
  unfold iK;split<;>rfl
 rw[<-b] at k;exact DP (first:=[_]) (by kernel_rfl) (S4 H a (S.ak c4).1 (S.ak c4).2.1 (S.ak c4).2.2 k)
end
theorem CQ: ∀(l:List Int) (s:MS),(l.foldl ik s).cs=s.cs
 |[],s=>rfl
 |f::l,s=>by rw[Ga,CQ l];rfl
theorem JN (s:MS):(dO s).1.cs=s.cs:=by unfold dO;rw[CQ]
theorem Ng (s:MS) (i:Nat) (x:bW):(dB s i x).1.cs.length=s.cs.length:=by
 have a: ∀(s:MS) (y:bW),(cj s i y).cs.length=s.cs.length:=λs y=>Cd ..;unfold dB;split
 ·dsimp only;split<;>exact a _ _
 ·split
  ·rfl
  ·split
   ·dsimp only;rw[JN]
   ·unfold iJ;dsimp only;split
    ·split<;>exact a _ _
    ·exact a _ _
theorem Nh (s:MS) (i:Nat) (x:bW):(bS s i x).1.cs.length=s.cs.length:=by
 have a: ∀(s:MS) (y:bW),(cj s i y).cs.length=s.cs.length:=λs y=>Cd ..;unfold bS;split
 ·dsimp only;rw[JN]
 ·split
  ·exact Ng s i x
  ·split
   ·unfold lx;dsimp only;split
    ·exact a _ _
    ·split<;>exact a _ _
   ·split
    ·unfold gi;dsimp only;split<;>rfl
    ·unfold iK;split<;>rfl
section
variable {Q:Sys} {X:HX} {D G:List Nat} {w0 w w1:A2} {B:MB} {R:MR} {s:MS} {T L:List (Nat×List AC)} {M:List (Nat×B2)} {i:Nat} {x:bW} {g:Option Bool}
theorem We {b d:Nat} {l g:List AC} (H:MU Q X D G w0 w R s ((d,g)::(b,l)::T) L M) (h:l.length=2) (m:g.length=2) (j:s.cs[i]? =some x) (r:BW) {K:BW->A2->Prop}
 (k: ∀e,MU Q X D G w0 e R (if r.2.1=true then cj s i (cC x.ls) else s) T L M->K (if r.2.1=true then((r.1.1,r.1.2.1,()),true,()) else((0,0,()),false,())) e):
 Ki (some ⟨R.cb i,0,none⟩) (i:Int) b d K r w:=by
 unfold Ki;refine H.st 0 rfl rfl m.symm λe H=>ab (λc=>?_) (λc=>?_)
 ·have c:r.2.1=false:=by simpa using c
  rw[c] at k;exact MU.res (H.sub (Bs _ _)) h 0 0 false k
 ·have c:r.2.1=true:=by simpa using c
  rw[c] at k;refine⟨rfl,rfl,H.c1 j ⟨rfl,?_⟩⟩;obtain⟨a,f,u,n,hb,W,o,J⟩:=H.C9 j;rw[<-n, <-hb];refine stB (o.perm (L':=(a.cb,jE a i x)::(a.tb,db a.st s.sz)::(a.Lt++(a.Lf++(a.Lw++(((d,[ay r.1.1,aa r.1.2.1])::(b,l)::T)++f))))) (bY λy=>by simp only[af,sX,AH,AT,Ft];omega)) 0 rfl rfl rfl λp q=>?_;have t:=(q.perm (L':=a.Lf++(a.Lw++((a.cb,[aa (i:Int),ag (af a.tb),aa 0,aa 0,aa 0,ay 0,ay 0,ay 0,ag none,aa 0,ay 0,aa 0,aa 0,.slice none 0 0])::(a.tb,db a.st s.sz)::(a.Lt++(((d,[ay r.1.1,aa r.1.2.1])::(b,l)::T)++f))))) (bY λy=>by simp only[af,Ft,AH,AT];omega)).sub ((FU _ _).trans (FU _ _));have H:MU Q X D G w0 p R (cj s i (cC x.ls)) ((d,[ay r.1.1,aa r.1.2.1])::(b,l)::T) L M:=by
   refine J (a':={a with wp:=none,sf:=(none,0,0),Lf:=[],Lw:=[]}) (x':=cC x.ls) rfl rfl ⟨W.ls,du.nil eI,λc=>(by cases c)⟩ (t.perm (bY λy=>?_));show BX y ((a.cb,[aa (i:Int),ag (af a.tb),aa 0,aa 0,aa 0,ay 0,ay 0,ay 0,ag none,aa 0,ay 0,aa 0,aa 0,.slice none 0 0])::(a.tb,db a.st s.sz)::(a.Lt++([]++[]))++(((d,[ay r.1.1,aa r.1.2.1])::(b,l)::T)++f))= _;simp only[af,AH,AT,Fw];omega
  exact H.ld 0 rfl (show _=some (r.1.1,r.1.2.1,()) from rfl) (MU.res (H.sub (Bs _ _)) h _ _ true k)
theorem EQ {b:Nat} {l:List AC} (H:MU Q X D G w0 w R s ((b,l)::T) L M) (q:l.length=2) (Bd:Bn s) (a:s.cs[i]? =some x) (g:Cf Q s.h) (S:Sx s i x) {K:BW->A2->Prop}
 (k: ∀d,MU Q X D G w0 d R (iV (bS s i x) i x).1 T L M->K (((iV (bS s i x) i x).2.1.1,(iV (bS s i x) i x).2.1.2,()),(iV (bS s i x) i x).2.2,()) d):
 abE (af R.mb) (some ⟨R.cb i,0,none⟩) (i:Int) b K w:=by
 have u:=(Ap.1 a).1;have v:=Nh s i x;obtain⟨x',j⟩: ∃x',(bS s i x).1.cs[i]? =some x':=⟨_,Bx (by omega)⟩;have r:(bS s i x).1.cs.getD i x=x':=by rw[Dd,j];rfl
 unfold iV at k;rw[r] at k;have m:=S.ph;have fin: ∀{e:Nat} {o:List AC} {d:A2},o.length=2->MU Q X D G w0 d R (bS s i x).1 ((e,o)::(b,l)::T) L M->Ki (some ⟨R.cb i,0,none⟩) (i:Int) b e K (((bS s i x).2.1.1,(bS s i x).2.1.2,()),(bS s i x).2.2,()) d:=λt H=>by
  refine We H q t j _ λf H=>?_;have:=k f;dsimp only at H ⊢;by_cases c:(bS s i x).2.2=true
  ·rw[av c] at H this ⊢;exact this H
  ·rw[ao c] at H this ⊢;exact this H
 refine⟨rfl,rfl,H.cf a (n:=2) (λ_=>rfl) ⟨?_,?_⟩⟩
 ·refine zT H λd H=>⟨H.crd a (n:=2) λ_=>rfl,trivial,trivial,⟨m.1,by show x.ph<5;omega⟩,?_,?_⟩
  ·exact vq H Bd a g S λf H=>H.al λe p H=>fin rfl H
  ·exact H.al λe f H=>vq H Bd a g S λp H=>fin rfl H
 ·exact H.al λe d H=>zT H λf H=>⟨H.crd a (n:=2) λ_=>rfl,trivial,trivial,⟨m.1,by show x.ph<5;omega⟩,vq H Bd a g S λp H=>fin rfl H⟩
theorem Tc (H:MU Q X D G w0 w R s T L M) (Bd:Bn s) (hi:i<s.cs.length) (m: ∀a q,s.bx[i]? =some (a::q)->(1<=a.1/\a.1<=(s.op.length:Int))/\ -1000<=s.op.getD (a.1 - 1).toNat 0/\s.op.getD (a.1 - 1).toNat 0<=1000) {K:(Int×Int×Int×Unit)×Bool×Unit->A2->Prop}
 (kn:ye s i=none-> ∀c,MU Q X D G w0 c R s T L M->K ((0,0,0,()),false,()) c)
 (ks: ∀a s1,ye s i=some (a,s1)-> ∀c,MU Q X D G w0 c R s1 T L M->K (a,true,()) c):
 aA AB 66 (.bu [.agg [.int .i64,.int .i64,.int .i64],.one .bool]) [ag (af R.xb),aa (i:Int)] w K:=by
 obtain⟨B,rfl,H⟩:=H;obtain⟨p,r,n,J⟩:=H.bxs;have W:=H.wf;have f:=W.l;have t:=Bd.bn;have u:=Bd.op;refine Sb n W.b W.o W.l i (by omega) m (by omega) λg h c j k d e=>?_;unfold vK at d e ⊢;unfold ye at kn ks;cases hb:s.bx[i]? with
 |none=>
  rw[hb] at d e kn;exact kn rfl c ⟨{B with so:=B.so,Lo:=h,cr:=g},rfl,J (op:=s.op) (bx:=s.bx) d (by rw[j,f]) k e⟩
 |some q=>
  cases q with
  |nil=>
   rw[hb] at d e kn;exact kn rfl c ⟨{B with so:=B.so,Lo:=h,cr:=g},rfl,J (op:=s.op) (bx:=s.bx) d (by rw[j,f]) k e⟩
  |cons a q=>
   rw[hb] at d e ks;refine ks a _ rfl c ⟨{B with so:=B.so,Lo:=h,cr:=g},rfl,J (op:=s.op.set (a.1 - 1).toNat (s.op.getD (a.1 - 1).toNat 0 - 1)) (bx:=s.bx.set i q) d (by rw[j,f,Cd]) k e⟩
theorem Td (H:MU Q X D G w0 w R s T L M) (Bd:Bn s) (j:Cf Q s.h) (S: ∀i x,s.cs[i]? =some x->Sx s i x) (n:Int) {K:BW->A2->Prop}
 (k: ∀g,MU Q X D G w0 g R (bh s n).1 T L M->K (((bh s n).2.1.1,(bh s n).2.1.2,()),(bh s n).2.2,()) g):
 aA AB 31 N2 [ag (af R.mb),aa n] w K:=by
 refine H.go λw1 H=>aR (C:=U3) (aQ:=λ_=>[]) (Aq (Sm _ n w1 K) (H.al λb g H=>⟨_,DO H n,?_⟩));by_cases c:0<=n/\n<(s.cs.length:Int)
 ·obtain⟨i,rfl⟩: ∃i:Nat,n=(i:Int):=⟨n.toNat,by omega⟩;rw[av c,Cc];have l:i<s.cs.length:=by omega
  obtain⟨x,f⟩: ∃x,s.cs[i]? =some x:=⟨_,Bx l⟩;have t:=Bd.ls x (DE f);have u:=Bd.sz;have e:bh s (i:Int)=lY s i x:=by unfold bh;rw[ao (by omega),Cc,f]
  rw[e] at k;unfold lY at k;refine an rfl ⟨rfl,rfl,H.cf f (n:=2) (λ_=>rfl) (ab (λc=>?_) (λc=>?_))⟩
  ·have c3:x.ph≠3:=by simpa using c
   rw[ao c3] at k;refine⟨rfl,rfl,H.f2 (Tc H Bd l (S i x f).tk (λd m H=>?_) (λa s1 d m H=>?_))⟩
   ·rw[d] at k;exact H.al λo p H=>H.st 0 rfl rfl rfl λq H=>an rfl (EQ (H.sub (Bs _ _)) rfl Bd f j (S i x f) k)
   ·rw[d] at k;have r:s1.cs[i]? =some x:=by
     unfold ye at d;split at d
     ·cases d;exact f
     ·cases d
    have v:s1.sz=s.sz:=by
     unfold ye at d;split at d
     ·cases d;rfl
     ·cases d
    refine H.al λo p H=>H.st 0 rfl rfl rfl λq H=>aB rfl ⟨rfl,H.cA 0 rfl (show _=some a.2.1 from rfl) ⟨rfl,H.cA 0 rfl (show _=some a.2.2.1 from rfl) ?_⟩⟩;exact zR H r (by omega) (by omega) _ _ λy H=>MU.res (H.sub (Bs _ _)) rfl 0 0 false k
  ·have c3:x.ph=3:=by simpa using c
   rw[av c3] at k;exact EQ H rfl Bd f j (S i x f) k
 ·rw[ao c];have e:bh s n=(s,(0,0),false):=by
   unfold bh;by_cases h:n<0
   ·rw[av h]
   ·rw[ao h,M4 (by omega)]
  rw[e] at k;exact aB rfl (H.res rfl 0 0 false k)
end
def Fp (s:MS) (n:Int):Int:=if n<0 then 0 else match s.cs[n.toNat]? with
 |none=>0
 |some x=>x.ph
def WL (s:MS) (n:Int):List LT:=if n<0 then[] else match s.cs[n.toNat]? with
 |none=>[]
 |some x=>x.ls
def On (s:MS) (n:Int):Int:=if 0<=n/\n<(s.cs.length:Int) then((s.bx.getD n.toNat []).length:Int) else 0
section
variable {Q:Sys} {X:HX} {D G:List Nat} {w0 w w1:A2} {B:MB} {R:MR} {s:MS} {T L:List (Nat×List AC)} {M:List (Nat×B2)} {i:Nat} {x:bW} {g:Option Bool}
theorem GK {n:Int} (c: ¬ (0<=n/\n<(s.cs.length:Int))):n<0\/s.cs[n.toNat]? =none:=by
 by_cases h:n<0
 ·exact .inl h
 ·exact .inr (M4 (by omega))
theorem nO (H:MU Q X D G w0 w R s T L M) (n vm k:Int) {a b c:Int} {K:Int->A2->Prop}
 (kk: ∀g,MU Q X D G w0 g R (eM s n vm (k,a,b,c,())) T L M->K (qK s n) g):
 aA AB 29 (.el (.one (.int .i64))) [ag (af R.mb),aa n,aa vm,.agg ⟨f_ k a b c⟩] w K:=by
 refine H.go λw1 H=>ai (C:=U2) (aQ:=λ_=>[]) (Aq (VS _ n vm k a b c w1 K) (H.al λl g H=>⟨_,DO H n,λ_=>rfl,λ_=>rfl,H.f0 (an rfl ?_)⟩));by_cases hc:0<=n/\n<(s.cs.length:Int)
 ·obtain⟨i,rfl⟩: ∃i:Nat,n=(i:Int):=⟨n.toNat,by omega⟩;rw[av hc,Cc];obtain⟨x,d⟩: ∃x,s.cs[i]? =some x:=⟨_,Bx (by omega)⟩;unfold eM qK at kk;rw[ao (by omega),ao (by omega),Cc,d] at kk;dsimp only at kk;refine an rfl ⟨rfl,rfl,H.cf d (n:=2) (λ_=>rfl) (ab (λe=>?_) (λe=>?_))⟩
  ·have e:x.ph≠0:=by simpa using e
   rw[ao e,ao e] at kk;exact H.en λf H=>kk f (H.sub (Bs _ _))
  ·have c0:x.ph=0:=by simpa using e
   rw[av c0,av c0] at kk;refine H.ld 0 rfl (show _=some (k,a,b,c,()) from rfl) ⟨rfl,rfl,H.cs d {x with ph:=1} 2 rfl rfl (λ_=>rfl) (λa h=>⟨h.ls,h.fs,λc=>(by cases c)⟩) λf H=>⟨?_,rfl,rfl,?_⟩⟩
   ·have:=H.rd 0 (n:=0) (el:= .agg sCl) rfl (show _=some (k,a,b,c,()) from rfl);rw[aW] at this;exact this
   refine H.cs (fb d) {x with ph:=1,vm:=vm} 3 rfl rfl (λ_=>rfl) (λa h=>⟨h.ls,h.fs,λc=>(by cases c)⟩) λm H=>⟨?_,rfl,rfl,?_⟩
   ·have:=H.rd 0 (n:=0) (el:= .agg sCl) rfl (show _=some (k,a,b,c,()) from rfl);rw[aW] at this;exact this
   refine H.cs (fb (fb d)) {x with ph:=1,vm:=vm,c:=(k,a,b,c,())} 4 rfl rfl (λ_=>rfl) (λa h=>⟨h.ls,h.fs,λc=>(by cases c)⟩) λo H=>H.en λj H=>?_;simp only[kT] at H;exact kk j (H.sub (Bs _ _))
 ·rw[ao hc];have e:eM s n vm (k,a,b,c,())=s/\qK s n=2:=by
   unfold eM qK;rcases GK hc with h|h
   ·rw[av h,av h];exact⟨rfl,rfl⟩
   ·rw[h];constructor<;>split<;>rfl
  rw[e.1,e.2] at kk;exact aB rfl (H.en λf H=>kk f (H.sub (Bs _ _)))
theorem tV (H:MU Q X D G w0 w R s T L M) (n:Int):ae AB 49 [ag (af R.mb),aa n] w (aa (Fp s n)):=by
 refine ae.of (s:= .el (.one (.int .i64))) λw1 h1=>ai (C:=U2) (aQ:=λ_=>[]) (Aq (MH _ n w1 _) ?_);have H:=H.ext h1;refine⟨_,DO H n,?_⟩;unfold Fp;by_cases hc:0<=n/\n<(s.cs.length:Int)
 ·rw[av hc,ao (by omega)];obtain⟨x,b⟩: ∃x,s.cs[n.toNat]? =some x:=⟨_,Bx (by omega)⟩;rw[b];exact an rfl ⟨rfl,rfl,H.cf b (n:=2) (λ_=>rfl) λc a=>⟨rfl,a⟩⟩
 ·rw[ao hc];refine aB rfl λc a=>⟨?_,a⟩;rcases GK hc with h|h
  ·rw[av h]
  ·rw[h];split<;>rfl
theorem JO (H:MU Q X D G w0 w R s T L M) (o:s.bx.length=s.cs.length) (n:Int):ae AB 50 [ag (af R.mb),aa n] w (aa (On s n)):=by
 refine ae.of (s:= .el (.one (.int .i64))) λw1 h1=>ai (C:=U2) (aQ:=λ_=>[]) (Aq (Ss _ n w1 _) ?_);have H:=H.ext h1;refine⟨_,DO H n,?_⟩;unfold On;by_cases hc:0<=n/\n<(s.cs.length:Int)
 ·rw[av hc,av hc];obtain⟨i,rfl⟩: ∃i:Nat,n=(i:Int):=⟨n.toNat,by omega⟩;rw[Cc];obtain⟨q,d⟩: ∃q,s.bx[i]? =some q:=⟨_,Bx (by omega)⟩;rw[Dd,d];refine an rfl ⟨rfl,rfl,H.f2 ⟨(q.length:Int),?_,λf a=>⟨rfl,a⟩⟩⟩;obtain⟨B,rfl,e⟩:=H;obtain⟨g,p,h,J⟩:=e.bxs;have W:=e.wf;have r:=W.l;obtain⟨c,j⟩: ∃c,B.cr[i]? =some c:=⟨_,Bx (by omega)⟩;have k:=h.perm (L':=B.Lb++((B.xb,kq B.sb B.so)::(B.Lo++(T++g)))) (bY λy=>by simp only[AH,AT];omega);exact Sa k B4 W.b (λx m=>B3 _ m) j d
 ·rw[ao hc,ao hc];exact aB rfl λf a=>⟨rfl,a⟩
theorem ER (H:MU Q X D G w0 w R s T L M):ae AB 17 [ag (af R.mb)] w (ag (af X.hb)):=by
 refine ae.of (s:= .el (.one .ptr)) λw1 h1=>ai (C:=U2) (aQ:=λ_=>[]) (Aq (ML _ w1 _) ?_);exact an rfl ⟨rfl,rfl,(H.ext h1).f0 λb a=>⟨rfl,a⟩⟩
theorem Ni (H:MU Q X D G w0 w R s T L M) (p:s.ms.length<=1000000000) {K:Option AF×Nat×Nat->A2->Prop}
 (k: ∀r c b,du eMk r (s.ms.map Yc) c->MU Q X D G w0 b R s (c++T) L M->K r b):
 aA AB 41 (.el (.one .slice)) [ag (af R.mb)] w K:=by
 refine H.go λw1 H=>ai (C:=U2) (aQ:=λ_=>[]) (Aq (MJ _ w1 K) (an rfl ⟨rfl,rfl,?_⟩));obtain⟨B,rfl,a⟩:=H;refine a.ru (show _=some (B.sm.1,B.sm.2.1,B.sm.2.2) from rfl) λb f=>?_;have a:=a.ext f;obtain⟨t,u,d,g, _, _,J⟩:=a.tmp;have W:=a.wf;have h:=W.m.oI d.base (λx i=>B1 _ (g _ (Ae _ (Ae _ (Ae _ (B1 _ (B3 _ i)))))));refine Fu (Ls:=[]) d (du.nil eMk) rfl (q:=B.sm) W.m.1 h rfl rfl (by rw[BO,JW];omega) λs' e v j l n o=>k _ e n j ⟨B,rfl,?_⟩;exact J (T':=e++T) (by rw[LL];exact l.ext o)
theorem vr (H:MU Q X D G w0 w R s T L M) (g:0<s.sz/\s.sz<=64) (i: ∀y∈s.cs,(y.ls.length:Int)<=s.sz) (n:Int) {K:Option AF×Nat×Nat->A2->Prop}
 (k: ∀r b c,du jQ r (WL s n) b->MU Q X D G w0 c R s (b++T) L M->K r c):
 aA AB 51 (.el (.one .slice)) [ag (af R.mb),aa n] w K:=by
 refine H.go λw1 H=>ai (C:=U2) (aQ:=λ_=>[]) (Aq (MK _ n w1 K) ⟨_,DO H n,?_⟩);unfold WL at k;by_cases hc:0<=n/\n<(s.cs.length:Int)
 ·rw[ao (by omega)] at k;rw[av hc];obtain⟨x,d⟩: ∃x,s.cs[n.toNat]? =some x:=⟨_,Bx (by omega)⟩;rw[d] at k;have v:=i x (DE d);refine an rfl ⟨rfl,rfl,H.c1 d ?_⟩;obtain⟨a,j,l,z,hb,W,m,J⟩:=H.C9 d;have f:cw D G w0 w1 ((R.tb n.toNat,db a.st s.sz)::(a.Lt++((a.cb,jE a n.toNat x)::(a.Lf++(a.Lw++(T++j)))))) l:=m.perm (bY λy=>by rw[<-hb];simp only[sX,AH,AT];omega);refine KG f.base.again W.ls (by omega) g.1 λr b c o p q t=>k r b q o ?_;have:=J (T':=b++T) rfl rfl W (((f.join p).perm (bY λy=>by rw[<-hb];simp only[sX,AH,AT];omega)).ext t);rw[Na d] at this;exact this
 ·rw[ao hc];have e:(if n<0 then[] else match s.cs[n.toNat]? with|none=>[]|some x=>x.ls)=([]:List LT):=by
   rcases GK hc with h|h
   ·rw[av h]
   ·rw[h];split<;>rfl
  rw[e] at k;exact aB rfl λc u=>k (none,0,0) [] c (du.nil jQ) (H.ext u)
theorem wI (H:MU Q X D G w0 w R s T L M) (l:s.ep.ws.length<=1000000) {K:Option AF×Nat×Nat->A2->Prop}
 (k: ∀r a c,du eI r (mJ (s.ep.ws.map (·.1))) a->MU Q X D G w0 c R s (a++T) L M->K r c):
 aA AB 32 (.el (.one .slice)) [ag (af R.mb)] w K:=by
 refine H.go λw1 H=>ai (C:=U2) (aQ:=λ_=>[]) (Aq (Fc _ w1 K) (an rfl ⟨rfl,rfl,H.f1 ?_⟩));obtain⟨B,rfl,b⟩:=H;obtain⟨m,n,d,J⟩:=b.eps;refine R9 d b.wf.w (by omega) B4 λr o a c e f g h i j=>k r a i (by rw[<-Xn e f];exact g) ⟨_,rfl,J (T':=a++T) (ep:=s.ep) b.wf.p b.wf.w ((h.perm (bY λy=>by simp only[AH,AT];omega)).ext j)⟩
end
section
variable {Q:Sys} {X:HX} {D G:List Nat} {w0 w w1:A2} {B:MB} {R:MR} {s:MS} {T L:List (Nat×List AC)} {M:List (Nat×B2)} {i:Nat} {x:bW} {g:Option Bool}
abbrev th (B:MB) (n:Nat) (sc:Option AF×Nat×Nat) (Lc:List (Nat×List AC)) (a:CA):MB:={B with sc:=sc,Lc:=Lc,A:=λk=>if k=n then a else B.A k}
theorem iw.cps (H:iw Q X D G w0 w B s T L M): ∃j n,cw D G w0 w ((B.mb,rN X B)::(B.Lc++(T++j))) n/\
 ∀{T' sc Lc a x w'},du eP sc (yB B s.cs.length++[some ⟨a.cb,0,none⟩]) Lc->Tr a x->cw D G w0 w' ((B.mb,rN X (th B s.cs.length sc Lc a))::(Lc++(sX a s.cs.length x s.sz++(T'++j)))) n->iw Q X D G w0 w' (th B s.cs.length sc Lc a) {s with cs:=s.cs++[x]} T' L M:=by
 obtain⟨A,ca,la,h1,r,d,t⟩:=H;refine⟨(B.eb,m_ s.ep.now B.sp B.wb)::(B.xb,kq B.sb B.so)::(B.Lm++(B.Lp++(B.Lb++(B.Lo++(gS B s (AG s.cs.length)++(Fo Q X A ca la s.h++L)))))), _,t.perm (bY λa=>by simp only[AH,AT];omega),λ{T' sc Lc a x w'} u v K=>?_⟩;have g: ∀k,k<s.cs.length->(th B s.cs.length sc Lc a).A k=B.A k:=λk c=>ao (by omega);have i:(th B s.cs.length sc Lc a).A s.cs.length=a:=av rfl;have q:(s.cs++[x]).length=s.cs.length+1:=by rw[Do];rfl
 have z:yB (th B s.cs.length sc Lc a) (s.cs++[x]).length=yB B s.cs.length++[some ⟨a.cb,0,none⟩]:=by
  show(AG (s.cs++[x]).length).map _= _;rw[q,Ij,GS];congr 1
  ·exact JQ λk c=>by rw[g k (Ca.1 c)]
  ·show[some (⟨((th B s.cs.length sc Lc a).A s.cs.length).cb,0,none⟩:AF)]= _;rw[i]
 have C:gS (th B s.cs.length sc Lc a) {s with cs:=s.cs++[x]} (AG (s.cs++[x]).length)=gS B s (AG s.cs.length)++sX a s.cs.length x s.sz:=by
  unfold gS;rw[q,Ij,List.flatMap_append];congr 1
  ·refine gx λk c=>?_;have c:=Ca.1 c;show(match (s.cs++[x])[k]? with|some x=> _|none=> _)= _;rw[FV c,g k c]<;>cases s.cs[k]? <;>rfl
  ·show(match (s.cs++[x])[s.cs.length]? with|some x=>sX ((th B s.cs.length sc Lc a).A s.cs.length) s.cs.length x s.sz|none=> _)++[]= _;rw[Hb (DN _),In,i];exact Dh _
 refine⟨A,ca,la,h1,r,⟨by rw[z];exact u,d.m,d.p,d.b,d.o,d.l,d.k,d.w,λ{k y} f=>?_⟩,K.perm ?_⟩
 ·have f:(s.cs++[x])[k]? =some y:=f;by_cases c:k<s.cs.length
  ·rw[FV c] at f;rw[g k c];exact d.a f
  ·have E:=(Ap.1 f).1;have e:k=s.cs.length:=by omega
   subst e;rw[Hb (DN _),In] at f;cases f;rw[i];exact v
 ·show(T'++(((B.mb,rN X (th B s.cs.length sc Lc a))::(B.eb,m_ s.ep.now B.sp B.wb)::(B.xb,kq B.sb B.so)::(Lc++(B.Lm++(B.Lp++(B.Lb++B.Lo)))))++(gS (th B s.cs.length sc Lc a) {s with cs:=s.cs++[x]} (AG (s.cs++[x]).length)++(Fo Q X A ca la s.h++L)))).Perm _;rw[C];exact bY λa=>by simp only[AH,AT];omega
abbrev mZ (f c j:Nat) (l:Int):MS:={m0 f c l with cs:=C5 j (cC [])}
theorem xz (H:aL D G w0 w L) (f c l:Int) (hf:4<=f/\f<=4096) (hl:1<=l/\l<=64) {K:Option AF×Int×Unit->A2->Prop} (kb:c<1\/c>8-> ∀w1,aL D G w0 w1 L->K (none,1,()) w1)
 (V:1<=c->c<=8-> ∀Q X R w1,Q.c=16*f.toNat->MU Q X D G w0 w1 R (m0 f.toNat c.toNat l) [] L []->K (some ⟨R.mb,0,none⟩,0,()) w1):
 aA AB 52 (.bu [.one .ptr,.one (.int .i64)]) [aa f,aa c,aa l] w K:=by
 refine aA.go H λw1 H=>ai (C:=U2) (aQ:=wE) (Aq (VT f c l w1 K) ?_);refine VR H f (λh=>by omega) λ_ _ Q X w2 Y H=>an rfl ?_;obtain⟨A,W,S⟩:=H;have Z:yC (h0 f.toNat).s:=⟨S.pos,S.FY,S.le,S.okw⟩;obtain⟨_, _, _, _,ca,la,H⟩:=S;refine Cz H c (λhc w3 H=>aB rfl λI M=>kb hc I ?_) λc1 c8 eb wb sp Lp w3 NT H=>an rfl λI M=>?_
 ·refine(H.base.sub ?_).ext M;refine E5 _ (E5 _ (E5 _ (E5 _ (E5 _ (E5 _ (E5 _ (E5 _ (FU _ _))))))))
 obtain⟨n,rfl⟩: ∃n:Nat,c=(n:Int):=⟨c.toNat,by omega⟩;obtain⟨m,rfl⟩: ∃m:Nat,f=(m:Int):=⟨f.toNat,by omega⟩;simp only[af,Cc] at*
 have H:=(H.ext M).alloc (o:= .map ⟨[]⟩ 0) trivial;obtain⟨q,hkb⟩: ∃b,b=I.heap.size:=⟨_,rfl⟩;rw[<-hkb] at H ⊢;refine alM H λmb w5 H=>VQ H (n:Int) (λh=>by omega) λ_ _ xb cr sb Lb w6 O hsb H=>⟨trivial,trivial,?_⟩;rw[Cc] at O H;refine WC (n:=2) (H.perm (L':=(mb,[ag (af X.hb),ag (af eb),ag none,.slice none 0 0,.map (some q),.slice none 0 0])::((xb,kq sb (none,0,0))::(Lb++((eb,m_ 0 sp wb)::(Lp++Q.L ca la (h0 m).s (d_ Q X A (h0 m) (a_ Q A (h0 m).g (AG 17)++L))))))) (bY λy=>by simp only[af,AH,AT];omega)) 0 rfl rfl rfl λw7 H=>?_;have H0:iw Q X D G w0 w7 {mb:=mb,eb:=eb,xb:=xb,kb:=q,wb:=wb,sc:=(none,0,0),sm:=(none,0,0),sp:=sp,sb:=sb,so:=(none,0,0),Lc:=[],Lm:=[],Lp:=Lp,Lb:=Lb,Lo:=[],cr:=cr,ke:=[],we:=[],kk:=0,wk:=0,A:=λ_=>⟨0,0,(none,0,0),(none,0,0),none,[],[],[]⟩} (mZ m n 0 l) [] L []:=by
  refine⟨A,ca,la,W,Z,⟨du.nil eP,du.nil eMk,NT,hsb,du.nil eI,by rw[O];exact DH.symm,iz.nil,iz.nil,λ{i x} t=>?_⟩,(H.perm (bY λy=>?_)).lf (bY λy=>?_)⟩
  ·have t:(C5 0 (cC []))[i]? =some x:=t;rw[List.replicate_zero] at t;cases t
  ·show BX y ([]++((mb,[ag (af X.hb),ag (af eb),ag (af xb),.slice none 0 0,.map (some q),.slice none 0 0])::(eb,m_ 0 sp wb)::(xb,kq sb (none,0,0))::([]++([]++(Lp++(Lb++[]))))++([]++(Q.L ca la (h0 m).s (d_ Q X A (h0 m) (a_ Q A (h0 m).g (AG 17)))++L))))= _;simp only[af,Sys.L,List.set_cons_succ,Ft,AH,AT,Fw];omega
  ·show BX y ((q,Obj.map ⟨[]⟩ 0)::(wb,Obj.map ⟨[]⟩ 0)::n7 cr (C5 n [])++(dm A (h0 m).g (AG 17)++[]))= _;simp only[af,AH,AT,Fw];omega
 generalize u:({mb:=mb,eb:=eb,xb:=xb,kb:=q,wb:=wb,sc:=(none,0,0),sm:=(none,0,0),sp:=sp,sb:=sb,so:=(none,0,0),Lc:=[],Lm:=[],Lp:=Lp,Lb:=Lb,Lo:=[],cr:=cr,ke:=[],we:=[],kk:=0,wk:=0,A:=λ_=>⟨0,0,(none,0,0),(none,0,0),none,[],[],[]⟩}:MB)=B0 at H0;have u:B0.mb=mb:=by rw[<-u]
 refine⟨λk st N=> ∃(j:Nat) (B:MB),j<=n/\k=n - j/\st.1=(j:Int)/\B.mb=mb/\iw Q X D G w0 N B (mZ m n j l) [] L [],⟨n,λN h8=>⟨0,B0,FQ _,rfl,rfl,u,H0.ext h8⟩⟩,?_⟩;clear H H0 u;rintro k ⟨i, _⟩ N ⟨j,B,hj,hk',hi,rfl,HH⟩;have hi:i=(j:Int):=hi;have H:=HH;subst hi hk';dsimp only;refine ab (λc=>?_) (λc=>?_)
 ·have hj:j<n:=by have:=of_decide_eq_true c;omega
  obtain⟨r,P,v, _, _, _,J⟩:=H.tmp;refine λz E=>UD (v.ext E).base.again l (λh=>by omega) (λ_ _ tb n5 F=>an rfl ⟨trivial,trivial,?_⟩) z (Ext.refl z);have H:iw Q X D G w0 n5 B (mZ m n j l) [(tb,db (none,0,0) l)] L []:=J (T':=[(tb,db (none,0,0) l)]) ((v.ext E).join F);refine H.ru (show _=some (B.sc.1,B.sc.2.1,B.sc.2.2) from rfl) (H.al λa oJ H=>H.al λp Fk H To h13=>?_);have H:=H.ext h13;obtain⟨r,P,v,J⟩:=H.cps;have hlen:(mZ m n j l).cs.length=j:=DH;have T:=H.wf.c;rw[hlen] at J T;have F:=v.perm (L':=B.Lc++((B.mb,rN X B)::([(p,[ag (af a)]),(a,[aa (j:Int),ag (af tb),aa 0,aa 0,aa 0,ay 0,ay 0,ay 0,ag none,aa 0,ay 0,aa 0,aa 0,.slice none 0 0]),(tb,db (none,0,0) l)]++r))) GJ;have hb:bK To p (cellsOf eP (af a)):=F.base.dk _ (B1 _ (Ae _ B4));refine Fu F T rfl (ys:=[some ⟨a,0,none⟩]) rfl (rR hb) rfl rfl (by rw[BO,Dl,FC];omega) λs' d Nx fl K3=>⟨trivial,trivial,WC (n:=3) (K3.perm GJ.symm) 0 rfl rfl rfl λw15 K4 XK WE=>⟨n - (j+1),by omega,j+1,th B j s' d ⟨a,tb,(none,0,0),(none,0,0),none,[],[],[]⟩,by omega,rfl,?_,rfl,?_⟩⟩
  ·rw[ax (by omega) (by omega)];omega
  ·have K5:cw D G w0 w15 ((B.mb,rN X (th B j s' d ⟨a,tb,(none,0,0),(none,0,0),none,[],[],[]⟩))::(d++(sX ⟨a,tb,(none,0,0),(none,0,0),none,[],[],[]⟩ j (cC []) (mZ m n j l).sz++([(p,[ag (af a)])]++r)))) P:=K4.perm (bY λy=>by
    show BX y ((B.mb,rN X (th B j s' d ⟨a,tb,(none,0,0),(none,0,0),none,[],[],[]⟩))::(d++(((a,jE ⟨a,tb,(none,0,0),(none,0,0),none,[],[],[]⟩ j (cC []))::(tb,db (none,0,0) l)::([]++([]++[])))++([(p,[ag (af a)])]++r))))=BX y ((B.mb,rN X (th B j s' d ⟨a,tb,(none,0,0),(none,0,0),none,[],[],[]⟩))::(d++([(p,[ag (af a)]),(a,jE ⟨a,tb,(none,0,0),(none,0,0),none,[],[],[]⟩ j (cC [])),(tb,db (none,0,0) l)]++r)));simp only[af,AH,AT,Fw];omega)
   have U:=(J (T':=[(p,[ag (af a)])]) (x:=cC []) fl ⟨du.nil jQ,du.nil eI,λc=>(by cases c)⟩ K5).ext WE;have e:({mZ m n j l with cs:=(mZ m n j l).cs++[cC []]}:MS)=mZ m n (j+1) l:=by
    show MS.mk _ _ _ _ _ _ _ _=MS.mk _ _ _ _ _ _ _ _;rw[List.replicate_succ']
   rw[e] at U;exact U.sub (M5 _)
 ·have:j=n:=by have:=of_decide_eq_false c;omega
  subst this;exact λz E=>V c1 c8 Q X B.rt z Y ⟨B,rfl,H.ext E⟩
end
theorem Ff {ws:List Int} {p t:Int} {x:Int×Int×FT} (f:0<=x.2.1/\x.2.1<=3) (h1:(bE ws p t x).2.1= -1) (a:(bE ws p t x).2.2.2.2.2.1=0):1<=(bE ws p t x).2.2.2.1/\(bE ws p t x).2.2.2.1<=7:=by
 have b: ∀n:Nat,FA n<=7:=λn=>by unfold FA;split<;>omega
 have d: ∀{lv wt fr:Int} {ep:Bool} {er:Int} {el:Bool} {ef:Int},(xX lv wt fr ep er el ef).2.2.2.1=0->er<=7->1<=(xX lv wt fr ep er el ef).2.1/\(xX lv wt fr ep er el ef).2.1<=7:=λ{lv wt fr ep er el ef} h e=>by
  unfold xX at h ⊢;split
  ·rename_i c;rw[av c] at h;exact absurd h (show ¬ (11:Int)=0 by decide)
  ·rename_i c;rw[ao c] at h;split
   ·rename_i c2;unfold gH at c2;simp only[DB,decide_eq_true_eq] at c2;exact⟨by show 1<=er;omega,e⟩
   ·rename_i c2;rw[ao c2] at h;exact absurd h (show ¬ (7:Int)=0 by decide)
 unfold bE at h1 a ⊢;rw[ao (by omega)] at h1 a ⊢;split
 ·rename_i c;rw[av c] at a;exact absurd a (show ¬ (11:Int)=0 by decide)
 ·rename_i c;rw[ao c] at h1 a;revert h1 a;generalize (B (dC ws (dQ x.1 p x.2.1))).toNat=N;intro h1 a;unfold tookS at h1 a ⊢;split
  ·rename_i c;rw[av c] at a;exact absurd a (show ¬ (4:Int)=0 by decide)
  ·rename_i c;rw[ao c] at h1 a;split
   ·rename_i c;rw[av c] at h1;rw[DB,decide_eq_true_eq] at c;have h1:aY .i64 x.2.1 1= -1:=h1;rw[bD (by omega) (by omega)] at h1;omega
   ·rename_i c;rw[ao c] at h1 a;split
    ·rename_i c;rw[av c] at a;exact d a (b N)
    ·rename_i c;rw[ao c] at a;split
     ·rename_i c;rw[av c] at a;exact d a (b N)
     ·rename_i c;rw[ao c] at a;exact absurd a (show ¬ (11:Int)=0 by decide)
structure MG (Q:Sys) (n k:Nat) (s:MS):Prop where
 Ts:xq n s
 NH:NX Q s.h.s
 now:s.ep.now<=(k:Int)
 ms:s.ms.length<=5000*k
 op:s.op.length<=k
 vm: ∀y∈s.cs,y.vm<9223372036854775808
section
variable {Q:Sys} {n k:Nat} {s:MS} {gh:Gh} {ta:Int->Bool}
theorem PL (M:MI gh ta n s):s.ep.ws.length<=4096:=by
 have:=tS (s.ep.ws.map (·.1)) ((AG s.h.s.2.length).map λ(m:Nat)=>(m:Int)) M.wn λf a=>by
  obtain⟨e,b,rfl⟩:=B5.1 a;obtain⟨m,d,h1,c, _⟩:=M.k5 _ (M.wk e b).1;rw[h1];exact B5.2 ⟨m,Ca.2 (Ap.1 c).1,rfl⟩
 rw[BO,BO,Dl] at this;have:=M.hi.inv.le;omega
theorem MG.bn (H:MG Q n k s) (f:k<=100000):Bn s:=by
 obtain⟨gh,ta,M⟩:=H.Ts;have g:=M.nn;have h1:=M.lc;have h:=M.lb;have i:=M.lp;have a:=M.sz;have l:=H.now;have m:=H.ms;have o:=H.op;have p:=PL M;exact⟨by omega,by omega,by omega,⟨M.nw,by omega⟩,by omega,λe b=>(M.wk e b).2,by omega,by omega,λq c=>by
  obtain⟨j,d⟩:=F4 c;have:=M.box d;omega,⟨by omega,a.2⟩,M.tl,H.vm,M.ar⟩
theorem MG.rdy (H:MG Q n k s):Cf Q s.h:=by
 obtain⟨gh,ta,M⟩:=H.Ts;exact M.hi.rdy H.NH
theorem MG.sx (H:MG Q n k s) (X:k<=100000) {i:Nat} {x:bW} (v:s.cs[i]? =some x):Sx s i x:=by
 obtain⟨gh,ta,M⟩:=H.Ts;have g:=DE v;have J:=M.ar x g;have Y:=H.op;have Z:=M.hi.inv.le;refine⟨M.ph x g,λb=>?_,λb K A=>?_,λB=>?_,λo=>?_,λC=>?_,λa q w=>?_⟩
 ·obtain⟨l,w1,L, _⟩:=M.wl v b;rw[w1];omega
 ·obtain⟨D,E,sO⟩:=M.ac x g b;obtain⟨l,w1,L,N,u⟩:=M.wl v b;have z:=xO ⟨J.1.1,E⟩;have F:x.wk=(x.wk.1,(l:Int),(0,0,0,0,())):=E4 rfl (E4 w1 N);obtain⟨O,P,hr,R,wP,sL⟩:=xN M D;have sU:=Ff (x:=x.wk) (by rw[w1];omega) K A;have w:bz s.h.s O.root false (x.c.2.1 / 16)=((bE s.h.s.1 (x.c.2.1 / 16) (a9 x.c.1) x.wk).2.2.1,(bE s.h.s.1 (x.c.2.1 / 16) (a9 x.c.1) x.wk).2.2.2.1,0,()):=by
   rcases u with u|u
   ·rcases M.hi.inv.qv M.hi.nl (t:=a9 x.c.1) R z u with ⟨m, _,G,r,k3,k4⟩|⟨G,r⟩
    ·rw[<-F] at G;rw[K] at G;omega
    ·rw[<-F] at r;exact r A
   ·obtain⟨_,r⟩:=M.hi.inv.qw (t:=a9 x.c.1) z L u.1;rw[<-F,A] at r;exact absurd r (by decide)
  have S:jo s.h x.vm.toNat (x.c.2.1 / 16)=((bE s.h.s.1 (x.c.2.1 / 16) (a9 x.c.1) x.wk).2.2.1,(bE s.h.s.1 (x.c.2.1 / 16) (a9 x.c.1) x.wk).2.2.2.1,0,()):=by rw[bP P];exact w
  have T:mC s.h x.vm.toNat (x.c.2.1 / 16)=some (bE s.h.s.1 (x.c.2.1 / 16) (a9 x.c.1) x.wk).2.2.1:=by rw[rW,S];rfl
  obtain⟨m,d,rq,U,d4, _⟩:=M.hi.TQ T;have:=(Ap.1 U).1;unfold lnR;simp only[DB,decide_eq_true_eq];omega
 ·obtain⟨⟨m,d,h1,b, _⟩, _⟩:=M.rc v B;have:=(Ap.1 b).1;omega
 ·obtain⟨h1,b, _⟩:=M.wt x g o;refine⟨by omega,?_,λf I=>?_⟩
  ·have:=tS x.fs ((AG s.h.s.2.length).map λ(m:Nat)=>(m:Int)) (M.fn x g o) λf I=>by
    obtain⟨m,d,h1,b, _⟩:=M.k5 _ (M.fk x g o f I).1;rw[h1];exact B5.2 ⟨m,Ca.2 (Ap.1 b).1,rfl⟩
   rw[BO,Dl] at this;omega
  ·obtain⟨m,d,h1,b, _⟩:=M.k5 _ (M.fk x g o f I).1;omega
 ·unfold mi at C;simp only[DB,decide_eq_true_eq] at C;obtain⟨h0,D, _,E⟩:=C;have z:=xO ⟨J.1.1,E⟩;have hb:=(M_ M.hi D z).1;unfold uV at hb ⊢;simp only[N8,decide_eq_false_iff_not] at hb ⊢;refine⟨⟨hb.1.1,by omega⟩,?_⟩;unfold a9;split
  ·decide
  ·split<;>decide
 ·have h1:=M.fQ w B4;obtain⟨j,y, _,B,o,V⟩:=(M.aq w).2 a B4;have h6:=(M.wt y (DE B) o).1;have e:a.1=y.ak:=by rw[V]
  refine⟨⟨by omega,h1⟩,?_⟩;have W:=M.oc (a.1 - 1).toNat (by omega);rw[W];have h8:=List.countP_le_length (p:=λq=>jD q (((a.1 - 1).toNat:Int)+1)) (l:=s.bx);have h9:=M.lb;have Ih:=M.nn;omega
structure Cn (s s':MS):Prop where
 now:s'.ep.now<=s.ep.now+1
 ms:s'.ms.length<=s.ms.length+5000
 op:s'.op.length<=s.op.length+1
 wd:s'.h.s.1.length=s.h.s.1.length
 vm: ∀y∈s'.cs,y.vm=0\/ ∃x∈s.cs,x.vm=y.vm
theorem Cn.same (s:MS):Cn s s:=⟨by omega,by omega,by omega,rfl,λy a=> .inr ⟨y,a,rfl⟩⟩
theorem Cn.set {s':MS} (h:Cn s s') {i:Nat} {x:bW} (y:bW) (b:y.vm=0\/ ∃x∈s.cs,x.vm=y.vm):Cn s (cj s' i y):=by
 refine⟨h.now,h.ms,h.op,h.wd,λz a=>?_⟩;rcases im (show z∈s'.cs.set i y from a) with rfl|a
 ·exact b
 ·exact h.vm z a
theorem va: ∀(l:List Int) (s:MS),(l.foldl ik s).h.s.1=s.h.s.1/\(l.foldl ik s).op=s.op/\(l.foldl ik s).ep=s.ep
 |[],s=>⟨rfl,rfl,rfl⟩
 |f::l,s=>by
  rw[Ga,(va l _).1,(va l _).2.1,(va l _).2.2];refine⟨?_,rfl,rfl⟩;show(ig s.h.s f).1= _;unfold ig;split<;>rfl
theorem Cn.free (a:s.ep.ws.length<=4096):Cn s (dO s).1:=by
 have c:(oE (ft s.ep)).length<=4096:=by
  unfold oE;rw[jM,BO];refine H5 (Gd _ _) ?_;rw[u_];exact a
 unfold dO;refine⟨?_,?_,?_,?_,?_⟩
 ·rw[(va _ _).2.2];exact(PK s.ep).2
 ·rw[CO];show s.ms.length+ _<= _;omega
 ·rw[(va _ _).2.1];show s.op.length<= _;omega
 ·rw[(va _ _).1]
 ·rw[CQ];exact λy b=> .inr ⟨y,b,rfl⟩
theorem Cn.post {s':MS} (h:Cn s s') (b:s'.op=s.op) (bx:List (List AK)) (i:Nat) (t p:Int) (a:List (List AK)):Cn s {s' with bx:=a,op:=(dy bx s.op i t p).2.2}:=by
 refine⟨h.now,h.ms,?_,h.wd,h.vm⟩;show(dy bx s.op i t p).2.2.length<= _;unfold dy;split
 ·show s.op.length<= _;omega
 ·split
  ·show s.op.length<= _;omega
  ·show(s.op++[_]).length<= _;rw[Do];exact DN _
theorem Cn.call {i:Nat} {x:bW} (b:x∈s.cs):Cn s (iJ s i x).1:=by
 have h1:Cn s {s with h:=kU s.h x.vm x.c.1 x.c.2.1 x.c.2.2.1 x.c.2.2.2.1,kn:=s.kn++eV s (kU s.h x.vm x.c.1 x.c.2.1 x.c.2.2.1 x.c.2.2.2.1),ms:=s.ms++[(1,x.vm,0,x.c,xY s.h x.vm x.c.1 x.c.2.1 x.c.2.2.1 x.c.2.2.2.1,sM s.h x.vm x.c.1 x.c.2.1 x.c.2.2.1 x.c.2.2.2.1)]}:=
  ⟨by show s.ep.now<= _;omega,by show(s.ms++[_]).length<= _;rw[Do,FC];omega,by show s.op.length<= _;omega,PH ..,λy d=> .inr ⟨y,d,rfl⟩⟩
 have a: ∀y:bW,y.vm=x.vm->y.vm=0\/ ∃x∈s.cs,x.vm=y.vm:=λy e=> .inr ⟨x,b,e.symm⟩;unfold iJ;dsimp only;split
 ·split
  ·exact h1.set (x:=x) _ (a _ rfl)
  ·exact(h1.post rfl _ _ _ _ _).set (x:=x) _ (a _ rfl)
 ·exact h1.set (x:=x) _ (a _ rfl)
theorem Cn.phase (d:s.ep.ws.length<=4096) {i:Nat} {x:bW} (f:x∈s.cs):Cn s (bS s i x).1:=by
 have b: ∀y:bW,y.vm=x.vm->y.vm=0\/ ∃x∈s.cs,x.vm=y.vm:=λy e=> .inr ⟨x,f,e.symm⟩;have c: ∀e:vD,e.now=s.ep.now->Cn s {s with ep:=e}:=λe h=>⟨by show e.now<= _;omega,by show s.ms.length<= _;omega,by show s.op.length<= _;omega,rfl,λy a=> .inr ⟨y,a,rfl⟩⟩;have g:(Au s.ep i).now=s.ep.now:=by unfold Au;split<;>rfl
 unfold bS;split
 ·exact Cn.free d
 split
 ·unfold dB;split
  ·dsimp only;split<;>exact(c _ g).set (x:=x) _ (b _ rfl)
  split
  ·exact Cn.same s
  split
  ·exact Cn.free d
  ·exact Cn.call f
 split
 ·unfold lx;dsimp only;split
  ·exact(Cn.same s).set (x:=x) _ (b _ rfl)
  split
  ·exact(c (rL s.ep i) rfl).set (x:=x) _ (b _ rfl)
  ·exact(Cn.same s).set (x:=x) _ (b _ rfl)
 split
 ·unfold gi;dsimp only;split
  ·exact⟨by show s.ep.now<= _;omega,by show(s.ms++[_]).length<= _;rw[Do,FC];omega,by show s.op.length<= _;omega,cG ..,λy a=> .inr ⟨y,a,rfl⟩⟩
  ·exact⟨by show s.ep.now<= _;omega,by show(s.ms++[_]).length<= _;rw[Do,FC];omega,by show s.op.length<= _;omega,rfl,λy a=> .inr ⟨y,a,rfl⟩⟩
 ·unfold iK;split
  ·exact c _ (zj _ _).1
  ·exact Cn.same s
theorem Cn.step (g:s.ep.ws.length<=4096) (c:Int):Cn s (bh s c).1:=by
 have h: ∀{i:Nat} {x:bW},x∈s.cs->Cn s (iV (bS s i x) i x).1:=λ{i x} d=>by
  unfold iV;split
  ·exact(Cn.phase g d).set (x:=x) _ (.inl rfl)
  ·exact Cn.phase g d
 unfold bh;split
 ·exact Cn.same s
 split
 ·exact Cn.same s
 ·rename_i x k;have d:=DE k;unfold lY;split
  ·exact h d
  ·split
   ·rename_i a s1 f;unfold ye at f;split at f
    ·cases f;have l: ∀y:bW,y.vm=x.vm->y.vm=0\/ ∃x∈s.cs,x.vm=y.vm:=λy e=> .inr ⟨x,d,e.symm⟩;have h0: ∀(b:List (List AK)) (j:Nat) (v:Int),Cn s {s with bx:=b,op:=s.op.set j v}:=λb j v=>⟨by show s.ep.now<= _;omega,by show s.ms.length<= _;omega,by show(s.op.set _ _).length<= _;rw[Cd];omega,rfl,λy m=> .inr ⟨y,m,rfl⟩⟩;exact(h0 _ _ _).set (x:=x) _ (l _ rfl)
    ·cases f
   ·exact h d
theorem MG.step (H:MG Q n k s) (c:Int):MG Q n (k+1) (bh s c).1:=by
 obtain⟨gh,ta,M⟩:=H.Ts;have C:=Cn.step (PL M) c;have h1:=H.now;have d:=H.ms;have f:=H.op;have g:=C.now;have i:=C.ms;have j:=C.op;refine⟨H.Ts.step c,⟨by show(bh s c).1.h.s.1.length<= _;rw[C.wd];exact H.NH.1,by show(bh s c).1.h.s.1.length<= _;rw[C.wd];exact H.NH.2⟩,by omega,by omega,by omega,λy a=>?_⟩;rcases C.vm y a with e|⟨x,b,e⟩
 ·rw[e];decide
 ·rw[<-e];exact H.vm x b
theorem MG.mono (H:MG Q n k s) {a:Nat} (h:k<=a):MG Q n a s:=by
 have h1:=H.now;have b:=H.ms;have c:=H.op;exact⟨H.Ts,H.NH,by omega,by omega,by omega,H.vm⟩
theorem MG.ask (H:MG Q n k s) (c vm:Int) (hv:vm<9223372036854775808) {ct:CT} (hc:cL ct.2.1/\cL ct.2.2.1/\cL ct.2.2.2.1):MG Q n k (eM s c vm ct):=by
 refine⟨H.Ts.ask c vm hc,?_,?_,?_,?_,?_⟩<;>unfold eM
 ·split
  ·exact H.NH
  ·split
   ·exact H.NH
   ·split<;>exact H.NH
 ·split
  ·exact H.now
  ·split
   ·exact H.now
   ·split<;>exact H.now
 ·split
  ·exact H.ms
  ·split
   ·exact H.ms
   ·split<;>exact H.ms
 ·split
  ·exact H.op
  ·split
   ·exact H.op
   ·split<;>exact H.op
 ·split
  ·exact H.vm
  ·split
   ·exact H.vm
   ·split
    ·intro y a;rcases im (show y∈s.cs.set _ _ from a) with rfl|a
     ·exact hv
     ·exact H.vm y a
    ·exact H.vm
theorem MG.new {f:Nat} {l:Int} (a:4<=f/\f<=4096) (b:1<=n/\n<=8) (d:1<=l/\l<=64) (e:Q.c=16*f):MG Q n 0 (m0 f n l):=by
 refine⟨xq.new a b d,⟨?_,?_⟩,G1 _,DN _,DN _,λy g=>?_⟩
 ·show(C5 (16*f) (0:Int)).length<=Q.c;rw[DH,e];exact DN _
 ·show(C5 (16*f) (0:Int)).length<= _;rw[DH];omega
 ·rw[Dw g];show(0:Int)< _;decide
end
abbrev WM:List Sc:=[.int .i64,.bool,.int .i64,.int .i64,.int .u64,.int .u64,.int .u64]
noncomputable def U4:dJ AB:={U2 with quiet:=[49,50,17]++U2.quiet}
def ri:Nat->aZ:=(λ|5=>[(10,Go.RX.El.one (Go.RX.Sc.int Go.IntKind.i64))]| _=>[])
theorem Nj (f c l:Int) (w:A2) (d:Option AF×Bool×Unit->A2->Prop):(aK U4 ri 15 [aa f,aa c,aa l] w d)=(
 aA AB 52 (.bu [.one .ptr,.one (.int .i64)]) [aa f,aa c,aa l] w λ(x:Option AF×Int×Unit) a=>aI (x.2.1 != 0||x.1.isNone) (au a (d (none,false,()))) (∃(I:Nat->Int×Unit->A2->Prop),(∃n, ∀w1,Ext a w1->I n (0,()) w1)/\ ∀(n:Nat) (s:Int×Unit) (w1:A2),I n s w1->aI (decide (s.1<2)) (aA AB 29 (.el aT) [ag x.1,aa 0,aa 0,.agg ⟨[aa 1,ay 0,ay 0,ay 0]⟩] w1 λ(h:Int) a=>aI (h != 0) (au a (d (none,false,()))) (aA
 AB 31 (.bu [.agg [.int .u64,.int .i64],.one .bool]) [ag x.1,aa 0] a λ(x:(Int×Int×Unit)×Bool×Unit) a=>aN a ⟨[ay 0,aa 0]⟩ 61 λb a=>az a (af b) [ay x.1.1,aa x.1.2.1] λa=>((!!x.2.1)=true->true=true)/\aj a (some !!x.2.1) (ad (af b) 0) rD λ(i:Int)=>aI (!x.2.1||i != aF .u64 (aJ .i64 1 s.1)) (au a (d (none,false,()))) (∀e,Ext a e-> ∃(g:Nat),g<n/\I g (aJ .i64 s.1 1,()) e))) (au w1 (d (x.1,true,()))))):=by kernel_rfl
theorem Z2 (p:Option AF) (a:Int) (b:Bool) (v k x y z:Int) (w:A2) (e:Unit->A2->Prop):(aK U4 (λ_=>[]) 16 [ag p,.agg ⟨[aa a,.bool b,aa v,aa k,ay x,ay y,ay z]⟩] w e)=(
 aN w ⟨[aa a,.bool b,aa v,aa k,ay x,ay y,ay z]⟩ 33 λb c=>true=true/\s6 c (ad (af b) 1) λx=>aI x (true=true/\aU c (ad (af b) 0) λx=>true=true/\aU c (ad (af b) 2) λf=>true=true/\aj c none (ad (af b) 3) s8 λ(d:Int×Int×Int×Int×Unit)=>aA AB 29 (.el aT) [ag p,aa x,aa f,.agg ⟨[aa d.1,ay d.2.1,ay d.2.2.1,ay d.2.2.2.1]⟩] c λ(x:Int) c=>au c (e ())) (true=true/\aU c (ad (af b)
 0) λx=>aA AB 31 (.bu [.agg [.int .u64,.int .i64],.one .bool]) [ag p,aa x] c λ(x:(Int×Int×Unit)×Bool×Unit) c=>au c (e ()))):=by kernel_rfl
def rj:Nat->aZ:=(λ|1=>[(6,Go.RX.El.one (Go.RX.Sc.int Go.IntKind.i64))]|4=>[(7,Go.RX.El.one (Go.RX.Sc.int Go.IntKind.i64))]| _=>[])
theorem Nk (p:Option AF) (c r:Int) (w:A2) (f:Unit->A2->Prop):(aK U4 rj 48 [ag p,aa c,aa r] w f)=(
 ∃(I:Nat->Int×Unit->A2->Prop),(∃n, ∀w1,Ext w w1->I n (0,()) w1)/\ ∀(n:Nat) (s:Int×Unit) (w1:A2),I n s w1->aI (decide (s.1<r)) (∃(e:Nat->Int×Unit->A2->Prop),(∃n, ∀g,Ext w1 g->e n (0,()) g)/\ ∀(h:Nat) (d:Int×Unit) (w1:A2),e h d w1->aI (decide (d.1<c)) (aA AB 31 (.bu [.agg [.int .u64,.int .i64],.one .bool]) [ag p,aa d.1] w1 λ(x:(Int×Int×Unit)×Bool×Unit) i=> ∀a,Ext i a-> ∃(b:Nat),b<h/\e b (aJ .i64 d.1 1,()) a) (∀a,
 Ext w1 a-> ∃(b:Nat),b<n/\I b (aJ .i64 s.1 1,()) a)) (au w1 (f ()))):=by kernel_rfl
def rk:Nat->aZ:=(λ|10=>[(9,Go.RX.El.one (Go.RX.Sc.int Go.IntKind.i64))]| _=>[])
theorem Nl (w:A2) (f:Bool->A2->Prop):(aK U4 rk 46 [] w f)=(
 aA AB 15 (.bu [.one .ptr,.one .bool]) [aa 30,aa 2,aa 4] w λx a=>aA AB 52 (.bu [.one .ptr,.one (.int .i64)]) [aa 30,aa 9,aa 4] a λ(q:Option AF×Int×Unit) a=>aI (!x.2.1) (au a (f false)) (aA AB 29 (.el aT) [ag x.1,aa 0,aa 1,.agg ⟨[aa 3,ay 5,ay 3,ay 0]⟩] a λ(r:Int) a=>aA AB 29 (.el aT) [ag x.1,aa 0,aa 1,.agg ⟨[aa 15,ay 0,ay 0,ay 0]⟩] a λ(t:Int) a=>aA
 AB 31 (.bu [.agg [.int .u64,.int .i64],.one .bool]) [ag x.1,aa 0] a λ(k:(Int×Int×Unit)×Bool×Unit) a=>aN a ⟨[ay 0,aa 0]⟩ 61 λb a=>az a (af b) [ay k.1.1,aa k.1.2.1] λa=>aA AB 29 (.el aT) [ag x.1,aa 1,aa 1,.agg ⟨[aa 7,ay 81,ay 7,ay 0]⟩] a λ(F:Int) a=> ∃(I:Nat->Int×Unit->A2->Prop),(∃n, ∀w1,Ext a w1->I n (0,()) w1)/\ ∀(n:Nat) (s:Int×Unit) (w1:A2),I n s w1-> ∃(u:Int),(decide (s.1<9)=
 true->ae AB 49 [ag x.1,aa 1] w1 (aa u))/\aI (decide (s.1<9)&&u != 0) (aA AB 31 (.bu [.agg [.int .u64,.int .i64],.one .bool]) [ag x.1,aa 1] w1 λ(x:(Int×Int×Unit)×Bool×Unit) a=> ∀v,Ext a v-> ∃(y:Nat),y<n/\I y (aJ .i64 s.1 1,()) v) (aA AB 29 (.el aT) [ag x.1,aa 0,aa 1,.agg ⟨[aa 4,ay 5,ay 0,ay 0]⟩] w1 λ(G:Int) a=>aA AB 31 (.bu [.agg [.int .u64,.int .i64],.one .bool]) [ag x.1,aa 0] a λ(H
 :(Int×Int×Unit)×Bool×Unit) a=>aA AB 31 (.bu [.agg [.int .u64,.int .i64],.one .bool]) [ag x.1,aa 0] a λ(l:(Int×Int×Unit)×Bool×Unit) a=>aN a ⟨[ay 0,aa 0]⟩ 61 λD a=>az a (af D) [ay l.1.1,aa l.1.2.1] λa=> ∃(z:Int),ae AB 50 [ag x.1,aa 1] a (aa z)/\aA AB 51 (.el ff) [ag x.1,aa 1] a λE a=>aA AB 31 (.bu [.agg [.int .u64,.int .i64],.one .bool]) [ag x.1,aa 1] a λ(J:(Int×Int×Unit)
 ×Bool×Unit) a=>aA AB 31 (.bu [.agg [.int .u64,.int .i64],.one .bool]) [ag x.1,aa 0] a λ(h:(Int×Int×Unit)×Bool×Unit) a=>aN a ⟨[ay 0,aa 0]⟩ 61 λm a=>az a (af m) [ay h.1.1,aa h.1.2.1] λa=>aA AB 32 (.el ff) [ag x.1] a λo a=>aA AB 41 (.el ff) [ag x.1] a λd a=>aA AB 48 (.bu []) [ag x.1,aa 2,aa 3] a λK a=>aj a (some (q.2.1==1&&r==0&&t==9)) (af b) cF λ(A:Int×Int×Unit)=>
 aI (q.2.1==1&&r==0&&t==9&&(A.1==2&&(A.2.1==0&&true))&&k.2.1&&s.1==6&& !l.2.1&&z==1&&(↑E.2.1:Int)==1) (aA AB 51 (.el ff) [ag x.1,aa 1] a λi a=>aj a (some ((↑i.2.1:Int)==0)) (af m) cF λ(e:Int×Int×Unit)=>(((↑i.2.1:Int)==0&&(e.1==2&&(e.2.1==0&&true))&&h.2.1&&(↑o.2.1:Int)==4&&(↑d.2.1:Int)==5)=true->d.1.isSome=true/\(0:Int)<=3/\3<(↑d.2.1:Int))/\aj a (some ((↑i.2.1:Int)==0&&(e.1==2&&(e.2.1==
 0&&true))&&h.2.1&&(↑o.2.1:Int)==4&&(↑d.2.1:Int)==5)) (ad d.1 27) Yz λ(c:Int×Int×Int×Int×Int×Int×Int×Int×Int×Unit)=>aI ((↑i.2.1:Int)==0&&(e.1==2&&(e.2.1==0&&true))&&h.2.1&&(↑o.2.1:Int)==4&&(↑d.2.1:Int)==5&&(c.1==4&&(c.2.1==0&&(c.2.2.1==33&&(c.2.2.2.1==0&&(c.2.2.2.2.1==0&&(c.2.2.2.2.2.1==0&&(c.2.2.2.2.2.2.1==0&&true)))&&(c.2.2.2.2.2.2.2.1==7&&(c.2.2.2.2.2.2.2.2.1==0&&true)&&true)))))) (aA AB 32 (.el ff)
 [ag x.1] a λg a=> ∃(j:Option AF),(((↑g.2.1:Int)==0)=true->ae AB 17 [ag x.1] a (ag j))/\aI ((↑g.2.1:Int)==0) (aA AB 18 (.el kW) [ag j] a λp a=>aA AB 30 (.el aT) [ag p,aa 5] a λ(B:Int) a=> ∃(C:Int),((B==0)=true->ae AB 49 [ag x.1,aa 2] a (aa C))/\au a (f (B==0&&C==0))) (∃(p:Int),(false=true->ae AB 49 [ag x.1,aa 2] a (aa p))/\au a (f false))) (∃
 (g:Option AF),(false=true->ae AB 17 [ag x.1] a (ag g))/\ ∃(j:Int),(false=true->ae AB 49 [ag x.1,aa 2] a (aa j))/\au a (f false))) (aj a (some false) (af m) cF λ(i:Int×Int×Unit)=>(false=true->d.1.isSome=true/\(0:Int)<=3/\3<(↑d.2.1:Int))/\aj a (some false) (ad d.1 27) Yz λ(e:Int×Int×Int×Int×Int×Int×Int×Int×Int×Unit)=> ∃(c:Option AF),(false=true->ae AB 17 [ag x.1] a (ag c))/\ ∃(g:Int),
 (false=true->ae AB 49 [ag x.1,aa 2] a (aa g))/\au a (f false))))):=by kernel_rfl
def kA:MS:=eM (F6 30 2 4) 0 1 (3,5,3,0,())
def kB:MS:=(bh kA 0).1
def kC:MS:=eM kB 1 1 (7,81,7,0,())
def kD (j:Nat):MS:=j.rec kC λ_ s=>(bh s 1).1
def kE:MS:=eM (kD 6) 0 1 (4,5,0,0,())
def kF:MS:=(bh kE 0).1
def kG:MS:=(bh kF 0).1
def kH:MS:=(bh kG 1).1
def kI':MS:=(bh kH 0).1
def kJ:MS:=F5 2 3 kI'
def aaG:Bool:=qK (F6 30 2 4) 0==0&&(qK kA 0==9&&((bh kA 0).2==((2,0),true)&&(Fp kC 1 != 0&&(Fp (kD 1) 1 != 0&&(Fp (kD 2) 1 != 0&&(Fp (kD 3) 1 != 0&&(Fp (kD 4) 1 != 0&&(Fp (kD 5) 1 != 0&&Fp (kD 6) 1==0))))))))
theorem Wf:aaG=true:=by decide+kernel
def aaH:Bool:=(bh kF 0).2.2==false&&(On kG 1==1&&((WL kG 1).length==1&&((bh kH 0).2==((2,0),true)&&(kI'.ep.ws.length==4&&(kI'.ms.length==5&&(kI'.ms[3]? ==some (4,0,33,(0,0,0,0,()),7,0)&&(WL kJ 1==[]&&(kJ.ep.ws==[]&&(cq kJ.h.s.2 5==0&&Fp kJ 2==0)))))))))
theorem Wg:aaH=true:=by decide+kernel
abbrev OpT:Type:=Int×Bool×Int×Int×Int×Int×Int×Unit
def opM (s:MS) (o:OpT):MS:=if o.2.1=true then eM s o.1 o.2.2.1 (o.2.2.2.1,o.2.2.2.2.1,o.2.2.2.2.2.1,o.2.2.2.2.2.2.1,()) else(bh s o.1).1
def aaI (o:OpT):Prop:=o.2.2.1<9223372036854775808/\cL o.2.2.2.2.1/\cL o.2.2.2.2.2.1/\cL o.2.2.2.2.2.2.1
section
variable {Q:Sys} {X:HX} {D G:List Nat} {w0 w w1:A2} {R:MR} {s:MS} {T L:List (Nat×List AC)} {M:List (Nat×B2)} {n k:Nat}
theorem MG.op' (H:MG Q n k s) {o:OpT} (a:aaI o):MG Q n (k+1) (opM s o):=by
 unfold opM;split
 ·exact(H.ask _ _ a.1 a.2).mono (by omega)
 ·exact H.step _
theorem MU.dk (H:MU Q X D G w0 w R s T L M) {x:Nat×List AC} (a:x∈T):bK w x.1 x.2:=by
 obtain⟨L0,K,h⟩:=H.base;exact K.dk _ (h x a)
theorem kK (H:MU Q X D G w0 w R s T L M) (a:MG Q n k s) (b:k<=100000) (c:Int) {K:BW->A2->Prop}
 (kk: ∀d,MU Q X D G w0 d R (bh s c).1 T L M->K (((bh s c).2.1.1,(bh s c).2.1.2,()),(bh s c).2.2,()) d):
 aA AB 31 N2 [ag (af R.mb),aa c] w K:=
 Td H (a.bn b) a.rdy (λ_ _ e=>a.sx b e) c kk
theorem abF {f n:Nat} {l:Int} {j:Nat} {s:MS} (B:Bg f n l j s) (a:j<16) (b:j<f) (c:1<=n):(bh (eM s 0 0 z9) 0).2=((((j+1:Nat):Int),0),true)/\Bg f n l (j+1) (bh (eM s 0 0 z9) 0).1/\qK s 0=0:=B.Kg a b c
theorem vt (H:aL D G w0 w L) (f c:Nat) (l:Int) (p:20<=f/\f<=4096) (hc:1<=c/\c<=8) (a:1<=l/\l<=64) {K:Option AF×Bool×Unit->A2->Prop}
 (q: ∀Q X R w1,MU Q X D G w0 w1 R (F6 f c l) [] L []->MG Q c 2 (F6 f c l)->K (some ⟨R.mb,0,none⟩,true,()) w1):
 aA AB 15 (.bu [.one .ptr,.one .bool]) [aa (f:Int),aa (c:Int),aa l] w K:=by
 refine aA.go H λw1 H=>ai (C:=U4) (aQ:=ri) (Aq (Nj _ _ l w1 K) ?_);refine xz H _ _ l (by omega) a (λh=>by omega) λ_ _ Q X R F g H=>an rfl ?_;rw[Cc,Cc] at H;rw[Cc] at g;have hb:F6 f c l=(bh (eM (bh (eM (m0 f c l) 0 0 z9) 0).1 0 0 z9) 0).1:=rfl;refine⟨λn st d=> ∃(j:Nat) (s:MS),j<=2/\n=2 - j/\st.1=(j:Int)/\Bg f c l j s/\(j=0->s=m0 f c l)/\(j=1->s=(bh (eM (m0 f c l) 0 0 z9) 0).1)/\(j=2->s=F6 f c l)/\MG Q c j s/\MU Q X D G w0 d R s [] L [],⟨2,λd r=>⟨0,m0 f c l,by omega,rfl,rfl,Bg.new p hc a,λ_=>rfl,λh=>(by cases h),λh=>(by cases h),MG.new (by omega) hc a g,H.ext r⟩⟩,?_⟩;clear H;rintro n ⟨t, _⟩ d ⟨j,s,I,u,hi,v,x,y,i,k,H⟩;have hi:t=(j:Int):=hi;subst hi u;dsimp only;refine ab (λe=>?_) (λe=>?_)
 ·have J:j<2:=by have:=of_decide_eq_true e;omega
  obtain⟨z,A,B⟩:=abF v (by omega) (by omega) hc.1;have m:MG Q c j (eM s 0 0 z9):=k.ask 0 0 (by decide) ⟨⟨by decide,by decide⟩,⟨by decide,by decide⟩,⟨by decide,by decide⟩⟩;refine nO H 0 0 1 λo H=>?_;rw[B];refine an rfl (kK H m (by omega) 0 λM H=>?_);rw[z];refine H.al λb N H=>H.st 0 rfl rfl rfl λO H=>⟨λ_=>rfl,H.cA 0 rfl (show _=some ((j+1:Nat):Int) from rfl) (an ?_ λP E=>⟨2 - (j+1),by omega,j+1,(bh (eM s 0 0 z9) 0).1,by omega,rfl,?_,A,λh=>(by omega),λh=>?_,λh=>?_,m.step 0,(MU.sub H (M5 _)).ext E⟩)⟩
  ·have:j=0\/j=1:=by omega
   rcases this with rfl|rfl<;>decide
  ·rw[ax (by omega) (by omega)];omega
  ·rw[x (by omega)]
  ·rw[hb,y (by omega)]
 ·have:j=2:=by have:=of_decide_eq_false e;omega
  subst this;refine H.en λo H=>q Q X R o (by rw[<-i rfl];exact H) (by rw[<-i rfl];exact k)
theorem PM (H:MU Q X D G w0 w R s T L M) (f:MG Q n k s) (g:k<=100000) (o:OpT) {K:Unit->A2->Prop} (kk: ∀d,MU Q X D G w0 d R (opM s o) T L M->K () d):
 aA AB 16 (.bu []) [ag (af R.mb),.agg ⟨[aa o.1,.bool o.2.1,aa o.2.2.1,aa o.2.2.2.1,ay o.2.2.2.2.1,ay o.2.2.2.2.2.1,ay o.2.2.2.2.2.2.1]⟩] w K:=by
 obtain⟨a,b,v,q,x,y,z,⟨⟩⟩:=o;refine H.go λw1 H=>ai (C:=U4) (aQ:=λ_=>[]) (Aq (Z2 _ a b v q x y z w1 K) (H.al λi d H=>⟨rfl,H.cA 0 rfl (show _=some b from rfl) ?_⟩));unfold opM at kk;dsimp only at kk;refine ab (λc=>?_) (λc=>?_)
 ·rw[av c] at kk;refine⟨rfl,H.cA 0 rfl (show _=some a from rfl) ⟨rfl,H.cA 0 rfl (show _=some v from rfl) ⟨rfl,H.cA 0 rfl (show _=some (q,x,y,z,()) from rfl) (nO H a v q λh H=>H.en λe H=>kk e (H.sub (Bs _ _)))⟩⟩⟩
 ·rw[ao (by rw[c];decide)] at kk;exact⟨rfl,H.cA 0 rfl (show _=some a from rfl) (kK H f g a λh H=>H.en λe H=>kk e (H.sub (Bs _ _)))⟩
theorem MG.run: ∀(l:List Nat) {k:Nat} {s:MS},MG Q n k s->MG Q n (k+l.length) (Kh s l)
 |[], _, _,h=>h
 |c::l,k,s,h=>by
  have:=MG.run l (h.step (c:Int));rw[JU,show k+(l.length+1)=k+1+l.length by omega];exact this
theorem MG.rnd (H:MG Q n k s) (m:Nat): ∀r,MG Q n (k+r*m) (F5 m r s)
 |0=>by rw[Nat.zero_mul];exact H
 |r+1=>by
  have:=MG.run (AG m) (MG.rnd H m r);rw[Dl] at this;rw[Nat.succ_mul, <-Nat.add_assoc];exact this
theorem Te {m j:Nat} (s:MS) (h:j<m):Kh s ((AG m).take (j+1))=(bh (Kh s ((AG m).take j)) (j:Int)).1:=by
 unfold Kh;rw[IE,I1 h,IR];rfl
theorem Nn (H:MU Q X D G w0 w R s T L M) (o:MG Q n k s) (m r:Nat) (B:k+r*m<=100000) (E:m<=1000) (F:r<=1000) {K:Unit->A2->Prop} (kk: ∀a,MU Q X D G w0 a R (F5 m r s) T L M->K () a):
 aA AB 48 (.bu []) [ag (af R.mb),aa (m:Int),aa (r:Int)] w K:=by
 refine H.go λw1 H=>ai (C:=U4) (aQ:=rj) (Aq (Nk _ _ _ w1 K) ?_);refine⟨λg st a=> ∃j:Nat,j<=r/\g=r - j/\st.1=(j:Int)/\MU Q X D G w0 a R (F5 m j s) T L M,⟨r,λa p=>⟨0,FQ _,rfl,rfl,H.ext p⟩⟩,?_⟩;clear H;rintro g ⟨d, _⟩ a ⟨j,q,t,hi,H⟩;have hi:d=(j:Int):=hi;subst hi t;dsimp only;refine ab (λc=>?_) (λc=>?_)
 ·have q:j<r:=by have:=of_decide_eq_true c;omega
  have u:=o.rnd m j;have I:j*m+m<=r*m:=by
   have:=Nat.mul_le_mul_right m (show j+1<=r by omega);rw[Nat.succ_mul] at this;exact this
  refine⟨λh st b=> ∃i:Nat,i<=m/\h=m - i/\st.1=(i:Int)/\MU Q X D G w0 b R (Kh (F5 m j s) ((AG m).take i)) T L M,⟨m,λb v=>⟨0,FQ _,rfl,rfl,H.ext v⟩⟩,?_⟩;clear H;rintro h ⟨d, _⟩ b ⟨i,J,x,f,H⟩;have f:d=(i:Int):=f;subst f x;dsimp only;refine ab (λc=>?_) (λc=>?_)
  ·have hi:i<m:=by have:=of_decide_eq_true c;omega
   have l:=MG.run ((AG m).take i) u;rw[K1,Dl] at l;refine kK H l (by omega) (i:Int) λy H N z=>⟨m - (i+1),by omega,i+1,by omega,rfl,?_,?_⟩
   ·rw[ax (by omega) (by omega)];omega
   ·rw[Te _ hi];exact H.ext z
  ·have:i=m:=by have:=of_decide_eq_false c;omega
   subst this;refine λy A=>⟨r - (j+1),by omega,j+1,by omega,rfl,?_,?_⟩
   ·rw[ax (by omega) (by omega)];omega
   ·have e:(AG i).take i=AG i:=List.take_of_length_le (by rw[Dl];exact DN _);rw[e] at H;exact H.ext A
 ·have:j=r:=by have:=of_decide_eq_false c;omega
  subst this;exact H.en λb H=>kk b H
theorem zU (H:MU Q X D G w0 w R s T L M) {K:Option AF->A2->Prop} (k: ∀bp bf c rest a,MU Q X D G w0 a R s ((bp,[.slice (af bf) s.h.s.2.length c])::(bf,flat eD s.h.s.2++rest)::T) L M->K (af bp) a):
 aA AB 18 (.el (.one .ptr)) [ag (af X.hb)] w K:=by
 obtain⟨A,i,L0,S,b, _,J⟩:=H.sat;exact zI S b λd e f g a S=>k d e f g a (J (T':=[_, _]) S)
theorem No (H:MU Q X D G w0 w R s T L M) {bp bf c:Nat} {ds:List DT} {rest:List AC} (h1:(bp,[.slice (af bf) ds.length c])∈T) (b:(bf,flat eD ds++rest)∈T) (v:Int) (d:ds.length<=4096) {K:Int->A2->Prop} (k: ∀a,MU Q X D G w0 a R s T L M->K (cq ds v:Int) a):
 aA AB 30 (.el (.one (.int .i64))) [ag (af bp),aa v] w K:=by
 refine H.go λw1 H=>(Ei (H.dk h1) (H.dk b) rfl d v).mono λx a ⟨e,h⟩=>?_;subst e;exact k a (H.ext h)
theorem abG (H:MU Q X D G w0 w R s T L M) {bp bf c:Nat} {ds:List DT} {rest:List AC} (h1:(bp,[.slice (af bf) ds.length c])∈T) (a:(bf,flat eD ds++rest)∈T) (f:Int):ae AB 25 [ag (af bp),aa f] w ((Sh.bu [eD,.one .bool]).gK (oH ds f,xk ds f,())):=
 ae.of λw' h'=>Gn ((H.dk h1).ext h') ((H.dk a).ext h') f
end
section
variable {Q:Sys} {X:HX} {D G:List Nat} {w0 w w1:A2} {R:MR} {s:MS} {T L:List (Nat×List AC)} {M:List (Nat×B2)} {n k:Nat}
theorem MU.ldm (H:MU Q X D G w0 w R s T L M) {g:Option Bool} {el:El} {K:el.T->Prop} {b o:Nat} {l:List AC} {x:el.T} (a:(b,l)∈T) (hv:kx l o el=some x) (k:K x):aj w g (some ⟨b,o,none⟩) el K:=by
 obtain⟨i,hi⟩:=F4 a;exact H.ld i hi hv k
theorem MU.sl (H:MU Q X D G w0 w R s T L M) {e:El} {r:Option AF×Nat×Nat} {xs:List e.T} {a:List (Nat×List AC)} (b:du e r xs a) (c: ∀x∈a,x∈T) {i:Nat} {x:e.T} (d:xs[i]? =some x):r.1.isSome=true/\cI w (ad r.1 (i*aD e)) e x:=by
 obtain⟨L0,K,h⟩:=H.base;exact b.sl K (λy f=>h y (c y f)) i x d
theorem Tf {f c l:Int} (d:4<=f/\f<=4096) (e:1<=l/\l<=64) (hc:c<1\/c>8) {K:Option AF×Int×Unit->A2->Prop} (k: ∀w1,Ext w w1->K (none,1,()) w1):
 aA AB 52 (.bu [.one .ptr,.one (.int .i64)]) [aa f,aa c,aa l] w K:=λw1 h1=>
 xz (At.start [] w1) f c l d e (λ_ g H=>k g (Ext.trans h1 H.all)) (λa b=>by omega) w1 (Ext.refl w1)
theorem Wh: ∃(c sA e f:MS) (sD:Nat->MS) (g sF sG d a b:MS),c=F6 30 2 4/\(sA=eM c 0 1 (3,5,3,0,())/\e=(bh sA 0).1/\f=eM e 1 1 (7,81,7,0,())/\sD 0=f/\(∀j,sD (j+1)=(bh (sD j) 1).1)/\g=eM (sD 6) 0 1 (4,5,0,0,())/\sF=(bh g 0).1/\sG=(bh sF 0).1/\d=(bh sG 1).1/\a=(bh d 0).1/\b=F5 2 3 a)/\
 (qK c 0=0/\qK sA 0=9/\(bh sA 0).2=((2,0),true)/\(∀j,j<6->Fp (sD j) 1≠0)/\Fp (sD 6) 1=0)/\
 ((bh sF 0).2.2=false/\On sG 1=1/\(WL sG 1).length=1/\(bh d 0).2=((2,0),true)/\a.ep.ws.length=4/\a.ms.length=5/\a.ms[3]? =some (4,0,33,(0,0,0,0,()),7,0)/\WL b 1=[]/\b.ep.ws=[]/\cq b.h.s.2 5=0/\Fp b 2=0):=by
 have t1:=Wf;unfold aaG at t1;simp only[DB,beq_iff_eq,bne_iff_ne,ne_eq] at t1;obtain⟨a1,i,k,l,p1,p2,p3,p4,m,n⟩:=t1;have t2:=Wg;unfold aaH at t2;simp only[DB,beq_iff_eq] at t2;refine⟨_,kA,kB,kC,kD,kE,kF,kG,kH,kI',kJ,rfl,⟨rfl,rfl,rfl,rfl,λ_=>rfl,rfl,rfl,rfl,rfl,rfl,rfl⟩,⟨a1,i,k,λj o=>?_,n⟩,t2⟩;have:j=0\/j=1\/j=2\/j=3\/j=4\/j=5:=by omega
 rcases this with rfl|rfl|rfl|rfl|rfl|rfl
 ·exact l
 ·exact p1
 ·exact p2
 ·exact p3
 ·exact p4
 ·exact m
theorem Tg {s:MS} {c:Int} (h0: ¬ c<0) (h:qK s c≠0) (vm:Int) (ct:CT):eM s c vm ct=s:=by
 unfold eM;unfold qK at h;rw[ao h0] at h ⊢;cases a:s.cs[c.toNat]? with
 |none=>rfl
 |some x=>
  rw[a] at h;dsimp only at h ⊢;rw[ao λc=>h (av c)]
theorem Np (w:A2):aC AB 46 (.el (.one .bool)) [] w (λb w'=>b=true/\Ext w w'):=by
 obtain⟨s0,sA,P,S,sD,T,sF,sG,U,V,W,h0,⟨o,p,q,r,s,t,u,v,y,z,A⟩,⟨a1,B,Y,Z,p6⟩,c1,c2,c3,c4,c5,c6,c7,c8,c9,Yb,c11⟩:=Wh;have d: ∀{a:Int},decide (0<=a/\a<18446744073709551616)=true->cL a:=λh=>of_decide_eq_true h;refine ai (C:=U4) (aQ:=rk) (Aq (Nl w _) ?_);refine vt (At.start [] w) 30 2 4 (by omega) (by omega) (by omega) λQ X R w1 H D=>Tf (by omega) (by omega) (by omega) λw2 h2=>?_;have H:=H.ext h2;rw[<-h0] at H D;clear h0;refine an rfl ?_;have GA:MG Q 2 2 sA:=by rw[o];exact D.ask 0 1 (by decide) ⟨d rfl,d rfl,d rfl⟩
 have GB:MG Q 2 3 P:=by rw[p];exact GA.step 0
 have GC:MG Q 2 3 S:=by rw[q];exact GB.ask 1 1 (by decide) ⟨d rfl,d rfl,d rfl⟩
 have E: ∀j:Nat,MG Q 2 (3+j) (sD j):=λj=>by
  induction j with
  |zero=>rw[r];exact GC
  |succ j ih=>rw[s];exact ih.step 1
 have GE:MG Q 2 9 T:=by rw[t];exact(E 6).ask 0 1 (by decide) ⟨d rfl,d rfl,d rfl⟩
 have F:MG Q 2 10 sF:=by rw[u];exact GE.step 0
 have f:MG Q 2 11 sG:=by rw[v];exact F.step 0
 have G:MG Q 2 12 U:=by rw[y];exact f.step 1
 have g:MG Q 2 13 V:=by rw[z];exact G.step 0
 have k:MG Q 2 19 W:=by rw[A];exact g.rnd 2 3
 refine nO H 0 1 3 λw3 H=>?_;rw[a1];rw[<-o] at H;refine nO H 0 1 15 λw4 H=>?_;rw[B];rw[Tg (by decide) (by rw[B];decide)] at H;refine kK H GA (by decide) 0 λw5 H=>?_;rw[Y];rw[<-p] at H;refine H.al λb w6 H=>H.st 0 rfl rfl rfl λw7 H=>nO H 1 1 7 λw8 H=>?_;rw[<-q, <-r] at H;refine⟨λn st l=> ∃j:Nat,j<=6/\n=6 - j/\st.1=(j:Int)/\MU Q X [] [] w l R (sD j) [(b,[ay 2,aa 0])] [] [],⟨6,λl h9=>⟨0,by omega,rfl,rfl,H.ext h9⟩⟩,?_⟩;clear H;rintro n ⟨ii, _⟩ l ⟨j,hj,qy,hi,H⟩;have hi:ii=(j:Int):=hi;subst hi qy;dsimp only;refine⟨_,λ_=>tV H 1,ab (λc=>?_) (λc=>?_)⟩
 ·have hj6:j<6:=by
   by_cases e:j=6
   ·subst e;rw[p6] at c;simp at c
   ·omega
  refine kK H (E j) (by omega) 1 λn5 H oJ Ie=>⟨6 - (j+1),by omega,j+1,by omega,rfl,?_,?_⟩
  ·rw[ax (by omega) (by omega)];omega
  ·rw[s];exact H.ext Ie
 ·have:j=6:=by
   by_cases e:j=6
   ·exact e
   ·have h6:=Z j (by omega);have:(decide ((j:Int)<9)&&Fp (sD j) 1 != 0)=true:=by
     rw[DB,decide_eq_true_eq,bne_iff_ne];exact⟨by omega,h6⟩
    rw[this] at c;cases c
  subst this;refine nO H 0 1 4 λn5 H=>?_;rw[<-t] at H;refine kK H GE (by decide) 0 λoJ H=>?_;rw[<-u] at H;refine kK H F (by decide) 0 λFk H=>?_;rw[<-v] at H;refine H.al λI To H=>H.st 0 rfl rfl rfl λNx H=>⟨_,JO H (f.bn (by decide)).bn 1,?_⟩;rw[c2];refine vr H (f.bn (by decide)).sz (f.bn (by decide)).ls 1 λr11 J w15 acr H=>?_;have e11:r11.2.1=1:=by rw[acr.1,c3]
  refine kK H f (by decide) 1 λXK H=>?_;rw[<-y] at H;refine kK H G (by decide) 0 λw17 H=>?_;rw[c4];rw[<-z] at H;refine H.al λm w18 H=>H.st 0 rfl rfl rfl λw19 H=>wI H (g.bn (by decide)).ws λr14 K w20 acs H=>?_;have e14:r14.2.1=4:=by rw[acs.1,jM,BO,c5]
  refine Ni H (by rw[c6];decide) λr15 L w21 M H=>?_;have N:r15.2.1=5:=by rw[M.1,BO,c6]
  refine Nn H g 2 3 (by decide) (by decide) (by decide) λw22 H=>?_;rw[<-A] at H;have C7:(m,[ay 2,aa 0])∈L++(K++((m,[ay 2,aa 0])::(J++[(I,[ay (bh sF 0).2.1.1,aa (bh sF 0).2.1.2]),(b,[ay 2,aa 0])]))):=by simp
  have hb:(b,[ay 2,aa 0])∈L++(K++((m,[ay 2,aa 0])::(J++[(I,[ay (bh sF 0).2.1.1,aa (bh sF 0).2.1.2]),(b,[ay 2,aa 0])]))):=by simp
  refine H.ldm (x:=(2,0,())) hb rfl (aB ?_ ?_)
  ·dsimp only;rw[c1,e11];decide
  refine vr H (k.bn (by decide)).sz (k.bn (by decide)).ls 1 λr18 L18 w23 acu H=>?_;have e18:r18.2.1=0:=by rw[acu.1,c8];rfl
  refine H.ldm (x:=(2,0,())) (B1 _ C7) rfl ?_;have O:=H.sl M (λx hx=>B1 _ (B3 _ hx)) (i:=3) (x:=Yc (4,0,33,(0,0,0,0,()),7,0)) (by rw[Hr,c7];rfl);refine⟨λ_=>⟨O.1,by decide,by rw[N];decide⟩,aj.of _ O.2 (aB ?_ ?_)⟩
  ·dsimp only;rw[e18,e14,N];decide
  refine wI H (k.bn (by decide)).ws λr21 L21 w24 acv H=>⟨_,λ_=>ER H,?_⟩;have e21:r21.2.1=0:=by rw[acv.1,jM,BO,c9];rfl
  refine aB (by rw[e21];rfl) (zU H λbp bf c rest w25 H=>No H B4 (Ae _ B4) 5 H.sys.2.2.1 λw26 H=>⟨_,λ_=>tV H 2,H.en λw27 H=>⟨?_,H.all⟩⟩);rw[Yb,c11];rfl
end
end Go.Proofs.YtlcenllcmeebhaaGreat.Mu
