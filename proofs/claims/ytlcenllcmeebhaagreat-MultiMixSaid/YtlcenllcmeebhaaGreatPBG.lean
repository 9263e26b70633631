import Derived.Test.YtlcenllcmeebhaaGreatPBF
/-! What the statement leans on: texts joined and shortened by a program of mine. -/
set_option linter.unusedVariables false
set_option linter.unusedSimpArgs false
open Go renaming World->A1,Value->AC,Addr->AM,Obj->B3,MapEntry->Do
open Go.Proofs.Tryz renaming prog->A2
open List renaming range->AL,count_append->AP,count_cons->AY,getElem?_eq_some_iff->Am,mem_cons_of_mem->Ap,getD_eq_getElem?_getD->Ar,mem_cons_self->Az,mem_append_right->B1,mem_append_left->B4,mem_map->B5,getElem?_eq_getElem->Be,mem_range->Bx,count->CB,getElem?_set_self->CF,replicate->Cf,sublist_cons_self->Cp,length_set->DA,mem_singleton->DB,mem_of_getElem?->DD,length_map->DF,getElem?_of_mem->DL,append_nil->DZ,set_set->Dn,mem_cons->Du,getElem?_set_ne->E4,eq_of_mem_replicate->E5,length_replicate->Ea,length_range->Ee,sublist_append_right->F5,length_append->FI,getElem?_append_left->FK,any_eq_true->FS,set_cons_zero->FU,count_nil->FX,contains_iff_mem->FY,any_eq_false->GG,nodup_cons->GH,eq_nil_iff_forall_not_mem->GI,getElem?_replicate->GJ,getD->GS,perm_middle->Ga,map_append->Gd,foldl_cons->Gi,mem_append->Gr,getElem?_append_right->Gz,countP_pos_iff->H4,getElem?_map->H5,length_cons->H6,mem_filter->H7,mem_flatMap->HB,pairwise_cons->Hb,length_filter_le->Hq,length_singleton->Hr,range_succ->I1,mem_of_find?_eq_some->IG,nodup_nil->IJ,ext_getElem?->IN,getElem?_set->IQ,countP_le_length->IR,nodup_range->In,map_congr_left->J3,getElem?_range->K1,length_nil->KA,take_add_one->KF,foldl_append->Kf,take_length->Kg,append_assoc->Kh,getElem?_eq_none->Kj
open Eq renaming mpr->B2
open Nat renaming le_refl->CD,zero_le->F6,le_trans->F7,sub_self->I2,not_lt_zero->Kl
open Prod renaming ext->DM
open List.Perm renaming append_left->DR,append_right->G1,trans->I3
open Int renaming toNat_natCast->DU,le_refl->GD,toNat_of_nonneg->Km
open List.Sublist renaming cons->Ek
open Bool renaming and_eq_true->Eo,or_eq_true->Gj,and_assoc->Gn,eq_false_iff->Gp,false_or->I8,or_eq_false_iff->Kt
open Classical renaming byContradiction->GF
open Go.Instr renaming findNow->Gq
namespace Go.Proofs.YtlcenllcmeebhaaGreat
set_option maxRecDepth 100000
open Go.RX D
section
variable {gh dC:Gh} {ta:Int->Bool} {n:Nat} {s:MS} {i:Nat} {h':HS} {P:Nat->Int->Prop} {U:Int->Prop}
def YH (gh:Gh) (ta:Int->Bool) (fs:List Int) (f:Int):Bool:=if fs.contains f=true then(gh f).isSome else ta f
def Bh (s:MS) (h':HS) (i:Nat) (x:bP) (t p:Int) (rs:Int×Int) (ms:List MT):MS:=
 {s with h:=h',kn:=s.kn++e8 s h',ms:=ms,bx:=(cL s.bx s.op i t p).2.1,op:=(cL s.bx s.op i t p).2.2,cs:=s.cs.set i {x with rs:=rs,fs:=e8 s h',ls:=iX x.ls t p,ak:=(cL s.bx s.op i t p).1,ph:=4}}
theorem MI.XS (M:MI gh ta n s) {x:bP} (hx:s.cs[i]? =some x) (h1:x.ph=1) (hbx:s.bx[i]? =some []) (C:CE gh dC s.h h' P U) {t p:Int} (ht:1<=t/\t<=16) (hp: -1<=p/\p<65536) (sX:AT x=t) (TW:AU x=p)
 (hP: ∀{j:Nat} {q:Int},P j q->0<=q->q<65536->(j:Int)=t/\(p= -1\/p=q)) (hU: ∀{j:Nat} {y:bP},s.cs[j]? =some y->y.ph=2-> ¬ U y.vm) (rs:Int×Int) (ms:List MT):
 MI dC (YH gh ta (e8 s h')) n (Bh s h' i x t p rs ms):=by
 have lY:i<s.cs.length:=(Am.1 hx).1;have h4:x.ph≠4:=by omega
 generalize Y:Bh s h' i x t p rs ms=s';have J:s'.h=h':=by rw[<-Y];rfl
 have R:s'.ep=s.ep:=by rw[<-Y];rfl
 have hk:s'.kn=s.kn++e8 s h':=by rw[<-Y];rfl
 have h_:s'.sz=s.sz:=by rw[<-Y];rfl
 have hb:s'.bx=s.bx.zipIdx.map λ(q,j)=>if j=i then q else q++[((s.op.length:Int)+1,t,p,())]:=by rw[<-Y];unfold Bh;dsimp only;rw[De M i ht hp]
 have ho:s'.op=s.op++[(s.bx.length:Int) - 1]:=by rw[<-Y];unfold Bh;dsimp only;rw[De M i ht hp]
 have fh:s'.cs=s.cs.set i {x with rs:=rs,fs:=e8 s h',ls:=iX x.ls t p,ak:=(s.op.length:Int)+1,ph:=4}:=by rw[<-Y];unfold Bh;dsimp only;rw[De M i ht hp]
 have Yz:s'.op.length=s.op.length+1:=by rw[ho,FI];rfl
 have FQ:s'.bx.length=s.bx.length:=by rw[hb,DF,List.length_zipIdx]
 generalize Z:({x with rs:=rs,fs:=e8 s h',ls:=iX x.ls t p,ak:=(s.op.length:Int)+1,ph:=4}:bP)=x' at fh;have O:x'.ph=4:=by rw[<-Z]
 have X:x'.fs=e8 s h':=by rw[<-Z]
 have xa:x'.ak=(s.op.length:Int)+1:=by rw[<-Z]
 have xl:x'.ls=iX x.ls t p:=by rw[<-Z]
 have xc:x'.c=x.c:=by rw[<-Z]
 have xT:AT x'=t:=by rw[<-sX, <-Z];rfl
 have xP:AU x'=p:=by rw[<-TW, <-Z];rfl
 have wx:s'.cs[i]? =some x':=by rw[fh,CF lY]
 have hw: ∀{z:Nat} {y:bP},s.cs[z]? =some y->y.ph=4->s'.cs[z]? =some y:=λ{z y} h1 h2=>by rw[fh];exact Fb hx h4 _ h1 h2
 have Q: ∀{z:Nat} {y:bP},s'.cs[z]? =some y->(z=i/\y=x')\/(z≠i/\s.cs[z]? =some y):=λh=>by rw[fh] at h;exact j7 h
 have hm: ∀{y:bP},y∈s'.cs->y=x'\/y∈s.cs:=λh=>by rw[fh] at h;exact iu h
 have hbg: ∀{j:Nat} {q:List AK},s.bx[j]? =some q->j≠i->s'.bx[j]? =some (q++[((s.op.length:Int)+1,t,p,())]):=λ{j q} h e=>by rw[hb,post_at h,ao e]
 have acU: ∀{m:Nat} {d:DT},s.h.s.2[m]? =some d->(m:Int)∈s.kn->d.1=5:=λ{m d} h1 h2=>by
  obtain⟨m',d',A,u,S⟩:=M.k5 _ h2;have:m=m':=by omega
  subst this;rw[h1] at u;cases u;exact S
 have UA: ∀{m:Nat} {d d':DT},s.h.s.2[m]? =some d->d.1≠5->h'.s.2[m]? =some d'->d'.1=5->(m:Int)∈e8 s h':=λh1 h2 h3 h5=>iv.2 ⟨_, _,rfl,h3,h5,λc=>h2 (acU h1 c)⟩;have O9: ∀{m:Nat} {d:DT},s.h.s.2[m]? =some d->d.1=4->(m:Int)∈e8 s h'->YH gh ta (e8 s h') (m:Int)=false:=λ{m d} h1 h4 G=>by
  unfold YH;rw[av (by simpa using G)];cases hgm:gh (m:Int) with
  |none=>rfl
  |some w=>
   obtain⟨o,l,y⟩:=w;have:=(M.hi.inv.kd hgm).2.2.1;rw[show((m:Int)).toNat=m from rfl,h1] at this;cases this;exact absurd h4 (show ¬ (3:Int)=4 by decide)
 have ab9: ∀{f:Int},f∈s.kn->YH gh ta (e8 s h') f=ta f:=λ{f} B=>by
  unfold YH;rw[ao];intro c;have c:f∈e8 s h':=by simpa using c
  obtain⟨_, _, _, _, _,k⟩:=iv.1 c;exact k B
 have Zo: ∀{m:Nat} {d:DT},s.h.s.2[m]? =some d->d.1=5->YH gh ta (e8 s h') (m:Int)=ta (m:Int):=λh1 h2=>ab9 (M.kd h1 h2).1;have J_: ∀{j:Nat} {f:Int},rZ s j f->rZ s' j f:=λh=>h.dy hw (by rw[R]) (by rw[R]);have J': ∀{j:Nat} {f:Int},f∈e8 s h'->rZ s' j f:=λh=> .inl ⟨i,x',wx,O,by rw[X];exact h⟩;have P_: ∀{l:LT},(1<=l.1/\l.1<=16/\0<=l.2.1/\l.2.1<65536)->js s.h l.1.toNat l.2.1=(l.2.2.1,l.2.2.2.1,0,())-> ¬ (t=l.1/\(p= -1\/p=l.2.1))-> ∃(m:Nat) (d:DT),l.2.2.1=(m:Int)/\h'.s.2[m]? =some d/\d.1=4/\js h' l.1.toNat l.2.1=(l.2.2.1,l.2.2.2.1,0,()):=λ{l} L E D=>by
  have A0:js h' l.1.toNat l.2.1=(l.2.2.1,l.2.2.2.1,0,()):=by
   rw[C.pg.to λc=>D ?_]
   ·exact E
   ·obtain⟨c1,c2⟩:=hP c L.2.2.1 L.2.2.2;exact⟨by omega,c2⟩
  have gD:nj h' l.1.toNat l.2.1=some l.2.2.1:=by rw[sr,A0];rfl
  obtain⟨m,d,A,u,S, _⟩:=C.hi.Uh gD;exact⟨m,d,A,u,S,A0⟩
 refine⟨by rw[J];exact C.hi,M.nn,by rw[fh,DA];exact M.lc,by rw[FQ];exact M.lb,by rw[R];exact M.lp,by rw[h_];exact M.sz,λy v=>?_,λy v=>?_,λy v=>?_,
  λf B=>?_,?_,λe B=>?_,by rw[R];exact M.wn,λy v e=>?_,λy v e=>?_,λ{a b y z} g H s7 A u=>?_,λ{m d} g H=>?_,by rw[R];exact M.nw,λ{j y} g=>?_,λ{j y} g l hl=>?_,λy v e=>?_,λ{j y} g e=>?_,λ{j y} g e=>?_,λy v e=>?_,λ{a b y z} g H s7 A u=>?_,λ{j r} g=>?_,λid Ko=>?_⟩
 ·rcases hm v with rfl|v
  ·rw[O];decide
  ·exact M.ph y v
 ·rcases hm v with rfl|v
  ·rw[xc];exact M.ar x (aB hx)
  ·exact M.ar y v
 ·rw[h_];rcases hm v with rfl|v
  ·rw[xl];have:=E_ x.ls t p;have:=M.tl x (aB hx);omega
  ·exact M.tl y v
 ·
  rw[J];rw[hk] at B;rcases Gr.1 B with B|B
  ·obtain⟨m,d,A,u,S⟩:=M.k5 f B;obtain⟨d',g1,T⟩:=C.kd.k5 u S;exact⟨m,d',A,g1,T⟩
  ·obtain⟨m,d,A,u,S, _⟩:=iv.1 B;exact⟨m,d,A,u,S⟩
 ·rw[hk];refine List.nodup_append.2 ⟨M.nk,Ab,λa K b hb c=>?_⟩;subst c;obtain⟨_, _, _, _, _,k⟩:=iv.1 hb;exact k K
 ·rw[R] at B ⊢;obtain⟨a,b,c⟩:=M.wk e B;rw[hk];exact⟨B4 _ a,b,c⟩
 ·rw[hk,R];rcases hm v with rfl|v
  ·intro f B;rw[X] at B;refine⟨B1 _ B,λc=>?_⟩;obtain⟨_, _, _, _, _,k⟩:=iv.1 B;obtain⟨e',I,F⟩:=B5.1 c;exact k (by rw[<-F];exact(M.wk e' I).1)
  ·intro f B;obtain⟨a,b⟩:=M.fk y v e f B;exact⟨B4 _ a,b⟩
 ·rcases hm v with rfl|v
  ·rw[X];exact Ab
  ·exact M.fn y v e
 ·rcases Q g with ⟨_,rfl⟩|⟨_,g⟩
  ·rcases Q H with ⟨q, _⟩|⟨_,H⟩
   ·omega
   ·intro f B c;rw[X] at B;obtain⟨_, _, _, _, _,k⟩:=iv.1 B;exact k (M.fk z (aB H) u f c).1
  ·rcases Q H with ⟨_,rfl⟩|⟨_,H⟩
   ·intro f B c;rw[X] at c;obtain⟨_, _, _, _, _,k⟩:=iv.1 c;exact k (M.fk y (aB g) A f B).1
   ·exact M.fd g H s7 A u
 ·rw[J] at g;rw[hk,R];by_cases c:(m:Int)∈e8 s h'
  ·exact⟨B1 _ c,.inr ⟨x',aB wx,O,by rw[X];exact c⟩⟩
  ·have hkm:(m:Int)∈s.kn:=GF λG=>c (iv.2 ⟨m,d,rfl,g,H,G⟩);obtain⟨m',d',A,u,S⟩:=M.k5 _ hkm;have:m=m':=by omega
   subst this;obtain⟨_,T⟩:=M.kd u S;refine⟨B4 _ hkm,T.imp id λ⟨y,v,I,F⟩=>?_⟩;obtain⟨j,V⟩:=DL v;exact⟨y,aB (hw V I),I,F⟩
 ·rw[R];rcases Q g with ⟨rfl,rfl⟩|⟨_,g⟩
  ·have:=M.pn hx;rw[h1,ao (by decide)] at this;rw[O,ao (by decide)];exact this
  ·exact M.pn g
 ·
  rcases Q g with ⟨rfl,rfl⟩|⟨V,g⟩
  ·rw[xl] at hl;obtain⟨l1,l2⟩:=ud hl;obtain⟨L,m,d,E,D,N⟩:=M.ln hx l l1;rcases N with ⟨_,N⟩|⟨_,q,a,r5,r6, _⟩
   ·obtain⟨m',d',g1,T,g3,g4⟩:=P_ L N l2;exact⟨L,m',d',g1,by rw[J];exact T,.inl ⟨g3,by rw[J];exact g4⟩⟩
   ·rw[hbx] at r5;cases r5;cases r6
  ·obtain⟨L,m,d,E,D,N⟩:=M.ln g l hl;rcases N with ⟨d4,N⟩|⟨W,q,a,r5,r6,r7,r8⟩
   ·by_cases l2:t=l.1/\(p= -1\/p=l.2.1)
    ·obtain⟨d',A,u⟩:=C.kd.k4 D d4;have Oh:j<s.bx.length:=by rw[M.lb, <-M.lc];exact(Am.1 g).1
     refine⟨L,m,d',E,by rw[J];exact A,.inr ⟨u, _, _,hbg (Be Oh) V,B1 _ (DB.2 rfl),l2,λe5=>?_⟩⟩;have G:=UA D (by omega) A e5;rw[E];exact⟨O9 D d4 G,i,x', _,B1 _ (DB.2 rfl),wx,O,by rw[X];exact G,xa.symm,GD _⟩
    ·obtain⟨m',d',g1,T,g3,g4⟩:=P_ L N l2;exact⟨L,m',d',g1,by rw[J];exact T,.inl ⟨g3,by rw[J];exact g4⟩⟩
   ·rcases W with d4|d5
    ·obtain⟨d',A,u⟩:=C.kd.k4 D d4;refine⟨L,m,d',E,by rw[J];exact A,.inr ⟨u, _,a,hbg r5 V,B4 _ r6,r7,λe5=>?_⟩⟩;have G:=UA D (by omega) A e5;have:=M.fG r5 r6;rw[E];exact⟨O9 D d4 G,i,x', _,B1 _ (DB.2 rfl),wx,O,by rw[X];exact G,xa.symm,by show a.1<=(s.op.length:Int)+1;omega⟩
    ·obtain⟨d',A,u⟩:=C.kd.k5 D d5;refine⟨L,m,d',E,by rw[J];exact A,.inr ⟨.inr u, _,a,hbg r5 V,B4 _ r6,r7,λ_=>?_⟩⟩;obtain⟨I,z,y',b,F,q3,q4,q5,q6,q7⟩:=r8 d5;refine⟨?_,z,y',b,B4 _ F,hw q3 q4,q4,q5,q6,q7⟩;rw[E,Zo D d5, <-E];exact I
 ·rw[J];rcases hm v with rfl|v
  ·rw[O] at e;exact absurd e (by decide)
  ·obtain⟨j,V⟩:=DL v;obtain⟨I,F⟩:=M.ac y v e;exact⟨C.lv (hU V e) I,F⟩
 ·rcases Q g with ⟨_,rfl⟩|⟨_,g⟩
  ·rw[O] at e;exact absurd e (by decide)
  ·obtain⟨l,E,D,N,W⟩:=M.wl g e;refine⟨l,E,D,N,?_⟩;rw[J];rcases W with W|⟨c1,c2,c3⟩
   ·rcases C.gk W (hU g e) with k|k
    ·exact .inl k
    ·have G:y.wk.1∈e8 s h':=by
      obtain⟨q0,d',I,F, _⟩:=k;have h3:=(M.hi.inv.kd W).2.2.1;have:=UA h3 (by show ¬ (3:Int)=5;decide) I F;rw[Km q0] at this;exact this
     refine .inr ⟨k,J' G,?_⟩;unfold YH;rw[av (by simpa using G),W];rfl
   ·refine .inr ⟨C.gn c1,J_ c2,?_⟩;obtain⟨q0,d',I,F, _⟩:=c1;have:=Zo I F;rw[Km q0] at this;rw[this];exact c3
 ·rcases Q g with ⟨_,rfl⟩|⟨_,g⟩
  ·rw[O] at e;exact absurd e (by decide)
  ·obtain⟨⟨m,d,E,D,N⟩,W⟩:=M.rc g e;refine⟨?_,W⟩;rcases N with d4|⟨d5,c2,c3⟩
   ·obtain⟨d',A,u⟩:=C.kd.k4 D d4;refine⟨m,d',E,by rw[J];exact A,?_⟩;rcases u with u|u
    ·exact .inl u
    ·have G:=UA D (by omega) A u;rw[E];exact .inr ⟨u,J' G,O9 D d4 G⟩
   ·obtain⟨d',A,u⟩:=C.kd.k5 D d5;refine⟨m,d',E,by rw[J];exact A,.inr ⟨u,J_ c2,?_⟩⟩;rw[E,Zo D d5, <-E];exact c3
 ·rw[Yz];rcases hm v with rfl|v
  ·rw[xT,xP,xa];omega
  ·have:=M.wt y v e;omega
 ·rcases Q g with ⟨_,rfl⟩|⟨_,g⟩
  ·rcases Q H with ⟨q, _⟩|⟨_,H⟩
   ·omega
   ·have:=M.wt z (aB H) u;rw[xa];omega
  ·rcases Q H with ⟨_,rfl⟩|⟨_,H⟩
   ·have:=M.wt y (aB g) A;rw[xa];omega
   ·exact M.wu g H s7 A u
 ·rw[hb] at g;obtain⟨q,I,F⟩:=S9 g;obtain⟨g1,T⟩:=M.aq I;have dy: ∀a∈q, ∃(z:Nat) (y:bP),z≠j/\s'.cs[z]? =some y/\y.ph=4/\a=(y.ak,AT y,AU y,()):=λa K=>by
   obtain⟨z,y,f1,f2,f3,f4⟩:=T a K;exact⟨z,y,f1,hw f2 f3,f3,f4⟩
  by_cases e:j=i
  ·rw[av e] at F;rw[F];exact⟨g1,dy⟩
  ·rw[ao e] at F;rw[F];refine⟨List.pairwise_append.2 ⟨g1,List.pairwise_singleton ..,λa K b hb=>?_⟩,λa K=>?_⟩
   ·have:=M.fG I K;rw[DB.1 hb];show a.1<(s.op.length:Int)+1;omega
   ·rcases Gr.1 K with K|K
    ·exact dy a K
    ·refine⟨i,x',λc=>e c.symm,wx,O,?_⟩;rw[DB.1 K,xa,xT,xP]
 ·rw[Yz] at Ko;rw[ho,hb,Ar];by_cases e:id<s.op.length
  ·rw[S_ (by show(s.op.length:Int)+1≠ _;omega),FK e, <-Ar];exact M.oc id e
  ·have e:id=s.op.length:=by omega
   subst e;have acV:i<s.bx.length:=by rw[M.lb, <-M.lc];exact lY
   rw[Gz (CD _),I2];have:=Ta (i:=i) (x:=(((s.op.length:Int)+1,t,p,()):AK)) acV λq hq=>by
    unfold ju;rw[GG];intro a K c;obtain⟨j,V⟩:=DL hq;have:=M.fG V K;have c:a.1=(s.op.length:Int)+1:=by simpa using c
    omega
   show(s.bx.length:Int) - 1= _;rw[this];omega
end
section
variable {gh dC:Gh} {h h':HS} {v k a b c:Int}
theorem Tb {g g':Nat->Option GV} (a: ∀i,(g' i).isSome=(g i).isSome) (v:Int):aV g' v=aV g v:=by unfold aV;rw[a]
theorem Nw (w:Int) (a:aV h.g w=true):aV (gU h).g w=true:=by
 unfold gU;split
 ·exact a
 split
 ·obtain⟨b,x,c⟩:=b_.1 a;refine b_.2 ⟨b,?_⟩;show∃x,bq h.g _ _ w.toNat=some x;unfold bq;split
  ·exact⟨_,rfl⟩
  ·exact⟨x,c⟩
 ·exact a
theorem xi (v:Int): ∀(n:Nat) (h:HS) (w:Int),aV (fe v n h).g w=aV h.g w
 |0, _, _=>rfl
 |n+1,h,w=>by
  show aV (fe v n (yQ v h)).g w= _;rw[xi v n];unfold yQ;exact sU ..
theorem Tc {a w:Int} (e:w≠a) (b:aV h.g w=true):aV (tB h a).g w=true:=by
 unfold tB;split
 ·rename_i la;split
  ·exact b
  ·rw[<-xi a (vX h a).length] at b;obtain⟨c,x,d⟩:=b_.1 b;obtain⟨hv, _⟩:=b_.1 la;refine b_.2 ⟨c,x,?_⟩;show bq (fe a (vX h a).length h).g a.toNat none w.toNat=some x;unfold bq;rw[ao (by omega)];exact d
 ·exact b
theorem CE.run (d:HI dC (run h v k a b c).1) {P:Nat->Int->Prop} {f:Int} (E:va h (run h v k a b c).1 P f) (G:u6 gh dC h.s (run h v k a b c).1.s) (e:1<=k/\k<=17) (hc:vj k=false):CE gh dC h (run h v k a b c).1 P (λ_=>False):=
 ⟨d,E.kd,E.pg,λh1 _=>G.1 _ _ h1,λh1=>G.2 _ h1,λ{w} _ h1=>by rw[Tb (Wy e hc)];exact h1⟩
theorem Td (d:k=6\/k=8\/(11<=k/\k<=16)):(run h v k a b c).1.s=h.s/\(run h v k a b c).1.g=h.g:=by
 have:k=6\/k=8\/k=11\/k=12\/k=13\/k=14\/k=15\/k=16:=by omega
 rcases this with rfl|rfl|rfl|rfl|rfl|rfl|rfl|rfl
 ·exact⟨rfl,rfl⟩
 ·show(iF h v a b c).s=h.s/\(iF h v a b c).g=h.g;unfold iF;split<;>exact⟨rfl,rfl⟩
 ·show(f_ h v a).s=h.s/\(f_ h v a).g=h.g;unfold f_;split<;>exact⟨rfl,rfl⟩
 ·show(l7 h v a).s=h.s/\(l7 h v a).g=h.g;unfold l7;split<;>exact⟨rfl,rfl⟩
 ·show(l8 h v a b).s=h.s/\(l8 h v a b).g=h.g;unfold l8;split
  ·exact⟨rfl,rfl⟩
  split<;>exact⟨rfl,rfl⟩
 ·show(l6 h v a).s=h.s/\(l6 h v a).g=h.g;unfold l6;split<;>exact⟨rfl,rfl⟩
 ·exact⟨rfl,rfl⟩
 ·show(jf h v a).s=h.s/\(jf h v a).g=h.g;unfold jf;split<;>exact⟨rfl,rfl⟩
theorem Ff (d:rN h v k a b c=0) (e:iZ h v k a b c=0):(run h v k a b c).2.2=0:=by unfold rN at d;rw[av e] at d;exact d
theorem IA (H:HI gh h) (z:0<=a) (A: ¬ (v=0/\k=17/\a=0/\b=0/\c=0)) (B:k=7-> ¬ (aV h.g v=true/\iE k a b c=true/\a<1048576)) (C:rN h v k a b c≠0\/ ¬ (k=2\/k=4\/k=5\/k=10)):
 ∃dC P,CE gh dC h (kZ h v k a b c) P (λ_=>False)/\NN h.s (kZ h v k a b c).s/\ ∀{j:Nat} {q:Int},P j q->0<=q->q<65536->(js h j q).2.2.1≠0:=by
 obtain⟨g1,D⟩:=H.step v k b c z;have same:(kZ h v k a b c).s=h.s->(kZ h v k a b c).g=h.g-> ∃dC P,CE gh dC h (kZ h v k a b c) P (λ_=>False)/\NN h.s (kZ h v k a b c).s/\ ∀{j:Nat} {q:Int},P j q->0<=q->q<65536->(js h j q).2.2.1≠0:=λl m=>
  ⟨gh, _,CE.same H D l m,.refl (by rw[l]),λc=>c.elim⟩
 by_cases r:rN h v k a b c=0
 case neg=>
  obtain⟨e, _⟩:=H.fail r;exact same e.1 e.2
 have L:=C.resolve_left λc=>c r;by_cases i:iZ h v k a b c=0
 case neg=>
  have e:kZ h v k a b c=h:=ao i;rw[e] at same ⊢;exact same rfl rfl
 have d:=Ff r i;obtain⟨x,t,p⟩:=CU i;have e:kZ h v k a b c=(run h v k a b c).1:=av i;by_cases F:k=6\/k=8\/(11<=k/\k<=16)
 ·obtain⟨l,m⟩:=Td (h:=h) (v:=v) (a:=a) (b:=b) (c:=c) F;exact same (by rw[e];exact l) (by rw[e];exact m)
 rw[e];have:k=1\/k=3\/k=7\/k=9\/k=17:=by omega
 rcases this with rfl|rfl|rfl|rfl|rfl
 ·obtain⟨g',n,E,G⟩:=H.Hd;exact⟨g', _,⟨n,E.kd,E.pg,λh1 _=>G.1 _ _ h1,λh1=>G.2 _ h1,λ{w} _ h1=>Nw w h1⟩,NN.D6 h,λ{j q} c I J=>absurd ⟨I,J⟩ c⟩
 ·have d:qX h v a b=0:=by
   have d:(yB h v a b).2=0:=d;unfold yB at d;split at d
   ·assumption
   ·exact d
  obtain⟨g',f,n,O, _,G⟩:=H.P2 (t rfl) (a:=a) (b:=b) d;refine⟨g', _,CE.run (k:=3) n O.ef G x rfl,NN.don ..,λ{j q} o _ _=>?_⟩;rw[o.1,o.2,O.Xp];decide
 ·exfalso;refine B rfl ⟨t rfl,p,?_⟩;refine GF λo=>?_;have d:sq h v a=0:=d;unfold sq iK at d;rw[av (show a>=1048576 by omega),av (show((0:Int),(2:Int)).2≠0 by decide)] at d;exact absurd d (show ¬ (2:Int)=0 by decide)
 ·obtain⟨l,g',n,E,K, _,G⟩:=H.P7 (t rfl) (a:=a) (b:=b) (c:=c) d;have m:(run h v 9 a b c).1=iq h v a b c:=l;rw[<-m] at n E G;refine⟨g', _,CE.run (k:=9) n E G x rfl,by rw[m];exact NN.tak ..,λ{j q} o _ _=>?_⟩;rw[o.1,o.2,K];decide
 ·exfalso;have hv:v=0:=by
   unfold iZ at i;split at i
   ·exact absurd i (by decide)
   split at i
   ·exact absurd i (by decide)
   rename_i y;by_cases e:v=0
   ·exact e
   ·have:(v==0)=false:=by simpa using e
    rw[this] at y;exact absurd rfl y
  have u:a=0/\b=0/\c=0:=by
   unfold iE at p;simp[jW] at p;exact p
  exact A ⟨hv,rfl,u.1,u.2.1,u.2.2⟩
theorem Nx (H:HI gh h) (J:0<=a) (n:rN h v k a b c=0) (A:k=2\/k=4\/k=5\/k=10):
 ∃dC,CE gh dC h (kZ h v k a b c) (λj q=>if k=2 then j=a.toNat else j=v.toNat/\q=a) (λw=>k=2/\w=a)/\(k=2->(1<=a/\a<=16)/\v=0)/\(k≠2->(1<=v/\v<=16)/\a<65536):=by
 have l:iZ h v k a b c=0:=by
  refine GF λl=>?_;unfold rN at n;rw[ao l] at n;exact l n
 have d:=Ff n l;obtain⟨B,o,K⟩:=CU l;have e:kZ h v k a b c=(run h v k a b c).1:=av l;rw[e];have fin: ∀{dC:Gh} {f:Int},k≠2->vj k=false->a<65536->HI dC (run h v k a b c).1->va h (run h v k a b c).1 (λi q=>i=v.toNat/\q=a) f->u6 gh dC h.s (run h v k a b c).1.s-> ∃dC,CE gh dC h (run h v k a b c).1 (λj q=>if k=2 then j=a.toNat else j=v.toNat/\q=a) (λw=>k=2/\w=a)/\(k=2->(1<=a/\a<=16)/\v=0)/\(k≠2->(1<=v/\v<=16)/\a<65536):=λ{dC f} y hc D m E G=>by
  obtain⟨_, _, _, _,p,r⟩:=bZ (o hc);have C:=CE.run m E G B hc;refine⟨dC,⟨C.hi,C.kd,⟨λ{i q} t=>C.pg.to λu=>t ?_⟩,λh1 _=>C.gk h1 id,C.gn,λ_ h1=>C.lv id h1⟩,λc=>absurd c y,λ_=>⟨⟨p,r⟩,D⟩⟩;show if k=2 then _ else _;rw[ao y];exact u
 rcases A with rfl|rfl|rfl|rfl
 ·obtain⟨g',m,E,F,I⟩:=H.J5 a;have la:aV h.g a=true:=by
   have d:Gy h a=0:=d;unfold Gy at d;split at d
   ·assumption
   ·exact absurd d (by decide)
  obtain⟨_, _, _, _,p,r⟩:=bZ la;refine⟨g',⟨m,E.kd,⟨λ{i q} t=>E.pg.to λu=>t ?_⟩,λ{f w} h1 x=>F f w h1 λc=>x ⟨rfl,c⟩,λh1=>I _ h1,λ{w} h1 x=>Tc (λc=>h1 ⟨rfl,c⟩) x⟩,λ_=>⟨⟨p,r⟩,?_⟩,λc=>absurd rfl c⟩
  ·show if(2:Int)=2 then _ else _;rw[av rfl];exact u
  ·unfold iZ at l;split at l
   ·exact absurd l (by decide)
   split at l
   ·exact absurd l (by decide)
   rename_i z;by_cases e:v=0
   ·exact e
   ·have:(v==0)=false:=by simpa using e
    rw[this] at z;exact absurd rfl z
 ·have d:xK h v a=0:=by
   have d:(CC h v a).2=0:=d;unfold CC at d;split at d
   ·assumption
   ·exact d
  obtain⟨g',f,m,O,G⟩:=H.P4 (o rfl) d;refine fin (by decide) rfl ?_ m O.ef G;unfold xK at d;split at d
  ·exact absurd d (by decide)
  ·omega
 ·have d:pC h v a b=0:=d;obtain⟨g',m,E, _, _, _,G⟩:=H.JU (o rfl) d;refine fin (by decide) rfl ?_ m E G;unfold pC at d;split at d
  ·exact absurd d (by decide)
  ·omega
 ·have d:pD h v a=0:=d;obtain⟨g',m,E, _,G⟩:=H.J0 (o rfl) d;refine fin (by decide) rfl ?_ m E G;unfold pD at d;split at d
  ·exact absurd d (by decide)
  ·omega
end
section
variable {gh dC:Gh} {ta:Int->Bool} {n:Nat} {s:MS} {i:Nat}
structure O_ (e e':vY) (fs:List Int):Prop where
 now:e'.now=e.now
 pins:e'.pins=e.pins
 Xp: ∀w∈e'.ws,w∈e.ws\/(w.1∈fs/\w.2=e.now)
 fG: ∀w∈e.ws,w∈e'.ws
 new: ∀f∈fs,f∉e.ws.map (·.1)->(f,e.now)∈e'.ws
 nd:(e.ws.map (·.1)).Nodup->(e'.ws.map (·.1)).Nodup
theorem acW (e:vY) (f:Int):O_ e (lh e f) [f]:=by
 unfold lh;split
 ·rename_i h;obtain⟨w,hw,a⟩:=FS.1 h;have a:w.1=f:=by simpa using a
  exact⟨rfl,rfl,λw h=> .inl h,λw h=>h,λg b d=>absurd (B5.2 ⟨w,hw,by rw[a,DB.1 b]⟩) d,id⟩
 ·rename_i h;refine⟨rfl,rfl,λw hw=>?_,λw hw=>Ap _ hw,λg b _=>?_,λd=>?_⟩
  ·rcases Du.1 hw with rfl|hw
   ·exact .inr ⟨DB.2 rfl,rfl⟩
   ·exact .inl hw
  ·rw[DB.1 b];exact Az
  ·show((f,e.now)::e.ws).map (·.1) |>.Nodup;rw[List.map_cons,GH];refine⟨λc=>h ?_,d⟩;obtain⟨w,hw,a⟩:=B5.1 c;exact FS.2 ⟨w,hw,by simpa using a⟩
theorem Fg: ∀(fs:List Int) (e:vY),O_ e (fs.foldl lh e) fs
 |[],e=>⟨rfl,rfl,λw h=> .inl h,λw h=>h,λf l=>absurd l (by simp),id⟩
 |f::fs,e=>by
  have A:=acW e f;have a:=Fg fs (lh e f);show O_ e (fs.foldl lh (lh e f)) (f::fs);refine⟨a.now.trans A.now,a.pins.trans A.pins,λw d=>?_,λw d=>a.fG w (A.fG w d),λg i j=>?_,λh=>a.nd (A.nd h)⟩
  ·rcases a.Xp w d with h|⟨h1,b⟩
   ·exact(A.Xp w h).imp id λc=>⟨Du.2 (.inl (DB.1 c.1)),c.2⟩
   ·exact .inr ⟨Ap _ h1,by rw[b,A.now]⟩
  ·by_cases c:g=f
   ·exact a.fG _ (A.new g (DB.2 c) j)
   ·have i:=(Du.1 i).resolve_left c;rw[<-A.now];refine a.new g i λk=>?_;obtain⟨w,h1,b⟩:=B5.1 k;rcases A.Xp w h1 with h|⟨h, _⟩
    ·exact j (B5.2 ⟨w,h,b⟩)
    ·exact c (by rw[<-b];exact DB.1 h)
theorem Ka (M:MI gh ta n s) {x:bP} (b:tK s x.ak=true) {j:Nat} {q:List AK} (d:s.bx[j]? =some q) {a:AK} (e:a∈q):a.1≠x.ak:=λc=>by
 unfold tK at b;rw[Eo,decide_eq_true_eq,beq_iff_eq] at b;have:=M.oc (x.ak - 1).toNat (by omega);rw[b.2,show(((x.ak - 1).toNat:Nat):Int)+1=x.ak by omega] at this;have f:0<s.bx.countP (λq=>ju q x.ak):=H4.2 ⟨q,aB d,FS.2 ⟨a,e,by simpa using c⟩⟩;omega
theorem MI.done (M:MI gh ta n s) {x:bP} (t:s.cs[i]? =some x) (Q:x.ph=4) (W:tK s x.ak=true):MI gh ta n {s with ep:=x.fs.foldl lh s.ep,cs:=s.cs.set i (cq x.ls)}:=by
 have lY:i<s.cs.length:=(Am.1 t).1;have R:=Fg x.fs s.ep;generalize B:({s with ep:=x.fs.foldl lh s.ep,cs:=s.cs.set i (cq x.ls)}:MS)=s';have A:s'.h=s.h:=by rw[<-B]
 have he:s'.ep=x.fs.foldl lh s.ep:=by rw[<-B]
 rw[<-he] at R;have F:s'.kn=s.kn:=by rw[<-B]
 have X:s'.sz=s.sz:=by rw[<-B]
 have hb:s'.bx=s.bx:=by rw[<-B]
 have Y:s'.op=s.op:=by rw[<-B]
 have fh:s'.cs=s.cs.set i (cq x.ls):=by rw[<-B]
 have u: ∀{z:Nat} {y:bP},s'.cs[z]? =some y->(z=i/\y=cq x.ls)\/(z≠i/\s.cs[z]? =some y):=λh=>by rw[fh] at h;exact j7 h
 have C: ∀{y:bP},y∈s'.cs->y=cq x.ls\/ ∃j,j≠i/\s.cs[j]? =some y:=λh=>by
  obtain⟨j,k⟩:=DL h;exact(u k).imp (·.2) λc=>⟨j,c⟩
 have N: ∀{z:Nat} {y:bP},s.cs[z]? =some y->z≠i->s'.cs[z]? =some y:=λ{z y} h1 p=>by
  rw[fh,E4 (λc=>p c.symm)];exact h1
 have S:=M.fk x (aB t) Q;have Z: ∀{j:Nat} {y:bP} {f:Int},s.cs[j]? =some y->y.ph=2\/y.ph=3->rZ s j f->rZ s' j f:=λ{j y f} k s_ P=>by
  have Ao:=M.pn k;rw[av s_] at Ao;rcases P with ⟨z,y2,h1,p,G⟩|⟨e,h1,p,G⟩
  ·by_cases c:z=i
   ·subst c;rw[t] at h1;cases h1;exact .inr ⟨_,R.new f G (S f G).2,rfl,by rw[R.pins];exact Ao.2.1⟩
   ·exact .inl ⟨z,y2,N h1 c,p,G⟩
  ·exact .inr ⟨e,R.fG e h1,p,by rw[R.pins];exact G⟩
 have i0:(cq x.ls).ph=0:=rfl;refine⟨by rw[A];exact M.hi,M.nn,by rw[fh,DA];exact M.lc,by rw[hb];exact M.lb,by rw[R.pins];exact M.lp,by rw[X];exact M.sz,λy o=>?_,λy o=>?_,λy o=>?_,
  by rw[F,A];exact M.k5,by rw[F];exact M.nk,λe O=>?_,R.nd M.wn,λy o e=>?_,λy o e=>?_,λ{a b y z} g v T D E=>?_,λ{m d} g v=>?_,by rw[R.now];exact M.nw,λ{j y} g=>?_,λ{j y} g l hl=>?_,λy o e=>?_,λ{j y} g e=>?_,λ{j y} g e=>?_,λy o e=>?_,λ{a b y z} g v T D E=>?_,λ{j r} g=>?_,by rw[Y,hb];exact M.oc⟩
 ·rcases C o with rfl|⟨j, _,k⟩
  ·rw[i0];decide
  ·exact M.ph y (aB k)
 ·rcases C o with rfl|⟨j, _,k⟩
  ·exact(show cJ 0/\cJ 0/\cJ 0 by decide)
  ·exact M.ar y (aB k)
 ·rw[X];rcases C o with rfl|⟨j, _,k⟩
  ·exact M.tl x (aB t)
  ·exact M.tl y (aB k)
 ·rw[F,R.now];rcases R.Xp e O with h|⟨h1,p⟩
  ·exact M.wk e h
  ·exact⟨(S _ h1).1,by rw[p];exact M.nw,by rw[p];exact GD _⟩
 ·rcases C o with rfl|⟨j,k,o⟩
  ·rw[i0] at e;exact absurd e (by decide)
  ·intro f O;obtain⟨a,b⟩:=M.fk y (aB o) e f O;refine⟨by rw[F];exact a,λc=>?_⟩;obtain⟨w,h1,p⟩:=B5.1 c;rcases R.Xp w h1 with h|⟨h, _⟩
   ·exact b (B5.2 ⟨w,h,p⟩)
   ·rw[p] at h;exact M.fd o t k e Q f O h
 ·rcases C o with rfl|⟨j,k,o⟩
  ·rw[i0] at e;exact absurd e (by decide)
  ·exact M.fn y (aB o) e
 ·rcases u g with ⟨_,rfl⟩|⟨_,g⟩
  ·rw[i0] at D;exact absurd D (by decide)
  ·rcases u v with ⟨_,rfl⟩|⟨_,v⟩
   ·rw[i0] at E;exact absurd E (by decide)
   ·exact M.fd g v T D E
 ·rw[A] at g;obtain⟨q1,U⟩:=M.kd g v;rw[F];refine⟨q1,?_⟩;rcases U with U|⟨y,o,g1,H⟩
  ·obtain⟨w,h1,p⟩:=B5.1 U;exact .inl (B5.2 ⟨w,R.fG w h1,p⟩)
  ·obtain⟨j,k⟩:=DL o;by_cases c:j=i
   ·subst c;rw[t] at k;cases k;exact .inl (B5.2 ⟨_,R.new _ H (S _ H).2,rfl⟩)
   ·exact .inr ⟨y,aB (N k c),g1,H⟩
 ·rw[R.pins,R.now];rcases u g with ⟨rfl,rfl⟩|⟨_,g⟩
  ·have:=M.pn t;rw[Q,ao (by decide)] at this;rw[i0,ao (by decide)];exact this
  ·exact M.pn g
 ·have Al: ∃V,s.cs[j]? =some V/\l∈V.ls:=by
   rcases u g with ⟨rfl,rfl⟩|⟨_,g⟩
   ·exact⟨x,t,hl⟩
   ·exact⟨y,g,hl⟩
  obtain⟨V,g0,g1⟩:=Al;obtain⟨r0,m,d,I,J,K⟩:=M.ln g0 l g1;refine⟨r0,m,d,I,by rw[A];exact J,?_⟩;rw[A,hb];refine K.imp id λ⟨L,q,a,r5,r6,r7,r8⟩=>⟨L,q,a,r5,r6,r7,λe5=>?_⟩;obtain⟨r9,z,y',b,c0,c1,c2,c3,c4,c5⟩:=r8 e5;refine⟨r9,z,y',b,c0,N c1 λc=>?_,c2,c3,c4,c5⟩;subst c;rw[t] at c1;cases c1;exact Ka M W r5 c0 c4
 ·rw[A];rcases C o with rfl|⟨j, _,k⟩
  ·rw[i0] at e;exact absurd e (by decide)
  ·exact M.ac y (aB k) e
 ·rcases u g with ⟨_,rfl⟩|⟨_,g⟩
  ·rw[i0] at e;exact absurd e (by decide)
  ·obtain⟨l,I,J,K,L⟩:=M.wl g e;refine⟨l,I,J,K,?_⟩;rw[A];exact L.imp id λc=>⟨c.1,Z g (.inl e) c.2.1,c.2.2⟩
 ·rcases u g with ⟨_,rfl⟩|⟨_,g⟩
  ·rw[i0] at e;exact absurd e (by decide)
  ·obtain⟨⟨m,d,I,J,K⟩,L⟩:=M.rc g e;refine⟨⟨m,d,I,by rw[A];exact J,?_⟩,L⟩;exact K.imp id λc=>⟨c.1,Z g (.inr e) c.2.1,c.2.2⟩
 ·rw[Y];rcases C o with rfl|⟨j, _,k⟩
  ·rw[i0] at e;exact absurd e (by decide)
  ·exact M.wt y (aB k) e
 ·rcases u g with ⟨_,rfl⟩|⟨_,g⟩
  ·rw[i0] at D;exact absurd D (by decide)
  ·rcases u v with ⟨_,rfl⟩|⟨_,v⟩
   ·rw[i0] at E;exact absurd E (by decide)
   ·exact M.wu g v T D E
 ·rw[hb] at g;obtain⟨g1,H⟩:=M.aq g;refine⟨g1,λa ha=>?_⟩;obtain⟨z,y,f1,f2,f3,f4⟩:=H a ha;refine⟨z,y,f1,N f2 λc=>?_,f3,f4⟩;subst c;rw[t] at f2;cases f2;exact Ka M W g ha (by rw[f4])
end
section
variable {gh dC:Gh} {ta:Int->Bool} {n:Nat} {s:MS} {i:Nat}
def mE (n:Nat) (s:MS):Prop:= ∃gh ta,MI gh ta n s
theorem Te (M:MI gh ta n s) {x:bP} (a:s.cs[i]? =some x) (h: ¬ (x.ph=2\/x.ph=3)):rY s.ep i=s.ep:=by
 have:=M.pn a;rw[ao h] at this;unfold rY;rw[<-this,uc M a]
theorem MI.ends (M:MI gh ta n s) {x:bP} (a:s.cs[i]? =some x) (h1:x.ph=1) (kn:List Int) (b:kn=s.kn) (ms:List MT) {ls:List LT} (c:ls=x.ls):MI gh ta n {s with cs:=s.cs.set i (cq ls),kn:=kn,ms:=ms}:=by
 have:=M.idle a (by omega) (λl d=>M.ln a l d) (M.tl x (aB a)) ms;rw[Te M a (by omega)] at this;subst b c;exact this
theorem j8 (s:MS):(cK s).1.cs=s.cs:=by
 unfold cK;dsimp only;generalize oS (eZ s.ep)=L;generalize b:({s with ep:=AR (eZ s.ep)}:MS)=a;have h0:s.cs=a.cs:=by rw[<-b]
 rw[h0];clear b h0
 induction L generalizing a with
 |nil=>rfl
 |cons f L c=>exact c (gq a f)
theorem Tf {h':HS} (M:MI gh ta n {s with h:=h'}):e8 s h'=[]:=by
 refine GI.2 λf a=>?_;obtain⟨m,d,rfl,b,c,e⟩:=iv.1 a;exact e (M.kd b c).1
theorem WA {x:bP} (a:s.cs[i]? =some x) (x':bP):((s.cs.set i x').getD i x)=x':=by
 rw[Ar,CF (Am.1 a).1];rfl
theorem MI.call (M:MI gh ta n s) {x:bP} (g:s.cs[i]? =some x) (h1:x.ph=1) (hb:s.bx[i]? =some []) (m:lX s.h x=false) (B:pa s i x=false) (D: ¬ (x.vm=0/\x.c=(17,0,0,0,()))):mE n (ig (fI s i x) i x).1:=by
 have u:=M.ar x (aB g);by_cases p:(x.c.1=2\/x.c.1=4\/x.c.1=5\/x.c.1=10)/\rN s.h x.vm x.c.1 x.c.2.1 x.c.2.2.1 x.c.2.2.2.1=0
 ·obtain⟨o,w⟩:=p;obtain⟨g',C,c2,E⟩:=Nx M.hi u.1.1 w o;have e:(ig (fI s i x) i x).1=Bh s (kZ s.h x.vm x.c.1 x.c.2.1 x.c.2.2.1 x.c.2.2.2.1) i x (if x.c.1=2 then aD .i64 x.c.2.1 else x.vm) (if x.c.1=2 then -1 else aD .i64 x.c.2.1) (yx s.h x.vm x.c.1 x.c.2.1 x.c.2.2.1 x.c.2.2.2.1,rN s.h x.vm x.c.1 x.c.2.1 x.c.2.2.1 x.c.2.2.2.1) (s.ms++[(1,x.vm,0,x.c,yx s.h x.vm x.c.1 x.c.2.1 x.c.2.2.1 x.c.2.2.2.1,rN s.h x.vm x.c.1 x.c.2.1 x.c.2.2.1 x.c.2.2.2.1)]):=by
   unfold fI;dsimp only;rw[av o,ao (λc=>c w)];rfl
  rw[e];by_cases f:x.c.1=2
  ·obtain⟨r,z⟩:=c2 f;have t:aD .i64 x.c.2.1=x.c.2.1:=Go.Proofs.YtlcenllcmeebhaaGreat.bM (by omega);rw[av f,av f,t];refine⟨g', _,M.XS g h1 hb C r (by decide) (by unfold AT;rw[av f]) (by unfold AU;rw[av f]) (λ{j q} c _ _=>?_) (λ{j y} l A c=>?_) _ _⟩
   ·rw[av f] at c;exact⟨by omega,.inl rfl⟩
   ·have F:j≠i:=λk=>by subst k;rw[g] at l;cases l;omega
    have:pa s i x=true:=by
     unfold pa;refine FS.2 ⟨j,Bx.2 (Am.1 l).1,?_⟩;rw[l];dsimp only;rw[Eo,decide_eq_true_eq];refine⟨⟨F,z⟩,?_⟩;rw[Gj];right;rw[f,c.2,A];have:0<x.c.2.1:=by omega
     simp[this]
    rw[B] at this;cases this
  ·obtain⟨r,z⟩:=E f;have t:aD .i64 x.c.2.1=x.c.2.1:=Go.Proofs.YtlcenllcmeebhaaGreat.bM (by omega);rw[ao f,ao f,t];refine⟨g', _,M.XS g h1 hb C r (by omega) (by unfold AT;rw[ao f]) (by unfold AU;rw[ao f]) (λ{j q} c _ _=>?_) (λ{j y} l A c=>f c.1) _ _⟩;rw[ao f] at c;exact⟨by omega,.inr c.2.symm⟩
 ·obtain⟨g',P,C,N,G⟩:=IA (k:=x.c.1) (v:=x.vm) (a:=x.c.2.1) (b:=x.c.2.2.1) (c:=x.c.2.2.2.1) M.hi u.1.1 (λc=>D ⟨c.1,by
   obtain⟨_,k,a,b,d⟩:=c;exact DM k (DM a (DM b (DM d rfl)))⟩) (λH c=>by
   unfold lX a7 at m;rw[H] at m c;rw[c.1,c.2.1,decide_eq_true c.2.2] at m;exact absurd m (by decide)) (by
   by_cases e:x.c.1=2\/x.c.1=4\/x.c.1=5\/x.c.1=10
   ·exact .inl λc=>p ⟨e,c⟩
   ·exact .inr e)
  have M':=M.quiet C N G;have I:=Tf M';have e:(ig (fI s i x) i x).1=cj (cj {s with h:=kZ s.h x.vm x.c.1 x.c.2.1 x.c.2.2.1 x.c.2.2.2.1,kn:=s.kn++e8 s (kZ s.h x.vm x.c.1 x.c.2.1 x.c.2.2.1 x.c.2.2.2.1),ms:=s.ms++[(1,x.vm,0,x.c,yx s.h x.vm x.c.1 x.c.2.1 x.c.2.2.1 x.c.2.2.2.1,rN s.h x.vm x.c.1 x.c.2.1 x.c.2.2.1 x.c.2.2.2.1)]} i {x with rs:=(yx s.h x.vm x.c.1 x.c.2.1 x.c.2.2.1 x.c.2.2.2.1,rN s.h x.vm x.c.1 x.c.2.1 x.c.2.2.1 x.c.2.2.2.1),fs:=e8 s (kZ s.h x.vm x.c.1 x.c.2.1 x.c.2.2.1 x.c.2.2.2.1)}) i (cq ((s.cs.set i {x with rs:=(yx s.h x.vm x.c.1 x.c.2.1 x.c.2.2.1 x.c.2.2.2.1,rN s.h x.vm x.c.1 x.c.2.1 x.c.2.2.1 x.c.2.2.2.1),fs:=e8 s (kZ s.h x.vm x.c.1 x.c.2.1 x.c.2.2.1 x.c.2.2.2.1)}).getD i x).ls):=by
   unfold fI;dsimp only;split
   ·rename_i o;rw[av λc=>p ⟨o,c⟩];rfl
   ·rfl
  rw[e,WA g,I];refine⟨g',ta,?_⟩;have:=M'.ends g h1 (s.kn++[]) (DZ _) (s.ms++[(1,x.vm,0,x.c,yx s.h x.vm x.c.1 x.c.2.1 x.c.2.2.1 x.c.2.2.2.1,rN s.h x.vm x.c.1 x.c.2.1 x.c.2.2.1 x.c.2.2.2.1)]) (ls:=x.ls) rfl;unfold cj;dsimp only;rw[Dn];exact this
theorem MI.begin (M:MI gh ta n s) {x:bP} (b:s.cs[i]? =some x) (h1:x.ph=1) (hb:s.bx[i]? =some []):mE n (ig (dg s i x) i x).1:=by
 unfold dg;cases d:lX s.h x with
 |true=>
  rw[av rfl];dsimp only;split
  ·rename_i a;have: ∃l∈x.ls,(mT x.ls x.vm (x.c.2.1 / 16) (a7 x.c.1)).1=l.2.2.1:=by
    unfold mT at a ⊢;cases e:x.ls.find? (CI x.vm (x.c.2.1 / 16)) with
    |none=>rw[e] at a;exact absurd a (show ¬ (4:Int)=0 by decide)
    |some l=>
     rw[e] at a;dsimp only at a ⊢;split at a
     ·exact absurd a (show ¬ (7:Int)=0 by decide)
     ·rename_i c;rw[ao c];exact⟨l,IG e,rfl⟩
   obtain⟨l,g,j⟩:=this;rw[j];exact⟨gh,ta,M.FL b h1 d g⟩
  ·exact⟨gh,ta,M.aav b h1 d⟩
 |false=>
  rw[ao (by decide)];cases k:pa s i x with
  |true=>
   rw[av rfl,eM b];exact⟨gh,ta,M.ends b h1 s.kn rfl s.ms rfl⟩
  |false=>
   rw[ao (by decide)];split
   ·have f:(cK s).1.cs[i]? =some x:=by rw[j8];exact b
    rw[eM f];exact⟨gh,ta,M.free.ends f h1 _ rfl _ rfl⟩
   ·rename_i m;exact M.call b h1 hb d k m
theorem MI.waits (M:MI gh ta n s) {x:bP} (a:s.cs[i]? =some x) (b:x.ph=4):mE n (ig (gV s x) i x).1:=by
 unfold gV;split
 ·rename_i c;rw[eM (by exact a)];exact⟨gh,ta,M.done a b c⟩
 ·exact⟨gh,ta,M⟩
theorem MI.i_ (M:MI gh ta n s) {x:bP} (b:s.cs[i]? =some x):mE n (Go.Proofs.YtlcenllcmeebhaaGreat.i_ s i x).1:=by
 have g:=M.ph x (aB b);unfold Go.Proofs.YtlcenllcmeebhaaGreat.i_;split
 ·rename_i d;unfold bL;rw[ao (by omega),ao (by omega),ao (by omega),av d];exact⟨gh,ta,M.reach b d⟩
 ·rename_i d;have e:i<s.bx.length:=by rw[M.lb, <-M.lc];exact(Am.1 b).1
  unfold tC;cases c:s.bx[i]? with
  |none=>rw[Be e] at c;cases c
  |some q=>
   cases q with
   |cons a q=>exact⟨gh,ta,M.pop b c⟩
   |nil=>
    dsimp only;unfold bL;split
    ·exact⟨gh,ta,M.free⟩
    split
    ·rename_i h1;exact M.begin b h1 c
    split
    ·rename_i f;exact⟨gh,ta,M.walk b f⟩
    ·exact M.waits b (by omega)
theorem mE.step (M:mE n s) (k:Int):mE n (aX s k).1:=by
 obtain⟨gh,ta,M⟩:=M;unfold aX;split
 ·exact⟨gh,ta,M⟩
 split
 ·exact⟨gh,ta,M⟩
 ·rename_i a;exact M.i_ a
theorem mE.ask (M:mE n s) (k vm:Int) {c:CT} (hc:cJ c.2.1/\cJ c.2.2.1/\cJ c.2.2.2.1):mE n (eB s k vm c):=by
 obtain⟨gh,ta,M⟩:=M;exact⟨gh,ta,M.ask k vm hc⟩
theorem mE.new {f:Nat} {l:Int} (p:4<=f/\f<=4096) (r:1<=n/\n<=8) (c:1<=l/\l<=64):mE n (m0 f n l):=by
 have hc: ∀{x:bP},x∈(m0 f n l).cs->x=cq []:=λh=>E5 h;have b: ∀{j:Nat} {x:bP},(m0 f n l).cs[j]? =some x->x=cq []:=λh=>hc (aB h);have no: ∀{k:Int},(cq []).ph=k->k≠0->False:=λh o=>o h.symm;have t: ∀{m:Nat} {d:DT},(m0 f n l).h.s.2[m]? =some d->d.1≠5:=λ{m d} h=>by
  have h:(Cf f zD)[m]? =some d:=h;rw[E5 (DD h)];decide
 refine⟨noG,λ_=>false,⟨HI.new p,r,Ea,Ea,Ea,c,λx h=>?_,λx h=>?_,λx h=>?_,λg b=>absurd b (by simp[m0]),IJ,λe u=>absurd u (by simp[m0]),IJ,λx h e=>?_,λx h e=>?_,λ{i j x y} h1 _ _ e _=>?_,λh1 o=>absurd o (t h1),GD _,λ{j x} h=>?_,λ{j x} h l c=>?_,λx h e=>?_,λ{j x} h e=>?_,λ{j x} h e=>?_,λx h e=>?_,λ{i j x y} h1 _ _ e _=>?_,λ{j q} h=>?_,λid h=>absurd h (Kl _)⟩⟩
 ·rw[hc h];decide
 ·rw[hc h];decide
 ·rw[hc h];show(0:Int)<=l;omega
 ·rw[hc h] at e;exact(no e (by decide)).elim
 ·rw[hc h] at e;exact(no e (by decide)).elim
 ·rw[b h1] at e;exact(no e (by decide)).elim
 ·rw[b h,ao (by decide)];have v:j<n:=by
   have:=(Am.1 h).1;rw[show(m0 f n l).cs.length=n from Ea] at this;exact this
  show(Cf n (-1:Int)).getD j 0= -1;rw[Ar,GJ,av v];rfl
 ·rw[b h] at c;exact absurd c (by simp[cq])
 ·rw[hc h] at e;exact(no e (by decide)).elim
 ·rw[b h] at e;exact(no e (by decide)).elim
 ·rw[b h] at e;exact(no e (by decide)).elim
 ·rw[hc h] at e;exact(no e (by decide)).elim
 ·rw[b h1] at e;exact(no e (by decide)).elim
 ·have:q=[]:=E5 (aB h);rw[this];exact⟨List.Pairwise.nil,λa w=>by cases w⟩
end
def rO (x:bP):Nat:=if x.ph=1 then 6 else if x.ph=2 then 2+x.wk.2.1.toNat else if x.ph=3 then 1 else 0
def bl (s:MS) (c:Nat):Nat:=(s.bx.getD c []).length
def o1 (x:bP):Nat:=if x.ph=1 then 1 else 0
structure Pg (s s':MS) (k:Nat) (x x':bP):Prop where
 cs:s'.cs=s.cs.set k x'
 one:x'.ph=1->x.ph=1
 box: ∀j,j≠k->bl s' j+o1 x'<=bl s j+o1 x
 me:bl s' k+rO x'<=bl s k+rO x
 lt:0<bl s k+rO x->bl s' k+rO x'<bl s k+rO x
section
variable {gh dC:Gh} {ta:Int->Bool} {n:Nat} {s s':MS} {i:Nat}
theorem uh {x:bP} (a:s.cs[i]? =some x):s.cs.set i x=s.cs:=by
 refine IN λj=>?_;rw[IQ];by_cases e:i=j
 ·subst e;rw[av rfl,av (Am.1 a).1,a]
 ·rw[ao e]
theorem acX {x:bP} (h:x.ph=2->x.wk.2.1<=3):rO x<=6:=by
 unfold rO;split
 ·omega
 split
 ·rename_i a;have:=h a;omega
 split<;>omega
theorem Pg.same {x x':bP} (fh:s'.cs=s.cs.set i x') (hb:s'.bx=s.bx) (h1:x'.ph=1->x.ph=1) (b:rO x'<=rO x) (a:0<bl s i+rO x->rO x'<rO x):Pg s s' i x x' where
 cs:=fh
 one:=h1
 box:=λj _=>by
  have:bl s' j=bl s j:=by unfold bl;rw[hb]
  rw[this];unfold o1;split
  ·rename_i c;rw[av (h1 c)];omega
  ·omega
 me:=by
  have:bl s' i=bl s i:=by unfold bl;rw[hb]
  omega
 lt:=λh=>by
  have:bl s' i=bl s i:=by unfold bl;rw[hb]
  have:=a h;omega
theorem ui (s:MS):(cK s).1.bx=s.bx:=by
 unfold cK;dsimp only;generalize oS (eZ s.ep)=L;generalize b:({s with ep:=AR (eZ s.ep)}:MS)=a;have h0:s.bx=a.bx:=by rw[<-b]
 rw[h0];clear b h0
 induction L generalizing a with
 |nil=>rfl
 |cons f L c=>exact c (gq a f)
theorem Fh (bx:List (List AK)) (op:List Int) (i:Nat) (t p:Int) (j:Nat):((cL bx op i t p).2.1.getD j []).length<=(bx.getD j []).length+1/\(j=i->((cL bx op i t p).2.1.getD j []).length=(bx.getD j []).length):=by
 unfold cL;split
 ·exact⟨Nat.le_succ _,λ_=>rfl⟩
 split
 ·exact⟨Nat.le_succ _,λ_=>rfl⟩
 ·dsimp only;rw[Ar,H5,List.getElem?_zipIdx,Ar];cases bx[j]? with
  |none=>exact⟨F6 _,λ_=>rfl⟩
  |some q=>
   show(if 0+j=i then q else q++[_]).length<=q.length+1/\(j=i->(if 0+j=i then q else q++[_]).length=q.length);refine⟨?_,λe=>by rw[av (by omega)]⟩;split
   ·omega
   ·rw[FI];simp
theorem lC (ls:List LT):rO (cq ls)=0:=rfl
theorem qG {s1:MS} {r:Int×Int} {x x1:bP} (h:s1.cs[i]? =some x1):(ig (s1,r,true) i x).1={s1 with cs:=s1.cs.set i (cq x1.ls)}:=by
 unfold ig;rw[av rfl];show cj s1 i (cq ((s1.cs.getD i x).ls))= _;rw[Ar,h];rfl
theorem Ny (M:MI gh ta n s) {x:bP} (g:s.cs[i]? =some x) (h1:x.ph=1) (hb:s.bx[i]? =some []): ∃x',Pg s (ig (fI s i x) i x).1 i x x':=by
 have u:rO x=6:=av h1;by_cases a:(x.c.1=2\/x.c.1=4\/x.c.1=5\/x.c.1=10)/\rN s.h x.vm x.c.1 x.c.2.1 x.c.2.2.1 x.c.2.2.2.1=0
 ·obtain⟨a,k⟩:=a;generalize b:fI s i x=r;unfold fI at b;dsimp only at b;rw[av a,ao (λc=>c k)] at b;subst b;refine⟨_,rfl,λc=>absurd c (show ¬ (4:Int)=1 by decide),λj v=>?_,?_,λ_=>?_⟩
  ·show(GS (cL s.bx s.op i _ _).2.1 j []).length+0<=bl s j+o1 x;have:o1 x=1:=av h1;rw[this];exact(Fh _ _ _ _ _ j).1
  all_goals
   have d: ∀t p:Int,(GS (cL s.bx s.op i t p).2.1 i []).length=0:=λt p=>by
    rw[(Fh _ _ _ _ _ i).2 rfl,Ar,hb];rfl
  ·show(GS (cL s.bx s.op i (if x.c.1=2 then aD .i64 x.c.2.1 else x.vm) (if x.c.1=2 then -1 else aD .i64 x.c.2.1)).2.1 i []).length+0<= _;rw[d];omega
  ·show(GS (cL s.bx s.op i (if x.c.1=2 then aD .i64 x.c.2.1 else x.vm) (if x.c.1=2 then -1 else aD .i64 x.c.2.1)).2.1 i []).length+0< _;rw[d];omega
 ·have e: ∃(s1:MS) (x1:bP) (r:Int×Int),fI s i x=(s1,r,true)/\s1.bx=s.bx/\s1.cs=s.cs.set i x1:=by
   unfold fI;dsimp only;split
   ·rename_i l;rw[av λc=>a ⟨l,c⟩];exact⟨_, _, _,rfl,rfl,rfl⟩
   ·exact⟨_, _, _,rfl,rfl,rfl⟩
  obtain⟨s1,x1,r,m,o,f⟩:=e;rw[m];have q:s1.cs[i]? =some x1:=by rw[f,CF (Am.1 g).1]
  rw[qG q];refine⟨cq x1.ls,Pg.same ?_ o (λc=>absurd c (show ¬ (0:Int)=1 by decide)) (by rw[lC];omega) (λ_=>by rw[lC];omega)⟩;show s1.cs.set i _= _;rw[f,Dn]
theorem IB (M:MI gh ta n s) {x:bP} (a:s.cs[i]? =some x) (h1:x.ph=1) (hb:s.bx[i]? =some []): ∃x',Pg s (ig (dg s i x) i x).1 i x x':=by
 have b:rO x=6:=av h1;unfold dg;cases e:lX s.h x with
 |true=>
  rw[av rfl];dsimp only;split
  ·exact⟨_,Pg.same rfl rfl (λc=>absurd c (show ¬ (3:Int)=1 by decide)) (by show(1:Nat)<= _;omega) (λ_=>by show(1:Nat)< _;omega)⟩
  ·exact⟨_,Pg.same rfl rfl (λc=>absurd c (show ¬ (2:Int)=1 by decide)) (by show 2+(3:Int).toNat<= _;rw[b];decide) (λ_=>by show 2+(3:Int).toNat< _;rw[b];decide)⟩
 |false=>
  rw[ao (by decide)];cases f:pa s i x with
  |true=>
   rw[av rfl,eM a];exact⟨_,Pg.same rfl rfl (λc=>absurd c (show ¬ (0:Int)=1 by decide)) (by rw[lC];omega) (λ_=>by rw[lC];omega)⟩
  |false=>
   rw[ao (by decide)];split
   ·have d:(cK s).1.cs[i]? =some x:=by rw[j8];exact a
    rw[eM d];exact⟨_,Pg.same (by rw[j8]) (ui s) (λc=>absurd c (show ¬ (0:Int)=1 by decide)) (by rw[lC];omega) (λ_=>by rw[lC];omega)⟩
   ·exact Ny M a h1 hb
theorem NA (M:MI gh ta n s) {x:bP} (d:s.cs[i]? =some x) (e:x.ph=2) (hb:s.bx[i]? =some []): ∃x',Pg s (ig (jY s i x) i x).1 i x x':=by
 have o:=M.ar x (aB d);obtain⟨p,q,w⟩:=M.ac x (aB d) e;obtain⟨l,w1,r,u,a⟩:=M.wl d e;have g:=tQ ⟨o.1.1,q⟩;have f:x.wk=(x.wk.1,(l:Int),(0,0,0,0,())):=DM rfl (DM w1 u);obtain⟨y,z,A,v,B,C⟩:=tP M p;have j:rO x=2+l:=by
  unfold rO;rw[ao (by omega),av e,w1];rfl
 unfold jY;dsimp only;split
 ·rename_i hc;rcases a with a|a
  ·rcases M.hi.inv.ng M.hi.nl (t:=a7 x.c.1) v g a with ⟨m,D,b,E,F,k4⟩|⟨b, _⟩
   ·have k:rO {x with wk:=bA s.h.s.1 (x.c.2.1 / 16) (a7 x.c.1) x.wk}=2+m:=by
     unfold rO;rw[ao (show ¬ x.ph=1 by omega),av e];show 2+(bA s.h.s.1 (x.c.2.1 / 16) (a7 x.c.1) x.wk).2.1.toNat= _;rw[f,b];rfl
    exact⟨_,Pg.same rfl rfl (λc=>c) (by rw[k,j];omega) (λ_=>by rw[k,j];omega)⟩
   ·rw[f] at hc;exact absurd b hc
  ·obtain⟨b, _⟩:=M.hi.inv.nh (t:=a7 x.c.1) g r a.1;rw[f] at hc;exact absurd b hc
 split
 ·rw[qG (x1:={x with wk:=bA s.h.s.1 (x.c.2.1 / 16) (a7 x.c.1) x.wk}) (by exact(CF (Am.1 d).1))];refine⟨cq x.ls,Pg.same ?_ rfl (λc=>absurd c (show ¬ (0:Int)=1 by decide)) (by rw[lC];omega) (λ_=>by rw[lC];omega)⟩;show(s.cs.set i _).set i _= _;rw[Dn]
 ·exact⟨_,Pg.same rfl rfl (λc=>absurd c (show ¬ (3:Int)=1 by decide)) (by show(1:Nat)<= _;omega) (λ_=>by show(1:Nat)< _;omega)⟩
theorem prog (M:MI gh ta n s) {x:bP} (b:s.cs[i]? =some x): ∃x',Pg s (Go.Proofs.YtlcenllcmeebhaaGreat.i_ s i x).1 i x x':=by
 have u:=M.ph x (aB b);unfold Go.Proofs.YtlcenllcmeebhaaGreat.i_;split
 ·rename_i f;have g:rO x=1:=by unfold rO;rw[ao (by omega),ao (by omega),av f]
  unfold bL;rw[ao (by omega),ao (by omega),ao (by omega),av f];have: ∃(s1:MS) (r:Int×Int),fA s i x=(s1,r,true)/\s1.bx=s.bx/\s1.cs=s.cs:=by
   unfold fA;dsimp only;split
   ·exact⟨_, _,rfl,rfl,rfl⟩
   ·exact⟨_, _,rfl,rfl,rfl⟩
  obtain⟨s1,r,o,p,h⟩:=this;rw[o,eM (x:=x) (by rw[h];exact b)];exact⟨_,Pg.same (by rw[h]) p (λc=>absurd c (show ¬ (0:Int)=1 by decide)) (by rw[lC];omega) (λ_=>by rw[lC];omega)⟩
 ·rename_i f;have k:i<s.bx.length:=by rw[M.lb, <-M.lc];exact(Am.1 b).1
  unfold tC;cases d:s.bx[i]? with
  |none=>rw[Be k] at d;cases d
  |some q=>
   have e:bl s i=q.length:=by unfold bl;rw[Ar,d];rfl
   cases q with
   |cons a q=>
    dsimp only;rw[H6] at e;have l:bl (cj {s with bx:=s.bx.set i q,op:=s.op.set (a.1 - 1).toNat (s.op.getD (a.1 - 1).toNat 0 - 1)} i {x with ls:=iX x.ls a.2.1 a.2.2.1}) i=q.length:=by
     unfold bl;show((s.bx.set i q).getD i []).length= _;rw[Ar,CF k];rfl
    refine⟨_,rfl,id,λj t=>?_,?_,λ_=>?_⟩
    ·show((s.bx.set i q).getD j []).length+o1 x<= _;rw[Ar,E4 (λc=>t c.symm), <-Ar];exact CD _
    ·rw[l,e];show q.length+rO x<= _;omega
    ·rw[l,e];show q.length+rO x< _;omega
   |nil=>
    have e:bl s i=0:=e;dsimp only;unfold bL;split
    ·rename_i h0;have g:rO x=0:=by unfold rO;rw[ao (by omega),ao (by omega),ao (by omega)]
     exact⟨x,Pg.same (by show(cK s).1.cs= _;rw[j8,uh b]) (ui s) id (CD _) (λc=>by omega)⟩
    split
    ·rename_i h1;exact IB M b h1 d
    split
    ·rename_i m;exact NA M b m d
    ·rename_i h0 h1 m;have g:rO x=0:=by unfold rO;rw[ao (by omega),ao (by omega),ao (by omega)]
     unfold gV;split
     ·rw[eM (by exact b)];exact⟨_,Pg.same rfl rfl (λc=>absurd c (show ¬ (0:Int)=1 by decide)) (by rw[lC];omega) (λc=>by omega)⟩
     ·exact⟨x,Pg.same (uh b).symm rfl id (CD _) (λc=>by omega)⟩
end
def gC (s:MS) (c:Nat):bP:=s.cs.getD c (cq [])
def vb (s:MS) (c:Nat):Nat:=bl s c+rO (gC s c)
def As (s:MS):Nat:=s.cs.countP λx=>x.ph==1
def Cr (s:MS) (c:Nat):Nat:=vb s c+As s
def iT (s:MS) (L:List Nat):MS:=L.foldl (λ(s:MS) (c:Nat)=>(aX s (c:Int)).1) s
section
variable {gh dC:Gh} {ta:Int->Bool} {n:Nat} {s s':MS} {i:Nat}
theorem uj {x:bP} {c:Nat} (a:s.cs[c]? =some x):aX s (c:Int)=Go.Proofs.YtlcenllcmeebhaaGreat.i_ s c x:=by
 unfold aX;rw[ao (by omega)];show(match s.cs[c]? with|none=> _|some x=> _)= _;rw[a];rfl
theorem mE.get (X:mE n s) {c:Nat} (hc:c<n): ∃x,s.cs[c]? =some x/\gC s c=x:=by
 obtain⟨gh,ta,M⟩:=X;have a:c<s.cs.length:=by rw[M.lc];exact hc
 refine⟨s.cs[c],Be a,?_⟩;unfold gC;rw[Ar,Be a];rfl
structure DS (s s':MS) (k:Nat):Prop where
 mu: ∀c,Cr s' c<=Cr s c
 lt:0<vb s k->Cr s' k<Cr s k
 p1:As s'<=As s
 ph: ∀c,(gC s' c).ph=1->(gC s c).ph=1
 ot: ∀c,c≠k->gC s' c=gC s c
theorem I_ (X:mE n s) {k:Nat} (g:k<n):DS s (aX s (k:Int)).1 k:=by
 obtain⟨x,a,b⟩:=X.get g;obtain⟨gh,ta,M⟩:=X;rw[uj a];obtain⟨x',P⟩:=prog M a;generalize (Go.Proofs.YtlcenllcmeebhaaGreat.i_ s k x).1=s1 at P;have d:k<s.cs.length:=(Am.1 a).1;have i:s.cs[k]=x:=(Am.1 a).2;have gk:gC s1 k=x':=by
  unfold gC;rw[P.cs,Ar,CF d];rfl
 have go: ∀c,c≠k->gC s1 c=gC s c:=λc hc=>by
  unfold gC;rw[P.cs,Ar,E4 (λe=>hc e.symm),Ar]
 have f: ∀y:bP,(if(y.ph==1)=true then 1 else 0)=o1 y:=λy=>by
  unfold o1;by_cases e:y.ph=1
  ·rw[av e,av (by simpa using e)]
  ·rw[ao e,ao (by simpa using e)]
 have j:As s1=As s - o1 x+o1 x':=by
  unfold As;rw[P.cs,List.countP_set d,i,f,f]
 have l:o1 x<=As s:=by
  by_cases e:x.ph=1
  ·have:0<As s:=H4.2 ⟨x,aB a,by simpa using e⟩;unfold o1;rw[av e];omega
  ·unfold o1;rw[ao e];omega
 have m:o1 x'<=o1 x:=by
  unfold o1;split
  ·rename_i c;rw[av (P.one c)];omega
  ·omega
 refine⟨λc=>?_,λh=>?_,by omega,λc hc=>?_,go⟩
 ·unfold Cr vb;by_cases e:c=k
  ·subst e;rw[gk,b];have:=P.me;omega
  ·rw[go c e];have:=P.box c e;omega
 ·unfold vb at h;rw[b] at h;unfold Cr vb;rw[gk,b];have:=P.lt h;omega
 ·by_cases e:c=k
  ·subst e;rw[gk] at hc;rw[b];exact P.one hc
  ·rw[go c e] at hc;exact hc
theorem Qa: ∀(L:List Nat) {s:MS},mE n s->mE n (iT s L)
 |[], _,X=>X
 |k::L, _,X=>Qa L (X.step k)
theorem uk: ∀(L:List Nat) {s:MS},mE n s->(∀k∈L,k<n)->(∀c,Cr (iT s L) c<=Cr s c)/\As (iT s L)<=As s/\ ∀c,(gC (iT s L) c).ph=1->(gC s c).ph=1
 |[], _, _, _=>⟨λ_=>CD _,CD _,λ_ h=>h⟩
 |k::L,s,X,h=>by
  have D:=I_ X (h k Az);obtain⟨a,b,c⟩:=uk L (X.step k) λk d=>h k (Ap _ d);exact⟨λx=>F7 (a x) (D.mu x),F7 b D.p1,λx e=>D.ph x (c x e)⟩
theorem aa4: ∀(L:List Nat) {s:MS},mE n s->(∀k∈L,k<n)-> ∀c∈L,(gC (iT s L) c).ph=1->Cr (iT s L) c<Cr s c
 |[], _, _, _=>λc hc=>by cases hc
 |k::L,s,X,h=>λc hc f=>by
  have D:=I_ X (h k Az);have g: ∀k∈L,k<n:=λk i=>h k (Ap _ i);obtain⟨a,b,d⟩:=uk L (X.step k) g;by_cases e:c=k
  ·subst e;refine Nat.lt_of_le_of_lt (a c) (D.lt ?_);have h1:(gC s c).ph=1:=D.ph c (d c f);unfold vb rO;rw[av h1];omega
  ·exact Nat.lt_of_lt_of_le (aa4 L (X.step k) g c ((Du.1 hc).resolve_left e) f) (D.mu c)
theorem aa5: ∀(L:List Nat) {s:MS},mE n s->(∀k∈L,k<n)->As s=0->(∀c,vb (iT s L) c<=vb s c)/\ ∀c∈L,vb (iT s L) c=0\/vb (iT s L) c<vb s c
 |[], _, _, _, _=>⟨λ_=>CD _,λc hc=>by cases hc⟩
 |k::L,s,X,h,h0=>by
  have D:=I_ X (h k Az);have d: ∀k∈L,k<n:=λk f=>h k (Ap _ f);have h1:As (aX s (k:Int)).1=0:=by have:=D.p1;omega
  obtain⟨a,b⟩:=aa5 L (X.step k) d h1;have mu: ∀c,vb (aX s (k:Int)).1 c<=vb s c:=λc=>by
   have:=D.mu c;unfold Cr at this;omega
  refine⟨λc=>F7 (a c) (mu c),λc hc=>?_⟩;have ac:=a c;show vb (iT (aX s (k:Int)).1 L) c=0\/vb (iT (aX s (k:Int)).1 L) c<vb s c;by_cases e:c=k
  ·subst e;by_cases z:0<vb s c
   ·have:=D.lt z;unfold Cr at this;right;omega
   ·have:=mu c;left;omega
  ·have:=mu c;rcases b c ((Du.1 hc).resolve_left e) with q|q
   ·exact .inl q
   ·right;omega
def fU (n:Nat):Nat->MS->MS
 |0,s=>s
 |r+1,s=>iT (fU n r s) (AL n)
theorem mD (X:mE n s): ∀r,mE n (fU n r s)
 |0=>X
 |r+1=>Qa _ (mD X r)
theorem Df (a:Nat): ∀b,fU n (a+b) s=fU n b (fU n a s)
 |0=>rfl
 |b+1=>by
  show iT (fU n (a+b) s) _=iT (fU n b (fU n a s)) _;rw[Df a b]
theorem sv: ∀k∈AL n,k<n:=λk h=>Bx.1 h
theorem aa6 (X:mE n s) {c:Nat} (hc:c<n): ∀r,(gC (fU n r s) c).ph=1->Cr (fU n r s) c+r<=Cr s c
 |0, _=>CD _
 |r+1,h=>by
  have h1:=(uk _ (mD X r) sv).2.2 c h;have:=aa6 X hc r h1;have:=aa4 _ (mD X r) sv c (Bx.2 hc) h;show Cr (iT (fU n r s) (AL n)) c+(r+1)<= _;omega
theorem aa7 (X:mE n s) (h0:As s=0) {c:Nat} (hc:c<n): ∀r,As (fU n r s)=0/\(vb (fU n r s) c=0\/vb (fU n r s) c+r<=vb s c)
 |0=>⟨h0,.inr (CD _)⟩
 |r+1=>by
  obtain⟨a,b⟩:=aa7 X h0 hc r;obtain⟨p,q⟩:=aa5 _ (mD X r) sv a;refine⟨?_,?_⟩
  ·have:=(uk _ (mD X r) sv).2.1;show As (iT (fU n r s) (AL n))=0;omega
  ·have p:=p c;have q:=q c (Bx.2 hc);show vb (iT (fU n r s) (AL n)) c=0\/vb (iT (fU n r s) (AL n)) c+(r+1)<= _;omega
theorem XT (X:mE n s) {c:Nat} (hc:c<n):Cr s c<=22:=by
 obtain⟨x,a,b⟩:=X.get hc;obtain⟨gh,ta,M⟩:=X;have hb:c<s.bx.length:=by rw[M.lb];exact hc
 have h1:=M.box (Be hb);have d:As s<=8:=by
  have:=IR (p:=λx:bP=>x.ph==1) (l:=s.cs);have:=M.lc;have:=M.nn;unfold As;omega
 have e:rO x<=6:=acX λh=>by
  obtain⟨l,w1,f, _⟩:=M.wl a h;omega
 have g:bl s c=(s.bx[c]).length:=by unfold bl;rw[Ar,Be hb];rfl
 unfold Cr vb;rw[b];omega
theorem calm (X:mE n s) {c:Nat} (hc:c<n):vb (fU n 46 s) c=0/\As (fU n 46 s)=0:=by
 have h0:As (fU n 23 s)=0:=by
  rcases Nat.eq_zero_or_pos (As (fU n 23 s)) with h|h
  ·exact h
  ·obtain⟨x,f,h1⟩:=H4.1 h;obtain⟨k,d⟩:=DL f;have e:k<n:=by
    obtain⟨_, _,M⟩:=mD X 23;have:=(Am.1 d).1;rw[M.lc] at this;exact this
   have g:(gC (fU n 23 s) k).ph=1:=by
    unfold gC;rw[Ar,d];simpa using h1
   have:=aa6 X e 23 g;have:=XT X e;omega
 rw[show 46=23+23 from rfl,Df];obtain⟨a,b⟩:=aa7 (mD X 23) h0 hc 23;refine⟨?_,a⟩;have:=XT (mD X 23) hc;unfold Cr at this;omega
end
section
variable {gh dC:Gh} {ta:Int->Bool} {n:Nat} {s s':MS} {i:Nat}
structure Zs (n:Nat) (s:MS):Prop where
 x:mE n s
 nu: ∀c,c<n->vb s c=0
 p1:As s=0
theorem Zs.box (Z:Zs n s) {c:Nat} {q:List AK} (a:s.bx[c]? =some q):q=[]:=by
 obtain⟨_, _,M⟩:=Z.x;have hc:c<n:=by rw[<-M.lb];exact(Am.1 a).1
 have:=Z.nu c hc;unfold vb bl at this;rw[Ar,a] at this;have:q.length=0:=by
  have h:(some q).getD []=q:=rfl;rw[h] at this;omega
 exact List.length_eq_zero_iff.1 this
theorem Zs.ph (Z:Zs n s) {c:Nat} {x:bP} (a:s.cs[c]? =some x):x.ph=0\/x.ph=4:=by
 obtain⟨_, _,M⟩:=Z.x;have hc:c<n:=by rw[<-M.lc];exact(Am.1 a).1
 have h:=Z.nu c hc;have f:=M.ph x (aB a);have d:gC s c=x:=by unfold gC;rw[Ar,a];rfl
 unfold vb rO at h;rw[d] at h;by_cases h1:x.ph=1
 ·rw[av h1] at h;omega
 ·rw[ao h1] at h;by_cases b:x.ph=2
  ·rw[av b] at h;omega
  ·rw[ao b] at h;by_cases e:x.ph=3
   ·rw[av e] at h;omega
   ·omega
theorem Zs.none (Z:Zs n s) {c:Nat} (hc:c<n):s.bx[c]? =some []:=by
 obtain⟨_, _,M⟩:=Z.x;have a:c<s.bx.length:=by rw[M.lb];exact hc
 have:=Be a;rw[this,Z.box this]
theorem Zs.step (Z:Zs n s) {k:Nat} (b:k<n):Zs n (aX s (k:Int)).1/\(gC (aX s (k:Int)).1 k).ph=0/\ ∀c,c≠k->gC (aX s (k:Int)).1 c=gC s c:=by
 have D:=I_ Z.x b;have d:As (aX s (k:Int)).1=0:=by have:=D.p1;have:=Z.p1;omega
 refine⟨⟨Z.x.step k,λc hc=>?_,d⟩,?_,D.ot⟩
 ·have h1:=D.mu c;have o:=Z.nu c hc;have p:=Z.p1;unfold Cr at h1;omega
 ·obtain⟨x,a,r⟩:=Z.x.get b;have e:=Z.ph a;rw[uj a];obtain⟨gh,ta,M⟩:=Z.x;have f:k<s.cs.length:=(Am.1 a).1;unfold Go.Proofs.YtlcenllcmeebhaaGreat.i_;rw[ao (by omega)];unfold tC;rw[Z.none b];dsimp only;unfold bL;rcases e with h0|g
  ·rw[av h0];show(gC (cK s).1 k).ph=0;unfold gC;rw[j8,Ar,a];exact h0
  ·rw[ao (by omega),ao (by omega),ao (by omega),ao (by omega)];have h:tK s x.ak=true:=by
    obtain⟨w1,i, _⟩:=M.wt x (aB a) g;have:=M.oc (x.ak - 1).toNat (by omega);have h0:s.bx.countP (λq=>ju q (((x.ak - 1).toNat:Int)+1))=0:=by
     rw[List.countP_eq_zero];intro q l c;obtain⟨j,m⟩:=DL l;rw[Z.box m] at c;cases c
    rw[h0] at this;unfold tK;rw[this,decide_eq_true ⟨w1,i⟩];rfl
   unfold gV;rw[av h,eM (by exact a)];unfold gC;show((s.cs.set k (cq x.ls)).getD k _).ph=0;rw[Ar,CF f];rfl
theorem Zs.run: ∀(L:List Nat) {s:MS},Zs n s->(∀k∈L,k<n)->Zs n (iT s L)/\ ∀c,c∈L\/(gC s c).ph=0->(gC (iT s L) c).ph=0
 |[], _,Z, _=>⟨Z,λc h=>h.elim (λh=>by cases h) id⟩
 |k::L,s,Z,h=>by
  obtain⟨a,h1,b⟩:=Z.step (h k Az);obtain⟨d,f⟩:=Zs.run L a λk g=>h k (Ap _ g);refine⟨d,λc hc=>f c ?_⟩;by_cases e:c=k
  ·subst e;exact .inr h1
  ·rw[b c e];exact hc.imp (λhc=>(Du.1 hc).resolve_left e) id
structure Iz (n:Nat) (j:Nat) (s:MS):Prop where
 z:Zs n s
 id: ∀c,c<n->(gC s c).ph=0
 fG: ∀e∈s.ep.ws,e.2+(j:Int)<=s.ep.now
theorem Iz.step {j:Nat} (I:Iz n j s) {k:Nat} (f:k<n):Iz n (j+1) (aX s (k:Int)).1/\ ∀e∈(aX s (k:Int)).1.ep.ws,(aX s (k:Int)).1.ep.now<e.2+2:=by
 obtain⟨h,h1,i⟩:=I.z.step f;obtain⟨x,t,u⟩:=I.z.x.get f;have h0:x.ph=0:=by rw[<-u];exact I.id k f
 have v:(aX s (k:Int)).1=(cK s).1:=by
  rw[uj t];unfold Go.Proofs.YtlcenllcmeebhaaGreat.i_;rw[ao (by omega)];unfold tC;rw[I.z.none f];dsimp only;unfold bL;rw[av h0];rfl
 have l:(cK s).1.ep=AR (eZ s.ep):=by
  unfold cK;dsimp only;rw[Aa]
 have m:eZ s.ep={s.ep with now:=s.ep.now+1}:=by
  obtain⟨gh,ta,M⟩:=I.z.x;unfold eZ;rw[av];rw[List.all_eq_true];intro p w;obtain⟨c,hc⟩:=DL w;have o:c<n:=by rw[<-M.lp];exact(Am.1 hc).1
  obtain⟨y,A,B⟩:=I.z.x.get o;have g:=M.pn A;have C:y.ph=0:=by rw[<-B];exact I.id c o
  rw[C,ao (by decide),Ar,hc] at g;have g:p= -1:=g;rw[g];rfl
 rw[v] at h h1 i ⊢;have q: ∀e∈(cK s).1.ep.ws,e∈s.ep.ws/\s.ep.now+1<e.2+2:=λe d=>by
  rw[l,m] at d;obtain⟨a,b⟩:=H7.1 d;refine⟨a,?_⟩;have b: ¬ e.2+2<=s.ep.now+1:=by simpa using b
  omega
 have r:(cK s).1.ep.now=s.ep.now+1:=by rw[l,m];rfl
 refine⟨⟨h,λc hc=>?_,λe d=>?_⟩,λe d=>?_⟩
 ·by_cases e:c=k
  ·subst e;exact h1
  ·rw[i c e];exact I.id c hc
 ·have:=I.fG e (q e d).1;rw[r];omega
 ·rw[r];exact(q e d).2
theorem Iz.run: ∀(L:List Nat) {s:MS} {j:Nat},Iz n j s->(∀k∈L,k<n)->Iz n (j+L.length) (iT s L)/\(L≠[]-> ∀e∈(iT s L).ep.ws,(iT s L).ep.now<e.2+2)
 |[], _, _,I, _=>⟨I,λh=>absurd rfl h⟩
 |k::L,s,j,I,h=>by
  obtain⟨b,h1⟩:=I.step (h k Az);obtain⟨c,d⟩:=Iz.run L b λk f=>h k (Ap _ f);refine⟨?_,λ_=>?_⟩
  ·have:j+(k::L).length=j+1+L.length:=by rw[H6];omega
   rw[this];exact c
  ·cases L with
   |nil=>exact h1
   |cons a L=>exact d (by simp)
theorem Iz.On {j:Nat} (I:Iz n j s): ∀r,Iz n (j+r*n) (fU n r s)
 |0=>by rw[Nat.zero_mul];exact I
 |r+1=>by
  have:=(Iz.run (AL n) (Iz.On I r) sv).1;rw[Ee] at this;rw[Nat.succ_mul, <-Nat.add_assoc];exact this
theorem ends (X:mE n s): ∃s',s'=fU n 60 s/\mE n s'/\(∀(c:Nat) (x:bP),s'.cs[c]? =some x->x.ph=0)/\(∀(c:Nat) (q:List AK),s'.bx[c]? =some q->q=[])/\s'.ep.ws=[]/\ ∀(m:Nat) (d:DT),s'.h.s.2[m]? =some d->d.1≠5:=by
 have A:1<=n:=by obtain⟨_, _,M⟩:=X;exact M.nn.1
 have Z:Zs n (fU n 46 s):=⟨mD X 46,λc hc=>(calm X hc).1,(calm X (show 0<n by omega)).2⟩;obtain⟨l,h1⟩:=Zs.run (AL n) Z sv;have o:Iz n 0 (fU n 47 s):=⟨l,λc hc=>h1 c (.inl (Bx.2 hc)),λe g=>by
  obtain⟨_, _,M⟩:=l.x;have:=(M.wk e g).2.2;show e.2+0<= _;rw[Int.add_zero];exact this⟩
 have p:=o.On 12;obtain⟨f,j⟩:=Iz.run (AL n) p sv;have r:fU n 60 s=iT (fU n 12 (fU n 47 s)) (AL n):=by
  rw[show 60=47+13 from rfl,Df];rfl
 rw[<-r] at f j;refine⟨_,rfl,f.z.x,λc x i=>?_,λc q t=>f.z.box t,?_,?_⟩
 ·obtain⟨_, _,M⟩:=f.z.x;have hc:c<n:=by rw[<-M.lc];exact(Am.1 i).1
  have:=f.id c hc;unfold gC at this;rw[Ar,i] at this;exact this
 ·refine GI.2 λe g=>?_;have a:=f.fG e g;have b:=j (by
   intro c;have:=congrArg List.length c;rw[Ee] at this;exact absurd this (by show ¬ n=0;omega)) e g
  have:2<=0+12*n:=by omega
  have:(2:Int)<=((0+12*n+(AL n).length:Nat):Int):=by omega
  omega
 ·intro m d u v;obtain⟨_, _,M⟩:=f.z.x;have w:(fU n 60 s).ep.ws=[]:=by
   refine GI.2 λe g=>?_;have a:=f.fG e g;have b:=j (by
    intro c;have:=congrArg List.length c;rw[Ee] at this;exact absurd this (by show ¬ n=0;omega)) e g
   have:(2:Int)<=((0+12*n+(AL n).length:Nat):Int):=by omega
   omega
  rcases(M.kd u v).2 with k|⟨x,i,B, _⟩
  ·rw[w] at k;cases k
  ·obtain⟨c,hc⟩:=DL i;have y:c<n:=by rw[<-M.lc];exact(Am.1 hc).1
   have:=f.id c y;unfold gC at this;rw[Ar,hc] at this;have:x.ph=0:=this;omega
end
section
variable {gh dC:Gh} {ta:Int->Bool} {n:Nat} {s s':MS} {i:Nat}
theorem clean (X:mE n s) {c:Nat} {x:bP} (k:s.cs[c]? =some x) {l:LT} (o:l∈x.ls):(1<=l.1/\l.1<=16/\0<=l.2.1/\l.2.1<65536)/\ ∃(m:Nat) (d:DT),l.2.2.1=(m:Int)/\s.h.s.2[m]? =some d/\(d.1=4\/d.1=5)/\(s.bx[c]? =some []->d.1=4/\aV s.h.g l.1=true/\js s.h l.1.toNat l.2.1=(l.2.2.1,l.2.2.2.1,0,())):=by
 obtain⟨gh,ta,M⟩:=X;obtain⟨e,m,d,p,r,b⟩:=M.ln k l o;refine⟨e,m,d,p,r,?_,λhb=>?_⟩
 ·rcases b with b|b
  ·exact .inl b.1
  ·exact b.1
 ·rcases b with ⟨b,f⟩|⟨_,q,a,i,t, _⟩
  ·refine⟨b,?_,f⟩;cases j:s.h.g l.1.toNat with
   |none=>rw[fL j] at f;exact absurd (congrArg (λz=>z.2.2.1) f) (show ¬ (4:Int)=0 by decide)
   |some g=>exact b_.2 ⟨⟨e.1,e.2.1⟩,g,j⟩
  ·rw[hb] at i;cases i;cases t
def mkS (h:HS) (k:MT):HS:=if k.1=1 then kZ h k.2.1 k.2.2.2.1.1 k.2.2.2.1.2.1 k.2.2.2.1.2.2.1 k.2.2.2.1.2.2.2.1 else if k.1=2 then bD h (im h.s k.2.2.1) else if k.1=3 then h else bD h (cZ h.s.1 k.2.2.1 k.2.2.2.2.1,h.s.2)
structure aa8 (h:HS) (k:MT):Prop where
 kd:1<=k.1/\k.1<=4
 call:k.1=1->yx h k.2.1 k.2.2.2.1.1 k.2.2.2.1.2.1 k.2.2.2.1.2.2.1 k.2.2.2.1.2.2.2.1=k.2.2.2.2.1/\rN h k.2.1 k.2.2.2.1.1 k.2.2.2.1.2.1 k.2.2.2.1.2.2.1 k.2.2.2.1.2.2.2.1=k.2.2.2.2.2/\cJ k.2.2.2.1.2.1/\cJ k.2.2.2.1.2.2.1/\cJ k.2.2.2.1.2.2.2.1
 free:k.1=2->jy h.s k.2.2.1=0
 load:k.1=3->uZ h.s.1 k.2.2.1=true/\dK h.s.1 k.2.2.1=k.2.2.2.2.1/\k.2.2.2.2.2=0
 store:k.1=4->uZ h.s.1 k.2.2.1=true/\cJ k.2.2.2.2.1
inductive Rp:HS->List MT->HS->Prop
 |nil (h:HS):Rp h [] h
 |snoc {h h1:HS} {l:List MT} {k:MT} (r:Rp h l h1) (o:aa8 h1 k):Rp h (l++[k]) (mkS h1 k)
theorem Rp.add {h h1 a:HS} {l:List MT} {k:MT} (r:Rp h l h1) (o:aa8 h1 k) (e:mkS h1 k=a):Rp h (l++[k]) a:=by rw[<-e];exact .snoc r o
theorem Tg {h0:HS} (M:MI gh ta n s) (R:Rp h0 s.ms s.h) {f r:Int} (b:(f,r)∈s.ep.ws):Rp h0 (gW s f).ms (gW s f).h:=by
 obtain⟨e, _, _⟩:=M.wk _ b;obtain⟨m,d,a,g,i⟩:=M.k5 f e;have a:f=(m:Int):=a;obtain⟨_,j, _⟩:=M.hi.O8 g i;refine R.add ⟨(show 1<=(2:Int)/\(2:Int)<=4 by decide),λc=>absurd c (show ¬ (2:Int)=1 by decide),λ_=>?_,λc=>absurd c (show ¬ (2:Int)=3 by decide),λc=>absurd c (show ¬ (2:Int)=4 by decide)⟩ rfl;show jy s.h.s f=0;rw[a];exact j
theorem Fi {h0:HS}: ∀(L:List Int) {s:MS},MI gh ta n s->Rp h0 s.ms s.h->L.Nodup->(∀f∈L, ∃r,(f,r)∈s.ep.ws/\r+2<=s.ep.now)->Rp h0 (L.foldl gW s).ms (L.foldl gW s).h
 |[], _, _,R, _, _=>R
 |f::L,s,M,R,a,b=>by
  obtain⟨r,h1,e⟩:=b f Az;refine Fi L (M.gW h1 e) (Tg M R h1) (GH.1 a).2 λg d=>?_;obtain⟨r',i,j⟩:=b g (Ap _ d);refine⟨r',H7.2 ⟨i,?_⟩,j⟩;have:g≠f:=λc=>(GH.1 a).1 (by rw[<-c];exact d);simp[this]
theorem Kb {h0:HS} (M:MI gh ta n s) (R:Rp h0 s.ms s.h):Rp h0 (cK s).1.ms (cK s).1.h:=by
 rw[Fa M];refine Fi _ M.YG R ?_ λf a=>Dd.1 a;unfold oS;refine(lJ _).nodup_iff.2 ?_;exact M.YG.wn.sublist (List.filter_sublist.map _)
theorem CW (r:St) (i:Nat) (x:bP):(ig r i x).1.ms=r.1.ms/\(ig r i x).1.h=r.1.h:=by
 unfold ig;split<;>exact⟨rfl,rfl⟩
theorem WB {h0:HS} (M:MI gh ta n s) (R:Rp h0 s.ms s.h) {x:bP} (a:s.cs[i]? =some x):Rp h0 (fI s i x).1.ms (fI s i x).1.h:=by
 have b:=M.ar x (aB a);have key:Rp h0 (s.ms++[(1,x.vm,0,x.c,yx s.h x.vm x.c.1 x.c.2.1 x.c.2.2.1 x.c.2.2.2.1,rN s.h x.vm x.c.1 x.c.2.1 x.c.2.2.1 x.c.2.2.2.1)]) (kZ s.h x.vm x.c.1 x.c.2.1 x.c.2.2.1 x.c.2.2.2.1):=
  R.add ⟨(show 1<=(1:Int)/\(1:Int)<=4 by decide),λ_=>⟨rfl,rfl,b⟩,λc=>absurd c (show ¬ (1:Int)=2 by decide),λc=>absurd c (show ¬ (1:Int)=3 by decide),λc=>absurd c (show ¬ (1:Int)=4 by decide)⟩ rfl
 unfold fI;dsimp only;split
 ·split<;>exact key
 ·exact key
theorem Th {h0:HS} (M:MI gh ta n s) (R:Rp h0 s.ms s.h) {x:bP} (a:s.cs[i]? =some x) (e:x.ph=3):Rp h0 (fA s i x).1.ms (fA s i x).1.h:=by
 obtain⟨⟨m,d,f,g, _⟩, _⟩:=M.rc a e;have j:=M.ar x (aB a);have k:m<s.h.s.2.length:=(Am.1 g).1;have b:uZ s.h.s.1 (16*x.fr+x.c.2.1 % 16)=true:=by
  have:=M.hi.sz;rw[f];exact jj (by omega) (by omega)
 unfold fA;dsimp only;split
 ·exact R.add ⟨(show 1<=(4:Int)/\(4:Int)<=4 by decide),λc=>absurd c (show ¬ (4:Int)=1 by decide),λc=>absurd c (show ¬ (4:Int)=2 by decide),λc=>absurd c (show ¬ (4:Int)=3 by decide),λ_=>⟨b,j.2.1⟩⟩ rfl
 ·exact R.add ⟨(show 1<=(3:Int)/\(3:Int)<=4 by decide),λc=>absurd c (show ¬ (3:Int)=1 by decide),λc=>absurd c (show ¬ (3:Int)=2 by decide),λ_=>⟨b,rfl,rfl⟩,λc=>absurd c (show ¬ (3:Int)=4 by decide)⟩ rfl
theorem WC {h0:HS} (X:mE n s) (R:Rp h0 s.ms s.h) (k:Int):Rp h0 (aX s k).1.ms (aX s k).1.h:=by
 obtain⟨gh,ta,M⟩:=X;unfold aX;split
 ·exact R
 split
 ·exact R
 ·rename_i x b;unfold Go.Proofs.YtlcenllcmeebhaaGreat.i_;have d:=M.ph x (aB b);split
  ·rename_i c;rw[(CW _ _ _).1,(CW _ _ _).2];unfold bL;rw[ao (by omega),ao (by omega),ao (by omega),av c];exact Th M R b c
  ·rename_i c;split
   ·rename_i a;unfold tC at a;split at a
    ·cases a;exact R
    ·cases a
   ·rw[(CW _ _ _).1,(CW _ _ _).2];unfold bL;split
    ·exact Kb M R
    split
    ·unfold dg;split
     ·dsimp only;split<;>exact R
     split
     ·exact R
     split
     ·exact Kb M R
     ·exact WB M R b
    split
    ·unfold jY;dsimp only;split
     ·exact R
     split<;>exact R
    ·unfold gV;split<;>exact R
theorem aax {h0:HS} (R:Rp h0 s.ms s.h) (k vm:Int) (c:CT):Rp h0 (eB s k vm c).ms (eB s k vm c).h:=by
 unfold eB;split
 ·exact R
 split
 ·exact R
 ·split<;>exact R
end
section
variable {gh dC:Gh} {ta:Int->Bool} {n:Nat} {s s':MS} {i:Nat}
structure Ch (s s':MS) (k:Nat) (x x':bP):Prop where
 cs:s'.cs=s.cs.set k x'
 ls: ∀l∈x'.ls,l∈x.ls\/(x.ph=2/\s.bx[k]? =some []/\l.1=x.vm/\l.2.1=x.c.2.1 / 16/\js s.h x.vm.toNat (x.c.2.1 / 16)=(l.2.2.1,l.2.2.2.1,0,()))
 vc:x'.ph=0\/(x.ph≠0/\x'.vm=x.vm/\x'.c=x.c)
 p3:x'.ph=3->s.bx[k]? =some []/\((x.ph=1/\ ∃l∈x.ls,l.1=x.vm/\l.2.1=x.c.2.1 / 16/\l.2.2.1=x'.fr)\/(x.ph=2/\ ∃r,js s.h x.vm.toNat (x.c.2.1 / 16)=(x'.fr,r,0,())))
 p4:x'.ph=4->(x.ph=4/\x'.rs=x.rs)\/(x'.rs.2=0/\x.c.1≠6/\x.c.1≠7)
 md:s'.h=s.h\/s'.h=(cK s).1.h\/(x.ph=1/\s'.h=kZ s.h x.vm x.c.1 x.c.2.1 x.c.2.2.1 x.c.2.2.2.1)\/(x.ph=3/\x.c.1=7/\s'.h=bD s.h (cZ s.h.s.1 (16*x.fr+x.c.2.1 % 16) x.c.2.2.1,s.h.s.2))
 p2:x'.ph=2->x.ph=1\/x.ph=2
 bo: ∀j,j≠k-> ∀q,s.bx[j]? =some q-> ∃r,s'.bx[j]? =some (q++r)/\(x.ph=1->x.c.1=6->lX s.h x=true->r=[])/\(x.ph≠1->r=[])
theorem nW {s s':MS} {k:Nat} {x:bP} (hb:s'.bx=s.bx): ∀j,j≠k-> ∀q,s.bx[j]? =some q-> ∃r,s'.bx[j]? =some (q++r)/\(x.ph=1->x.c.1=6->lX s.h x=true->r=[])/\(x.ph≠1->r=[]):=λj _ q h=>⟨[],by rw[hb,DZ];exact h,λ_ _ _=>rfl,λ_=>rfl⟩
theorem Ch.idle {x:bP} {ls:List LT} (fh:s'.cs=s.cs.set i (cq ls)) (a:ls=x.ls) (md:s'.h=s.h\/s'.h=(cK s).1.h\/(x.ph=1/\s'.h=kZ s.h x.vm x.c.1 x.c.2.1 x.c.2.2.1 x.c.2.2.2.1)\/(x.ph=3/\x.c.1=7/\s'.h=bD s.h (cZ s.h.s.1 (16*x.fr+x.c.2.1 % 16) x.c.2.2.1,s.h.s.2))) (hb:s'.bx=s.bx:=by first|rfl|exact ui _):Ch s s' i x (cq ls):=
 ⟨fh,λl h=> .inl (by rw[<-a];exact h),.inl rfl,λc=>absurd c (show ¬ (0:Int)=3 by decide),λc=>absurd c (show ¬ (0:Int)=4 by decide),md,λc=>absurd c (show ¬ (0:Int)=2 by decide),nW hb⟩
theorem WE {bx:List (List AK)} {op:List Int} {t p:Int} {j:Nat} (b:j≠i) {q:List AK} (a:bx[j]? =some q): ∃r,(cL bx op i t p).2.1[j]? =some (q++r):=by
 unfold cL;split
 ·exact⟨[],by rw[DZ];exact a⟩
 split
 ·exact⟨[],by rw[DZ];exact a⟩
 ·refine⟨[((op.length:Int)+1,t,p,())],?_⟩;have:=post_at (i:=i) (x:=(((op.length:Int)+1,t,p,()):AK)) a;rw[ao b] at this;exact this
theorem Ti {x:bP} (g:s.cs[i]? =some x) (h1:x.ph=1): ∃x',Ch s (ig (fI s i x) i x).1 i x x':=by
 by_cases a:(x.c.1=2\/x.c.1=4\/x.c.1=5\/x.c.1=10)/\rN s.h x.vm x.c.1 x.c.2.1 x.c.2.2.1 x.c.2.2.2.1=0
 ·obtain⟨a,d⟩:=a;generalize b:fI s i x=r;unfold fI at b;dsimp only at b;rw[av a,ao (λc=>c d)] at b;subst b;exact⟨_,rfl,λl k=> .inl (ud k).1,.inr ⟨by omega,rfl,rfl⟩,λc=>absurd c (show ¬ (4:Int)=3 by decide),λ_=> .inr ⟨d,by omega,by omega⟩,.inr (.inr (.inl ⟨h1,rfl⟩)),λc=>absurd c (show ¬ (4:Int)=2 by decide),λj m q n=>(WE m n).imp λr h=>⟨h,λ_ c6 _=>(by omega),λc=>absurd h1 c⟩⟩
 ·have e: ∃(s1:MS) (x1:bP) (r:Int×Int),fI s i x=(s1,r,true)/\s1.h=kZ s.h x.vm x.c.1 x.c.2.1 x.c.2.2.1 x.c.2.2.2.1/\s1.cs=s.cs.set i x1/\x1.ls=x.ls/\s1.bx=s.bx:=by
   unfold fI;dsimp only;split
   ·rename_i o;rw[av λc=>a ⟨o,c⟩];exact⟨_,{x with rs:= _,fs:= _}, _,rfl,rfl,rfl,rfl,rfl⟩
   ·exact⟨_,{x with rs:= _,fs:= _}, _,rfl,rfl,rfl,rfl,rfl⟩
  obtain⟨s1,x1,r,p,t,f,u,v⟩:=e;rw[p];have w:s1.cs[i]? =some x1:=by rw[f,CF (Am.1 g).1]
  rw[qG w];refine⟨cq x1.ls,Ch.idle ?_ u (.inr (.inr (.inl ⟨h1,t⟩))) v⟩;show s1.cs.set i _= _;rw[f,Dn]
theorem NB {x:bP} (e:s.cs[i]? =some x) (h1:x.ph=1) (hb:s.bx[i]? =some []): ∃x',Ch s (ig (dg s i x) i x).1 i x x':=by
 unfold dg;cases g:lX s.h x with
 |true=>
  rw[av rfl];dsimp only;split
  ·rename_i a;have: ∃l∈x.ls,l.1=x.vm/\l.2.1=x.c.2.1 / 16/\l.2.2.1=(mT x.ls x.vm (x.c.2.1 / 16) (a7 x.c.1)).1:=by
    unfold mT at a ⊢;cases b:x.ls.find? (CI x.vm (x.c.2.1 / 16)) with
    |none=>rw[b] at a;exact absurd a (show ¬ (4:Int)=0 by decide)
    |some l=>
     rw[b] at a;dsimp only at a ⊢;split at a
     ·exact absurd a (show ¬ (7:Int)=0 by decide)
     ·rename_i c;rw[ao c];have d:=List.find?_some b;unfold CI at d;rw[Eo,beq_iff_eq,beq_iff_eq] at d;exact⟨l,IG b,d.1,d.2,rfl⟩
   exact⟨_,rfl,λl h=> .inl h,.inr ⟨by omega,rfl,rfl⟩,λ_=>⟨hb,.inl ⟨h1,this⟩⟩,λc=>absurd c (show ¬ (3:Int)=4 by decide),.inl rfl,λc=>absurd c (show ¬ (3:Int)=2 by decide),nW rfl⟩
  ·exact⟨_,rfl,λl h=> .inl h,.inr ⟨by omega,rfl,rfl⟩,λc=>absurd c (show ¬ (2:Int)=3 by decide),λc=>absurd c (show ¬ (2:Int)=4 by decide),.inl rfl,λ_=> .inl h1,nW rfl⟩
 |false=>
  rw[ao (by decide)];cases j:pa s i x with
  |true=>
   rw[av rfl,eM e];exact⟨_,Ch.idle rfl rfl (.inl rfl)⟩
  |false=>
   rw[ao (by decide)];split
   ·have f:(cK s).1.cs[i]? =some x:=by rw[j8];exact e
    rw[eM f];exact⟨_,Ch.idle (by rw[j8]) rfl (.inr (.inl rfl))⟩
   ·exact Ti e h1
theorem Tj (M:MI gh ta n s) {x:bP} (e:s.cs[i]? =some x) (b:x.ph=2) (hb:s.bx[i]? =some []): ∃x',Ch s (ig (jY s i x) i x).1 i x x':=by
 have r:=M.ar x (aB e);obtain⟨u,v,D⟩:=M.ac x (aB e) b;obtain⟨l,w1,w,z,d⟩:=M.wl e b;have q:=tQ ⟨r.1.1,v⟩;have g:x.wk=(x.wk.1,(l:Int),(0,0,0,0,())):=DM rfl (DM w1 z);obtain⟨A,B,E,C,F,G⟩:=tP M u;unfold jY;dsimp only;split
 ·exact⟨_,rfl,λl h=> .inl h,.inr ⟨by omega,rfl,rfl⟩,λc=>absurd (show x.ph=3 from c) (by omega),λc=>absurd (show x.ph=4 from c) (by omega),.inl rfl,λ_=> .inr b,nW rfl⟩
 split
 ·rw[qG (x1:={x with wk:=bA s.h.s.1 (x.c.2.1 / 16) (a7 x.c.1) x.wk}) (by exact(CF (Am.1 e).1))];refine⟨cq x.ls,Ch.idle ?_ rfl (.inl rfl)⟩;show(s.cs.set i _).set i _= _;rw[Dn]
 rename_i j f;have j:(bA s.h.s.1 (x.c.2.1 / 16) (a7 x.c.1) x.wk).2.1= -1:=GF j;have f:(bA s.h.s.1 (x.c.2.1 / 16) (a7 x.c.1) x.wk).2.2.2.2.2.1=0:=GF f;have k:bz s.h.s A.root false (x.c.2.1 / 16)=((bA s.h.s.1 (x.c.2.1 / 16) (a7 x.c.1) x.wk).2.2.1,(bA s.h.s.1 (x.c.2.1 / 16) (a7 x.c.1) x.wk).2.2.2.1,0,()):=by
  rcases d with d|d
  ·rcases M.hi.inv.ng M.hi.nl (t:=a7 x.c.1) C q d with ⟨m, _,o,a,H,k4⟩|⟨o,a⟩
   ·rw[<-g] at o;rw[j] at o;omega
   ·rw[<-g] at a;exact a f
  ·obtain⟨_,a⟩:=M.hi.inv.nh (t:=a7 x.c.1) q w d.1;rw[<-g,f] at a;exact absurd a (by decide)
 rw[<-bQ B] at k;refine⟨_,rfl,λy p=>?_,.inr ⟨by omega,rfl,rfl⟩,λ_=>⟨hb,.inr ⟨b, _,k⟩⟩,λc=>absurd c (show ¬ (3:Int)=4 by decide),.inl rfl,λc=>absurd c (show ¬ (3:Int)=2 by decide),nW rfl⟩;rcases Fc p with p|rfl
 ·exact .inl p
 ·exact .inr ⟨b,hb,rfl,rfl,k⟩
theorem chg (M:MI gh ta n s) {x:bP} (b:s.cs[i]? =some x): ∃x',Ch s (Go.Proofs.YtlcenllcmeebhaaGreat.i_ s i x).1 i x x':=by
 have z:=M.ph x (aB b);unfold Go.Proofs.YtlcenllcmeebhaaGreat.i_;split
 ·rename_i d;unfold bL;rw[ao (by omega),ao (by omega),ao (by omega),av d];have: ∃(s1:MS) (r:Int×Int),fA s i x=(s1,r,true)/\s1.cs=s.cs/\s1.bx=s.bx/\(s1.h=s.h\/(x.ph=3/\x.c.1=7/\s1.h=bD s.h (cZ s.h.s.1 (16*x.fr+x.c.2.1 % 16) x.c.2.2.1,s.h.s.2))):=by
   unfold fA;dsimp only;split
   ·rename_i m;exact⟨_, _,rfl,rfl,rfl,.inr ⟨d,m,rfl⟩⟩
   ·exact⟨_, _,rfl,rfl,rfl,.inl rfl⟩
  obtain⟨s1,r,o,g,p,t⟩:=this;rw[o,eM (x:=x) (by rw[g];exact b)];exact⟨_,Ch.idle (by rw[g]) rfl (t.imp id λc=> .inr (.inr c)) p⟩
 ·rename_i d;have u:i<s.bx.length:=by rw[M.lb, <-M.lc];exact(Am.1 b).1
  unfold tC;cases f:s.bx[i]? with
  |none=>rw[Be u] at f;cases f
  |some q=>
   cases q with
   |cons a q=>
    refine⟨_,rfl,λl v=> .inl (ud v).1,?_,λc=>absurd c d,λc=> .inl ⟨c,rfl⟩,.inl rfl,λc=> .inr c,λj w A y=>⟨[],by rw[DZ];show(s.bx.set i q)[j]? = _;rw[E4 (λe=>w e.symm)];exact y,λ_ _ _=>rfl,λ_=>rfl⟩⟩;by_cases h0:x.ph=0
    ·exact .inl h0
    ·exact .inr ⟨h0,rfl,rfl⟩
   |nil=>
    dsimp only;unfold bL;split
    ·rename_i h0;exact⟨x,by show(cK s).1.cs= _;rw[j8,uh b],λl h=> .inl h,.inl h0,λc=>absurd c d,λc=> .inl ⟨c,rfl⟩,.inr (.inl rfl),λc=> .inr c,nW (ui s)⟩
    split
    ·rename_i h1;exact NB b h1 f
    split
    ·rename_i k;exact Tj M b k f
    ·rename_i h0 h1 k;unfold gV;split
     ·rw[eM (by exact b)];exact⟨_,Ch.idle rfl rfl (.inl rfl)⟩
     ·exact⟨x,(uh b).symm,λl h=> .inl h,.inr ⟨h0,rfl,rfl⟩,λc=>absurd c d,λc=> .inl ⟨c,rfl⟩,.inl rfl,λc=> .inr c,nW rfl⟩
theorem Fj (X:mE n s) (k:Int):(aX s k).1=s\/ ∃(c:Nat) (x x':bP),k=(c:Int)/\s.cs[c]? =some x/\Ch s (aX s k).1 c x x':=by
 obtain⟨gh,ta,M⟩:=X;by_cases b:k<0
 ·left;unfold aX;rw[av b]
 ·cases a:s.cs[k.toNat]? with
  |none=>left;unfold aX;rw[ao b,a]
  |some x=>
   obtain⟨x',C⟩:=chg M a;refine .inr ⟨k.toNat,x,x',by omega,a,?_⟩;have e:aX s k=Go.Proofs.YtlcenllcmeebhaaGreat.i_ s k.toNat x:=by unfold aX;rw[ao b,a]
   rw[e];exact C
end
section
variable {gh dC:Gh} {ta:Int->Bool} {n:Nat} {s s':MS} {i:Nat} {N:Int->Int->Prop}
structure Nm (N:Int->Int->Prop) (s:MS):Prop where
 ln: ∀x∈s.cs, ∀l∈x.ls,N l.1 l.2.1
 ca: ∀x∈s.cs,x.ph≠0->x.c.1=6\/x.c.1=7->N x.vm (x.c.2.1 / 16)
theorem Nm.step (H:Nm N s) (X:mE n s) (k:Int):Nm N (aX s k).1:=by
 rcases Fj X k with e|⟨c,x,x', _,j,C⟩
 ·rw[e];exact H
 obtain⟨gh,ta,M⟩:=X;have b:=aB j;refine⟨λy a l i=>?_,λy a h0 f=>?_⟩
 ·rw[C.cs] at a;rcases iu a with rfl|a
  ·rcases C.ls l i with h|⟨m, _,g,d, _⟩
   ·exact H.ln x b l h
   ·rw[g,d];exact H.ca x b (by omega) (M.ac x b m).2.2
  ·exact H.ln y a l i
 ·rw[C.cs] at a;rcases iu a with rfl|a
  ·rcases C.vc with h|⟨o,g,d⟩
   ·exact absurd h h0
   ·rw[g,d];rw[d] at f;exact H.ca x b o f
  ·exact H.ca y a h0 f
theorem Nm.ask (H:Nm N s) (k vm:Int) {c:CT} (hc:c.1=6\/c.1=7->N vm (c.2.1 / 16)):Nm N (eB s k vm c):=by
 unfold eB;split
 ·exact H
 cases e:s.cs[k.toNat]? with
 |none=>exact H
 |some x=>
  dsimp only;split
  ·refine⟨λy a l b=>?_,λy a h0 d=>?_⟩
   ·rcases iu (show y∈s.cs.set _ _ from a) with rfl|a
    ·exact H.ln x (aB e) l b
    ·exact H.ln y a l b
   ·rcases iu (show y∈s.cs.set _ _ from a) with rfl|a
    ·exact hc d
    ·exact H.ca y a h0 d
  ·exact H
theorem Nm.new (f:Nat) (l:Int):Nm N (m0 f n l):=⟨λx a l b=>(by rw[E5 a] at b;cases b),λx a h0=>(by rw[E5 a] at h0;exact absurd rfl h0)⟩
theorem Nm.run: ∀(L:List Nat) {s:MS},Nm N s->mE n s->Nm N (iT s L)
 |[], _,H, _=>H
 |k::L, _,H,X=>Nm.run L (H.step X k) (X.step k)
theorem Nm.On (H:Nm N s) (X:mE n s): ∀r,Nm N (fU n r s)
 |0=>H
 |r+1=>Nm.run _ (Nm.On H X r) (mD X r)
structure Oo (s:MS):Prop where
 r: ∀x∈s.cs,x.ph=4->x.rs.2=0
theorem Oo.step (H:Oo s) (X:mE n s) (k:Int):Oo (aX s k).1:=by
 rcases Fj X k with e|⟨c,x,x', _,d,C⟩
 ·rw[e];exact H
 refine⟨λy a b=>?_⟩;rw[C.cs] at a;rcases iu a with rfl|a
 ·rcases C.p4 b with ⟨f,g⟩|e
  ·rw[g];exact H.r x (aB d) f
  ·exact e.1
 ·exact H.r y a b
theorem Oo.ask (H:Oo s) (k vm:Int) (c:CT):Oo (eB s k vm c):=by
 unfold eB;split
 ·exact H
 cases d:s.cs[k.toNat]? with
 |none=>exact H
 |some x=>
  dsimp only;split
  ·refine⟨λy a b=>?_⟩;rcases iu (show y∈s.cs.set _ _ from a) with rfl|a
   ·exact absurd b (show ¬ (1:Int)=4 by decide)
   ·exact H.r y a b
  ·exact H
theorem Oo.new (f:Nat) (l:Int):Oo (m0 f n l):=⟨λx b a=>by rw[E5 b] at a;exact absurd a (show ¬ (0:Int)=4 by decide)⟩
end
theorem c1: ¬ (1:Int)=12:=by decide
theorem c2: ¬ (2:Int)=12:=by decide
theorem c3: ¬ (3:Int)=12:=by decide
theorem c4: ¬ (4:Int)=12:=by decide
theorem c5: ¬ (5:Int)=12:=by decide
theorem c6: ¬ (6:Int)=12:=by decide
theorem c7: ¬ (7:Int)=12:=by decide
theorem c9: ¬ (9:Int)=12:=by decide
theorem YI: ¬ (10:Int)=12:=by decide
theorem c11: ¬ (11:Int)=12:=by decide
section
variable {gh:Gh} {h:HS}
theorem ND (H:HI gh h) {v:Int} (k:aV h.g v=true) {p:Int} (a:0<=p/\p<65536):vi (a9 h.g v) p 0=false/\(((nr h.s.1 (a9 h.g v) p 0).2.2.2.1=0/\ ∃(m:Nat) (d:DT),(nr h.s.1 (a9 h.g v) p 0).1=(m:Int)/\h.s.2[m]? =some d/\d.1=4)\/(nr h.s.1 (a9 h.g v) p 0).2.2.2.1=4):=by
 obtain⟨x,f,n,hv, _⟩:=bZ k;have b:=H.root f;have c:=H.inv.P1 H.nl b a (t:=0) (by decide);rw[n];obtain⟨o,q,z⟩:=H.inv.vU b;refine⟨?_,?_⟩
 ·unfold vi;have r:dV x.root p 3=16*x.root+px 3 p % 16:=lz ⟨o,q⟩ a (l:=3) (by omega);have A:=dY p 3;rw[r,decide_eq_false (by omega),decide_eq_false (by omega),decide_eq_false (by omega)];rfl
 ·by_cases e:(bz h.s x.root false p).2.2.1=0
  ·rw[av e] at c;have u:nj h v.toNat p=some (bz h.s x.root false p).1:=by rw[cQ f,av e]
   obtain⟨m,d,h1,w,y, _⟩:=H.Uh u;obtain⟨f0,B, _,i⟩:=H.inv.mA b a;have j:=(H.inv.Ws b a i).2.2;rw[<-H.inv.fW b a i] at j;refine .inl ⟨j.2 e,m,d,?_,w,y⟩;rw[c];exact h1
  ·rw[ao e] at c;exact .inr c
end
section
variable {gh dC:Gh} {ta:Int->Bool} {n:Nat} {s s':MS} {i:Nat}
theorem Fk {x:bP} (a:s.cs[i]? =some x) (h0:x.ph=0) (vm:Int) (c:CT):eB s (i:Int) vm c=cj s i {x with ph:=1,vm:=vm,c:=c}/\tD s (i:Int)=0:=by
 refine⟨?_,?_⟩
 ·unfold eB;rw[ao (by omega)];show(match s.cs[i]? with|none=> _|some x=> _)= _;rw[a];exact av h0
 ·unfold tD;rw[ao (by omega)];show(match s.cs[i]? with|none=>(2:Int)|some x=> _)= _;rw[a];exact av h0
theorem quick {x:bP} (d:s.cs[i]? =some x) (h0:x.ph=0) (hb:s.bx[i]? =some []) {vm:Int} {c:CT} (m: ¬ (c.1=2\/c.1=4\/c.1=5\/c.1=10)) (n:a7 c.1=0) (o:c.1≠17) (a:pa s i {x with ph:=1,vm:=vm,c:=c}=false):
 aX (eB s (i:Int) vm c) (i:Int)=({s with h:=kZ s.h vm c.1 c.2.1 c.2.2.1 c.2.2.2.1,kn:=s.kn++e8 s (kZ s.h vm c.1 c.2.1 c.2.2.1 c.2.2.2.1),ms:=s.ms++[(1,vm,0,c,yx s.h vm c.1 c.2.1 c.2.2.1 c.2.2.2.1,rN s.h vm c.1 c.2.1 c.2.2.1 c.2.2.2.1)],cs:=s.cs.set i (cq x.ls)},(yx s.h vm c.1 c.2.1 c.2.2.1 c.2.2.2.1,rN s.h vm c.1 c.2.1 c.2.2.1 c.2.2.2.1),true):=by
 have f:i<s.cs.length:=(Am.1 d).1;rw[(Fk d h0 vm c).1];generalize b:({x with ph:=1,vm:=vm,c:=c}:bP)=y at a ⊢;have p:y.ph=1:=by rw[<-b]
 have hc:y.c=c:=by rw[<-b]
 have hv:y.vm=vm:=by rw[<-b]
 have q:y.ls=x.ls:=by rw[<-b]
 have g:(cj s i y).cs[i]? =some y:=CF f;rw[uj g];unfold Go.Proofs.YtlcenllcmeebhaaGreat.i_;rw[ao (by omega)];unfold tC;rw[show(cj s i y).bx[i]? =some [] from hb];dsimp only;unfold bL;rw[ao (by omega),av p];unfold dg;have r:lX (cj s i y).h y=false:=by unfold lX;rw[hc,n];rfl
 have t:pa (cj s i y) i y=false:=by
  unfold pa at a ⊢;rw[GG] at a ⊢;intro j l;have u:j∈AL s.cs.length:=by
   show j∈AL s.cs.length;rw[show(cj s i y).cs.length=s.cs.length from DA] at l;exact l
  have:=a j u;by_cases e:j=i
  ·subst e;rw[g];simp
  ·rw[show(cj s i y).cs[j]? =s.cs[j]? from E4 (λk=>e k.symm)];exact this
 rw[r,t,ao (by decide),ao (by decide),ao (λk=>o (by rw[hc] at k;rw[k.2]))];unfold fI;dsimp only;rw[hc,ao m,hv];unfold ig;rw[av rfl];dsimp only;have v: ∀(x1:bP),((s.cs.set i y).set i x1).getD i y=x1:=λx1=>by
  rw[Dn,Ar,CF f];rfl
 unfold cj;dsimp only;rw[v];dsimp only;rw[Dn,Dn,q];rfl
theorem Tk (a: ∀y∈s.cs,y.ph=0) (x:bP):pa s i x=false:=by
 unfold pa;rw[GG];intro j _;cases b:s.cs[j]? with
 |none=>simp
 |some y=>
  have:=a y (aB b);dsimp only;rw[this];simp
theorem Tl {h:HS} (H:HI gh h) {v:Nat} (a:mR h.g=some v) (hc:0<cd h.s.2 0):rN h 0 1 0 0 0=0/\yx h 0 1 0 0 0=(v:Int)/\(kZ h 0 1 0 0 0).g=bq h.g v (some ⟨eA h.s (v:Int),[]⟩)/\cd (kZ h 0 1 0 0 0).s.2 0+1=cd h.s.2 0:=by
 have b:iZ h 0 1 0 0 0=0:=rfl;obtain⟨h1,f,m⟩:=He b;have hv:=(nZ.1 a).1;have c:rL h.s (v:Int)=0:=H.inv.aaj (by omega) hc;have d:(run h 0 1 0 0 0).1={h with s:=iQ h.s (v:Int) λ_=>0,g:=bq h.g v (some ⟨eA h.s (v:Int),[]⟩)}:=by
  show gU h= _;unfold gU;rw[a];exact av c
 have e:(run h 0 1 0 0 0).2.2=0:=by
  show pE h=0;unfold pE;rw[a];exact c
 have i:(run h 0 1 0 0 0).2.1=(v:Int):=by
  show Bc h=(v:Int);unfold Bc;rw[a]
 refine⟨f.trans e,?_,?_,?_⟩
 ·unfold yx;rw[av b,av e];exact i
 ·rw[h1,d]
 ·rw[h1,d];show cd (dF h.s.2 3 (v:Int)) 0+1= _;obtain⟨j, _,k, _, _,l⟩:=m_ (ds:=h.s.2) (o:=(v:Int)) hc H.inv.fz (by omega);rw[l];have:=tN (d':=((3:Int),(v:Int),(0:Int),(0:Int),())) k 0;rw[av (show zD.1=0 from rfl),ao (show ¬ (3:Int)=0 by decide)] at this;omega
end
section
variable {gh dC:Gh} {n:Nat} {s s':MS} {f:Nat} {l:Int}
def OM (h:HS):Prop:= ∀i q,nj h i q=none
theorem OM.D6 {h:HS} (H:HI gh h) (b:OM h):OM (kZ h 0 1 0 0 0):=λi q=>by
 obtain⟨g',d,E, _⟩:=H.Hd;have e:kZ h 0 1 0 0 0=gU h:=(He (show iZ h 0 1 0 0 0=0 from rfl)).1;rw[e];cases a:nj (gU h) i q with
 |none=>rfl
 |some x=>
  obtain⟨_, _,f,g⟩:=d.hc.jo a;have:=b i q;rw[sr,E.pg.to (λc=>c ⟨f,g⟩), <-sr,this] at a;cases a
abbrev xz:CT:=(1,0,0,0,())
structure Bg (f n:Nat) (l:Int) (k:Nat) (s:MS):Prop where
 x:mE n s
 r:Oo s
 np:OM s.h
 cs:s.cs=Cf n (cq [])
 bx:s.bx=Cf n []
 kn:s.kn=[]
 op:s.op=[]
 ws:s.ep.ws=[]
 sz:s.sz=l
 len:s.h.s.2.length=f
 cnt:cd s.h.s.2 0+k=f
 live: ∀v:Int,aV s.h.g v=true<->1<=v/\v<=(k:Int)
 rp:Rp (h0 f) s.ms s.h
 nm: ∀N:Int->Int->Prop,Nm N s
theorem Bg.new (d:20<=f/\f<=4096) (a:1<=n/\n<=8) (b:1<=l/\l<=64):Bg f n l 0 (m0 f n l) where
 x:=mE.new (by omega) a b
 r:=Oo.new f l
 np:=λi q=>rfl
 cs:=rfl
 bx:=rfl
 kn:=rfl
 op:=rfl
 ws:=rfl
 sz:=rfl
 len:=Ea
 cnt:=by
  show cd (Cf f zD) 0+0=f;rw[V8,av rfl];rfl
 live:=λv=>by
  constructor
  ·intro h;obtain⟨_,x,c⟩:=b_.1 h;cases c
  ·intro h;omega
 rp:= .nil _
 nm:=λN=>Nm.new f l
theorem WG {α:Type} (n i:Nat) (x:α):(Cf n x).set i x=Cf n x:=by
 refine IN λj=>?_;rw[IQ];split
 ·rename_i e;subst e;rw[Ea,GJ]
 ·rfl
theorem Bg.D6 {k:Nat} (b:Bg f n l k s) (H:k<16) (I:k<f) (J:1<=n):(aX (eB s 0 0 xz) 0).2=((((k+1:Nat):Int),0),true)/\Bg f n l (k+1) (aX (eB s 0 0 xz) 0).1/\tD s 0=0:=by
 have e:s.cs[0]? =some (cq []):=by rw[b.cs,GJ,av (by omega)]
 have hb:s.bx[0]? =some []:=by rw[b.bx,GJ,av (by omega)]
 have w: ∀y∈s.cs,y.ph=0:=λy o=>by rw[b.cs] at o;rw[E5 o];rfl
 have q:=quick (vm:=0) (c:=xz) e rfl hb (show ¬ ((1:Int)=2\/(1:Int)=4\/(1:Int)=5\/(1:Int)=10) by decide) rfl (show ¬ (1:Int)=17 by decide) (Tk w _);have X':=(b.x.ask 0 0 (c:=xz) (show cJ 0/\cJ 0/\cJ 0 by decide)).step 0;have z:=(b.r.ask 0 0 xz).step (b.x.ask 0 0 (c:=xz) (show cJ 0/\cJ 0/\cJ 0 by decide)) 0;have A:=WC (b.x.ask 0 0 (c:=xz) (show cJ 0/\cJ 0/\cJ 0 by decide)) (aax b.rp 0 0 xz) 0;have B: ∀N:Int->Int->Prop,Nm N (aX (eB s 0 0 xz) 0).1:=λN=>((b.nm N).ask 0 0 (c:=xz) (λc=>absurd c (show ¬ ((1:Int)=6\/(1:Int)=7) by decide))).step (b.x.ask 0 0 (c:=xz) (show cJ 0/\cJ 0/\cJ 0 by decide)) 0;have q:aX (eB s 0 0 xz) 0= _:=q;obtain⟨gh,ta,M⟩:=b.x;have C:mR s.h.g=some (k+1):=by
  refine nZ.2 ⟨by omega,?_,λu K L=>?_⟩
  ·cases j:s.h.g (k+1) with
   |none=>rfl
   |some g=>
    have:=(b.live ((k+1:Nat):Int)).1 (b_.2 ⟨by omega,g,j⟩);omega
  ·obtain⟨_,g,j⟩:=b_.1 ((b.live (u:Int)).2 (by omega));have j:s.h.g u=some g:=j;rw[j];rfl
 obtain⟨c1,c2,c3,c4⟩:=Tl M.hi C (by have:=b.cnt;omega);have nn:NN s.h.s (kZ s.h 0 1 0 0 0).s:=by
  rw[(He (show iZ s.h 0 1 0 0 0=0 from rfl)).1];exact NN.D6 s.h
 have D:e8 s (kZ s.h 0 1 0 0 0)=[]:=by
  refine GI.2 λg j=>?_;obtain⟨m,d, _,E,F, _⟩:=iv.1 j;obtain⟨d0,p,t⟩:=nn.to E F;have:=(M.kd p t).1;rw[b.kn] at this;cases this
 refine⟨?_,⟨X',z,?_,?_,?_,?_,?_,?_,?_,?_,?_,λv=>?_,A,B⟩,(Fk (i:=0) e rfl 0 xz).2⟩
 ·rw[q];show((yx s.h 0 1 0 0 0,rN s.h 0 1 0 0 0),true)= _;rw[c1,c2]
 ·rw[q];exact b.np.D6 M.hi
 ·rw[q];show s.cs.set 0 (cq [])= _;rw[b.cs,WG]
 ·rw[q];exact b.bx
 ·rw[q];show s.kn++e8 s (kZ s.h 0 1 0 0 0)=[];rw[D,b.kn];rfl
 ·rw[q];exact b.op
 ·rw[q];exact b.ws
 ·rw[q];exact b.sz
 ·rw[q];show(kZ s.h 0 1 0 0 0).s.2.length=f;rw[<-b.len];obtain⟨g',G⟩:=M.hi.step 0 1 0 0 (a:=0) (by decide);have p:=G.sz;have t:=M.hi.sz;have O:=P8 s.h 0 1 0 0 0;omega
 ·rw[q];show cd (kZ s.h 0 1 0 0 0).s.2 0+(k+1)=f;have:=b.cnt;omega
 ·rw[q];show aV (kZ s.h 0 1 0 0 0).g v=true<-> _;rw[c3];constructor
  ·intro h;obtain⟨hv,x,e⟩:=b_.1 h;unfold bq at e;split at e
   ·omega
   ·have:=(b.live v).1 (b_.2 ⟨hv,x,e⟩);omega
  ·intro h;refine b_.2 ⟨by omega,?_⟩;unfold bq;split
   ·exact⟨_,rfl⟩
   ·obtain⟨_,x,e⟩:=b_.1 ((b.live v).2 (by omega));exact⟨x,e⟩
def D7 (f n:Nat) (l:Int):MS:=(aX (eB (aX (eB (m0 f n l) 0 0 xz) 0).1 0 0 xz) 0).1
theorem WH (b:20<=f/\f<=4096) (a:1<=n/\n<=8) (c:1<=l/\l<=64):(aX (eB (m0 f n l) 0 0 xz) 0).2=((1,0),true)/\(aX (eB (aX (eB (m0 f n l) 0 0 xz) 0).1 0 0 xz) 0).2=((2,0),true)/\Bg f n l 2 (D7 f n l):=by
 obtain⟨a1,d, _⟩:=(Bg.new b a c).D6 (by decide) (by omega) a.1;obtain⟨e,g, _⟩:=d.D6 (by decide) (by omega) a.1;exact⟨a1,e,g⟩
end
section
variable {gh dC:Gh} {n:Nat} {s s':MS} {f:Nat} {l:Int}
structure Bd (f n:Nat) (l p b F:Int) (s:MS):Prop where
 x:mE n s
 r:Oo s
 pg:js s.h 1 p=(F,b,0,())
 only: ∀i q g,nj s.h i q=some g->i=1/\q=p
 cs:s.cs=Cf n (cq [])
 bx:s.bx=Cf n []
 kn:s.kn=[]
 op:s.op=[]
 ws:s.ep.ws=[]
 sz:s.sz=l
 live: ∀v:Int,aV s.h.g v=true<->1<=v/\v<=2
 fr: ∃(m:Nat) (d:DT),F=(m:Int)/\s.h.s.2[m]? =some d/\d.1=4/\d.2.1=1
end
section
variable {n:Nat} {s:MS}
structure Ret (n:Nat) (s:MS):Prop where
 x:mE n s
 np:OM s.h
 k6: ∀(c:Nat) (x:bP),1<=c->s.cs[c]? =some x->x.ph≠4/\(x.ph≠0->x.c.1=6)
 c0: ∀x:bP,s.cs[0]? =some x->x.ph=0\/x.ph=4
 j: ∀(c:Nat) (x:bP),s.cs[c]? =some x->x.ph=3->s.bx[c]? ≠some []
end
end Go.Proofs.YtlcenllcmeebhaaGreat
namespace Go.Proofs.YtlcenllcmeebhaaGreat.Mu
set_option maxRecDepth 100000
open Go.RX
abbrev eP:El:= .one .ptr
abbrev eMk:El:= .agg sMk
abbrev MkT:Type:=Int×Int×Int×Int×Int×Int×Int×Int×Int×Unit
abbrev YJ (m:MT):MkT:=(m.1,m.2.1,m.2.2.1,m.2.2.2.1.1,m.2.2.2.1.2.1,m.2.2.2.1.2.2.1,m.2.2.2.1.2.2.2.1,m.2.2.2.2.1,m.2.2.2.2.2,())
structure CA where
 cb:Nat
 tb:Nat
 st:Option AM×Nat×Nat
 sf:Option AM×Nat×Nat
 wp:Option AM
 Lt:List (Nat×List AC)
 Lf:List (Nat×List AC)
 Lw:List (Nat×List AC)
abbrev jT (a:CA) (i:Nat) (x:bP):List AC:=
 [aa (i:Int),ag (af a.tb),aa x.ph,aa x.vm,aa x.c.1,ay x.c.2.1,ay x.c.2.2.1,ay x.c.2.2.2.1,ag a.wp,aa x.fr,ay x.rs.1,aa x.rs.2,aa x.ak,.slice a.sf.1 a.sf.2.1 a.sf.2.2]
def WkW (a:CA) (x:bP):Prop:= ∃(bk:Nat) (s:Option AM×Nat×Nat) (b:List (Nat×List AC)) (xs:List Int),a.wp=some ⟨bk,0,none⟩/\a.Lw=(bk,lS x.wk.1 (x.c.2.1 / 16) (a7 x.c.1) x.wk.2.1 x.wk.2.2 s)::b/\Co b s xs/\(xs.length:Int)<=3 - x.wk.2.1
structure TR (a:CA) (x:bP):Prop where
 ls:dx jP a.st x.ls a.Lt
 fs:dx eI a.sf x.fs a.Lf
 wk:x.ph=2->WkW a x
def th (a:CA) (i:Nat) (x:bP) (sz:Int):List (Nat×List AC):=(a.cb,jT a i x)::(a.tb,dq a.st sz)::(a.Lt++(a.Lf++a.Lw))
structure MB where
 mb:Nat
 eb:Nat
 xb:Nat
 kb:Nat
 wb:Nat
 sc:Option AM×Nat×Nat
 sm:Option AM×Nat×Nat
 sp:Option AM×Nat×Nat
 sb:Option AM×Nat×Nat
 so:Option AM×Nat×Nat
 Lc:List (Nat×List AC)
 Lm:List (Nat×List AC)
 Lp:List (Nat×List AC)
 Lb:List (Nat×List AC)
 Lo:List (Nat×List AC)
 cr:List CR
 ke:List Do
 we:List Do
 kk:Nat
 wk:Nat
 A:Nat->CA
abbrev r_ (X:HX) (B:MB):List AC:=[ag (af X.hb),ag (af B.eb),ag (af B.xb),.slice B.sc.1 B.sc.2.1 B.sc.2.2,.map (some B.kb),.slice B.sm.1 B.sm.2.1 B.sm.2.2]
def ij (B:MB) (s:MS) (l:List Nat):List (Nat×List AC):=l.flatMap λi=>match s.cs[i]? with
 |some x=>th (B.A i) i x s.sz
 |none=>[]
abbrev yS (B:MB) (n:Nat):List (Option AM):=(AL n).map λi=>some ⟨(B.A i).cb,0,none⟩
structure MWf (B:MB) (s:MS):Prop where
 c:dx eP B.sc (yS B s.cs.length) B.Lc
 m:dx eMk B.sm (s.ms.map YJ) B.Lm
 p:dx eI B.sp s.ep.pins B.Lp
 b:dx eC B.sb (dL B.cr) B.Lb
 o:dx eI B.so s.op B.Lo
 l:B.cr.length=s.bx.length
 k:iC B.ke B.kk (s.kn.map λf=>(f,.bool true))
 w:iC B.we B.wk (s.ep.ws.map FZ)
 a: ∀{i x},s.cs[i]? =some x->TR (B.A i) x
def yT (s:WD):Prop:=0<s.1.length/\0<s.2.length/\s.2.length<=4096/\okW s.1
abbrev IM (X:HX) (B:MB) (s:MS):List (Nat×List AC):=(B.mb,r_ X B)::(B.eb,oM s.ep.now B.sp B.wb)::(B.xb,kz B.sb B.so)::(B.Lc++(B.Lm++(B.Lp++(B.Lb++B.Lo))))
abbrev mob (B:MB) (s:MS):List (Nat×B3):=(B.kb,.map ⟨B.ke⟩ B.kk)::(B.wb,.map ⟨B.we⟩ B.wk)::om B.cr s.bx
abbrev F8 (Q:Sys) (X:HX) (A:Nat->GA) (ca la:Int) (h:HS):List (Nat×List AC):=Q.L ca la h.s (dZ Q X A h (bh Q A h.g (AL 17)))
def iz (Q:Sys) (X:HX) (D G:List Nat) (w0 w:A1) (B:MB) (s:MS) (T L:List (Nat×List AC)) (M:List (Nat×B3)):Prop:=
 ∃(A:Nat->GA) (ca la:Int),DN A s.h/\yT s.h.s/\MWf B s/\cB D G w0 w (T++(IM X B s++(ij B s (AL s.cs.length)++(F8 Q X A ca la s.h++L)))) (mob B s++(dm A s.h.g (AL 17)++M))
theorem bY {α:Type} {c d:List α} (h: ∀[BEq α] [LawfulBEq α] (a:α),c.count a=d.count a):c.Perm d:=by
 letI:DecidableEq α:=λa b=>Classical.propDecidable (a=b)
 exact List.perm_iff_count.2 λa=>h a
section
variable {Q:Sys} {X:HX} {D G:List Nat} {w0 w w1:A1} {B:MB} {s:MS} {T L:List (Nat×List AC)} {M:List (Nat×B3)}
theorem iz.ext (H:iz Q X D G w0 w B s T L M) (h:Ext w w1):iz Q X D G w0 w1 B s T L M:=by
 obtain⟨A,ca,la,h1,a,b,c⟩:=H;exact⟨A,ca,la,h1,a,b,c.ext h⟩
theorem iz.wf (H:iz Q X D G w0 w B s T L M):MWf B s:=by
 obtain⟨A,ca,la,h1,b,a,c⟩:=H;exact a
theorem iz.all (H:iz Q X [] [] w0 w B s T L M):Ext w0 w:=by
 obtain⟨A,ca,la,h1,b,c,a⟩:=H;exact a.all
theorem iz.tmp (H:iz Q X D G w0 w B s T L M): ∃R a,cB D G w0 w (T++R) a/\(∀x∈IM X B s,x∈R)/\(∀x∈mob B s,x∈a)/\(∀{i x},s.cs[i]? =some x-> ∀y∈th (B.A i) i x s.sz,y∈R)/\ ∀{T' w'},cB D G w0 w' (T'++R) a->iz Q X D G w0 w' B s T' L M:=by
 obtain⟨A,ca,la,h1,c,d,e⟩:=H;refine⟨_, _,e,λx b=>B4 _ b,λx b=>B4 _ b,λ{i x} hi y f=>B1 _ (B4 _ ?_),λh=>⟨A,ca,la,h1,c,d,h⟩⟩;unfold ij;exact HB.2 ⟨i,Bx.2 (Am.1 hi).1,by rw[hi];exact f⟩
theorem iz.al (H:iz Q X D G w0 w B s T L M) {cs:List AC} {e:TypeId} {K:Nat->A1->Prop} (k: ∀b w1,iz Q X D G w0 w1 B s ((b,cs)::T) L M->K b w1):aN w ⟨cs⟩ e K:=by
 obtain⟨R,a,H, _, _, _,J⟩:=H.tmp;exact alM H λb w1 H=>k b w1 (J H)
theorem iz.st (H:iz Q X D G w0 w B s T L M) (i:Nat) {b:Nat} {l vs:List AC} {K:A1->Prop} (a:T[i]? =some (b,l)) (c:vs.all (·.oneCell')=true) (d:vs.length=l.length) (k: ∀w1,iz Q X D G w0 w1 B s (T.set i (b,vs)) L M->K w1):aC w (af b) vs K:=by
 obtain⟨R,e,H, _, _, _,J⟩:=H.tmp;have hi:=(Am.1 a).1;refine stB H i (by rw[FK hi];exact a) c d λw1 H=>k w1 (J ?_);rw[List.set_append_left _ _ hi] at H;exact H
theorem iz.ld (H:iz Q X D G w0 w B s T L M) (i:Nat) {g:Option Bool} {el:El} {K:el.T->Prop} {b o:Nat} {l:List AC} {x:el.T} (a:T[i]? =some (b,l)) (hv:k9 l o el=some x) (k:K x):aj w g (some ⟨b,o,none⟩) el K:=by
 obtain⟨R,c,H, _, _, _,J⟩:=H.tmp;exact aj.at i H.base (by rw[FK (Am.1 a).1];exact a) hv k
theorem iz.cx (H:iz Q X D G w0 w B s T L M) (i:Nat) {g:Option Bool} {el:El} {K:el.T->Prop} {b n:Nat} {l:List AC} {x:el.T} (a:T[i]? =some (b,l)) (hv:k9 l n el=some x) (k:K x):aj w g (ad (af b) n) el K:=by
 obtain⟨R,c,H, _, _, _,J⟩:=H.tmp;exact aj.kN H.base (B4 _ (DD a)) hv k
theorem iz.rK (H:iz Q X D G w0 w B s T L M) {n:Nat} {g:Option Bool} {el:El} {K:el.T->Prop} {x:el.T} (hv:k9 (r_ X B) n el=some x) (k:K x):aj w g (ad (af B.mb) n) el K:=by
 obtain⟨R,b,H,a, _, _,J⟩:=H.tmp;exact aj.kN H.base (B1 _ (a _ Az)) hv k
theorem iz.YK (H:iz Q X D G w0 w B s T L M) {i:Nat} {x:bP} (a:s.cs[i]? =some x) {n:Nat} {g:Option Bool} {el:El} {K:el.T->Prop} {y:el.T} (hv:k9 (jT (B.A i) i x) n el=some y) (k:K y):aj w g (ad (some ⟨(B.A i).cb,0,none⟩) n) el K:=by
 obtain⟨R,b,H, _, _,hc,J⟩:=H.tmp;exact aj.kN H.base (B1 _ (hc a _ Az)) hv k
theorem iz.sub (H:iz Q X D G w0 w B s T L M) {T':List (Nat×List AC)} (h:T'.Sublist T):iz Q X D G w0 w B s T' L M:=by
 obtain⟨R,a,H, _, _, _,J⟩:=H.tmp;exact J (H.sub (h.append_right _))
def DC (B:MB) (i:Nat) (a:CA):MB:={B with A:=λj=>if j=i then a else B.A j}
theorem m6 (B:MB) (i:Nat) (a:CA):(DC B i a).A i=a:=av rfl
theorem Ac {B:MB} {s s':MS} {i:Nat} {a:CA} (c:s'.sz=s.sz) (hc: ∀j,j≠i->s'.cs[j]? =s.cs[j]?):ij (DC B i a) s' ((AL s.cs.length).erase i)=ij B s ((AL s.cs.length).erase i):=by
 unfold ij;refine gB λj d=>?_;have b:j≠i:=λe=>by subst e;exact(In.not_mem_erase) d
 rw[hc j b,c];cases s.cs[j]? with
 |none=>rfl
 |some x=>show th ((DC B i a).A j) j x s.sz= _;rw[show(DC B i a).A j=B.A j from ao b]
theorem lK {B:MB} {s:MS} {i:Nat} {x:bP} (a:s.cs[i]? =some x):(ij B s (AL s.cs.length)).Perm (th (B.A i) i x s.sz++ij B s ((AL s.cs.length).erase i)):=by
 unfold ij;refine(List.Perm.flatMap_right _ (List.perm_cons_erase (Bx.2 (Am.1 a).1))).trans ?_;rw[List.flatMap_cons,a]
theorem MWf.up (W:MWf B s) {i:Nat} {x x':bP} (f:s.cs[i]? =some x) {a:CA} (g:a.cb=(B.A i).cb) (h:TR a x'):MWf (DC B i a) (cj s i x'):=by
 have n:yS (DC B i a) s.cs.length=yS B s.cs.length:=by
  refine J3 λj _=>?_;by_cases e:j=i
  ·subst e;rw[m6,g]
  ·rw[show(DC B i a).A j=B.A j from ao e]
 refine⟨?_,W.m,W.p,W.b,W.o,W.l,W.k,W.w,λ{j y} d=>?_⟩
 ·show dx eP B.sc (yS (DC B i a) (s.cs.set i x').length) B.Lc;rw[DA,n];exact W.c
 ·by_cases e:j=i
  ·subst e;rw[m6];have:(s.cs.set j x')[j]? =some y:=d;rw[CF (Am.1 f).1] at this;cases this;exact h
  ·have:(s.cs.set i x')[j]? =some y:=d;rw[E4 (λc=>e c.symm)] at this;rw[show(DC B i a).A j=B.A j from ao e];exact W.a this
theorem iz.Dz (H:iz Q X D G w0 w B s T L M) {i:Nat} {x:bP} (b:s.cs[i]? =some x): ∃R d,cB D G w0 w (th (B.A i) i x s.sz++(T++R)) d/\
 ∀{T' a x' w'},a.cb=(B.A i).cb->TR a x'->cB D G w0 w' (th a i x' s.sz++(T'++R)) d->iz Q X D G w0 w' (DC B i a) (cj s i x') T' L M:=by
 obtain⟨A,ca,la,h1,f,g,k⟩:=H;refine⟨IM X B s++(ij B s ((AL s.cs.length).erase i)++(F8 Q X A ca la s.h++L)), _,k.perm ?_,λ{T' a x' w'} l m n=>⟨A,ca,la,h1,f,g.up b l m,n.perm ?_⟩⟩
 ·have:=lK (B:=B) b;refine I3 ?_ (DR T (DR _ (G1 _ this.symm)));exact bY λa=>by simp only[AP,AY];omega
 ·have o:(cj s i x').cs[i]? =some x':=CF (Am.1 b).1;have e:(cj s i x').cs.length=s.cs.length:=DA ..;have:=lK (B:=DC B i a) o;rw[m6,e,Ac (s:=s) (s':=cj s i x') rfl λj p=>(show(s.cs.set i x')[j]? =s.cs[j]? from E4 (λc=>p c.symm))] at this;rw[e];refine(DR T' (DR _ (G1 _ this))).trans ?_;show(T'++(IM X B s++(th a i x' s.sz++ij B s ((AL s.cs.length).erase i)++(F8 Q X A ca la s.h++L)))).Perm _;exact bY λa=>by simp only[AP,AY];omega
end
section
variable {Q:Sys} {X:HX} {D G:List Nat} {w0 w:A1} {B:MB} {s:MS} {T L:List (Nat×List AC)} {M:List (Nat×B3)}
theorem jq.yT {h:HS} {L:List (Nat×List AC)} (H:jq Q X D G w0 w h L):yT h.s:=by
 obtain⟨A,W,S⟩:=H;exact⟨S.pos,S.Gu,S.le,S.okw⟩
theorem iz.hv (H:iz Q X D G w0 w B s T L M): ∃i L',jq Q X [] i w w s.h L'/\ ∀{e h'},jq Q X [] i w e h' L'->iz Q X D G w0 e B {s with h:=h'} T L M:=by
 obtain⟨A,ca,la,h1,f,d,r⟩:=H;have j:cB D G w0 w (Q.L ca la s.h.s (dZ Q X A s.h (bh Q A s.h.g (AL 17)++(T++(IM X B s++(ij B s (AL s.cs.length)++L)))))) (dm A s.h.g (AL 17)++(mob B s++M)):=
  (r.perm (bY λa=>by simp only[Sys.L,AP,AY];omega)).lq (bY λa=>by simp only[AP,AY];omega)
 refine⟨_, _,⟨A,h1,f.1,f.2.1,f.2.2.1,f.2.2.2,ca,la,cB.PX j⟩,λ{e h'} K=>?_⟩;have t:=jq.yT K;obtain⟨A',u, _, _, _, _,n,q,K⟩:=K;have K:=cB.XO j K;refine⟨A',n,q,u,t,⟨d.c,d.m,d.p,d.b,d.o,d.l,d.k,d.w,d.a⟩,?_⟩;show cB D G w0 e (T++(IM X B s++(ij B s (AL s.cs.length)++(F8 Q X A' n q h'++L)))) (mob B s++(dm A' h'.g (AL 17)++M));exact(K.perm (bY λa=>by
  simp only[Sys.L,AP,AY];omega)).lq (bY λa=>by simp only[AP,AY];omega)
theorem iz.sat (H:iz Q X D G w0 w B s T L M): ∃A n L0,bj Q [] n w w s.h.s L0/\(X.hb,fh Q X A s.h.g)∈L0/\(∀i v,s.h.g i=some v-> ∀x∈gT Q A i v,x∈L0)/\(∀x∈T,x∈L0)/\(∀x∈IM X B s,x∈L0)/\(∀{i x},s.cs[i]? =some x-> ∀y∈th (B.A i) i x s.sz,y∈L0)/\
 ∀{T' j s'},bj Q [] n w j s' (T'++L0)->iz Q X D G w0 j B {s with h:=bD s.h s'} (T'++T) L M:=by
 obtain⟨A,ca,la,h1,f,d,u⟩:=H;have q:cB D G w0 w (Q.L ca la s.h.s (dZ Q X A s.h (bh Q A s.h.g (AL 17)++(T++(IM X B s++(ij B s (AL s.cs.length)++L)))))) ([]++(mob B s++(dm A s.h.g (AL 17)++M))):=
  u.perm (bY λa=>by simp only[Sys.L,AP,AY];omega)
 refine⟨A, _, _,⟨f.1,f.2.1,f.2.2.1,f.2.2.2,ca,la,(cB.PX q).base⟩,Az,λi v hv x e=>?_,λx e=>?_,λx e=>?_,λ{i x} hi y z=>?_,λ{T' j s'} K=>?_⟩
 ·refine Ap _ (Ap _ (Ap _ (Ap _ (B4 _ (BS (Bx.2 ?_) hv x e)))));have:=h1.jo hv;omega
 ·exact Ap _ (Ap _ (Ap _ (Ap _ (B1 _ (B4 _ e)))))
 ·exact Ap _ (Ap _ (Ap _ (Ap _ (B1 _ (B1 _ (B4 _ e))))))
 ·refine Ap _ (Ap _ (Ap _ (Ap _ (B1 _ (B1 _ (B1 _ (B4 _ ?_)))))));unfold ij;exact HB.2 ⟨i,Bx.2 (Am.1 hi).1,by rw[hi];exact z⟩
 ·obtain⟨C,E,F,k4,r,t,K⟩:=K;have K:=cB.XO q (M1':=[]) (cB.of K);refine⟨A,r,t,⟨h1.jo,h1.mp,h1.gl,h1.pt,h1.gk⟩,⟨C,E,F,k4⟩,⟨d.c,d.m,d.p,d.b,d.o,d.l,d.k,d.w,d.a⟩,?_⟩;exact K.perm (bY λa=>by
   show CB a (T'++T++(IM X B s++(ij B s (AL s.cs.length)++(Q.L r t s' (dZ Q X A s.h (bh Q A s.h.g (AL 17)))++L))))= _;simp only[Sys.L,AP,AY];omega)
theorem iz.qc (H:iz Q X D G w0 w B s T L M): ∃R e,cB D G w0 w ((B.mb,r_ X B)::(B.Lm++(T++R))) e/\
 ∀{T' sm Lm ms w'},dx eMk sm (ms.map YJ) Lm->cB D G w0 w' ((B.mb,r_ X {B with sm:=sm,Lm:=Lm})::(Lm++(T'++R))) e->iz Q X D G w0 w' {B with sm:=sm,Lm:=Lm} {s with ms:=ms} T' L M:=by
 obtain⟨A,ca,la,h1,f,d,g⟩:=H;refine⟨(B.eb,oM s.ep.now B.sp B.wb)::(B.xb,kz B.sb B.so)::(B.Lc++(B.Lp++(B.Lb++(B.Lo++(ij B s (AL s.cs.length)++(F8 Q X A ca la s.h++L)))))), _,g.perm (bY λa=>by simp only[AP,AY];omega),λ{T' sm Lm ms w'} i K=>?_⟩;refine⟨A,ca,la,h1,f,⟨d.c,i,d.p,d.b,d.o,d.l,d.k,d.w,d.a⟩,K.perm (bY λa=>?_)⟩;show CB a (T'++(IM X {B with sm:=sm,Lm:=Lm} s++(ij B s (AL s.cs.length)++(F8 Q X A ca la s.h++L))))= _;simp only[AP,AY];omega
theorem iz.eps (H:iz Q X D G w0 w B s T L M): ∃R e,cB D G w0 w ((B.eb,oM s.ep.now B.sp B.wb)::(B.Lp++(T++R))) ((B.wb,.map ⟨B.we⟩ B.wk)::e)/\
 ∀{T' sp Lp ep we wk w'},dx eI sp ep.pins Lp->iC we wk (ep.ws.map FZ)->cB D G w0 w' ((B.eb,oM ep.now sp B.wb)::(Lp++(T'++R))) ((B.wb,.map ⟨we⟩ wk)::e)->iz Q X D G w0 w' {B with sp:=sp,Lp:=Lp,we:=we,wk:=wk} {s with ep:=ep} T' L M:=by
 obtain⟨A,ca,la,h1,f,d,i⟩:=H;refine⟨(B.mb,r_ X B)::(B.xb,kz B.sb B.so)::(B.Lc++(B.Lm++(B.Lb++(B.Lo++(ij B s (AL s.cs.length)++(F8 Q X A ca la s.h++L)))))),(B.kb,.map ⟨B.ke⟩ B.kk)::(om B.cr s.bx++(dm A s.h.g (AL 17)++M)),(i.perm (bY λa=>by simp only[AP,AY];omega)).lq (bY λa=>by simp only[AP,AY];omega),λ{T' sp Lp ep we wk w'} j n K=>?_⟩;refine⟨A,ca,la,h1,f,⟨d.c,d.m,j,d.b,d.o,d.l,d.k,n,d.a⟩,(K.perm (bY λa=>?_)).lq (bY λa=>?_)⟩
 ·show CB a (T'++(((B.mb,r_ X B)::(B.eb,oM ep.now sp B.wb)::(B.xb,kz B.sb B.so)::(B.Lc++(B.Lm++(Lp++(B.Lb++B.Lo)))))++(ij B s (AL s.cs.length)++(F8 Q X A ca la s.h++L))))= _;simp only[AP,AY];omega
 ·show CB a (((B.kb,Obj.map ⟨B.ke⟩ B.kk)::(B.wb,Obj.map ⟨we⟩ wk)::om B.cr s.bx)++(dm A s.h.g (AL 17)++M))= _;simp only[AP,AY];omega
theorem iz.kns (H:iz Q X D G w0 w B s T L M): ∃R e,cB D G w0 w (T++R) ((B.kb,.map ⟨B.ke⟩ B.kk)::e)/\
 ∀{T' kn ke kk w'},iC ke kk (kn.map λf=>(f,.bool true))->cB D G w0 w' (T'++R) ((B.kb,.map ⟨ke⟩ kk)::e)->iz Q X D G w0 w' {B with ke:=ke,kk:=kk} {s with kn:=kn} T' L M:=by
 obtain⟨A,ca,la,h1,i,d,j⟩:=H;refine⟨_,(B.wb,.map ⟨B.we⟩ B.wk)::(om B.cr s.bx++(dm A s.h.g (AL 17)++M)),j,λ{T' kn ke kk w'} k K=>?_⟩;exact⟨A,ca,la,h1,i,⟨d.c,d.m,d.p,d.b,d.o,d.l,k,d.w,d.a⟩,K⟩
theorem iz.bxs (H:iz Q X D G w0 w B s T L M): ∃R e,cB D G w0 w ((B.xb,kz B.sb B.so)::(B.Lb++(B.Lo++(T++R)))) (om B.cr s.bx++e)/\
 ∀{T' so Lo op cr bx w'},dx eI so op Lo->cr.length=bx.length->dL cr=dL B.cr->cB D G w0 w' ((B.xb,kz B.sb so)::(B.Lb++(Lo++(T'++R)))) (om cr bx++e)->iz Q X D G w0 w' {B with so:=so,Lo:=Lo,cr:=cr} {s with op:=op,bx:=bx} T' L M:=by
 obtain⟨A,ca,la,h1,f,d,i⟩:=H;refine⟨(B.mb,r_ X B)::(B.eb,oM s.ep.now B.sp B.wb)::(B.Lc++(B.Lm++(B.Lp++(ij B s (AL s.cs.length)++(F8 Q X A ca la s.h++L))))),(B.kb,.map ⟨B.ke⟩ B.kk)::(B.wb,.map ⟨B.we⟩ B.wk)::(dm A s.h.g (AL 17)++M),(i.perm (bY λa=>by simp only[AP,AY];omega)).lq (bY λa=>by simp only[AP,AY];omega),λ{T' so Lo op cr bx w'} j l hc K=>?_⟩;refine⟨A,ca,la,h1,f,⟨d.c,d.m,d.p,?_,j,l,d.k,d.w,d.a⟩,(K.perm (bY λa=>?_)).lq (bY λa=>?_)⟩
 ·show dx eC B.sb (dL cr) B.Lb;rw[hc];exact d.b
 ·show CB a (T'++(((B.mb,r_ X B)::(B.eb,oM s.ep.now B.sp B.wb)::(B.xb,kz B.sb so)::(B.Lc++(B.Lm++(B.Lp++(B.Lb++Lo)))))++(ij B s (AL s.cs.length)++(F8 Q X A ca la s.h++L))))= _;simp only[AP,AY];omega
 ·show CB a (((B.kb,Obj.map ⟨B.ke⟩ B.kk)::(B.wb,Obj.map ⟨B.we⟩ B.wk)::om cr bx)++(dm A s.h.g (AL 17)++M))= _;simp only[AP,AY];omega
end
section
variable {Q:Sys} {X:HX} {D G:List Nat} {w0 w:A1} {B:MB} {s:MS} {T L:List (Nat×List AC)} {M:List (Nat×B3)}
theorem ab_ (H:iz Q X D G w0 w B s T L M) (n:Int):ae A2 64 [ag (af B.mb),aa n] w (ag (if 0<=n/\n<(s.cs.length:Int) then some ⟨(B.A n.toNat).cb,0,none⟩ else none)):=by
 refine ae.of (s:= .el (.one .ptr)) λw' h'=>ai (C:=U2) (aR:=λ_=>[]) (B2 (aaq _ _ w' _) ?_);have H:=H.ext h';have W:=H.wf;have a:B.sc.2.1=s.cs.length:=by rw[W.c.1,DF,Ee]
 refine⟨λ_=>rfl,λ_=>rfl,H.rK (show _=some (B.sc.1,B.sc.2.1,B.sc.2.2) from rfl) ?_⟩;dsimp only;rw[a];by_cases c:0<=n/\n<(s.cs.length:Int)
 ·rw[av c];obtain⟨R,f,K,d, _, _, _⟩:=H.tmp;have b:=W.c.sl K.base (λy e=>B1 _ (d _ (Ap _ (Ap _ (Ap _ (B4 _ e)))))) n.toNat (some ⟨(B.A n.toNat).cb,0,none⟩) (by rw[H5,K1 (by omega)];rfl);refine an ?_ ⟨rfl,rfl,H.rK (show _=some (B.sc.1,B.sc.2.1,B.sc.2.2) from rfl) ⟨⟨b.1,c.1,by dsimp only;rw[a];exact c.2⟩,aj.of _ b.2 λw1 h1=>⟨rfl,h1⟩⟩⟩;simp only[Option.isNone_some,I8,Kt,decide_eq_false_iff_not];omega
 ·rw[ao c];refine aA ?_ λw1 h1=>⟨rfl,h1⟩;simp only[Option.isNone_some,I8,Gj,decide_eq_true_eq];omega
theorem acY {a:Int} (h:cJ a):aD .i64 (tj .u64 a 16)=a / 16:=by
 unfold cJ at h;have e:tj .u64 a 16=a / 16:=by
  show aD .u64 (a.tdiv 16)= _;rw[Int.tdiv_eq_ediv_of_nonneg h.1];exact dH (by omega)
 rw[e];exact bM (by omega)
theorem WI (H:iz Q X D G w0 w B s T L M) {i:Nat} {x:bP} (a:s.cs[i]? =some x) (b:cJ x.c.2.1):ae A2 160 [ag (some ⟨(B.A i).cb,0,none⟩)] w (aa (x.c.2.1 / 16)):=by
 refine ae.of (s:= .el (.one (.int .i64))) λw' h'=>ai (C:=U2) (aR:=λ_=>[]) (B2 (SJ _ w' _) ?_);refine⟨rfl,rfl,rfl,(H.ext h').YK a (n:=5) (show _=some x.c.2.1 from rfl) λw1 h1=>⟨acY b,h1⟩⟩
end
structure MR where
 mb:Nat
 eb:Nat
 xb:Nat
 kb:Nat
 wb:Nat
 cb:Nat->Nat
 tb:Nat->Nat
abbrev MB.rt (B:MB):MR:=⟨B.mb,B.eb,B.xb,B.kb,B.wb,λi=>(B.A i).cb,λi=>(B.A i).tb⟩
theorem XU {B:MB} {i:Nat} {a:CA} (h1:a.cb=(B.A i).cb) (d:a.tb=(B.A i).tb):(DC B i a).rt=B.rt:=by
 have b:(λj=>((DC _ i a).A j).cb)=λj=>(B.A j).cb:=funext λj=>by
  by_cases e:j=i
  ·subst e;rw[m6];grind
  ·rw[show(DC _ i a).A j=B.A j from ao e]
 have c:(λj=>((DC _ i a).A j).tb)=λj=>(B.A j).tb:=funext λj=>by
  by_cases e:j=i
  ·subst e;rw[m6];grind
  ·rw[show(DC _ i a).A j=B.A j from ao e]
 show MR.mk _ _ _ _ _ _ _=MR.mk _ _ _ _ _ _ _;rw[b,c];rfl
def MU (Q:Sys) (X:HX) (D G:List Nat) (w0 w:A1) (R:MR) (s:MS) (T L:List (Nat×List AC)) (M:List (Nat×B3)):Prop:= ∃B:MB,B.rt=R/\iz Q X D G w0 w B s T L M
theorem NE {s:MS} {i:Nat} {x:bP} (a:s.cs[i]? =some x):cj s i x=s:=by
 unfold cj;have:s.cs.set i x=s.cs:=by
  obtain⟨h,e⟩:=Am.1 a;subst e;simp
 rw[this]
theorem ff {s:MS} {i:Nat} {x y:bP} (a:s.cs[i]? =some x):(cj s i y).cs[i]? =some y:=CF (Am.1 a).1
theorem kY (s:MS) (i:Nat) (x y:bP):cj (cj s i x) i y=cj s i y:=by unfold cj;simp_all
section
variable {Q:Sys} {X:HX} {D G:List Nat} {w0 w w1:A1} {R:MR} {s:MS} {T L:List (Nat×List AC)} {M:List (Nat×B3)} {i:Nat} {x:bP} {g:Option Bool}
theorem MU.ext (H:MU Q X D G w0 w R s T L M) (h:Ext w w1):MU Q X D G w0 w1 R s T L M:=by
 obtain⟨B,e,H⟩:=H;exact⟨B,e,H.ext h⟩
theorem MU.all (H:MU Q X [] [] w0 w R s T L M):Ext w0 w:=by
 obtain⟨B,e,H⟩:=H;exact H.all
theorem MU.en (H:MU Q X D G w0 w R s T L M) {K:A1->Prop} (k: ∀w1,MU Q X D G w0 w1 R s T L M->K w1):au w K:=λ_ h=>k _ (H.ext h)
theorem MU.go (H:MU Q X D G w0 w R s T L M) {P:Program} {f:FuncId} {sh:Sh} {args:List AC} {K:sh.T->A1->Prop} (k: ∀w1,MU Q X D G w0 w1 R s T L M->aE P f sh args w1 K):az P f sh args w K:=λ_ h=>k _ (H.ext h)
theorem MU.al (H:MU Q X D G w0 w R s T L M) {cs:List AC} {e:TypeId} {K:Nat->A1->Prop} (k: ∀b w1,MU Q X D G w0 w1 R s ((b,cs)::T) L M->K b w1):aN w ⟨cs⟩ e K:=by
 obtain⟨B,e,H⟩:=H;exact H.al λb w1 H=>k b w1 ⟨B,e,H⟩
theorem MU.st (H:MU Q X D G w0 w R s T L M) (i:Nat) {b:Nat} {l vs:List AC} {K:A1->Prop} (a:T[i]? =some (b,l)) (c:vs.all (·.oneCell')=true) (d:vs.length=l.length) (k: ∀w1,MU Q X D G w0 w1 R s (T.set i (b,vs)) L M->K w1):aC w (af b) vs K:=by
 obtain⟨B,e,H⟩:=H;exact H.st i a c d λw1 H=>k w1 ⟨B,e,H⟩
theorem MU.ld (H:MU Q X D G w0 w R s T L M) (i:Nat) {el:El} {K:el.T->Prop} {b o:Nat} {l:List AC} {x:el.T} (a:T[i]? =some (b,l)) (hv:k9 l o el=some x) (k:K x):aj w g (some ⟨b,o,none⟩) el K:=by
 obtain⟨B,e,H⟩:=H;exact H.ld i a hv k
theorem MU.cx (H:MU Q X D G w0 w R s T L M) (i:Nat) {el:El} {K:el.T->Prop} {b n:Nat} {l:List AC} {x:el.T} (a:T[i]? =some (b,l)) (hv:k9 l n el=some x) (k:K x):aj w g (ad (af b) n) el K:=by
 obtain⟨B,e,H⟩:=H;exact H.cx i a hv k
theorem MU.sub (H:MU Q X D G w0 w R s T L M) {T':List (Nat×List AC)} (h:T'.Sublist T):MU Q X D G w0 w R s T' L M:=by
 obtain⟨B,e,H⟩:=H;exact⟨B,e,H.sub h⟩
theorem MU.f0 (H:MU Q X D G w0 w R s T L M) {K:Option AM->Prop} (k:K (af X.hb)):aj w g (ad (af R.mb) 0) (.one .ptr) K:=by
 obtain⟨B,rfl,H⟩:=H;exact H.rK rfl k
theorem MU.f1 (H:MU Q X D G w0 w R s T L M) {K:Option AM->Prop} (k:K (af R.eb)):aj w g (ad (af R.mb) 1) (.one .ptr) K:=by
 obtain⟨B,rfl,H⟩:=H;exact H.rK rfl k
theorem MU.f2 (H:MU Q X D G w0 w R s T L M) {K:Option AM->Prop} (k:K (af R.xb)):aj w g (ad (af R.mb) 2) (.one .ptr) K:=by
 obtain⟨B,rfl,H⟩:=H;exact H.rK rfl k
theorem MU.f4 (H:MU Q X D G w0 w R s T L M) {K:Option Nat->Prop} (k:K (some R.kb)):aj w g (ad (af R.mb) 4) (.one .map) K:=by
 obtain⟨B,rfl,H⟩:=H;exact H.rK rfl k
theorem MU.cf (H:MU Q X D G w0 w R s T L M) (b:s.cs[i]? =some x) {n:Nat} {el:El} {K:el.T->Prop} {y:el.T} (hv: ∀a:CA,k9 (jT a i x) n el=some y) (k:K y):aj w g (ad (some ⟨R.cb i,0,none⟩) n) el K:=by
 obtain⟨B,rfl,H⟩:=H;exact H.YK b (hv _) k
theorem MU.c1 (H:MU Q X D G w0 w R s T L M) (a:s.cs[i]? =some x) {K:Option AM->Prop} (k:K (some ⟨R.tb i,0,none⟩)):aj w g (ad (some ⟨R.cb i,0,none⟩) 1) (.one .ptr) K:=by
 obtain⟨B,rfl,H⟩:=H;exact H.YK a rfl k
theorem MU.Dz (H:MU Q X D G w0 w R s T L M) (d:s.cs[i]? =some x): ∃(a:CA) (b:List (Nat×List AC)) (c:List (Nat×B3)),a.cb=R.cb i/\a.tb=R.tb i/\TR a x/\cB D G w0 w (th a i x s.sz++(T++b)) c/\
 ∀{T':List (Nat×List AC)} {a':CA} {x':bP} {w':A1},a'.cb=a.cb->a'.tb=a.tb->TR a' x'->cB D G w0 w' (th a' i x' s.sz++(T'++b)) c->MU Q X D G w0 w' R (cj s i x') T' L M:=by
 obtain⟨B,rfl,H⟩:=H;obtain⟨b,c,K,J⟩:=H.Dz d;exact⟨B.A i,b,c,rfl,rfl,H.wf.a d,K,λh1 e f g=>⟨_,XU h1 e,J h1 f g⟩⟩
theorem MU.cs (H:MU Q X D G w0 w R s T L M) (c:s.cs[i]? =some x) (x':bP) (n:Nat) {vs:List AC} (d:vs.all (·.oneCell')=true) (e:Nat.ble (n+vs.length) 14=true) (f: ∀a:CA,(jT a i x).take n++(vs++(jT a i x).drop (n+vs.length))=jT a i x') (g: ∀a,TR a x->TR a x') {K:A1->Prop}
 (k: ∀w1,MU Q X D G w0 w1 R (cj s i x') T L M->K w1):aC w (ad (some ⟨R.cb i,0,none⟩) n) vs K:=by
 obtain⟨a,m,o,h,hb,W,b,J⟩:=H.Dz c;rw[<-h,aW,Nat.zero_add];refine λw1 h1=>aC.at 0 (b.ext h1).base.again rfl d (Nat.le_of_ble_eq_true e) (λj l=>k j (J rfl rfl (g a W) ?_)) w1 (Ext.refl w1);have K:=(b.ext h1).join l;rw[f] at K;exact K
theorem Em (H:MU Q X D G w0 w R s T L M) (n:Int):ae A2 64 [ag (af R.mb),aa n] w (ag (if 0<=n/\n<(s.cs.length:Int) then some ⟨R.cb n.toNat,0,none⟩ else none)):=by
 obtain⟨B,rfl,H⟩:=H;exact ab_ H n
theorem Kc (H:MU Q X D G w0 w R s T L M) (a:s.cs[i]? =some x) (b:cJ x.c.2.1):ae A2 160 [ag (some ⟨R.cb i,0,none⟩)] w (aa (x.c.2.1 / 16)):=by
 obtain⟨B,rfl,H⟩:=H;exact WI H a b
theorem vJ {w:A1} {r:Nat} {es:Array Do} {ck i:Nat} {g:Int} {z v u:AC} (m:bF w r es ck) (h:Gq (.int .i64) (aa g) es.toList 0=some (some (i,u))) (e:v=u):jU w (some r) .i64 g z v:=⟨r,by grind⟩
theorem Ca {w:A1} {r:Nat} {es:Array Do} {ck:Nat} {g:Int} {z v:AC} (m:bF w r es ck) (h:Gq (.int .i64) (aa g) es.toList 0=some none) (e:v=z):jU w (some r) .i64 g z v:=⟨r,by grind⟩
theorem Kd (H:MU Q X D G w0 w R s T L M) (k:s.cs[i]? =some x):ae A2 199 [ag (some ⟨R.cb i,0,none⟩)] w (aa (a7 x.c.1)):=by
 refine ae.of λw1 h1=>ai (C:=U2) (B2 (SK _ w1 _) λl b q d=>?_);have H0:=(((At.start [] w1).ext b).sd _).ext d;have e:=b.size;have m0:=d.obj (fD l _);refine vr H0 e (by simp) m0 rfl λr m o u f=>?_;refine vr (m.ext f) e (by simp) (f.obj o) rfl λy h a=>?_;have hv:=(iC.nil.push (g:=6) (aa 1) (λt j=>(by cases j))).push (g:=7) (aa 2) (by grind);have H:=H.ext (h1.trans (Ext.trans (h.ext (Ext.refl _)).all (Ext.refl _)));refine⟨rfl,rfl,rfl,H.cf k (n:=4) (λ_=>rfl) ⟨a7 x.c.1,?_,λz p=>⟨rfl,(h.ext p).all⟩⟩⟩;unfold a7;by_cases c6:x.c.1=6
 ·rw[av c6,c6];obtain⟨i,hi, _⟩:=hv.FL (g:=6) (v:=aa 1) (by simp);exact vJ a hi rfl
 ·rw[ao c6];by_cases c7:x.c.1=7
  ·rw[av c7,c7];obtain⟨i,hi, _⟩:=hv.FL (g:=7) (v:=aa 2) (by simp);exact vJ a hi rfl
  ·rw[ao c7];refine Ca a (hv.OE λt j=>?_) rfl
   grind
theorem um (H:MU Q X D G w0 w R s T L M) (p:s.ms.length<=1000000000) (m:MT) {K:Unit->A1->Prop}
 (k: ∀a,MU Q X D G w0 a R {s with ms:=s.ms++[m]} T L M->K () a):
 az A2 155 (.bu []) [ag (af R.mb),.agg ⟨[aa m.1,aa m.2.1,aa m.2.2.1,aa m.2.2.2.1.1,ay m.2.2.2.1.2.1,ay m.2.2.2.1.2.2.1,ay m.2.2.2.1.2.2.2.1,ay m.2.2.2.2.1,aa m.2.2.2.2.2]⟩] w K:=by
 obtain⟨B,rfl,H⟩:=H;refine λw1 h1=>ai (C:=U2) (aR:=λ_=>[]) (B2 (SL _ _ _ _ _ _ _ _ _ _ w1 K) ?_);refine(H.ext h1).al λb a H=>⟨rfl,rfl,H.rK (rfl) (H.ld 0 rfl (show _=some (YJ m) from rfl) (H.al λd q H e f=>?_))⟩;have H:=H.ext f;obtain⟨r,t,g,J⟩:=H.qc;have c:=g.perm Ga;have hb:bK e d (cellsOf eMk (YJ m)):=c.base.dj _ (B1 _ (Ap _ Az));refine FV c H.wf.m rfl (ys:=[YJ m]) rfl (sg hb) rfl rfl (by grind) λs' h u i j=>⟨rfl,rfl,Xl (j.perm Ga.symm) 0 rfl rfl rfl λv l=>enM l λn o=>k n ⟨{B with sm:=s',Lm:=h},rfl,iz.sub (J (ms:=s.ms++[m]) (by rw[Gd];exact i) o) ?_⟩⟩;simp
theorem Ad (H:MU Q X D G w0 w R s T L M) (q:s.cs[i]? =some x) (F:(x.ls.length:Int)<=64) (I:0<s.sz) (t g:Int) {K:Unit->A1->Prop}
 (k: ∀b,MU Q X D G w0 b R (cj s i {x with ls:=iX x.ls t g}) T L M->K () b):
 az A2 67 (.bu []) [ag (some ⟨R.cb i,0,none⟩),aa t,aa g] w K:=by
 refine H.go λw1 H=>ai (C:=U2) (aR:=λ_=>[]) (B2 (Ir _ _ _ w1 K) ?_);have fin: ∀{b:A1} {a:CA} {j:List (Nat×List AC)} {l:List (Nat×B3)} (o:List LT),TR a x->a.tb=R.tb i->cB D G w0 b (th a i x s.sz++(T++j)) l-> ∃p,cB D G w0 b ((R.tb i,dq a.st s.sz)::(a.Lt++p)) l/\ ∀{r:A1} {s'} {d:List (Nat×List AC)},dx jP s' o d->aM [] (((R.tb i,dq a.st s.sz)::(a.Lt++p)).map (·.1)) b r ((R.tb i,dq s' s.sz)::(d++p))-> ∃a':CA,a'.cb=a.cb/\a'.tb=a.tb/\TR a' {x with ls:=o}/\cB D G w0 r (th a' i {x with ls:=o} s.sz++(T++j)) l:=by
  intro b a j l o W N u;rw[<-N];have m:cB D G w0 b ((a.tb,dq a.st s.sz)::(a.Lt++((a.cb,jT a i x)::(a.Lf++(a.Lw++(T++j)))))) l:=u.perm (bY λy=>by simp only[th,AP,AY];omega);refine⟨_,m,λ{r s' d} h n=>⟨{a with st:=s',Lt:=d},rfl,rfl,⟨h,W.fs,W.wk⟩,(m.join n).perm (bY λy=>by
   show CB y ((a.cb,jT a i x)::(a.tb,dq s' s.sz)::(d++(a.Lf++a.Lw))++(T++j))= _
   grind)⟩⟩
 obtain⟨a,j,l,O,hb,W,u,J⟩:=H.Dz q;obtain⟨p,m,f⟩:=fin (iX x.ls t g) W hb u;refine ab (λc=>⟨rfl,rfl,H.c1 q ?_⟩) (λc=>⟨rfl,rfl,H.c1 q ?_⟩)
 ·have e:g= -1:=by simpa using c
  refine HA m.base.again W.ls F I t λv s' d b h n=>?_;have h:dx jP s' (iX x.ls t g) d:=by unfold iX;rw[av e];exact h
  obtain⟨a',h1,z,A,B⟩:=f h n;exact(J h1 z A B).en λE H=>k E H
 ·have e:g≠ -1:=by simpa using c
  refine Bu m.base.again W.ls F I t g λs' d b h n=>?_;have h:dx jP s' (iX x.ls t g) d:=by unfold iX;rw[ao e];exact h
  obtain⟨a',h1,z,A,B⟩:=f h n;exact(J h1 z A B).en λE H=>k E H
theorem NF (H:MU Q X D G w0 w R s T L M) (a:s.cs[i]? =some x):ae A2 152 [ag (af R.mb),ag (some ⟨R.cb i,0,none⟩)] w (.bool (lX s.h x)):=by
 refine ae.of (s:= .el (.one .bool)) λw1 h1=>ai (C:=U2) (aR:=λ_=>[]) (B2 (Is _ _ w1 _) ?_);have H:=H.ext h1;have b:ae A2 19 [ag (af X.hb),aa x.vm] w1 (.bool (aV s.h.g x.vm)):=by
  obtain⟨B,e,d⟩:=H;obtain⟨A,k,L0,S,f, _⟩:=d.sat;exact nT S f x.vm
 refine⟨_,Kd H a,λ_=>rfl,λ_=>rfl,H.f0 ⟨λ_=>rfl,λ_=>rfl,H.cf a (n:=3) (λ_=>rfl) ⟨_,λ_=>b,λ_=>rfl,λ_=>rfl,H.cf a (n:=4) (y:=x.c) (λ_=>rfl) ⟨_,λ_=>EI _ _ _ _,λ_=>rfl,λ_=>rfl,λ_=>rfl,H.cf a (n:=5) (λ_=>rfl) λl j=>⟨?_,j⟩⟩⟩⟩⟩;unfold lX;simp only[Gn]
end
theorem xj (x:Int): ∀l:List Int,l.Pairwise (λa b=>b<=a)->(jE x l).Pairwise (λa b=>b<=a)
 |[], _=>by simp[jE]
 |y::l,h=>by
  rw[jE];obtain⟨h1,e⟩:=Hb.1 h;split
  ·rename_i c;refine Hb.2 ⟨λz d=>?_,xj x l e⟩;rcases Du.1 ((vD x l).mem_iff.1 d) with rfl|d
   ·omega
   ·exact h1 z d
  ·rename_i c;refine Hb.2 ⟨λz d=>?_,h⟩;rcases Du.1 d with rfl|d
   ·omega
   ·have:=h1 z d;omega
theorem uU: ∀(l a:List Int),a.Pairwise (λa b=>b<=a)->(l.foldl (λa x=>jE x a) a).Pairwise (λa b=>b<=a)
 |[], _,h=>h
 |x::l,a,h=>uU l _ (xj x a h)
theorem XV {R l:List Int} (h:R.Pairwise (· <= ·)) (c:R.Perm l):R=mN l:=by
 refine List.Perm.eq_of_pairwise (λa b _ _ h1 d=>by omega) h ?_ (c.trans (lJ l).symm);unfold mN;rw[List.pairwise_reverse];exact uU l [] List.Pairwise.nil
theorem WJ (e:vY):(eZ e).now=KC e.pins e.now:=by unfold eZ KC;split<;>rfl
theorem Tm (e:vY):(eZ e).pins=e.pins:=by unfold eZ;split<;>rfl
theorem vu (e:vY):(eZ e).ws=e.ws:=by unfold eZ;split<;>rfl
theorem Qb (e:vY):e.now<=(eZ e).now/\(eZ e).now<=e.now+1:=by
 unfold eZ;split
 ·exact⟨by show e.now<=e.now+1;omega,GD _⟩
 ·omega
theorem Dg: ∀(l:List Int) (s:MS),(l.foldl gq s).ms.length=s.ms.length+l.length
 |[],s=>rfl
 |f::l,s=>by
  rw[Gi,Dg l];show(s.ms++ _).length+l.length= _;simp only[FI,H6,KA];omega
section
variable {Q:Sys} {X:HX} {D G:List Nat} {w0 w w1:A1} {R:MR} {s:MS} {T L:List (Nat×List AC)} {M:List (Nat×B3)} {i:Nat} {x:bP} {g:Option Bool}
theorem MU.base (H:MU Q X D G w0 w R s T L M): ∃L0,aM D G w0 w L0/\ ∀x∈T,x∈L0:=by
 obtain⟨B,e,H⟩:=H;obtain⟨b,c,K, _⟩:=H.tmp;exact⟨_,K.base,λx a=>B4 _ a⟩
theorem MU.sat (H:MU Q X D G w0 w R s T L M): ∃A a L0,bj Q [] a w w s.h.s L0/\(X.hb,fh Q X A s.h.g)∈L0/\(∀i v,s.h.g i=some v-> ∀x∈gT Q A i v,x∈L0)/\
 ∀{T' b s'},bj Q [] a w b s' (T'++L0)->MU Q X D G w0 b R {s with h:=bD s.h s'} (T'++T) L M:=by
 obtain⟨B,e,H⟩:=H;obtain⟨A,a,L0,S,h1,c, _, _, _,J⟩:=H.sat;exact⟨A,a,L0,S,h1,c,λK=>⟨B,e,J K⟩⟩
theorem MU.del (H:MU Q X D G w0 w R s T L M) (f:Int) {K:A1->Prop} (k: ∀g,MU Q X D G w0 g R {s with kn:=s.kn.filter (λx=> !(x==f))} T L M->K g):
 ∃(r:Nat) (es:Array Do) (h:Nat),some R.kb=some r/\bF w r es h/\AD w r .i64 f es h K:=by
 obtain⟨B,rfl,H⟩:=H;obtain⟨p,q,a,J⟩:=H.kns;refine⟨B.kb,⟨B.ke⟩,B.kk,rfl,a.get (i:=0) rfl,?_⟩;unfold AD;by_cases c:f∈s.kn
 ·obtain⟨i,j,l,hv⟩:=H.wf.k.FL (B5.2 ⟨f,c,rfl⟩);rw[show Gq (.int .i64) (aa f) (Array.mk B.ke).toList 0=some (some (i,.bool true)) from j];have b:=a.put (i:=0) rfl (o':= .map ⟨B.ke.eraseIdx i⟩ B.kk) trivial;have m:(Array.mk B.ke).eraseIdxIfInBounds i=⟨B.ke.eraseIdx i⟩:=by
   apply Array.ext';simp[Array.eraseIdxIfInBounds,l]
  show K (w.putObj B.kb (.map ((Array.mk B.ke).eraseIdxIfInBounds i) B.kk));rw[m];refine k _ ⟨{B with ke:=B.ke.eraseIdx i},rfl,J (kn:=s.kn.filter λx=> !(x==f)) ?_ b⟩;rw[List.filter_map] at hv;exact hv
 ·have n: ∀t∈s.kn.map (λf=>((f,.bool true):KV)),t.1≠f:=λt o e=>by
   obtain⟨y,d,rfl⟩:=B5.1 o;exact c (by rw[<-e];exact d)
  rw[show Gq (.int .i64) (aa f) (Array.mk B.ke).toList 0=some none from H.wf.k.OE n];have b:=a.put (i:=0) rfl (o':= .map ⟨B.ke⟩ B.kk) trivial;refine k _ ⟨B,rfl,J (ke:=B.ke) (kk:=B.kk) (kn:=s.kn.filter λx=> !(x==f)) ?_ b⟩;rw[List.filter_eq_self.2 λy d=>by simpa using λe:y=f=>c (e▸d)];exact H.wf.k
theorem Fl (H:MU Q X D G w0 w R s T L M) (U:s.ep.pins.length<=8) (V:0<=s.ep.now/\s.ep.now<4611686018427387000) (W:s.ep.ws.length<=1000000) (Y: ∀e∈s.ep.ws,0<=e.2/\e.2<=s.ep.now) (t:s.ms.length<=900000000) {K:Int->A1->Prop}
 (k: ∀b,MU Q X D G w0 b R (cK s).1 T L M->K (((cK s).2:Nat):Int) b):az A2 151 (.el (.one (.int .i64))) [ag (af R.mb)] w K:=by
 refine H.go λw1 H=>ai (C:=U2) (aR:=uP) (B2 (SO _ w1 K) ⟨rfl,rfl,H.f1 ?_⟩);have hle:=Qb s.ep;have YG: ∀{b},MU Q X D G w0 b R s T L M-> ∀{h:Bool->A1->Prop},(∀v d,MU Q X D G w0 d R {s with ep:=eZ s.ep} T L M->h v d)->az A2 197 (.el (.one .bool)) [ag (af R.eb)] b h:=by
  intro b a h u;obtain⟨B,rfl,a⟩:=a;obtain⟨F,Z,o,J⟩:=a.eps;refine U' o.base.again a.wf.p U ⟨V.1,by omega⟩ λv d K2=>u v d ⟨{B with sp:=B.sp,Lp:=B.Lp,we:=B.we,wk:=B.wk},rfl,J (ep:=eZ s.ep) (by rw[Tm];exact a.wf.p) (by rw[vu];exact a.wf.w) (by rw[WJ];exact o.join K2)⟩
 refine YG H λv b H=>⟨rfl,rfl,H.f1 ?_⟩;have free: ∀{f:MS} {b},MU Q X D G w0 b R f T L M->f.ep=eZ s.ep-> ∀{h:Option AM×Nat×Nat->A1->Prop},(∀r g d,dx eI r (oS f.ep) g->MU Q X D G w0 d R {f with ep:=AR f.ep} (g++T) L M->h r d)->az A2 198 (.el (.one .slice)) [ag (af R.eb)] b h:=by
  intro f b a q h u;obtain⟨B,rfl,a⟩:=a;obtain⟨F,Z,o,J⟩:=a.eps;refine SD o a.wf.w (by rw[q,vu];omega) Az (λe t=>?_) (by rw[q];omega) λr Rr g qZ d hso hpe m hv K4=>?_
  ·rw[q,vu] at t;have:=Y e t;rw[q];omega
  ·rw[XV hso hpe] at m;refine u r g d m ⟨{B with sp:=B.sp,Lp:=B.Lp,we:=qZ,wk:=B.wk},rfl,J (T':=g++T) (ep:=AR f.ep) a.wf.p hv (K4.perm (bY λy=>?_))⟩;show CB y ((B.eb,oM f.ep.now B.sp B.wb)::(B.Lp++(g++T++F)))= _;simp only[AP,AY];omega
 refine free H rfl λr g d m H=>?_;generalize z:oS (eZ s.ep)=l at*
 have hlen:=m.1;have hll:l.length<=1000000:=by
  rw[<-z];unfold oS;rw[iN,DF];refine F7 (Hq _ _) ?_;rw[vu];exact W
 refine⟨λn st E=> ∃j:Nat,j<=l.length/\n=l.length - j/\st.1=(j:Int)/\MU Q X D G w0 E R ((l.take j).foldl gq {s with ep:=AR (eZ s.ep)}) (g++T) L M,⟨l.length,λE h4=>⟨0,F6 _,rfl,rfl,H.ext h4⟩⟩,?_⟩;clear H;rintro n ⟨i, _⟩ E ⟨j,I,qK,hi,H⟩;have hi:i=(j:Int):=hi;subst hi qK;dsimp only;rw[hlen];refine ab (λc=>?_) (λc=>?_)
 ·have I:j<l.length:=by have:=of_decide_eq_true c;omega
  obtain⟨x,N⟩: ∃x,l[j]? =some x:=⟨_,Be I⟩;obtain⟨L0,K0,hT⟩:=H.base;have O:=m.sl K0 (λy hy=>hT y (B4 _ hy)) j x N;refine⟨⟨O.1,by omega,by omega⟩,aj.of x (by rw[DU];exact O.2) ⟨rfl,rfl,H.f0 ?_⟩⟩;obtain⟨A,G',L0,S,hk, _,J⟩:=H.sat;refine EV S hk x λP S=>?_;have H:=J (T':=[]) S;refine⟨rfl,rfl,H.f4 λw6 h6=>(H.ext h6).del x λw7 H=>um H ?_ (2,0,x,(0,0,0,0,()),0,0) λw8 H w9 h9=>⟨l.length - (j+1),by omega,j+1,by omega,rfl,?_,?_⟩⟩
  ·show(List.foldl gq _ (l.take j)).ms.length<= _;rw[Dg,List.length_take];show s.ms.length+ _<= _;omega
  ·rw[aw (by omega) (by omega)];omega
  ·rw[KF,N,Kf];exact H.ext h9
 ·have:j=l.length:=by have:=of_decide_eq_false c;omega
  subst this;rw[Kg] at H;refine H.en λP H=>?_;have e:(cK s).1=l.foldl gq {s with ep:=AR (eZ s.ep)}:=by unfold cK;rw[z]
  have e2:(cK s).2=l.length:=by unfold cK;rw[z]
  rw[e,e2] at k;exact k P (H.sub (F5 _ _))
end
abbrev Cs:Type:=(Int×Int×Unit)×Bool×Unit
abbrev Oq:Sh:= .bu [.agg iR,.one .bool]
theorem Tn {pins:List Int} {n:Nat} (h:n<pins.length):AI pins n (-1)=pins.set n (-1):=by
 unfold AI;split
 ·rename_i c;have e:pins.getD n 0= -1:=by simpa using c
  rw[Ar,Be h] at e;have e:pins[n]= -1:=e;rw[<-e];exact(List.set_getElem_self h).symm
 ·rfl
theorem To {e:vY} {n:Nat} (a:0<=e.now):{e with pins:=AI e.pins n e.now}=AQ e n:=by
 unfold AI AQ;have h0:(e.now== -1)=false:=by rw[beq_eq_false_iff_ne];omega
 rw[h0];by_cases c:e.pins.getD n 0= -1
 ·rw[av c,ao (by rw[c];decide)]
 ·rw[ao c,av (by rw[beq_eq_false_iff_ne.2 c])]
theorem WK (e:vY) (f:Int):OF (e.ws.map FZ) f e.now=(lh e f).ws.map FZ:=by
 unfold OF lh;rw[List.any_map];show(if e.ws.any (λx=>x.1==f)=true then _ else _)= _;split<;>rfl
theorem Dh (e:vY) (f:Int):(lh e f).now=e.now/\(lh e f).pins=e.pins:=by unfold lh;split<;>exact⟨rfl,rfl⟩
theorem zF: ∀(l:List Int) (e:vY),(l.foldl lh e).now=e.now/\(l.foldl lh e).pins=e.pins
 |[],e=>⟨rfl,rfl⟩
 |f::l,e=>by rw[Gi,(zF l _).1,(zF l _).2];exact Dh e f
section
variable {Q:Sys} {X:HX} {D G:List Nat} {w0 w w1:A1} {R:MR} {s:MS} {T L:List (Nat×List AC)} {M:List (Nat×B3)} {i:Nat} {x:bP} {g:Option Bool}
theorem MU.res {b:Nat} {l:List AC} (H:MU Q X D G w0 w R s ((b,l)::T) L M) (d:l.length=2) (V E:Int) (c:Bool) {K:Cs->A1->Prop} (k: ∀a,MU Q X D G w0 a R s T L M->K ((V,E,()),c,()) a):
 aC w (af b) [ay V,aa E] λa=>au a λw1=>aj w1 none (af b) (El.agg [.int .u64,.int .i64]) λ(x:Int×Int×Unit)=>K ((x.1,x.2.1,()),c,()) w1:=
 H.st 0 rfl rfl d.symm λa H=>H.en λe H=>H.ld 0 rfl (show _=some (V,E,()) from rfl) (k e (H.sub (Cp _ _)))
theorem MU.crd (H:MU Q X D G w0 w R s T L M) (b:s.cs[i]? =some x) {n:Nat} {el:El} {y:el.T} (hv: ∀a:CA,k9 (jT a i x) n el=some y):cC w (ad (some ⟨R.cb i,0,none⟩) n) el y:=by
 obtain⟨z,h,e⟩:=H.cf (g:=none) (K:=λz=>z=y) b hv rfl;subst e;exact h
theorem Cb (H:MU Q X D G w0 w R s T L M) (hc:i<s.ep.pins.length) {K:Int->A1->Prop} (k: ∀v b,MU Q X D G w0 b R {s with ep:=rY s.ep i} T L M->K v b):
 az A2 158 (.el (.one (.int .i64))) [ag (af R.eb),aa (i:Int)] w K:=by
 refine λw1 h1=>?_;obtain⟨B,rfl,a⟩:=H.ext h1;obtain⟨h,j,c,J⟩:=a.eps;refine La c.base.again a.wf.p i hc (λv e f d g=>k v f ⟨{B with sp:=B.sp,Lp:=e,we:=B.we,wk:=B.wk},rfl,J (ep:=rY s.ep i) ?_ a.wf.w (c.join g)⟩) w1 (Ext.refl w1);rw[Tn hc] at d;exact d
theorem WL (H:MU Q X D G w0 w R s T L M) (d:0<=s.ep.now) (hc:i<s.ep.pins.length) {K:Int->A1->Prop} (k: ∀v b,MU Q X D G w0 b R {s with ep:=AQ s.ep i} T L M->K v b):
 az A2 200 (.el (.one (.int .i64))) [ag (af R.eb),aa (i:Int)] w K:=by
 refine λw1 h1=>?_;obtain⟨B,rfl,a⟩:=H.ext h1;obtain⟨j,l,c,J⟩:=a.eps;refine U_ c.base.again a.wf.p i hc (λv e f g h=>k v f ?_) w1 (Ext.refl w1);rw[<-To d];exact⟨{B with sp:=B.sp,Lp:=e,we:=B.we,wk:=B.wk},rfl,J (ep:={s.ep with pins:=AI s.ep.pins i s.ep.now}) g a.wf.w (c.join h)⟩
theorem Tp (H:MU Q X D G w0 w R s T L M) (c:s.ep.pins.length<=8) (d:0<=s.ep.now/\s.ep.now<4611686018427387000) (f:s.ep.ws.length<=1000000) (g: ∀e∈s.ep.ws,0<=e.2/\e.2<=s.ep.now) (h:s.ms.length<=900000000) (p:Option AM) {K:Cs->A1->Prop}
 (k: ∀a,MU Q X D G w0 a R (cK s).1 T L M->K ((0,0,()),false,()) a):az A2 109 Oq [ag (af R.mb),ag p] w K:=by
 refine H.go λw1 H=>aQ (C:=U2) (aR:=λ_=>[]) (B2 (SP _ p w1 K) (H.al λb a H=>Fl H c d f g h λi H=>H.res rfl 0 0 false k))
theorem Tq (H:MU Q X D G w0 w R s T L M) (e:s.cs[i]? =some x) (N:x.ak<4611686018427387904) (hfs:x.fs.length<=1000000) (O: ∀f∈x.fs,0<=f) {K:Cs->A1->Prop}
 (k: ∀m,MU Q X D G w0 m R (gV s x).1 T L M->K ((if(gV s x).2.2=true then((gV s x).2.1.1,(gV s x).2.1.2,()) else(0,0,())),(gV s x).2.2,()) m):
 az A2 113 Oq [ag (af R.mb),ag (some ⟨R.cb i,0,none⟩)] w K:=by
 refine H.go λw1 H=>aQ (C:=U2) (aR:=uQ) (B2 (SS _ _ w1 K) (H.al λb m H=>⟨rfl,rfl,H.f2 ⟨rfl,rfl,H.cf e (n:=12) (λ_=>rfl) ⟨tK s x.ak,?_,?_⟩⟩⟩))
 ·obtain⟨B,rfl,d⟩:=H;obtain⟨q,z,g,J⟩:=d.bxs;have r:=g.base.perm (L':=B.Lo++((B.xb,kz B.sb B.so)::(B.Lb++((b,[ay 0,aa 0])::T++q)))) (bY λy=>by simp only[AP,AY];omega);exact Wj r Az d.wf.o x.ak N
 ·unfold gV at k;refine ab (λc=>?_) (λc=>?_)
  ·have c:tK s x.ak=false:=by simpa using c
   rw[c] at k;exact H.res rfl 0 0 false k
  ·have c:tK s x.ak=true:=by simpa using c
   rw[c] at k;obtain⟨B,rfl,d⟩:=H;refine⟨rfl,rfl,d.YK e (n:=13) (show _=some ((B.A i).sf.1,(B.A i).sf.2.1,(B.A i).sf.2.2) from rfl) ?_⟩;have P:(B.A i).sf.2.1=x.fs.length:=(d.wf.a e).fs.1;refine⟨λn st h=> ∃(j:Nat) (we:List Do) (wk:Nat),j<=x.fs.length/\n=x.fs.length - j/\st.1=(j:Int)/\iz Q X D G w0 h {B with we:=we,wk:=wk} {s with ep:=(x.fs.take j).foldl lh s.ep} ((b, _)::T) L M,⟨x.fs.length,λh S=>⟨0,B.we,B.wk,F6 _,rfl,rfl,d.ext S⟩⟩,?_⟩;rintro n ⟨U, _⟩ h ⟨j,we,wk,E,V,hi,H⟩;have hi:U=(j:Int):=hi;subst hi V;dsimp only;rw[P];refine ab (λc=>?_) (λc=>?_)
   ·have E:j<x.fs.length:=by have:=of_decide_eq_true c;omega
    obtain⟨f,u⟩: ∃f,x.fs[j]? =some f:=⟨_,Be E⟩;have l:({s with ep:=(x.fs.take j).foldl lh s.ep}:MS).cs[i]? =some x:=e;obtain⟨q,z,g,hh, _,hc, _⟩:=H.tmp;have F:=(H.wf.a l).fs.sl g.base (λy I=>B1 _ (hc l _ (Ap _ (Ap _ (B1 _ (B4 _ I)))))) j f u;refine⟨⟨F.1,by omega,by omega⟩,aj.of f (by rw[DU];exact F.2) ⟨rfl,rfl,H.rK (show _=some (af B.eb) from rfl) ?_⟩⟩;obtain⟨q,z,g,J⟩:=H.eps;refine Va g Az H.wf.w (λt W=>?_) f (O f (DD u)) λv Y Z w5 hv r w6 h6=>⟨x.fs.length - (j+1),by omega,j+1,Y,Z,by omega,rfl,?_,?_⟩
    ·obtain⟨y,I,rfl⟩:=B5.1 W;exact⟨_,rfl⟩
    ·rw[aw (by omega) (by omega)];omega
    ·rw[KF,u,Kf];rw[WK] at hv;refine iz.ext (J (sp:=B.sp) (ep:=lh ((x.fs.take j).foldl lh s.ep) f) ?_ hv ?_) h6
     ·rw[(Dh _ f).2];exact H.wf.p
     ·rw[(Dh _ f).1];exact r
   ·have:j=x.fs.length:=by have:=of_decide_eq_false c;omega
    subst this;rw[Kg] at H;have H:MU Q X D G w0 h B.rt {s with ep:=x.fs.foldl lh s.ep} ((b, _)::T) L M:=⟨{B with we:=we,wk:=wk},rfl,H⟩;have l:({s with ep:=x.fs.foldl lh s.ep}:MS).cs[i]? =some x:=e;exact⟨rfl,rfl,H.cf l (n:=10) (y:=(x.rs.1,x.rs.2,())) (λ_=>rfl) (H.res rfl _ _ true k)⟩
end
theorem acZ {a:Int} (h:0<=a):aD .i64 (dX a 16)=a % 16:=by
 have e:dX a 16=a % 16:=by
  unfold dX;exact Int.tmod_eq_emod_of_nonneg h
 rw[e];exact bM (by omega)
theorem atU {f a:Int} (c:0<=f/\f<4096) (b:0<=a):aH .i64 (iB .i64 16 f) (aD .i64 (dX a 16))=16*f+a % 16:=by
 rw[acZ b,eK (by omega) (by omega),aw (by omega) (by omega)]
section
variable {Q:Sys} {X:HX} {D G:List Nat} {w0 w w1:A1} {R:MR} {s:MS} {T L:List (Nat×List AC)} {M:List (Nat×B3)} {i:Nat} {x:bP} {g:Option Bool}
theorem Ae (H:MU Q X D G w0 w R s T L M) {K:Option AM->A1->Prop} (k: ∀a,MU Q X D G w0 a R s T L M->K (af Q.bm) a):
 az A2 23 (.el (.one .ptr)) [ag (af X.hb)] w K:=by
 obtain⟨A,c,L0,S,b, _,J⟩:=H.sat;exact z6 S b λa S=>k a (J (T':=[]) S)
theorem NG (H:MU Q X D G w0 w R s T L M) (a:s.cs[i]? =some x) (e:0<=x.fr/\x.fr<4096) (f:cJ x.c.2.1) (hb:cJ x.c.2.2.1) (hc:i<s.ep.pins.length) (p:s.ms.length<=900000000) {K:Cs->A1->Prop}
 (k: ∀d,MU Q X D G w0 d R (fA s i x).1 T L M->K (((fA s i x).2.1.1,0,()),true,()) d):
 az A2 112 Oq [ag (af R.mb),ag (some ⟨R.cb i,0,none⟩)] w K:=by
 refine H.go λw1 H=>aQ (C:=U2) (aR:=λ_=>[]) (B2 (Nd _ _ w1 K) (H.al λb d H=>⟨rfl,rfl,H.cf a (n:=9) (λ_=>rfl) ⟨rfl,rfl,rfl,H.cf a (n:=5) (λ_=>rfl) ⟨rfl,rfl,H.f1 ⟨rfl,rfl,H.cf a (n:=0) (λ_=>rfl) ?_⟩⟩⟩⟩));rw[atU e f.1];unfold fA at k;dsimp only at k;refine Cb H hc λv q H=>⟨rfl,rfl,rfl,H.cf a (n:=4) (λ_=>rfl) ?_⟩;refine ab (λc=>?_) (λc=>?_)
 ·have c:x.c.1=7:=by simpa using c
  rw[av c] at k;refine⟨rfl,rfl,H.f0 ⟨rfl,rfl,rfl,H.cf a (n:=6) (λ_=>rfl) (Ae H λg H=>⟨H.crd a (n:=6) λ_=>rfl,trivial,trivial,trivial,?_⟩)⟩⟩;obtain⟨A,j,L0,S,l, _,J⟩:=H.sat;refine S.store _ _ hb λm S=>?_;have H:=J (T':=[]) S;exact⟨rfl,rfl,rfl,H.cf a (n:=6) (λ_=>rfl) (um H (by show s.ms.length<= _;omega) (4,0,16*x.fr+x.c.2.1 % 16,(0,0,0,0,()),x.c.2.2.1,0) λo H=>H.res rfl 0 0 true k)⟩
 ·have c:x.c.1≠7:=by simpa using c
  rw[ao c] at k;refine⟨rfl,rfl,H.f0 (Ae H λg H=>?_)⟩;obtain⟨A,j,L0,S,l, _,J⟩:=H.sat;refine S.load _ λm S=>?_;have H:=J (T':=[]) S;exact um H (by show s.ms.length<= _;omega) (3,0,16*x.fr+x.c.2.1 % 16,(0,0,0,0,()),dK s.h.s.1 (16*x.fr+x.c.2.1 % 16),0) λo H=>H.res rfl _ 0 true k
end
open Go.RX D
theorem Tr {ws:List Int} {p t:Int} {x:Int×Int×FT} (h:0<=x.2.1/\x.2.1<=3):(bA ws p t x).2.1= -1\/((bA ws p t x).2.1=x.2.1 - 1/\0<x.2.1):=by
 unfold bA;rw[ao (by omega)];split
 ·exact .inl rfl
 ·exact Jy h
section
variable {Q:Sys} {X:HX} {D G:List Nat} {w0 w w1:A1} {B:MB} {R:MR} {s:MS} {T L:List (Nat×List AC)} {M:List (Nat×B3)} {i:Nat} {x:bP} {g:Option Bool}
theorem iz.walk (H:iz Q X D G w0 w B s T L M) (e:s.cs[i]? =some x) (v:x.ph=2): ∃(bk:Nat) (l:Option AM×Nat×Nat) (m:List (Nat×List AC)) (xs:List Int) (q:List (Nat×List AC)) (r:List (Nat×B3)) (ca la:Int),(B.A i).wp=some ⟨bk,0,none⟩/\Co m l xs/\(xs.length:Int)<=3 - x.wk.2.1/\yT s.h.s/\
 cB D G w0 w ((bk,lS x.wk.1 (x.c.2.1 / 16) (a7 x.c.1) x.wk.2.1 x.wk.2.2 l)::(Q.bm,lZ Q.bw s.h.s.1.length Q.c ca la)::(Q.bw,flat eW s.h.s.1++Q.rw)::(m++q)) r/\
 ∀{xA:Int×Int×FT} {b:Option AM×Nat×Nat} {d:List (Nat×List AC)} {n:List Int} {f k:Int} {w':A1},Co d b n->(n.length:Int)<=3 - xA.2.1->
  cB D G w0 w' ((bk,lS xA.1 (x.c.2.1 / 16) (a7 x.c.1) xA.2.1 xA.2.2 b)::(Q.bm,lZ Q.bw s.h.s.1.length Q.c f k)::(Q.bw,flat eW s.h.s.1++Q.rw)::(d++q)) r->MU Q X D G w0 w' B.rt (cj s i {x with wk:=xA}) T L M:=by
 obtain⟨A,ca,la,h1,t,o,z⟩:=H;obtain⟨bk,l,m,xs,u,C,E,p⟩:=(o.a e).wk v;have F:=lK (B:=B) e;refine⟨bk,l,m,xs,((B.A i).cb,jT (B.A i) i x)::((B.A i).tb,dq (B.A i).st s.sz)::((B.A i).Lt++((B.A i).Lf++(T++(IM X B s++(ij B s ((AL s.cs.length).erase i)++((Q.bf,flat eD s.h.s.2++Q.rf)::(Q.bp,[.slice (af Q.bf) s.h.s.2.length Q.cp])::(dZ Q X A s.h (bh Q A s.h.g (AL 17))++L))))))), _,ca,la,u,E,p,t,z.perm ?_,λ{xA b d n f k w'} I J K=>?_⟩
 ·refine I3 ?_ (DR T (DR _ (G1 _ F.symm)));unfold th;rw[C];exact bY λy=>by simp only[Sys.L,AP,AY];omega
 ·refine⟨DC B i {B.A i with Lw:=(bk,lS xA.1 (x.c.2.1 / 16) (a7 x.c.1) xA.2.1 xA.2.2 b)::d},XU rfl rfl,A,f,k,h1,t,o.up e rfl ⟨(o.a e).ls,(o.a e).fs,λ_=>⟨bk,b,d,n,u,rfl,I,J⟩⟩,K.perm ?_⟩;generalize N:({B.A i with Lw:=(bk,lS xA.1 (x.c.2.1 / 16) (a7 x.c.1) xA.2.1 xA.2.2 b)::d}:CA)=a;have O:(cj s i {x with wk:=xA}).cs[i]? =some {x with wk:=xA}:=ff e;have p:(cj s i {x with wk:=xA}).cs.length=s.cs.length:=DA ..;have:=lK (B:=DC B i a) O;rw[m6,p,Ac (s:=s) (s':=cj s i {x with wk:=xA}) rfl λj P=>(show(s.cs.set i {x with wk:=xA})[j]? =s.cs[j]? from E4 (λc=>P c.symm))] at this;rw[p];refine(DR T (DR _ (G1 _ this))).trans ?_;subst N;show(T++(IM X B s++(th {B.A i with Lw:=(bk,lS xA.1 (x.c.2.1 / 16) (a7 x.c.1) xA.2.1 xA.2.2 b)::d} i {x with wk:=xA} s.sz++ij B s ((AL s.cs.length).erase i)++(F8 Q X A f k s.h++L)))).Perm _;unfold th;show(T++(IM X B s++(((B.A i).cb,jT (B.A i) i x)::((B.A i).tb,dq (B.A i).st s.sz)::((B.A i).Lt++((B.A i).Lf++((bk,lS xA.1 (x.c.2.1 / 16) (a7 x.c.1) xA.2.1 xA.2.2 b)::d)))++ij B s ((AL s.cs.length).erase i)++(F8 Q X A f k s.h++L)))).Perm _;exact bY λy=>by simp only[Sys.L,AP,AY];omega
theorem MU.rd (H:MU Q X D G w0 w R s T L M) (i:Nat) {el:El} {b n:Nat} {l:List AC} {x:el.T} (a:T[i]? =some (b,l)) (hv:k9 l n el=some x):cC w (ad (af b) n) el x:=by
 obtain⟨z,h,e⟩:=H.cx (g:=none) (K:=λz=>z=x) i a hv rfl;subst e;exact h
theorem MU.wp (H:MU Q X D G w0 w R s T L M) (b:s.cs[i]? =some x) (d:x.ph=2): ∃(bk:Nat) (a:Option AM×Nat×Nat) (L0:List (Nat×List AC)),aM D G w0 w L0/\(bk,lS x.wk.1 (x.c.2.1 / 16) (a7 x.c.1) x.wk.2.1 x.wk.2.2 a)∈L0/\ ∀{g:Option Bool} {K:Option AM->Prop},K (af bk)->aj w g (ad (some ⟨R.cb i,0,none⟩) 8) (.one .ptr) K:=by
 obtain⟨B,rfl,H⟩:=H;obtain⟨bk,a,f,xs,h,j,ca,la,e, _, _, _,K, _⟩:=H.walk b d;exact⟨bk,a, _,K.base,Az,λk=>H.YK b (n:=8) (show _=some (B.A i).wp from rfl) (by rw[e];exact k)⟩
theorem Ts (H:MU Q X D G w0 w R s T L M) (f:s.cs[i]? =some x) (g:(x.ls.length:Int)<=s.sz) (h:0<s.sz/\s.sz<=64) (l:LT) (j:lnR l=true) {K:Int->A1->Prop}
 (k: ∀b,MU Q X D G w0 b R (cj s i {x with ls:=pF x.ls s.sz l}) T L M->K 0 b):
 az A2 159 (.el (.one (.int .i64))) [ag (some ⟨R.tb i,0,none⟩),lnV l] w K:=by
 obtain⟨a,c,m,q,hb,W,n,J⟩:=H.Dz f;have d:cB D G w0 w ((R.tb i,dq a.st s.sz)::(a.Lt++((a.cb,jT a i x)::(a.Lf++(a.Lw++(T++c)))))) m:=n.perm (bY λy=>by rw[<-hb];simp only[th,AP,AY];omega);refine λw1 h1=>QD (d.ext h1).base.again W.ls g h l j (λs' e b o p=>k b (J (a':={a with st:=s',Lt:=e}) rfl rfl ⟨o,W.fs,W.wk⟩ (((d.ext h1).join p).perm (bY λy=>?_)))) w1 (Ext.refl w1);show CB y ((a.cb,jT a i x)::(a.tb,dq s' s.sz)::(e++(a.Lf++a.Lw))++(T++c))= _;rw[<-hb];simp only[AP,AY];omega
theorem Tt (H:MU Q X D G w0 w R s T L M) (o:s.cs[i]? =some x) (u:x.ph=2) (V:0<=x.wk.2.1/\x.wk.2.1<=3) (W:cJ x.c.2.1) (hc:i<s.ep.pins.length) (Y:(x.ls.length:Int)<=s.sz) (Z:0<s.sz/\s.sz<=64)
 (E:(bA s.h.s.1 (x.c.2.1 / 16) (a7 x.c.1) x.wk).2.1= -1->(bA s.h.s.1 (x.c.2.1 / 16) (a7 x.c.1) x.wk).2.2.2.2.2.1=0->lnR (x.vm,x.c.2.1 / 16,(bA s.h.s.1 (x.c.2.1 / 16) (a7 x.c.1) x.wk).2.2.1,(bA s.h.s.1 (x.c.2.1 / 16) (a7 x.c.1) x.wk).2.2.2.1,())=true) {K:Cs->A1->Prop}
 (k: ∀r,MU Q X D G w0 r R (jY s i x).1 T L M->K ((0,(jY s i x).2.1.2,()),(jY s i x).2.2,()) r):
 az A2 111 Oq [ag (af R.mb),ag (some ⟨R.cb i,0,none⟩)] w K:=by
 refine H.go λw1 H=>aQ (C:=U2) (aR:=λ_=>[]) (B2 (SQ _ _ w1 K) (H.al λb r H=>?_));unfold jY at k;generalize F:bA s.h.s.1 (x.c.2.1 / 16) (a7 x.c.1) x.wk=wv at*
 have I:=Tr (ws:=s.h.s.1) (p:=x.c.2.1 / 16) (t:=a7 x.c.1) V;rw[F] at I;obtain⟨wf,wl,Ax,d,j,f,⟨⟩⟩:=wv;dsimp only at k E I;obtain⟨B,rfl,m⟩:=H;refine⟨rfl,rfl,m.YK o (n:=8) (show _=some (B.A i).wp from rfl) ⟨rfl,rfl,m.rK (show _=some (af X.hb) from rfl) ?_⟩⟩;obtain⟨A,G',L0,S,hk, _, _, _, _,J⟩:=m.sat;refine z6 S hk λN S=>?_;have m:iz Q X D G w0 N B s ((b,[ay 0,aa 0])::T) L M:=J (T':=[]) S;have pA:cC N (ad (some ⟨(B.A i).cb,0,none⟩) 8) (.one .ptr) (B.A i).wp:=by
  obtain⟨z,h,e⟩:=m.YK (g:=none) (el:= .one .ptr) (K:=λz=>z=(B.A i).wp) o (n:=8) (show _=some (B.A i).wp from rfl) rfl;subst e;exact h
 refine⟨pA,trivial,trivial,?_⟩;obtain⟨bk,s2,Lq,xs,R',Mo,ca,la,e1,hp,hxl,O,P,J⟩:=m.walk o u;rw[e1];refine EE P.base.again hp (by omega) rfl O.1 O.2.2.2 (by omega) λw4 cI s3 oI q=>?_;have hw':bA s.h.s.1 (x.c.2.1 / 16) (a7 x.c.1) (x.wk.1,x.wk.2.1,x.wk.2.2)=(wf,wl,Ax,d,j,f,()):=F;rw[hw'] at q ⊢;have H:=J (xA:=(wf,wl,Ax,d,j,f,())) oI (by rw[FI,Hr];dsimp only;omega) (P.join q);have l:=ff (y:={x with wk:=(wf,wl,Ax,d,j,f,())}) o;refine ab (λc=>?_) (λc=>?_)
 ·have c:wl≠ -1:=by simpa using c
  rw[av c] at k;exact H.res rfl 0 0 false k
 ·have c:wl= -1:=by simpa using c
  subst c;rw[ao (by decide)] at k;obtain⟨bk',s2',L2,q,hm,Ye⟩:=H.wp l u;have Y7:ae A2 24 [ag (af bk')] w4 ((Sh.bu [.agg sF,.one .bool]).gO ((Ax,d,j,f,()),true,())):=ae.of λw5 h5=>Vq ((q.ext h5).dj _ hm);refine⟨rfl,rfl,Ye ⟨((Ax,d,j,f,()),true,()),Y7,H.al λb1 w5 H=>H.st 0 rfl rfl rfl λw6 H=>⟨rfl,H.cx 0 rfl (show _=some f from rfl) ?_⟩⟩⟩;refine ab (λc=>?_) (λc=>?_)
  ·have c:f≠0:=by simpa using c
   rw[av c] at k;refine⟨rfl,rfl,H.f1 ⟨rfl,rfl,H.cf l (n:=0) (λ_=>rfl) (Cb H hc λv w7 H=>⟨rfl,H.cx 0 rfl (show _=some f from rfl) ?_⟩)⟩⟩;exact MU.res (H.sub (Cp _ _)) rfl 0 f true k
  ·have c:f=0:=by simpa using c
   rw[ao (by rw[c];decide)] at k;have A0:=Kc H l W;refine⟨rfl,rfl,H.c1 l ⟨rfl,rfl,H.cf l (n:=3) (λ_=>rfl) ⟨x.c.2.1 / 16,A0,rfl,H.cx 0 rfl (show _=some Ax from rfl) ⟨rfl,H.cx 0 rfl (show _=some d from rfl) ?_⟩⟩⟩⟩;refine Ts H l Y Z (x.vm,x.c.2.1 / 16,Ax,d,()) (E rfl c) λw7 H=>⟨rfl,H.cx 0 rfl (show _=some Ax from rfl) ?_⟩;have U:=ff (y:={x with wk:=(wf,-1,Ax,d,j,f,()),ls:=pF x.ls s.sz (x.vm,x.c.2.1 / 16,Ax,d,())}) l;refine⟨rfl,rfl,H.cs U {x with wk:=(wf,-1,Ax,d,j,f,()),ls:=pF x.ls s.sz (x.vm,x.c.2.1 / 16,Ax,d,()),ph:=3} 2 rfl rfl (λ_=>rfl) (λa h=>⟨h.ls,h.fs,λc=>(by cases c)⟩) λw8 H=>⟨H.rd 0 rfl (show _=some Ax from rfl),trivial,rfl,rfl,?_⟩⟩;have Ku:=ff (y:={x with wk:=(wf,-1,Ax,d,j,f,()),ls:=pF x.ls s.sz (x.vm,x.c.2.1 / 16,Ax,d,()),ph:=3}) U;refine H.cs Ku {x with wk:=(wf,-1,Ax,d,j,f,()),ls:=pF x.ls s.sz (x.vm,x.c.2.1 / 16,Ax,d,()),ph:=3,fr:=Ax} 9 rfl rfl (λ_=>rfl) (λa h=>⟨h.ls,h.fs,λc=>(by cases c)⟩) λw9 H=>?_;simp only[kY] at H;exact MU.res (H.sub (Cp _ _)) rfl 0 0 false k
end
theorem Tu (ls:List LT) (t p w:Int):yG ls t p w=((mT ls t p w).1,(mT ls t p w).2,()):=by
 show yG ls t p w= _;unfold yG mT;rw[show(λx=>ml x t p)=CI t p from rfl];cases ls.find? (CI t p) with
 |none=>rfl
 |some l=>
  dsimp only;split<;>rfl
def D8 (s:MS) (n:Nat) (x:bP) (i:Nat):Bool:=match s.cs[i]? with
 |none=>false
 |some y=>decide (i≠n/\x.vm=0)&&((x.c.1==1&&(y.ph==4&&y.c.1==2))||(x.c.1==2&&(decide (y.ph>=2)&&(decide (y.vm>0)&&y.vm==x.c.2.1))))
section
variable {Q:Sys} {X:HX} {D G:List Nat} {w0 w w1:A1} {B:MB} {R:MR} {s:MS} {T L:List (Nat×List AC)} {M:List (Nat×B3)} {i:Nat} {x:bP} {g:Option Bool}
theorem MU.cbk (H:MU Q X D G w0 w R s T L M) (b:s.cs[i]? =some x): ∃l,bK w (R.cb i) l:=by
 obtain⟨a,e,f,c,hb,W,d,J⟩:=H.Dz b;rw[<-c];exact⟨_,d.base.dj _ Az⟩
theorem MU.cne (H:MU Q X D G w0 w R s T L M) (c:s.cs[i]? =some x) {j:Nat} {y:bP} (b:s.cs[j]? =some y) (d:j≠i):R.cb j≠R.cb i:=by
 obtain⟨B,rfl,A,ca,la,h1,m,n,f⟩:=H;have g:=lK (B:=B) c;have k:=f.perm (L':=th (B.A i) i x s.sz++(T++(IM X B s++(ij B s ((AL s.cs.length).erase i)++(F8 Q X A ca la s.h++L))))) (by
  refine I3 ?_ (DR T (DR _ (G1 _ g.symm)));exact bY λa=>by simp only[AP,AY];omega)
 have nd:=k.base.nd;have l:((B.A j).cb,jT (B.A j) j y)∈ij B s ((AL s.cs.length).erase i):=by
  unfold ij;refine HB.2 ⟨j,?_,by rw[b];exact Az⟩;rw[In.mem_erase_iff];exact⟨d,Bx.2 (Am.1 b).1⟩
 intro e;have e:(B.A j).cb=(B.A i).cb:=e;unfold th at nd;rw[List.cons_append,List.map_cons,GH] at nd;refine nd.1 (B5.2 ⟨((B.A j).cb,jT (B.A j) j y),?_,e⟩);exact B1 _ (B1 _ (B1 _ (B4 _ l)))
theorem MU.f3 (H:MU Q X D G w0 w R s T L M): ∃sc:Option AM×Nat×Nat,sc.2.1=s.cs.length/\(∀{g:Option Bool} {K:Option AM×Nat×Nat->Prop},K sc->aj w g (ad (af R.mb) 3) (.one .slice) K)/\ ∀{w1},Ext w w1-> ∀i,i<s.cs.length->sc.1.isSome=true/\cC w1 (ad sc.1 (i*1)) (.one .ptr) (some ⟨R.cb i,0,none⟩):=by
 obtain⟨B,rfl,H⟩:=H;have W:=H.wf;refine⟨B.sc,by rw[W.c.1,DF,Ee],λk=>H.rK (show _=some (B.sc.1,B.sc.2.1,B.sc.2.2) from rfl) k,λh1 i hi=>?_⟩;obtain⟨d,e,K,a, _, _, _⟩:=(H.ext h1).tmp;exact W.c.sl K.base (λy b=>B1 _ (a _ (Ap _ (Ap _ (Ap _ (B4 _ b)))))) i (some ⟨(B.A i).cb,0,none⟩) (by rw[H5,K1 hi];rfl)
theorem IC (H:MU Q X D G w0 w R s T L M) (h:s.cs[i]? =some x) (P:s.cs.length<=8) (hv: ∀y∈s.cs,y.vm<9223372036854775808):ae A2 154 [ag (af R.mb),ag (some ⟨R.cb i,0,none⟩)] w (.bool (pa s i x)):=by
 refine ae.of (s:= .el (.one .bool)) λw1 h1=>ai (C:=U2) (aR:=oG) (B2 (FD _ _ w1 _) ?_);have H:=H.ext h1;have r:pa s i x=(AL s.cs.length).any (D8 s i x):=rfl;obtain⟨sc,z,A,B⟩:=H.f3;refine⟨rfl,rfl,A ?_⟩;rw[z];refine⟨λn st l=> ∃j:Nat,j<=s.cs.length/\n=s.cs.length - j/\st.1=(j:Int)/\(∀k,k<j->D8 s i x k=false)/\Ext w1 l,⟨s.cs.length,λl g=>⟨0,F6 _,rfl,rfl,λk o=>absurd o (Kl k),g⟩⟩,?_⟩;rintro n ⟨E, _⟩ l ⟨j,p,F,hi,t,g⟩;have hi:E=(j:Int):=hi;subst hi F;dsimp only;have H:=H.ext g;refine ab (λc=>?_) (λc f m=>⟨?_,Ext.trans g m⟩)
 ·have p:j<s.cs.length:=by have:=of_decide_eq_true c;omega
  obtain⟨y,d⟩: ∃y,s.cs[j]? =some y:=⟨_,Be p⟩;have S:=hv y (DD d);have u:=B g j p;have hb:D8 s i x j=(decide (j≠i/\x.vm=0)&&((x.c.1==1&&(y.ph==4&&y.c.1==2))||(x.c.1==2&&(decide (y.ph>=2)&&(decide (y.vm>0)&&y.vm==x.c.2.1))))):=by
   unfold D8;rw[d]
  have next:D8 s i x j=false-> ∀f,Ext l f-> ∃v:Nat,v<s.cs.length - j/\ ∃q:Nat,q<=s.cs.length/\v=s.cs.length - q/\aH .i64 (j:Int) 1=(q:Int)/\(∀k,k<q->D8 s i x k=false)/\Ext w1 f:=λhb f m=>by
   refine⟨s.cs.length - (j+1),by omega,j+1,by omega,rfl,?_,λk o=>?_,Ext.trans g m⟩
   ·rw[aw (by omega) (by omega)];omega
   ·by_cases e:k=j
    ·subst e;exact hb
    ·exact t k (by omega)
  have yes:D8 s i x j=true-> ∀f,Ext l f->true=pa s i x/\Ext w1 f:=λhb f m=>⟨by
   rw[r];exact(FS.2 ⟨j,Bx.2 p,hb⟩).symm,Ext.trans g m⟩
  have I:decide ((some ⟨R.cb j,0,none⟩:Option AM)=some ⟨R.cb i,0,none⟩)=decide (j=i):=by
   by_cases e:j=i
   ·subst e;simp
   ·have:=H.cne h d e;rw[decide_eq_false e,decide_eq_false_iff_not];intro c;exact this (congrArg Addr.block (Option.some.inj c))
  refine⟨⟨u.1,by omega,by omega⟩,aj.of (some ⟨R.cb j,0,none⟩) (by rw[DU];exact u.2) ⟨?_,λ_=>rfl,λ_=>rfl,H.cf h (n:=3) (λ_=>rfl) ?_⟩⟩
  ·intro a b J hb _;cases J;cases hb;obtain⟨U,t1,K⟩:=H.cbk d;obtain⟨V,t2,N⟩:=H.cbk h;exact⟨⟨_, _,K⟩,⟨_, _,N⟩⟩
  ·rw[I];refine ab (λc=>next ?_) (λc=>?_)
   ·rw[hb,Bool.and_eq_false_iff];left;simp only[Gj,decide_eq_true_eq,bne_iff_ne] at c;rw[decide_eq_false_iff_not];rintro⟨c1,c2⟩;rcases c with c|c
    ·exact c1 c
    ·exact c c2
   ·have c0:j≠i/\x.vm=0:=by simpa using c
    rw[decide_eq_true c0,Bool.true_and] at hb;refine⟨rfl,rfl,rfl,H.cf h (n:=4) (λ_=>rfl) ⟨λ_=>rfl,λ_=>rfl,H.cf d (n:=2) (λ_=>rfl) ⟨λ_=>rfl,λ_=>rfl,λ_=>rfl,H.cf d (n:=4) (λ_=>rfl) ?_⟩⟩⟩;refine ab (λc=>yes ?_) (λc1=>?_)
    ·rw[hb,Gj];left;rw[<-Gn];exact c
    ·refine⟨rfl,rfl,rfl,H.cf h (n:=4) (λ_=>rfl) ⟨λ_=>rfl,λ_=>rfl,H.cf d (n:=2) (λ_=>rfl) ⟨λ_=>rfl,λ_=>rfl,H.cf d (n:=3) (λ_=>rfl) ⟨λ_=>rfl,λ_=>rfl,H.cf d (n:=3) (λ_=>rfl) ⟨λ_=>rfl,λ_=>rfl,λ_=>rfl,H.cf h (n:=5) (λ_=>rfl) ?_⟩⟩⟩⟩⟩;have e:(x.c.1==2&&decide (y.ph>=2)&&decide (y.vm>0)&&aD .u64 y.vm==x.c.2.1)=D8 s i x j:=by
      rw[hb];rw[show(x.c.1==1&&(y.ph==4&&y.c.1==2))=false from by rw[<-Gn];exact c1,I8];by_cases O:y.vm>0
      ·rw[dH (by omega)];simp only[Gn]
      ·rw[decide_eq_false O];simp
     rw[e];exact ab (λc=>yes c) (λc=>next c)
 ·have:j=s.cs.length:=by have:=of_decide_eq_false c;omega
  subst this;rw[r];symm;rw[GG];intro k o;rw[t k (Bx.1 o)];decide
theorem Tv (H:MU Q X D G w0 w R s T L M) (b:s.cs[i]? =some x) (u:0<=s.ep.now) (hc:i<s.ep.pins.length) (z:(x.ls.length:Int)<=64) (B:0<s.sz) (m:cJ x.c.2.1) (E:vi (a9 s.h.g x.vm) (x.c.2.1 / 16) (a7 x.c.1)=false) (F:lX s.h x=true) {K:Unit->A1->Prop}
 (k: ∀d,MU Q X D G w0 d R (dg s i x).1 T L M->K () d):
 az A2 153 (.bu []) [ag (af R.mb),ag (some ⟨R.cb i,0,none⟩)] w K:=by
 unfold dg at k;rw[av F] at k;refine H.go λw1 H=>ai (C:=U2) (aR:=λ_=>[]) (B2 (SU _ _ w1 K) ⟨rfl,rfl,H.f1 ⟨rfl,rfl,H.cf b (n:=0) (λ_=>rfl) (WL H u hc λv d H=>?_)⟩⟩);have I:ae A2 201 [ag (some ⟨R.tb i,0,none⟩),aa x.vm,aa (x.c.2.1 / 16),aa (a7 x.c.1)] d ((Sh.bu [.one (.int .i64),.one (.int .i64)]).gO ((mT x.ls x.vm (x.c.2.1 / 16) (a7 x.c.1)).1,(mT x.ls x.vm (x.c.2.1 / 16) (a7 x.c.1)).2,())):=by
  rw[<-Tu];obtain⟨a,e,o,m,hb,W,f,J⟩:=H.Dz b;have j:cB D G w0 d ((R.tb i,dq a.st s.sz)::(a.Lt++((a.cb,jT a i x)::(a.Lf++(a.Lw++(T++e)))))) o:=f.perm (bY λy=>by rw[<-hb];simp only[th,AP,AY];omega);exact Vb j.base W.ls z B _ _ _
 have p:=Kc H b m;have q:=Kd H b;refine⟨rfl,rfl,H.c1 b ⟨rfl,rfl,H.cf b (n:=3) (λ_=>rfl) ⟨_,p, _,q, _,I,?_⟩⟩⟩;dsimp only at k ⊢;refine ab (λc=>?_) (λc=>?_)
 ·have c:(mT x.ls x.vm (x.c.2.1 / 16) (a7 x.c.1)).2=0:=by simpa using c
  rw[av c] at k;refine⟨rfl,rfl,H.cs b {x with ph:=3} 2 rfl rfl (λ_=>rfl) (λa h=>⟨h.ls,h.fs,λc=>(by cases c)⟩) λl H=>⟨rfl,rfl,?_⟩⟩;refine H.cs (ff b) {x with ph:=3,fr:=(mT x.ls x.vm (x.c.2.1 / 16) (a7 x.c.1)).1} 9 rfl rfl (λ_=>rfl) (λa h=>⟨h.ls,h.fs,λc=>(by cases c)⟩) λN H=>H.en λr H=>?_;rw[kY] at H;exact k r H
 ·have c:(mT x.ls x.vm (x.c.2.1 / 16) (a7 x.c.1)).2≠0:=by simpa using c
  rw[ao c] at k;have O:ae A2 21 [ag (af X.hb),aa x.vm] d (aa (a9 s.h.g x.vm)):=by
   obtain⟨A,G',L0,S,P,U, _⟩:=H.sat;exact JM S P U x.vm
  refine⟨rfl,rfl,H.f0 ⟨rfl,rfl,H.cf b (n:=3) (λ_=>rfl) ⟨_,O, _,p, _,q,?_⟩⟩⟩;obtain⟨a,e,o,V,hb,W,f,J⟩:=H.Dz b;refine λl t=>Ju (f.ext t).base.again _ _ _ (λhb=>by rw[E] at hb;cases hb) (λ_ bk N j=>?_) l (Ext.refl l);have Y:=(f.ext t).join j;rw[<-V];refine⟨rfl,rfl,Xl (n:=2) (Y.perm (L':=(a.cb,jT a i x)::(a.tb,dq a.st s.sz)::(a.Lt++(a.Lf++(a.Lw++((bk,lS (a9 s.h.g x.vm) (x.c.2.1 / 16) (a7 x.c.1) 3 (0,0,0,0,()) (none,0,0))::(T++e)))))) (bY λy=>by simp only[th,AP,AY];omega)) 0 rfl rfl rfl λr Z=>⟨rfl,rfl,Xl (n:=8) Z 0 rfl rfl rfl λw6 K5=>enM K5 λw7 K6=>k w7 ?_⟩⟩;have K7:=(K6.perm (L':=a.Lw++((a.cb,((jT a i x).set 2 (aa 2)).set 8 (ag (af bk)))::(a.tb,dq a.st s.sz)::(a.Lt++(a.Lf++((bk,lS (a9 s.h.g x.vm) (x.c.2.1 / 16) (a7 x.c.1) 3 (0,0,0,0,()) (none,0,0))::(T++e)))))) (bY λy=>by simp only[FU,AP,AY];omega)).sub (F5 _ _);refine J (a':={a with wp:=some ⟨bk,0,none⟩,Lw:=[(bk,lS (a9 s.h.g x.vm) (x.c.2.1 / 16) (a7 x.c.1) 3 (0,0,0,0,()) (none,0,0))]}) (x':={x with ph:=2,wk:=lN s.h.s.1 (a9 s.h.g x.vm) (x.c.2.1 / 16) (a7 x.c.1) 0}) rfl rfl ⟨W.ls,W.fs,λ_=>⟨bk,(none,0,0),[],[],rfl,rfl,.inl ⟨rfl,rfl,rfl⟩,by show((0:Nat):Int)<=3 - 3;decide⟩⟩ (K7.perm (bY λy=>?_));show CB y ((a.cb,((jT a i x).set 2 (aa 2)).set 8 (ag (af bk)))::(a.tb,dq a.st s.sz)::(a.Lt++(a.Lf++[(bk,lS (a9 s.h.g x.vm) (x.c.2.1 / 16) (a7 x.c.1) 3 (0,0,0,0,()) (none,0,0))]))++(T++e))= _;simp only[AP,AY,FX];omega
end
theorem _root_.Go.Proofs.YtlcenllcmeebhaaGreat.iC.perm {es:List Do} {ck:Nat} {a b:List KV} (h:iC es ck a) (c:b.Perm a):iC es ck b:=by
 obtain⟨⟨p,h1,d⟩,e,f,g⟩:=h;exact⟨⟨p,h1.trans c.symm,d⟩,e,f,(c.map _).nodup_iff.2 g⟩
def tE (kn:List Int) (ds:List DT) (n:Nat):List Int:=((AL n).map λ(f:Nat)=>(f:Int)).filter λf=>(oV ds f).1==5&& !kn.contains f
theorem NH (kn:List Int) (ds:List DT) (n:Nat):tE kn ds (n+1)=tE kn ds n++(if((oV ds (n:Int)).1==5&& !kn.contains (n:Int))=true then[(n:Int)] else[]):=by
 unfold tE;rw[I1,Gd,List.filter_append];congr 1;show List.filter _ [(n:Int)]= _;rw[List.filter_cons,List.filter_nil]
theorem WM {kn:List Int} {ds:List DT} {n:Nat} {f:Int} (h:f∈tE kn ds n):0<=f/\f<(n:Int):=by
 obtain⟨m,a,rfl⟩:=B5.1 (H7.1 h).1;have:=Bx.1 a;omega
theorem Tw (kn:List Int) (ds:List DT) (n:Nat):(tE kn ds n).length<=n:=by
 refine F7 (Hq _ _) ?_;rw[DF,Ee];exact CD _
section
variable {Q:Sys} {X:HX} {D G:List Nat} {w0 w w1:A1} {B:MB} {R:MR} {s:MS} {T L:List (Nat×List AC)} {M:List (Nat×B3)} {i:Nat} {x:bP} {g:Option Bool}
theorem MU.tmp (H:MU Q X D G w0 w R s T L M): ∃a b,cB D G w0 w (T++a) b/\ ∀{T' w'},cB D G w0 w' (T'++a) b->MU Q X D G w0 w' R s T' L M:=by
 obtain⟨B,e,H⟩:=H;obtain⟨a,b,K, _, _, _,J⟩:=H.tmp;exact⟨a,b,K,λK=>⟨B,e,J K⟩⟩
theorem MU.look (H:MU Q X D G w0 w R s T L M) (f:Int):jU w (some R.kb) .i64 f (.bool false) (.bool (s.kn.contains f)):=by
 obtain⟨B,rfl,H⟩:=H;obtain⟨j,l,a,J⟩:=H.kns;by_cases c:f∈s.kn
 ·obtain⟨i,b, _⟩:=H.wf.k.FL (B5.2 ⟨f,c,rfl⟩);exact vJ (a.get (i:=0) rfl) b (by rw[FY.2 c])
 ·refine Ca (a.get (i:=0) rfl) (H.wf.k.OE λt d e=>?_) (by rw[Gp.2 λh=>c (FY.1 h)]);obtain⟨y,g,rfl⟩:=B5.1 d;exact c (by rw[<-e];exact g)
theorem MU.ins (H:MU Q X D G w0 w R s T L M) {f:Int} (c:f∉s.kn) {K:A1->Prop} (k: ∀a,MU Q X D G w0 a R {s with kn:=s.kn++[f]} T L M->K a):
 ∃(r:Nat) (es:Array Do) (b:Nat),some R.kb=some r/\bF w r es b/\gX w r .i64 f (.bool true) es b K:=by
 obtain⟨B,rfl,H⟩:=H;obtain⟨n,o,d,J⟩:=H.kns;have g: ∀t∈s.kn.map (λf=>((f,.bool true):KV)),t.1≠f:=λt h e=>by
  obtain⟨y,j,rfl⟩:=B5.1 h;exact c (by rw[<-e];exact j)
 refine⟨B.kb,⟨B.ke⟩,B.kk,rfl,d.get (i:=0) rfl,xZ (H.wf.k.OE g) ?_⟩;have l:=d.put (i:=0) rfl (o':= .map ⟨B.ke++[{key:=aa f,val:= .bool true,born:=B.kk}]⟩ (B.kk+1)) trivial;have m:(Array.mk B.ke).push {key:=aa f,val:= .bool true,born:=B.kk}=⟨B.ke++[{key:=aa f,val:= .bool true,born:=B.kk}]⟩:=by apply Array.ext';simp
 rw[m];refine k _ ⟨{B with ke:=B.ke++[{key:=aa f,val:= .bool true,born:=B.kk}],kk:=B.kk+1},rfl,J (kn:=s.kn++[f]) ((H.wf.k.push _ g).perm ?_) l⟩;rw[Gd];exact List.perm_append_singleton _ _
theorem FG (H:MU Q X D G w0 w R s T L M) (x:s.h.s.2.length<=4096) {K:Option AM×Nat×Nat->A1->Prop}
 (k: ∀r d l,dx eI r (tE s.kn s.h.s.2 s.h.s.2.length) d->MU Q X D G w0 l R {s with kn:=s.kn++tE s.kn s.h.s.2 s.h.s.2.length} (d++T) L M->K r l):
 az A2 156 (.el (.one .slice)) [ag (af R.mb)] w K:=by
 refine H.go λw1 H=>ai (C:=U2) (aR:=oH) (B2 (FE _ w1 K) ⟨rfl,rfl,H.f0 ?_⟩);obtain⟨A,G',L0,S,z, _,J⟩:=H.sat;refine z5 S z λe a g i l S=>?_;have H:MU Q X D G w0 l R s ((e,[.slice (af a) s.h.s.2.length g])::(a,flat eD s.h.s.2++i)::T) L M:=J (T':=[_, _]) S;clear J S z;generalize O:s.h.s.2.length=N at*
 have P: ∀{B:A1} {U:MS} {V:List (Nat×List AC)},MU Q X D G w0 B R U ((e,[.slice (af a) N g])::(a,flat eD s.h.s.2++i)::V) L M-> ∀f:Int,ae A2 25 [ag (af e),aa f] B ((Sh.bu [eD,.one .bool]).gO (oV s.h.s.2 f,xR s.h.s.2 f,())):=λH f=>by
  obtain⟨L0,p,q⟩:=H.base;subst O;exact ae.of λw' h'=>G4 ((p.dj _ (q _ Az)).ext h') ((p.dj _ (q _ (Ap _ Az))).ext h') f
 have W:ae A2 62 [ag (af e)] l (aa (N:Int)):=by
  obtain⟨L0,p,q⟩:=H.base;exact ae.of (s:= .el (.one (.int .i64))) λw' h'=>sj ((p.dj _ (q _ Az)).ext h')
 refine⟨_,W,?_⟩;refine⟨λn st t=> ∃(j:Nat) (d:List (Nat×List AC)),j<=N/\n=N - j/\st.2.1=(j:Int)/\dx eI st.1 (tE s.kn s.h.s.2 j) d/\MU Q X D G w0 t R {s with kn:=s.kn++tE s.kn s.h.s.2 j} ((e,[.slice (af a) N g])::(a,flat eD s.h.s.2++i)::(d++T)) L M,⟨N,λt x=>⟨0,[],F6 _,rfl,rfl,dx.nil eI,by
  have:tE s.kn s.h.s.2 0=[]:=rfl;rw[this,DZ];exact H.ext x⟩⟩,?_⟩
 clear H;rintro n ⟨r,Y, _⟩ t ⟨j,d,Z,qK,hi,m,H⟩;have hi:Y=(j:Int):=hi;have m:dx eI r (tE s.kn s.h.s.2 j) d:=m;subst hi qK;dsimp only;refine ab (λc=>?_) (λc=>?_)
 ·have Z:j<N:=by have:=of_decide_eq_true c;omega
  have A3:=Tw s.kn s.h.s.2 j;have hc:(s.kn++tE s.kn s.h.s.2 j).contains (j:Int)=s.kn.contains (j:Int):=by
   rw[Bool.eq_iff_iff,FY,FY,Gr];refine⟨λh=>h.resolve_right λh=>?_,.inl⟩;have:=WM h;omega
  refine⟨_,P H (j:Int),H.al λb E H=>H.st 0 rfl rfl rfl λw6 H=>⟨rfl,H.cx 0 rfl (show _=some (oV s.h.s.2 (j:Int)).1 from rfl) ⟨λ_=>rfl,λ_=>rfl,H.f4 ⟨s.kn.contains (j:Int),λ_=>?_,?_⟩⟩⟩⟩
  ·have:=H.look (j:Int);rw[show(s.kn++tE s.kn s.h.s.2 j).contains (j:Int)=s.kn.contains (j:Int) from hc] at this;exact this
  ·have H:MU Q X D G w0 w6 R {s with kn:=s.kn++tE s.kn s.h.s.2 j} ((e,[.slice (af a) N g])::(a,flat eD s.h.s.2++i)::(d++T)) L M:=H.sub (Cp _ _);have o:=NH s.kn s.h.s.2 j;refine ab (λc=>⟨rfl,rfl,H.f4 λw7 u=>?_⟩) (λc w7 u=>⟨N - (j+1),by omega,j+1,d,by omega,rfl,?_,?_,?_⟩)
   ·rw[av c] at o;have XZ:s.kn.contains (j:Int)=false:=by
     simp only[Eo,Bool.not_eq_true'] at c;exact c.2
    refine(H.ext u).ins (f:=(j:Int)) (λh=>?_) λw8 H=>H.al λv w9 H l4 Dx=>?_
    ·rw[<-FY,hc,XZ] at h;cases h
    ·have H:=H.ext Dx;obtain⟨R',Mo,F,J⟩:=H.tmp;have hb:bK l4 v (cellsOf eI (j:Int)):=F.base.dj _ Az;have K2:=F.perm (L':=d++((v,[aa (j:Int)])::(e,[.slice (af a) N g])::(a,flat eD s.h.s.2++i)::(T++R'))) (bY λy=>by simp only[AP,AY];omega);refine FV K2 m rfl (ys:=[(j:Int)]) rfl (sg hb) rfl rfl (by rw[Hr];omega) λs' I og fo K3 DI T7=>⟨N - (j+1),by omega,j+1,I,by omega,rfl,?_,?_,?_⟩
     ·rw[aw (by omega) (by omega)];omega
     ·rw[o];exact fo
     ·have H2:=J (T':=(v,[aa (j:Int)])::(e,[.slice (af a) N g])::(a,flat eD s.h.s.2++i)::(I++T)) (K3.perm (bY λy=>by simp only[AP,AY];omega));rw[o, <-Kh];exact MU.ext (H2.sub (Cp _ _)) T7
   ·rw[aw (by omega) (by omega)];omega
   ·rw[o,ao (by rw[c];decide),DZ];exact m
   ·rw[o,ao (by rw[c];decide),DZ];exact H.ext u
 ·have:j=N:=by have:=of_decide_eq_false c;omega
  subst this;exact H.en λE H=>k r d E m (H.sub ((List.Sublist.refl _).cons _ |>.cons _))
end
structure Bn (s:MS):Prop where
 c8:s.cs.length<=8
 pn:s.ep.pins.length=s.cs.length
 bn:s.bx.length=s.cs.length
 now:0<=s.ep.now/\s.ep.now<4611686018427387000
 ws:s.ep.ws.length<=1000000
 wn: ∀e∈s.ep.ws,0<=e.2/\e.2<=s.ep.now
 ms:s.ms.length<=900000000
 op:s.op.length<=900000000
 bl: ∀q∈s.bx,q.length<=16
 sz:0<s.sz/\s.sz<=64
 ls: ∀y∈s.cs,(y.ls.length:Int)<=s.sz
 vm: ∀y∈s.cs,y.vm<9223372036854775808
 cu: ∀y∈s.cs,cJ y.c.2.1/\cJ y.c.2.2.1/\cJ y.c.2.2.2.1
section
variable {Q:Sys} {X:HX} {D G:List Nat} {w0 w w1:A1} {B:MB} {R:MR} {s:MS} {T L:List (Nat×List AC)} {M:List (Nat×B3)} {i:Nat} {x:bP} {g:Option Bool}
theorem MU.sys (H:MU Q X D G w0 w R s T L M):yT s.h.s:=by
 obtain⟨B,e,A,ca,la,h1,a,b⟩:=H;exact a
theorem aay (H:MU Q X D G w0 w R s T L M) (g:CH Q s.h) (v k:Int) {a b c:Int} (i:cJ a) (hb:cJ b) (hc:cJ c) {K:Int×Int×Unit->A1->Prop}
 (kk: ∀d,MU Q X D G w0 d R {s with h:=kZ s.h v k a b c} T L M->K (yx s.h v k a b c,rN s.h v k a b c,()) d):
 az A2 42 (.el (.agg iR)) [ag (af X.hb),aa v,.agg ⟨gm k a b c⟩] w K:=λw1 h1=>by
 obtain⟨B,e,H⟩:=H.ext h1;obtain⟨j,L',f,J⟩:=H.hv;exact aap f g v k i hb hc λd f=>kk d ⟨B,e,J f⟩
theorem Tx (H:MU Q X D G w0 w R s T L M) (hc:i<s.bx.length) (v:s.bx.length<=8) (x:s.op.length<=900000000) (c: ∀q∈s.bx,q.length<=16) (t p:Int) {K:Int×Int×Unit->A1->Prop}
 (k: ∀e a,MU Q X D G w0 a R {s with bx:=(cL s.bx s.op i t p).2.1,op:=(cL s.bx s.op i t p).2.2} T L M->K ((cL s.bx s.op i t p).1,e,()) a):
 az A2 157 (.bu [.one (.int .i64),.one (.int .i64)]) [ag (af R.xb),aa (i:Int),aa t,aa p] w K:=by
 obtain⟨B,rfl,H⟩:=H;obtain⟨y,z,d,J⟩:=H.bxs;have W:=H.wf;have f:=W.l;refine SG d W.b W.o W.l i (by omega) (by omega) (by omega) c t p λe g h j a m n r u=>k e a ⟨{B with so:=h,Lo:=j,cr:=g},rfl,J (op:=(cL s.bx s.op i t p).2.2) (bx:=(cL s.bx s.op i t p).2.1) r ?_ n u⟩;rw[m,f];unfold cL;split
 ·rfl
 ·split
  ·rfl
  ·simp
theorem aaz {b:List (Nat×List AC)} (H:MU Q X D G w0 w R s (b++T) L M) (d:s.cs[i]? =some x) {r:Option AM×Nat×Nat} {l:List Int} (e:dx eI r l b) {K:A1->Prop}
 (k: ∀w1,MU Q X D G w0 w1 R (cj s i {x with fs:=l}) T L M->K w1):aC w (ad (some ⟨R.cb i,0,none⟩) 13) [.slice r.1 r.2.1 r.2.2] K:=by
 obtain⟨a,c,o,f,hb,W,g,J⟩:=H.Dz d;rw[<-f];refine Xl (n:=13) (g.perm (L':=(a.cb,jT a i x)::(a.tb,dq a.st s.sz)::(a.Lt++(a.Lw++(a.Lf++(b++(T++c)))))) (bY λy=>by simp only[th,AP,AY];omega)) 0 rfl rfl rfl λh j=>k h ?_;have m:=(j.perm (L':=a.Lf++((a.cb,(jT a i x).set 13 (.slice r.1 r.2.1 r.2.2))::(a.tb,dq a.st s.sz)::(a.Lt++(a.Lw++(b++(T++c)))))) (bY λy=>by simp only[FU,AP,AY];omega)).sub (F5 _ _);refine J (a':={a with sf:=r,Lf:=b}) (x':={x with fs:=l}) rfl rfl ⟨W.ls,e,W.wk⟩ (m.perm (bY λy=>?_));show CB y ((a.cb,(jT a i x).set 13 (.slice r.1 r.2.1 r.2.2))::(a.tb,dq a.st s.sz)::(a.Lt++(b++a.Lw))++(T++c))= _;simp only[AP,AY];omega
theorem Ty {b:Nat} {l:List AC} (H:MU Q X D G w0 w R s ((b,l)::T) L M) (j:l.length=2) (A:s.cs.length<=8) (B:s.bx.length=s.cs.length) (m:s.op.length<=900000000) (o: ∀q∈s.bx,q.length<=16) (r:0<s.sz) (u:(x.ls.length:Int)<=64) (f:s.cs[i]? =some x) (t p:Int) {K:Cs->A1->Prop}
 (k: ∀d,MU Q X D G w0 d R (cj {s with bx:=(cL s.bx s.op i t p).2.1,op:=(cL s.bx s.op i t p).2.2} i {x with ls:=iX x.ls t p,ak:=(cL s.bx s.op i t p).1,ph:=4}) T L M->K ((0,0,()),false,()) d):
 az A2 67 (.bu []) [ag (some ⟨R.cb i,0,none⟩),aa t,aa p] w λ_ d=>
  (some ⟨R.mb,0,none⟩:Option AM).isSome=true/\(some ⟨R.mb,0,none⟩:Option AM).isSome=true/\aj d none (ad (af R.mb) 2) (.one .ptr) λ(x1:Option AM)=>
  (some ⟨R.cb i,0,none⟩:Option AM).isSome=true/\(some ⟨R.cb i,0,none⟩:Option AM).isSome=true/\aj d none (ad (some ⟨R.cb i,0,none⟩) 0) (.one (.int .i64)) λ(v:Int)=>
  az A2 157 (.bu [.one (.int .i64),.one (.int .i64)]) [ag x1,aa v,aa t,aa p] d λ(y:Int×Int×Unit) d=>
  (some ⟨R.cb i,0,none⟩:Option AM).isSome=true/\(some ⟨R.cb i,0,none⟩:Option AM).isSome=true/\aC d (ad (some ⟨R.cb i,0,none⟩) 12) [aa y.1] λd=>
  (some ⟨R.cb i,0,none⟩:Option AM).isSome=true/\(some ⟨R.cb i,0,none⟩:Option AM).isSome=true/\aC d (ad (some ⟨R.cb i,0,none⟩) 2) [aa 4] λd=>
  aC d (af b) [ay 0,aa 0] λd=>au d λw1=>aj w1 none (af b) (El.agg [.int .u64,.int .i64]) λ(x:Int×Int×Unit)=>K ((x.1,x.2.1,()),false,()) w1:=by
 have C:=(Am.1 f).1;refine Ad H f u r t p λd H=>⟨rfl,rfl,H.f2 ⟨rfl,rfl,H.cf (ff f) (n:=0) (λ_=>rfl) ?_⟩⟩;refine Tx H (show i<s.bx.length by omega) (show s.bx.length<=8 by omega) m o t p λe z H=>⟨rfl,rfl,?_⟩;have g:(cj {s with bx:=(cL s.bx s.op i t p).2.1,op:=(cL s.bx s.op i t p).2.2} i {x with ls:=iX x.ls t p}).cs[i]? =some {x with ls:=iX x.ls t p}:=ff (s:={s with bx:=(cL s.bx s.op i t p).2.1,op:=(cL s.bx s.op i t p).2.2}) f;have H:MU Q X D G w0 z R (cj {s with bx:=(cL s.bx s.op i t p).2.1,op:=(cL s.bx s.op i t p).2.2} i {x with ls:=iX x.ls t p}) ((b,l)::T) L M:=H;refine H.cs g {x with ls:=iX x.ls t p,ak:=(cL s.bx s.op i t p).1} 12 rfl rfl (λ_=>rfl) (λa h=>⟨h.ls,h.fs,h.wk⟩) λE H=>⟨rfl,rfl,?_⟩;refine H.cs (ff g) {x with ls:=iX x.ls t p,ak:=(cL s.bx s.op i t p).1,ph:=4} 2 rfl rfl (λ_=>rfl) (λa h=>⟨h.ls,h.fs,λc=>(by cases c)⟩) λF H=>?_;rw[kY,kY] at H;exact H.res j 0 0 false k
end
section
variable {Q:Sys} {X:HX} {D G:List Nat} {w0 w w1:A1} {B:MB} {R:MR} {s:MS} {T L:List (Nat×List AC)} {M:List (Nat×B3)} {i:Nat} {x:bP} {g:Option Bool}
theorem NI (H:MU Q X D G w0 w R s T L M) (Bd:Bn s) (j:s.cs[i]? =some x) (W:CH Q s.h) (Y:lX s.h x=true->vi (a9 s.h.g x.vm) (x.c.2.1 / 16) (a7 x.c.1)=false) {K:Cs->A1->Prop}
 (k: ∀d,MU Q X D G w0 d R (dg s i x).1 T L M->K (((dg s i x).2.1.1,(dg s i x).2.1.2,()),(dg s i x).2.2,()) d):
 az A2 110 Oq [ag (af R.mb),ag (some ⟨R.cb i,0,none⟩)] w K:=by
 have F:=DD j;have lY:=(Am.1 j).1;have Oa:=Bd.ls x F;have I:=Bd.sz;have u:=Bd.cu x F;have J:=Bd.c8;have Ao:=Bd.pn;refine H.go λw1 H=>aQ (C:=U2) (aR:=λ_=>[]) (B2 (Nf _ _ w1 K) (H.al λb d H=>⟨lX s.h x,NF H j,?_⟩));by_cases m:lX s.h x=true
 ·have Z:(dg s i x).2=((0,0),false):=by
   unfold dg;rw[av m];dsimp only;split<;>rfl
  rw[Z] at k;exact aA m (Tv H j Bd.now.1 (by omega) (by omega) I.1 u.1 (Y m) m λN H=>H.res rfl 0 0 false k)
 refine an (Gp.2 m) ⟨pa s i x,IC H j J Bd.vm,?_⟩;by_cases o:pa s i x=true
 ·have e:dg s i x=(s,(0,9),true):=by unfold dg;rw[ao m,av o]
  rw[e] at k;exact aA o (H.res rfl 0 9 true k)
 refine an (Gp.2 o) ⟨rfl,rfl,H.cf j (n:=3) (λ_=>rfl) ⟨λ_=>rfl,λ_=>rfl,H.cf j (n:=4) (y:=x.c) (λ_=>rfl) ?_⟩⟩;have O:(x.vm==0&&(x.c.1==17&&(x.c.2.1==0&&(x.c.2.2.1==0&&(x.c.2.2.2.1==0&&true)))))=true<->(x.vm=0/\x.c=(17,0,0,0,())):=by
  obtain⟨k1,a1,b1,c1,⟨⟩⟩:=x.c;simp only[Eo,beq_iff_eq,Prod.mk.injEq,and_true]
 by_cases v:x.vm=0/\x.c=(17,0,0,0,())
 ·have e:dg s i x=((cK s).1,((((cK s).2:Nat):Int),0),true):=by unfold dg;rw[ao m,ao o,av v]
  rw[e] at k;refine aA (O.2 v) (Fl H (by omega) Bd.now Bd.ws Bd.wn Bd.ms λN H=>?_);have hlen:(cK s).2<=s.ep.ws.length:=by
   unfold cK oS;rw[iN,DF];refine F7 (Hq _ _) ?_;rw[vu];exact CD _
  have vZ:=Bd.ws;rw[dH (by omega)];exact H.res rfl _ 0 true k
 refine an (Gp.2 λc=>v (O.1 c)) ?_;have e:dg s i x=fI s i x:=by unfold dg;rw[ao m,ao o,ao v]
 rw[e] at k;refine⟨rfl,rfl,H.f0 ⟨rfl,rfl,H.cf j (n:=3) (λ_=>rfl) ⟨rfl,rfl,H.cf j (n:=4) (y:=x.c) (λ_=>rfl) (aay H W x.vm x.c.1 u.1 u.2.1 u.2.2 λN H=>⟨rfl,rfl,?_⟩)⟩⟩⟩;unfold fI at k;generalize hh':kZ s.h x.vm x.c.1 x.c.2.1 x.c.2.2.1 x.c.2.2.2.1=h' at*
 generalize hV:yx s.h x.vm x.c.1 x.c.2.1 x.c.2.2.1 x.c.2.2.2.1=V at*
 generalize f:rN s.h x.vm x.c.1 x.c.2.1 x.c.2.2.1 x.c.2.2.2.1=E at*
 dsimp only at k ⊢;have S:({s with h:=h'}:MS).cs[i]? =some x:=j;refine H.cs S {x with rs:=(V,E)} 10 rfl rfl (λ_=>rfl) (λa h=>⟨h.ls,h.fs,h.wk⟩) λw4 H=>?_;have z:=ff (y:={x with rs:=(V,E)}) S;refine⟨rfl,rfl,H.cf z (n:=3) (λ_=>rfl) ⟨rfl,rfl,H.cf z (n:=4) (y:=x.c) (λ_=>rfl) ⟨rfl,rfl,H.cf z (n:=10) (y:=(V,E,())) (λ_=>rfl) ?_⟩⟩⟩;have hms:=Bd.ms;refine um H (show s.ms.length<= _ by omega) (1,x.vm,0,x.c,V,E) λw5 H=>FG H H.sys.2.2.1 λr Lr w6 hs H=>⟨rfl,rfl,?_⟩;have vQ:({ {cj {s with h:=h'} i {x with rs:=(V,E)} with ms:=s.ms++[(1,x.vm,0,x.c,V,E)]} with kn:=s.kn++e8 s h'}:MS).cs[i]? =some {x with rs:=(V,E)}:=z;refine aaz (x:={x with rs:=(V,E)}) H vQ hs λA H=>?_;have H:MU Q X D G w0 A R (cj {s with h:=h',kn:=s.kn++e8 s h',ms:=s.ms++[(1,x.vm,0,x.c,V,E)]} i {x with rs:=(V,E),fs:=e8 s h'}) ((b,[ay 0,aa 0])::T) L M:=by
  have H:=H;unfold cj at H;simp only[Dn] at H;exact H
 have l:=ff (s:={s with h:=h',kn:=s.kn++e8 s h',ms:=s.ms++[(1,x.vm,0,x.c,V,E)]}) (y:={x with rs:=(V,E),fs:=e8 s h'}) j;have kE:(x.c.1=2\/x.c.1=4\/x.c.1=5\/x.c.1=10->E≠0)-> ∀d,MU Q X D G w0 d R (cj {s with h:=h',kn:=s.kn++e8 s h',ms:=s.ms++[(1,x.vm,0,x.c,V,E)]} i {x with rs:=(V,E),fs:=e8 s h'}) T L M->K ((V,E,()),true,()) d:=λf d H=>by
  have:=k d;by_cases c:x.c.1=2\/x.c.1=4\/x.c.1=5\/x.c.1=10
  ·rw[av c,av (f c)] at this;exact this H
  ·rw[ao c] at this;exact this H
 have kP:x.c.1=2\/x.c.1=4\/x.c.1=5\/x.c.1=10->E=0-> ∀t p:Int,(if x.c.1=2 then aD .i64 x.c.2.1 else x.vm)=t->(if x.c.1=2 then -1 else aD .i64 x.c.2.1)=p-> ∀d,MU Q X D G w0 d R (cj {s with h:=h',kn:=s.kn++e8 s h',ms:=s.ms++[(1,x.vm,0,x.c,V,E)],bx:=(cL s.bx s.op i t p).2.1,op:=(cL s.bx s.op i t p).2.2} i {x with rs:=(V,E),fs:=e8 s h',ls:=iX x.ls t p,ak:=(cL s.bx s.op i t p).1,ph:=4}) T L M->K ((0,0,()),false,()) d:=λc f t p B q d H=>by
  have:=k d;rw[av c,ao (by omega),B,q] at this;exact this H
 have tl:=λ(c:x.c.1=2\/x.c.1=4\/x.c.1=5\/x.c.1=10) (f:E=0) (t p:Int) (B:(if x.c.1=2 then aD .i64 x.c.2.1 else x.vm)=t) (q:(if x.c.1=2 then -1 else aD .i64 x.c.2.1)=p)=>Ty (i:=i) (K:=K) (x:={x with rs:=(V,E),fs:=e8 s h'}) H rfl (show(s.cs.set i _).length<=8 by rw[DA];exact J) (show s.bx.length=(s.cs.set i _).length by rw[DA];exact Bd.bn) Bd.op Bd.bl I.1 (show(x.ls.length:Int)<=64 by omega) l t p λU H=>kP c f t p B q U (by
  have H:MU Q X D G w0 U R (cj (cj {s with h:=h',kn:=s.kn++e8 s h',ms:=s.ms++[(1,x.vm,0,x.c,V,E)],bx:=(cL s.bx s.op i t p).2.1,op:=(cL s.bx s.op i t p).2.2} i {x with rs:=(V,E),fs:=e8 s h'}) i {x with rs:=(V,E),fs:=e8 s h',ls:=iX x.ls t p,ak:=(cL s.bx s.op i t p).1,ph:=4}) T L M:=H;rw[kY] at H;exact H)
 refine⟨rfl,rfl,H.cf l (n:=3) (λ_=>rfl) ⟨rfl,rfl,rfl,H.cf l (n:=5) (λ_=>rfl) ⟨rfl,rfl,rfl,H.cf l (n:=4) (λ_=>rfl) ?_⟩⟩⟩;have br: ∀{P:Prop},(E=0->P)->aI (E != 0) ((some ⟨R.cb i,0,none⟩:Option AM).isSome=true/\(some ⟨R.cb i,0,none⟩:Option AM).isSome=true/\aj A none (ad (some ⟨R.cb i,0,none⟩) 10) (El.agg [.int .u64,.int .i64]) λ(x:Int×Int×Unit)=>aC A (af b) [ay x.1,aa x.2.1] λd=>au d λw1=>aj w1 none (af b) (El.agg [.int .u64,.int .i64]) λ(x:Int×Int×Unit)=>K ((x.1,x.2.1,()),true,()) w1) P:=λq=>by
  refine ab (λc=>⟨rfl,rfl,H.cf l (n:=10) (y:=(V,E,())) (λ_=>rfl) (H.res rfl _ _ true (kE λ_=>by simpa using c))⟩) (λc=>q (by simpa using c))
 by_cases c2:x.c.1=2
 ·refine aA (by rw[c2];rfl) ⟨rfl,rfl,rfl,H.cf l (n:=5) (λ_=>rfl) ⟨rfl,rfl,rfl,H.cf l (n:=11) (λ_=>rfl) (br λf=>?_)⟩⟩;exact tl (.inl c2) f _ _ (av c2) (av c2)
 refine an (beq_eq_false_iff_ne.2 c2) ?_;by_cases c4:x.c.1=4
 ·refine aA (by rw[c4];rfl) (aA (by rw[c4];rfl) ⟨rfl,rfl,rfl,H.cf l (n:=11) (λ_=>rfl) (br λf=>?_)⟩);exact tl (.inr (.inl c4)) f _ _ (ao c2) (ao c2)
 refine an (beq_eq_false_iff_ne.2 c4) ?_;by_cases c5:x.c.1=5
 ·refine aA (by rw[c5];rfl) (aA (by rw[c5];rfl) ⟨rfl,rfl,rfl,H.cf l (n:=11) (λ_=>rfl) (br λf=>?_)⟩);exact tl (.inr (.inr (.inl c5))) f _ _ (ao c2) (ao c2)
 refine an (beq_eq_false_iff_ne.2 c5) ?_;by_cases YI:x.c.1=10
 ·refine aA (by rw[YI];rfl) ⟨rfl,rfl,rfl,H.cf l (n:=11) (λ_=>rfl) (br λf=>?_)⟩;exact tl (.inr (.inr (.inr YI))) f _ _ (ao c2) (ao c2)
 refine an (beq_eq_false_iff_ne.2 YI) ⟨rfl,rfl,H.cf l (n:=10) (y:=(V,E,())) (λ_=>rfl) (H.res rfl _ _ true (kE λc=>?_))⟩;rcases c with c|c|c|c
 ·exact absurd c c2
 ·exact absurd c c4
 ·exact absurd c c5
 ·exact absurd c YI
end
def Ja (l:List AC) (n:Int):AC:=match l.get?Internal n.toNat with
 |some x=>x
 |none=>Value.tuple ⟨[]⟩
abbrev sFs:El:= .agg [.func,.func,.func,.func,.func]
def KJ (x:Option AM) (n:Int) (b c:Nat) (Post:Cs->A1->Prop) (r:Cs) (a:A1):Prop:=
 aC a (af c) [ay r.1.1,aa r.1.2.1] λa=>
  aI (!r.2.1)
   (aC a (af b) [ay 0,aa 0] λa=>au a λw1=>aj w1 none (af b) (.agg iR) λ(y:Int×Int×Unit)=>Post ((y.1,y.2.1,()),false,()) w1)
   (x.isSome=true/\x.isSome=true/\aj a none (ad x 1) (.one .ptr) λ(t:Option AM)=>x.isSome=true/\
    aC a x [aa n,ag t,aa 0,aa 0,aa 0,ay 0,ay 0,ay 0,ag none,aa 0,ay 0,aa 0,aa 0,.slice none 0 0] λa=>
    aj a none (af c) (.agg iR) λ(y:Int×Int×Unit)=>aC a (af b) [ay y.1,aa y.2.1] λa=>au a λw1=>aj w1 none (af b) (.agg iR) λ(y:Int×Int×Unit)=>Post ((y.1,y.2.1,()),true,()) w1)
def aca (p x:Option AM) (n:Int) (b:Nat) (Post:Cs->A1->Prop) (a:A1):Prop:=
 x.isSome=true/\x.isSome=true/\aj a none (ad x 2) (.one (.int .i64)) λ(ph:Int)=>
  (az A2 68 (.el sFs) [ag p] a λ(f:AC×AC×AC×AC×AC×Unit) a=>cC a (ad x 2) (.one (.int .i64)) ph/\True/\True/\(0<=ph/\ph<((5:Nat):Int))/\
   (Ak A2 (Ja [f.1,f.2.1,f.2.2.1,f.2.2.2.1,f.2.2.2.2.1] ph) Oq [ag x] a λ(r:Cs) a=>aN a ⟨[ay 0,aa 0]⟩ 61 λc a=>KJ x n b c Post r a)/\
   aN a ⟨[ay 0,aa 0]⟩ 61 λc a=>Ak A2 (Ja [f.1,f.2.1,f.2.2.1,f.2.2.2.1,f.2.2.2.2.1] ph) Oq [ag x] a λ(r:Cs) a=>KJ x n b c Post r a)/\
  aN a ⟨[ay 0,aa 0]⟩ 61 λc a=>az A2 68 (.el sFs) [ag p] a λ(f:AC×AC×AC×AC×AC×Unit) a=>cC a (ad x 2) (.one (.int .i64)) ph/\True/\True/\(0<=ph/\ph<((5:Nat):Int))/\
   Ak A2 (Ja [f.1,f.2.1,f.2.2.1,f.2.2.2.1,f.2.2.2.2.1] ph) Oq [ag x] a λ(r:Cs) a=>KJ x n b c Post r a
theorem En {a:Nat} {sh:Sh} {first args:List AC} {w:A1} {K:sh.T->A1->Prop} (hc:bJ A2 a=true) (b:az A2 a sh (first++args) w K):Ak A2 (.func (.func a) ⟨first⟩ #[]) sh args w K:=by
 unfold Ak;refine λw1 h1=>⟨a,⟨first⟩, #[],rfl,hc,?_⟩;have e:cY ⟨first⟩ args #[]=first++args:=by unfold cY;simp
 rw[e];exact b w1 h1
abbrev F9 (mb f:Nat):AC:= .func (.func f) ⟨[ag (af mb)]⟩ #[]
structure Sx (s:MS) (i:Nat) (x:bP):Prop where
 ph:0<=x.ph/\x.ph<=4
 wk:x.ph=2->0<=x.wk.2.1/\x.wk.2.1<=3
 ln:x.ph=2->(bA s.h.s.1 (x.c.2.1 / 16) (a7 x.c.1) x.wk).2.1= -1->(bA s.h.s.1 (x.c.2.1 / 16) (a7 x.c.1) x.wk).2.2.2.2.2.1=0->lnR (x.vm,x.c.2.1 / 16,(bA s.h.s.1 (x.c.2.1 / 16) (a7 x.c.1) x.wk).2.2.1,(bA s.h.s.1 (x.c.2.1 / 16) (a7 x.c.1) x.wk).2.2.2.1,())=true
 fr:x.ph=3->0<=x.fr/\x.fr<4096
 ak:x.ph=4->x.ak<4611686018427387904/\x.fs.length<=1000000/\ ∀f∈x.fs,0<=f
 bw:lX s.h x=true->vi (a9 s.h.g x.vm) (x.c.2.1 / 16) (a7 x.c.1)=false
 tk: ∀a q,s.bx[i]? =some (a::q)->(1<=a.1/\a.1<=(s.op.length:Int))/\ -1000<=s.op.getD (a.1 - 1).toNat 0/\s.op.getD (a.1 - 1).toNat 0<=1000
section
variable {Q:Sys} {X:HX} {D G:List Nat} {w0 w w1:A1} {B:MB} {R:MR} {s:MS} {T L:List (Nat×List AC)} {M:List (Nat×B3)} {i:Nat} {x:bP} {g:Option Bool}
theorem Ag (H:MU Q X D G w0 w R s T L M) {K:AC×AC×AC×AC×AC×Unit->A1->Prop} (k: ∀a,MU Q X D G w0 a R s T L M->K (F9 R.mb 109,F9 R.mb 110,F9 R.mb 111,F9 R.mb 112,F9 R.mb 113,()) a):
 az A2 68 (.el sFs) [ag (af R.mb)] w K:=by
 refine H.go λw1 H=>aQ (C:=U2) (aR:=λ_=>[]) (B2 (Iq _ w1 K) (H.al λb a H=>H.st 0 rfl rfl rfl λd H=>H.en λc H=>H.ld 0 rfl (show _=some (F9 R.mb 109,F9 R.mb 110,F9 R.mb 111,F9 R.mb 112,F9 R.mb 113,()) from rfl) (k c (H.sub (Cp _ _)))))
theorem vK (H:MU Q X D G w0 w R s T L M) (Bd:Bn s) (a:s.cs[i]? =some x) (f:CH Q s.h) (S:Sx s i x) {K:Cs->A1->Prop}
 (k: ∀d,MU Q X D G w0 d R (bL s i x).1 T L M->K (((bL s i x).2.1.1,(bL s i x).2.1.2,()),(bL s i x).2.2,()) d):
 Ak A2 (Ja [F9 R.mb 109,F9 R.mb 110,F9 R.mb 111,F9 R.mb 112,F9 R.mb 113] x.ph) Oq [ag (some ⟨R.cb i,0,none⟩)] w K:=by
 have c:=DD a;have g:=(Am.1 a).1;have j:=Bd.pn;have l:=Bd.c8;have m:=S.ph;by_cases c0:x.ph=0
 ·have e:bL s i x=((cK s).1,(0,0),false):=av c0;rw[e] at k;rw[c0];exact En (first:=[_]) (by kernel_rfl) (Tp H (by omega) Bd.now Bd.ws Bd.wn Bd.ms _ k)
 by_cases c1:x.ph=1
 ·have e:bL s i x=dg s i x:=by unfold bL;rw[ao c0,av c1]
  rw[e] at k;rw[c1];exact En (first:=[_]) (by kernel_rfl) (NI H Bd a f S.bw k)
 by_cases c2:x.ph=2
 ·have e:bL s i x=jY s i x:=by unfold bL;rw[ao c0,ao c1,av c2]
  rw[e] at k;rw[c2];have b:(jY s i x).2.1.1=0:=by
   unfold jY;dsimp only;split
   ·rfl
   ·split<;>rfl
  rw[b] at k;exact En (first:=[_]) (by kernel_rfl) (Tt H a c2 (S.wk c2) (Bd.cu x c).1 (by omega) (Bd.ls x c) Bd.sz (S.ln c2) k)
 by_cases c3:x.ph=3
 ·have e:bL s i x=fA s i x:=by unfold bL;rw[ao c0,ao c1,ao c2,av c3]
  rw[e] at k;rw[c3];have b:(fA s i x).2.1.2=0/\(fA s i x).2.2=true:=by
   unfold fA;dsimp only;split<;>exact⟨rfl,rfl⟩
  rw[b.1,b.2] at k;exact En (first:=[_]) (by kernel_rfl) (NG H a (S.fr c3) (Bd.cu x c).1 (Bd.cu x c).2.1 (by omega) Bd.ms k)
 have c4:x.ph=4:=by omega
 have e:bL s i x=gV s x:=by unfold bL;rw[ao c0,ao c1,ao c2,ao c3]
 rw[e] at k;rw[c4];have b:(if(gV s x).2.2=true then((gV s x).2.1.1,(gV s x).2.1.2,()) else(0,0,()))=((gV s x).2.1.1,(gV s x).2.1.2,()):=by
  unfold gV;split<;>rfl
 rw[<-b] at k;exact En (first:=[_]) (by kernel_rfl) (Tq H a (S.ak c4).1 (S.ak c4).2.1 (S.ak c4).2.2 k)
end
theorem Di: ∀(l:List Int) (s:MS),(l.foldl gq s).cs=s.cs
 |[],s=>rfl
 |f::l,s=>by rw[Gi,Di l];rfl
theorem Ke (s:MS):(cK s).1.cs=s.cs:=by unfold cK;rw[Di]
theorem NJ (s:MS) (i:Nat) (x:bP):(dg s i x).1.cs.length=s.cs.length:=by
 have a: ∀(s:MS) (y:bP),(cj s i y).cs.length=s.cs.length:=λs y=>DA ..;unfold dg;split
 ·dsimp only;split<;>exact a _ _
 ·split
  ·rfl
  ·split
   ·dsimp only;rw[Ke]
   ·unfold fI;dsimp only;split
    ·split<;>exact a _ _
    ·exact a _ _
theorem NK (s:MS) (i:Nat) (x:bP):(bL s i x).1.cs.length=s.cs.length:=by
 have a: ∀(s:MS) (y:bP),(cj s i y).cs.length=s.cs.length:=λs y=>DA ..;unfold bL;split
 ·dsimp only;rw[Ke]
 ·split
  ·exact NJ s i x
  ·split
   ·unfold jY;dsimp only;split
    ·exact a _ _
    ·split<;>exact a _ _
   ·split
    ·unfold fA;dsimp only;split<;>rfl
    ·unfold gV;split<;>rfl
section
variable {Q:Sys} {X:HX} {D G:List Nat} {w0 w w1:A1} {B:MB} {R:MR} {s:MS} {T L:List (Nat×List AC)} {M:List (Nat×B3)} {i:Nat} {x:bP} {g:Option Bool}
theorem WN {b d:Nat} {l g:List AC} (H:MU Q X D G w0 w R s ((d,g)::(b,l)::T) L M) (h:l.length=2) (m:g.length=2) (j:s.cs[i]? =some x) (r:Cs) {K:Cs->A1->Prop}
 (k: ∀e,MU Q X D G w0 e R (if r.2.1=true then cj s i (cq x.ls) else s) T L M->K (if r.2.1=true then((r.1.1,r.1.2.1,()),true,()) else((0,0,()),false,())) e):
 KJ (some ⟨R.cb i,0,none⟩) (i:Int) b d K r w:=by
 unfold KJ;refine H.st 0 rfl rfl m.symm λe H=>ab (λc=>?_) (λc=>?_)
 ·have c:r.2.1=false:=by simpa using c
  rw[c] at k;exact MU.res (H.sub (Cp _ _)) h 0 0 false k
 ·have c:r.2.1=true:=by simpa using c
  rw[c] at k;refine⟨rfl,rfl,H.c1 j ⟨rfl,?_⟩⟩;obtain⟨a,f,u,n,hb,W,o,J⟩:=H.Dz j;rw[<-n, <-hb];refine stB (o.perm (L':=(a.cb,jT a i x)::(a.tb,dq a.st s.sz)::(a.Lt++(a.Lf++(a.Lw++(((d,[ay r.1.1,aa r.1.2.1])::(b,l)::T)++f))))) (bY λy=>by simp only[af,th,AP,AY,FU];omega)) 0 rfl rfl rfl λp q=>?_;have t:=(q.perm (L':=a.Lf++(a.Lw++((a.cb,[aa (i:Int),ag (af a.tb),aa 0,aa 0,aa 0,ay 0,ay 0,ay 0,ag none,aa 0,ay 0,aa 0,aa 0,.slice none 0 0])::(a.tb,dq a.st s.sz)::(a.Lt++(((d,[ay r.1.1,aa r.1.2.1])::(b,l)::T)++f))))) (bY λy=>by simp only[af,FU,AP,AY];omega)).sub ((F5 _ _).trans (F5 _ _));have H:MU Q X D G w0 p R (cj s i (cq x.ls)) ((d,[ay r.1.1,aa r.1.2.1])::(b,l)::T) L M:=by
   refine J (a':={a with wp:=none,sf:=(none,0,0),Lf:=[],Lw:=[]}) (x':=cq x.ls) rfl rfl ⟨W.ls,dx.nil eI,λc=>(by cases c)⟩ (t.perm (bY λy=>?_));show CB y ((a.cb,[aa (i:Int),ag (af a.tb),aa 0,aa 0,aa 0,ay 0,ay 0,ay 0,ag none,aa 0,ay 0,aa 0,aa 0,.slice none 0 0])::(a.tb,dq a.st s.sz)::(a.Lt++([]++[]))++(((d,[ay r.1.1,aa r.1.2.1])::(b,l)::T)++f))= _;simp only[af,AP,AY,FX];omega
  exact H.ld 0 rfl (show _=some (r.1.1,r.1.2.1,()) from rfl) (MU.res (H.sub (Cp _ _)) h _ _ true k)
theorem Fm {b:Nat} {l:List AC} (H:MU Q X D G w0 w R s ((b,l)::T) L M) (q:l.length=2) (Bd:Bn s) (a:s.cs[i]? =some x) (g:CH Q s.h) (S:Sx s i x) {K:Cs->A1->Prop}
 (k: ∀d,MU Q X D G w0 d R (ig (bL s i x) i x).1 T L M->K (((ig (bL s i x) i x).2.1.1,(ig (bL s i x) i x).2.1.2,()),(ig (bL s i x) i x).2.2,()) d):
 aca (af R.mb) (some ⟨R.cb i,0,none⟩) (i:Int) b K w:=by
 have u:=(Am.1 a).1;have v:=NK s i x;obtain⟨x',j⟩: ∃x',(bL s i x).1.cs[i]? =some x':=⟨_,Be (by omega)⟩;have r:(bL s i x).1.cs.getD i x=x':=by rw[Ar,j];rfl
 unfold ig at k;rw[r] at k;have m:=S.ph;have fin: ∀{e:Nat} {o:List AC} {d:A1},o.length=2->MU Q X D G w0 d R (bL s i x).1 ((e,o)::(b,l)::T) L M->KJ (some ⟨R.cb i,0,none⟩) (i:Int) b e K (((bL s i x).2.1.1,(bL s i x).2.1.2,()),(bL s i x).2.2,()) d:=λt H=>by
  refine WN H q t j _ λf H=>?_;have:=k f;dsimp only at H ⊢;by_cases c:(bL s i x).2.2=true
  ·rw[av c] at H this ⊢;exact this H
  ·rw[ao c] at H this ⊢;exact this H
 refine⟨rfl,rfl,H.cf a (n:=2) (λ_=>rfl) ⟨?_,?_⟩⟩
 ·refine Ag H λd H=>⟨H.crd a (n:=2) λ_=>rfl,trivial,trivial,⟨m.1,by show x.ph<5;omega⟩,?_,?_⟩
  ·exact vK H Bd a g S λf H=>H.al λe p H=>fin rfl H
  ·exact H.al λe f H=>vK H Bd a g S λp H=>fin rfl H
 ·exact H.al λe d H=>Ag H λf H=>⟨H.crd a (n:=2) λ_=>rfl,trivial,trivial,⟨m.1,by show x.ph<5;omega⟩,vK H Bd a g S λp H=>fin rfl H⟩
theorem Tz (H:MU Q X D G w0 w R s T L M) (Bd:Bn s) (hi:i<s.cs.length) (m: ∀a q,s.bx[i]? =some (a::q)->(1<=a.1/\a.1<=(s.op.length:Int))/\ -1000<=s.op.getD (a.1 - 1).toNat 0/\s.op.getD (a.1 - 1).toNat 0<=1000) {K:(Int×Int×Int×Unit)×Bool×Unit->A1->Prop}
 (kn:tC s i=none-> ∀c,MU Q X D G w0 c R s T L M->K ((0,0,0,()),false,()) c)
 (ks: ∀a s1,tC s i=some (a,s1)-> ∀c,MU Q X D G w0 c R s1 T L M->K (a,true,()) c):
 az A2 66 (.bu [.agg [.int .i64,.int .i64,.int .i64],.one .bool]) [ag (af R.xb),aa (i:Int)] w K:=by
 obtain⟨B,rfl,H⟩:=H;obtain⟨p,r,n,J⟩:=H.bxs;have W:=H.wf;have f:=W.l;have t:=Bd.bn;have u:=Bd.op;refine SF n W.b W.o W.l i (by omega) m (by omega) λg h c j k d e=>?_;unfold wi at d e ⊢;unfold tC at kn ks;cases hb:s.bx[i]? with
 |none=>
  rw[hb] at d e kn;exact kn rfl c ⟨{B with so:=B.so,Lo:=h,cr:=g},rfl,J (op:=s.op) (bx:=s.bx) d (by rw[j,f]) k e⟩
 |some q=>
  cases q with
  |nil=>
   rw[hb] at d e kn;exact kn rfl c ⟨{B with so:=B.so,Lo:=h,cr:=g},rfl,J (op:=s.op) (bx:=s.bx) d (by rw[j,f]) k e⟩
  |cons a q=>
   rw[hb] at d e ks;refine ks a _ rfl c ⟨{B with so:=B.so,Lo:=h,cr:=g},rfl,J (op:=s.op.set (a.1 - 1).toNat (s.op.getD (a.1 - 1).toNat 0 - 1)) (bx:=s.bx.set i q) d (by rw[j,f,DA]) k e⟩
theorem TA (H:MU Q X D G w0 w R s T L M) (Bd:Bn s) (j:CH Q s.h) (S: ∀i x,s.cs[i]? =some x->Sx s i x) (n:Int) {K:Cs->A1->Prop}
 (k: ∀g,MU Q X D G w0 g R (aX s n).1 T L M->K (((aX s n).2.1.1,(aX s n).2.1.2,()),(aX s n).2.2,()) g):
 az A2 31 Oq [ag (af R.mb),aa n] w K:=by
 refine H.go λw1 H=>aQ (C:=U3) (aR:=λ_=>[]) (B2 (SN _ n w1 K) (H.al λb g H=>⟨_,Em H n,?_⟩));by_cases c:0<=n/\n<(s.cs.length:Int)
 ·obtain⟨i,rfl⟩: ∃i:Nat,n=(i:Int):=⟨n.toNat,by omega⟩;rw[av c,DU];have l:i<s.cs.length:=by omega
  obtain⟨x,f⟩: ∃x,s.cs[i]? =some x:=⟨_,Be l⟩;have t:=Bd.ls x (DD f);have u:=Bd.sz;have e:aX s (i:Int)=i_ s i x:=by unfold aX;rw[ao (by omega),DU,f]
  rw[e] at k;unfold i_ at k;refine an rfl ⟨rfl,rfl,H.cf f (n:=2) (λ_=>rfl) (ab (λc=>?_) (λc=>?_))⟩
  ·have c3:x.ph≠3:=by simpa using c
   rw[ao c3] at k;refine⟨rfl,rfl,H.f2 (Tz H Bd l (S i x f).tk (λd m H=>?_) (λa s1 d m H=>?_))⟩
   ·rw[d] at k;exact H.al λo p H=>H.st 0 rfl rfl rfl λq H=>an rfl (Fm (H.sub (Cp _ _)) rfl Bd f j (S i x f) k)
   ·rw[d] at k;have r:s1.cs[i]? =some x:=by
     unfold tC at d;split at d
     ·cases d;exact f
     ·cases d
    have v:s1.sz=s.sz:=by
     unfold tC at d;split at d
     ·cases d;rfl
     ·cases d
    refine H.al λo p H=>H.st 0 rfl rfl rfl λq H=>aA rfl ⟨rfl,H.cx 0 rfl (show _=some a.2.1 from rfl) ⟨rfl,H.cx 0 rfl (show _=some a.2.2.1 from rfl) ?_⟩⟩;exact Ad H r (by omega) (by omega) _ _ λy H=>MU.res (H.sub (Cp _ _)) rfl 0 0 false k
  ·have c3:x.ph=3:=by simpa using c
   rw[av c3] at k;exact Fm H rfl Bd f j (S i x f) k
 ·rw[ao c];have e:aX s n=(s,(0,0),false):=by
   unfold aX;by_cases h:n<0
   ·rw[av h]
   ·rw[ao h,Kj (by omega)]
  rw[e] at k;exact aA rfl (H.res rfl 0 0 false k)
end
def DO (s:MS) (n:Int):Int:=if n<0 then 0 else match s.cs[n.toNat]? with
 |none=>0
 |some x=>x.ph
def TS (s:MS) (n:Int):List LT:=if n<0 then[] else match s.cs[n.toNat]? with
 |none=>[]
 |some x=>x.ls
def GK (s:MS) (n:Int):Int:=if 0<=n/\n<(s.cs.length:Int) then((s.bx.getD n.toNat []).length:Int) else 0
section
variable {Q:Sys} {X:HX} {D G:List Nat} {w0 w w1:A1} {B:MB} {R:MR} {s:MS} {T L:List (Nat×List AC)} {M:List (Nat×B3)} {i:Nat} {x:bP} {g:Option Bool}
theorem Hf {n:Int} (c: ¬ (0<=n/\n<(s.cs.length:Int))):n<0\/s.cs[n.toNat]? =none:=by
 by_cases h:n<0
 ·exact .inl h
 ·exact .inr (Kj (by omega))
theorem qm (H:MU Q X D G w0 w R s T L M) (n vm k:Int) {a b c:Int} {K:Int->A1->Prop}
 (kk: ∀g,MU Q X D G w0 g R (eB s n vm (k,a,b,c,())) T L M->K (tD s n) g):
 az A2 29 (.el (.one (.int .i64))) [ag (af R.mb),aa n,aa vm,.agg ⟨gm k a b c⟩] w K:=by
 refine H.go λw1 H=>ai (C:=U2) (aR:=λ_=>[]) (B2 (Wn _ n vm k a b c w1 K) (H.al λl g H=>⟨_,Em H n,λ_=>rfl,λ_=>rfl,H.f0 (an rfl ?_)⟩));by_cases hc:0<=n/\n<(s.cs.length:Int)
 ·obtain⟨i,rfl⟩: ∃i:Nat,n=(i:Int):=⟨n.toNat,by omega⟩;rw[av hc,DU];obtain⟨x,d⟩: ∃x,s.cs[i]? =some x:=⟨_,Be (by omega)⟩;unfold eB tD at kk;rw[ao (by omega),ao (by omega),DU,d] at kk;dsimp only at kk;refine an rfl ⟨rfl,rfl,H.cf d (n:=2) (λ_=>rfl) (ab (λe=>?_) (λe=>?_))⟩
  ·have e:x.ph≠0:=by simpa using e
   rw[ao e,ao e] at kk;exact H.en λf H=>kk f (H.sub (Cp _ _))
  ·have c0:x.ph=0:=by simpa using e
   rw[av c0,av c0] at kk;refine H.ld 0 rfl (show _=some (k,a,b,c,()) from rfl) ⟨rfl,rfl,H.cs d {x with ph:=1} 2 rfl rfl (λ_=>rfl) (λa h=>⟨h.ls,h.fs,λc=>(by cases c)⟩) λf H=>⟨?_,rfl,rfl,?_⟩⟩
   ·have:=H.rd 0 (n:=0) (el:= .agg sCl) rfl (show _=some (k,a,b,c,()) from rfl);rw[aW] at this;exact this
   refine H.cs (ff d) {x with ph:=1,vm:=vm} 3 rfl rfl (λ_=>rfl) (λa h=>⟨h.ls,h.fs,λc=>(by cases c)⟩) λm H=>⟨?_,rfl,rfl,?_⟩
   ·have:=H.rd 0 (n:=0) (el:= .agg sCl) rfl (show _=some (k,a,b,c,()) from rfl);rw[aW] at this;exact this
   refine H.cs (ff (ff d)) {x with ph:=1,vm:=vm,c:=(k,a,b,c,())} 4 rfl rfl (λ_=>rfl) (λa h=>⟨h.ls,h.fs,λc=>(by cases c)⟩) λo H=>H.en λj H=>?_;simp only[kY] at H;exact kk j (H.sub (Cp _ _))
 ·rw[ao hc];have e:eB s n vm (k,a,b,c,())=s/\tD s n=2:=by
   unfold eB tD;rcases Hf hc with h|h
   ·rw[av h,av h];exact⟨rfl,rfl⟩
   ·rw[h];constructor<;>split<;>rfl
  rw[e.1,e.2] at kk;exact aA rfl (H.en λf H=>kk f (H.sub (Cp _ _)))
theorem zH (H:MU Q X D G w0 w R s T L M) (n:Int):ae A2 49 [ag (af R.mb),aa n] w (aa (DO s n)):=by
 refine ae.of (s:= .el (.one (.int .i64))) λw1 h1=>ai (C:=U2) (aR:=λ_=>[]) (B2 (Ng _ n w1 _) ?_);have H:=H.ext h1;refine⟨_,Em H n,?_⟩;unfold DO;by_cases hc:0<=n/\n<(s.cs.length:Int)
 ·rw[av hc,ao (by omega)];obtain⟨x,b⟩: ∃x,s.cs[n.toNat]? =some x:=⟨_,Be (by omega)⟩;rw[b];exact an rfl ⟨rfl,rfl,H.cf b (n:=2) (λ_=>rfl) λc a=>⟨rfl,a⟩⟩
 ·rw[ao hc];refine aA rfl λc a=>⟨?_,a⟩;rcases Hf hc with h|h
  ·rw[av h]
  ·rw[h];split<;>rfl
theorem Dj (H:MU Q X D G w0 w R s T L M) (o:s.bx.length=s.cs.length) (n:Int):ae A2 50 [ag (af R.mb),aa n] w (aa (GK s n)):=by
 refine ae.of (s:= .el (.one (.int .i64))) λw1 h1=>ai (C:=U2) (aR:=λ_=>[]) (B2 (SV _ n w1 _) ?_);have H:=H.ext h1;refine⟨_,Em H n,?_⟩;unfold GK;by_cases hc:0<=n/\n<(s.cs.length:Int)
 ·rw[av hc,av hc];obtain⟨i,rfl⟩: ∃i:Nat,n=(i:Int):=⟨n.toNat,by omega⟩;rw[DU];obtain⟨q,d⟩: ∃q,s.bx[i]? =some q:=⟨_,Be (by omega)⟩;rw[Ar,d];refine an rfl ⟨rfl,rfl,H.f2 ⟨(q.length:Int),?_,λf a=>⟨rfl,a⟩⟩⟩;obtain⟨B,rfl,e⟩:=H;obtain⟨g,p,h,J⟩:=e.bxs;have W:=e.wf;have r:=W.l;obtain⟨c,j⟩: ∃c,B.cr[i]? =some c:=⟨_,Be (by omega)⟩;have k:=h.perm (L':=B.Lb++((B.xb,kz B.sb B.so)::(B.Lo++(T++g)))) (bY λy=>by simp only[AP,AY];omega);exact SE k Az W.b (λx m=>B4 _ m) j d
 ·rw[ao hc,ao hc];exact aA rfl λf a=>⟨rfl,a⟩
theorem uo (H:MU Q X D G w0 w R s T L M):ae A2 17 [ag (af R.mb)] w (ag (af X.hb)):=by
 refine ae.of (s:= .el (.one .ptr)) λw1 h1=>ai (C:=U2) (aR:=λ_=>[]) (B2 (Nj _ w1 _) ?_);exact an rfl ⟨rfl,rfl,(H.ext h1).f0 λb a=>⟨rfl,a⟩⟩
theorem NL (H:MU Q X D G w0 w R s T L M) (p:s.ms.length<=1000000000) {K:Option AM×Nat×Nat->A1->Prop}
 (k: ∀r c b,dx eMk r (s.ms.map YJ) c->MU Q X D G w0 b R s (c++T) L M->K r b):
 az A2 41 (.el (.one .slice)) [ag (af R.mb)] w K:=by
 refine H.go λw1 H=>ai (C:=U2) (aR:=λ_=>[]) (B2 (Nh _ w1 K) (an rfl ⟨rfl,rfl,?_⟩));obtain⟨B,rfl,a⟩:=H;refine a.rK (show _=some (B.sm.1,B.sm.2.1,B.sm.2.2) from rfl) λb f=>?_;have a:=a.ext f;obtain⟨t,u,d,g, _, _,J⟩:=a.tmp;have W:=a.wf;have h:=W.m.oW d.base (λx i=>B1 _ (g _ (Ap _ (Ap _ (Ap _ (B1 _ (B4 _ i)))))));refine FV (Ls:=[]) d (dx.nil eMk) rfl (q:=B.sm) W.m.1 h rfl rfl (by rw[DF,KA];omega) λs' e v j l n o=>k _ e n j ⟨B,rfl,?_⟩;exact J (T':=e++T) (by rw[Kh];exact l.ext o)
theorem qH (H:MU Q X D G w0 w R s T L M) (g:0<s.sz/\s.sz<=64) (i: ∀y∈s.cs,(y.ls.length:Int)<=s.sz) (n:Int) {K:Option AM×Nat×Nat->A1->Prop}
 (k: ∀r b c,dx jP r (TS s n) b->MU Q X D G w0 c R s (b++T) L M->K r c):
 az A2 51 (.el (.one .slice)) [ag (af R.mb),aa n] w K:=by
 refine H.go λw1 H=>ai (C:=U2) (aR:=λ_=>[]) (B2 (Ni _ n w1 K) ⟨_,Em H n,?_⟩);unfold TS at k;by_cases hc:0<=n/\n<(s.cs.length:Int)
 ·rw[ao (by omega)] at k;rw[av hc];obtain⟨x,d⟩: ∃x,s.cs[n.toNat]? =some x:=⟨_,Be (by omega)⟩;rw[d] at k;have v:=i x (DD d);refine an rfl ⟨rfl,rfl,H.c1 d ?_⟩;obtain⟨a,j,l,z,hb,W,m,J⟩:=H.Dz d;have f:cB D G w0 w1 ((R.tb n.toNat,dq a.st s.sz)::(a.Lt++((a.cb,jT a n.toNat x)::(a.Lf++(a.Lw++(T++j)))))) l:=m.perm (bY λy=>by rw[<-hb];simp only[th,AP,AY];omega);refine Ld f.base.again W.ls (by omega) g.1 λr b c o p q t=>k r b q o ?_;have:=J (T':=b++T) rfl rfl W (((f.join p).perm (bY λy=>by rw[<-hb];simp only[th,AP,AY];omega)).ext t);rw[NE d] at this;exact this
 ·rw[ao hc];have e:(if n<0 then[] else match s.cs[n.toNat]? with|none=>[]|some x=>x.ls)=([]:List LT):=by
   rcases Hf hc with h|h
   ·rw[av h]
   ·rw[h];split<;>rfl
  rw[e] at k;exact aA rfl λc u=>k (none,0,0) [] c (dx.nil jP) (H.ext u)
theorem pZ (H:MU Q X D G w0 w R s T L M) (l:s.ep.ws.length<=1000000) {K:Option AM×Nat×Nat->A1->Prop}
 (k: ∀r a c,dx eI r (mN (s.ep.ws.map (·.1))) a->MU Q X D G w0 c R s (a++T) L M->K r c):
 az A2 32 (.el (.one .slice)) [ag (af R.mb)] w K:=by
 refine H.go λw1 H=>ai (C:=U2) (aR:=λ_=>[]) (B2 (FF _ w1 K) (an rfl ⟨rfl,rfl,H.f1 ?_⟩));obtain⟨B,rfl,b⟩:=H;obtain⟨m,n,d,J⟩:=b.eps;refine SC d b.wf.w (by omega) Az λr o a c e f g h i j=>k r a i (by rw[<-XV e f];exact g) ⟨_,rfl,J (T':=a++T) (ep:=s.ep) b.wf.p b.wf.w ((h.perm (bY λy=>by simp only[AP,AY];omega)).ext j)⟩
end
section
variable {Q:Sys} {X:HX} {D G:List Nat} {w0 w w1:A1} {B:MB} {R:MR} {s:MS} {T L:List (Nat×List AC)} {M:List (Nat×B3)} {i:Nat} {x:bP} {g:Option Bool}
abbrev tF (B:MB) (n:Nat) (sc:Option AM×Nat×Nat) (Lc:List (Nat×List AC)) (a:CA):MB:={B with sc:=sc,Lc:=Lc,A:=λk=>if k=n then a else B.A k}
theorem iz.cps (H:iz Q X D G w0 w B s T L M): ∃j n,cB D G w0 w ((B.mb,r_ X B)::(B.Lc++(T++j))) n/\
 ∀{T' sc Lc a x w'},dx eP sc (yS B s.cs.length++[some ⟨a.cb,0,none⟩]) Lc->TR a x->cB D G w0 w' ((B.mb,r_ X (tF B s.cs.length sc Lc a))::(Lc++(th a s.cs.length x s.sz++(T'++j)))) n->iz Q X D G w0 w' (tF B s.cs.length sc Lc a) {s with cs:=s.cs++[x]} T' L M:=by
 obtain⟨A,ca,la,h1,r,d,t⟩:=H;refine⟨(B.eb,oM s.ep.now B.sp B.wb)::(B.xb,kz B.sb B.so)::(B.Lm++(B.Lp++(B.Lb++(B.Lo++(ij B s (AL s.cs.length)++(F8 Q X A ca la s.h++L)))))), _,t.perm (bY λa=>by simp only[AP,AY];omega),λ{T' sc Lc a x w'} u v K=>?_⟩;have g: ∀k,k<s.cs.length->(tF B s.cs.length sc Lc a).A k=B.A k:=λk c=>ao (by omega);have i:(tF B s.cs.length sc Lc a).A s.cs.length=a:=av rfl;have q:(s.cs++[x]).length=s.cs.length+1:=by rw[FI];rfl
 have z:yS (tF B s.cs.length sc Lc a) (s.cs++[x]).length=yS B s.cs.length++[some ⟨a.cb,0,none⟩]:=by
  show(AL (s.cs++[x]).length).map _= _;rw[q,I1,Gd];congr 1
  ·exact J3 λk c=>by rw[g k (Bx.1 c)]
  ·show[some (⟨((tF B s.cs.length sc Lc a).A s.cs.length).cb,0,none⟩:AM)]= _;rw[i]
 have C:ij (tF B s.cs.length sc Lc a) {s with cs:=s.cs++[x]} (AL (s.cs++[x]).length)=ij B s (AL s.cs.length)++th a s.cs.length x s.sz:=by
  unfold ij;rw[q,I1,List.flatMap_append];congr 1
  ·refine gB λk c=>?_;have c:=Bx.1 c;show(match (s.cs++[x])[k]? with|some x=> _|none=> _)= _;rw[FK c,g k c]<;>cases s.cs[k]? <;>rfl
  ·show(match (s.cs++[x])[s.cs.length]? with|some x=>th ((tF B s.cs.length sc Lc a).A s.cs.length) s.cs.length x s.sz|none=> _)++[]= _;rw[Gz (CD _),I2,i];exact DZ _
 refine⟨A,ca,la,h1,r,⟨by rw[z];exact u,d.m,d.p,d.b,d.o,d.l,d.k,d.w,λ{k y} f=>?_⟩,K.perm ?_⟩
 ·have f:(s.cs++[x])[k]? =some y:=f;by_cases c:k<s.cs.length
  ·rw[FK c] at f;rw[g k c];exact d.a f
  ·have E:=(Am.1 f).1;have e:k=s.cs.length:=by omega
   subst e;rw[Gz (CD _),I2] at f;cases f;rw[i];exact v
 ·show(T'++(((B.mb,r_ X (tF B s.cs.length sc Lc a))::(B.eb,oM s.ep.now B.sp B.wb)::(B.xb,kz B.sb B.so)::(Lc++(B.Lm++(B.Lp++(B.Lb++B.Lo)))))++(ij (tF B s.cs.length sc Lc a) {s with cs:=s.cs++[x]} (AL (s.cs++[x]).length)++(F8 Q X A ca la s.h++L)))).Perm _;rw[C];exact bY λa=>by simp only[AP,AY];omega
abbrev mZ (f c j:Nat) (l:Int):MS:={m0 f c l with cs:=Cf j (cq [])}
theorem xY (H:aM D G w0 w L) (f c l:Int) (hf:4<=f/\f<=4096) (hl:1<=l/\l<=64) {K:Option AM×Int×Unit->A1->Prop} (kb:c<1\/c>8-> ∀w1,aM D G w0 w1 L->K (none,1,()) w1)
 (V:1<=c->c<=8-> ∀Q X R w1,Q.c=16*f.toNat->MU Q X D G w0 w1 R (m0 f.toNat c.toNat l) [] L []->K (some ⟨R.mb,0,none⟩,0,()) w1):
 az A2 52 (.bu [.one .ptr,.one (.int .i64)]) [aa f,aa c,aa l] w K:=by
 refine az.go H λw1 H=>ai (C:=U2) (aR:=xg) (B2 (Wo f c l w1 K) ?_);refine Wl H f (λh=>by omega) λ_ _ Q X w2 Y H=>an rfl ?_;obtain⟨A,W,S⟩:=H;have Z:yT (h0 f.toNat).s:=⟨S.pos,S.Gu,S.le,S.okw⟩;obtain⟨_, _, _, _,ca,la,H⟩:=S;refine C4 H c (λhc w3 H=>aA rfl λI M=>kb hc I ?_) λc1 c8 eb wb sp Lp w3 Xa H=>an rfl λI M=>?_
 ·refine(H.base.sub ?_).ext M;refine Ek _ (Ek _ (Ek _ (Ek _ (Ek _ (Ek _ (Ek _ (Ek _ (F5 _ _))))))))
 obtain⟨n,rfl⟩: ∃n:Nat,c=(n:Int):=⟨c.toNat,by omega⟩;obtain⟨m,rfl⟩: ∃m:Nat,f=(m:Int):=⟨f.toNat,by omega⟩;simp only[af,DU] at*
 have H:=(H.ext M).alloc (o:= .map ⟨[]⟩ 0) trivial;obtain⟨q,hkb⟩: ∃b,b=I.heap.size:=⟨_,rfl⟩;rw[<-hkb] at H ⊢;refine alM H λmb w5 H=>Wk H (n:Int) (λh=>by omega) λ_ _ xb cr sb Lb w6 O hsb H=>⟨trivial,trivial,?_⟩;rw[DU] at O H;refine Xl (n:=2) (H.perm (L':=(mb,[ag (af X.hb),ag (af eb),ag none,.slice none 0 0,.map (some q),.slice none 0 0])::((xb,kz sb (none,0,0))::(Lb++((eb,oM 0 sp wb)::(Lp++Q.L ca la (h0 m).s (dZ Q X A (h0 m) (bh Q A (h0 m).g (AL 17)++L))))))) (bY λy=>by simp only[af,AP,AY];omega)) 0 rfl rfl rfl λw7 H=>?_;have H0:iz Q X D G w0 w7 {mb:=mb,eb:=eb,xb:=xb,kb:=q,wb:=wb,sc:=(none,0,0),sm:=(none,0,0),sp:=sp,sb:=sb,so:=(none,0,0),Lc:=[],Lm:=[],Lp:=Lp,Lb:=Lb,Lo:=[],cr:=cr,ke:=[],we:=[],kk:=0,wk:=0,A:=λ_=>⟨0,0,(none,0,0),(none,0,0),none,[],[],[]⟩} (mZ m n 0 l) [] L []:=by
  refine⟨A,ca,la,W,Z,⟨dx.nil eP,dx.nil eMk,Xa,hsb,dx.nil eI,by rw[O];exact Ea.symm,iC.nil,iC.nil,λ{i x} t=>?_⟩,(H.perm (bY λy=>?_)).lq (bY λy=>?_)⟩
  ·have t:(Cf 0 (cq []))[i]? =some x:=t;rw[List.replicate_zero] at t;cases t
  ·show CB y ([]++((mb,[ag (af X.hb),ag (af eb),ag (af xb),.slice none 0 0,.map (some q),.slice none 0 0])::(eb,oM 0 sp wb)::(xb,kz sb (none,0,0))::([]++([]++(Lp++(Lb++[]))))++([]++(Q.L ca la (h0 m).s (dZ Q X A (h0 m) (bh Q A (h0 m).g (AL 17)))++L))))= _;simp only[af,Sys.L,List.set_cons_succ,FU,AP,AY,FX];omega
  ·show CB y ((q,Obj.map ⟨[]⟩ 0)::(wb,Obj.map ⟨[]⟩ 0)::om cr (Cf n [])++(dm A (h0 m).g (AL 17)++[]))= _;simp only[af,AP,AY,FX];omega
 generalize u:({mb:=mb,eb:=eb,xb:=xb,kb:=q,wb:=wb,sc:=(none,0,0),sm:=(none,0,0),sp:=sp,sb:=sb,so:=(none,0,0),Lc:=[],Lm:=[],Lp:=Lp,Lb:=Lb,Lo:=[],cr:=cr,ke:=[],we:=[],kk:=0,wk:=0,A:=λ_=>⟨0,0,(none,0,0),(none,0,0),none,[],[],[]⟩}:MB)=B0 at H0;have u:B0.mb=mb:=by rw[<-u]
 refine⟨λk st N=> ∃(j:Nat) (B:MB),j<=n/\k=n - j/\st.1=(j:Int)/\B.mb=mb/\iz Q X D G w0 N B (mZ m n j l) [] L [],⟨n,λN h8=>⟨0,B0,F6 _,rfl,rfl,u,H0.ext h8⟩⟩,?_⟩;clear H H0 u;rintro k ⟨i, _⟩ N ⟨j,B,hj,hk',hi,rfl,HH⟩;have hi:i=(j:Int):=hi;have H:=HH;subst hi hk';dsimp only;refine ab (λc=>?_) (λc=>?_)
 ·have hj:j<n:=by have:=of_decide_eq_true c;omega
  obtain⟨r,P,v, _, _, _,J⟩:=H.tmp;refine λz E=>Vc (v.ext E).base.again l (λh=>by omega) (λ_ _ tb l4 F=>an rfl ⟨trivial,trivial,?_⟩) z (Ext.refl z);have H:iz Q X D G w0 l4 B (mZ m n j l) [(tb,dq (none,0,0) l)] L []:=J (T':=[(tb,dq (none,0,0) l)]) ((v.ext E).join F);refine H.rK (show _=some (B.sc.1,B.sc.2.1,B.sc.2.2) from rfl) (H.al λa og H=>H.al λp DI H Oi Yj=>?_);have H:=H.ext Yj;obtain⟨r,P,v,J⟩:=H.cps;have hlen:(mZ m n j l).cs.length=j:=Ea;have T:=H.wf.c;rw[hlen] at J T;have F:=v.perm (L':=B.Lc++((B.mb,r_ X B)::([(p,[ag (af a)]),(a,[aa (j:Int),ag (af tb),aa 0,aa 0,aa 0,ay 0,ay 0,ay 0,ag none,aa 0,ay 0,aa 0,aa 0,.slice none 0 0]),(tb,dq (none,0,0) l)]++r))) Ga;have hb:bK Oi p (cellsOf eP (af a)):=F.base.dj _ (B1 _ (Ap _ Az));refine FV F T rfl (ys:=[some ⟨a,0,none⟩]) rfl (sg hb) rfl rfl (by rw[DF,Ee,Hr];omega) λs' d NW fo K3=>⟨trivial,trivial,Xl (n:=3) (K3.perm Ga.symm) 0 rfl rfl rfl λw15 K4 Yk Xm=>⟨n - (j+1),by omega,j+1,tF B j s' d ⟨a,tb,(none,0,0),(none,0,0),none,[],[],[]⟩,by omega,rfl,?_,rfl,?_⟩⟩
  ·rw[aw (by omega) (by omega)];omega
  ·have K5:cB D G w0 w15 ((B.mb,r_ X (tF B j s' d ⟨a,tb,(none,0,0),(none,0,0),none,[],[],[]⟩))::(d++(th ⟨a,tb,(none,0,0),(none,0,0),none,[],[],[]⟩ j (cq []) (mZ m n j l).sz++([(p,[ag (af a)])]++r)))) P:=K4.perm (bY λy=>by
    show CB y ((B.mb,r_ X (tF B j s' d ⟨a,tb,(none,0,0),(none,0,0),none,[],[],[]⟩))::(d++(((a,jT ⟨a,tb,(none,0,0),(none,0,0),none,[],[],[]⟩ j (cq []))::(tb,dq (none,0,0) l)::([]++([]++[])))++([(p,[ag (af a)])]++r))))=CB y ((B.mb,r_ X (tF B j s' d ⟨a,tb,(none,0,0),(none,0,0),none,[],[],[]⟩))::(d++([(p,[ag (af a)]),(a,jT ⟨a,tb,(none,0,0),(none,0,0),none,[],[],[]⟩ j (cq [])),(tb,dq (none,0,0) l)]++r)));simp only[af,AP,AY,FX];omega)
   have U:=(J (T':=[(p,[ag (af a)])]) (x:=cq []) fo ⟨dx.nil jP,dx.nil eI,λc=>(by cases c)⟩ K5).ext Xm;have e:({mZ m n j l with cs:=(mZ m n j l).cs++[cq []]}:MS)=mZ m n (j+1) l:=by
    show MS.mk _ _ _ _ _ _ _ _=MS.mk _ _ _ _ _ _ _ _;rw[List.replicate_succ']
   rw[e] at U;exact U.sub (List.nil_sublist _)
 ·have:j=n:=by have:=of_decide_eq_false c;omega
  subst this;exact λz E=>V c1 c8 Q X B.rt z Y ⟨B,rfl,H.ext E⟩
end
theorem FH {ws:List Int} {p t:Int} {x:Int×Int×FT} (e:0<=x.2.1/\x.2.1<=3) (h1:(bA ws p t x).2.1= -1) (a:(bA ws p t x).2.2.2.2.2.1=0):1<=(bA ws p t x).2.2.2.1/\(bA ws p t x).2.2.2.1<=7:=by
 have b: ∀n:Nat,F2 n<=7:=λn=>by unfold F2;split<;>omega
 have d: ∀{lv wt fr:Int} {ep:Bool} {er:Int} {el:Bool} {ef:Int},(yr lv wt fr ep er el ef).2.2.2.1=0->er<=7->1<=(yr lv wt fr ep er el ef).2.1/\(yr lv wt fr ep er el ef).2.1<=7:=λ{lv wt fr ep er el ef} h f=>by
  unfold yr at h ⊢;split
  grind
  ·rename_i c;rw[ao c] at h;split
   ·rename_i c2;unfold gM at c2
    grind
   grind
 unfold bA at h1 a ⊢;rw[ao (by omega)] at h1 a ⊢;split
 ·rename_i c;rw[av c] at a;exact absurd a (show ¬ (11:Int)=0 by decide)
 ·rename_i c;rw[ao c] at h1 a;revert h1 a;generalize (B (dK ws (dV x.1 p x.2.1))).toNat=N;intro h1 a;unfold tookS at h1 a ⊢;split
  ·rename_i c;rw[av c] at a;exact absurd a (show ¬ (4:Int)=0 by decide)
  ·rename_i c;rw[ao c] at h1 a;split
   ·rename_i c;rw[av c] at h1;rw[Eo,decide_eq_true_eq] at c;have h1:aZ .i64 x.2.1 1= -1:=h1;rw[bE (by omega) (by omega)] at h1;omega
   ·rename_i c;rw[ao c] at h1 a;split
    ·rename_i c;rw[av c] at a;exact d a (b N)
    ·rename_i c;rw[ao c] at a;split
     ·rename_i c;rw[av c] at a;exact d a (b N)
     ·rename_i c;rw[ao c] at a;exact absurd a (show ¬ (11:Int)=0 by decide)
structure MG (Q:Sys) (n k:Nat) (s:MS):Prop where
 IP:mE n s
 N6:Ol Q s.h.s
 now:s.ep.now<=(k:Int)
 ms:s.ms.length<=5000*k
 op:s.op.length<=k
 vm: ∀y∈s.cs,y.vm<9223372036854775808
section
variable {Q:Sys} {n k:Nat} {s:MS} {gh:Gh} {ta:Int->Bool}
theorem Qc (M:MI gh ta n s):s.ep.ws.length<=4096:=by
 have:=ug _ _ M.wn λf a=>by
  obtain⟨e,b,rfl⟩:=B5.1 a;obtain⟨m,d,h1,c, _⟩:=M.k5 _ (M.wk e b).1;rw[h1];exact B5.2 ⟨m,Bx.2 (Am.1 c).1,rfl⟩
 rw[DF,DF,Ee] at this;have:=M.hi.inv.le;omega
theorem MG.bn (H:MG Q n k s) (d:k<=100000):Bn s:=by
 obtain⟨gh,ta,M⟩:=H.IP;have f:=M.nn;have h1:=M.lc;have g:=M.lb;have h:=M.lp;have i:=M.sz;have l:=H.now;have m:=H.ms;have o:=H.op;have p:=Qc M;exact⟨by omega,by omega,by omega,⟨M.nw,by omega⟩,by omega,λe a=>(M.wk e a).2,by omega,by omega,λq b=>by
  obtain⟨j,c⟩:=DL b;have:=M.box c;omega,by omega,M.tl,H.vm,M.ar⟩
theorem MG.rdy (H:MG Q n k s):CH Q s.h:=by
 obtain⟨gh,ta,M⟩:=H.IP;exact M.hi.rdy H.N6
theorem MG.sx (H:MG Q n k s) (X:k<=100000) {i:Nat} {x:bP} (u:s.cs[i]? =some x):Sx s i x:=by
 obtain⟨gh,ta,M⟩:=H.IP;have g:=DD u;have G:=M.ar x g;have Y:=H.op;have Z:=M.hi.inv.le;refine⟨M.ph x g,λb=>?_,λb I J=>?_,λA=>?_,λo=>?_,λB=>?_,λa q v=>?_⟩
 ·obtain⟨l,w1,K, _⟩:=M.wl u b;rw[w1];omega
 ·obtain⟨C,D,s8⟩:=M.ac x g b;obtain⟨l,w1,K,N,r⟩:=M.wl u b;have w:=tQ ⟨G.1.1,D⟩;have L:x.wk=(x.wk.1,(l:Int),(0,0,0,0,())):=DM rfl (DM w1 N);obtain⟨O,P,hr,R,vV,rM⟩:=tP M C;have td:=FH (x:=x.wk) (by rw[w1];omega) I J;have v:bz s.h.s O.root false (x.c.2.1 / 16)=((bA s.h.s.1 (x.c.2.1 / 16) (a7 x.c.1) x.wk).2.2.1,(bA s.h.s.1 (x.c.2.1 / 16) (a7 x.c.1) x.wk).2.2.2.1,0,()):=by
   rcases r with r|r
   ·rcases M.hi.inv.ng M.hi.nl (t:=a7 x.c.1) R w r with ⟨m, _,E,z,k3,k4⟩|⟨E,z⟩
    ·rw[<-L] at E;rw[I] at E;omega
    ·rw[<-L] at z;exact z J
   ·obtain⟨_,z⟩:=M.hi.inv.nh (t:=a7 x.c.1) w K r.1
    grind
  have S:js s.h x.vm.toNat (x.c.2.1 / 16)=((bA s.h.s.1 (x.c.2.1 / 16) (a7 x.c.1) x.wk).2.2.1,(bA s.h.s.1 (x.c.2.1 / 16) (a7 x.c.1) x.wk).2.2.2.1,0,()):=by rw[bQ P];exact v
  have T:nj s.h x.vm.toNat (x.c.2.1 / 16)=some (bA s.h.s.1 (x.c.2.1 / 16) (a7 x.c.1) x.wk).2.2.1:=by rw[sr,S];rfl
  obtain⟨m,d,rJ,U,d4, _⟩:=M.hi.Uh T;have:=(Am.1 U).1;unfold lnR
  grind
 ·obtain⟨⟨m,d,h1,b, _⟩, _⟩:=M.rc u A;have:=(Am.1 b).1;omega
 ·obtain⟨h1,b, _⟩:=M.wt x g o;refine⟨by omega,?_,λf F=>?_⟩
  ·have:=ug x.fs _ (M.fn x g o) λf F=>by
    obtain⟨m,d,h1,b, _⟩:=M.k5 _ (M.fk x g o f F).1;rw[h1];exact B5.2 ⟨m,Bx.2 (Am.1 b).1,rfl⟩
   grind
  ·obtain⟨m,d,h1,b, _⟩:=M.k5 _ (M.fk x g o f F).1;omega
 ·unfold lX at B;simp only[Eo,decide_eq_true_eq] at B;obtain⟨h0,C, _,D⟩:=B;have w:=tQ ⟨G.1.1,D⟩;have hb:=(ND M.hi C w).1;unfold vi at hb ⊢;simp only[Kt,decide_eq_false_iff_not] at hb ⊢;refine⟨⟨hb.1.1,by omega⟩,?_⟩;unfold a7;split
  ·decide
  ·split<;>decide
 ·have h1:=M.fG v Az;obtain⟨j,y, _,A,o,V⟩:=(M.aq v).2 a Az;have h6:=(M.wt y (DD A) o).1;have e:a.1=y.ak:=by rw[V]
  refine⟨⟨by omega,h1⟩,?_⟩;have W:=M.oc (a.1 - 1).toNat (by omega);rw[W];have h8:=IR (p:=λq=>ju q (((a.1 - 1).toNat:Int)+1)) (l:=s.bx);have h9:=M.lb;have Dx:=M.nn;omega
structure Cn (s s':MS):Prop where
 now:s'.ep.now<=s.ep.now+1
 ms:s'.ms.length<=s.ms.length+5000
 op:s'.op.length<=s.op.length+1
 wd:s'.h.s.1.length=s.h.s.1.length
 vm: ∀y∈s'.cs,y.vm=0\/ ∃x∈s.cs,x.vm=y.vm
theorem Cn.same (s:MS):Cn s s:=⟨by omega,by omega,by omega,rfl,by grind⟩
theorem Cn.set {s':MS} (h:Cn s s') {i:Nat} {x:bP} (y:bP) (b:y.vm=0\/ ∃x∈s.cs,x.vm=y.vm):Cn s (cj s' i y):=by
 refine⟨h.now,h.ms,h.op,h.wd,λz a=>?_⟩;rcases iu a with rfl|a
 ·grind
 ·exact h.vm z a
theorem vw: ∀(l:List Int) (s:MS),(l.foldl gq s).h.s.1=s.h.s.1/\(l.foldl gq s).op=s.op/\(l.foldl gq s).ep=s.ep
 |[],s=>⟨rfl,rfl,rfl⟩
 |f::l,s=>by
  rw[Gi,(vw l _).1,(vw l _).2.1,(vw l _).2.2];refine⟨?_,rfl,rfl⟩;show(im _ f).1= _;unfold im;grind
theorem Cn.free (a:s.ep.ws.length<=4096):Cn s (cK s).1:=by
 have b:(oS (eZ s.ep)).length<=4096:=by
  unfold oS;rw[iN];rw[vu];grind
 unfold cK;refine⟨?_,?_,?_,?_,?_⟩
 ·rw[(vw _ _).2.2];exact(Qb _).2
 ·rw[Dg];grind
 ·rw[(vw _ _).2.1];grind
 ·rw[(vw _ _).1]
 ·rw[Di];grind
theorem Cn.post {s':MS} (h:Cn s s') (b:s'.op=s.op) (bx:List (List AK)) (i:Nat) (t p:Int) (a:List (List AK)):Cn s {s' with bx:=a,op:=(cL bx s.op i t p).2.2}:=by
 refine⟨h.now,h.ms,?_,h.wd,h.vm⟩;unfold cL
 grind
theorem Cn.call {i:Nat} {x:bP} (b:x∈s.cs):Cn s (fI s i x).1:=by
 have h1:Cn s {s with h:=kZ _ x.vm x.c.1 x.c.2.1 x.c.2.2.1 x.c.2.2.2.1,kn:=s.kn++e8 s (kZ s.h x.vm x.c.1 x.c.2.1 x.c.2.2.1 x.c.2.2.2.1),ms:=s.ms++[(1,x.vm,0,x.c,yx s.h x.vm x.c.1 x.c.2.1 x.c.2.2.1 x.c.2.2.2.1,rN s.h x.vm x.c.1 x.c.2.1 x.c.2.2.1 x.c.2.2.2.1)]}:=
  ⟨by grind,by simp,by simp,P8 ..,by grind⟩
 have a: ∀y:bP,y.vm=x.vm->y.vm=0\/ ∃x∈s.cs,x.vm=y.vm:=λy e=> .inr (by grind);unfold fI;dsimp;split
 ·split
  ·exact h1.set (x:=x) _ (a _ rfl)
  ·exact(h1.post rfl _ _ _ _ _).set (x:=x) _ (a _ rfl)
 ·exact h1.set (x:=x) _ (a _ rfl)
theorem Cn.phase (d:s.ep.ws.length<=4096) {i:Nat} {x:bP} (f:x∈s.cs):Cn s (bL s i x).1:=by
 have b: ∀y:bP,y.vm=x.vm->y.vm=0\/ ∃x∈s.cs,x.vm=y.vm:=λy e=> .inr ⟨x,f,e.symm⟩;have c: ∀e:vY,e.now=s.ep.now->Cn s {s with ep:=e}:=λe h=>⟨by show e.now<= _;omega,by show s.ms.length<= _;omega,by show s.op.length<= _;omega,rfl,λy a=> .inr ⟨y,a,rfl⟩⟩;have g:(AQ s.ep i).now=s.ep.now:=by unfold AQ;split<;>rfl
 unfold bL;split
 ·exact Cn.free d
 split
 ·unfold dg;split
  ·dsimp only;split<;>exact(c _ g).set (x:=x) _ (b _ rfl)
  split
  ·exact Cn.same s
  split
  ·exact Cn.free d
  ·exact Cn.call f
 split
 ·unfold jY;dsimp only;split
  ·exact(Cn.same s).set (x:=x) _ (b _ rfl)
  split
  ·exact(c (rY s.ep i) rfl).set (x:=x) _ (b _ rfl)
  ·exact(Cn.same s).set (x:=x) _ (b _ rfl)
 split
 ·unfold fA;dsimp only;split
  ·exact⟨by show s.ep.now<= _;omega,by simp,by show s.op.length<= _;omega,cG ..,λy a=> .inr ⟨y,a,rfl⟩⟩
  ·exact⟨by show s.ep.now<= _;omega,by grind,by show s.op.length<= _;omega,rfl,λy a=> .inr ⟨y,a,rfl⟩⟩
 ·unfold gV;split
  ·exact c _ (zF _ _).1
  ·exact Cn.same s
theorem Cn.step (g:s.ep.ws.length<=4096) (c:Int):Cn s (aX s c).1:=by
 have h: ∀{i:Nat} {x:bP},x∈s.cs->Cn s (ig (bL s i x) i x).1:=λ{i x} d=>by
  unfold ig;split
  ·exact(Cn.phase g d).set (x:=x) _ (.inl rfl)
  ·exact Cn.phase g d
 unfold aX;split
 ·exact Cn.same s
 split
 ·exact Cn.same s
 ·rename_i x k;have d:=DD k;unfold i_;split
  ·exact h d
  ·split
   ·rename_i a s1 f;unfold tC at f;split at f
    ·cases f;have l: ∀y:bP,y.vm=x.vm->y.vm=0\/ ∃x∈s.cs,x.vm=y.vm:=λy e=> .inr ⟨x,d,e.symm⟩;have h0: ∀(b:List (List AK)) (j:Nat) (v:Int),Cn s {s with bx:=b,op:=s.op.set j v}:=λb j v=>⟨by grind,by simp,by simp,rfl,by grind⟩;exact(h0 _ _ _).set (x:=x) _ (l _ rfl)
    ·cases f
   ·exact h d
theorem MG.step (H:MG Q n k s) (c:Int):MG Q n (k+1) (aX s c).1:=by
 obtain⟨gh,ta,M⟩:=H.IP;have C:=Cn.step (Qc M) c;have h1:=H.now;have d:=H.ms;have f:=H.op;have g:=C.now;have h:=C.ms;have i:=C.op;refine⟨H.IP.step c,⟨by rw[C.wd];exact H.N6.1,by rw[C.wd];exact H.N6.2⟩,by omega,by omega,by omega,λy a=>?_⟩;rcases C.vm y a with e|⟨x,b,e⟩
 ·grind
 ·rw[<-e];exact H.vm x b
theorem MG.mono (H:MG Q n k s) {a:Nat} (h:k<=a):MG Q n a s:=by
 have h1:=H.now;have b:=H.ms;have c:=H.op;exact⟨H.IP,H.N6,by omega,by omega,by omega,H.vm⟩
theorem MG.ask (H:MG Q n k s) (c vm:Int) (hv:vm<9223372036854775808) {ct:CT} (hc:cJ ct.2.1/\cJ ct.2.2.1/\cJ ct.2.2.2.1):MG Q n k (eB s c vm ct):=by
 refine⟨H.IP.ask c vm hc,?_,?_,?_,?_,?_⟩<;>unfold eB
 ·split
  ·exact H.N6
  ·split
   ·exact H.N6
   ·split<;>exact H.N6
 ·split
  ·exact H.now
  ·split
   ·exact H.now
   ·split<;>exact H.now
 ·split
  ·exact H.ms
  ·split
   ·exact H.ms
   ·split<;>exact H.ms
 ·split
  ·exact H.op
  ·split
   ·exact H.op
   ·split<;>exact H.op
 ·split
  ·exact H.vm
  ·split
   ·exact H.vm
   ·split
    ·intro y a;rcases iu a with rfl|a
     ·grind
     ·exact H.vm y a
    ·exact H.vm
theorem MG.new {f:Nat} {l:Int} (a:4<=f/\f<=4096) (b:1<=n/\n<=8) (d:1<=l/\l<=64) (g:Q.c=16*f):MG Q n 0 (m0 f n l):=by
 refine⟨mE.new a b d,⟨?_,?_⟩,GD _,CD _,CD _,λy e=>?_⟩
 ·show(Cf _ _).length<=Q.c
  grind
 ·show(Cf _ 0).length<= _
  grind
 ·rw[E5 e];decide
end
abbrev Ul:List Sc:=[.int .i64,.bool,.int .i64,.int .i64,.int .u64,.int .u64,.int .u64]
noncomputable def U4:dJ A2:={U2 with quiet:=[49,50,17]++U2.quiet}
def rE:Nat->a6:=(λ|5=>[(10,Go.RX.El.one (Go.RX.Sc.int Go.IntKind.i64))]| _=>[])
theorem NM (f c l:Int) (w:A1) (d:Option AM×Bool×Unit->A1->Prop):(aK U4 rE 15 [aa f,aa c,aa l] w d)=(
 az A2 52 (.bu [.one .ptr,.one (.int .i64)]) [aa f,aa c,aa l] w λ(x:Option AM×Int×Unit) a=>aI (x.2.1 != 0||x.1.isNone) (au a (d (none,false,()))) (∃(I:Nat->Int×Unit->A1->Prop),(∃n, ∀w1,Ext a w1->I n (0,()) w1)/\ ∀(n:Nat) (s:Int×Unit) (w1:A1),I n s w1->aI (decide (s.1<2)) (az A2 29 (.el aS) [ag x.1,aa 0,aa 0,.agg ⟨[aa 1,ay 0,ay 0,ay 0]⟩] w1 λ(h:Int) a=>aI (h != 0) (au a (d (none,false,()))) (az
 A2 31 (.bu [.agg [.int .u64,.int .i64],.one .bool]) [ag x.1,aa 0] a λ(x:(Int×Int×Unit)×Bool×Unit) a=>aN a ⟨[ay 0,aa 0]⟩ 61 λb a=>aC a (af b) [ay x.1.1,aa x.1.2.1] λa=>((!!x.2.1)=true->true=true)/\aj a (some !!x.2.1) (ad (af b) 0) qN λ(i:Int)=>aI (!x.2.1||i != aD .u64 (aH .i64 1 s.1)) (au a (d (none,false,()))) (∀e,Ext a e-> ∃(g:Nat),g<n/\I g (aH .i64 s.1 1,()) e))) (au w1 (d (x.1,true,()))))):=by kernel_rfl
theorem aaA (p:Option AM) (a:Int) (b:Bool) (v k x y z:Int) (w:A1) (e:Unit->A1->Prop):(aK U4 (λ_=>[]) 16 [ag p,.agg ⟨[aa a,.bool b,aa v,aa k,ay x,ay y,ay z]⟩] w e)=(
 aN w ⟨[aa a,.bool b,aa v,aa k,ay x,ay y,ay z]⟩ 33 λb c=>true=true/\tr c (ad (af b) 1) λx=>aI x (true=true/\aU c (ad (af b) 0) λx=>true=true/\aU c (ad (af b) 2) λf=>true=true/\aj c none (ad (af b) 3) vh λ(d:Int×Int×Int×Int×Unit)=>az A2 29 (.el aS) [ag p,aa x,aa f,.agg ⟨[aa d.1,ay d.2.1,ay d.2.2.1,ay d.2.2.2.1]⟩] c λ(x:Int) c=>au c (e ())) (true=true/\aU c (ad (af b)
 0) λx=>az A2 31 (.bu [.agg [.int .u64,.int .i64],.one .bool]) [ag p,aa x] c λ(x:(Int×Int×Unit)×Bool×Unit) c=>au c (e ()))):=by kernel_rfl
def rF:Nat->a6:=(λ|1=>[(6,Go.RX.El.one (Go.RX.Sc.int Go.IntKind.i64))]|4=>[(7,Go.RX.El.one (Go.RX.Sc.int Go.IntKind.i64))]| _=>[])
theorem NO (p:Option AM) (c r:Int) (w:A1) (f:Unit->A1->Prop):(aK U4 rF 48 [ag p,aa c,aa r] w f)=(
 ∃(I:Nat->Int×Unit->A1->Prop),(∃n, ∀w1,Ext w w1->I n (0,()) w1)/\ ∀(n:Nat) (s:Int×Unit) (w1:A1),I n s w1->aI (decide (s.1<r)) (∃(e:Nat->Int×Unit->A1->Prop),(∃n, ∀g,Ext w1 g->e n (0,()) g)/\ ∀(h:Nat) (d:Int×Unit) (w1:A1),e h d w1->aI (decide (d.1<c)) (az A2 31 (.bu [.agg [.int .u64,.int .i64],.one .bool]) [ag p,aa d.1] w1 λ(x:(Int×Int×Unit)×Bool×Unit) i=> ∀a,Ext i a-> ∃(b:Nat),b<h/\e b (aH .i64 d.1 1,()) a) (∀a,
 Ext w1 a-> ∃(b:Nat),b<n/\I b (aH .i64 s.1 1,()) a)) (au w1 (f ()))):=by kernel_rfl
def rG:Nat->a6:=(λ|10=>[(9,Go.RX.El.one (Go.RX.Sc.int Go.IntKind.i64))]| _=>[])
theorem NP (w:A1) (f:Bool->A1->Prop):(aK U4 rG 46 [] w f)=(
 az A2 15 (.bu [.one .ptr,.one .bool]) [aa 30,aa 2,aa 4] w λx a=>az A2 52 (.bu [.one .ptr,.one (.int .i64)]) [aa 30,aa 9,aa 4] a λ(q:Option AM×Int×Unit) a=>aI (!x.2.1) (au a (f false)) (az A2 29 (.el aS) [ag x.1,aa 0,aa 1,.agg ⟨[aa 3,ay 5,ay 3,ay 0]⟩] a λ(r:Int) a=>az A2 29 (.el aS) [ag x.1,aa 0,aa 1,.agg ⟨[aa 15,ay 0,ay 0,ay 0]⟩] a λ(t:Int) a=>az
 A2 31 (.bu [.agg [.int .u64,.int .i64],.one .bool]) [ag x.1,aa 0] a λ(k:(Int×Int×Unit)×Bool×Unit) a=>aN a ⟨[ay 0,aa 0]⟩ 61 λb a=>aC a (af b) [ay k.1.1,aa k.1.2.1] λa=>az A2 29 (.el aS) [ag x.1,aa 1,aa 1,.agg ⟨[aa 7,ay 81,ay 7,ay 0]⟩] a λ(F:Int) a=> ∃(I:Nat->Int×Unit->A1->Prop),(∃n, ∀w1,Ext a w1->I n (0,()) w1)/\ ∀(n:Nat) (s:Int×Unit) (w1:A1),I n s w1-> ∃(u:Int),(decide (s.1<9)=
 true->ae A2 49 [ag x.1,aa 1] w1 (aa u))/\aI (decide (s.1<9)&&u != 0) (az A2 31 (.bu [.agg [.int .u64,.int .i64],.one .bool]) [ag x.1,aa 1] w1 λ(x:(Int×Int×Unit)×Bool×Unit) a=> ∀v,Ext a v-> ∃(y:Nat),y<n/\I y (aH .i64 s.1 1,()) v) (az A2 29 (.el aS) [ag x.1,aa 0,aa 1,.agg ⟨[aa 4,ay 5,ay 0,ay 0]⟩] w1 λ(G:Int) a=>az A2 31 (.bu [.agg [.int .u64,.int .i64],.one .bool]) [ag x.1,aa 0] a λ(H
 :(Int×Int×Unit)×Bool×Unit) a=>az A2 31 (.bu [.agg [.int .u64,.int .i64],.one .bool]) [ag x.1,aa 0] a λ(l:(Int×Int×Unit)×Bool×Unit) a=>aN a ⟨[ay 0,aa 0]⟩ 61 λD a=>aC a (af D) [ay l.1.1,aa l.1.2.1] λa=> ∃(z:Int),ae A2 50 [ag x.1,aa 1] a (aa z)/\az A2 51 (.el eY) [ag x.1,aa 1] a λE a=>az A2 31 (.bu [.agg [.int .u64,.int .i64],.one .bool]) [ag x.1,aa 1] a λ(J:(Int×Int×Unit)
 ×Bool×Unit) a=>az A2 31 (.bu [.agg [.int .u64,.int .i64],.one .bool]) [ag x.1,aa 0] a λ(h:(Int×Int×Unit)×Bool×Unit) a=>aN a ⟨[ay 0,aa 0]⟩ 61 λm a=>aC a (af m) [ay h.1.1,aa h.1.2.1] λa=>az A2 32 (.el eY) [ag x.1] a λo a=>az A2 41 (.el eY) [ag x.1] a λd a=>az A2 48 (.bu []) [ag x.1,aa 2,aa 3] a λK a=>aj a (some (q.2.1==1&&r==0&&t==9)) (af b) cF λ(A:Int×Int×Unit)=>
 aI (q.2.1==1&&r==0&&t==9&&(A.1==2&&(A.2.1==0&&true))&&k.2.1&&s.1==6&& !l.2.1&&z==1&&(↑E.2.1:Int)==1) (az A2 51 (.el eY) [ag x.1,aa 1] a λi a=>aj a (some ((↑i.2.1:Int)==0)) (af m) cF λ(e:Int×Int×Unit)=>(((↑i.2.1:Int)==0&&(e.1==2&&(e.2.1==0&&true))&&h.2.1&&(↑o.2.1:Int)==4&&(↑d.2.1:Int)==5)=true->d.1.isSome=true/\(0:Int)<=3/\3<(↑d.2.1:Int))/\aj a (some ((↑i.2.1:Int)==0&&(e.1==2&&(e.2.1==
 0&&true))&&h.2.1&&(↑o.2.1:Int)==4&&(↑d.2.1:Int)==5)) (ad d.1 27) Y8 λ(c:Int×Int×Int×Int×Int×Int×Int×Int×Int×Unit)=>aI ((↑i.2.1:Int)==0&&(e.1==2&&(e.2.1==0&&true))&&h.2.1&&(↑o.2.1:Int)==4&&(↑d.2.1:Int)==5&&(c.1==4&&(c.2.1==0&&(c.2.2.1==33&&(c.2.2.2.1==0&&(c.2.2.2.2.1==0&&(c.2.2.2.2.2.1==0&&(c.2.2.2.2.2.2.1==0&&true)))&&(c.2.2.2.2.2.2.2.1==7&&(c.2.2.2.2.2.2.2.2.1==0&&true)&&true)))))) (az A2 32 (.el eY)
 [ag x.1] a λg a=> ∃(j:Option AM),(((↑g.2.1:Int)==0)=true->ae A2 17 [ag x.1] a (ag j))/\aI ((↑g.2.1:Int)==0) (az A2 18 (.el kM) [ag j] a λp a=>az A2 30 (.el aS) [ag p,aa 5] a λ(B:Int) a=> ∃(C:Int),((B==0)=true->ae A2 49 [ag x.1,aa 2] a (aa C))/\au a (f (B==0&&C==0))) (∃(p:Int),(false=true->ae A2 49 [ag x.1,aa 2] a (aa p))/\au a (f false))) (∃
 (g:Option AM),(false=true->ae A2 17 [ag x.1] a (ag g))/\ ∃(j:Int),(false=true->ae A2 49 [ag x.1,aa 2] a (aa j))/\au a (f false))) (aj a (some false) (af m) cF λ(i:Int×Int×Unit)=>(false=true->d.1.isSome=true/\(0:Int)<=3/\3<(↑d.2.1:Int))/\aj a (some false) (ad d.1 27) Y8 λ(e:Int×Int×Int×Int×Int×Int×Int×Int×Int×Unit)=> ∃(c:Option AM),(false=true->ae A2 17 [ag x.1] a (ag c))/\ ∃(g:Int),
 (false=true->ae A2 49 [ag x.1,aa 2] a (aa g))/\au a (f false))))):=by kernel_rfl
def kA:MS:=eB (D7 30 2 4) 0 1 (3,5,3,0,())
def kB:MS:=(aX kA 0).1
def kC:MS:=eB kB 1 1 (7,81,7,0,())
def kD (j:Nat):MS:=j.rec kC λ_ s=>(aX s 1).1
def kE:MS:=eB (kD 6) 0 1 (4,5,0,0,())
def kF:MS:=(aX kE 0).1
def kG:MS:=(aX kF 0).1
def kH:MS:=(aX kG 1).1
def kI':MS:=(aX kH 0).1
def kJ:MS:=fU 2 3 kI'
def aba:Bool:=tD (D7 30 2 4) 0==0&&(tD kA 0==9&&((aX kA 0).2==((2,0),true)&&(DO kC 1 != 0&&(DO (kD 1) 1 != 0&&(DO (kD 2) 1 != 0&&(DO (kD 3) 1 != 0&&(DO (kD 4) 1 != 0&&(DO (kD 5) 1 != 0&&DO (kD 6) 1==0))))))))
theorem WO:aba=true:=by decide+kernel
def abb:Bool:=(aX kF 0).2.2==false&&(GK kG 1==1&&((TS kG 1).length==1&&((aX kH 0).2==((2,0),true)&&(kI'.ep.ws.length==4&&(kI'.ms.length==5&&(kI'.ms[3]? ==some (4,0,33,(0,0,0,0,()),7,0)&&(TS kJ 1==[]&&(kJ.ep.ws==[]&&(cd kJ.h.s.2 5==0&&DO kJ 2==0)))))))))
theorem WQ:abb=true:=by decide+kernel
end Go.Proofs.YtlcenllcmeebhaaGreat.Mu
