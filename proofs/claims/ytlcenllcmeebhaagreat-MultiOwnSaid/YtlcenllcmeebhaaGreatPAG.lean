import Derived.Test.YtlcenllcmeebhaaGreatPAF
/-! What the statement leans on: texts joined and shortened by a program of mine. -/
set_option linter.unusedVariables false
set_option linter.unusedSimpArgs false
open Go renaming World->A0,Value->AC,Addr->AF,Obj->B1,MapEntry->Do
open Go.Proofs.Tryz renaming prog->A2
open List renaming range->AJ,count_append->AM,count_cons->Ae,getElem?_eq_some_iff->Aq,mem_cons_of_mem->B2,mem_append_right->B3,getD_eq_getElem?_getD->B4,mem_cons_self->B5,mem_append_left->Bs,mem_map->Bx,getElem?_eq_getElem->Cg,sublist_cons_self->Ci,getElem?_set_self->Cj,set_set->Ct,replicate->DA,count->DB,length_set->DL,eq_of_mem_replicate->DV,mem_of_getElem?->Db,length_map->Dk,mem_range->Dn,length_replicate->Dq,length_range->Dw,getElem?_of_mem->E4,mem_singleton->E5,getElem?_replicate->F6,getElem?_set_ne->F8,append_nil->FH,nodup_cons->FJ,sublist_append_right->FS,set_cons_zero->FV,length_append->FY,perm_middle->Fk,foldl_cons->Ft,count_nil->Fy,mem_append->GD,any_eq_false->GF,mem_cons->GG,any_eq_true->GH,eq_nil_iff_forall_not_mem->GJ,getD->GS,length_cons->Ga,mem_filter->Gd,pairwise_cons->Gi,length_filter_le->Gj,take_add_one->H4,foldl_append->H5,length_singleton->H6,range_succ->H7,contains_iff_mem->HB,getElem?_append_left->I1,countP_pos_iff->I2,nodup_nil->IB,ext_getElem?->IP,filter_sublist->IR,nodup_range->In,map_congr_left->Ip,mem_flatMap->Iy,getElem?_range->J3,map_append->J4,length_nil->J5,length_take->J7,take_length->J9,append_assoc->K1,getElem?_eq_none->Kb,nil_sublist->Kd
open Eq renaming mpr->Ar
open Prod renaming ext->BW
open Int renaming toNat_natCast->DE,le_refl->FW,toNat_of_nonneg->Kh
open List.Perm renaming append_left->Dh,append_right->FX,trans->Hb
open Nat renaming le_refl->Ds,zero_le->Dx,le_trans->Hq,not_lt_zero->Ko
open Classical renaming byContradiction->FB
open Bool renaming and_eq_true->FG,and_assoc->Fz,eq_false_iff->Hr,or_eq_true->Ks
open Go.Instr renaming findNow->G1
namespace Go.Proofs.YtlcenllcmeebhaaGreat
set_option maxRecDepth 100000
open Go.RX D
section
variable {gh cI:Gh} {ta:Int->Bool} {n:Nat} {s:MS} {i:Nat} {h':HS} {P:Nat->Int->Prop} {U:Int->Prop}
def Yx (gh:Gh) (ta:Int->Bool) (fs:List Int) (f:Int):Bool:=if fs.contains f=true then(gh f).isSome else ta f
def A3 (s:MS) (h':HS) (i:Nat) (x:bG) (t p:Int) (rs:Int×Int) (ms:List MT):MS:=
 {s with h:=h',kn:=s.kn++eA s h',ms:=ms,bx:=(cN s.bx s.op i t p).2.1,op:=(cN s.bx s.op i t p).2.2,cs:=s.cs.set i {x with rs:=rs,fs:=eA s h',ls:=iY x.ls t p,ak:=(cN s.bx s.op i t p).1,ph:=4}}
theorem MI.XJ (M:MI gh ta n s) {x:bG} (hx:s.cs[i]? =some x) (h1:x.ph=1) (hbx:s.bx[i]? =some []) (C:CE gh cI s.h h' P U) {t p:Int} (ht:1<=t/\t<=16) (hp: -1<=p/\p<65536) (sS:Ay x=t) (TR:Az x=p)
 (hP: ∀{j:Nat} {q:Int},P j q->0<=q->q<65536->(j:Int)=t/\(p= -1\/p=q)) (hU: ∀{j:Nat} {y:bG},s.cs[j]? =some y->y.ph=2-> ¬ U y.vm) (rs:Int×Int) (ms:List MT):
 MI cI (Yx gh ta (eA s h')) n (A3 s h' i x t p rs ms):=by
 have i_:i<s.cs.length:=(Aq.1 hx).1;have h4:x.ph≠4:=by omega
 generalize X:A3 s h' i x t p rs ms=s';have J:s'.h=h':=by rw[<-X];rfl
 have Q:s'.ep=s.ep:=by rw[<-X];rfl
 have hk:s'.kn=s.kn++eA s h':=by rw[<-X];rfl
 have iI:s'.sz=s.sz:=by rw[<-X];rfl
 have hb:s'.bx=s.bx.zipIdx.map λ(q,j)=>if j=i then q else q++[((s.op.length:Int)+1,t,p,())]:=by rw[<-X];unfold A3;dsimp only;rw[CV M i ht hp]
 have ho:s'.op=s.op++[(s.bx.length:Int) - 1]:=by rw[<-X];unfold A3;dsimp only;rw[CV M i ht hp]
 have fe:s'.cs=s.cs.set i {x with rs:=rs,fs:=eA s h',ls:=iY x.ls t p,ak:=(s.op.length:Int)+1,ph:=4}:=by rw[<-X];unfold A3;dsimp only;rw[CV M i ht hp]
 have Ys:s'.op.length=s.op.length+1:=by rw[ho,FY];rfl
 have Fq:s'.bx.length=s.bx.length:=by rw[hb,Dk,List.length_zipIdx]
 generalize Y:({x with rs:=rs,fs:=eA s h',ls:=iY x.ls t p,ak:=(s.op.length:Int)+1,ph:=4}:bG)=x' at fe;have O:x'.ph=4:=by rw[<-Y]
 have W:x'.fs=eA s h':=by rw[<-Y]
 have xa:x'.ak=(s.op.length:Int)+1:=by rw[<-Y]
 have xl:x'.ls=iY x.ls t p:=by rw[<-Y]
 have xc:x'.c=x.c:=by rw[<-Y]
 have xT:Ay x'=t:=by rw[<-sS, <-Y];rfl
 have xP:Az x'=p:=by rw[<-TR, <-Y];rfl
 have ov:s'.cs[i]? =some x':=by rw[fe,Cj i_]
 have hw: ∀{z:Nat} {y:bG},s.cs[z]? =some y->y.ph=4->s'.cs[z]? =some y:=λ{z y} h1 Z=>by rw[fe];exact EJ hx h4 _ h1 Z
 have hg: ∀{z:Nat} {y:bG},s'.cs[z]? =some y->(z=i/\y=x')\/(z≠i/\s.cs[z]? =some y):=λh=>by rw[fe] at h;exact ju h
 have hm: ∀{y:bG},y∈s'.cs->y=x'\/y∈s.cs:=λh=>by rw[fe] at h;exact gE h
 have hbg: ∀{j:Nat} {q:List AK},s.bx[j]? =some q->j≠i->s'.bx[j]? =some (q++[((s.op.length:Int)+1,t,p,())]):=λ{j q} h e=>by rw[hb,post_at h,ao e]
 have acG: ∀{m:Nat} {d:DT},s.h.s.2[m]? =some d->(m:Int)∈s.kn->d.1=5:=λ{m d} h1 Z=>by
  obtain⟨m',d',A,u,R⟩:=M.k5 _ Z;have:m=m':=by omega
  subst this;rw[h1] at u;cases u;exact R
 have Uo: ∀{m:Nat} {d d':DT},s.h.s.2[m]? =some d->d.1≠5->h'.s.2[m]? =some d'->d'.1=5->(m:Int)∈eA s h':=λh1 Z h3 h5=>gF.2 ⟨_, _,rfl,h3,h5,λc=>Z (acG h1 c)⟩;have O4: ∀{m:Nat} {d:DT},s.h.s.2[m]? =some d->d.1=4->(m:Int)∈eA s h'->Yx gh ta (eA s h') (m:Int)=false:=λ{m d} h1 h4 G=>by
  unfold Yx;rw[av (by simpa using G)];cases hgm:gh (m:Int) with
  |none=>rfl
  |some w=>
   obtain⟨o,l,y⟩:=w;have:=(M.hi.inv.kd hgm).2.2.1;rw[show((m:Int)).toNat=m from rfl,h1] at this;cases this;exact absurd h4 (show ¬ (3:Int)=4 by decide)
 have abX: ∀{f:Int},f∈s.kn->Yx gh ta (eA s h') f=ta f:=λ{f} B=>by
  unfold Yx;rw[ao];intro c;have c:f∈eA s h':=by simpa using c
  obtain⟨_, _, _, _, _,k⟩:=gF.1 c;exact k B
 have Zg: ∀{m:Nat} {d:DT},s.h.s.2[m]? =some d->d.1=5->Yx gh ta (eA s h') (m:Int)=ta (m:Int):=λh1 Z=>abX (M.kd h1 Z).1;have JQ: ∀{j:Nat} {f:Int},rY s j f->rY s' j f:=λh=>h.c_ hw (by rw[Q]) (by rw[Q]);have JR: ∀{j:Nat} {f:Int},f∈eA s h'->rY s' j f:=λh=> .inl ⟨i,x',ov,O,by rw[W];exact h⟩;have P1: ∀{l:LT},(1<=l.1/\l.1<=16/\0<=l.2.1/\l.2.1<65536)->fW s.h l.1.toNat l.2.1=(l.2.2.1,l.2.2.2.1,0,())-> ¬ (t=l.1/\(p= -1\/p=l.2.1))-> ∃(m:Nat) (d:DT),l.2.2.1=(m:Int)/\h'.s.2[m]? =some d/\d.1=4/\fW h' l.1.toNat l.2.1=(l.2.2.1,l.2.2.2.1,0,()):=λ{l} L E D=>by
  have AI:fW h' l.1.toNat l.2.1=(l.2.2.1,l.2.2.2.1,0,()):=by
   rw[C.pg.to λc=>D ?_]
   ·exact E
   ·obtain⟨c1,c2⟩:=hP c L.2.2.1 L.2.2.2;exact⟨by omega,c2⟩
  have ig:mg h' l.1.toNat l.2.1=some l.2.2.1:=by rw[ku,AI];rfl
  obtain⟨m,d,A,u,R, _⟩:=C.hi.Ua ig;exact⟨m,d,A,u,R,AI⟩
 refine⟨by rw[J];exact C.hi,M.nn,by rw[fe,DL];exact M.lc,by rw[Fq];exact M.lb,by rw[Q];exact M.lp,by rw[iI];exact M.sz,λy v=>?_,λy v=>?_,λy v=>?_,
  λf B=>?_,?_,λe B=>?_,by rw[Q];exact M.wn,λy v e=>?_,λy v e=>?_,λ{a b y z} g H sX A u=>?_,λ{m d} g H=>?_,by rw[Q];exact M.nw,λ{j y} g=>?_,λ{j y} g l hl=>?_,λy v e=>?_,λ{j y} g e=>?_,λ{j y} g e=>?_,λy v e=>?_,λ{a b y z} g H sX A u=>?_,λ{j r} g=>?_,λid FC=>?_⟩
 ·rcases hm v with rfl|v
  ·rw[O];decide
  ·exact M.ph y v
 ·rcases hm v with rfl|v
  ·rw[xc];exact M.ar x (az hx)
  ·exact M.ar y v
 ·rw[iI];rcases hm v with rfl|v
  ·rw[xl];have:=EH x.ls t p;have:=M.tl x (az hx);omega
  ·exact M.tl y v
 ·
  rw[J];rw[hk] at B;rcases GD.1 B with B|B
  ·obtain⟨m,d,A,u,R⟩:=M.k5 f B;obtain⟨d',g1,S⟩:=C.kd.k5 u R;exact⟨m,d',A,g1,S⟩
  ·obtain⟨m,d,A,u,R, _⟩:=gF.1 B;exact⟨m,d,A,u,R⟩
 ·rw[hk];refine List.nodup_append.2 ⟨M.nk,zS,λa K b hb c=>?_⟩;subst c;obtain⟨_, _, _, _, _,k⟩:=gF.1 hb;exact k K
 ·rw[Q] at B ⊢;obtain⟨a,b,c⟩:=M.wk e B;rw[hk];exact⟨Bs _ a,b,c⟩
 ·rw[hk,Q];rcases hm v with rfl|v
  ·intro f B;rw[W] at B;refine⟨B3 _ B,λc=>?_⟩;obtain⟨_, _, _, _, _,k⟩:=gF.1 B;obtain⟨e',I,F⟩:=Bx.1 c;exact k (by rw[<-F];exact(M.wk e' I).1)
  ·intro f B;obtain⟨a,b⟩:=M.fk y v e f B;exact⟨Bs _ a,b⟩
 ·rcases hm v with rfl|v
  ·rw[W];exact zS
  ·exact M.fn y v e
 ·rcases hg g with ⟨_,rfl⟩|⟨_,g⟩
  ·rcases hg H with ⟨q, _⟩|⟨_,H⟩
   ·omega
   ·intro f B c;rw[W] at B;obtain⟨_, _, _, _, _,k⟩:=gF.1 B;exact k (M.fk z (az H) u f c).1
  ·rcases hg H with ⟨_,rfl⟩|⟨_,H⟩
   ·intro f B c;rw[W] at c;obtain⟨_, _, _, _, _,k⟩:=gF.1 c;exact k (M.fk y (az g) A f B).1
   ·exact M.fd g H sX A u
 ·rw[J] at g;rw[hk,Q];by_cases c:(m:Int)∈eA s h'
  ·exact⟨B3 _ c,.inr ⟨x',az ov,O,by rw[W];exact c⟩⟩
  ·have hkm:(m:Int)∈s.kn:=FB λG=>c (gF.2 ⟨m,d,rfl,g,H,G⟩);obtain⟨m',d',A,u,R⟩:=M.k5 _ hkm;have:m=m':=by omega
   subst this;obtain⟨_,S⟩:=M.kd u R;refine⟨Bs _ hkm,S.imp id λ⟨y,v,I,F⟩=>?_⟩;obtain⟨j,T⟩:=E4 v;exact⟨y,az (hw T I),I,F⟩
 ·rw[Q];rcases hg g with ⟨rfl,rfl⟩|⟨_,g⟩
  ·have:=M.pn hx;rw[h1,ao (by decide)] at this;rw[O,ao (by decide)];exact this
  ·exact M.pn g
 ·
  rcases hg g with ⟨rfl,rfl⟩|⟨T,g⟩
  ·rw[xl] at hl;obtain⟨l1,l2⟩:=tQ hl;obtain⟨L,m,d,E,D,N⟩:=M.ln hx l l1;rcases N with ⟨_,N⟩|⟨_,q,a,r5,r6, _⟩
   ·obtain⟨m',d',g1,S,g3,g4⟩:=P1 L N l2;exact⟨L,m',d',g1,by rw[J];exact S,.inl ⟨g3,by rw[J];exact g4⟩⟩
   ·rw[hbx] at r5;cases r5;cases r6
  ·obtain⟨L,m,d,E,D,N⟩:=M.ln g l hl;rcases N with ⟨d4,N⟩|⟨V,q,a,r5,r6,r7,r8⟩
   ·by_cases l2:t=l.1/\(p= -1\/p=l.2.1)
    ·obtain⟨d',A,u⟩:=C.kd.k4 D d4;have N6:j<s.bx.length:=by rw[M.lb, <-M.lc];exact(Aq.1 g).1
     refine⟨L,m,d',E,by rw[J];exact A,.inr ⟨u, _, _,hbg (Cg N6) T,B3 _ (E5.2 rfl),l2,λe5=>?_⟩⟩;have G:=Uo D (by omega) A e5;rw[E];exact⟨O4 D d4 G,i,x', _,B3 _ (E5.2 rfl),ov,O,by rw[W];exact G,xa.symm,FW _⟩
    ·obtain⟨m',d',g1,S,g3,g4⟩:=P1 L N l2;exact⟨L,m',d',g1,by rw[J];exact S,.inl ⟨g3,by rw[J];exact g4⟩⟩
   ·rcases V with d4|d5
    ·obtain⟨d',A,u⟩:=C.kd.k4 D d4;refine⟨L,m,d',E,by rw[J];exact A,.inr ⟨u, _,a,hbg r5 T,Bs _ r6,r7,λe5=>?_⟩⟩;have G:=Uo D (by omega) A e5;have:=M.fN r5 r6;rw[E];exact⟨O4 D d4 G,i,x', _,B3 _ (E5.2 rfl),ov,O,by rw[W];exact G,xa.symm,by show a.1<=(s.op.length:Int)+1;omega⟩
    ·obtain⟨d',A,u⟩:=C.kd.k5 D d5;refine⟨L,m,d',E,by rw[J];exact A,.inr ⟨.inr u, _,a,hbg r5 T,Bs _ r6,r7,λ_=>?_⟩⟩;obtain⟨I,z,y',b,F,q3,q4,q5,q6,q7⟩:=r8 d5;refine⟨?_,z,y',b,Bs _ F,hw q3 q4,q4,q5,q6,q7⟩;rw[E,Zg D d5, <-E];exact I
 ·rw[J];rcases hm v with rfl|v
  ·rw[O] at e;exact absurd e (by decide)
  ·obtain⟨j,T⟩:=E4 v;obtain⟨I,F⟩:=M.ac y v e;exact⟨C.lv (hU T e) I,F⟩
 ·rcases hg g with ⟨_,rfl⟩|⟨_,g⟩
  ·rw[O] at e;exact absurd e (by decide)
  ·obtain⟨l,E,D,N,V⟩:=M.wl g e;refine⟨l,E,D,N,?_⟩;rw[J];rcases V with V|⟨c1,c2,c3⟩
   ·rcases C.gk V (hU g e) with k|k
    ·exact .inl k
    ·have G:y.wk.1∈eA s h':=by
      obtain⟨q0,d',I,F, _⟩:=k;have h3:=(M.hi.inv.kd V).2.2.1;have:=Uo h3 (by show ¬ (3:Int)=5;decide) I F;rw[Kh q0] at this;exact this
     refine .inr ⟨k,JR G,?_⟩;unfold Yx;rw[av (by simpa using G),V];rfl
   ·refine .inr ⟨C.gn c1,JQ c2,?_⟩;obtain⟨q0,d',I,F, _⟩:=c1;have:=Zg I F;rw[Kh q0] at this;rw[this];exact c3
 ·rcases hg g with ⟨_,rfl⟩|⟨_,g⟩
  ·rw[O] at e;exact absurd e (by decide)
  ·obtain⟨⟨m,d,E,D,N⟩,V⟩:=M.rc g e;refine⟨?_,V⟩;rcases N with d4|⟨d5,c2,c3⟩
   ·obtain⟨d',A,u⟩:=C.kd.k4 D d4;refine⟨m,d',E,by rw[J];exact A,?_⟩;rcases u with u|u
    ·exact .inl u
    ·have G:=Uo D (by omega) A u;rw[E];exact .inr ⟨u,JR G,O4 D d4 G⟩
   ·obtain⟨d',A,u⟩:=C.kd.k5 D d5;refine⟨m,d',E,by rw[J];exact A,.inr ⟨u,JQ c2,?_⟩⟩;rw[E,Zg D d5, <-E];exact c3
 ·rw[Ys];rcases hm v with rfl|v
  ·rw[xT,xP,xa];omega
  ·have:=M.wt y v e;omega
 ·rcases hg g with ⟨_,rfl⟩|⟨_,g⟩
  ·rcases hg H with ⟨q, _⟩|⟨_,H⟩
   ·omega
   ·have:=M.wt z (az H) u;rw[xa];omega
  ·rcases hg H with ⟨_,rfl⟩|⟨_,H⟩
   ·have:=M.wt y (az g) A;rw[xa];omega
   ·exact M.wu g H sX A u
 ·rw[hb] at g;obtain⟨q,I,F⟩:=SZ g;obtain⟨g1,S⟩:=M.aq I;have c_: ∀a∈q, ∃(z:Nat) (y:bG),z≠j/\s'.cs[z]? =some y/\y.ph=4/\a=(y.ak,Ay y,Az y,()):=λa K=>by
   obtain⟨z,y,f1,f2,f3,f4⟩:=S a K;exact⟨z,y,f1,hw f2 f3,f3,f4⟩
  by_cases e:j=i
  ·rw[av e] at F;rw[F];exact⟨g1,c_⟩
  ·rw[ao e] at F;rw[F];refine⟨List.pairwise_append.2 ⟨g1,List.pairwise_singleton ..,λa K b hb=>?_⟩,λa K=>?_⟩
   ·have:=M.fN I K;rw[E5.1 hb];show a.1<(s.op.length:Int)+1;omega
   ·rcases GD.1 K with K|K
    ·exact c_ a K
    ·refine⟨i,x',λc=>e c.symm,ov,O,?_⟩;rw[E5.1 K,xa,xT,xP]
 ·rw[Ys] at FC;rw[ho,hb,B4];by_cases e:id<s.op.length
  ·rw[S3 (by show(s.op.length:Int)+1≠ _;omega),I1 e, <-B4];exact M.oc id e
  ·have e:id=s.op.length:=by omega
   subst e;have acH:i<s.bx.length:=by rw[M.lb, <-M.lc];exact i_
   rw[List.getElem?_append_right (Ds _),Nat.sub_self];have:=S4 (i:=i) (x:=(((s.op.length:Int)+1,t,p,()):AK)) acH λq hq=>by
    unfold jJ;rw[GF];intro a K c;obtain⟨j,T⟩:=E4 hq;have:=M.fN T K;have c:a.1=(s.op.length:Int)+1:=by simpa using c
    omega
   show(s.bx.length:Int) - 1= _;rw[this];omega
end
section
variable {gh cI:Gh} {h h':HS} {v k a b c:Int}
theorem S5 {g g':Nat->Option GV} (a: ∀i,(g' i).isSome=(g i).isSome) (v:Int):aQ g' v=aQ g v:=by unfold aQ;rw[a]
theorem Nn (w:Int) (a:aQ h.g w=true):aQ (fS h).g w=true:=by
 unfold fS;split
 ·exact a
 split
 ·obtain⟨b,x,hx⟩:=cm.1 a;refine cm.2 ⟨b,?_⟩;show∃x,a_ h.g _ _ w.toNat=some x;unfold a_;split
  ·exact⟨_,rfl⟩
  ·exact⟨x,hx⟩
 ·exact a
theorem wJ (v:Int): ∀(n:Nat) (h:HS) (w:Int),aQ (e_ v n h).g w=aQ h.g w
 |0, _, _=>rfl
 |n+1,h,w=>by
  show aQ (e_ v n (yy v h)).g w= _;rw[wJ v n];unfold yy;exact sN ..
theorem S6 {a w:Int} (d:w≠a) (b:aQ h.g w=true):aQ (th h a).g w=true:=by
 unfold th;split
 ·rename_i la;split
  ·exact b
  ·rw[<-wJ a (vE h a).length] at b;obtain⟨c,x,hx⟩:=cm.1 b;obtain⟨hv, _⟩:=cm.1 la;refine cm.2 ⟨c,x,?_⟩;show a_ (e_ a (vE h a).length h).g a.toNat none w.toNat=some x;unfold a_;rw[ao (by omega)];exact hx
 ·exact b
theorem CE.run (d:HI cI (run h v k a b c).1) {P:Nat->Int->Prop} {f:Int} (E:rJ h (run h v k a b c).1 P f) {oo:Int} (G:uL oo gh cI h.s (run h v k a b c).1.s) (e:1<=k/\k<=17) (hc:qM k=false):CE gh cI h (run h v k a b c).1 P (λ_=>False):=
 ⟨d,E.kd,E.pg,λh1 _=>G.1 _ _ h1,λh1=>G.2.1 _ h1,λ{w} _ h1=>by rw[S5 (Wo e hc)];exact h1⟩
theorem EM (d:k=6\/k=8\/(11<=k/\k<=16)):(run h v k a b c).1.s=h.s/\(run h v k a b c).1.g=h.g:=by
 have:k=6\/k=8\/k=11\/k=12\/k=13\/k=14\/k=15\/k=16:=by omega
 rcases this with rfl|rfl|rfl|rfl|rfl|rfl|rfl|rfl
 ·exact⟨rfl,rfl⟩
 ·show(gz h v a b c).s=h.s/\(gz h v a b c).g=h.g;unfold gz;split<;>exact⟨rfl,rfl⟩
 ·show(eY h v a).s=h.s/\(eY h v a).g=h.g;unfold eY;split<;>exact⟨rfl,rfl⟩
 ·show(kO h v a).s=h.s/\(kO h v a).g=h.g;unfold kO;split<;>exact⟨rfl,rfl⟩
 ·show(kQ h v a b).s=h.s/\(kQ h v a b).g=h.g;unfold kQ;split
  ·exact⟨rfl,rfl⟩
  split<;>exact⟨rfl,rfl⟩
 ·show(kN h v a).s=h.s/\(kN h v a).g=h.g;unfold kN;split<;>exact⟨rfl,rfl⟩
 ·exact⟨rfl,rfl⟩
 ·show(ir h v a).s=h.s/\(ir h v a).g=h.g;unfold ir;split<;>exact⟨rfl,rfl⟩
theorem zm (d:qb h v k a b c=0) (e:fT h v k a b c=0):(run h v k a b c).2.2=0:=by unfold qb at d;rw[av e] at d;exact d
theorem If (H:HI gh h) (z:0<=a) (A: ¬ (v=0/\k=17/\a=0/\b=0/\c=0)) (B:k=7-> ¬ (aQ h.g v=true/\gu k a b c=true/\a<1048576)) (C:qb h v k a b c≠0\/ ¬ (k=2\/k=4\/k=5\/k=10)):
 ∃cI P,CE gh cI h (ij h v k a b c) P (λ_=>False)/\NN h.s (ij h v k a b c).s/\(∀{j:Nat} {q:Int},P j q->0<=q->q<65536->(fW h j q).2.2.1≠0)/\(v≠0-> ∀(f:Int) (w:Int×Nat×Int),gh f=some w->w.1≠v->cI f=some w):=by
 obtain⟨g1,D⟩:=H.step v k b c z;have same:(ij h v k a b c).s=h.s->(ij h v k a b c).g=h.g-> ∃cI P,CE gh cI h (ij h v k a b c) P (λ_=>False)/\NN h.s (ij h v k a b c).s/\(∀{j:Nat} {q:Int},P j q->0<=q->q<65536->(fW h j q).2.2.1≠0)/\(v≠0-> ∀(f:Int) (w:Int×Nat×Int),gh f=some w->w.1≠v->cI f=some w):=λl m=>
  ⟨gh, _,CE.same H D l m,.refl (by rw[l]),λc=>c.elim,λ_ _ _ F _=>F⟩
 by_cases r:qb h v k a b c=0
 case neg=>
  obtain⟨e, _⟩:=H.fail r;exact same e.1 e.2
 have L:=C.resolve_left λc=>c r;by_cases i:fT h v k a b c=0
 case neg=>
  have e:ij h v k a b c=h:=ao i;rw[e] at same ⊢;exact same rfl rfl
 have d:=zm r i;obtain⟨x,t,p⟩:=yM i;have e:ij h v k a b c=(run h v k a b c).1:=av i;by_cases hs:k=6\/k=8\/(11<=k/\k<=16)
 ·obtain⟨l,m⟩:=EM (h:=h) (v:=v) (a:=a) (b:=b) (c:=c) hs;exact same (by rw[e];exact l) (by rw[e];exact m)
 rw[e];have:k=1\/k=3\/k=7\/k=9\/k=17:=by omega
 rcases this with rfl|rfl|rfl|rfl|rfl
 ·obtain⟨g',n,E,G⟩:=H.GN (oo:=v);exact⟨g', _,⟨n,E.kd,E.pg,λh1 _=>G.1 _ _ h1,λh1=>G.2.1 _ h1,λ{w} _ h1=>Nn w h1⟩,NN.DH h,λ{j q} c I J=>absurd ⟨I,J⟩ c,λ_=>G.2.2⟩
 ·have d:kX h v a b=0:=by
   have d:(oW h v a b).2=0:=d;unfold oW at d;split at d
   ·assumption
   ·exact d
  obtain⟨g',f,n,O, _,G⟩:=H.Cy (t rfl) (a:=a) (b:=b) d;refine⟨g', _,CE.run (k:=3) n O.ef G x rfl,NN.don ..,λ{j q} o _ _=>?_,λ_=>G.2.2⟩;rw[o.1,o.2,O.Xf];decide
 ·exfalso;refine B rfl ⟨t rfl,p,?_⟩;refine FB λo=>?_;have d:nL h v a=0:=d;unfold nL iD at d;rw[av (show a>=1048576 by omega),av (show((0:Int),(2:Int)).2≠0 by decide)] at d;exact absurd d (show ¬ (2:Int)=0 by decide)
 ·obtain⟨l,g',n,E,K, _,G⟩:=H.GM (t rfl) (a:=a) (b:=b) (c:=c) d;have m:(run h v 9 a b c).1=fR h v a b c:=l;rw[<-m] at n E G;refine⟨g', _,CE.run (k:=9) n E G x rfl,by rw[m];exact NN.tak ..,λ{j q} o _ _=>?_,λ_=>G.2.2⟩;rw[o.1,o.2,K];decide
 ·exfalso;have hv:v=0:=by
   unfold fT at i;split at i
   ·exact absurd i (by decide)
   split at i
   ·exact absurd i (by decide)
   rename_i y;by_cases e:v=0
   ·exact e
   ·have:(v==0)=false:=by simpa using e
    rw[this] at y;exact absurd rfl y
  have u:a=0/\b=0/\c=0:=by
   unfold gu at p;simp[j_] at p;exact p
  exact A ⟨hv,rfl,u.1,u.2.1,u.2.2⟩
theorem No (H:HI gh h) (K:0<=a) (n:qb h v k a b c=0) (B:k=2\/k=4\/k=5\/k=10):
 ∃cI,CE gh cI h (ij h v k a b c) (λj q=>if k=2 then j=a.toNat else j=v.toNat/\q=a) (λw=>k=2/\w=a)/\(k=2->(1<=a/\a<=16)/\v=0)/\(k≠2->(1<=v/\v<=16)/\a<65536)/\(v≠0-> ∀(f:Int) (w:Int×Nat×Int),gh f=some w->w.1≠v->cI f=some w):=by
 have l:fT h v k a b c=0:=by
  refine FB λl=>?_;unfold qb at n;rw[ao l] at n;exact l n
 have d:=zm n l;obtain⟨D,o,L⟩:=yM l;have e:ij h v k a b c=(run h v k a b c).1:=av l;rw[e];have fin: ∀{cI:Gh} {f:Int},k≠2->qM k=false->a<65536->HI cI (run h v k a b c).1->rJ h (run h v k a b c).1 (λi q=>i=v.toNat/\q=a) f->uL v gh cI h.s (run h v k a b c).1.s-> ∃cI,CE gh cI h (run h v k a b c).1 (λj q=>if k=2 then j=a.toNat else j=v.toNat/\q=a) (λw=>k=2/\w=a)/\(k=2->(1<=a/\a<=16)/\v=0)/\(k≠2->(1<=v/\v<=16)/\a<65536)/\(v≠0-> ∀(f:Int) (w:Int×Nat×Int),gh f=some w->w.1≠v->cI f=some w):=λ{cI f} y hc F m E G=>by
  obtain⟨_, _, _, _,p,r⟩:=bM (o hc);have C:=CE.run m E G D hc;refine⟨cI,⟨C.hi,C.kd,⟨λ{i q} t=>C.pg.to λu=>t ?_⟩,λh1 _=>C.gk h1 id,C.gn,λ_ h1=>C.lv id h1⟩,λc=>absurd c y,λ_=>⟨⟨p,r⟩,F⟩,λ_=>G.2.2⟩;show if k=2 then _ else _;rw[ao y];exact u
 rcases B with rfl|rfl|rfl|rfl
 ·obtain⟨g',m,E,I,J⟩:=H.JL a;have la:aQ h.g a=true:=by
   have d:F7 h a=0:=d;unfold F7 at d;split at d
   ·assumption
   ·exact absurd d (by decide)
  have z:v=0:=by
   unfold fT at l;split at l
   ·exact absurd l (by decide)
   split at l
   ·exact absurd l (by decide)
   rename_i A;by_cases e:v=0
   ·exact e
   ·have:(v==0)=false:=by simpa using e
    rw[this] at A;exact absurd rfl A
  obtain⟨_, _, _, _,p,r⟩:=bM la;refine⟨g',⟨m,E.kd,⟨λ{i q} t=>E.pg.to λu=>t ?_⟩,λ{f w} h1 x=>I f w h1 λc=>x ⟨rfl,c⟩,λh1=>J _ h1,λ{w} h1 x=>S6 (λc=>h1 ⟨rfl,c⟩) x⟩,λ_=>⟨⟨p,r⟩,z⟩,λc=>absurd rfl c,λc=>absurd z c⟩
  ·show if(2:Int)=2 then _ else _;rw[av rfl];exact u
 ·have d:uX h v a=0:=by
   have d:(ye h v a).2=0:=d;unfold ye at d;split at d
   ·assumption
   ·exact d
  obtain⟨g',f,m,O,G⟩:=H.GL (o rfl) d;refine fin (by decide) rfl ?_ m O.ef G;unfold uX at d;split at d
  ·exact absurd d (by decide)
  ·omega
 ·have d:pz h v a b=0:=d;obtain⟨g',m,E, _, _, _,G⟩:=H.CS (o rfl) d;refine fin (by decide) rfl ?_ m E G;unfold pz at d;split at d
  ·exact absurd d (by decide)
  ·omega
 ·have d:pA h v a=0:=d;obtain⟨g',m,E, _,G⟩:=H.CU (o rfl) d;refine fin (by decide) rfl ?_ m E G;unfold pA at d;split at d
  ·exact absurd d (by decide)
  ·omega
end
section
variable {gh cI:Gh} {ta:Int->Bool} {n:Nat} {s:MS} {i:Nat}
structure XK (e e':vF) (fs:List Int):Prop where
 now:e'.now=e.now
 pins:e'.pins=e.pins
 Xf: ∀w∈e'.ws,w∈e.ws\/(w.1∈fs/\w.2=e.now)
 fN: ∀w∈e.ws,w∈e'.ws
 new: ∀f∈fs,f∉e.ws.map (·.1)->(f,e.now)∈e'.ws
 nd:(e.ws.map (·.1)).Nodup->(e'.ws.map (·.1)).Nodup
theorem acI (e:vF) (f:Int):XK e (mB e f) [f]:=by
 unfold mB;split
 ·exact⟨rfl,rfl,λw h=> .inl h,λw h=>h,by grind,id⟩
 ·refine⟨rfl,rfl,λa=>?_,by grind,λ_=>?_,λb=>?_⟩
  grind
  grind
  grind
theorem EN: ∀(fs:List Int) (e:vF),XK e (fs.foldl mB e) fs
 |[],e=>⟨rfl,rfl,λw h=> .inl h,λw h=>h,by simp,id⟩
 |f::fs,e=>by
  have A:=acI e f;have a:=EN fs (mB e f);refine⟨a.now.trans A.now,a.pins.trans A.pins,λw b=>?_,λw b=>a.fN w (A.fN w b),λg hg i=>?_,λh=>a.nd (A.nd h)⟩
  ·rcases a.Xf w b with h|⟨h1,d⟩
   ·exact(A.Xf w h).imp id (by grind)
   ·exact .inr ⟨by grind,by rw[d,A.now]⟩
  ·by_cases c:g=f
   ·exact a.fN _ (A.new g (E5.2 c) i)
   ·have hg:=(GG.1 hg).resolve_left c;rw[<-A.now];refine a.new g hg λk=>?_;obtain⟨w,h1,d⟩:=Bx.1 k;rcases A.Xf w h1
    grind
    grind
theorem JS (M:MI gh ta n s) {x:bG} (b:yA s x.ak=true) {j:Nat} {q:List AK} (d:s.bx[j]? =some q) {a:AK} (e:a∈q):a.1≠x.ak:=λc=>by
 unfold yA at b;rw[FG,decide_eq_true_eq,beq_iff_eq] at b;have:=M.oc (x.ak - 1).toNat;rw[b.2,show(x.ak - 1).toNat+1=x.ak by omega] at this;have f:0<s.bx.countP (λq=>jJ q x.ak):=I2.2 ⟨q,az d,GH.2 (by grind)⟩;omega
theorem MI.done (M:MI gh ta n s) {x:bG} (hx:s.cs[i]? =some x) (T:x.ph=4) (U:yA s x.ak=true):MI gh ta n {s with ep:=x.fs.foldl mB s.ep,cs:=s.cs.set i (bV x.ls)}:=by
 have i_:i<s.cs.length:=(Aq.1 hx).1;have R:=EN x.fs s.ep;generalize u:({s with ep:=x.fs.foldl mB s.ep,cs:=s.cs.set i (bV x.ls)}:MS)=s';have v:s'.h=s.h:=by rw[<-u]
 have he:s'.ep=x.fs.foldl mB s.ep:=by rw[<-u]
 rw[<-he] at R;have D:s'.kn=s.kn:=by rw[<-u]
 have V:s'.sz=s.sz:=by rw[<-u]
 have hb:s'.bx=s.bx:=by rw[<-u]
 have W:s'.op=s.op:=by rw[<-u]
 have fe:s'.cs=s.cs.set i (bV x.ls):=by rw[<-u]
 have hg: ∀{z:Nat} {y:bG},s'.cs[z]? =some y->(z=i/\y=bV x.ls)\/(z≠i/\s.cs[z]? =some y):=λh=>by rw[fe] at h;exact ju h
 have A: ∀{y:bG},y∈s'.cs->y=bV x.ls\/ ∃j,j≠i/\s.cs[j]? =some y:=λh=>by
  obtain⟨j,k⟩:=E4 h;exact(hg k).imp (·.2) λc=>⟨j,c⟩
 have J: ∀{z:Nat} {y:bG},s.cs[z]? =some y->z≠i->s'.cs[z]? =some y:=λ{z y} h1 p=>by
  grind
 have N:=M.fk x (az hx) T;have acJ: ∀{j:Nat} {y:bG} {f:Int},s.cs[j]? =some y->y.ph=2\/y.ph=3->rY s j f->rY s' j f:=λ{j y f} k vy P=>by
  have X:=M.pn k;rw[av vy] at X;rcases P with ⟨z,y2,h1,p,E⟩|⟨e,h1,p,E⟩
  ·by_cases c:z=i
   ·subst c;rw[hx] at h1;cases h1;exact .inr ⟨_,R.new f E (N f E).2,rfl,by rw[R.pins];exact X.2.1⟩
   ·exact .inl ⟨z,y2,J h1 c,p,E⟩
  ·exact .inr ⟨e,R.fN e h1,p,by rw[R.pins];exact E⟩
 have i0:(bV x.ls).ph=0:=rfl;refine⟨by rw[v];exact M.hi,M.nn,by rw[fe,DL];exact M.lc,by rw[hb];exact M.lb,by rw[R.pins];exact M.lp,by rw[V];exact M.sz,λy o=>?_,λy o=>?_,λy o=>?_,
  by rw[D,v];exact M.k5,by rw[D];exact M.nk,λe K=>?_,R.nd M.wn,λy o e=>?_,λy o e=>?_,λ{a b y z} g t O B C=>?_,λ{m d} g t=>?_,by rw[R.now];exact M.nw,λ{j y} g=>?_,λ{j y} g l Y=>?_,λy o e=>?_,λ{j y} g e=>?_,λ{j y} g e=>?_,λy o e=>?_,λ{a b y z} g t O B C=>?_,λ{j r} g=>?_,by rw[W,hb];exact M.oc⟩
 ·rcases A o with rfl|⟨j, _,k⟩
  ·rw[i0];decide
  ·exact M.ph y (az k)
 ·rcases A o with rfl|⟨j, _,k⟩
  ·exact(show bT 0/\bT 0/\bT 0 by decide)
  ·exact M.ar y (az k)
 ·rw[V];rcases A o with rfl|⟨j, _,k⟩
  ·exact M.tl x (az hx)
  ·exact M.tl y (az k)
 ·rw[D,R.now];rcases R.Xf e K with h|⟨h1,p⟩
  ·exact M.wk e h
  ·exact⟨(N _ h1).1,by rw[p];exact M.nw,by rw[p];exact FW _⟩
 ·rcases A o with rfl|⟨j,k,o⟩
  grind
  ·intro f K;obtain⟨a,b⟩:=M.fk y (az o) e f K;refine⟨by rw[D];exact a,λc=>?_⟩;obtain⟨w,h1,p⟩:=Bx.1 c;rcases R.Xf w h1 with h|⟨h, _⟩
   ·exact b (Bx.2 ⟨w,h,p⟩)
   ·rw[p] at h;exact M.fd o hx k e T f K h
 ·rcases A o with rfl|⟨j,k,o⟩
  ·rw[i0] at e;exact absurd e (by decide)
  ·exact M.fn y (az o) e
 ·rcases hg g with ⟨_,rfl⟩|⟨_,g⟩
  ·rw[i0] at B;exact absurd B (by decide)
  ·rcases hg t with ⟨_,rfl⟩|⟨_,t⟩
   ·rw[i0] at C;exact absurd C (by decide)
   ·exact M.fd g t O B C
 ·rw[v] at g;obtain⟨q1,Q⟩:=M.kd g t;rw[D];refine⟨q1,?_⟩;rcases Q with Q|⟨y,o,g1,F⟩
  ·obtain⟨w,h1,p⟩:=Bx.1 Q;exact .inl (Bx.2 ⟨w,R.fN w h1,p⟩)
  ·obtain⟨j,k⟩:=E4 o;by_cases c:j=i
   ·subst c;rw[hx] at k;cases k;exact .inl (Bx.2 ⟨_,R.new _ F (N _ F).2,rfl⟩)
   ·exact .inr ⟨y,az (J k c),g1,F⟩
 ·rw[R.pins,R.now];rcases hg g with ⟨rfl,rfl⟩|⟨_,g⟩
  ·have:=M.pn hx
   grind
  ·exact M.pn g
 ·have z5: ∃S,s.cs[j]? =some S/\l∈S.ls:=by
   rcases hg g with ⟨rfl,rfl⟩|⟨_,g⟩
   ·exact⟨x,hx,Y⟩
   ·exact⟨y,g,Y⟩
  obtain⟨S,g0,g1⟩:=z5;obtain⟨r0,m,d,G,H,I⟩:=M.ln g0 l g1;refine⟨r0,m,d,G,by rw[v];exact H,?_⟩;rw[v,hb];refine I.imp id λ⟨L,q,a,Z,r6,r7,r8⟩=>⟨L,q,a,Z,r6,r7,λe5=>?_⟩;obtain⟨r9,z,y',b,c0,c1,c2,c3,c4,c5⟩:=r8 e5;refine⟨r9,z,y',b,c0,J c1 λc=>?_,c2,c3,c4,c5⟩;subst c;rw[hx] at c1;cases c1;exact JS M U Z c0 c4
 ·rw[v];rcases A o with rfl|⟨j, _,k⟩
  ·rw[i0] at e;exact absurd e (by decide)
  ·exact M.ac y (az k) e
 ·rcases hg g with ⟨_,rfl⟩|⟨_,g⟩
  ·rw[i0] at e;exact absurd e (by decide)
  ·obtain⟨l,G,H,I,L⟩:=M.wl g e;refine⟨l,G,H,I,?_⟩
   grind
 ·rcases hg g with ⟨_,rfl⟩|⟨_,g⟩
  ·rw[i0] at e;exact absurd e (by decide)
  ·obtain⟨⟨m,d,G,H,I⟩,L⟩:=M.rc g e;refine⟨⟨m,d,G,by rw[v];exact H,?_⟩,L⟩;exact I.imp id λc=>⟨c.1,acJ g (.inr e) c.2.1,c.2.2⟩
 ·rw[W];rcases A o with rfl|⟨j, _,k⟩
  ·rw[i0] at e;exact absurd e (by decide)
  ·exact M.wt y (az k) e
 ·rcases hg g with ⟨_,rfl⟩|⟨_,g⟩
  ·rw[i0] at B;exact absurd B (by decide)
  ·rcases hg t with ⟨_,rfl⟩|⟨_,t⟩
   ·rw[i0] at C;exact absurd C (by decide)
   ·exact M.wu g t O B C
 ·rw[hb] at g;obtain⟨g1,F⟩:=M.aq g;refine⟨g1,λa ha=>?_⟩;obtain⟨z,y,f1,f2,f3,f4⟩:=F a ha;refine⟨z,y,f1,J f2 λc=>?_,f3,f4⟩;subst c;rw[hx] at f2;cases f2;exact JS M U g ha (by rw[f4])
end
section
variable {gh cI:Gh} {ta:Int->Bool} {n:Nat} {s:MS} {i:Nat}
def x_ (n:Nat) (s:MS):Prop:= ∃gh ta,MI gh ta n s
def MIo (gh:Gh) (a:Bool) (v:Int) (n:Nat) (s:MS):Prop:= ∃cI ta,MI cI ta n s/\(a=true->cI=gh)/\(v≠0-> ∀(f:Int) (w:Int×Nat×Int),gh f=some w->w.1≠v->cI f=some w)
theorem MI.o (M:MI gh ta n s) {a:Bool} {v:Int}:MIo gh a v n s:=⟨gh,ta,M,λ_=>rfl,λ_ _ _ h _=>h⟩
theorem S7 (M:MI gh ta n s) {x:bG} (hx:s.cs[i]? =some x) (h: ¬ (x.ph=2\/x.ph=3)):rX s.ep i=s.ep:=by
 have:=M.pn hx;rw[ao h] at this;unfold rX;rw[<-this,tP M hx]
theorem MI.ends (M:MI gh ta n s) {x:bG} (hx:s.cs[i]? =some x) (h1:x.ph=1) (kn:List Int) (a:kn=s.kn) (ms:List MT) {ls:List LT} (b:ls=x.ls):MI gh ta n {s with cs:=s.cs.set i (bV ls),kn:=kn,ms:=ms}:=by
 have:=M.idle hx (by omega) (λl c=>M.ln hx l c) (M.tl x (az hx)) ms;rw[S7 M hx (by omega)] at this;subst a b;exact this
theorem lN (s:MS):(da s).1.cs=s.cs:=by
 unfold da;dsimp only;generalize oK (iz s.ep)=L;generalize b:({s with ep:=F9 (iz s.ep)}:MS)=a;have h0:s.cs=a.cs:=by rw[<-b]
 rw[h0];clear b h0
 induction L generalizing a with
 |nil=>rfl
 |cons f L c=>exact c (jj a f)
theorem S8 {h':HS} (M:MI gh ta n {s with h:=h'}):eA s h'=[]:=by
 refine GJ.2 λf a=>?_;obtain⟨m,d,rfl,b,c,e⟩:=gF.1 a;exact e (M.kd b c).1
theorem Wq {x:bG} (hx:s.cs[i]? =some x) (x':bG):((s.cs.set i x').getD i x)=x':=by
 rw[B4,Cj (Aq.1 hx).1];rfl
theorem MI.call (M:MI gh ta n s) {x:bG} (hx:s.cs[i]? =some x) (h1:x.ph=1) (hb:s.bx[i]? =some []) (l:iA s.h x=false) (A:oZ s i x=false) (B: ¬ (x.vm=0/\x.c=(17,0,0,0,()))):MIo gh false x.vm n (fw (fx s i x) i x).1:=by
 have t:=M.ar x (az hx);by_cases o:(x.c.1=2\/x.c.1=4\/x.c.1=5\/x.c.1=10)/\qb s.h x.vm x.c.1 x.c.2.1 x.c.2.2.1 x.c.2.2.2.1=0
 ·obtain⟨m,u⟩:=o;obtain⟨g',C,c2,D,co⟩:=No M.hi t.1.1 u m;have e:(fw (fx s i x) i x).1=A3 s (ij s.h x.vm x.c.1 x.c.2.1 x.c.2.2.1 x.c.2.2.2.1) i x (if x.c.1=2 then aJ .i64 x.c.2.1 else x.vm) (if x.c.1=2 then -1 else aJ .i64 x.c.2.1) (wS s.h x.vm x.c.1 x.c.2.1 x.c.2.2.1 x.c.2.2.2.1,qb s.h x.vm x.c.1 x.c.2.1 x.c.2.2.1 x.c.2.2.2.1) (s.ms++[(1,x.vm,0,x.c,wS s.h x.vm x.c.1 x.c.2.1 x.c.2.2.1 x.c.2.2.2.1,qb s.h x.vm x.c.1 x.c.2.1 x.c.2.2.1 x.c.2.2.2.1)]):=by
   unfold fx;dsimp only;rw[av m,ao (λc=>c u)];rfl
  rw[e];by_cases f:x.c.1=2
  ·obtain⟨p,w⟩:=c2 f;have r:aJ .i64 x.c.2.1=x.c.2.1:=Go.Proofs.YtlcenllcmeebhaaGreat.bP (by omega);rw[av f,av f,r];refine⟨g', _,M.XJ hx h1 hb C p (by decide) (by unfold Ay;rw[av f]) (by unfold Az;rw[av f]) (λ{j q} c _ _=>?_) (λ{j y} g z c=>?_) _ _,(λc=>by cases c),co⟩
   ·rw[av f] at c;exact⟨by omega,.inl rfl⟩
   ·have E:j≠i:=λk=>by subst k;rw[hx] at g;cases g;omega
    have:oZ s i x=true:=by
     unfold oZ;refine GH.2 ⟨j,Dn.2 (Aq.1 g).1,?_⟩;rw[g];dsimp only;rw[FG,decide_eq_true_eq];refine⟨⟨E,w⟩,?_⟩;rw[Ks];right;rw[f,c.2,z];have:0<x.c.2.1:=by omega
     simp[this]
    rw[A] at this;cases this
  ·obtain⟨p,w⟩:=D f;have r:aJ .i64 x.c.2.1=x.c.2.1:=Go.Proofs.YtlcenllcmeebhaaGreat.bP (by omega);rw[ao f,ao f,r];refine⟨g', _,M.XJ hx h1 hb C p (by omega) (by unfold Ay;rw[ao f]) (by unfold Az;rw[ao f]) (λ{j q} c _ _=>?_) (λ{j y} g z c=>f c.1) _ _,(λc=>by cases c),co⟩;rw[ao f] at c;exact⟨by omega,.inr c.2.symm⟩
 ·obtain⟨g',P,C,N,F,co⟩:=If (k:=x.c.1) (v:=x.vm) (a:=x.c.2.1) (b:=x.c.2.2.1) (c:=x.c.2.2.2.1) M.hi t.1.1 (λc=>B ⟨c.1,by
   obtain⟨_,k,a,b,d⟩:=c;exact BW k (BW a (BW b (BW d rfl)))⟩) (λG c=>by
   unfold iA aT at l;rw[G] at l c;rw[c.1,c.2.1,decide_eq_true c.2.2] at l;exact absurd l (by decide)) (by
   by_cases e:x.c.1=2\/x.c.1=4\/x.c.1=5\/x.c.1=10
   ·exact .inl λc=>o ⟨e,c⟩
   ·exact .inr e)
  have M':=M.quiet C N F;have H:=S8 M';have e:(fw (fx s i x) i x).1=bh (bh {s with h:=ij s.h x.vm x.c.1 x.c.2.1 x.c.2.2.1 x.c.2.2.2.1,kn:=s.kn++eA s (ij s.h x.vm x.c.1 x.c.2.1 x.c.2.2.1 x.c.2.2.2.1),ms:=s.ms++[(1,x.vm,0,x.c,wS s.h x.vm x.c.1 x.c.2.1 x.c.2.2.1 x.c.2.2.2.1,qb s.h x.vm x.c.1 x.c.2.1 x.c.2.2.1 x.c.2.2.2.1)]} i {x with rs:=(wS s.h x.vm x.c.1 x.c.2.1 x.c.2.2.1 x.c.2.2.2.1,qb s.h x.vm x.c.1 x.c.2.1 x.c.2.2.1 x.c.2.2.2.1),fs:=eA s (ij s.h x.vm x.c.1 x.c.2.1 x.c.2.2.1 x.c.2.2.2.1)}) i (bV ((s.cs.set i {x with rs:=(wS s.h x.vm x.c.1 x.c.2.1 x.c.2.2.1 x.c.2.2.2.1,qb s.h x.vm x.c.1 x.c.2.1 x.c.2.2.1 x.c.2.2.2.1),fs:=eA s (ij s.h x.vm x.c.1 x.c.2.1 x.c.2.2.1 x.c.2.2.2.1)}).getD i x).ls):=by
   unfold fx;dsimp only;split
   ·rename_i m;rw[av λc=>o ⟨m,c⟩];rfl
   ·rfl
  rw[e,Wq hx,H];refine⟨g',ta,?_,(λc=>by cases c),co⟩;have:=M'.ends hx h1 (s.kn++[]) (FH _) (s.ms++[(1,x.vm,0,x.c,wS s.h x.vm x.c.1 x.c.2.1 x.c.2.2.1 x.c.2.2.2.1,qb s.h x.vm x.c.1 x.c.2.1 x.c.2.2.1 x.c.2.2.2.1)]) (ls:=x.ls) rfl;unfold bh;dsimp only;rw[Ct];exact this
theorem MI.begin (M:MI gh ta n s) {x:bG} (hx:s.cs[i]? =some x) (h1:x.ph=1) (hb:s.bx[i]? =some []):MIo gh (iA s.h x) x.vm n (fw (cQ s i x) i x).1:=by
 unfold cQ;cases b:iA s.h x with
 |true=>
  rw[av rfl];dsimp only;split
  ·rename_i a;have: ∃l∈x.ls,(ka x.ls x.vm (x.c.2.1 / 16) (aT x.c.1)).1=l.2.2.1:=by
    unfold ka at a ⊢;cases d:x.ls.find? (Aw x.vm (x.c.2.1 / 16)) with
    |none=>rw[d] at a;exact absurd a (show ¬ (4:Int)=0 by decide)
    |some l=>
     rw[d] at a;dsimp only at a ⊢;split at a
     ·exact absurd a (show ¬ (7:Int)=0 by decide)
     ·rename_i c;rw[ao c];exact⟨l,List.mem_of_find?_eq_some d,rfl⟩
   obtain⟨l,f,g⟩:=this;rw[g];exact(M.FA hx h1 b f).o
  ·exact(M.aan hx h1 b).o
 |false=>
  rw[ao (by decide)];cases j:oZ s i x with
  |true=>
   rw[av rfl,fB hx];exact(M.ends hx h1 s.kn rfl s.ms rfl).o
  |false=>
   rw[ao (by decide)];split
   ·have e:(da s).1.cs[i]? =some x:=by rw[lN];exact hx
    rw[fB e];exact(M.free.ends e h1 _ rfl _ rfl).o
   ·rename_i k;exact M.call hx h1 hb b j k
theorem MI.waits (M:MI gh ta n s) {x:bG} (hx:s.cs[i]? =some x) (b:x.ph=4) {a:Bool} {v:Int}:MIo gh a v n (fw (iF s x) i x).1:=by
 unfold iF;split
 ·rename_i c;rw[fB (by exact hx)];exact(M.done hx b c).o
 ·exact M.o
theorem MI.dZ (M:MI gh ta n s) {x:bG} (hx:s.cs[i]? =some x):MIo gh (x.ph != 1||iA s.h x) x.vm n (Go.Proofs.YtlcenllcmeebhaaGreat.dZ s i x).1:=by
 have f:=M.ph x (az hx);unfold Go.Proofs.YtlcenllcmeebhaaGreat.dZ;split
 ·rename_i c;unfold bE;rw[ao (by omega),ao (by omega),ao (by omega),av c];exact(M.reach hx c).o
 ·rename_i c;have d:i<s.bx.length:=by rw[M.lb, <-M.lc];exact(Aq.1 hx).1
  unfold o8;cases b:s.bx[i]? with
  |none=>rw[Cg d] at b;cases b
  |some q=>
   cases q with
   |cons a q=>exact(M.pop hx b).o
   |nil=>
    dsimp only;unfold bE;split
    ·exact(M.free).o
    split
    ·rename_i h1;rw[h1];exact M.begin hx h1 b
    split
    ·rename_i e;exact(M.walk hx e).o
    ·exact M.waits hx (by omega)
theorem x_.step (M:x_ n s) (k:Int):x_ n (aL s k).1:=by
 obtain⟨gh,ta,M⟩:=M;unfold aL;split
 ·exact⟨gh,ta,M⟩
 split
 ·exact⟨gh,ta,M⟩
 ·rename_i hx;exact let ⟨g,t,K, _⟩:=M.dZ hx;⟨g,t,K⟩
theorem x_.ask (M:x_ n s) (k vm:Int) {c:CT} (hc:bT c.2.1/\bT c.2.2.1/\bT c.2.2.2.1):x_ n (cB s k vm c):=by
 obtain⟨gh,ta,M⟩:=M;exact⟨gh,ta,M.ask k vm hc⟩
theorem x_.new {f:Nat} {l:Int} (o:4<=f/\f<=4096) (p:1<=n/\n<=8) (b:1<=l/\l<=64):x_ n (m0 f n l):=by
 have hc: ∀{x:bG},x∈(m0 f n l).cs->x=bV []:=λh=>DV h;have hg: ∀{j:Nat} {x:bG},(m0 f n l).cs[j]? =some x->x=bV []:=λh=>hc (az h);have no: ∀{k:Int},(bV []).ph=k->k≠0->False:=λh c=>c h.symm;have r: ∀{m:Nat} {d:DT},(m0 f n l).h.s.2[m]? =some d->d.1≠5:=λ{m d} h=>by
  have h:(DA f zD)[m]? =some d:=h;rw[DV (Db h)];decide
 refine⟨noG,λ_=>false,⟨HI.new o,p,Dq,Dq,Dq,b,λx h=>?_,λx h=>?_,λx h=>?_,λg hg=>absurd hg (by simp[m0]),IB,λe t=>absurd t (by simp[m0]),IB,λx h e=>?_,λx h e=>?_,λ{i j x y} h1 _ _ e _=>?_,λh1 c=>absurd c (r h1),FW _,λ{j x} h=>?_,λ{j x} h l b=>?_,λx h e=>?_,λ{j x} h e=>?_,λ{j x} h e=>?_,λx h e=>?_,λ{i j x y} h1 _ _ e _=>?_,λ{j q} h=>?_,λid h=>absurd h (Ko _)⟩⟩
 ·rw[hc h];decide
 ·rw[hc h];decide
 ·rw[hc h];show(0:Int)<=l;omega
 ·rw[hc h] at e;exact(no e (by decide)).elim
 ·rw[hc h] at e;exact(no e (by decide)).elim
 ·rw[hg h1] at e;exact(no e (by decide)).elim
 ·rw[hg h,ao (by decide)];have u:j<n:=by
   have:=(Aq.1 h).1;rw[show(m0 f n l).cs.length=n from Dq] at this;exact this
  show(DA n (-1:Int)).getD j 0= -1;rw[B4,F6,av u];rfl
 ·rw[hg h] at b;exact absurd b (by simp[bV])
 ·rw[hc h] at e;exact(no e (by decide)).elim
 ·rw[hg h] at e;exact(no e (by decide)).elim
 ·rw[hg h] at e;exact(no e (by decide)).elim
 ·rw[hc h] at e;exact(no e (by decide)).elim
 ·rw[hg h1] at e;exact(no e (by decide)).elim
 ·have:q=[]:=DV (az h);rw[this];exact⟨List.Pairwise.nil,λa v=>by cases v⟩
end
def qJ (x:bG):Nat:=if x.ph=1 then 6 else if x.ph=2 then 2+x.wk.2.1.toNat else if x.ph=3 then 1 else 0
def bl (s:MS) (c:Nat):Nat:=(s.bx.getD c []).length
def o1 (x:bG):Nat:=if x.ph=1 then 1 else 0
structure Pg (s s':MS) (k:Nat) (x x':bG):Prop where
 cs:s'.cs=s.cs.set k x'
 one:x'.ph=1->x.ph=1
 box: ∀j,j≠k->bl s' j+o1 x'<=bl s j+o1 x
 me:bl s' k+qJ x'<=bl s k+qJ x
 lt:0<bl s k+qJ x->bl s' k+qJ x'<bl s k+qJ x
section
variable {gh cI:Gh} {ta:Int->Bool} {n:Nat} {s s':MS} {i:Nat}
theorem pO {x:bG} (hx:s.cs[i]? =some x):s.cs.set i x=s.cs:=by
 refine IP λj=>?_
 grind
theorem Pg.same {x x':bG} (fe:s'.cs=s.cs.set i x') (hb:s'.bx=s.bx) (h1:x'.ph=1->x.ph=1) (a:qJ x'<=qJ x) (b:0<bl s i+qJ x->qJ x'<qJ x):Pg s s' i x x' where
 cs:=fe
 one:=h1
 box:=λj=>by
  have:bl s' j=bl s j:=by unfold bl;rw[hb]
  unfold o1
  grind
 me:=by
  have:bl s' i=bl s i:=by unfold bl;rw[hb]
  omega
 lt:=λh=>by
  have:bl s' i=bl s i:=by unfold bl;rw[hb]
  grind
theorem tT (s:MS):(da s).1.bx=s.bx:=by
 unfold da;generalize oK _=L;generalize b:{s with ep:=F9 _}=a;have h0:s.bx=a.bx:=by grind
 rw[h0];clear b h0
 induction L generalizing a with
 |nil=>rfl
 |cons f L c=>exact c _
theorem EO (bx:List (List AK)) (op:List Int) (i:Nat) (t p:Int) (j:Nat):((cN bx op i t p).2.1.getD j []).length<=(bx.getD j []).length+1/\(j=i->((cN bx op i t p).2.1.getD j []).length=(bx.getD j []).length):=by grind[cN]
theorem lK (ls:List LT):qJ (bV ls)=0:=rfl
theorem qE {s1:MS} {r:Int×Int} {x a:bG} (h:s1.cs[i]? =some a):(fw (s1,r,true) i x).1={s1 with cs:=s1.cs.set i (bV a.ls)}:=by
 unfold fw;rw[B4,h];rfl
theorem Np (M:MI gh ta n s) {x:bG} (hx:s.cs[i]? =some x) (h1:x.ph=1) (hb:s.bx[i]? =some []): ∃x',Pg s (fw (fx s i x) i x).1 i x x':=by
 have u:qJ x=6:=av h1;by_cases a:(x.c.1=2\/x.c.1=4\/x.c.1=5\/x.c.1=10)/\qb s.h x.vm x.c.1 x.c.2.1 x.c.2.2.1 x.c.2.2.2.1=0
 ·obtain⟨a,g⟩:=a;generalize b:fx s i x=r;unfold fx at b;dsimp only at b;rw[av a,ao (λc=>c g)] at b;subst b;refine⟨_,rfl,by simp,λj v=>?_,?_,λ_=>?_⟩
  ·have:o1 x=1:=av h1;rw[this];exact(EO _ _ _ _ _ j).1
  all_goals
   have f: ∀t p:Int,(GS (cN s.bx s.op i t p).2.1 i []).length=0:=λt p=>by
    rw[(EO _ _ _ _ _ i).2 rfl,B4,hb];rfl
  ·show(GS (cN s.bx s.op i _ _).2.1 i []).length+0<= _;rw[f];omega
  ·show(GS (cN s.bx s.op i _ _).2.1 i []).length+0< _;rw[f];omega
 ·have e: ∃(s1:MS) (d:bG) (r:Int×Int),fx s i x=(s1,r,true)/\s1.bx=s.bx/\s1.cs=s.cs.set i d:=by
   unfold fx;dsimp only;split
   ·rename_i k;rw[av λc=>a ⟨k,c⟩];exact⟨_, _, _,rfl,rfl,rfl⟩
   ·exact⟨_, _, _,rfl,rfl,rfl⟩
  obtain⟨s1,d,r,l,m,o⟩:=e;rw[l];have q:s1.cs[i]? =some d:=by grind
  rw[qE q];refine⟨bV d.ls,Pg.same ?_ m (λc=>absurd c (show ¬ (0:Int)=1 by decide)) (by rw[lK];omega) (λ_=>by rw[lK];omega)⟩;show s1.cs.set i _= _;rw[o,Ct]
theorem Ig (M:MI gh ta n s) {x:bG} (hx:s.cs[i]? =some x) (h1:x.ph=1) (hb:s.bx[i]? =some []): ∃x',Pg s (fw (cQ s i x) i x).1 i x x':=by
 have a:qJ x=6:=av h1;unfold cQ;cases c:iA s.h x with
 |true=>
  rw[av rfl];dsimp only;split
  ·exact⟨_,Pg.same rfl rfl (by omega) (by show(1:Nat)<= _;omega) (λ_=>by show(1:Nat)< _;omega)⟩
  ·exact⟨_,Pg.same rfl rfl (by omega) (by show 2+(3:Int).toNat<= _;rw[a];decide) (λ_=>by show 2+(3:Int).toNat< _;rw[a];decide)⟩
 |false=>
  rw[ao (by decide)];cases d:oZ s i x with
  |true=>
   exact⟨_,Pg.same rfl rfl (by grind) (by rw[lK];omega) (λ_=>by rw[lK];omega)⟩
  |false=>
   rw[ao (by decide)];split
   ·have b:(da s).1.cs[i]? =some x:=by rw[lN];exact hx
    rw[fB b];exact⟨_,Pg.same (by rw[lN]) (tT s) (by omega) (by rw[lK];omega) (λ_=>by rw[lK];omega)⟩
   ·exact Np M hx h1 hb
theorem Nq (M:MI gh ta n s) {x:bG} (hx:s.cs[i]? =some x) (d:x.ph=2) (hb:s.bx[i]? =some []): ∃x',Pg s (fw (jk s i x) i x).1 i x x':=by
 have k:=M.ar x (az hx);obtain⟨o,p,v⟩:=M.ac x (az hx) d;obtain⟨l,w1,q,r,a⟩:=M.wl hx d;have e:=tC ⟨k.1.1,p⟩;have f:x.wk=(x.wk.1,(l:Int),(0,0,0,0,())):=BW rfl (BW w1 r);obtain⟨w,hg,y,u,z,A⟩:=ql M o;have g:qJ x=2+l:=by
  unfold qJ;rw[ao (by omega),av d,w1];rfl
 unfold jk;dsimp only;split
 ·rename_i hc;rcases a with a|a
  ·rcases M.hi.inv.lq M.hi.nl (t:=aT x.c.1) u e a with ⟨m,B,b,C,D,k4⟩|⟨b, _⟩
   ·have j:qJ {x with wk:=bD s.h.s.1 (x.c.2.1 / 16) (aT x.c.1) x.wk}=2+m:=by
     unfold qJ
     grind
    exact⟨_,Pg.same rfl rfl (λc=>c) (by rw[j,g];omega) (λ_=>by rw[j,g];omega)⟩
   ·rw[f] at hc;exact absurd b hc
  ·obtain⟨b, _⟩:=M.hi.inv.nr (t:=aT x.c.1) e q a.1;rw[f] at hc;exact absurd b hc
 split
 ·rw[qE (by exact(Cj (Aq.1 hx).1))];refine⟨bV x.ls,Pg.same ?_ rfl (λc=>absurd c (show ¬ (0:Int)=1 by decide)) (by rw[lK];omega) (λ_=>by rw[lK];omega)⟩;show(s.cs.set i _).set i _= _;rw[Ct]
 ·exact⟨_,Pg.same rfl rfl (λc=>absurd c (show ¬ (3:Int)=1 by decide)) (by show(1:Nat)<= _;omega) (λ_=>by show(1:Nat)< _;omega)⟩
theorem prog (M:MI gh ta n s) {x:bG} (hx:s.cs[i]? =some x): ∃x',Pg s (Go.Proofs.YtlcenllcmeebhaaGreat.dZ s i x).1 i x x':=by
 have t:=M.ph x (az hx);unfold Go.Proofs.YtlcenllcmeebhaaGreat.dZ;split
 ·rename_i e;have f:qJ x=1:=by unfold qJ;rw[ao (by omega),ao (by omega),av e]
  unfold bE;rw[ao (by omega),ao (by omega),ao (by omega),av e];have: ∃(s1:MS) (r:Int×Int),eT s i x=(s1,r,true)/\s1.bx=s.bx/\s1.cs=s.cs:=by
   unfold eT;dsimp only;split
   ·exact⟨_, _,rfl,rfl,rfl⟩
   ·exact⟨_, _,rfl,rfl,rfl⟩
  obtain⟨s1,r,l,m,g⟩:=this;rw[l,fB (x:=x) (by rw[g];exact hx)];exact⟨_,Pg.same (by rw[g]) m (λc=>absurd c (show ¬ (0:Int)=1 by decide)) (by rw[lK];omega) (λ_=>by rw[lK];omega)⟩
 ·rename_i e;have o:i<s.bx.length:=by rw[M.lb, <-M.lc];exact(Aq.1 hx).1
  unfold o8;cases b:s.bx[i]? with
  |none=>rw[Cg o] at b;cases b
  |some q=>
   have d:bl s i=q.length:=by unfold bl;rw[B4,b];rfl
   cases q with
   |cons a q=>
    dsimp only;rw[Ga] at d;have h:bl (bh {s with bx:=s.bx.set i q,op:=s.op.set (a.1 - 1).toNat (s.op.getD (a.1 - 1).toNat 0 - 1)} i {x with ls:=iY x.ls a.2.1 a.2.2.1}) i=q.length:=by
     unfold bl;show((s.bx.set i q).getD i []).length= _
     grind
    refine⟨_,rfl,id,λj p=>?_,?_,λ_=>?_⟩
    ·show((s.bx.set i q).getD j []).length+o1 x<= _;rw[B4,F8 (λc=>p c.symm), <-B4];exact Ds _
    ·rw[h,d];show q.length+qJ x<= _;omega
    ·rw[h,d];show q.length+qJ x< _;omega
   |nil=>
    have d:bl s i=0:=d;dsimp only;unfold bE;split
    ·rename_i h0;have f:qJ x=0:=by unfold qJ;grind
     exact⟨x,Pg.same (by show(da s).1.cs= _;rw[lN,pO hx]) (tT s) id (Ds _) (λc=>by omega)⟩
    split
    ·rename_i h1;exact Ig M hx h1 b
    split
    ·rename_i k;exact Nq M hx k b
    ·rename_i h0 h1 k;have f:qJ x=0:=by unfold qJ;grind
     unfold iF;split
     ·rw[fB (by exact hx)];exact⟨_,Pg.same rfl rfl (λc=>absurd c (show ¬ (0:Int)=1 by decide)) (by rw[lK];omega) (λc=>by omega)⟩
     ·exact⟨x,Pg.same (pO hx).symm rfl id (Ds _) (λc=>by omega)⟩
end
def gC (s:MS) (c:Nat):bG:=s.cs.getD c (bV [])
def Ab (s:MS) (c:Nat):Nat:=bl s c+qJ (gC s c)
def Dg (s:MS):Nat:=s.cs.countP λx=>x.ph==1
def Ke (s:MS) (c:Nat):Nat:=Ab s c+Dg s
def Ky (s:MS) (L:List Nat):MS:=L.foldl (λ(s:MS) (c:Nat)=>(aL s (c:Int)).1) s
section
variable {gh cI:Gh} {ta:Int->Bool} {n:Nat} {s s':MS} {i:Nat}
theorem gH {x:bG} {c:Nat} (hx:s.cs[c]? =some x):aL s (c:Int)=Go.Proofs.YtlcenllcmeebhaaGreat.dZ s c x:=by
 unfold aL;rw[ao (by omega)];show(match s.cs[c]? with|none=> _|some x=> _)= _;rw[hx];rfl
theorem x_.get (X:x_ n s) {c:Nat} (hc:c<n): ∃x,s.cs[c]? =some x/\gC s c=x:=by
 obtain⟨gh,ta,M⟩:=X;have a:c<s.cs.length:=by rw[M.lc];exact hc
 refine⟨s.cs[c],Cg a,?_⟩;unfold gC;rw[B4,Cg a];rfl
structure DS (s s':MS) (k:Nat):Prop where
 mu: ∀c,Ke s' c<=Ke s c
 lt:0<Ab s k->Ke s' k<Ke s k
 p1:Dg s'<=Dg s
 ph: ∀c,(gC s' c).ph=1->(gC s c).ph=1
 ot: ∀c,c≠k->gC s' c=gC s c
theorem XL (X:x_ n s) {k:Nat} (f:k<n):DS s (aL s (k:Int)).1 k:=by
 obtain⟨x,hx,a⟩:=X.get f;obtain⟨gh,ta,M⟩:=X;rw[gH hx];obtain⟨x',P⟩:=prog M hx;generalize (Go.Proofs.YtlcenllcmeebhaaGreat.dZ s k x).1=s1 at P;have b:k<s.cs.length:=(Aq.1 hx).1;have g:s.cs[k]=x:=(Aq.1 hx).2;have gk:gC s1 k=x':=by
  unfold gC;rw[P.cs,B4,Cj b];rfl
 have go: ∀c,c≠k->gC s1 c=gC s c:=λc hc=>by
  unfold gC;rw[P.cs,B4,F8 (λe=>hc e.symm),B4]
 have d: ∀y:bG,(if(y.ph==1)=true then 1 else 0)=o1 y:=λy=>by
  unfold o1;by_cases e:y.ph=1
  ·rw[av e,av (by simpa using e)]
  ·rw[ao e,ao (by simpa using e)]
 have i:Dg s1=Dg s - o1 x+o1 x':=by
  unfold Dg;rw[P.cs,List.countP_set b,g,d,d]
 have j:o1 x<=Dg s:=by
  by_cases e:x.ph=1
  ·have:0<Dg s:=I2.2 ⟨x,az hx,by simpa using e⟩;unfold o1;rw[av e];omega
  ·unfold o1;rw[ao e];omega
 have l:o1 x'<=o1 x:=by
  unfold o1;split
  ·rename_i c;rw[av (P.one c)];omega
  ·omega
 refine⟨λc=>?_,λh=>?_,by omega,λc hc=>?_,go⟩
 ·unfold Ke Ab;by_cases e:c=k
  ·subst e;rw[gk,a];have:=P.me;omega
  ·rw[go c e];have:=P.box c e;omega
 ·unfold Ab at h;rw[a] at h;unfold Ke Ab;rw[gk,a];have:=P.lt h;omega
 ·by_cases e:c=k
  ·subst e;rw[gk] at hc;rw[a];exact P.one hc
  ·rw[go c e] at hc;exact hc
def F_ (n:Nat):Nat->MS->MS
 |0,s=>s
 |r+1,s=>Ky (F_ n r s) (AJ n)
end
section
variable {gh cI:Gh} {ta:Int->Bool} {n:Nat} {s s':MS} {i:Nat}
structure Zs (n:Nat) (s:MS):Prop where
 x:x_ n s
 nu: ∀c,c<n->Ab s c=0
 p1:Dg s=0
structure Iz (n:Nat) (j:Nat) (s:MS):Prop where
 z:Zs n s
 id: ∀c,c<n->(gC s c).ph=0
 fN: ∀e∈s.ep.ws,e.2+(j:Int)<=s.ep.now
end
section
variable {gh cI:Gh} {ta:Int->Bool} {n:Nat} {s s':MS} {i:Nat}
def mkS (h:HS) (k:MT):HS:=if k.1=1 then ij h k.2.1 k.2.2.2.1.1 k.2.2.2.1.2.1 k.2.2.2.1.2.2.1 k.2.2.2.1.2.2.2.1 else if k.1=2 then bq h (fQ h.s k.2.2.1) else if k.1=3 then h else bq h (dC h.s.1 k.2.2.1 k.2.2.2.2.1,h.s.2)
structure aaZ (h:HS) (k:MT):Prop where
 kd:1<=k.1/\k.1<=4
 call:k.1=1->wS h k.2.1 k.2.2.2.1.1 k.2.2.2.1.2.1 k.2.2.2.1.2.2.1 k.2.2.2.1.2.2.2.1=k.2.2.2.2.1/\qb h k.2.1 k.2.2.2.1.1 k.2.2.2.1.2.1 k.2.2.2.1.2.2.1 k.2.2.2.1.2.2.2.1=k.2.2.2.2.2/\bT k.2.2.2.1.2.1/\bT k.2.2.2.1.2.2.1/\bT k.2.2.2.1.2.2.2.1
 free:k.1=2->jB h.s k.2.2.1=0
 load:k.1=3->uH h.s.1 k.2.2.1=true/\cL h.s.1 k.2.2.1=k.2.2.2.2.1/\k.2.2.2.2.2=0
 store:k.1=4->uH h.s.1 k.2.2.1=true/\bT k.2.2.2.2.1
 hi: ∃gh,HI gh h
inductive Rp:HS->List MT->HS->Prop
 |nil (h:HS):Rp h [] h
 |snoc {h h1:HS} {l:List MT} {k:MT} (r:Rp h l h1) (o:aaZ h1 k):Rp h (l++[k]) (mkS h1 k)
theorem Rp.add {h h1 a:HS} {l:List MT} {k:MT} (r:Rp h l h1) (o:aaZ h1 k) (e:mkS h1 k=a):Rp h (l++[k]) a:=by rw[<-e];exact .snoc r o
theorem S9 {h0:HS} (M:MI gh ta n s) (R:Rp h0 s.ms s.h) {f r:Int} (b:(f,r)∈s.ep.ws):Rp h0 (gm s f).ms (gm s f).h:=by
 obtain⟨e, _, _⟩:=M.wk _ b;obtain⟨m,d,a,g,i⟩:=M.k5 f e;have a:f=(m:Int):=a;obtain⟨_,j, _⟩:=M.hi.IS g i;refine R.add ⟨(show 1<=(2:Int)/\(2:Int)<=4 by decide),λc=>absurd c (show ¬ (2:Int)=1 by decide),λ_=>?_,λc=>absurd c (show ¬ (2:Int)=3 by decide),λc=>absurd c (show ¬ (2:Int)=4 by decide),⟨gh,M.hi⟩⟩ rfl;show jB s.h.s f=0;rw[a];exact j
theorem EP {h0:HS}: ∀(L:List Int) {s:MS},MI gh ta n s->Rp h0 s.ms s.h->L.Nodup->(∀f∈L, ∃r,(f,r)∈s.ep.ws/\r+2<=s.ep.now)->Rp h0 (L.foldl gm s).ms (L.foldl gm s).h
 |[], _, _,R, _, _=>R
 |f::L,s,M,R,a,b=>by
  obtain⟨r,h1,d⟩:=b f B5;refine EP L (M.gm h1 d) (S9 M R h1) (FJ.1 a).2 λg hg=>?_;obtain⟨r',e,i⟩:=b g (B2 _ hg);refine⟨r',Gd.2 ⟨e,?_⟩,i⟩;have:g≠f:=λc=>(FJ.1 a).1 (by rw[<-c];exact hg);simp[this]
theorem JT {h0:HS} (M:MI gh ta n s) (R:Rp h0 s.ms s.h):Rp h0 (da s).1.ms (da s).1.h:=by
 rw[zl M];refine EP _ M.Uc R ?_ λf a=>xR.1 a;unfold oK;refine(jS _).nodup_iff.2 ?_;exact M.Uc.wn.sublist (IR.map _)
theorem CB (r:St) (i:Nat) (x:bG):(fw r i x).1.ms=r.1.ms/\(fw r i x).1.h=r.1.h:=by
 unfold fw;split<;>exact⟨rfl,rfl⟩
theorem Ws {h0:HS} (M:MI gh ta n s) (R:Rp h0 s.ms s.h) {x:bG} (hx:s.cs[i]? =some x):Rp h0 (fx s i x).1.ms (fx s i x).1.h:=by
 have a:=M.ar x (az hx);have key:Rp h0 (s.ms++[(1,x.vm,0,x.c,wS s.h x.vm x.c.1 x.c.2.1 x.c.2.2.1 x.c.2.2.2.1,qb s.h x.vm x.c.1 x.c.2.1 x.c.2.2.1 x.c.2.2.2.1)]) (ij s.h x.vm x.c.1 x.c.2.1 x.c.2.2.1 x.c.2.2.2.1):=
  R.add ⟨(show 1<=(1:Int)/\(1:Int)<=4 by decide),λ_=>⟨rfl,rfl,a⟩,λc=>absurd c (show ¬ (1:Int)=2 by decide),λc=>absurd c (show ¬ (1:Int)=3 by decide),λc=>absurd c (show ¬ (1:Int)=4 by decide),⟨gh,M.hi⟩⟩ rfl
 unfold fx;dsimp only;split
 ·split<;>exact key
 ·exact key
theorem S_ {h0:HS} (M:MI gh ta n s) (R:Rp h0 s.ms s.h) {x:bG} (hx:s.cs[i]? =some x) (b:x.ph=3):Rp h0 (eT s i x).1.ms (eT s i x).1.h:=by
 obtain⟨⟨m,d,e,f, _⟩, _⟩:=M.rc hx b;have g:=M.ar x (az hx);have j:m<s.h.s.2.length:=(Aq.1 f).1;have a:uH s.h.s.1 (16*x.fr+x.c.2.1 % 16)=true:=by
  have:=M.hi.sz;rw[e];exact iK (by omega) (by omega)
 unfold eT;dsimp only;split
 ·exact R.add ⟨(show 1<=(4:Int)/\(4:Int)<=4 by decide),λc=>absurd c (show ¬ (4:Int)=1 by decide),λc=>absurd c (show ¬ (4:Int)=2 by decide),λc=>absurd c (show ¬ (4:Int)=3 by decide),λ_=>⟨a,g.2.1⟩,⟨gh,M.hi⟩⟩ rfl
 ·exact R.add ⟨(show 1<=(3:Int)/\(3:Int)<=4 by decide),λc=>absurd c (show ¬ (3:Int)=1 by decide),λc=>absurd c (show ¬ (3:Int)=2 by decide),λ_=>⟨a,rfl,rfl⟩,λc=>absurd c (show ¬ (3:Int)=4 by decide),⟨gh,M.hi⟩⟩ rfl
theorem Wt {h0:HS} (X:x_ n s) (R:Rp h0 s.ms s.h) (k:Int):Rp h0 (aL s k).1.ms (aL s k).1.h:=by
 obtain⟨gh,ta,M⟩:=X;unfold aL;split
 ·exact R
 split
 ·exact R
 ·rename_i x hx;unfold Go.Proofs.YtlcenllcmeebhaaGreat.dZ;have c:=M.ph x (az hx);split
  ·rename_i b;rw[(CB _ _ _).1,(CB _ _ _).2];unfold bE;rw[ao (by omega),ao (by omega),ao (by omega),av b];exact S_ M R hx b
  ·rename_i b;split
   ·rename_i a;unfold o8 at a;split at a
    ·cases a;exact R
    ·cases a
   ·rw[(CB _ _ _).1,(CB _ _ _).2];unfold bE;split
    ·exact JT M R
    split
    ·unfold cQ;split
     ·dsimp only;split<;>exact R
     split
     ·exact R
     split
     ·exact JT M R
     ·exact Ws M R hx
    split
    ·unfold jk;dsimp only;split
     ·exact R
     split<;>exact R
    ·unfold iF;split<;>exact R
theorem aap {h0:HS} (R:Rp h0 s.ms s.h) (k vm:Int) (c:CT):Rp h0 (cB s k vm c).ms (cB s k vm c).h:=by
 unfold cB;split
 ·exact R
 split
 ·exact R
 ·split<;>exact R
end
section
variable {gh cI:Gh} {ta:Int->Bool} {n:Nat} {s s':MS} {i:Nat}
structure Ch (s s':MS) (k:Nat) (x x':bG):Prop where
 cs:s'.cs=s.cs.set k x'
 ls: ∀l∈x'.ls,l∈x.ls\/(x.ph=2/\s.bx[k]? =some []/\l.1=x.vm/\l.2.1=x.c.2.1 / 16/\fW s.h x.vm.toNat (x.c.2.1 / 16)=(l.2.2.1,l.2.2.2.1,0,()))
 vc:x'.ph=0\/(x.ph≠0/\x'.vm=x.vm/\x'.c=x.c)
 p3:x'.ph=3->s.bx[k]? =some []/\((x.ph=1/\ ∃l∈x.ls,l.1=x.vm/\l.2.1=x.c.2.1 / 16/\l.2.2.1=x'.fr)\/(x.ph=2/\ ∃r,fW s.h x.vm.toNat (x.c.2.1 / 16)=(x'.fr,r,0,())))
 p4:x'.ph=4->(x.ph=4/\x'.rs=x.rs)\/(x'.rs.2=0/\x.c.1≠6/\x.c.1≠7)
 md:s'.h=s.h\/s'.h=(da s).1.h\/(x.ph=1/\s'.h=ij s.h x.vm x.c.1 x.c.2.1 x.c.2.2.1 x.c.2.2.2.1)\/(x.ph=3/\x.c.1=7/\s'.h=bq s.h (dC s.h.s.1 (16*x.fr+x.c.2.1 % 16) x.c.2.2.1,s.h.s.2))
 p2:x'.ph=2->x.ph=1\/x.ph=2
 bo: ∀j,j≠k-> ∀q,s.bx[j]? =some q-> ∃r,s'.bx[j]? =some (q++r)/\(x.ph=1->x.c.1=6->iA s.h x=true->r=[])/\(x.ph≠1->r=[])
theorem nX {s s':MS} {k:Nat} {x:bG} (hb:s'.bx=s.bx): ∀j,j≠k-> ∀q,s.bx[j]? =some q-> ∃r,s'.bx[j]? =some (q++r)/\(x.ph=1->x.c.1=6->iA s.h x=true->r=[])/\(x.ph≠1->r=[]):=by simp_all
theorem Ch.idle {x:bG} {ls:List LT} (fe:s'.cs=s.cs.set i (bV ls)) (a:ls=x.ls) (md:s'.h=s.h\/s'.h=(da s).1.h\/(x.ph=1/\s'.h=ij s.h x.vm x.c.1 x.c.2.1 x.c.2.2.1 x.c.2.2.2.1)\/(x.ph=3/\x.c.1=7/\s'.h=bq s.h (dC s.h.s.1 (16*x.fr+x.c.2.1 % 16) x.c.2.2.1,s.h.s.2))) (hb:s'.bx=s.bx:=by first|rfl|exact tT _):Ch s s' i x (bV ls):=
 ⟨fe,λl h=> .inl (by rw[<-a];exact h),.inl rfl,λc=>absurd c (show ¬ 0=3 by grind),λc=>absurd c (show ¬ 0=4 by grind),md,λc=>absurd c (show ¬ 0=2 by grind),nX hb⟩
theorem Wu {bx:List (List AK)} {op:List Int} {t p:Int} {j:Nat} (a:j≠i) {q:List AK} (b:bx[j]? =some q): ∃r,(cN bx op i t p).2.1[j]? =some (q++r):=by
 unfold cN;split
 ·simp_all
 split
 ·simp_all
 simp_all
theorem Ta {x:bG} (hx:s.cs[i]? =some x) (h1:x.ph=1): ∃x',Ch s (fw (fx s i x) i x).1 i x x':=by
 by_cases b:(x.c.1=2\/x.c.1=4\/x.c.1=5\/x.c.1=10)/\qb s.h x.vm x.c.1 x.c.2.1 x.c.2.2.1 x.c.2.2.2.1=0
 ·obtain⟨b,f⟩:=b;generalize d:fx s i x=r;unfold fx at d;dsimp only at d;rw[av b,ao (λc=>c f)] at d;subst d;exact⟨_,rfl,λl g=> .inl (tQ g).1,by grind,by simp,by grind,.inr (.inr (.inl ⟨h1,rfl⟩)),by simp,λj k q m=>(Wu k m).imp λr h=>⟨h,λ_ c6 _=>(by omega),λc=>absurd h1 c⟩⟩
 ·have e: ∃(s1:MS) (a:bG) (r:Int×Int),fx s i x=(s1,r,true)/\s1.h=ij s.h x.vm x.c.1 x.c.2.1 x.c.2.2.1 x.c.2.2.2.1/\s1.cs=s.cs.set i a/\a.ls=x.ls/\s1.bx=s.bx:=by
   unfold fx;dsimp only;split
   ·rename_i n;rw[av λc=>b ⟨n,c⟩];exact⟨_,{x with rs:= _,fs:= _}, _,rfl,rfl,rfl,rfl,rfl⟩
   ·exact⟨_,{x with rs:= _,fs:= _}, _,rfl,rfl,rfl,rfl,rfl⟩
  obtain⟨s1,a,r,o,p,w,t,u⟩:=e;rw[o];have v:s1.cs[i]? =some a:=by grind
  rw[qE v];refine⟨bV a.ls,Ch.idle ?_ t (.inr (.inr (.inl ⟨h1,p⟩))) u⟩
  simp_all
theorem Nr {x:bG} (hx:s.cs[i]? =some x) (h1:x.ph=1) (hb:s.bx[i]? =some []): ∃x',Ch s (fw (cQ s i x) i x).1 i x x':=by
 unfold cQ;cases f:iA s.h x with
 |true=>
  rw[av rfl];dsimp only;split
  ·rename_i a;have: ∃l∈x.ls,l.1=x.vm/\l.2.1=x.c.2.1 / 16/\l.2.2.1=(ka x.ls x.vm (x.c.2.1 / 16) (aT x.c.1)).1:=by
    unfold ka at a ⊢;cases b:x.ls.find? (Aw x.vm (x.c.2.1 / 16)) with
    |none=>grind
    |some l=>
     rw[b] at a;dsimp only at a ⊢;split at a
     grind
     ·rename_i c;rw[ao c];have d:=List.find?_some b;unfold Aw at d
      grind
   exact⟨_,rfl,λl h=> .inl h,.inr ⟨by omega,rfl,rfl⟩,λ_=>⟨hb,.inl ⟨h1,this⟩⟩,λc=>absurd c (show ¬ (3:Int)=4 by decide),.inl rfl,λc=>absurd c (show ¬ (3:Int)=2 by decide),nX rfl⟩
  ·exact⟨_,rfl,λl h=> .inl h,.inr ⟨by omega,rfl,rfl⟩,λc=>absurd c (show ¬ (2:Int)=3 by decide),by simp,.inl rfl,λ_=> .inl h1,nX rfl⟩
 |false=>
  rw[ao (by decide)];cases g:oZ s i x with
  |true=>
   rw[av rfl,fB hx];exact⟨_,Ch.idle rfl rfl (.inl rfl)⟩
  |false=>
   rw[ao (by decide)];split
   ·have e:(da s).1.cs[i]? =some x:=by rw[lN];exact hx
    rw[fB e];exact⟨_,Ch.idle (by rw[lN]) rfl (.inr (.inl rfl))⟩
   ·exact Ta hx h1
theorem Tb (M:MI gh ta n s) {x:bG} (hx:s.cs[i]? =some x) (b:x.ph=2) (hb:s.bx[i]? =some []): ∃x',Ch s (fw (jk s i x) i x).1 i x x':=by
 have o:=M.ar x (az hx);obtain⟨p,q,B⟩:=M.ac x (az hx) b;obtain⟨l,w1,r,u,a⟩:=M.wl hx b;have g:=tC ⟨o.1.1,q⟩;have v:x.wk=(x.wk.1,(l:Int),(0,0,0,0,())):=BW rfl (BW w1 u);obtain⟨w,hg,C,z,D,E⟩:=ql M p;unfold jk;dsimp only;split
 ·exact⟨_,rfl,λl h=> .inl h,.inr ⟨by omega,rfl,rfl⟩,by grind,by grind,.inl rfl,λ_=> .inr b,nX rfl⟩
 split
 ·rw[qE (by exact(Cj (Aq.1 hx).1))];refine⟨bV x.ls,Ch.idle ?_ rfl (.inl rfl)⟩;show(s.cs.set i _).set i _= _;rw[Ct]
 rename_i j e;have j:=FB j;have e:=FB e;have k:bz s.h.s w.root false (x.c.2.1 / 16)=((bD s.h.s.1 (x.c.2.1 / 16) (aT x.c.1) x.wk).2.2.1,(bD s.h.s.1 (x.c.2.1 / 16) (aT x.c.1) x.wk).2.2.2.1,0,()):=by
  rcases a with a|a
  ·rcases M.hi.inv.lq M.hi.nl (t:=aT x.c.1) z g a with ⟨m, _,A,d,F,k4⟩|⟨A,d⟩
   grind
   ·rw[<-v] at d;exact d e
  ·obtain⟨_,d⟩:=M.hi.inv.nr (t:=aT x.c.1) g r a.1
   grind
 rw[<-bN hg] at k;refine⟨_,rfl,λy f=>?_,.inr ⟨by omega,rfl,rfl⟩,λ_=>⟨hb,.inr ⟨b, _,k⟩⟩,by simp,.inl rfl,by simp,nX rfl⟩;rcases EK f with f|rfl
 ·exact .inl f
 grind
theorem chg (M:MI gh ta n s) {x:bG} (hx:s.cs[i]? =some x): ∃x',Ch s (Go.Proofs.YtlcenllcmeebhaaGreat.dZ s i x).1 i x x':=by
 have p:=M.ph x (az hx);unfold Go.Proofs.YtlcenllcmeebhaaGreat.dZ;split
 ·rename_i b;unfold bE;rw[ao (by omega),ao (by omega),ao (by omega),av b];have: ∃(s1:MS) (r:Int×Int),eT s i x=(s1,r,true)/\s1.cs=s.cs/\s1.bx=s.bx/\(s1.h=s.h\/(x.ph=3/\x.c.1=7/\s1.h=bq s.h (dC s.h.s.1 (16*x.fr+x.c.2.1 % 16) x.c.2.2.1,s.h.s.2))):=by
   unfold eT;dsimp only;split
   grind
   simp
  obtain⟨s1,r,g,d,k,m⟩:=this;rw[g,fB (x:=x) (by rw[d];exact hx)];exact⟨_,Ch.idle (by rw[d]) rfl (m.imp id λc=> .inr (.inr c)) k⟩
 ·rename_i b;have t:i<s.bx.length:=by rw[M.lb, <-M.lc];exact(Aq.1 hx).1
  unfold o8;cases e:s.bx[i]? with
  |none=>grind
  |some q=>
   cases q with
   |cons a q=>
    refine⟨_,rfl,λl o=> .inl (tQ o).1,?_,λc=>absurd c b,λc=> .inl ⟨c,rfl⟩,.inl rfl,λc=> .inr c,λj u v w=>⟨[],by rw[FH];show(s.bx.set i q)[j]? = _;grind,λ_ _ _=>rfl,λ_=>rfl⟩⟩
    grind
   |nil=>
    dsimp only;unfold bE;split
    ·rename_i h0;exact⟨x,by show(da s).1.cs= _;rw[lN,pO hx],λl h=> .inl h,.inl h0,λc=>absurd c b,λc=> .inl ⟨c,rfl⟩,.inr (.inl rfl),λc=> .inr c,nX (tT s)⟩
    split
    ·rename_i h1;exact Nr hx h1 e
    split
    ·rename_i f;exact Tb M hx f e
    ·rename_i h0 h1 f;unfold iF;split
     ·rw[fB (by exact hx)];exact⟨_,Ch.idle rfl rfl (.inl rfl)⟩
     ·exact⟨x,(pO hx).symm,λl h=> .inl h,.inr ⟨h0,rfl,rfl⟩,λc=>absurd c b,λc=> .inl ⟨c,rfl⟩,.inl rfl,λc=> .inr c,nX rfl⟩
theorem EQ (X:x_ n s) (k:Int):(aL s k).1=s\/ ∃(c:Nat) (x x':bG),k=(c:Int)/\s.cs[c]? =some x/\Ch s (aL s k).1 c x x':=by
 obtain⟨⟩:=X;by_cases k<0
 ·unfold aL;grind
 ·grind[aL,chg]
end
section
variable {gh cI:Gh} {ta:Int->Bool} {n:Nat} {s s':MS} {i:Nat} {N:Int->Int->Prop}
structure Nm (N:Int->Int->Prop) (s:MS):Prop where
 ln: ∀x∈s.cs, ∀l∈x.ls,N l.1 l.2.1
 ca: ∀x∈s.cs,x.ph≠0->x.c.1=6\/x.c.1=7->N x.vm (x.c.2.1 / 16)
theorem Nm.step (H:Nm N s) (X:x_ n s) (k:Int):Nm N (aL s k).1:=by
 rcases EQ X k with e|⟨c,x,x', _,hx,C⟩
 ·rw[e];exact H
 obtain⟨gh,ta,M⟩:=X;have b:=az hx;refine⟨λy a l i=>?_,λy a h0 f=>?_⟩
 ·rw[C.cs] at a;rcases gE a with rfl|a
  ·rcases C.ls l i with h|⟨j, _,g,d, _⟩
   ·exact H.ln x b l h
   ·rw[g,d];exact H.ca x b (by omega) (M.ac x b j).2.2
  ·exact H.ln y a l i
 ·rw[C.cs] at a;rcases gE a with rfl|a
  ·rcases C.vc with h|⟨m,g,d⟩
   ·exact absurd h h0
   ·rw[g,d];rw[d] at f;exact H.ca x b m f
  ·exact H.ca y a h0 f
theorem Nm.ask (H:Nm N s) (k vm:Int) {c:CT} (hc:c.1=6\/c.1=7->N vm (c.2.1 / 16)):Nm N (cB s k vm c):=by
 unfold cB;split
 ·exact H
 cases hx:s.cs[k.toNat]? with
 |none=>exact H
 |some x=>
  dsimp only;split
  ·refine⟨λy a l b=>?_,λy a h0 d=>?_⟩
   ·rcases gE (show y∈s.cs.set _ _ from a) with rfl|a
    ·exact H.ln x (az hx) l b
    ·exact H.ln y a l b
   ·rcases gE (show y∈s.cs.set _ _ from a) with rfl|a
    ·exact hc d
    ·exact H.ca y a h0 d
  ·exact H
theorem Nm.new (f:Nat) (l:Int):Nm N (m0 f n l):=⟨λx hx l a=>(by rw[DV hx] at a;cases a),λx hx h0=>(by rw[DV hx] at h0;exact absurd rfl h0)⟩
structure Oc (s:MS):Prop where
 r: ∀x∈s.cs,x.ph=4->x.rs.2=0
theorem Oc.step (H:Oc s) (X:x_ n s) (k:Int):Oc (aL s k).1:=by
 rcases EQ X k with e|⟨c,x,x', _,hx,C⟩
 ·rw[e];exact H
 refine⟨λy a b=>?_⟩;rw[C.cs] at a;rcases gE a with rfl|a
 ·rcases C.p4 b with ⟨d,f⟩|e
  ·rw[f];exact H.r x (az hx) d
  ·exact e.1
 ·exact H.r y a b
theorem Oc.ask (H:Oc s) (k vm:Int) (c:CT):Oc (cB s k vm c):=by
 unfold cB;split
 ·exact H
 cases hx:s.cs[k.toNat]? with
 |none=>exact H
 |some x=>
  dsimp only;split
  ·refine⟨λy a b=>?_⟩;rcases gE (show y∈s.cs.set _ _ from a) with rfl|a
   ·exact absurd b (show ¬ (1:Int)=4 by decide)
   ·exact H.r y a b
  ·exact H
theorem Oc.new (f:Nat) (l:Int):Oc (m0 f n l):=⟨λx hx a=>by rw[DV hx] at a;exact absurd a (show ¬ (0:Int)=4 by decide)⟩
end
theorem c1: ¬ (1:Int)=12:=by decide
theorem c2: ¬ (2:Int)=12:=by decide
theorem c3: ¬ (3:Int)=12:=by decide
theorem c4: ¬ (4:Int)=12:=by decide
theorem c5: ¬ (5:Int)=12:=by decide
theorem c6: ¬ (6:Int)=12:=by decide
theorem c7: ¬ (7:Int)=12:=by decide
theorem c9: ¬ (9:Int)=12:=by decide
theorem Yy: ¬ (10:Int)=12:=by decide
theorem c11: ¬ (11:Int)=12:=by decide
section
variable {gh:Gh} {h:HS}
theorem tU (H:HI gh h) {v:Int} (b:aQ h.g v=true) {p t:Int} (c:0<=p/\p<65536): ∀k:Nat,(∃m:Nat,m+k=3/\(fO h.s.1 (aR h.g v) p t k).2.1=(m:Int)/\(fO h.s.1 (aR h.g v) p t k).2.2=(0,0,0,0,())/\gh (fO h.s.1 (aR h.g v) p t k).1=some (v,m,px (m+1) p))\/(1<=k/\(fO h.s.1 (aR h.g v) p t k).2.1= -1)
 |0=>by
  obtain⟨x,hx,f,hv, _⟩:=bM b;have a:=H.root hx;rw[hv] at a;refine .inl ⟨3,rfl,rfl,rfl,?_⟩;show gh (aR h.g v)=some (v,3,px 4 p);rw[W7 c,f];exact a
 |k+1=>by
  obtain⟨x,hx,f,hv, _⟩:=bM b;have a:=H.root hx;rw[hv] at a;rcases tU H b (t:=t) c k with ⟨m,q,h1,i,j⟩|⟨_,h1⟩
  ·have e:fO h.s.1 (aR h.g v) p t k=((fO h.s.1 (aR h.g v) p t k).1,(m:Int),(0,0,0,0,())):=BW rfl (BW h1 i);have es:fO h.s.1 (aR h.g v) p t (k+1)=bD h.s.1 p t ((fO h.s.1 (aR h.g v) p t k).1,(m:Int),(0,0,0,0,())):=by rw[<-e];rfl
   rw[es];rcases H.inv.lq H.nl (t:=t) a c j with ⟨l,r,d,u,n,o⟩|⟨d, _⟩
   ·exact .inl ⟨l,by omega,d,n,o⟩
   ·exact .inr ⟨by omega,d⟩
  ·right;refine⟨by omega,?_⟩;show(bD h.s.1 p t (fO h.s.1 (aR h.g v) p t k)).2.1= -1;rw[qx h1];exact h1
theorem Ns (H:HI gh h) {v:Int} (j:aQ h.g v=true) {p:Int} (a:0<=p/\p<65536):rR (aR h.g v) p 0=false/\(((mM h.s.1 (aR h.g v) p 0).2.2.2.1=0/\ ∃(m:Nat) (d:DT),(mM h.s.1 (aR h.g v) p 0).1=(m:Int)/\h.s.2[m]? =some d/\d.1=4)\/(mM h.s.1 (aR h.g v) p 0).2.2.2.1=4):=by
 obtain⟨x,hx,k,hv, _⟩:=bM j;have b:=H.root hx;have c:=H.inv.GK H.nl b a (t:=0) (by decide);rw[k];obtain⟨n,o,y⟩:=H.inv.uR b;refine⟨?_,?_⟩
 ·unfold rR;have q:ee x.root p 3=16*x.root+px 3 p % 16:=kM ⟨n,o⟩ a (l:=3) (by omega);have z:=eh p 3;rw[q,decide_eq_false (by omega),decide_eq_false (by omega),decide_eq_false (by omega)];rfl
 ·by_cases e:(bz h.s x.root false p).2.2.1=0
  ·rw[av e] at c;have r:mg h v.toNat p=some (bz h.s x.root false p).1:=by rw[cR hx,av e]
   obtain⟨m,d,h1,u,w, _⟩:=H.Ua r;obtain⟨f0,A, _,f⟩:=H.inv.lJ b a;have i:=(H.inv.Wh b a f).2.2;rw[<-H.inv.fm b a f] at i;refine .inl ⟨i.2 e,m,d,?_,u,w⟩;rw[c];exact h1
  ·rw[ao e] at c;exact .inr c
end
section
variable {gh cI:Gh} {ta:Int->Bool} {n:Nat} {s s':MS} {i:Nat}
theorem m_ {x:bG} (hx:s.cs[i]? =some x) (h0:x.ph=0) (vm:Int) (c:CT):cB s (i:Int) vm c=bh s i {x with ph:=1,vm:=vm,c:=c}/\qS s (i:Int)=0:=by
 refine⟨?_,?_⟩
 ·unfold cB;rw[ao (by omega)];show(match s.cs[i]? with|none=> _|some x=> _)= _;rw[hx];exact av h0
 ·unfold qS;rw[ao (by omega)];show(match s.cs[i]? with|none=>(2:Int)|some x=> _)= _;rw[hx];exact av h0
theorem quick {x:bG} (hx:s.cs[i]? =some x) (h0:x.ph=0) (hb:s.bx[i]? =some []) {vm:Int} {c:CT} (l: ¬ (c.1=2\/c.1=4\/c.1=5\/c.1=10)) (m:aT c.1=0) (n:c.1≠17) (a:oZ s i {x with ph:=1,vm:=vm,c:=c}=false):
 aL (cB s (i:Int) vm c) (i:Int)=({s with h:=ij s.h vm c.1 c.2.1 c.2.2.1 c.2.2.2.1,kn:=s.kn++eA s (ij s.h vm c.1 c.2.1 c.2.2.1 c.2.2.2.1),ms:=s.ms++[(1,vm,0,c,wS s.h vm c.1 c.2.1 c.2.2.1 c.2.2.2.1,qb s.h vm c.1 c.2.1 c.2.2.1 c.2.2.2.1)],cs:=s.cs.set i (bV x.ls)},(wS s.h vm c.1 c.2.1 c.2.2.1 c.2.2.2.1,qb s.h vm c.1 c.2.1 c.2.2.1 c.2.2.2.1),true):=by
 have f:i<s.cs.length:=(Aq.1 hx).1;rw[(m_ hx h0 vm c).1];generalize b:({x with ph:=1,vm:=vm,c:=c}:bG)=y at a ⊢;have o:y.ph=1:=by rw[<-b]
 have hc:y.c=c:=by rw[<-b]
 have hv:y.vm=vm:=by rw[<-b]
 have p:y.ls=x.ls:=by rw[<-b]
 have hg:(bh s i y).cs[i]? =some y:=Cj f;rw[gH hg];unfold Go.Proofs.YtlcenllcmeebhaaGreat.dZ;rw[ao (by omega)];unfold o8;rw[show(bh s i y).bx[i]? =some [] from hb];dsimp only;unfold bE;rw[ao (by omega),av o];unfold cQ;have q:iA (bh s i y).h y=false:=by unfold iA;rw[hc,m];rfl
 have r:oZ (bh s i y) i y=false:=by
  unfold oZ at a ⊢;rw[GF] at a ⊢;intro j g;have t:j∈AJ s.cs.length:=by
   show j∈AJ s.cs.length;rw[show(bh s i y).cs.length=s.cs.length from DL] at g;exact g
  have:=a j t;by_cases e:j=i
  ·subst e;rw[hg];simp
  ·rw[show(bh s i y).cs[j]? =s.cs[j]? from F8 (λk=>e k.symm)];exact this
 rw[q,r,ao (by decide),ao (by decide),ao (λk=>n (by rw[hc] at k;rw[k.2]))];unfold fx;dsimp only;rw[hc,ao l,hv];unfold fw;rw[av rfl];dsimp only;have u: ∀(d:bG),((s.cs.set i y).set i d).getD i y=d:=λd=>by
  rw[Ct,B4,Cj f];rfl
 unfold bh;dsimp only;rw[u];dsimp only;rw[Ct,Ct,p];rfl
theorem ER (a: ∀y∈s.cs,y.ph=0) (x:bG):oZ s i x=false:=by
 unfold oZ;rw[GF];intro j _;cases b:s.cs[j]? with
 |none=>simp
 |some y=>
  have:=a y (az b);dsimp only;rw[this];simp
theorem Tc {h:HS} (H:HI gh h) {v:Nat} (a:mW h.g=some v) (hc:0<cg h.s.2 0):qb h 0 1 0 0 0=0/\wS h 0 1 0 0 0=(v:Int)/\(ij h 0 1 0 0 0).g=a_ h.g v (some ⟨eK h.s (v:Int),[]⟩)/\cg (ij h 0 1 0 0 0).s.2 0+1=cg h.s.2 0:=by
 have b:fT h 0 1 0 0 0=0:=rfl;obtain⟨h1,f,m⟩:=yN b;have hv:=(n6.1 a).1;have c:rH h.s (v:Int)=0:=H.inv.aaa (by omega) hc;have d:(run h 0 1 0 0 0).1={h with s:=jc h.s (v:Int) λ_=>0,g:=a_ h.g v (some ⟨eK h.s (v:Int),[]⟩)}:=by
  show fS h= _;unfold fS;rw[a];exact av c
 have e:(run h 0 1 0 0 0).2.2=0:=by
  show pB h=0;unfold pB;rw[a];exact c
 have i:(run h 0 1 0 0 0).2.1=(v:Int):=by
  show AZ h=(v:Int);unfold AZ;rw[a]
 refine⟨f.trans e,?_,?_,?_⟩
 ·unfold wS;rw[av b,av e];exact i
 ·rw[h1,d]
 ·rw[h1,d];show cg (dE h.s.2 3 (v:Int)) 0+1= _;obtain⟨j, _,k, _, _,l⟩:=ng (ds:=h.s.2) (o:=(v:Int)) hc H.inv.fz (by omega);rw[l];have:=qi (d':=((3:Int),(v:Int),(0:Int),(0:Int),())) k 0;rw[av (show zD.1=0 from rfl),ao (show ¬ (3:Int)=0 by decide)] at this;omega
end
section
variable {gh cI:Gh} {n:Nat} {s s':MS} {f:Nat} {l:Int}
def OE (h:HS):Prop:= ∀i q,mg h i q=none
theorem OE.DH {h:HS} (H:HI gh h) (b:OE h):OE (ij h 0 1 0 0 0):=λi q=>by
 obtain⟨g',d,E, _⟩:=H.GN;have e:ij h 0 1 0 0 0=fS h:=(yN (show fT h 0 1 0 0 0=0 from rfl)).1;rw[e];cases a:mg (fS h) i q with
 |none=>rfl
 |some x=>
  obtain⟨_, _,f,g⟩:=d.hc.jy a;have:=b i q;rw[ku,E.pg.to (λc=>c ⟨f,g⟩), <-ku,this] at a;cases a
abbrev wT:CT:=(1,0,0,0,())
structure Bg (f n:Nat) (l:Int) (k:Nat) (s:MS):Prop where
 x:x_ n s
 r:Oc s
 np:OE s.h
 cs:s.cs=DA n (bV [])
 bx:s.bx=DA n []
 kn:s.kn=[]
 op:s.op=[]
 ws:s.ep.ws=[]
 sz:s.sz=l
 len:s.h.s.2.length=f
 cnt:cg s.h.s.2 0+k=f
 live: ∀v:Int,aQ s.h.g v=true<->1<=v/\v<=(k:Int)
 rp:Rp (h0 f) s.ms s.h
 nm: ∀N:Int->Int->Prop,Nm N s
 gr: ∀x∈s.h.gr,x.1≠1
theorem Bg.new (c:20<=f/\f<=4096) (a:1<=n/\n<=8) (b:1<=l/\l<=64):Bg f n l 0 (m0 f n l) where
 x:=x_.new (by omega) a b
 r:=Oc.new f l
 np:=λi q=>rfl
 cs:=rfl
 bx:=rfl
 kn:=rfl
 op:=rfl
 ws:=rfl
 sz:=rfl
 len:=Dq
 cnt:=by
  show cg (DA f zD) 0+0=f;rw[VW,av rfl];rfl
 live:=λv=>by
  constructor
  ·intro h;obtain⟨_,x,hx⟩:=cm.1 h;cases hx
  ·intro h;omega
 rp:= .nil _
 nm:=λN=>Nm.new f l
 gr:=λx hx=>by rw[DV hx];decide
theorem JU {α:Type} (n i:Nat) (x:α):(DA n x).set i x=DA n x:=by
 refine IP λj=>?_;rw[List.getElem?_set];split
 ·rename_i e;subst e;rw[Dq,F6]
 ·rfl
theorem Bg.DH {k:Nat} (b:Bg f n l k s) (F:k<16) (G:k<f) (H:1<=n):(aL (cB s 0 0 wT) 0).2=((((k+1:Nat):Int),0),true)/\Bg f n l (k+1) (aL (cB s 0 0 wT) 0).1/\qS s 0=0:=by
 have hx:s.cs[0]? =some (bV []):=by rw[b.cs,F6,av (by omega)]
 have hb:s.bx[0]? =some []:=by rw[b.bx,F6,av (by omega)]
 have p: ∀y∈s.cs,y.ph=0:=λy e=>by rw[b.cs] at e;rw[DV e];rfl
 have q:=quick (vm:=0) (c:=wT) hx rfl hb (show ¬ ((1:Int)=2\/(1:Int)=4\/(1:Int)=5\/(1:Int)=10) by decide) rfl (show ¬ (1:Int)=17 by decide) (ER p _);have X':=(b.x.ask 0 0 (c:=wT) (show bT 0/\bT 0/\bT 0 by decide)).step 0;have t:=(b.r.ask 0 0 wT).step (b.x.ask 0 0 (c:=wT) (show bT 0/\bT 0/\bT 0 by decide)) 0;have w:=Wt (b.x.ask 0 0 (c:=wT) (show bT 0/\bT 0/\bT 0 by decide)) (aap b.rp 0 0 wT) 0;have z: ∀N:Int->Int->Prop,Nm N (aL (cB s 0 0 wT) 0).1:=λN=>((b.nm N).ask 0 0 (c:=wT) (λc=>absurd c (show ¬ ((1:Int)=6\/(1:Int)=7) by decide))).step (b.x.ask 0 0 (c:=wT) (show bT 0/\bT 0/\bT 0 by decide)) 0;have q:aL (cB s 0 0 wT) 0= _:=q;obtain⟨gh,ta,M⟩:=b.x;have A:mW s.h.g=some (k+1):=by
  refine n6.2 ⟨by omega,?_,λu I J=>?_⟩
  ·cases hg:s.h.g (k+1) with
   |none=>rfl
   |some g=>
    have:=(b.live ((k+1:Nat):Int)).1 (cm.2 ⟨by omega,g,hg⟩);omega
  ·obtain⟨_,g,hg⟩:=cm.1 ((b.live (u:Int)).2 (by omega));have hg:s.h.g u=some g:=hg;rw[hg];rfl
 obtain⟨c1,c2,c3,c4⟩:=Tc M.hi A (by have:=b.cnt;omega);have nn:NN s.h.s (ij s.h 0 1 0 0 0).s:=by
  rw[(yN (show fT s.h 0 1 0 0 0=0 from rfl)).1];exact NN.DH s.h
 have B:eA s (ij s.h 0 1 0 0 0)=[]:=by
  refine GJ.2 λg hg=>?_;obtain⟨m,d, _,C,D, _⟩:=gF.1 hg;obtain⟨d0,j,o⟩:=nn.to C D;have:=(M.kd j o).1;rw[b.kn] at this;cases this
 refine⟨?_,⟨X',t,?_,?_,?_,?_,?_,?_,?_,?_,?_,λv=>?_,w,z,?_⟩,(m_ (i:=0) hx rfl 0 wT).2⟩
 ·rw[q];show((wS s.h 0 1 0 0 0,qb s.h 0 1 0 0 0),true)= _;rw[c1,c2]
 ·rw[q];exact b.np.DH M.hi
 ·rw[q];show s.cs.set 0 (bV [])= _;rw[b.cs,JU]
 ·rw[q];exact b.bx
 ·rw[q];show s.kn++eA s (ij s.h 0 1 0 0 0)=[];rw[B,b.kn];rfl
 ·rw[q];exact b.op
 ·rw[q];exact b.ws
 ·rw[q];exact b.sz
 ·rw[q];show(ij s.h 0 1 0 0 0).s.2.length=f;rw[<-b.len];obtain⟨g',E⟩:=M.hi.step 0 1 0 0 (a:=0) (by decide);have j:=E.sz;have o:=M.hi.sz;have K:=PZ s.h 0 1 0 0 0;omega
 ·rw[q];show cg (ij s.h 0 1 0 0 0).s.2 0+(k+1)=f;have:=b.cnt;omega
 ·rw[q];show aQ (ij s.h 0 1 0 0 0).g v=true<-> _;rw[c3];constructor
  ·intro h;obtain⟨hv,x,hx⟩:=cm.1 h;unfold a_ at hx;split at hx
   ·omega
   ·have:=(b.live v).1 (cm.2 ⟨hv,x,hx⟩);omega
  ·intro h;refine cm.2 ⟨by omega,?_⟩;unfold a_;split
   ·exact⟨_,rfl⟩
   ·obtain⟨_,x,hx⟩:=cm.1 ((b.live v).2 (by omega));exact⟨x,hx⟩
 ·rw[q];show∀x∈(ij s.h 0 1 0 0 0).gr,x.1≠1;rw[(yN (show fT s.h 0 1 0 0 0=0 from rfl)).1];show∀x∈(fS s.h).gr,x.1≠1;unfold fS;split
  ·exact b.gr
  split<;>exact b.gr
def yf (f n:Nat) (l:Int):MS:=(aL (cB (aL (cB (m0 f n l) 0 0 wT) 0).1 0 0 wT) 0).1
theorem Wv (b:20<=f/\f<=4096) (a:1<=n/\n<=8) (c:1<=l/\l<=64):(aL (cB (m0 f n l) 0 0 wT) 0).2=((1,0),true)/\(aL (cB (aL (cB (m0 f n l) 0 0 wT) 0).1 0 0 wT) 0).2=((2,0),true)/\Bg f n l 2 (yf f n l):=by
 obtain⟨a1,d, _⟩:=(Bg.new b a c).DH (by decide) (by omega) a.1;obtain⟨e,g, _⟩:=d.DH (by decide) (by omega) a.1;exact⟨a1,e,g⟩
end
section
variable {gh cI:Gh} {n:Nat} {s s':MS} {i:Nat} {h:HS}
theorem JV {ws:List Int} {r p t:Int} {k:Nat} (h:(fO ws r p t k).2.1= -1): ∀j,(fO ws r p t (k+j)).2.1= -1
 |0=>h
 |j+1=>by
  have:=JV h j;show(bD ws p t (fO ws r p t (k+j))).2.1= -1;rw[qx this];exact this
theorem four (H:HI gh h) {v:Int} (c:aQ h.g v=true) {p t:Int} (a:0<=p/\p<65536) (n:0<=t/\t<=7) (e:(fW h v.toNat p).2.2.1=0):
 (∀k:Nat,k<=3->(fO h.s.1 (aR h.g v) p t k).2.1=((3 - k:Nat):Int))/\(fO h.s.1 (aR h.g v) p t 4).2.1= -1/\(fO h.s.1 (aR h.g v) p t 4).2.2=((fW h v.toNat p).1,(fW h v.toNat p).2.1,0,(if dM true (fW h v.toNat p).2.1 false (fW h v.toNat p).1 t=true then 0 else 7),()):=by
 obtain⟨x,hx,d,hv, _⟩:=bM c;have b:=H.root hx;rw[hv] at b;rw[bN hx] at e ⊢;obtain⟨f,o, _, _⟩:=H.inv.aaW H.nl b a e;have q:=H.inv.xQ (t:=t) b a 3 (j:=0) rfl o.1;rw[d];have lv: ∀k:Nat,k<=3->(fO h.s.1 x.root p t k).2.1=((3 - k:Nat):Int):=λk z=>by
  have:=tU H c (t:=t) a k;rw[d] at this;rcases this with ⟨m,r,h1, _⟩|⟨_,h1⟩
  ·rw[h1];omega
  ·have:=JV h1 (3 - k);rw[show k+(3 - k)=3 by omega,q] at this;exact absurd this (show ¬ (0:Int)= -1 by decide)
 refine⟨lv,?_,?_⟩
 ·have:=tU H c (t:=t) a 4;rw[d] at this;rcases this with ⟨m,r, _⟩|⟨_,h1⟩
  ·omega
  ·exact h1
 ·have i:=H.inv.GK H.nl b a n;rw[av e] at i;have hb:rR x.root p t=false:=by
   obtain⟨u,w,A⟩:=H.inv.uR b;unfold rR;have y:ee x.root p 3=16*x.root+px 3 p % 16:=kM ⟨u,w⟩ a (l:=3) (by omega);have B:=eh p 3;rw[y,decide_eq_false (by omega),decide_eq_false (by omega),decide_eq_false (by omega)];rfl
  rw[<-i];unfold mM;rw[hb];rfl
def fM (s:MS) (i:Nat) (y:bG) (k:Nat):MS:=bh {s with ep:=oY s.ep i} i {y with ph:=2,wk:=fO s.h.s.1 (aR s.h.g y.vm) (y.c.2.1 / 16) (aT y.c.1) k}
theorem Ww {y:bG} (a:i<s.cs.length) (hb:s.bx[i]? =some []) {k:Nat} (b:(fO s.h.s.1 (aR s.h.g y.vm) (y.c.2.1 / 16) (aT y.c.1) (k+1)).2.1≠ -1):aL (fM s i y k) (i:Int)=(fM s i y (k+1),(0,0),false):=by
 have hg:(fM s i y k).cs[i]? =some {y with ph:=2,wk:=fO s.h.s.1 (aR s.h.g y.vm) (y.c.2.1 / 16) (aT y.c.1) k}:=Cj a;rw[gH hg];unfold Go.Proofs.YtlcenllcmeebhaaGreat.dZ;rw[ao (show ¬ (2:Int)=3 by decide)];unfold o8;rw[show(fM s i y k).bx[i]? =some [] from hb];dsimp only;unfold bE;rw[ao (show ¬ (2:Int)=0 by decide),ao (show ¬ (2:Int)=1 by decide),av (show(2:Int)=2 from rfl)];unfold jk;dsimp only;rw[av (show(bD (fM s i y k).h.s.1 (y.c.2.1 / 16) (aT y.c.1) (fO s.h.s.1 (aR s.h.g y.vm) (y.c.2.1 / 16) (aT y.c.1) k)).2.1≠ -1 from b)];unfold fw;rw[ao (show ¬ false=true by decide)];refine BW ?_ rfl;show bh (fM s i y k) i _= _;unfold fM bh;dsimp only;rw[Ct];rfl
def JW (s:MS) (i:Nat) (y:bG) (f r:Int):MS:=bh {s with ep:=oY s.ep i} i {y with ph:=3,wk:=fO s.h.s.1 (aR s.h.g y.vm) (y.c.2.1 / 16) (aT y.c.1) 4,ls:=pC y.ls s.sz (y.vm,y.c.2.1 / 16,f,r,()),fr:=f}
theorem Td {y:bG} (a:i<s.cs.length) (hb:s.bx[i]? =some []) {f r:Int} (h1:(fO s.h.s.1 (aR s.h.g y.vm) (y.c.2.1 / 16) (aT y.c.1) 4).2.1= -1) (b:(fO s.h.s.1 (aR s.h.g y.vm) (y.c.2.1 / 16) (aT y.c.1) 4).2.2=(f,r,0,0,())):aL (fM s i y 3) (i:Int)=(JW s i y f r,(0,0),false):=by
 have hg:(fM s i y 3).cs[i]? =some {y with ph:=2,wk:=fO s.h.s.1 (aR s.h.g y.vm) (y.c.2.1 / 16) (aT y.c.1) 3}:=Cj a;rw[gH hg];unfold Go.Proofs.YtlcenllcmeebhaaGreat.dZ;rw[ao (show ¬ (2:Int)=3 by decide)];unfold o8;rw[show(fM s i y 3).bx[i]? =some [] from hb];dsimp only;unfold bE;rw[ao (show ¬ (2:Int)=0 by decide),ao (show ¬ (2:Int)=1 by decide),av (show(2:Int)=2 from rfl)];unfold jk;dsimp only;have es:bD (fM s i y 3).h.s.1 (y.c.2.1 / 16) (aT y.c.1) (fO s.h.s.1 (aR s.h.g y.vm) (y.c.2.1 / 16) (aT y.c.1) 3)=fO s.h.s.1 (aR s.h.g y.vm) (y.c.2.1 / 16) (aT y.c.1) 4:=rfl;rw[es,ao (λc=>c h1),b,ao (λc=>c rfl)];unfold fw;rw[ao (show ¬ false=true by decide)];refine BW ?_ rfl;show bh (fM s i y 3) i _= _;unfold fM JW bh;dsimp only;rw[Ct]
end
section
variable {gh cI:Gh} {n:Nat} {s s':MS} {i:Nat} {h:HS}
theorem Te {y:bG} (a:i<s.cs.length) (hb:s.bx[i]? =some []) (h1:y.ph=1) (b:iA s.h y=true):
 aL (bh s i y) (i:Int)=(if(ka y.ls y.vm (y.c.2.1 / 16) (aT y.c.1)).2=0 then bh {s with ep:=oY s.ep i} i {y with ph:=3,fr:=(ka y.ls y.vm (y.c.2.1 / 16) (aT y.c.1)).1} else fM s i y 0,(0,0),false):=by
 have hg:(bh s i y).cs[i]? =some y:=Cj a;rw[gH hg];unfold Go.Proofs.YtlcenllcmeebhaaGreat.dZ;rw[ao (by omega)];unfold o8;rw[show(bh s i y).bx[i]? =some [] from hb];dsimp only;unfold bE;rw[ao (by omega),av h1];unfold cQ;rw[show iA (bh s i y).h y=true from b,av rfl];dsimp only;split
 ·unfold fw;rw[ao (show ¬ false=true by decide)];refine BW ?_ rfl;show bh {bh s i y with ep:=oY s.ep i} i _= _;unfold bh;dsimp only;rw[Ct]
 ·unfold fw;rw[ao (show ¬ false=true by decide)];refine BW ?_ rfl;show bh {bh s i y with ep:=oY s.ep i} i _= _;unfold bh fM bh;dsimp only;rw[Ct]
theorem Tf {y:bG} (b:i<s.cs.length) (a:y.ph=3) (d:y.c.1≠7):
 aL (bh s i y) (i:Int)=({s with cs:=s.cs.set i (bV y.ls),ep:=rX s.ep i,ms:=s.ms++[(3,0,16*y.fr+y.c.2.1 % 16,(0,0,0,0,()),cL s.h.s.1 (16*y.fr+y.c.2.1 % 16),0)]},(cL s.h.s.1 (16*y.fr+y.c.2.1 % 16),0),true):=by
 have hg:(bh s i y).cs[i]? =some y:=Cj b;rw[gH hg];unfold Go.Proofs.YtlcenllcmeebhaaGreat.dZ;rw[av a];unfold bE;rw[ao (by omega),ao (by omega),ao (by omega),av a];unfold eT;dsimp only;rw[ao d];unfold fw;rw[av rfl];dsimp only;rw[show(bh s i y).cs.getD i y=y by
  rw[B4,hg];rfl]
 refine BW ?_ rfl;unfold bh;dsimp only;rw[Ct]
theorem Tg {y:bG} (b:i<s.cs.length) (a:y.ph=3) (d:y.c.1=7):
 aL (bh s i y) (i:Int)=({s with h:=bq s.h (dC s.h.s.1 (16*y.fr+y.c.2.1 % 16) y.c.2.2.1,s.h.s.2),cs:=s.cs.set i (bV y.ls),ep:=rX s.ep i,ms:=s.ms++[(4,0,16*y.fr+y.c.2.1 % 16,(0,0,0,0,()),y.c.2.2.1,0)]},(0,0),true):=by
 have hg:(bh s i y).cs[i]? =some y:=Cj b;rw[gH hg];unfold Go.Proofs.YtlcenllcmeebhaaGreat.dZ;rw[av a];unfold bE;rw[ao (by omega),ao (by omega),ao (by omega),av a];unfold eT;dsimp only;rw[av d];unfold fw;rw[av rfl];dsimp only;rw[show(bh s i y).cs.getD i y=y by
  rw[B4,hg];rfl]
 refine BW ?_ rfl;unfold bh;dsimp only;rw[Ct]
end
section
variable {gh cI:Gh} {n:Nat} {s s':MS} {f:Nat} {l:Int}
abbrev Oe (p b:Int):CT:=(3,p,b,0,())
structure Bd (f n:Nat) (l p b F:Int) (s:MS):Prop where
 x:x_ n s
 r:Oc s
 pg:fW s.h 1 p=(F,b,0,())
 only: ∀i q g,mg s.h i q=some g->i=1/\q=p
 cs:s.cs=DA n (bV [])
 bx:s.bx=DA n []
 kn:s.kn=[]
 op:s.op=[]
 ws:s.ep.ws=[]
 sz:s.sz=l
 live: ∀v:Int,aQ s.h.g v=true<->1<=v/\v<=2
 fr: ∃(m:Nat) (d:DT),F=(m:Int)/\s.h.s.2[m]? =some d/\d.1=4/\d.2.1=1/\d.2.2.1=0
 gr: ∀x∈s.h.gr,x.1≠1
theorem Bg.don (e:Bg f n l 2 s) (N:20<=f) (P:1<=n) {p b:Int} (u:0<=p/\p<65536) (hb:1<=b/\b<=7): ∃F,(aL (cB s 0 1 (Oe p b)) 0).2=((F,0),true)/\Bd f n l p b F (aL (cB s 0 1 (Oe p b)) 0).1:=by
 have hx:s.cs[0]? =some (bV []):=by rw[e.cs,F6,av (by omega)]
 have B:s.bx[0]? =some []:=by rw[e.bx,F6,av (by omega)]
 have C: ∀y∈s.cs,y.ph=0:=λy w=>by rw[e.cs] at w;rw[DV w];rfl
 have q:=quick (vm:=1) (c:=Oe p b) hx rfl B (show ¬ ((3:Int)=2\/(3:Int)=4\/(3:Int)=5\/(3:Int)=10) by decide) rfl (show ¬ (3:Int)=17 by decide) (ER C _);have q:aL (cB s 0 1 (Oe p b)) 0= _:=q;have D:bT (Oe p b).2.1/\bT (Oe p b).2.2.1/\bT (Oe p b).2.2.2.1:=⟨⟨u.1,by show p< _;omega⟩,⟨by show 0<=b;omega,by show b< _;omega⟩,(show bT 0 by decide)⟩;have z:=e.x.ask 0 1 D;have X':=z.step 0;have E:=(e.r.ask 0 1 (Oe p b)).step z 0;obtain⟨gh,ta,M⟩:=e.x;have k:aQ s.h.g 1=true:=(e.live 1).2 (by decide);obtain⟨d1,d2,d3⟩:=aal (h:=s.h) (v:=1) (a:=p) (b:=b) k;have G: ¬ (fW s.h 1 p).2.2.1=0:=λc=>by
  have:=e.np 1 p;rw[ku,av c] at this;cases this
 have o:kX s.h 1 p b=0:=by
  rw[M.hi.Wn k u hb (by have:=e.cnt;omega)];exact ao G
 obtain⟨g',m,Q,O,H, _⟩:=M.hi.Cy k o;rw[o] at d2;rw[o,av rfl,H] at d3;have j:ij s.h 1 3 p b 0=il s.h 1 p b:=d1;have I:eA s (ij s.h 1 3 p b 0)=[]:=by
  refine GJ.2 λg hg=>?_;obtain⟨m,d, _,A,J, _⟩:=gF.1 hg;rw[j] at A;obtain⟨d0,K,L⟩:=(NN.don s.h 1 p b).to A J;have:=(M.kd K L).1;rw[e.kn] at this;cases this
 refine⟨(m:Int),?_,X',E,?_,λi t g hg=>?_,?_,?_,?_,?_,?_,?_,λv=>?_,?_,?_⟩
 ·rw[q];show((wS s.h 1 3 p b 0,qb s.h 1 3 p b 0),true)= _;rw[d2,d3]
 ·rw[q];show fW (ij s.h 1 3 p b 0) 1 p= _;rw[j];exact O.pg
 ·rw[q] at hg;have hg:mg (ij s.h 1 3 p b 0) i t=some g:=hg;rw[j] at hg;refine FB λc=>?_;have hc: ¬ (i=(1:Int).toNat/\t=p):=c;rw[ku,O.ef.pg.to hc, <-ku,e.np i t] at hg;cases hg
 ·rw[q];show s.cs.set 0 (bV [])= _;rw[e.cs,JU]
 ·rw[q];exact e.bx
 ·rw[q];show s.kn++eA s (ij s.h 1 3 p b 0)=[];rw[I,e.kn];rfl
 ·rw[q];exact e.op
 ·rw[q];exact e.ws
 ·rw[q];exact e.sz
 ·rw[q];show aQ (ij s.h 1 3 p b 0).g v=true<-> _;rw[j,O.g];exact e.live v
 ·refine⟨m,(4,1,0,0,()),rfl,?_,rfl,rfl,rfl⟩;rw[q];show(ij s.h 1 3 p b 0).s.2[m]? =some (4,(((1:Int).toNat:Nat):Int),0,0,());rw[j];exact O.f4
 ·rw[q];show∀x∈(ij s.h 1 3 p b 0).gr,x.1≠1;rw[j];unfold il;split
  ·exact e.gr
  split
  ·exact e.gr
  split
  ·exact e.gr
  split<;>exact e.gr
end
section
variable {n:Nat} {s:MS} {i:Nat}
theorem busy {x:bG} (hx:s.cs[i]? =some x) (h0:x.ph≠0) (vm:Int) (c:CT):qS s (i:Int)=9/\cB s (i:Int) vm c=s:=by
 refine⟨?_,?_⟩
 ·unfold qS;rw[ao (by omega)];show(match s.cs[i]? with|none=>(2:Int)|some x=>if x.ph=0 then 0 else 9)= _;rw[hx];exact ao h0
 ·unfold cB;rw[ao (by omega)];show(match s.cs[i]? with|none=>s|some x=>if x.ph=0 then bh s i {x with ph:=1,vm:=vm,c:=c} else s)= _;rw[hx];exact ao h0
theorem MI.Wx {gh:Gh} {ta:Int->Bool} (M:MI gh ta n s) (i:Nat) (q:Int):fW (da s).1.h i q=fW s.h i q:=by
 rw[zl M];have key: ∀(L:List Int) {s:MS},MI gh ta n s->L.Nodup->(∀f∈L, ∃r,(f,r)∈s.ep.ws/\r+2<=s.ep.now)->fW (L.foldl Go.Proofs.YtlcenllcmeebhaaGreat.gm s).h i q=fW s.h i q:=by
  intro L
  induction L with
  |nil=>intros;rfl
  |cons f L j=>
   intro s M a e;obtain⟨r,h1,k⟩:=e f B5;refine(j (M.gm h1 k) (FJ.1 a).2 λg hg=>?_).trans ?_
   ·obtain⟨r',l,o⟩:=e g (B2 _ hg);refine⟨r',Gd.2 ⟨l,?_⟩,o⟩;have:g≠f:=λc=>(FJ.1 a).1 (by rw[<-c];exact hg);simp[this]
   ·obtain⟨p, _, _⟩:=M.wk _ h1;obtain⟨m,d,b,a,t⟩:=M.k5 f p;have b:f=(m:Int):=b;obtain⟨u, _, _,v⟩:=M.hi.IS a t;have w:(Go.Proofs.YtlcenllcmeebhaaGreat.gm s f).h=bq s.h (s.h.s.1,s.h.s.2.set m zD):=by
     show bq s.h (fQ s.h.s f)= _;rw[b,u]
    rw[w,v.to id]
 refine key _ M.Uc ?_ λf x=>xR.1 x;unfold oK;refine(jS _).nodup_iff.2 ?_;exact M.Uc.wn.sublist (IR.map _)
end
section
variable {n:Nat} {s:MS}
structure Ret (n:Nat) (s:MS):Prop where
 x:x_ n s
 np:OE s.h
 k6: ∀(c:Nat) (x:bG),1<=c->s.cs[c]? =some x->x.ph≠4/\(x.ph≠0->x.c.1=6)
 c0: ∀x:bG,s.cs[0]? =some x->x.ph=0\/x.ph=4
 j: ∀(c:Nat) (x:bG),s.cs[c]? =some x->x.ph=3->s.bx[c]? ≠some []
end
end Go.Proofs.YtlcenllcmeebhaaGreat
namespace Go.Proofs.YtlcenllcmeebhaaGreat.Mu
set_option maxRecDepth 100000
open Go.RX
abbrev eP:El:= .one .ptr
abbrev eMk:El:= .agg sMk
abbrev MkT:Type:=Int×Int×Int×Int×Int×Int×Int×Int×Int×Unit
abbrev Yz (m:MT):MkT:=(m.1,m.2.1,m.2.2.1,m.2.2.2.1.1,m.2.2.2.1.2.1,m.2.2.2.1.2.2.1,m.2.2.2.1.2.2.2.1,m.2.2.2.2.1,m.2.2.2.2.2,())
structure CA where
 cb:Nat
 tb:Nat
 st:Option AF×Nat×Nat
 sf:Option AF×Nat×Nat
 wp:Option AF
 Lt:List (Nat×List AC)
 Lf:List (Nat×List AC)
 Lw:List (Nat×List AC)
abbrev j7 (a:CA) (i:Nat) (x:bG):List AC:=
 [aa (i:Int),ah (ae a.tb),aa x.ph,aa x.vm,aa x.c.1,ax x.c.2.1,ax x.c.2.2.1,ax x.c.2.2.2.1,ah a.wp,aa x.fr,ax x.rs.1,aa x.rs.2,aa x.ak,.slice a.sf.1 a.sf.2.1 a.sf.2.2]
def WkW (a:CA) (x:bG):Prop:= ∃(bk:Nat) (s:Option AF×Nat×Nat) (b:List (Nat×List AC)) (xs:List Int),a.wp=some ⟨bk,0,none⟩/\a.Lw=(bk,l9 x.wk.1 (x.c.2.1 / 16) (aT x.c.1) x.wk.2.1 x.wk.2.2 s)::b/\B7 b s xs/\(xs.length:Int)<=3 - x.wk.2.1
structure TN (a:CA) (x:bG):Prop where
 ls:dv kz a.st x.ls a.Lt
 fs:dv eI a.sf x.fs a.Lf
 wk:x.ph=2->WkW a x
def wU (a:CA) (i:Nat) (x:bG) (sz:Int):List (Nat×List AC):=(a.cb,j7 a i x)::(a.tb,dA a.st sz)::(a.Lt++(a.Lf++a.Lw))
structure MB where
 mb:Nat
 eb:Nat
 xb:Nat
 kb:Nat
 wb:Nat
 sc:Option AF×Nat×Nat
 sm:Option AF×Nat×Nat
 sp:Option AF×Nat×Nat
 sb:Option AF×Nat×Nat
 so:Option AF×Nat×Nat
 Lc:List (Nat×List AC)
 Lm:List (Nat×List AC)
 Lp:List (Nat×List AC)
 Lb:List (Nat×List AC)
 Lo:List (Nat×List AC)
 cr:List CR
 ke:List Do
 we:List Do
 kk:Nat
 wk:Nat
 A:Nat->CA
abbrev xh (X:HX) (B:MB):List AC:=[ah (ae X.hb),ah (ae B.eb),ah (ae B.xb),.slice B.sc.1 B.sc.2.1 B.sc.2.2,.map (some B.kb),.slice B.sm.1 B.sm.2.1 B.sm.2.2]
def jg (B:MB) (s:MS) (l:List Nat):List (Nat×List AC):=l.flatMap λi=>match s.cs[i]? with
 |some x=>wU (B.A i) i x s.sz
 |none=>[]
abbrev yB (B:MB) (n:Nat):List (Option AF):=(AJ n).map λi=>some ⟨(B.A i).cb,0,none⟩
structure MWf (B:MB) (s:MS):Prop where
 c:dv eP B.sc (yB B s.cs.length) B.Lc
 m:dv eMk B.sm (s.ms.map Yz) B.Lm
 p:dv eI B.sp s.ep.pins B.Lp
 b:dv eC B.sb (dH B.cr) B.Lb
 o:dv eI B.so s.op B.Lo
 l:B.cr.length=s.bx.length
 k:iN B.ke B.kk (s.kn.map λf=>(f,.bool true))
 w:iN B.we B.wk (s.ep.ws.map FD)
 a: ∀{i x},s.cs[i]? =some x->TN (B.A i) x
def yC (s:WD):Prop:=0<s.1.length/\0<s.2.length/\s.2.length<=4096/\okW s.1
abbrev Kf (X:HX) (B:MB) (s:MS):List (Nat×List AC):=(B.mb,xh X B)::(B.eb,oN s.ep.now B.sp B.wb)::(B.xb,lY B.sb B.so)::(B.Lc++(B.Lm++(B.Lp++(B.Lb++B.Lo))))
abbrev mob (B:MB) (s:MS):List (Nat×B1):=(B.kb,.map ⟨B.ke⟩ B.kk)::(B.wb,.map ⟨B.we⟩ B.wk)::rI B.cr s.bx
abbrev Kg (Q:Sys) (X:HX) (A:Nat->GA) (ca la:Int) (h:HS):List (Nat×List AC):=Q.L ca la h.s (eo Q X A h (bj Q A h.g (AJ 17)))
def iM (Q:Sys) (X:HX) (D G:List Nat) (w0 w:A0) (B:MB) (s:MS) (T L:List (Nat×List AC)) (M:List (Nat×B1)):Prop:=
 ∃(A:Nat->GA) (ca la:Int),Dt A s.h/\yC s.h.s/\MWf B s/\cD D G w0 w (T++(Kf X B s++(jg B s (AJ s.cs.length)++(Kg Q X A ca la s.h++L)))) (mob B s++(dy A s.h.g (AJ 17)++M))
theorem cj {α:Type} {c d:List α} (h: ∀[BEq α] [LawfulBEq α] (a:α),c.count a=d.count a):c.Perm d:=by
 letI:DecidableEq α:=λa b=>Classical.propDecidable _
 grind
section
variable {Q:Sys} {X:HX} {D G:List Nat} {w0 w w1:A0} {B:MB} {s:MS} {T L:List (Nat×List AC)} {M:List (Nat×B1)}
theorem iM.ext (H:iM Q X D G w0 w B s T L M) (h:Ext w w1):iM Q X D G w0 w1 B s T L M:=by
 obtain⟨A,ca,la,h1,a,b,c⟩:=H;exact⟨A,ca,la,h1,a,b,c.ext h⟩
theorem iM.wf (H:iM Q X D G w0 w B s T L M):MWf B s:=by
 obtain⟨⟩:=H
 grind
theorem iM.all (H:iM Q X [] [] w0 w B s T L M):Ext w0 w:=by
 obtain⟨A,ca,la,h1,b,c,a⟩:=H;exact a.all
theorem iM.tmp (H:iM Q X D G w0 w B s T L M): ∃R a,cD D G w0 w (T++R) a/\(∀x∈Kf X B s,x∈R)/\(∀x∈mob B s,x∈a)/\(∀{i x},s.cs[i]? =some x-> ∀y∈wU (B.A i) i x s.sz,y∈R)/\ ∀{T' w'},cD D G w0 w' (T'++R) a->iM Q X D G w0 w' B s T' L M:=by
 obtain⟨A,ca,la,h1,b,c,d⟩:=H;refine⟨_, _,d,λx hx=>Bs _ hx,λx hx=>Bs _ hx,λ{i x} hi y e=>B3 _ (Bs _ ?_),λh=>⟨A,ca,la,h1,b,c,h⟩⟩;unfold jg
 grind
theorem iM.al (H:iM Q X D G w0 w B s T L M) {cs:List AC} {e:TypeId} {K:Nat->A0->Prop} (k: ∀b w1,iM Q X D G w0 w1 B s ((b,cs)::T) L M->K b w1):aN w ⟨cs⟩ e K:=by
 obtain⟨R,a,H, _⟩:=H.tmp;exact alM H (by grind)
theorem iM.st (H:iM Q X D G w0 w B s T L M) (i:Nat) {b:Nat} {l vs:List AC} {K:A0->Prop} (d:T[i]? =some (b,l)) (a:vs.all (·.oneCell')=true) (c:vs.length=l.length) (k: ∀w1,iM Q X D G w0 w1 B s (T.set i (b,vs)) L M->K w1):aC w (ae b) vs K:=by
 obtain⟨R,e,H, _, _, _,J⟩:=H.tmp;refine stB H i (by grind) a c λw1 H=>k w1 (J ?_)
 grind
theorem iM.ld (H:iM Q X D G w0 w B s T L M) (i:Nat) {g:Option Bool} {el:El} {K:el.T->Prop} {b o:Nat} {l:List AC} {x:el.T} (a:T[i]? =some (b,l)) (hv:ly l o el=some x) (k:K x):aj w g (some ⟨b,o,none⟩) el K:=by
 obtain⟨R,c,H,J⟩:=H.tmp;exact aj.at i H.base (by grind) hv k
theorem iM.cz (H:iM Q X D G w0 w B s T L M) (i:Nat) {g:Option Bool} {el:El} {K:el.T->Prop} {b n:Nat} {l:List AC} {x:el.T} (a:T[i]? =some (b,l)) (hv:ly l n el=some x) (k:K x):aj w g (ad (ae b) n) el K:=by
 obtain⟨R,c,H,J⟩:=H.tmp;exact aj.kV H.base (by grind) hv k
theorem iM.rG (H:iM Q X D G w0 w B s T L M) {n:Nat} {g:Option Bool} {el:El} {K:el.T->Prop} {x:el.T} (hv:ly (xh X B) n el=some x) (k:K x):aj w g (ad (ae B.mb) n) el K:=by
 obtain⟨R,a,H,J⟩:=H.tmp;exact aj.kV H.base (by grind) hv k
theorem iM.YA (H:iM Q X D G w0 w B s T L M) {i:Nat} {x:bG} (hx:s.cs[i]? =some x) {n:Nat} {g:Option Bool} {el:El} {K:el.T->Prop} {y:el.T} (hv:ly (j7 (B.A i) i x) n el=some y) (k:K y):aj w g (ad (some ⟨(B.A i).cb,0,none⟩) n) el K:=by
 obtain⟨R,a,H, _, _,hc,J⟩:=H.tmp;exact aj.kV H.base (B3 _ (hc hx _ B5)) hv k
theorem iM.sub (H:iM Q X D G w0 w B s T L M) {T':List (Nat×List AC)} (h:T'.Sublist T):iM Q X D G w0 w B s T' L M:=by
 obtain⟨R,a,H, _, _, _,J⟩:=H.tmp;exact J (H.sub (h.append_right _))
def Fu (B:MB) (i:Nat) (a:CA):MB:={B with A:=λj=>if j=i then a else B.A j}
theorem na (B:MB) (i:Nat) (a:CA):(Fu B i a).A i=a:=av rfl
theorem zT {B:MB} {s s':MS} {i:Nat} {a:CA} (c:s'.sz=s.sz) (hc: ∀j,j≠i->s'.cs[j]? =s.cs[j]?):jg (Fu B i a) s' ((AJ s.cs.length).erase i)=jg B s ((AJ s.cs.length).erase i):=by
 refine gL λj d=>?_;have b:j≠i:=λe=>by subst e;exact In.not_mem_erase d
 rw[hc j b,c];cases s.cs[j]? with
 |none
 |some=>rw[show(Fu _ i a).A j=B.A j from ao b]
theorem lS {B:MB} {s:MS} {i:Nat} {x:bG} (hx:s.cs[i]? =some x):(jg B s (AJ s.cs.length)).Perm (wU (B.A i) i x s.sz++jg B s ((AJ s.cs.length).erase i)):=by
 unfold jg;refine(List.Perm.flatMap_right _ (List.perm_cons_erase (Dn.2 (Aq.1 hx).1))).trans ?_
 simp_all
theorem MWf.up (W:MWf B s) {i:Nat} {x x':bG} (hx:s.cs[i]? =some x) {a:CA} (f:a.cb=(B.A i).cb) (h:TN a x'):MWf (Fu B i a) (bh s i x'):=by
 have g:yB (Fu B i a) s.cs.length=yB B s.cs.length:=by
  refine Ip λj _=>?_;by_cases e:j=i
  ·subst e;rw[na,f]
  ·rw[show(Fu B i a).A j=B.A j from ao e]
 refine⟨?_,W.m,W.p,W.b,W.o,W.l,W.k,W.w,λ{j y} d=>?_⟩
 ·show dv eP _ (yB _ (s.cs.set i x').length) _;rw[DL,g];exact W.c
 ·by_cases e:j=i
  ·subst e;rw[na];have:(s.cs.set j x')[j]? =some y:=d
   grind
  ·have:(s.cs.set i x')[j]? =some y:=d;rw[F8 (by omega)] at this;rw[show(Fu B i a).A j=B.A j from ao e];exact W.a this
theorem iM.Df (H:iM Q X D G w0 w B s T L M) {i:Nat} {x:bG} (hx:s.cs[i]? =some x): ∃R b,cD D G w0 w (wU (B.A i) i x s.sz++(T++R)) b/\
 ∀{T' a x' w'},a.cb=(B.A i).cb->TN a x'->cD D G w0 w' (wU a i x' s.sz++(T'++R)) b->iM Q X D G w0 w' (Fu B i a) (bh s i x') T' L M:=by
 obtain⟨A,ca,la,h1,e,f,g⟩:=H;refine⟨Kf X B s++(jg B s ((AJ s.cs.length).erase i)++(Kg Q X A ca la s.h++L)), _,g.perm ?_,λ{T' a x' w'} k l m=>⟨A,ca,la,h1,e,f.up hx k l,m.perm ?_⟩⟩
 ·have:=lS (B:=B) hx;refine Hb ?_ (Dh T (Dh _ (FX _ this.symm)));exact cj λa=>by simp only[AM];omega
 ·have n:(bh s i x').cs[i]? =some x':=Cj (Aq.1 hx).1;have d:(bh s i x').cs.length=s.cs.length:=DL ..;have:=lS (B:=Fu B i a) n;rw[na,d,zT (s:=s) (s':=bh s i x') rfl λj o=>(F8 (λc=>o c.symm))] at this;rw[d];refine(Dh T' (Dh _ (FX _ this))).trans ?_;show(T'++(Kf X B s++(wU a i x' s.sz++jg B s _++(Kg Q X A ca la s.h++L)))).Perm _;exact cj λa=>by simp only[AM];omega
end
section
variable {Q:Sys} {X:HX} {D G:List Nat} {w0 w:A0} {B:MB} {s:MS} {T L:List (Nat×List AC)} {M:List (Nat×B1)}
theorem jz.yC {h:HS} {L:List (Nat×List AC)} (H:jz Q X D G w0 w h L):yC h.s:=by
 obtain⟨A,W,S⟩:=H;exact⟨S.pos,S.F2,S.le,S.okw⟩
theorem iM.hv (H:iM Q X D G w0 w B s T L M): ∃i L',jz Q X [] i w w s.h L'/\ ∀{e h'},jz Q X [] i w e h' L'->iM Q X D G w0 e B {s with h:=h'} T L M:=by
 obtain⟨A,ca,la,h1,f,d,r⟩:=H;have j:cD D G w0 w (Q.L ca la s.h.s (eo Q X A s.h (bj Q A s.h.g (AJ 17)++(T++(Kf X B s++(jg B s (AJ s.cs.length)++L)))))) (dy A s.h.g (AJ 17)++(mob B s++M)):=
  (r.perm (cj λa=>by simp only[Sys.L,AM,Ae];omega)).lE (cj (by grind))
 refine⟨_, _,⟨A,h1,f.1,f.2.1,f.2.2.1,f.2.2.2,ca,la,cD.PO j⟩,λ{e h'} K=>?_⟩;have t:=jz.yC K;obtain⟨A',u, _, _, _, _,n,q,K⟩:=K;have K:=cD.XE j K;refine⟨A',n,q,u,t,⟨d.c,d.m,d.p,d.b,d.o,d.l,d.k,d.w,d.a⟩,?_⟩;show cD D G w0 e (T++(Kf X B s++(jg B s (AJ s.cs.length)++(Kg Q X A' n q h'++L)))) (mob B s++(dy A' h'.g (AJ 17)++M));exact(K.perm (cj λa=>by
  simp only[Sys.L,AM,Ae];omega)).lE (cj (by grind))
theorem iM.sat (H:iM Q X D G w0 w B s T L M): ∃A j L0,a9 Q [] j w w s.h.s L0/\(X.hb,fe Q X A s.h.g)∈L0/\(∀i v,s.h.g i=some v-> ∀x∈ia Q A i v,x∈L0)/\(∀x∈T,x∈L0)/\(∀x∈Kf X B s,x∈L0)/\(∀{i x},s.cs[i]? =some x-> ∀y∈wU (B.A i) i x s.sz,y∈L0)/\
 ∀{T' f s'},a9 Q [] j w f s' (T'++L0)->iM Q X D G w0 f B {s with h:=bq s.h s'} (T'++T) L M:=by
 obtain⟨A,ca,la,h1,e,d,t⟩:=H;have n:cD D G w0 w (Q.L ca la s.h.s (eo Q X A s.h (bj Q A s.h.g (AJ 17)++(T++(Kf X B s++(jg B s (AJ s.cs.length)++L)))))) ([]++(mob B s++(dy A s.h.g (AJ 17)++M))):=
  t.perm (cj λa=>by simp only[Sys.L,AM,Ae];omega)
 refine⟨A, _, _,⟨e.1,e.2.1,e.2.2.1,e.2.2.2,ca,la,(cD.PO n).base⟩,B5,λi v hv x hx=>?_,λx hx=>?_,λx hx=>?_,λ{i x} hi y u=>?_,λ{T' f s'} K=>?_⟩
 ·refine B2 _ (B2 _ (B2 _ (B2 _ (Bs _ (BC (Dn.2 ?_) hv x hx)))));have:=h1.jy hv;omega
 ·simp_all
 ·exact B2 _ (B2 _ (B2 _ (B2 _ (B3 _ (by grind)))))
 ·refine B2 _ (B2 _ (B2 _ (B2 _ (B3 _ (B3 _ (B3 _ (Bs _ ?_)))))));unfold jg;exact Iy.2 ⟨i,Dn.2 (Aq.1 hi).1,by rw[hi];exact u⟩
 ·obtain⟨z,C,E,k4,q,r,K⟩:=K;have K:=cD.XE n (M1':=[]) (cD.of K);refine⟨A,q,r,⟨h1.jy,h1.mp,h1.gl,h1.pt,h1.gk⟩,⟨z,C,E,k4⟩,⟨d.c,d.m,d.p,d.b,d.o,d.l,d.k,d.w,d.a⟩,?_⟩;exact K.perm (cj λa=>by
   show DB a (T'++T++(Kf X B s++(jg B s (AJ s.cs.length)++(Q.L q r s' (eo Q X A s.h (bj Q A s.h.g (AJ 17)))++L))))= _;simp only[Sys.L,AM,Ae];omega)
theorem iM.p9 (H:iM Q X D G w0 w B s T L M): ∃R e,cD D G w0 w ((B.mb,xh X B)::(B.Lm++(T++R))) e/\
 ∀{T' sm Lm ms w'},dv eMk sm (ms.map Yz) Lm->cD D G w0 w' ((B.mb,xh X {B with sm:=sm,Lm:=Lm})::(Lm++(T'++R))) e->iM Q X D G w0 w' {B with sm:=sm,Lm:=Lm} {s with ms:=ms} T' L M:=by
 obtain⟨A,ca,la,h1,f,d,g⟩:=H;refine⟨(B.eb,oN s.ep.now B.sp B.wb)::(B.xb,lY B.sb B.so)::(B.Lc++(B.Lp++(B.Lb++(B.Lo++(jg B s (AJ s.cs.length)++(Kg Q X A ca la s.h++L)))))), _,g.perm (cj λa=>by simp[Ae];omega),λ{T' sm Lm ms w'} hs K=>?_⟩;refine⟨A,ca,la,h1,f,⟨d.c,hs,d.p,d.b,d.o,d.l,d.k,d.w,d.a⟩,K.perm (cj λa=>?_)⟩;show DB a (T'++(Kf X _ s++(jg B s _++(Kg Q X A ca la s.h++L))))= _;simp only[AM,Ae];omega
theorem iM.eps (H:iM Q X D G w0 w B s T L M): ∃R e,cD D G w0 w ((B.eb,oN s.ep.now B.sp B.wb)::(B.Lp++(T++R))) ((B.wb,.map ⟨B.we⟩ B.wk)::e)/\
 ∀{T' sp Lp ep we wk w'},dv eI sp ep.pins Lp->iN we wk (ep.ws.map FD)->cD D G w0 w' ((B.eb,oN ep.now sp B.wb)::(Lp++(T'++R))) ((B.wb,.map ⟨we⟩ wk)::e)->iM Q X D G w0 w' {B with sp:=sp,Lp:=Lp,we:=we,wk:=wk} {s with ep:=ep} T' L M:=by
 obtain⟨A,ca,la,h1,f,d,i⟩:=H;refine⟨(B.mb,xh X B)::(B.xb,lY B.sb B.so)::(B.Lc++(B.Lm++(B.Lb++(B.Lo++(jg B s (AJ s.cs.length)++(Kg Q X A ca la s.h++L)))))),(B.kb,.map ⟨B.ke⟩ B.kk)::(rI B.cr s.bx++(dy A s.h.g (AJ 17)++M)),(i.perm (cj λa=>by simp only[AM,Ae];omega)).lE (cj (by grind)),λ{T' sp Lp ep we wk w'} hs j K=>?_⟩;refine⟨A,ca,la,h1,f,⟨d.c,d.m,hs,d.b,d.o,d.l,d.k,j,d.a⟩,(K.perm (cj λa=>?_)).lE (cj λa=>?_)⟩
 ·show DB a (T'++(((B.mb,xh X B)::(B.eb,oN ep.now sp B.wb)::(B.xb,lY B.sb B.so)::(B.Lc++(B.Lm++(Lp++(B.Lb++B.Lo)))))++(jg B s _++(Kg Q X A ca la s.h++L))))= _;simp only[AM,Ae];omega
 ·simp only[AM,Ae];omega
theorem iM.kns (H:iM Q X D G w0 w B s T L M): ∃R e,cD D G w0 w (T++R) ((B.kb,.map ⟨B.ke⟩ B.kk)::e)/\
 ∀{T' kn ke kk w'},iN ke kk (kn.map λf=>(f,.bool true))->cD D G w0 w' (T'++R) ((B.kb,.map ⟨ke⟩ kk)::e)->iM Q X D G w0 w' {B with ke:=ke,kk:=kk} {s with kn:=kn} T' L M:=by
 obtain⟨A,ca,la,h1,g,d,h⟩:=H;refine⟨_,(B.wb,.map _ _)::rI _ _++(dy A _ _++M),h,λi K=>?_⟩;exact⟨A,ca,la,h1,g,⟨d.c,d.m,d.p,d.b,d.o,d.l,i,d.w,d.a⟩,K⟩
theorem iM.bxs (H:iM Q X D G w0 w B s T L M): ∃R e,cD D G w0 w ((B.xb,lY B.sb B.so)::(B.Lb++(B.Lo++(T++R)))) (rI B.cr s.bx++e)/\
 ∀{T' so Lo op cr bx w'},dv eI so op Lo->cr.length=bx.length->dH cr=dH B.cr->cD D G w0 w' ((B.xb,lY B.sb so)::(B.Lb++(Lo++(T'++R)))) (rI cr bx++e)->iM Q X D G w0 w' {B with so:=so,Lo:=Lo,cr:=cr} {s with op:=op,bx:=bx} T' L M:=by
 obtain⟨A,ca,la,h1,f,d,i⟩:=H;refine⟨(B.mb,xh X B)::(B.eb,oN s.ep.now B.sp B.wb)::(B.Lc++(B.Lm++(B.Lp++(jg B s (AJ s.cs.length)++(Kg Q X A ca la s.h++L))))),(B.kb,.map ⟨B.ke⟩ B.kk)::(B.wb,.map ⟨B.we⟩ B.wk)::(dy A s.h.g (AJ 17)++M),(i.perm (cj λa=>by simp only[AM,Ae];omega)).lE (cj (by grind)),λ{T' so Lo op cr bx w'} hs j hc K=>?_⟩;refine⟨A,ca,la,h1,f,⟨d.c,d.m,d.p,?_,hs,j,d.k,d.w,d.a⟩,(K.perm (cj λa=>?_)).lE (cj λa=>?_)⟩
 ·rw[hc];exact d.b
 ·show DB a (T'++(((B.mb,xh X B)::(B.eb,oN s.ep.now B.sp B.wb)::(B.xb,lY B.sb so)::(B.Lc++(B.Lm++(B.Lp++(B.Lb++Lo)))))++(jg B s (AJ s.cs.length)++(Kg Q X A ca la s.h++L))))= _;simp only[AM,Ae];omega
 ·simp only[AM,Ae];omega
end
section
variable {Q:Sys} {X:HX} {D G:List Nat} {w0 w:A0} {B:MB} {s:MS} {T L:List (Nat×List AC)} {M:List (Nat×B1)}
theorem abY (H:iM Q X D G w0 w B s T L M) (n:Int):af A2 64 [ah (ae B.mb),aa n] w (ah (if 0<=n/\n<(s.cs.length:Int) then some ⟨(B.A n.toNat).cb,0,none⟩ else none)):=by
 refine af.of (s:= .el (.one .ptr)) λw' h'=>ai (C:=U2) (aW:=λ_=>[]) (Ar (aah _ _ w' _) ?_);have H:=H.ext h';have W:=H.wf;have a:B.sc.2.1=s.cs.length:=by rw[W.c.1,Dk,Dw]
 refine⟨λ_=>rfl,λ_=>rfl,H.rG (show _=some (B.sc.1,B.sc.2.1,B.sc.2.2) from rfl) ?_⟩;dsimp only;rw[a];by_cases c:0<=n/\n<(s.cs.length:Int)
 ·rw[av c];obtain⟨R,d,K,e, _, _, _⟩:=H.tmp;have b:=W.c.sl K.base (by grind) n.toNat (some ⟨(B.A n.toNat).cb,0,none⟩) (by rw[List.getElem?_map,J3 (by omega)];rfl);refine an ?_ ⟨rfl,rfl,H.rG (show _=some (B.sc.1,B.sc.2.1,B.sc.2.2) from rfl) ⟨⟨b.1,c.1,by dsimp only;rw[a];exact c.2⟩,aj.of _ b.2 λw1 h1=>⟨rfl,h1⟩⟩⟩
  grind
 ·rw[ao c];refine aB ?_ λw1 h1=>⟨rfl,h1⟩
  grind
theorem acK {a:Int} (h:bT a):aJ .i64 (wV .u64 a 16)=a / 16:=by
 have e:wV .u64 a 16=a / 16:=by
  show aJ _ _= _;rw[Int.tdiv_eq_ediv_of_nonneg h.1];exact dU (by omega)
 rw[e];exact bP (by omega)
theorem Wy (H:iM Q X D G w0 w B s T L M) {i:Nat} {x:bG} (hx:s.cs[i]? =some x) (a:bT x.c.2.1):af A2 160 [ah (some ⟨(B.A i).cb,0,none⟩)] w (aa (x.c.2.1 / 16)):=by
 refine af.of λw' h'=>ai (Ar (SB _ w' _) ?_);refine⟨rfl,rfl,rfl,(H.ext h').YA hx (n:=5) rfl λw1 h1=>⟨acK a,h1⟩⟩
end
structure MR where
 mb:Nat
 eb:Nat
 xb:Nat
 kb:Nat
 wb:Nat
 cb:Nat->Nat
 tb:Nat->Nat
abbrev MB.rt (B:MB):MR:=⟨B.mb,B.eb,B.xb,B.kb,B.wb,λi=>(B.A i).cb,λi=>(B.A i).tb⟩
theorem XM {B:MB} {i:Nat} {a:CA} (h1:a.cb=(B.A i).cb) (d:a.tb=(B.A i).tb):(Fu B i a).rt=B.rt:=by
 have b:(λj=>((Fu _ i a).A j).cb)=λj=>(B.A j).cb:=funext λj=>by
  by_cases e:j=i
  ·subst e;rw[na];grind
  ·rw[show(Fu _ i a).A j=B.A j from ao e]
 have c:(λj=>((Fu _ i a).A j).tb)=λj=>(B.A j).tb:=funext λj=>by
  by_cases e:j=i
  ·subst e;rw[na];grind
  ·rw[show(Fu _ i a).A j=B.A j from ao e]
 show MR.mk _ _ _ _ _ _ _=MR.mk _ _ _ _ _ _ _;rw[b,c];rfl
def MU (Q:Sys) (X:HX) (D G:List Nat) (w0 w:A0) (R:MR) (s:MS) (T L:List (Nat×List AC)) (M:List (Nat×B1)):Prop:= ∃B:MB,B.rt=R/\iM Q X D G w0 w B s T L M
theorem Nt {s:MS} {i:Nat} {x:bG} (hx:s.cs[i]? =some x):bh s i x=s:=by
 unfold bh;have:s.cs.set i x=s.cs:=by
  obtain⟨h,e⟩:=Aq.1 hx;subst e;simp
 rw[this]
theorem fb {s:MS} {i:Nat} {x y:bG} (hx:s.cs[i]? =some x):(bh s i y).cs[i]? =some y:=Cj (Aq.1 hx).1
theorem lr (s:MS) (i:Nat) (x y:bG):bh (bh s i x) i y=bh s i y:=by unfold bh;simp_all
section
variable {Q:Sys} {X:HX} {D G:List Nat} {w0 w w1:A0} {R:MR} {s:MS} {T L:List (Nat×List AC)} {M:List (Nat×B1)} {i:Nat} {x:bG} {g:Option Bool}
theorem MU.ext (H:MU Q X D G w0 w R s T L M) (h:Ext w w1):MU Q X D G w0 w1 R s T L M:=by
 obtain⟨B,e,H⟩:=H;exact⟨B,e,H.ext h⟩
theorem MU.all (H:MU Q X [] [] w0 w R s T L M):Ext w0 w:=by
 obtain⟨B,e,H⟩:=H;exact H.all
theorem MU.en (H:MU Q X D G w0 w R s T L M) {K:A0->Prop} (k: ∀w1,MU Q X D G w0 w1 R s T L M->K w1):au w K:=λ_ h=>k _ (H.ext h)
theorem MU.go (H:MU Q X D G w0 w R s T L M) {P:Program} {f:FuncId} {sh:Sh} {args:List AC} {K:sh.T->A0->Prop} (k: ∀w1,MU Q X D G w0 w1 R s T L M->aE P f sh args w1 K):aA P f sh args w K:=λ_ h=>k _ (H.ext h)
theorem MU.al (H:MU Q X D G w0 w R s T L M) {cs:List AC} {e:TypeId} {K:Nat->A0->Prop} (k: ∀b w1,MU Q X D G w0 w1 R s ((b,cs)::T) L M->K b w1):aN w ⟨cs⟩ e K:=by
 obtain⟨B,e,H⟩:=H;exact H.al λb w1 H=>k b w1 ⟨B,e,H⟩
theorem MU.st (H:MU Q X D G w0 w R s T L M) (i:Nat) {b:Nat} {l vs:List AC} {K:A0->Prop} (a:T[i]? =some (b,l)) (c:vs.all (·.oneCell')=true) (d:vs.length=l.length) (k: ∀w1,MU Q X D G w0 w1 R s (T.set i (b,vs)) L M->K w1):aC w (ae b) vs K:=by
 obtain⟨B,e,H⟩:=H;exact H.st i a c d λw1 H=>k w1 ⟨B,e,H⟩
theorem MU.ld (H:MU Q X D G w0 w R s T L M) (i:Nat) {el:El} {K:el.T->Prop} {b o:Nat} {l:List AC} {x:el.T} (a:T[i]? =some (b,l)) (hv:ly l o el=some x) (k:K x):aj w g (some ⟨b,o,none⟩) el K:=by
 obtain⟨B,e,H⟩:=H;exact H.ld i a hv k
theorem MU.cz (H:MU Q X D G w0 w R s T L M) (i:Nat) {el:El} {K:el.T->Prop} {b n:Nat} {l:List AC} {x:el.T} (a:T[i]? =some (b,l)) (hv:ly l n el=some x) (k:K x):aj w g (ad (ae b) n) el K:=by
 obtain⟨B,e,H⟩:=H;exact H.cz i a hv k
theorem MU.sub (H:MU Q X D G w0 w R s T L M) {T':List (Nat×List AC)} (h:T'.Sublist T):MU Q X D G w0 w R s T' L M:=by
 obtain⟨B,e,H⟩:=H;exact⟨B,e,H.sub h⟩
theorem MU.f0 (H:MU Q X D G w0 w R s T L M) {K:Option AF->Prop} (k:K (ae X.hb)):aj w g (ad (ae R.mb) 0) (.one .ptr) K:=by
 obtain⟨B,rfl,H⟩:=H;exact H.rG rfl k
theorem MU.f1 (H:MU Q X D G w0 w R s T L M) {K:Option AF->Prop} (k:K (ae R.eb)):aj w g (ad (ae R.mb) 1) (.one .ptr) K:=by
 obtain⟨B,rfl,H⟩:=H;exact H.rG rfl k
theorem MU.f2 (H:MU Q X D G w0 w R s T L M) {K:Option AF->Prop} (k:K (ae R.xb)):aj w g (ad (ae R.mb) 2) (.one .ptr) K:=by
 obtain⟨B,rfl,H⟩:=H;exact H.rG rfl k
theorem MU.f4 (H:MU Q X D G w0 w R s T L M) {K:Option Nat->Prop} (k:K (some R.kb)):aj w g (ad (ae R.mb) 4) (.one .map) K:=by
 obtain⟨B,rfl,H⟩:=H;exact H.rG rfl k
theorem MU.cf (H:MU Q X D G w0 w R s T L M) (hx:s.cs[i]? =some x) {n:Nat} {el:El} {K:el.T->Prop} {y:el.T} (hv: ∀a:CA,ly (j7 a i x) n el=some y) (k:K y):aj w g (ad (some ⟨R.cb i,0,none⟩) n) el K:=by
 obtain⟨B,rfl,H⟩:=H;exact H.YA hx (hv _) k
theorem MU.c1 (H:MU Q X D G w0 w R s T L M) (hx:s.cs[i]? =some x) {K:Option AF->Prop} (k:K (some ⟨R.tb i,0,none⟩)):aj w g (ad (some ⟨R.cb i,0,none⟩) 1) (.one .ptr) K:=by
 obtain⟨B,rfl,H⟩:=H;exact H.YA hx rfl k
theorem MU.Df (H:MU Q X D G w0 w R s T L M) (hx:s.cs[i]? =some x): ∃(a:CA) (b:List (Nat×List AC)) (c:List (Nat×B1)),a.cb=R.cb i/\a.tb=R.tb i/\TN a x/\cD D G w0 w (wU a i x s.sz++(T++b)) c/\
 ∀{T':List (Nat×List AC)} {a':CA} {x':bG} {w':A0},a'.cb=a.cb->a'.tb=a.tb->TN a' x'->cD D G w0 w' (wU a' i x' s.sz++(T'++b)) c->MU Q X D G w0 w' R (bh s i x') T' L M:=by
 obtain⟨B,rfl,H⟩:=H;obtain⟨b,c,K,J⟩:=H.Df hx;exact⟨B.A i,b,c,rfl,rfl,H.wf.a hx,K,λh1 d e f=>⟨_,XM h1 d,J h1 e f⟩⟩
theorem MU.cs (H:MU Q X D G w0 w R s T L M) (hx:s.cs[i]? =some x) (x':bG) (n:Nat) {vs:List AC} (c:vs.all (·.oneCell')=true) (d:Nat.ble (n+vs.length) 14=true) (e: ∀a:CA,(j7 a i x).take n++(vs++(j7 a i x).drop (n+vs.length))=j7 a i x') (f: ∀a,TN a x->TN a x') {K:A0->Prop}
 (k: ∀w1,MU Q X D G w0 w1 R (bh s i x') T L M->K w1):aC w (ad (some ⟨R.cb i,0,none⟩) n) vs K:=by
 obtain⟨a,l,m,g,hb,W,b,J⟩:=H.Df hx;rw[<-g,aY,Nat.zero_add];refine λw1 h1=>aC.at 0 (b.ext h1).base.again rfl c (Nat.le_of_ble_eq_true d) (λh j=>k h (J rfl rfl (f a W) ?_)) w1 (Ext.refl w1);have K:=(b.ext h1).join j;rw[e] at K;exact K
theorem DW (H:MU Q X D G w0 w R s T L M) (n:Int):af A2 64 [ah (ae R.mb),aa n] w (ah (if 0<=n/\n<(s.cs.length:Int) then some ⟨R.cb n.toNat,0,none⟩ else none)):=by
 obtain⟨B,rfl,H⟩:=H;exact abY H n
theorem JX (H:MU Q X D G w0 w R s T L M) (hx:s.cs[i]? =some x) (a:bT x.c.2.1):af A2 160 [ah (some ⟨R.cb i,0,none⟩)] w (aa (x.c.2.1 / 16)):=by
 obtain⟨B,rfl,H⟩:=H;exact Wy H hx a
theorem vq {w:A0} {r:Nat} {es:Array Do} {ck i:Nat} {g:Int} {z v u:AC} (m:bI w r es ck) (h:G1 (.int .i64) (aa g) es.toList 0=some (some (i,u))) (e:v=u):j8 w (some r) .i64 g z v:=⟨r,by grind⟩
theorem BQ {w:A0} {r:Nat} {es:Array Do} {ck:Nat} {g:Int} {z v:AC} (m:bI w r es ck) (h:G1 (.int .i64) (aa g) es.toList 0=some none) (e:v=z):j8 w (some r) .i64 g z v:=⟨r,by grind⟩
theorem JY (H:MU Q X D G w0 w R s T L M) (hx:s.cs[i]? =some x):af A2 199 [ah (some ⟨R.cb i,0,none⟩)] w (aa (aT x.c.1)):=by
 refine af.of λw1 h1=>ai (C:=U2) (Ar (SC _ w1 _) λk b p d=>?_);have H0:=(((At.start [] w1).ext b).r_ _).ext d;have e:=b.size;have m0:=d.obj (ft k _);refine u9 H0 e (by simp) m0 rfl λq l m r f=>?_;refine u9 (l.ext f) e (by simp) (f.obj m) rfl λu h a=>?_;have hv:=(iN.nil.push (g:=6) (aa 1) (λt j=>(by cases j))).push (g:=7) (aa 2) (by grind);have H:=H.ext (h1.trans (Ext.trans (h.ext (Ext.refl _)).all (Ext.refl _)));refine⟨rfl,rfl,rfl,H.cf hx (n:=4) (λ_=>rfl) ⟨aT x.c.1,?_,λy o=>⟨rfl,(h.ext o).all⟩⟩⟩;unfold aT;by_cases c6:x.c.1=6
 ·rw[av c6,c6];obtain⟨i,hi, _⟩:=hv.FA (g:=6) (v:=aa 1) (by simp);exact vq a hi rfl
 ·rw[ao c6];by_cases c7:x.c.1=7
  ·rw[av c7,c7];obtain⟨i,hi, _⟩:=hv.FA (g:=7) (v:=aa 2) (by simp);exact vq a hi rfl
  ·rw[ao c7];refine BQ a (hv.Ou λt j=>?_) rfl
   grind
theorem tV (H:MU Q X D G w0 w R s T L M) (p:s.ms.length<=1000000000) (m:MT) {K:Unit->A0->Prop}
 (k: ∀a,MU Q X D G w0 a R {s with ms:=s.ms++[m]} T L M->K () a):
 aA A2 155 (.bA []) [ah (ae R.mb),.agg ⟨[aa m.1,aa m.2.1,aa m.2.2.1,aa m.2.2.2.1.1,ax m.2.2.2.1.2.1,ax m.2.2.2.1.2.2.1,ax m.2.2.2.1.2.2.2.1,ax m.2.2.2.2.1,aa m.2.2.2.2.2]⟩] w K:=by
 obtain⟨B,rfl,H⟩:=H;refine λw1 h1=>ai (C:=U2) (aW:=λ_=>[]) (Ar (SD _ _ _ _ _ _ _ _ _ _ w1 K) ?_);refine(H.ext h1).al λb a H=>⟨rfl,rfl,H.rG (rfl) (H.ld 0 rfl (show _=some (Yz m) from rfl) (H.al λd q H e f=>?_))⟩;have H:=H.ext f;obtain⟨r,t,g,J⟩:=H.p9;have c:=g.perm Fk;have hb:bO e d (cellsOf eMk (Yz m)):=c.base.dj _ (B3 _ (B2 _ B5));refine Fw c H.wf.m rfl (ys:=[Yz m]) rfl (sd hb) rfl rfl (by grind) λs' h u i j=>⟨rfl,rfl,NQ (j.perm Fk.symm) 0 rfl rfl rfl λv l=>enM l λn o=>k n ⟨{B with sm:=s',Lm:=h},rfl,iM.sub (J (ms:=s.ms++[m]) (by rw[J4];exact i) o) ?_⟩⟩;simp
theorem zU (H:MU Q X D G w0 w R s T L M) (hx:s.cs[i]? =some x) (E:(x.ls.length:Int)<=64) (F:0<s.sz) (t g:Int) {K:Unit->A0->Prop}
 (k: ∀b,MU Q X D G w0 b R (bh s i {x with ls:=iY x.ls t g}) T L M->K () b):
 aA A2 67 (.bA []) [ah (some ⟨R.cb i,0,none⟩),aa t,aa g] w K:=by
 refine H.go λw1 H=>ai (C:=U2) (aW:=λ_=>[]) (Ar (HY _ _ _ w1 K) ?_);have fin: ∀{b:A0} {a:CA} {j:List (Nat×List AC)} {l:List (Nat×B1)} (o:List LT),TN a x->a.tb=R.tb i->cD D G w0 b (wU a i x s.sz++(T++j)) l-> ∃p,cD D G w0 b ((R.tb i,dA a.st s.sz)::(a.Lt++p)) l/\ ∀{q:A0} {s'} {d:List (Nat×List AC)},dv kz s' o d->aM [] (((R.tb i,dA a.st s.sz)::(a.Lt++p)).map (·.1)) b q ((R.tb i,dA s' s.sz)::(d++p))-> ∃a':CA,a'.cb=a.cb/\a'.tb=a.tb/\TN a' {x with ls:=o}/\cD D G w0 q (wU a' i {x with ls:=o} s.sz++(T++j)) l:=by
  intro b a j l o W I r;rw[<-I];have m:cD D G w0 b ((a.tb,dA a.st s.sz)::(a.Lt++((a.cb,j7 a i x)::(a.Lf++(a.Lw++(T++j)))))) l:=r.perm (cj λy=>by simp only[wU,AM,Ae];omega);refine⟨_,m,λ{q s' d} h n=>⟨{a with st:=s',Lt:=d},rfl,rfl,⟨h,W.fs,W.wk⟩,(m.join n).perm (cj λy=>by
   show DB y ((a.cb,j7 a i x)::(a.tb,dA s' s.sz)::(d++(a.Lf++a.Lw))++(T++j))= _
   grind)⟩⟩
 obtain⟨a,j,l,N,hb,W,r,J⟩:=H.Df hx;obtain⟨p,m,f⟩:=fin (iY x.ls t g) W hb r;refine ab (λc=>⟨rfl,rfl,H.c1 hx ?_⟩) (λc=>⟨rfl,rfl,H.c1 hx ?_⟩)
 ·have e:g= -1:=by simpa using c
  refine Hf m.base.again W.ls E F t λv s' d b h n=>?_;have h:dv kz s' (iY x.ls t g) d:=by unfold iY;rw[av e];exact h
  obtain⟨a',h1,u,z,A⟩:=f h n;exact(J h1 u z A).en λB H=>k B H
 ·have e:g≠ -1:=by simpa using c
  refine Bc m.base.again W.ls E F t g λs' d b h n=>?_;have h:dv kz s' (iY x.ls t g) d:=by unfold iY;rw[ao e];exact h
  obtain⟨a',h1,u,z,A⟩:=f h n;exact(J h1 u z A).en λB H=>k B H
theorem Nu (H:MU Q X D G w0 w R s T L M) (hx:s.cs[i]? =some x):af A2 152 [ah (ae R.mb),ah (some ⟨R.cb i,0,none⟩)] w (.bool (iA s.h x)):=by
 refine af.of (s:= .el (.one .bool)) λw1 h1=>ai (C:=U2) (aW:=λ_=>[]) (Ar (HZ _ _ w1 _) ?_);have H:=H.ext h1;have a:af A2 19 [ah (ae X.hb),aa x.vm] w1 (.bool (aQ s.h.g x.vm)):=by
  obtain⟨B,e,b⟩:=H;obtain⟨A,j,L0,S,d, _⟩:=b.sat;exact qj S d x.vm
 refine⟨_,JY H hx,λ_=>rfl,λ_=>rfl,H.f0 ⟨λ_=>rfl,λ_=>rfl,H.cf hx (n:=3) (λ_=>rfl) ⟨_,λ_=>a,λ_=>rfl,λ_=>rfl,H.cf hx (n:=4) (y:=x.c) (λ_=>rfl) ⟨_,λ_=>Ek _ _ _ _,λ_=>rfl,λ_=>rfl,λ_=>rfl,H.cf hx (n:=5) (λ_=>rfl) λk f=>⟨?_,f⟩⟩⟩⟩⟩;unfold iA;simp only[Fz]
end
theorem wK (x:Int): ∀l:List Int,l.Pairwise (λa b=>b<=a)->(jI x l).Pairwise (λa b=>b<=a)
 |[], _=>by simp[jI]
 |y::l,h=>by
  rw[jI];obtain⟨h1,e⟩:=Gi.1 h;split
  ·rename_i c;refine Gi.2 ⟨λz d=>?_,wK x l e⟩;rcases GG.1 ((vk x l).mem_iff.1 d) with rfl|d
   ·omega
   ·exact h1 z d
  ·rename_i c;refine Gi.2 ⟨λz d=>?_,h⟩;rcases GG.1 d with rfl|d
   ·omega
   ·have:=h1 z d;omega
theorem uD: ∀(l a:List Int),a.Pairwise (λa b=>b<=a)->(l.foldl (λa x=>jI x a) a).Pairwise (λa b=>b<=a)
 |[], _,h=>h
 |x::l,a,h=>uD l _ (wK x a h)
theorem XN {R l:List Int} (h:R.Pairwise (· <= ·)) (c:R.Perm l):R=mT l:=by
 refine List.Perm.eq_of_pairwise (λa b _ _ h1 d=>by omega) h ?_ (c.trans (jS l).symm);unfold mT;rw[List.pairwise_reverse];exact uD l [] List.Pairwise.nil
theorem Wz (e:vF):(iz e).now=Kp e.pins e.now:=by unfold iz Kp;split<;>rfl
theorem Th (e:vF):(iz e).pins=e.pins:=by unfold iz;split<;>rfl
theorem va (e:vF):(iz e).ws=e.ws:=by unfold iz;split<;>rfl
theorem P2 (e:vF):e.now<=(iz e).now/\(iz e).now<=e.now+1:=by
 unfold iz;split
 ·exact⟨by show e.now<=e.now+1;omega,FW _⟩
 ·omega
theorem CW: ∀(l:List Int) (s:MS),(l.foldl jj s).ms.length=s.ms.length+l.length
 |[],s=>rfl
 |f::l,s=>by
  rw[Ft,CW l];show(s.ms++ _).length+l.length= _;simp only[FY,Ga,J5];omega
section
variable {Q:Sys} {X:HX} {D G:List Nat} {w0 w w1:A0} {R:MR} {s:MS} {T L:List (Nat×List AC)} {M:List (Nat×B1)} {i:Nat} {x:bG} {g:Option Bool}
theorem MU.base (H:MU Q X D G w0 w R s T L M): ∃L0,aM D G w0 w L0/\ ∀x∈T,x∈L0:=by
 obtain⟨B,e,H⟩:=H;obtain⟨a,b,K, _⟩:=H.tmp;exact⟨_,K.base,λx hx=>Bs _ hx⟩
theorem MU.sat (H:MU Q X D G w0 w R s T L M): ∃A a L0,a9 Q [] a w w s.h.s L0/\(X.hb,fe Q X A s.h.g)∈L0/\(∀i v,s.h.g i=some v-> ∀x∈ia Q A i v,x∈L0)/\
 ∀{T' b s'},a9 Q [] a w b s' (T'++L0)->MU Q X D G w0 b R {s with h:=bq s.h s'} (T'++T) L M:=by
 obtain⟨B,e,H⟩:=H;obtain⟨A,a,L0,S,h1,c, _, _, _,J⟩:=H.sat;exact⟨A,a,L0,S,h1,c,λK=>⟨B,e,J K⟩⟩
theorem MU.del (H:MU Q X D G w0 w R s T L M) (f:Int) {K:A0->Prop} (k: ∀g,MU Q X D G w0 g R {s with kn:=s.kn.filter (λx=> !(x==f))} T L M->K g):
 ∃(r:Nat) (es:Array Do) (h:Nat),some R.kb=some r/\bI w r es h/\Ai w r .i64 f es h K:=by
 obtain⟨B,rfl,H⟩:=H;obtain⟨p,q,a,J⟩:=H.kns;refine⟨B.kb,⟨B.ke⟩,B.kk,rfl,a.get (i:=0) rfl,?_⟩;unfold Ai;by_cases c:f∈s.kn
 ·obtain⟨i,j,l,hv⟩:=H.wf.k.FA (Bx.2 ⟨f,c,rfl⟩);rw[show G1 (.int .i64) (aa f) (Array.mk B.ke).toList 0=some (some (i,.bool true)) from j];have b:=a.put (i:=0) rfl (o':= .map ⟨B.ke.eraseIdx i⟩ B.kk) trivial;have m:(Array.mk B.ke).eraseIdxIfInBounds i=⟨B.ke.eraseIdx i⟩:=by
   apply Array.ext';simp[Array.eraseIdxIfInBounds,l]
  show K (w.putObj B.kb (.map ((Array.mk B.ke).eraseIdxIfInBounds i) B.kk));rw[m];refine k _ ⟨{B with ke:=B.ke.eraseIdx i},rfl,J (kn:=s.kn.filter λx=> !(x==f)) ?_ b⟩;rw[List.filter_map] at hv;exact hv
 ·have n: ∀t∈s.kn.map (λf=>((f,.bool true):KV)),t.1≠f:=λt o e=>by
   obtain⟨y,d,rfl⟩:=Bx.1 o;exact c (by rw[<-e];exact d)
  rw[show G1 (.int .i64) (aa f) (Array.mk B.ke).toList 0=some none from H.wf.k.Ou n];have b:=a.put (i:=0) rfl (o':= .map ⟨B.ke⟩ B.kk) trivial;refine k _ ⟨B,rfl,J (ke:=B.ke) (kk:=B.kk) (kn:=s.kn.filter λx=> !(x==f)) ?_ b⟩;rw[List.filter_eq_self.2 λy d=>by simpa using λe:y=f=>c (e▸d)];exact H.wf.k
theorem ES (H:MU Q X D G w0 w R s T L M) (O:s.ep.pins.length<=8) (P:0<=s.ep.now/\s.ep.now<4611686018427387000) (U:s.ep.ws.length<=1000000) (V: ∀e∈s.ep.ws,0<=e.2/\e.2<=s.ep.now) (q:s.ms.length<=900000000) {K:Int->A0->Prop}
 (k: ∀b,MU Q X D G w0 b R (da s).1 T L M->K (((da s).2:Nat):Int) b):aA A2 151 (.el (.one (.int .i64))) [ah (ae R.mb)] w K:=by
 refine H.go λw1 H=>ai (C:=U2) (aW:=uy) (Ar (SF _ w1 K) ⟨rfl,rfl,H.f1 ?_⟩);have hle:=P2 s.ep;have Uc: ∀{b},MU Q X D G w0 b R s T L M-> ∀{h:Bool->A0->Prop},(∀v d,MU Q X D G w0 d R {s with ep:=iz s.ep} T L M->h v d)->aA A2 197 (.el (.one .bool)) [ah (ae R.eb)] b h:=by
  intro b a h t;obtain⟨B,rfl,a⟩:=a;obtain⟨E,W,m,J⟩:=a.eps;refine UT m.base.again a.wf.p O ⟨P.1,by omega⟩ λv d Y=>t v d ⟨{B with sp:=B.sp,Lp:=B.Lp,we:=B.we,wk:=B.wk},rfl,J (ep:=iz s.ep) (by rw[Th];exact a.wf.p) (by rw[va];exact a.wf.w) (by rw[Wz];exact m.join Y)⟩
 refine Uc H λv b H=>⟨rfl,rfl,H.f1 ?_⟩;have free: ∀{f:MS} {b},MU Q X D G w0 b R f T L M->f.ep=iz s.ep-> ∀{h:Option AF×Nat×Nat->A0->Prop},(∀r g d,dv eI r (oK f.ep) g->MU Q X D G w0 d R {f with ep:=F9 f.ep} (g++T) L M->h r d)->aA A2 198 (.el (.one .slice)) [ah (ae R.eb)] b h:=by
  intro f b a o h t;obtain⟨B,rfl,a⟩:=a;obtain⟨E,W,m,J⟩:=a.eps;refine Su m a.wf.w (by rw[o,va];omega) B5 (λe q=>?_) (by rw[o];omega) λr Rr g Z d hso hpe hs hv K4=>?_
  ·rw[o,va] at q;have:=V e q;rw[o];omega
  ·rw[XN hso hpe] at hs;refine t r g d hs ⟨{B with sp:=B.sp,Lp:=B.Lp,we:=Z,wk:=B.wk},rfl,J (T':=g++T) (ep:=F9 f.ep) a.wf.p hv (K4.perm (cj λy=>?_))⟩;show DB y ((B.eb,oN f.ep.now B.sp B.wb)::(B.Lp++(g++T++E)))= _;simp only[AM,Ae];omega
 refine free H rfl λr g d hs H=>?_;generalize u:oK (iz s.ep)=l at*
 have hlen:=hs.1;have hll:l.length<=1000000:=by
  rw[<-u];unfold oK;rw[jQ,Dk];refine Hq (Gj _ _) ?_;rw[va];exact U
 refine⟨λn st z=> ∃j:Nat,j<=l.length/\n=l.length - j/\st.1=(j:Int)/\MU Q X D G w0 z R ((l.take j).foldl jj {s with ep:=F9 (iz s.ep)}) (g++T) L M,⟨l.length,λz h4=>⟨0,Dx _,rfl,rfl,H.ext h4⟩⟩,?_⟩;clear H;rintro n ⟨i, _⟩ z ⟨j,F,qH,hi,H⟩;have hi:i=(j:Int):=hi;subst hi qH;dsimp only;rw[hlen];refine ab (λc=>?_) (λc=>?_)
 ·have F:j<l.length:=by have:=of_decide_eq_true c;omega
  obtain⟨x,hx⟩: ∃x,l[j]? =some x:=⟨_,Cg F⟩;obtain⟨L0,K0,hT⟩:=H.base;have I:=hs.sl K0 (λy hy=>hT y (Bs _ hy)) j x hx;refine⟨⟨I.1,by omega,by omega⟩,aj.of x (by rw[DE];exact I.2) ⟨rfl,rfl,H.f0 ?_⟩⟩;obtain⟨A,G',L0,S,hk, _,J⟩:=H.sat;refine Ey S hk x λN S=>?_;have H:=J (T':=[]) S;refine⟨rfl,rfl,H.f4 λw6 h6=>(H.ext h6).del x λw7 H=>tV H ?_ (2,0,x,(0,0,0,0,()),0,0) λw8 H w9 h9=>⟨l.length - (j+1),by omega,j+1,by omega,rfl,?_,?_⟩⟩
  ·show(List.foldl jj _ (l.take j)).ms.length<= _;rw[CW,J7];show s.ms.length+ _<= _;omega
  ·rw[ay (by omega) (by omega)];omega
  ·rw[H4,hx,H5];exact H.ext h9
 ·have:j=l.length:=by have:=of_decide_eq_false c;omega
  subst this;rw[J9] at H;refine H.en λN H=>?_;have e:(da s).1=l.foldl jj {s with ep:=F9 (iz s.ep)}:=by unfold da;rw[u]
  have e2:(da s).2=l.length:=by unfold da;rw[u]
  rw[e,e2] at k;exact k N (H.sub (FS _ _))
end
abbrev B8:Type:=(Int×Int×Unit)×Bool×Unit
abbrev Of:Sh:= .bA [.agg iW,.one .bool]
theorem Ti {pins:List Int} {n:Nat} (h:n<pins.length):Ao pins n (-1)=pins.set n (-1):=by
 unfold Ao;split
 ·rename_i c;have e:pins.getD n 0= -1:=by simpa using c
  rw[B4,Cg h] at e;have e:pins[n]= -1:=e;rw[<-e];exact(List.set_getElem_self h).symm
 ·rfl
theorem Tj {e:vF} {n:Nat} (a:0<=e.now):{e with pins:=Ao e.pins n e.now}=oY e n:=by
 unfold Ao oY;have h0:(e.now== -1)=false:=by rw[beq_eq_false_iff_ne];omega
 rw[h0];by_cases c:e.pins.getD n 0= -1
 ·rw[av c,ao (by rw[c];decide)]
 ·rw[ao c,av (by rw[beq_eq_false_iff_ne.2 c])]
theorem WA (e:vF) (f:Int):Ov (e.ws.map FD) f e.now=(mB e f).ws.map FD:=by
 unfold Ov mB;rw[List.any_map];show(if e.ws.any (λx=>x.1==f)=true then _ else _)= _;split<;>rfl
theorem CX (e:vF) (f:Int):(mB e f).now=e.now/\(mB e f).pins=e.pins:=by unfold mB;split<;>exact⟨rfl,rfl⟩
theorem zn: ∀(l:List Int) (e:vF),(l.foldl mB e).now=e.now/\(l.foldl mB e).pins=e.pins
 |[],e=>⟨rfl,rfl⟩
 |f::l,e=>by rw[Ft,(zn l _).1,(zn l _).2];exact CX e f
section
variable {Q:Sys} {X:HX} {D G:List Nat} {w0 w w1:A0} {R:MR} {s:MS} {T L:List (Nat×List AC)} {M:List (Nat×B1)} {i:Nat} {x:bG} {g:Option Bool}
theorem MU.res {b:Nat} {l:List AC} (H:MU Q X D G w0 w R s ((b,l)::T) L M) (d:l.length=2) (V E:Int) (c:Bool) {K:B8->A0->Prop} (k: ∀a,MU Q X D G w0 a R s T L M->K ((V,E,()),c,()) a):
 aC w (ae b) [ax V,aa E] λa=>au a λw1=>aj w1 none (ae b) (El.agg [.int .u64,.int .i64]) λ(x:Int×Int×Unit)=>K ((x.1,x.2.1,()),c,()) w1:=
 H.st 0 rfl rfl d.symm λa H=>H.en λe H=>H.ld 0 rfl (show _=some (V,E,()) from rfl) (k e (H.sub (Ci _ _)))
theorem MU.crd (H:MU Q X D G w0 w R s T L M) (hx:s.cs[i]? =some x) {n:Nat} {el:El} {y:el.T} (hv: ∀a:CA,ly (j7 a i x) n el=some y):cU w (ad (some ⟨R.cb i,0,none⟩) n) el y:=by
 obtain⟨z,h,e⟩:=H.cf (g:=none) (K:=λz=>z=y) hx hv rfl;subst e;exact h
theorem BR (H:MU Q X D G w0 w R s T L M) (hc:i<s.ep.pins.length) {K:Int->A0->Prop} (k: ∀v b,MU Q X D G w0 b R {s with ep:=rX s.ep i} T L M->K v b):
 aA A2 158 (.el (.one (.int .i64))) [ah (ae R.eb),aa (i:Int)] w K:=by
 refine λw1 h1=>?_;obtain⟨B,rfl,a⟩:=H.ext h1;obtain⟨g,h,c,J⟩:=a.eps;refine KT c.base.again a.wf.p i hc (λv d e hs f=>k v e ⟨{B with sp:=B.sp,Lp:=d,we:=B.we,wk:=B.wk},rfl,J (ep:=rX s.ep i) ?_ a.wf.w (c.join f)⟩) w1 (Ext.refl w1);rw[Ti hc] at hs;exact hs
theorem WB (H:MU Q X D G w0 w R s T L M) (d:0<=s.ep.now) (hc:i<s.ep.pins.length) {K:Int->A0->Prop} (k: ∀v b,MU Q X D G w0 b R {s with ep:=oY s.ep i} T L M->K v b):
 aA A2 200 (.el (.one (.int .i64))) [ah (ae R.eb),aa (i:Int)] w K:=by
 refine λw1 h1=>?_;obtain⟨B,rfl,a⟩:=H.ext h1;obtain⟨h,j,c,J⟩:=a.eps;refine US c.base.again a.wf.p i hc (λv e f hs g=>k v f ?_) w1 (Ext.refl w1);rw[<-Tj d];exact⟨{B with sp:=B.sp,Lp:=e,we:=B.we,wk:=B.wk},rfl,J (ep:={s.ep with pins:=Ao s.ep.pins i s.ep.now}) hs a.wf.w (c.join g)⟩
theorem Tk (H:MU Q X D G w0 w R s T L M) (c:s.ep.pins.length<=8) (d:0<=s.ep.now/\s.ep.now<4611686018427387000) (f:s.ep.ws.length<=1000000) (g: ∀e∈s.ep.ws,0<=e.2/\e.2<=s.ep.now) (h:s.ms.length<=900000000) (p:Option AF) {K:B8->A0->Prop}
 (k: ∀a,MU Q X D G w0 a R (da s).1 T L M->K ((0,0,()),false,()) a):aA A2 109 Of [ah (ae R.mb),ah p] w K:=by
 refine H.go λw1 H=>aS (C:=U2) (aW:=λ_=>[]) (Ar (SG _ p w1 K) (H.al λb a H=>ES H c d f g h λi H=>H.res rfl 0 0 false k))
theorem Tl (H:MU Q X D G w0 w R s T L M) (hx:s.cs[i]? =some x) (I:x.ak<4611686018427387904) (hfs:x.fs.length<=1000000) (N: ∀f∈x.fs,0<=f) {K:B8->A0->Prop}
 (k: ∀l,MU Q X D G w0 l R (iF s x).1 T L M->K ((if(iF s x).2.2=true then((iF s x).2.1.1,(iF s x).2.1.2,()) else(0,0,())),(iF s x).2.2,()) l):
 aA A2 113 Of [ah (ae R.mb),ah (some ⟨R.cb i,0,none⟩)] w K:=by
 refine H.go λw1 H=>aS (C:=U2) (aW:=uz) (Ar (SI _ _ w1 K) (H.al λb l H=>⟨rfl,rfl,H.f2 ⟨rfl,rfl,H.cf hx (n:=12) (λ_=>rfl) ⟨yA s x.ak,?_,?_⟩⟩⟩))
 ·obtain⟨B,rfl,d⟩:=H;obtain⟨m,u,e,J⟩:=d.bxs;have q:=e.base.perm (L':=B.Lo++((B.xb,lY B.sb B.so)::(B.Lb++((b,[ax 0,aa 0])::T++m)))) (cj λy=>by simp only[AM,Ae];omega);exact Wa q B5 d.wf.o x.ak I
 ·unfold iF at k;refine ab (λc=>?_) (λc=>?_)
  ·have c:yA s x.ak=false:=by simpa using c
   rw[c] at k;exact H.res rfl 0 0 false k
  ·have c:yA s x.ak=true:=by simpa using c
   rw[c] at k;obtain⟨B,rfl,d⟩:=H;refine⟨rfl,rfl,d.YA hx (n:=13) (show _=some ((B.A i).sf.1,(B.A i).sf.2.1,(B.A i).sf.2.2) from rfl) ?_⟩;have O:(B.A i).sf.2.1=x.fs.length:=(d.wf.a hx).fs.1;refine⟨λn st g=> ∃(j:Nat) (we:List Do) (wk:Nat),j<=x.fs.length/\n=x.fs.length - j/\st.1=(j:Int)/\iM Q X D G w0 g {B with we:=we,wk:=wk} {s with ep:=(x.fs.take j).foldl mB s.ep} ((b, _)::T) L M,⟨x.fs.length,λg P=>⟨0,B.we,B.wk,Dx _,rfl,rfl,d.ext P⟩⟩,?_⟩;rintro n ⟨S, _⟩ g ⟨j,we,wk,z,U,hi,H⟩;have hi:S=(j:Int):=hi;subst hi U;dsimp only;rw[O];refine ab (λc=>?_) (λc=>?_)
   ·have z:j<x.fs.length:=by have:=of_decide_eq_true c;omega
    obtain⟨f,r⟩: ∃f,x.fs[j]? =some f:=⟨_,Cg z⟩;have h:({s with ep:=(x.fs.take j).foldl mB s.ep}:MS).cs[i]? =some x:=hx;obtain⟨m,u,e,hh, _,hc, _⟩:=H.tmp;have E:=(H.wf.a h).fs.sl e.base (λy F=>B3 _ (hc h _ (B2 _ (B2 _ (B3 _ (Bs _ F)))))) j f r;refine⟨⟨E.1,by omega,by omega⟩,aj.of f (by rw[DE];exact E.2) ⟨rfl,rfl,H.rG (show _=some (ae B.eb) from rfl) ?_⟩⟩;obtain⟨m,u,e,J⟩:=H.eps;refine UU e B5 H.wf.w (λt V=>?_) f (N f (Db r)) λv W Y w5 hv q w6 Z=>⟨x.fs.length - (j+1),by omega,j+1,W,Y,by omega,rfl,?_,?_⟩
    ·obtain⟨y,F,rfl⟩:=Bx.1 V;exact⟨_,rfl⟩
    ·rw[ay (by omega) (by omega)];omega
    ·rw[H4,r,H5];rw[WA] at hv;refine iM.ext (J (sp:=B.sp) (ep:=mB ((x.fs.take j).foldl mB s.ep) f) ?_ hv ?_) Z
     ·rw[(CX _ f).2];exact H.wf.p
     ·rw[(CX _ f).1];exact q
   ·have:j=x.fs.length:=by have:=of_decide_eq_false c;omega
    subst this;rw[J9] at H;have H:MU Q X D G w0 g B.rt {s with ep:=x.fs.foldl mB s.ep} ((b, _)::T) L M:=⟨{B with we:=we,wk:=wk},rfl,H⟩;have h:({s with ep:=x.fs.foldl mB s.ep}:MS).cs[i]? =some x:=hx;exact⟨rfl,rfl,H.cf h (n:=10) (y:=(x.rs.1,x.rs.2,())) (λ_=>rfl) (H.res rfl _ _ true k)⟩
end
theorem acL {a:Int} (h:0<=a):aJ .i64 (jY a 16)=a % 16:=by
 have e:jY a 16=a % 16:=by
  unfold jY;exact Int.tmod_eq_emod_of_nonneg h
 rw[e];exact bP (by omega)
theorem atU {f a:Int} (c:0<=f/\f<4096) (b:0<=a):aH .i64 (fX .i64 16 f) (aJ .i64 (jY a 16))=16*f+a % 16:=by
 rw[acL b,eJ (by omega) (by omega),ay (by omega) (by omega)]
section
variable {Q:Sys} {X:HX} {D G:List Nat} {w0 w w1:A0} {R:MR} {s:MS} {T L:List (Nat×List AC)} {M:List (Nat×B1)} {i:Nat} {x:bG} {g:Option Bool}
theorem zV (H:MU Q X D G w0 w R s T L M) {K:Option AF->A0->Prop} (k: ∀a,MU Q X D G w0 a R s T L M->K (ae Q.bm) a):
 aA A2 23 (.el (.one .ptr)) [ah (ae X.hb)] w K:=by
 obtain⟨A,c,L0,S,b, _,J⟩:=H.sat;exact zM S b λa S=>k a (J (T':=[]) S)
theorem Nv (H:MU Q X D G w0 w R s T L M) (hx:s.cs[i]? =some x) (d:0<=x.fr/\x.fr<4096) (e:bT x.c.2.1) (hb:bT x.c.2.2.1) (hc:i<s.ep.pins.length) (o:s.ms.length<=900000000) {K:B8->A0->Prop}
 (k: ∀a,MU Q X D G w0 a R (eT s i x).1 T L M->K (((eT s i x).2.1.1,0,()),true,()) a):
 aA A2 112 Of [ah (ae R.mb),ah (some ⟨R.cb i,0,none⟩)] w K:=by
 refine H.go λw1 H=>aS (C:=U2) (aW:=λ_=>[]) (Ar (MZ _ _ w1 K) (H.al λb a H=>⟨rfl,rfl,H.cf hx (n:=9) (λ_=>rfl) ⟨rfl,rfl,rfl,H.cf hx (n:=5) (λ_=>rfl) ⟨rfl,rfl,H.f1 ⟨rfl,rfl,H.cf hx (n:=0) (λ_=>rfl) ?_⟩⟩⟩⟩));rw[atU d e.1];unfold eT at k;dsimp only at k;refine BR H hc λv p H=>⟨rfl,rfl,rfl,H.cf hx (n:=4) (λ_=>rfl) ?_⟩;refine ab (λc=>?_) (λc=>?_)
 ·have c:x.c.1=7:=by simpa using c
  rw[av c] at k;refine⟨rfl,rfl,H.f0 ⟨rfl,rfl,rfl,H.cf hx (n:=6) (λ_=>rfl) (zV H λf H=>⟨H.crd hx (n:=6) λ_=>rfl,trivial,trivial,trivial,?_⟩)⟩⟩;obtain⟨A,g,L0,S,j, _,J⟩:=H.sat;refine S.store _ _ hb λl S=>?_;have H:=J (T':=[]) S;exact⟨rfl,rfl,rfl,H.cf hx (n:=6) (λ_=>rfl) (tV H (by show s.ms.length<= _;omega) (4,0,16*x.fr+x.c.2.1 % 16,(0,0,0,0,()),x.c.2.2.1,0) λm H=>H.res rfl 0 0 true k)⟩
 ·have c:x.c.1≠7:=by simpa using c
  rw[ao c] at k;refine⟨rfl,rfl,H.f0 (zV H λf H=>?_)⟩;obtain⟨A,g,L0,S,j, _,J⟩:=H.sat;refine S.load _ λl S=>?_;have H:=J (T':=[]) S;exact tV H (by show s.ms.length<= _;omega) (3,0,16*x.fr+x.c.2.1 % 16,(0,0,0,0,()),cL s.h.s.1 (16*x.fr+x.c.2.1 % 16),0) λm H=>H.res rfl _ 0 true k
end
open Go.RX D
theorem Tm {ws:List Int} {p t:Int} {x:Int×Int×FT} (h:0<=x.2.1/\x.2.1<=3):(bD ws p t x).2.1= -1\/((bD ws p t x).2.1=x.2.1 - 1/\0<x.2.1):=by
 unfold bD;rw[ao (by omega)];split
 ·simp
 ·exact Ji h
section
variable {Q:Sys} {X:HX} {D G:List Nat} {w0 w w1:A0} {B:MB} {R:MR} {s:MS} {T L:List (Nat×List AC)} {M:List (Nat×B1)} {i:Nat} {x:bG} {g:Option Bool}
theorem iM.walk (H:iM Q X D G w0 w B s T L M) (hx:s.cs[i]? =some x) (u:x.ph=2): ∃(bk:Nat) (e:Option AF×Nat×Nat) (f:List (Nat×List AC)) (xs:List Int) (p:List (Nat×List AC)) (q:List (Nat×B1)) (ca la:Int),(B.A i).wp=some ⟨bk,0,none⟩/\B7 f e xs/\(xs.length:Int)<=3 - x.wk.2.1/\yC s.h.s/\
 cD D G w0 w ((bk,l9 x.wk.1 (x.c.2.1 / 16) (aT x.c.1) x.wk.2.1 x.wk.2.2 e)::(Q.bm,mv Q.bw s.h.s.1.length Q.c ca la)::(Q.bw,flat eW s.h.s.1++Q.rw)::(f++p)) q/\
 ∀{AO:Int×Int×FT} {b:Option AF×Nat×Nat} {d:List (Nat×List AC)} {k:List Int} {l m:Int} {w':A0},B7 d b k->(k.length:Int)<=3 - AO.2.1->
  cD D G w0 w' ((bk,l9 AO.1 (x.c.2.1 / 16) (aT x.c.1) AO.2.1 AO.2.2 b)::(Q.bm,mv Q.bw s.h.s.1.length Q.c l m)::(Q.bw,flat eW s.h.s.1++Q.rw)::(d++p)) q->MU Q X D G w0 w' B.rt (bh s i {x with wk:=AO}) T L M:=by
 obtain⟨A,ca,la,h1,r,n,v⟩:=H;obtain⟨bk,e,f,xs,t,z,C,o⟩:=(n.a hx).wk u;have E:=lS (B:=B) hx;refine⟨bk,e,f,xs,((B.A i).cb,j7 (B.A i) i x)::((B.A i).tb,dA (B.A i).st s.sz)::((B.A i).Lt++((B.A i).Lf++(T++(Kf X B s++(jg B s ((AJ s.cs.length).erase i)++((Q.bf,flat eD s.h.s.2++Q.rf)::(Q.bp,[.slice (ae Q.bf) s.h.s.2.length Q.cp])::(eo Q X A s.h (bj Q A s.h.g (AJ 17))++L))))))), _,ca,la,t,C,o,r,v.perm ?_,λ{AO b d k l m w'} F I K=>?_⟩
 ·refine Hb ?_ (Dh T (Dh _ (FX _ E.symm)));unfold wU;rw[z];exact cj λy=>by simp only[Sys.L,AM,Ae];omega
 ·refine⟨Fu B i {B.A i with Lw:=(bk,l9 AO.1 (x.c.2.1 / 16) (aT x.c.1) AO.2.1 AO.2.2 b)::d},XM rfl rfl,A,l,m,h1,r,n.up hx rfl ⟨(n.a hx).ls,(n.a hx).fs,λ_=>⟨bk,b,d,k,t,rfl,F,I⟩⟩,K.perm ?_⟩;generalize J:({B.A i with Lw:=(bk,l9 AO.1 (x.c.2.1 / 16) (aT x.c.1) AO.2.1 AO.2.2 b)::d}:CA)=a;have N:(bh s i {x with wk:=AO}).cs[i]? =some {x with wk:=AO}:=fb hx;have o:(bh s i {x with wk:=AO}).cs.length=s.cs.length:=DL ..;have:=lS (B:=Fu B i a) N;rw[na,o,zT (s:=s) (s':=bh s i {x with wk:=AO}) rfl λj O=>(F8 (λc=>O c.symm))] at this;rw[o];refine(Dh T (Dh _ (FX _ this))).trans ?_;subst J;unfold wU;show(T++(Kf X B s++(((B.A i).cb,j7 (B.A i) i x)::((B.A i).tb,dA (B.A i).st s.sz)::((B.A i).Lt++((B.A i).Lf++((bk,l9 AO.1 (x.c.2.1 / 16) (aT x.c.1) AO.2.1 AO.2.2 b)::d)))++jg B s ((AJ s.cs.length).erase i)++(Kg Q X A l m s.h++L)))).Perm _;exact cj λy=>by simp only[Sys.L,AM,Ae];omega
theorem MU.rd (H:MU Q X D G w0 w R s T L M) (i:Nat) {el:El} {b n:Nat} {l:List AC} {x:el.T} (a:T[i]? =some (b,l)) (hv:ly l n el=some x):cU w (ad (ae b) n) el x:=by
 obtain⟨z,h,e⟩:=H.cz (g:=none) i a hv rfl;subst e;exact h
theorem MU.wp (H:MU Q X D G w0 w R s T L M) (hx:s.cs[i]? =some x) (b:x.ph=2): ∃(bk:Nat) (a:Option AF×Nat×Nat) (L0:List (Nat×List AC)),aM D G w0 w L0/\(bk,l9 x.wk.1 (x.c.2.1 / 16) (aT x.c.1) x.wk.2.1 x.wk.2.2 a)∈L0/\ ∀{g:Option Bool} {K:Option AF->Prop},K (ae bk)->aj w g (ad (some ⟨R.cb i,0,none⟩) 8) (.one .ptr) K:=by
 obtain⟨B,rfl,H⟩:=H;obtain⟨bk,a,d,xs,e,f,ca,la,h, _, _, _,K, _⟩:=H.walk hx b;exact⟨bk,a, _,K.base,by simp,λk=>H.YA hx rfl (by grind)⟩
theorem Tn (H:MU Q X D G w0 w R s T L M) (hx:s.cs[i]? =some x) (f:(x.ls.length:Int)<=s.sz) (g:0<s.sz/\s.sz<=64) (l:LT) (h:lnR l=true) {K:Int->A0->Prop}
 (k: ∀b,MU Q X D G w0 b R (bh s i {x with ls:=pC x.ls s.sz l}) T L M->K 0 b):
 aA A2 159 (.el (.one (.int .i64))) [ah (some ⟨R.tb i,0,none⟩),lnV l] w K:=by
 obtain⟨a,c,j,p,hb,W,m,J⟩:=H.Df hx;have d:cD D G w0 w ((R.tb i,dA a.st s.sz)::(a.Lt++((a.cb,j7 a i x)::(a.Lf++(a.Lw++(T++c)))))) j:=m.perm (cj λy=>by rw[<-hb];simp[wU,Ae];omega);refine λw1 h1=>Qs (d.ext h1).base.again W.ls f g l h (λs' e b n o=>k b (J (a':={a with st:=s',Lt:=e}) rfl rfl ⟨n,W.fs,W.wk⟩ (((d.ext h1).join o).perm (cj λy=>?_)))) w1 (Ext.refl w1);show DB y ((a.cb,j7 a i x)::(a.tb,dA s' s.sz)::(e++(a.Lf++a.Lw))++(T++c))= _
 grind
theorem To (H:MU Q X D G w0 w R s T L M) (hx:s.cs[i]? =some x) (r:x.ph=2) (U:0<=x.wk.2.1/\x.wk.2.1<=3) (V:bT x.c.2.1) (hc:i<s.ep.pins.length) (W:(x.ls.length:Int)<=s.sz) (Y:0<s.sz/\s.sz<=64)
 (u:(bD s.h.s.1 (x.c.2.1 / 16) (aT x.c.1) x.wk).2.1= -1->(bD s.h.s.1 (x.c.2.1 / 16) (aT x.c.1) x.wk).2.2.2.2.2.1=0->lnR (x.vm,x.c.2.1 / 16,(bD s.h.s.1 (x.c.2.1 / 16) (aT x.c.1) x.wk).2.2.1,(bD s.h.s.1 (x.c.2.1 / 16) (aT x.c.1) x.wk).2.2.2.1,())=true) {K:B8->A0->Prop}
 (k: ∀q,MU Q X D G w0 q R (jk s i x).1 T L M->K ((0,(jk s i x).2.1.2,()),(jk s i x).2.2,()) q):
 aA A2 111 Of [ah (ae R.mb),ah (some ⟨R.cb i,0,none⟩)] w K:=by
 refine H.go λw1 H=>aS (C:=U2) (aW:=λ_=>[]) (Ar (SH _ _ w1 K) (H.al λb q H=>?_));unfold jk at k;generalize E:bD s.h.s.1 (x.c.2.1 / 16) (aT x.c.1) x.wk=Z at*
 have F:=Tm (ws:=s.h.s.1) (p:=x.c.2.1 / 16) (t:=aT x.c.1) U;rw[E] at F;obtain⟨wf,wl,AE,d,j,f,⟨⟩⟩:=Z;dsimp only at k u F;obtain⟨B,rfl,m⟩:=H;refine⟨rfl,rfl,m.YA hx (n:=8) (show _=some (B.A i).wp from rfl) ⟨rfl,rfl,m.rG (show _=some (ae X.hb) from rfl) ?_⟩⟩;obtain⟨A,G',L0,S,hk, _, _, _, _,J⟩:=m.sat;refine zM S hk λI S=>?_;have m:iM Q X D G w0 I B s ((b,[ax 0,aa 0])::T) L M:=J (T':=[]) S;have pv:cU I (ad (some ⟨(B.A i).cb,0,none⟩) 8) (.one .ptr) (B.A i).wp:=by
  obtain⟨z,h,e⟩:=m.YA (g:=none) (el:= .one .ptr) (K:=λz=>z=(B.A i).wp) hx (n:=8) (show _=some (B.A i).wp from rfl) rfl;subst e;exact h
 refine⟨pv,trivial,trivial,?_⟩;obtain⟨bk,s2,Lq,xs,R',Mo,ca,la,e1,hp,hxl,N,O,J⟩:=m.walk hx r;rw[e1];refine Eg O.base.again hp (by omega) rfl N.1 N.2.2.2 (by omega) λw4 cK s3 oD o=>?_;have hw':bD s.h.s.1 (x.c.2.1 / 16) (aT x.c.1) (x.wk.1,x.wk.2.1,x.wk.2.2)=(wf,wl,AE,d,j,f,()):=E;rw[hw'] at o ⊢;have H:=J (AO:=(wf,wl,AE,d,j,f,())) oD (by rw[FY,H6];dsimp only;omega) (O.join o);have l:=fb (y:={x with wk:=(wf,wl,AE,d,j,f,())}) hx;refine ab (λc=>?_) (λc=>?_)
 ·have c:wl≠ -1:=by simpa using c
  rw[av c] at k;exact H.res rfl 0 0 false k
 ·have c:wl= -1:=by simpa using c
  subst c;rw[ao (by decide)] at k;obtain⟨bk',s2',L2,o,hm,X8⟩:=H.wp l r;have YX:=af.of λw5 h5=>Vg ((o.ext h5).dj _ hm);refine⟨rfl,rfl,X8 ⟨((AE,d,j,f,()),true,()),YX,H.al λb1 w5 H=>H.st 0 rfl rfl rfl λw6 H=>⟨rfl,H.cz 0 rfl (show _=some f from rfl) ?_⟩⟩⟩;refine ab (λc=>?_) (λc=>?_)
  ·have c:f≠0:=by simpa using c
   rw[av c] at k;refine⟨rfl,rfl,H.f1 ⟨rfl,rfl,H.cf l (n:=0) (λ_=>rfl) (BR H hc λv w7 H=>⟨rfl,H.cz 0 rfl (show _=some f from rfl) ?_⟩)⟩⟩;exact MU.res (H.sub (Ci _ _)) rfl 0 f true k
  ·have c:f=0:=by simpa using c
   rw[ao (by rw[c];decide)] at k;have AI:=JX H l V;refine⟨rfl,rfl,H.c1 l ⟨rfl,rfl,H.cf l (n:=3) (λ_=>rfl) ⟨x.c.2.1 / 16,AI,rfl,H.cz 0 rfl (show _=some AE from rfl) ⟨rfl,H.cz 0 rfl (show _=some d from rfl) ?_⟩⟩⟩⟩;refine Tn H l W Y (x.vm,x.c.2.1 / 16,AE,d,()) (u rfl c) λw7 H=>⟨rfl,H.cz 0 rfl (show _=some AE from rfl) ?_⟩;have P:=fb (y:={x with wk:=(wf,-1,AE,d,j,f,()),ls:=pC x.ls s.sz (x.vm,x.c.2.1 / 16,AE,d,())}) l;refine⟨rfl,rfl,H.cs P {x with wk:=(wf,-1,AE,d,j,f,()),ls:=pC x.ls s.sz (x.vm,x.c.2.1 / 16,AE,d,()),ph:=3} 2 rfl rfl (λ_=>rfl) (λa h=>⟨h.ls,h.fs,λc=>(by cases c)⟩) λw8 H=>⟨H.rd 0 rfl (show _=some AE from rfl),trivial,rfl,rfl,?_⟩⟩;have Ki:=fb (y:={x with wk:=(wf,-1,AE,d,j,f,()),ls:=pC x.ls s.sz (x.vm,x.c.2.1 / 16,AE,d,()),ph:=3}) P;refine H.cs Ki {x with wk:=(wf,-1,AE,d,j,f,()),ls:=pC x.ls s.sz (x.vm,x.c.2.1 / 16,AE,d,()),ph:=3,fr:=AE} 9 rfl rfl (λ_=>rfl) (λa h=>⟨h.ls,h.fs,λc=>(by cases c)⟩) λw9 H=>?_;simp only[lr] at H;exact MU.res (H.sub (Ci _ _)) rfl 0 0 false k
end
theorem Tp (ls:List LT) (t p w:Int):AV ls t p w=((ka ls t p w).1,(ka ls t p w).2,()):=by
 unfold AV ka;rw[show(λx=>my x t p)=Aw t p from rfl]
 grind
def DI (s:MS) (n:Nat) (x:bG) (i:Nat):Bool:=match s.cs[i]? with
 |none=>false
 |some y=>decide (i≠n/\x.vm=0)&&((x.c.1==1&&(y.ph==4&&y.c.1==2))||(x.c.1==2&&(decide (y.ph>=2)&&(decide (y.vm>0)&&y.vm==x.c.2.1))))
section
variable {Q:Sys} {X:HX} {D G:List Nat} {w0 w w1:A0} {B:MB} {R:MR} {s:MS} {T L:List (Nat×List AC)} {M:List (Nat×B1)} {i:Nat} {x:bG} {g:Option Bool}
theorem MU.cbk (H:MU Q X D G w0 w R s T L M) (hx:s.cs[i]? =some x): ∃l,bO w (R.cb i) l:=by
 obtain⟨a,d,e,b,hb,W,c,J⟩:=H.Df hx;rw[<-b];exact⟨_,c.base.dj _ B5⟩
theorem MU.cne (H:MU Q X D G w0 w R s T L M) (hx:s.cs[i]? =some x) {j:Nat} {y:bG} (b:s.cs[j]? =some y) (c:j≠i):R.cb j≠R.cb i:=by
 obtain⟨B,rfl,A,ca,la,h1,k,l,d⟩:=H;have f:=lS (B:=B) hx;have g:=d.perm (L':=wU (B.A i) i x s.sz++(T++(Kf X B s++(jg B s ((AJ s.cs.length).erase i)++(Kg Q X A ca la s.h++L))))) (by
  refine Hb ?_ (Dh T (Dh _ (FX _ f.symm)));exact cj λa=>by simp only[AM];omega)
 have nd:=g.base.nd;have m:((B.A j).cb,j7 (B.A j) j y)∈jg B s ((AJ s.cs.length).erase i):=by
  unfold jg;refine Iy.2 ⟨j,?_,by rw[b];exact B5⟩;rw[In.mem_erase_iff];exact⟨c,Dn.2 (Aq.1 b).1⟩
 intro e;unfold wU at nd;rw[List.cons_append,List.map_cons,FJ] at nd;refine nd.1 (Bx.2 ⟨((B.A j).cb,j7 (B.A j) j y),?_,e⟩);exact B3 _ (B3 _ (by grind))
theorem MU.f3 (H:MU Q X D G w0 w R s T L M): ∃sc:Option AF×Nat×Nat,sc.2.1=s.cs.length/\(∀{g:Option Bool} {K:Option AF×Nat×Nat->Prop},K sc->aj w g (ad (ae R.mb) 3) (.one .slice) K)/\ ∀{w1},Ext w w1-> ∀i,i<s.cs.length->sc.1.isSome=true/\cU w1 (ad sc.1 (i*1)) (.one .ptr) (some ⟨R.cb i,0,none⟩):=by
 obtain⟨B,rfl,H⟩:=H;have W:=H.wf;refine⟨B.sc,by rw[W.c.1,Dk,Dw],λk=>H.rG rfl k,λh1 i hi=>?_⟩;obtain⟨a,b,K,d, _, _⟩:=(H.ext h1).tmp;exact W.c.sl K.base (by grind) i _ (by simp_all)
theorem Ih (H:MU Q X D G w0 w R s T L M) (hx:s.cs[i]? =some x) (O:s.cs.length<=8) (hv: ∀y∈s.cs,y.vm<9223372036854775808):af A2 154 [ah (ae R.mb),ah (some ⟨R.cb i,0,none⟩)] w (.bool (oZ s i x)):=by
 refine af.of (s:= .el (.one .bool)) λw1 h1=>ai (C:=U2) (aW:=oB) (Ar (Fe _ _ w1 _) ?_);have H:=H.ext h1;have t:oZ s i x=(AJ s.cs.length).any (DI s i x):=rfl;obtain⟨sc,u,v,z⟩:=H.f3;refine⟨rfl,rfl,v ?_⟩;rw[u];refine⟨λn st h=> ∃j:Nat,j<=s.cs.length/\n=s.cs.length - j/\st.1=(j:Int)/\(∀k,k<j->DI s i x k=false)/\Ext w1 h,⟨s.cs.length,λh g=>⟨0,Dx _,rfl,rfl,λk p=>absurd p (Ko k),g⟩⟩,?_⟩;rintro n ⟨A, _⟩ h ⟨j,m,B,hi,E,g⟩;have hi:A=(j:Int):=hi;subst hi B;dsimp only;have H:=H.ext g;refine ab (λc=>?_) (λc f l=>⟨?_,Ext.trans g l⟩)
 ·have m:j<s.cs.length:=by have:=of_decide_eq_true c;omega
  obtain⟨y,d⟩: ∃y,s.cs[j]? =some y:=⟨_,Cg m⟩;have P:=hv y (Db d);have q:=z g j m;have hb:DI s i x j=(decide (j≠i/\x.vm=0)&&((x.c.1==1&&(y.ph==4&&y.c.1==2))||(x.c.1==2&&(decide (y.ph>=2)&&(decide (y.vm>0)&&y.vm==x.c.2.1))))):=by
   unfold DI;rw[d]
  have next:DI s i x j=false-> ∀f,Ext h f-> ∃r:Nat,r<s.cs.length - j/\ ∃o:Nat,o<=s.cs.length/\r=s.cs.length - o/\aH .i64 (j:Int) 1=(o:Int)/\(∀k,k<o->DI s i x k=false)/\Ext w1 f:=λhb f l=>by
   refine⟨s.cs.length - (j+1),by omega,j+1,by omega,rfl,?_,λk p=>?_,Ext.trans g l⟩
   ·rw[ay (by omega) (by omega)];omega
   ·by_cases e:k=j
    ·subst e;exact hb
    ·exact E k (by omega)
  have yes:DI s i x j=true-> ∀f,Ext h f->true=oZ s i x/\Ext w1 f:=λhb f l=>⟨by
   rw[t];exact(GH.2 ⟨j,Dn.2 m,hb⟩).symm,Ext.trans g l⟩
  have F:decide ((some ⟨R.cb j,0,none⟩:Option AF)=some ⟨R.cb i,0,none⟩)=decide (j=i):=by
   by_cases e:j=i
   ·subst e;simp
   ·have:=H.cne hx d e;rw[decide_eq_false e,decide_eq_false_iff_not];intro c;exact this (congrArg Addr.block (Option.some.inj c))
  refine⟨⟨q.1,by omega,by omega⟩,aj.of (some ⟨R.cb j,0,none⟩) (by rw[DE];exact q.2) ⟨?_,λ_=>rfl,λ_=>rfl,H.cf hx (n:=3) (λ_=>rfl) ?_⟩⟩
  ·intro a b I hb _;cases I;cases hb;obtain⟨S,t1,J⟩:=H.cbk d;obtain⟨U,t2,K⟩:=H.cbk hx;exact⟨⟨_, _,J⟩,⟨_, _,K⟩⟩
  ·rw[F];refine ab (λc=>next ?_) (λc=>?_)
   grind
   ·have c0:j≠i/\x.vm=0:=by simpa using c
    rw[decide_eq_true c0,Bool.true_and] at hb;refine⟨rfl,rfl,rfl,H.cf hx (n:=4) (λ_=>rfl) ⟨λ_=>rfl,λ_=>rfl,H.cf d (n:=2) (λ_=>rfl) ⟨λ_=>rfl,λ_=>rfl,λ_=>rfl,H.cf d (n:=4) (λ_=>rfl) ?_⟩⟩⟩;refine ab (λc=>yes ?_) (λc1=>?_)
    ·rw[hb,Ks];left;rw[<-Fz];exact c
    ·refine⟨rfl,rfl,rfl,H.cf hx (n:=4) (λ_=>rfl) ⟨λ_=>rfl,λ_=>rfl,H.cf d (n:=2) (λ_=>rfl) ⟨λ_=>rfl,λ_=>rfl,H.cf d (n:=3) (λ_=>rfl) ⟨λ_=>rfl,λ_=>rfl,H.cf d (n:=3) (λ_=>rfl) ⟨λ_=>rfl,λ_=>rfl,λ_=>rfl,H.cf hx (n:=5) (λ_=>rfl) ?_⟩⟩⟩⟩⟩;have e:(x.c.1==2&&decide (y.ph>=2)&&decide (y.vm>0)&&aJ .u64 y.vm==x.c.2.1)=DI s i x j:=by
      rw[hb];rw[show(x.c.1==1&&(y.ph==4&&y.c.1==2))=false from by rw[<-Fz];exact c1,Bool.false_or];by_cases N:y.vm>0
      ·rw[dU (by omega)];simp only[Fz]
      ·rw[decide_eq_false N];simp
     rw[e];exact ab (λc=>yes c) (λc=>next c)
 grind
theorem Tq (H:MU Q X D G w0 w R s T L M) (hx:s.cs[i]? =some x) (t:0<=s.ep.now) (hc:i<s.ep.pins.length) (u:(x.ls.length:Int)<=64) (z:0<s.sz) (l:bT x.c.2.1) (B:rR (aR s.h.g x.vm) (x.c.2.1 / 16) (aT x.c.1)=false) (E:iA s.h x=true) {K:Unit->A0->Prop}
 (k: ∀b,MU Q X D G w0 b R (cQ s i x).1 T L M->K () b):
 aA A2 153 (.bA []) [ah (ae R.mb),ah (some ⟨R.cb i,0,none⟩)] w K:=by
 unfold cQ at k;rw[av E] at k;refine H.go λw1 H=>ai (C:=U2) (aW:=λ_=>[]) (Ar (SJ _ _ w1 K) ⟨rfl,rfl,H.f1 ⟨rfl,rfl,H.cf hx (n:=0) (λ_=>rfl) (WB H t hc λv b H=>?_)⟩⟩);have F:af A2 201 [ah (some ⟨R.tb i,0,none⟩),aa x.vm,aa (x.c.2.1 / 16),aa (aT x.c.1)] b ((Sh.bA [.one (.int .i64),.one (.int .i64)]).iu ((ka x.ls x.vm (x.c.2.1 / 16) (aT x.c.1)).1,(ka x.ls x.vm (x.c.2.1 / 16) (aT x.c.1)).2,())):=by
  rw[<-Tp];obtain⟨a,d,m,l,hb,W,e,J⟩:=H.Df hx;have f:cD D G w0 b ((R.tb i,dA a.st s.sz)::(a.Lt++((a.cb,j7 a i x)::(a.Lf++(a.Lw++(T++d)))))) m:=e.perm (cj λy=>by rw[<-hb];simp only[wU,AM,Ae];omega);exact UW f.base W.ls u z _ _ _
 have o:=JX H hx l;have p:=JY H hx;refine⟨rfl,rfl,H.c1 hx ⟨rfl,rfl,H.cf hx (n:=3) (λ_=>rfl) ⟨_,o, _,p, _,F,?_⟩⟩⟩;dsimp only at k ⊢;refine ab (λc=>?_) (λc=>?_)
 ·have c:(ka x.ls x.vm (x.c.2.1 / 16) (aT x.c.1)).2=0:=by simpa using c
  rw[av c] at k;refine⟨rfl,rfl,H.cs hx {x with ph:=3} 2 rfl rfl (λ_=>rfl) (λa h=>⟨h.ls,h.fs,λc=>(by cases c)⟩) λj H=>⟨rfl,rfl,?_⟩⟩;refine H.cs (fb hx) {x with ph:=3,fr:=(ka x.ls x.vm (x.c.2.1 / 16) (aT x.c.1)).1} 9 rfl rfl (λ_=>rfl) (λa h=>⟨h.ls,h.fs,λc=>(by cases c)⟩) λI H=>H.en λq H=>?_;rw[lr] at H;exact k q H
 ·have c:(ka x.ls x.vm (x.c.2.1 / 16) (aT x.c.1)).2≠0:=by simpa using c
  rw[ao c] at k;have N:af A2 21 [ah (ae X.hb),aa x.vm] b (aa (aR s.h.g x.vm)):=by
   obtain⟨A,G',L0,S,O,hg, _⟩:=H.sat;exact Jv S O hg x.vm
  refine⟨rfl,rfl,H.f0 ⟨rfl,rfl,H.cf hx (n:=3) (λ_=>rfl) ⟨_,N, _,o, _,p,?_⟩⟩⟩;obtain⟨a,d,m,P,hb,W,e,J⟩:=H.Df hx;refine λj r=>Je (e.ext r).base.again _ _ _ (λhb=>by rw[B] at hb;cases hb) (λ_ bk I f=>?_) j (Ext.refl j);have U:=(e.ext r).join f;rw[<-P];refine⟨rfl,rfl,NQ (n:=2) (U.perm (L':=(a.cb,j7 a i x)::(a.tb,dA a.st s.sz)::(a.Lt++(a.Lf++(a.Lw++((bk,l9 (aR s.h.g x.vm) (x.c.2.1 / 16) (aT x.c.1) 3 (0,0,0,0,()) (none,0,0))::(T++d)))))) (cj λy=>by simp only[wU,AM,Ae];omega)) 0 rfl rfl rfl λq V=>⟨rfl,rfl,NQ (n:=8) V 0 rfl rfl rfl λw6 Y=>enM Y λZ K6=>k Z ?_⟩⟩;have K7:=(K6.perm (L':=a.Lw++((a.cb,((j7 a i x).set 2 (aa 2)).set 8 (ah (ae bk)))::(a.tb,dA a.st s.sz)::(a.Lt++(a.Lf++((bk,l9 (aR s.h.g x.vm) (x.c.2.1 / 16) (aT x.c.1) 3 (0,0,0,0,()) (none,0,0))::(T++d)))))) (cj λy=>by simp only[FV,AM,Ae];omega)).sub (FS _ _);refine J (a':={a with wp:=some ⟨bk,0,none⟩,Lw:=[(bk,l9 (aR s.h.g x.vm) (x.c.2.1 / 16) (aT x.c.1) 3 (0,0,0,0,()) (none,0,0))]}) rfl rfl ⟨W.ls,W.fs,λ_=>⟨bk,(none,0,0),[],[],rfl,rfl,.inl ⟨rfl,rfl,rfl⟩,by show((0:Nat):Int)<=3 - 3;decide⟩⟩ (K7.perm (cj λy=>?_));show DB y ((a.cb,((j7 a i x).set 2 (aa 2)).set 8 (ah (ae bk)))::(a.tb,dA a.st s.sz)::(a.Lt++(a.Lf++[(bk,l9 (aR s.h.g x.vm) (x.c.2.1 / 16) (aT x.c.1) 3 (0,0,0,0,()) (none,0,0))]))++(T++d))= _
  simp_all
end
theorem _root_.Go.Proofs.YtlcenllcmeebhaaGreat.iN.perm {es:List Do} {ck:Nat} {a b:List KV} (h:iN es ck a) (c:b.Perm a):iN es ck b:=by
 obtain⟨⟨p,h1,d⟩,e,f,g⟩:=h;exact⟨⟨p,h1.trans c.symm,d⟩,by grind⟩
def xi (kn:List Int) (ds:List DT) (n:Nat):List Int:=((AJ n).map λ(f:Nat)=>(f:Int)).filter λf=>(qI ds f).1==5&& !kn.contains f
theorem Nw (kn:List Int) (ds:List DT) (n:Nat):xi kn ds (n+1)=xi kn ds n++(if((qI ds (n:Int)).1==5&& !kn.contains (n:Int))=true then[(n:Int)] else[]):=by grind[xi,H7]
theorem WC {kn:List Int} {ds:List DT} {n:Nat} {f:Int} (h:f∈xi kn ds n):0<=f/\f<(n:Int):=by
 obtain:=Bx.1 (Gd.1 h).1
 grind
theorem Tr (kn:List Int) (ds:List DT) (n:Nat):(xi kn ds n).length<=n:=by
 refine Hq (Gj _ _) ?_
 grind
section
variable {Q:Sys} {X:HX} {D G:List Nat} {w0 w w1:A0} {B:MB} {R:MR} {s:MS} {T L:List (Nat×List AC)} {M:List (Nat×B1)} {i:Nat} {x:bG} {g:Option Bool}
theorem MU.tmp (H:MU Q X D G w0 w R s T L M): ∃a b,cD D G w0 w (T++a) b/\ ∀{T' w'},cD D G w0 w' (T'++a) b->MU Q X D G w0 w' R s T' L M:=by
 obtain⟨B,e,H⟩:=H;obtain⟨a,b,K, _, _, _,J⟩:=H.tmp;exact⟨a,b,K,λK=>⟨B,e,J K⟩⟩
theorem MU.look (H:MU Q X D G w0 w R s T L M) (f:Int):j8 w (some R.kb) .i64 f (.bool false) (.bool (s.kn.contains f)):=by
 obtain⟨B,rfl,H⟩:=H;obtain⟨d,g,a,J⟩:=H.kns;by_cases c:f∈s.kn
 ·obtain⟨i,b, _⟩:=H.wf.k.FA (Bx.2 ⟨f,c,rfl⟩);exact vq (a.get (i:=0) rfl) b (by grind)
 ·refine BQ (a.get (i:=0) rfl) (H.wf.k.Ou λe=>?_) (by grind)
  grind
theorem MU.ins (H:MU Q X D G w0 w R s T L M) {f:Int} (c:f∉s.kn) {K:A0->Prop} (k: ∀a,MU Q X D G w0 a R {s with kn:=s.kn++[f]} T L M->K a):
 ∃(r:Nat) (es:Array Do) (b:Nat),some R.kb=some r/\bI w r es b/\ib w r .i64 f (.bool true) es b K:=by
 obtain⟨B,rfl,H⟩:=H;obtain⟨l,m,d,J⟩:=H.kns;have g: ∀t∈s.kn.map λf=>((f,.bool true):KV),t.1≠f:=λe=>by
  grind
 refine⟨B.kb,⟨B.ke⟩,B.kk,rfl,d.get (i:=0) rfl,xC (H.wf.k.Ou g) ?_⟩;have h:=d.put (i:=0) rfl (o':= .map ⟨B.ke++[{key:=aa f,val:= .bool true,born:=B.kk}]⟩ (B.kk+1)) trivial;have j:(Array.mk B.ke).push {key:=aa f,val:= .bool true,born:=B.kk}=⟨B.ke++[{key:=aa f,val:= .bool true,born:=B.kk}]⟩:=by simp
 rw[j];refine k _ ⟨{B with ke:=B.ke++[{key:= .int _ f,val:= .bool _,born:=B.kk}],kk:=B.kk+1},rfl,J ((H.wf.k.push _ g).perm ?_) h⟩
 simp_all
theorem Fh (H:MU Q X D G w0 w R s T L M) (v:s.h.s.2.length<=4096) {K:Option AF×Nat×Nat->A0->Prop}
 (k: ∀r a i,dv eI r (xi s.kn s.h.s.2 s.h.s.2.length) a->MU Q X D G w0 i R {s with kn:=s.kn++xi s.kn s.h.s.2 s.h.s.2.length} (a++T) L M->K r i):
 aA A2 156 (.el (.one .slice)) [ah (ae R.mb)] w K:=by
 refine H.go λw1 H=>ai (C:=U2) (aW:=oC) (Ar (Ff _ w1 K) ⟨rfl,rfl,H.f0 ?_⟩);obtain⟨A,G',L0,S,x, _,J⟩:=H.sat;refine zL S x λe d l m i S=>?_;have H:=J (T':=[_, _]) S;clear J S x;generalize I:s.h.s.2.length=N at*
 have O: ∀{z:A0} {P:MS} {U:List (Nat×List AC)},MU Q X D G w0 z R P ((e,[.slice (ae d) N l])::(d,flat eD s.h.s.2++m)::U) L M-> ∀f:Int,af A2 25 [ah (ae e),aa f] z ((Sh.bA [eD,.one .bool]).iu (qI s.h.s.2 f,Ag s.h.s.2 f,())):=λH f=>by
  obtain⟨L0,o,p⟩:=H.base;subst I;exact af.of λw' h'=>PC ((o.dj _ (p _ B5)).ext h') ((o.dj _ (p _ (B2 _ B5))).ext h') f
 have V:af A2 62 [ah (ae e)] i (aa (N:Int)):=by
  obtain⟨L0,o,p⟩:=H.base;exact af.of (s:= .el (.one (.int .i64))) λw' h'=>se ((o.dj _ (p _ B5)).ext h')
 refine⟨_,V,?_⟩;refine⟨λn st q=> ∃(j:Nat) (a:List (Nat×List AC)),j<=N/\n=N - j/\st.2.1=(j:Int)/\dv eI st.1 (xi s.kn s.h.s.2 j) a/\MU Q X D G w0 q R {s with kn:=s.kn++xi s.kn s.h.s.2 j} ((e,[.slice (ae d) N l])::(d,flat eD s.h.s.2++m)::(a++T)) L M,⟨N,λq v=>⟨0,[],Dx _,rfl,rfl,dv.nil eI,by
  have:xi s.kn s.h.s.2 0=[]:=rfl;rw[this,FH];exact H.ext v⟩⟩,?_⟩
 clear H;rintro n ⟨r,W, _⟩ q ⟨j,a,Y,Z,hi,hs,H⟩;have hi:W=(j:Int):=hi;have hs:dv eI r (xi s.kn s.h.s.2 j) a:=hs;subst hi Z;dsimp only;refine ab (λc=>?_) (λc=>?_)
 ·have Y:j<N:=by have:=of_decide_eq_true c;omega
  have Ix:=Tr s.kn s.h.s.2 j;have hc:(s.kn++xi s.kn s.h.s.2 j).contains (j:Int)=s.kn.contains (j:Int):=by
   rw[Bool.eq_iff_iff,HB,HB,GD];refine⟨λh=>h.resolve_right λh=>?_,.inl⟩;have:=WC h;omega
  refine⟨_,O H (j:Int),H.al λb B H=>H.st 0 rfl rfl rfl λw6 H=>⟨rfl,H.cz 0 rfl (show _=some (qI s.h.s.2 (j:Int)).1 from rfl) ⟨λ_=>rfl,λ_=>rfl,H.f4 ⟨s.kn.contains (j:Int),λ_=>?_,?_⟩⟩⟩⟩
  ·have:=H.look (j:Int)
   grind
  ·have H:=H.sub (Ci _ _);have g:=Nw s.kn s.h.s.2 j;refine ab (λc=>⟨rfl,rfl,H.f4 λw7 t=>?_⟩) (λc w7 t=>⟨N - (j+1),by omega,j+1,a,by omega,rfl,?_,?_,?_⟩)
   ·rw[av c] at g;have XS:s.kn.contains (j:Int)=false:=by
     simp only[FG,Bool.not_eq_true'] at c;exact c.2
    refine(H.ext t).ins (f:=(j:Int)) (λh=>?_) λw8 H=>H.al λu w9 H ny Is=>?_
    ·rw[<-HB,hc,XS] at h;cases h
    ·have H:=H.ext Is;obtain⟨R',Mo,E,J⟩:=H.tmp;have hb:bO ny u (cellsOf eI (j:Int)):=E.base.dj _ B5;have K2:=E.perm (L':=a++((u,[aa (j:Int)])::(e,[.slice (ae d) N l])::(d,flat eD s.h.s.2++m)::(T++R'))) (cj λy=>by simp only[AM,Ae];omega);refine Fw K2 hs rfl (ys:=[(j:Int)]) rfl (sd hb) rfl rfl (by rw[H6];omega) λs' F oO fD K3 Dp Iu=>⟨N - (j+1),by omega,j+1,F,by omega,rfl,?_,?_,?_⟩
     ·rw[ay (by omega) (by omega)];omega
     ·rw[g];exact fD
     ·have H2:=J (T':=(u,[aa (j:Int)])::(e,[.slice (ae d) N l])::(d,flat eD s.h.s.2++m)::(F++T)) (K3.perm (cj λy=>by simp only[AM,Ae];omega));rw[g, <-K1];exact MU.ext (H2.sub (Ci _ _)) Iu
   ·rw[ay (by omega) (by omega)];omega
   ·rw[g,ao (by rw[c];decide),FH];exact hs
   ·rw[g,ao (by rw[c];decide),FH];exact H.ext t
 ·have:j=N:=by have:=of_decide_eq_false c;omega
  subst this;exact H.en λB H=>k r a B hs (H.sub ((List.Sublist.refl _).cons _ |>.cons _))
end
structure Bn (s:MS):Prop where
 c8:s.cs.length<=8
 pn:s.ep.pins.length=s.cs.length
 bn:s.bx.length=s.cs.length
 now:0<=s.ep.now/\s.ep.now<4611686018427387000
 ws:s.ep.ws.length<=1000000
 wn: ∀e∈s.ep.ws,0<=e.2/\e.2<=s.ep.now
 ms:s.ms.length<=900000000
 op:s.op.length<=900000000
 bl: ∀q∈s.bx,q.length<=16
 sz:0<s.sz/\s.sz<=64
 ls: ∀y∈s.cs,(y.ls.length:Int)<=s.sz
 vm: ∀y∈s.cs,y.vm<9223372036854775808
 cu: ∀y∈s.cs,bT y.c.2.1/\bT y.c.2.2.1/\bT y.c.2.2.2.1
section
variable {Q:Sys} {X:HX} {D G:List Nat} {w0 w w1:A0} {B:MB} {R:MR} {s:MS} {T L:List (Nat×List AC)} {M:List (Nat×B1)} {i:Nat} {x:bG} {g:Option Bool}
theorem MU.sys (H:MU Q X D G w0 w R s T L M):yC s.h.s:=by
 obtain⟨B,e,A,ca,la,h1,a,b⟩:=H;exact a
theorem aaq (H:MU Q X D G w0 w R s T L M) (g:Cl Q s.h) (v k:Int) {a b c:Int} (i:bT a) (hb:bT b) (hc:bT c) {K:Int×Int×Unit->A0->Prop}
 (kk: ∀d,MU Q X D G w0 d R {s with h:=ij s.h v k a b c} T L M->K (wS s.h v k a b c,qb s.h v k a b c,()) d):
 aA A2 42 (.el (.agg iW)) [ah (ae X.hb),aa v,.agg ⟨ik k a b c⟩] w K:=λw1 h1=>by
 obtain⟨B,e,H⟩:=H.ext h1;obtain⟨j,L',f,J⟩:=H.hv;exact aag f g v k i hb hc λd f=>kk d ⟨B,e,J f⟩
theorem Ts (H:MU Q X D G w0 w R s T L M) (hc:i<s.bx.length) (u:s.bx.length<=8) (v:s.op.length<=900000000) (c: ∀q∈s.bx,q.length<=16) (t p:Int) {K:Int×Int×Unit->A0->Prop}
 (k: ∀e a,MU Q X D G w0 a R {s with bx:=(cN s.bx s.op i t p).2.1,op:=(cN s.bx s.op i t p).2.2} T L M->K ((cN s.bx s.op i t p).1,e,()) a):
 aA A2 157 (.bA [.one (.int .i64),.one (.int .i64)]) [ah (ae R.xb),aa (i:Int),aa t,aa p] w K:=by
 obtain⟨B,rfl,H⟩:=H;obtain⟨x,y,d,J⟩:=H.bxs;have W:=H.wf;have f:=W.l;refine Sy d W.b W.o W.l i (by omega) (by omega) (by omega) c t p λe g h j a m n hs r=>k e a ⟨{B with so:=h,Lo:=j,cr:=g},rfl,J (op:=(cN s.bx s.op i t p).2.2) (bx:=(cN s.bx s.op i t p).2.1) hs ?_ n r⟩;rw[m,f];unfold cN;split
 ·rfl
 ·split
  ·rfl
  ·simp
theorem aar {b:List (Nat×List AC)} (H:MU Q X D G w0 w R s (b++T) L M) (hx:s.cs[i]? =some x) {r:Option AF×Nat×Nat} {l:List Int} (hs:dv eI r l b) {K:A0->Prop}
 (k: ∀w1,MU Q X D G w0 w1 R (bh s i {x with fs:=l}) T L M->K w1):aC w (ad (some ⟨R.cb i,0,none⟩) 13) [.slice r.1 r.2.1 r.2.2] K:=by
 obtain⟨a,c,j,d,hb,W,e,J⟩:=H.Df hx;rw[<-d];refine NQ (n:=13) (e.perm (L':=(a.cb,j7 a i x)::(a.tb,dA a.st s.sz)::(a.Lt++(a.Lw++(a.Lf++(b++(T++c)))))) (cj λy=>by simp only[wU,AM,Ae];omega)) 0 rfl rfl rfl λf g=>k f ?_;have h:=(g.perm (L':=a.Lf++((a.cb,(j7 a i x).set 13 (.slice r.1 r.2.1 r.2.2))::(a.tb,dA a.st s.sz)::(a.Lt++(a.Lw++(b++(T++c)))))) (cj λy=>by simp only[FV,AM,Ae];omega)).sub (FS _ _);refine J (a':={a with sf:=r,Lf:=b}) (x':={x with fs:=l}) rfl rfl ⟨W.ls,hs,W.wk⟩ (h.perm (cj λy=>?_));show DB y ((a.cb,(j7 a i x).set 13 (.slice r.1 r.2.1 r.2.2))::(a.tb,dA a.st s.sz)::(a.Lt++(b++a.Lw))++(T++c))= _;simp only[AM,Ae];omega
theorem Tt {b:Nat} {l:List AC} (H:MU Q X D G w0 w R s ((b,l)::T) L M) (g:l.length=2) (A:s.cs.length<=8) (B:s.bx.length=s.cs.length) (j:s.op.length<=900000000) (m: ∀q∈s.bx,q.length<=16) (o:0<s.sz) (r:(x.ls.length:Int)<=64) (hx:s.cs[i]? =some x) (t p:Int) {K:B8->A0->Prop}
 (k: ∀d,MU Q X D G w0 d R (bh {s with bx:=(cN s.bx s.op i t p).2.1,op:=(cN s.bx s.op i t p).2.2} i {x with ls:=iY x.ls t p,ak:=(cN s.bx s.op i t p).1,ph:=4}) T L M->K ((0,0,()),false,()) d):
 aA A2 67 (.bA []) [ah (some ⟨R.cb i,0,none⟩),aa t,aa p] w λ_ d=>
  (some ⟨R.mb,0,none⟩:Option AF).isSome=true/\(some ⟨R.mb,0,none⟩:Option AF).isSome=true/\aj d none (ad (ae R.mb) 2) (.one .ptr) λ(u:Option AF)=>
  (some ⟨R.cb i,0,none⟩:Option AF).isSome=true/\(some ⟨R.cb i,0,none⟩:Option AF).isSome=true/\aj d none (ad (some ⟨R.cb i,0,none⟩) 0) (.one (.int .i64)) λ(v:Int)=>
  aA A2 157 (.bA [.one (.int .i64),.one (.int .i64)]) [ah u,aa v,aa t,aa p] d λ(y:Int×Int×Unit) d=>
  (some ⟨R.cb i,0,none⟩:Option AF).isSome=true/\(some ⟨R.cb i,0,none⟩:Option AF).isSome=true/\aC d (ad (some ⟨R.cb i,0,none⟩) 12) [aa y.1] λd=>
  (some ⟨R.cb i,0,none⟩:Option AF).isSome=true/\(some ⟨R.cb i,0,none⟩:Option AF).isSome=true/\aC d (ad (some ⟨R.cb i,0,none⟩) 2) [aa 4] λd=>
  aC d (ae b) [ax 0,aa 0] λd=>au d λw1=>aj w1 none (ae b) (El.agg [.int .u64,.int .i64]) λ(x:Int×Int×Unit)=>K ((x.1,x.2.1,()),false,()) w1:=by
 have C:=(Aq.1 hx).1;refine zU H hx r o t p λd H=>⟨rfl,rfl,H.f2 ⟨rfl,rfl,H.cf (fb hx) (n:=0) (λ_=>rfl) ?_⟩⟩;refine Ts H (show i<s.bx.length by omega) (show s.bx.length<=8 by omega) j m t p λe z H=>⟨rfl,rfl,?_⟩;have f:(bh {s with bx:=(cN s.bx s.op i t p).2.1,op:=(cN s.bx s.op i t p).2.2} i {x with ls:=iY x.ls t p}).cs[i]? =some {x with ls:=iY x.ls t p}:=fb (s:={s with bx:=(cN s.bx s.op i t p).2.1,op:=(cN s.bx s.op i t p).2.2}) hx;have H:MU Q X D G w0 z R (bh {s with bx:=(cN s.bx s.op i t p).2.1,op:=(cN s.bx s.op i t p).2.2} i {x with ls:=iY x.ls t p}) ((b,l)::T) L M:=H;refine H.cs f {x with ls:=iY x.ls t p,ak:=(cN s.bx s.op i t p).1} 12 rfl rfl (λ_=>rfl) (λa h=>⟨h.ls,h.fs,h.wk⟩) λE H=>⟨rfl,rfl,?_⟩;refine H.cs (fb f) {x with ls:=iY x.ls t p,ak:=(cN s.bx s.op i t p).1,ph:=4} 2 rfl rfl (λ_=>rfl) (λa h=>⟨h.ls,h.fs,λc=>(by cases c)⟩) λF H=>?_;rw[lr,lr] at H;exact H.res g 0 0 false k
end
section
variable {Q:Sys} {X:HX} {D G:List Nat} {w0 w w1:A0} {B:MB} {R:MR} {s:MS} {T L:List (Nat×List AC)} {M:List (Nat×B1)} {i:Nat} {x:bG} {g:Option Bool}
theorem Nx (H:MU Q X D G w0 w R s T L M) (Bd:Bn s) (hx:s.cs[i]? =some x) (U:Cl Q s.h) (W:iA s.h x=true->rR (aR s.h.g x.vm) (x.c.2.1 / 16) (aT x.c.1)=false) {K:B8->A0->Prop}
 (k: ∀d,MU Q X D G w0 d R (cQ s i x).1 T L M->K (((cQ s i x).2.1.1,(cQ s i x).2.1.2,()),(cQ s i x).2.2,()) d):
 aA A2 110 Of [ah (ae R.mb),ah (some ⟨R.cb i,0,none⟩)] w K:=by
 have B:=Db hx;have i_:=(Aq.1 hx).1;have NY:=Bd.ls x B;have F:=Bd.sz;have q:=Bd.cu x B;have I:=Bd.c8;have J_:=Bd.pn;refine H.go λw1 H=>aS (C:=U2) (aW:=λ_=>[]) (Ar (M6 _ _ w1 K) (H.al λb d H=>⟨iA s.h x,Nu H hx,?_⟩));by_cases l:iA s.h x=true
 ·have Y:(cQ s i x).2=((0,0),false):=by
   unfold cQ;rw[av l];dsimp only;split<;>rfl
  rw[Y] at k;exact aB l (Tq H hx Bd.now.1 (by omega) (by omega) F.1 q.1 (W l) l λJ H=>H.res rfl 0 0 false k)
 refine an (Hr.2 l) ⟨oZ s i x,Ih H hx I Bd.vm,?_⟩;by_cases m:oZ s i x=true
 ·have e:cQ s i x=(s,(0,9),true):=by unfold cQ;rw[ao l,av m]
  rw[e] at k;exact aB m (H.res rfl 0 9 true k)
 refine an (Hr.2 m) ⟨rfl,rfl,H.cf hx (n:=3) (λ_=>rfl) ⟨λ_=>rfl,λ_=>rfl,H.cf hx (n:=4) (y:=x.c) (λ_=>rfl) ?_⟩⟩;have N:(x.vm==0&&(x.c.1==17&&(x.c.2.1==0&&(x.c.2.2.1==0&&(x.c.2.2.2.1==0&&true)))))=true<->(x.vm=0/\x.c=(17,0,0,0,())):=by
  obtain⟨k1,a1,b1,c1,⟨⟩⟩:=x.c;simp only[FG,beq_iff_eq,Prod.mk.injEq,and_true]
 by_cases u:x.vm=0/\x.c=(17,0,0,0,())
 ·have e:cQ s i x=((da s).1,((((da s).2:Nat):Int),0),true):=by unfold cQ;rw[ao l,ao m,av u]
  rw[e] at k;refine aB (N.2 u) (ES H (by omega) Bd.now Bd.ws Bd.wn Bd.ms λJ H=>?_);have hlen:(da s).2<=s.ep.ws.length:=by
   unfold da oK;rw[jQ,Dk];refine Hq (Gj _ _) ?_;rw[va];exact Ds _
  have AN:=Bd.ws;rw[dU (by omega)];exact H.res rfl _ 0 true k
 refine an (Hr.2 λc=>u (N.1 c)) ?_;have e:cQ s i x=fx s i x:=by unfold cQ;rw[ao l,ao m,ao u]
 rw[e] at k;refine⟨rfl,rfl,H.f0 ⟨rfl,rfl,H.cf hx (n:=3) (λ_=>rfl) ⟨rfl,rfl,H.cf hx (n:=4) (y:=x.c) (λ_=>rfl) (aaq H U x.vm x.c.1 q.1 q.2.1 q.2.2 λJ H=>⟨rfl,rfl,?_⟩)⟩⟩⟩;unfold fx at k;generalize hh':ij s.h x.vm x.c.1 x.c.2.1 x.c.2.2.1 x.c.2.2.2.1=h' at*
 generalize hV:wS s.h x.vm x.c.1 x.c.2.1 x.c.2.2.1 x.c.2.2.2.1=V at*
 generalize f:qb s.h x.vm x.c.1 x.c.2.1 x.c.2.2.1 x.c.2.2.2.1=E at*
 dsimp only at k ⊢;have O:({s with h:=h'}:MS).cs[i]? =some x:=hx;refine H.cs O {x with rs:=(V,E)} 10 rfl rfl (λ_=>rfl) (λa h=>⟨h.ls,h.fs,h.wk⟩) λw4 H=>?_;have v:=fb (y:={x with rs:=(V,E)}) O;refine⟨rfl,rfl,H.cf v (n:=3) (λ_=>rfl) ⟨rfl,rfl,H.cf v (n:=4) (y:=x.c) (λ_=>rfl) ⟨rfl,rfl,H.cf v (n:=10) (y:=(V,E,())) (λ_=>rfl) ?_⟩⟩⟩;have hms:=Bd.ms;refine tV H (show s.ms.length<= _ by omega) (1,x.vm,0,x.c,V,E) λw5 H=>Fh H H.sys.2.2.1 λr Lr w6 hs H=>⟨rfl,rfl,?_⟩;have Z:({ {bh {s with h:=h'} i {x with rs:=(V,E)} with ms:=s.ms++[(1,x.vm,0,x.c,V,E)]} with kn:=s.kn++eA s h'}:MS).cs[i]? =some {x with rs:=(V,E)}:=v;refine aar (x:={x with rs:=(V,E)}) H Z hs λz H=>?_;have H:MU Q X D G w0 z R (bh {s with h:=h',kn:=s.kn++eA s h',ms:=s.ms++[(1,x.vm,0,x.c,V,E)]} i {x with rs:=(V,E),fs:=eA s h'}) ((b,[ax 0,aa 0])::T) L M:=by
  have H:=H;unfold bh at H;simp only[Ct] at H;exact H
 have j:=fb (s:={s with h:=h',kn:=s.kn++eA s h',ms:=s.ms++[(1,x.vm,0,x.c,V,E)]}) (y:={x with rs:=(V,E),fs:=eA s h'}) hx;have kE:(x.c.1=2\/x.c.1=4\/x.c.1=5\/x.c.1=10->E≠0)-> ∀d,MU Q X D G w0 d R (bh {s with h:=h',kn:=s.kn++eA s h',ms:=s.ms++[(1,x.vm,0,x.c,V,E)]} i {x with rs:=(V,E),fs:=eA s h'}) T L M->K ((V,E,()),true,()) d:=λf d H=>by
  have:=k d;by_cases c:x.c.1=2\/x.c.1=4\/x.c.1=5\/x.c.1=10
  ·rw[av c,av (f c)] at this;exact this H
  ·rw[ao c] at this;exact this H
 have kP:x.c.1=2\/x.c.1=4\/x.c.1=5\/x.c.1=10->E=0-> ∀t p:Int,(if x.c.1=2 then aJ .i64 x.c.2.1 else x.vm)=t->(if x.c.1=2 then -1 else aJ .i64 x.c.2.1)=p-> ∀d,MU Q X D G w0 d R (bh {s with h:=h',kn:=s.kn++eA s h',ms:=s.ms++[(1,x.vm,0,x.c,V,E)],bx:=(cN s.bx s.op i t p).2.1,op:=(cN s.bx s.op i t p).2.2} i {x with rs:=(V,E),fs:=eA s h',ls:=iY x.ls t p,ak:=(cN s.bx s.op i t p).1,ph:=4}) T L M->K ((0,0,()),false,()) d:=λc f t p A o d H=>by
  have:=k d;rw[av c,ao (by omega),A,o] at this;exact this H
 have tl:=λ(c:x.c.1=2\/x.c.1=4\/x.c.1=5\/x.c.1=10) (f:E=0) (t p:Int) (A:(if x.c.1=2 then aJ .i64 x.c.2.1 else x.vm)=t) (o:(if x.c.1=2 then -1 else aJ .i64 x.c.2.1)=p)=>Tt (i:=i) (K:=K) (x:={x with rs:=(V,E),fs:=eA s h'}) H rfl (show(s.cs.set i _).length<=8 by rw[DL];exact I) (show s.bx.length=(s.cs.set i _).length by rw[DL];exact Bd.bn) Bd.op Bd.bl F.1 (show(x.ls.length:Int)<=64 by omega) j t p λS H=>kP c f t p A o S (by
  have H:MU Q X D G w0 S R (bh (bh {s with h:=h',kn:=s.kn++eA s h',ms:=s.ms++[(1,x.vm,0,x.c,V,E)],bx:=(cN s.bx s.op i t p).2.1,op:=(cN s.bx s.op i t p).2.2} i {x with rs:=(V,E),fs:=eA s h'}) i {x with rs:=(V,E),fs:=eA s h',ls:=iY x.ls t p,ak:=(cN s.bx s.op i t p).1,ph:=4}) T L M:=H;rw[lr] at H;exact H)
 refine⟨rfl,rfl,H.cf j (n:=3) (λ_=>rfl) ⟨rfl,rfl,rfl,H.cf j (n:=5) (λ_=>rfl) ⟨rfl,rfl,rfl,H.cf j (n:=4) (λ_=>rfl) ?_⟩⟩⟩;have br: ∀{P:Prop},(E=0->P)->aG (E != 0) ((some ⟨R.cb i,0,none⟩:Option AF).isSome=true/\(some ⟨R.cb i,0,none⟩:Option AF).isSome=true/\aj z none (ad (some ⟨R.cb i,0,none⟩) 10) (El.agg [.int .u64,.int .i64]) λ(x:Int×Int×Unit)=>aC z (ae b) [ax x.1,aa x.2.1] λd=>au d λw1=>aj w1 none (ae b) (El.agg [.int .u64,.int .i64]) λ(x:Int×Int×Unit)=>K ((x.1,x.2.1,()),true,()) w1) P:=λo=>by
  refine ab (λc=>⟨rfl,rfl,H.cf j (n:=10) (y:=(V,E,())) (λ_=>rfl) (H.res rfl _ _ true (kE λ_=>by simpa using c))⟩) (λc=>o (by simpa using c))
 by_cases c2:x.c.1=2
 ·refine aB (by rw[c2];rfl) ⟨rfl,rfl,rfl,H.cf j (n:=5) (λ_=>rfl) ⟨rfl,rfl,rfl,H.cf j (n:=11) (λ_=>rfl) (br λf=>?_)⟩⟩;exact tl (.inl c2) f _ _ (av c2) (av c2)
 refine an (beq_eq_false_iff_ne.2 c2) ?_;by_cases c4:x.c.1=4
 ·refine aB (by rw[c4];rfl) (aB (by rw[c4];rfl) ⟨rfl,rfl,rfl,H.cf j (n:=11) (λ_=>rfl) (br λf=>?_)⟩);exact tl (.inr (.inl c4)) f _ _ (ao c2) (ao c2)
 refine an (beq_eq_false_iff_ne.2 c4) ?_;by_cases c5:x.c.1=5
 ·refine aB (by rw[c5];rfl) (aB (by rw[c5];rfl) ⟨rfl,rfl,rfl,H.cf j (n:=11) (λ_=>rfl) (br λf=>?_)⟩);exact tl (.inr (.inr (.inl c5))) f _ _ (ao c2) (ao c2)
 refine an (beq_eq_false_iff_ne.2 c5) ?_;by_cases Yy:x.c.1=10
 ·refine aB (by rw[Yy];rfl) ⟨rfl,rfl,rfl,H.cf j (n:=11) (λ_=>rfl) (br λf=>?_)⟩;exact tl (.inr (.inr (.inr Yy))) f _ _ (ao c2) (ao c2)
 refine an (beq_eq_false_iff_ne.2 Yy) ⟨rfl,rfl,H.cf j (n:=10) (y:=(V,E,())) (λ_=>rfl) (H.res rfl _ _ true (kE λc=>?_))⟩;rcases c with c|c|c|c
 ·exact absurd c c2
 ·exact absurd c c4
 ·exact absurd c c5
 ·exact absurd c Yy
end
def IT (l:List AC) (n:Int):AC:=match l.get?Internal n.toNat with
 |some x=>x
 |none=>Value.tuple ⟨[]⟩
abbrev sFs:El:= .agg [.func,.func,.func,.func,.func]
def Kz (x:Option AF) (n:Int) (b c:Nat) (Post:B8->A0->Prop) (r:B8) (a:A0):Prop:=
 aC a (ae c) [ax r.1.1,aa r.1.2.1] λa=>
  aG (!r.2.1)
   (aC a (ae b) [ax 0,aa 0] λa=>au a λw1=>aj w1 none (ae b) (.agg iW) λ(y:Int×Int×Unit)=>Post ((y.1,y.2.1,()),false,()) w1)
   (x.isSome=true/\x.isSome=true/\aj a none (ad x 1) (.one .ptr) λ(t:Option AF)=>x.isSome=true/\
    aC a x [aa n,ah t,aa 0,aa 0,aa 0,ax 0,ax 0,ax 0,ah none,aa 0,ax 0,aa 0,aa 0,.slice none 0 0] λa=>
    aj a none (ae c) (.agg iW) λ(y:Int×Int×Unit)=>aC a (ae b) [ax y.1,aa y.2.1] λa=>au a λw1=>aj w1 none (ae b) (.agg iW) λ(y:Int×Int×Unit)=>Post ((y.1,y.2.1,()),true,()) w1)
def ab0 (p x:Option AF) (n:Int) (b:Nat) (Post:B8->A0->Prop) (a:A0):Prop:=
 x.isSome=true/\x.isSome=true/\aj a none (ad x 2) (.one (.int .i64)) λ(ph:Int)=>
  (aA A2 68 (.el sFs) [ah p] a λ(f:AC×AC×AC×AC×AC×Unit) a=>cU a (ad x 2) (.one (.int .i64)) ph/\True/\True/\(0<=ph/\ph<((5:Nat):Int))/\
   (z4 A2 (IT [f.1,f.2.1,f.2.2.1,f.2.2.2.1,f.2.2.2.2.1] ph) Of [ah x] a λ(r:B8) a=>aN a ⟨[ax 0,aa 0]⟩ 61 λc a=>Kz x n b c Post r a)/\
   aN a ⟨[ax 0,aa 0]⟩ 61 λc a=>z4 A2 (IT [f.1,f.2.1,f.2.2.1,f.2.2.2.1,f.2.2.2.2.1] ph) Of [ah x] a λ(r:B8) a=>Kz x n b c Post r a)/\
  aN a ⟨[ax 0,aa 0]⟩ 61 λc a=>aA A2 68 (.el sFs) [ah p] a λ(f:AC×AC×AC×AC×AC×Unit) a=>cU a (ad x 2) (.one (.int .i64)) ph/\True/\True/\(0<=ph/\ph<((5:Nat):Int))/\
   z4 A2 (IT [f.1,f.2.1,f.2.2.1,f.2.2.2.1,f.2.2.2.2.1] ph) Of [ah x] a λ(r:B8) a=>Kz x n b c Post r a
theorem DX {a:Nat} {sh:Sh} {first args:List AC} {w:A0} {K:sh.T->A0->Prop} (hc:bL A2 a=true) (b:aA A2 a sh (first++args) w K):z4 A2 (.func (.func a) ⟨first⟩ #[]) sh args w K:=by
 unfold z4;refine λw1 h1=>⟨a,⟨first⟩, #[],rfl,hc,?_⟩;have e:dt ⟨first⟩ args #[]=first++args:=by unfold dt;simp
 rw[e];exact b w1 h1
abbrev FK (mb f:Nat):AC:= .func (.func f) ⟨[ah (ae mb)]⟩ #[]
structure Sx (s:MS) (i:Nat) (x:bG):Prop where
 ph:0<=x.ph/\x.ph<=4
 wk:x.ph=2->0<=x.wk.2.1/\x.wk.2.1<=3
 ln:x.ph=2->(bD s.h.s.1 (x.c.2.1 / 16) (aT x.c.1) x.wk).2.1= -1->(bD s.h.s.1 (x.c.2.1 / 16) (aT x.c.1) x.wk).2.2.2.2.2.1=0->lnR (x.vm,x.c.2.1 / 16,(bD s.h.s.1 (x.c.2.1 / 16) (aT x.c.1) x.wk).2.2.1,(bD s.h.s.1 (x.c.2.1 / 16) (aT x.c.1) x.wk).2.2.2.1,())=true
 fr:x.ph=3->0<=x.fr/\x.fr<4096
 ak:x.ph=4->x.ak<4611686018427387904/\x.fs.length<=1000000/\ ∀f∈x.fs,0<=f
 bw:iA s.h x=true->rR (aR s.h.g x.vm) (x.c.2.1 / 16) (aT x.c.1)=false
 tk: ∀a q,s.bx[i]? =some (a::q)->(1<=a.1/\a.1<=(s.op.length:Int))/\ -1000<=s.op.getD (a.1 - 1).toNat 0/\s.op.getD (a.1 - 1).toNat 0<=1000
section
variable {Q:Sys} {X:HX} {D G:List Nat} {w0 w w1:A0} {B:MB} {R:MR} {s:MS} {T L:List (Nat×List AC)} {M:List (Nat×B1)} {i:Nat} {x:bG} {g:Option Bool}
theorem zW (H:MU Q X D G w0 w R s T L M) {K:AC×AC×AC×AC×AC×Unit->A0->Prop} (k: ∀a,MU Q X D G w0 a R s T L M->K (FK R.mb 109,FK R.mb 110,FK R.mb 111,FK R.mb 112,FK R.mb 113,()) a):
 aA A2 68 (.el sFs) [ah (ae R.mb)] w K:=by
 refine H.go λw1 H=>aS (C:=U2) (aW:=λ_=>[]) (Ar (HW _ w1 K) (H.al λb a H=>H.st 0 rfl rfl rfl λd H=>H.en λc H=>H.ld 0 rfl (show _=some (FK R.mb 109,FK R.mb 110,FK R.mb 111,FK R.mb 112,FK R.mb 113,()) from rfl) (k c (H.sub (Ci _ _)))))
theorem vr (H:MU Q X D G w0 w R s T L M) (Bd:Bn s) (hx:s.cs[i]? =some x) (d:Cl Q s.h) (S:Sx s i x) {K:B8->A0->Prop}
 (k: ∀c,MU Q X D G w0 c R (bE s i x).1 T L M->K (((bE s i x).2.1.1,(bE s i x).2.1.2,()),(bE s i x).2.2,()) c):
 z4 A2 (IT [FK R.mb 109,FK R.mb 110,FK R.mb 111,FK R.mb 112,FK R.mb 113] x.ph) Of [ah (some ⟨R.cb i,0,none⟩)] w K:=by
 have b:=Db hx;have f:=(Aq.1 hx).1;have g:=Bd.pn;have j:=Bd.c8;have l:=S.ph;by_cases c0:x.ph=0
 ·have e:bE s i x=((da s).1,(0,0),false):=av c0;rw[e] at k;rw[c0];exact DX (first:=[_]) (by kernel_rfl) (Tk H (by omega) Bd.now Bd.ws Bd.wn Bd.ms _ k)
 by_cases c1:x.ph=1
 ·have e:bE s i x=cQ s i x:=by unfold bE;rw[ao c0,av c1]
  rw[e] at k;rw[c1];exact DX (first:=[_]) (by kernel_rfl) (Nx H Bd hx d S.bw k)
 by_cases c2:x.ph=2
 ·have e:bE s i x=jk s i x:=by unfold bE;rw[ao c0,ao c1,av c2]
  rw[e] at k;rw[c2];have a:(jk s i x).2.1.1=0:=by
   unfold jk;dsimp only;split
   ·rfl
   ·split<;>rfl
  rw[a] at k;exact DX (first:=[_]) (by kernel_rfl) (To H hx c2 (S.wk c2) (Bd.cu x b).1 (by omega) (Bd.ls x b) Bd.sz (S.ln c2) k)
 by_cases c3:x.ph=3
 ·have e:bE s i x=eT s i x:=by unfold bE;rw[ao c0,ao c1,ao c2,av c3]
  rw[e] at k;rw[c3];have a:(eT s i x).2.1.2=0/\(eT s i x).2.2=true:=by
   unfold eT;dsimp only;split<;>exact⟨rfl,rfl⟩
  rw[a.1,a.2] at k;exact DX (first:=[_]) (by kernel_rfl) (Nv H hx (S.fr c3) (Bd.cu x b).1 (Bd.cu x b).2.1 (by omega) Bd.ms k)
 have c4:x.ph=4:=by omega
 have e:bE s i x=iF s x:=by unfold bE;rw[ao c0,ao c1,ao c2,ao c3]
 rw[e] at k;rw[c4];have a:(if(iF s x).2.2=true then((iF s x).2.1.1,(iF s x).2.1.2,()) else(0,0,()))=((iF s x).2.1.1,(iF s x).2.1.2,()):=by
  unfold iF;split<;>rfl
 rw[<-a] at k;exact DX (first:=[_]) (by kernel_rfl) (Tl H hx (S.ak c4).1 (S.ak c4).2.1 (S.ak c4).2.2 k)
end
theorem CY: ∀(l:List Int) (s:MS),(l.foldl jj s).cs=s.cs
 |[],s=>rfl
 |f::l,s=>by rw[Ft,CY l];rfl
theorem JZ (s:MS):(da s).1.cs=s.cs:=by unfold da;rw[CY]
theorem Ny (s:MS) (i:Nat) (x:bG):(cQ s i x).1.cs.length=s.cs.length:=by
 have hs: ∀(s:MS) (y:bG),(bh s i y).cs.length=s.cs.length:=λs y=>DL ..;unfold cQ;split
 ·dsimp only;split<;>exact hs _ _
 ·split
  ·rfl
  ·split
   ·dsimp only;rw[JZ]
   ·unfold fx;dsimp only;split
    ·split<;>exact hs _ _
    ·exact hs _ _
theorem Nz (s:MS) (i:Nat) (x:bG):(bE s i x).1.cs.length=s.cs.length:=by
 have hs: ∀(s:MS) (y:bG),(bh s i y).cs.length=s.cs.length:=λs y=>DL ..;unfold bE;split
 ·dsimp only;rw[JZ]
 ·split
  ·exact Ny s i x
  ·split
   ·unfold jk;dsimp only;split
    ·exact hs _ _
    ·split<;>exact hs _ _
   ·split
    ·unfold eT;dsimp only;split<;>rfl
    ·unfold iF;split<;>rfl
section
variable {Q:Sys} {X:HX} {D G:List Nat} {w0 w w1:A0} {B:MB} {R:MR} {s:MS} {T L:List (Nat×List AC)} {M:List (Nat×B1)} {i:Nat} {x:bG} {g:Option Bool}
theorem WE {b d:Nat} {l g:List AC} (H:MU Q X D G w0 w R s ((d,g)::(b,l)::T) L M) (h:l.length=2) (j:g.length=2) (hx:s.cs[i]? =some x) (r:B8) {K:B8->A0->Prop}
 (k: ∀e,MU Q X D G w0 e R (if r.2.1=true then bh s i (bV x.ls) else s) T L M->K (if r.2.1=true then((r.1.1,r.1.2.1,()),true,()) else((0,0,()),false,())) e):
 Kz (some ⟨R.cb i,0,none⟩) (i:Int) b d K r w:=by
 unfold Kz;refine H.st 0 rfl rfl j.symm λe H=>ab (λc=>?_) (λc=>?_)
 ·have c:r.2.1=false:=by simpa using c
  rw[c] at k;exact MU.res (H.sub (Ci _ _)) h 0 0 false k
 ·have c:r.2.1=true:=by simpa using c
  rw[c] at k;refine⟨rfl,rfl,H.c1 hx ⟨rfl,?_⟩⟩;obtain⟨a,f,t,m,hb,W,n,J⟩:=H.Df hx;rw[<-m, <-hb];refine stB (n.perm (L':=(a.cb,j7 a i x)::(a.tb,dA a.st s.sz)::(a.Lt++(a.Lf++(a.Lw++(((d,[ax r.1.1,aa r.1.2.1])::(b,l)::T)++f))))) (cj λy=>by simp only[ae,wU,AM,Ae,FV];omega)) 0 rfl rfl rfl λo p=>?_;have q:=(p.perm (L':=a.Lf++(a.Lw++((a.cb,[aa (i:Int),ah (ae a.tb),aa 0,aa 0,aa 0,ax 0,ax 0,ax 0,ah none,aa 0,ax 0,aa 0,aa 0,.slice none 0 0])::(a.tb,dA a.st s.sz)::(a.Lt++(((d,[ax r.1.1,aa r.1.2.1])::(b,l)::T)++f))))) (cj λy=>by simp only[ae,FV,AM,Ae];omega)).sub ((FS _ _).trans (FS _ _));have H:MU Q X D G w0 o R (bh s i (bV x.ls)) ((d,[ax r.1.1,aa r.1.2.1])::(b,l)::T) L M:=by
   refine J (a':={a with wp:=none,sf:=(none,0,0),Lf:=[],Lw:=[]}) (x':=bV x.ls) rfl rfl ⟨W.ls,dv.nil eI,λc=>(by cases c)⟩ (q.perm (cj λy=>?_));show DB y ((a.cb,[aa (i:Int),ah (ae a.tb),aa 0,aa 0,aa 0,ax 0,ax 0,ax 0,ah none,aa 0,ax 0,aa 0,aa 0,.slice none 0 0])::(a.tb,dA a.st s.sz)::(a.Lt++([]++[]))++(((d,[ax r.1.1,aa r.1.2.1])::(b,l)::T)++f))= _;simp only[ae,AM,Ae,Fy];omega
  exact H.ld 0 rfl (show _=some (r.1.1,r.1.2.1,()) from rfl) (MU.res (H.sub (Ci _ _)) h _ _ true k)
theorem EU {b:Nat} {l:List AC} (H:MU Q X D G w0 w R s ((b,l)::T) L M) (p:l.length=2) (Bd:Bn s) (hx:s.cs[i]? =some x) (f:Cl Q s.h) (S:Sx s i x) {K:B8->A0->Prop}
 (k: ∀a,MU Q X D G w0 a R (fw (bE s i x) i x).1 T L M->K (((fw (bE s i x) i x).2.1.1,(fw (bE s i x) i x).2.1.2,()),(fw (bE s i x) i x).2.2,()) a):
 ab0 (ae R.mb) (some ⟨R.cb i,0,none⟩) (i:Int) b K w:=by
 have t:=(Aq.1 hx).1;have u:=Nz s i x;obtain⟨x',g⟩: ∃x',(bE s i x).1.cs[i]? =some x':=⟨_,Cg (by omega)⟩;have q:(bE s i x).1.cs.getD i x=x':=by rw[B4,g];rfl
 unfold fw at k;rw[q] at k;have j:=S.ph;have fin: ∀{d:Nat} {m:List AC} {a:A0},m.length=2->MU Q X D G w0 a R (bE s i x).1 ((d,m)::(b,l)::T) L M->Kz (some ⟨R.cb i,0,none⟩) (i:Int) b d K (((bE s i x).2.1.1,(bE s i x).2.1.2,()),(bE s i x).2.2,()) a:=λr H=>by
  refine WE H p r g _ λe H=>?_;have:=k e;dsimp only at H ⊢;by_cases c:(bE s i x).2.2=true
  ·rw[av c] at H this ⊢;exact this H
  ·rw[ao c] at H this ⊢;exact this H
 refine⟨rfl,rfl,H.cf hx (n:=2) (λ_=>rfl) ⟨?_,?_⟩⟩
 ·refine zW H λa H=>⟨H.crd hx (n:=2) λ_=>rfl,trivial,trivial,⟨j.1,by show x.ph<5;omega⟩,?_,?_⟩
  ·exact vr H Bd hx f S λe H=>H.al λd o H=>fin rfl H
  ·exact H.al λd e H=>vr H Bd hx f S λo H=>fin rfl H
 ·exact H.al λd a H=>zW H λe H=>⟨H.crd hx (n:=2) λ_=>rfl,trivial,trivial,⟨j.1,by show x.ph<5;omega⟩,vr H Bd hx f S λo H=>fin rfl H⟩
theorem Tu (H:MU Q X D G w0 w R s T L M) (Bd:Bn s) (hi:i<s.cs.length) (k: ∀a q,s.bx[i]? =some (a::q)->(1<=a.1/\a.1<=(s.op.length:Int))/\ -1000<=s.op.getD (a.1 - 1).toNat 0/\s.op.getD (a.1 - 1).toNat 0<=1000) {K:(Int×Int×Int×Unit)×Bool×Unit->A0->Prop}
 (kn:o8 s i=none-> ∀c,MU Q X D G w0 c R s T L M->K ((0,0,0,()),false,()) c)
 (ks: ∀a s1,o8 s i=some (a,s1)-> ∀c,MU Q X D G w0 c R s1 T L M->K (a,true,()) c):
 aA A2 66 (.bA [.agg [.int .i64,.int .i64,.int .i64],.one .bool]) [ah (ae R.xb),aa (i:Int)] w K:=by
 obtain⟨B,rfl,H⟩:=H;obtain⟨n,p,m,J⟩:=H.bxs;have W:=H.wf;have e:=W.l;have r:=Bd.bn;have t:=Bd.op;refine Sw m W.b W.o W.l i (by omega) k (by omega) λf g c h j hs d=>?_;unfold vN at hs d ⊢;unfold o8 at kn ks;cases hb:s.bx[i]? with
 |none=>
  rw[hb] at hs d kn;exact kn rfl c ⟨{B with so:=B.so,Lo:=g,cr:=f},rfl,J (op:=s.op) (bx:=s.bx) hs (by rw[h,e]) j d⟩
 |some q=>
  cases q with
  |nil=>
   rw[hb] at hs d kn;exact kn rfl c ⟨{B with so:=B.so,Lo:=g,cr:=f},rfl,J (op:=s.op) (bx:=s.bx) hs (by rw[h,e]) j d⟩
  |cons a q=>
   rw[hb] at hs d ks;refine ks a _ rfl c ⟨{B with so:=B.so,Lo:=g,cr:=f},rfl,J (op:=s.op.set (a.1 - 1).toNat (s.op.getD (a.1 - 1).toNat 0 - 1)) (bx:=s.bx.set i q) hs (by rw[h,e,DL]) j d⟩
theorem Tv (H:MU Q X D G w0 w R s T L M) (Bd:Bn s) (g:Cl Q s.h) (S: ∀i x,s.cs[i]? =some x->Sx s i x) (n:Int) {K:B8->A0->Prop}
 (k: ∀f,MU Q X D G w0 f R (aL s n).1 T L M->K (((aL s n).2.1.1,(aL s n).2.1.2,()),(aL s n).2.2,()) f):
 aA A2 31 Of [ah (ae R.mb),aa n] w K:=by
 refine H.go λw1 H=>aS (C:=U3) (aW:=λ_=>[]) (Ar (SE _ n w1 K) (H.al λb f H=>⟨_,DW H n,?_⟩));by_cases c:0<=n/\n<(s.cs.length:Int)
 ·obtain⟨i,rfl⟩: ∃i:Nat,n=(i:Int):=⟨n.toNat,by omega⟩;rw[av c,DE];have j:i<s.cs.length:=by omega
  obtain⟨x,hx⟩: ∃x,s.cs[i]? =some x:=⟨_,Cg j⟩;have r:=Bd.ls x (Db hx);have t:=Bd.sz;have e:aL s (i:Int)=dZ s i x:=by unfold aL;rw[ao (by omega),DE,hx]
  rw[e] at k;unfold dZ at k;refine an rfl ⟨rfl,rfl,H.cf hx (n:=2) (λ_=>rfl) (ab (λc=>?_) (λc=>?_))⟩
  ·have c3:x.ph≠3:=by simpa using c
   rw[ao c3] at k;refine⟨rfl,rfl,H.f2 (Tu H Bd j (S i x hx).tk (λd l H=>?_) (λa s1 d l H=>?_))⟩
   ·rw[d] at k;exact H.al λm o H=>H.st 0 rfl rfl rfl λp H=>an rfl (EU (H.sub (Ci _ _)) rfl Bd hx g (S i x hx) k)
   ·rw[d] at k;have q:s1.cs[i]? =some x:=by
     unfold o8 at d;split at d
     ·cases d;exact hx
     ·cases d
    have u:s1.sz=s.sz:=by
     unfold o8 at d;split at d
     ·cases d;rfl
     ·cases d
    refine H.al λm o H=>H.st 0 rfl rfl rfl λp H=>aB rfl ⟨rfl,H.cz 0 rfl (show _=some a.2.1 from rfl) ⟨rfl,H.cz 0 rfl (show _=some a.2.2.1 from rfl) ?_⟩⟩;exact zU H q (by omega) (by omega) _ _ λv H=>MU.res (H.sub (Ci _ _)) rfl 0 0 false k
  ·have c3:x.ph=3:=by simpa using c
   rw[av c3] at k;exact EU H rfl Bd hx g (S i x hx) k
 ·rw[ao c];have e:aL s n=(s,(0,0),false):=by
   unfold aL;by_cases h:n<0
   ·rw[av h]
   ·rw[ao h,Kb (by omega)]
  rw[e] at k;exact aB rfl (H.res rfl 0 0 false k)
end
def IA (s:MS) (n:Int):Int:=if n<0 then 0 else match s.cs[n.toNat]? with
 |none=>0
 |some x=>x.ph
def lnN (s:MS) (n:Int):List LT:=if n<0 then[] else match s.cs[n.toNat]? with
 |none=>[]
 |some x=>x.ls
def Uq (s:MS) (n:Int):Int:=if 0<=n/\n<(s.cs.length:Int) then((s.bx.getD n.toNat []).length:Int) else 0
section
variable {Q:Sys} {X:HX} {D G:List Nat} {w0 w w1:A0} {B:MB} {R:MR} {s:MS} {T L:List (Nat×List AC)} {M:List (Nat×B1)} {i:Nat} {x:bG} {g:Option Bool}
theorem GP {n:Int} (c: ¬ (0<=n/\n<(s.cs.length:Int))):n<0\/s.cs[n.toNat]? =none:=by
 by_cases h:n<0
 ·exact .inl h
 ·exact .inr (Kb (by omega))
theorem kZ (H:MU Q X D G w0 w R s T L M) (n vm k:Int) {a b c:Int} {K:Int->A0->Prop}
 (kk: ∀f,MU Q X D G w0 f R (cB s n vm (k,a,b,c,())) T L M->K (qS s n) f):
 aA A2 29 (.el (.one (.int .i64))) [ah (ae R.mb),aa n,aa vm,.agg ⟨ik k a b c⟩] w K:=by
 refine H.go λw1 H=>ai (C:=U2) (aW:=λ_=>[]) (Ar (Wd _ n vm k a b c w1 K) (H.al λj f H=>⟨_,DW H n,λ_=>rfl,λ_=>rfl,H.f0 (an rfl ?_)⟩));by_cases hc:0<=n/\n<(s.cs.length:Int)
 ·obtain⟨i,rfl⟩: ∃i:Nat,n=(i:Int):=⟨n.toNat,by omega⟩;rw[av hc,DE];obtain⟨x,hx⟩: ∃x,s.cs[i]? =some x:=⟨_,Cg (by omega)⟩;unfold cB qS at kk;rw[ao (by omega),ao (by omega),DE,hx] at kk;dsimp only at kk;refine an rfl ⟨rfl,rfl,H.cf hx (n:=2) (λ_=>rfl) (ab (λe=>?_) (λe=>?_))⟩
  ·have e:x.ph≠0:=by simpa using e
   rw[ao e,ao e] at kk;exact H.en λd H=>kk d (H.sub (Ci _ _))
  ·have c0:x.ph=0:=by simpa using e
   rw[av c0,av c0] at kk;refine H.ld 0 rfl (show _=some (k,a,b,c,()) from rfl) ⟨rfl,rfl,H.cs hx {x with ph:=1} 2 rfl rfl (λ_=>rfl) (λa h=>⟨h.ls,h.fs,λc=>(by cases c)⟩) λd H=>⟨?_,rfl,rfl,?_⟩⟩
   ·have:=H.rd 0 (n:=0) (el:= .agg sCl) rfl (show _=some (k,a,b,c,()) from rfl);rw[aY] at this;exact this
   refine H.cs (fb hx) {x with ph:=1,vm:=vm} 3 rfl rfl (λ_=>rfl) (λa h=>⟨h.ls,h.fs,λc=>(by cases c)⟩) λl H=>⟨?_,rfl,rfl,?_⟩
   ·have:=H.rd 0 (n:=0) (el:= .agg sCl) rfl (show _=some (k,a,b,c,()) from rfl);rw[aY] at this;exact this
   refine H.cs (fb (fb hx)) {x with ph:=1,vm:=vm,c:=(k,a,b,c,())} 4 rfl rfl (λ_=>rfl) (λa h=>⟨h.ls,h.fs,λc=>(by cases c)⟩) λm H=>H.en λg H=>?_;simp only[lr] at H;exact kk g (H.sub (Ci _ _))
 ·rw[ao hc];have e:cB s n vm (k,a,b,c,())=s/\qS s n=2:=by
   unfold cB qS;rcases GP hc with h|h
   ·rw[av h,av h];exact⟨rfl,rfl⟩
   ·rw[h];constructor<;>split<;>rfl
  rw[e.1,e.2] at kk;exact aB rfl (H.en λd H=>kk d (H.sub (Ci _ _)))
theorem EV (H:MU Q X D G w0 w R s T L M) (n:Int):af A2 49 [ah (ae R.mb),aa n] w (aa (IA s n)):=by
 refine af.of (s:= .el (.one (.int .i64))) λw1 h1=>ai (C:=U2) (aW:=λ_=>[]) (Ar (M7 _ n w1 _) ?_);have H:=H.ext h1;refine⟨_,DW H n,?_⟩;unfold IA;by_cases hc:0<=n/\n<(s.cs.length:Int)
 ·rw[av hc,ao (by omega)];obtain⟨x,hx⟩: ∃x,s.cs[n.toNat]? =some x:=⟨_,Cg (by omega)⟩;rw[hx];exact an rfl ⟨rfl,rfl,H.cf hx (n:=2) (λ_=>rfl) λb a=>⟨rfl,a⟩⟩
 ·rw[ao hc];refine aB rfl λb a=>⟨?_,a⟩;rcases GP hc with h|h
  ·rw[av h]
  ·rw[h];split<;>rfl
theorem WG (H:MU Q X D G w0 w R s T L M) (m:s.bx.length=s.cs.length) (n:Int):af A2 50 [ah (ae R.mb),aa n] w (aa (Uq s n)):=by
 refine af.of (s:= .el (.one (.int .i64))) λw1 h1=>ai (C:=U2) (aW:=λ_=>[]) (Ar (SK _ n w1 _) ?_);have H:=H.ext h1;refine⟨_,DW H n,?_⟩;unfold Uq;by_cases hc:0<=n/\n<(s.cs.length:Int)
 ·rw[av hc,av hc];obtain⟨i,rfl⟩: ∃i:Nat,n=(i:Int):=⟨n.toNat,by omega⟩;rw[DE];obtain⟨q,d⟩: ∃q,s.bx[i]? =some q:=⟨_,Cg (by omega)⟩;rw[B4,d];refine an rfl ⟨rfl,rfl,H.f2 ⟨(q.length:Int),?_,λf a=>⟨rfl,a⟩⟩⟩;obtain⟨B,rfl,e⟩:=H;obtain⟨g,o,h,J⟩:=e.bxs;have W:=e.wf;have p:=W.l;obtain⟨c,j⟩: ∃c,B.cr[i]? =some c:=⟨_,Cg (by omega)⟩;have k:=h.perm (L':=B.Lb++((B.xb,lY B.sb B.so)::(B.Lo++(T++g)))) (cj λy=>by simp only[AM,Ae];omega);exact Sv k B5 W.b (λx hx=>Bs _ hx) j d
 ·rw[ao hc,ao hc];exact aB rfl λf a=>⟨rfl,a⟩
theorem Tw (H:MU Q X D G w0 w R s T L M):af A2 17 [ah (ae R.mb)] w (ah (ae X.hb)):=by
 refine af.of (s:= .el (.one .ptr)) λw1 h1=>ai (C:=U2) (aW:=λ_=>[]) (Ar (M_ _ w1 _) ?_);exact an rfl ⟨rfl,rfl,(H.ext h1).f0 λb a=>⟨rfl,a⟩⟩
theorem NA (H:MU Q X D G w0 w R s T L M) (n:s.ms.length<=1000000000) {K:Option AF×Nat×Nat->A0->Prop}
 (k: ∀r c b,dv eMk r (s.ms.map Yz) c->MU Q X D G w0 b R s (c++T) L M->K r b):
 aA A2 41 (.el (.one .slice)) [ah (ae R.mb)] w K:=by
 refine H.go λw1 H=>ai (C:=U2) (aW:=λ_=>[]) (Ar (M8 _ w1 K) (an rfl ⟨rfl,rfl,?_⟩));obtain⟨B,rfl,a⟩:=H;refine a.rG (show _=some (B.sm.1,B.sm.2.1,B.sm.2.2) from rfl) λb f=>?_;have a:=a.ext f;obtain⟨o,p,d,g, _, _,J⟩:=a.tmp;have W:=a.wf;have h:=W.m.oP d.base (λx hx=>B3 _ (g _ (B2 _ (B2 _ (B2 _ (B3 _ (Bs _ hx)))))));refine Fw (Ls:=[]) d (dv.nil eMk) rfl (q:=B.sm) W.m.1 h rfl rfl (by rw[Dk,J5];omega) λs' e t hs i j l=>k _ e j hs ⟨B,rfl,?_⟩;exact J (T':=e++T) (by rw[K1];exact i.ext l)
theorem BS (H:MU Q X D G w0 w R s T L M) (f:0<s.sz/\s.sz<=64) (g: ∀y∈s.cs,(y.ls.length:Int)<=s.sz) (n:Int) {K:Option AF×Nat×Nat->A0->Prop}
 (k: ∀r b c,dv kz r (lnN s n) b->MU Q X D G w0 c R s (b++T) L M->K r c):
 aA A2 51 (.el (.one .slice)) [ah (ae R.mb),aa n] w K:=by
 refine H.go λw1 H=>ai (C:=U2) (aW:=λ_=>[]) (Ar (M9 _ n w1 K) ⟨_,DW H n,?_⟩);unfold lnN at k;by_cases hc:0<=n/\n<(s.cs.length:Int)
 ·rw[ao (by omega)] at k;rw[av hc];obtain⟨x,hx⟩: ∃x,s.cs[n.toNat]? =some x:=⟨_,Cg (by omega)⟩;rw[hx] at k;have u:=g x (Db hx);refine an rfl ⟨rfl,rfl,H.c1 hx ?_⟩;obtain⟨a,i,j,v,hb,W,l,J⟩:=H.Df hx;have d:cD D G w0 w1 ((R.tb n.toNat,dA a.st s.sz)::(a.Lt++((a.cb,j7 a n.toNat x)::(a.Lf++(a.Lw++(T++i)))))) j:=l.perm (cj λy=>by rw[<-hb];simp only[wU,AM,Ae];omega);refine KU d.base.again W.ls (by omega) f.1 λr b c m o p q=>k r b p m ?_;have:=J (T':=b++T) rfl rfl W (((d.join o).perm (cj λy=>by rw[<-hb];simp only[wU,AM,Ae];omega)).ext q);rw[Nt hx] at this;exact this
 ·rw[ao hc];have e:(if n<0 then[] else match s.cs[n.toNat]? with|none=>[]|some x=>x.ls)=([]:List LT):=by
   rcases GP hc with h|h
   ·rw[av h]
   ·rw[h];split<;>rfl
  rw[e] at k;exact aB rfl λc t=>k (none,0,0) [] c (dv.nil kz) (H.ext t)
theorem wL (H:MU Q X D G w0 w R s T L M) (j:s.ep.ws.length<=1000000) {K:Option AF×Nat×Nat->A0->Prop}
 (k: ∀r a c,dv eI r (mT (s.ep.ws.map (·.1))) a->MU Q X D G w0 c R s (a++T) L M->K r c):
 aA A2 32 (.el (.one .slice)) [ah (ae R.mb)] w K:=by
 refine H.go λw1 H=>ai (C:=U2) (aW:=λ_=>[]) (Ar (Fg _ w1 K) (an rfl ⟨rfl,rfl,H.f1 ?_⟩));obtain⟨B,rfl,b⟩:=H;obtain⟨l,m,d,J⟩:=b.eps;refine Ss d b.wf.w (by omega) B5 λr n a c e f hs g h i=>k r a h (by rw[<-XN e f];exact hs) ⟨_,rfl,J (T':=a++T) (ep:=s.ep) b.wf.p b.wf.w ((g.perm (cj λy=>by simp only[AM,Ae];omega)).ext i)⟩
end
section
variable {Q:Sys} {X:HX} {D G:List Nat} {w0 w w1:A0} {B:MB} {R:MR} {s:MS} {T L:List (Nat×List AC)} {M:List (Nat×B1)} {i:Nat} {x:bG} {g:Option Bool}
abbrev Cm (B:MB) (n:Nat) (sc:Option AF×Nat×Nat) (Lc:List (Nat×List AC)) (a:CA):MB:={B with sc:=sc,Lc:=Lc,A:=λk=>if k=n then a else B.A k}
theorem iM.cps (H:iM Q X D G w0 w B s T L M): ∃g i,cD D G w0 w ((B.mb,xh X B)::(B.Lc++(T++g))) i/\
 ∀{T' sc Lc a x w'},dv eP sc (yB B s.cs.length++[some ⟨a.cb,0,none⟩]) Lc->TN a x->cD D G w0 w' ((B.mb,xh X (Cm B s.cs.length sc Lc a))::(Lc++(wU a s.cs.length x s.sz++(T'++g)))) i->iM Q X D G w0 w' (Cm B s.cs.length sc Lc a) {s with cs:=s.cs++[x]} T' L M:=by
 obtain⟨A,ca,la,h1,q,c,r⟩:=H;refine⟨(B.eb,oN s.ep.now B.sp B.wb)::(B.xb,lY B.sb B.so)::(B.Lm++(B.Lp++(B.Lb++(B.Lo++(jg B s (AJ s.cs.length)++(Kg Q X A ca la s.h++L)))))), _,r.perm (cj λa=>by simp only[AM,Ae];omega),λ{T' sc Lc a x w'} hs v K=>?_⟩;have j: ∀k,k<s.cs.length->(Cm B s.cs.length sc Lc a).A k=B.A k:=λk d=>ao (by omega);have z:(Cm B s.cs.length sc Lc a).A s.cs.length=a:=av rfl;have n:(s.cs++[x]).length=s.cs.length+1:=by rw[FY];rfl
 have t:yB (Cm B s.cs.length sc Lc a) (s.cs++[x]).length=yB B s.cs.length++[some ⟨a.cb,0,none⟩]:=by
  show(AJ (s.cs++[x]).length).map _= _;rw[n,H7,J4];congr 1
  ·exact Ip λk d=>by rw[j k (Dn.1 d)]
  simp
 have u:jg (Cm B s.cs.length sc Lc a) {s with cs:=s.cs++[x]} (AJ (s.cs++[x]).length)=jg B s (AJ s.cs.length)++wU a s.cs.length x s.sz:=by
  unfold jg;rw[n,H7,List.flatMap_append];congr 1
  ·refine gL λk d=>?_
   grind
  simp
 refine⟨A,ca,la,h1,q,⟨by rw[t];exact hs,c.m,c.p,c.b,c.o,c.l,c.k,c.w,λ{k y} f=>?_⟩,K.perm ?_⟩
 ·have f:(s.cs++[x])[k]? =some y:=f;by_cases d:k<s.cs.length
  ·rw[I1 d] at f;rw[j k d];exact c.a f
  ·have C:=(Aq.1 f).1;have e:k=s.cs.length:=by omega
   subst e
   simp_all
 ·rw[u];exact cj λa=>by simp only[AM,Ae];omega
abbrev mZ (f c j:Nat) (l:Int):MS:={m0 f c l with cs:=DA j (bV [])}
theorem xB (H:aM D G w0 w L) (f c l:Int) (hf:4<=f/\f<=4096) (hl:1<=l/\l<=64) {K:Option AF×Int×Unit->A0->Prop} (kb:c<1\/c>8-> ∀w1,aM D G w0 w1 L->K (none,1,()) w1)
 (T:1<=c->c<=8-> ∀Q X R w1,Q.c=16*f.toNat->MU Q X D G w0 w1 R (m0 f.toNat c.toNat l) [] L []->K (some ⟨R.mb,0,none⟩,0,()) w1):
 aA A2 52 (.bA [.one .ptr,.one (.int .i64)]) [aa f,aa c,aa l] w K:=by
 refine aA.go H λw1 H=>ai (C:=U2) (aW:=wH) (Ar (We f c l w1 K) ?_);refine Wc H f (λh=>by omega) λ_ _ Q X w2 U H=>an rfl ?_;obtain⟨A,W,S⟩:=H;have V:yC (h0 f.toNat).s:=⟨S.pos,S.F2,S.le,S.okw⟩;obtain⟨_, _, _, _,ca,la,H⟩:=S;refine CH H c (λhc Y H=>aB rfl λE F=>kb hc E ?_) λc1 c8 eb wb sp Lp Y Z H=>an rfl λE F=>?_
 ·refine(H.base.sub ?_).ext F;refine List.Sublist.cons _ (by grind)
 obtain⟨n,rfl⟩: ∃n:Nat,c=(n:Int):=⟨c.toNat,by omega⟩;obtain⟨m,rfl⟩: ∃m:Nat,f=(m:Int):=⟨f.toNat,by omega⟩;simp only[ae,DE] at*
 have H:=(H.ext F).alloc (o:= .map ⟨[]⟩ 0) trivial;obtain⟨d,hkb⟩: ∃b,b=E.heap.size:=⟨_,rfl⟩;rw[<-hkb] at H ⊢;refine alM H λmb w5 H=>Wb H (n:Int) (λh=>by omega) λ_ _ xb cr sb Lb w6 N hsb H=>⟨trivial,trivial,?_⟩;rw[DE] at N H;refine NQ (n:=2) (H.perm (L':=(mb,[ah (ae X.hb),ah (ae eb),ah none,.slice none 0 0,.map (some d),.slice none 0 0])::((xb,lY sb (none,0,0))::(Lb++((eb,oN 0 sp wb)::(Lp++Q.L ca la (h0 m).s (eo Q X A (h0 m) (bj Q A (h0 m).g (AJ 17)++L))))))) (cj λy=>by simp only[ae,AM,Ae];omega)) 0 rfl rfl rfl λw7 H=>?_;have H0:iM Q X D G w0 w7 {mb:=mb,eb:=eb,xb:=xb,kb:=d,wb:=wb,sc:=(none,0,0),sm:=(none,0,0),sp:=sp,sb:=sb,so:=(none,0,0),Lc:=[],Lm:=[],Lp:=Lp,Lb:=Lb,Lo:=[],cr:=cr,ke:=[],we:=[],kk:=0,wk:=0,A:=λ_=>⟨0,0,(none,0,0),(none,0,0),none,[],[],[]⟩} (mZ m n 0 l) [] L []:=by
  refine⟨A,ca,la,W,V,⟨dv.nil eP,dv.nil eMk,Z,hsb,dv.nil eI,by rw[N];exact Dq.symm,iN.nil,iN.nil,λ{i x} hx=>?_⟩,(H.perm (cj λy=>?_)).lE (cj λy=>?_)⟩
  ·have hx:(DA 0 (bV []))[i]? =some x:=hx;rw[List.replicate_zero] at hx;cases hx
  ·show DB y ([]++((mb,[ah (ae X.hb),ah (ae eb),ah (ae xb),.slice none 0 0,.map (some d),.slice none 0 0])::(eb,oN 0 sp wb)::(xb,lY sb (none,0,0))::([]++([]++(Lp++(Lb++[]))))++([]++(Q.L ca la (h0 m).s (eo Q X A (h0 m) (bj Q A (h0 m).g (AJ 17)))++L))))= _;simp only[ae,Sys.L,List.set_cons_succ,FV,AM,Ae,Fy];omega
  ·show DB y ((d,Obj.map ⟨[]⟩ 0)::(wb,Obj.map ⟨[]⟩ 0)::rI cr (DA n [])++(dy A (h0 m).g (AJ 17)++[]))= _;simp only[ae,AM,Ae,Fy];omega
 generalize q:({mb:=mb,eb:=eb,xb:=xb,kb:=d,wb:=wb,sc:=(none,0,0),sm:=(none,0,0),sp:=sp,sb:=sb,so:=(none,0,0),Lc:=[],Lm:=[],Lp:=Lp,Lb:=Lb,Lo:=[],cr:=cr,ke:=[],we:=[],kk:=0,wk:=0,A:=λ_=>⟨0,0,(none,0,0),(none,0,0),none,[],[],[]⟩}:MB)=B0 at H0;have q:B0.mb=mb:=by rw[<-q]
 refine⟨λk st I=> ∃(j:Nat) (B:MB),j<=n/\k=n - j/\st.1=(j:Int)/\B.mb=mb/\iM Q X D G w0 I B (mZ m n j l) [] L [],⟨n,λI h8=>⟨0,B0,Dx _,rfl,rfl,q,H0.ext h8⟩⟩,?_⟩;clear H H0 q;rintro k ⟨i, _⟩ I ⟨j,B,hj,hk',hi,rfl,HH⟩;have hi:i=(j:Int):=hi;have H:=HH;subst hi hk';dsimp only;refine ab (λc=>?_) (λc=>?_)
 ·have hj:j<n:=by have:=of_decide_eq_true c;omega
  obtain⟨M,Mo,r, _, _, _,J⟩:=H.tmp;refine λt u=>UX (r.ext u).base.again l (λh=>by omega) (λ_ _ tb ny v=>an rfl ⟨trivial,trivial,?_⟩) t (Ext.refl t);have H:iM Q X D G w0 ny B (mZ m n j l) [(tb,dA (none,0,0) l)] L []:=J (T':=[(tb,dA (none,0,0) l)]) ((r.ext u).join v);refine H.rG (show _=some (B.sc.1,B.sc.2.1,B.sc.2.2) from rfl) (H.al λa oO H=>H.al λz Dp H N8 h13=>?_);have H:=H.ext h13;obtain⟨M,Mo,r,J⟩:=H.cps;have hlen:(mZ m n j l).cs.length=j:=Dq;have O:=H.wf.c;rw[hlen] at J O;have v:=r.perm Fk;have hb:bO N8 z (cellsOf eP (ae a)):=v.base.dj _ (B3 _ (B2 _ B5));refine Fw v O rfl (ys:=[some ⟨a,0,none⟩]) rfl (sd hb) rfl rfl (by rw[Dk,Dw,H6];omega) λs' p Io fD K3=>⟨trivial,trivial,NQ (n:=3) (K3.perm Fk.symm) 0 rfl rfl rfl λw15 K4 Ye Xc=>⟨n - (j+1),by omega,j+1,Cm B j s' p ⟨a,tb,(none,0,0),(none,0,0),none,[],[],[]⟩,by omega,rfl,?_,rfl,?_⟩⟩
  ·rw[ay (by omega) (by omega)];omega
  ·have K5:=K4.perm (cj λy=>by
    show DB y ((B.mb,xh X (Cm B j s' p ⟨a,tb,(none,0,0),(none,0,0),none,[],[],[]⟩))::(p++(((a,j7 ⟨a,tb,(none,0,0),(none,0,0),none,[],[],[]⟩ j (bV []))::(tb,dA (none,0,0) l)::([]++([]++[])))++([(z,[ah (ae a)])]++M))))=DB y ((B.mb,xh X (Cm B j s' p ⟨a,tb,(none,0,0),(none,0,0),none,[],[],[]⟩))::(p++([(z,[ah (ae a)]),(a,j7 ⟨a,tb,(none,0,0),(none,0,0),none,[],[],[]⟩ j (bV [])),(tb,dA (none,0,0) l)]++M)));simp only[ae,AM,Ae,Fy];omega)
   have P:=(J (T':=[(z,[ah (ae a)])]) (x:=bV []) fD ⟨dv.nil kz,dv.nil eI,λc=>(by cases c)⟩ K5).ext Xc;have e:({mZ m n j l with cs:=(mZ m n j l).cs++[bV []]}:MS)=mZ m n (j+1) l:=by
    show MS.mk _ _ _ _ _ _ _ _=MS.mk _ _ _ _ _ _ _ _;rw[List.replicate_succ']
   rw[e] at P;exact P.sub (Kd _)
 ·have:j=n:=by have:=of_decide_eq_false c;omega
  subst this;exact λt u=>T c1 c8 Q X B.rt t U ⟨B,rfl,H.ext u⟩
end
theorem Fi {ws:List Int} {p t:Int} {x:Int×Int×FT} (e:0<=x.2.1/\x.2.1<=3) (h1:(bD ws p t x).2.1= -1) (a:(bD ws p t x).2.2.2.2.2.1=0):1<=(bD ws p t x).2.2.2.1/\(bD ws p t x).2.2.2.1<=7:=by
 have b: ∀n:Nat,FF n<=7:=λn=>by unfold FF;split<;>omega
 have d: ∀{lv wt fr:Int} {ep:Bool} {er:Int} {el:Bool} {ef:Int},(xZ lv wt fr ep er el ef).2.2.2.1=0->er<=7->1<=(xZ lv wt fr ep er el ef).2.1/\(xZ lv wt fr ep er el ef).2.1<=7:=λ{lv wt fr ep er el ef} h f=>by
  unfold xZ at h ⊢;split
  grind
  ·rename_i c;rw[ao c] at h;split
   ·rename_i c2;unfold dM at c2
    grind
   grind
 unfold bD at h1 a ⊢;rw[ao (by omega)] at h1 a ⊢;split
 ·rename_i c;rw[av c] at a;exact absurd a (show ¬ (11:Int)=0 by decide)
 ·rename_i c;rw[ao c] at h1 a;revert h1 a;generalize (B (cL ws (ee x.1 p x.2.1))).toNat=N;intro h1 a;unfold tookS at h1 a ⊢;split
  ·rename_i c;rw[av c] at a;exact absurd a (show ¬ (4:Int)=0 by decide)
  ·rename_i c;rw[ao c] at h1 a;split
   ·rename_i c;rw[av c] at h1;rw[FG,decide_eq_true_eq] at c;have h1:a6 .i64 x.2.1 1= -1:=h1;rw[bF (by omega) (by omega)] at h1;omega
   ·rename_i c;rw[ao c] at h1 a;split
    ·rename_i c;rw[av c] at a;exact d a (b N)
    ·rename_i c;rw[ao c] at a;split
     ·rename_i c;rw[av c] at a;exact d a (b N)
     ·rename_i c;rw[ao c] at a;exact absurd a (show ¬ (11:Int)=0 by decide)
structure MG (Q:Sys) (n k:Nat) (s:MS):Prop where
 YC:x_ n s
 NT:N_ Q s.h.s
 now:s.ep.now<=(k:Int)
 ms:s.ms.length<=5000*k
 op:s.op.length<=k
 vm: ∀y∈s.cs,y.vm<9223372036854775808
section
variable {Q:Sys} {n k:Nat} {s:MS} {gh:Gh} {ta:Int->Bool}
theorem P3 (M:MI gh ta n s):s.ep.ws.length<=4096:=by
 have:=tS _ _ M.wn λf a=>by
  obtain⟨e,b,rfl⟩:=Bx.1 a;obtain⟨m,d,h1,c, _⟩:=M.k5 _ (M.wk e b).1;rw[h1];exact Bx.2 ⟨m,Dn.2 (Aq.1 c).1,rfl⟩
 rw[Dk,Dk,Dw] at this;have:=M.hi.inv.le;omega
theorem MG.bn (H:MG Q n k s) (d:k<=100000):Bn s:=by
 obtain⟨gh,ta,M⟩:=H.YC;have f:=M.nn;have h1:=M.lc;have g:=M.lb;have h:=M.lp;have i:=M.sz;have l:=H.now;have m:=H.ms;have o:=H.op;have p:=P3 M;exact⟨by omega,by omega,by omega,⟨M.nw,by omega⟩,by omega,λe a=>(M.wk e a).2,by omega,by omega,λq b=>by
  obtain⟨j,c⟩:=E4 b;have:=M.box c;omega,by omega,M.tl,H.vm,M.ar⟩
theorem MG.rdy (H:MG Q n k s):Cl Q s.h:=by
 obtain⟨gh,ta,M⟩:=H.YC;exact M.hi.rdy H.NT
theorem MG.sx (H:MG Q n k s) (V:k<=100000) {i:Nat} {x:bG} (hx:s.cs[i]? =some x):Sx s i x:=by
 obtain⟨gh,ta,M⟩:=H.YC;have g:=Db hx;have F:=M.ar x g;have W:=H.op;have X:=M.hi.inv.le;refine⟨M.ph x g,λb=>?_,λb G I=>?_,λz=>?_,λo=>?_,λA=>?_,λa q u=>?_⟩
 ·obtain⟨l,w1,J, _⟩:=M.wl hx b;rw[w1];omega
 ·obtain⟨B,C,Y⟩:=M.ac x g b;obtain⟨l,w1,J,L,r⟩:=M.wl hx b;have v:=tC ⟨F.1.1,C⟩;have K:x.wk=(x.wk.1,(l:Int),(0,0,0,0,())):=BW rfl (BW w1 L);obtain⟨N,hg,Z,O,uJ,qV⟩:=ql M B;have oh:=Fi (x:=x.wk) (by rw[w1];omega) G I;have u:bz s.h.s N.root false (x.c.2.1 / 16)=((bD s.h.s.1 (x.c.2.1 / 16) (aT x.c.1) x.wk).2.2.1,(bD s.h.s.1 (x.c.2.1 / 16) (aT x.c.1) x.wk).2.2.2.1,0,()):=by
   rcases r with r|r
   ·rcases M.hi.inv.lq M.hi.nl (t:=aT x.c.1) O v r with ⟨m, _,D,w,k3,k4⟩|⟨D,w⟩
    ·rw[<-K] at D;rw[G] at D;omega
    ·rw[<-K] at w;exact w I
   ·obtain⟨_,w⟩:=M.hi.inv.nr (t:=aT x.c.1) v J r.1
    grind
  have P:fW s.h x.vm.toNat (x.c.2.1 / 16)=((bD s.h.s.1 (x.c.2.1 / 16) (aT x.c.1) x.wk).2.2.1,(bD s.h.s.1 (x.c.2.1 / 16) (aT x.c.1) x.wk).2.2.2.1,0,()):=by rw[bN hg];exact u
  have R:mg s.h x.vm.toNat (x.c.2.1 / 16)=some (bD s.h.s.1 (x.c.2.1 / 16) (aT x.c.1) x.wk).2.2.1:=by rw[ku,P];rfl
  obtain⟨m,d,rF,S,d4, _⟩:=M.hi.Ua R;have:=(Aq.1 S).1;unfold lnR
  grind
 ·obtain⟨⟨m,d,h1,b, _⟩, _⟩:=M.rc hx z;have:=(Aq.1 b).1;omega
 ·obtain⟨h1,b, _⟩:=M.wt x g o;refine⟨by omega,?_,λf E=>?_⟩
  ·have:=tS x.fs _ (M.fn x g o) λf E=>by
    obtain⟨m,d,h1,b, _⟩:=M.k5 _ (M.fk x g o f E).1;rw[h1];exact Bx.2 ⟨m,Dn.2 (Aq.1 b).1,rfl⟩
   grind
  ·obtain⟨m,d,h1,b, _⟩:=M.k5 _ (M.fk x g o f E).1;omega
 ·unfold iA at A;simp only[FG,decide_eq_true_eq] at A;obtain⟨h0,B, _,C⟩:=A;have v:=tC ⟨F.1.1,C⟩;have hb:=(Ns M.hi B v).1;unfold rR at hb ⊢;simp only[Bool.or_eq_false_iff,decide_eq_false_iff_not] at hb ⊢;refine⟨⟨hb.1.1,by omega⟩,?_⟩;unfold aT;split
  ·decide
  ·split<;>decide
 ·have h1:=M.fN u B5;obtain⟨j,y, _,z,o,T⟩:=(M.aq u).2 a B5;have h6:=(M.wt y (Db z) o).1;have e:a.1=y.ak:=by rw[T]
  refine⟨⟨by omega,h1⟩,?_⟩;have U:=M.oc (a.1 - 1).toNat (by omega);rw[U];have h8:=List.countP_le_length (p:=λq=>jJ q (((a.1 - 1).toNat:Int)+1)) (l:=s.bx);have h9:=M.lb;have Is:=M.nn;omega
structure Cn (s s':MS):Prop where
 now:s'.ep.now<=s.ep.now+1
 ms:s'.ms.length<=s.ms.length+5000
 op:s'.op.length<=s.op.length+1
 wd:s'.h.s.1.length=s.h.s.1.length
 vm: ∀y∈s'.cs,y.vm=0\/ ∃x∈s.cs,x.vm=y.vm
theorem Cn.same (s:MS):Cn s s:=⟨by omega,by omega,by omega,rfl,by grind⟩
theorem Cn.set {s':MS} (h:Cn s s') {i:Nat} {x:bG} (y:bG) (hx:y.vm=0\/ ∃x∈s.cs,x.vm=y.vm):Cn s (bh s' i y):=by
 refine⟨h.now,h.ms,h.op,h.wd,λz a=>?_⟩;rcases gE a with rfl|a
 ·grind
 ·exact h.vm z a
theorem vb: ∀(l:List Int) (s:MS),(l.foldl jj s).h.s.1=s.h.s.1/\(l.foldl jj s).op=s.op/\(l.foldl jj s).ep=s.ep
 |[],s=>⟨rfl,rfl,rfl⟩
 |f::l,s=>by
  rw[Ft,(vb l _).1,(vb l _).2.1,(vb l _).2.2];refine⟨?_,rfl,rfl⟩;show(fQ _ f).1= _;unfold fQ;grind
theorem Cn.free (a:s.ep.ws.length<=4096):Cn s (da s).1:=by
 have b:(oK (iz s.ep)).length<=4096:=by
  unfold oK;rw[jQ];rw[va];grind
 unfold da;refine⟨?_,?_,?_,?_,?_⟩
 ·rw[(vb _ _).2.2];exact(P2 _).2
 ·rw[CW];grind
 ·rw[(vb _ _).2.1];grind
 ·rw[(vb _ _).1]
 ·rw[CY];grind
theorem Cn.post {s':MS} (h:Cn s s') (b:s'.op=s.op) (bx:List (List AK)) (i:Nat) (t p:Int) (a:List (List AK)):Cn s {s' with bx:=a,op:=(cN bx s.op i t p).2.2}:=by
 refine⟨h.now,h.ms,?_,h.wd,h.vm⟩;unfold cN
 grind
theorem Cn.call {i:Nat} {x:bG} (a:x∈s.cs):Cn s (fx s i x).1:=by
 have h1:Cn s {s with h:=ij _ x.vm x.c.1 x.c.2.1 x.c.2.2.1 x.c.2.2.2.1,kn:=s.kn++eA s (ij s.h x.vm x.c.1 x.c.2.1 x.c.2.2.1 x.c.2.2.2.1),ms:=s.ms++[(1,x.vm,0,x.c,wS s.h x.vm x.c.1 x.c.2.1 x.c.2.2.1 x.c.2.2.2.1,qb s.h x.vm x.c.1 x.c.2.1 x.c.2.2.1 x.c.2.2.2.1)]}:=
  ⟨by grind,by simp,by simp,PZ ..,by grind⟩
 have hx: ∀y:bG,y.vm=x.vm->y.vm=0\/ ∃x∈s.cs,x.vm=y.vm:=λy e=> .inr (by grind);unfold fx;dsimp;split
 ·split
  ·exact h1.set (x:=x) _ (hx _ rfl)
  ·exact(h1.post rfl _ _ _ _ _).set (x:=x) _ (hx _ rfl)
 ·exact h1.set (x:=x) _ (hx _ rfl)
theorem Cn.phase (c:s.ep.ws.length<=4096) {i:Nat} {x:bG} (d:x∈s.cs):Cn s (bE s i x).1:=by
 have hx: ∀y:bG,y.vm=x.vm->y.vm=0\/ ∃x∈s.cs,x.vm=y.vm:=λy e=> .inr ⟨x,d,e.symm⟩;have b: ∀e:vF,e.now=s.ep.now->Cn s {s with ep:=e}:=λe h=>⟨by show e.now<= _;omega,by show s.ms.length<= _;omega,by show s.op.length<= _;omega,rfl,λy a=> .inr ⟨y,a,rfl⟩⟩;have f:(oY s.ep i).now=s.ep.now:=by unfold oY;split<;>rfl
 unfold bE;split
 ·exact Cn.free c
 split
 ·unfold cQ;split
  ·dsimp only;split<;>exact(b _ f).set (x:=x) _ (hx _ rfl)
  split
  ·exact Cn.same s
  split
  ·exact Cn.free c
  ·exact Cn.call d
 split
 ·unfold jk;dsimp only;split
  ·exact(Cn.same s).set (x:=x) _ (hx _ rfl)
  split
  ·exact(b (rX s.ep i) rfl).set (x:=x) _ (hx _ rfl)
  ·exact(Cn.same s).set (x:=x) _ (hx _ rfl)
 split
 ·unfold eT;dsimp only;split
  ·exact⟨by show s.ep.now<= _;omega,by simp,by show s.op.length<= _;omega,cF ..,λy a=> .inr ⟨y,a,rfl⟩⟩
  ·exact⟨by show s.ep.now<= _;omega,by grind,by show s.op.length<= _;omega,rfl,λy a=> .inr ⟨y,a,rfl⟩⟩
 ·unfold iF;split
  ·exact b _ (zn _ _).1
  ·exact Cn.same s
theorem Cn.step (g:s.ep.ws.length<=4096) (c:Int):Cn s (aL s c).1:=by
 have h: ∀{i:Nat} {x:bG},x∈s.cs->Cn s (fw (bE s i x) i x).1:=λ{i x} d=>by
  unfold fw;split
  ·exact(Cn.phase g d).set (x:=x) _ (.inl rfl)
  ·exact Cn.phase g d
 unfold aL;split
 ·exact Cn.same s
 split
 ·exact Cn.same s
 ·rename_i x hx;have d:=Db hx;unfold dZ;split
  ·exact h d
  ·split
   ·rename_i a s1 f;unfold o8 at f;split at f
    ·cases f;have k: ∀y:bG,y.vm=x.vm->y.vm=0\/ ∃x∈s.cs,x.vm=y.vm:=λy e=> .inr ⟨x,d,e.symm⟩;have h0: ∀(b:List (List AK)) (j:Nat) (v:Int),Cn s {s with bx:=b,op:=s.op.set j v}:=λb j v=>⟨by grind,by simp,by simp,rfl,by grind⟩;exact(h0 _ _ _).set (x:=x) _ (k _ rfl)
    ·cases f
   ·exact h d
theorem MG.step (H:MG Q n k s) (c:Int):MG Q n (k+1) (aL s c).1:=by
 obtain⟨gh,ta,M⟩:=H.YC;have C:=Cn.step (P3 M) c;have h1:=H.now;have b:=H.ms;have d:=H.op;have f:=C.now;have g:=C.ms;have h:=C.op;refine⟨H.YC.step c,⟨by rw[C.wd];exact H.NT.1,by rw[C.wd];exact H.NT.2⟩,by omega,by omega,by omega,λy a=>?_⟩;rcases C.vm y a with e|⟨x,hx,e⟩
 ·grind
 ·rw[<-e];exact H.vm x hx
theorem MG.mono (H:MG Q n k s) {a:Nat} (h:k<=a):MG Q n a s:=by
 have h1:=H.now;have b:=H.ms;have c:=H.op;exact⟨H.YC,H.NT,by omega,by omega,by omega,H.vm⟩
theorem MG.ask (H:MG Q n k s) (c vm:Int) (hv:vm<9223372036854775808) {ct:CT} (hc:bT ct.2.1/\bT ct.2.2.1/\bT ct.2.2.2.1):MG Q n k (cB s c vm ct):=by
 refine⟨H.YC.ask c vm hc,?_,?_,?_,?_,?_⟩<;>unfold cB
 ·split
  ·exact H.NT
  ·split
   ·exact H.NT
   ·split<;>exact H.NT
 ·split
  ·exact H.now
  ·split
   ·exact H.now
   ·split<;>exact H.now
 ·split
  ·exact H.ms
  ·split
   ·exact H.ms
   ·split<;>exact H.ms
 ·split
  ·exact H.op
  ·split
   ·exact H.op
   ·split<;>exact H.op
 ·split
  ·exact H.vm
  ·split
   ·exact H.vm
   ·split
    ·intro y a;rcases gE a with rfl|a
     ·grind
     ·exact H.vm y a
    ·exact H.vm
theorem MG.new {f:Nat} {l:Int} (a:4<=f/\f<=4096) (b:1<=n/\n<=8) (d:1<=l/\l<=64) (g:Q.c=16*f):MG Q n 0 (m0 f n l):=by
 refine⟨x_.new a b d,⟨?_,?_⟩,FW _,Ds _,Ds _,λy e=>?_⟩
 ·show(DA _ _).length<=Q.c
  grind
 ·show(DA _ 0).length<= _
  grind
 ·rw[DV e];decide
end
abbrev sOp:List Sc:=[.int .i64,.bool,.int .i64,.int .i64,.int .u64,.int .u64,.int .u64]
noncomputable def U4:dG A2:={U2 with quiet:=[49,50,17]++U2.quiet}
def rB:Nat->a7:=(λ|5=>[(10,Go.RX.El.one (Go.RX.Sc.int Go.IntKind.i64))]| _=>[])
theorem NB (f c l:Int) (w:A0) (d:Option AF×Bool×Unit->A0->Prop):(aI U4 rB 15 [aa f,aa c,aa l] w d)=(
 aA A2 52 (.bA [.one .ptr,.one (.int .i64)]) [aa f,aa c,aa l] w λ(x:Option AF×Int×Unit) a=>aG (x.2.1 != 0||x.1.isNone) (au a (d (none,false,()))) (∃(I:Nat->Int×Unit->A0->Prop),(∃n, ∀w1,Ext a w1->I n (0,()) w1)/\ ∀(n:Nat) (s:Int×Unit) (w1:A0),I n s w1->aG (decide (s.1<2)) (aA A2 29 (.el aX) [ah x.1,aa 0,aa 0,.agg ⟨[aa 1,ax 0,ax 0,ax 0]⟩] w1 λ(h:Int) a=>aG (h != 0) (au a (d (none,false,()))) (aA
 A2 31 (.bA [.agg [.int .u64,.int .i64],.one .bool]) [ah x.1,aa 0] a λ(x:(Int×Int×Unit)×Bool×Unit) a=>aN a ⟨[ax 0,aa 0]⟩ 61 λb a=>aC a (ae b) [ax x.1.1,aa x.1.2.1] λa=>((!!x.2.1)=true->true=true)/\aj a (some !!x.2.1) (ad (ae b) 0) rN λ(i:Int)=>aG (!x.2.1||i != aJ .u64 (aH .i64 1 s.1)) (au a (d (none,false,()))) (∀e,Ext a e-> ∃(g:Nat),g<n/\I g (aH .i64 s.1 1,()) e))) (au w1 (d (x.1,true,()))))):=by kernel_rfl
theorem aas (p:Option AF) (a:Int) (b:Bool) (v k x y z:Int) (w:A0) (e:Unit->A0->Prop):(aI U4 (λ_=>[]) 16 [ah p,.agg ⟨[aa a,.bool b,aa v,aa k,ax x,ax y,ax z]⟩] w e)=(
 aN w ⟨[aa a,.bool b,aa v,aa k,ax x,ax y,ax z]⟩ 33 λb c=>true=true/\s_ c (ad (ae b) 1) λx=>aG x (true=true/\aV c (ad (ae b) 0) λx=>true=true/\aV c (ad (ae b) 2) λf=>true=true/\aj c none (ad (ae b) 3) uW λ(d:Int×Int×Int×Int×Unit)=>aA A2 29 (.el aX) [ah p,aa x,aa f,.agg ⟨[aa d.1,ax d.2.1,ax d.2.2.1,ax d.2.2.2.1]⟩] c λ(x:Int) c=>au c (e ())) (true=true/\aV c (ad (ae b)
 0) λx=>aA A2 31 (.bA [.agg [.int .u64,.int .i64],.one .bool]) [ah p,aa x] c λ(x:(Int×Int×Unit)×Bool×Unit) c=>au c (e ()))):=by kernel_rfl
def rC:Nat->a7:=(λ|1=>[(6,Go.RX.El.one (Go.RX.Sc.int Go.IntKind.i64))]|4=>[(7,Go.RX.El.one (Go.RX.Sc.int Go.IntKind.i64))]| _=>[])
theorem ND (p:Option AF) (c r:Int) (w:A0) (f:Unit->A0->Prop):(aI U4 rC 48 [ah p,aa c,aa r] w f)=(
 ∃(I:Nat->Int×Unit->A0->Prop),(∃n, ∀w1,Ext w w1->I n (0,()) w1)/\ ∀(n:Nat) (s:Int×Unit) (w1:A0),I n s w1->aG (decide (s.1<r)) (∃(e:Nat->Int×Unit->A0->Prop),(∃n, ∀g,Ext w1 g->e n (0,()) g)/\ ∀(h:Nat) (d:Int×Unit) (w1:A0),e h d w1->aG (decide (d.1<c)) (aA A2 31 (.bA [.agg [.int .u64,.int .i64],.one .bool]) [ah p,aa d.1] w1 λ(x:(Int×Int×Unit)×Bool×Unit) i=> ∀a,Ext i a-> ∃(b:Nat),b<h/\e b (aH .i64 d.1 1,()) a) (∀a,
 Ext w1 a-> ∃(b:Nat),b<n/\I b (aH .i64 s.1 1,()) a)) (au w1 (f ()))):=by kernel_rfl
def rD:Nat->a7:=(λ|10=>[(9,Go.RX.El.one (Go.RX.Sc.int Go.IntKind.i64))]| _=>[])
theorem NE (w:A0) (f:Bool->A0->Prop):(aI U4 rD 46 [] w f)=(
 aA A2 15 (.bA [.one .ptr,.one .bool]) [aa 30,aa 2,aa 4] w λx a=>aA A2 52 (.bA [.one .ptr,.one (.int .i64)]) [aa 30,aa 9,aa 4] a λ(q:Option AF×Int×Unit) a=>aG (!x.2.1) (au a (f false)) (aA A2 29 (.el aX) [ah x.1,aa 0,aa 1,.agg ⟨[aa 3,ax 5,ax 3,ax 0]⟩] a λ(r:Int) a=>aA A2 29 (.el aX) [ah x.1,aa 0,aa 1,.agg ⟨[aa 15,ax 0,ax 0,ax 0]⟩] a λ(t:Int) a=>aA
 A2 31 (.bA [.agg [.int .u64,.int .i64],.one .bool]) [ah x.1,aa 0] a λ(k:(Int×Int×Unit)×Bool×Unit) a=>aN a ⟨[ax 0,aa 0]⟩ 61 λb a=>aC a (ae b) [ax k.1.1,aa k.1.2.1] λa=>aA A2 29 (.el aX) [ah x.1,aa 1,aa 1,.agg ⟨[aa 7,ax 81,ax 7,ax 0]⟩] a λ(F:Int) a=> ∃(I:Nat->Int×Unit->A0->Prop),(∃n, ∀w1,Ext a w1->I n (0,()) w1)/\ ∀(n:Nat) (s:Int×Unit) (w1:A0),I n s w1-> ∃(u:Int),(decide (s.1<9)=
 true->af A2 49 [ah x.1,aa 1] w1 (aa u))/\aG (decide (s.1<9)&&u != 0) (aA A2 31 (.bA [.agg [.int .u64,.int .i64],.one .bool]) [ah x.1,aa 1] w1 λ(x:(Int×Int×Unit)×Bool×Unit) a=> ∀v,Ext a v-> ∃(y:Nat),y<n/\I y (aH .i64 s.1 1,()) v) (aA A2 29 (.el aX) [ah x.1,aa 0,aa 1,.agg ⟨[aa 4,ax 5,ax 0,ax 0]⟩] w1 λ(G:Int) a=>aA A2 31 (.bA [.agg [.int .u64,.int .i64],.one .bool]) [ah x.1,aa 0] a λ(H
 :(Int×Int×Unit)×Bool×Unit) a=>aA A2 31 (.bA [.agg [.int .u64,.int .i64],.one .bool]) [ah x.1,aa 0] a λ(l:(Int×Int×Unit)×Bool×Unit) a=>aN a ⟨[ax 0,aa 0]⟩ 61 λD a=>aC a (ae D) [ax l.1.1,aa l.1.2.1] λa=> ∃(z:Int),af A2 50 [ah x.1,aa 1] a (aa z)/\aA A2 51 (.el fi) [ah x.1,aa 1] a λE a=>aA A2 31 (.bA [.agg [.int .u64,.int .i64],.one .bool]) [ah x.1,aa 1] a λ(J:(Int×Int×Unit)
 ×Bool×Unit) a=>aA A2 31 (.bA [.agg [.int .u64,.int .i64],.one .bool]) [ah x.1,aa 0] a λ(h:(Int×Int×Unit)×Bool×Unit) a=>aN a ⟨[ax 0,aa 0]⟩ 61 λm a=>aC a (ae m) [ax h.1.1,aa h.1.2.1] λa=>aA A2 32 (.el fi) [ah x.1] a λo a=>aA A2 41 (.el fi) [ah x.1] a λd a=>aA A2 48 (.bA []) [ah x.1,aa 2,aa 3] a λK a=>aj a (some (q.2.1==1&&r==0&&t==9)) (ae b) cA λ(A:Int×Int×Unit)=>
 aG (q.2.1==1&&r==0&&t==9&&(A.1==2&&(A.2.1==0&&true))&&k.2.1&&s.1==6&& !l.2.1&&z==1&&(↑E.2.1:Int)==1) (aA A2 51 (.el fi) [ah x.1,aa 1] a λi a=>aj a (some ((↑i.2.1:Int)==0)) (ae m) cA λ(e:Int×Int×Unit)=>(((↑i.2.1:Int)==0&&(e.1==2&&(e.2.1==0&&true))&&h.2.1&&(↑o.2.1:Int)==4&&(↑d.2.1:Int)==5)=true->d.1.isSome=true/\(0:Int)<=3/\3<(↑d.2.1:Int))/\aj a (some ((↑i.2.1:Int)==0&&(e.1==2&&(e.2.1==
 0&&true))&&h.2.1&&(↑o.2.1:Int)==4&&(↑d.2.1:Int)==5)) (ad d.1 27) YY λ(c:Int×Int×Int×Int×Int×Int×Int×Int×Int×Unit)=>aG ((↑i.2.1:Int)==0&&(e.1==2&&(e.2.1==0&&true))&&h.2.1&&(↑o.2.1:Int)==4&&(↑d.2.1:Int)==5&&(c.1==4&&(c.2.1==0&&(c.2.2.1==33&&(c.2.2.2.1==0&&(c.2.2.2.2.1==0&&(c.2.2.2.2.2.1==0&&(c.2.2.2.2.2.2.1==0&&true)))&&(c.2.2.2.2.2.2.2.1==7&&(c.2.2.2.2.2.2.2.2.1==0&&true)&&true)))))) (aA A2 32 (.el fi)
 [ah x.1] a λg a=> ∃(j:Option AF),(((↑g.2.1:Int)==0)=true->af A2 17 [ah x.1] a (ah j))/\aG ((↑g.2.1:Int)==0) (aA A2 18 (.el lZ) [ah j] a λp a=>aA A2 30 (.el aX) [ah p,aa 5] a λ(B:Int) a=> ∃(C:Int),((B==0)=true->af A2 49 [ah x.1,aa 2] a (aa C))/\au a (f (B==0&&C==0))) (∃(p:Int),(false=true->af A2 49 [ah x.1,aa 2] a (aa p))/\au a (f false))) (∃
 (g:Option AF),(false=true->af A2 17 [ah x.1] a (ah g))/\ ∃(j:Int),(false=true->af A2 49 [ah x.1,aa 2] a (aa j))/\au a (f false))) (aj a (some false) (ae m) cA λ(i:Int×Int×Unit)=>(false=true->d.1.isSome=true/\(0:Int)<=3/\3<(↑d.2.1:Int))/\aj a (some false) (ad d.1 27) YY λ(e:Int×Int×Int×Int×Int×Int×Int×Int×Int×Unit)=> ∃(c:Option AF),(false=true->af A2 17 [ah x.1] a (ah c))/\ ∃(g:Int),
 (false=true->af A2 49 [ah x.1,aa 2] a (aa g))/\au a (f false))))):=by kernel_rfl
def kA:MS:=cB (yf 30 2 4) 0 1 (3,5,3,0,())
def kB:MS:=(aL kA 0).1
def kC:MS:=cB kB 1 1 (7,81,7,0,())
def kD (j:Nat):MS:=j.rec kC λ_ s=>(aL s 1).1
def kE:MS:=cB (kD 6) 0 1 (4,5,0,0,())
def kF:MS:=(aL kE 0).1
def kG:MS:=(aL kF 0).1
def kH:MS:=(aL kG 1).1
def kI':MS:=(aL kH 0).1
def kJ:MS:=F_ 2 3 kI'
def aa3:Bool:=qS (yf 30 2 4) 0==0&&(qS kA 0==9&&((aL kA 0).2==((2,0),true)&&(IA kC 1 != 0&&(IA (kD 1) 1 != 0&&(IA (kD 2) 1 != 0&&(IA (kD 3) 1 != 0&&(IA (kD 4) 1 != 0&&(IA (kD 5) 1 != 0&&IA (kD 6) 1==0))))))))
theorem WH:aa3=true:=by decide+kernel
def aa4:Bool:=(aL kF 0).2.2==false&&(Uq kG 1==1&&((lnN kG 1).length==1&&((aL kH 0).2==((2,0),true)&&(kI'.ep.ws.length==4&&(kI'.ms.length==5&&(kI'.ms[3]? ==some (4,0,33,(0,0,0,0,()),7,0)&&(lnN kJ 1==[]&&(kJ.ep.ws==[]&&(cg kJ.h.s.2 5==0&&IA kJ 2==0)))))))))
theorem WI:aa4=true:=by decide+kernel
abbrev OpT:Type:=Int×Bool×Int×Int×Int×Int×Int×Unit
def YD (s:MS) (o:OpT):MS:=if o.2.1=true then cB s o.1 o.2.2.1 (o.2.2.2.1,o.2.2.2.2.1,o.2.2.2.2.2.1,o.2.2.2.2.2.2.1,()) else(aL s o.1).1
def aa5 (o:OpT):Prop:=o.2.2.1<9223372036854775808/\bT o.2.2.2.2.1/\bT o.2.2.2.2.2.1/\bT o.2.2.2.2.2.2.1
section
variable {Q:Sys} {X:HX} {D G:List Nat} {w0 w w1:A0} {R:MR} {s:MS} {T L:List (Nat×List AC)} {M:List (Nat×B1)} {n k:Nat}
theorem MG.op' (H:MG Q n k s) {o:OpT} (a:aa5 o):MG Q n (k+1) (YD s o):=by
 unfold YD;split
 ·exact(H.ask _ _ a.1 a.2).mono (by omega)
 ·exact H.step _
theorem MU.dj (H:MU Q X D G w0 w R s T L M) {x:Nat×List AC} (hx:x∈T):bO w x.1 x.2:=by
 obtain⟨L0,K,h⟩:=H.base;exact K.dj _ (h x hx)
theorem js (H:MU Q X D G w0 w R s T L M) (a:MG Q n k s) (b:k<=100000) (c:Int) {K:B8->A0->Prop}
 (kk: ∀d,MU Q X D G w0 d R (aL s c).1 T L M->K (((aL s c).2.1.1,(aL s c).2.1.2,()),(aL s c).2.2,()) d):
 aA A2 31 Of [ah (ae R.mb),aa c] w K:=
 Tv H (a.bn b) a.rdy (λ_ _ hx=>a.sx b hx) c kk
theorem ab1 {f n:Nat} {l:Int} {j:Nat} {s:MS} (B:Bg f n l j s) (a:j<16) (b:j<f) (c:1<=n):(aL (cB s 0 0 wT) 0).2=((((j+1:Nat):Int),0),true)/\Bg f n l (j+1) (aL (cB s 0 0 wT) 0).1/\qS s 0=0:=B.DH a b c
theorem BT (H:aM D G w0 w L) (f c:Nat) (l:Int) (p:20<=f/\f<=4096) (hc:1<=c/\c<=8) (a:1<=l/\l<=64) {K:Option AF×Bool×Unit->A0->Prop}
 (q: ∀Q X R w1,MU Q X D G w0 w1 R (yf f c l) [] L []->MG Q c 2 (yf f c l)->K (some ⟨R.mb,0,none⟩,true,()) w1):
 aA A2 15 (.bA [.one .ptr,.one .bool]) [aa (f:Int),aa (c:Int),aa l] w K:=by
 refine aA.go H λw1 H=>ai (C:=U4) (aW:=rB) (Ar (NB _ _ l w1 K) ?_);refine xB H _ _ l (by omega) a (λh=>by omega) λ_ _ Q X R F g H=>an rfl ?_;rw[DE,DE] at H;rw[DE] at g;have hb:yf f c l=(aL (cB (aL (cB (m0 f c l) 0 0 wT) 0).1 0 0 wT) 0).1:=rfl;refine⟨λn st d=> ∃(j:Nat) (s:MS),j<=2/\n=2 - j/\st.1=(j:Int)/\Bg f c l j s/\(j=0->s=m0 f c l)/\(j=1->s=(aL (cB (m0 f c l) 0 0 wT) 0).1)/\(j=2->s=yf f c l)/\MG Q c j s/\MU Q X D G w0 d R s [] L [],⟨2,λd r=>⟨0,m0 f c l,by omega,rfl,rfl,Bg.new p hc a,λ_=>rfl,λh=>(by cases h),λh=>(by cases h),MG.new (by omega) hc a g,H.ext r⟩⟩,?_⟩;clear H;rintro n ⟨t, _⟩ d ⟨j,s,I,u,hi,v,x,y,i,k,H⟩;have hi:t=(j:Int):=hi;subst hi u;dsimp only;refine ab (λe=>?_) (λe=>?_)
 ·have J:j<2:=by have:=of_decide_eq_true e;omega
  obtain⟨z,A,B⟩:=ab1 v (by omega) (by omega) hc.1;have m:MG Q c j (cB s 0 0 wT):=k.ask 0 0 (by decide) ⟨⟨by decide,by decide⟩,⟨by decide,by decide⟩,⟨by decide,by decide⟩⟩;refine kZ H 0 0 1 λo H=>?_;rw[B];refine an rfl (js H m (by omega) 0 λM H=>?_);rw[z];refine H.al λb N H=>H.st 0 rfl rfl rfl λO H=>⟨λ_=>rfl,H.cz 0 rfl (show _=some ((j+1:Nat):Int) from rfl) (an ?_ λP E=>⟨2 - (j+1),by omega,j+1,(aL (cB s 0 0 wT) 0).1,by omega,rfl,?_,A,λh=>(by omega),λh=>?_,λh=>?_,m.step 0,(MU.sub H (Kd _)).ext E⟩)⟩
  ·have:j=0\/j=1:=by omega
   rcases this with rfl|rfl<;>decide
  ·rw[ay (by omega) (by omega)];omega
  ·rw[x (by omega)]
  ·rw[hb,y (by omega)]
 ·have:j=2:=by have:=of_decide_eq_false e;omega
  subst this;refine H.en λo H=>q Q X R o (by rw[<-i rfl];exact H) (by rw[<-i rfl];exact k)
theorem aat (H:MU Q X D G w0 w R s T L M) (f:MG Q n k s) (g:k<=100000) (o:OpT) {K:Unit->A0->Prop} (kk: ∀d,MU Q X D G w0 d R (YD s o) T L M->K () d):
 aA A2 16 (.bA []) [ah (ae R.mb),.agg ⟨[aa o.1,.bool o.2.1,aa o.2.2.1,aa o.2.2.2.1,ax o.2.2.2.2.1,ax o.2.2.2.2.2.1,ax o.2.2.2.2.2.2.1]⟩] w K:=by
 obtain⟨a,b,v,q,x,y,z,⟨⟩⟩:=o;refine H.go λw1 H=>ai (C:=U4) (aW:=λ_=>[]) (Ar (aas _ a b v q x y z w1 K) (H.al λi d H=>⟨rfl,H.cz 0 rfl (show _=some b from rfl) ?_⟩));unfold YD at kk;dsimp only at kk;refine ab (λc=>?_) (λc=>?_)
 ·rw[av c] at kk;refine⟨rfl,H.cz 0 rfl (show _=some a from rfl) ⟨rfl,H.cz 0 rfl (show _=some v from rfl) ⟨rfl,H.cz 0 rfl (show _=some (q,x,y,z,()) from rfl) (kZ H a v q λh H=>H.en λe H=>kk e (H.sub (Ci _ _)))⟩⟩⟩
 ·rw[ao (by rw[c];decide)] at kk;exact⟨rfl,H.cz 0 rfl (show _=some a from rfl) (js H f g a λh H=>H.en λe H=>kk e (H.sub (Ci _ _)))⟩
theorem MG.run: ∀(l:List Nat) {k:Nat} {s:MS},MG Q n k s->MG Q n (k+l.length) (Ky s l)
 |[], _, _,h=>h
 |c::l,k,s,h=>by
  have:=MG.run l (h.step (c:Int));rw[Ga,show k+(l.length+1)=k+1+l.length by omega];exact this
theorem MG.rnd (H:MG Q n k s) (m:Nat): ∀r,MG Q n (k+r*m) (F_ m r s)
 |0=>by rw[Nat.zero_mul];exact H
 |r+1=>by
  have:=MG.run (AJ m) (MG.rnd H m r);rw[Dw] at this;rw[Nat.succ_mul, <-Nat.add_assoc];exact this
theorem Tx {m j:Nat} (s:MS) (h:j<m):Ky s ((AJ m).take (j+1))=(aL (Ky s ((AJ m).take j)) (j:Int)).1:=by
 unfold Ky;rw[H4,J3 h,H5];rfl
theorem NF (H:MU Q X D G w0 w R s T L M) (o:MG Q n k s) (m r:Nat) (B:k+r*m<=100000) (E:m<=1000) (F:r<=1000) {K:Unit->A0->Prop} (kk: ∀a,MU Q X D G w0 a R (F_ m r s) T L M->K () a):
 aA A2 48 (.bA []) [ah (ae R.mb),aa (m:Int),aa (r:Int)] w K:=by
 refine H.go λw1 H=>ai (C:=U4) (aW:=rC) (Ar (ND _ _ _ w1 K) ?_);refine⟨λg st a=> ∃j:Nat,j<=r/\g=r - j/\st.1=(j:Int)/\MU Q X D G w0 a R (F_ m j s) T L M,⟨r,λa p=>⟨0,Dx _,rfl,rfl,H.ext p⟩⟩,?_⟩;clear H;rintro g ⟨d, _⟩ a ⟨j,q,t,hi,H⟩;have hi:d=(j:Int):=hi;subst hi t;dsimp only;refine ab (λc=>?_) (λc=>?_)
 ·have q:j<r:=by have:=of_decide_eq_true c;omega
  have u:=o.rnd m j;have I:j*m+m<=r*m:=by
   have:=Nat.mul_le_mul_right m (show j+1<=r by omega);rw[Nat.succ_mul] at this;exact this
  refine⟨λh st b=> ∃i:Nat,i<=m/\h=m - i/\st.1=(i:Int)/\MU Q X D G w0 b R (Ky (F_ m j s) ((AJ m).take i)) T L M,⟨m,λb v=>⟨0,Dx _,rfl,rfl,H.ext v⟩⟩,?_⟩;clear H;rintro h ⟨d, _⟩ b ⟨i,J,x,f,H⟩;have f:d=(i:Int):=f;subst f x;dsimp only;refine ab (λc=>?_) (λc=>?_)
  ·have hi:i<m:=by have:=of_decide_eq_true c;omega
   have l:=MG.run ((AJ m).take i) u;rw[J7,Dw] at l;refine js H l (by omega) (i:Int) λy H N z=>⟨m - (i+1),by omega,i+1,by omega,rfl,?_,?_⟩
   ·rw[ay (by omega) (by omega)];omega
   ·rw[Tx _ hi];exact H.ext z
  ·have:i=m:=by have:=of_decide_eq_false c;omega
   subst this;refine λy A=>⟨r - (j+1),by omega,j+1,by omega,rfl,?_,?_⟩
   ·rw[ay (by omega) (by omega)];omega
   ·have e:(AJ i).take i=AJ i:=List.take_of_length_le (by rw[Dw];exact Ds _);rw[e] at H;exact H.ext A
 ·have:j=r:=by have:=of_decide_eq_false c;omega
  subst this;exact H.en λb H=>kk b H
theorem Ii (H:MU Q X D G w0 w R s T L M) {K:Option AF->A0->Prop} (k: ∀bp bf c rest a,MU Q X D G w0 a R s ((bp,[.slice (ae bf) s.h.s.2.length c])::(bf,flat eD s.h.s.2++rest)::T) L M->K (ae bp) a):
 aA A2 18 (.el (.one .ptr)) [ah (ae X.hb)] w K:=by
 obtain⟨A,i,L0,S,b, _,J⟩:=H.sat;exact zL S b λd e f g a S=>k d e f g a (J (T':=[_, _]) S)
theorem NG (H:MU Q X D G w0 w R s T L M) {bp bf c:Nat} {ds:List DT} {rest:List AC} (h1:(bp,[.slice (ae bf) ds.length c])∈T) (b:(bf,flat eD ds++rest)∈T) (v:Int) (d:ds.length<=4096) {K:Int->A0->Prop} (k: ∀a,MU Q X D G w0 a R s T L M->K (cg ds v:Int) a):
 aA A2 30 (.el (.one (.int .i64))) [ah (ae bp),aa v] w K:=by
 refine H.go λw1 H=>(Eo (H.dj h1) (H.dj b) rfl d v).mono λx a ⟨e,h⟩=>?_;subst e;exact k a (H.ext h)
end
end Go.Proofs.YtlcenllcmeebhaaGreat.Mu
