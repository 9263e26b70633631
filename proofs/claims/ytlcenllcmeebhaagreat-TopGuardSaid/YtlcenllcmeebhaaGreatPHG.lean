import Derived.Test.YtlcenllcmeebhaaGreatPHF
/-! What the statement leans on: texts joined and shortened by a program of mine. -/
set_option linter.unusedVariables false
set_option linter.unusedSimpArgs false
open Go renaming World->A2,Value->AC,Addr->Ad,Obj->BJ,MapEntry->DA
open Go.Proofs.Tryz renaming prog->Ab
open List renaming range->Ae,count_append->Av,count_cons->B1,getElem?_eq_some_iff->B2,sublist_cons_self->B3,mem_cons_of_mem->B4,mem_map->BK,mem_cons_self->BL,getElem?_set_self->BN,mem_append_right->BO,getElem?_set_ne->Bp,count->Bs,replicate->Bv,mem_append_left->Bx,mem_range->Bz,mem_of_getElem?->C6,length_set->CH,set_set->CN,append_nil->CV,getElem?_eq_getElem->CX,eq_of_mem_replicate->DB,length_replicate->Da,length_map->Db,getElem?_map->Dl,not_mem_nil->Dn,mem_singleton->Dv,getD_eq_getElem?_getD->E4,sublist_append_right->E5,set_cons_zero->E6,any_eq_true->EU,mem_cons->EW,length_range->EY,count_nil->F0,contains_iff_mem->FF,nodup_cons->Fs,getElem?_replicate->Fu,getElem?_append_left->Fv,perm_middle->Fw,map_append->Fx,foldl_cons->G1,length_append->GS,getElem?_of_mem->H5,ext_getElem?->H6,any_eq_false->H7,mem_flatMap->HB,pairwise_cons->HE,length_filter_le->HG,length_singleton->HM,range_succ->HZ,eq_nil_iff_forall_not_mem->Hy,mem_of_find?_eq_some->I1,nodup_nil->I2,getElem?_set->IR,mem_filter->In,nodup_range->J3,map_congr_left->JC,getElem?_range->JD,take_add_one->JJ,foldl_append->JL,take_length->JP,getElem?_eq_none->JS,getElem?_append_right->Jn,set_cons_succ->Jo,nil_sublist->Jq,countP_le_length->Jt,countP_cons->K1,countP_eq_zero->Kg
open Eq renaming mpr->B5
open Int renaming toNat_natCast->C7,le_refl->CO,tmod_eq_emod_of_nonneg->Hb
open List.Perm renaming append_left->CP,append_right->FS,trans->Hq
open False renaming elim->Cb
open Prod renaming ext->Dc
open List.Sublist renaming cons->De
open Bool renaming and_eq_true->Do,or_eq_true->Ga,and_assoc->Gd,eq_false_iff->Gi,false_or->Hr,or_eq_false_iff->LL
open Nat renaming le_refl->E9,zero_le->Ff,le_trans->Ht,not_lt_zero->M4
open Go.IntKind renaming i64->EO
open Go.Instr renaming findNow->H4
namespace Go.Proofs.YtlcenllcmeebhaaGreat
set_option maxRecDepth 100000
open Go.RX D
section
variable {gh dw:Gh} {ta:Int->Bool} {n:Nat} {s:MS} {i:Nat}
structure N8 (e e':vh) (fs:List Int):Prop where
 now:e'.now=e.now
 pins:e'.pins=e.pins
 Wh: ∀w∈e'.ws,w∈e.ws\/(w.1∈fs/\w.2=e.now)
 fa: ∀w∈e.ws,w∈e'.ws
 new: ∀f∈fs,f∉e.ws.map (·.1)->(f,e.now)∈e'.ws
 nd:(e.ws.map (·.1)).Nodup->(e'.ws.map (·.1)).Nodup
theorem ace (e:vh) (f:Int):N8 e (kT e f) [f]:=by
 unfold kT;split
 ·rename_i h;obtain⟨w,hw,a⟩:=EU.1 h;have a:w.1=f:=by simpa using a
  exact⟨rfl,rfl,λw h=> .inl h,λw h=>h,λg b d=>absurd (BK.2 ⟨w,hw,by rw[a,Dv.1 b]⟩) d,id⟩
 ·rename_i h;refine⟨rfl,rfl,λw hw=>?_,λw hw=>B4 _ hw,λg b _=>?_,λd=>?_⟩
  ·rcases EW.1 hw with rfl|hw
   ·exact .inr ⟨Dv.2 rfl,rfl⟩
   ·exact .inl hw
  ·rw[Dv.1 b];exact BL
  ·show((f,e.now)::e.ws).map (·.1) |>.Nodup;rw[List.map_cons,Fs];refine⟨λc=>h ?_,d⟩;obtain⟨w,hw,a⟩:=BK.1 c;exact EU.2 ⟨w,hw,by simpa using a⟩
theorem Eo: ∀(fs:List Int) (e:vh),N8 e (fs.foldl kT e) fs
 |[],e=>⟨rfl,rfl,λw h=> .inl h,λw h=>h,λf l=>absurd l (by simp),id⟩
 |f::fs,e=>by
  have A:=ace e f;have a:=Eo fs (kT e f);show N8 e (fs.foldl kT (kT e f)) (f::fs);refine⟨a.now.trans A.now,a.pins.trans A.pins,λw d=>?_,λw d=>a.fa w (A.fa w d),λg i j=>?_,λh=>a.nd (A.nd h)⟩
  ·rcases a.Wh w d with h|⟨h1,b⟩
   ·exact(A.Wh w h).imp id λc=>⟨EW.2 (.inl (Dv.1 c.1)),c.2⟩
   ·exact .inr ⟨B4 _ h1,by rw[b,A.now]⟩
  ·by_cases c:g=f
   ·exact a.fa _ (A.new g (Dv.2 c) j)
   ·have i:=(EW.1 i).resolve_left c;rw[<-A.now];refine a.new g i λk=>?_;obtain⟨w,h1,b⟩:=BK.1 k;rcases A.Wh w h1 with h|⟨h, _⟩
    ·exact j (BK.2 ⟨w,h,b⟩)
    ·exact c (by rw[<-b];exact Dv.1 h)
theorem Jg (M:MI gh ta n s) {x:bZ} (b:yc s x.ak=true) {j:Nat} {q:List AK} (d:s.bx[j]? =some q) {a:AK} (e:a∈q):a.1≠x.ak:=λc=>by
 unfold yc at b;rw[Do,decide_eq_true_eq,beq_iff_eq] at b;have:=M.oc (x.ak - 1).toNat (by omega);rw[b.2,show(((x.ak - 1).toNat:Nat):Int)+1=x.ak by omega] at this;have f:0<s.bx.countP (λq=>jz q x.ak):=List.countP_pos_iff.2 ⟨q,aH d,EU.2 ⟨a,e,by simpa using c⟩⟩;omega
theorem MI.done (M:MI gh ta n s) {x:bZ} (t:s.cs[i]? =some x) (Q:x.ph=4) (W:yc s x.ak=true):MI gh ta n {s with ep:=x.fs.foldl kT s.ep,cs:=s.cs.set i (cL x.ls)}:=by
 have nX:i<s.cs.length:=(B2.1 t).1;have R:=Eo x.fs s.ep;generalize B:({s with ep:=x.fs.foldl kT s.ep,cs:=s.cs.set i (cL x.ls)}:MS)=s';have A:s'.h=s.h:=by rw[<-B]
 have he:s'.ep=x.fs.foldl kT s.ep:=by rw[<-B]
 rw[<-he] at R;have F:s'.kn=s.kn:=by rw[<-B]
 have X:s'.sz=s.sz:=by rw[<-B]
 have hb:s'.bx=s.bx:=by rw[<-B]
 have Y:s'.op=s.op:=by rw[<-B]
 have fq:s'.cs=s.cs.set i (cL x.ls):=by rw[<-B]
 have u: ∀{z:Nat} {y:bZ},s'.cs[z]? =some y->(z=i/\y=cL x.ls)\/(z≠i/\s.cs[z]? =some y):=λh=>by rw[fq] at h;exact jU h
 have C: ∀{y:bZ},y∈s'.cs->y=cL x.ls\/ ∃j,j≠i/\s.cs[j]? =some y:=λh=>by
  obtain⟨j,k⟩:=H5 h;exact(u k).imp (·.2) λc=>⟨j,c⟩
 have N: ∀{z:Nat} {y:bZ},s.cs[z]? =some y->z≠i->s'.cs[z]? =some y:=λ{z y} h1 p=>by
  rw[fq,Bp (λc=>p c.symm)];exact h1
 have S:=M.fk x (aH t) Q;have Z: ∀{j:Nat} {y:bZ} {f:Int},s.cs[j]? =some y->y.ph=2\/y.ph=3->rB s j f->rB s' j f:=λ{j y f} k rh P=>by
  have ER:=M.pn k;rw[az rh] at ER;rcases P with ⟨z,y2,h1,p,G⟩|⟨e,h1,p,G⟩
  ·by_cases c:z=i
   ·subst c;rw[t] at h1;cases h1;exact .inr ⟨_,R.new f G (S f G).2,rfl,by rw[R.pins];exact ER.2.1⟩
   ·exact .inl ⟨z,y2,N h1 c,p,G⟩
  ·exact .inr ⟨e,R.fa e h1,p,by rw[R.pins];exact G⟩
 have i0:(cL x.ls).ph=0:=rfl;refine⟨by rw[A];exact M.hi,M.nn,by rw[fq,CH];exact M.lc,by rw[hb];exact M.lb,by rw[R.pins];exact M.lp,by rw[X];exact M.sz,λy o=>?_,λy o=>?_,λy o=>?_,
  by rw[F,A];exact M.k5,by rw[F];exact M.nk,λe O=>?_,R.nd M.wn,λy o e=>?_,λy o e=>?_,λ{a b y z} g v T D E=>?_,λ{m d} g v=>?_,by rw[R.now];exact M.nw,λ{j y} g=>?_,λ{j y} g l hl=>?_,λy o e=>?_,λ{j y} g e=>?_,λ{j y} g e=>?_,λy o e=>?_,λ{a b y z} g v T D E=>?_,λ{j r} g=>?_,by rw[Y,hb];exact M.oc⟩
 ·rcases C o with rfl|⟨j, _,k⟩
  ·rw[i0];decide
  ·exact M.ph y (aH k)
 ·rcases C o with rfl|⟨j, _,k⟩
  ·exact(show dh 0/\dh 0/\dh 0 by decide)
  ·exact M.ar y (aH k)
 ·rw[X];rcases C o with rfl|⟨j, _,k⟩
  ·exact M.tl x (aH t)
  ·exact M.tl y (aH k)
 ·rw[F,R.now];rcases R.Wh e O with h|⟨h1,p⟩
  ·exact M.wk e h
  ·exact⟨(S _ h1).1,by rw[p];exact M.nw,by rw[p];exact CO _⟩
 ·rcases C o with rfl|⟨j,k,o⟩
  ·rw[i0] at e;exact absurd e (by decide)
  ·intro f O;obtain⟨a,b⟩:=M.fk y (aH o) e f O;refine⟨by rw[F];exact a,λc=>?_⟩;obtain⟨w,h1,p⟩:=BK.1 c;rcases R.Wh w h1 with h|⟨h, _⟩
   ·exact b (BK.2 ⟨w,h,p⟩)
   ·rw[p] at h;exact M.fd o t k e Q f O h
 ·rcases C o with rfl|⟨j,k,o⟩
  ·rw[i0] at e;exact absurd e (by decide)
  ·exact M.fn y (aH o) e
 ·rcases u g with ⟨_,rfl⟩|⟨_,g⟩
  ·rw[i0] at D;exact absurd D (by decide)
  ·rcases u v with ⟨_,rfl⟩|⟨_,v⟩
   ·rw[i0] at E;exact absurd E (by decide)
   ·exact M.fd g v T D E
 ·rw[A] at g;obtain⟨q1,U⟩:=M.kd g v;rw[F];refine⟨q1,?_⟩;rcases U with U|⟨y,o,g1,H⟩
  ·obtain⟨w,h1,p⟩:=BK.1 U;exact .inl (BK.2 ⟨w,R.fa w h1,p⟩)
  ·obtain⟨j,k⟩:=H5 o;by_cases c:j=i
   ·subst c;rw[t] at k;cases k;exact .inl (BK.2 ⟨_,R.new _ H (S _ H).2,rfl⟩)
   ·exact .inr ⟨y,aH (N k c),g1,H⟩
 ·rw[R.pins,R.now];rcases u g with ⟨rfl,rfl⟩|⟨_,g⟩
  ·have:=M.pn t;rw[Q,au (by decide)] at this;rw[i0,au (by decide)];exact this
  ·exact M.pn g
 ·have wq: ∃V,s.cs[j]? =some V/\l∈V.ls:=by
   rcases u g with ⟨rfl,rfl⟩|⟨_,g⟩
   ·exact⟨x,t,hl⟩
   ·exact⟨y,g,hl⟩
  obtain⟨V,g0,g1⟩:=wq;obtain⟨r0,m,d,I,J,K⟩:=M.ln g0 l g1;refine⟨r0,m,d,I,by rw[A];exact J,?_⟩;rw[A,hb];refine K.imp id λ⟨L,q,a,r5,r6,r7,r8⟩=>⟨L,q,a,r5,r6,r7,λe5=>?_⟩;obtain⟨r9,z,y',b,c0,c1,c2,c3,c4,c5⟩:=r8 e5;refine⟨r9,z,y',b,c0,N c1 λc=>?_,c2,c3,c4,c5⟩;subst c;rw[t] at c1;cases c1;exact Jg M W r5 c0 c4
 ·rw[A];rcases C o with rfl|⟨j, _,k⟩
  ·rw[i0] at e;exact absurd e (by decide)
  ·exact M.ac y (aH k) e
 ·rcases u g with ⟨_,rfl⟩|⟨_,g⟩
  ·rw[i0] at e;exact absurd e (by decide)
  ·obtain⟨l,I,J,K,L⟩:=M.wl g e;refine⟨l,I,J,K,?_⟩;rw[A];exact L.imp id λc=>⟨c.1,Z g (.inl e) c.2.1,c.2.2⟩
 ·rcases u g with ⟨_,rfl⟩|⟨_,g⟩
  ·rw[i0] at e;exact absurd e (by decide)
  ·obtain⟨⟨m,d,I,J,K⟩,L⟩:=M.rc g e;refine⟨⟨m,d,I,by rw[A];exact J,?_⟩,L⟩;exact K.imp id λc=>⟨c.1,Z g (.inr e) c.2.1,c.2.2⟩
 ·rw[Y];rcases C o with rfl|⟨j, _,k⟩
  ·rw[i0] at e;exact absurd e (by decide)
  ·exact M.wt y (aH k) e
 ·rcases u g with ⟨_,rfl⟩|⟨_,g⟩
  ·rw[i0] at D;exact absurd D (by decide)
  ·rcases u v with ⟨_,rfl⟩|⟨_,v⟩
   ·rw[i0] at E;exact absurd E (by decide)
   ·exact M.wu g v T D E
 ·rw[hb] at g;obtain⟨g1,H⟩:=M.aq g;refine⟨g1,λa ha=>?_⟩;obtain⟨z,y,f1,f2,f3,f4⟩:=H a ha;refine⟨z,y,f1,N f2 λc=>?_,f3,f4⟩;subst c;rw[t] at f2;cases f2;exact Jg M W g ha (by rw[f4])
end
section
variable {gh dw:Gh} {ta:Int->Bool} {n:Nat} {s:MS} {i:Nat}
def xG (n:Nat) (s:MS):Prop:= ∃gh ta,MI gh ta n s
theorem R5 (M:MI gh ta n s) {x:bZ} (a:s.cs[i]? =some x) (h: ¬ (x.ph=2\/x.ph=3)):uB s.ep i=s.ep:=by
 have:=M.pn a;rw[au h] at this;unfold uB;rw[<-this,tg M a]
theorem MI.ends (M:MI gh ta n s) {x:bZ} (a:s.cs[i]? =some x) (h1:x.ph=1) (kn:List Int) (b:kn=s.kn) (ms:List MT) {ls:List LT} (c:ls=x.ls):MI gh ta n {s with cs:=s.cs.set i (cL ls),kn:=kn,ms:=ms}:=by
 have:=M.idle a (by omega) (λl d=>M.ln a l d) (M.tl x (aH a)) ms;rw[R5 M a (by omega)] at this;subst b c;exact this
theorem tq (s:MS):(dL s).1.cs=s.cs:=by
 unfold dL;dsimp only;generalize oy (fj s.ep)=L;generalize a:({s with ep:=BS (fj s.ep)}:MS)=s0;have h0:s.cs=s0.cs:=by rw[<-a]
 rw[h0];clear a h0
 induction L generalizing s0 with
 |nil=>rfl
 |cons f L b=>exact b (ib s0 f)
theorem R6 {h':HS} (M:MI gh ta n {s with h:=h'}):eR s h'=[]:=by
 refine Hy.2 λf a=>?_;obtain⟨m,d,rfl,b,c,e⟩:=ij.1 a;exact e (M.kd b c).1
theorem VF {x:bZ} (a:s.cs[i]? =some x) (x':bZ):((s.cs.set i x').getD i x)=x':=by
 rw[E4,BN (B2.1 a).1];rfl
theorem MI.call (M:MI gh ta n s) {x:bZ} (g:s.cs[i]? =some x) (h1:x.ph=1) (hb:s.bx[i]? =some []) (m:l_ s.h x=false) (B:qA s i x=false) (D: ¬ (x.vm=0/\x.c=(17,0,0,0,()))):xG n (iR (iD s i x) i x).1:=by
 have u:=M.ar x (aH g);by_cases p:(x.c.1=2\/x.c.1=4\/x.c.1=5\/x.c.1=10)/\sd s.h x.vm x.c.1 x.c.2.1 x.c.2.2.1 x.c.2.2.2.1=0
 ·obtain⟨o,w⟩:=p;obtain⟨g',C,c2,E⟩:=Mj M.hi u.1.1 w o;have e:(iR (iD s i x) i x).1=Ax s (kN s.h x.vm x.c.1 x.c.2.1 x.c.2.2.1 x.c.2.2.2.1) i x (if x.c.1=2 then aw .i64 x.c.2.1 else x.vm) (if x.c.1=2 then -1 else aw .i64 x.c.2.1) (xF s.h x.vm x.c.1 x.c.2.1 x.c.2.2.1 x.c.2.2.2.1,sd s.h x.vm x.c.1 x.c.2.1 x.c.2.2.1 x.c.2.2.2.1) (s.ms++[(1,x.vm,0,x.c,xF s.h x.vm x.c.1 x.c.2.1 x.c.2.2.1 x.c.2.2.2.1,sd s.h x.vm x.c.1 x.c.2.1 x.c.2.2.1 x.c.2.2.2.1)]):=by
   unfold iD;dsimp only;rw[az o,au (λc=>c w)];rfl
  rw[e];by_cases f:x.c.1=2
  ·obtain⟨r,z⟩:=c2 f;have t:aw .i64 x.c.2.1=x.c.2.1:=Go.Proofs.YtlcenllcmeebhaaGreat.bL (by omega);rw[az f,az f,t];refine⟨g', _,M.WU g h1 hb C r (by decide) (by unfold z7;rw[az f]) (by unfold z8;rw[az f]) (λ{j q} c _ _=>?_) (λ{j y} l A c=>?_) _ _⟩
   ·rw[az f] at c;exact⟨by omega,.inl rfl⟩
   ·have F:j≠i:=λk=>by subst k;rw[g] at l;cases l;omega
    have:qA s i x=true:=by
     unfold qA;refine EU.2 ⟨j,Bz.2 (B2.1 l).1,?_⟩;rw[l];dsimp only;rw[Do,decide_eq_true_eq];refine⟨⟨F,z⟩,?_⟩;rw[Ga];right;rw[f,c.2,A];have:0<x.c.2.1:=by omega
     simp[this]
    rw[B] at this;cases this
  ·obtain⟨r,z⟩:=E f;have t:aw .i64 x.c.2.1=x.c.2.1:=Go.Proofs.YtlcenllcmeebhaaGreat.bL (by omega);rw[au f,au f,t];refine⟨g', _,M.WU g h1 hb C r (by omega) (by unfold z7;rw[au f]) (by unfold z8;rw[au f]) (λ{j q} c _ _=>?_) (λ{j y} l A c=>f c.1) _ _⟩;rw[au f] at c;exact⟨by omega,.inr c.2.symm⟩
 ·obtain⟨g',P,C,N,G⟩:=Hh (k:=x.c.1) (v:=x.vm) (a:=x.c.2.1) (b:=x.c.2.2.1) (c:=x.c.2.2.2.1) M.hi u.1.1 (λc=>D ⟨c.1,by
   obtain⟨_,k,a,b,d⟩:=c;exact Dc k (Dc a (Dc b (Dc d rfl)))⟩) (λH c=>by
   unfold l_ a9 at m;rw[H] at m c;rw[c.1,c.2.1,decide_eq_true c.2.2] at m;exact absurd m (by decide)) (by
   by_cases e:x.c.1=2\/x.c.1=4\/x.c.1=5\/x.c.1=10
   ·exact .inl λc=>p ⟨e,c⟩
   ·exact .inr e)
  have M':=M.quiet C N G;have I:=R6 M';have e:(iR (iD s i x) i x).1=cD (cD {s with h:=kN s.h x.vm x.c.1 x.c.2.1 x.c.2.2.1 x.c.2.2.2.1,kn:=s.kn++eR s (kN s.h x.vm x.c.1 x.c.2.1 x.c.2.2.1 x.c.2.2.2.1),ms:=s.ms++[(1,x.vm,0,x.c,xF s.h x.vm x.c.1 x.c.2.1 x.c.2.2.1 x.c.2.2.2.1,sd s.h x.vm x.c.1 x.c.2.1 x.c.2.2.1 x.c.2.2.2.1)]} i {x with rs:=(xF s.h x.vm x.c.1 x.c.2.1 x.c.2.2.1 x.c.2.2.2.1,sd s.h x.vm x.c.1 x.c.2.1 x.c.2.2.1 x.c.2.2.2.1),fs:=eR s (kN s.h x.vm x.c.1 x.c.2.1 x.c.2.2.1 x.c.2.2.2.1)}) i (cL ((s.cs.set i {x with rs:=(xF s.h x.vm x.c.1 x.c.2.1 x.c.2.2.1 x.c.2.2.2.1,sd s.h x.vm x.c.1 x.c.2.1 x.c.2.2.1 x.c.2.2.2.1),fs:=eR s (kN s.h x.vm x.c.1 x.c.2.1 x.c.2.2.1 x.c.2.2.2.1)}).getD i x).ls):=by
   unfold iD;dsimp only;split
   ·rename_i o;rw[az λc=>p ⟨o,c⟩];rfl
   ·rfl
  rw[e,VF g,I];refine⟨g',ta,?_⟩;have:=M'.ends g h1 (s.kn++[]) (CV _) (s.ms++[(1,x.vm,0,x.c,xF s.h x.vm x.c.1 x.c.2.1 x.c.2.2.1 x.c.2.2.2.1,sd s.h x.vm x.c.1 x.c.2.1 x.c.2.2.1 x.c.2.2.2.1)]) (ls:=x.ls) rfl;unfold cD;dsimp only;rw[CN];exact this
theorem MI.begin (M:MI gh ta n s) {x:bZ} (b:s.cs[i]? =some x) (h1:x.ph=1) (hb:s.bx[i]? =some []):xG n (iR (dy s i x) i x).1:=by
 unfold dy;cases d:l_ s.h x with
 |true=>
  rw[az rfl];dsimp only;split
  ·rename_i a;have: ∃l∈x.ls,(mL x.ls x.vm (x.c.2.1 / 16) (a9 x.c.1)).1=l.2.2.1:=by
    unfold mL at a ⊢;cases e:x.ls.find? (BR x.vm (x.c.2.1 / 16)) with
    |none=>rw[e] at a;exact absurd a (show ¬ (4:Int)=0 by decide)
    |some l=>
     rw[e] at a;dsimp only at a ⊢;split at a
     ·exact absurd a (show ¬ (7:Int)=0 by decide)
     ·rename_i c;rw[au c];exact⟨l,I1 e,rfl⟩
   obtain⟨l,g,j⟩:=this;rw[j];exact⟨gh,ta,M.Fa b h1 d g⟩
  ·exact⟨gh,ta,M.Zw b h1 d⟩
 |false=>
  rw[au (by decide)];cases k:qA s i x with
  |true=>
   rw[az rfl,jc b];exact⟨gh,ta,M.ends b h1 s.kn rfl s.ms rfl⟩
  |false=>
   rw[au (by decide)];split
   ·have f:(dL s).1.cs[i]? =some x:=by rw[tq];exact b
    rw[jc f];exact⟨gh,ta,M.free.ends f h1 _ rfl _ rfl⟩
   ·rename_i m;exact M.call b h1 hb d k m
theorem MI.waits (M:MI gh ta n s) {x:bZ} (a:s.cs[i]? =some x) (b:x.ph=4):xG n (iR (iE s x) i x).1:=by
 unfold iE;split
 ·rename_i c;rw[jc (by exact a)];exact⟨gh,ta,M.done a b c⟩
 ·exact⟨gh,ta,M⟩
theorem MI.lS (M:MI gh ta n s) {x:bZ} (b:s.cs[i]? =some x):xG n (Go.Proofs.YtlcenllcmeebhaaGreat.lS s i x).1:=by
 have g:=M.ph x (aH b);unfold Go.Proofs.YtlcenllcmeebhaaGreat.lS;split
 ·rename_i d;unfold bV;rw[au (by omega),au (by omega),au (by omega),az d];exact⟨gh,ta,M.reach b d⟩
 ·rename_i d;have e:i<s.bx.length:=by rw[M.lb, <-M.lc];exact(B2.1 b).1
  unfold xK;cases c:s.bx[i]? with
  |none=>rw[CX e] at c;cases c
  |some q=>
   cases q with
   |cons a q=>exact⟨gh,ta,M.pop b c⟩
   |nil=>
    dsimp only;unfold bV;split
    ·exact⟨gh,ta,M.free⟩
    split
    ·rename_i h1;exact M.begin b h1 c
    split
    ·rename_i f;exact⟨gh,ta,M.walk b f⟩
    ·exact M.waits b (by omega)
theorem xG.step (M:xG n s) (k:Int):xG n (cd s k).1:=by
 obtain⟨gh,ta,M⟩:=M;unfold cd;split
 ·exact⟨gh,ta,M⟩
 split
 ·exact⟨gh,ta,M⟩
 ·rename_i a;exact M.lS a
theorem xG.ask (M:xG n s) (k vm:Int) {c:CT} (hc:dh c.2.1/\dh c.2.2.1/\dh c.2.2.2.1):xG n (fP s k vm c):=by
 obtain⟨gh,ta,M⟩:=M;exact⟨gh,ta,M.ask k vm hc⟩
theorem xG.new {f:Nat} {l:Int} (p:4<=f/\f<=4096) (r:1<=n/\n<=8) (c:1<=l/\l<=64):xG n (m0 f n l):=by
 have hc: ∀{x:bZ},x∈(m0 f n l).cs->x=cL []:=λh=>DB h;have b: ∀{j:Nat} {x:bZ},(m0 f n l).cs[j]? =some x->x=cL []:=λh=>hc (aH h);have no: ∀{k:Int},(cL []).ph=k->k≠0->False:=λh o=>o h.symm;have t: ∀{m:Nat} {d:DT},(m0 f n l).h.s.2[m]? =some d->d.1≠5:=λ{m d} h=>by
  have h:(Bv f zD)[m]? =some d:=h;rw[DB (C6 h)];decide
 refine⟨Wc,λ_=>false,⟨HI.new p,r,Da,Da,Da,c,λx h=>?_,λx h=>?_,λx h=>?_,λg b=>absurd b (by simp[m0]),I2,λe u=>absurd u (by simp[m0]),I2,λx h e=>?_,λx h e=>?_,λ{i j x y} h1 _ _ e _=>?_,λh1 o=>absurd o (t h1),CO _,λ{j x} h=>?_,λ{j x} h l c=>?_,λx h e=>?_,λ{j x} h e=>?_,λ{j x} h e=>?_,λx h e=>?_,λ{i j x y} h1 _ _ e _=>?_,λ{j q} h=>?_,λid h=>absurd h (M4 _)⟩⟩
 ·rw[hc h];decide
 ·rw[hc h];decide
 ·rw[hc h];show(0:Int)<=l;omega
 ·rw[hc h] at e;exact(no e (by decide)).elim
 ·rw[hc h] at e;exact(no e (by decide)).elim
 ·rw[b h1] at e;exact(no e (by decide)).elim
 ·rw[b h,au (by decide)];have v:j<n:=by
   have:=(B2.1 h).1;rw[show(m0 f n l).cs.length=n from Da] at this;exact this
  show(Bv n (-1:Int)).getD j 0= -1;rw[E4,Fu,az v];rfl
 ·rw[b h] at c;exact absurd c (by simp[cL])
 ·rw[hc h] at e;exact(no e (by decide)).elim
 ·rw[b h] at e;exact(no e (by decide)).elim
 ·rw[b h] at e;exact(no e (by decide)).elim
 ·rw[hc h] at e;exact(no e (by decide)).elim
 ·rw[b h1] at e;exact(no e (by decide)).elim
 ·have:q=[]:=DB (aH h);rw[this];exact⟨List.Pairwise.nil,λa w=>by cases w⟩
end
def Z5 (x:bZ):Nat:=if x.ph=1 then 6 else if x.ph=2 then 2+x.wk.2.1.toNat else if x.ph=3 then 1 else 0
def bl (s:MS) (c:Nat):Nat:=(s.bx.getD c []).length
def o1 (x:bZ):Nat:=if x.ph=1 then 1 else 0
structure Pg (s s':MS) (k:Nat) (x x':bZ):Prop where
 cs:s'.cs=s.cs.set k x'
 one:x'.ph=1->x.ph=1
 box: ∀j,j≠k->bl s' j+o1 x'<=bl s j+o1 x
 me:bl s' k+Z5 x'<=bl s k+Z5 x
 lt:0<bl s k+Z5 x->bl s' k+Z5 x'<bl s k+Z5 x
section
variable {gh dw:Gh} {ta:Int->Bool} {n:Nat} {s s':MS} {i:Nat}
theorem Ep {x:bZ} (a:s.cs[i]? =some x):s.cs.set i x=s.cs:=by
 refine H6 λj=>?_;rw[IR];by_cases e:i=j
 ·subst e;rw[az rfl,az (B2.1 a).1,a]
 ·rw[au e]
theorem Er (s:MS):(dL s).1.bx=s.bx:=by
 unfold dL;dsimp only;generalize oy (fj s.ep)=L;generalize a:({s with ep:=BS (fj s.ep)}:MS)=s0;have h0:s.bx=s0.bx:=by rw[<-a]
 rw[h0];clear a h0
 induction L generalizing s0 with
 |nil=>rfl
 |cons f L b=>exact b (ib s0 f)
theorem Bj {s1:MS} {r:Int×Int} {x x1:bZ} (h:s1.cs[i]? =some x1):(iR (s1,r,true) i x).1={s1 with cs:=s1.cs.set i (cL x1.ls)}:=by
 unfold iR;rw[az rfl];show cD s1 i (cL ((s1.cs.getD i x).ls))= _;rw[E4,h];rfl
end
def gC (s:MS) (c:Nat):bZ:=s.cs.getD c (cL [])
def nuC (s:MS) (c:Nat):Nat:=bl s c+Z5 (gC s c)
def pn1 (s:MS):Nat:=s.cs.countP λx=>x.ph==1
def muC (s:MS) (c:Nat):Nat:=nuC s c+pn1 s
section
variable {gh dw:Gh} {ta:Int->Bool} {n:Nat} {s s':MS} {i:Nat}
theorem R7 {x:bZ} {c:Nat} (a:s.cs[c]? =some x):cd s (c:Int)=Go.Proofs.YtlcenllcmeebhaaGreat.lS s c x:=by
 unfold cd;rw[au (by omega)];show(match s.cs[c]? with|none=> _|some x=> _)= _;rw[a];rfl
structure DS (s s':MS) (k:Nat):Prop where
 mu: ∀c,muC s' c<=muC s c
 lt:0<nuC s k->muC s' k<muC s k
 p1:pn1 s'<=pn1 s
 ph: ∀c,(gC s' c).ph=1->(gC s c).ph=1
 ot: ∀c,c≠k->gC s' c=gC s c
end
section
variable {gh dw:Gh} {ta:Int->Bool} {n:Nat} {s s':MS} {i:Nat}
structure Zs (n:Nat) (s:MS):Prop where
 x:xG n s
 nu: ∀c,c<n->nuC s c=0
 p1:pn1 s=0
structure Iz (n:Nat) (j:Nat) (s:MS):Prop where
 z:Zs n s
 id: ∀c,c<n->(gC s c).ph=0
 fa: ∀e∈s.ep.ws,e.2+(j:Int)<=s.ep.now
end
section
variable {gh dw:Gh} {ta:Int->Bool} {n:Nat} {s s':MS} {i:Nat}
def mkS (h:HS) (k:MT):HS:=if k.1=1 then kN h k.2.1 k.2.2.2.1.1 k.2.2.2.1.2.1 k.2.2.2.1.2.2.1 k.2.2.2.1.2.2.2.1 else if k.1=2 then bC h (iC h.s k.2.2.1) else if k.1=3 then h else bC h (dK h.s.1 k.2.2.1 k.2.2.2.2.1,h.s.2)
structure aaE (h:HS) (k:MT):Prop where
 kd:1<=k.1/\k.1<=4
 call:k.1=1->xF h k.2.1 k.2.2.2.1.1 k.2.2.2.1.2.1 k.2.2.2.1.2.2.1 k.2.2.2.1.2.2.2.1=k.2.2.2.2.1/\sd h k.2.1 k.2.2.2.1.1 k.2.2.2.1.2.1 k.2.2.2.1.2.2.1 k.2.2.2.1.2.2.2.1=k.2.2.2.2.2/\dh k.2.2.2.1.2.1/\dh k.2.2.2.1.2.2.1/\dh k.2.2.2.1.2.2.2.1
 free:k.1=2->jS h.s k.2.2.1=0
 load:k.1=3->ri h.s.1 k.2.2.1=true/\dJ h.s.1 k.2.2.1=k.2.2.2.2.1/\k.2.2.2.2.2=0
 store:k.1=4->ri h.s.1 k.2.2.1=true/\dh k.2.2.2.2.1
 hi: ∃gh,HI gh h
inductive Rp:HS->List MT->HS->Prop
 |nil (h:HS):Rp h [] h
 |snoc {h h1:HS} {l:List MT} {k:MT} (r:Rp h l h1) (o:aaE h1 k):Rp h (l++[k]) (mkS h1 k)
theorem Rp.add {h h1 a:HS} {l:List MT} {k:MT} (r:Rp h l h1) (o:aaE h1 k) (e:mkS h1 k=a):Rp h (l++[k]) a:=by rw[<-e];exact .snoc r o
theorem R8 {h0:HS} (M:MI gh ta n s) (R:Rp h0 s.ms s.h) {f r:Int} (b:(f,r)∈s.ep.ws):Rp h0 (gQ s f).ms (gQ s f).h:=by
 obtain⟨e, _, _⟩:=M.wk _ b;obtain⟨m,d,a,g,i⟩:=M.k5 f e;have a:f=(m:Int):=a;obtain⟨_,j, _⟩:=M.hi.N6 g i;refine R.add ⟨(show 1<=(2:Int)/\(2:Int)<=4 by decide),λc=>absurd c (show ¬ (2:Int)=1 by decide),λ_=>?_,λc=>absurd c (show ¬ (2:Int)=3 by decide),λc=>absurd c (show ¬ (2:Int)=4 by decide),⟨gh,M.hi⟩⟩ rfl;show jS s.h.s f=0;rw[a];exact j
theorem Es {h0:HS}: ∀(L:List Int) {s:MS},MI gh ta n s->Rp h0 s.ms s.h->L.Nodup->(∀f∈L, ∃r,(f,r)∈s.ep.ws/\r+2<=s.ep.now)->Rp h0 (L.foldl gQ s).ms (L.foldl gQ s).h
 |[], _, _,R, _, _=>R
 |f::L,s,M,R,a,b=>by
  obtain⟨r,h1,e⟩:=b f BL;refine Es L (M.gQ h1 e) (R8 M R h1) (Fs.1 a).2 λg d=>?_;obtain⟨r',i,j⟩:=b g (B4 _ d);refine⟨r',In.2 ⟨i,?_⟩,j⟩;have:g≠f:=λc=>(Fs.1 a).1 (by rw[<-c];exact d);simp[this]
theorem Jh {h0:HS} (M:MI gh ta n s) (R:Rp h0 s.ms s.h):Rp h0 (dL s).1.ms (dL s).1.h:=by
 rw[Ei M];refine Es _ M.XI R ?_ λf a=>Cs.1 a;unfold oy;refine(ly _).nodup_iff.2 ?_;exact M.XI.wn.sublist (List.filter_sublist.map _)
theorem B_ (r:St) (i:Nat) (x:bZ):(iR r i x).1.ms=r.1.ms/\(iR r i x).1.h=r.1.h:=by
 unfold iR;split<;>exact⟨rfl,rfl⟩
theorem VG {h0:HS} (M:MI gh ta n s) (R:Rp h0 s.ms s.h) {x:bZ} (a:s.cs[i]? =some x):Rp h0 (iD s i x).1.ms (iD s i x).1.h:=by
 have b:=M.ar x (aH a);have key:Rp h0 (s.ms++[(1,x.vm,0,x.c,xF s.h x.vm x.c.1 x.c.2.1 x.c.2.2.1 x.c.2.2.2.1,sd s.h x.vm x.c.1 x.c.2.1 x.c.2.2.1 x.c.2.2.2.1)]) (kN s.h x.vm x.c.1 x.c.2.1 x.c.2.2.1 x.c.2.2.2.1):=
  R.add ⟨(show 1<=(1:Int)/\(1:Int)<=4 by decide),λ_=>⟨rfl,rfl,b⟩,λc=>absurd c (show ¬ (1:Int)=2 by decide),λc=>absurd c (show ¬ (1:Int)=3 by decide),λc=>absurd c (show ¬ (1:Int)=4 by decide),⟨gh,M.hi⟩⟩ rfl
 unfold iD;dsimp only;split
 ·split<;>exact key
 ·exact key
theorem R9 {h0:HS} (M:MI gh ta n s) (R:Rp h0 s.ms s.h) {x:bZ} (a:s.cs[i]? =some x) (e:x.ph=3):Rp h0 (fY s i x).1.ms (fY s i x).1.h:=by
 obtain⟨⟨m,d,f,g, _⟩, _⟩:=M.rc a e;have j:=M.ar x (aH a);have k:m<s.h.s.2.length:=(B2.1 g).1;have b:ri s.h.s.1 (16*x.fr+x.c.2.1 % 16)=true:=by
  have:=M.hi.sz;rw[f];exact iZ (by omega) (by omega)
 unfold fY;dsimp only;split
 ·exact R.add ⟨(show 1<=(4:Int)/\(4:Int)<=4 by decide),λc=>absurd c (show ¬ (4:Int)=1 by decide),λc=>absurd c (show ¬ (4:Int)=2 by decide),λc=>absurd c (show ¬ (4:Int)=3 by decide),λ_=>⟨b,j.2.1⟩,⟨gh,M.hi⟩⟩ rfl
 ·exact R.add ⟨(show 1<=(3:Int)/\(3:Int)<=4 by decide),λc=>absurd c (show ¬ (3:Int)=1 by decide),λc=>absurd c (show ¬ (3:Int)=2 by decide),λ_=>⟨b,rfl,rfl⟩,λc=>absurd c (show ¬ (3:Int)=4 by decide),⟨gh,M.hi⟩⟩ rfl
theorem VH {h0:HS} (X:xG n s) (R:Rp h0 s.ms s.h) (k:Int):Rp h0 (cd s k).1.ms (cd s k).1.h:=by
 obtain⟨gh,ta,M⟩:=X;unfold cd;split
 ·exact R
 split
 ·exact R
 ·rename_i x b;unfold Go.Proofs.YtlcenllcmeebhaaGreat.lS;have d:=M.ph x (aH b);split
  ·rename_i c;rw[(B_ _ _ _).1,(B_ _ _ _).2];unfold bV;rw[au (by omega),au (by omega),au (by omega),az c];exact R9 M R b c
  ·rename_i c;split
   ·rename_i a;unfold xK at a;split at a
    ·cases a;exact R
    ·cases a
   ·rw[(B_ _ _ _).1,(B_ _ _ _).2];unfold bV;split
    ·exact Jh M R
    split
    ·unfold dy;split
     ·dsimp only;split<;>exact R
     split
     ·exact R
     split
     ·exact Jh M R
     ·exact VG M R b
    split
    ·unfold k_;dsimp only;split
     ·exact R
     split<;>exact R
    ·unfold iE;split<;>exact R
theorem Zy {h0:HS} (R:Rp h0 s.ms s.h) (k vm:Int) (c:CT):Rp h0 (fP s k vm c).ms (fP s k vm c).h:=by
 unfold fP;split
 ·exact R
 split
 ·exact R
 ·split<;>exact R
end
section
variable {gh dw:Gh} {ta:Int->Bool} {n:Nat} {s s':MS} {i:Nat}
structure Ch (s s':MS) (k:Nat) (x x':bZ):Prop where
 cs:s'.cs=s.cs.set k x'
 ls: ∀l∈x'.ls,l∈x.ls\/(x.ph=2/\s.bx[k]? =some []/\l.1=x.vm/\l.2.1=x.c.2.1 / 16/\jN s.h x.vm.toNat (x.c.2.1 / 16)=(l.2.2.1,l.2.2.2.1,0,()))
 vc:x'.ph=0\/(x.ph≠0/\x'.vm=x.vm/\x'.c=x.c)
 p3:x'.ph=3->s.bx[k]? =some []/\((x.ph=1/\ ∃l∈x.ls,l.1=x.vm/\l.2.1=x.c.2.1 / 16/\l.2.2.1=x'.fr)\/(x.ph=2/\ ∃r,jN s.h x.vm.toNat (x.c.2.1 / 16)=(x'.fr,r,0,())))
 p4:x'.ph=4->(x.ph=4/\x'.rs=x.rs)\/(x'.rs.2=0/\x.c.1≠6/\x.c.1≠7)
 md:s'.h=s.h\/s'.h=(dL s).1.h\/(x.ph=1/\s'.h=kN s.h x.vm x.c.1 x.c.2.1 x.c.2.2.1 x.c.2.2.2.1)\/(x.ph=3/\x.c.1=7/\s'.h=bC s.h (dK s.h.s.1 (16*x.fr+x.c.2.1 % 16) x.c.2.2.1,s.h.s.2))
 p2:x'.ph=2->x.ph=1\/x.ph=2
 bo: ∀j,j≠k-> ∀q,s.bx[j]? =some q-> ∃r,s'.bx[j]? =some (q++r)/\(x.ph=1->x.c.1=6->l_ s.h x=true->r=[])/\(x.ph≠1->r=[])
theorem nL {s s':MS} {k:Nat} {x:bZ} (hb:s'.bx=s.bx): ∀j,j≠k-> ∀q,s.bx[j]? =some q-> ∃r,s'.bx[j]? =some (q++r)/\(x.ph=1->x.c.1=6->l_ s.h x=true->r=[])/\(x.ph≠1->r=[]):=λj _ q h=>⟨[],by rw[hb,CV];exact h,λ_ _ _=>rfl,λ_=>rfl⟩
theorem Ch.idle {x:bZ} {ls:List LT} (fq:s'.cs=s.cs.set i (cL ls)) (a:ls=x.ls) (md:s'.h=s.h\/s'.h=(dL s).1.h\/(x.ph=1/\s'.h=kN s.h x.vm x.c.1 x.c.2.1 x.c.2.2.1 x.c.2.2.2.1)\/(x.ph=3/\x.c.1=7/\s'.h=bC s.h (dK s.h.s.1 (16*x.fr+x.c.2.1 % 16) x.c.2.2.1,s.h.s.2))) (hb:s'.bx=s.bx:=by first|rfl|exact Er _):Ch s s' i x (cL ls):=
 ⟨fq,λl h=> .inl (by rw[<-a];exact h),.inl rfl,λc=>absurd c (show ¬ (0:Int)=3 by decide),λc=>absurd c (show ¬ (0:Int)=4 by decide),md,λc=>absurd c (show ¬ (0:Int)=2 by decide),nL hb⟩
theorem VI {bx:List (List AK)} {op:List Int} {t p:Int} {j:Nat} (b:j≠i) {q:List AK} (a:bx[j]? =some q): ∃r,(dD bx op i t p).2.1[j]? =some (q++r):=by
 unfold dD;split
 ·exact⟨[],by rw[CV];exact a⟩
 split
 ·exact⟨[],by rw[CV];exact a⟩
 ·refine⟨[((op.length:Int)+1,t,p,())],?_⟩;have:=post_at (i:=i) (x:=(((op.length:Int)+1,t,p,()):AK)) a;rw[au b] at this;exact this
theorem R_ {x:bZ} (g:s.cs[i]? =some x) (h1:x.ph=1): ∃x',Ch s (iR (iD s i x) i x).1 i x x':=by
 by_cases a:(x.c.1=2\/x.c.1=4\/x.c.1=5\/x.c.1=10)/\sd s.h x.vm x.c.1 x.c.2.1 x.c.2.2.1 x.c.2.2.2.1=0
 ·obtain⟨a,d⟩:=a;generalize b:iD s i x=r;unfold iD at b;dsimp only at b;rw[az a,au (λc=>c d)] at b;subst b;exact⟨_,rfl,λl k=> .inl (th k).1,.inr ⟨by omega,rfl,rfl⟩,λc=>absurd c (show ¬ (4:Int)=3 by decide),λ_=> .inr ⟨d,by omega,by omega⟩,.inr (.inr (.inl ⟨h1,rfl⟩)),λc=>absurd c (show ¬ (4:Int)=2 by decide),λj m q n=>(VI m n).imp λr h=>⟨h,λ_ c6 _=>(by omega),λc=>absurd h1 c⟩⟩
 ·have e: ∃(s1:MS) (x1:bZ) (r:Int×Int),iD s i x=(s1,r,true)/\s1.h=kN s.h x.vm x.c.1 x.c.2.1 x.c.2.2.1 x.c.2.2.2.1/\s1.cs=s.cs.set i x1/\x1.ls=x.ls/\s1.bx=s.bx:=by
   unfold iD;dsimp only;split
   ·rename_i o;rw[az λc=>a ⟨o,c⟩];exact⟨_,{x with rs:= _,fs:= _}, _,rfl,rfl,rfl,rfl,rfl⟩
   ·exact⟨_,{x with rs:= _,fs:= _}, _,rfl,rfl,rfl,rfl,rfl⟩
  obtain⟨s1,x1,r,p,t,f,u,v⟩:=e;rw[p];have w:s1.cs[i]? =some x1:=by rw[f,BN (B2.1 g).1]
  rw[Bj w];refine⟨cL x1.ls,Ch.idle ?_ u (.inr (.inr (.inl ⟨h1,t⟩))) v⟩;show s1.cs.set i _= _;rw[f,CN]
theorem Ml {x:bZ} (e:s.cs[i]? =some x) (h1:x.ph=1) (hb:s.bx[i]? =some []): ∃x',Ch s (iR (dy s i x) i x).1 i x x':=by
 unfold dy;cases g:l_ s.h x with
 |true=>
  rw[az rfl];dsimp only;split
  ·rename_i a;have: ∃l∈x.ls,l.1=x.vm/\l.2.1=x.c.2.1 / 16/\l.2.2.1=(mL x.ls x.vm (x.c.2.1 / 16) (a9 x.c.1)).1:=by
    unfold mL at a ⊢;cases b:x.ls.find? (BR x.vm (x.c.2.1 / 16)) with
    |none=>rw[b] at a;exact absurd a (show ¬ (4:Int)=0 by decide)
    |some l=>
     rw[b] at a;dsimp only at a ⊢;split at a
     ·exact absurd a (show ¬ (7:Int)=0 by decide)
     ·rename_i c;rw[au c];have d:=List.find?_some b;unfold BR at d;rw[Do,beq_iff_eq,beq_iff_eq] at d;exact⟨l,I1 b,d.1,d.2,rfl⟩
   exact⟨_,rfl,λl h=> .inl h,.inr ⟨by omega,rfl,rfl⟩,λ_=>⟨hb,.inl ⟨h1,this⟩⟩,λc=>absurd c (show ¬ (3:Int)=4 by decide),.inl rfl,λc=>absurd c (show ¬ (3:Int)=2 by decide),nL rfl⟩
  ·exact⟨_,rfl,λl h=> .inl h,.inr ⟨by omega,rfl,rfl⟩,λc=>absurd c (show ¬ (2:Int)=3 by decide),λc=>absurd c (show ¬ (2:Int)=4 by decide),.inl rfl,λ_=> .inl h1,nL rfl⟩
 |false=>
  rw[au (by decide)];cases j:qA s i x with
  |true=>
   rw[az rfl,jc e];exact⟨_,Ch.idle rfl rfl (.inl rfl)⟩
  |false=>
   rw[au (by decide)];split
   ·have f:(dL s).1.cs[i]? =some x:=by rw[tq];exact e
    rw[jc f];exact⟨_,Ch.idle (by rw[tq]) rfl (.inr (.inl rfl))⟩
   ·exact R_ e h1
theorem Sa (M:MI gh ta n s) {x:bZ} (e:s.cs[i]? =some x) (b:x.ph=2) (hb:s.bx[i]? =some []): ∃x',Ch s (iR (k_ s i x) i x).1 i x x':=by
 have r:=M.ar x (aH e);obtain⟨u,v,D⟩:=M.ac x (aH e) b;obtain⟨l,w1,w,z,d⟩:=M.wl e b;have q:=xx ⟨r.1.1,v⟩;have g:x.wk=(x.wk.1,(l:Int),(0,0,0,0,())):=Dc rfl (Dc w1 z);obtain⟨A,B,E,C,F,G⟩:=xv M u;unfold k_;dsimp only;split
 ·exact⟨_,rfl,λl h=> .inl h,.inr ⟨by omega,rfl,rfl⟩,λc=>absurd (show x.ph=3 from c) (by omega),λc=>absurd (show x.ph=4 from c) (by omega),.inl rfl,λ_=> .inr b,nL rfl⟩
 split
 ·rw[Bj (x1:={x with wk:=bG s.h.s.1 (x.c.2.1 / 16) (a9 x.c.1) x.wk}) (by exact(BN (B2.1 e).1))];refine⟨cL x.ls,Ch.idle ?_ rfl (.inl rfl)⟩;show(s.cs.set i _).set i _= _;rw[CN]
 rename_i j f;have j:(bG s.h.s.1 (x.c.2.1 / 16) (a9 x.c.1) x.wk).2.1= -1:=Classical.byContradiction j;have f:(bG s.h.s.1 (x.c.2.1 / 16) (a9 x.c.1) x.wk).2.2.2.2.2.1=0:=Classical.byContradiction f;have k:bA s.h.s A.root false (x.c.2.1 / 16)=((bG s.h.s.1 (x.c.2.1 / 16) (a9 x.c.1) x.wk).2.2.1,(bG s.h.s.1 (x.c.2.1 / 16) (a9 x.c.1) x.wk).2.2.2.1,0,()):=by
  rcases d with d|d
  ·rcases M.hi.inv.ql M.hi.nl (t:=a9 x.c.1) C q d with ⟨m, _,o,a,H,k4⟩|⟨o,a⟩
   ·rw[<-g] at o;rw[j] at o;omega
   ·rw[<-g] at a;exact a f
  ·obtain⟨_,a⟩:=M.hi.inv.qm (t:=a9 x.c.1) q w d.1;rw[<-g,f] at a;exact absurd a (by decide)
 rw[<-bT B] at k;refine⟨_,rfl,λy p=>?_,.inr ⟨by omega,rfl,rfl⟩,λ_=>⟨hb,.inr ⟨b, _,k⟩⟩,λc=>absurd c (show ¬ (3:Int)=4 by decide),.inl rfl,λc=>absurd c (show ¬ (3:Int)=2 by decide),nL rfl⟩;rcases Ek p with p|rfl
 ·exact .inl p
 ·exact .inr ⟨b,hb,rfl,rfl,k⟩
theorem chg (M:MI gh ta n s) {x:bZ} (b:s.cs[i]? =some x): ∃x',Ch s (Go.Proofs.YtlcenllcmeebhaaGreat.lS s i x).1 i x x':=by
 have z:=M.ph x (aH b);unfold Go.Proofs.YtlcenllcmeebhaaGreat.lS;split
 ·rename_i d;unfold bV;rw[au (by omega),au (by omega),au (by omega),az d];have: ∃(s1:MS) (r:Int×Int),fY s i x=(s1,r,true)/\s1.cs=s.cs/\s1.bx=s.bx/\(s1.h=s.h\/(x.ph=3/\x.c.1=7/\s1.h=bC s.h (dK s.h.s.1 (16*x.fr+x.c.2.1 % 16) x.c.2.2.1,s.h.s.2))):=by
   unfold fY;dsimp only;split
   ·rename_i m;exact⟨_, _,rfl,rfl,rfl,.inr ⟨d,m,rfl⟩⟩
   ·exact⟨_, _,rfl,rfl,rfl,.inl rfl⟩
  obtain⟨s1,r,o,g,p,t⟩:=this;rw[o,jc (x:=x) (by rw[g];exact b)];exact⟨_,Ch.idle (by rw[g]) rfl (t.imp id λc=> .inr (.inr c)) p⟩
 ·rename_i d;have u:i<s.bx.length:=by rw[M.lb, <-M.lc];exact(B2.1 b).1
  unfold xK;cases f:s.bx[i]? with
  |none=>rw[CX u] at f;cases f
  |some q=>
   cases q with
   |cons a q=>
    refine⟨_,rfl,λl v=> .inl (th v).1,?_,λc=>absurd c d,λc=> .inl ⟨c,rfl⟩,.inl rfl,λc=> .inr c,λj w A y=>⟨[],by rw[CV];show(s.bx.set i q)[j]? = _;rw[Bp (λe=>w e.symm)];exact y,λ_ _ _=>rfl,λ_=>rfl⟩⟩;by_cases h0:x.ph=0
    ·exact .inl h0
    ·exact .inr ⟨h0,rfl,rfl⟩
   |nil=>
    dsimp only;unfold bV;split
    ·rename_i h0;exact⟨x,by show(dL s).1.cs= _;rw[tq,Ep b],λl h=> .inl h,.inl h0,λc=>absurd c d,λc=> .inl ⟨c,rfl⟩,.inr (.inl rfl),λc=> .inr c,nL (Er s)⟩
    split
    ·rename_i h1;exact Ml b h1 f
    split
    ·rename_i k;exact Sa M b k f
    ·rename_i h0 h1 k;unfold iE;split
     ·rw[jc (by exact b)];exact⟨_,Ch.idle rfl rfl (.inl rfl)⟩
     ·exact⟨x,(Ep b).symm,λl h=> .inl h,.inr ⟨h0,rfl,rfl⟩,λc=>absurd c d,λc=> .inl ⟨c,rfl⟩,.inl rfl,λc=> .inr c,nL rfl⟩
theorem Et (X:xG n s) (k:Int):(cd s k).1=s\/ ∃(c:Nat) (x x':bZ),k=(c:Int)/\s.cs[c]? =some x/\Ch s (cd s k).1 c x x':=by
 obtain⟨gh,ta,M⟩:=X;by_cases b:k<0
 ·left;unfold cd;rw[az b]
 ·cases a:s.cs[k.toNat]? with
  |none=>left;unfold cd;rw[au b,a]
  |some x=>
   obtain⟨x',C⟩:=chg M a;refine .inr ⟨k.toNat,x,x',by omega,a,?_⟩;have e:cd s k=Go.Proofs.YtlcenllcmeebhaaGreat.lS s k.toNat x:=by unfold cd;rw[au b,a]
   rw[e];exact C
end
section
variable {gh dw:Gh} {ta:Int->Bool} {n:Nat} {s s':MS} {i:Nat} {N:Int->Int->Prop}
structure Nm (N:Int->Int->Prop) (s:MS):Prop where
 ln: ∀x∈s.cs, ∀l∈x.ls,N l.1 l.2.1
 ca: ∀x∈s.cs,x.ph≠0->x.c.1=6\/x.c.1=7->N x.vm (x.c.2.1 / 16)
theorem Nm.step (H:Nm N s) (X:xG n s) (k:Int):Nm N (cd s k).1:=by
 rcases Et X k with e|⟨c,x,x', _,j,C⟩
 ·rw[e];exact H
 obtain⟨gh,ta,M⟩:=X;have b:=aH j;refine⟨λy a l i=>?_,λy a h0 f=>?_⟩
 ·rw[C.cs] at a;rcases ig a with rfl|a
  ·rcases C.ls l i with h|⟨m, _,g,d, _⟩
   ·exact H.ln x b l h
   ·rw[g,d];exact H.ca x b (by omega) (M.ac x b m).2.2
  ·exact H.ln y a l i
 ·rw[C.cs] at a;rcases ig a with rfl|a
  ·rcases C.vc with h|⟨o,g,d⟩
   ·exact absurd h h0
   ·rw[g,d];rw[d] at f;exact H.ca x b o f
  ·exact H.ca y a h0 f
theorem Nm.ask (H:Nm N s) (k vm:Int) {c:CT} (hc:c.1=6\/c.1=7->N vm (c.2.1 / 16)):Nm N (fP s k vm c):=by
 unfold fP;split
 ·exact H
 cases e:s.cs[k.toNat]? with
 |none=>exact H
 |some x=>
  dsimp only;split
  ·refine⟨λy a l b=>?_,λy a h0 d=>?_⟩
   ·rcases ig (show y∈s.cs.set _ _ from a) with rfl|a
    ·exact H.ln x (aH e) l b
    ·exact H.ln y a l b
   ·rcases ig (show y∈s.cs.set _ _ from a) with rfl|a
    ·exact hc d
    ·exact H.ca y a h0 d
  ·exact H
theorem Nm.new (f:Nat) (l:Int):Nm N (m0 f n l):=⟨λx a l b=>(by rw[DB a] at b;cases b),λx a h0=>(by rw[DB a] at h0;exact absurd rfl h0)⟩
structure Nf (s:MS):Prop where
 r: ∀x∈s.cs,x.ph=4->x.rs.2=0
theorem Nf.step (H:Nf s) (X:xG n s) (k:Int):Nf (cd s k).1:=by
 rcases Et X k with e|⟨c,x,x', _,d,C⟩
 ·rw[e];exact H
 refine⟨λy a b=>?_⟩;rw[C.cs] at a;rcases ig a with rfl|a
 ·rcases C.p4 b with ⟨f,g⟩|e
  ·rw[g];exact H.r x (aH d) f
  ·exact e.1
 ·exact H.r y a b
theorem Nf.ask (H:Nf s) (k vm:Int) (c:CT):Nf (fP s k vm c):=by
 unfold fP;split
 ·exact H
 cases d:s.cs[k.toNat]? with
 |none=>exact H
 |some x=>
  dsimp only;split
  ·refine⟨λy a b=>?_⟩;rcases ig (show y∈s.cs.set _ _ from a) with rfl|a
   ·exact absurd b (show ¬ (1:Int)=4 by decide)
   ·exact H.r y a b
  ·exact H
theorem Nf.new (f:Nat) (l:Int):Nf (m0 f n l):=⟨λx b a=>by rw[DB b] at a;exact absurd a (show ¬ (0:Int)=4 by decide)⟩
end
theorem c1: ¬ (1:Int)=12:=by decide
theorem c2: ¬ (2:Int)=12:=by decide
theorem c3: ¬ (3:Int)=12:=by decide
theorem c4: ¬ (4:Int)=12:=by decide
theorem c5: ¬ (5:Int)=12:=by decide
theorem c6: ¬ (6:Int)=12:=by decide
theorem c7: ¬ (7:Int)=12:=by decide
theorem c10: ¬ (10:Int)=12:=by decide
section
variable {gh:Gh} {h:HS}
theorem Mm (H:HI gh h) {v:Int} (k:aW h.g v=true) {p:Int} (a:0<=p/\p<65536):uw (a6 h.g v) p 0=false/\(((m_ h.s.1 (a6 h.g v) p 0).2.2.2.1=0/\ ∃(m:Nat) (d:DT),(m_ h.s.1 (a6 h.g v) p 0).1=(m:Int)/\h.s.2[m]? =some d/\d.1=4)\/(m_ h.s.1 (a6 h.g v) p 0).2.2.2.1=4):=by
 obtain⟨x,f,n,hv, _⟩:=cg k;have b:=H.root f;have c:=H.inv.OW H.nl b a (t:=0) (by decide);rw[n];obtain⟨o,q,z⟩:=H.inv.vf b;refine⟨?_,?_⟩
 ·unfold uw;have r:dY x.root p 3=16*x.root+px 3 p % 16:=k8 ⟨o,q⟩ a (l:=3) (by omega);have A:=eH p 3;rw[r,decide_eq_false (by omega),decide_eq_false (by omega),decide_eq_false (by omega)];rfl
 ·by_cases e:(bA h.s x.root false p).2.2.1=0
  ·rw[az e] at c;have u:m8 h v.toNat p=some (bA h.s x.root false p).1:=by rw[cR f,az e]
   obtain⟨m,d,h1,w,y, _⟩:=H.Tm u;obtain⟨f0,B, _,i⟩:=H.inv.mn b a;have j:=(H.inv.Vy b a i).2.2;rw[<-H.inv.fI b a i] at j;refine .inl ⟨j.2 e,m,d,?_,w,y⟩;rw[c];exact h1
  ·rw[au e] at c;exact .inr c
end
section
variable {gh dw:Gh} {ta:Int->Bool} {n:Nat} {s s':MS} {i:Nat}
theorem Eu {x:bZ} (a:s.cs[i]? =some x) (h0:x.ph=0) (vm:Int) (c:CT):fP s (i:Int) vm c=cD s i {x with ph:=1,vm:=vm,c:=c}/\Df s (i:Int)=0:=by
 refine⟨?_,?_⟩
 ·unfold fP;rw[au (by omega)];show(match s.cs[i]? with|none=> _|some x=> _)= _;rw[a];exact az h0
 ·unfold Df;rw[au (by omega)];show(match s.cs[i]? with|none=>(2:Int)|some x=> _)= _;rw[a];exact az h0
theorem quick {x:bZ} (d:s.cs[i]? =some x) (h0:x.ph=0) (hb:s.bx[i]? =some []) {vm:Int} {c:CT} (m: ¬ (c.1=2\/c.1=4\/c.1=5\/c.1=10)) (n:a9 c.1=0) (o:c.1≠17) (a:qA s i {x with ph:=1,vm:=vm,c:=c}=false):
 cd (fP s (i:Int) vm c) (i:Int)=({s with h:=kN s.h vm c.1 c.2.1 c.2.2.1 c.2.2.2.1,kn:=s.kn++eR s (kN s.h vm c.1 c.2.1 c.2.2.1 c.2.2.2.1),ms:=s.ms++[(1,vm,0,c,xF s.h vm c.1 c.2.1 c.2.2.1 c.2.2.2.1,sd s.h vm c.1 c.2.1 c.2.2.1 c.2.2.2.1)],cs:=s.cs.set i (cL x.ls)},(xF s.h vm c.1 c.2.1 c.2.2.1 c.2.2.2.1,sd s.h vm c.1 c.2.1 c.2.2.1 c.2.2.2.1),true):=by
 have f:i<s.cs.length:=(B2.1 d).1;rw[(Eu d h0 vm c).1];generalize b:({x with ph:=1,vm:=vm,c:=c}:bZ)=y at a ⊢;have p:y.ph=1:=by rw[<-b]
 have hc:y.c=c:=by rw[<-b]
 have hv:y.vm=vm:=by rw[<-b]
 have q:y.ls=x.ls:=by rw[<-b]
 have g:(cD s i y).cs[i]? =some y:=BN f;rw[R7 g];unfold Go.Proofs.YtlcenllcmeebhaaGreat.lS;rw[au (by omega)];unfold xK;rw[show(cD s i y).bx[i]? =some [] from hb];dsimp only;unfold bV;rw[au (by omega),az p];unfold dy;have r:l_ (cD s i y).h y=false:=by unfold l_;rw[hc,n];rfl
 have t:qA (cD s i y) i y=false:=by
  unfold qA at a ⊢;rw[H7] at a ⊢;intro j l;have u:j∈Ae s.cs.length:=by
   show j∈Ae s.cs.length;rw[show(cD s i y).cs.length=s.cs.length from CH] at l;exact l
  have:=a j u;by_cases e:j=i
  ·subst e;rw[g];simp
  ·rw[show(cD s i y).cs[j]? =s.cs[j]? from Bp (λk=>e k.symm)];exact this
 rw[r,t,au (by decide),au (by decide),au (λk=>o (by rw[hc] at k;rw[k.2]))];unfold iD;dsimp only;rw[hc,au m,hv];unfold iR;rw[az rfl];dsimp only;have v: ∀(x1:bZ),((s.cs.set i y).set i x1).getD i y=x1:=λx1=>by
  rw[CN,E4,BN f];rfl
 unfold cD;dsimp only;rw[v];dsimp only;rw[CN,CN,q];rfl
theorem Sb (a: ∀y∈s.cs,y.ph=0) (x:bZ):qA s i x=false:=by
 unfold qA;rw[H7];intro j _;cases b:s.cs[j]? with
 |none=>simp
 |some y=>
  have:=a y (aH b);dsimp only;rw[this];simp
theorem Se {h:HS} (H:HI gh h) {v:Nat} (a:mJ h.g=some v) (hc:0<cA h.s.2 0):sd h 0 1 0 0 0=0/\xF h 0 1 0 0 0=(v:Int)/\(kN h 0 1 0 0 0).g=bq h.g v (some ⟨eA h.s (v:Int),[]⟩)/\cA (kN h 0 1 0 0 0).s.2 0+1=cA h.s.2 0:=by
 have b:iU h 0 1 0 0 0=0:=rfl;obtain⟨h1,f,m⟩:=F3 b;have hv:=(nP.1 a).1;have c:rj h.s (v:Int)=0:=H.inv.Zj (by omega) hc;have d:(run h 0 1 0 0 0).1={h with s:=iN h.s (v:Int) λ_=>0,g:=bq h.g v (some ⟨eA h.s (v:Int),[]⟩)}:=by
  show gP h= _;unfold gP;rw[a];exact az c
 have e:(run h 0 1 0 0 0).2.2=0:=by
  show oY h=0;unfold oY;rw[a];exact c
 have i:(run h 0 1 0 0 0).2.1=(v:Int):=by
  show Au h=(v:Int);unfold Au;rw[a]
 refine⟨f.trans e,?_,?_,?_⟩
 ·unfold xF;rw[az b,az e];exact i
 ·rw[h1,d]
 ·rw[h1,d];show cA (dB h.s.2 3 (v:Int)) 0+1= _;obtain⟨j, _,k, _, _,l⟩:=mW (ds:=h.s.2) (o:=(v:Int)) hc H.inv.fz (by omega);rw[l];have:=ky (d':=((3:Int),(v:Int),(0:Int),(0:Int),())) k 0;rw[az (show zD.1=0 from rfl),au (show ¬ (3:Int)=0 by decide)] at this;omega
end
section
variable {gh dw:Gh} {n:Nat} {s s':MS} {f:Nat} {l:Int}
def NH (h:HS):Prop:= ∀i q,m8 h i q=none
theorem NH.JU {h:HS} (H:HI gh h) (b:NH h):NH (kN h 0 1 0 0 0):=λi q=>by
 obtain⟨g',d,E, _⟩:=H.F2;have e:kN h 0 1 0 0 0=gP h:=(F3 (show iU h 0 1 0 0 0=0 from rfl)).1;rw[e];cases a:m8 (gP h) i q with
 |none=>rfl
 |some x=>
  obtain⟨_, _,f,g⟩:=d.hc.jg a;have:=b i q;rw[rK,E.pg.to (λc=>c ⟨f,g⟩), <-rK,this] at a;cases a
abbrev zC:CT:=(1,0,0,0,())
structure Bg (f n:Nat) (l:Int) (k:Nat) (s:MS):Prop where
 x:xG n s
 r:Nf s
 np:NH s.h
 cs:s.cs=Bv n (cL [])
 bx:s.bx=Bv n []
 kn:s.kn=[]
 op:s.op=[]
 ws:s.ep.ws=[]
 sz:s.sz=l
 len:s.h.s.2.length=f
 cnt:cA s.h.s.2 0+k=f
 live: ∀v:Int,aW s.h.g v=true<->1<=v/\v<=(k:Int)
 rp:Rp (h0 f) s.ms s.h
 nm: ∀N:Int->Int->Prop,Nm N s
theorem Bg.new (d:20<=f/\f<=4096) (a:1<=n/\n<=8) (b:1<=l/\l<=64):Bg f n l 0 (m0 f n l) where
 x:=xG.new (by omega) a b
 r:=Nf.new f l
 np:=λi q=>rfl
 cs:=rfl
 bx:=rfl
 kn:=rfl
 op:=rfl
 ws:=rfl
 sz:=rfl
 len:=Da
 cnt:=by
  show cA (Bv f zD) 0+0=f;rw[Ve,az rfl];rfl
 live:=λv=>by
  constructor
  ·intro h;obtain⟨_,x,c⟩:=cq.1 h;cases c
  ·intro h;omega
 rp:= .nil _
 nm:=λN=>Nm.new f l
theorem VJ {α:Type} (n i:Nat) (x:α):(Bv n x).set i x=Bv n x:=by
 refine H6 λj=>?_;rw[IR];split
 ·rename_i e;subst e;rw[Da,Fu]
 ·rfl
theorem Bg.JU {k:Nat} (b:Bg f n l k s) (H:k<16) (I:k<f) (J:1<=n):(cd (fP s 0 0 zC) 0).2=((((k+1:Nat):Int),0),true)/\Bg f n l (k+1) (cd (fP s 0 0 zC) 0).1/\Df s 0=0:=by
 have e:s.cs[0]? =some (cL []):=by rw[b.cs,Fu,az (by omega)]
 have hb:s.bx[0]? =some []:=by rw[b.bx,Fu,az (by omega)]
 have w: ∀y∈s.cs,y.ph=0:=λy o=>by rw[b.cs] at o;rw[DB o];rfl
 have q:=quick (vm:=0) (c:=zC) e rfl hb (show ¬ ((1:Int)=2\/(1:Int)=4\/(1:Int)=5\/(1:Int)=10) by decide) rfl (show ¬ (1:Int)=17 by decide) (Sb w _);have X':=(b.x.ask 0 0 (c:=zC) (show dh 0/\dh 0/\dh 0 by decide)).step 0;have z:=(b.r.ask 0 0 zC).step (b.x.ask 0 0 (c:=zC) (show dh 0/\dh 0/\dh 0 by decide)) 0;have A:=VH (b.x.ask 0 0 (c:=zC) (show dh 0/\dh 0/\dh 0 by decide)) (Zy b.rp 0 0 zC) 0;have B: ∀N:Int->Int->Prop,Nm N (cd (fP s 0 0 zC) 0).1:=λN=>((b.nm N).ask 0 0 (c:=zC) (λc=>absurd c (show ¬ ((1:Int)=6\/(1:Int)=7) by decide))).step (b.x.ask 0 0 (c:=zC) (show dh 0/\dh 0/\dh 0 by decide)) 0;have q:cd (fP s 0 0 zC) 0= _:=q;obtain⟨gh,ta,M⟩:=b.x;have C:mJ s.h.g=some (k+1):=by
  refine nP.2 ⟨by omega,?_,λu K L=>?_⟩
  ·cases j:s.h.g (k+1) with
   |none=>rfl
   |some g=>
    have:=(b.live ((k+1:Nat):Int)).1 (cq.2 ⟨by omega,g,j⟩);omega
  ·obtain⟨_,g,j⟩:=cq.1 ((b.live (u:Int)).2 (by omega));have j:s.h.g u=some g:=j;rw[j];rfl
 obtain⟨c1,c2,c3,c4⟩:=Se M.hi C (by have:=b.cnt;omega);have nn:NN s.h.s (kN s.h 0 1 0 0 0).s:=by
  rw[(F3 (show iU s.h 0 1 0 0 0=0 from rfl)).1];exact NN.JU s.h
 have D:eR s (kN s.h 0 1 0 0 0)=[]:=by
  refine Hy.2 λg j=>?_;obtain⟨m,d, _,E,F, _⟩:=ij.1 j;obtain⟨d0,p,t⟩:=nn.to E F;have:=(M.kd p t).1;rw[b.kn] at this;cases this
 refine⟨?_,⟨X',z,?_,?_,?_,?_,?_,?_,?_,?_,?_,λv=>?_,A,B⟩,(Eu (i:=0) e rfl 0 zC).2⟩
 ·rw[q];show((xF s.h 0 1 0 0 0,sd s.h 0 1 0 0 0),true)= _;rw[c1,c2]
 ·rw[q];exact b.np.JU M.hi
 ·rw[q];show s.cs.set 0 (cL [])= _;rw[b.cs,VJ]
 ·rw[q];exact b.bx
 ·rw[q];show s.kn++eR s (kN s.h 0 1 0 0 0)=[];rw[D,b.kn];rfl
 ·rw[q];exact b.op
 ·rw[q];exact b.ws
 ·rw[q];exact b.sz
 ·rw[q];show(kN s.h 0 1 0 0 0).s.2.length=f;rw[<-b.len];obtain⟨g',G⟩:=M.hi.step 0 1 0 0 (a:=0) (by decide);have p:=G.sz;have t:=M.hi.sz;have O:=O4 s.h 0 1 0 0 0;omega
 ·rw[q];show cA (kN s.h 0 1 0 0 0).s.2 0+(k+1)=f;have:=b.cnt;omega
 ·rw[q];show aW (kN s.h 0 1 0 0 0).g v=true<-> _;rw[c3];constructor
  ·intro h;obtain⟨hv,x,e⟩:=cq.1 h;unfold bq at e;split at e
   ·omega
   ·have:=(b.live v).1 (cq.2 ⟨hv,x,e⟩);omega
  ·intro h;refine cq.2 ⟨by omega,?_⟩;unfold bq;split
   ·exact⟨_,rfl⟩
   ·obtain⟨_,x,e⟩:=cq.1 ((b.live v).2 (by omega));exact⟨x,e⟩
def JV (f n:Nat) (l:Int):MS:=(cd (fP (cd (fP (m0 f n l) 0 0 zC) 0).1 0 0 zC) 0).1
end
section
variable {gh dw:Gh} {n:Nat} {s s':MS} {f:Nat} {l:Int}
structure Bd (f n:Nat) (l p b F:Int) (s:MS):Prop where
 x:xG n s
 r:Nf s
 pg:jN s.h 1 p=(F,b,0,())
 only: ∀i q g,m8 s.h i q=some g->i=1/\q=p
 cs:s.cs=Bv n (cL [])
 bx:s.bx=Bv n []
 kn:s.kn=[]
 op:s.op=[]
 ws:s.ep.ws=[]
 sz:s.sz=l
 live: ∀v:Int,aW s.h.g v=true<->1<=v/\v<=2
 fr: ∃(m:Nat) (d:DT),F=(m:Int)/\s.h.s.2[m]? =some d/\d.1=4/\d.2.1=1/\d.2.2.1=0
end
section
variable {n:Nat} {s:MS}
structure Ret (n:Nat) (s:MS):Prop where
 x:xG n s
 np:NH s.h
 k6: ∀(c:Nat) (x:bZ),1<=c->s.cs[c]? =some x->x.ph≠4/\(x.ph≠0->x.c.1=6)
 c0: ∀x:bZ,s.cs[0]? =some x->x.ph=0\/x.ph=4
 j: ∀(c:Nat) (x:bZ),s.cs[c]? =some x->x.ph=3->s.bx[c]? ≠some []
end
end Go.Proofs.YtlcenllcmeebhaaGreat
namespace Go.Proofs.YtlcenllcmeebhaaGreat.Mu
set_option maxRecDepth 100000
open Go.RX
abbrev eP:El:= .one .ptr
abbrev eMk:El:= .agg sMk
abbrev MkT:Type:=Int×Int×Int×Int×Int×Int×Int×Int×Int×Unit
abbrev mkT (m:MT):MkT:=(m.1,m.2.1,m.2.2.1,m.2.2.2.1.1,m.2.2.2.1.2.1,m.2.2.2.1.2.2.1,m.2.2.2.1.2.2.2.1,m.2.2.2.2.1,m.2.2.2.2.2,())
structure CA where
 cb:Nat
 tb:Nat
 st:Option Ad×Nat×Nat
 sf:Option Ad×Nat×Nat
 wp:Option Ad
 Lt:List (Nat×List AC)
 Lf:List (Nat×List AC)
 Lw:List (Nat×List AC)
abbrev jY (a:CA) (i:Nat) (x:bZ):List AC:=
 [aa (i:Int),ag (ae a.tb),aa x.ph,aa x.vm,aa x.c.1,ay x.c.2.1,ay x.c.2.2.1,ay x.c.2.2.2.1,ag a.wp,aa x.fr,ay x.rs.1,aa x.rs.2,aa x.ak,.slice a.sf.1 a.sf.2.1 a.sf.2.2]
def WkW (a:CA) (x:bZ):Prop:= ∃(bk:Nat) (s:Option Ad×Nat×Nat) (b:List (Nat×List AC)) (xs:List Int),a.wp=some ⟨bk,0,none⟩/\a.Lw=(bk,lF x.wk.1 (x.c.2.1 / 16) (a9 x.c.1) x.wk.2.1 x.wk.2.2 s)::b/\Bw b s xs/\(xs.length:Int)<=3 - x.wk.2.1
structure SU (a:CA) (x:bZ):Prop where
 ls:dU lE a.st x.ls a.Lt
 fs:dU eI a.sf x.fs a.Lf
 wk:x.ph=2->WkW a x
def uk (a:CA) (i:Nat) (x:bZ) (sz:Int):List (Nat×List AC):=(a.cb,jY a i x)::(a.tb,dx a.st sz)::(a.Lt++(a.Lf++a.Lw))
structure MB where
 mb:Nat
 eb:Nat
 xb:Nat
 kb:Nat
 wb:Nat
 sc:Option Ad×Nat×Nat
 sm:Option Ad×Nat×Nat
 sp:Option Ad×Nat×Nat
 sb:Option Ad×Nat×Nat
 so:Option Ad×Nat×Nat
 Lc:List (Nat×List AC)
 Lm:List (Nat×List AC)
 Lp:List (Nat×List AC)
 Lb:List (Nat×List AC)
 Lo:List (Nat×List AC)
 cr:List CR
 ke:List DA
 we:List DA
 kk:Nat
 wk:Nat
 A:Nat->CA
abbrev rC (X:HX) (B:MB):List AC:=[ag (ae X.hb),ag (ae B.eb),ag (ae B.xb),.slice B.sc.1 B.sc.2.1 B.sc.2.2,.map (some B.kb),.slice B.sm.1 B.sm.2.1 B.sm.2.2]
def gZ (B:MB) (s:MS) (l:List Nat):List (Nat×List AC):=l.flatMap λi=>match s.cs[i]? with
 |some x=>uk (B.A i) i x s.sz
 |none=>[]
abbrev yd (B:MB) (n:Nat):List (Option Ad):=(Ae n).map λi=>some ⟨(B.A i).cb,0,none⟩
structure MWf (B:MB) (s:MS):Prop where
 c:dU eP B.sc (yd B s.cs.length) B.Lc
 m:dU eMk B.sm (s.ms.map mkT) B.Lm
 p:dU eI B.sp s.ep.pins B.Lp
 b:dU eC B.sb (dF B.cr) B.Lb
 o:dU eI B.so s.op B.Lo
 l:B.cr.length=s.bx.length
 k:iQ B.ke B.kk (s.kn.map λf=>(f,.bool true))
 w:iQ B.we B.wk (s.ep.ws.map Jv)
 a: ∀{i x},s.cs[i]? =some x->SU (B.A i) x
def ye (s:WD):Prop:=0<s.1.length/\0<s.2.length/\s.2.length<=4096/\okW s.1
abbrev HD (X:HX) (B:MB) (s:MS):List (Nat×List AC):=(B.mb,rC X B)::(B.eb,oB s.ep.now B.sp B.wb)::(B.xb,lO B.sb B.so)::(B.Lc++(B.Lm++(B.Lp++(B.Lb++B.Lo))))
abbrev mob (B:MB) (s:MS):List (Nat×BJ):=(B.kb,.map ⟨B.ke⟩ B.kk)::(B.wb,.map ⟨B.we⟩ B.wk)::qE B.cr s.bx
abbrev Fg (Q:Sys) (X:HX) (A:Nat->GA) (ca la:Int) (h:HS):List (Nat×List AC):=Q.L ca la h.s (dV Q X A h (a8 Q A h.g (Ae 17)))
def iq (Q:Sys) (X:HX) (D G:List Nat) (w0 w:A2) (B:MB) (s:MS) (T L:List (Nat×List AC)) (M:List (Nat×BJ)):Prop:=
 ∃(A:Nat->GA) (ca la:Int),CY A s.h/\ye s.h.s/\MWf B s/\cM D G w0 w (T++(HD X B s++(gZ B s (Ae s.cs.length)++(Fg Q X A ca la s.h++L)))) (mob B s++(de A s.h.g (Ae 17)++M))
theorem cw {α:Type} {c d:List α} (h: ∀[BEq α] [LawfulBEq α] (a:α),c.count a=d.count a):c.Perm d:=by
 letI:DecidableEq α:=λa b=>Classical.propDecidable (a=b)
 exact List.perm_iff_count.2 λa=>h a
section
variable {Q:Sys} {X:HX} {D G:List Nat} {w0 w w1:A2} {B:MB} {s:MS} {T L:List (Nat×List AC)} {M:List (Nat×BJ)}
theorem iq.ext (H:iq Q X D G w0 w B s T L M) (h:Ext w w1):iq Q X D G w0 w1 B s T L M:=by
 obtain⟨A,ca,la,h1,a,b,c⟩:=H;exact⟨A,ca,la,h1,a,b,c.ext h⟩
theorem iq.wf (H:iq Q X D G w0 w B s T L M):MWf B s:=by
 obtain⟨A,ca,la,h1,b,a,c⟩:=H;exact a
theorem iq.all (H:iq Q X [] [] w0 w B s T L M):Ext w0 w:=by
 obtain⟨A,ca,la,h1,b,c,a⟩:=H;exact a.all
theorem iq.tmp (H:iq Q X D G w0 w B s T L M): ∃R a,cM D G w0 w (T++R) a/\(∀x∈HD X B s,x∈R)/\(∀x∈mob B s,x∈a)/\(∀{i x},s.cs[i]? =some x-> ∀y∈uk (B.A i) i x s.sz,y∈R)/\ ∀{T' w'},cM D G w0 w' (T'++R) a->iq Q X D G w0 w' B s T' L M:=by
 obtain⟨A,ca,la,h1,c,d,e⟩:=H;refine⟨_, _,e,λx b=>Bx _ b,λx b=>Bx _ b,λ{i x} hi y f=>BO _ (Bx _ ?_),λh=>⟨A,ca,la,h1,c,d,h⟩⟩;unfold gZ;exact HB.2 ⟨i,Bz.2 (B2.1 hi).1,by rw[hi];exact f⟩
theorem iq.al (H:iq Q X D G w0 w B s T L M) {cs:List AC} {e:TypeId} {K:Nat->A2->Prop} (k: ∀b w1,iq Q X D G w0 w1 B s ((b,cs)::T) L M->K b w1):aK w ⟨cs⟩ e K:=by
 obtain⟨R,a,H, _, _, _,J⟩:=H.tmp;exact alM H λb w1 H=>k b w1 (J H)
theorem iq.st (H:iq Q X D G w0 w B s T L M) (i:Nat) {b:Nat} {l vs:List AC} {K:A2->Prop} (a:T[i]? =some (b,l)) (c:vs.all (·.oneCell')=true) (d:vs.length=l.length) (k: ∀w1,iq Q X D G w0 w1 B s (T.set i (b,vs)) L M->K w1):aC w (ae b) vs K:=by
 obtain⟨R,e,H, _, _, _,J⟩:=H.tmp;have hi:=(B2.1 a).1;refine stB H i (by rw[Fv hi];exact a) c d λw1 H=>k w1 (J ?_);rw[List.set_append_left _ _ hi] at H;exact H
theorem iq.ld (H:iq Q X D G w0 w B s T L M) (i:Nat) {g:Option Bool} {el:El} {K:el.T->Prop} {b o:Nat} {l:List AC} {x:el.T} (a:T[i]? =some (b,l)) (hv:lI l o el=some x) (k:K x):aj w g (some ⟨b,o,none⟩) el K:=by
 obtain⟨R,c,H, _, _, _,J⟩:=H.tmp;exact aj.at i H.base (by rw[Fv (B2.1 a).1];exact a) hv k
theorem iq.cI (H:iq Q X D G w0 w B s T L M) (i:Nat) {g:Option Bool} {el:El} {K:el.T->Prop} {b n:Nat} {l:List AC} {x:el.T} (a:T[i]? =some (b,l)) (hv:lI l n el=some x) (k:K x):aj w g (ad (ae b) n) el K:=by
 obtain⟨R,c,H, _, _, _,J⟩:=H.tmp;exact aj.lJ H.base (Bx _ (C6 a)) hv k
theorem iq.sa (H:iq Q X D G w0 w B s T L M) {n:Nat} {g:Option Bool} {el:El} {K:el.T->Prop} {x:el.T} (hv:lI (rC X B) n el=some x) (k:K x):aj w g (ad (ae B.mb) n) el K:=by
 obtain⟨R,b,H,a, _, _,J⟩:=H.tmp;exact aj.lJ H.base (BO _ (a _ BL)) hv k
theorem iq.XL (H:iq Q X D G w0 w B s T L M) {i:Nat} {x:bZ} (a:s.cs[i]? =some x) {n:Nat} {g:Option Bool} {el:El} {K:el.T->Prop} {y:el.T} (hv:lI (jY (B.A i) i x) n el=some y) (k:K y):aj w g (ad (some ⟨(B.A i).cb,0,none⟩) n) el K:=by
 obtain⟨R,b,H, _, _,hc,J⟩:=H.tmp;exact aj.lJ H.base (BO _ (hc a _ BL)) hv k
theorem iq.sub (H:iq Q X D G w0 w B s T L M) {T':List (Nat×List AC)} (h:T'.Sublist T):iq Q X D G w0 w B s T' L M:=by
 obtain⟨R,a,H, _, _, _,J⟩:=H.tmp;exact J (H.sub (h.append_right _))
def CM (B:MB) (i:Nat) (a:CA):MB:={B with A:=λj=>if j=i then a else B.A j}
theorem mR (B:MB) (i:Nat) (a:CA):(CM B i a).A i=a:=az rfl
theorem zp {B:MB} {s s':MS} {i:Nat} {a:CA} (c:s'.sz=s.sz) (hc: ∀j,j≠i->s'.cs[j]? =s.cs[j]?):gZ (CM B i a) s' ((Ae s.cs.length).erase i)=gZ B s ((Ae s.cs.length).erase i):=by
 unfold gZ;refine gw λj d=>?_;have b:j≠i:=λe=>by subst e;exact(J3.not_mem_erase) d
 rw[hc j b,c];cases s.cs[j]? with
 |none=>rfl
 |some x=>show uk ((CM B i a).A j) j x s.sz= _;rw[show(CM B i a).A j=B.A j from au b]
theorem lz {B:MB} {s:MS} {i:Nat} {x:bZ} (a:s.cs[i]? =some x):(gZ B s (Ae s.cs.length)).Perm (uk (B.A i) i x s.sz++gZ B s ((Ae s.cs.length).erase i)):=by
 unfold gZ;refine(List.Perm.flatMap_right _ (List.perm_cons_erase (Bz.2 (B2.1 a).1))).trans ?_;rw[List.flatMap_cons,a]
theorem MWf.up (W:MWf B s) {i:Nat} {x x':bZ} (f:s.cs[i]? =some x) {a:CA} (g:a.cb=(B.A i).cb) (h:SU a x'):MWf (CM B i a) (cD s i x'):=by
 have n:yd (CM B i a) s.cs.length=yd B s.cs.length:=by
  refine JC λj _=>?_;by_cases e:j=i
  ·subst e;rw[mR,g]
  ·rw[show(CM B i a).A j=B.A j from au e]
 refine⟨?_,W.m,W.p,W.b,W.o,W.l,W.k,W.w,λ{j y} d=>?_⟩
 ·show dU eP B.sc (yd (CM B i a) (s.cs.set i x').length) B.Lc;rw[CH,n];exact W.c
 ·by_cases e:j=i
  ·subst e;rw[mR];have:(s.cs.set j x')[j]? =some y:=d;rw[BN (B2.1 f).1] at this;cases this;exact h
  ·have:(s.cs.set i x')[j]? =some y:=d;rw[Bp (λc=>e c.symm)] at this;rw[show(CM B i a).A j=B.A j from au e];exact W.a this
theorem iq.CZ (H:iq Q X D G w0 w B s T L M) {i:Nat} {x:bZ} (b:s.cs[i]? =some x): ∃R d,cM D G w0 w (uk (B.A i) i x s.sz++(T++R)) d/\
 ∀{T' a x' w'},a.cb=(B.A i).cb->SU a x'->cM D G w0 w' (uk a i x' s.sz++(T'++R)) d->iq Q X D G w0 w' (CM B i a) (cD s i x') T' L M:=by
 obtain⟨A,ca,la,h1,f,g,k⟩:=H;refine⟨HD X B s++(gZ B s ((Ae s.cs.length).erase i)++(Fg Q X A ca la s.h++L)), _,k.perm ?_,λ{T' a x' w'} l m n=>⟨A,ca,la,h1,f,g.up b l m,n.perm ?_⟩⟩
 ·have:=lz (B:=B) b;refine Hq ?_ (CP T (CP _ (FS _ this.symm)));exact cw λa=>by simp only[Av,B1];omega
 ·have o:(cD s i x').cs[i]? =some x':=BN (B2.1 b).1;have e:(cD s i x').cs.length=s.cs.length:=CH ..;have:=lz (B:=CM B i a) o;rw[mR,e,zp (s:=s) (s':=cD s i x') rfl λj p=>(show(s.cs.set i x')[j]? =s.cs[j]? from Bp (λc=>p c.symm))] at this;rw[e];refine(CP T' (CP _ (FS _ this))).trans ?_;show(T'++(HD X B s++(uk a i x' s.sz++gZ B s ((Ae s.cs.length).erase i)++(Fg Q X A ca la s.h++L)))).Perm _;exact cw λa=>by simp only[Av,B1];omega
end
section
variable {Q:Sys} {X:HX} {D G:List Nat} {w0 w:A2} {B:MB} {s:MS} {T L:List (Nat×List AC)} {M:List (Nat×BJ)}
theorem ji.ye {h:HS} {L:List (Nat×List AC)} (H:ji Q X D G w0 w h L):ye h.s:=by
 obtain⟨A,W,S⟩:=H;exact⟨S.pos,S.FA,S.le,S.ZX⟩
theorem iq.hv (H:iq Q X D G w0 w B s T L M): ∃i L',ji Q X [] i w w s.h L'/\ ∀{e h'},ji Q X [] i w e h' L'->iq Q X D G w0 e B {s with h:=h'} T L M:=by
 obtain⟨A,ca,la,h1,f,d,n⟩:=H;have j:cM D G w0 w (Q.L ca la s.h.s (dV Q X A s.h (a8 Q A s.h.g (Ae 17)++(T++(HD X B s++(gZ B s (Ae s.cs.length)++L)))))) (de A s.h.g (Ae 17)++(mob B s++M)):=
  (n.perm (cw λa=>by simp only[Sys.L,Av,B1];omega)).kW (cw λa=>by simp only[Av,B1];omega)
 refine⟨_, _,⟨A,h1,f.1,f.2.1,f.2.2.1,f.2.2.2,ca,la,cM.OS j⟩,λ{e h'} K=>?_⟩;have q:=ji.ye K;obtain⟨A',r, _, _, _, _,pP,Ai,K⟩:=K;have K:=cM.WO j K;refine⟨A',pP,Ai,r,q,⟨d.c,d.m,d.p,d.b,d.o,d.l,d.k,d.w,d.a⟩,?_⟩;show cM D G w0 e (T++(HD X B s++(gZ B s (Ae s.cs.length)++(Fg Q X A' pP Ai h'++L)))) (mob B s++(de A' h'.g (Ae 17)++M));exact(K.perm (cw λa=>by
  simp only[Sys.L,Av,B1];omega)).kW (cw λa=>by simp only[Av,B1];omega)
theorem iq.sat (H:iq Q X D G w0 w B s T L M): ∃A n L0,a_ Q [] n w w s.h.s L0/\(X.hb,fq Q X A s.h.g)∈L0/\(∀i v,s.h.g i=some v-> ∀x∈gO Q A i v,x∈L0)/\(∀x∈T,x∈L0)/\(∀x∈HD X B s,x∈L0)/\(∀{i x},s.cs[i]? =some x-> ∀y∈uk (B.A i) i x s.sz,y∈L0)/\
 ∀{T' j s'},a_ Q [] n w j s' (T'++L0)->iq Q X D G w0 j B {s with h:=bC s.h s'} (T'++T) L M:=by
 obtain⟨A,ca,la,h1,f,d,r⟩:=H;have q:cM D G w0 w (Q.L ca la s.h.s (dV Q X A s.h (a8 Q A s.h.g (Ae 17)++(T++(HD X B s++(gZ B s (Ae s.cs.length)++L)))))) ([]++(mob B s++(de A s.h.g (Ae 17)++M))):=
  r.perm (cw λa=>by simp only[Sys.L,Av,B1];omega)
 refine⟨A, _, _,⟨f.1,f.2.1,f.2.2.1,f.2.2.2,ca,la,(cM.OS q).base⟩,BL,λi v hv x e=>?_,λx e=>?_,λx e=>?_,λ{i x} hi y t=>?_,λ{T' j s'} K=>?_⟩
 ·refine B4 _ (B4 _ (B4 _ (B4 _ (Bx _ (A5 (Bz.2 ?_) hv x e)))));have:=h1.jg hv;omega
 ·exact B4 _ (B4 _ (B4 _ (B4 _ (BO _ (Bx _ e)))))
 ·exact B4 _ (B4 _ (B4 _ (B4 _ (BO _ (BO _ (Bx _ e))))))
 ·refine B4 _ (B4 _ (B4 _ (B4 _ (BO _ (BO _ (BO _ (Bx _ ?_)))))));unfold gZ;exact HB.2 ⟨i,Bz.2 (B2.1 hi).1,by rw[hi];exact t⟩
 ·obtain⟨u,z,C,k4,pP,Ai,K⟩:=K;have K:=cM.WO q (M1':=[]) (cM.of K);refine⟨A,pP,Ai,⟨h1.jg,h1.mp,h1.gl,h1.pt,h1.gk⟩,⟨u,z,C,k4⟩,⟨d.c,d.m,d.p,d.b,d.o,d.l,d.k,d.w,d.a⟩,?_⟩;exact K.perm (cw λa=>by
   show Bs a (T'++T++(HD X B s++(gZ B s (Ae s.cs.length)++(Q.L pP Ai s' (dV Q X A s.h (a8 Q A s.h.g (Ae 17)))++L))))= _;simp only[Sys.L,Av,B1];omega)
theorem iq.pM (H:iq Q X D G w0 w B s T L M): ∃R e,cM D G w0 w ((B.mb,rC X B)::(B.Lm++(T++R))) e/\
 ∀{T' sm Lm ms w'},dU eMk sm (ms.map mkT) Lm->cM D G w0 w' ((B.mb,rC X {B with sm:=sm,Lm:=Lm})::(Lm++(T'++R))) e->iq Q X D G w0 w' {B with sm:=sm,Lm:=Lm} {s with ms:=ms} T' L M:=by
 obtain⟨A,ca,la,h1,f,d,g⟩:=H;refine⟨(B.eb,oB s.ep.now B.sp B.wb)::(B.xb,lO B.sb B.so)::(B.Lc++(B.Lp++(B.Lb++(B.Lo++(gZ B s (Ae s.cs.length)++(Fg Q X A ca la s.h++L)))))), _,g.perm (cw λa=>by simp only[Av,B1];omega),λ{T' sm Lm ms w'} i K=>?_⟩;refine⟨A,ca,la,h1,f,⟨d.c,i,d.p,d.b,d.o,d.l,d.k,d.w,d.a⟩,K.perm (cw λa=>?_)⟩;show Bs a (T'++(HD X {B with sm:=sm,Lm:=Lm} s++(gZ B s (Ae s.cs.length)++(Fg Q X A ca la s.h++L))))= _;simp only[Av,B1];omega
theorem iq.eps (H:iq Q X D G w0 w B s T L M): ∃R e,cM D G w0 w ((B.eb,oB s.ep.now B.sp B.wb)::(B.Lp++(T++R))) ((B.wb,.map ⟨B.we⟩ B.wk)::e)/\
 ∀{T' sp Lp ep we wk w'},dU eI sp ep.pins Lp->iQ we wk (ep.ws.map Jv)->cM D G w0 w' ((B.eb,oB ep.now sp B.wb)::(Lp++(T'++R))) ((B.wb,.map ⟨we⟩ wk)::e)->iq Q X D G w0 w' {B with sp:=sp,Lp:=Lp,we:=we,wk:=wk} {s with ep:=ep} T' L M:=by
 obtain⟨A,ca,la,h1,f,d,i⟩:=H;refine⟨(B.mb,rC X B)::(B.xb,lO B.sb B.so)::(B.Lc++(B.Lm++(B.Lb++(B.Lo++(gZ B s (Ae s.cs.length)++(Fg Q X A ca la s.h++L)))))),(B.kb,.map ⟨B.ke⟩ B.kk)::(qE B.cr s.bx++(de A s.h.g (Ae 17)++M)),(i.perm (cw λa=>by simp only[Av,B1];omega)).kW (cw λa=>by simp only[Av,B1];omega),λ{T' sp Lp ep we wk w'} j n K=>?_⟩;refine⟨A,ca,la,h1,f,⟨d.c,d.m,j,d.b,d.o,d.l,d.k,n,d.a⟩,(K.perm (cw λa=>?_)).kW (cw λa=>?_)⟩
 ·show Bs a (T'++(((B.mb,rC X B)::(B.eb,oB ep.now sp B.wb)::(B.xb,lO B.sb B.so)::(B.Lc++(B.Lm++(Lp++(B.Lb++B.Lo)))))++(gZ B s (Ae s.cs.length)++(Fg Q X A ca la s.h++L))))= _;simp only[Av,B1];omega
 ·show Bs a (((B.kb,Obj.map ⟨B.ke⟩ B.kk)::(B.wb,Obj.map ⟨we⟩ wk)::qE B.cr s.bx)++(de A s.h.g (Ae 17)++M))= _;simp only[Av,B1];omega
theorem iq.kns (H:iq Q X D G w0 w B s T L M): ∃R e,cM D G w0 w (T++R) ((B.kb,.map ⟨B.ke⟩ B.kk)::e)/\
 ∀{T' kn ke kk w'},iQ ke kk (kn.map λf=>(f,.bool true))->cM D G w0 w' (T'++R) ((B.kb,.map ⟨ke⟩ kk)::e)->iq Q X D G w0 w' {B with ke:=ke,kk:=kk} {s with kn:=kn} T' L M:=by
 obtain⟨A,ca,la,h1,i,d,j⟩:=H;refine⟨_,(B.wb,.map ⟨B.we⟩ B.wk)::(qE B.cr s.bx++(de A s.h.g (Ae 17)++M)),j,λ{T' kn ke kk w'} k K=>?_⟩;exact⟨A,ca,la,h1,i,⟨d.c,d.m,d.p,d.b,d.o,d.l,k,d.w,d.a⟩,K⟩
theorem iq.bxs (H:iq Q X D G w0 w B s T L M): ∃R e,cM D G w0 w ((B.xb,lO B.sb B.so)::(B.Lb++(B.Lo++(T++R)))) (qE B.cr s.bx++e)/\
 ∀{T' so Lo op cr bx w'},dU eI so op Lo->cr.length=bx.length->dF cr=dF B.cr->cM D G w0 w' ((B.xb,lO B.sb so)::(B.Lb++(Lo++(T'++R)))) (qE cr bx++e)->iq Q X D G w0 w' {B with so:=so,Lo:=Lo,cr:=cr} {s with op:=op,bx:=bx} T' L M:=by
 obtain⟨A,ca,la,h1,f,d,i⟩:=H;refine⟨(B.mb,rC X B)::(B.eb,oB s.ep.now B.sp B.wb)::(B.Lc++(B.Lm++(B.Lp++(gZ B s (Ae s.cs.length)++(Fg Q X A ca la s.h++L))))),(B.kb,.map ⟨B.ke⟩ B.kk)::(B.wb,.map ⟨B.we⟩ B.wk)::(de A s.h.g (Ae 17)++M),(i.perm (cw λa=>by simp only[Av,B1];omega)).kW (cw λa=>by simp only[Av,B1];omega),λ{T' so Lo op cr bx w'} j l hc K=>?_⟩;refine⟨A,ca,la,h1,f,⟨d.c,d.m,d.p,?_,j,l,d.k,d.w,d.a⟩,(K.perm (cw λa=>?_)).kW (cw λa=>?_)⟩
 ·show dU eC B.sb (dF cr) B.Lb;rw[hc];exact d.b
 ·show Bs a (T'++(((B.mb,rC X B)::(B.eb,oB s.ep.now B.sp B.wb)::(B.xb,lO B.sb so)::(B.Lc++(B.Lm++(B.Lp++(B.Lb++Lo)))))++(gZ B s (Ae s.cs.length)++(Fg Q X A ca la s.h++L))))= _;simp only[Av,B1];omega
 ·show Bs a (((B.kb,Obj.map ⟨B.ke⟩ B.kk)::(B.wb,Obj.map ⟨B.we⟩ B.wk)::qE cr bx)++(de A s.h.g (Ae 17)++M))= _;simp only[Av,B1];omega
end
section
variable {Q:Sys} {X:HX} {D G:List Nat} {w0 w:A2} {B:MB} {s:MS} {T L:List (Nat×List AC)} {M:List (Nat×BJ)}
theorem abw (H:iq Q X D G w0 w B s T L M) (n:Int):ah Ab 64 [ag (ae B.mb),aa n] w (ag (if 0<=n/\n<(s.cs.length:Int) then some ⟨(B.A n.toNat).cb,0,none⟩ else none)):=by
 refine ah.of (s:= .el (.one .ptr)) λw' h'=>ai (C:=U2) (aT:=λ_=>[]) (B5 (Zq _ _ w' _) ?_);have H:=H.ext h';have W:=H.wf;have a:B.sc.2.1=s.cs.length:=by rw[W.c.1,Db,EY]
 refine⟨λ_=>rfl,λ_=>rfl,H.sa (show _=some (B.sc.1,B.sc.2.1,B.sc.2.2) from rfl) ?_⟩;dsimp only;rw[a];by_cases c:0<=n/\n<(s.cs.length:Int)
 ·rw[az c];obtain⟨R,f,K,d, _, _, _⟩:=H.tmp;have b:=W.c.sl K.base (λy e=>BO _ (d _ (B4 _ (B4 _ (B4 _ (Bx _ e)))))) n.toNat (some ⟨(B.A n.toNat).cb,0,none⟩) (by rw[Dl,JD (by omega)];rfl);refine an ?_ ⟨rfl,rfl,H.sa (show _=some (B.sc.1,B.sc.2.1,B.sc.2.2) from rfl) ⟨⟨b.1,c.1,by dsimp only;rw[a];exact c.2⟩,aj.of _ b.2 λw1 h1=>⟨rfl,h1⟩⟩⟩;simp only[Option.isNone_some,Hr,LL,decide_eq_false_iff_not];omega
 ·rw[au c];refine aF ?_ λw1 h1=>⟨rfl,h1⟩;simp only[Option.isNone_some,Hr,Ga,decide_eq_true_eq];omega
theorem acf {a:Int} (h:dh a):aw .i64 (wD .u64 a 16)=a / 16:=by
 unfold dh at h;have e:wD .u64 a 16=a / 16:=by
  show aw .u64 (a.tdiv 16)= _;rw[Int.tdiv_eq_ediv_of_nonneg h.1];exact dS (by omega)
 rw[e];exact bL (by omega)
theorem VK (H:iq Q X D G w0 w B s T L M) {i:Nat} {x:bZ} (a:s.cs[i]? =some x) (b:dh x.c.2.1):ah Ab 160 [ag (some ⟨(B.A i).cb,0,none⟩)] w (aa (x.c.2.1 / 16)):=by
 refine ah.of (s:= .el (.one (.int .i64))) λw' h'=>ai (C:=U2) (aT:=λ_=>[]) (B5 (RA _ w' _) ?_);refine⟨rfl,rfl,rfl,(H.ext h').XL a (n:=5) (show _=some x.c.2.1 from rfl) λw1 h1=>⟨acf b,h1⟩⟩
end
structure MR where
 mb:Nat
 eb:Nat
 xb:Nat
 kb:Nat
 wb:Nat
 cb:Nat->Nat
 tb:Nat->Nat
abbrev MB.rt (B:MB):MR:=⟨B.mb,B.eb,B.xb,B.kb,B.wb,λi=>(B.A i).cb,λi=>(B.A i).tb⟩
theorem WV {B:MB} {i:Nat} {a:CA} (h1:a.cb=(B.A i).cb) (d:a.tb=(B.A i).tb):(CM B i a).rt=B.rt:=by
 have b:(λj=>((CM _ i a).A j).cb)=λj=>(B.A j).cb:=funext λj=>by
  by_cases e:j=i
  ·subst e;rw[mR];grind
  ·rw[show(CM _ i a).A j=B.A j from au e]
 have c:(λj=>((CM _ i a).A j).tb)=λj=>(B.A j).tb:=funext λj=>by
  by_cases e:j=i
  ·subst e;rw[mR];grind
  ·rw[show(CM _ i a).A j=B.A j from au e]
 show MR.mk _ _ _ _ _ _ _=MR.mk _ _ _ _ _ _ _;rw[b,c];rfl
def MU (Q:Sys) (X:HX) (D G:List Nat) (w0 w:A2) (R:MR) (s:MS) (T L:List (Nat×List AC)) (M:List (Nat×BJ)):Prop:= ∃B:MB,B.rt=R/\iq Q X D G w0 w B s T L M
theorem e9 {s:MS} {i:Nat} {x y:bZ} (a:s.cs[i]? =some x):(cD s i y).cs[i]? =some y:=BN (B2.1 a).1
theorem kM (s:MS) (i:Nat) (x y:bZ):cD (cD s i x) i y=cD s i y:=by unfold cD;simp_all
section
variable {Q:Sys} {X:HX} {D G:List Nat} {w0 w w1:A2} {R:MR} {s:MS} {T L:List (Nat×List AC)} {M:List (Nat×BJ)} {i:Nat} {x:bZ} {g:Option Bool}
theorem MU.ext (H:MU Q X D G w0 w R s T L M) (h:Ext w w1):MU Q X D G w0 w1 R s T L M:=by
 obtain⟨B,e,H⟩:=H;exact⟨B,e,H.ext h⟩
theorem MU.all (H:MU Q X [] [] w0 w R s T L M):Ext w0 w:=by
 obtain⟨B,e,H⟩:=H;exact H.all
theorem MU.en (H:MU Q X D G w0 w R s T L M) {K:A2->Prop} (k: ∀w1,MU Q X D G w0 w1 R s T L M->K w1):ao w K:=λ_ h=>k _ (H.ext h)
theorem MU.go (H:MU Q X D G w0 w R s T L M) {P:Program} {f:FuncId} {sh:Sh} {args:List AC} {K:sh.T->A2->Prop} (k: ∀w1,MU Q X D G w0 w1 R s T L M->aE P f sh args w1 K):aD P f sh args w K:=λ_ h=>k _ (H.ext h)
theorem MU.al (H:MU Q X D G w0 w R s T L M) {cs:List AC} {e:TypeId} {K:Nat->A2->Prop} (k: ∀b w1,MU Q X D G w0 w1 R s ((b,cs)::T) L M->K b w1):aK w ⟨cs⟩ e K:=by
 obtain⟨B,e,H⟩:=H;exact H.al λb w1 H=>k b w1 ⟨B,e,H⟩
theorem MU.st (H:MU Q X D G w0 w R s T L M) (i:Nat) {b:Nat} {l vs:List AC} {K:A2->Prop} (a:T[i]? =some (b,l)) (c:vs.all (·.oneCell')=true) (d:vs.length=l.length) (k: ∀w1,MU Q X D G w0 w1 R s (T.set i (b,vs)) L M->K w1):aC w (ae b) vs K:=by
 obtain⟨B,e,H⟩:=H;exact H.st i a c d λw1 H=>k w1 ⟨B,e,H⟩
theorem MU.ld (H:MU Q X D G w0 w R s T L M) (i:Nat) {el:El} {K:el.T->Prop} {b o:Nat} {l:List AC} {x:el.T} (a:T[i]? =some (b,l)) (hv:lI l o el=some x) (k:K x):aj w g (some ⟨b,o,none⟩) el K:=by
 obtain⟨B,e,H⟩:=H;exact H.ld i a hv k
theorem MU.cI (H:MU Q X D G w0 w R s T L M) (i:Nat) {el:El} {K:el.T->Prop} {b n:Nat} {l:List AC} {x:el.T} (a:T[i]? =some (b,l)) (hv:lI l n el=some x) (k:K x):aj w g (ad (ae b) n) el K:=by
 obtain⟨B,e,H⟩:=H;exact H.cI i a hv k
theorem MU.sub (H:MU Q X D G w0 w R s T L M) {T':List (Nat×List AC)} (h:T'.Sublist T):MU Q X D G w0 w R s T' L M:=by
 obtain⟨B,e,H⟩:=H;exact⟨B,e,H.sub h⟩
theorem MU.f0 (H:MU Q X D G w0 w R s T L M) {K:Option Ad->Prop} (k:K (ae X.hb)):aj w g (ad (ae R.mb) 0) (.one .ptr) K:=by
 obtain⟨B,rfl,H⟩:=H;exact H.sa rfl k
theorem MU.f1 (H:MU Q X D G w0 w R s T L M) {K:Option Ad->Prop} (k:K (ae R.eb)):aj w g (ad (ae R.mb) 1) (.one .ptr) K:=by
 obtain⟨B,rfl,H⟩:=H;exact H.sa rfl k
theorem MU.f2 (H:MU Q X D G w0 w R s T L M) {K:Option Ad->Prop} (k:K (ae R.xb)):aj w g (ad (ae R.mb) 2) (.one .ptr) K:=by
 obtain⟨B,rfl,H⟩:=H;exact H.sa rfl k
theorem MU.f4 (H:MU Q X D G w0 w R s T L M) {K:Option Nat->Prop} (k:K (some R.kb)):aj w g (ad (ae R.mb) 4) (.one .map) K:=by
 obtain⟨B,rfl,H⟩:=H;exact H.sa rfl k
theorem MU.cf (H:MU Q X D G w0 w R s T L M) (b:s.cs[i]? =some x) {n:Nat} {el:El} {K:el.T->Prop} {y:el.T} (hv: ∀a:CA,lI (jY a i x) n el=some y) (k:K y):aj w g (ad (some ⟨R.cb i,0,none⟩) n) el K:=by
 obtain⟨B,rfl,H⟩:=H;exact H.XL b (hv _) k
theorem MU.c1 (H:MU Q X D G w0 w R s T L M) (a:s.cs[i]? =some x) {K:Option Ad->Prop} (k:K (some ⟨R.tb i,0,none⟩)):aj w g (ad (some ⟨R.cb i,0,none⟩) 1) (.one .ptr) K:=by
 obtain⟨B,rfl,H⟩:=H;exact H.XL a rfl k
theorem MU.CZ (H:MU Q X D G w0 w R s T L M) (d:s.cs[i]? =some x): ∃(a:CA) (b:List (Nat×List AC)) (c:List (Nat×BJ)),a.cb=R.cb i/\a.tb=R.tb i/\SU a x/\cM D G w0 w (uk a i x s.sz++(T++b)) c/\
 ∀{T':List (Nat×List AC)} {a':CA} {x':bZ} {w':A2},a'.cb=a.cb->a'.tb=a.tb->SU a' x'->cM D G w0 w' (uk a' i x' s.sz++(T'++b)) c->MU Q X D G w0 w' R (cD s i x') T' L M:=by
 obtain⟨B,rfl,H⟩:=H;obtain⟨b,c,K,J⟩:=H.CZ d;exact⟨B.A i,b,c,rfl,rfl,H.wf.a d,K,λh1 e f g=>⟨_,WV h1 e,J h1 f g⟩⟩
theorem MU.cs (H:MU Q X D G w0 w R s T L M) (c:s.cs[i]? =some x) (x':bZ) (n:Nat) {vs:List AC} (d:vs.all (·.oneCell')=true) (e:Nat.ble (n+vs.length) 14=true) (f: ∀a:CA,(jY a i x).take n++(vs++(jY a i x).drop (n+vs.length))=jY a i x') (g: ∀a,SU a x->SU a x') {K:A2->Prop}
 (k: ∀w1,MU Q X D G w0 w1 R (cD s i x') T L M->K w1):aC w (ad (some ⟨R.cb i,0,none⟩) n) vs K:=by
 obtain⟨a,m,o,h,hb,W,b,J⟩:=H.CZ c;rw[<-h,aR,Nat.zero_add];refine λw1 h1=>aC.at 0 (b.ext h1).base.again rfl d (Nat.le_of_ble_eq_true e) (λj l=>k j (J rfl rfl (g a W) ?_)) w1 (Ext.refl w1);have K:=(b.ext h1).join l;rw[f] at K;exact K
theorem WW (H:MU Q X D G w0 w R s T L M) (n:Int):ah Ab 64 [ag (ae R.mb),aa n] w (ag (if 0<=n/\n<(s.cs.length:Int) then some ⟨R.cb n.toNat,0,none⟩ else none)):=by
 obtain⟨B,rfl,H⟩:=H;exact abw H n
theorem Ji (H:MU Q X D G w0 w R s T L M) (a:s.cs[i]? =some x) (b:dh x.c.2.1):ah Ab 160 [ag (some ⟨R.cb i,0,none⟩)] w (aa (x.c.2.1 / 16)):=by
 obtain⟨B,rfl,H⟩:=H;exact VK H a b
theorem uZ {w:A2} {r:Nat} {es:Array DA} {ck i:Nat} {g:Int} {z v u:AC} (m:bE w r es ck) (h:H4 (.int .i64) (aa g) es.toList 0=some (some (i,u))) (e:v=u):jP w (some r) .i64 g z v:=⟨r,by grind⟩
theorem Bk {w:A2} {r:Nat} {es:Array DA} {ck:Nat} {g:Int} {z v:AC} (m:bE w r es ck) (h:H4 (.int .i64) (aa g) es.toList 0=some none) (e:v=z):jP w (some r) .i64 g z v:=⟨r,by grind⟩
theorem Jj (H:MU Q X D G w0 w R s T L M) (k:s.cs[i]? =some x):ah Ab 199 [ag (some ⟨R.cb i,0,none⟩)] w (aa (a9 x.c.1)):=by
 refine ah.of λw1 h1=>ai (C:=U2) (B5 (RB _ w1 _) λl b q d=>?_);have H0:=(((At.start [] w1).ext b).o7 _).ext d;have e:=b.size;have m0:=d.obj (eO l _);refine ml H0 e (by simp) m0 rfl λr m o u f=>?_;refine ml (m.ext f) e (by simp) (f.obj o) rfl λy h a=>?_;have hv:=(iQ.nil.push (g:=6) (aa 1) (λt j=>(by cases j))).push (g:=7) (aa 2) (by grind);have H:=H.ext (h1.trans (Ext.trans (h.ext (Ext.refl _)).all (Ext.refl _)));refine⟨rfl,rfl,rfl,H.cf k (n:=4) (λ_=>rfl) ⟨a9 x.c.1,?_,λz p=>⟨rfl,(h.ext p).all⟩⟩⟩;unfold a9;by_cases c6:x.c.1=6
 ·rw[az c6,c6];obtain⟨i,hi, _⟩:=hv.Fa (g:=6) (v:=aa 1) (by simp);exact uZ a hi rfl
 ·rw[au c6];by_cases c7:x.c.1=7
  ·rw[az c7,c7];obtain⟨i,hi, _⟩:=hv.Fa (g:=7) (v:=aa 2) (by simp);exact uZ a hi rfl
  ·rw[au c7];refine Bk a (hv.Nw λt j=>?_) rfl
   grind
theorem tr (H:MU Q X D G w0 w R s T L M) (p:s.ms.length<=1000000000) (m:MT) {K:Unit->A2->Prop}
 (k: ∀a,MU Q X D G w0 a R {s with ms:=s.ms++[m]} T L M->K () a):
 aD Ab 155 (.bu []) [ag (ae R.mb),.agg ⟨[aa m.1,aa m.2.1,aa m.2.2.1,aa m.2.2.2.1.1,ay m.2.2.2.1.2.1,ay m.2.2.2.1.2.2.1,ay m.2.2.2.1.2.2.2.1,ay m.2.2.2.2.1,aa m.2.2.2.2.2]⟩] w K:=by
 obtain⟨B,rfl,H⟩:=H;refine λw1 h1=>ai (C:=U2) (aT:=λ_=>[]) (B5 (RC _ _ _ _ _ _ _ _ _ _ w1 K) ?_);refine(H.ext h1).al λb a H=>⟨rfl,rfl,H.sa (rfl) (H.ld 0 rfl (show _=some (mkT m) from rfl) (H.al λd q H e f=>?_))⟩;have H:=H.ext f;obtain⟨r,t,g,J⟩:=H.pM;have c:=g.perm Fw;have hb:bM e d (cellsOf eMk (mkT m)):=c.base.dp _ (BO _ (B4 _ BL));refine Ho c H.wf.m rfl (ys:=[mkT m]) rfl (rF hb) rfl rfl (by grind) λs' h u i j=>⟨rfl,rfl,We (j.perm Fw.symm) 0 rfl rfl rfl λv l=>enM l λn o=>k n ⟨{B with sm:=s',Lm:=h},rfl,iq.sub (J (ms:=s.ms++[m]) (by rw[Fx];exact i) o) ?_⟩⟩;simp
theorem zq (H:MU Q X D G w0 w R s T L M) (q:s.cs[i]? =some x) (F:(x.ls.length:Int)<=64) (I:0<s.sz) (t g:Int) {K:Unit->A2->Prop}
 (k: ∀b,MU Q X D G w0 b R (cD s i {x with ls:=jm x.ls t g}) T L M->K () b):
 aD Ab 67 (.bu []) [ag (some ⟨R.cb i,0,none⟩),aa t,aa g] w K:=by
 refine H.go λw1 H=>ai (C:=U2) (aT:=λ_=>[]) (B5 (G_ _ _ _ w1 K) ?_);have fin: ∀{b:A2} {a:CA} {j:List (Nat×List AC)} {l:List (Nat×BJ)} (o:List LT),SU a x->a.tb=R.tb i->cM D G w0 b (uk a i x s.sz++(T++j)) l-> ∃p,cM D G w0 b ((R.tb i,dx a.st s.sz)::(a.Lt++p)) l/\ ∀{r:A2} {s'} {d:List (Nat×List AC)},dU lE s' o d->aJ [] (((R.tb i,dx a.st s.sz)::(a.Lt++p)).map (·.1)) b r ((R.tb i,dx s' s.sz)::(d++p))-> ∃a':CA,a'.cb=a.cb/\a'.tb=a.tb/\SU a' {x with ls:=o}/\cM D G w0 r (uk a' i {x with ls:=o} s.sz++(T++j)) l:=by
  intro b a j l o W N u;rw[<-N];have m:cM D G w0 b ((a.tb,dx a.st s.sz)::(a.Lt++((a.cb,jY a i x)::(a.Lf++(a.Lw++(T++j)))))) l:=u.perm (cw λy=>by simp only[uk,Av,B1];omega);refine⟨_,m,λ{r s' d} h n=>⟨{a with st:=s',Lt:=d},rfl,rfl,⟨h,W.fs,W.wk⟩,(m.join n).perm (cw λy=>by
   show Bs y ((a.cb,jY a i x)::(a.tb,dx s' s.sz)::(d++(a.Lf++a.Lw))++(T++j))= _
   grind)⟩⟩
 obtain⟨a,j,l,O,hb,W,u,J⟩:=H.CZ q;obtain⟨p,m,f⟩:=fin (jm x.ls t g) W hb u;refine ab (λc=>⟨rfl,rfl,H.c1 q ?_⟩) (λc=>⟨rfl,rfl,H.c1 q ?_⟩)
 ·have e:g= -1:=by simpa using c
  refine Gq m.base.again W.ls F I t λv s' d b h n=>?_;have h:dU lE s' (jm x.ls t g) d:=by unfold jm;rw[az e];exact h
  obtain⟨a',h1,z,A,B⟩:=f h n;exact(J h1 z A B).en λE H=>k E H
 ·have e:g≠ -1:=by simpa using c
  refine AH m.base.again W.ls F I t g λs' d b h n=>?_;have h:dU lE s' (jm x.ls t g) d:=by unfold jm;rw[au e];exact h
  obtain⟨a',h1,z,A,B⟩:=f h n;exact(J h1 z A B).en λE H=>k E H
theorem Mn (H:MU Q X D G w0 w R s T L M) (a:s.cs[i]? =some x):ah Ab 152 [ag (ae R.mb),ag (some ⟨R.cb i,0,none⟩)] w (.bool (l_ s.h x)):=by
 refine ah.of (s:= .el (.one .bool)) λw1 h1=>ai (C:=U2) (aT:=λ_=>[]) (B5 (Ha _ _ w1 _) ?_);have H:=H.ext h1;have b:ah Ab 19 [ag (ae X.hb),aa x.vm] w1 (.bool (aW s.h.g x.vm)):=by
  obtain⟨B,e,d⟩:=H;obtain⟨A,k,L0,S,f, _⟩:=d.sat;exact pX S f x.vm
 refine⟨_,Jj H a,λ_=>rfl,λ_=>rfl,H.f0 ⟨λ_=>rfl,λ_=>rfl,H.cf a (n:=3) (λ_=>rfl) ⟨_,λ_=>b,λ_=>rfl,λ_=>rfl,H.cf a (n:=4) (y:=x.c) (λ_=>rfl) ⟨_,λ_=>DQ _ _ _ _,λ_=>rfl,λ_=>rfl,λ_=>rfl,H.cf a (n:=5) (λ_=>rfl) λl j=>⟨?_,j⟩⟩⟩⟩⟩;unfold l_;simp only[Gd]
end
theorem wh (x:Int): ∀l:List Int,l.Pairwise (λa b=>b<=a)->(jy x l).Pairwise (λa b=>b<=a)
 |[], _=>by simp[jy]
 |y::l,h=>by
  rw[jy];obtain⟨h1,e⟩:=HE.1 h;split
  ·rename_i c;refine HE.2 ⟨λz d=>?_,wh x l e⟩;rcases EW.1 ((uT x l).mem_iff.1 d) with rfl|d
   ·omega
   ·exact h1 z d
  ·rename_i c;refine HE.2 ⟨λz d=>?_,h⟩;rcases EW.1 d with rfl|d
   ·omega
   ·have:=h1 z d;omega
theorem tZ: ∀(l a:List Int),a.Pairwise (λa b=>b<=a)->(l.foldl (λa x=>jy x a) a).Pairwise (λa b=>b<=a)
 |[], _,h=>h
 |x::l,a,h=>tZ l _ (wh x a h)
theorem abx {R l:List Int} (h:R.Pairwise (· <= ·)) (c:R.Perm l):R=n7 l:=by
 refine List.Perm.eq_of_pairwise (λa b _ _ h1 d=>by omega) h ?_ (c.trans (ly l).symm);unfold n7;rw[List.pairwise_reverse];exact tZ l [] List.Pairwise.nil
theorem VL (e:vh):(fj e).now=JN e.pins e.now:=by unfold fj JN;split<;>rfl
theorem Sf (e:vh):(fj e).pins=e.pins:=by unfold fj;split<;>rfl
theorem uH (e:vh):(fj e).ws=e.ws:=by unfold fj;split<;>rfl
theorem O7 (e:vh):e.now<=(fj e).now/\(fj e).now<=e.now+1:=by
 unfold fj;split
 ·exact⟨by show e.now<=e.now+1;omega,CO _⟩
 ·omega
theorem Cu: ∀(l:List Int) (s:MS),(l.foldl ib s).ms.length=s.ms.length+l.length
 |[],s=>rfl
 |f::l,s=>by
  rw[G1,Cu l];show(s.ms++ _).length+l.length= _;simp only[GS,List.length_cons,List.length_nil];omega
section
variable {Q:Sys} {X:HX} {D G:List Nat} {w0 w w1:A2} {R:MR} {s:MS} {T L:List (Nat×List AC)} {M:List (Nat×BJ)} {i:Nat} {x:bZ} {g:Option Bool}
theorem MU.base (H:MU Q X D G w0 w R s T L M): ∃L0,aJ D G w0 w L0/\ ∀x∈T,x∈L0:=by
 obtain⟨B,e,H⟩:=H;obtain⟨b,c,K, _⟩:=H.tmp;exact⟨_,K.base,λx a=>Bx _ a⟩
theorem MU.sat (H:MU Q X D G w0 w R s T L M): ∃A a L0,a_ Q [] a w w s.h.s L0/\(X.hb,fq Q X A s.h.g)∈L0/\(∀i v,s.h.g i=some v-> ∀x∈gO Q A i v,x∈L0)/\
 ∀{T' b s'},a_ Q [] a w b s' (T'++L0)->MU Q X D G w0 b R {s with h:=bC s.h s'} (T'++T) L M:=by
 obtain⟨B,e,H⟩:=H;obtain⟨A,a,L0,S,h1,c, _, _, _,J⟩:=H.sat;exact⟨A,a,L0,S,h1,c,λK=>⟨B,e,J K⟩⟩
theorem MU.del (H:MU Q X D G w0 w R s T L M) (f:Int) {K:A2->Prop} (k: ∀g,MU Q X D G w0 g R {s with kn:=s.kn.filter (λx=> !(x==f))} T L M->K g):
 ∃(r:Nat) (es:Array DA) (h:Nat),some R.kb=some r/\bE w r es h/\zS w r .i64 f es h K:=by
 obtain⟨B,rfl,H⟩:=H;obtain⟨p,q,a,J⟩:=H.kns;refine⟨B.kb,⟨B.ke⟩,B.kk,rfl,a.get (i:=0) rfl,?_⟩;unfold zS;by_cases c:f∈s.kn
 ·obtain⟨i,j,l,hv⟩:=H.wf.k.Fa (BK.2 ⟨f,c,rfl⟩);rw[show H4 (.int .i64) (aa f) (Array.mk B.ke).toList 0=some (some (i,.bool true)) from j];have b:=a.put (i:=0) rfl (o':= .map ⟨B.ke.eraseIdx i⟩ B.kk) trivial;have m:(Array.mk B.ke).eraseIdxIfInBounds i=⟨B.ke.eraseIdx i⟩:=by
   apply Array.ext';simp[Array.eraseIdxIfInBounds,l]
  show K (w.putObj B.kb (.map ((Array.mk B.ke).eraseIdxIfInBounds i) B.kk));rw[m];refine k _ ⟨{B with ke:=B.ke.eraseIdx i},rfl,J (kn:=s.kn.filter λx=> !(x==f)) ?_ b⟩;rw[List.filter_map] at hv;exact hv
 ·have n: ∀t∈s.kn.map (λf=>((f,.bool true):KV)),t.1≠f:=λt o e=>by
   obtain⟨y,d,rfl⟩:=BK.1 o;exact c (by rw[<-e];exact d)
  rw[show H4 (.int .i64) (aa f) (Array.mk B.ke).toList 0=some none from H.wf.k.Nw n];have b:=a.put (i:=0) rfl (o':= .map ⟨B.ke⟩ B.kk) trivial;refine k _ ⟨B,rfl,J (ke:=B.ke) (kk:=B.kk) (kn:=s.kn.filter λx=> !(x==f)) ?_ b⟩;rw[List.filter_eq_self.2 λy d=>by simpa using λe:y=f=>c (e▸d)];exact H.wf.k
theorem Ev (H:MU Q X D G w0 w R s T L M) (P:s.ep.pins.length<=8) (U:0<=s.ep.now/\s.ep.now<4611686018427387000) (V:s.ep.ws.length<=1000000) (W: ∀e∈s.ep.ws,0<=e.2/\e.2<=s.ep.now) (q:s.ms.length<=900000000) {K:Int->A2->Prop}
 (k: ∀b,MU Q X D G w0 b R (dL s).1 T L M->K (((dL s).2:Nat):Int) b):aD Ab 151 (.el (.one (.int .i64))) [ag (ae R.mb)] w K:=by
 refine H.go λw1 H=>ai (C:=U2) (aT:=tU) (B5 (RE _ w1 K) ⟨rfl,rfl,H.f1 ?_⟩);have hle:=O7 s.ep;have XI: ∀{b},MU Q X D G w0 b R s T L M-> ∀{g:Bool->A2->Prop},(∀v d,MU Q X D G w0 d R {s with ep:=fj s.ep} T L M->g v d)->aD Ab 197 (.el (.one .bool)) [ag (ae R.eb)] b g:=by
  intro b a g t;obtain⟨B,rfl,a⟩:=a;obtain⟨E,Y,m,J⟩:=a.eps;refine T_ m.base.again a.wf.p P ⟨U.1,by omega⟩ λv d Z=>t v d ⟨{B with sp:=B.sp,Lp:=B.Lp,we:=B.we,wk:=B.wk},rfl,J (ep:=fj s.ep) (by rw[Sf];exact a.wf.p) (by rw[uH];exact a.wf.w) (by rw[VL];exact m.join Z)⟩
 refine XI H λv b H=>⟨rfl,rfl,H.f1 ?_⟩;have free: ∀{s2:MS} {b},MU Q X D G w0 b R s2 T L M->s2.ep=fj s.ep-> ∀{g:Option Ad×Nat×Nat->A2->Prop},(∀r f d,dU eI r (oy s2.ep) f->MU Q X D G w0 d R {s2 with ep:=BS s2.ep} (f++T) L M->g r d)->aD Ab 198 (.el (.one .slice)) [ag (ae R.eb)] b g:=by
  intro s2 b a o g t;obtain⟨B,rfl,a⟩:=a;obtain⟨E,Y,m,J⟩:=a.eps;refine Ru m a.wf.w (by rw[o,uH];omega) BL (λe q=>?_) (by rw[o];omega) λr Rr f qD d hso hpe h hv K4=>?_
  ·rw[o,uH] at q;have:=W e q;rw[o];omega
  ·rw[abx hso hpe] at h;refine t r f d h ⟨{B with sp:=B.sp,Lp:=B.Lp,we:=qD,wk:=B.wk},rfl,J (T':=f++T) (ep:=BS s2.ep) a.wf.p hv (K4.perm (cw λy=>?_))⟩;show Bs y ((B.eb,oB s2.ep.now B.sp B.wb)::(B.Lp++(f++T++E)))= _;simp only[Av,B1];omega
 refine free H rfl λr f d h H=>?_;generalize u:oy (fj s.ep)=l at*
 have hlen:=h.1;have hll:l.length<=1000000:=by
  rw[<-u];unfold oy;rw[mV,Db];refine Ht (HG _ _) ?_;rw[uH];exact V
 refine⟨λn st z=> ∃j:Nat,j<=l.length/\n=l.length - j/\st.1=(j:Int)/\MU Q X D G w0 z R ((l.take j).foldl ib {s with ep:=BS (fj s.ep)}) (f++T) L M,⟨l.length,λz h4=>⟨0,Ff _,rfl,rfl,H.ext h4⟩⟩,?_⟩;clear H;rintro n ⟨i, _⟩ z ⟨j,F,uh,hi,H⟩;have hi:i=(j:Int):=hi;subst hi uh;dsimp only;rw[hlen];refine ab (λc=>?_) (λc=>?_)
 ·have F:j<l.length:=by have:=of_decide_eq_true c;omega
  obtain⟨x,I⟩: ∃x,l[j]? =some x:=⟨_,CX F⟩;obtain⟨L0,K0,hT⟩:=H.base;have N:=h.sl K0 (λy hy=>hT y (Bx _ hy)) j x I;refine⟨⟨N.1,by omega,by omega⟩,aj.of x (by rw[C7];exact N.2) ⟨rfl,rfl,H.f0 ?_⟩⟩;obtain⟨A,G',L0,S,hk, _,J⟩:=H.sat;refine D7 S hk x λO S=>?_;have H:=J (T':=[]) S;refine⟨rfl,rfl,H.f4 λw6 h6=>(H.ext h6).del x λw7 H=>tr H ?_ (2,0,x,(0,0,0,0,()),0,0) λw8 H w9 h9=>⟨l.length - (j+1),by omega,j+1,by omega,rfl,?_,?_⟩⟩
  ·show(List.foldl ib _ (l.take j)).ms.length<= _;rw[Cu,List.length_take];show s.ms.length+ _<= _;omega
  ·rw[ax (by omega) (by omega)];omega
  ·rw[JJ,I,JL];exact H.ext h9
 ·have:j=l.length:=by have:=of_decide_eq_false c;omega
  subst this;rw[JP] at H;refine H.en λO H=>?_;have e:(dL s).1=l.foldl ib {s with ep:=BS (fj s.ep)}:=by unfold dL;rw[u]
  have e2:(dL s).2=l.length:=by unfold dL;rw[u]
  rw[e,e2] at k;exact k O (H.sub (E5 _ _))
end
abbrev BA:Type:=(Int×Int×Unit)×Bool×Unit
abbrev Ng:Sh:= .bu [.agg iI,.one .bool]
theorem Sg {pins:List Int} {n:Nat} (h:n<pins.length):zW pins n (-1)=pins.set n (-1):=by
 unfold zW;split
 ·rename_i c;have e:pins.getD n 0= -1:=by simpa using c
  rw[E4,CX h] at e;have e:pins[n]= -1:=e;rw[<-e];exact(List.set_getElem_self h).symm
 ·rfl
theorem Si {e:vh} {n:Nat} (a:0<=e.now):{e with pins:=zW e.pins n e.now}=z5 e n:=by
 unfold zW z5;have h0:(e.now== -1)=false:=by rw[beq_eq_false_iff_ne];omega
 rw[h0];by_cases c:e.pins.getD n 0= -1
 ·rw[az c,au (by rw[c];decide)]
 ·rw[au c,az (by rw[beq_eq_false_iff_ne.2 c])]
theorem VM (e:vh) (f:Int):Nx (e.ws.map Jv) f e.now=(kT e f).ws.map Jv:=by
 unfold Nx kT;rw[List.any_map];show(if e.ws.any (λx=>x.1==f)=true then _ else _)= _;split<;>rfl
theorem Cv (e:vh) (f:Int):(kT e f).now=e.now/\(kT e f).pins=e.pins:=by unfold kT;split<;>exact⟨rfl,rfl⟩
theorem yU: ∀(l:List Int) (e:vh),(l.foldl kT e).now=e.now/\(l.foldl kT e).pins=e.pins
 |[],e=>⟨rfl,rfl⟩
 |f::l,e=>by rw[G1,(yU l _).1,(yU l _).2];exact Cv e f
section
variable {Q:Sys} {X:HX} {D G:List Nat} {w0 w w1:A2} {R:MR} {s:MS} {T L:List (Nat×List AC)} {M:List (Nat×BJ)} {i:Nat} {x:bZ} {g:Option Bool}
theorem MU.res {b:Nat} {l:List AC} (H:MU Q X D G w0 w R s ((b,l)::T) L M) (d:l.length=2) (V E:Int) (c:Bool) {K:BA->A2->Prop} (k: ∀a,MU Q X D G w0 a R s T L M->K ((V,E,()),c,()) a):
 aC w (ae b) [ay V,aa E] λa=>ao a λw1=>aj w1 none (ae b) (El.agg [.int .u64,.int .i64]) λ(x:Int×Int×Unit)=>K ((x.1,x.2.1,()),c,()) w1:=
 H.st 0 rfl rfl d.symm λa H=>H.en λe H=>H.ld 0 rfl (show _=some (V,E,()) from rfl) (k e (H.sub (B3 _ _)))
theorem MU.crd (H:MU Q X D G w0 w R s T L M) (b:s.cs[i]? =some x) {n:Nat} {el:El} {y:el.T} (hv: ∀a:CA,lI (jY a i x) n el=some y):cP w (ad (some ⟨R.cb i,0,none⟩) n) el y:=by
 obtain⟨z,h,e⟩:=H.cf (g:=none) (K:=λz=>z=y) b hv rfl;subst e;exact h
theorem Bl (H:MU Q X D G w0 w R s T L M) (hc:i<s.ep.pins.length) {K:Int->A2->Prop} (k: ∀v b,MU Q X D G w0 b R {s with ep:=uB s.ep i} T L M->K v b):
 aD Ab 158 (.el (.one (.int .i64))) [ag (ae R.eb),aa (i:Int)] w K:=by
 refine λw1 h1=>?_;obtain⟨B,rfl,a⟩:=H.ext h1;obtain⟨h,j,c,J⟩:=a.eps;refine Ka c.base.again a.wf.p i hc (λv e f d g=>k v f ⟨{B with sp:=B.sp,Lp:=e,we:=B.we,wk:=B.wk},rfl,J (ep:=uB s.ep i) ?_ a.wf.w (c.join g)⟩) w1 (Ext.refl w1);rw[Sg hc] at d;exact d
theorem VN (H:MU Q X D G w0 w R s T L M) (d:0<=s.ep.now) (hc:i<s.ep.pins.length) {K:Int->A2->Prop} (k: ∀v b,MU Q X D G w0 b R {s with ep:=z5 s.ep i} T L M->K v b):
 aD Ab 200 (.el (.one (.int .i64))) [ag (ae R.eb),aa (i:Int)] w K:=by
 refine λw1 h1=>?_;obtain⟨B,rfl,a⟩:=H.ext h1;obtain⟨j,l,c,J⟩:=a.eps;refine T9 c.base.again a.wf.p i hc (λv e f g h=>k v f ?_) w1 (Ext.refl w1);rw[<-Si d];exact⟨{B with sp:=B.sp,Lp:=e,we:=B.we,wk:=B.wk},rfl,J (ep:={s.ep with pins:=zW s.ep.pins i s.ep.now}) g a.wf.w (c.join h)⟩
theorem Sj (H:MU Q X D G w0 w R s T L M) (c:s.ep.pins.length<=8) (d:0<=s.ep.now/\s.ep.now<4611686018427387000) (f:s.ep.ws.length<=1000000) (g: ∀e∈s.ep.ws,0<=e.2/\e.2<=s.ep.now) (h:s.ms.length<=900000000) (p:Option Ad) {K:BA->A2->Prop}
 (k: ∀a,MU Q X D G w0 a R (dL s).1 T L M->K ((0,0,()),false,()) a):aD Ab 109 Ng [ag (ae R.mb),ag p] w K:=by
 refine H.go λw1 H=>aQ (C:=U2) (aT:=λ_=>[]) (B5 (RF _ p w1 K) (H.al λb a H=>Ev H c d f g h λi H=>H.res rfl 0 0 false k))
theorem Sk (H:MU Q X D G w0 w R s T L M) (e:s.cs[i]? =some x) (N:x.ak<4611686018427387904) (hfs:x.fs.length<=1000000) (O: ∀f∈x.fs,0<=f) {K:BA->A2->Prop}
 (k: ∀m,MU Q X D G w0 m R (iE s x).1 T L M->K ((if(iE s x).2.2=true then((iE s x).2.1.1,(iE s x).2.1.2,()) else(0,0,())),(iE s x).2.2,()) m):
 aD Ab 113 Ng [ag (ae R.mb),ag (some ⟨R.cb i,0,none⟩)] w K:=by
 refine H.go λw1 H=>aQ (C:=U2) (aT:=tV) (B5 (RH _ _ w1 K) (H.al λb m H=>⟨rfl,rfl,H.f2 ⟨rfl,rfl,H.cf e (n:=12) (λ_=>rfl) ⟨yc s x.ak,?_,?_⟩⟩⟩))
 ·obtain⟨B,rfl,d⟩:=H;obtain⟨q,z,g,J⟩:=d.bxs;have r:=g.base.perm (L':=B.Lo++((B.xb,lO B.sb B.so)::(B.Lb++((b,[ay 0,aa 0])::T++q)))) (cw λy=>by simp only[Av,B1];omega);exact Vr r BL d.wf.o x.ak N
 ·unfold iE at k;refine ab (λc=>?_) (λc=>?_)
  ·have c:yc s x.ak=false:=by simpa using c
   rw[c] at k;exact H.res rfl 0 0 false k
  ·have c:yc s x.ak=true:=by simpa using c
   rw[c] at k;obtain⟨B,rfl,d⟩:=H;refine⟨rfl,rfl,d.XL e (n:=13) (show _=some ((B.A i).sf.1,(B.A i).sf.2.1,(B.A i).sf.2.2) from rfl) ?_⟩;have P:(B.A i).sf.2.1=x.fs.length:=(d.wf.a e).fs.1;refine⟨λn st h=> ∃(j:Nat) (we:List DA) (wk:Nat),j<=x.fs.length/\n=x.fs.length - j/\st.1=(j:Int)/\iq Q X D G w0 h {B with we:=we,wk:=wk} {s with ep:=(x.fs.take j).foldl kT s.ep} ((b, _)::T) L M,⟨x.fs.length,λh S=>⟨0,B.we,B.wk,Ff _,rfl,rfl,d.ext S⟩⟩,?_⟩;rintro n ⟨U, _⟩ h ⟨j,we,wk,E,V,hi,H⟩;have hi:U=(j:Int):=hi;subst hi V;dsimp only;rw[P];refine ab (λc=>?_) (λc=>?_)
   ·have E:j<x.fs.length:=by have:=of_decide_eq_true c;omega
    obtain⟨f,u⟩: ∃f,x.fs[j]? =some f:=⟨_,CX E⟩;have l:({s with ep:=(x.fs.take j).foldl kT s.ep}:MS).cs[i]? =some x:=e;obtain⟨q,z,g,hh, _,hc, _⟩:=H.tmp;have F:=(H.wf.a l).fs.sl g.base (λy I=>BO _ (hc l _ (B4 _ (B4 _ (BO _ (Bx _ I)))))) j f u;refine⟨⟨F.1,by omega,by omega⟩,aj.of f (by rw[C7];exact F.2) ⟨rfl,rfl,H.sa (show _=some (ae B.eb) from rfl) ?_⟩⟩;obtain⟨q,z,g,J⟩:=H.eps;refine Ua g BL H.wf.w (λt W=>?_) f (O f (C6 u)) λv Y Z w5 hv r w6 h6=>⟨x.fs.length - (j+1),by omega,j+1,Y,Z,by omega,rfl,?_,?_⟩
    ·obtain⟨y,I,rfl⟩:=BK.1 W;exact⟨_,rfl⟩
    ·rw[ax (by omega) (by omega)];omega
    ·rw[JJ,u,JL];rw[VM] at hv;refine iq.ext (J (sp:=B.sp) (ep:=kT ((x.fs.take j).foldl kT s.ep) f) ?_ hv ?_) h6
     ·rw[(Cv _ f).2];exact H.wf.p
     ·rw[(Cv _ f).1];exact r
   ·have:j=x.fs.length:=by have:=of_decide_eq_false c;omega
    subst this;rw[JP] at H;have H:MU Q X D G w0 h B.rt {s with ep:=x.fs.foldl kT s.ep} ((b, _)::T) L M:=⟨{B with we:=we,wk:=wk},rfl,H⟩;have l:({s with ep:=x.fs.foldl kT s.ep}:MS).cs[i]? =some x:=e;exact⟨rfl,rfl,H.cf l (n:=10) (y:=(x.rs.1,x.rs.2,())) (λ_=>rfl) (H.res rfl _ _ true k)⟩
end
theorem acg {a:Int} (h:0<=a):aw .i64 (bH a 16)=a % 16:=by
 have e:bH a 16=a % 16:=by
  unfold bH;exact Hb h
 rw[e];exact bL (by omega)
theorem atU {f a:Int} (c:0<=f/\f<4096) (b:0<=a):aB .i64 (ir .i64 16 f) (aw .i64 (bH a 16))=16*f+a % 16:=by
 rw[acg b,eo (by omega) (by omega),ax (by omega) (by omega)]
section
variable {Q:Sys} {X:HX} {D G:List Nat} {w0 w w1:A2} {R:MR} {s:MS} {T L:List (Nat×List AC)} {M:List (Nat×BJ)} {i:Nat} {x:bZ} {g:Option Bool}
theorem zt (H:MU Q X D G w0 w R s T L M) {K:Option Ad->A2->Prop} (k: ∀a,MU Q X D G w0 a R s T L M->K (ae Q.bm) a):
 aD Ab 23 (.el (.one .ptr)) [ag (ae X.hb)] w K:=by
 obtain⟨A,c,L0,S,b, _,J⟩:=H.sat;exact zj S b λa S=>k a (J (T':=[]) S)
theorem Mp (H:MU Q X D G w0 w R s T L M) (a:s.cs[i]? =some x) (e:0<=x.fr/\x.fr<4096) (f:dh x.c.2.1) (hb:dh x.c.2.2.1) (hc:i<s.ep.pins.length) (p:s.ms.length<=900000000) {K:BA->A2->Prop}
 (k: ∀d,MU Q X D G w0 d R (fY s i x).1 T L M->K (((fY s i x).2.1.1,0,()),true,()) d):
 aD Ab 112 Ng [ag (ae R.mb),ag (some ⟨R.cb i,0,none⟩)] w K:=by
 refine H.go λw1 H=>aQ (C:=U2) (aT:=λ_=>[]) (B5 (L4 _ _ w1 K) (H.al λb d H=>⟨rfl,rfl,H.cf a (n:=9) (λ_=>rfl) ⟨rfl,rfl,rfl,H.cf a (n:=5) (λ_=>rfl) ⟨rfl,rfl,H.f1 ⟨rfl,rfl,H.cf a (n:=0) (λ_=>rfl) ?_⟩⟩⟩⟩));rw[atU e f.1];unfold fY at k;dsimp only at k;refine Bl H hc λv q H=>⟨rfl,rfl,rfl,H.cf a (n:=4) (λ_=>rfl) ?_⟩;refine ab (λc=>?_) (λc=>?_)
 ·have c:x.c.1=7:=by simpa using c
  rw[az c] at k;refine⟨rfl,rfl,H.f0 ⟨rfl,rfl,rfl,H.cf a (n:=6) (λ_=>rfl) (zt H λg H=>⟨H.crd a (n:=6) λ_=>rfl,trivial,trivial,trivial,?_⟩)⟩⟩;obtain⟨A,j,L0,S,l, _,J⟩:=H.sat;refine S.store _ _ hb λm S=>?_;have H:=J (T':=[]) S;exact⟨rfl,rfl,rfl,H.cf a (n:=6) (λ_=>rfl) (tr H (by show s.ms.length<= _;omega) (4,0,16*x.fr+x.c.2.1 % 16,(0,0,0,0,()),x.c.2.2.1,0) λo H=>H.res rfl 0 0 true k)⟩
 ·have c:x.c.1≠7:=by simpa using c
  rw[au c] at k;refine⟨rfl,rfl,H.f0 (zt H λg H=>?_)⟩;obtain⟨A,j,L0,S,l, _,J⟩:=H.sat;refine S.load _ λm S=>?_;have H:=J (T':=[]) S;exact tr H (by show s.ms.length<= _;omega) (3,0,16*x.fr+x.c.2.1 % 16,(0,0,0,0,()),dJ s.h.s.1 (16*x.fr+x.c.2.1 % 16),0) λo H=>H.res rfl _ 0 true k
end
open Go.RX D
theorem Sm {ws:List Int} {p t:Int} {x:Int×Int×FT} (h:0<=x.2.1/\x.2.1<=3):(bG ws p t x).2.1= -1\/((bG ws p t x).2.1=x.2.1 - 1/\0<x.2.1):=by
 unfold bG;rw[au (by omega)];split
 ·exact .inl rfl
 ·exact IC h
section
variable {Q:Sys} {X:HX} {D G:List Nat} {w0 w w1:A2} {B:MB} {R:MR} {s:MS} {T L:List (Nat×List AC)} {M:List (Nat×BJ)} {i:Nat} {x:bZ} {g:Option Bool}
theorem iq.walk (H:iq Q X D G w0 w B s T L M) (d:s.cs[i]? =some x) (q:x.ph=2): ∃(bk:Nat) (s2:Option Ad×Nat×Nat) (e:List (Nat×List AC)) (xs:List Int) (m:List (Nat×List AC)) (n:List (Nat×BJ)) (ca la:Int),(B.A i).wp=some ⟨bk,0,none⟩/\Bw e s2 xs/\(xs.length:Int)<=3 - x.wk.2.1/\ye s.h.s/\
 cM D G w0 w ((bk,lF x.wk.1 (x.c.2.1 / 16) (a9 x.c.1) x.wk.2.1 x.wk.2.2 s2)::(Q.bm,iP Q.bw s.h.s.1.length Q.c ca la)::(Q.bw,flat eW s.h.s.1++Q.rw)::(e++m)) n/\
 ∀{wC:Int×Int×FT} {s3:Option Ad×Nat×Nat} {b:List (Nat×List AC)} {f:List Int} {pP Ai:Int} {w':A2},Bw b s3 f->(f.length:Int)<=3 - wC.2.1->
  cM D G w0 w' ((bk,lF wC.1 (x.c.2.1 / 16) (a9 x.c.1) wC.2.1 wC.2.2 s3)::(Q.bm,iP Q.bw s.h.s.1.length Q.c pP Ai)::(Q.bw,flat eW s.h.s.1++Q.rw)::(b++m)) n->MU Q X D G w0 w' B.rt (cD s i {x with wk:=wC}) T L M:=by
 obtain⟨A,ca,la,h1,o,k,r⟩:=H;obtain⟨bk,s2,e,xs,p,t,u,l⟩:=(k.a d).wk q;have v:=lz (B:=B) d;refine⟨bk,s2,e,xs,((B.A i).cb,jY (B.A i) i x)::((B.A i).tb,dx (B.A i).st s.sz)::((B.A i).Lt++((B.A i).Lf++(T++(HD X B s++(gZ B s ((Ae s.cs.length).erase i)++((Q.bf,flat eD s.h.s.2++Q.rf)::(Q.bp,[.slice (ae Q.bf) s.h.s.2.length Q.cp])::(dV Q X A s.h (a8 Q A s.h.g (Ae 17))++L))))))), _,ca,la,p,u,l,o,r.perm ?_,λ{wC s3 b f pP Ai w'} z C K=>?_⟩
 ·refine Hq ?_ (CP T (CP _ (FS _ v.symm)));unfold uk;rw[t];exact cw λy=>by simp only[Sys.L,Av,B1];omega
 ·refine⟨CM B i {B.A i with Lw:=(bk,lF wC.1 (x.c.2.1 / 16) (a9 x.c.1) wC.2.1 wC.2.2 s3)::b},WV rfl rfl,A,pP,Ai,h1,o,k.up d rfl ⟨(k.a d).ls,(k.a d).fs,λ_=>⟨bk,s3,b,f,p,rfl,z,C⟩⟩,K.perm ?_⟩;generalize E:({B.A i with Lw:=(bk,lF wC.1 (x.c.2.1 / 16) (a9 x.c.1) wC.2.1 wC.2.2 s3)::b}:CA)=a;have F:(cD s i {x with wk:=wC}).cs[i]? =some {x with wk:=wC}:=e9 d;have l:(cD s i {x with wk:=wC}).cs.length=s.cs.length:=CH ..;have:=lz (B:=CM B i a) F;rw[mR,l,zp (s:=s) (s':=cD s i {x with wk:=wC}) rfl λj I=>(show(s.cs.set i {x with wk:=wC})[j]? =s.cs[j]? from Bp (λc=>I c.symm))] at this;rw[l];refine(CP T (CP _ (FS _ this))).trans ?_;subst E;show(T++(HD X B s++(uk {B.A i with Lw:=(bk,lF wC.1 (x.c.2.1 / 16) (a9 x.c.1) wC.2.1 wC.2.2 s3)::b} i {x with wk:=wC} s.sz++gZ B s ((Ae s.cs.length).erase i)++(Fg Q X A pP Ai s.h++L)))).Perm _;unfold uk;show(T++(HD X B s++(((B.A i).cb,jY (B.A i) i x)::((B.A i).tb,dx (B.A i).st s.sz)::((B.A i).Lt++((B.A i).Lf++((bk,lF wC.1 (x.c.2.1 / 16) (a9 x.c.1) wC.2.1 wC.2.2 s3)::b)))++gZ B s ((Ae s.cs.length).erase i)++(Fg Q X A pP Ai s.h++L)))).Perm _;exact cw λy=>by simp only[Sys.L,Av,B1];omega
theorem MU.rd (H:MU Q X D G w0 w R s T L M) (i:Nat) {el:El} {b n:Nat} {l:List AC} {x:el.T} (a:T[i]? =some (b,l)) (hv:lI l n el=some x):cP w (ad (ae b) n) el x:=by
 obtain⟨z,h,e⟩:=H.cI (g:=none) (K:=λz=>z=x) i a hv rfl;subst e;exact h
theorem MU.wp (H:MU Q X D G w0 w R s T L M) (a:s.cs[i]? =some x) (b:x.ph=2): ∃(bk:Nat) (s2:Option Ad×Nat×Nat) (L0:List (Nat×List AC)),aJ D G w0 w L0/\(bk,lF x.wk.1 (x.c.2.1 / 16) (a9 x.c.1) x.wk.2.1 x.wk.2.2 s2)∈L0/\ ∀{g:Option Bool} {K:Option Ad->Prop},K (ae bk)->aj w g (ad (some ⟨R.cb i,0,none⟩) 8) (.one .ptr) K:=by
 obtain⟨B,rfl,H⟩:=H;obtain⟨bk,s2,e,xs,f,h,ca,la,d, _, _, _,K, _⟩:=H.walk a b;exact⟨bk,s2, _,K.base,BL,λk=>H.XL a (n:=8) (show _=some (B.A i).wp from rfl) (by rw[d];exact k)⟩
theorem Sn (H:MU Q X D G w0 w R s T L M) (f:s.cs[i]? =some x) (g:(x.ls.length:Int)<=s.sz) (h:0<s.sz/\s.sz<=64) (l:LT) (j:ZU l=true) {K:Int->A2->Prop}
 (k: ∀b,MU Q X D G w0 b R (cD s i {x with ls:=qJ x.ls s.sz l}) T L M->K 0 b):
 aD Ab 159 (.el (.one (.int .i64))) [ag (some ⟨R.tb i,0,none⟩),lnV l] w K:=by
 obtain⟨a,c,m,q,hb,W,n,J⟩:=H.CZ f;have d:cM D G w0 w ((R.tb i,dx a.st s.sz)::(a.Lt++((a.cb,jY a i x)::(a.Lf++(a.Lw++(T++c)))))) m:=n.perm (cw λy=>by rw[<-hb];simp only[uk,Av,B1];omega);refine λw1 h1=>Pz (d.ext h1).base.again W.ls g h l j (λs' e b o p=>k b (J (a':={a with st:=s',Lt:=e}) rfl rfl ⟨o,W.fs,W.wk⟩ (((d.ext h1).join p).perm (cw λy=>?_)))) w1 (Ext.refl w1);show Bs y ((a.cb,jY a i x)::(a.tb,dx s' s.sz)::(e++(a.Lf++a.Lw))++(T++c))= _;rw[<-hb];simp only[Av,B1];omega
theorem So (H:MU Q X D G w0 w R s T L M) (o:s.cs[i]? =some x) (u:x.ph=2) (V:0<=x.wk.2.1/\x.wk.2.1<=3) (W:dh x.c.2.1) (hc:i<s.ep.pins.length) (Y:(x.ls.length:Int)<=s.sz) (Z:0<s.sz/\s.sz<=64)
 (E:(bG s.h.s.1 (x.c.2.1 / 16) (a9 x.c.1) x.wk).2.1= -1->(bG s.h.s.1 (x.c.2.1 / 16) (a9 x.c.1) x.wk).2.2.2.2.2.1=0->ZU (x.vm,x.c.2.1 / 16,(bG s.h.s.1 (x.c.2.1 / 16) (a9 x.c.1) x.wk).2.2.1,(bG s.h.s.1 (x.c.2.1 / 16) (a9 x.c.1) x.wk).2.2.2.1,())=true) {K:BA->A2->Prop}
 (k: ∀r,MU Q X D G w0 r R (k_ s i x).1 T L M->K ((0,(k_ s i x).2.1.2,()),(k_ s i x).2.2,()) r):
 aD Ab 111 Ng [ag (ae R.mb),ag (some ⟨R.cb i,0,none⟩)] w K:=by
 refine H.go λw1 H=>aQ (C:=U2) (aT:=λ_=>[]) (B5 (RG _ _ w1 K) (H.al λb r H=>?_));unfold k_ at k;generalize F:bG s.h.s.1 (x.c.2.1 / 16) (a9 x.c.1) x.wk=wv at*
 have I:=Sm (ws:=s.h.s.1) (p:=x.c.2.1 / 16) (t:=a9 x.c.1) V;rw[F] at I;obtain⟨wf,wl,zI,d,j,f,⟨⟩⟩:=wv;dsimp only at k E I;obtain⟨B,rfl,m⟩:=H;refine⟨rfl,rfl,m.XL o (n:=8) (show _=some (B.A i).wp from rfl) ⟨rfl,rfl,m.sa (show _=some (ae X.hb) from rfl) ?_⟩⟩;obtain⟨A,G',L0,S,hk, _, _, _, _,J⟩:=m.sat;refine zj S hk λN S=>?_;have m:iq Q X D G w0 N B s ((b,[ay 0,aa 0])::T) L M:=J (T':=[]) S;have mE:cP N (ad (some ⟨(B.A i).cb,0,none⟩) 8) (.one .ptr) (B.A i).wp:=by
  obtain⟨z,h,e⟩:=m.XL (g:=none) (el:= .one .ptr) (K:=λz=>z=(B.A i).wp) o (n:=8) (show _=some (B.A i).wp from rfl) rfl;subst e;exact h
 refine⟨mE,trivial,trivial,?_⟩;obtain⟨bk,s2,Lq,xs,R',Mo,ca,la,e1,hp,Z0,O,P,J⟩:=m.walk o u;rw[e1];refine DM P.base.again hp (by omega) rfl O.1 O.2.2.2 (by omega) λw4 cN s3 oo q=>?_;have hw':bG s.h.s.1 (x.c.2.1 / 16) (a9 x.c.1) (x.wk.1,x.wk.2.1,x.wk.2.2)=(wf,wl,zI,d,j,f,()):=F;rw[hw'] at q ⊢;have H:=J (wC:=(wf,wl,zI,d,j,f,())) oo (by rw[GS,HM];dsimp only;omega) (P.join q);have l:=e9 (y:={x with wk:=(wf,wl,zI,d,j,f,())}) o;refine ab (λc=>?_) (λc=>?_)
 ·have c:wl≠ -1:=by simpa using c
  rw[az c] at k;exact H.res rfl 0 0 false k
 ·have c:wl= -1:=by simpa using c
  subst c;rw[au (by decide)] at k;obtain⟨bk',s2',L2,q,hm,Xg⟩:=H.wp l u;have X7:ah Ab 24 [ag (ae bk')] w4 ((Sh.bu [.agg sF,.one .bool]).gR ((zI,d,j,f,()),true,())):=ah.of λw5 h5=>Ur ((q.ext h5).dp _ hm);refine⟨rfl,rfl,Xg ⟨((zI,d,j,f,()),true,()),X7,H.al λb1 w5 H=>H.st 0 rfl rfl rfl λw6 H=>⟨rfl,H.cI 0 rfl (show _=some f from rfl) ?_⟩⟩⟩;refine ab (λc=>?_) (λc=>?_)
  ·have c:f≠0:=by simpa using c
   rw[az c] at k;refine⟨rfl,rfl,H.f1 ⟨rfl,rfl,H.cf l (n:=0) (λ_=>rfl) (Bl H hc λv w7 H=>⟨rfl,H.cI 0 rfl (show _=some f from rfl) ?_⟩)⟩⟩;exact MU.res (H.sub (B3 _ _)) rfl 0 f true k
  ·have c:f=0:=by simpa using c
   rw[au (by rw[c];decide)] at k;have Ah:=Ji H l W;refine⟨rfl,rfl,H.c1 l ⟨rfl,rfl,H.cf l (n:=3) (λ_=>rfl) ⟨x.c.2.1 / 16,Ah,rfl,H.cI 0 rfl (show _=some zI from rfl) ⟨rfl,H.cI 0 rfl (show _=some d from rfl) ?_⟩⟩⟩⟩;refine Sn H l Y Z (x.vm,x.c.2.1 / 16,zI,d,()) (E rfl c) λw7 H=>⟨rfl,H.cI 0 rfl (show _=some zI from rfl) ?_⟩;have U:=e9 (y:={x with wk:=(wf,-1,zI,d,j,f,()),ls:=qJ x.ls s.sz (x.vm,x.c.2.1 / 16,zI,d,())}) l;refine⟨rfl,rfl,H.cs U {x with wk:=(wf,-1,zI,d,j,f,()),ls:=qJ x.ls s.sz (x.vm,x.c.2.1 / 16,zI,d,()),ph:=3} 2 rfl rfl (λ_=>rfl) (λa h=>⟨h.ls,h.fs,λc=>(by cases c)⟩) λw8 H=>⟨H.rd 0 rfl (show _=some zI from rfl),trivial,rfl,rfl,?_⟩⟩;have JE:=e9 (y:={x with wk:=(wf,-1,zI,d,j,f,()),ls:=qJ x.ls s.sz (x.vm,x.c.2.1 / 16,zI,d,()),ph:=3}) U;refine H.cs JE {x with wk:=(wf,-1,zI,d,j,f,()),ls:=qJ x.ls s.sz (x.vm,x.c.2.1 / 16,zI,d,()),ph:=3,fr:=zI} 9 rfl rfl (λ_=>rfl) (λa h=>⟨h.ls,h.fs,λc=>(by cases c)⟩) λw9 H=>?_;simp only[kM] at H;exact MU.res (H.sub (B3 _ _)) rfl 0 0 false k
end
theorem Sp (ls:List LT) (t p w:Int):xQ ls t p w=((mL ls t p w).1,(mL ls t p w).2,()):=by
 show xQ ls t p w= _;unfold xQ mL;rw[show(λx=>l7 x t p)=BR t p from rfl];cases ls.find? (BR t p) with
 |none=>rfl
 |some l=>
  dsimp only;split<;>rfl
def Di (s:MS) (n:Nat) (x:bZ) (i:Nat):Bool:=match s.cs[i]? with
 |none=>false
 |some y=>decide (i≠n/\x.vm=0)&&((x.c.1==1&&(y.ph==4&&y.c.1==2))||(x.c.1==2&&(decide (y.ph>=2)&&(decide (y.vm>0)&&y.vm==x.c.2.1))))
section
variable {Q:Sys} {X:HX} {D G:List Nat} {w0 w w1:A2} {B:MB} {R:MR} {s:MS} {T L:List (Nat×List AC)} {M:List (Nat×BJ)} {i:Nat} {x:bZ} {g:Option Bool}
theorem MU.cbk (H:MU Q X D G w0 w R s T L M) (b:s.cs[i]? =some x): ∃l,bM w (R.cb i) l:=by
 obtain⟨a,e,f,c,hb,W,d,J⟩:=H.CZ b;rw[<-c];exact⟨_,d.base.dp _ BL⟩
theorem MU.cne (H:MU Q X D G w0 w R s T L M) (c:s.cs[i]? =some x) {j:Nat} {y:bZ} (b:s.cs[j]? =some y) (d:j≠i):R.cb j≠R.cb i:=by
 obtain⟨B,rfl,A,ca,la,h1,m,n,f⟩:=H;have g:=lz (B:=B) c;have k:=f.perm (L':=uk (B.A i) i x s.sz++(T++(HD X B s++(gZ B s ((Ae s.cs.length).erase i)++(Fg Q X A ca la s.h++L))))) (by
  refine Hq ?_ (CP T (CP _ (FS _ g.symm)));exact cw λa=>by simp only[Av,B1];omega)
 have nd:=k.base.nd;have l:((B.A j).cb,jY (B.A j) j y)∈gZ B s ((Ae s.cs.length).erase i):=by
  unfold gZ;refine HB.2 ⟨j,?_,by rw[b];exact BL⟩;rw[J3.mem_erase_iff];exact⟨d,Bz.2 (B2.1 b).1⟩
 intro e;have e:(B.A j).cb=(B.A i).cb:=e;unfold uk at nd;rw[List.cons_append,List.map_cons,Fs] at nd;refine nd.1 (BK.2 ⟨((B.A j).cb,jY (B.A j) j y),?_,e⟩);exact BO _ (BO _ (BO _ (Bx _ l)))
theorem MU.f3 (H:MU Q X D G w0 w R s T L M): ∃sc:Option Ad×Nat×Nat,sc.2.1=s.cs.length/\(∀{g:Option Bool} {K:Option Ad×Nat×Nat->Prop},K sc->aj w g (ad (ae R.mb) 3) (.one .slice) K)/\ ∀{w1},Ext w w1-> ∀i,i<s.cs.length->sc.1.isSome=true/\cP w1 (ad sc.1 (i*1)) (.one .ptr) (some ⟨R.cb i,0,none⟩):=by
 obtain⟨B,rfl,H⟩:=H;have W:=H.wf;refine⟨B.sc,by rw[W.c.1,Db,EY],λk=>H.sa (show _=some (B.sc.1,B.sc.2.1,B.sc.2.2) from rfl) k,λh1 i hi=>?_⟩;obtain⟨d,e,K,a, _, _, _⟩:=(H.ext h1).tmp;exact W.c.sl K.base (λy b=>BO _ (a _ (B4 _ (B4 _ (B4 _ (Bx _ b)))))) i (some ⟨(B.A i).cb,0,none⟩) (by rw[Dl,JD hi];rfl)
theorem Hi (H:MU Q X D G w0 w R s T L M) (h:s.cs[i]? =some x) (P:s.cs.length<=8) (hv: ∀y∈s.cs,y.vm<9223372036854775808):ah Ab 154 [ag (ae R.mb),ag (some ⟨R.cb i,0,none⟩)] w (.bool (qA s i x)):=by
 refine ah.of (s:= .el (.one .bool)) λw1 h1=>ai (C:=U2) (aT:=oh) (B5 (EJ _ _ w1 _) ?_);have H:=H.ext h1;have r:qA s i x=(Ae s.cs.length).any (Di s i x):=rfl;obtain⟨sc,z,A,B⟩:=H.f3;refine⟨rfl,rfl,A ?_⟩;rw[z];refine⟨λn st l=> ∃j:Nat,j<=s.cs.length/\n=s.cs.length - j/\st.1=(j:Int)/\(∀k,k<j->Di s i x k=false)/\Ext w1 l,⟨s.cs.length,λl g=>⟨0,Ff _,rfl,rfl,λk o=>absurd o (M4 k),g⟩⟩,?_⟩;rintro n ⟨E, _⟩ l ⟨j,p,F,hi,t,g⟩;have hi:E=(j:Int):=hi;subst hi F;dsimp only;have H:=H.ext g;refine ab (λc=>?_) (λc f m=>⟨?_,Ext.trans g m⟩)
 ·have p:j<s.cs.length:=by have:=of_decide_eq_true c;omega
  obtain⟨y,d⟩: ∃y,s.cs[j]? =some y:=⟨_,CX p⟩;have S:=hv y (C6 d);have u:=B g j p;have hb:Di s i x j=(decide (j≠i/\x.vm=0)&&((x.c.1==1&&(y.ph==4&&y.c.1==2))||(x.c.1==2&&(decide (y.ph>=2)&&(decide (y.vm>0)&&y.vm==x.c.2.1))))):=by
   unfold Di;rw[d]
  have next:Di s i x j=false-> ∀f,Ext l f-> ∃v:Nat,v<s.cs.length - j/\ ∃q:Nat,q<=s.cs.length/\v=s.cs.length - q/\aB .i64 (j:Int) 1=(q:Int)/\(∀k,k<q->Di s i x k=false)/\Ext w1 f:=λhb f m=>by
   refine⟨s.cs.length - (j+1),by omega,j+1,by omega,rfl,?_,λk o=>?_,Ext.trans g m⟩
   ·rw[ax (by omega) (by omega)];omega
   ·by_cases e:k=j
    ·subst e;exact hb
    ·exact t k (by omega)
  have yes:Di s i x j=true-> ∀f,Ext l f->true=qA s i x/\Ext w1 f:=λhb f m=>⟨by
   rw[r];exact(EU.2 ⟨j,Bz.2 p,hb⟩).symm,Ext.trans g m⟩
  have I:decide ((some ⟨R.cb j,0,none⟩:Option Ad)=some ⟨R.cb i,0,none⟩)=decide (j=i):=by
   by_cases e:j=i
   ·subst e;simp
   ·have:=H.cne h d e;rw[decide_eq_false e,decide_eq_false_iff_not];intro c;exact this (congrArg Addr.block (Option.some.inj c))
  refine⟨⟨u.1,by omega,by omega⟩,aj.of (some ⟨R.cb j,0,none⟩) (by rw[C7];exact u.2) ⟨?_,λ_=>rfl,λ_=>rfl,H.cf h (n:=3) (λ_=>rfl) ?_⟩⟩
  ·intro a b J hb _;cases J;cases hb;obtain⟨U,t1,K⟩:=H.cbk d;obtain⟨V,t2,N⟩:=H.cbk h;exact⟨⟨_, _,K⟩,⟨_, _,N⟩⟩
  ·rw[I];refine ab (λc=>next ?_) (λc=>?_)
   ·rw[hb,Bool.and_eq_false_iff];left;simp only[Ga,decide_eq_true_eq,bne_iff_ne] at c;rw[decide_eq_false_iff_not];rintro⟨c1,c2⟩;rcases c with c|c
    ·exact c1 c
    ·exact c c2
   ·have c0:j≠i/\x.vm=0:=by simpa using c
    rw[decide_eq_true c0,Bool.true_and] at hb;refine⟨rfl,rfl,rfl,H.cf h (n:=4) (λ_=>rfl) ⟨λ_=>rfl,λ_=>rfl,H.cf d (n:=2) (λ_=>rfl) ⟨λ_=>rfl,λ_=>rfl,λ_=>rfl,H.cf d (n:=4) (λ_=>rfl) ?_⟩⟩⟩;refine ab (λc=>yes ?_) (λc1=>?_)
    ·rw[hb,Ga];left;rw[<-Gd];exact c
    ·refine⟨rfl,rfl,rfl,H.cf h (n:=4) (λ_=>rfl) ⟨λ_=>rfl,λ_=>rfl,H.cf d (n:=2) (λ_=>rfl) ⟨λ_=>rfl,λ_=>rfl,H.cf d (n:=3) (λ_=>rfl) ⟨λ_=>rfl,λ_=>rfl,H.cf d (n:=3) (λ_=>rfl) ⟨λ_=>rfl,λ_=>rfl,λ_=>rfl,H.cf h (n:=5) (λ_=>rfl) ?_⟩⟩⟩⟩⟩;have e:(x.c.1==2&&decide (y.ph>=2)&&decide (y.vm>0)&&aw .u64 y.vm==x.c.2.1)=Di s i x j:=by
      rw[hb];rw[show(x.c.1==1&&(y.ph==4&&y.c.1==2))=false from by rw[<-Gd];exact c1,Hr];by_cases O:y.vm>0
      ·rw[dS (by omega)];simp only[Gd]
      ·rw[decide_eq_false O];simp
     rw[e];exact ab (λc=>yes c) (λc=>next c)
 ·have:j=s.cs.length:=by have:=of_decide_eq_false c;omega
  subst this;rw[r];symm;rw[H7];intro k o;rw[t k (Bz.1 o)];decide
theorem Sq (H:MU Q X D G w0 w R s T L M) (b:s.cs[i]? =some x) (u:0<=s.ep.now) (hc:i<s.ep.pins.length) (z:(x.ls.length:Int)<=64) (B:0<s.sz) (m:dh x.c.2.1) (E:uw (a6 s.h.g x.vm) (x.c.2.1 / 16) (a9 x.c.1)=false) (F:l_ s.h x=true) {K:Unit->A2->Prop}
 (k: ∀d,MU Q X D G w0 d R (dy s i x).1 T L M->K () d):
 aD Ab 153 (.bu []) [ag (ae R.mb),ag (some ⟨R.cb i,0,none⟩)] w K:=by
 unfold dy at k;rw[az F] at k;refine H.go λw1 H=>ai (C:=U2) (aT:=λ_=>[]) (B5 (RI _ _ w1 K) ⟨rfl,rfl,H.f1 ⟨rfl,rfl,H.cf b (n:=0) (λ_=>rfl) (VN H u hc λv d H=>?_)⟩⟩);have I:ah Ab 201 [ag (some ⟨R.tb i,0,none⟩),aa x.vm,aa (x.c.2.1 / 16),aa (a9 x.c.1)] d ((Sh.bu [.one (.int .i64),.one (.int .i64)]).gR ((mL x.ls x.vm (x.c.2.1 / 16) (a9 x.c.1)).1,(mL x.ls x.vm (x.c.2.1 / 16) (a9 x.c.1)).2,())):=by
  rw[<-Sp];obtain⟨a,e,o,m,hb,W,f,J⟩:=H.CZ b;have j:cM D G w0 d ((R.tb i,dx a.st s.sz)::(a.Lt++((a.cb,jY a i x)::(a.Lf++(a.Lw++(T++e)))))) o:=f.perm (cw λy=>by rw[<-hb];simp only[uk,Av,B1];omega);exact Ub j.base W.ls z B _ _ _
 have p:=Ji H b m;have q:=Jj H b;refine⟨rfl,rfl,H.c1 b ⟨rfl,rfl,H.cf b (n:=3) (λ_=>rfl) ⟨_,p, _,q, _,I,?_⟩⟩⟩;dsimp only at k ⊢;refine ab (λc=>?_) (λc=>?_)
 ·have c:(mL x.ls x.vm (x.c.2.1 / 16) (a9 x.c.1)).2=0:=by simpa using c
  rw[az c] at k;refine⟨rfl,rfl,H.cs b {x with ph:=3} 2 rfl rfl (λ_=>rfl) (λa h=>⟨h.ls,h.fs,λc=>(by cases c)⟩) λl H=>⟨rfl,rfl,?_⟩⟩;refine H.cs (e9 b) {x with ph:=3,fr:=(mL x.ls x.vm (x.c.2.1 / 16) (a9 x.c.1)).1} 9 rfl rfl (λ_=>rfl) (λa h=>⟨h.ls,h.fs,λc=>(by cases c)⟩) λN H=>H.en λr H=>?_;rw[kM] at H;exact k r H
 ·have c:(mL x.ls x.vm (x.c.2.1 / 16) (a9 x.c.1)).2≠0:=by simpa using c
  rw[au c] at k;have O:ah Ab 21 [ag (ae X.hb),aa x.vm] d (aa (a6 s.h.g x.vm)):=by
   obtain⟨A,G',L0,S,P,U, _⟩:=H.sat;exact IQ S P U x.vm
  refine⟨rfl,rfl,H.f0 ⟨rfl,rfl,H.cf b (n:=3) (λ_=>rfl) ⟨_,O, _,p, _,q,?_⟩⟩⟩;obtain⟨a,e,o,V,hb,W,f,J⟩:=H.CZ b;refine λl t=>Ix (f.ext t).base.again _ _ _ (λhb=>by rw[E] at hb;cases hb) (λ_ bk N j=>?_) l (Ext.refl l);have Y:=(f.ext t).join j;rw[<-V];refine⟨rfl,rfl,We (n:=2) (Y.perm (L':=(a.cb,jY a i x)::(a.tb,dx a.st s.sz)::(a.Lt++(a.Lf++(a.Lw++((bk,lF (a6 s.h.g x.vm) (x.c.2.1 / 16) (a9 x.c.1) 3 (0,0,0,0,()) (none,0,0))::(T++e)))))) (cw λy=>by simp only[uk,Av,B1];omega)) 0 rfl rfl rfl λr Z=>⟨rfl,rfl,We (n:=8) Z 0 rfl rfl rfl λw6 K5=>enM K5 λw7 K6=>k w7 ?_⟩⟩;have K7:=(K6.perm (L':=a.Lw++((a.cb,((jY a i x).set 2 (aa 2)).set 8 (ag (ae bk)))::(a.tb,dx a.st s.sz)::(a.Lt++(a.Lf++((bk,lF (a6 s.h.g x.vm) (x.c.2.1 / 16) (a9 x.c.1) 3 (0,0,0,0,()) (none,0,0))::(T++e)))))) (cw λy=>by simp only[E6,Av,B1];omega)).sub (E5 _ _);refine J (a':={a with wp:=some ⟨bk,0,none⟩,Lw:=[(bk,lF (a6 s.h.g x.vm) (x.c.2.1 / 16) (a9 x.c.1) 3 (0,0,0,0,()) (none,0,0))]}) (x':={x with ph:=2,wk:=lG s.h.s.1 (a6 s.h.g x.vm) (x.c.2.1 / 16) (a9 x.c.1) 0}) rfl rfl ⟨W.ls,W.fs,λ_=>⟨bk,(none,0,0),[],[],rfl,rfl,.inl ⟨rfl,rfl,rfl⟩,by show((0:Nat):Int)<=3 - 3;decide⟩⟩ (K7.perm (cw λy=>?_));show Bs y ((a.cb,((jY a i x).set 2 (aa 2)).set 8 (ag (ae bk)))::(a.tb,dx a.st s.sz)::(a.Lt++(a.Lf++[(bk,lF (a6 s.h.g x.vm) (x.c.2.1 / 16) (a9 x.c.1) 3 (0,0,0,0,()) (none,0,0))]))++(T++e))= _;simp only[Av,B1,F0];omega
end
theorem _root_.Go.Proofs.YtlcenllcmeebhaaGreat.iQ.perm {es:List DA} {ck:Nat} {a b:List KV} (h:iQ es ck a) (c:b.Perm a):iQ es ck b:=by
 obtain⟨⟨p,h1,d⟩,e,f,g⟩:=h;exact⟨⟨p,h1.trans c.symm,d⟩,e,f,(c.map _).nodup_iff.2 g⟩
def sH (kn:List Int) (ds:List DT) (n:Nat):List Int:=((Ae n).map λ(f:Nat)=>(f:Int)).filter λf=>(qp ds f).1==5&& !kn.contains f
theorem Mq (kn:List Int) (ds:List DT) (n:Nat):sH kn ds (n+1)=sH kn ds n++(if((qp ds (n:Int)).1==5&& !kn.contains (n:Int))=true then[(n:Int)] else[]):=by
 unfold sH;rw[HZ,Fx,List.filter_append];congr 1;show List.filter _ [(n:Int)]= _;rw[List.filter_cons,List.filter_nil]
theorem VO {kn:List Int} {ds:List DT} {n:Nat} {f:Int} (h:f∈sH kn ds n):0<=f/\f<(n:Int):=by
 obtain⟨m,a,rfl⟩:=BK.1 (In.1 h).1;have:=Bz.1 a;omega
theorem Sr (kn:List Int) (ds:List DT) (n:Nat):(sH kn ds n).length<=n:=by
 refine Ht (HG _ _) ?_;rw[Db,EY];exact E9 _
section
variable {Q:Sys} {X:HX} {D G:List Nat} {w0 w w1:A2} {B:MB} {R:MR} {s:MS} {T L:List (Nat×List AC)} {M:List (Nat×BJ)} {i:Nat} {x:bZ} {g:Option Bool}
theorem MU.tmp (H:MU Q X D G w0 w R s T L M): ∃a b,cM D G w0 w (T++a) b/\ ∀{T' w'},cM D G w0 w' (T'++a) b->MU Q X D G w0 w' R s T' L M:=by
 obtain⟨B,e,H⟩:=H;obtain⟨a,b,K, _, _, _,J⟩:=H.tmp;exact⟨a,b,K,λK=>⟨B,e,J K⟩⟩
theorem MU.look (H:MU Q X D G w0 w R s T L M) (f:Int):jP w (some R.kb) .i64 f (.bool false) (.bool (s.kn.contains f)):=by
 obtain⟨B,rfl,H⟩:=H;obtain⟨j,l,a,J⟩:=H.kns;by_cases c:f∈s.kn
 ·obtain⟨i,b, _⟩:=H.wf.k.Fa (BK.2 ⟨f,c,rfl⟩);exact uZ (a.get (i:=0) rfl) b (by rw[FF.2 c])
 ·refine Bk (a.get (i:=0) rfl) (H.wf.k.Nw λt d e=>?_) (by rw[Gi.2 λh=>c (FF.1 h)]);obtain⟨y,g,rfl⟩:=BK.1 d;exact c (by rw[<-e];exact g)
theorem MU.ins (H:MU Q X D G w0 w R s T L M) {f:Int} (c:f∉s.kn) {K:A2->Prop} (k: ∀a,MU Q X D G w0 a R {s with kn:=s.kn++[f]} T L M->K a):
 ∃(r:Nat) (es:Array DA) (b:Nat),some R.kb=some r/\bE w r es b/\gS w r .i64 f (.bool true) es b K:=by
 obtain⟨B,rfl,H⟩:=H;obtain⟨n,o,d,J⟩:=H.kns;have g: ∀t∈s.kn.map (λf=>((f,.bool true):KV)),t.1≠f:=λt h e=>by
  obtain⟨y,j,rfl⟩:=BK.1 h;exact c (by rw[<-e];exact j)
 refine⟨B.kb,⟨B.ke⟩,B.kk,rfl,d.get (i:=0) rfl,wZ (H.wf.k.Nw g) ?_⟩;have l:=d.put (i:=0) rfl (o':= .map ⟨B.ke++[{key:=aa f,val:= .bool true,born:=B.kk}]⟩ (B.kk+1)) trivial;have m:(Array.mk B.ke).push {key:=aa f,val:= .bool true,born:=B.kk}=⟨B.ke++[{key:=aa f,val:= .bool true,born:=B.kk}]⟩:=by apply Array.ext';simp
 rw[m];refine k _ ⟨{B with ke:=B.ke++[{key:=aa f,val:= .bool true,born:=B.kk}],kk:=B.kk+1},rfl,J (kn:=s.kn++[f]) ((H.wf.k.push _ g).perm ?_) l⟩;rw[Fx];exact List.perm_append_singleton _ _
theorem EL (H:MU Q X D G w0 w R s T L M) (x:s.h.s.2.length<=4096) {K:Option Ad×Nat×Nat->A2->Prop}
 (k: ∀r d l,dU eI r (sH s.kn s.h.s.2 s.h.s.2.length) d->MU Q X D G w0 l R {s with kn:=s.kn++sH s.kn s.h.s.2 s.h.s.2.length} (d++T) L M->K r l):
 aD Ab 156 (.el (.one .slice)) [ag (ae R.mb)] w K:=by
 refine H.go λw1 H=>ai (C:=U2) (aT:=om) (B5 (EK _ w1 K) ⟨rfl,rfl,H.f0 ?_⟩);obtain⟨A,G',L0,S,z, _,J⟩:=H.sat;refine GU S z λe a g i l S=>?_;have H:MU Q X D G w0 l R s ((e,[.slice (ae a) s.h.s.2.length g])::(a,flat eD s.h.s.2++i)::T) L M:=J (T':=[_, _]) S;clear J S z;generalize O:s.h.s.2.length=N at*
 have P: ∀{B:A2} {s3:MS} {U:List (Nat×List AC)},MU Q X D G w0 B R s3 ((e,[.slice (ae a) N g])::(a,flat eD s.h.s.2++i)::U) L M-> ∀f:Int,ah Ab 25 [ag (ae e),aa f] B ((Sh.bu [eD,.one .bool]).gR (qp s.h.s.2 f,By s.h.s.2 f,())):=λH f=>by
  obtain⟨L0,p,q⟩:=H.base;subst O;exact ah.of λw' h'=>OF ((p.dp _ (q _ BL)).ext h') ((p.dp _ (q _ (B4 _ BL))).ext h') f
 have V:ah Ab 62 [ag (ae e)] l (aa (N:Int)):=by
  obtain⟨L0,p,q⟩:=H.base;exact ah.of (s:= .el (.one (.int .i64))) λw' h'=>rH ((p.dp _ (q _ BL)).ext h')
 refine⟨_,V,?_⟩;refine⟨λn st t=> ∃(j:Nat) (d:List (Nat×List AC)),j<=N/\n=N - j/\st.2.1=(j:Int)/\dU eI st.1 (sH s.kn s.h.s.2 j) d/\MU Q X D G w0 t R {s with kn:=s.kn++sH s.kn s.h.s.2 j} ((e,[.slice (ae a) N g])::(a,flat eD s.h.s.2++i)::(d++T)) L M,⟨N,λt x=>⟨0,[],Ff _,rfl,rfl,dU.nil eI,by
  have:sH s.kn s.h.s.2 0=[]:=rfl;rw[this,CV];exact H.ext x⟩⟩,?_⟩
 clear H;rintro n ⟨r,W, _⟩ t ⟨j,d,Y,Z,hi,m,H⟩;have hi:W=(j:Int):=hi;have m:dU eI r (sH s.kn s.h.s.2 j) d:=m;subst hi Z;dsimp only;refine ab (λc=>?_) (λc=>?_)
 ·have Y:j<N:=by have:=of_decide_eq_true c;omega
  have Aj:=Sr s.kn s.h.s.2 j;have hc:(s.kn++sH s.kn s.h.s.2 j).contains (j:Int)=s.kn.contains (j:Int):=by
   rw[Bool.eq_iff_iff,FF,FF,List.mem_append];refine⟨λh=>h.resolve_right λh=>?_,.inl⟩;have:=VO h;omega
  refine⟨_,P H (j:Int),H.al λb E H=>H.st 0 rfl rfl rfl λw6 H=>⟨rfl,H.cI 0 rfl (show _=some (qp s.h.s.2 (j:Int)).1 from rfl) ⟨λ_=>rfl,λ_=>rfl,H.f4 ⟨s.kn.contains (j:Int),λ_=>?_,?_⟩⟩⟩⟩
  ·have:=H.look (j:Int);rw[show(s.kn++sH s.kn s.h.s.2 j).contains (j:Int)=s.kn.contains (j:Int) from hc] at this;exact this
  ·have H:MU Q X D G w0 w6 R {s with kn:=s.kn++sH s.kn s.h.s.2 j} ((e,[.slice (ae a) N g])::(a,flat eD s.h.s.2++i)::(d++T)) L M:=H.sub (B3 _ _);have o:=Mq s.kn s.h.s.2 j;refine ab (λc=>⟨rfl,rfl,H.f4 λw7 u=>?_⟩) (λc w7 u=>⟨N - (j+1),by omega,j+1,d,by omega,rfl,?_,?_,?_⟩)
   ·rw[az c] at o;have W7:s.kn.contains (j:Int)=false:=by
     simp only[Do,Bool.not_eq_true'] at c;exact c.2
    refine(H.ext u).ins (f:=(j:Int)) (λh=>?_) λw8 H=>H.al λv w9 H l5 Hw=>?_
    ·rw[<-FF,hc,W7] at h;cases h
    ·have H:=H.ext Hw;obtain⟨R',Mo,F,J⟩:=H.tmp;have hb:bM l5 v (cellsOf eI (j:Int)):=F.base.dp _ BL;have K2:=F.perm (L':=d++((v,[aa (j:Int)])::(e,[.slice (ae a) N g])::(a,flat eD s.h.s.2++i)::(T++R'))) (cw λy=>by simp only[Av,B1];omega);refine Ho K2 m rfl (ys:=[(j:Int)]) rfl (rF hb) rfl rfl (by rw[HM];omega) λs' I mv fg K3 va Tb=>⟨N - (j+1),by omega,j+1,I,by omega,rfl,?_,?_,?_⟩
     ·rw[ax (by omega) (by omega)];omega
     ·rw[o];exact fg
     ·have H2:=J (T':=(v,[aa (j:Int)])::(e,[.slice (ae a) N g])::(a,flat eD s.h.s.2++i)::(I++T)) (K3.perm (cw λy=>by simp only[Av,B1];omega));rw[o, <-List.append_assoc];exact MU.ext (H2.sub (B3 _ _)) Tb
   ·rw[ax (by omega) (by omega)];omega
   ·rw[o,au (by rw[c];decide),CV];exact m
   ·rw[o,au (by rw[c];decide),CV];exact H.ext u
 ·have:j=N:=by have:=of_decide_eq_false c;omega
  subst this;exact H.en λE H=>k r d E m (H.sub ((List.Sublist.refl _).cons _ |>.cons _))
end
structure Bn (s:MS):Prop where
 c8:s.cs.length<=8
 pn:s.ep.pins.length=s.cs.length
 bn:s.bx.length=s.cs.length
 now:0<=s.ep.now/\s.ep.now<4611686018427387000
 ws:s.ep.ws.length<=1000000
 wn: ∀e∈s.ep.ws,0<=e.2/\e.2<=s.ep.now
 ms:s.ms.length<=900000000
 op:s.op.length<=900000000
 bl: ∀q∈s.bx,q.length<=16
 sz:0<s.sz/\s.sz<=64
 ls: ∀y∈s.cs,(y.ls.length:Int)<=s.sz
 vm: ∀y∈s.cs,y.vm<9223372036854775808
 cu: ∀y∈s.cs,dh y.c.2.1/\dh y.c.2.2.1/\dh y.c.2.2.2.1
section
variable {Q:Sys} {X:HX} {D G:List Nat} {w0 w w1:A2} {B:MB} {R:MR} {s:MS} {T L:List (Nat×List AC)} {M:List (Nat×BJ)} {i:Nat} {x:bZ} {g:Option Bool}
theorem MU.sys (H:MU Q X D G w0 w R s T L M):ye s.h.s:=by
 obtain⟨B,e,A,ca,la,h1,a,b⟩:=H;exact a
theorem Zz (H:MU Q X D G w0 w R s T L M) (g:BQ Q s.h) (v k:Int) {a b c:Int} (i:dh a) (hb:dh b) (hc:dh c) {K:Int×Int×Unit->A2->Prop}
 (kk: ∀d,MU Q X D G w0 d R {s with h:=kN s.h v k a b c} T L M->K (xF s.h v k a b c,sd s.h v k a b c,()) d):
 aD Ab 42 (.el (.agg iI)) [ag (ae X.hb),aa v,.agg ⟨fS k a b c⟩] w K:=λw1 h1=>by
 obtain⟨B,e,H⟩:=H.ext h1;obtain⟨j,L',f,J⟩:=H.hv;exact Zp f g v k i hb hc λd f=>kk d ⟨B,e,J f⟩
theorem Ss (H:MU Q X D G w0 w R s T L M) (hc:i<s.bx.length) (v:s.bx.length<=8) (x:s.op.length<=900000000) (c: ∀q∈s.bx,q.length<=16) (t p:Int) {K:Int×Int×Unit->A2->Prop}
 (k: ∀e a,MU Q X D G w0 a R {s with bx:=(dD s.bx s.op i t p).2.1,op:=(dD s.bx s.op i t p).2.2} T L M->K ((dD s.bx s.op i t p).1,e,()) a):
 aD Ab 157 (.bu [.one (.int .i64),.one (.int .i64)]) [ag (ae R.xb),aa (i:Int),aa t,aa p] w K:=by
 obtain⟨B,rfl,H⟩:=H;obtain⟨y,z,d,J⟩:=H.bxs;have W:=H.wf;have f:=W.l;refine Rx d W.b W.o W.l i (by omega) (by omega) (by omega) c t p λe g h j a m n r u=>k e a ⟨{B with so:=h,Lo:=j,cr:=g},rfl,J (op:=(dD s.bx s.op i t p).2.2) (bx:=(dD s.bx s.op i t p).2.1) r ?_ n u⟩;rw[m,f];unfold dD;split
 ·rfl
 ·split
  ·rfl
  ·simp
theorem ZA {b:List (Nat×List AC)} (H:MU Q X D G w0 w R s (b++T) L M) (d:s.cs[i]? =some x) {r:Option Ad×Nat×Nat} {l:List Int} (e:dU eI r l b) {K:A2->Prop}
 (k: ∀w1,MU Q X D G w0 w1 R (cD s i {x with fs:=l}) T L M->K w1):aC w (ad (some ⟨R.cb i,0,none⟩) 13) [.slice r.1 r.2.1 r.2.2] K:=by
 obtain⟨a,c,o,f,hb,W,g,J⟩:=H.CZ d;rw[<-f];refine We (n:=13) (g.perm (L':=(a.cb,jY a i x)::(a.tb,dx a.st s.sz)::(a.Lt++(a.Lw++(a.Lf++(b++(T++c)))))) (cw λy=>by simp only[uk,Av,B1];omega)) 0 rfl rfl rfl λh j=>k h ?_;have m:=(j.perm (L':=a.Lf++((a.cb,(jY a i x).set 13 (.slice r.1 r.2.1 r.2.2))::(a.tb,dx a.st s.sz)::(a.Lt++(a.Lw++(b++(T++c)))))) (cw λy=>by simp only[E6,Av,B1];omega)).sub (E5 _ _);refine J (a':={a with sf:=r,Lf:=b}) (x':={x with fs:=l}) rfl rfl ⟨W.ls,e,W.wk⟩ (m.perm (cw λy=>?_));show Bs y ((a.cb,(jY a i x).set 13 (.slice r.1 r.2.1 r.2.2))::(a.tb,dx a.st s.sz)::(a.Lt++(b++a.Lw))++(T++c))= _;simp only[Av,B1];omega
theorem Su {b:Nat} {l:List AC} (H:MU Q X D G w0 w R s ((b,l)::T) L M) (j:l.length=2) (A:s.cs.length<=8) (B:s.bx.length=s.cs.length) (m:s.op.length<=900000000) (o: ∀q∈s.bx,q.length<=16) (r:0<s.sz) (u:(x.ls.length:Int)<=64) (f:s.cs[i]? =some x) (t p:Int) {K:BA->A2->Prop}
 (k: ∀d,MU Q X D G w0 d R (cD {s with bx:=(dD s.bx s.op i t p).2.1,op:=(dD s.bx s.op i t p).2.2} i {x with ls:=jm x.ls t p,ak:=(dD s.bx s.op i t p).1,ph:=4}) T L M->K ((0,0,()),false,()) d):
 aD Ab 67 (.bu []) [ag (some ⟨R.cb i,0,none⟩),aa t,aa p] w λ_ d=>
  (some ⟨R.mb,0,none⟩:Option Ad).isSome=true/\(some ⟨R.mb,0,none⟩:Option Ad).isSome=true/\aj d none (ad (ae R.mb) 2) (.one .ptr) λ(x1:Option Ad)=>
  (some ⟨R.cb i,0,none⟩:Option Ad).isSome=true/\(some ⟨R.cb i,0,none⟩:Option Ad).isSome=true/\aj d none (ad (some ⟨R.cb i,0,none⟩) 0) (.one (.int .i64)) λ(v:Int)=>
  aD Ab 157 (.bu [.one (.int .i64),.one (.int .i64)]) [ag x1,aa v,aa t,aa p] d λ(y:Int×Int×Unit) d=>
  (some ⟨R.cb i,0,none⟩:Option Ad).isSome=true/\(some ⟨R.cb i,0,none⟩:Option Ad).isSome=true/\aC d (ad (some ⟨R.cb i,0,none⟩) 12) [aa y.1] λd=>
  (some ⟨R.cb i,0,none⟩:Option Ad).isSome=true/\(some ⟨R.cb i,0,none⟩:Option Ad).isSome=true/\aC d (ad (some ⟨R.cb i,0,none⟩) 2) [aa 4] λd=>
  aC d (ae b) [ay 0,aa 0] λd=>ao d λw1=>aj w1 none (ae b) (El.agg [.int .u64,.int .i64]) λ(x:Int×Int×Unit)=>K ((x.1,x.2.1,()),false,()) w1:=by
 have C:=(B2.1 f).1;refine zq H f u r t p λd H=>⟨rfl,rfl,H.f2 ⟨rfl,rfl,H.cf (e9 f) (n:=0) (λ_=>rfl) ?_⟩⟩;refine Ss H (show i<s.bx.length by omega) (show s.bx.length<=8 by omega) m o t p λe z H=>⟨rfl,rfl,?_⟩;have g:(cD {s with bx:=(dD s.bx s.op i t p).2.1,op:=(dD s.bx s.op i t p).2.2} i {x with ls:=jm x.ls t p}).cs[i]? =some {x with ls:=jm x.ls t p}:=e9 (s:={s with bx:=(dD s.bx s.op i t p).2.1,op:=(dD s.bx s.op i t p).2.2}) f;have H:MU Q X D G w0 z R (cD {s with bx:=(dD s.bx s.op i t p).2.1,op:=(dD s.bx s.op i t p).2.2} i {x with ls:=jm x.ls t p}) ((b,l)::T) L M:=H;refine H.cs g {x with ls:=jm x.ls t p,ak:=(dD s.bx s.op i t p).1} 12 rfl rfl (λ_=>rfl) (λa h=>⟨h.ls,h.fs,h.wk⟩) λE H=>⟨rfl,rfl,?_⟩;refine H.cs (e9 g) {x with ls:=jm x.ls t p,ak:=(dD s.bx s.op i t p).1,ph:=4} 2 rfl rfl (λ_=>rfl) (λa h=>⟨h.ls,h.fs,λc=>(by cases c)⟩) λF H=>?_;rw[kM,kM] at H;exact H.res j 0 0 false k
end
section
variable {Q:Sys} {X:HX} {D G:List Nat} {w0 w w1:A2} {B:MB} {R:MR} {s:MS} {T L:List (Nat×List AC)} {M:List (Nat×BJ)} {i:Nat} {x:bZ} {g:Option Bool}
theorem Ms (H:MU Q X D G w0 w R s T L M) (Bd:Bn s) (j:s.cs[i]? =some x) (W:BQ Q s.h) (Y:l_ s.h x=true->uw (a6 s.h.g x.vm) (x.c.2.1 / 16) (a9 x.c.1)=false) {K:BA->A2->Prop}
 (k: ∀d,MU Q X D G w0 d R (dy s i x).1 T L M->K (((dy s i x).2.1.1,(dy s i x).2.1.2,()),(dy s i x).2.2,()) d):
 aD Ab 110 Ng [ag (ae R.mb),ag (some ⟨R.cb i,0,none⟩)] w K:=by
 have F:=C6 j;have nX:=(B2.1 j).1;have S4:=Bd.ls x F;have I:=Bd.sz;have u:=Bd.cu x F;have J:=Bd.c8;have ER:=Bd.pn;refine H.go λw1 H=>aQ (C:=U2) (aT:=λ_=>[]) (B5 (L5 _ _ w1 K) (H.al λb d H=>⟨l_ s.h x,Mn H j,?_⟩));by_cases m:l_ s.h x=true
 ·have Z:(dy s i x).2=((0,0),false):=by
   unfold dy;rw[az m];dsimp only;split<;>rfl
  rw[Z] at k;exact aF m (Sq H j Bd.now.1 (by omega) (by omega) I.1 u.1 (Y m) m λN H=>H.res rfl 0 0 false k)
 refine an (Gi.2 m) ⟨qA s i x,Hi H j J Bd.vm,?_⟩;by_cases o:qA s i x=true
 ·have e:dy s i x=(s,(0,9),true):=by unfold dy;rw[au m,az o]
  rw[e] at k;exact aF o (H.res rfl 0 9 true k)
 refine an (Gi.2 o) ⟨rfl,rfl,H.cf j (n:=3) (λ_=>rfl) ⟨λ_=>rfl,λ_=>rfl,H.cf j (n:=4) (y:=x.c) (λ_=>rfl) ?_⟩⟩;have O:(x.vm==0&&(x.c.1==17&&(x.c.2.1==0&&(x.c.2.2.1==0&&(x.c.2.2.2.1==0&&true)))))=true<->(x.vm=0/\x.c=(17,0,0,0,())):=by
  obtain⟨k1,a1,b1,c1,⟨⟩⟩:=x.c;simp only[Do,beq_iff_eq,Prod.mk.injEq,and_true]
 by_cases v:x.vm=0/\x.c=(17,0,0,0,())
 ·have e:dy s i x=((dL s).1,((((dL s).2:Nat):Int),0),true):=by unfold dy;rw[au m,au o,az v]
  rw[e] at k;refine aF (O.2 v) (Ev H (by omega) Bd.now Bd.ws Bd.wn Bd.ms λN H=>?_);have hlen:(dL s).2<=s.ep.ws.length:=by
   unfold dL oy;rw[mV,Db];refine Ht (HG _ _) ?_;rw[uH];exact E9 _
  have zR:=Bd.ws;rw[dS (by omega)];exact H.res rfl _ 0 true k
 refine an (Gi.2 λc=>v (O.1 c)) ?_;have e:dy s i x=iD s i x:=by unfold dy;rw[au m,au o,au v]
 rw[e] at k;refine⟨rfl,rfl,H.f0 ⟨rfl,rfl,H.cf j (n:=3) (λ_=>rfl) ⟨rfl,rfl,H.cf j (n:=4) (y:=x.c) (λ_=>rfl) (Zz H W x.vm x.c.1 u.1 u.2.1 u.2.2 λN H=>⟨rfl,rfl,?_⟩)⟩⟩⟩;unfold iD at k;generalize hh':kN s.h x.vm x.c.1 x.c.2.1 x.c.2.2.1 x.c.2.2.2.1=h' at*
 generalize hV:xF s.h x.vm x.c.1 x.c.2.1 x.c.2.2.1 x.c.2.2.2.1=V at*
 generalize f:sd s.h x.vm x.c.1 x.c.2.1 x.c.2.2.1 x.c.2.2.2.1=E at*
 dsimp only at k ⊢;have S:({s with h:=h'}:MS).cs[i]? =some x:=j;refine H.cs S {x with rs:=(V,E)} 10 rfl rfl (λ_=>rfl) (λa h=>⟨h.ls,h.fs,h.wk⟩) λw4 H=>?_;have z:=e9 (y:={x with rs:=(V,E)}) S;refine⟨rfl,rfl,H.cf z (n:=3) (λ_=>rfl) ⟨rfl,rfl,H.cf z (n:=4) (y:=x.c) (λ_=>rfl) ⟨rfl,rfl,H.cf z (n:=10) (y:=(V,E,())) (λ_=>rfl) ?_⟩⟩⟩;have hms:=Bd.ms;refine tr H (show s.ms.length<= _ by omega) (1,x.vm,0,x.c,V,E) λw5 H=>EL H H.sys.2.2.1 λr Lr w6 hs H=>⟨rfl,rfl,?_⟩;have u_:({ {cD {s with h:=h'} i {x with rs:=(V,E)} with ms:=s.ms++[(1,x.vm,0,x.c,V,E)]} with kn:=s.kn++eR s h'}:MS).cs[i]? =some {x with rs:=(V,E)}:=z;refine ZA (x:={x with rs:=(V,E)}) H u_ hs λA H=>?_;have H:MU Q X D G w0 A R (cD {s with h:=h',kn:=s.kn++eR s h',ms:=s.ms++[(1,x.vm,0,x.c,V,E)]} i {x with rs:=(V,E),fs:=eR s h'}) ((b,[ay 0,aa 0])::T) L M:=by
  have H:=H;unfold cD at H;simp only[CN] at H;exact H
 have l:=e9 (s:={s with h:=h',kn:=s.kn++eR s h',ms:=s.ms++[(1,x.vm,0,x.c,V,E)]}) (y:={x with rs:=(V,E),fs:=eR s h'}) j;have kE:(x.c.1=2\/x.c.1=4\/x.c.1=5\/x.c.1=10->E≠0)-> ∀d,MU Q X D G w0 d R (cD {s with h:=h',kn:=s.kn++eR s h',ms:=s.ms++[(1,x.vm,0,x.c,V,E)]} i {x with rs:=(V,E),fs:=eR s h'}) T L M->K ((V,E,()),true,()) d:=λf d H=>by
  have:=k d;by_cases c:x.c.1=2\/x.c.1=4\/x.c.1=5\/x.c.1=10
  ·rw[az c,az (f c)] at this;exact this H
  ·rw[au c] at this;exact this H
 have kP:x.c.1=2\/x.c.1=4\/x.c.1=5\/x.c.1=10->E=0-> ∀t p:Int,(if x.c.1=2 then aw .i64 x.c.2.1 else x.vm)=t->(if x.c.1=2 then -1 else aw .i64 x.c.2.1)=p-> ∀d,MU Q X D G w0 d R (cD {s with h:=h',kn:=s.kn++eR s h',ms:=s.ms++[(1,x.vm,0,x.c,V,E)],bx:=(dD s.bx s.op i t p).2.1,op:=(dD s.bx s.op i t p).2.2} i {x with rs:=(V,E),fs:=eR s h',ls:=jm x.ls t p,ak:=(dD s.bx s.op i t p).1,ph:=4}) T L M->K ((0,0,()),false,()) d:=λc f t p B q d H=>by
  have:=k d;rw[az c,au (by omega),B,q] at this;exact this H
 have tl:=λ(c:x.c.1=2\/x.c.1=4\/x.c.1=5\/x.c.1=10) (f:E=0) (t p:Int) (B:(if x.c.1=2 then aw .i64 x.c.2.1 else x.vm)=t) (q:(if x.c.1=2 then -1 else aw .i64 x.c.2.1)=p)=>Su (i:=i) (K:=K) (x:={x with rs:=(V,E),fs:=eR s h'}) H rfl (show(s.cs.set i _).length<=8 by rw[CH];exact J) (show s.bx.length=(s.cs.set i _).length by rw[CH];exact Bd.bn) Bd.op Bd.bl I.1 (show(x.ls.length:Int)<=64 by omega) l t p λU H=>kP c f t p B q U (by
  have H:MU Q X D G w0 U R (cD (cD {s with h:=h',kn:=s.kn++eR s h',ms:=s.ms++[(1,x.vm,0,x.c,V,E)],bx:=(dD s.bx s.op i t p).2.1,op:=(dD s.bx s.op i t p).2.2} i {x with rs:=(V,E),fs:=eR s h'}) i {x with rs:=(V,E),fs:=eR s h',ls:=jm x.ls t p,ak:=(dD s.bx s.op i t p).1,ph:=4}) T L M:=H;rw[kM] at H;exact H)
 refine⟨rfl,rfl,H.cf l (n:=3) (λ_=>rfl) ⟨rfl,rfl,rfl,H.cf l (n:=5) (λ_=>rfl) ⟨rfl,rfl,rfl,H.cf l (n:=4) (λ_=>rfl) ?_⟩⟩⟩;have br: ∀{P:Prop},(E=0->P)->aL (E != 0) ((some ⟨R.cb i,0,none⟩:Option Ad).isSome=true/\(some ⟨R.cb i,0,none⟩:Option Ad).isSome=true/\aj A none (ad (some ⟨R.cb i,0,none⟩) 10) (El.agg [.int .u64,.int .i64]) λ(x:Int×Int×Unit)=>aC A (ae b) [ay x.1,aa x.2.1] λd=>ao d λw1=>aj w1 none (ae b) (El.agg [.int .u64,.int .i64]) λ(x:Int×Int×Unit)=>K ((x.1,x.2.1,()),true,()) w1) P:=λq=>by
  refine ab (λc=>⟨rfl,rfl,H.cf l (n:=10) (y:=(V,E,())) (λ_=>rfl) (H.res rfl _ _ true (kE λ_=>by simpa using c))⟩) (λc=>q (by simpa using c))
 by_cases c2:x.c.1=2
 ·refine aF (by rw[c2];rfl) ⟨rfl,rfl,rfl,H.cf l (n:=5) (λ_=>rfl) ⟨rfl,rfl,rfl,H.cf l (n:=11) (λ_=>rfl) (br λf=>?_)⟩⟩;exact tl (.inl c2) f _ _ (az c2) (az c2)
 refine an (beq_eq_false_iff_ne.2 c2) ?_;by_cases c4:x.c.1=4
 ·refine aF (by rw[c4];rfl) (aF (by rw[c4];rfl) ⟨rfl,rfl,rfl,H.cf l (n:=11) (λ_=>rfl) (br λf=>?_)⟩);exact tl (.inr (.inl c4)) f _ _ (au c2) (au c2)
 refine an (beq_eq_false_iff_ne.2 c4) ?_;by_cases c5:x.c.1=5
 ·refine aF (by rw[c5];rfl) (aF (by rw[c5];rfl) ⟨rfl,rfl,rfl,H.cf l (n:=11) (λ_=>rfl) (br λf=>?_)⟩);exact tl (.inr (.inr (.inl c5))) f _ _ (au c2) (au c2)
 refine an (beq_eq_false_iff_ne.2 c5) ?_;by_cases c10:x.c.1=10
 ·refine aF (by rw[c10];rfl) ⟨rfl,rfl,rfl,H.cf l (n:=11) (λ_=>rfl) (br λf=>?_)⟩;exact tl (.inr (.inr (.inr c10))) f _ _ (au c2) (au c2)
 refine an (beq_eq_false_iff_ne.2 c10) ⟨rfl,rfl,H.cf l (n:=10) (y:=(V,E,())) (λ_=>rfl) (H.res rfl _ _ true (kE λc=>?_))⟩;rcases c with c|c|c|c
 ·exact absurd c c2
 ·exact absurd c c4
 ·exact absurd c c5
 ·exact absurd c c10
end
def Ia (l:List AC) (n:Int):AC:=match l.get?Internal n.toNat with
 |some x=>x
 |none=>Value.tuple ⟨[]⟩
abbrev sFs:El:= .agg [.func,.func,.func,.func,.func]
def JW (x:Option Ad) (n:Int) (b c:Nat) (Post:BA->A2->Prop) (r:BA) (a:A2):Prop:=
 aC a (ae c) [ay r.1.1,aa r.1.2.1] λa=>
  aL (!r.2.1)
   (aC a (ae b) [ay 0,aa 0] λa=>ao a λw1=>aj w1 none (ae b) (.agg iI) λ(y:Int×Int×Unit)=>Post ((y.1,y.2.1,()),false,()) w1)
   (x.isSome=true/\x.isSome=true/\aj a none (ad x 1) (.one .ptr) λ(t:Option Ad)=>x.isSome=true/\
    aC a x [aa n,ag t,aa 0,aa 0,aa 0,ay 0,ay 0,ay 0,ag none,aa 0,ay 0,aa 0,aa 0,.slice none 0 0] λa=>
    aj a none (ae c) (.agg iI) λ(y:Int×Int×Unit)=>aC a (ae b) [ay y.1,aa y.2.1] λa=>ao a λw1=>aj w1 none (ae b) (.agg iI) λ(y:Int×Int×Unit)=>Post ((y.1,y.2.1,()),true,()) w1)
def abz (p x:Option Ad) (n:Int) (b:Nat) (Post:BA->A2->Prop) (a:A2):Prop:=
 x.isSome=true/\x.isSome=true/\aj a none (ad x 2) (.one (.int .i64)) λ(ph:Int)=>
  (aD Ab 68 (.el sFs) [ag p] a λ(f:AC×AC×AC×AC×AC×Unit) a=>cP a (ad x 2) (.one (.int .i64)) ph/\True/\True/\(0<=ph/\ph<((5:Nat):Int))/\
   (wR Ab (Ia [f.1,f.2.1,f.2.2.1,f.2.2.2.1,f.2.2.2.2.1] ph) Ng [ag x] a λ(r:BA) a=>aK a ⟨[ay 0,aa 0]⟩ 61 λc a=>JW x n b c Post r a)/\
   aK a ⟨[ay 0,aa 0]⟩ 61 λc a=>wR Ab (Ia [f.1,f.2.1,f.2.2.1,f.2.2.2.1,f.2.2.2.2.1] ph) Ng [ag x] a λ(r:BA) a=>JW x n b c Post r a)/\
  aK a ⟨[ay 0,aa 0]⟩ 61 λc a=>aD Ab 68 (.el sFs) [ag p] a λ(f:AC×AC×AC×AC×AC×Unit) a=>cP a (ad x 2) (.one (.int .i64)) ph/\True/\True/\(0<=ph/\ph<((5:Nat):Int))/\
   wR Ab (Ia [f.1,f.2.1,f.2.2.1,f.2.2.2.1,f.2.2.2.2.1] ph) Ng [ag x] a λ(r:BA) a=>JW x n b c Post r a
theorem Dw {a:Nat} {sh:Sh} {first args:List AC} {w:A2} {K:sh.T->A2->Prop} (hc:bK Ab a=true) (b:aD Ab a sh (first++args) w K):wR Ab (.func (.func a) ⟨first⟩ #[]) sh args w K:=by
 unfold wR;refine λw1 h1=>⟨a,⟨first⟩, #[],rfl,hc,?_⟩;have e:cY ⟨first⟩ args #[]=first++args:=by unfold cY;simp
 rw[e];exact b w1 h1
abbrev Fh (mb f:Nat):AC:= .func (.func f) ⟨[ag (ae mb)]⟩ #[]
structure Sx (s:MS) (i:Nat) (x:bZ):Prop where
 ph:0<=x.ph/\x.ph<=4
 wk:x.ph=2->0<=x.wk.2.1/\x.wk.2.1<=3
 ln:x.ph=2->(bG s.h.s.1 (x.c.2.1 / 16) (a9 x.c.1) x.wk).2.1= -1->(bG s.h.s.1 (x.c.2.1 / 16) (a9 x.c.1) x.wk).2.2.2.2.2.1=0->ZU (x.vm,x.c.2.1 / 16,(bG s.h.s.1 (x.c.2.1 / 16) (a9 x.c.1) x.wk).2.2.1,(bG s.h.s.1 (x.c.2.1 / 16) (a9 x.c.1) x.wk).2.2.2.1,())=true
 fr:x.ph=3->0<=x.fr/\x.fr<4096
 ak:x.ph=4->x.ak<4611686018427387904/\x.fs.length<=1000000/\ ∀f∈x.fs,0<=f
 bw:l_ s.h x=true->uw (a6 s.h.g x.vm) (x.c.2.1 / 16) (a9 x.c.1)=false
 tk: ∀a q,s.bx[i]? =some (a::q)->(1<=a.1/\a.1<=(s.op.length:Int))/\ -1000<=s.op.getD (a.1 - 1).toNat 0/\s.op.getD (a.1 - 1).toNat 0<=1000
section
variable {Q:Sys} {X:HX} {D G:List Nat} {w0 w w1:A2} {B:MB} {R:MR} {s:MS} {T L:List (Nat×List AC)} {M:List (Nat×BJ)} {i:Nat} {x:bZ} {g:Option Bool}
theorem zu (H:MU Q X D G w0 w R s T L M) {K:AC×AC×AC×AC×AC×Unit->A2->Prop} (k: ∀a,MU Q X D G w0 a R s T L M->K (Fh R.mb 109,Fh R.mb 110,Fh R.mb 111,Fh R.mb 112,Fh R.mb 113,()) a):
 aD Ab 68 (.el sFs) [ag (ae R.mb)] w K:=by
 refine H.go λw1 H=>aQ (C:=U2) (aT:=λ_=>[]) (B5 (G9 _ w1 K) (H.al λb a H=>H.st 0 rfl rfl rfl λd H=>H.en λc H=>H.ld 0 rfl (show _=some (Fh R.mb 109,Fh R.mb 110,Fh R.mb 111,Fh R.mb 112,Fh R.mb 113,()) from rfl) (k c (H.sub (B3 _ _)))))
theorem u5 (H:MU Q X D G w0 w R s T L M) (Bd:Bn s) (a:s.cs[i]? =some x) (f:BQ Q s.h) (S:Sx s i x) {K:BA->A2->Prop}
 (k: ∀d,MU Q X D G w0 d R (bV s i x).1 T L M->K (((bV s i x).2.1.1,(bV s i x).2.1.2,()),(bV s i x).2.2,()) d):
 wR Ab (Ia [Fh R.mb 109,Fh R.mb 110,Fh R.mb 111,Fh R.mb 112,Fh R.mb 113] x.ph) Ng [ag (some ⟨R.cb i,0,none⟩)] w K:=by
 have c:=C6 a;have g:=(B2.1 a).1;have j:=Bd.pn;have l:=Bd.c8;have m:=S.ph;by_cases c0:x.ph=0
 ·have e:bV s i x=((dL s).1,(0,0),false):=az c0;rw[e] at k;rw[c0];exact Dw (first:=[_]) (by kernel_rfl) (Sj H (by omega) Bd.now Bd.ws Bd.wn Bd.ms _ k)
 by_cases c1:x.ph=1
 ·have e:bV s i x=dy s i x:=by unfold bV;rw[au c0,az c1]
  rw[e] at k;rw[c1];exact Dw (first:=[_]) (by kernel_rfl) (Ms H Bd a f S.bw k)
 by_cases c2:x.ph=2
 ·have e:bV s i x=k_ s i x:=by unfold bV;rw[au c0,au c1,az c2]
  rw[e] at k;rw[c2];have b:(k_ s i x).2.1.1=0:=by
   unfold k_;dsimp only;split
   ·rfl
   ·split<;>rfl
  rw[b] at k;exact Dw (first:=[_]) (by kernel_rfl) (So H a c2 (S.wk c2) (Bd.cu x c).1 (by omega) (Bd.ls x c) Bd.sz (S.ln c2) k)
 by_cases c3:x.ph=3
 ·have e:bV s i x=fY s i x:=by unfold bV;rw[au c0,au c1,au c2,az c3]
  rw[e] at k;rw[c3];have b:(fY s i x).2.1.2=0/\(fY s i x).2.2=true:=by
   unfold fY;dsimp only;split<;>exact⟨rfl,rfl⟩
  rw[b.1,b.2] at k;exact Dw (first:=[_]) (by kernel_rfl) (Mp H a (S.fr c3) (Bd.cu x c).1 (Bd.cu x c).2.1 (by omega) Bd.ms k)
 have c4:x.ph=4:=by omega
 have e:bV s i x=iE s x:=by unfold bV;rw[au c0,au c1,au c2,au c3]
 rw[e] at k;rw[c4];have b:(if(iE s x).2.2=true then((iE s x).2.1.1,(iE s x).2.1.2,()) else(0,0,()))=((iE s x).2.1.1,(iE s x).2.1.2,()):=by
  unfold iE;split<;>rfl
 rw[<-b] at k;exact Dw (first:=[_]) (by kernel_rfl) (Sk H a (S.ak c4).1 (S.ak c4).2.1 (S.ak c4).2.2 k)
end
theorem Cw: ∀(l:List Int) (s:MS),(l.foldl ib s).cs=s.cs
 |[],s=>rfl
 |f::l,s=>by rw[G1,Cw l];rfl
theorem Jk (s:MS):(dL s).1.cs=s.cs:=by unfold dL;rw[Cw]
theorem Mt (s:MS) (i:Nat) (x:bZ):(dy s i x).1.cs.length=s.cs.length:=by
 have a: ∀(s:MS) (y:bZ),(cD s i y).cs.length=s.cs.length:=λs y=>CH ..;unfold dy;split
 ·dsimp only;split<;>exact a _ _
 ·split
  ·rfl
  ·split
   ·dsimp only;rw[Jk]
   ·unfold iD;dsimp only;split
    ·split<;>exact a _ _
    ·exact a _ _
theorem Mv (s:MS) (i:Nat) (x:bZ):(bV s i x).1.cs.length=s.cs.length:=by
 have a: ∀(s:MS) (y:bZ),(cD s i y).cs.length=s.cs.length:=λs y=>CH ..;unfold bV;split
 ·dsimp only;rw[Jk]
 ·split
  ·exact Mt s i x
  ·split
   ·unfold k_;dsimp only;split
    ·exact a _ _
    ·split<;>exact a _ _
   ·split
    ·unfold fY;dsimp only;split<;>rfl
    ·unfold iE;split<;>rfl
section
variable {Q:Sys} {X:HX} {D G:List Nat} {w0 w w1:A2} {B:MB} {R:MR} {s:MS} {T L:List (Nat×List AC)} {M:List (Nat×BJ)} {i:Nat} {x:bZ} {g:Option Bool}
theorem VP {b d:Nat} {l g:List AC} (H:MU Q X D G w0 w R s ((d,g)::(b,l)::T) L M) (h:l.length=2) (m:g.length=2) (j:s.cs[i]? =some x) (r:BA) {K:BA->A2->Prop}
 (k: ∀e,MU Q X D G w0 e R (if r.2.1=true then cD s i (cL x.ls) else s) T L M->K (if r.2.1=true then((r.1.1,r.1.2.1,()),true,()) else((0,0,()),false,())) e):
 JW (some ⟨R.cb i,0,none⟩) (i:Int) b d K r w:=by
 unfold JW;refine H.st 0 rfl rfl m.symm λe H=>ab (λc=>?_) (λc=>?_)
 ·have c:r.2.1=false:=by simpa using c
  rw[c] at k;exact MU.res (H.sub (B3 _ _)) h 0 0 false k
 ·have c:r.2.1=true:=by simpa using c
  rw[c] at k;refine⟨rfl,rfl,H.c1 j ⟨rfl,?_⟩⟩;obtain⟨a,f,u,n,hb,W,o,J⟩:=H.CZ j;rw[<-n, <-hb];refine stB (o.perm (L':=(a.cb,jY a i x)::(a.tb,dx a.st s.sz)::(a.Lt++(a.Lf++(a.Lw++(((d,[ay r.1.1,aa r.1.2.1])::(b,l)::T)++f))))) (cw λy=>by simp only[ae,uk,Av,B1,E6];omega)) 0 rfl rfl rfl λp q=>?_;have t:=(q.perm (L':=a.Lf++(a.Lw++((a.cb,[aa (i:Int),ag (ae a.tb),aa 0,aa 0,aa 0,ay 0,ay 0,ay 0,ag none,aa 0,ay 0,aa 0,aa 0,.slice none 0 0])::(a.tb,dx a.st s.sz)::(a.Lt++(((d,[ay r.1.1,aa r.1.2.1])::(b,l)::T)++f))))) (cw λy=>by simp only[ae,E6,Av,B1];omega)).sub ((E5 _ _).trans (E5 _ _));have H:MU Q X D G w0 p R (cD s i (cL x.ls)) ((d,[ay r.1.1,aa r.1.2.1])::(b,l)::T) L M:=by
   refine J (a':={a with wp:=none,sf:=(none,0,0),Lf:=[],Lw:=[]}) (x':=cL x.ls) rfl rfl ⟨W.ls,dU.nil eI,λc=>(by cases c)⟩ (t.perm (cw λy=>?_));show Bs y ((a.cb,[aa (i:Int),ag (ae a.tb),aa 0,aa 0,aa 0,ay 0,ay 0,ay 0,ag none,aa 0,ay 0,aa 0,aa 0,.slice none 0 0])::(a.tb,dx a.st s.sz)::(a.Lt++([]++[]))++(((d,[ay r.1.1,aa r.1.2.1])::(b,l)::T)++f))= _;simp only[ae,Av,B1,F0];omega
  exact H.ld 0 rfl (show _=some (r.1.1,r.1.2.1,()) from rfl) (MU.res (H.sub (B3 _ _)) h _ _ true k)
theorem Ew {b:Nat} {l:List AC} (H:MU Q X D G w0 w R s ((b,l)::T) L M) (q:l.length=2) (Bd:Bn s) (a:s.cs[i]? =some x) (g:BQ Q s.h) (S:Sx s i x) {K:BA->A2->Prop}
 (k: ∀d,MU Q X D G w0 d R (iR (bV s i x) i x).1 T L M->K (((iR (bV s i x) i x).2.1.1,(iR (bV s i x) i x).2.1.2,()),(iR (bV s i x) i x).2.2,()) d):
 abz (ae R.mb) (some ⟨R.cb i,0,none⟩) (i:Int) b K w:=by
 have u:=(B2.1 a).1;have v:=Mv s i x;obtain⟨x',j⟩: ∃x',(bV s i x).1.cs[i]? =some x':=⟨_,CX (by omega)⟩;have r:(bV s i x).1.cs.getD i x=x':=by rw[E4,j];rfl
 unfold iR at k;rw[r] at k;have m:=S.ph;have fin: ∀{e:Nat} {o:List AC} {d:A2},o.length=2->MU Q X D G w0 d R (bV s i x).1 ((e,o)::(b,l)::T) L M->JW (some ⟨R.cb i,0,none⟩) (i:Int) b e K (((bV s i x).2.1.1,(bV s i x).2.1.2,()),(bV s i x).2.2,()) d:=λt H=>by
  refine VP H q t j _ λf H=>?_;have:=k f;dsimp only at H ⊢;by_cases c:(bV s i x).2.2=true
  ·rw[az c] at H this ⊢;exact this H
  ·rw[au c] at H this ⊢;exact this H
 refine⟨rfl,rfl,H.cf a (n:=2) (λ_=>rfl) ⟨?_,?_⟩⟩
 ·refine zu H λd H=>⟨H.crd a (n:=2) λ_=>rfl,trivial,trivial,⟨m.1,by show x.ph<5;omega⟩,?_,?_⟩
  ·exact u5 H Bd a g S λf H=>H.al λe p H=>fin rfl H
  ·exact H.al λe f H=>u5 H Bd a g S λp H=>fin rfl H
 ·exact H.al λe d H=>zu H λf H=>⟨H.crd a (n:=2) λ_=>rfl,trivial,trivial,⟨m.1,by show x.ph<5;omega⟩,u5 H Bd a g S λp H=>fin rfl H⟩
theorem Sv (H:MU Q X D G w0 w R s T L M) (Bd:Bn s) (hi:i<s.cs.length) (m: ∀a q,s.bx[i]? =some (a::q)->(1<=a.1/\a.1<=(s.op.length:Int))/\ -1000<=s.op.getD (a.1 - 1).toNat 0/\s.op.getD (a.1 - 1).toNat 0<=1000) {K:(Int×Int×Int×Unit)×Bool×Unit->A2->Prop}
 (kn:xK s i=none-> ∀c,MU Q X D G w0 c R s T L M->K ((0,0,0,()),false,()) c)
 (ks: ∀a s1,xK s i=some (a,s1)-> ∀c,MU Q X D G w0 c R s1 T L M->K (a,true,()) c):
 aD Ab 66 (.bu [.agg [.int .i64,.int .i64,.int .i64],.one .bool]) [ag (ae R.xb),aa (i:Int)] w K:=by
 obtain⟨B,rfl,H⟩:=H;obtain⟨p,r,n,J⟩:=H.bxs;have W:=H.wf;have f:=W.l;have t:=Bd.bn;have u:=Bd.op;refine Rv n W.b W.o W.l i (by omega) m (by omega) λg h c j k d e=>?_;unfold vq at d e ⊢;unfold xK at kn ks;cases hb:s.bx[i]? with
 |none=>
  rw[hb] at d e kn;exact kn rfl c ⟨{B with so:=B.so,Lo:=h,cr:=g},rfl,J (op:=s.op) (bx:=s.bx) d (by rw[j,f]) k e⟩
 |some q=>
  cases q with
  |nil=>
   rw[hb] at d e kn;exact kn rfl c ⟨{B with so:=B.so,Lo:=h,cr:=g},rfl,J (op:=s.op) (bx:=s.bx) d (by rw[j,f]) k e⟩
  |cons a q=>
   rw[hb] at d e ks;refine ks a _ rfl c ⟨{B with so:=B.so,Lo:=h,cr:=g},rfl,J (op:=s.op.set (a.1 - 1).toNat (s.op.getD (a.1 - 1).toNat 0 - 1)) (bx:=s.bx.set i q) d (by rw[j,f,CH]) k e⟩
theorem Sw (H:MU Q X D G w0 w R s T L M) (Bd:Bn s) (j:BQ Q s.h) (S: ∀i x,s.cs[i]? =some x->Sx s i x) (n:Int) {K:BA->A2->Prop}
 (k: ∀g,MU Q X D G w0 g R (cd s n).1 T L M->K (((cd s n).2.1.1,(cd s n).2.1.2,()),(cd s n).2.2,()) g):
 aD Ab 31 Ng [ag (ae R.mb),aa n] w K:=by
 refine H.go λw1 H=>aQ (C:=U3) (aT:=λ_=>[]) (B5 (RD _ n w1 K) (H.al λb g H=>⟨_,WW H n,?_⟩));by_cases c:0<=n/\n<(s.cs.length:Int)
 ·obtain⟨i,rfl⟩: ∃i:Nat,n=(i:Int):=⟨n.toNat,by omega⟩;rw[az c,C7];have l:i<s.cs.length:=by omega
  obtain⟨x,f⟩: ∃x,s.cs[i]? =some x:=⟨_,CX l⟩;have t:=Bd.ls x (C6 f);have u:=Bd.sz;have e:cd s (i:Int)=lS s i x:=by unfold cd;rw[au (by omega),C7,f]
  rw[e] at k;unfold lS at k;refine an rfl ⟨rfl,rfl,H.cf f (n:=2) (λ_=>rfl) (ab (λc=>?_) (λc=>?_))⟩
  ·have c3:x.ph≠3:=by simpa using c
   rw[au c3] at k;refine⟨rfl,rfl,H.f2 (Sv H Bd l (S i x f).tk (λd m H=>?_) (λa s1 d m H=>?_))⟩
   ·rw[d] at k;exact H.al λo p H=>H.st 0 rfl rfl rfl λq H=>an rfl (Ew (H.sub (B3 _ _)) rfl Bd f j (S i x f) k)
   ·rw[d] at k;have r:s1.cs[i]? =some x:=by
     unfold xK at d;split at d
     ·cases d;exact f
     ·cases d
    have v:s1.sz=s.sz:=by
     unfold xK at d;split at d
     ·cases d;rfl
     ·cases d
    refine H.al λo p H=>H.st 0 rfl rfl rfl λq H=>aF rfl ⟨rfl,H.cI 0 rfl (show _=some a.2.1 from rfl) ⟨rfl,H.cI 0 rfl (show _=some a.2.2.1 from rfl) ?_⟩⟩;exact zq H r (by omega) (by omega) _ _ λy H=>MU.res (H.sub (B3 _ _)) rfl 0 0 false k
  ·have c3:x.ph=3:=by simpa using c
   rw[az c3] at k;exact Ew H rfl Bd f j (S i x f) k
 ·rw[au c];have e:cd s n=(s,(0,0),false):=by
   unfold cd;by_cases h:n<0
   ·rw[az h]
   ·rw[au h,JS (by omega)]
  rw[e] at k;exact aF rfl (H.res rfl 0 0 false k)
end
section
variable {Q:Sys} {X:HX} {D G:List Nat} {w0 w w1:A2} {B:MB} {R:MR} {s:MS} {T L:List (Nat×List AC)} {M:List (Nat×BJ)} {i:Nat} {x:bZ} {g:Option Bool}
theorem ZB {n:Int} (c: ¬ (0<=n/\n<(s.cs.length:Int))):n<0\/s.cs[n.toNat]? =none:=by
 by_cases h:n<0
 ·exact .inl h
 ·exact .inr (JS (by omega))
theorem Jl (H:MU Q X D G w0 w R s T L M) (n vm k:Int) {a b c:Int} {K:Int->A2->Prop}
 (kk: ∀g,MU Q X D G w0 g R (fP s n vm (k,a,b,c,())) T L M->K (Df s n) g):
 aD Ab 29 (.el (.one (.int .i64))) [ag (ae R.mb),aa n,aa vm,.agg ⟨fS k a b c⟩] w K:=by
 refine H.go λw1 H=>ai (C:=U2) (aT:=λ_=>[]) (B5 (Vu _ n vm k a b c w1 K) (H.al λl g H=>⟨_,WW H n,λ_=>rfl,λ_=>rfl,H.f0 (an rfl ?_)⟩));by_cases hc:0<=n/\n<(s.cs.length:Int)
 ·obtain⟨i,rfl⟩: ∃i:Nat,n=(i:Int):=⟨n.toNat,by omega⟩;rw[az hc,C7];obtain⟨x,d⟩: ∃x,s.cs[i]? =some x:=⟨_,CX (by omega)⟩;unfold fP Df at kk;rw[au (by omega),au (by omega),C7,d] at kk;dsimp only at kk;refine an rfl ⟨rfl,rfl,H.cf d (n:=2) (λ_=>rfl) (ab (λe=>?_) (λe=>?_))⟩
  ·have e:x.ph≠0:=by simpa using e
   rw[au e,au e] at kk;exact H.en λf H=>kk f (H.sub (B3 _ _))
  ·have c0:x.ph=0:=by simpa using e
   rw[az c0,az c0] at kk;refine H.ld 0 rfl (show _=some (k,a,b,c,()) from rfl) ⟨rfl,rfl,H.cs d {x with ph:=1} 2 rfl rfl (λ_=>rfl) (λa h=>⟨h.ls,h.fs,λc=>(by cases c)⟩) λf H=>⟨?_,rfl,rfl,?_⟩⟩
   ·have:=H.rd 0 (n:=0) (el:= .agg sCl) rfl (show _=some (k,a,b,c,()) from rfl);rw[aR] at this;exact this
   refine H.cs (e9 d) {x with ph:=1,vm:=vm} 3 rfl rfl (λ_=>rfl) (λa h=>⟨h.ls,h.fs,λc=>(by cases c)⟩) λm H=>⟨?_,rfl,rfl,?_⟩
   ·have:=H.rd 0 (n:=0) (el:= .agg sCl) rfl (show _=some (k,a,b,c,()) from rfl);rw[aR] at this;exact this
   refine H.cs (e9 (e9 d)) {x with ph:=1,vm:=vm,c:=(k,a,b,c,())} 4 rfl rfl (λ_=>rfl) (λa h=>⟨h.ls,h.fs,λc=>(by cases c)⟩) λo H=>H.en λj H=>?_;simp only[kM] at H;exact kk j (H.sub (B3 _ _))
 ·rw[au hc];have e:fP s n vm (k,a,b,c,())=s/\Df s n=2:=by
   unfold fP Df;rcases ZB hc with h|h
   ·rw[az h,az h];exact⟨rfl,rfl⟩
   ·rw[h];constructor<;>split<;>rfl
  rw[e.1,e.2] at kk;exact aF rfl (H.en λf H=>kk f (H.sub (B3 _ _)))
end
section
variable {Q:Sys} {X:HX} {D G:List Nat} {w0 w w1:A2} {B:MB} {R:MR} {s:MS} {T L:List (Nat×List AC)} {M:List (Nat×BJ)} {i:Nat} {x:bZ} {g:Option Bool}
abbrev sI (B:MB) (n:Nat) (sc:Option Ad×Nat×Nat) (Lc:List (Nat×List AC)) (a:CA):MB:={B with sc:=sc,Lc:=Lc,A:=λk=>if k=n then a else B.A k}
theorem iq.cps (H:iq Q X D G w0 w B s T L M): ∃j n,cM D G w0 w ((B.mb,rC X B)::(B.Lc++(T++j))) n/\
 ∀{T' sc Lc a x w'},dU eP sc (yd B s.cs.length++[some ⟨a.cb,0,none⟩]) Lc->SU a x->cM D G w0 w' ((B.mb,rC X (sI B s.cs.length sc Lc a))::(Lc++(uk a s.cs.length x s.sz++(T'++j)))) n->iq Q X D G w0 w' (sI B s.cs.length sc Lc a) {s with cs:=s.cs++[x]} T' L M:=by
 obtain⟨A,ca,la,h1,r,d,t⟩:=H;refine⟨(B.eb,oB s.ep.now B.sp B.wb)::(B.xb,lO B.sb B.so)::(B.Lm++(B.Lp++(B.Lb++(B.Lo++(gZ B s (Ae s.cs.length)++(Fg Q X A ca la s.h++L)))))), _,t.perm (cw λa=>by simp only[Av,B1];omega),λ{T' sc Lc a x w'} u v K=>?_⟩;have g: ∀k,k<s.cs.length->(sI B s.cs.length sc Lc a).A k=B.A k:=λk c=>au (by omega);have i:(sI B s.cs.length sc Lc a).A s.cs.length=a:=az rfl;have q:(s.cs++[x]).length=s.cs.length+1:=by rw[GS];rfl
 have z:yd (sI B s.cs.length sc Lc a) (s.cs++[x]).length=yd B s.cs.length++[some ⟨a.cb,0,none⟩]:=by
  show(Ae (s.cs++[x]).length).map _= _;rw[q,HZ,Fx];congr 1
  ·exact JC λk c=>by rw[g k (Bz.1 c)]
  ·show[some (⟨((sI B s.cs.length sc Lc a).A s.cs.length).cb,0,none⟩:Ad)]= _;rw[i]
 have C:gZ (sI B s.cs.length sc Lc a) {s with cs:=s.cs++[x]} (Ae (s.cs++[x]).length)=gZ B s (Ae s.cs.length)++uk a s.cs.length x s.sz:=by
  unfold gZ;rw[q,HZ,List.flatMap_append];congr 1
  ·refine gw λk c=>?_;have c:=Bz.1 c;show(match (s.cs++[x])[k]? with|some x=> _|none=> _)= _;rw[Fv c,g k c]<;>cases s.cs[k]? <;>rfl
  ·show(match (s.cs++[x])[s.cs.length]? with|some x=>uk ((sI B s.cs.length sc Lc a).A s.cs.length) s.cs.length x s.sz|none=> _)++[]= _;rw[Jn (E9 _),Nat.sub_self,i];exact CV _
 refine⟨A,ca,la,h1,r,⟨by rw[z];exact u,d.m,d.p,d.b,d.o,d.l,d.k,d.w,λ{k y} f=>?_⟩,K.perm ?_⟩
 ·have f:(s.cs++[x])[k]? =some y:=f;by_cases c:k<s.cs.length
  ·rw[Fv c] at f;rw[g k c];exact d.a f
  ·have E:=(B2.1 f).1;have e:k=s.cs.length:=by omega
   subst e;rw[Jn (E9 _),Nat.sub_self] at f;cases f;rw[i];exact v
 ·show(T'++(((B.mb,rC X (sI B s.cs.length sc Lc a))::(B.eb,oB s.ep.now B.sp B.wb)::(B.xb,lO B.sb B.so)::(Lc++(B.Lm++(B.Lp++(B.Lb++B.Lo)))))++(gZ (sI B s.cs.length sc Lc a) {s with cs:=s.cs++[x]} (Ae (s.cs++[x]).length)++(Fg Q X A ca la s.h++L)))).Perm _;rw[C];exact cw λa=>by simp only[Av,B1];omega
abbrev mZ (f c j:Nat) (l:Int):MS:={m0 f c l with cs:=Bv j (cL [])}
theorem wY (H:aJ D G w0 w L) (f c l:Int) (hf:4<=f/\f<=4096) (hl:1<=l/\l<=64) {K:Option Ad×Int×Unit->A2->Prop} (kb:c<1\/c>8-> ∀w1,aJ D G w0 w1 L->K (none,1,()) w1)
 (V:1<=c->c<=8-> ∀Q X R w1,Q.c=16*f.toNat->MU Q X D G w0 w1 R (m0 f.toNat c.toNat l) [] L []->K (some ⟨R.mb,0,none⟩,0,()) w1):
 aD Ab 52 (.bu [.one .ptr,.one (.int .i64)]) [aa f,aa c,aa l] w K:=by
 refine aD.go H λw1 H=>ai (C:=U2) (aT:=v_) (B5 (Vv f c l w1 K) ?_);refine Vt H f (λh=>by omega) λ_ _ Q X w2 Y H=>an rfl ?_;obtain⟨A,W,S⟩:=H;have Z:ye (h0 f.toNat).s:=⟨S.pos,S.FA,S.le,S.ZX⟩;obtain⟨_, _, _, _,ca,la,H⟩:=S;refine Ce H c (λhc w3 H=>aF rfl λI M=>kb hc I ?_) λc1 c8 eb wb sp Lp w3 V5 H=>an rfl λI M=>?_
 ·refine(H.base.sub ?_).ext M;refine De _ (De _ (De _ (De _ (De _ (De _ (De _ (De _ (E5 _ _))))))))
 obtain⟨n,rfl⟩: ∃n:Nat,c=(n:Int):=⟨c.toNat,by omega⟩;obtain⟨m,rfl⟩: ∃m:Nat,f=(m:Int):=⟨f.toNat,by omega⟩;simp only[ae,C7] at*
 have H:=(H.ext M).alloc (o:= .map ⟨[]⟩ 0) trivial;obtain⟨q,hkb⟩: ∃b,b=I.heap.size:=⟨_,rfl⟩;rw[<-hkb] at H ⊢;refine alM H λmb w5 H=>Vs H (n:Int) (λh=>by omega) λ_ _ xb cr sb Lb w6 O hsb H=>⟨trivial,trivial,?_⟩;rw[C7] at O H;refine We (n:=2) (H.perm (L':=(mb,[ag (ae X.hb),ag (ae eb),ag none,.slice none 0 0,.map (some q),.slice none 0 0])::((xb,lO sb (none,0,0))::(Lb++((eb,oB 0 sp wb)::(Lp++Q.L ca la (h0 m).s (dV Q X A (h0 m) (a8 Q A (h0 m).g (Ae 17)++L))))))) (cw λy=>by simp only[ae,Av,B1];omega)) 0 rfl rfl rfl λw7 H=>?_;have H0:iq Q X D G w0 w7 {mb:=mb,eb:=eb,xb:=xb,kb:=q,wb:=wb,sc:=(none,0,0),sm:=(none,0,0),sp:=sp,sb:=sb,so:=(none,0,0),Lc:=[],Lm:=[],Lp:=Lp,Lb:=Lb,Lo:=[],cr:=cr,ke:=[],we:=[],kk:=0,wk:=0,A:=λ_=>⟨0,0,(none,0,0),(none,0,0),none,[],[],[]⟩} (mZ m n 0 l) [] L []:=by
  refine⟨A,ca,la,W,Z,⟨dU.nil eP,dU.nil eMk,V5,hsb,dU.nil eI,by rw[O];exact Da.symm,iQ.nil,iQ.nil,λ{i x} t=>?_⟩,(H.perm (cw λy=>?_)).kW (cw λy=>?_)⟩
  ·have t:(Bv 0 (cL []))[i]? =some x:=t;rw[List.replicate_zero] at t;cases t
  ·show Bs y ([]++((mb,[ag (ae X.hb),ag (ae eb),ag (ae xb),.slice none 0 0,.map (some q),.slice none 0 0])::(eb,oB 0 sp wb)::(xb,lO sb (none,0,0))::([]++([]++(Lp++(Lb++[]))))++([]++(Q.L ca la (h0 m).s (dV Q X A (h0 m) (a8 Q A (h0 m).g (Ae 17)))++L))))= _;simp only[ae,Sys.L,Jo,E6,Av,B1,F0];omega
  ·show Bs y ((q,Obj.map ⟨[]⟩ 0)::(wb,Obj.map ⟨[]⟩ 0)::qE cr (Bv n [])++(de A (h0 m).g (Ae 17)++[]))= _;simp only[ae,Av,B1,F0];omega
 generalize u:({mb:=mb,eb:=eb,xb:=xb,kb:=q,wb:=wb,sc:=(none,0,0),sm:=(none,0,0),sp:=sp,sb:=sb,so:=(none,0,0),Lc:=[],Lm:=[],Lp:=Lp,Lb:=Lb,Lo:=[],cr:=cr,ke:=[],we:=[],kk:=0,wk:=0,A:=λ_=>⟨0,0,(none,0,0),(none,0,0),none,[],[],[]⟩}:MB)=B0 at H0;have u:B0.mb=mb:=by rw[<-u]
 refine⟨λk st N=> ∃(j:Nat) (B:MB),j<=n/\k=n - j/\st.1=(j:Int)/\B.mb=mb/\iq Q X D G w0 N B (mZ m n j l) [] L [],⟨n,λN h8=>⟨0,B0,Ff _,rfl,rfl,u,H0.ext h8⟩⟩,?_⟩;clear H H0 u;rintro k ⟨i, _⟩ N ⟨j,B,hj,hk',hi,rfl,HH⟩;have hi:i=(j:Int):=hi;have H:=HH;subst hi hk';dsimp only;refine ab (λc=>?_) (λc=>?_)
 ·have hj:j<n:=by have:=of_decide_eq_true c;omega
  obtain⟨r,P,v, _, _, _,J⟩:=H.tmp;refine λz E=>Uc (v.ext E).base.again l (λh=>by omega) (λ_ _ tb l5 F=>an rfl ⟨trivial,trivial,?_⟩) z (Ext.refl z);have H:iq Q X D G w0 l5 B (mZ m n j l) [(tb,dx (none,0,0) l)] L []:=J (T':=[(tb,dx (none,0,0) l)]) ((v.ext E).join F);refine H.sa (show _=some (B.sc.1,B.sc.2.1,B.sc.2.2) from rfl) (H.al λa mv H=>H.al λp va H Jy S_=>?_);have H:=H.ext S_;obtain⟨r,P,v,J⟩:=H.cps;have hlen:(mZ m n j l).cs.length=j:=Da;have T:=H.wf.c;rw[hlen] at J T;have F:=v.perm (L':=B.Lc++((B.mb,rC X B)::([(p,[ag (ae a)]),(a,[aa (j:Int),ag (ae tb),aa 0,aa 0,aa 0,ay 0,ay 0,ay 0,ag none,aa 0,ay 0,aa 0,aa 0,.slice none 0 0]),(tb,dx (none,0,0) l)]++r))) Fw;have hb:bM Jy p (cellsOf eP (ae a)):=F.base.dp _ (BO _ (B4 _ BL));refine Ho F T rfl (ys:=[some ⟨a,0,none⟩]) rfl (rF hb) rfl rfl (by rw[Db,EY,HM];omega) λs' d Jz fg K3=>⟨trivial,trivial,We (n:=3) (K3.perm Fw.symm) 0 rfl rfl rfl λXl K4 SL Wf=>⟨n - (j+1),by omega,j+1,sI B j s' d ⟨a,tb,(none,0,0),(none,0,0),none,[],[],[]⟩,by omega,rfl,?_,rfl,?_⟩⟩
  ·rw[ax (by omega) (by omega)];omega
  ·have K5:cM D G w0 Xl ((B.mb,rC X (sI B j s' d ⟨a,tb,(none,0,0),(none,0,0),none,[],[],[]⟩))::(d++(uk ⟨a,tb,(none,0,0),(none,0,0),none,[],[],[]⟩ j (cL []) (mZ m n j l).sz++([(p,[ag (ae a)])]++r)))) P:=K4.perm (cw λy=>by
    show Bs y ((B.mb,rC X (sI B j s' d ⟨a,tb,(none,0,0),(none,0,0),none,[],[],[]⟩))::(d++(((a,jY ⟨a,tb,(none,0,0),(none,0,0),none,[],[],[]⟩ j (cL []))::(tb,dx (none,0,0) l)::([]++([]++[])))++([(p,[ag (ae a)])]++r))))=Bs y ((B.mb,rC X (sI B j s' d ⟨a,tb,(none,0,0),(none,0,0),none,[],[],[]⟩))::(d++([(p,[ag (ae a)]),(a,jY ⟨a,tb,(none,0,0),(none,0,0),none,[],[],[]⟩ j (cL [])),(tb,dx (none,0,0) l)]++r)));simp only[ae,Av,B1,F0];omega)
   have U:=(J (T':=[(p,[ag (ae a)])]) (x:=cL []) fg ⟨dU.nil lE,dU.nil eI,λc=>(by cases c)⟩ K5).ext Wf;have e:({mZ m n j l with cs:=(mZ m n j l).cs++[cL []]}:MS)=mZ m n (j+1) l:=by
    show MS.mk _ _ _ _ _ _ _ _=MS.mk _ _ _ _ _ _ _ _;rw[List.replicate_succ']
   rw[e] at U;exact U.sub (Jq _)
 ·have:j=n:=by have:=of_decide_eq_false c;omega
  subst this;exact λz E=>V c1 c8 Q X B.rt z Y ⟨B,rfl,H.ext E⟩
end
theorem EM {ws:List Int} {p t:Int} {x:Int×Int×FT} (e:0<=x.2.1/\x.2.1<=3) (h1:(bG ws p t x).2.1= -1) (a:(bG ws p t x).2.2.2.2.2.1=0):1<=(bG ws p t x).2.2.2.1/\(bG ws p t x).2.2.2.1<=7:=by
 have b: ∀n:Nat,Fc n<=7:=λn=>by unfold Fc;split<;>omega
 have d: ∀{lv wt fr:Int} {ep:Bool} {er:Int} {el:Bool} {ef:Int},(xD lv wt fr ep er el ef).2.2.2.1=0->er<=7->1<=(xD lv wt fr ep er el ef).2.1/\(xD lv wt fr ep er el ef).2.1<=7:=λ{lv wt fr ep er el ef} h f=>by
  unfold xD at h ⊢;split
  grind
  ·rename_i c;rw[au c] at h;split
   ·rename_i c2;unfold gE at c2
    grind
   grind
 unfold bG at h1 a ⊢;rw[au (by omega)] at h1 a ⊢;split
 ·rename_i c;rw[az c] at a;exact absurd a (show ¬ (11:Int)=0 by decide)
 ·rename_i c;rw[au c] at h1 a;revert h1 a;generalize (B (dJ ws (dY x.1 p x.2.1))).toNat=N;intro h1 a;unfold tookS at h1 a ⊢;split
  ·rename_i c;rw[az c] at a;exact absurd a (show ¬ (4:Int)=0 by decide)
  ·rename_i c;rw[au c] at h1 a;split
   ·rename_i c;rw[az c] at h1;rw[Do,decide_eq_true_eq] at c;have h1:aY .i64 x.2.1 1= -1:=h1;rw[bD (by omega) (by omega)] at h1;omega
   ·rename_i c;rw[au c] at h1 a;split
    ·rename_i c;rw[az c] at a;exact d a (b N)
    ·rename_i c;rw[au c] at a;split
     ·rename_i c;rw[az c] at a;exact d a (b N)
     ·rename_i c;rw[au c] at a;exact absurd a (show ¬ (11:Int)=0 by decide)
structure MG (Q:Sys) (n k:Nat) (s:MS):Prop where
 Z6:xG n s
 Nb:M_ Q s.h.s
 now:s.ep.now<=(k:Int)
 ms:s.ms.length<=5000*k
 op:s.op.length<=k
 vm: ∀y∈s.cs,y.vm<9223372036854775808
section
variable {Q:Sys} {n k:Nat} {s:MS} {gh:Gh} {ta:Int->Bool}
theorem O8 (M:MI gh ta n s):s.ep.ws.length<=4096:=by
 have:=tn _ _ M.wn λf a=>by
  obtain⟨e,b,rfl⟩:=BK.1 a;obtain⟨m,d,h1,c, _⟩:=M.k5 _ (M.wk e b).1;rw[h1];exact BK.2 ⟨m,Bz.2 (B2.1 c).1,rfl⟩
 rw[Db,Db,EY] at this;have:=M.hi.inv.le;omega
theorem MG.bn (H:MG Q n k s) (d:k<=100000):Bn s:=by
 obtain⟨gh,ta,M⟩:=H.Z6;have f:=M.nn;have h1:=M.lc;have g:=M.lb;have h:=M.lp;have i:=M.sz;have l:=H.now;have m:=H.ms;have o:=H.op;have p:=O8 M;exact⟨by omega,by omega,by omega,⟨M.nw,by omega⟩,by omega,λe a=>(M.wk e a).2,by omega,by omega,λq b=>by
  obtain⟨j,c⟩:=H5 b;have:=M.box c;omega,by omega,M.tl,H.vm,M.ar⟩
theorem MG.rdy (H:MG Q n k s):BQ Q s.h:=by
 obtain⟨gh,ta,M⟩:=H.Z6;exact M.hi.rdy H.Nb
theorem MG.sx (H:MG Q n k s) (X:k<=100000) {i:Nat} {x:bZ} (u:s.cs[i]? =some x):Sx s i x:=by
 obtain⟨gh,ta,M⟩:=H.Z6;have g:=C6 u;have G:=M.ar x g;have Y:=H.op;have Z:=M.hi.inv.le;refine⟨M.ph x g,λb=>?_,λb I J=>?_,λA=>?_,λo=>?_,λB=>?_,λa q v=>?_⟩
 ·obtain⟨l,w1,K, _⟩:=M.wl u b;rw[w1];omega
 ·obtain⟨C,D,sg⟩:=M.ac x g b;obtain⟨l,w1,K,N,r⟩:=M.wl u b;have w:=xx ⟨G.1.1,D⟩;have L:x.wk=(x.wk.1,(l:Int),(0,0,0,0,())):=Dc rfl (Dc w1 N);obtain⟨O,P,hr,R,wy,sr⟩:=xv M C;have ui:=EM (x:=x.wk) (by rw[w1];omega) I J;have v:bA s.h.s O.root false (x.c.2.1 / 16)=((bG s.h.s.1 (x.c.2.1 / 16) (a9 x.c.1) x.wk).2.2.1,(bG s.h.s.1 (x.c.2.1 / 16) (a9 x.c.1) x.wk).2.2.2.1,0,()):=by
   rcases r with r|r
   ·rcases M.hi.inv.ql M.hi.nl (t:=a9 x.c.1) R w r with ⟨m, _,E,z,k3,k4⟩|⟨E,z⟩
    ·rw[<-L] at E;rw[I] at E;omega
    ·rw[<-L] at z;exact z J
   ·obtain⟨_,z⟩:=M.hi.inv.qm (t:=a9 x.c.1) w K r.1
    grind
  have S:jN s.h x.vm.toNat (x.c.2.1 / 16)=((bG s.h.s.1 (x.c.2.1 / 16) (a9 x.c.1) x.wk).2.2.1,(bG s.h.s.1 (x.c.2.1 / 16) (a9 x.c.1) x.wk).2.2.2.1,0,()):=by rw[bT P];exact v
  have T:m8 s.h x.vm.toNat (x.c.2.1 / 16)=some (bG s.h.s.1 (x.c.2.1 / 16) (a9 x.c.1) x.wk).2.2.1:=by rw[rK,S];rfl
  obtain⟨m,d,q_,U,d4, _⟩:=M.hi.Tm T;have:=(B2.1 U).1;unfold ZU
  grind
 ·obtain⟨⟨m,d,h1,b, _⟩, _⟩:=M.rc u A;have:=(B2.1 b).1;omega
 ·obtain⟨h1,b, _⟩:=M.wt x g o;refine⟨by omega,?_,λf F=>?_⟩
  ·have:=tn x.fs _ (M.fn x g o) λf F=>by
    obtain⟨m,d,h1,b, _⟩:=M.k5 _ (M.fk x g o f F).1;rw[h1];exact BK.2 ⟨m,Bz.2 (B2.1 b).1,rfl⟩
   grind
  ·obtain⟨m,d,h1,b, _⟩:=M.k5 _ (M.fk x g o f F).1;omega
 ·unfold l_ at B;simp only[Do,decide_eq_true_eq] at B;obtain⟨h0,C, _,D⟩:=B;have w:=xx ⟨G.1.1,D⟩;have hb:=(Mm M.hi C w).1;unfold uw at hb ⊢;simp only[LL,decide_eq_false_iff_not] at hb ⊢;refine⟨⟨hb.1.1,by omega⟩,?_⟩;unfold a9;split
  ·decide
  ·split<;>decide
 ·have h1:=M.fa v BL;obtain⟨j,y, _,A,o,V⟩:=(M.aq v).2 a BL;have h6:=(M.wt y (C6 A) o).1;have e:a.1=y.ak:=by rw[V]
  refine⟨⟨by omega,h1⟩,?_⟩;have W:=M.oc (a.1 - 1).toNat (by omega);rw[W];have h8:=Jt (p:=λq=>jz q (((a.1 - 1).toNat:Int)+1)) (l:=s.bx);have h9:=M.lb;have Hw:=M.nn;omega
structure Cn (s s':MS):Prop where
 now:s'.ep.now<=s.ep.now+1
 ms:s'.ms.length<=s.ms.length+5000
 op:s'.op.length<=s.op.length+1
 wd:s'.h.s.1.length=s.h.s.1.length
 vm: ∀y∈s'.cs,y.vm=0\/ ∃x∈s.cs,x.vm=y.vm
theorem Cn.same (s:MS):Cn s s:=⟨by omega,by omega,by omega,rfl,by grind⟩
theorem Cn.set {s':MS} (h:Cn s s') {i:Nat} {x:bZ} (y:bZ) (b:y.vm=0\/ ∃x∈s.cs,x.vm=y.vm):Cn s (cD s' i y):=by
 refine⟨h.now,h.ms,h.op,h.wd,λz a=>?_⟩;rcases ig a with rfl|a
 ·grind
 ·exact h.vm z a
theorem uI: ∀(l:List Int) (s:MS),(l.foldl ib s).h.s.1=s.h.s.1/\(l.foldl ib s).op=s.op/\(l.foldl ib s).ep=s.ep
 |[],s=>⟨rfl,rfl,rfl⟩
 |f::l,s=>by
  rw[G1,(uI l _).1,(uI l _).2.1,(uI l _).2.2];refine⟨?_,rfl,rfl⟩;show(iC _ f).1= _;unfold iC;grind
theorem Cn.free (a:s.ep.ws.length<=4096):Cn s (dL s).1:=by
 have b:(oy (fj s.ep)).length<=4096:=by
  unfold oy;rw[mV];rw[uH];grind
 unfold dL;refine⟨?_,?_,?_,?_,?_⟩
 ·rw[(uI _ _).2.2];exact(O7 _).2
 ·rw[Cu];grind
 ·rw[(uI _ _).2.1];grind
 ·rw[(uI _ _).1]
 ·rw[Cw];grind
theorem Cn.post {s':MS} (h:Cn s s') (b:s'.op=s.op) (bx:List (List AK)) (i:Nat) (t p:Int) (a:List (List AK)):Cn s {s' with bx:=a,op:=(dD bx s.op i t p).2.2}:=by
 refine⟨h.now,h.ms,?_,h.wd,h.vm⟩;unfold dD
 grind
theorem Cn.call {i:Nat} {x:bZ} (b:x∈s.cs):Cn s (iD s i x).1:=by
 have h1:Cn s {s with h:=kN _ x.vm x.c.1 x.c.2.1 x.c.2.2.1 x.c.2.2.2.1,kn:=s.kn++eR s (kN s.h x.vm x.c.1 x.c.2.1 x.c.2.2.1 x.c.2.2.2.1),ms:=s.ms++[(1,x.vm,0,x.c,xF s.h x.vm x.c.1 x.c.2.1 x.c.2.2.1 x.c.2.2.2.1,sd s.h x.vm x.c.1 x.c.2.1 x.c.2.2.1 x.c.2.2.2.1)]}:=
  ⟨by grind,by simp,by simp,O4 ..,by grind⟩
 have a: ∀y:bZ,y.vm=x.vm->y.vm=0\/ ∃x∈s.cs,x.vm=y.vm:=λy e=> .inr (by grind);unfold iD;dsimp;split
 ·split
  ·exact h1.set (x:=x) _ (a _ rfl)
  ·exact(h1.post rfl _ _ _ _ _).set (x:=x) _ (a _ rfl)
 ·exact h1.set (x:=x) _ (a _ rfl)
theorem Cn.phase (d:s.ep.ws.length<=4096) {i:Nat} {x:bZ} (f:x∈s.cs):Cn s (bV s i x).1:=by
 have b: ∀y:bZ,y.vm=x.vm->y.vm=0\/ ∃x∈s.cs,x.vm=y.vm:=λy e=> .inr ⟨x,f,e.symm⟩;have c: ∀e:vh,e.now=s.ep.now->Cn s {s with ep:=e}:=λe h=>⟨by show e.now<= _;omega,by show s.ms.length<= _;omega,by show s.op.length<= _;omega,rfl,λy a=> .inr ⟨y,a,rfl⟩⟩;have g:(z5 s.ep i).now=s.ep.now:=by unfold z5;split<;>rfl
 unfold bV;split
 ·exact Cn.free d
 split
 ·unfold dy;split
  ·dsimp only;split<;>exact(c _ g).set (x:=x) _ (b _ rfl)
  split
  ·exact Cn.same s
  split
  ·exact Cn.free d
  ·exact Cn.call f
 split
 ·unfold k_;dsimp only;split
  ·exact(Cn.same s).set (x:=x) _ (b _ rfl)
  split
  ·exact(c (uB s.ep i) rfl).set (x:=x) _ (b _ rfl)
  ·exact(Cn.same s).set (x:=x) _ (b _ rfl)
 split
 ·unfold fY;dsimp only;split
  ·exact⟨by show s.ep.now<= _;omega,by simp,by show s.op.length<= _;omega,cF ..,λy a=> .inr ⟨y,a,rfl⟩⟩
  ·exact⟨by show s.ep.now<= _;omega,by grind,by show s.op.length<= _;omega,rfl,λy a=> .inr ⟨y,a,rfl⟩⟩
 ·unfold iE;split
  ·exact c _ (yU _ _).1
  ·exact Cn.same s
theorem Cn.step (g:s.ep.ws.length<=4096) (c:Int):Cn s (cd s c).1:=by
 have h: ∀{i:Nat} {x:bZ},x∈s.cs->Cn s (iR (bV s i x) i x).1:=λ{i x} d=>by
  unfold iR;split
  ·exact(Cn.phase g d).set (x:=x) _ (.inl rfl)
  ·exact Cn.phase g d
 unfold cd;split
 ·exact Cn.same s
 split
 ·exact Cn.same s
 ·rename_i x k;have d:=C6 k;unfold lS;split
  ·exact h d
  ·split
   ·rename_i a s1 f;unfold xK at f;split at f
    ·cases f;have l: ∀y:bZ,y.vm=x.vm->y.vm=0\/ ∃x∈s.cs,x.vm=y.vm:=λy e=> .inr ⟨x,d,e.symm⟩;have h0: ∀(b:List (List AK)) (j:Nat) (v:Int),Cn s {s with bx:=b,op:=s.op.set j v}:=λb j v=>⟨by grind,by simp,by simp,rfl,by grind⟩;exact(h0 _ _ _).set (x:=x) _ (l _ rfl)
    ·cases f
   ·exact h d
theorem MG.step (H:MG Q n k s) (c:Int):MG Q n (k+1) (cd s c).1:=by
 obtain⟨gh,ta,M⟩:=H.Z6;have C:=Cn.step (O8 M) c;have h1:=H.now;have d:=H.ms;have f:=H.op;have g:=C.now;have h:=C.ms;have i:=C.op;refine⟨H.Z6.step c,⟨by rw[C.wd];exact H.Nb.1,by rw[C.wd];exact H.Nb.2⟩,by omega,by omega,by omega,λy a=>?_⟩;rcases C.vm y a with e|⟨x,b,e⟩
 ·grind
 ·rw[<-e];exact H.vm x b
theorem MG.ask (H:MG Q n k s) (c vm:Int) (hv:vm<9223372036854775808) {ct:CT} (hc:dh ct.2.1/\dh ct.2.2.1/\dh ct.2.2.2.1):MG Q n k (fP s c vm ct):=by
 refine⟨H.Z6.ask c vm hc,?_,?_,?_,?_,?_⟩<;>unfold fP
 ·split
  ·exact H.Nb
  ·split
   ·exact H.Nb
   ·split<;>exact H.Nb
 ·split
  ·exact H.now
  ·split
   ·exact H.now
   ·split<;>exact H.now
 ·split
  ·exact H.ms
  ·split
   ·exact H.ms
   ·split<;>exact H.ms
 ·split
  ·exact H.op
  ·split
   ·exact H.op
   ·split<;>exact H.op
 ·split
  ·exact H.vm
  ·split
   ·exact H.vm
   ·split
    ·intro y a;rcases ig a with rfl|a
     ·grind
     ·exact H.vm y a
    ·exact H.vm
theorem MG.new {f:Nat} {l:Int} (a:4<=f/\f<=4096) (b:1<=n/\n<=8) (d:1<=l/\l<=64) (g:Q.c=16*f):MG Q n 0 (m0 f n l):=by
 refine⟨xG.new a b d,⟨?_,?_⟩,CO _,E9 _,E9 _,λy e=>?_⟩
 ·show(Bv _ _).length<=Q.c
  grind
 ·show(Bv _ 0).length<= _
  grind
 ·rw[DB e];decide
end
noncomputable def U4:dj Ab:={U2 with quiet:=[49,50,17]++U2.quiet}
def qV:Nat->aZ:=(λ|5=>[(10,Go.RX.El.one (Go.RX.Sc.int EO))]| _=>[])
theorem Mw (f c l:Int) (w:A2) (d:Option Ad×Bool×Unit->A2->Prop):(aN U4 qV 15 [aa f,aa c,aa l] w d)=(
 aD Ab 52 (.bu [.one .ptr,.one (.int .i64)]) [aa f,aa c,aa l] w λ(x:Option Ad×Int×Unit) a=>aL (x.2.1 != 0||x.1.isNone) (ao a (d (none,false,()))) (∃(I:Nat->Int×Unit->A2->Prop),(∃n, ∀w1,Ext a w1->I n (0,()) w1)/\ ∀(n:Nat) (s:Int×Unit) (w1:A2),I n s w1->aL (decide (s.1<2)) (aD Ab 29 (.el aV) [ag x.1,aa 0,aa 0,.agg ⟨[aa 1,ay 0,ay 0,ay 0]⟩] w1 λ(h:Int) a=>aL (h != 0) (ao a (d (none,false,()))) (aD
 Ab 31 (.bu [.agg [.int .u64,.int .i64],.one .bool]) [ag x.1,aa 0] a λ(x:(Int×Int×Unit)×Bool×Unit) a=>aK a ⟨[ay 0,aa 0]⟩ 61 λb a=>aC a (ae b) [ay x.1.1,aa x.1.2.1] λa=>((!!x.2.1)=true->true=true)/\aj a (some !!x.2.1) (ad (ae b) 0) ou λ(i:Int)=>aL (!x.2.1||i != aw .u64 (aB .i64 1 s.1)) (ao a (d (none,false,()))) (∀e,Ext a e-> ∃(g:Nat),g<n/\I g (aB .i64 s.1 1,()) e))) (ao w1 (d (x.1,true,()))))):=by kernel_rfl
def qW:Nat->aZ:=(λ_=>[])
theorem Mx (w:A2) (c:Bool->A2->Prop):(aN U4 qW 28 [] w c)=(
 aD Ab 15 (.bu [.one .ptr,.one .bool]) [aa 30,aa 1,aa 2] w λx a=>aL (!x.2.1) (ao a (c false)) (aD Ab 29 (.el aV) [ag x.1,aa 0,aa 1,.agg ⟨[aa 3,ay 1,ay 3,ay 0]⟩] a λ(e:Int) a=>aD Ab 31 (.bu [.agg [.int .u64,.int .i64],.one .bool]) [ag x.1,aa 0] a λ(x:(Int×Int×Unit)×Bool×Unit) a=>aK a ⟨[ay 0,aa 0]⟩ 61 λb a=>aC a (ae b) [ay x.1.1,aa x.1.2.1] λa=>aj a (some x.2.1) (ae b) cK λ(d:
 Int×Int×Unit)=>ao a λw1=>c (x.2.1&&(d.1==2&&(d.2.1==0&&true))) w1)):=by kernel_rfl
def kA:MS:=fP (JV 30 2 4) 0 1 (3,5,3,0,())
def kB:MS:=(cd kA 0).1
def kC:MS:=fP kB 1 1 (7,81,7,0,())
def kD (j:Nat):MS:=j.rec kC λ_ s=>(cd s 1).1
def kE:MS:=fP (kD 6) 0 1 (4,5,0,0,())
def aA:MS:=fP (JV 30 1 2) 0 1 (3,1,3,0,())
theorem abA:(cd aA 0).2=((2,0),true):=by decide+kernel
section
variable {Q:Sys} {X:HX} {D G:List Nat} {w0 w w1:A2} {R:MR} {s:MS} {T L:List (Nat×List AC)} {M:List (Nat×BJ)} {n k:Nat}
theorem Jm (H:MU Q X D G w0 w R s T L M) (a:MG Q n k s) (b:k<=100000) (c:Int) {K:BA->A2->Prop}
 (kk: ∀d,MU Q X D G w0 d R (cd s c).1 T L M->K (((cd s c).2.1.1,(cd s c).2.1.2,()),(cd s c).2.2,()) d):
 aD Ab 31 Ng [ag (ae R.mb),aa c] w K:=
 Sw H (a.bn b) a.rdy (λ_ _ e=>a.sx b e) c kk
theorem abB {f n:Nat} {l:Int} {j:Nat} {s:MS} (B:Bg f n l j s) (a:j<16) (b:j<f) (c:1<=n):(cd (fP s 0 0 zC) 0).2=((((j+1:Nat):Int),0),true)/\Bg f n l (j+1) (cd (fP s 0 0 zC) 0).1/\Df s 0=0:=B.JU a b c
theorem My (H:aJ D G w0 w L) (f c:Nat) (l:Int) (o:20<=f/\f<=4096) (hc:1<=c/\c<=8) (a:1<=l/\l<=64) {K:Option Ad×Bool×Unit->A2->Prop}
 (p: ∀Q X R w1,MU Q X D G w0 w1 R (JV f c l) [] L []->MG Q c 2 (JV f c l)->K (some ⟨R.mb,0,none⟩,true,()) w1):
 aD Ab 15 (.bu [.one .ptr,.one .bool]) [aa (f:Int),aa (c:Int),aa l] w K:=by
 refine aD.go H λw1 H=>ai (C:=U4) (aT:=qV) (B5 (Mw _ _ l w1 K) ?_);refine wY H _ _ l (by omega) a (λh=>by omega) λ_ _ Q X R E e H=>an rfl ?_;rw[C7,C7] at H;rw[C7] at e;have hb:JV f c l=(cd (fP (cd (fP (m0 f c l) 0 0 zC) 0).1 0 0 zC) 0).1:=rfl;refine⟨λn st d=> ∃(j:Nat) (s:MS),j<=2/\n=2 - j/\st.1=(j:Int)/\Bg f c l j s/\(j=0->s=m0 f c l)/\(j=1->s=(cd (fP (m0 f c l) 0 0 zC) 0).1)/\(j=2->s=JV f c l)/\MG Q c j s/\MU Q X D G w0 d R s [] L [],⟨2,λd q=>⟨0,m0 f c l,by omega,rfl,rfl,Bg.new o hc a,λ_=>rfl,λh=>(by cases h),λh=>(by cases h),MG.new (by omega) hc a e,H.ext q⟩⟩,?_⟩;clear H;rintro n ⟨r, _⟩ d ⟨j,s,F,t,hi,u,v,x,g,i,H⟩;have hi:r=(j:Int):=hi;subst hi t;dsimp only;refine ab (λcc=>?_) (λcc=>?_)
 ·have I:j<2:=by have:=of_decide_eq_true cc;omega
  obtain⟨y,z,A⟩:=abB u (by omega) (by omega) hc.1;have k:MG Q c j (fP s 0 0 zC):=i.ask 0 0 (by decide) ⟨⟨by decide,by decide⟩,⟨by decide,by decide⟩,⟨by decide,by decide⟩⟩;refine Jl H 0 0 1 λm H=>?_;rw[A];refine an rfl (Jm H k (by omega) 0 λJ H=>?_);rw[y];refine H.al λb M H=>H.st 0 rfl rfl rfl λN H=>⟨λ_=>rfl,H.cI 0 rfl (show _=some ((j+1:Nat):Int) from rfl) (an ?_ λO B=>⟨2 - (j+1),by omega,j+1,(cd (fP s 0 0 zC) 0).1,by omega,rfl,?_,z,λh=>(by omega),λh=>?_,λh=>?_,k.step 0,(MU.sub H (Jq _)).ext B⟩)⟩
  ·have:j=0\/j=1:=by omega
   rcases this with rfl|rfl<;>decide
  ·rw[ax (by omega) (by omega)];omega
  ·rw[v (by omega)]
  ·rw[hb,x (by omega)]
 ·have:j=2:=by have:=of_decide_eq_false cc;omega
  subst this;refine H.en λm H=>p Q X R m (by rw[<-g rfl];exact H) (by rw[<-g rfl];exact i)
end
section
variable {Q:Sys} {X:HX} {D G:List Nat} {w0 w w1:A2} {R:MR} {s:MS} {T L:List (Nat×List AC)} {M:List (Nat×BJ)} {n k:Nat}
theorem Mz (w:A2):aE Ab 28 (.el (.one .bool)) [] w (λb w'=>b=true/\Ext w w'):=by
 refine ai (C:=U4) (aT:=qW) (B5 (Mx w _) ?_);refine My (At.start [] w) 30 1 2 (by omega) (by omega) (by omega) λQ X R w1 H a=>an rfl ?_;refine Jl H 0 1 3 λd H=>?_;have c:MG Q 1 2 aA:=a.ask 0 1 (by decide) ⟨⟨by decide,by decide⟩,⟨by decide,by decide⟩,⟨by decide,by decide⟩⟩;refine Jm (s:=aA) H c (by decide) 0 λe H=>?_;rw[abA];generalize (cd aA 0).1=s2 at H;exact H.al λb f H=>H.st 0 rfl rfl rfl λg H=>H.ld 0 rfl (show _=some (2,0,()) from rfl) (H.en λh H=>⟨rfl,H.all⟩)
end
noncomputable def U5:dj Ab:={U4 with quiet:=[25,19,21]++U4.quiet}
noncomputable def U6:dj Ab:={U5 with quiet:=[27]++U5.quiet}
def qX:Nat->aZ:=(λ|8=>[(9,Go.RX.El.one Go.RX.Sc.slice),(10,Go.RX.El.one (Go.RX.Sc.int EO))]|15=>[(13,Go.RX.El.one (Go.RX.Sc.int EO)),(14,Go.RX.El.one (Go.RX.Sc.int EO))]|35=>[(25,Go.RX.El.one (Go.RX.Sc.int EO)),(26,Go.RX.El.one (Go.RX.Sc.int EO))]| _=>[])
theorem MC (n:Int) (p:Option Ad) (m c:Nat) (w:A2) (i:Bool->A2->Prop):(aN U6 qX 5 [.int .u8 n,.slice p m c] w i)=(
 aD Ab 33 (.bu [.one .ptr,.one (.int .i64)]) [aa 4] w λ(x:Option Ad×Int×Unit) a=>aL (x.2.1 != 0||x.1.isNone) (ao a (i false)) (aK a ⟨[aa 0]⟩ 69 λb a=>aC a (ae b) [aa 0] λa=> ∃(I:Nat->(Option Ad×Nat×Nat)×Int×Unit->A2->Prop),(∃n, ∀w1,Ext a w1->I n ((none,0,0),0,()) w1)/\ ∀(o:Nat) (s:(Option Ad×Nat×Nat)×Int×Unit) (w1:A2),I o s w1->aL (decide (s.2.1<aB .i64 1 (bH (aw .i64 n) 6))) (aj w1 none (ae b) (.agg [.int .i64]) λ(x:Int×Unit)=>aD Ab 34
 (.el kQ) [.agg ⟨[aa x.1]⟩] w1 λx a=>aK a ⟨[ag x]⟩ 71 λb a=> ∀w1,Ext a w1->m7 w1 71 1 8 ⟨[ag none]⟩ (s.1.1,s.1.2.1,s.1.2.2) (some ⟨b,0,none⟩,1,1) λ(r:Option Ad×Nat×Nat) a=> ∀e,Ext a e-> ∃(f:Nat),f<o/\I f ((r.1,r.2.1,r.2.2),aB .i64 s.2.1 1,()) e) (E7 w1 8 1 (aB .i64 1 (bH (aw .i64 n) 6)) (aB .i64 1 (bH (aw .i64 n) 6)) ⟨[aa 0]⟩ 3 λb a=>E7 a 8 1 (aB .i64 1 (bH (aw .i64 n) 6)) (aB .i64 1 (bH (aw .i64 n) 6)) ⟨[ay 0]⟩ 29 λq a=> ∃(I:Nat->Int×Int×
 Unit->A2->Prop),(∃n, ∀w1,Ext a w1->I n (0,0,()) w1)/\ ∀(h:Nat) (g:Int×Int×Unit) (w1:A2),I h g w1->aL (decide (g.2.1<(↑m:Int))&&decide (g.2.1<300)) ((p.isSome=true/\0<=g.2.1/\g.2.1<(↑m:Int))/\aj w1 none (ad p (Int.toNat g.2.1*1)) (.one (.int .u8)) λ(d:Int)=>aB .i64 1 (bH (aw .i64 n) 6)≠0/\(s.1.1.isSome=true/\0<=bH (aw .i64 d) (aB .i64 1 (bH (aw .i64 n) 6))/\bH (aw .i64 d) (aB .i64 1 (bH (aw .i64 n) 6))<(↑s.1.2.1:Int))/\aj w1 none (ad s.1.1 ((bH (aw .i64
 d) (aB .i64 1 (bH (aw .i64 n) 6))).toNat*1)) kQ λj=>aD Ab 35 (.bu [.one (.int .i64),.one (.int .u64)]) [ag j] w1 λ(k:Int×Int×Unit) a=>((!k.1 != 2)=true->true=true/\0<=bH (aw .i64 d) (aB .i64 1 (bH (aw .i64 n) 6))/\bH (aw .i64 d) (aB .i64 1 (bH (aw .i64 n) 6))<(↑(aB .i64 1 (bH (aw .i64 n) 6)).toNat:Int))/\aj a (some !k.1 != 2) (ad (ae b) ((bH (aw .i64 d) (aB .i64 1 (bH (aw .i64 n) 6))).toNat*1)) aV λ(t:Int)=>aL (k.1 != 2||t==2) (aD Ab 36 (.el
 aV) [ag j,ag x.1] a λ(x:Int) a=>aD Ab 35 (.bu [.one (.int .i64),.one (.int .u64)]) [ag j] a λ(x:Int×Int×Unit) a=>aL (k.1 != 3&&x.1==3) (∀e,Ext a e-> ∃(f:Nat),f<h/\I f (aB .i64 g.1 1,aB .i64 g.2.1 1,()) e) (∀e,Ext a e-> ∃(f:Nat),f<h/\I f (g.1,aB .i64 g.2.1 1,()) e)) ((true=true/\0<=bH (aw .i64 d) (aB .i64 1 (bH (aw .i64 n) 6))/\bH (aw .i64 d) (aB .i64 1 (bH (aw .i64 n) 6))<(↑(aB .i64 1 (bH (aw .i64 n) 6)).toNat:Int))/\
 aj a none (ad (ae b) ((bH (aw .i64 d) (aB .i64 1 (bH (aw .i64 n) 6))).toNat*1)) aV λ(u:Int)=>aL (u==0) (aD Ab 37 (.bu [.one (.int .u64),.one (.int .i64)]) [ag x.1,aa 3] a λ(x:Int×Int×Unit) a=>(true=true/\0<=bH (aw .i64 d) (aB .i64 1 (bH (aw .i64 n) 6))/\bH (aw .i64 d) (aB .i64 1 (bH (aw .i64 n) 6))<(↑(aB .i64 1 (bH (aw .i64 n) 6)).toNat:Int))/\aC a (ad (ae q) ((bH (aw .i64 d) (aB .i64 1 (bH (aw .i64 n) 6))).toNat*1)) [ay x.1] λa=>(true=
 true/\0<=bH (aw .i64 d) (aB .i64 1 (bH (aw .i64 n) 6))/\bH (aw .i64 d) (aB .i64 1 (bH (aw .i64 n) 6))<(↑(aB .i64 1 (bH (aw .i64 n) 6)).toNat:Int))/\aC a (ad (ae b) ((bH (aw .i64 d) (aB .i64 1 (bH (aw .i64 n) 6))).toNat*1)) [aa 1] λa=> ∀e,Ext a e-> ∃(f:Nat),f<h/\I f (g.1,aB .i64 g.2.1 1,()) e) ((true=true/\0<=bH (aw .i64 d) (aB .i64 1 (bH (aw .i64 n) 6))/\bH (aw .i64 d) (aB .i64 1 (bH (aw .i64 n) 6))<(↑(aB .i64 1 (bH (aw .i64 n) 6)).toNat:
 Int))/\aj a none (ad (ae q) ((bH (aw .i64 d) (aB .i64 1 (bH (aw .i64 n) 6))).toNat*1)) ou λ(v:Int)=>aD Ab 38 (.el aV) [ag x.1,aa 3,ay (aB .u64 v 1)] a λ(x:Int) a=>(true=true/\0<=bH (aw .i64 d) (aB .i64 1 (bH (aw .i64 n) 6))/\bH (aw .i64 d) (aB .i64 1 (bH (aw .i64 n) 6))<(↑(aB .i64 1 (bH (aw .i64 n) 6)).toNat:Int))/\aC a (ad (ae b) ((bH (aw .i64 d) (aB .i64 1 (bH (aw .i64 n) 6))).toNat*1)) [aa 2] λa=>aD Ab 39 (.el oI) [.pointer
 j] a λx a=> ∀e,Ext a e-> ∃(f:Nat),f<h/\I f (g.1,aB .i64 g.2.1 1,()) e))) (aD Ab 37 (.bu [.one (.int .u64),.one (.int .i64)]) [ag x.1,aa 3] w1 λ(x:Int×Int×Unit) a=> ∃(I:Nat->Int×Int×Unit->A2->Prop),(∃n, ∀w1,Ext a w1->I n (0,0,()) w1)/\ ∀(l:Nat) (s:Int×Int×Unit) (w1:A2),I l s w1->aL (decide (s.2.1<aB .i64 1 (bH (aw .i64 n) 6))) ((true=true/\0<=s.2.1/\s.2.1<(↑(aB .i64 1 (bH (aw .i64 n) 6)).toNat:Int))/\aU w1 (ad (ae b) (Int.toNat s.2.1*1))
 λx=>aL (x==2) (∀e,Ext w1 e-> ∃(f:Nat),f<l/\I f (aB .i64 s.1 1,aB .i64 s.2.1 1,()) e) (∀e,Ext w1 e-> ∃(f:Nat),f<l/\I f (s.1,aB .i64 s.2.1 1,()) e)) (aL (x.1==aw .u64 s.1&&decide (g.1<=s.1)) (aD Ab 28 (.el oI) [] w1 λx a=>ao a (i x)) (ao w1 (i false))))))):=by kernel_rfl
end Go.Proofs.YtlcenllcmeebhaaGreat.Mu
namespace Go.RX
set_option maxRecDepth 100000
variable {P:Program}
theorem t_ {b:Frame} {a:Act} {k:List Item} {cs:List Frame} {w:A2} {c:Code}:
 step P (lone (b.atR a (.code (.scope c)::k)) cs w)= .next (lone (b.atR a (.code c:: .inScope c::k)) cs w):=
 step_lone_go (by simp[stepG,stepG.exec,Frame.atR])
theorem zy {b:Frame} {a:Act} {k:List Item} {cs:List Frame} {w:A2} {c:Code}:
 step P (lone (b.atR a (.inScope c::k)) cs w)= .next (lone (b.atR a k) cs w):=
 step_lone_go (by simp[stepG,stepG.exec,Frame.atR])
def Wc (Q:Exit->Act->A2->Prop):Exit->Act->A2->Prop
 | .goto _, _, _=>False
 |e,a,w=>Q e a w
def inG (F:Fence) (c:Code) (P:Program) (Q:Exit->Act->A2->Prop):Exit->Act->A2->Prop
 | .goto l,a,w=> ∃rest,findLabel c l=some rest/\rest.wpIn F 0 P (Wc Q) a w
 |e,a,w=>Q e a w
theorem wj {F:Fence} {m:Machine} {b:Frame} {k:List Item} {cs:List Frame} {c:Code} {e:Exit} {a:Act} {w:A2} (hb:b.roundOf=F.round) (g:F.fn b.fn) (d:F.room (cs.length+1+0))
 (i: ∀l,e≠ .goto l) (h:ArrivesIn (Machine.fenced P F) P m b (.inScope c::k) cs e a w):ArrivesIn (Machine.fenced P F) P m b k cs e a w:=by
 cases e with
 |normal=>exact StepsIn.trans h (.one (fenced_calm g d rfl) zy)
 |exit id=>exact⟨λj f=>h.1 j (by simp[exitTo,f]),λd f=>h.2 d (by simp[exitTo,f])⟩
 |goto l=>exact absurd rfl (i l)
 |ret=>exact h
 |panic ch=>exact h
 |outgrown=>exact h
theorem EN {F:Fence} {Q:Exit->Act->A2->Prop} {c:Code} {a:Act} {w:A2} (h:c.wpIn F 0 P (inG F c P Q) a w):(Code.scope c).wpIn F 0 P (Wc Q) a w:=by
 intro b k cs g hb f;have h0:(lone (b.atR a (.code (.scope c)::k)) cs w).fenced P F:=fenced_calm hb f rfl;obtain⟨e,i,j,m,n⟩:=h b (.inScope c::k) cs g hb f;have go: ∀e,(∀l,e≠ .goto l)->inG F c P Q e i j->Wc Q e i j:=λe d h=>by cases e<;>first|exact absurd rfl (d _)|exact h
 cases e with
 |goto l=>
  obtain⟨rest,q,r⟩:=m;have s:gotoIn l (.inScope c::k)=some (.code rest:: .inScope c::k):=by simp[gotoIn,q]
  obtain⟨o,t,u,p,v⟩:=r b (.inScope c::k) cs g hb f;have x: ∀l,o≠ .goto l:=λl d=>by subst d;exact p
  exact⟨o,t,u,p,.of_steps (.one h0 t_) (.of_steps (n.1 _ s) (wj g hb f x v))⟩
 | _=>exact⟨_,i,j,go _ (λl d=>by cases d) m,.of_steps (.one h0 t_) (wj g hb f (λl d=>by cases d) n)⟩
def jI (C:dj P) (N:Nat):Code->List bF->A2->(List bF->A2->Prop)->(Nat->List bF->A2->Prop)->(Nat->List bF->A2->Prop)->(List bF->A2->Prop)->Prop
 | .skip,env,w,Kn, _, _, _=>Kn env w
 | .label _,env,w,Kn, _, _, _=>Kn env w
 | .region _ ops e,env,w,Kn, _, _, _=>HL C N ops e env w Kn
 | .seq x y,env,w,Kn,Kx,a,Kr=>jI C N x env w (λenv w=>jI C N y env w Kn Kx a Kr) Kx a Kr
 | .cond c x y,env,w,Kn,Kx,a,Kr=>match wS env [] c with
   |some (.bool b)=>aL b (jI C N x env w Kn Kx a Kr) (jI C N y env w Kn Kx a Kr)
   | _=>False
 | .block id x,env,w,Kn,Kx,a,Kr=>jI C N x env w Kn (λd env w=>if d=id then Kn env w else Kx d env w) a Kr
 | .exit id,env,w, _,Kx, _, _=>Kx id env w
 | .goto l,env,w, _, _,a, _=>a l env w
 | .ret,env,w, _, _, _,Kr=>Kr env w
 | _, _, _, _, _, _, _=>False
def Qg (S:Nat->Option (Option AC)) (N:Nat) (D:List Deferred) (Kn:List bF->A2->Prop) (Kx c:Nat->List bF->A2->Prop) (Kr:List bF->A2->Prop):Exit->Act->A2->Prop
 | .normal,a,w=> ∃env b,Kn env b/\plain env/\Fit S #[] N D env a/\Ext b w
 | .exit id,a,w=> ∃env b,Kx id env b/\plain env/\Fit S #[] N D env a/\Ext b w
 | .goto l,a,w=> ∃env b,c l env b/\plain env/\Fit S #[] N D env a/\Ext b w
 | .ret,a,w=> ∃env b,Kr env b/\plain env/\Fit S #[] N D env a/\Ext b w
 | _, _, _=>False
theorem rV {r:Option Nat} {C:dj P} {S:Nat->Option (Option AC)} {N:Nat} {D:List Deferred}: ∀(c:Code) (env:List bF) (a:Act) (w w':A2) (Kn:List bF->A2->Prop) (Kx i:Nat->List bF->A2->Prop) (Kr:List bF->A2->Prop),
 (∀k∈writes c,S k=none)->plain env->Fit S #[] N D env a->jI C N c env w Kn Kx i Kr->Ext w w'->c.wpIn (WF r) 0 P (Qg S N D Kn Kx i Kr) a w':=by
 intro c
 induction c with
 |skip=>exact λenv a w w' Kn Kx i Kr _ f d h g=>wpIn_skip ⟨env,w,h,f,d,g⟩
 |label l=>exact λenv a w w' Kn Kx i Kr _ f d h g=>wpIn_label ⟨env,w,h,f,d,g⟩
 |region id ops F=>
  intro env a w w' Kn Kx i Kr m f d h g;refine wpIn_mono (DI (Kx:=λ_ _ _=>False) (Kr:=λ_ _=>False) m f d h g) λe a w n=>?_;cases e with
  |normal=>exact n
  |exit id=>obtain⟨_, _,h, _⟩:=n;exact h.elim
  |ret=>obtain⟨_, _,h, _⟩:=n;exact h.elim
  | _=>exact(show False from n).elim
 |seq x y p q=>
  intro env a w w' Kn Kx i Kr m f d h g;refine wpIn_seq (wpIn_mono (p env a w w' _ Kx i Kr (λk j=>m k (by simp[writes,j])) f d h g) ?_);intro e a1 w1 n;cases e with
  |normal=>
   obtain⟨cJ,o,j,u,v,z⟩:=n;exact q cJ a1 o w1 Kn Kx i Kr (λk j=>m k (by simp[writes,j])) u v j z
  | _=>exact n
 |cond c x y p q=>
  intro env a w w' Kn Kx i Kr m f d h g;simp only[jI] at h;split at h
  ·rename_i b hb;have A:=d.ev (ch:=[]) (λ_ B=>by cases B) hb;exact wpIn_cond_split A (λs=>p env a w w' Kn Kx i Kr (λk j=>m k (by simp[writes,j])) f d (yw h s) g) (λs=>q env a w w' Kn Kx i Kr (λk j=>m k (by simp[writes,j])) f d (uK h s) g)
  ·exact Cb h
 |block id x E=>
  intro env a w w' Kn Kx i Kr m f d h g;refine wpIn_block (wpIn_mono (E env a w w' Kn _ i Kr m f d h g) ?_);intro e a1 w1 n;cases e with
  |exit G=>
   obtain⟨cJ,o,j,rest⟩:=n;simp only[Exit.inBlock];split
   ·rename_i t;simp only[t,if_true] at j;exact⟨cJ,o,j,rest⟩
   ·rename_i t;simp only[t,if_false] at j;exact⟨cJ,o,j,rest⟩
  | _=>exact n
 |exit id=>exact λenv a w w' Kn Kx i Kr _ f d h g=>wpIn_exit ⟨env,w,h,f,d,g⟩
 |goto l=>exact λenv a w w' Kn Kx i Kr _ f d h g=>wpIn_goto ⟨env,w,h,f,d,g⟩
 |ret=>exact λenv a w w' Kn Kx i Kr _ f d h g=>wpIn_ret ⟨env,w,h,f,d,g⟩
 | _=>exact λenv a w w' Kn Kx i Kr m f d h g=>Cb h
def N9 (C:dj P) (N:Nat) (c:Code) (env:List bF) (w:A2) (fin:List bF->A2->Prop):Prop:=match c with
 | .seq x (.scope y)=>jI C N x env w (λenv w=>jI C N y env w fin (λ_ _ _=>False) (λl env w=>match findLabel y l with
  |some rest=>jI C N rest env w fin (λ_ _ _=>False) (λ_ _ _=>False) fin
  |none=>False) fin) (λ_ _ _=>False) (λ_ _ _=>False) fin
 | _=>False
def Qe (S:Nat->Option (Option AC)) (N:Nat) (D:List Deferred) (fin:List bF->A2->Prop):Exit->Act->A2->Prop
 | .normal,a,w=> ∃env b,fin env b/\plain env/\Fit S #[] N D env a/\Ext b w
 | .ret,a,w=> ∃env b,fin env b/\plain env/\Fit S #[] N D env a/\Ext b w
 | _, _, _=>False
theorem Sy {r:Option Nat} {C:dj P} {N:Nat} {D:List Deferred} {c:Code} {env:List bF} {a:Act} {w w':A2} {fin:List bF->A2->Prop}
 (f:plain env) (g:Fit (λ_=>none) #[] N D env a) (h:N9 C N c env w fin) (i:Ext w w'):c.wpIn (WF r) 0 P (Qe (λ_=>none) N D fin) a w':=by
 unfold N9 at h;split at h
 ·rename_i x y;refine wpIn_seq (wpIn_mono (rV x env a w w' _ _ _ _ (λ_ _=>rfl) f g h i) ?_);intro e a1 w1 b;cases e with
  |normal=>
   obtain⟨cJ,j,k,m,n,o⟩:=b;refine wpIn_mono (Q:=Wc (Qe (λ_=>none) N D fin)) (EN (wpIn_mono (rV y cJ a1 j w1 _ _ _ _ (λ_ _=>rfl) m n k o) ?_)) (λe a w b=>by
    cases e with
    |goto l=>exact Cb b
    | _=>exact b)
   intro e p q b;cases e with
   |normal=>exact b
   |ret=>exact b
   |exit id=>obtain⟨_, _,h, _⟩:=b;exact h.elim
   |goto l=>
    obtain⟨s,t,d,u,v,z⟩:=b;split at d
    ·rename_i rest A;refine⟨rest,A,wpIn_mono (rV rest s p t q _ _ _ _ (λ_ _=>rfl) u v d z) ?_⟩;intro e B E b;cases e with
     |normal=>exact b
     |ret=>exact b
     |exit id=>obtain⟨_, _,h, _⟩:=b;exact h.elim
     |goto l=>obtain⟨_, _,h, _⟩:=b;exact h.elim
     | _=>exact Cb b
    ·exact d.elim
   | _=>exact Cb b
  |ret=>exact b
  |exit id=>obtain⟨_, _,h, _⟩:=b;exact h.elim
  |goto l=>obtain⟨_, _,h, _⟩:=b;exact h.elim
  | _=>exact Cb b
 ·exact h.elim
def N_ (C:dj P) (f:FuncId) (args:List AC) (w:A2) (Post:(pL C f).T->A2->Prop):Prop:=
 match P.funcs[f]? with
 |none=>False
 |some fn=>match fn.body with
  |none=>False
  |some c=>
   if args.length<=fn.ntmps then N9 C fn.ntmps c (gT args 0) w (λenv w=>match ku fn.results.toList env with
    |some l=>match (pL C f).proj (C8 l) with
     |some x=>ao w (λw1=>Post x w1)
     |none=>False
    |none=>False) else False
theorem Sz {C:dj P} {f:FuncId} {args:List AC} {w:A2} {Post:(pL C f).T->A2->Prop} (h:N_ C f args w Post):aE P f (pL C f) args w Post:=by
 unfold N_ at h;split at h
 ·exact Cb h
 ·rename_i fn q;split at h
  ·exact Cb h
  ·rename_i c hb;split at h
   ·rename_i E;have i:plain (gT args 0):=λe a=>nO a;have nil: ∀(o:Array Oper) (m:Array AC),jK o m []:=λo m x d=>by cases d
    have s:Fit (λ_=>none) #[] fn.ntmps [] (gT args 0) {tmps:=(⟨args⟩:Array AC)++Array.replicate (fn.ntmps - args.length) undef,defers:=[]}:=by
     refine⟨(λ_ _ d=>by cases d),(by simp;omega),rfl,λt e a _=>?_,λt e a u=>absurd (by rw[(i e (bO a)).1];exact nil _ _) u,(λe a=>by rw[(i e a).2];exact(i e a).1),λe a b hb=>by rw[sW a] at hb;cases hb⟩;obtain⟨_,hv, _⟩:=lY a;simp only[Nat.sub_zero] at hv;have y:t<args.length:=(B2.1 hv).1;rw[Array.getElem?_append_left (by simpa using y)];simpa using hv
    have z:=Sy (r:=none) (C:=C) i s h (Ext.refl w);refine calls_of_wp q hb ((wpIn_wide (n:=0)).1 (wpIn_mono z ?_));have fin: ∀a1 w1,(∃env j,(match ku fn.results.toList env with
     |some l=>match (pL C f).proj (C8 l) with
      |some x=> ∀w1,Ext j w1->Post x w1
      |none=>False
     |none=>False)/\plain env/\Fit (λ_=>none) #[] fn.ntmps [] env a1/\Ext j w1)->a1.defers=[]/\ ∃v,(results fn a1.tmps).run P w1= .ok v w1/\ ∃x:(pL C f).T,Ending.returned v= .returned ((pL C f).gR x)/\Post x w1:=by
     intro a1 w1 ⟨env,j,g,A,p,B⟩;split at g
     ·rename_i l D;split at g
      ·rename_i x d;refine⟨p.oG, _,vD D (λt e a=>p.yes t e a (by rw[(A e (bO a)).1];exact nil _ _)),x,by rw[Sh.fZ d],g w1 B⟩
      ·exact g.elim
     ·exact g.elim
    intro e a1 w1 k;cases e with
    |normal=>exact fin a1 w1 k
    |ret=>exact fin a1 w1 k
    | _=>exact(show False from k).elim
   ·exact Cb h
end Go.RX
namespace Go.Proofs.YtlcenllcmeebhaaGreat.Mu
set_option maxRecDepth 100000
open Go.RX D
noncomputable def U7:dj Ab:={M1 with quiet:=[70]++M1.quiet}
theorem Hj (a:Int) (w:A2) (d:Option Ad->A2->Prop):(aN U7 (λ_=>[]) 34 [.agg ⟨[aa a]⟩] w d)=(
 aK w ⟨[aa a]⟩ 69 λb c=>true=true/\aU c (ad (ae b) 0) λx=>((!decide (x<0))=true->true=true)/\aj c (some !decide (x<0)) (ad (ae b) 0) aV λ(e:Int)=>aL (decide (x<0)||decide (e>65000)) (ao c (d none)) (true=true/\aU c (ad (ae b) 0) λx=>aK c ⟨[aa x,aa 0,ay 0,.bool false,.bool true]⟩ 161 λb c=>ao c (d (ae b)))):=by kernel_rfl
theorem uR (p:Option Ad) (w:A2) (a:Int×Int×Unit->A2->Prop):(aN U7 (λ_=>[]) 35 [ag p] w a)=(
 aL p.isNone (ao w (a (0,0,()))) (cv p 1 w λx=>aak p 2 w λb=>ao w (a (x,b,())))):=by kernel_rfl
theorem SA (p:Option Ad) (w:A2) (c:Int×Int×Int×Int×Unit->A2->Prop):(bQ U7 (λ_=>[]) 70 [ag p] w c)=(
 aK w ⟨[aa 0,aa 0,ay 0,ay 0]⟩ 127 λb a=>((!p.isNone)=true->p.isSome=true)/\((!p.isNone)=true->p.isSome=true)/\aj a (some !p.isNone) (ad p 4) oI λx=>aL (p.isNone|| !x) (aC a (ae b) [aa 0,aa 0,ay 0,ay 0] λa=>ao a λw1=>aj w1 none (ae b) (.agg [.int .i64,.int .i64,.int .u64,.int .u64]) λ(x:Int×Int×Int×Int×Unit)=>c (x.1,x.2.1,x.2.2.1,x.2.2.2.1,()) w1) (cv p 1 a λx=>aL (x==0) (cv p 0 a λx=>aC a (ae b) [aa 4,aa x,.int
 .u64 1,ay 0] λa=>ao a λw1=>aj w1 none (ae b) (.agg [.int .i64,.int .i64,.int .u64,.int .u64]) λ(x:Int×Int×Int×Int×Unit)=>c (x.1,x.2.1,x.2.2.1,x.2.2.2.1,()) w1) (aL (x==1) (cv p 0 a λx=>aC a (ae b) [aa 1,aa (aB .i64 x 1),ay 0,ay 0] λa=>ao a λw1=>aj w1 none (ae b) (.agg [.int .i64,.int .i64,.int .u64,.int .u64]) λ(x:Int×Int×Int×Int×Unit)=>c (x.1,x.2.1,x.2.2.1,x.2.2.2.1,()) w1) (aL (x==2) (aal p 3 a λx=>aL x (cv p 0 a λx=>aak p 2
 a λd=>aC a (ae b) [aa 2,aa (aB .i64 x 1),ay (aB .u64 d 1),ay 0] λa=>ao a λw1=>aj w1 none (ae b) (.agg [.int .i64,.int .i64,.int .u64,.int .u64]) λ(x:Int×Int×Int×Int×Unit)=>c (x.1,x.2.1,x.2.2.1,x.2.2.2.1,()) w1) (aC a (ae b) [aa 0,aa 0,ay 0,ay 0] λa=>ao a λw1=>aj w1 none (ae b) (.agg [.int .i64,.int .i64,.int .u64,.int .u64]) λ(x:Int×Int×Int×Int×Unit)=>c (x.1,x.2.1,x.2.2.1,x.2.2.2.1,()) w1)) (aC a (ae b) [aa 0,
 aa 0,ay 0,ay 0] λa=>ao a λw1=>aj w1 none (ae b) (.agg [.int .i64,.int .i64,.int .u64,.int .u64]) λ(x:Int×Int×Int×Int×Unit)=>c (x.1,x.2.1,x.2.2.1,x.2.2.2.1,()) w1))))):=by kernel_rfl
theorem MD (p:Option Ad) (w:A2) (a:Bool->A2->Prop):(aN U7 (λ_=>[]) 39 [ag p] w a)=(
 ((!p.isNone)=true->p.isSome=true)/\((!p.isNone)=true->p.isSome=true)/\aj w (some !p.isNone) (ad p 1) aV λ(x:Int)=>((!(p.isNone||x != 2))=true->p.isSome=true)/\((!(p.isNone||x != 2))=true->p.isSome=true)/\aj w (some !(p.isNone||x != 2)) (ad p 3) oI λb=>aL (p.isNone||x != 2||b) (ao w (a false)) (p.isSome=true/\p.isSome=true/\aC w (ad p 3) [.bool true] λc=>ao c (a true))):=by kernel_rfl
theorem SB (p m:Option Ad) (w:A2) (c:Int->A2->Prop):(N_ U7 36 [ag p,ag m] w c)=(
 ∃(x:Int×Int×Int×Int×Unit),ah Ab 70 [ag p] w (.agg ⟨[aa x.1,aa x.2.1,ay x.2.2.1,ay x.2.2.2.1]⟩)/\aK w ⟨[aa 0,aa 0,ay 0,ay 0]⟩ 127 λb a=>aC a (ae b) [aa x.1,aa x.2.1,ay x.2.2.1,ay x.2.2.2.1] λa=>aK a ⟨[ay 0,.bool false,aa 0]⟩ 124 λd a=>aj a none (ae b) (.agg [.int .i64,.int .i64,.int .u64,.int .u64]) λ(x:Int×Int×Int×Int×Unit)=>aL (x.1==0&&(x.2.1==0&&(x.2.2.1==0&&(x.2.2.2.1==0&&true)))) (aD
 Ab 35 (.bu [.one (.int .i64),.one (.int .u64)]) [ag p] a λ(x:Int×Int×Unit) a=>ao a (c x.1)) (aj a none (ae b) (.agg [.int .i64,.int .i64,.int .u64,.int .u64]) λ(x:Int×Int×Int×Int×Unit)=>aD Ab 57 (.el (.agg [.int .u64,.bool,.int .i64])) [ag m,.agg ⟨[aa x.1,aa x.2.1,ay x.2.2.1,ay x.2.2.2.1]⟩] a λ(x:Int×Bool×Int×Unit) a=>aC a (ae d) [ay x.1,.bool x.2.1,aa x.2.2.1] λa=>true=true/\aU a (ad (ae d) 2) λx=>aL (x != 0) (p.isSome=true/\
 p.isSome=true/\aC a (ad p 1) [aa 3] λa=>aD Ab 35 (.bu [.one (.int .i64),.one (.int .u64)]) [ag p] a λ(x:Int×Int×Unit) a=>ao a (c x.1)) (cv p 1 a λx=>aL (x==0) (true=true/\cB a (ad (ae d) 0) λx=>p.isSome=true/\p.isSome=true/\aC a (ad p 2) [ay x] λa=>cv p 1 a λx=>p.isSome=true/\p.isSome=true/\aC a (ad p 1) [aa (aB .i64 x 1)] λa=>aD Ab 35 (.bu [.one (.int .i64),.one (.int .u64)]) [ag p] a λ(x:Int×Int×Unit) a=>ao a (c x.1)) (cv
 p 1 a λx=>((x==1)=true->true=true)/\aj a (some (x==1)) (ad (ae d) 0) ou λ(e:Int)=>((x==1)=true->p.isSome=true)/\((x==1)=true->p.isSome=true)/\aj a (some (x==1)) (ad p 2) ou λ(f:Int)=>aL (x==1&&e != f) (aD Ab 35 (.bu [.one (.int .i64),.one (.int .u64)]) [ag p] a λ(x:Int×Int×Unit) a=>ao a (c x.1)) (cv p 1 a λx=>p.isSome=true/\p.isSome=true/\aC a (ad p 1) [aa (aB .i64 x 1)] λa=>aD Ab 35 (.bu [.one (.int .i64),.one (.int .u64)]) [ag p] a
 λ(x:Int×Int×Unit) a=>ao a (c x.1)))))):=by kernel_rfl
theorem VQ (p:Option Ad) (i v:Int) (w:A2) (b:Int×Int×Unit->A2->Prop):(aN M0 (λ_=>[]) 143 [ag p,aa i,ay v] w b)=(
 aD Ab 71 (.bu [.one .ptr,.one (.int .i64)]) [ag p,aa i] w λ(x:Option Ad×Int×Unit) a=>aL (x.2.1 != 0) (ao a (b (0,x.2.1,()))) (x.1.isSome=true/\cB a x.1 λc=>x.1.isSome=true/\cB a x.1 λd=>x.1.isSome=true/\aC a x.1 [ay (aB .u64 d v)] λa=>cv p 2 a λx=>p.isSome=true/\p.isSome=true/\aC a (ad p 2) [aa (aB .i64 x 1)] λa=>ao a (b (c,0,())))):=by kernel_rfl
theorem ME (k i a b:Int) (m:Option Ad) (w:A2) (d:RT->A2->Prop):(bQ M1 (λ_=>[]) 90 [.agg ⟨[aa k,aa i,ay a,ay b]⟩,ag m] w d)=(
 aK w ⟨[aa k,aa i,ay a,ay b]⟩ 191 λb c=>aK c ⟨[ay 0,.bool false,aa 0]⟩ 124 λe c=>true=true/\aU c (ad (ae b) 1) λx=>true=true/\cB c (ad (ae b) 2) λf=>aD Ab 38 (.el aV) [ag m,aa x,ay f] c λ(x:Int) c=>aC c (ae e) [ay 0,.bool false,aa x] λc=>ao c λw1=>aj w1 none (ae e) (.agg [.int .u64,.bool,.int .i64]) λ(x:Int×Bool×Int×Unit)=>d (x.1,x.2.1,x.2.2.1,()) w1):=by kernel_rfl
theorem VR (k i a b:Int) (m:Option Ad) (w:A2) (d:RT->A2->Prop):(bQ M1 (λ_=>[]) 92 [.agg ⟨[aa k,aa i,ay a,ay b]⟩,ag m] w d)=(
 aK w ⟨[aa k,aa i,ay a,ay b]⟩ 191 λb c=>aK c ⟨[ay 0,.bool false,aa 0]⟩ 124 λe c=>true=true/\aU c (ad (ae b) 1) λx=>true=true/\cB c (ad (ae b) 2) λf=>aD Ab 143 (.bu [.one (.int .u64),.one (.int .i64)]) [ag m,aa x,ay f] c λ(x:Int×Int×Unit) c=>aC c (ae e) [ay x.1,.bool false,aa x.2.1] λc=>ao c λw1=>aj w1 none (ae e) (.agg [.int .u64,.bool,.int .i64]) λ(x:Int×Bool×Int×Unit)=>d (x.1,x.2.1,x.2.2.1,
 ()) w1):=by kernel_rfl
section
variable {D G:List Nat} {w0 w:A2} {L:List (Nat×List AC)} {bm bw n c:Nat} {ca la:Int} {ws:List Int} {rest:List AC}
theorem VS (H:aJ D G w0 w L) (j a:Nat) (g:L[j]? =some (bm,iP bw n c ca la)) (o:L[a]? =some (bw,flat eW ws++rest)) (b:j≠a) (p:n=ws.length) (i v:Int) (hi:ri ws i=true) {K:Int×Int×Unit->A2->Prop}
 (k: ∀ca la d,aJ D G w0 d ((L.set j (bm,iP bw n c ca la)).set a (bw,flat eW (ws.set i.toNat (aB .u64 (ws.getD i.toNat 0) v))++rest))->K (ws.getD i.toNat 0,0,()) d):
 aD Ab 143 (.bu [.one (.int .u64),.one (.int .i64)]) [ag (ae bm),aa i,ay v] w K:=by
 refine aD.go H λw1 H=>ai (C:=M0) (aT:=λ_=>[]) (B5 (VQ _ i v w1 K) ?_);have q:j<L.length:=(B2.1 g).1;have s:=gF.1 hi;have l:i.toNat<ws.length:=by omega
 have t:(flat eW ws).length=ws.length*1:=aI eW ws;refine sY H j g p (by omega) i (λ_ d H=>?_) (λh=>by rw[hi] at h;cases h);have f:(L.set j (bm,iP bw n c (aB .i64 ca 1) la))[a]? =some (bw,flat eW ws++rest):=by rw[Bp b];exact o
 have e:=Yc (ws:=ws) (rest:=rest) (i:=i.toNat) l;rw[Nat.mul_one] at e;refine an rfl ⟨rfl,?_⟩;rw[aR];refine aj.at a H f e ⟨rfl,aj.at a H f e ⟨rfl,?_⟩⟩;refine aC.one a H f rfl (by rw[Nat.blt_eq,GS];omega) λu H=>?_;rw[Nat.zero_add,WC l] at H;have m:((L.set j (bm,iP bw n c (aB .i64 ca 1) la)).set a (bw,flat eW (ws.set i.toNat (aB .u64 (ws.getD i.toNat 0) v))++rest))[j]? =some (bm,iP bw n c (aB .i64 ca 1) la):=by
  rw[Bp (λe=>b e.symm),BN q]
 refine⟨rfl,rfl,aj.bP j H m rfl ⟨rfl,rfl,aC.fb j H m rfl rfl λx H=>ao.go H λr H=>k (aB .i64 ca 1) (aB .i64 la 1) r ?_⟩⟩;rw[List.set_comm _ _ b,CN] at H;rw[List.set_comm _ _ b];exact H
theorem VT (H:aJ D G w0 w L) (j d:Nat) (f:L[j]? =some (bm,iP bw n c ca la)) (g:L[d]? =some (bw,flat eW ws++rest)) (m:j≠d) (h:n=ws.length) (kd i a b:Int) (hi:ri ws i=true) {K:RT->A2->Prop}
 (k: ∀ca la e,aJ D G w0 e ((L.set j (bm,iP bw n c ca la)).set d (bw,flat eW (ws.set i.toNat (aB .u64 (ws.getD i.toNat 0) a))++rest))->K (ws.getD i.toNat 0,false,0,()) e):
 aE Ab 92 (.el (.agg sR)) [.agg ⟨[aa kd,aa i,ay a,ay b]⟩,ag (ae bm)] w K:=by
 refine aQ (C:=M1) (aT:=λ_=>[]) (B5 (VR kd i a b _ w K) ?_);refine aK.go H λo e H=>aK.go H λp q H=>⟨rfl,aj.bP 1 H rfl rfl ⟨rfl,aj.bP 1 H rfl rfl ?_⟩⟩;refine VS H (j+2) (d+2) f g (by omega) h i a hi λca la r H=>?_;refine aC.all 0 H rfl rfl rfl λs H=>ao.go H λl H=>aj.at 0 H rfl rfl (k ca la l ?_);exact(H.sub (B3 _ _)).sub (B3 _ _)
theorem MF (H:aJ D G w0 w L) (j d:Nat) (f:L[j]? =some (bm,iP bw n c ca la)) (g:L[d]? =some (bw,flat eW ws++rest)) (p:j≠d) (h:n=ws.length) (kd i a b:Int) (hi:ri ws i=true) {K:RT->A2->Prop}
 (k: ∀ca la e,aJ D G w0 e ((L.set j (bm,iP bw n c ca la)).set d (bw,flat eW (ws.set i.toNat a)++rest))->K (0,false,0,()) e):
 aE Ab 90 (.el (.agg sR)) [.agg ⟨[aa kd,aa i,ay a,ay b]⟩,ag (ae bm)] w K:=by
 refine aQ (C:=M1) (aT:=λ_=>[]) (B5 (ME kd i a b _ w K) ?_);refine aK.go H λq e H=>aK.go H λr s H=>⟨rfl,aj.bP 1 H rfl rfl ⟨rfl,aj.bP 1 H rfl rfl ?_⟩⟩;have h0:0<n:=by have:=gF.1 hi;omega
 refine uO H (j+2) (d+2) f g (by omega) h h0 i a λt H=>?_;have l:zM ws i=0:=by unfold zM;rw[hi];rfl
 have m:dK ws i a=ws.set i.toNat a:=by unfold dK;rw[hi];rfl
 rw[l];rw[m] at H;refine aC.all 0 H rfl rfl rfl λu H=>ao.go H λo H=>aj.at 0 H rfl rfl (k (qo ws i ca) (qo ws i la) o ?_);exact(H.sub (B3 _ _)).sub (B3 _ _)
theorem aaG (H:aJ D G w0 w L) (t:D=[]) (p:Option Ad) (kd i a b:Int) {K:RT->A2->Prop} (u:kd=2\/kd=4)
 (hc: ∀e f c1 c2 g,aJ D G w0 g ((e,c1)::(f,c2)::L)->aE Ab (if kd=2 then 90 else 92) (.el (.agg sR)) [.agg ⟨[aa kd,aa i,ay a,ay b]⟩,ag p] g
  λx l=> ∃L',aJ D G w0 l ((e,c1)::(f,c2)::L')/\(∀c,aJ D G w0 c L'->K x c)):
 aD Ab 57 (.el (.agg sR)) [ag p,.agg ⟨[aa kd,aa i,ay a,ay b]⟩] w K:=by
 subst t;refine aD.go H λw1 H=>aQ (C:=M2) (aT:=λ_=>[]) (B5 (WE _ kd i a b w1 K) ?_);refine aK.go H λe g H=>aK.go H λf l H=>λc m v n=>?_;have H:=(((H.ext m).o7 (.map ⟨[]⟩ 0)).ext n);have d:w0.heap.size<=c.heap.size:=by have:=(aJ.ext (w1:=c) (by assumption) m:aJ [] G w0 c _).fr.size;exact this
 have m0:bE v c.heap.size ⟨[]⟩ 0:=n.obj (eO c _);refine ml H d (by simp) m0 rfl λF H y I o=>?_;refine ml (H.ext o) d (by simp) (o.obj y) rfl λJ H z M q=>?_;refine ml (H.ext q) d (by simp) (q.obj z) rfl λN H A O r=>?_;refine ml (H.ext r) d (by simp) (r.obj A) rfl λP H s=>?_;rcases u with rfl|rfl
 ·refine⟨rfl,aj.bP 1 H rfl rfl ⟨.func (.func 90) #[] #[],true,⟨_, _, _,rfl,s,⟨rfl,rfl⟩⟩,an rfl (aj.at 1 H rfl rfl ?_)⟩⟩;unfold wR;refine λh j=>⟨_, #[], #[],rfl,by kernel_rfl,?_⟩;refine(hc _ _ _ _ h (H.ext j)).mono λx B ⟨L',H,kk⟩=>?_;refine aC.all 0 H rfl rfl rfl λE H=>ao.go H λk H=>aj.at 0 H rfl rfl (kk k ?_);exact(H.sub (B3 _ _)).sub (B3 _ _)
 ·refine⟨rfl,aj.bP 1 H rfl rfl ⟨.func (.func 92) #[] #[],true,⟨_, _, _,rfl,s,⟨rfl,rfl⟩⟩,an rfl (aj.at 1 H rfl rfl ?_)⟩⟩;unfold wR;refine λh j=>⟨_, #[], #[],rfl,by kernel_rfl,?_⟩;refine(hc _ _ _ _ h (H.ext j)).mono λx B ⟨L',H,kk⟩=>?_;refine aC.all 0 H rfl rfl rfl λE H=>ao.go H λk H=>aj.at 0 H rfl rfl (kk k ?_);exact(H.sub (B3 _ _)).sub (B3 _ _)
abbrev kF (h:Int×Int×Bool):List AC:=[aa 0,aa h.1,ay h.2.1,.bool h.2.2,.bool true]
variable {bh:Nat} {h:Int×Int×Bool}
theorem jG (H:aJ D G w0 w L) (j:Nat) (b:L[j]? =some (bh,kF h)) {K:Int×Int×Unit->A2->Prop} (k: ∀a,aJ D G w0 a L->K (h.1,h.2.1,()) a):
 aD Ab 35 (.bu [.one (.int .i64),.one (.int .u64)]) [ag (ae bh)] w K:=by
 refine aD.go H λw1 H=>ai (C:=U7) (aT:=λ_=>[]) (B5 (uR _ w1 K) ?_);exact an rfl ⟨rfl,rfl,aj.bP j H b rfl ⟨rfl,rfl,aj.bP j H b rfl (ao.go H λa H=>k a H)⟩⟩
theorem MH (H:aJ D G w0 w L) (j:Nat) (a:L[j]? =some (bh,kF h)) (h1:h.1=2) (c:h.2.2=false) {K:Bool->A2->Prop} (k: ∀b,aJ D G w0 b (L.set j (bh,kF (2,h.2.1,true)))->K true b):
 aD Ab 39 (.el (.one .bool)) [ag (ae bh)] w K:=by
 obtain⟨st,tk,wi⟩:=h;subst h1 c;refine aD.go H λw1 H=>ai (C:=U7) (aT:=λ_=>[]) (B5 (MD _ w1 K) ?_);exact⟨λ_=>rfl,λ_=>rfl,aj.bP j H a rfl ⟨λ_=>rfl,λ_=>rfl,aj.bP j H a rfl (an rfl ⟨rfl,rfl,aC.fb j H a rfl rfl λb H=>ao.go H λd H=>k d H⟩)⟩⟩
theorem Hk (H:aJ D G w0 w L) {K:Option Ad->A2->Prop} (k: ∀b a,aJ D G w0 a ((b,kF (0,0,false))::L)->K (ae b) a):
 aD Ab 34 (.el (.one .ptr)) [.agg ⟨[aa 0]⟩] w K:=by
 refine aD.go H λw1 H=>ai (C:=U7) (aT:=λ_=>[]) (B5 (Hj _ w1 K) ?_);refine aK.go H λb a H=>⟨rfl,aj.bP 0 H rfl rfl ⟨λ_=>rfl,aj.bP 0 H rfl rfl (an rfl ⟨rfl,aj.bP 0 H rfl rfl (aK.go H λc e H=>ao.go H λd H=>k c d ?_)⟩)⟩⟩;exact H.sub (List.Sublist.cons_cons _ (B3 _ _))
def Z7 (h:Int×Int×Bool):Int×Int×Int×Int×Unit:=
 if h.1=0 then(4,0,1,0,()) else if h.1=1 then(1,1,0,0,()) else if h.1=2/\h.2.2=true then(2,1,aB .u64 h.2.1 1,0,()) else(0,0,0,0,())
theorem SC (hb:bM w bh (kF h)):aE Ab 70 (.el (.agg sA)) [ag (ae bh)] w (λx w'=>x=Z7 h/\Ext w w'):=by
 obtain⟨st,tk,wi⟩:=h;refine aQ (C:=U7) (aT:=λ_=>[]) (B5 (SA _ w _) ?_);refine aK.go (At.start [] w) λb f H=>⟨λ_=>rfl,λ_=>rfl,aj.of true (by rw[aR];exact(H.fa hb Dn).lM rfl) (an rfl ⟨rfl,rfl,aj.of st (by rw[aR];exact(H.fa hb Dn).lM rfl) ?_⟩)⟩;refine ab (λc=>?_) (λc=>ab (λc1=>?_) (λc1=>ab (λc2=>⟨rfl,rfl,aj.of wi (by rw[aR];exact(H.fa hb Dn).lM rfl) (ab (λc3=>?_) (λc3=>?_))⟩) (λc2=>?_)))
 ·have c:st=0:=by simpa using c
  subst c;exact⟨rfl,rfl,aj.of 0 (by rw[aR];exact(H.fa hb Dn).lM rfl) (aC.all 0 H rfl rfl rfl λa H=>ao.go H λd H=>aj.at 0 H rfl rfl ⟨rfl,H.all⟩)⟩
 ·have c1:st=1:=by simpa using c1
  subst c1;exact⟨rfl,rfl,aj.of 0 (by rw[aR];exact(H.fa hb Dn).lM rfl) (aC.all 0 H rfl rfl rfl λa H=>ao.go H λd H=>aj.at 0 H rfl rfl ⟨rfl,H.all⟩)⟩
 ·have c2:st=2:=by simpa using c2
  have c3:wi=true:=by simpa using c3
  subst c2 c3;exact⟨rfl,rfl,aj.of 0 (by rw[aR];exact(H.fa hb Dn).lM rfl) ⟨rfl,rfl,aj.of tk (by rw[aR];exact(H.fa hb Dn).lM rfl) (aC.all 0 H rfl rfl rfl λa H=>ao.go H λd H=>aj.at 0 H rfl rfl ⟨rfl,H.all⟩)⟩⟩
 ·have c2:st=2:=by simpa using c2
  have c3:wi=false:=by simpa using c3
  subst c2 c3;exact aC.all 0 H rfl rfl rfl λa H=>ao.go H λd H=>aj.at 0 H rfl rfl ⟨rfl,H.all⟩
 ·have e:Z7 (st,tk,wi)=(0,0,0,0,()):=by
   unfold Z7;rw[au (by simpa using c),au (by simpa using c1),au (by simp at c2;simp[c2])]
  rw[e];exact aC.all 0 H rfl rfl rfl λa H=>ao.go H λd H=>aj.at 0 H rfl rfl ⟨rfl,H.all⟩
end
abbrev TH:Type:=Int×Int×Bool
def Z8 (a b z c:Int) (h:TH):List Int:=if h.1=0 then[aB .u64 a 1,b,z,c] else if h.1=2/\h.2.2=true then[a,aB .u64 h.2.1 1,z,c] else[a,b,z,c]
def HF (a b:Int) (h:TH):TH:=if h.1=0 then(1,a,h.2.2) else if h.1=1 then(if b=h.2.1 then(2,h.2.1,h.2.2) else h) else if h.1=2/\h.2.2=true then(3,h.2.1,h.2.2) else h
theorem nv {α:Type} {l:List α} {m:Nat} {x:α} (h:l[m]? =some x):l.set m x=l:=H6 λq=>by
 by_cases e:m=q
 ·subst e;rw[BN (B2.1 h).1,h]
 ·rw[Bp e]
section
variable {G:List Nat} {w0 w:A2} {L:List (Nat×List AC)} {bm bw bh:Nat} {ca la a b z c:Int} {h:TH}
theorem SD (H:aJ [] G w0 w L) (j f d:Nat) (n:L[j]? =some (bm,iP bw 4 4 ca la)) (o:L[f]? =some (bw,flat eW [a,b,z,c]++[])) (l:L[d]? =some (bh,kF h)) (F:j≠f) (v:j≠d) (I:f≠d) {K:Int->A2->Prop}
 (k: ∀ca la t,aJ [] G w0 t (((L.set j (bm,iP bw 4 4 ca la)).set f (bw,flat eW (Z8 a b z c h)++[])).set d (bh,kF (HF a b h)))->K (HF a b h).1 t):
 aD Ab 36 (.el (.one (.int .i64))) [ag (ae bh),ag (ae bm)] w K:=by
 obtain⟨st,tk,wi⟩:=h;refine aD.go H λw1 H=>Sz (C:=U7) (B5 (SB _ _ w1 K) ?_);refine⟨Z7 (st,tk,wi),ah.of (s:= .el (.agg sA)) λw' h'=>SC ((H.get l).ext h'),aK.go H λP t H=>aC.all 0 H rfl rfl rfl λQ H=>aK.go H λR S H=>aj.at 1 H rfl rfl ?_⟩;have A:d<L.length:=(B2.1 l).1;have g1: ∀x y,((L.set j x).set f y)[d]? =some (bh,kF (st,tk,wi)):=λx y=>by rw[Bp I,Bp v];exact l
 have i: ∀x,(L.set j x)[d]? =some (bh,kF (st,tk,wi)):=λx=>by rw[Bp v];exact l
 have p: ∀x y u,(((L.set j x).set f y).set d u)[d]? =some u:=λx y u=>BN (by simpa using A);have J: ∀x u,((L.set j x).set d u)[d]? =some u:=λx u=>BN (by simpa using A);have i1: ∀x,(L.set j x).set f (bw,flat eW [a,b,z,c]++[])=L.set j x:=λx=>nv (by rw[Bp F];exact o);have i2:L.set d (bh,kF (st,tk,wi))=L:=nv l;have i3:L.set j (bm,iP bw 4 4 ca la)=L:=nv n;by_cases c0:st=0
 ·subst c0;refine an rfl (aj.at 1 H rfl rfl (aaG H rfl _ 4 0 1 0 (.inr rfl) λd1 d2 d3 d4 M H=>VT H (j+4) (f+4) n o (by omega) rfl 4 0 1 0 rfl λca la N H=>⟨_,H,λB H=>?_⟩));refine aC.all 0 H rfl rfl rfl λD H=>⟨rfl,aj.bP 0 H rfl rfl (an rfl ⟨rfl,rfl,aj.bP (d+2) H (g1 _ _) rfl (aF rfl ⟨rfl,aj.bP 0 H rfl rfl ⟨rfl,rfl,aC.fb (d+2) H (g1 _ _) rfl rfl λT H=>⟨rfl,rfl,?_⟩⟩⟩)⟩)⟩;refine aj.bP (d+2) H (p _ _ _) rfl ⟨rfl,rfl,aC.fb (d+2) H (p _ _ _) rfl rfl λE H=>?_⟩;refine jG (h:=(1,a,wi)) H (d+2) (by show((((L.set j _).set f _).set d _).set d _)[d]? = _;rw[CN];exact p _ _ _) λq H=>ao.go H λg H=>k ca la g ?_;have H:=(H.sub (B3 _ _)).sub (B3 _ _);rw[CN] at H;exact H
 by_cases c1:st=1
 ·subst c1;refine an rfl (aj.at 1 H rfl rfl (WG H rfl (j+2) (f+2) n o (by omega) rfl (by decide) 1 0 0 λB H=>?_));refine aC.all 0 H rfl rfl rfl λD H=>⟨rfl,aj.bP 0 H rfl rfl (an rfl ⟨rfl,rfl,aj.bP (d+2) H (i _) rfl (an rfl ⟨rfl,rfl,aj.bP (d+2) H (i _) rfl ⟨λ_=>rfl,aj.bP 0 H rfl rfl ⟨λ_=>rfl,λ_=>rfl,aj.bP (d+2) H (i _) rfl ?_⟩⟩⟩)⟩)⟩;have r:Z8 a b z c (1,tk,wi)=[a,b,z,c]:=rfl;refine ab (λcc=>?_) (λcc=>⟨rfl,rfl,aj.bP (d+2) H (i _) rfl ⟨rfl,rfl,aC.fb (d+2) H (i _) rfl rfl λE H=>?_⟩⟩)
  ·have e:b≠tk:=by
    have:((1:Int)==1&&b != tk)=true:=cc;simpa using this
   have m:HF a b (1,tk,wi)=(1,tk,wi):=by unfold HF;rw[au (show ¬ (1:Int)=0 by decide),az rfl,au e]
   rw[r,m] at k;refine jG (h:=(1,tk,wi)) H (d+2) (i _) λq H=>ao.go H λg H=>k (qo [a,b,z,c] 1 ca) la g ?_;have H:=(H.sub (B3 _ _)).sub (B3 _ _);rw[i1,nv (i _)];exact H
  ·have e:b=tk:=by
    have:((1:Int)==1&&b != tk)=false:=cc;simpa using this
   have m:HF a b (1,tk,wi)=(2,tk,wi):=by unfold HF;rw[au (show ¬ (1:Int)=0 by decide),az rfl,az e]
   rw[r,m] at k;refine jG (h:=(2,tk,wi)) H (d+2) (J _ _) λq H=>ao.go H λg H=>k (qo [a,b,z,c] 1 ca) la g ?_;have H:=(H.sub (B3 _ _)).sub (B3 _ _);rw[i1];exact H
 by_cases c2:st=2/\wi=true
 ·obtain⟨rfl,rfl⟩:=c2;refine an rfl (aj.at 1 H rfl rfl (aaG H rfl _ 2 1 (aB .u64 tk 1) 0 (.inl rfl) λd1 d2 d3 d4 M H=>MF H (j+4) (f+4) n o (by omega) rfl 2 1 (aB .u64 tk 1) 0 rfl λca la N H=>⟨_,H,λB H=>?_⟩));refine aC.all 0 H rfl rfl rfl λD H=>⟨rfl,aj.bP 0 H rfl rfl (an rfl ⟨rfl,rfl,aj.bP (d+2) H (g1 _ _) rfl (an rfl ⟨rfl,rfl,aj.bP (d+2) H (g1 _ _) rfl ⟨λ_=>rfl,aj.bP 0 H rfl rfl ⟨λ_=>rfl,λ_=>rfl,aj.bP (d+2) H (g1 _ _) rfl (an rfl ⟨rfl,rfl,?_⟩)⟩⟩⟩)⟩)⟩;refine aj.bP (d+2) H (g1 _ _) rfl ⟨rfl,rfl,aC.fb (d+2) H (g1 _ _) rfl rfl λE H=>?_⟩;refine jG (h:=(3,tk,true)) H (d+2) (p _ _ _) λq H=>ao.go H λg H=>k ca la g ?_;exact(H.sub (B3 _ _)).sub (B3 _ _)
 ·have r:Z8 a b z c (st,tk,wi)=[a,b,z,c]:=by unfold Z8;rw[au c0,au c2]
  have m:HF a b (st,tk,wi)=(st,tk,wi):=by unfold HF;rw[au c0,au c1,au c2]
  have O:Z7 (st,tk,wi)=(0,0,0,0,()):=by unfold Z7;rw[au c0,au c1,au c2]
  rw[r,m] at k;rw[O];refine aF rfl (jG (h:=(st,tk,wi)) H (d+2) l λq H=>ao.go H λg H=>k ca la g ?_);rw[i1,i3,i2];exact(H.sub (B3 _ _)).sub (B3 _ _)
end
abbrev TR:Type:=Nat×TH×Int×Int
structure Rw (a b c:Int) (x:TR):Prop where
 st:x.2.1.1=0\/x.2.1.1=1\/x.2.1.1=2\/x.2.1.1=3
 at':x.2.2.1=0\/x.2.2.1=1\/x.2.2.1=2
 sn:0<=x.2.2.2/\x.2.2.2<=c
 lt:x.2.1.1≠0->0<=x.2.1.2.1/\x.2.1.2.1<a
 s0:x.2.1.1=0->x.2.2.1=0/\x.2.1.2.2=false
 s1:x.2.1.1=1->b<=x.2.1.2.1/\x.2.2.1=0/\x.2.1.2.2=false
 s2:x.2.1.1=2->x.2.1.2.1=b/\(x.2.2.1=1->x.2.2.2=c)/\(x.2.2.1=2->x.2.1.2.2=true)/\(x.2.2.1≠2->x.2.1.2.2=false)
 s3:x.2.1.1=3->x.2.1.2.1<b/\x.2.2.1=2
def EZ (x:TR):Bool:=x.2.2.1==2
def Z9 (x:TR):Bool:=x.2.1.1==3
structure TI (xs:List TR) (a b c g:Int):Prop where
 rw: ∀(i:Nat) x,xs[i]? =some x->Rw a b c x
 ne: ∀(i j:Nat) x y,i≠j->xs[i]? =some x->xs[j]? =some y->x.2.1.1≠0->y.2.1.1≠0->x.2.1.2.1≠y.2.1.2.1
 cc:c=(xs.countP EZ:Nat)
 gg:g=(xs.countP Z9:Nat)
 ba:0<=b/\b<=a
theorem ky {p:TR->Bool}: ∀{xs:List TR} {k:Nat} {x y:TR},xs[k]? =some x->((xs.set k y).countP p:Int)=xs.countP p+(if p y then 1 else 0) - (if p x then 1 else 0)
 |[], _, _, _,h=>(by cases h)
 |z::xs,0,x,y,h=>by
  have h:z=x:=by simpa using h
  subst h;simp only[E6,K1];split<;>split<;>omega
 |z::xs,k+1,x,y,h=>by
  have a:=ky (p:=p) (xs:=xs) (k:=k) (x:=x) (y:=y) (by simpa using h);simp only[Jo,K1];omega
theorem TI.set {xs:List TR} {a b c g a' m o g':Int} (T:TI xs a b c g) {k:Nat} {x y:TR} (l:xs[k]? =some x) (w:Rw a' m o y)
 (A: ∀z,Rw a b c z->(z.2.1.1≠0->x.2.1.1≠0->z.2.1.2.1≠x.2.1.2.1)->Rw a' m o z)
 (t:y.2.1.1≠0-> ∀z,Rw a b c z->(z.2.1.1≠0->x.2.1.1≠0->z.2.1.2.1≠x.2.1.2.1)->z.2.1.1≠0->z.2.1.2.1≠y.2.1.2.1)
 (hc:o=c+(if EZ y then 1 else 0) - (if EZ x then 1 else 0)) (B:g'=g+(if Z9 y then 1 else 0) - (if Z9 x then 1 else 0)) (hb:0<=m/\m<=a'):TI (xs.set k y) a' m o g':=by
 have p:k<xs.length:=(B2.1 l).1;refine⟨λi z d=>?_,λi j z u q d f r s=>?_,by rw[ky l, <-T.cc];exact hc,by rw[ky l, <-T.gg];exact B,hb⟩
 ·by_cases e:k=i
  ·subst e;rw[BN p] at d;cases d;exact w
  ·rw[Bp e] at d;exact A z (T.rw i z d) (λh1 n=>T.ne i k z x (λh=>e h.symm) d l h1 n)
 ·by_cases e:k=i
  ·subst e;rw[BN p] at d;rw[Bp q] at f;cases d;exact λh=>t r u (T.rw j u f) (λh1 n=>T.ne j k u x (λh=>q h.symm) f l h1 n) s h.symm
  ·rw[Bp e] at d;by_cases v:k=j
   ·subst v;rw[BN p] at f;cases f;exact t s z (T.rw i z d) (λh1 n=>T.ne i k z x (λh=>e h.symm) d l h1 n) r
   ·rw[Bp v] at f;exact T.ne i j z u q d f r s
section
variable {xs:List TR} {a b c g:Int} {k:Nat} {q:Nat} {tk sn oF:Int} {wi:Bool}
theorem TI.ask (T:TI xs a b c g) (e:xs[k]? =some (q,(0,tk,wi),oF,sn)):TI (xs.set k (q,(1,a,wi),oF,sn)) (a+1) b c g:=by
 have r:=T.rw k _ e;have hb:=T.ba;obtain⟨h1,f⟩:oF=0/\wi=false:=r.s0 rfl;subst h1 f;refine T.set e ⟨.inr (.inl rfl),.inl rfl,r.sn,λ_=>⟨by show 0<=a;omega,by show a<a+1;omega⟩,λh=>(by cases h),λ_=>⟨by show b<=a;omega,rfl,rfl⟩,λh=>(by cases h),λh=>(by cases h)⟩
  (λz d _=>⟨d.st,d.at',d.sn,λh=>by have:=d.lt h;omega,d.s0,d.s1,d.s2,d.s3⟩) (λ_ z d _ i=>by have:=d.lt i;show z.2.1.2.1≠a;omega) (by show c=c+(if((0:Int)==2)=true then 1 else 0) - (if((0:Int)==2)=true then 1 else 0);simp) (by show g=g+(if((1:Int)==3)=true then 1 else 0) - (if((0:Int)==3)=true then 1 else 0);simp) (by omega)
theorem TI.win (T:TI xs a b c g) (d:xs[k]? =some (q,(1,b,wi),oF,sn)):TI (xs.set k (q,(2,b,wi),oF,sn)) a b c g:=by
 have r:=T.rw k _ d;have hb:=T.ba;obtain⟨_,h1,e⟩: _/\oF=0/\wi=false:=r.s1 rfl;subst h1 e;refine T.set d ⟨.inr (.inr (.inl rfl)),.inl rfl,r.sn,λ_=>r.lt (by show ¬ (1:Int)=0;decide),λh=>(by cases h),λh=>(by cases h),λ_=>⟨rfl,λh=>(by cases h),λh=>(by cases h),λ_=>rfl⟩,λh=>(by cases h)⟩
  (λz f _=>f) (λ_ z _ i j=>i j (by show ¬ (1:Int)=0;decide)) (by show c=c+(if((0:Int)==2)=true then 1 else 0) - (if((0:Int)==2)=true then 1 else 0);simp) (by show g=g+(if((2:Int)==3)=true then 1 else 0) - (if((1:Int)==3)=true then 1 else 0);simp) hb
theorem TI.go (T:TI xs a b c g) (l:xs[k]? =some (q,(2,tk,wi),2,sn)):tk=b/\wi=true/\TI (xs.set k (q,(3,tk,wi),2,sn)) a (tk+1) c (g+1):=by
 have r:=T.rw k _ l;have hb:=T.ba;obtain⟨e, _,i, _⟩:tk=b/\ _/\ _:=r.s2 rfl;have m:0<=tk/\tk<a:=r.lt (by show ¬ (2:Int)=0;decide);have i:wi=true:=i rfl;refine⟨e,i,?_⟩;refine T.set l ⟨.inr (.inr (.inr rfl)),.inr (.inr rfl),r.sn,λ_=>m,λh=>(by cases h),λh=>(by cases h),λh=>(by cases h),λ_=>⟨by show tk<tk+1;omega,rfl⟩⟩
  (λz d f=>?_) (λ_ z _ f j=>f j (by show ¬ (2:Int)=0;decide)) (by show c=c+(if((2:Int)==2)=true then 1 else 0) - (if((2:Int)==2)=true then 1 else 0);simp) (by show g+1=g+(if((3:Int)==3)=true then 1 else 0) - (if((2:Int)==3)=true then 1 else 0);simp) (by omega)
 have f:z.2.1.1≠0->z.2.1.2.1≠tk:=λj=>f j (by show ¬ (2:Int)=0;decide);refine⟨d.st,d.at',d.sn,d.lt,d.s0,λh=>?_,λh=>?_,λh=>?_⟩
 ·have h1:=d.s1 h;have n:=f (by rw[h];decide);exact⟨by omega,h1.2⟩
 ·have h1:=(d.s2 h).1;exact absurd (h1.trans e.symm) (f (by rw[h];decide))
 ·have h1:=d.s3 h;exact⟨by omega,h1.2⟩
theorem TI.see (T:TI xs a b c g) (f:xs[k]? =some (q,(2,tk,wi),0,sn)):TI (xs.set k (q,(2,tk,wi),1,c)) a b c g:=by
 have r:=T.rw k _ f;have hc:0<=c:=by have:=T.cc;omega
 obtain⟨e, _, _,d⟩:=r.s2 rfl;have d:wi=false:=d (by show ¬ (0:Int)=2;decide);refine T.set f ⟨.inr (.inr (.inl rfl)),.inr (.inl rfl),⟨hc,CO _⟩,r.lt,λh=>(by cases h),λh=>(by cases h),λ_=>⟨e,λ_=>rfl,λh=>(by cases h),λ_=>d⟩,λh=>(by cases h)⟩
  (λz i _=>i) (λ_ z _ j l=>j l (by show ¬ (2:Int)=0;decide)) (by show c=c+(if((1:Int)==2)=true then 1 else 0) - (if((0:Int)==2)=true then 1 else 0);simp) (by show g=g+(if((2:Int)==3)=true then 1 else 0) - (if((2:Int)==3)=true then 1 else 0);simp) T.ba
theorem TI.inc (T:TI xs a b c g) (j:xs[k]? =some (q,(2,tk,wi),1,sn)):sn=c/\wi=false/\TI (xs.set k (q,(2,tk,true),2,sn)) a b (sn+1) g:=by
 have r:=T.rw k _ j;obtain⟨e,h1, _,l⟩:=r.s2 rfl;have h1:sn=c:=h1 rfl;have e:tk=b:=e;have m:0<=sn/\sn<=c:=r.sn;refine⟨h1,l (by show ¬ (1:Int)=2;decide),?_⟩;refine T.set j ⟨.inr (.inr (.inl rfl)),.inr (.inr rfl),⟨m.1,by show sn<=sn+1;omega⟩,r.lt,λh=>(by cases h),λh=>(by cases h),λ_=>⟨e,λh=>(by cases h),λ_=>rfl,λh=>absurd rfl h⟩,λh=>(by cases h)⟩
  (λz d f=>?_) (λ_ z _ f i=>f i (by show ¬ (2:Int)=0;decide)) (by show sn+1=c+(if((2:Int)==2)=true then 1 else 0) - (if((1:Int)==2)=true then 1 else 0);simp;omega) (by show g=g+(if((2:Int)==3)=true then 1 else 0) - (if((2:Int)==3)=true then 1 else 0);simp) T.ba
 have f:z.2.1.1≠0->z.2.1.2.1≠tk:=λi=>f i (by show ¬ (2:Int)=0;decide);have n:=d.sn;refine⟨d.st,d.at',by omega,d.lt,d.s0,d.s1,λh=>?_,d.s3⟩;have h1:=(d.s2 h).1;exact absurd (h1.trans e.symm) (f (by rw[h];decide))
theorem TI.le (T:TI xs a b c g):g<=c:=by
 rw[T.gg,T.cc];have:xs.countP Z9<=xs.countP EZ:=List.countP_mono_left λx d h=>by
  obtain⟨i,hi⟩:=List.mem_iff_getElem?.1 d;have e:=(T.rw i x hi).s3 (by simpa[Z9] using h);simp[EZ,e.2]
 omega
theorem TI.cle (T:TI xs a b c g):0<=c/\c<=xs.length:=by
 have:=Jt (p:=EZ) (l:=xs);have:=T.cc;omega
theorem TI.new {xs:List TR} (h: ∀x∈xs,x.2=((0,0,false),0,0)):TI xs 0 0 0 0 where
 rw i x a:=by
  have e:=h x (C6 a);obtain⟨q,y⟩:=x;have e:y=((0,0,false),0,0):=e;subst e;exact⟨.inl rfl,.inl rfl,⟨CO _,CO _⟩,λh=>absurd rfl h,λ_=>⟨rfl,rfl⟩,λh=>(by cases h),λh=>(by cases h),λh=>(by cases h)⟩
 ne i j x y _ a _ h0 _:=absurd (by rw[h x (C6 a)]) h0
 cc:=by
  rw[Kg.2 λx a=>by rw[EZ,h x a];decide];rfl
 gg:=by
  rw[Kg.2 λx a=>by rw[Z9,h x a];decide];rfl
 ba:=⟨CO _,CO _⟩
end
theorem aaH {x:Int} (h:(Lit.int .u8 x).wf=true):0<=x/\x<256:=by
 simp[Lit.wf,IntKind.min,IntKind.max,IntKind.bits,IntKind.signed] at h;omega
theorem aci {x d:Int} (h:0<=x/\x<256):bH (aw .i64 x) d=x % d:=by
 rw[bL (by omega)];unfold bH;exact Hb h.1
theorem acj {x:Int} (h:(Lit.int .u8 x).wf=true) (a d:Nat) (b:0<d/\d<=1000) (c:a<=1000):aB .i64 (a:Int) (bH (aw .i64 x) (d:Int))=((a+x.toNat % d:Nat):Int):=by
 have h:=aaH h;have:(((x.toNat % d:Nat)):Int)=x % (d:Int):=by rw[Int.natCast_emod,Int.toNat_of_nonneg h.1]
 have e:x.toNat % d<d:=Nat.mod_lt _ b.1;rw[aci h, <-this,ax (by omega) (by omega)];omega
section
variable {Q:Sys} {X:HX} {D G:List Nat} {w0 w w1:A2} {R:MR} {s:MS} {T L:List (Nat×List AC)} {M:List (Nat×BJ)} {n k:Nat}
end
abbrev Wl:El:= .one .ptr
def JF (x:TR):Option Ad:=some ⟨x.1,0,none⟩
def Wi (x:TR):Nat×List AC:=(x.1,kF x.2.1)
def atT (x:TR):Int:=x.2.2.1
def Z_ (x:TR):Int:=x.2.2.2
def LT (bm bw bt bn bl:Nat) (rest:List AC) (xs:List TR) (a b c ca la:Int):List (Nat×List AC):=
 (bm,iP bw 4 4 ca la)::(bw,flat eW [a,b,0,c]++[])::(bt,flat eI (xs.map atT)++[])::(bn,flat eW (xs.map Z_)++[])::(bl,flat Wl (xs.map JF)++rest)::xs.map Wi
theorem ll {β:Type} {f:TR->β} {xs:List TR} {k:Nat} {x y:TR} (h:xs[k]? =some x) (e:f y=f x):(xs.set k y).map f=xs.map f:=by
 rw[List.map_set,e];exact nv (by rw[Dl,h];rfl)
theorem ack {x:Int} (h:0<=x/\x<256) (d:Nat) (a:0<d/\d<=1000):bH (aw .i64 x) (d:Int)=((x.toNat % d:Nat):Int):=by
 rw[bL (by omega)];obtain⟨k,rfl⟩: ∃k:Nat,x=(k:Int):=⟨x.toNat,by omega⟩;show Int.tmod (k:Int) (d:Int)= _;rw[Hb (by omega)];simp
section
variable {w0 w:A2} {bm bw bt bn bl q:Nat} {rest:List AC} {xs:List TR} {a b c g ca la tk oF sn st:Int} {wi:Bool} {k:Nat}
theorem F4 (h:xs[k]? =some (q,(st,tk,wi),oF,sn)):(LT bm bw bt bn bl rest xs a b c ca la)[k+5]? =some (q,kF (st,tk,wi)):=by
 show(xs.map Wi)[k]? = _;rw[Dl,h];rfl
theorem Oa (H:aJ [] [] w0 w (LT bm bw bt bn bl rest xs a b c ca la)) (h:xs[k]? =some (q,(st,tk,wi),oF,sn)):cP w (ad (ae bt) (k*1)) eI oF:=
 eh (e:=eI) (H.get (i:=2) rfl) (by rw[Dl,h];rfl)
theorem abC (H:aJ [] [] w0 w (LT bm bw bt bn bl rest xs a b c ca la)) (h:xs[k]? =some (q,(st,tk,wi),oF,sn)):cP w (ad (ae bn) (k*1)) eW sn:=
 eh (e:=eW) (H.get (i:=3) rfl) (by rw[Dl,h];rfl)
theorem abD (H:aJ [] [] w0 w (LT bm bw bt bn bl rest xs a b c ca la)) (h:xs[k]? =some (q,(st,tk,wi),oF,sn)):cP w (ad (ae bl) (k*1)) Wl (ae q):=
 eh (e:=Wl) (H.get (i:=4) rfl) (by rw[Dl,h];rfl)
theorem VU (H:aJ [] [] w0 w (LT bm bw bt bn bl rest xs a b c ca la)) (T:TI xs a b c g) (h:xs[k]? =some (q,(st,tk,wi),oF,sn)) (s:st=2->oF=2) (u:a<1000) {K:Int->A2->Prop}
 (kk: ∀m a' j g' n ca la d,TI m a' j c g'->m.length=xs.length->a'<=a+1->g'=g+(if(st != 3&&n==3)=true then 1 else 0)->(∃h':TH,h'.1=n/\m[k]? =some (q,h',oF,sn))->aJ [] [] w0 d (LT bm bw bt bn bl rest m a' j c ca la)->K n d):
 aD Ab 36 (.el (.one (.int .i64))) [ag (ae q),ag (ae bm)] w K:=by
 have o:k<xs.length:=(B2.1 h).1;refine SD H 0 1 (k+5) rfl rfl (F4 h) (by omega) (by omega) (by omega) λca la d H=>?_;have fin: ∀(h':TH) (a' j:Int),HF a b (st,tk,wi)=h'->Z8 a b 0 c (st,tk,wi)=[a',j,0,c]->aJ [] [] w0 d (LT bm bw bt bn bl rest (xs.set k (q,h',oF,sn)) a' j c ca la):=λh' a' j i l=>by
  rw[i,l] at H;unfold LT;rw[ll (f:=atT) (y:=(q,h',oF,sn)) h rfl,ll (f:=Z_) (y:=(q,h',oF,sn)) h rfl,ll (f:=JF) (y:=(q,h',oF,sn)) h rfl,List.map_set];exact H
 have same:HF a b (st,tk,wi)=(st,tk,wi)->Z8 a b 0 c (st,tk,wi)=[a,b,0,c]->K (HF a b (st,tk,wi)).1 d:=λi l=>by
  have:=fin _ a b i l;rw[nv h] at this;rw[i];refine kk xs a b g st ca la d T rfl (by omega) ?_ ⟨_,rfl,h⟩ this;rw[au]
  ·omega
  ·cases e:st != 3<;>simp at e ⊢;exact e
 have r:=T.rw k _ h;have hb:=T.ba;rcases r.st with e|e|e|e
 ·have e:st=0:=e;subst e;have p:aB .u64 a 1=a+1:=yI (by omega) (by omega);exact kk _ _ _ _ 1 ca la d (T.ask h) (by simp) (CO _) (by simp) ⟨_,rfl,BN o⟩ (fin _ _ _ rfl (by show[aB .u64 a 1,b,0,c]= _;rw[p]))
 ·have e:st=1:=e;subst e;by_cases eb:b=tk
  ·subst eb;have i:HF a b (1,b,wi)=(2,b,wi):=by unfold HF;rw[au (show ¬ (1:Int)=0 by decide),az rfl,az rfl]
   rw[i];exact kk _ _ _ _ 2 ca la d (T.win h) (by simp) (by omega) (by simp) ⟨_,rfl,BN o⟩ (fin _ _ _ i rfl)
  ·exact same (by unfold HF;rw[au (show ¬ (1:Int)=0 by decide),az rfl,au eb]) rfl
 ·have e:st=2:=e;subst e;have l:=s rfl;subst l;obtain⟨v,t,T'⟩:=T.go h;subst t;have x:0<=tk/\tk<a:=r.lt (by show ¬ (2:Int)=0;decide);have p:aB .u64 tk 1=tk+1:=yI (by omega) (by omega);exact kk _ _ _ _ 3 ca la d T' (by simp) (by omega) (by simp) ⟨_,rfl,BN o⟩ (fin _ _ _ rfl (by show[a,aB .u64 tk 1,0,c]= _;rw[p]))
 ·have e:st=3:=e;subst e;exact same rfl rfl
end
end Go.Proofs.YtlcenllcmeebhaaGreat.Mu
