import Derived.Test.YtlcenllcmeebhaaGreatPGF
/-! What the statement leans on: texts joined and shortened by a program of mine. -/
set_option linter.unusedVariables false
set_option linter.unusedSimpArgs false
open Go.Proofs.Tryz renaming prog->A2
open Go renaming World->AC,Value->AI,Addr->Ag,Obj->B6,MapEntry->Dx
open List renaming range->Aq,count_append->B1,count_cons->B2,mem_cons_of_mem->B3,getElem?_eq_some_iff->B4,mem_cons_self->B7,mem_append_right->BJ,mem_map->BP,mem_append_left->BY,sublist_cons_self->Bx,count->CW,getElem?_eq_getElem->DB,replicate->DH,mem_range->DQ,length_map->Dc,mem_of_getElem?->Dg,length_set->Dk,append_nil->Do,length_replicate->Dq,getElem?_set_self->E4,eq_of_mem_replicate->E5,length_range->F2,getD_eq_getElem?_getD->FQ,set_set->FR,mem_singleton->Fg,getElem?_set_ne->Fi,sublist_append_right->Fm,count_nil->Fo,any_eq_true->Ft,mem_cons->Fw,getElem?_append_left->Fx,foldl_cons->G1,foldl_append->GD,set_cons_zero->GF,contains_iff_mem->GG,nodup_cons->GI,getElem?_of_mem->GJ,getElem?_replicate->GS,getElem?_map->Ga,perm_middle->Gd,map_append->Gi,length_append->Gj,take_add_one->H4,length_singleton->H5,any_eq_false->Hq,mem_flatMap->Hr,getElem?_range->I1,pairwise_cons->I2,length_filter_le->ID,take_length->IR,range_succ->If,getElem?_append_right->Ih,eq_nil_iff_forall_not_mem->JS,mem_of_find?_eq_some->JU,nodup_nil->JW,ext_getElem?->JX,getElem?_set->K1,mem_filter->Kb,nodup_range->Kf,map_congr_left->Ki,length_cons->LL,length_nil->M4,length_take->M5,append_assoc->N6,getElem?_eq_none->N7,nil_sublist->NG
open Eq renaming mpr->B5
open Int renaming toNat_natCast->DA,le_refl->H6,tmod_eq_emod_of_nonneg->NI
open Bool renaming and_eq_true->Dj,or_eq_true->H7,and_assoc->HB,eq_false_iff->HZ,false_or->Ik,or_eq_false_iff->NK
open List.Perm renaming append_left->Dn,append_right->GH,trans->In
open Nat renaming le_refl->Dr,zero_le->FS,mod_lt->Hb,le_trans->Io,sub_self->J3,not_lt_zero->NL
open Prod renaming ext->FE
open List.Sublist renaming cons->FP
open Go.IntKind renaming i64->FU,min->J5,max->J6,bits->J7,signed->JR
open Go.Instr renaming findNow->Hh
namespace Go.Proofs.YtlcenllcmeebhaaGreat
set_option maxRecDepth 100000
open Go.RX D
section
variable {gh dq:Gh} {ta:Int->Bool} {n:Nat} {s:MS} {i:Nat}
structure ON (e e':vq) (fs:List Int):Prop where
 now:e'.now=e.now
 pins:e'.pins=e.pins
 WW: ∀w∈e'.ws,w∈e.ws\/(w.1∈fs/\w.2=e.now)
 fI: ∀w∈e.ws,w∈e'.ws
 new: ∀f∈fs,f∉e.ws.map (·.1)->(f,e.now)∈e'.ws
 nd:(e.ws.map (·.1)).Nodup->(e'.ws.map (·.1)).Nodup
theorem acw (e:vq) (f:Int):ON e (k9 e f) [f]:=by
 unfold k9;split
 ·rename_i h;obtain⟨w,hw,a⟩:=Ft.1 h;have a:w.1=f:=by simpa using a
  exact⟨rfl,rfl,λw h=> .inl h,λw h=>h,λg b d=>absurd (BP.2 ⟨w,hw,by rw[a,Fg.1 b]⟩) d,id⟩
 ·rename_i h;refine⟨rfl,rfl,λw hw=>?_,λw hw=>B3 _ hw,λg b _=>?_,λd=>?_⟩
  ·rcases Fw.1 hw with rfl|hw
   ·exact .inr ⟨Fg.2 rfl,rfl⟩
   ·exact .inl hw
  ·rw[Fg.1 b];exact B7
  ·show((f,e.now)::e.ws).map (·.1) |>.Nodup;rw[List.map_cons,GI];refine⟨λc=>h ?_,d⟩;obtain⟨w,hw,a⟩:=BP.1 c;exact Ft.2 ⟨w,hw,by simpa using a⟩
theorem EK: ∀(fs:List Int) (e:vq),ON e (fs.foldl k9 e) fs
 |[],e=>⟨rfl,rfl,λw h=> .inl h,λw h=>h,λf l=>absurd l (by simp),id⟩
 |f::fs,e=>by
  have A:=acw e f;have a:=EK fs (k9 e f);show ON e (fs.foldl k9 (k9 e f)) (f::fs);refine⟨a.now.trans A.now,a.pins.trans A.pins,λw d=>?_,λw d=>a.fI w (A.fI w d),λg i j=>?_,λh=>a.nd (A.nd h)⟩
  ·rcases a.WW w d with h|⟨h1,b⟩
   ·exact(A.WW w h).imp id λc=>⟨Fw.2 (.inl (Fg.1 c.1)),c.2⟩
   ·exact .inr ⟨B3 _ h1,by rw[b,A.now]⟩
  ·by_cases c:g=f
   ·exact a.fI _ (A.new g (Fg.2 c) j)
   ·have i:=(Fw.1 i).resolve_left c;rw[<-A.now];refine a.new g i λk=>?_;obtain⟨w,h1,b⟩:=BP.1 k;rcases A.WW w h1 with h|⟨h, _⟩
    ·exact j (BP.2 ⟨w,h,b⟩)
    ·exact c (by rw[<-b];exact Fg.1 h)
theorem JJ (M:MI gh ta n s) {x:bY} (b:yn s x.ak=true) {j:Nat} {q:List AK} (d:s.bx[j]? =some q) {a:AK} (e:a∈q):a.1≠x.ak:=λc=>by
 unfold yn at b;rw[Dj,decide_eq_true_eq,beq_iff_eq] at b;have:=M.oc (x.ak - 1).toNat (by omega);rw[b.2,show(((x.ak - 1).toNat:Nat):Int)+1=x.ak by omega] at this;have f:0<s.bx.countP (λq=>jv q x.ak):=List.countP_pos_iff.2 ⟨q,aC d,Ft.2 ⟨a,e,by simpa using c⟩⟩;omega
theorem MI.done (M:MI gh ta n s) {x:bY} (t:s.cs[i]? =some x) (Q:x.ph=4) (W:yn s x.ak=true):MI gh ta n {s with ep:=x.fs.foldl k9 s.ep,cs:=s.cs.set i (cI x.ls)}:=by
 have lT:i<s.cs.length:=(B4.1 t).1;have R:=EK x.fs s.ep;generalize B:({s with ep:=x.fs.foldl k9 s.ep,cs:=s.cs.set i (cI x.ls)}:MS)=s';have A:s'.h=s.h:=by rw[<-B]
 have he:s'.ep=x.fs.foldl k9 s.ep:=by rw[<-B]
 rw[<-he] at R;have F:s'.kn=s.kn:=by rw[<-B]
 have X:s'.sz=s.sz:=by rw[<-B]
 have hb:s'.bx=s.bx:=by rw[<-B]
 have Y:s'.op=s.op:=by rw[<-B]
 have e9:s'.cs=s.cs.set i (cI x.ls):=by rw[<-B]
 have u: ∀{z:Nat} {y:bY},s'.cs[z]? =some y->(z=i/\y=cI x.ls)\/(z≠i/\s.cs[z]? =some y):=λh=>by rw[e9] at h;exact jQ h
 have C: ∀{y:bY},y∈s'.cs->y=cI x.ls\/ ∃j,j≠i/\s.cs[j]? =some y:=λh=>by
  obtain⟨j,k⟩:=GJ h;exact(u k).imp (·.2) λc=>⟨j,c⟩
 have N: ∀{z:Nat} {y:bY},s.cs[z]? =some y->z≠i->s'.cs[z]? =some y:=λ{z y} h1 p=>by
  rw[e9,Fi (λc=>p c.symm)];exact h1
 have S:=M.fk x (aC t) Q;have Z: ∀{j:Nat} {y:bY} {f:Int},s.cs[j]? =some y->y.ph=2\/y.ph=3->rF s j f->rF s' j f:=λ{j y f} k sK P=>by
  have Fj:=M.pn k;rw[ay sK] at Fj;rcases P with ⟨z,y2,h1,p,G⟩|⟨e,h1,p,G⟩
  ·by_cases c:z=i
   ·subst c;rw[t] at h1;cases h1;exact .inr ⟨_,R.new f G (S f G).2,rfl,by rw[R.pins];exact Fj.2.1⟩
   ·exact .inl ⟨z,y2,N h1 c,p,G⟩
  ·exact .inr ⟨e,R.fI e h1,p,by rw[R.pins];exact G⟩
 have i0:(cI x.ls).ph=0:=rfl;refine⟨by rw[A];exact M.hi,M.nn,by rw[e9,Dk];exact M.lc,by rw[hb];exact M.lb,by rw[R.pins];exact M.lp,by rw[X];exact M.sz,λy o=>?_,λy o=>?_,λy o=>?_,
  by rw[F,A];exact M.k5,by rw[F];exact M.nk,λe O=>?_,R.nd M.wn,λy o e=>?_,λy o e=>?_,λ{a b y z} g v T D E=>?_,λ{m d} g v=>?_,by rw[R.now];exact M.nw,λ{j y} g=>?_,λ{j y} g l hl=>?_,λy o e=>?_,λ{j y} g e=>?_,λ{j y} g e=>?_,λy o e=>?_,λ{a b y z} g v T D E=>?_,λ{j r} g=>?_,by rw[Y,hb];exact M.oc⟩
 ·rcases C o with rfl|⟨j, _,k⟩
  ·rw[i0];decide
  ·exact M.ph y (aC k)
 ·rcases C o with rfl|⟨j, _,k⟩
  ·exact(show cF 0/\cF 0/\cF 0 by decide)
  ·exact M.ar y (aC k)
 ·rw[X];rcases C o with rfl|⟨j, _,k⟩
  ·exact M.tl x (aC t)
  ·exact M.tl y (aC k)
 ·rw[F,R.now];rcases R.WW e O with h|⟨h1,p⟩
  ·exact M.wk e h
  ·exact⟨(S _ h1).1,by rw[p];exact M.nw,by rw[p];exact H6 _⟩
 ·rcases C o with rfl|⟨j,k,o⟩
  ·rw[i0] at e;exact absurd e (by decide)
  ·intro f O;obtain⟨a,b⟩:=M.fk y (aC o) e f O;refine⟨by rw[F];exact a,λc=>?_⟩;obtain⟨w,h1,p⟩:=BP.1 c;rcases R.WW w h1 with h|⟨h, _⟩
   ·exact b (BP.2 ⟨w,h,p⟩)
   ·rw[p] at h;exact M.fd o t k e Q f O h
 ·rcases C o with rfl|⟨j,k,o⟩
  ·rw[i0] at e;exact absurd e (by decide)
  ·exact M.fn y (aC o) e
 ·rcases u g with ⟨_,rfl⟩|⟨_,g⟩
  ·rw[i0] at D;exact absurd D (by decide)
  ·rcases u v with ⟨_,rfl⟩|⟨_,v⟩
   ·rw[i0] at E;exact absurd E (by decide)
   ·exact M.fd g v T D E
 ·rw[A] at g;obtain⟨q1,U⟩:=M.kd g v;rw[F];refine⟨q1,?_⟩;rcases U with U|⟨y,o,g1,H⟩
  ·obtain⟨w,h1,p⟩:=BP.1 U;exact .inl (BP.2 ⟨w,R.fI w h1,p⟩)
  ·obtain⟨j,k⟩:=GJ o;by_cases c:j=i
   ·subst c;rw[t] at k;cases k;exact .inl (BP.2 ⟨_,R.new _ H (S _ H).2,rfl⟩)
   ·exact .inr ⟨y,aC (N k c),g1,H⟩
 ·rw[R.pins,R.now];rcases u g with ⟨rfl,rfl⟩|⟨_,g⟩
  ·have:=M.pn t;rw[Q,au (by decide)] at this;rw[i0,au (by decide)];exact this
  ·exact M.pn g
 ·have zR: ∃V,s.cs[j]? =some V/\l∈V.ls:=by
   rcases u g with ⟨rfl,rfl⟩|⟨_,g⟩
   ·exact⟨x,t,hl⟩
   ·exact⟨y,g,hl⟩
  obtain⟨V,g0,g1⟩:=zR;obtain⟨r0,m,d,I,J,K⟩:=M.ln g0 l g1;refine⟨r0,m,d,I,by rw[A];exact J,?_⟩;rw[A,hb];refine K.imp id λ⟨L,q,a,r5,r6,r7,r8⟩=>⟨L,q,a,r5,r6,r7,λe5=>?_⟩;obtain⟨r9,z,y',b,c0,c1,c2,c3,c4,c5⟩:=r8 e5;refine⟨r9,z,y',b,c0,N c1 λc=>?_,c2,c3,c4,c5⟩;subst c;rw[t] at c1;cases c1;exact JJ M W r5 c0 c4
 ·rw[A];rcases C o with rfl|⟨j, _,k⟩
  ·rw[i0] at e;exact absurd e (by decide)
  ·exact M.ac y (aC k) e
 ·rcases u g with ⟨_,rfl⟩|⟨_,g⟩
  ·rw[i0] at e;exact absurd e (by decide)
  ·obtain⟨l,I,J,K,L⟩:=M.wl g e;refine⟨l,I,J,K,?_⟩;rw[A];exact L.imp id λc=>⟨c.1,Z g (.inl e) c.2.1,c.2.2⟩
 ·rcases u g with ⟨_,rfl⟩|⟨_,g⟩
  ·rw[i0] at e;exact absurd e (by decide)
  ·obtain⟨⟨m,d,I,J,K⟩,L⟩:=M.rc g e;refine⟨⟨m,d,I,by rw[A];exact J,?_⟩,L⟩;exact K.imp id λc=>⟨c.1,Z g (.inr e) c.2.1,c.2.2⟩
 ·rw[Y];rcases C o with rfl|⟨j, _,k⟩
  ·rw[i0] at e;exact absurd e (by decide)
  ·exact M.wt y (aC k) e
 ·rcases u g with ⟨_,rfl⟩|⟨_,g⟩
  ·rw[i0] at D;exact absurd D (by decide)
  ·rcases u v with ⟨_,rfl⟩|⟨_,v⟩
   ·rw[i0] at E;exact absurd E (by decide)
   ·exact M.wu g v T D E
 ·rw[hb] at g;obtain⟨g1,H⟩:=M.aq g;refine⟨g1,λa ha=>?_⟩;obtain⟨z,y,f1,f2,f3,f4⟩:=H a ha;refine⟨z,y,f1,N f2 λc=>?_,f3,f4⟩;subst c;rw[t] at f2;cases f2;exact JJ M W g ha (by rw[f4])
end
section
variable {gh dq:Gh} {ta:Int->Bool} {n:Nat} {s:MS} {i:Nat}
def xi (n:Nat) (s:MS):Prop:= ∃gh ta,MI gh ta n s
theorem SO (M:MI gh ta n s) {x:bY} (a:s.cs[i]? =some x) (h: ¬ (x.ph=2\/x.ph=3)):uQ s.ep i=s.ep:=by
 have:=M.pn a;rw[au h] at this;unfold uQ;rw[<-this,tH M a]
theorem MI.ends (M:MI gh ta n s) {x:bY} (a:s.cs[i]? =some x) (h1:x.ph=1) (kn:List Int) (b:kn=s.kn) (ms:List MT) {ls:List LT} (c:ls=x.ls):MI gh ta n {s with cs:=s.cs.set i (cI ls),kn:=kn,ms:=ms}:=by
 have:=M.idle a (by omega) (λl d=>M.ln a l d) (M.tl x (aC a)) ms;rw[SO M a (by omega)] at this;subst b c;exact this
theorem tL (s:MS):(dA s).1.cs=s.cs:=by
 unfold dA;dsimp only;generalize oz (fi s.ep)=L;generalize b:({s with ep:=Ca (fi s.ep)}:MS)=a;have h0:s.cs=a.cs:=by rw[<-b]
 rw[h0];clear b h0
 induction L generalizing a with
 |nil=>rfl
 |cons f L c=>exact c (gQ a f)
theorem SP {h':HS} (M:MI gh ta n {s with h:=h'}):eK s h'=[]:=by
 refine JS.2 λf a=>?_;obtain⟨m,d,rfl,b,c,e⟩:=ij.1 a;exact e (M.kd b c).1
theorem Wb {x:bY} (a:s.cs[i]? =some x) (x':bY):((s.cs.set i x').getD i x)=x':=by
 rw[FQ,E4 (B4.1 a).1];rfl
theorem MI.call (M:MI gh ta n s) {x:bY} (g:s.cs[i]? =some x) (h1:x.ph=1) (hb:s.bx[i]? =some []) (m:mj s.h x=false) (B:qA s i x=false) (D: ¬ (x.vm=0/\x.c=(17,0,0,0,()))):xi n (iO (iE s i x) i x).1:=by
 have u:=M.ar x (aC g);by_cases p:(x.c.1=2\/x.c.1=4\/x.c.1=5\/x.c.1=10)/\qD s.h x.vm x.c.1 x.c.2.1 x.c.2.2.1 x.c.2.2.2.1=0
 ·obtain⟨o,w⟩:=p;obtain⟨g',C,c2,E⟩:=Nd M.hi u.1.1 w o;have e:(iO (iE s i x) i x).1=AL s (kf s.h x.vm x.c.1 x.c.2.1 x.c.2.2.1 x.c.2.2.2.1) i x (if x.c.1=2 then aG .i64 x.c.2.1 else x.vm) (if x.c.1=2 then -1 else aG .i64 x.c.2.1) (wL s.h x.vm x.c.1 x.c.2.1 x.c.2.2.1 x.c.2.2.2.1,qD s.h x.vm x.c.1 x.c.2.1 x.c.2.2.1 x.c.2.2.2.1) (s.ms++[(1,x.vm,0,x.c,wL s.h x.vm x.c.1 x.c.2.1 x.c.2.2.1 x.c.2.2.2.1,qD s.h x.vm x.c.1 x.c.2.1 x.c.2.2.1 x.c.2.2.2.1)]):=by
   unfold iE;dsimp only;rw[ay o,au (λc=>c w)];rfl
  rw[e];by_cases f:x.c.1=2
  ·obtain⟨r,z⟩:=c2 f;have t:aG .i64 x.c.2.1=x.c.2.1:=Go.Proofs.YtlcenllcmeebhaaGreat.bK (by omega);rw[ay f,ay f,t];refine⟨g', _,M.Xr g h1 hb C r (by decide) (by unfold Al;rw[ay f]) (by unfold Am;rw[ay f]) (λ{j q} c _ _=>?_) (λ{j y} l A c=>?_) _ _⟩
   ·rw[ay f] at c;exact⟨by omega,.inl rfl⟩
   ·have F:j≠i:=λk=>by subst k;rw[g] at l;cases l;omega
    have:qA s i x=true:=by
     unfold qA;refine Ft.2 ⟨j,DQ.2 (B4.1 l).1,?_⟩;rw[l];dsimp only;rw[Dj,decide_eq_true_eq];refine⟨⟨F,z⟩,?_⟩;rw[H7];right;rw[f,c.2,A];have:0<x.c.2.1:=by omega
     simp[this]
    rw[B] at this;cases this
  ·obtain⟨r,z⟩:=E f;have t:aG .i64 x.c.2.1=x.c.2.1:=Go.Proofs.YtlcenllcmeebhaaGreat.bK (by omega);rw[au f,au f,t];refine⟨g', _,M.Xr g h1 hb C r (by omega) (by unfold Al;rw[au f]) (by unfold Am;rw[au f]) (λ{j q} c _ _=>?_) (λ{j y} l A c=>f c.1) _ _⟩;rw[au f] at c;exact⟨by omega,.inr c.2.symm⟩
 ·obtain⟨g',P,C,N,G⟩:=HV (k:=x.c.1) (v:=x.vm) (a:=x.c.2.1) (b:=x.c.2.2.1) (c:=x.c.2.2.2.1) M.hi u.1.1 (λc=>D ⟨c.1,by
   obtain⟨_,k,a,b,d⟩:=c;exact FE k (FE a (FE b (FE d rfl)))⟩) (λH c=>by
   unfold mj a9 at m;rw[H] at m c;rw[c.1,c.2.1,decide_eq_true c.2.2] at m;exact absurd m (by decide)) (by
   by_cases e:x.c.1=2\/x.c.1=4\/x.c.1=5\/x.c.1=10
   ·exact .inl λc=>p ⟨e,c⟩
   ·exact .inr e)
  have M':=M.quiet C N G;have I:=SP M';have e:(iO (iE s i x) i x).1=cB (cB {s with h:=kf s.h x.vm x.c.1 x.c.2.1 x.c.2.2.1 x.c.2.2.2.1,kn:=s.kn++eK s (kf s.h x.vm x.c.1 x.c.2.1 x.c.2.2.1 x.c.2.2.2.1),ms:=s.ms++[(1,x.vm,0,x.c,wL s.h x.vm x.c.1 x.c.2.1 x.c.2.2.1 x.c.2.2.2.1,qD s.h x.vm x.c.1 x.c.2.1 x.c.2.2.1 x.c.2.2.2.1)]} i {x with rs:=(wL s.h x.vm x.c.1 x.c.2.1 x.c.2.2.1 x.c.2.2.2.1,qD s.h x.vm x.c.1 x.c.2.1 x.c.2.2.1 x.c.2.2.2.1),fs:=eK s (kf s.h x.vm x.c.1 x.c.2.1 x.c.2.2.1 x.c.2.2.2.1)}) i (cI ((s.cs.set i {x with rs:=(wL s.h x.vm x.c.1 x.c.2.1 x.c.2.2.1 x.c.2.2.2.1,qD s.h x.vm x.c.1 x.c.2.1 x.c.2.2.1 x.c.2.2.2.1),fs:=eK s (kf s.h x.vm x.c.1 x.c.2.1 x.c.2.2.1 x.c.2.2.2.1)}).getD i x).ls):=by
   unfold iE;dsimp only;split
   ·rename_i o;rw[ay λc=>p ⟨o,c⟩];rfl
   ·rfl
  rw[e,Wb g,I];refine⟨g',ta,?_⟩;have:=M'.ends g h1 (s.kn++[]) (Do _) (s.ms++[(1,x.vm,0,x.c,wL s.h x.vm x.c.1 x.c.2.1 x.c.2.2.1 x.c.2.2.2.1,qD s.h x.vm x.c.1 x.c.2.1 x.c.2.2.1 x.c.2.2.2.1)]) (ls:=x.ls) rfl;unfold cB;dsimp only;rw[FR];exact this
theorem MI.begin (M:MI gh ta n s) {x:bY} (b:s.cs[i]? =some x) (h1:x.ph=1) (hb:s.bx[i]? =some []):xi n (iO (dv s i x) i x).1:=by
 unfold dv;cases d:mj s.h x with
 |true=>
  rw[ay rfl];dsimp only;split
  ·rename_i a;have: ∃l∈x.ls,(mN x.ls x.vm (x.c.2.1 / 16) (a9 x.c.1)).1=l.2.2.1:=by
    unfold mN at a ⊢;cases e:x.ls.find? (B_ x.vm (x.c.2.1 / 16)) with
    |none=>rw[e] at a;exact absurd a (show ¬ (4:Int)=0 by decide)
    |some l=>
     rw[e] at a;dsimp only at a ⊢;split at a
     ·exact absurd a (show ¬ (7:Int)=0 by decide)
     ·rename_i c;rw[au c];exact⟨l,JU e,rfl⟩
   obtain⟨l,g,j⟩:=this;rw[j];exact⟨gh,ta,M.Fy b h1 d g⟩
  ·exact⟨gh,ta,M.Z5 b h1 d⟩
 |false=>
  rw[au (by decide)];cases k:qA s i x with
  |true=>
   rw[ay rfl,i_ b];exact⟨gh,ta,M.ends b h1 s.kn rfl s.ms rfl⟩
  |false=>
   rw[au (by decide)];split
   ·have f:(dA s).1.cs[i]? =some x:=by rw[tL];exact b
    rw[i_ f];exact⟨gh,ta,M.free.ends f h1 _ rfl _ rfl⟩
   ·rename_i m;exact M.call b h1 hb d k m
theorem MI.waits (M:MI gh ta n s) {x:bY} (a:s.cs[i]? =some x) (b:x.ph=4):xi n (iO (iF s x) i x).1:=by
 unfold iF;split
 ·rename_i c;rw[i_ (by exact a)];exact⟨gh,ta,M.done a b c⟩
 ·exact⟨gh,ta,M⟩
theorem MI.lZ (M:MI gh ta n s) {x:bY} (b:s.cs[i]? =some x):xi n (Go.Proofs.YtlcenllcmeebhaaGreat.lZ s i x).1:=by
 have g:=M.ph x (aC b);unfold Go.Proofs.YtlcenllcmeebhaaGreat.lZ;split
 ·rename_i d;unfold bS;rw[au (by omega),au (by omega),au (by omega),ay d];exact⟨gh,ta,M.reach b d⟩
 ·rename_i d;have e:i<s.bx.length:=by rw[M.lb, <-M.lc];exact(B4.1 b).1
  unfold xX;cases c:s.bx[i]? with
  |none=>rw[DB e] at c;cases c
  |some q=>
   cases q with
   |cons a q=>exact⟨gh,ta,M.pop b c⟩
   |nil=>
    dsimp only;unfold bS;split
    ·exact⟨gh,ta,M.free⟩
    split
    ·rename_i h1;exact M.begin b h1 c
    split
    ·rename_i f;exact⟨gh,ta,M.walk b f⟩
    ·exact M.waits b (by omega)
theorem xi.step (M:xi n s) (k:Int):xi n (a8 s k).1:=by
 obtain⟨gh,ta,M⟩:=M;unfold a8;split
 ·exact⟨gh,ta,M⟩
 split
 ·exact⟨gh,ta,M⟩
 ·rename_i a;exact M.lZ a
theorem xi.ask (M:xi n s) (k vm:Int) {c:CT} (hc:cF c.2.1/\cF c.2.2.1/\cF c.2.2.2.1):xi n (dU s k vm c):=by
 obtain⟨gh,ta,M⟩:=M;exact⟨gh,ta,M.ask k vm hc⟩
theorem xi.new {f:Nat} {l:Int} (p:4<=f/\f<=4096) (r:1<=n/\n<=8) (c:1<=l/\l<=64):xi n (m0 f n l):=by
 have hc: ∀{x:bY},x∈(m0 f n l).cs->x=cI []:=λh=>E5 h;have b: ∀{j:Nat} {x:bY},(m0 f n l).cs[j]? =some x->x=cI []:=λh=>hc (aC h);have no: ∀{k:Int},(cI []).ph=k->k≠0->False:=λh o=>o h.symm;have t: ∀{m:Nat} {d:DT},(m0 f n l).h.s.2[m]? =some d->d.1≠5:=λ{m d} h=>by
  have h:(DH f zD)[m]? =some d:=h;rw[E5 (Dg h)];decide
 refine⟨noG,λ_=>false,⟨HI.new p,r,Dq,Dq,Dq,c,λx h=>?_,λx h=>?_,λx h=>?_,λg b=>absurd b (by simp[m0]),JW,λe u=>absurd u (by simp[m0]),JW,λx h e=>?_,λx h e=>?_,λ{i j x y} h1 _ _ e _=>?_,λh1 o=>absurd o (t h1),H6 _,λ{j x} h=>?_,λ{j x} h l c=>?_,λx h e=>?_,λ{j x} h e=>?_,λ{j x} h e=>?_,λx h e=>?_,λ{i j x y} h1 _ _ e _=>?_,λ{j q} h=>?_,λid h=>absurd h (NL _)⟩⟩
 ·rw[hc h];decide
 ·rw[hc h];decide
 ·rw[hc h];show(0:Int)<=l;omega
 ·rw[hc h] at e;exact(no e (by decide)).elim
 ·rw[hc h] at e;exact(no e (by decide)).elim
 ·rw[b h1] at e;exact(no e (by decide)).elim
 ·rw[b h,au (by decide)];have v:j<n:=by
   have:=(B4.1 h).1;rw[show(m0 f n l).cs.length=n from Dq] at this;exact this
  show(DH n (-1:Int)).getD j 0= -1;rw[FQ,GS,ay v];rfl
 ·rw[b h] at c;exact absurd c (by simp[cI])
 ·rw[hc h] at e;exact(no e (by decide)).elim
 ·rw[b h] at e;exact(no e (by decide)).elim
 ·rw[b h] at e;exact(no e (by decide)).elim
 ·rw[hc h] at e;exact(no e (by decide)).elim
 ·rw[b h1] at e;exact(no e (by decide)).elim
 ·have:q=[]:=E5 (aC h);rw[this];exact⟨List.Pairwise.nil,λa w=>by cases w⟩
end
def wOf (x:bY):Nat:=if x.ph=1 then 6 else if x.ph=2 then 2+x.wk.2.1.toNat else if x.ph=3 then 1 else 0
def bl (s:MS) (c:Nat):Nat:=(s.bx.getD c []).length
def o1 (x:bY):Nat:=if x.ph=1 then 1 else 0
structure Pg (s s':MS) (k:Nat) (x x':bY):Prop where
 cs:s'.cs=s.cs.set k x'
 one:x'.ph=1->x.ph=1
 box: ∀j,j≠k->bl s' j+o1 x'<=bl s j+o1 x
 me:bl s' k+wOf x'<=bl s k+wOf x
 lt:0<bl s k+wOf x->bl s' k+wOf x'<bl s k+wOf x
section
variable {gh dq:Gh} {ta:Int->Bool} {n:Nat} {s s':MS} {i:Nat}
theorem EL {x:bY} (a:s.cs[i]? =some x):s.cs.set i x=s.cs:=by
 refine JX λj=>?_;rw[K1];by_cases e:i=j
 ·subst e;rw[ay rfl,ay (B4.1 a).1,a]
 ·rw[au e]
theorem EM (s:MS):(dA s).1.bx=s.bx:=by
 unfold dA;dsimp only;generalize oz (fi s.ep)=L;generalize b:({s with ep:=Ca (fi s.ep)}:MS)=a;have h0:s.bx=a.bx:=by rw[<-b]
 rw[h0];clear b h0
 induction L generalizing a with
 |nil=>rfl
 |cons f L c=>exact c (gQ a f)
theorem BA {s1:MS} {r:Int×Int} {x x1:bY} (h:s1.cs[i]? =some x1):(iO (s1,r,true) i x).1={s1 with cs:=s1.cs.set i (cI x1.ls)}:=by
 unfold iO;rw[ay rfl];show cB s1 i (cI ((s1.cs.getD i x).ls))= _;rw[FQ,h];rfl
end
def gC (s:MS) (c:Nat):bY:=s.cs.getD c (cI [])
def nuC (s:MS) (c:Nat):Nat:=bl s c+wOf (gC s c)
def pn1 (s:MS):Nat:=s.cs.countP λx=>x.ph==1
def muC (s:MS) (c:Nat):Nat:=nuC s c+pn1 s
def Kk (s:MS) (L:List Nat):MS:=L.foldl (λ(s:MS) (c:Nat)=>(a8 s (c:Int)).1) s
section
variable {gh dq:Gh} {ta:Int->Bool} {n:Nat} {s s':MS} {i:Nat}
theorem SQ {x:bY} {c:Nat} (a:s.cs[c]? =some x):a8 s (c:Int)=Go.Proofs.YtlcenllcmeebhaaGreat.lZ s c x:=by
 unfold a8;rw[au (by omega)];show(match s.cs[c]? with|none=> _|some x=> _)= _;rw[a];rfl
structure DS (s s':MS) (k:Nat):Prop where
 mu: ∀c,muC s' c<=muC s c
 lt:0<nuC s k->muC s' k<muC s k
 p1:pn1 s'<=pn1 s
 ph: ∀c,(gC s' c).ph=1->(gC s c).ph=1
 ot: ∀c,c≠k->gC s' c=gC s c
def F3 (n:Nat):Nat->MS->MS
 |0,s=>s
 |r+1,s=>Kk (F3 n r s) (Aq n)
end
section
variable {gh dq:Gh} {ta:Int->Bool} {n:Nat} {s s':MS} {i:Nat}
structure Zs (n:Nat) (s:MS):Prop where
 x:xi n s
 nu: ∀c,c<n->nuC s c=0
 p1:pn1 s=0
structure Iz (n:Nat) (j:Nat) (s:MS):Prop where
 z:Zs n s
 id: ∀c,c<n->(gC s c).ph=0
 fI: ∀e∈s.ep.ws,e.2+(j:Int)<=s.ep.now
end
section
variable {gh dq:Gh} {ta:Int->Bool} {n:Nat} {s s':MS} {i:Nat}
def Dl (h:HS) (k:MT):HS:=if k.1=1 then kf h k.2.1 k.2.2.2.1.1 k.2.2.2.1.2.1 k.2.2.2.1.2.2.1 k.2.2.2.1.2.2.2.1 else if k.1=2 then bq h (fb h.s k.2.2.1) else if k.1=3 then h else bq h (dJ h.s.1 k.2.2.1 k.2.2.2.2.1,h.s.2)
structure YY (h:HS) (k:MT):Prop where
 kd:1<=k.1/\k.1<=4
 call:k.1=1->wL h k.2.1 k.2.2.2.1.1 k.2.2.2.1.2.1 k.2.2.2.1.2.2.1 k.2.2.2.1.2.2.2.1=k.2.2.2.2.1/\qD h k.2.1 k.2.2.2.1.1 k.2.2.2.1.2.1 k.2.2.2.1.2.2.1 k.2.2.2.1.2.2.2.1=k.2.2.2.2.2/\cF k.2.2.2.1.2.1/\cF k.2.2.2.1.2.2.1/\cF k.2.2.2.1.2.2.2.1
 free:k.1=2->iR h.s k.2.2.1=0
 load:k.1=3->sq h.s.1 k.2.2.1=true/\dE h.s.1 k.2.2.1=k.2.2.2.2.1/\k.2.2.2.2.2=0
 store:k.1=4->sq h.s.1 k.2.2.1=true/\cF k.2.2.2.2.1
 hi: ∃gh,HI gh h
inductive Rp:HS->List MT->HS->Prop
 |nil (h:HS):Rp h [] h
 |snoc {h h1:HS} {l:List MT} {k:MT} (r:Rp h l h1) (o:YY h1 k):Rp h (l++[k]) (Dl h1 k)
theorem Rp.add {h h1 a:HS} {l:List MT} {k:MT} (r:Rp h l h1) (o:YY h1 k) (e:Dl h1 k=a):Rp h (l++[k]) a:=by rw[<-e];exact .snoc r o
theorem SS {h0:HS} (M:MI gh ta n s) (R:Rp h0 s.ms s.h) {f r:Int} (b:(f,r)∈s.ep.ws):Rp h0 (fL s f).ms (fL s f).h:=by
 obtain⟨e, _, _⟩:=M.wk _ b;obtain⟨m,d,a,g,i⟩:=M.k5 f e;have a:f=(m:Int):=a;obtain⟨_,j, _⟩:=M.hi.OL g i;refine R.add ⟨(show 1<=(2:Int)/\(2:Int)<=4 by decide),λc=>absurd c (show ¬ (2:Int)=1 by decide),λ_=>?_,λc=>absurd c (show ¬ (2:Int)=3 by decide),λc=>absurd c (show ¬ (2:Int)=4 by decide),⟨gh,M.hi⟩⟩ rfl;show iR s.h.s f=0;rw[a];exact j
theorem EN {h0:HS}: ∀(L:List Int) {s:MS},MI gh ta n s->Rp h0 s.ms s.h->L.Nodup->(∀f∈L, ∃r,(f,r)∈s.ep.ws/\r+2<=s.ep.now)->Rp h0 (L.foldl fL s).ms (L.foldl fL s).h
 |[], _, _,R, _, _=>R
 |f::L,s,M,R,a,b=>by
  obtain⟨r,h1,e⟩:=b f B7;refine EN L (M.fL h1 e) (SS M R h1) (GI.1 a).2 λg d=>?_;obtain⟨r',i,j⟩:=b g (B3 _ d);refine⟨r',Kb.2 ⟨i,?_⟩,j⟩;have:g≠f:=λc=>(GI.1 a).1 (by rw[<-c];exact d);simp[this]
theorem JL {h0:HS} (M:MI gh ta n s) (R:Rp h0 s.ms s.h):Rp h0 (dA s).1.ms (dA s).1.h:=by
 rw[EF M];refine EN _ M.Yh R ?_ λf a=>CH.1 a;unfold oz;refine(lE _).nodup_iff.2 ?_;exact M.Yh.wn.sublist (List.filter_sublist.map _)
theorem Cq (r:St) (i:Nat) (x:bY):(iO r i x).1.ms=r.1.ms/\(iO r i x).1.h=r.1.h:=by
 unfold iO;split<;>exact⟨rfl,rfl⟩
theorem Wc {h0:HS} (M:MI gh ta n s) (R:Rp h0 s.ms s.h) {x:bY} (a:s.cs[i]? =some x):Rp h0 (iE s i x).1.ms (iE s i x).1.h:=by
 have b:=M.ar x (aC a);have key:Rp h0 (s.ms++[(1,x.vm,0,x.c,wL s.h x.vm x.c.1 x.c.2.1 x.c.2.2.1 x.c.2.2.2.1,qD s.h x.vm x.c.1 x.c.2.1 x.c.2.2.1 x.c.2.2.2.1)]) (kf s.h x.vm x.c.1 x.c.2.1 x.c.2.2.1 x.c.2.2.2.1):=
  R.add ⟨(show 1<=(1:Int)/\(1:Int)<=4 by decide),λ_=>⟨rfl,rfl,b⟩,λc=>absurd c (show ¬ (1:Int)=2 by decide),λc=>absurd c (show ¬ (1:Int)=3 by decide),λc=>absurd c (show ¬ (1:Int)=4 by decide),⟨gh,M.hi⟩⟩ rfl
 unfold iE;dsimp only;split
 ·split<;>exact key
 ·exact key
theorem SU {h0:HS} (M:MI gh ta n s) (R:Rp h0 s.ms s.h) {x:bY} (a:s.cs[i]? =some x) (e:x.ph=3):Rp h0 (fY s i x).1.ms (fY s i x).1.h:=by
 obtain⟨⟨m,d,f,g, _⟩, _⟩:=M.rc a e;have j:=M.ar x (aC a);have k:m<s.h.s.2.length:=(B4.1 g).1;have b:sq s.h.s.1 (16*x.fr+x.c.2.1 % 16)=true:=by
  have:=M.hi.sz;rw[f];exact iY (by omega) (by omega)
 unfold fY;dsimp only;split
 ·exact R.add ⟨(show 1<=(4:Int)/\(4:Int)<=4 by decide),λc=>absurd c (show ¬ (4:Int)=1 by decide),λc=>absurd c (show ¬ (4:Int)=2 by decide),λc=>absurd c (show ¬ (4:Int)=3 by decide),λ_=>⟨b,j.2.1⟩,⟨gh,M.hi⟩⟩ rfl
 ·exact R.add ⟨(show 1<=(3:Int)/\(3:Int)<=4 by decide),λc=>absurd c (show ¬ (3:Int)=1 by decide),λc=>absurd c (show ¬ (3:Int)=2 by decide),λ_=>⟨b,rfl,rfl⟩,λc=>absurd c (show ¬ (3:Int)=4 by decide),⟨gh,M.hi⟩⟩ rfl
theorem JM {h0:HS} (X:xi n s) (R:Rp h0 s.ms s.h) (k:Int):Rp h0 (a8 s k).1.ms (a8 s k).1.h:=by
 obtain⟨gh,ta,M⟩:=X;unfold a8;split
 ·exact R
 split
 ·exact R
 ·rename_i x b;unfold Go.Proofs.YtlcenllcmeebhaaGreat.lZ;have d:=M.ph x (aC b);split
  ·rename_i c;rw[(Cq _ _ _).1,(Cq _ _ _).2];unfold bS;rw[au (by omega),au (by omega),au (by omega),ay c];exact SU M R b c
  ·rename_i c;split
   ·rename_i a;unfold xX at a;split at a
    ·cases a;exact R
    ·cases a
   ·rw[(Cq _ _ _).1,(Cq _ _ _).2];unfold bS;split
    ·exact JL M R
    split
    ·unfold dv;split
     ·dsimp only;split<;>exact R
     split
     ·exact R
     split
     ·exact JL M R
     ·exact Wc M R b
    split
    ·unfold lu;dsimp only;split
     ·exact R
     split<;>exact R
    ·unfold iF;split<;>exact R
theorem PJ {h0:HS} (R:Rp h0 s.ms s.h) (k vm:Int) (c:CT):Rp h0 (dU s k vm c).ms (dU s k vm c).h:=by
 unfold dU;split
 ·exact R
 split
 ·exact R
 ·split<;>exact R
end
section
variable {gh dq:Gh} {ta:Int->Bool} {n:Nat} {s s':MS} {i:Nat}
structure Ch (s s':MS) (k:Nat) (x x':bY):Prop where
 cs:s'.cs=s.cs.set k x'
 ls: ∀l∈x'.ls,l∈x.ls\/(x.ph=2/\s.bx[k]? =some []/\l.1=x.vm/\l.2.1=x.c.2.1 / 16/\jJ s.h x.vm.toNat (x.c.2.1 / 16)=(l.2.2.1,l.2.2.2.1,0,()))
 vc:x'.ph=0\/(x.ph≠0/\x'.vm=x.vm/\x'.c=x.c)
 p3:x'.ph=3->s.bx[k]? =some []/\((x.ph=1/\ ∃l∈x.ls,l.1=x.vm/\l.2.1=x.c.2.1 / 16/\l.2.2.1=x'.fr)\/(x.ph=2/\ ∃r,jJ s.h x.vm.toNat (x.c.2.1 / 16)=(x'.fr,r,0,())))
 p4:x'.ph=4->(x.ph=4/\x'.rs=x.rs)\/(x'.rs.2=0/\x.c.1≠6/\x.c.1≠7)
 md:s'.h=s.h\/s'.h=(dA s).1.h\/(x.ph=1/\s'.h=kf s.h x.vm x.c.1 x.c.2.1 x.c.2.2.1 x.c.2.2.2.1)\/(x.ph=3/\x.c.1=7/\s'.h=bq s.h (dJ s.h.s.1 (16*x.fr+x.c.2.1 % 16) x.c.2.2.1,s.h.s.2))
 p2:x'.ph=2->x.ph=1\/x.ph=2
 bo: ∀j,j≠k-> ∀q,s.bx[j]? =some q-> ∃r,s'.bx[j]? =some (q++r)/\(x.ph=1->x.c.1=6->mj s.h x=true->r=[])/\(x.ph≠1->r=[])
theorem nN {s s':MS} {k:Nat} {x:bY} (hb:s'.bx=s.bx): ∀j,j≠k-> ∀q,s.bx[j]? =some q-> ∃r,s'.bx[j]? =some (q++r)/\(x.ph=1->x.c.1=6->mj s.h x=true->r=[])/\(x.ph≠1->r=[]):=λj _ q h=>⟨[],by rw[hb,Do];exact h,λ_ _ _=>rfl,λ_=>rfl⟩
theorem Ch.idle {x:bY} {ls:List LT} (e9:s'.cs=s.cs.set i (cI ls)) (a:ls=x.ls) (md:s'.h=s.h\/s'.h=(dA s).1.h\/(x.ph=1/\s'.h=kf s.h x.vm x.c.1 x.c.2.1 x.c.2.2.1 x.c.2.2.2.1)\/(x.ph=3/\x.c.1=7/\s'.h=bq s.h (dJ s.h.s.1 (16*x.fr+x.c.2.1 % 16) x.c.2.2.1,s.h.s.2))) (hb:s'.bx=s.bx:=by first|rfl|exact EM _):Ch s s' i x (cI ls):=
 ⟨e9,λl h=> .inl (by rw[<-a];exact h),.inl rfl,λc=>absurd c (show ¬ (0:Int)=3 by decide),λc=>absurd c (show ¬ (0:Int)=4 by decide),md,λc=>absurd c (show ¬ (0:Int)=2 by decide),nN hb⟩
theorem Wd {bx:List (List AK)} {op:List Int} {t p:Int} {j:Nat} (b:j≠i) {q:List AK} (a:bx[j]? =some q): ∃r,(dB bx op i t p).2.1[j]? =some (q++r):=by
 unfold dB;split
 ·exact⟨[],by rw[Do];exact a⟩
 split
 ·exact⟨[],by rw[Do];exact a⟩
 ·refine⟨[((op.length:Int)+1,t,p,())],?_⟩;have:=post_at (i:=i) (x:=(((op.length:Int)+1,t,p,()):AK)) a;rw[au b] at this;exact this
theorem SV {x:bY} (g:s.cs[i]? =some x) (h1:x.ph=1): ∃x',Ch s (iO (iE s i x) i x).1 i x x':=by
 by_cases a:(x.c.1=2\/x.c.1=4\/x.c.1=5\/x.c.1=10)/\qD s.h x.vm x.c.1 x.c.2.1 x.c.2.2.1 x.c.2.2.2.1=0
 ·obtain⟨a,d⟩:=a;generalize b:iE s i x=r;unfold iE at b;dsimp only at b;rw[ay a,au (λc=>c d)] at b;subst b;exact⟨_,rfl,λl k=> .inl (tI k).1,.inr ⟨by omega,rfl,rfl⟩,λc=>absurd c (show ¬ (4:Int)=3 by decide),λ_=> .inr ⟨d,by omega,by omega⟩,.inr (.inr (.inl ⟨h1,rfl⟩)),λc=>absurd c (show ¬ (4:Int)=2 by decide),λj m q n=>(Wd m n).imp λr h=>⟨h,λ_ c6 _=>(by omega),λc=>absurd h1 c⟩⟩
 ·have e: ∃(s1:MS) (x1:bY) (r:Int×Int),iE s i x=(s1,r,true)/\s1.h=kf s.h x.vm x.c.1 x.c.2.1 x.c.2.2.1 x.c.2.2.2.1/\s1.cs=s.cs.set i x1/\x1.ls=x.ls/\s1.bx=s.bx:=by
   unfold iE;dsimp only;split
   ·rename_i o;rw[ay λc=>a ⟨o,c⟩];exact⟨_,{x with rs:= _,fs:= _}, _,rfl,rfl,rfl,rfl,rfl⟩
   ·exact⟨_,{x with rs:= _,fs:= _}, _,rfl,rfl,rfl,rfl,rfl⟩
  obtain⟨s1,x1,r,p,t,f,u,v⟩:=e;rw[p];have w:s1.cs[i]? =some x1:=by rw[f,E4 (B4.1 g).1]
  rw[BA w];refine⟨cI x1.ls,Ch.idle ?_ u (.inr (.inr (.inl ⟨h1,t⟩))) v⟩;show s1.cs.set i _= _;rw[f,FR]
theorem Nf {x:bY} (e:s.cs[i]? =some x) (h1:x.ph=1) (hb:s.bx[i]? =some []): ∃x',Ch s (iO (dv s i x) i x).1 i x x':=by
 unfold dv;cases g:mj s.h x with
 |true=>
  rw[ay rfl];dsimp only;split
  ·rename_i a;have: ∃l∈x.ls,l.1=x.vm/\l.2.1=x.c.2.1 / 16/\l.2.2.1=(mN x.ls x.vm (x.c.2.1 / 16) (a9 x.c.1)).1:=by
    unfold mN at a ⊢;cases b:x.ls.find? (B_ x.vm (x.c.2.1 / 16)) with
    |none=>rw[b] at a;exact absurd a (show ¬ (4:Int)=0 by decide)
    |some l=>
     rw[b] at a;dsimp only at a ⊢;split at a
     ·exact absurd a (show ¬ (7:Int)=0 by decide)
     ·rename_i c;rw[au c];have d:=List.find?_some b;unfold B_ at d;rw[Dj,beq_iff_eq,beq_iff_eq] at d;exact⟨l,JU b,d.1,d.2,rfl⟩
   exact⟨_,rfl,λl h=> .inl h,.inr ⟨by omega,rfl,rfl⟩,λ_=>⟨hb,.inl ⟨h1,this⟩⟩,λc=>absurd c (show ¬ (3:Int)=4 by decide),.inl rfl,λc=>absurd c (show ¬ (3:Int)=2 by decide),nN rfl⟩
  ·exact⟨_,rfl,λl h=> .inl h,.inr ⟨by omega,rfl,rfl⟩,λc=>absurd c (show ¬ (2:Int)=3 by decide),λc=>absurd c (show ¬ (2:Int)=4 by decide),.inl rfl,λ_=> .inl h1,nN rfl⟩
 |false=>
  rw[au (by decide)];cases j:qA s i x with
  |true=>
   rw[ay rfl,i_ e];exact⟨_,Ch.idle rfl rfl (.inl rfl)⟩
  |false=>
   rw[au (by decide)];split
   ·have f:(dA s).1.cs[i]? =some x:=by rw[tL];exact e
    rw[i_ f];exact⟨_,Ch.idle (by rw[tL]) rfl (.inr (.inl rfl))⟩
   ·exact SV e h1
theorem SW (M:MI gh ta n s) {x:bY} (e:s.cs[i]? =some x) (b:x.ph=2) (hb:s.bx[i]? =some []): ∃x',Ch s (iO (lu s i x) i x).1 i x x':=by
 have r:=M.ar x (aC e);obtain⟨u,v,D⟩:=M.ac x (aC e) b;obtain⟨l,w1,w,z,d⟩:=M.wl e b;have q:=xK ⟨r.1.1,v⟩;have g:x.wk=(x.wk.1,(l:Int),(0,0,0,0,())):=FE rfl (FE w1 z);obtain⟨A,B,E,C,F,G⟩:=xJ M u;unfold lu;dsimp only;split
 ·exact⟨_,rfl,λl h=> .inl h,.inr ⟨by omega,rfl,rfl⟩,λc=>absurd (show x.ph=3 from c) (by omega),λc=>absurd (show x.ph=4 from c) (by omega),.inl rfl,λ_=> .inr b,nN rfl⟩
 split
 ·rw[BA (x1:={x with wk:=bF s.h.s.1 (x.c.2.1 / 16) (a9 x.c.1) x.wk}) (by exact(E4 (B4.1 e).1))];refine⟨cI x.ls,Ch.idle ?_ rfl (.inl rfl)⟩;show(s.cs.set i _).set i _= _;rw[FR]
 rename_i j f;have j:(bF s.h.s.1 (x.c.2.1 / 16) (a9 x.c.1) x.wk).2.1= -1:=Classical.byContradiction j;have f:(bF s.h.s.1 (x.c.2.1 / 16) (a9 x.c.1) x.wk).2.2.2.2.2.1=0:=Classical.byContradiction f;have k:bA s.h.s A.root false (x.c.2.1 / 16)=((bF s.h.s.1 (x.c.2.1 / 16) (a9 x.c.1) x.wk).2.2.1,(bF s.h.s.1 (x.c.2.1 / 16) (a9 x.c.1) x.wk).2.2.2.1,0,()):=by
  rcases d with d|d
  ·rcases M.hi.inv.qj M.hi.nl (t:=a9 x.c.1) C q d with ⟨m, _,o,a,H,k4⟩|⟨o,a⟩
   ·rw[<-g] at o;rw[j] at o;omega
   ·rw[<-g] at a;exact a f
  ·obtain⟨_,a⟩:=M.hi.inv.ql (t:=a9 x.c.1) q w d.1;rw[<-g,f] at a;exact absurd a (by decide)
 rw[<-bP B] at k;refine⟨_,rfl,λy p=>?_,.inr ⟨by omega,rfl,rfl⟩,λ_=>⟨hb,.inr ⟨b, _,k⟩⟩,λc=>absurd c (show ¬ (3:Int)=4 by decide),.inl rfl,λc=>absurd c (show ¬ (3:Int)=2 by decide),nN rfl⟩;rcases EH p with p|rfl
 ·exact .inl p
 ·exact .inr ⟨b,hb,rfl,rfl,k⟩
theorem chg (M:MI gh ta n s) {x:bY} (b:s.cs[i]? =some x): ∃x',Ch s (Go.Proofs.YtlcenllcmeebhaaGreat.lZ s i x).1 i x x':=by
 have z:=M.ph x (aC b);unfold Go.Proofs.YtlcenllcmeebhaaGreat.lZ;split
 ·rename_i d;unfold bS;rw[au (by omega),au (by omega),au (by omega),ay d];have: ∃(s1:MS) (r:Int×Int),fY s i x=(s1,r,true)/\s1.cs=s.cs/\s1.bx=s.bx/\(s1.h=s.h\/(x.ph=3/\x.c.1=7/\s1.h=bq s.h (dJ s.h.s.1 (16*x.fr+x.c.2.1 % 16) x.c.2.2.1,s.h.s.2))):=by
   unfold fY;dsimp only;split
   ·rename_i m;exact⟨_, _,rfl,rfl,rfl,.inr ⟨d,m,rfl⟩⟩
   ·exact⟨_, _,rfl,rfl,rfl,.inl rfl⟩
  obtain⟨s1,r,o,g,p,t⟩:=this;rw[o,i_ (x:=x) (by rw[g];exact b)];exact⟨_,Ch.idle (by rw[g]) rfl (t.imp id λc=> .inr (.inr c)) p⟩
 ·rename_i d;have u:i<s.bx.length:=by rw[M.lb, <-M.lc];exact(B4.1 b).1
  unfold xX;cases f:s.bx[i]? with
  |none=>rw[DB u] at f;cases f
  |some q=>
   cases q with
   |cons a q=>
    refine⟨_,rfl,λl v=> .inl (tI v).1,?_,λc=>absurd c d,λc=> .inl ⟨c,rfl⟩,.inl rfl,λc=> .inr c,λj w A y=>⟨[],by rw[Do];show(s.bx.set i q)[j]? = _;rw[Fi (λe=>w e.symm)];exact y,λ_ _ _=>rfl,λ_=>rfl⟩⟩;by_cases h0:x.ph=0
    ·exact .inl h0
    ·exact .inr ⟨h0,rfl,rfl⟩
   |nil=>
    dsimp only;unfold bS;split
    ·rename_i h0;exact⟨x,by show(dA s).1.cs= _;rw[tL,EL b],λl h=> .inl h,.inl h0,λc=>absurd c d,λc=> .inl ⟨c,rfl⟩,.inr (.inl rfl),λc=> .inr c,nN (EM s)⟩
    split
    ·rename_i h1;exact Nf b h1 f
    split
    ·rename_i k;exact SW M b k f
    ·rename_i h0 h1 k;unfold iF;split
     ·rw[i_ (by exact b)];exact⟨_,Ch.idle rfl rfl (.inl rfl)⟩
     ·exact⟨x,(EL b).symm,λl h=> .inl h,.inr ⟨h0,rfl,rfl⟩,λc=>absurd c d,λc=> .inl ⟨c,rfl⟩,.inl rfl,λc=> .inr c,nN rfl⟩
theorem za (X:xi n s) (k:Int):(a8 s k).1=s\/ ∃(c:Nat) (x x':bY),k=(c:Int)/\s.cs[c]? =some x/\Ch s (a8 s k).1 c x x':=by
 obtain⟨gh,ta,M⟩:=X;by_cases b:k<0
 ·left;unfold a8;rw[ay b]
 ·cases a:s.cs[k.toNat]? with
  |none=>left;unfold a8;rw[au b,a]
  |some x=>
   obtain⟨x',C⟩:=chg M a;refine .inr ⟨k.toNat,x,x',by omega,a,?_⟩;have e:a8 s k=Go.Proofs.YtlcenllcmeebhaaGreat.lZ s k.toNat x:=by unfold a8;rw[au b,a]
   rw[e];exact C
end
section
variable {gh dq:Gh} {ta:Int->Bool} {n:Nat} {s s':MS} {i:Nat} {N:Int->Int->Prop}
structure Nm (N:Int->Int->Prop) (s:MS):Prop where
 ln: ∀x∈s.cs, ∀l∈x.ls,N l.1 l.2.1
 ca: ∀x∈s.cs,x.ph≠0->x.c.1=6\/x.c.1=7->N x.vm (x.c.2.1 / 16)
theorem Nm.step (H:Nm N s) (X:xi n s) (k:Int):Nm N (a8 s k).1:=by
 rcases za X k with e|⟨c,x,x', _,j,C⟩
 ·rw[e];exact H
 obtain⟨gh,ta,M⟩:=X;have b:=aC j;refine⟨λy a l i=>?_,λy a h0 f=>?_⟩
 ·rw[C.cs] at a;rcases ig a with rfl|a
  ·rcases C.ls l i with h|⟨m, _,g,d, _⟩
   ·exact H.ln x b l h
   ·rw[g,d];exact H.ca x b (by omega) (M.ac x b m).2.2
  ·exact H.ln y a l i
 ·rw[C.cs] at a;rcases ig a with rfl|a
  ·rcases C.vc with h|⟨o,g,d⟩
   ·exact absurd h h0
   ·rw[g,d];rw[d] at f;exact H.ca x b o f
  ·exact H.ca y a h0 f
theorem Nm.ask (H:Nm N s) (k vm:Int) {c:CT} (hc:c.1=6\/c.1=7->N vm (c.2.1 / 16)):Nm N (dU s k vm c):=by
 unfold dU;split
 ·exact H
 cases e:s.cs[k.toNat]? with
 |none=>exact H
 |some x=>
  dsimp only;split
  ·refine⟨λy a l b=>?_,λy a h0 d=>?_⟩
   ·rcases ig (show y∈s.cs.set _ _ from a) with rfl|a
    ·exact H.ln x (aC e) l b
    ·exact H.ln y a l b
   ·rcases ig (show y∈s.cs.set _ _ from a) with rfl|a
    ·exact hc d
    ·exact H.ca y a h0 d
  ·exact H
theorem Nm.new (f:Nat) (l:Int):Nm N (m0 f n l):=⟨λx a l b=>(by rw[E5 a] at b;cases b),λx a h0=>(by rw[E5 a] at h0;exact absurd rfl h0)⟩
structure NX (s:MS):Prop where
 r: ∀x∈s.cs,x.ph=4->x.rs.2=0
theorem NX.step (H:NX s) (X:xi n s) (k:Int):NX (a8 s k).1:=by
 rcases za X k with e|⟨c,x,x', _,d,C⟩
 ·rw[e];exact H
 refine⟨λy a b=>?_⟩;rw[C.cs] at a;rcases ig a with rfl|a
 ·rcases C.p4 b with ⟨f,g⟩|e
  ·rw[g];exact H.r x (aC d) f
  ·exact e.1
 ·exact H.r y a b
theorem NX.ask (H:NX s) (k vm:Int) (c:CT):NX (dU s k vm c):=by
 unfold dU;split
 ·exact H
 cases d:s.cs[k.toNat]? with
 |none=>exact H
 |some x=>
  dsimp only;split
  ·refine⟨λy a b=>?_⟩;rcases ig (show y∈s.cs.set _ _ from a) with rfl|a
   ·exact absurd b (show ¬ (1:Int)=4 by decide)
   ·exact H.r y a b
  ·exact H
theorem NX.new (f:Nat) (l:Int):NX (m0 f n l):=⟨λx b a=>by rw[E5 b] at a;exact absurd a (show ¬ (0:Int)=4 by decide)⟩
end
theorem c1: ¬ (1:Int)=12:=by decide
theorem c2: ¬ (2:Int)=12:=by decide
theorem c3: ¬ (3:Int)=12:=by decide
theorem c4: ¬ (4:Int)=12:=by decide
theorem c5: ¬ (5:Int)=12:=by decide
theorem c6: ¬ (6:Int)=12:=by decide
theorem c7: ¬ (7:Int)=12:=by decide
theorem c9: ¬ (9:Int)=12:=by decide
theorem Yk: ¬ (10:Int)=12:=by decide
theorem c11: ¬ (11:Int)=12:=by decide
section
variable {gh:Gh} {h:HS}
theorem Ng (H:HI gh h) {v:Int} (k:aU h.g v=true) {p:Int} (a:0<=p/\p<65536):uM (aZ h.g v) p 0=false/\(((nb h.s.1 (aZ h.g v) p 0).2.2.2.1=0/\ ∃(m:Nat) (d:DT),(nb h.s.1 (aZ h.g v) p 0).1=(m:Int)/\h.s.2[m]? =some d/\d.1=4)\/(nb h.s.1 (aZ h.g v) p 0).2.2.2.1=4):=by
 obtain⟨x,f,n,hv, _⟩:=b_ k;have b:=H.root f;have c:=H.inv.PA H.nl b a (t:=0) (by decide);rw[n];obtain⟨o,q,z⟩:=H.inv.vo b;refine⟨?_,?_⟩
 ·unfold uM;have r:dX x.root p 3=16*x.root+px 3 p % 16:=lq ⟨o,q⟩ a (l:=3) (by omega);have A:=eo p 3;rw[r,decide_eq_false (by omega),decide_eq_false (by omega),decide_eq_false (by omega)];rfl
 ·by_cases e:(bA h.s x.root false p).2.2.1=0
  ·rw[ay e] at c;have u:m_ h v.toNat p=some (bA h.s x.root false p).1:=by rw[cN f,ay e]
   obtain⟨m,d,h1,w,y, _⟩:=H.TT u;obtain⟨f0,B, _,i⟩:=H.inv.mv b a;have j:=(H.inv.V5 b a i).2.2;rw[<-H.inv.fH b a i] at j;refine .inl ⟨j.2 e,m,d,?_,w,y⟩;rw[c];exact h1
  ·rw[au e] at c;exact .inr c
end
section
variable {gh dq:Gh} {ta:Int->Bool} {n:Nat} {s s':MS} {i:Nat}
theorem EO {x:bY} (a:s.cs[i]? =some x) (h0:x.ph=0) (vm:Int) (c:CT):dU s (i:Int) vm c=cB s i {x with ph:=1,vm:=vm,c:=c}/\s7 s (i:Int)=0:=by
 refine⟨?_,?_⟩
 ·unfold dU;rw[au (by omega)];show(match s.cs[i]? with|none=> _|some x=> _)= _;rw[a];exact ay h0
 ·unfold s7;rw[au (by omega)];show(match s.cs[i]? with|none=>(2:Int)|some x=> _)= _;rw[a];exact ay h0
theorem quick {x:bY} (d:s.cs[i]? =some x) (h0:x.ph=0) (hb:s.bx[i]? =some []) {vm:Int} {c:CT} (m: ¬ (c.1=2\/c.1=4\/c.1=5\/c.1=10)) (n:a9 c.1=0) (o:c.1≠17) (a:qA s i {x with ph:=1,vm:=vm,c:=c}=false):
 a8 (dU s (i:Int) vm c) (i:Int)=({s with h:=kf s.h vm c.1 c.2.1 c.2.2.1 c.2.2.2.1,kn:=s.kn++eK s (kf s.h vm c.1 c.2.1 c.2.2.1 c.2.2.2.1),ms:=s.ms++[(1,vm,0,c,wL s.h vm c.1 c.2.1 c.2.2.1 c.2.2.2.1,qD s.h vm c.1 c.2.1 c.2.2.1 c.2.2.2.1)],cs:=s.cs.set i (cI x.ls)},(wL s.h vm c.1 c.2.1 c.2.2.1 c.2.2.2.1,qD s.h vm c.1 c.2.1 c.2.2.1 c.2.2.2.1),true):=by
 have f:i<s.cs.length:=(B4.1 d).1;rw[(EO d h0 vm c).1];generalize b:({x with ph:=1,vm:=vm,c:=c}:bY)=y at a ⊢;have p:y.ph=1:=by rw[<-b]
 have hc:y.c=c:=by rw[<-b]
 have hv:y.vm=vm:=by rw[<-b]
 have q:y.ls=x.ls:=by rw[<-b]
 have g:(cB s i y).cs[i]? =some y:=E4 f;rw[SQ g];unfold Go.Proofs.YtlcenllcmeebhaaGreat.lZ;rw[au (by omega)];unfold xX;rw[show(cB s i y).bx[i]? =some [] from hb];dsimp only;unfold bS;rw[au (by omega),ay p];unfold dv;have r:mj (cB s i y).h y=false:=by unfold mj;rw[hc,n];rfl
 have t:qA (cB s i y) i y=false:=by
  unfold qA at a ⊢;rw[Hq] at a ⊢;intro j l;have u:j∈Aq s.cs.length:=by
   show j∈Aq s.cs.length;rw[show(cB s i y).cs.length=s.cs.length from Dk] at l;exact l
  have:=a j u;by_cases e:j=i
  ·subst e;rw[g];simp
  ·rw[show(cB s i y).cs[j]? =s.cs[j]? from Fi (λk=>e k.symm)];exact this
 rw[r,t,au (by decide),au (by decide),au (λk=>o (by rw[hc] at k;rw[k.2]))];unfold iE;dsimp only;rw[hc,au m,hv];unfold iO;rw[ay rfl];dsimp only;have v: ∀(x1:bY),((s.cs.set i y).set i x1).getD i y=x1:=λx1=>by
  rw[FR,FQ,E4 f];rfl
 unfold cB;dsimp only;rw[v];dsimp only;rw[FR,FR,q];rfl
theorem SX (a: ∀y∈s.cs,y.ph=0) (x:bY):qA s i x=false:=by
 unfold qA;rw[Hq];intro j _;cases b:s.cs[j]? with
 |none=>simp
 |some y=>
  have:=a y (aC b);dsimp only;rw[this];simp
theorem SY {h:HS} (H:HI gh h) {v:Nat} (a:mL h.g=some v) (hc:0<cj h.s.2 0):qD h 0 1 0 0 0=0/\wL h 0 1 0 0 0=(v:Int)/\(kf h 0 1 0 0 0).g=bj h.g v (some ⟨eh h.s (v:Int),[]⟩)/\cj (kf h 0 1 0 0 0).s.2 0+1=cj h.s.2 0:=by
 have b:iT h 0 1 0 0 0=0:=rfl;obtain⟨h1,f,m⟩:=Gv b;have hv:=(nQ.1 a).1;have c:rj h.s (v:Int)=0:=H.inv.ZU (by omega) hc;have d:(run h 0 1 0 0 0).1={h with s:=iK h.s (v:Int) λ_=>0,g:=bj h.g v (some ⟨eh h.s (v:Int),[]⟩)}:=by
  show gP h= _;unfold gP;rw[a];exact ay c
 have e:(run h 0 1 0 0 0).2.2=0:=by
  show oY h=0;unfold oY;rw[a];exact c
 have i:(run h 0 1 0 0 0).2.1=(v:Int):=by
  show AH h=(v:Int);unfold AH;rw[a]
 refine⟨f.trans e,?_,?_,?_⟩
 ·unfold wL;rw[ay b,ay e];exact i
 ·rw[h1,d]
 ·rw[h1,d];show cj (dy h.s.2 3 (v:Int)) 0+1= _;obtain⟨j, _,k, _, _,l⟩:=mY (ds:=h.s.2) (o:=(v:Int)) hc H.inv.fz (by omega);rw[l];have:=th (d':=((3:Int),(v:Int),(0:Int),(0:Int),())) k 0;rw[ay (show zD.1=0 from rfl),au (show ¬ (3:Int)=0 by decide)] at this;omega
end
section
variable {gh dq:Gh} {n:Nat} {s s':MS} {f:Nat} {l:Int}
def Ol (h:HS):Prop:= ∀i q,m_ h i q=none
theorem Ol.DC {h:HS} (H:HI gh h) (b:Ol h):Ol (kf h 0 1 0 0 0):=λi q=>by
 obtain⟨g',d,E, _⟩:=H.Gu;have e:kf h 0 1 0 0 0=gP h:=(Gv (show iT h 0 1 0 0 0=0 from rfl)).1;rw[e];cases a:m_ (gP h) i q with
 |none=>rfl
 |some x=>
  obtain⟨_, _,f,g⟩:=d.hc.iM a;have:=b i q;rw[rP,E.pg.to (λc=>c ⟨f,g⟩), <-rP,this] at a;cases a
abbrev wM:CT:=(1,0,0,0,())
structure Bg (f n:Nat) (l:Int) (k:Nat) (s:MS):Prop where
 x:xi n s
 r:NX s
 np:Ol s.h
 cs:s.cs=DH n (cI [])
 bx:s.bx=DH n []
 kn:s.kn=[]
 op:s.op=[]
 ws:s.ep.ws=[]
 sz:s.sz=l
 len:s.h.s.2.length=f
 cnt:cj s.h.s.2 0+k=f
 live: ∀v:Int,aU s.h.g v=true<->1<=v/\v<=(k:Int)
 rp:Rp (h0 f) s.ms s.h
 nm: ∀N:Int->Int->Prop,Nm N s
theorem Bg.new (d:20<=f/\f<=4096) (a:1<=n/\n<=8) (b:1<=l/\l<=64):Bg f n l 0 (m0 f n l) where
 x:=xi.new (by omega) a b
 r:=NX.new f l
 np:=λi q=>rfl
 cs:=rfl
 bx:=rfl
 kn:=rfl
 op:=rfl
 ws:=rfl
 sz:=rfl
 len:=Dq
 cnt:=by
  show cj (DH f zD) 0+0=f;rw[VJ,ay rfl];rfl
 live:=λv=>by
  constructor
  ·intro h;obtain⟨_,x,c⟩:=cm.1 h;cases c
  ·intro h;omega
 rp:= .nil _
 nm:=λN=>Nm.new f l
theorem We {α:Type} (n i:Nat) (x:α):(DH n x).set i x=DH n x:=by
 refine JX λj=>?_;rw[K1];split
 ·rename_i e;subst e;rw[Dq,GS]
 ·rfl
theorem Bg.DC {k:Nat} (b:Bg f n l k s) (H:k<16) (I:k<f) (J:1<=n):(a8 (dU s 0 0 wM) 0).2=((((k+1:Nat):Int),0),true)/\Bg f n l (k+1) (a8 (dU s 0 0 wM) 0).1/\s7 s 0=0:=by
 have e:s.cs[0]? =some (cI []):=by rw[b.cs,GS,ay (by omega)]
 have hb:s.bx[0]? =some []:=by rw[b.bx,GS,ay (by omega)]
 have w: ∀y∈s.cs,y.ph=0:=λy o=>by rw[b.cs] at o;rw[E5 o];rfl
 have q:=quick (vm:=0) (c:=wM) e rfl hb (show ¬ ((1:Int)=2\/(1:Int)=4\/(1:Int)=5\/(1:Int)=10) by decide) rfl (show ¬ (1:Int)=17 by decide) (SX w _);have X':=(b.x.ask 0 0 (c:=wM) (show cF 0/\cF 0/\cF 0 by decide)).step 0;have z:=(b.r.ask 0 0 wM).step (b.x.ask 0 0 (c:=wM) (show cF 0/\cF 0/\cF 0 by decide)) 0;have A:=JM (b.x.ask 0 0 (c:=wM) (show cF 0/\cF 0/\cF 0 by decide)) (PJ b.rp 0 0 wM) 0;have B: ∀N:Int->Int->Prop,Nm N (a8 (dU s 0 0 wM) 0).1:=λN=>((b.nm N).ask 0 0 (c:=wM) (λc=>absurd c (show ¬ ((1:Int)=6\/(1:Int)=7) by decide))).step (b.x.ask 0 0 (c:=wM) (show cF 0/\cF 0/\cF 0 by decide)) 0;have q:a8 (dU s 0 0 wM) 0= _:=q;obtain⟨gh,ta,M⟩:=b.x;have C:mL s.h.g=some (k+1):=by
  refine nQ.2 ⟨by omega,?_,λu K L=>?_⟩
  ·cases j:s.h.g (k+1) with
   |none=>rfl
   |some g=>
    have:=(b.live ((k+1:Nat):Int)).1 (cm.2 ⟨by omega,g,j⟩);omega
  ·obtain⟨_,g,j⟩:=cm.1 ((b.live (u:Int)).2 (by omega));have j:s.h.g u=some g:=j;rw[j];rfl
 obtain⟨c1,c2,c3,c4⟩:=SY M.hi C (by have:=b.cnt;omega);have nn:NN s.h.s (kf s.h 0 1 0 0 0).s:=by
  rw[(Gv (show iT s.h 0 1 0 0 0=0 from rfl)).1];exact NN.DC s.h
 have D:eK s (kf s.h 0 1 0 0 0)=[]:=by
  refine JS.2 λg j=>?_;obtain⟨m,d, _,E,F, _⟩:=ij.1 j;obtain⟨d0,p,t⟩:=nn.to E F;have:=(M.kd p t).1;rw[b.kn] at this;cases this
 refine⟨?_,⟨X',z,?_,?_,?_,?_,?_,?_,?_,?_,?_,λv=>?_,A,B⟩,(EO (i:=0) e rfl 0 wM).2⟩
 ·rw[q];show((wL s.h 0 1 0 0 0,qD s.h 0 1 0 0 0),true)= _;rw[c1,c2]
 ·rw[q];exact b.np.DC M.hi
 ·rw[q];show s.cs.set 0 (cI [])= _;rw[b.cs,We]
 ·rw[q];exact b.bx
 ·rw[q];show s.kn++eK s (kf s.h 0 1 0 0 0)=[];rw[D,b.kn];rfl
 ·rw[q];exact b.op
 ·rw[q];exact b.ws
 ·rw[q];exact b.sz
 ·rw[q];show(kf s.h 0 1 0 0 0).s.2.length=f;rw[<-b.len];obtain⟨g',G⟩:=M.hi.step 0 1 0 0 (a:=0) (by decide);have p:=G.sz;have t:=M.hi.sz;have O:=Cm s.h 0 1 0 0 0;omega
 ·rw[q];show cj (kf s.h 0 1 0 0 0).s.2 0+(k+1)=f;have:=b.cnt;omega
 ·rw[q];show aU (kf s.h 0 1 0 0 0).g v=true<-> _;rw[c3];constructor
  ·intro h;obtain⟨hv,x,e⟩:=cm.1 h;unfold bj at e;split at e
   ·omega
   ·have:=(b.live v).1 (cm.2 ⟨hv,x,e⟩);omega
  ·intro h;refine cm.2 ⟨by omega,?_⟩;unfold bj;split
   ·exact⟨_,rfl⟩
   ·obtain⟨_,x,e⟩:=cm.1 ((b.live v).2 (by omega));exact⟨x,e⟩
def DD (f n:Nat) (l:Int):MS:=(a8 (dU (a8 (dU (m0 f n l) 0 0 wM) 0).1 0 0 wM) 0).1
theorem Wf (b:20<=f/\f<=4096) (a:1<=n/\n<=8) (c:1<=l/\l<=64):(a8 (dU (m0 f n l) 0 0 wM) 0).2=((1,0),true)/\(a8 (dU (a8 (dU (m0 f n l) 0 0 wM) 0).1 0 0 wM) 0).2=((2,0),true)/\Bg f n l 2 (DD f n l):=by
 obtain⟨a1,d, _⟩:=(Bg.new b a c).DC (by decide) (by omega) a.1;obtain⟨e,g, _⟩:=d.DC (by decide) (by omega) a.1;exact⟨a1,e,g⟩
end
section
variable {gh dq:Gh} {n:Nat} {s s':MS} {f:Nat} {l:Int}
structure Bd (f n:Nat) (l p b F:Int) (s:MS):Prop where
 x:xi n s
 r:NX s
 pg:jJ s.h 1 p=(F,b,0,())
 only: ∀i q g,m_ s.h i q=some g->i=1/\q=p
 cs:s.cs=DH n (cI [])
 bx:s.bx=DH n []
 kn:s.kn=[]
 op:s.op=[]
 ws:s.ep.ws=[]
 sz:s.sz=l
 live: ∀v:Int,aU s.h.g v=true<->1<=v/\v<=2
 fr: ∃(m:Nat) (d:DT),F=(m:Int)/\s.h.s.2[m]? =some d/\d.1=4/\d.2.1=1/\d.2.2.1=0
end
section
variable {n:Nat} {s:MS}
structure Ret (n:Nat) (s:MS):Prop where
 x:xi n s
 np:Ol s.h
 k6: ∀(c:Nat) (x:bY),1<=c->s.cs[c]? =some x->x.ph≠4/\(x.ph≠0->x.c.1=6)
 c0: ∀x:bY,s.cs[0]? =some x->x.ph=0\/x.ph=4
 j: ∀(c:Nat) (x:bY),s.cs[c]? =some x->x.ph=3->s.bx[c]? ≠some []
end
end Go.Proofs.YtlcenllcmeebhaaGreat
namespace Go.Proofs.YtlcenllcmeebhaaGreat.Mu
set_option maxRecDepth 100000
open Go.RX
abbrev eP:El:= .one .ptr
abbrev eMk:El:= .agg sMk
abbrev MkT:Type:=Int×Int×Int×Int×Int×Int×Int×Int×Int×Unit
abbrev TV (m:MT):MkT:=(m.1,m.2.1,m.2.2.1,m.2.2.2.1.1,m.2.2.2.1.2.1,m.2.2.2.1.2.2.1,m.2.2.2.1.2.2.2.1,m.2.2.2.2.1,m.2.2.2.2.2,())
structure CA where
 cb:Nat
 tb:Nat
 st:Option Ag×Nat×Nat
 sf:Option Ag×Nat×Nat
 wp:Option Ag
 Lt:List (Nat×List AI)
 Lf:List (Nat×List AI)
 Lw:List (Nat×List AI)
abbrev jL (a:CA) (i:Nat) (x:bY):List AI:=
 [aa (i:Int),ag (ae a.tb),aa x.ph,aa x.vm,aa x.c.1,ax x.c.2.1,ax x.c.2.2.1,ax x.c.2.2.2.1,ag a.wp,aa x.fr,ax x.rs.1,aa x.rs.2,aa x.ak,.slice a.sf.1 a.sf.2.1 a.sf.2.2]
def WkW (a:CA) (x:bY):Prop:= ∃(bk:Nat) (s:Option Ag×Nat×Nat) (b:List (Nat×List AI)) (xs:List Int),a.wp=some ⟨bk,0,none⟩/\a.Lw=(bk,lN x.wk.1 (x.c.2.1 / 16) (a9 x.c.1) x.wk.2.1 x.wk.2.2 s)::b/\BO b s xs/\(xs.length:Int)<=3 - x.wk.2.1
structure Tu (a:CA) (x:bY):Prop where
 ls:dm j9 a.st x.ls a.Lt
 fs:dm eI a.sf x.fs a.Lf
 wk:x.ph=2->WkW a x
def sP (a:CA) (i:Nat) (x:bY) (sz:Int):List (Nat×List AI):=(a.cb,jL a i x)::(a.tb,dg a.st sz)::(a.Lt++(a.Lf++a.Lw))
structure MB where
 mb:Nat
 eb:Nat
 xb:Nat
 kb:Nat
 wb:Nat
 sc:Option Ag×Nat×Nat
 sm:Option Ag×Nat×Nat
 sp:Option Ag×Nat×Nat
 sb:Option Ag×Nat×Nat
 so:Option Ag×Nat×Nat
 Lc:List (Nat×List AI)
 Lm:List (Nat×List AI)
 Lp:List (Nat×List AI)
 Lb:List (Nat×List AI)
 Lo:List (Nat×List AI)
 cr:List CR
 ke:List Dx
 we:List Dx
 kk:Nat
 wk:Nat
 A:Nat->CA
abbrev rG (X:HX) (B:MB):List AI:=[ag (ae X.hb),ag (ae B.eb),ag (ae B.xb),.slice B.sc.1 B.sc.2.1 B.sc.2.2,.map (some B.kb),.slice B.sm.1 B.sm.2.1 B.sm.2.2]
def gB (B:MB) (s:MS) (l:List Nat):List (Nat×List AI):=l.flatMap λi=>match s.cs[i]? with
 |some x=>sP (B.A i) i x s.sz
 |none=>[]
abbrev yp (B:MB) (n:Nat):List (Option Ag):=(Aq n).map λi=>some ⟨(B.A i).cb,0,none⟩
structure MWf (B:MB) (s:MS):Prop where
 c:dm eP B.sc (yp B s.cs.length) B.Lc
 m:dm eMk B.sm (s.ms.map TV) B.Lm
 p:dm eI B.sp s.ep.pins B.Lp
 b:dm eC B.sb (dF B.cr) B.Lb
 o:dm eI B.so s.op B.Lo
 l:B.cr.length=s.bx.length
 k:iu B.ke B.kk (s.kn.map λf=>(f,.bool true))
 w:iu B.we B.wk (s.ep.ws.map Fz)
 a: ∀{i x},s.cs[i]? =some x->Tu (B.A i) x
def qJ (s:WD):Prop:=0<s.1.length/\0<s.2.length/\s.2.length<=4096/\okW s.1
abbrev Fp (X:HX) (B:MB) (s:MS):List (Nat×List AI):=(B.mb,rG X B)::(B.eb,oo s.ep.now B.sp B.wb)::(B.xb,lK B.sb B.so)::(B.Lc++(B.Lm++(B.Lp++(B.Lb++B.Lo))))
abbrev Yl (B:MB) (s:MS):List (Nat×B6):=(B.kb,.map ⟨B.ke⟩ B.kk)::(B.wb,.map ⟨B.we⟩ B.wk)::qn B.cr s.bx
abbrev C9 (Q:Sys) (X:HX) (A:Nat->GA) (ca la:Int) (h:HS):List (Nat×List AI):=Q.L ca la h.s (dL Q X A h (a6 Q A h.g (Aq 17)))
def ir (Q:Sys) (X:HX) (D G:List Nat) (w0 w:AC) (B:MB) (s:MS) (T L:List (Nat×List AI)) (M:List (Nat×B6)):Prop:=
 ∃(A:Nat->GA) (ca la:Int),C6 A s.h/\qJ s.h.s/\MWf B s/\cv D G w0 w (T++(Fp X B s++(gB B s (Aq s.cs.length)++(C9 Q X A ca la s.h++L)))) (Yl B s++(cK A s.h.g (Aq 17)++M))
theorem bG {α:Type} {c d:List α} (h: ∀[BEq α] [LawfulBEq α] (a:α),c.count a=d.count a):c.Perm d:=by
 letI:DecidableEq α:=λa b=>Classical.propDecidable (a=b)
 exact List.perm_iff_count.2 λa=>h a
section
variable {Q:Sys} {X:HX} {D G:List Nat} {w0 w w1:AC} {B:MB} {s:MS} {T L:List (Nat×List AI)} {M:List (Nat×B6)}
theorem ir.ext (H:ir Q X D G w0 w B s T L M) (h:Ext w w1):ir Q X D G w0 w1 B s T L M:=by
 obtain⟨A,ca,la,h1,a,b,c⟩:=H;exact⟨A,ca,la,h1,a,b,c.ext h⟩
theorem ir.wf (H:ir Q X D G w0 w B s T L M):MWf B s:=by
 obtain⟨A,ca,la,h1,b,a,c⟩:=H;exact a
theorem ir.all (H:ir Q X [] [] w0 w B s T L M):Ext w0 w:=by
 obtain⟨A,ca,la,h1,b,c,a⟩:=H;exact a.all
theorem ir.tmp (H:ir Q X D G w0 w B s T L M): ∃R a,cv D G w0 w (T++R) a/\(∀x∈Fp X B s,x∈R)/\(∀x∈Yl B s,x∈a)/\(∀{i x},s.cs[i]? =some x-> ∀y∈sP (B.A i) i x s.sz,y∈R)/\ ∀{T' w'},cv D G w0 w' (T'++R) a->ir Q X D G w0 w' B s T' L M:=by
 obtain⟨A,ca,la,h1,c,d,e⟩:=H;refine⟨_, _,e,λx b=>BY _ b,λx b=>BY _ b,λ{i x} hi y f=>BJ _ (BY _ ?_),λh=>⟨A,ca,la,h1,c,d,h⟩⟩;unfold gB;exact Hr.2 ⟨i,DQ.2 (B4.1 hi).1,by rw[hi];exact f⟩
theorem ir.al (H:ir Q X D G w0 w B s T L M) {cs:List AI} {e:TypeId} {K:Nat->AC->Prop} (k: ∀b w1,ir Q X D G w0 w1 B s ((b,cs)::T) L M->K b w1):aM w ⟨cs⟩ e K:=by
 obtain⟨R,a,H, _, _, _,J⟩:=H.tmp;exact alM H λb w1 H=>k b w1 (J H)
theorem ir.st (H:ir Q X D G w0 w B s T L M) (i:Nat) {b:Nat} {l vs:List AI} {K:AC->Prop} (a:T[i]? =some (b,l)) (c:vs.all (·.oneCell')=true) (d:vs.length=l.length) (k: ∀w1,ir Q X D G w0 w1 B s (T.set i (b,vs)) L M->K w1):aA w (ae b) vs K:=by
 obtain⟨R,e,H, _, _, _,J⟩:=H.tmp;have hi:=(B4.1 a).1;refine stB H i (by rw[Fx hi];exact a) c d λw1 H=>k w1 (J ?_);rw[List.set_append_left _ _ hi] at H;exact H
theorem ir.ld (H:ir Q X D G w0 w B s T L M) (i:Nat) {g:Option Bool} {el:El} {K:el.T->Prop} {b o:Nat} {l:List AI} {x:el.T} (a:T[i]? =some (b,l)) (hv:kr l o el=some x) (k:K x):aj w g (some ⟨b,o,none⟩) el K:=by
 obtain⟨R,c,H, _, _, _,J⟩:=H.tmp;exact aj.at i H.base (by rw[Fx (B4.1 a).1];exact a) hv k
theorem ir.cg (H:ir Q X D G w0 w B s T L M) (i:Nat) {g:Option Bool} {el:El} {K:el.T->Prop} {b n:Nat} {l:List AI} {x:el.T} (a:T[i]? =some (b,l)) (hv:kr l n el=some x) (k:K x):aj w g (ad (ae b) n) el K:=by
 obtain⟨R,c,H, _, _, _,J⟩:=H.tmp;exact aj.ku H.base (BY _ (Dg a)) hv k
theorem ir.ri (H:ir Q X D G w0 w B s T L M) {n:Nat} {g:Option Bool} {el:El} {K:el.T->Prop} {x:el.T} (hv:kr (rG X B) n el=some x) (k:K x):aj w g (ad (ae B.mb) n) el K:=by
 obtain⟨R,b,H,a, _, _,J⟩:=H.tmp;exact aj.ku H.base (BJ _ (a _ B7)) hv k
theorem ir.Ym (H:ir Q X D G w0 w B s T L M) {i:Nat} {x:bY} (a:s.cs[i]? =some x) {n:Nat} {g:Option Bool} {el:El} {K:el.T->Prop} {y:el.T} (hv:kr (jL (B.A i) i x) n el=some y) (k:K y):aj w g (ad (some ⟨(B.A i).cb,0,none⟩) n) el K:=by
 obtain⟨R,b,H, _, _,hc,J⟩:=H.tmp;exact aj.ku H.base (BJ _ (hc a _ B7)) hv k
theorem ir.sub (H:ir Q X D G w0 w B s T L M) {T':List (Nat×List AI)} (h:T'.Sublist T):ir Q X D G w0 w B s T' L M:=by
 obtain⟨R,a,H, _, _, _,J⟩:=H.tmp;exact J (H.sub (h.append_right _))
def C_ (B:MB) (i:Nat) (a:CA):MB:={B with A:=λj=>if j=i then a else B.A j}
theorem mU (B:MB) (i:Nat) (a:CA):(C_ B i a).A i=a:=ay rfl
theorem zF {B:MB} {s s':MS} {i:Nat} {a:CA} (c:s'.sz=s.sz) (hc: ∀j,j≠i->s'.cs[j]? =s.cs[j]?):gB (C_ B i a) s' ((Aq s.cs.length).erase i)=gB B s ((Aq s.cs.length).erase i):=by
 unfold gB;refine gm λj d=>?_;have b:j≠i:=λe=>by subst e;exact(Kf.not_mem_erase) d
 rw[hc j b,c];cases s.cs[j]? with
 |none=>rfl
 |some x=>show sP ((C_ B i a).A j) j x s.sz= _;rw[show(C_ B i a).A j=B.A j from au b]
theorem lF {B:MB} {s:MS} {i:Nat} {x:bY} (a:s.cs[i]? =some x):(gB B s (Aq s.cs.length)).Perm (sP (B.A i) i x s.sz++gB B s ((Aq s.cs.length).erase i)):=by
 unfold gB;refine(List.Perm.flatMap_right _ (List.perm_cons_erase (DQ.2 (B4.1 a).1))).trans ?_;rw[List.flatMap_cons,a]
theorem MWf.up (W:MWf B s) {i:Nat} {x x':bY} (f:s.cs[i]? =some x) {a:CA} (g:a.cb=(B.A i).cb) (h:Tu a x'):MWf (C_ B i a) (cB s i x'):=by
 have n:yp (C_ B i a) s.cs.length=yp B s.cs.length:=by
  refine Ki λj _=>?_;by_cases e:j=i
  ·subst e;rw[mU,g]
  ·rw[show(C_ B i a).A j=B.A j from au e]
 refine⟨?_,W.m,W.p,W.b,W.o,W.l,W.k,W.w,λ{j y} d=>?_⟩
 ·show dm eP B.sc (yp (C_ B i a) (s.cs.set i x').length) B.Lc;rw[Dk,n];exact W.c
 ·by_cases e:j=i
  ·subst e;rw[mU];have:(s.cs.set j x')[j]? =some y:=d;rw[E4 (B4.1 f).1] at this;cases this;exact h
  ·have:(s.cs.set i x')[j]? =some y:=d;rw[Fi (λc=>e c.symm)] at this;rw[show(C_ B i a).A j=B.A j from au e];exact W.a this
theorem ir.C8 (H:ir Q X D G w0 w B s T L M) {i:Nat} {x:bY} (b:s.cs[i]? =some x): ∃R d,cv D G w0 w (sP (B.A i) i x s.sz++(T++R)) d/\
 ∀{T' a x' w'},a.cb=(B.A i).cb->Tu a x'->cv D G w0 w' (sP a i x' s.sz++(T'++R)) d->ir Q X D G w0 w' (C_ B i a) (cB s i x') T' L M:=by
 obtain⟨A,ca,la,h1,f,g,k⟩:=H;refine⟨Fp X B s++(gB B s ((Aq s.cs.length).erase i)++(C9 Q X A ca la s.h++L)), _,k.perm ?_,λ{T' a x' w'} l m n=>⟨A,ca,la,h1,f,g.up b l m,n.perm ?_⟩⟩
 ·have:=lF (B:=B) b;refine In ?_ (Dn T (Dn _ (GH _ this.symm)));exact bG λa=>by simp only[B1,B2];omega
 ·have o:(cB s i x').cs[i]? =some x':=E4 (B4.1 b).1;have e:(cB s i x').cs.length=s.cs.length:=Dk ..;have:=lF (B:=C_ B i a) o;rw[mU,e,zF (s:=s) (s':=cB s i x') rfl λj p=>(show(s.cs.set i x')[j]? =s.cs[j]? from Fi (λc=>p c.symm))] at this;rw[e];refine(Dn T' (Dn _ (GH _ this))).trans ?_;show(T'++(Fp X B s++(sP a i x' s.sz++gB B s ((Aq s.cs.length).erase i)++(C9 Q X A ca la s.h++L)))).Perm _;exact bG λa=>by simp only[B1,B2];omega
end
section
variable {Q:Sys} {X:HX} {D G:List Nat} {w0 w:AC} {B:MB} {s:MS} {T L:List (Nat×List AI)} {M:List (Nat×B6)}
theorem iB.qJ {h:HS} {L:List (Nat×List AI)} (H:iB Q X D G w0 w h L):qJ h.s:=by
 obtain⟨A,W,S⟩:=H;exact⟨S.pos,S.Dv,S.le,S.XV⟩
theorem ir.hv (H:ir Q X D G w0 w B s T L M): ∃i L',iB Q X [] i w w s.h L'/\ ∀{e h'},iB Q X [] i w e h' L'->ir Q X D G w0 e B {s with h:=h'} T L M:=by
 obtain⟨A,ca,la,h1,f,d,r⟩:=H;have j:cv D G w0 w (Q.L ca la s.h.s (dL Q X A s.h (a6 Q A s.h.g (Aq 17)++(T++(Fp X B s++(gB B s (Aq s.cs.length)++L)))))) (cK A s.h.g (Aq 17)++(Yl B s++M)):=
  (r.perm (bG λa=>by simp only[Sys.L,B1,B2];omega)).iP (bG λa=>by simp only[B1,B2];omega)
 refine⟨_, _,⟨A,h1,f.1,f.2.1,f.2.2.1,f.2.2.2,ca,la,cv.Ck j⟩,λ{e h'} K=>?_⟩;have t:=iB.qJ K;obtain⟨A',u, _, _, _, _,n,q,K⟩:=K;have K:=cv.IE j K;refine⟨A',n,q,u,t,⟨d.c,d.m,d.p,d.b,d.o,d.l,d.k,d.w,d.a⟩,?_⟩;show cv D G w0 e (T++(Fp X B s++(gB B s (Aq s.cs.length)++(C9 Q X A' n q h'++L)))) (Yl B s++(cK A' h'.g (Aq 17)++M));exact(K.perm (bG λa=>by
  simp only[Sys.L,B1,B2];omega)).iP (bG λa=>by simp only[B1,B2];omega)
theorem ir.sat (H:ir Q X D G w0 w B s T L M): ∃A n L0,bh Q [] n w w s.h.s L0/\(X.hb,e9 Q X A s.h.g)∈L0/\(∀i v,s.h.g i=some v-> ∀x∈gO Q A i v,x∈L0)/\(∀x∈T,x∈L0)/\(∀x∈Fp X B s,x∈L0)/\(∀{i x},s.cs[i]? =some x-> ∀y∈sP (B.A i) i x s.sz,y∈L0)/\
 ∀{T' j s'},bh Q [] n w j s' (T'++L0)->ir Q X D G w0 j B {s with h:=bq s.h s'} (T'++T) L M:=by
 obtain⟨A,ca,la,h1,f,d,u⟩:=H;have q:cv D G w0 w (Q.L ca la s.h.s (dL Q X A s.h (a6 Q A s.h.g (Aq 17)++(T++(Fp X B s++(gB B s (Aq s.cs.length)++L)))))) ([]++(Yl B s++(cK A s.h.g (Aq 17)++M))):=
  u.perm (bG λa=>by simp only[Sys.L,B1,B2];omega)
 refine⟨A, _, _,⟨f.1,f.2.1,f.2.2.1,f.2.2.2,ca,la,(cv.Ck q).base⟩,B7,λi v hv x e=>?_,λx e=>?_,λx e=>?_,λ{i x} hi y z=>?_,λ{T' j s'} K=>?_⟩
 ·refine B3 _ (B3 _ (B3 _ (B3 _ (BY _ (Bj (DQ.2 ?_) hv x e)))));have:=h1.iM hv;omega
 ·exact B3 _ (B3 _ (B3 _ (B3 _ (BJ _ (BY _ e)))))
 ·exact B3 _ (B3 _ (B3 _ (B3 _ (BJ _ (BJ _ (BY _ e))))))
 ·refine B3 _ (B3 _ (B3 _ (B3 _ (BJ _ (BJ _ (BJ _ (BY _ ?_)))))));unfold gB;exact Hr.2 ⟨i,DQ.2 (B4.1 hi).1,by rw[hi];exact z⟩
 ·obtain⟨C,E,F,k4,r,t,K⟩:=K;have K:=cv.IE q (M1':=[]) (cv.of K);refine⟨A,r,t,⟨h1.iM,h1.mp,h1.gl,h1.pt,h1.gk⟩,⟨C,E,F,k4⟩,⟨d.c,d.m,d.p,d.b,d.o,d.l,d.k,d.w,d.a⟩,?_⟩;exact K.perm (bG λa=>by
   show CW a (T'++T++(Fp X B s++(gB B s (Aq s.cs.length)++(Q.L r t s' (dL Q X A s.h (a6 Q A s.h.g (Aq 17)))++L))))= _;simp only[Sys.L,B1,B2];omega)
theorem ir.pL (H:ir Q X D G w0 w B s T L M): ∃R e,cv D G w0 w ((B.mb,rG X B)::(B.Lm++(T++R))) e/\
 ∀{T' sm Lm ms w'},dm eMk sm (ms.map TV) Lm->cv D G w0 w' ((B.mb,rG X {B with sm:=sm,Lm:=Lm})::(Lm++(T'++R))) e->ir Q X D G w0 w' {B with sm:=sm,Lm:=Lm} {s with ms:=ms} T' L M:=by
 obtain⟨A,ca,la,h1,f,d,g⟩:=H;refine⟨(B.eb,oo s.ep.now B.sp B.wb)::(B.xb,lK B.sb B.so)::(B.Lc++(B.Lp++(B.Lb++(B.Lo++(gB B s (Aq s.cs.length)++(C9 Q X A ca la s.h++L)))))), _,g.perm (bG λa=>by simp only[B1,B2];omega),λ{T' sm Lm ms w'} i K=>?_⟩;refine⟨A,ca,la,h1,f,⟨d.c,i,d.p,d.b,d.o,d.l,d.k,d.w,d.a⟩,K.perm (bG λa=>?_)⟩;show CW a (T'++(Fp X {B with sm:=sm,Lm:=Lm} s++(gB B s (Aq s.cs.length)++(C9 Q X A ca la s.h++L))))= _;simp only[B1,B2];omega
theorem ir.eps (H:ir Q X D G w0 w B s T L M): ∃R e,cv D G w0 w ((B.eb,oo s.ep.now B.sp B.wb)::(B.Lp++(T++R))) ((B.wb,.map ⟨B.we⟩ B.wk)::e)/\
 ∀{T' sp Lp ep we wk w'},dm eI sp ep.pins Lp->iu we wk (ep.ws.map Fz)->cv D G w0 w' ((B.eb,oo ep.now sp B.wb)::(Lp++(T'++R))) ((B.wb,.map ⟨we⟩ wk)::e)->ir Q X D G w0 w' {B with sp:=sp,Lp:=Lp,we:=we,wk:=wk} {s with ep:=ep} T' L M:=by
 obtain⟨A,ca,la,h1,f,d,i⟩:=H;refine⟨(B.mb,rG X B)::(B.xb,lK B.sb B.so)::(B.Lc++(B.Lm++(B.Lb++(B.Lo++(gB B s (Aq s.cs.length)++(C9 Q X A ca la s.h++L)))))),(B.kb,.map ⟨B.ke⟩ B.kk)::(qn B.cr s.bx++(cK A s.h.g (Aq 17)++M)),(i.perm (bG λa=>by simp only[B1,B2];omega)).iP (bG λa=>by simp only[B1,B2];omega),λ{T' sp Lp ep we wk w'} j n K=>?_⟩;refine⟨A,ca,la,h1,f,⟨d.c,d.m,j,d.b,d.o,d.l,d.k,n,d.a⟩,(K.perm (bG λa=>?_)).iP (bG λa=>?_)⟩
 ·show CW a (T'++(((B.mb,rG X B)::(B.eb,oo ep.now sp B.wb)::(B.xb,lK B.sb B.so)::(B.Lc++(B.Lm++(Lp++(B.Lb++B.Lo)))))++(gB B s (Aq s.cs.length)++(C9 Q X A ca la s.h++L))))= _;simp only[B1,B2];omega
 ·show CW a (((B.kb,Obj.map ⟨B.ke⟩ B.kk)::(B.wb,Obj.map ⟨we⟩ wk)::qn B.cr s.bx)++(cK A s.h.g (Aq 17)++M))= _;simp only[B1,B2];omega
theorem ir.kns (H:ir Q X D G w0 w B s T L M): ∃R e,cv D G w0 w (T++R) ((B.kb,.map ⟨B.ke⟩ B.kk)::e)/\
 ∀{T' kn ke kk w'},iu ke kk (kn.map λf=>(f,.bool true))->cv D G w0 w' (T'++R) ((B.kb,.map ⟨ke⟩ kk)::e)->ir Q X D G w0 w' {B with ke:=ke,kk:=kk} {s with kn:=kn} T' L M:=by
 obtain⟨A,ca,la,h1,i,d,j⟩:=H;refine⟨_,(B.wb,.map ⟨B.we⟩ B.wk)::(qn B.cr s.bx++(cK A s.h.g (Aq 17)++M)),j,λ{T' kn ke kk w'} k K=>?_⟩;exact⟨A,ca,la,h1,i,⟨d.c,d.m,d.p,d.b,d.o,d.l,k,d.w,d.a⟩,K⟩
theorem ir.bxs (H:ir Q X D G w0 w B s T L M): ∃R e,cv D G w0 w ((B.xb,lK B.sb B.so)::(B.Lb++(B.Lo++(T++R)))) (qn B.cr s.bx++e)/\
 ∀{T' so Lo op cr bx w'},dm eI so op Lo->cr.length=bx.length->dF cr=dF B.cr->cv D G w0 w' ((B.xb,lK B.sb so)::(B.Lb++(Lo++(T'++R)))) (qn cr bx++e)->ir Q X D G w0 w' {B with so:=so,Lo:=Lo,cr:=cr} {s with op:=op,bx:=bx} T' L M:=by
 obtain⟨A,ca,la,h1,f,d,i⟩:=H;refine⟨(B.mb,rG X B)::(B.eb,oo s.ep.now B.sp B.wb)::(B.Lc++(B.Lm++(B.Lp++(gB B s (Aq s.cs.length)++(C9 Q X A ca la s.h++L))))),(B.kb,.map ⟨B.ke⟩ B.kk)::(B.wb,.map ⟨B.we⟩ B.wk)::(cK A s.h.g (Aq 17)++M),(i.perm (bG λa=>by simp only[B1,B2];omega)).iP (bG λa=>by simp only[B1,B2];omega),λ{T' so Lo op cr bx w'} j l hc K=>?_⟩;refine⟨A,ca,la,h1,f,⟨d.c,d.m,d.p,?_,j,l,d.k,d.w,d.a⟩,(K.perm (bG λa=>?_)).iP (bG λa=>?_)⟩
 ·show dm eC B.sb (dF cr) B.Lb;rw[hc];exact d.b
 ·show CW a (T'++(((B.mb,rG X B)::(B.eb,oo s.ep.now B.sp B.wb)::(B.xb,lK B.sb so)::(B.Lc++(B.Lm++(B.Lp++(B.Lb++Lo)))))++(gB B s (Aq s.cs.length)++(C9 Q X A ca la s.h++L))))= _;simp only[B1,B2];omega
 ·show CW a (((B.kb,Obj.map ⟨B.ke⟩ B.kk)::(B.wb,Obj.map ⟨B.we⟩ B.wk)::qn cr bx)++(cK A s.h.g (Aq 17)++M))= _;simp only[B1,B2];omega
end
section
variable {Q:Sys} {X:HX} {D G:List Nat} {w0 w:AC} {B:MB} {s:MS} {T L:List (Nat×List AI)} {M:List (Nat×B6)}
theorem abH (H:ir Q X D G w0 w B s T L M) (n:Int):af A2 64 [ag (ae B.mb),aa n] w (ag (if 0<=n/\n<(s.cs.length:Int) then some ⟨(B.A n.toNat).cb,0,none⟩ else none)):=by
 refine af.of (s:= .el (.one .ptr)) λw' h'=>ai (C:=U2) (aQ:=λ_=>[]) (B5 (Z0 _ _ w' _) ?_);have H:=H.ext h';have W:=H.wf;have a:B.sc.2.1=s.cs.length:=by rw[W.c.1,Dc,F2]
 refine⟨λ_=>rfl,λ_=>rfl,H.ri (show _=some (B.sc.1,B.sc.2.1,B.sc.2.2) from rfl) ?_⟩;dsimp only;rw[a];by_cases c:0<=n/\n<(s.cs.length:Int)
 ·rw[ay c];obtain⟨R,f,K,d, _, _, _⟩:=H.tmp;have b:=W.c.sl K.base (λy e=>BJ _ (d _ (B3 _ (B3 _ (B3 _ (BY _ e)))))) n.toNat (some ⟨(B.A n.toNat).cb,0,none⟩) (by rw[Ga,I1 (by omega)];rfl);refine an ?_ ⟨rfl,rfl,H.ri (show _=some (B.sc.1,B.sc.2.1,B.sc.2.2) from rfl) ⟨⟨b.1,c.1,by dsimp only;rw[a];exact c.2⟩,aj.of _ b.2 λw1 h1=>⟨rfl,h1⟩⟩⟩;simp only[Option.isNone_some,Ik,NK,decide_eq_false_iff_not];omega
 ·rw[au c];refine aB ?_ λw1 h1=>⟨rfl,h1⟩;simp only[Option.isNone_some,Ik,H7,decide_eq_true_eq];omega
theorem acx {a:Int} (h:cF a):aG .i64 (wO .u64 a 16)=a / 16:=by
 unfold cF at h;have e:wO .u64 a 16=a / 16:=by
  show aG .u64 (a.tdiv 16)= _;rw[Int.tdiv_eq_ediv_of_nonneg h.1];exact ee (by omega)
 rw[e];exact bK (by omega)
theorem Wg (H:ir Q X D G w0 w B s T L M) {i:Nat} {x:bY} (a:s.cs[i]? =some x) (b:cF x.c.2.1):af A2 160 [ag (some ⟨(B.A i).cb,0,none⟩)] w (aa (x.c.2.1 / 16)):=by
 refine af.of (s:= .el (.one (.int .i64))) λw' h'=>ai (C:=U2) (aQ:=λ_=>[]) (B5 (Sk _ w' _) ?_);refine⟨rfl,rfl,rfl,(H.ext h').Ym a (n:=5) (show _=some x.c.2.1 from rfl) λw1 h1=>⟨acx b,h1⟩⟩
end
structure MR where
 mb:Nat
 eb:Nat
 xb:Nat
 kb:Nat
 wb:Nat
 cb:Nat->Nat
 tb:Nat->Nat
abbrev MB.rt (B:MB):MR:=⟨B.mb,B.eb,B.xb,B.kb,B.wb,λi=>(B.A i).cb,λi=>(B.A i).tb⟩
theorem Xs {B:MB} {i:Nat} {a:CA} (h1:a.cb=(B.A i).cb) (d:a.tb=(B.A i).tb):(C_ B i a).rt=B.rt:=by
 have b:(λj=>((C_ _ i a).A j).cb)=λj=>(B.A j).cb:=funext λj=>by
  by_cases e:j=i
  ·subst e;rw[mU];grind
  ·rw[show(C_ _ i a).A j=B.A j from au e]
 have c:(λj=>((C_ _ i a).A j).tb)=λj=>(B.A j).tb:=funext λj=>by
  by_cases e:j=i
  ·subst e;rw[mU];grind
  ·rw[show(C_ _ i a).A j=B.A j from au e]
 show MR.mk _ _ _ _ _ _ _=MR.mk _ _ _ _ _ _ _;rw[b,c];rfl
def MU (Q:Sys) (X:HX) (D G:List Nat) (w0 w:AC) (R:MR) (s:MS) (T L:List (Nat×List AI)) (M:List (Nat×B6)):Prop:= ∃B:MB,B.rt=R/\ir Q X D G w0 w B s T L M
theorem Nh {s:MS} {i:Nat} {x:bY} (a:s.cs[i]? =some x):cB s i x=s:=by
 unfold cB;have:s.cs.set i x=s.cs:=by
  obtain⟨h,e⟩:=B4.1 a;subst e;simp
 rw[this]
theorem eY {s:MS} {i:Nat} {x y:bY} (a:s.cs[i]? =some x):(cB s i y).cs[i]? =some y:=E4 (B4.1 a).1
theorem kW (s:MS) (i:Nat) (x y:bY):cB (cB s i x) i y=cB s i y:=by unfold cB;simp_all
section
variable {Q:Sys} {X:HX} {D G:List Nat} {w0 w w1:AC} {R:MR} {s:MS} {T L:List (Nat×List AI)} {M:List (Nat×B6)} {i:Nat} {x:bY} {g:Option Bool}
theorem MU.ext (H:MU Q X D G w0 w R s T L M) (h:Ext w w1):MU Q X D G w0 w1 R s T L M:=by
 obtain⟨B,e,H⟩:=H;exact⟨B,e,H.ext h⟩
theorem MU.all (H:MU Q X [] [] w0 w R s T L M):Ext w0 w:=by
 obtain⟨B,e,H⟩:=H;exact H.all
theorem MU.en (H:MU Q X D G w0 w R s T L M) {K:AC->Prop} (k: ∀w1,MU Q X D G w0 w1 R s T L M->K w1):ao w K:=λ_ h=>k _ (H.ext h)
theorem MU.go (H:MU Q X D G w0 w R s T L M) {P:Program} {f:FuncId} {sh:Sh} {args:List AI} {K:sh.T->AC->Prop} (k: ∀w1,MU Q X D G w0 w1 R s T L M->aD P f sh args w1 K):az P f sh args w K:=λ_ h=>k _ (H.ext h)
theorem MU.al (H:MU Q X D G w0 w R s T L M) {cs:List AI} {e:TypeId} {K:Nat->AC->Prop} (k: ∀b w1,MU Q X D G w0 w1 R s ((b,cs)::T) L M->K b w1):aM w ⟨cs⟩ e K:=by
 obtain⟨B,e,H⟩:=H;exact H.al λb w1 H=>k b w1 ⟨B,e,H⟩
theorem MU.st (H:MU Q X D G w0 w R s T L M) (i:Nat) {b:Nat} {l vs:List AI} {K:AC->Prop} (a:T[i]? =some (b,l)) (c:vs.all (·.oneCell')=true) (d:vs.length=l.length) (k: ∀w1,MU Q X D G w0 w1 R s (T.set i (b,vs)) L M->K w1):aA w (ae b) vs K:=by
 obtain⟨B,e,H⟩:=H;exact H.st i a c d λw1 H=>k w1 ⟨B,e,H⟩
theorem MU.ld (H:MU Q X D G w0 w R s T L M) (i:Nat) {el:El} {K:el.T->Prop} {b o:Nat} {l:List AI} {x:el.T} (a:T[i]? =some (b,l)) (hv:kr l o el=some x) (k:K x):aj w g (some ⟨b,o,none⟩) el K:=by
 obtain⟨B,e,H⟩:=H;exact H.ld i a hv k
theorem MU.cg (H:MU Q X D G w0 w R s T L M) (i:Nat) {el:El} {K:el.T->Prop} {b n:Nat} {l:List AI} {x:el.T} (a:T[i]? =some (b,l)) (hv:kr l n el=some x) (k:K x):aj w g (ad (ae b) n) el K:=by
 obtain⟨B,e,H⟩:=H;exact H.cg i a hv k
theorem MU.sub (H:MU Q X D G w0 w R s T L M) {T':List (Nat×List AI)} (h:T'.Sublist T):MU Q X D G w0 w R s T' L M:=by
 obtain⟨B,e,H⟩:=H;exact⟨B,e,H.sub h⟩
theorem MU.f0 (H:MU Q X D G w0 w R s T L M) {K:Option Ag->Prop} (k:K (ae X.hb)):aj w g (ad (ae R.mb) 0) (.one .ptr) K:=by
 obtain⟨B,rfl,H⟩:=H;exact H.ri rfl k
theorem MU.f1 (H:MU Q X D G w0 w R s T L M) {K:Option Ag->Prop} (k:K (ae R.eb)):aj w g (ad (ae R.mb) 1) (.one .ptr) K:=by
 obtain⟨B,rfl,H⟩:=H;exact H.ri rfl k
theorem MU.f2 (H:MU Q X D G w0 w R s T L M) {K:Option Ag->Prop} (k:K (ae R.xb)):aj w g (ad (ae R.mb) 2) (.one .ptr) K:=by
 obtain⟨B,rfl,H⟩:=H;exact H.ri rfl k
theorem MU.f4 (H:MU Q X D G w0 w R s T L M) {K:Option Nat->Prop} (k:K (some R.kb)):aj w g (ad (ae R.mb) 4) (.one .map) K:=by
 obtain⟨B,rfl,H⟩:=H;exact H.ri rfl k
theorem MU.cf (H:MU Q X D G w0 w R s T L M) (b:s.cs[i]? =some x) {n:Nat} {el:El} {K:el.T->Prop} {y:el.T} (hv: ∀a:CA,kr (jL a i x) n el=some y) (k:K y):aj w g (ad (some ⟨R.cb i,0,none⟩) n) el K:=by
 obtain⟨B,rfl,H⟩:=H;exact H.Ym b (hv _) k
theorem MU.c1 (H:MU Q X D G w0 w R s T L M) (a:s.cs[i]? =some x) {K:Option Ag->Prop} (k:K (some ⟨R.tb i,0,none⟩)):aj w g (ad (some ⟨R.cb i,0,none⟩) 1) (.one .ptr) K:=by
 obtain⟨B,rfl,H⟩:=H;exact H.Ym a rfl k
theorem MU.C8 (H:MU Q X D G w0 w R s T L M) (d:s.cs[i]? =some x): ∃(a:CA) (b:List (Nat×List AI)) (c:List (Nat×B6)),a.cb=R.cb i/\a.tb=R.tb i/\Tu a x/\cv D G w0 w (sP a i x s.sz++(T++b)) c/\
 ∀{T':List (Nat×List AI)} {a':CA} {x':bY} {w':AC},a'.cb=a.cb->a'.tb=a.tb->Tu a' x'->cv D G w0 w' (sP a' i x' s.sz++(T'++b)) c->MU Q X D G w0 w' R (cB s i x') T' L M:=by
 obtain⟨B,rfl,H⟩:=H;obtain⟨b,c,K,J⟩:=H.C8 d;exact⟨B.A i,b,c,rfl,rfl,H.wf.a d,K,λh1 e f g=>⟨_,Xs h1 e,J h1 f g⟩⟩
theorem MU.cs (H:MU Q X D G w0 w R s T L M) (c:s.cs[i]? =some x) (x':bY) (n:Nat) {vs:List AI} (d:vs.all (·.oneCell')=true) (e:Nat.ble (n+vs.length) 14=true) (f: ∀a:CA,(jL a i x).take n++(vs++(jL a i x).drop (n+vs.length))=jL a i x') (g: ∀a,Tu a x->Tu a x') {K:AC->Prop}
 (k: ∀w1,MU Q X D G w0 w1 R (cB s i x') T L M->K w1):aA w (ad (some ⟨R.cb i,0,none⟩) n) vs K:=by
 obtain⟨a,m,o,h,hb,W,b,J⟩:=H.C8 c;rw[<-h,aV,Nat.zero_add];refine λw1 h1=>aA.at 0 (b.ext h1).base.again rfl d (Nat.le_of_ble_eq_true e) (λj l=>k j (J rfl rfl (g a W) ?_)) w1 (Ext.refl w1);have K:=(b.ext h1).join l;rw[f] at K;exact K
theorem DR (H:MU Q X D G w0 w R s T L M) (n:Int):af A2 64 [ag (ae R.mb),aa n] w (ag (if 0<=n/\n<(s.cs.length:Int) then some ⟨R.cb n.toNat,0,none⟩ else none)):=by
 obtain⟨B,rfl,H⟩:=H;exact abH H n
theorem JN (H:MU Q X D G w0 w R s T L M) (a:s.cs[i]? =some x) (b:cF x.c.2.1):af A2 160 [ag (some ⟨R.cb i,0,none⟩)] w (aa (x.c.2.1 / 16)):=by
 obtain⟨B,rfl,H⟩:=H;exact Wg H a b
theorem vf {w:AC} {r:Nat} {es:Array Dx} {ck i:Nat} {g:Int} {z v u:AI} (m:bD w r es ck) (h:Hh (.int .i64) (aa g) es.toList 0=some (some (i,u))) (e:v=u):jM w (some r) .i64 g z v:=⟨r,by grind⟩
theorem BB {w:AC} {r:Nat} {es:Array Dx} {ck:Nat} {g:Int} {z v:AI} (m:bD w r es ck) (h:Hh (.int .i64) (aa g) es.toList 0=some none) (e:v=z):jM w (some r) .i64 g z v:=⟨r,by grind⟩
theorem JO (H:MU Q X D G w0 w R s T L M) (k:s.cs[i]? =some x):af A2 199 [ag (some ⟨R.cb i,0,none⟩)] w (aa (a9 x.c.1)):=by
 refine af.of λw1 h1=>ai (C:=U2) (B5 (Sm _ w1 _) λl b q d=>?_);have H0:=(((At.start [] w1).ext b).rI _).ext d;have e:=b.size;have m0:=d.obj (fp l _);refine uV H0 e (by simp) m0 rfl λr m o u f=>?_;refine uV (m.ext f) e (by simp) (f.obj o) rfl λy h a=>?_;have hv:=(iu.nil.push (g:=6) (aa 1) (λt j=>(by cases j))).push (g:=7) (aa 2) (by grind);have H:=H.ext (h1.trans (Ext.trans (h.ext (Ext.refl _)).all (Ext.refl _)));refine⟨rfl,rfl,rfl,H.cf k (n:=4) (λ_=>rfl) ⟨a9 x.c.1,?_,λz p=>⟨rfl,(h.ext p).all⟩⟩⟩;unfold a9;by_cases c6:x.c.1=6
 ·rw[ay c6,c6];obtain⟨i,hi, _⟩:=hv.Fy (g:=6) (v:=aa 1) (by simp);exact vf a hi rfl
 ·rw[au c6];by_cases c7:x.c.1=7
  ·rw[ay c7,c7];obtain⟨i,hi, _⟩:=hv.Fy (g:=7) (v:=aa 2) (by simp);exact vf a hi rfl
  ·rw[au c7];refine BB a (hv.Od λt j=>?_) rfl
   grind
theorem tM (H:MU Q X D G w0 w R s T L M) (p:s.ms.length<=1000000000) (m:MT) {K:Unit->AC->Prop}
 (k: ∀a,MU Q X D G w0 a R {s with ms:=s.ms++[m]} T L M->K () a):
 az A2 155 (.bu []) [ag (ae R.mb),.agg ⟨[aa m.1,aa m.2.1,aa m.2.2.1,aa m.2.2.2.1.1,ax m.2.2.2.1.2.1,ax m.2.2.2.1.2.2.1,ax m.2.2.2.1.2.2.2.1,ax m.2.2.2.2.1,aa m.2.2.2.2.2]⟩] w K:=by
 obtain⟨B,rfl,H⟩:=H;refine λw1 h1=>ai (C:=U2) (aQ:=λ_=>[]) (B5 (Sn _ _ _ _ _ _ _ _ _ _ w1 K) ?_);refine(H.ext h1).al λb a H=>⟨rfl,rfl,H.ri (rfl) (H.ld 0 rfl (show _=some (TV m) from rfl) (H.al λd q H e f=>?_))⟩;have H:=H.ext f;obtain⟨r,t,g,J⟩:=H.pL;have c:=g.perm Gd;have hb:bL e d (cellsOf eMk (TV m)):=c.base.db _ (BJ _ (B3 _ B7));refine Fu c H.wf.m rfl (ys:=[TV m]) rfl (rK hb) rfl rfl (by grind) λs' h u i j=>⟨rfl,rfl,WR (j.perm Gd.symm) 0 rfl rfl rfl λv l=>enM l λn o=>k n ⟨{B with sm:=s',Lm:=h},rfl,ir.sub (J (ms:=s.ms++[m]) (by rw[Gi];exact i) o) ?_⟩⟩;simp
theorem zH (H:MU Q X D G w0 w R s T L M) (q:s.cs[i]? =some x) (F:(x.ls.length:Int)<=64) (I:0<s.sz) (t g:Int) {K:Unit->AC->Prop}
 (k: ∀b,MU Q X D G w0 b R (cB s i {x with ls:=jj x.ls t g}) T L M->K () b):
 az A2 67 (.bu []) [ag (some ⟨R.cb i,0,none⟩),aa t,aa g] w K:=by
 refine H.go λw1 H=>ai (C:=U2) (aQ:=λ_=>[]) (B5 (HN _ _ _ w1 K) ?_);have fin: ∀{b:AC} {a:CA} {j:List (Nat×List AI)} {l:List (Nat×B6)} (o:List LT),Tu a x->a.tb=R.tb i->cv D G w0 b (sP a i x s.sz++(T++j)) l-> ∃p,cv D G w0 b ((R.tb i,dg a.st s.sz)::(a.Lt++p)) l/\ ∀{r:AC} {s'} {d:List (Nat×List AI)},dm j9 s' o d->aK [] (((R.tb i,dg a.st s.sz)::(a.Lt++p)).map (·.1)) b r ((R.tb i,dg s' s.sz)::(d++p))-> ∃a':CA,a'.cb=a.cb/\a'.tb=a.tb/\Tu a' {x with ls:=o}/\cv D G w0 r (sP a' i {x with ls:=o} s.sz++(T++j)) l:=by
  intro b a j l o W N u;rw[<-N];have m:cv D G w0 b ((a.tb,dg a.st s.sz)::(a.Lt++((a.cb,jL a i x)::(a.Lf++(a.Lw++(T++j)))))) l:=u.perm (bG λy=>by simp only[sP,B1,B2];omega);refine⟨_,m,λ{r s' d} h n=>⟨{a with st:=s',Lt:=d},rfl,rfl,⟨h,W.fs,W.wk⟩,(m.join n).perm (bG λy=>by
   show CW y ((a.cb,jL a i x)::(a.tb,dg s' s.sz)::(d++(a.Lf++a.Lw))++(T++j))= _
   grind)⟩⟩
 obtain⟨a,j,l,O,hb,W,u,J⟩:=H.C8 q;obtain⟨p,m,f⟩:=fin (jj x.ls t g) W hb u;refine ab (λc=>⟨rfl,rfl,H.c1 q ?_⟩) (λc=>⟨rfl,rfl,H.c1 q ?_⟩)
 ·have e:g= -1:=by simpa using c
  refine G5 m.base.again W.ls F I t λv s' d b h n=>?_;have h:dm j9 s' (jj x.ls t g) d:=by unfold jj;rw[ay e];exact h
  obtain⟨a',h1,z,A,B⟩:=f h n;exact(J h1 z A B).en λE H=>k E H
 ·have e:g≠ -1:=by simpa using c
  refine AV m.base.again W.ls F I t g λs' d b h n=>?_;have h:dm j9 s' (jj x.ls t g) d:=by unfold jj;rw[au e];exact h
  obtain⟨a',h1,z,A,B⟩:=f h n;exact(J h1 z A B).en λE H=>k E H
theorem Ni (H:MU Q X D G w0 w R s T L M) (a:s.cs[i]? =some x):af A2 152 [ag (ae R.mb),ag (some ⟨R.cb i,0,none⟩)] w (.bool (mj s.h x)):=by
 refine af.of (s:= .el (.one .bool)) λw1 h1=>ai (C:=U2) (aQ:=λ_=>[]) (B5 (HO _ _ w1 _) ?_);have H:=H.ext h1;have b:af A2 19 [ag (ae X.hb),aa x.vm] w1 (.bool (aU s.h.g x.vm)):=by
  obtain⟨B,e,d⟩:=H;obtain⟨A,k,L0,S,f, _⟩:=d.sat;exact pU S f x.vm
 refine⟨_,JO H a,λ_=>rfl,λ_=>rfl,H.f0 ⟨λ_=>rfl,λ_=>rfl,H.cf a (n:=3) (λ_=>rfl) ⟨_,λ_=>b,λ_=>rfl,λ_=>rfl,H.cf a (n:=4) (y:=x.c) (λ_=>rfl) ⟨_,λ_=>Eh _ _ _ _,λ_=>rfl,λ_=>rfl,λ_=>rfl,H.cf a (n:=5) (λ_=>rfl) λl j=>⟨?_,j⟩⟩⟩⟩⟩;unfold mj;simp only[HB]
end
theorem wy (x:Int): ∀l:List Int,l.Pairwise (λa b=>b<=a)->(ju x l).Pairwise (λa b=>b<=a)
 |[], _=>by simp[ju]
 |y::l,h=>by
  rw[ju];obtain⟨h1,e⟩:=I2.1 h;split
  ·rename_i c;refine I2.2 ⟨λz d=>?_,wy x l e⟩;rcases Fw.1 ((u_ x l).mem_iff.1 d) with rfl|d
   ·omega
   ·exact h1 z d
  ·rename_i c;refine I2.2 ⟨λz d=>?_,h⟩;rcases Fw.1 d with rfl|d
   ·omega
   ·have:=h1 z d;omega
theorem uv: ∀(l a:List Int),a.Pairwise (λa b=>b<=a)->(l.foldl (λa x=>ju x a) a).Pairwise (λa b=>b<=a)
 |[], _,h=>h
 |x::l,a,h=>uv l _ (wy x a h)
theorem Xt {R l:List Int} (h:R.Pairwise (· <= ·)) (c:R.Perm l):R=mH l:=by
 refine List.Perm.eq_of_pairwise (λa b _ _ h1 d=>by omega) h ?_ (c.trans (lE l).symm);unfold mH;rw[List.pairwise_reverse];exact uv l [] List.Pairwise.nil
theorem Wh (e:vq):(fi e).now=Kd e.pins e.now:=by unfold fi Kd;split<;>rfl
theorem SZ (e:vq):(fi e).pins=e.pins:=by unfold fi;split<;>rfl
theorem uX (e:vq):(fi e).ws=e.ws:=by unfold fi;split<;>rfl
theorem PK (e:vq):e.now<=(fi e).now/\(fi e).now<=e.now+1:=by
 unfold fi;split
 ·exact⟨by show e.now<=e.now+1;omega,H6 _⟩
 ·omega
theorem CJ: ∀(l:List Int) (s:MS),(l.foldl gQ s).ms.length=s.ms.length+l.length
 |[],s=>rfl
 |f::l,s=>by
  rw[G1,CJ l];show(s.ms++ _).length+l.length= _;simp only[Gj,LL,M4];omega
section
variable {Q:Sys} {X:HX} {D G:List Nat} {w0 w w1:AC} {R:MR} {s:MS} {T L:List (Nat×List AI)} {M:List (Nat×B6)} {i:Nat} {x:bY} {g:Option Bool}
theorem MU.base (H:MU Q X D G w0 w R s T L M): ∃L0,aK D G w0 w L0/\ ∀x∈T,x∈L0:=by
 obtain⟨B,e,H⟩:=H;obtain⟨b,c,K, _⟩:=H.tmp;exact⟨_,K.base,λx a=>BY _ a⟩
theorem MU.sat (H:MU Q X D G w0 w R s T L M): ∃A a L0,bh Q [] a w w s.h.s L0/\(X.hb,e9 Q X A s.h.g)∈L0/\(∀i v,s.h.g i=some v-> ∀x∈gO Q A i v,x∈L0)/\
 ∀{T' b s'},bh Q [] a w b s' (T'++L0)->MU Q X D G w0 b R {s with h:=bq s.h s'} (T'++T) L M:=by
 obtain⟨B,e,H⟩:=H;obtain⟨A,a,L0,S,h1,c, _, _, _,J⟩:=H.sat;exact⟨A,a,L0,S,h1,c,λK=>⟨B,e,J K⟩⟩
theorem MU.del (H:MU Q X D G w0 w R s T L M) (f:Int) {K:AC->Prop} (k: ∀g,MU Q X D G w0 g R {s with kn:=s.kn.filter (λx=> !(x==f))} T L M->K g):
 ∃(r:Nat) (es:Array Dx) (h:Nat),some R.kb=some r/\bD w r es h/\z9 w r .i64 f es h K:=by
 obtain⟨B,rfl,H⟩:=H;obtain⟨p,q,a,J⟩:=H.kns;refine⟨B.kb,⟨B.ke⟩,B.kk,rfl,a.get (i:=0) rfl,?_⟩;unfold z9;by_cases c:f∈s.kn
 ·obtain⟨i,j,l,hv⟩:=H.wf.k.Fy (BP.2 ⟨f,c,rfl⟩);rw[show Hh (.int .i64) (aa f) (Array.mk B.ke).toList 0=some (some (i,.bool true)) from j];have b:=a.put (i:=0) rfl (o':= .map ⟨B.ke.eraseIdx i⟩ B.kk) trivial;have m:(Array.mk B.ke).eraseIdxIfInBounds i=⟨B.ke.eraseIdx i⟩:=by
   apply Array.ext';simp[Array.eraseIdxIfInBounds,l]
  show K (w.putObj B.kb (.map ((Array.mk B.ke).eraseIdxIfInBounds i) B.kk));rw[m];refine k _ ⟨{B with ke:=B.ke.eraseIdx i},rfl,J (kn:=s.kn.filter λx=> !(x==f)) ?_ b⟩;rw[List.filter_map] at hv;exact hv
 ·have n: ∀t∈s.kn.map (λf=>((f,.bool true):KV)),t.1≠f:=λt o e=>by
   obtain⟨y,d,rfl⟩:=BP.1 o;exact c (by rw[<-e];exact d)
  rw[show Hh (.int .i64) (aa f) (Array.mk B.ke).toList 0=some none from H.wf.k.Od n];have b:=a.put (i:=0) rfl (o':= .map ⟨B.ke⟩ B.kk) trivial;refine k _ ⟨B,rfl,J (ke:=B.ke) (kk:=B.kk) (kn:=s.kn.filter λx=> !(x==f)) ?_ b⟩;rw[List.filter_eq_self.2 λy d=>by simpa using λe:y=f=>c (e▸d)];exact H.wf.k
theorem EP (H:MU Q X D G w0 w R s T L M) (U:s.ep.pins.length<=8) (V:0<=s.ep.now/\s.ep.now<4611686018427387000) (W:s.ep.ws.length<=1000000) (Y: ∀e∈s.ep.ws,0<=e.2/\e.2<=s.ep.now) (t:s.ms.length<=900000000) {K:Int->AC->Prop}
 (k: ∀b,MU Q X D G w0 b R (dA s).1 T L M->K (((dA s).2:Nat):Int) b):az A2 151 (.el (.one (.int .i64))) [ag (ae R.mb)] w K:=by
 refine H.go λw1 H=>ai (C:=U2) (aQ:=um) (B5 (Sp _ w1 K) ⟨rfl,rfl,H.f1 ?_⟩);have hle:=PK s.ep;have Yh: ∀{b},MU Q X D G w0 b R s T L M-> ∀{h:Bool->AC->Prop},(∀v d,MU Q X D G w0 d R {s with ep:=fi s.ep} T L M->h v d)->az A2 197 (.el (.one .bool)) [ag (ae R.eb)] b h:=by
  intro b a h u;obtain⟨B,rfl,a⟩:=a;obtain⟨F,Z,o,J⟩:=a.eps;refine UG o.base.again a.wf.p U ⟨V.1,by omega⟩ λv d K2=>u v d ⟨{B with sp:=B.sp,Lp:=B.Lp,we:=B.we,wk:=B.wk},rfl,J (ep:=fi s.ep) (by rw[SZ];exact a.wf.p) (by rw[uX];exact a.wf.w) (by rw[Wh];exact o.join K2)⟩
 refine Yh H λv b H=>⟨rfl,rfl,H.f1 ?_⟩;have free: ∀{f:MS} {b},MU Q X D G w0 b R f T L M->f.ep=fi s.ep-> ∀{h:Option Ag×Nat×Nat->AC->Prop},(∀r g d,dm eI r (oz f.ep) g->MU Q X D G w0 d R {f with ep:=Ca f.ep} (g++T) L M->h r d)->az A2 198 (.el (.one .slice)) [ag (ae R.eb)] b h:=by
  intro f b a q h u;obtain⟨B,rfl,a⟩:=a;obtain⟨F,Z,o,J⟩:=a.eps;refine Sb o a.wf.w (by rw[q,uX];omega) B7 (λe t=>?_) (by rw[q];omega) λr Rr g qC d hso hpe m hv K4=>?_
  ·rw[q,uX] at t;have:=Y e t;rw[q];omega
  ·rw[Xt hso hpe] at m;refine u r g d m ⟨{B with sp:=B.sp,Lp:=B.Lp,we:=qC,wk:=B.wk},rfl,J (T':=g++T) (ep:=Ca f.ep) a.wf.p hv (K4.perm (bG λy=>?_))⟩;show CW y ((B.eb,oo f.ep.now B.sp B.wb)::(B.Lp++(g++T++F)))= _;simp only[B1,B2];omega
 refine free H rfl λr g d m H=>?_;generalize z:oz (fi s.ep)=l at*
 have hlen:=m.1;have hll:l.length<=1000000:=by
  rw[<-z];unfold oz;rw[jD,Dc];refine Io (ID _ _) ?_;rw[uX];exact W
 refine⟨λn st E=> ∃j:Nat,j<=l.length/\n=l.length - j/\st.1=(j:Int)/\MU Q X D G w0 E R ((l.take j).foldl gQ {s with ep:=Ca (fi s.ep)}) (g++T) L M,⟨l.length,λE h4=>⟨0,FS _,rfl,rfl,H.ext h4⟩⟩,?_⟩;clear H;rintro n ⟨i, _⟩ E ⟨j,I,rh,hi,H⟩;have hi:i=(j:Int):=hi;subst hi rh;dsimp only;rw[hlen];refine ab (λc=>?_) (λc=>?_)
 ·have I:j<l.length:=by have:=of_decide_eq_true c;omega
  obtain⟨x,N⟩: ∃x,l[j]? =some x:=⟨_,DB I⟩;obtain⟨L0,K0,hT⟩:=H.base;have O:=m.sl K0 (λy hy=>hT y (BY _ hy)) j x N;refine⟨⟨O.1,by omega,by omega⟩,aj.of x (by rw[DA];exact O.2) ⟨rfl,rfl,H.f0 ?_⟩⟩;obtain⟨A,G',L0,S,hk, _,J⟩:=H.sat;refine yZ S hk x λP S=>?_;have H:=J (T':=[]) S;refine⟨rfl,rfl,H.f4 λw6 h6=>(H.ext h6).del x λw7 H=>tM H ?_ (2,0,x,(0,0,0,0,()),0,0) λw8 H w9 h9=>⟨l.length - (j+1),by omega,j+1,by omega,rfl,?_,?_⟩⟩
  ·show(List.foldl gQ _ (l.take j)).ms.length<= _;rw[CJ,M5];show s.ms.length+ _<= _;omega
  ·rw[aw (by omega) (by omega)];omega
  ·rw[H4,N,GD];exact H.ext h9
 ·have:j=l.length:=by have:=of_decide_eq_false c;omega
  subst this;rw[IR] at H;refine H.en λP H=>?_;have e:(dA s).1=l.foldl gQ {s with ep:=Ca (fi s.ep)}:=by unfold dA;rw[z]
  have e2:(dA s).2=l.length:=by unfold dA;rw[z]
  rw[e,e2] at k;exact k P (H.sub (Fm _ _))
end
abbrev BQ:Type:=(Int×Int×Unit)×Bool×Unit
abbrev NY:Sh:= .bu [.agg iv,.one .bool]
theorem S3 {pins:List Int} {n:Nat} (h:n<pins.length):Ad pins n (-1)=pins.set n (-1):=by
 unfold Ad;split
 ·rename_i c;have e:pins.getD n 0= -1:=by simpa using c
  rw[FQ,DB h] at e;have e:pins[n]= -1:=e;rw[<-e];exact(List.set_getElem_self h).symm
 ·rfl
theorem S4 {e:vq} {n:Nat} (a:0<=e.now):{e with pins:=Ad e.pins n e.now}=Aj e n:=by
 unfold Ad Aj;have h0:(e.now== -1)=false:=by rw[beq_eq_false_iff_ne];omega
 rw[h0];by_cases c:e.pins.getD n 0= -1
 ·rw[ay c,au (by rw[c];decide)]
 ·rw[au c,ay (by rw[beq_eq_false_iff_ne.2 c])]
theorem Wi (e:vq) (f:Int):Oe (e.ws.map Fz) f e.now=(k9 e f).ws.map Fz:=by
 unfold Oe k9;rw[List.any_map];show(if e.ws.any (λx=>x.1==f)=true then _ else _)= _;split<;>rfl
theorem CK (e:vq) (f:Int):(k9 e f).now=e.now/\(k9 e f).pins=e.pins:=by unfold k9;split<;>exact⟨rfl,rfl⟩
theorem zb: ∀(l:List Int) (e:vq),(l.foldl k9 e).now=e.now/\(l.foldl k9 e).pins=e.pins
 |[],e=>⟨rfl,rfl⟩
 |f::l,e=>by rw[G1,(zb l _).1,(zb l _).2];exact CK e f
section
variable {Q:Sys} {X:HX} {D G:List Nat} {w0 w w1:AC} {R:MR} {s:MS} {T L:List (Nat×List AI)} {M:List (Nat×B6)} {i:Nat} {x:bY} {g:Option Bool}
theorem MU.res {b:Nat} {l:List AI} (H:MU Q X D G w0 w R s ((b,l)::T) L M) (d:l.length=2) (V E:Int) (c:Bool) {K:BQ->AC->Prop} (k: ∀a,MU Q X D G w0 a R s T L M->K ((V,E,()),c,()) a):
 aA w (ae b) [ax V,aa E] λa=>ao a λw1=>aj w1 none (ae b) (El.agg [.int .u64,.int .i64]) λ(x:Int×Int×Unit)=>K ((x.1,x.2.1,()),c,()) w1:=
 H.st 0 rfl rfl d.symm λa H=>H.en λe H=>H.ld 0 rfl (show _=some (V,E,()) from rfl) (k e (H.sub (Bx _ _)))
theorem MU.crd (H:MU Q X D G w0 w R s T L M) (b:s.cs[i]? =some x) {n:Nat} {el:El} {y:el.T} (hv: ∀a:CA,kr (jL a i x) n el=some y):cC w (ad (some ⟨R.cb i,0,none⟩) n) el y:=by
 obtain⟨z,h,e⟩:=H.cf (g:=none) (K:=λz=>z=y) b hv rfl;subst e;exact h
theorem BC (H:MU Q X D G w0 w R s T L M) (hc:i<s.ep.pins.length) {K:Int->AC->Prop} (k: ∀v b,MU Q X D G w0 b R {s with ep:=uQ s.ep i} T L M->K v b):
 az A2 158 (.el (.one (.int .i64))) [ag (ae R.eb),aa (i:Int)] w K:=by
 refine λw1 h1=>?_;obtain⟨B,rfl,a⟩:=H.ext h1;obtain⟨h,j,c,J⟩:=a.eps;refine KI c.base.again a.wf.p i hc (λv e f d g=>k v f ⟨{B with sp:=B.sp,Lp:=e,we:=B.we,wk:=B.wk},rfl,J (ep:=uQ s.ep i) ?_ a.wf.w (c.join g)⟩) w1 (Ext.refl w1);rw[S3 hc] at d;exact d
theorem Wj (H:MU Q X D G w0 w R s T L M) (d:0<=s.ep.now) (hc:i<s.ep.pins.length) {K:Int->AC->Prop} (k: ∀v b,MU Q X D G w0 b R {s with ep:=Aj s.ep i} T L M->K v b):
 az A2 200 (.el (.one (.int .i64))) [ag (ae R.eb),aa (i:Int)] w K:=by
 refine λw1 h1=>?_;obtain⟨B,rfl,a⟩:=H.ext h1;obtain⟨j,l,c,J⟩:=a.eps;refine UF c.base.again a.wf.p i hc (λv e f g h=>k v f ?_) w1 (Ext.refl w1);rw[<-S4 d];exact⟨{B with sp:=B.sp,Lp:=e,we:=B.we,wk:=B.wk},rfl,J (ep:={s.ep with pins:=Ad s.ep.pins i s.ep.now}) g a.wf.w (c.join h)⟩
theorem S5 (H:MU Q X D G w0 w R s T L M) (c:s.ep.pins.length<=8) (d:0<=s.ep.now/\s.ep.now<4611686018427387000) (f:s.ep.ws.length<=1000000) (g: ∀e∈s.ep.ws,0<=e.2/\e.2<=s.ep.now) (h:s.ms.length<=900000000) (p:Option Ag) {K:BQ->AC->Prop}
 (k: ∀a,MU Q X D G w0 a R (dA s).1 T L M->K ((0,0,()),false,()) a):az A2 109 NY [ag (ae R.mb),ag p] w K:=by
 refine H.go λw1 H=>aP (C:=U2) (aQ:=λ_=>[]) (B5 (Sq _ p w1 K) (H.al λb a H=>EP H c d f g h λi H=>H.res rfl 0 0 false k))
theorem S6 (H:MU Q X D G w0 w R s T L M) (e:s.cs[i]? =some x) (N:x.ak<4611686018427387904) (hfs:x.fs.length<=1000000) (O: ∀f∈x.fs,0<=f) {K:BQ->AC->Prop}
 (k: ∀m,MU Q X D G w0 m R (iF s x).1 T L M->K ((if(iF s x).2.2=true then((iF s x).2.1.1,(iF s x).2.1.2,()) else(0,0,())),(iF s x).2.2,()) m):
 az A2 113 NY [ag (ae R.mb),ag (some ⟨R.cb i,0,none⟩)] w K:=by
 refine H.go λw1 H=>aP (C:=U2) (aQ:=uo) (B5 (Ss _ _ w1 K) (H.al λb m H=>⟨rfl,rfl,H.f2 ⟨rfl,rfl,H.cf e (n:=12) (λ_=>rfl) ⟨yn s x.ak,?_,?_⟩⟩⟩))
 ·obtain⟨B,rfl,d⟩:=H;obtain⟨q,z,g,J⟩:=d.bxs;have r:=g.base.perm (L':=B.Lo++((B.xb,lK B.sb B.so)::(B.Lb++((b,[ax 0,aa 0])::T++q)))) (bG λy=>by simp only[B1,B2];omega);exact VX r B7 d.wf.o x.ak N
 ·unfold iF at k;refine ab (λc=>?_) (λc=>?_)
  ·have c:yn s x.ak=false:=by simpa using c
   rw[c] at k;exact H.res rfl 0 0 false k
  ·have c:yn s x.ak=true:=by simpa using c
   rw[c] at k;obtain⟨B,rfl,d⟩:=H;refine⟨rfl,rfl,d.Ym e (n:=13) (show _=some ((B.A i).sf.1,(B.A i).sf.2.1,(B.A i).sf.2.2) from rfl) ?_⟩;have P:(B.A i).sf.2.1=x.fs.length:=(d.wf.a e).fs.1;refine⟨λn st h=> ∃(j:Nat) (we:List Dx) (wk:Nat),j<=x.fs.length/\n=x.fs.length - j/\st.1=(j:Int)/\ir Q X D G w0 h {B with we:=we,wk:=wk} {s with ep:=(x.fs.take j).foldl k9 s.ep} ((b, _)::T) L M,⟨x.fs.length,λh S=>⟨0,B.we,B.wk,FS _,rfl,rfl,d.ext S⟩⟩,?_⟩;rintro n ⟨U, _⟩ h ⟨j,we,wk,E,V,hi,H⟩;have hi:U=(j:Int):=hi;subst hi V;dsimp only;rw[P];refine ab (λc=>?_) (λc=>?_)
   ·have E:j<x.fs.length:=by have:=of_decide_eq_true c;omega
    obtain⟨f,u⟩: ∃f,x.fs[j]? =some f:=⟨_,DB E⟩;have l:({s with ep:=(x.fs.take j).foldl k9 s.ep}:MS).cs[i]? =some x:=e;obtain⟨q,z,g,hh, _,hc, _⟩:=H.tmp;have F:=(H.wf.a l).fs.sl g.base (λy I=>BJ _ (hc l _ (B3 _ (B3 _ (BJ _ (BY _ I)))))) j f u;refine⟨⟨F.1,by omega,by omega⟩,aj.of f (by rw[DA];exact F.2) ⟨rfl,rfl,H.ri (show _=some (ae B.eb) from rfl) ?_⟩⟩;obtain⟨q,z,g,J⟩:=H.eps;refine UH g B7 H.wf.w (λt W=>?_) f (O f (Dg u)) λv Y Z w5 hv r w6 h6=>⟨x.fs.length - (j+1),by omega,j+1,Y,Z,by omega,rfl,?_,?_⟩
    ·obtain⟨y,I,rfl⟩:=BP.1 W;exact⟨_,rfl⟩
    ·rw[aw (by omega) (by omega)];omega
    ·rw[H4,u,GD];rw[Wi] at hv;refine ir.ext (J (sp:=B.sp) (ep:=k9 ((x.fs.take j).foldl k9 s.ep) f) ?_ hv ?_) h6
     ·rw[(CK _ f).2];exact H.wf.p
     ·rw[(CK _ f).1];exact r
   ·have:j=x.fs.length:=by have:=of_decide_eq_false c;omega
    subst this;rw[IR] at H;have H:MU Q X D G w0 h B.rt {s with ep:=x.fs.foldl k9 s.ep} ((b, _)::T) L M:=⟨{B with we:=we,wk:=wk},rfl,H⟩;have l:({s with ep:=x.fs.foldl k9 s.ep}:MS).cs[i]? =some x:=e;exact⟨rfl,rfl,H.cf l (n:=10) (y:=(x.rs.1,x.rs.2,())) (λ_=>rfl) (H.res rfl _ _ true k)⟩
end
theorem acy {a:Int} (h:0<=a):aG .i64 (ff a 16)=a % 16:=by
 have e:ff a 16=a % 16:=by
  unfold ff;exact NI h
 rw[e];exact bK (by omega)
theorem atU {f a:Int} (c:0<=f/\f<4096) (b:0<=a):aI .i64 (gq .i64 16 f) (aG .i64 (ff a 16))=16*f+a % 16:=by
 rw[acy b,d_ (by omega) (by omega),aw (by omega) (by omega)]
section
variable {Q:Sys} {X:HX} {D G:List Nat} {w0 w w1:AC} {R:MR} {s:MS} {T L:List (Nat×List AI)} {M:List (Nat×B6)} {i:Nat} {x:bY} {g:Option Bool}
theorem se (H:MU Q X D G w0 w R s T L M) {K:Option Ag->AC->Prop} (k: ∀a,MU Q X D G w0 a R s T L M->K (ae Q.bm) a):
 az A2 23 (.el (.one .ptr)) [ag (ae X.hb)] w K:=by
 obtain⟨A,c,L0,S,b, _,J⟩:=H.sat;exact sa S b λa S=>k a (J (T':=[]) S)
theorem Nj (H:MU Q X D G w0 w R s T L M) (a:s.cs[i]? =some x) (e:0<=x.fr/\x.fr<4096) (f:cF x.c.2.1) (hb:cF x.c.2.2.1) (hc:i<s.ep.pins.length) (p:s.ms.length<=900000000) {K:BQ->AC->Prop}
 (k: ∀d,MU Q X D G w0 d R (fY s i x).1 T L M->K (((fY s i x).2.1.1,0,()),true,()) d):
 az A2 112 NY [ag (ae R.mb),ag (some ⟨R.cb i,0,none⟩)] w K:=by
 refine H.go λw1 H=>aP (C:=U2) (aQ:=λ_=>[]) (B5 (MM _ _ w1 K) (H.al λb d H=>⟨rfl,rfl,H.cf a (n:=9) (λ_=>rfl) ⟨rfl,rfl,rfl,H.cf a (n:=5) (λ_=>rfl) ⟨rfl,rfl,H.f1 ⟨rfl,rfl,H.cf a (n:=0) (λ_=>rfl) ?_⟩⟩⟩⟩));rw[atU e f.1];unfold fY at k;dsimp only at k;refine BC H hc λv q H=>⟨rfl,rfl,rfl,H.cf a (n:=4) (λ_=>rfl) ?_⟩;refine ab (λc=>?_) (λc=>?_)
 ·have c:x.c.1=7:=by simpa using c
  rw[ay c] at k;refine⟨rfl,rfl,H.f0 ⟨rfl,rfl,rfl,H.cf a (n:=6) (λ_=>rfl) (se H λg H=>⟨H.crd a (n:=6) λ_=>rfl,trivial,trivial,trivial,?_⟩)⟩⟩;obtain⟨A,j,L0,S,l, _,J⟩:=H.sat;refine S.store _ _ hb λm S=>?_;have H:=J (T':=[]) S;exact⟨rfl,rfl,rfl,H.cf a (n:=6) (λ_=>rfl) (tM H (by show s.ms.length<= _;omega) (4,0,16*x.fr+x.c.2.1 % 16,(0,0,0,0,()),x.c.2.2.1,0) λo H=>H.res rfl 0 0 true k)⟩
 ·have c:x.c.1≠7:=by simpa using c
  rw[au c] at k;refine⟨rfl,rfl,H.f0 (se H λg H=>?_)⟩;obtain⟨A,j,L0,S,l, _,J⟩:=H.sat;refine S.load _ λm S=>?_;have H:=J (T':=[]) S;exact tM H (by show s.ms.length<= _;omega) (3,0,16*x.fr+x.c.2.1 % 16,(0,0,0,0,()),dE s.h.s.1 (16*x.fr+x.c.2.1 % 16),0) λo H=>H.res rfl _ 0 true k
end
open Go.RX D
theorem S7 {ws:List Int} {p t:Int} {x:Int×Int×FT} (h:0<=x.2.1/\x.2.1<=3):(bF ws p t x).2.1= -1\/((bF ws p t x).2.1=x.2.1 - 1/\0<x.2.1):=by
 unfold bF;rw[au (by omega)];split
 ·exact .inl rfl
 ·exact I8 h
section
variable {Q:Sys} {X:HX} {D G:List Nat} {w0 w w1:AC} {B:MB} {R:MR} {s:MS} {T L:List (Nat×List AI)} {M:List (Nat×B6)} {i:Nat} {x:bY} {g:Option Bool}
theorem ir.walk (H:ir Q X D G w0 w B s T L M) (e:s.cs[i]? =some x) (v:x.ph=2): ∃(bk:Nat) (l:Option Ag×Nat×Nat) (m:List (Nat×List AI)) (xs:List Int) (q:List (Nat×List AI)) (r:List (Nat×B6)) (ca la:Int),(B.A i).wp=some ⟨bk,0,none⟩/\BO m l xs/\(xs.length:Int)<=3 - x.wk.2.1/\qJ s.h.s/\
 cv D G w0 w ((bk,lN x.wk.1 (x.c.2.1 / 16) (a9 x.c.1) x.wk.2.1 x.wk.2.2 l)::(Q.bm,lU Q.bw s.h.s.1.length Q.c ca la)::(Q.bw,flat eW s.h.s.1++Q.rw)::(m++q)) r/\
 ∀{wN:Int×Int×FT} {b:Option Ag×Nat×Nat} {d:List (Nat×List AI)} {n:List Int} {f k:Int} {w':AC},BO d b n->(n.length:Int)<=3 - wN.2.1->
  cv D G w0 w' ((bk,lN wN.1 (x.c.2.1 / 16) (a9 x.c.1) wN.2.1 wN.2.2 b)::(Q.bm,lU Q.bw s.h.s.1.length Q.c f k)::(Q.bw,flat eW s.h.s.1++Q.rw)::(d++q)) r->MU Q X D G w0 w' B.rt (cB s i {x with wk:=wN}) T L M:=by
 obtain⟨A,ca,la,h1,t,o,z⟩:=H;obtain⟨bk,l,m,xs,u,C,E,p⟩:=(o.a e).wk v;have F:=lF (B:=B) e;refine⟨bk,l,m,xs,((B.A i).cb,jL (B.A i) i x)::((B.A i).tb,dg (B.A i).st s.sz)::((B.A i).Lt++((B.A i).Lf++(T++(Fp X B s++(gB B s ((Aq s.cs.length).erase i)++((Q.bf,flat eD s.h.s.2++Q.rf)::(Q.bp,[.slice (ae Q.bf) s.h.s.2.length Q.cp])::(dL Q X A s.h (a6 Q A s.h.g (Aq 17))++L))))))), _,ca,la,u,E,p,t,z.perm ?_,λ{wN b d n f k w'} I J K=>?_⟩
 ·refine In ?_ (Dn T (Dn _ (GH _ F.symm)));unfold sP;rw[C];exact bG λy=>by simp only[Sys.L,B1,B2];omega
 ·refine⟨C_ B i {B.A i with Lw:=(bk,lN wN.1 (x.c.2.1 / 16) (a9 x.c.1) wN.2.1 wN.2.2 b)::d},Xs rfl rfl,A,f,k,h1,t,o.up e rfl ⟨(o.a e).ls,(o.a e).fs,λ_=>⟨bk,b,d,n,u,rfl,I,J⟩⟩,K.perm ?_⟩;generalize N:({B.A i with Lw:=(bk,lN wN.1 (x.c.2.1 / 16) (a9 x.c.1) wN.2.1 wN.2.2 b)::d}:CA)=a;have O:(cB s i {x with wk:=wN}).cs[i]? =some {x with wk:=wN}:=eY e;have p:(cB s i {x with wk:=wN}).cs.length=s.cs.length:=Dk ..;have:=lF (B:=C_ B i a) O;rw[mU,p,zF (s:=s) (s':=cB s i {x with wk:=wN}) rfl λj P=>(show(s.cs.set i {x with wk:=wN})[j]? =s.cs[j]? from Fi (λc=>P c.symm))] at this;rw[p];refine(Dn T (Dn _ (GH _ this))).trans ?_;subst N;show(T++(Fp X B s++(sP {B.A i with Lw:=(bk,lN wN.1 (x.c.2.1 / 16) (a9 x.c.1) wN.2.1 wN.2.2 b)::d} i {x with wk:=wN} s.sz++gB B s ((Aq s.cs.length).erase i)++(C9 Q X A f k s.h++L)))).Perm _;unfold sP;show(T++(Fp X B s++(((B.A i).cb,jL (B.A i) i x)::((B.A i).tb,dg (B.A i).st s.sz)::((B.A i).Lt++((B.A i).Lf++((bk,lN wN.1 (x.c.2.1 / 16) (a9 x.c.1) wN.2.1 wN.2.2 b)::d)))++gB B s ((Aq s.cs.length).erase i)++(C9 Q X A f k s.h++L)))).Perm _;exact bG λy=>by simp only[Sys.L,B1,B2];omega
theorem MU.rd (H:MU Q X D G w0 w R s T L M) (i:Nat) {el:El} {b n:Nat} {l:List AI} {x:el.T} (a:T[i]? =some (b,l)) (hv:kr l n el=some x):cC w (ad (ae b) n) el x:=by
 obtain⟨z,h,e⟩:=H.cg (g:=none) (K:=λz=>z=x) i a hv rfl;subst e;exact h
theorem MU.wp (H:MU Q X D G w0 w R s T L M) (b:s.cs[i]? =some x) (d:x.ph=2): ∃(bk:Nat) (a:Option Ag×Nat×Nat) (L0:List (Nat×List AI)),aK D G w0 w L0/\(bk,lN x.wk.1 (x.c.2.1 / 16) (a9 x.c.1) x.wk.2.1 x.wk.2.2 a)∈L0/\ ∀{g:Option Bool} {K:Option Ag->Prop},K (ae bk)->aj w g (ad (some ⟨R.cb i,0,none⟩) 8) (.one .ptr) K:=by
 obtain⟨B,rfl,H⟩:=H;obtain⟨bk,a,f,xs,h,j,ca,la,e, _, _, _,K, _⟩:=H.walk b d;exact⟨bk,a, _,K.base,B7,λk=>H.Ym b (n:=8) (show _=some (B.A i).wp from rfl) (by rw[e];exact k)⟩
theorem S8 (H:MU Q X D G w0 w R s T L M) (f:s.cs[i]? =some x) (g:(x.ls.length:Int)<=s.sz) (h:0<s.sz/\s.sz<=64) (l:LT) (j:lnR l=true) {K:Int->AC->Prop}
 (k: ∀b,MU Q X D G w0 b R (cB s i {x with ls:=qI x.ls s.sz l}) T L M->K 0 b):
 az A2 159 (.el (.one (.int .i64))) [ag (some ⟨R.tb i,0,none⟩),lnV l] w K:=by
 obtain⟨a,c,m,q,hb,W,n,J⟩:=H.C8 f;have d:cv D G w0 w ((R.tb i,dg a.st s.sz)::(a.Lt++((a.cb,jL a i x)::(a.Lf++(a.Lw++(T++c)))))) m:=n.perm (bG λy=>by rw[<-hb];simp only[sP,B1,B2];omega);refine λw1 h1=>Qf (d.ext h1).base.again W.ls g h l j (λs' e b o p=>k b (J (a':={a with st:=s',Lt:=e}) rfl rfl ⟨o,W.fs,W.wk⟩ (((d.ext h1).join p).perm (bG λy=>?_)))) w1 (Ext.refl w1);show CW y ((a.cb,jL a i x)::(a.tb,dg s' s.sz)::(e++(a.Lf++a.Lw))++(T++c))= _;rw[<-hb];simp only[B1,B2];omega
theorem S9 (H:MU Q X D G w0 w R s T L M) (o:s.cs[i]? =some x) (u:x.ph=2) (V:0<=x.wk.2.1/\x.wk.2.1<=3) (W:cF x.c.2.1) (hc:i<s.ep.pins.length) (Y:(x.ls.length:Int)<=s.sz) (Z:0<s.sz/\s.sz<=64)
 (E:(bF s.h.s.1 (x.c.2.1 / 16) (a9 x.c.1) x.wk).2.1= -1->(bF s.h.s.1 (x.c.2.1 / 16) (a9 x.c.1) x.wk).2.2.2.2.2.1=0->lnR (x.vm,x.c.2.1 / 16,(bF s.h.s.1 (x.c.2.1 / 16) (a9 x.c.1) x.wk).2.2.1,(bF s.h.s.1 (x.c.2.1 / 16) (a9 x.c.1) x.wk).2.2.2.1,())=true) {K:BQ->AC->Prop}
 (k: ∀r,MU Q X D G w0 r R (lu s i x).1 T L M->K ((0,(lu s i x).2.1.2,()),(lu s i x).2.2,()) r):
 az A2 111 NY [ag (ae R.mb),ag (some ⟨R.cb i,0,none⟩)] w K:=by
 refine H.go λw1 H=>aP (C:=U2) (aQ:=λ_=>[]) (B5 (Sr _ _ w1 K) (H.al λb r H=>?_));unfold lu at k;generalize F:bF s.h.s.1 (x.c.2.1 / 16) (a9 x.c.1) x.wk=wv at*
 have I:=S7 (ws:=s.h.s.1) (p:=x.c.2.1 / 16) (t:=a9 x.c.1) V;rw[F] at I;obtain⟨wf,wl,zY,d,j,f,⟨⟩⟩:=wv;dsimp only at k E I;obtain⟨B,rfl,m⟩:=H;refine⟨rfl,rfl,m.Ym o (n:=8) (show _=some (B.A i).wp from rfl) ⟨rfl,rfl,m.ri (show _=some (ae X.hb) from rfl) ?_⟩⟩;obtain⟨A,G',L0,S,hk, _, _, _, _,J⟩:=m.sat;refine sa S hk λN S=>?_;have m:ir Q X D G w0 N B s ((b,[ax 0,aa 0])::T) L M:=J (T':=[]) S;have oU:cC N (ad (some ⟨(B.A i).cb,0,none⟩) 8) (.one .ptr) (B.A i).wp:=by
  obtain⟨z,h,e⟩:=m.Ym (g:=none) (el:= .one .ptr) (K:=λz=>z=(B.A i).wp) o (n:=8) (show _=some (B.A i).wp from rfl) rfl;subst e;exact h
 refine⟨oU,trivial,trivial,?_⟩;obtain⟨bk,s2,Lq,xs,R',Mo,ca,la,e1,hp,hxl,O,P,J⟩:=m.walk o u;rw[e1];refine Ec P.base.again hp (by omega) rfl O.1 O.2.2.2 (by omega) λw4 cJ s3 oh q=>?_;have hw':bF s.h.s.1 (x.c.2.1 / 16) (a9 x.c.1) (x.wk.1,x.wk.2.1,x.wk.2.2)=(wf,wl,zY,d,j,f,()):=F;rw[hw'] at q ⊢;have H:=J (wN:=(wf,wl,zY,d,j,f,())) oh (by rw[Gj,H5];dsimp only;omega) (P.join q);have l:=eY (y:={x with wk:=(wf,wl,zY,d,j,f,())}) o;refine ab (λc=>?_) (λc=>?_)
 ·have c:wl≠ -1:=by simpa using c
  rw[ay c] at k;exact H.res rfl 0 0 false k
 ·have c:wl= -1:=by simpa using c
  subst c;rw[au (by decide)] at k;obtain⟨bk',s2',L2,q,hm,XL⟩:=H.wp l u;have YF:af A2 24 [ag (ae bk')] w4 ((Sh.bu [.agg sF,.one .bool]).gR ((zY,d,j,f,()),true,())):=af.of λw5 h5=>UY ((q.ext h5).db _ hm);refine⟨rfl,rfl,XL ⟨((zY,d,j,f,()),true,()),YF,H.al λb1 w5 H=>H.st 0 rfl rfl rfl λw6 H=>⟨rfl,H.cg 0 rfl (show _=some f from rfl) ?_⟩⟩⟩;refine ab (λc=>?_) (λc=>?_)
  ·have c:f≠0:=by simpa using c
   rw[ay c] at k;refine⟨rfl,rfl,H.f1 ⟨rfl,rfl,H.cf l (n:=0) (λ_=>rfl) (BC H hc λv w7 H=>⟨rfl,H.cg 0 rfl (show _=some f from rfl) ?_⟩)⟩⟩;exact MU.res (H.sub (Bx _ _)) rfl 0 f true k
  ·have c:f=0:=by simpa using c
   rw[au (by rw[c];decide)] at k;have Au:=JN H l W;refine⟨rfl,rfl,H.c1 l ⟨rfl,rfl,H.cf l (n:=3) (λ_=>rfl) ⟨x.c.2.1 / 16,Au,rfl,H.cg 0 rfl (show _=some zY from rfl) ⟨rfl,H.cg 0 rfl (show _=some d from rfl) ?_⟩⟩⟩⟩;refine S8 H l Y Z (x.vm,x.c.2.1 / 16,zY,d,()) (E rfl c) λw7 H=>⟨rfl,H.cg 0 rfl (show _=some zY from rfl) ?_⟩;have U:=eY (y:={x with wk:=(wf,-1,zY,d,j,f,()),ls:=qI x.ls s.sz (x.vm,x.c.2.1 / 16,zY,d,())}) l;refine⟨rfl,rfl,H.cs U {x with wk:=(wf,-1,zY,d,j,f,()),ls:=qI x.ls s.sz (x.vm,x.c.2.1 / 16,zY,d,()),ph:=3} 2 rfl rfl (λ_=>rfl) (λa h=>⟨h.ls,h.fs,λc=>(by cases c)⟩) λw8 H=>⟨H.rd 0 rfl (show _=some zY from rfl),trivial,rfl,rfl,?_⟩⟩;have J8:=eY (y:={x with wk:=(wf,-1,zY,d,j,f,()),ls:=qI x.ls s.sz (x.vm,x.c.2.1 / 16,zY,d,()),ph:=3}) U;refine H.cs J8 {x with wk:=(wf,-1,zY,d,j,f,()),ls:=qI x.ls s.sz (x.vm,x.c.2.1 / 16,zY,d,()),ph:=3,fr:=zY} 9 rfl rfl (λ_=>rfl) (λa h=>⟨h.ls,h.fs,λc=>(by cases c)⟩) λw9 H=>?_;simp only[kW] at H;exact MU.res (H.sub (Bx _ _)) rfl 0 0 false k
end
theorem S_ (ls:List LT) (t p w:Int):yb ls t p w=((mN ls t p w).1,(mN ls t p w).2,()):=by
 show yb ls t p w= _;unfold yb mN;rw[show(λx=>ma x t p)=B_ t p from rfl];cases ls.find? (B_ t p) with
 |none=>rfl
 |some l=>
  dsimp only;split<;>rfl
def DE (s:MS) (n:Nat) (x:bY) (i:Nat):Bool:=match s.cs[i]? with
 |none=>false
 |some y=>decide (i≠n/\x.vm=0)&&((x.c.1==1&&(y.ph==4&&y.c.1==2))||(x.c.1==2&&(decide (y.ph>=2)&&(decide (y.vm>0)&&y.vm==x.c.2.1))))
section
variable {Q:Sys} {X:HX} {D G:List Nat} {w0 w w1:AC} {B:MB} {R:MR} {s:MS} {T L:List (Nat×List AI)} {M:List (Nat×B6)} {i:Nat} {x:bY} {g:Option Bool}
theorem MU.cbk (H:MU Q X D G w0 w R s T L M) (b:s.cs[i]? =some x): ∃l,bL w (R.cb i) l:=by
 obtain⟨a,e,f,c,hb,W,d,J⟩:=H.C8 b;rw[<-c];exact⟨_,d.base.db _ B7⟩
theorem MU.cne (H:MU Q X D G w0 w R s T L M) (c:s.cs[i]? =some x) {j:Nat} {y:bY} (b:s.cs[j]? =some y) (d:j≠i):R.cb j≠R.cb i:=by
 obtain⟨B,rfl,A,ca,la,h1,m,n,f⟩:=H;have g:=lF (B:=B) c;have k:=f.perm (L':=sP (B.A i) i x s.sz++(T++(Fp X B s++(gB B s ((Aq s.cs.length).erase i)++(C9 Q X A ca la s.h++L))))) (by
  refine In ?_ (Dn T (Dn _ (GH _ g.symm)));exact bG λa=>by simp only[B1,B2];omega)
 have nd:=k.base.nd;have l:((B.A j).cb,jL (B.A j) j y)∈gB B s ((Aq s.cs.length).erase i):=by
  unfold gB;refine Hr.2 ⟨j,?_,by rw[b];exact B7⟩;rw[Kf.mem_erase_iff];exact⟨d,DQ.2 (B4.1 b).1⟩
 intro e;have e:(B.A j).cb=(B.A i).cb:=e;unfold sP at nd;rw[List.cons_append,List.map_cons,GI] at nd;refine nd.1 (BP.2 ⟨((B.A j).cb,jL (B.A j) j y),?_,e⟩);exact BJ _ (BJ _ (BJ _ (BY _ l)))
theorem MU.f3 (H:MU Q X D G w0 w R s T L M): ∃sc:Option Ag×Nat×Nat,sc.2.1=s.cs.length/\(∀{g:Option Bool} {K:Option Ag×Nat×Nat->Prop},K sc->aj w g (ad (ae R.mb) 3) (.one .slice) K)/\ ∀{w1},Ext w w1-> ∀i,i<s.cs.length->sc.1.isSome=true/\cC w1 (ad sc.1 (i*1)) (.one .ptr) (some ⟨R.cb i,0,none⟩):=by
 obtain⟨B,rfl,H⟩:=H;have W:=H.wf;refine⟨B.sc,by rw[W.c.1,Dc,F2],λk=>H.ri (show _=some (B.sc.1,B.sc.2.1,B.sc.2.2) from rfl) k,λh1 i hi=>?_⟩;obtain⟨d,e,K,a, _, _, _⟩:=(H.ext h1).tmp;exact W.c.sl K.base (λy b=>BJ _ (a _ (B3 _ (B3 _ (B3 _ (BY _ b)))))) i (some ⟨(B.A i).cb,0,none⟩) (by rw[Ga,I1 hi];rfl)
theorem HW (H:MU Q X D G w0 w R s T L M) (h:s.cs[i]? =some x) (P:s.cs.length<=8) (hv: ∀y∈s.cs,y.vm<9223372036854775808):af A2 154 [ag (ae R.mb),ag (some ⟨R.cb i,0,none⟩)] w (.bool (qA s i x)):=by
 refine af.of (s:= .el (.one .bool)) λw1 h1=>ai (C:=U2) (aQ:=oe) (B5 (Fa _ _ w1 _) ?_);have H:=H.ext h1;have r:qA s i x=(Aq s.cs.length).any (DE s i x):=rfl;obtain⟨sc,z,A,B⟩:=H.f3;refine⟨rfl,rfl,A ?_⟩;rw[z];refine⟨λn st l=> ∃j:Nat,j<=s.cs.length/\n=s.cs.length - j/\st.1=(j:Int)/\(∀k,k<j->DE s i x k=false)/\Ext w1 l,⟨s.cs.length,λl g=>⟨0,FS _,rfl,rfl,λk o=>absurd o (NL k),g⟩⟩,?_⟩;rintro n ⟨E, _⟩ l ⟨j,p,F,hi,t,g⟩;have hi:E=(j:Int):=hi;subst hi F;dsimp only;have H:=H.ext g;refine ab (λc=>?_) (λc f m=>⟨?_,Ext.trans g m⟩)
 ·have p:j<s.cs.length:=by have:=of_decide_eq_true c;omega
  obtain⟨y,d⟩: ∃y,s.cs[j]? =some y:=⟨_,DB p⟩;have S:=hv y (Dg d);have u:=B g j p;have hb:DE s i x j=(decide (j≠i/\x.vm=0)&&((x.c.1==1&&(y.ph==4&&y.c.1==2))||(x.c.1==2&&(decide (y.ph>=2)&&(decide (y.vm>0)&&y.vm==x.c.2.1))))):=by
   unfold DE;rw[d]
  have next:DE s i x j=false-> ∀f,Ext l f-> ∃v:Nat,v<s.cs.length - j/\ ∃q:Nat,q<=s.cs.length/\v=s.cs.length - q/\aI .i64 (j:Int) 1=(q:Int)/\(∀k,k<q->DE s i x k=false)/\Ext w1 f:=λhb f m=>by
   refine⟨s.cs.length - (j+1),by omega,j+1,by omega,rfl,?_,λk o=>?_,Ext.trans g m⟩
   ·rw[aw (by omega) (by omega)];omega
   ·by_cases e:k=j
    ·subst e;exact hb
    ·exact t k (by omega)
  have yes:DE s i x j=true-> ∀f,Ext l f->true=qA s i x/\Ext w1 f:=λhb f m=>⟨by
   rw[r];exact(Ft.2 ⟨j,DQ.2 p,hb⟩).symm,Ext.trans g m⟩
  have I:decide ((some ⟨R.cb j,0,none⟩:Option Ag)=some ⟨R.cb i,0,none⟩)=decide (j=i):=by
   by_cases e:j=i
   ·subst e;simp
   ·have:=H.cne h d e;rw[decide_eq_false e,decide_eq_false_iff_not];intro c;exact this (congrArg Addr.block (Option.some.inj c))
  refine⟨⟨u.1,by omega,by omega⟩,aj.of (some ⟨R.cb j,0,none⟩) (by rw[DA];exact u.2) ⟨?_,λ_=>rfl,λ_=>rfl,H.cf h (n:=3) (λ_=>rfl) ?_⟩⟩
  ·intro a b J hb _;cases J;cases hb;obtain⟨U,t1,K⟩:=H.cbk d;obtain⟨V,t2,N⟩:=H.cbk h;exact⟨⟨_, _,K⟩,⟨_, _,N⟩⟩
  ·rw[I];refine ab (λc=>next ?_) (λc=>?_)
   ·rw[hb,Bool.and_eq_false_iff];left;simp only[H7,decide_eq_true_eq,bne_iff_ne] at c;rw[decide_eq_false_iff_not];rintro⟨c1,c2⟩;rcases c with c|c
    ·exact c1 c
    ·exact c c2
   ·have c0:j≠i/\x.vm=0:=by simpa using c
    rw[decide_eq_true c0,Bool.true_and] at hb;refine⟨rfl,rfl,rfl,H.cf h (n:=4) (λ_=>rfl) ⟨λ_=>rfl,λ_=>rfl,H.cf d (n:=2) (λ_=>rfl) ⟨λ_=>rfl,λ_=>rfl,λ_=>rfl,H.cf d (n:=4) (λ_=>rfl) ?_⟩⟩⟩;refine ab (λc=>yes ?_) (λc1=>?_)
    ·rw[hb,H7];left;rw[<-HB];exact c
    ·refine⟨rfl,rfl,rfl,H.cf h (n:=4) (λ_=>rfl) ⟨λ_=>rfl,λ_=>rfl,H.cf d (n:=2) (λ_=>rfl) ⟨λ_=>rfl,λ_=>rfl,H.cf d (n:=3) (λ_=>rfl) ⟨λ_=>rfl,λ_=>rfl,H.cf d (n:=3) (λ_=>rfl) ⟨λ_=>rfl,λ_=>rfl,λ_=>rfl,H.cf h (n:=5) (λ_=>rfl) ?_⟩⟩⟩⟩⟩;have e:(x.c.1==2&&decide (y.ph>=2)&&decide (y.vm>0)&&aG .u64 y.vm==x.c.2.1)=DE s i x j:=by
      rw[hb];rw[show(x.c.1==1&&(y.ph==4&&y.c.1==2))=false from by rw[<-HB];exact c1,Ik];by_cases O:y.vm>0
      ·rw[ee (by omega)];simp only[HB]
      ·rw[decide_eq_false O];simp
     rw[e];exact ab (λc=>yes c) (λc=>next c)
 ·have:j=s.cs.length:=by have:=of_decide_eq_false c;omega
  subst this;rw[r];symm;rw[Hq];intro k o;rw[t k (DQ.1 o)];decide
theorem Ta (H:MU Q X D G w0 w R s T L M) (b:s.cs[i]? =some x) (u:0<=s.ep.now) (hc:i<s.ep.pins.length) (z:(x.ls.length:Int)<=64) (B:0<s.sz) (m:cF x.c.2.1) (E:uM (aZ s.h.g x.vm) (x.c.2.1 / 16) (a9 x.c.1)=false) (F:mj s.h x=true) {K:Unit->AC->Prop}
 (k: ∀d,MU Q X D G w0 d R (dv s i x).1 T L M->K () d):
 az A2 153 (.bu []) [ag (ae R.mb),ag (some ⟨R.cb i,0,none⟩)] w K:=by
 unfold dv at k;rw[ay F] at k;refine H.go λw1 H=>ai (C:=U2) (aQ:=λ_=>[]) (B5 (Su _ _ w1 K) ⟨rfl,rfl,H.f1 ⟨rfl,rfl,H.cf b (n:=0) (λ_=>rfl) (Wj H u hc λv d H=>?_)⟩⟩);have I:af A2 201 [ag (some ⟨R.tb i,0,none⟩),aa x.vm,aa (x.c.2.1 / 16),aa (a9 x.c.1)] d ((Sh.bu [.one (.int .i64),.one (.int .i64)]).gR ((mN x.ls x.vm (x.c.2.1 / 16) (a9 x.c.1)).1,(mN x.ls x.vm (x.c.2.1 / 16) (a9 x.c.1)).2,())):=by
  rw[<-S_];obtain⟨a,e,o,m,hb,W,f,J⟩:=H.C8 b;have j:cv D G w0 d ((R.tb i,dg a.st s.sz)::(a.Lt++((a.cb,jL a i x)::(a.Lf++(a.Lw++(T++e)))))) o:=f.perm (bG λy=>by rw[<-hb];simp only[sP,B1,B2];omega);exact UI j.base W.ls z B _ _ _
 have p:=JN H b m;have q:=JO H b;refine⟨rfl,rfl,H.c1 b ⟨rfl,rfl,H.cf b (n:=3) (λ_=>rfl) ⟨_,p, _,q, _,I,?_⟩⟩⟩;dsimp only at k ⊢;refine ab (λc=>?_) (λc=>?_)
 ·have c:(mN x.ls x.vm (x.c.2.1 / 16) (a9 x.c.1)).2=0:=by simpa using c
  rw[ay c] at k;refine⟨rfl,rfl,H.cs b {x with ph:=3} 2 rfl rfl (λ_=>rfl) (λa h=>⟨h.ls,h.fs,λc=>(by cases c)⟩) λl H=>⟨rfl,rfl,?_⟩⟩;refine H.cs (eY b) {x with ph:=3,fr:=(mN x.ls x.vm (x.c.2.1 / 16) (a9 x.c.1)).1} 9 rfl rfl (λ_=>rfl) (λa h=>⟨h.ls,h.fs,λc=>(by cases c)⟩) λN H=>H.en λr H=>?_;rw[kW] at H;exact k r H
 ·have c:(mN x.ls x.vm (x.c.2.1 / 16) (a9 x.c.1)).2≠0:=by simpa using c
  rw[au c] at k;have O:af A2 21 [ag (ae X.hb),aa x.vm] d (aa (aZ s.h.g x.vm)):=by
   obtain⟨A,G',L0,S,P,U, _⟩:=H.sat;exact Jk S P U x.vm
  refine⟨rfl,rfl,H.f0 ⟨rfl,rfl,H.cf b (n:=3) (λ_=>rfl) ⟨_,O, _,p, _,q,?_⟩⟩⟩;obtain⟨a,e,o,V,hb,W,f,J⟩:=H.C8 b;refine λl t=>I4 (f.ext t).base.again _ _ _ (λhb=>by rw[E] at hb;cases hb) (λ_ bk N j=>?_) l (Ext.refl l);have Y:=(f.ext t).join j;rw[<-V];refine⟨rfl,rfl,WR (n:=2) (Y.perm (L':=(a.cb,jL a i x)::(a.tb,dg a.st s.sz)::(a.Lt++(a.Lf++(a.Lw++((bk,lN (aZ s.h.g x.vm) (x.c.2.1 / 16) (a9 x.c.1) 3 (0,0,0,0,()) (none,0,0))::(T++e)))))) (bG λy=>by simp only[sP,B1,B2];omega)) 0 rfl rfl rfl λr Z=>⟨rfl,rfl,WR (n:=8) Z 0 rfl rfl rfl λw6 K5=>enM K5 λw7 K6=>k w7 ?_⟩⟩;have K7:=(K6.perm (L':=a.Lw++((a.cb,((jL a i x).set 2 (aa 2)).set 8 (ag (ae bk)))::(a.tb,dg a.st s.sz)::(a.Lt++(a.Lf++((bk,lN (aZ s.h.g x.vm) (x.c.2.1 / 16) (a9 x.c.1) 3 (0,0,0,0,()) (none,0,0))::(T++e)))))) (bG λy=>by simp only[GF,B1,B2];omega)).sub (Fm _ _);refine J (a':={a with wp:=some ⟨bk,0,none⟩,Lw:=[(bk,lN (aZ s.h.g x.vm) (x.c.2.1 / 16) (a9 x.c.1) 3 (0,0,0,0,()) (none,0,0))]}) (x':={x with ph:=2,wk:=lO s.h.s.1 (aZ s.h.g x.vm) (x.c.2.1 / 16) (a9 x.c.1) 0}) rfl rfl ⟨W.ls,W.fs,λ_=>⟨bk,(none,0,0),[],[],rfl,rfl,.inl ⟨rfl,rfl,rfl⟩,by show((0:Nat):Int)<=3 - 3;decide⟩⟩ (K7.perm (bG λy=>?_));show CW y ((a.cb,((jL a i x).set 2 (aa 2)).set 8 (ag (ae bk)))::(a.tb,dg a.st s.sz)::(a.Lt++(a.Lf++[(bk,lN (aZ s.h.g x.vm) (x.c.2.1 / 16) (a9 x.c.1) 3 (0,0,0,0,()) (none,0,0))]))++(T++e))= _;simp only[B1,B2,Fo];omega
end
theorem _root_.Go.Proofs.YtlcenllcmeebhaaGreat.iu.perm {es:List Dx} {ck:Nat} {a b:List KV} (h:iu es ck a) (c:b.Perm a):iu es ck b:=by
 obtain⟨⟨p,h1,d⟩,e,f,g⟩:=h;exact⟨⟨p,h1.trans c.symm,d⟩,e,f,(c.map _).nodup_iff.2 g⟩
def s8 (kn:List Int) (ds:List DT) (n:Nat):List Int:=((Aq n).map λ(f:Nat)=>(f:Int)).filter λf=>(oE ds f).1==5&& !kn.contains f
theorem Nk (kn:List Int) (ds:List DT) (n:Nat):s8 kn ds (n+1)=s8 kn ds n++(if((oE ds (n:Int)).1==5&& !kn.contains (n:Int))=true then[(n:Int)] else[]):=by
 unfold s8;rw[If,Gi,List.filter_append];congr 1;show List.filter _ [(n:Int)]= _;rw[List.filter_cons,List.filter_nil]
theorem Wk {kn:List Int} {ds:List DT} {n:Nat} {f:Int} (h:f∈s8 kn ds n):0<=f/\f<(n:Int):=by
 obtain⟨m,a,rfl⟩:=BP.1 (Kb.1 h).1;have:=DQ.1 a;omega
theorem Tb (kn:List Int) (ds:List DT) (n:Nat):(s8 kn ds n).length<=n:=by
 refine Io (ID _ _) ?_;rw[Dc,F2];exact Dr _
section
variable {Q:Sys} {X:HX} {D G:List Nat} {w0 w w1:AC} {B:MB} {R:MR} {s:MS} {T L:List (Nat×List AI)} {M:List (Nat×B6)} {i:Nat} {x:bY} {g:Option Bool}
theorem MU.tmp (H:MU Q X D G w0 w R s T L M): ∃a b,cv D G w0 w (T++a) b/\ ∀{T' w'},cv D G w0 w' (T'++a) b->MU Q X D G w0 w' R s T' L M:=by
 obtain⟨B,e,H⟩:=H;obtain⟨a,b,K, _, _, _,J⟩:=H.tmp;exact⟨a,b,K,λK=>⟨B,e,J K⟩⟩
theorem MU.look (H:MU Q X D G w0 w R s T L M) (f:Int):jM w (some R.kb) .i64 f (.bool false) (.bool (s.kn.contains f)):=by
 obtain⟨B,rfl,H⟩:=H;obtain⟨j,l,a,J⟩:=H.kns;by_cases c:f∈s.kn
 ·obtain⟨i,b, _⟩:=H.wf.k.Fy (BP.2 ⟨f,c,rfl⟩);exact vf (a.get (i:=0) rfl) b (by rw[GG.2 c])
 ·refine BB (a.get (i:=0) rfl) (H.wf.k.Od λt d e=>?_) (by rw[HZ.2 λh=>c (GG.1 h)]);obtain⟨y,g,rfl⟩:=BP.1 d;exact c (by rw[<-e];exact g)
theorem MU.ins (H:MU Q X D G w0 w R s T L M) {f:Int} (c:f∉s.kn) {K:AC->Prop} (k: ∀a,MU Q X D G w0 a R {s with kn:=s.kn++[f]} T L M->K a):
 ∃(r:Nat) (es:Array Dx) (b:Nat),some R.kb=some r/\bD w r es b/\gS w r .i64 f (.bool true) es b K:=by
 obtain⟨B,rfl,H⟩:=H;obtain⟨n,o,d,J⟩:=H.kns;have g: ∀t∈s.kn.map (λf=>((f,.bool true):KV)),t.1≠f:=λt h e=>by
  obtain⟨y,j,rfl⟩:=BP.1 h;exact c (by rw[<-e];exact j)
 refine⟨B.kb,⟨B.ke⟩,B.kk,rfl,d.get (i:=0) rfl,xv (H.wf.k.Od g) ?_⟩;have l:=d.put (i:=0) rfl (o':= .map ⟨B.ke++[{key:=aa f,val:= .bool true,born:=B.kk}]⟩ (B.kk+1)) trivial;have m:(Array.mk B.ke).push {key:=aa f,val:= .bool true,born:=B.kk}=⟨B.ke++[{key:=aa f,val:= .bool true,born:=B.kk}]⟩:=by apply Array.ext';simp
 rw[m];refine k _ ⟨{B with ke:=B.ke++[{key:=aa f,val:= .bool true,born:=B.kk}],kk:=B.kk+1},rfl,J (kn:=s.kn++[f]) ((H.wf.k.push _ g).perm ?_) l⟩;rw[Gi];exact List.perm_append_singleton _ _
theorem Fe (H:MU Q X D G w0 w R s T L M) (x:s.h.s.2.length<=4096) {K:Option Ag×Nat×Nat->AC->Prop}
 (k: ∀r d l,dm eI r (s8 s.kn s.h.s.2 s.h.s.2.length) d->MU Q X D G w0 l R {s with kn:=s.kn++s8 s.kn s.h.s.2 s.h.s.2.length} (d++T) L M->K r l):
 az A2 156 (.el (.one .slice)) [ag (ae R.mb)] w K:=by
 refine H.go λw1 H=>ai (C:=U2) (aQ:=og) (B5 (Fb _ w1 K) ⟨rfl,rfl,H.f0 ?_⟩);obtain⟨A,G',L0,S,z, _,J⟩:=H.sat;refine r_ S z λe a g i l S=>?_;have H:MU Q X D G w0 l R s ((e,[.slice (ae a) s.h.s.2.length g])::(a,flat eD s.h.s.2++i)::T) L M:=J (T':=[_, _]) S;clear J S z;generalize O:s.h.s.2.length=N at*
 have P: ∀{B:AC} {U:MS} {V:List (Nat×List AI)},MU Q X D G w0 B R U ((e,[.slice (ae a) N g])::(a,flat eD s.h.s.2++i)::V) L M-> ∀f:Int,af A2 25 [ag (ae e),aa f] B ((Sh.bu [eD,.one .bool]).gR (oE s.h.s.2 f,As s.h.s.2 f,())):=λH f=>by
  obtain⟨L0,p,q⟩:=H.base;subst O;exact af.of λw' h'=>Gg ((p.db _ (q _ B7)).ext h') ((p.db _ (q _ (B3 _ B7))).ext h') f
 have W:af A2 62 [ag (ae e)] l (aa (N:Int)):=by
  obtain⟨L0,p,q⟩:=H.base;exact af.of (s:= .el (.one (.int .i64))) λw' h'=>rM ((p.db _ (q _ B7)).ext h')
 refine⟨_,W,?_⟩;refine⟨λn st t=> ∃(j:Nat) (d:List (Nat×List AI)),j<=N/\n=N - j/\st.2.1=(j:Int)/\dm eI st.1 (s8 s.kn s.h.s.2 j) d/\MU Q X D G w0 t R {s with kn:=s.kn++s8 s.kn s.h.s.2 j} ((e,[.slice (ae a) N g])::(a,flat eD s.h.s.2++i)::(d++T)) L M,⟨N,λt x=>⟨0,[],FS _,rfl,rfl,dm.nil eI,by
  have:s8 s.kn s.h.s.2 0=[]:=rfl;rw[this,Do];exact H.ext x⟩⟩,?_⟩
 clear H;rintro n ⟨r,Y, _⟩ t ⟨j,d,Z,rh,hi,m,H⟩;have hi:Y=(j:Int):=hi;have m:dm eI r (s8 s.kn s.h.s.2 j) d:=m;subst hi rh;dsimp only;refine ab (λc=>?_) (λc=>?_)
 ·have Z:j<N:=by have:=of_decide_eq_true c;omega
  have Aw:=Tb s.kn s.h.s.2 j;have hc:(s.kn++s8 s.kn s.h.s.2 j).contains (j:Int)=s.kn.contains (j:Int):=by
   rw[Bool.eq_iff_iff,GG,GG,List.mem_append];refine⟨λh=>h.resolve_right λh=>?_,.inl⟩;have:=Wk h;omega
  refine⟨_,P H (j:Int),H.al λb E H=>H.st 0 rfl rfl rfl λw6 H=>⟨rfl,H.cg 0 rfl (show _=some (oE s.h.s.2 (j:Int)).1 from rfl) ⟨λ_=>rfl,λ_=>rfl,H.f4 ⟨s.kn.contains (j:Int),λ_=>?_,?_⟩⟩⟩⟩
  ·have:=H.look (j:Int);rw[show(s.kn++s8 s.kn s.h.s.2 j).contains (j:Int)=s.kn.contains (j:Int) from hc] at this;exact this
  ·have H:MU Q X D G w0 w6 R {s with kn:=s.kn++s8 s.kn s.h.s.2 j} ((e,[.slice (ae a) N g])::(a,flat eD s.h.s.2++i)::(d++T)) L M:=H.sub (Bx _ _);have o:=Nk s.kn s.h.s.2 j;refine ab (λc=>⟨rfl,rfl,H.f4 λw7 u=>?_⟩) (λc w7 u=>⟨N - (j+1),by omega,j+1,d,by omega,rfl,?_,?_,?_⟩)
   ·rw[ay c] at o;have Xz:s.kn.contains (j:Int)=false:=by
     simp only[Dj,Bool.not_eq_true'] at c;exact c.2
    refine(H.ext u).ins (f:=(j:Int)) (λh=>?_) λw8 H=>H.al λv w9 H j_ C4=>?_
    ·rw[<-GG,hc,Xz] at h;cases h
    ·have H:=H.ext C4;obtain⟨R',Mo,F,J⟩:=H.tmp;have hb:bL j_ v (cellsOf eI (j:Int)):=F.base.db _ B7;have K2:=F.perm (L':=d++((v,[aa (j:Int)])::(e,[.slice (ae a) N g])::(a,flat eD s.h.s.2++i)::(T++R'))) (bG λy=>by simp only[B1,B2];omega);refine Fu K2 m rfl (ys:=[(j:Int)]) rfl (rK hb) rfl rfl (by rw[H5];omega) λs' I m9 fe K3 CY TI=>⟨N - (j+1),by omega,j+1,I,by omega,rfl,?_,?_,?_⟩
     ·rw[aw (by omega) (by omega)];omega
     ·rw[o];exact fe
     ·have H2:=J (T':=(v,[aa (j:Int)])::(e,[.slice (ae a) N g])::(a,flat eD s.h.s.2++i)::(I++T)) (K3.perm (bG λy=>by simp only[B1,B2];omega));rw[o, <-N6];exact MU.ext (H2.sub (Bx _ _)) TI
   ·rw[aw (by omega) (by omega)];omega
   ·rw[o,au (by rw[c];decide),Do];exact m
   ·rw[o,au (by rw[c];decide),Do];exact H.ext u
 ·have:j=N:=by have:=of_decide_eq_false c;omega
  subst this;exact H.en λE H=>k r d E m (H.sub ((List.Sublist.refl _).cons _ |>.cons _))
end
structure Bn (s:MS):Prop where
 c8:s.cs.length<=8
 pn:s.ep.pins.length=s.cs.length
 bn:s.bx.length=s.cs.length
 now:0<=s.ep.now/\s.ep.now<4611686018427387000
 ws:s.ep.ws.length<=1000000
 wn: ∀e∈s.ep.ws,0<=e.2/\e.2<=s.ep.now
 ms:s.ms.length<=900000000
 op:s.op.length<=900000000
 bl: ∀q∈s.bx,q.length<=16
 sz:0<s.sz/\s.sz<=64
 ls: ∀y∈s.cs,(y.ls.length:Int)<=s.sz
 vm: ∀y∈s.cs,y.vm<9223372036854775808
 cu: ∀y∈s.cs,cF y.c.2.1/\cF y.c.2.2.1/\cF y.c.2.2.2.1
section
variable {Q:Sys} {X:HX} {D G:List Nat} {w0 w w1:AC} {B:MB} {R:MR} {s:MS} {T L:List (Nat×List AI)} {M:List (Nat×B6)} {i:Nat} {x:bY} {g:Option Bool}
theorem MU.sys (H:MU Q X D G w0 w R s T L M):qJ s.h.s:=by
 obtain⟨B,e,A,ca,la,h1,a,b⟩:=H;exact a
theorem Z7 (H:MU Q X D G w0 w R s T L M) (g:B9 Q s.h) (v k:Int) {a b c:Int} (i:cF a) (hb:cF b) (hc:cF c) {K:Int×Int×Unit->AC->Prop}
 (kk: ∀d,MU Q X D G w0 d R {s with h:=kf s.h v k a b c} T L M->K (wL s.h v k a b c,qD s.h v k a b c,()) d):
 az A2 42 (.el (.agg iv)) [ag (ae X.hb),aa v,.agg ⟨fR k a b c⟩] w K:=λw1 h1=>by
 obtain⟨B,e,H⟩:=H.ext h1;obtain⟨j,L',f,J⟩:=H.hv;exact Pw f g v k i hb hc λd f=>kk d ⟨B,e,J f⟩
theorem Tc (H:MU Q X D G w0 w R s T L M) (hc:i<s.bx.length) (v:s.bx.length<=8) (x:s.op.length<=900000000) (c: ∀q∈s.bx,q.length<=16) (t p:Int) {K:Int×Int×Unit->AC->Prop}
 (k: ∀e a,MU Q X D G w0 a R {s with bx:=(dB s.bx s.op i t p).2.1,op:=(dB s.bx s.op i t p).2.2} T L M->K ((dB s.bx s.op i t p).1,e,()) a):
 az A2 157 (.bu [.one (.int .i64),.one (.int .i64)]) [ag (ae R.xb),aa (i:Int),aa t,aa p] w K:=by
 obtain⟨B,rfl,H⟩:=H;obtain⟨y,z,d,J⟩:=H.bxs;have W:=H.wf;have f:=W.l;refine Sg d W.b W.o W.l i (by omega) (by omega) (by omega) c t p λe g h j a m n r u=>k e a ⟨{B with so:=h,Lo:=j,cr:=g},rfl,J (op:=(dB s.bx s.op i t p).2.2) (bx:=(dB s.bx s.op i t p).2.1) r ?_ n u⟩;rw[m,f];unfold dB;split
 ·rfl
 ·split
  ·rfl
  ·simp
theorem Z8 {b:List (Nat×List AI)} (H:MU Q X D G w0 w R s (b++T) L M) (d:s.cs[i]? =some x) {r:Option Ag×Nat×Nat} {l:List Int} (e:dm eI r l b) {K:AC->Prop}
 (k: ∀w1,MU Q X D G w0 w1 R (cB s i {x with fs:=l}) T L M->K w1):aA w (ad (some ⟨R.cb i,0,none⟩) 13) [.slice r.1 r.2.1 r.2.2] K:=by
 obtain⟨a,c,o,f,hb,W,g,J⟩:=H.C8 d;rw[<-f];refine WR (n:=13) (g.perm (L':=(a.cb,jL a i x)::(a.tb,dg a.st s.sz)::(a.Lt++(a.Lw++(a.Lf++(b++(T++c)))))) (bG λy=>by simp only[sP,B1,B2];omega)) 0 rfl rfl rfl λh j=>k h ?_;have m:=(j.perm (L':=a.Lf++((a.cb,(jL a i x).set 13 (.slice r.1 r.2.1 r.2.2))::(a.tb,dg a.st s.sz)::(a.Lt++(a.Lw++(b++(T++c)))))) (bG λy=>by simp only[GF,B1,B2];omega)).sub (Fm _ _);refine J (a':={a with sf:=r,Lf:=b}) (x':={x with fs:=l}) rfl rfl ⟨W.ls,e,W.wk⟩ (m.perm (bG λy=>?_));show CW y ((a.cb,(jL a i x).set 13 (.slice r.1 r.2.1 r.2.2))::(a.tb,dg a.st s.sz)::(a.Lt++(b++a.Lw))++(T++c))= _;simp only[B1,B2];omega
theorem Td {b:Nat} {l:List AI} (H:MU Q X D G w0 w R s ((b,l)::T) L M) (j:l.length=2) (A:s.cs.length<=8) (B:s.bx.length=s.cs.length) (m:s.op.length<=900000000) (o: ∀q∈s.bx,q.length<=16) (r:0<s.sz) (u:(x.ls.length:Int)<=64) (f:s.cs[i]? =some x) (t p:Int) {K:BQ->AC->Prop}
 (k: ∀d,MU Q X D G w0 d R (cB {s with bx:=(dB s.bx s.op i t p).2.1,op:=(dB s.bx s.op i t p).2.2} i {x with ls:=jj x.ls t p,ak:=(dB s.bx s.op i t p).1,ph:=4}) T L M->K ((0,0,()),false,()) d):
 az A2 67 (.bu []) [ag (some ⟨R.cb i,0,none⟩),aa t,aa p] w λ_ d=>
  (some ⟨R.mb,0,none⟩:Option Ag).isSome=true/\(some ⟨R.mb,0,none⟩:Option Ag).isSome=true/\aj d none (ad (ae R.mb) 2) (.one .ptr) λ(x1:Option Ag)=>
  (some ⟨R.cb i,0,none⟩:Option Ag).isSome=true/\(some ⟨R.cb i,0,none⟩:Option Ag).isSome=true/\aj d none (ad (some ⟨R.cb i,0,none⟩) 0) (.one (.int .i64)) λ(v:Int)=>
  az A2 157 (.bu [.one (.int .i64),.one (.int .i64)]) [ag x1,aa v,aa t,aa p] d λ(y:Int×Int×Unit) d=>
  (some ⟨R.cb i,0,none⟩:Option Ag).isSome=true/\(some ⟨R.cb i,0,none⟩:Option Ag).isSome=true/\aA d (ad (some ⟨R.cb i,0,none⟩) 12) [aa y.1] λd=>
  (some ⟨R.cb i,0,none⟩:Option Ag).isSome=true/\(some ⟨R.cb i,0,none⟩:Option Ag).isSome=true/\aA d (ad (some ⟨R.cb i,0,none⟩) 2) [aa 4] λd=>
  aA d (ae b) [ax 0,aa 0] λd=>ao d λw1=>aj w1 none (ae b) (El.agg [.int .u64,.int .i64]) λ(x:Int×Int×Unit)=>K ((x.1,x.2.1,()),false,()) w1:=by
 have C:=(B4.1 f).1;refine zH H f u r t p λd H=>⟨rfl,rfl,H.f2 ⟨rfl,rfl,H.cf (eY f) (n:=0) (λ_=>rfl) ?_⟩⟩;refine Tc H (show i<s.bx.length by omega) (show s.bx.length<=8 by omega) m o t p λe z H=>⟨rfl,rfl,?_⟩;have g:(cB {s with bx:=(dB s.bx s.op i t p).2.1,op:=(dB s.bx s.op i t p).2.2} i {x with ls:=jj x.ls t p}).cs[i]? =some {x with ls:=jj x.ls t p}:=eY (s:={s with bx:=(dB s.bx s.op i t p).2.1,op:=(dB s.bx s.op i t p).2.2}) f;have H:MU Q X D G w0 z R (cB {s with bx:=(dB s.bx s.op i t p).2.1,op:=(dB s.bx s.op i t p).2.2} i {x with ls:=jj x.ls t p}) ((b,l)::T) L M:=H;refine H.cs g {x with ls:=jj x.ls t p,ak:=(dB s.bx s.op i t p).1} 12 rfl rfl (λ_=>rfl) (λa h=>⟨h.ls,h.fs,h.wk⟩) λE H=>⟨rfl,rfl,?_⟩;refine H.cs (eY g) {x with ls:=jj x.ls t p,ak:=(dB s.bx s.op i t p).1,ph:=4} 2 rfl rfl (λ_=>rfl) (λa h=>⟨h.ls,h.fs,λc=>(by cases c)⟩) λF H=>?_;rw[kW,kW] at H;exact H.res j 0 0 false k
end
section
variable {Q:Sys} {X:HX} {D G:List Nat} {w0 w w1:AC} {B:MB} {R:MR} {s:MS} {T L:List (Nat×List AI)} {M:List (Nat×B6)} {i:Nat} {x:bY} {g:Option Bool}
theorem Nl (H:MU Q X D G w0 w R s T L M) (Bd:Bn s) (j:s.cs[i]? =some x) (W:B9 Q s.h) (Y:mj s.h x=true->uM (aZ s.h.g x.vm) (x.c.2.1 / 16) (a9 x.c.1)=false) {K:BQ->AC->Prop}
 (k: ∀d,MU Q X D G w0 d R (dv s i x).1 T L M->K (((dv s i x).2.1.1,(dv s i x).2.1.2,()),(dv s i x).2.2,()) d):
 az A2 110 NY [ag (ae R.mb),ag (some ⟨R.cb i,0,none⟩)] w K:=by
 have F:=Dg j;have lT:=(B4.1 j).1;have NM:=Bd.ls x F;have I:=Bd.sz;have u:=Bd.cu x F;have J:=Bd.c8;have Fj:=Bd.pn;refine H.go λw1 H=>aP (C:=U2) (aQ:=λ_=>[]) (B5 (MN _ _ w1 K) (H.al λb d H=>⟨mj s.h x,Ni H j,?_⟩));by_cases m:mj s.h x=true
 ·have Z:(dv s i x).2=((0,0),false):=by
   unfold dv;rw[ay m];dsimp only;split<;>rfl
  rw[Z] at k;exact aB m (Ta H j Bd.now.1 (by omega) (by omega) I.1 u.1 (Y m) m λN H=>H.res rfl 0 0 false k)
 refine an (HZ.2 m) ⟨qA s i x,HW H j J Bd.vm,?_⟩;by_cases o:qA s i x=true
 ·have e:dv s i x=(s,(0,9),true):=by unfold dv;rw[au m,ay o]
  rw[e] at k;exact aB o (H.res rfl 0 9 true k)
 refine an (HZ.2 o) ⟨rfl,rfl,H.cf j (n:=3) (λ_=>rfl) ⟨λ_=>rfl,λ_=>rfl,H.cf j (n:=4) (y:=x.c) (λ_=>rfl) ?_⟩⟩;have O:(x.vm==0&&(x.c.1==17&&(x.c.2.1==0&&(x.c.2.2.1==0&&(x.c.2.2.2.1==0&&true)))))=true<->(x.vm=0/\x.c=(17,0,0,0,())):=by
  obtain⟨k1,a1,b1,c1,⟨⟩⟩:=x.c;simp only[Dj,beq_iff_eq,Prod.mk.injEq,and_true]
 by_cases v:x.vm=0/\x.c=(17,0,0,0,())
 ·have e:dv s i x=((dA s).1,((((dA s).2:Nat):Int),0),true):=by unfold dv;rw[au m,au o,ay v]
  rw[e] at k;refine aB (O.2 v) (EP H (by omega) Bd.now Bd.ws Bd.wn Bd.ms λN H=>?_);have hlen:(dA s).2<=s.ep.ws.length:=by
   unfold dA oz;rw[jD,Dc];refine Io (ID _ _) ?_;rw[uX];exact Dr _
  have z8:=Bd.ws;rw[ee (by omega)];exact H.res rfl _ 0 true k
 refine an (HZ.2 λc=>v (O.1 c)) ?_;have e:dv s i x=iE s i x:=by unfold dv;rw[au m,au o,au v]
 rw[e] at k;refine⟨rfl,rfl,H.f0 ⟨rfl,rfl,H.cf j (n:=3) (λ_=>rfl) ⟨rfl,rfl,H.cf j (n:=4) (y:=x.c) (λ_=>rfl) (Z7 H W x.vm x.c.1 u.1 u.2.1 u.2.2 λN H=>⟨rfl,rfl,?_⟩)⟩⟩⟩;unfold iE at k;generalize hh':kf s.h x.vm x.c.1 x.c.2.1 x.c.2.2.1 x.c.2.2.2.1=h' at*
 generalize hV:wL s.h x.vm x.c.1 x.c.2.1 x.c.2.2.1 x.c.2.2.2.1=V at*
 generalize f:qD s.h x.vm x.c.1 x.c.2.1 x.c.2.2.1 x.c.2.2.2.1=E at*
 dsimp only at k ⊢;have S:({s with h:=h'}:MS).cs[i]? =some x:=j;refine H.cs S {x with rs:=(V,E)} 10 rfl rfl (λ_=>rfl) (λa h=>⟨h.ls,h.fs,h.wk⟩) λw4 H=>?_;have z:=eY (y:={x with rs:=(V,E)}) S;refine⟨rfl,rfl,H.cf z (n:=3) (λ_=>rfl) ⟨rfl,rfl,H.cf z (n:=4) (y:=x.c) (λ_=>rfl) ⟨rfl,rfl,H.cf z (n:=10) (y:=(V,E,())) (λ_=>rfl) ?_⟩⟩⟩;have hms:=Bd.ms;refine tM H (show s.ms.length<= _ by omega) (1,x.vm,0,x.c,V,E) λw5 H=>Fe H H.sys.2.2.1 λr Lr w6 hs H=>⟨rfl,rfl,?_⟩;have vk:({ {cB {s with h:=h'} i {x with rs:=(V,E)} with ms:=s.ms++[(1,x.vm,0,x.c,V,E)]} with kn:=s.kn++eK s h'}:MS).cs[i]? =some {x with rs:=(V,E)}:=z;refine Z8 (x:={x with rs:=(V,E)}) H vk hs λA H=>?_;have H:MU Q X D G w0 A R (cB {s with h:=h',kn:=s.kn++eK s h',ms:=s.ms++[(1,x.vm,0,x.c,V,E)]} i {x with rs:=(V,E),fs:=eK s h'}) ((b,[ax 0,aa 0])::T) L M:=by
  have H:=H;unfold cB at H;simp only[FR] at H;exact H
 have l:=eY (s:={s with h:=h',kn:=s.kn++eK s h',ms:=s.ms++[(1,x.vm,0,x.c,V,E)]}) (y:={x with rs:=(V,E),fs:=eK s h'}) j;have kE:(x.c.1=2\/x.c.1=4\/x.c.1=5\/x.c.1=10->E≠0)-> ∀d,MU Q X D G w0 d R (cB {s with h:=h',kn:=s.kn++eK s h',ms:=s.ms++[(1,x.vm,0,x.c,V,E)]} i {x with rs:=(V,E),fs:=eK s h'}) T L M->K ((V,E,()),true,()) d:=λf d H=>by
  have:=k d;by_cases c:x.c.1=2\/x.c.1=4\/x.c.1=5\/x.c.1=10
  ·rw[ay c,ay (f c)] at this;exact this H
  ·rw[au c] at this;exact this H
 have kP:x.c.1=2\/x.c.1=4\/x.c.1=5\/x.c.1=10->E=0-> ∀t p:Int,(if x.c.1=2 then aG .i64 x.c.2.1 else x.vm)=t->(if x.c.1=2 then -1 else aG .i64 x.c.2.1)=p-> ∀d,MU Q X D G w0 d R (cB {s with h:=h',kn:=s.kn++eK s h',ms:=s.ms++[(1,x.vm,0,x.c,V,E)],bx:=(dB s.bx s.op i t p).2.1,op:=(dB s.bx s.op i t p).2.2} i {x with rs:=(V,E),fs:=eK s h',ls:=jj x.ls t p,ak:=(dB s.bx s.op i t p).1,ph:=4}) T L M->K ((0,0,()),false,()) d:=λc f t p B q d H=>by
  have:=k d;rw[ay c,au (by omega),B,q] at this;exact this H
 have tl:=λ(c:x.c.1=2\/x.c.1=4\/x.c.1=5\/x.c.1=10) (f:E=0) (t p:Int) (B:(if x.c.1=2 then aG .i64 x.c.2.1 else x.vm)=t) (q:(if x.c.1=2 then -1 else aG .i64 x.c.2.1)=p)=>Td (i:=i) (K:=K) (x:={x with rs:=(V,E),fs:=eK s h'}) H rfl (show(s.cs.set i _).length<=8 by rw[Dk];exact J) (show s.bx.length=(s.cs.set i _).length by rw[Dk];exact Bd.bn) Bd.op Bd.bl I.1 (show(x.ls.length:Int)<=64 by omega) l t p λU H=>kP c f t p B q U (by
  have H:MU Q X D G w0 U R (cB (cB {s with h:=h',kn:=s.kn++eK s h',ms:=s.ms++[(1,x.vm,0,x.c,V,E)],bx:=(dB s.bx s.op i t p).2.1,op:=(dB s.bx s.op i t p).2.2} i {x with rs:=(V,E),fs:=eK s h'}) i {x with rs:=(V,E),fs:=eK s h',ls:=jj x.ls t p,ak:=(dB s.bx s.op i t p).1,ph:=4}) T L M:=H;rw[kW] at H;exact H)
 refine⟨rfl,rfl,H.cf l (n:=3) (λ_=>rfl) ⟨rfl,rfl,rfl,H.cf l (n:=5) (λ_=>rfl) ⟨rfl,rfl,rfl,H.cf l (n:=4) (λ_=>rfl) ?_⟩⟩⟩;have br: ∀{P:Prop},(E=0->P)->aH (E != 0) ((some ⟨R.cb i,0,none⟩:Option Ag).isSome=true/\(some ⟨R.cb i,0,none⟩:Option Ag).isSome=true/\aj A none (ad (some ⟨R.cb i,0,none⟩) 10) (El.agg [.int .u64,.int .i64]) λ(x:Int×Int×Unit)=>aA A (ae b) [ax x.1,aa x.2.1] λd=>ao d λw1=>aj w1 none (ae b) (El.agg [.int .u64,.int .i64]) λ(x:Int×Int×Unit)=>K ((x.1,x.2.1,()),true,()) w1) P:=λq=>by
  refine ab (λc=>⟨rfl,rfl,H.cf l (n:=10) (y:=(V,E,())) (λ_=>rfl) (H.res rfl _ _ true (kE λ_=>by simpa using c))⟩) (λc=>q (by simpa using c))
 by_cases c2:x.c.1=2
 ·refine aB (by rw[c2];rfl) ⟨rfl,rfl,rfl,H.cf l (n:=5) (λ_=>rfl) ⟨rfl,rfl,rfl,H.cf l (n:=11) (λ_=>rfl) (br λf=>?_)⟩⟩;exact tl (.inl c2) f _ _ (ay c2) (ay c2)
 refine an (beq_eq_false_iff_ne.2 c2) ?_;by_cases c4:x.c.1=4
 ·refine aB (by rw[c4];rfl) (aB (by rw[c4];rfl) ⟨rfl,rfl,rfl,H.cf l (n:=11) (λ_=>rfl) (br λf=>?_)⟩);exact tl (.inr (.inl c4)) f _ _ (au c2) (au c2)
 refine an (beq_eq_false_iff_ne.2 c4) ?_;by_cases c5:x.c.1=5
 ·refine aB (by rw[c5];rfl) (aB (by rw[c5];rfl) ⟨rfl,rfl,rfl,H.cf l (n:=11) (λ_=>rfl) (br λf=>?_)⟩);exact tl (.inr (.inr (.inl c5))) f _ _ (au c2) (au c2)
 refine an (beq_eq_false_iff_ne.2 c5) ?_;by_cases Yk:x.c.1=10
 ·refine aB (by rw[Yk];rfl) ⟨rfl,rfl,rfl,H.cf l (n:=11) (λ_=>rfl) (br λf=>?_)⟩;exact tl (.inr (.inr (.inr Yk))) f _ _ (au c2) (au c2)
 refine an (beq_eq_false_iff_ne.2 Yk) ⟨rfl,rfl,H.cf l (n:=10) (y:=(V,E,())) (λ_=>rfl) (H.res rfl _ _ true (kE λc=>?_))⟩;rcases c with c|c|c|c
 ·exact absurd c c2
 ·exact absurd c c4
 ·exact absurd c c5
 ·exact absurd c Yk
end
def IG (l:List AI) (n:Int):AI:=match l.get?Internal n.toNat with
 |some x=>x
 |none=>Value.tuple ⟨[]⟩
abbrev sFs:El:= .agg [.func,.func,.func,.func,.func]
def Kl (x:Option Ag) (n:Int) (b c:Nat) (Post:BQ->AC->Prop) (r:BQ) (a:AC):Prop:=
 aA a (ae c) [ax r.1.1,aa r.1.2.1] λa=>
  aH (!r.2.1)
   (aA a (ae b) [ax 0,aa 0] λa=>ao a λw1=>aj w1 none (ae b) (.agg iv) λ(y:Int×Int×Unit)=>Post ((y.1,y.2.1,()),false,()) w1)
   (x.isSome=true/\x.isSome=true/\aj a none (ad x 1) (.one .ptr) λ(t:Option Ag)=>x.isSome=true/\
    aA a x [aa n,ag t,aa 0,aa 0,aa 0,ax 0,ax 0,ax 0,ag none,aa 0,ax 0,aa 0,aa 0,.slice none 0 0] λa=>
    aj a none (ae c) (.agg iv) λ(y:Int×Int×Unit)=>aA a (ae b) [ax y.1,aa y.2.1] λa=>ao a λw1=>aj w1 none (ae b) (.agg iv) λ(y:Int×Int×Unit)=>Post ((y.1,y.2.1,()),true,()) w1)
def abJ (p x:Option Ag) (n:Int) (b:Nat) (Post:BQ->AC->Prop) (a:AC):Prop:=
 x.isSome=true/\x.isSome=true/\aj a none (ad x 2) (.one (.int .i64)) λ(ph:Int)=>
  (az A2 68 (.el sFs) [ag p] a λ(f:AI×AI×AI×AI×AI×Unit) a=>cC a (ad x 2) (.one (.int .i64)) ph/\True/\True/\(0<=ph/\ph<((5:Nat):Int))/\
   (zO A2 (IG [f.1,f.2.1,f.2.2.1,f.2.2.2.1,f.2.2.2.2.1] ph) NY [ag x] a λ(r:BQ) a=>aM a ⟨[ax 0,aa 0]⟩ 61 λc a=>Kl x n b c Post r a)/\
   aM a ⟨[ax 0,aa 0]⟩ 61 λc a=>zO A2 (IG [f.1,f.2.1,f.2.2.1,f.2.2.2.1,f.2.2.2.2.1] ph) NY [ag x] a λ(r:BQ) a=>Kl x n b c Post r a)/\
  aM a ⟨[ax 0,aa 0]⟩ 61 λc a=>az A2 68 (.el sFs) [ag p] a λ(f:AI×AI×AI×AI×AI×Unit) a=>cC a (ad x 2) (.one (.int .i64)) ph/\True/\True/\(0<=ph/\ph<((5:Nat):Int))/\
   zO A2 (IG [f.1,f.2.1,f.2.2.1,f.2.2.2.1,f.2.2.2.2.1] ph) NY [ag x] a λ(r:BQ) a=>Kl x n b c Post r a
theorem DU {a:Nat} {sh:Sh} {first args:List AI} {w:AC} {K:sh.T->AC->Prop} (hc:bJ A2 a=true) (b:az A2 a sh (first++args) w K):zO A2 (.func (.func a) ⟨first⟩ #[]) sh args w K:=by
 unfold zO;refine λw1 h1=>⟨a,⟨first⟩, #[],rfl,hc,?_⟩;have e:cU ⟨first⟩ args #[]=first++args:=by unfold cU;simp
 rw[e];exact b w1 h1
abbrev FF (mb f:Nat):AI:= .func (.func f) ⟨[ag (ae mb)]⟩ #[]
structure Sx (s:MS) (i:Nat) (x:bY):Prop where
 ph:0<=x.ph/\x.ph<=4
 wk:x.ph=2->0<=x.wk.2.1/\x.wk.2.1<=3
 ln:x.ph=2->(bF s.h.s.1 (x.c.2.1 / 16) (a9 x.c.1) x.wk).2.1= -1->(bF s.h.s.1 (x.c.2.1 / 16) (a9 x.c.1) x.wk).2.2.2.2.2.1=0->lnR (x.vm,x.c.2.1 / 16,(bF s.h.s.1 (x.c.2.1 / 16) (a9 x.c.1) x.wk).2.2.1,(bF s.h.s.1 (x.c.2.1 / 16) (a9 x.c.1) x.wk).2.2.2.1,())=true
 fr:x.ph=3->0<=x.fr/\x.fr<4096
 ak:x.ph=4->x.ak<4611686018427387904/\x.fs.length<=1000000/\ ∀f∈x.fs,0<=f
 bw:mj s.h x=true->uM (aZ s.h.g x.vm) (x.c.2.1 / 16) (a9 x.c.1)=false
 tk: ∀a q,s.bx[i]? =some (a::q)->(1<=a.1/\a.1<=(s.op.length:Int))/\ -1000<=s.op.getD (a.1 - 1).toNat 0/\s.op.getD (a.1 - 1).toNat 0<=1000
section
variable {Q:Sys} {X:HX} {D G:List Nat} {w0 w w1:AC} {B:MB} {R:MR} {s:MS} {T L:List (Nat×List AI)} {M:List (Nat×B6)} {i:Nat} {x:bY} {g:Option Bool}
theorem zI (H:MU Q X D G w0 w R s T L M) {K:AI×AI×AI×AI×AI×Unit->AC->Prop} (k: ∀a,MU Q X D G w0 a R s T L M->K (FF R.mb 109,FF R.mb 110,FF R.mb 111,FF R.mb 112,FF R.mb 113,()) a):
 az A2 68 (.el sFs) [ag (ae R.mb)] w K:=by
 refine H.go λw1 H=>aP (C:=U2) (aQ:=λ_=>[]) (B5 (HM _ w1 K) (H.al λb a H=>H.st 0 rfl rfl rfl λd H=>H.en λc H=>H.ld 0 rfl (show _=some (FF R.mb 109,FF R.mb 110,FF R.mb 111,FF R.mb 112,FF R.mb 113,()) from rfl) (k c (H.sub (Bx _ _)))))
theorem vg (H:MU Q X D G w0 w R s T L M) (Bd:Bn s) (a:s.cs[i]? =some x) (f:B9 Q s.h) (S:Sx s i x) {K:BQ->AC->Prop}
 (k: ∀d,MU Q X D G w0 d R (bS s i x).1 T L M->K (((bS s i x).2.1.1,(bS s i x).2.1.2,()),(bS s i x).2.2,()) d):
 zO A2 (IG [FF R.mb 109,FF R.mb 110,FF R.mb 111,FF R.mb 112,FF R.mb 113] x.ph) NY [ag (some ⟨R.cb i,0,none⟩)] w K:=by
 have c:=Dg a;have g:=(B4.1 a).1;have j:=Bd.pn;have l:=Bd.c8;have m:=S.ph;by_cases c0:x.ph=0
 ·have e:bS s i x=((dA s).1,(0,0),false):=ay c0;rw[e] at k;rw[c0];exact DU (first:=[_]) (by kernel_rfl) (S5 H (by omega) Bd.now Bd.ws Bd.wn Bd.ms _ k)
 by_cases c1:x.ph=1
 ·have e:bS s i x=dv s i x:=by unfold bS;rw[au c0,ay c1]
  rw[e] at k;rw[c1];exact DU (first:=[_]) (by kernel_rfl) (Nl H Bd a f S.bw k)
 by_cases c2:x.ph=2
 ·have e:bS s i x=lu s i x:=by unfold bS;rw[au c0,au c1,ay c2]
  rw[e] at k;rw[c2];have b:(lu s i x).2.1.1=0:=by
   unfold lu;dsimp only;split
   ·rfl
   ·split<;>rfl
  rw[b] at k;exact DU (first:=[_]) (by kernel_rfl) (S9 H a c2 (S.wk c2) (Bd.cu x c).1 (by omega) (Bd.ls x c) Bd.sz (S.ln c2) k)
 by_cases c3:x.ph=3
 ·have e:bS s i x=fY s i x:=by unfold bS;rw[au c0,au c1,au c2,ay c3]
  rw[e] at k;rw[c3];have b:(fY s i x).2.1.2=0/\(fY s i x).2.2=true:=by
   unfold fY;dsimp only;split<;>exact⟨rfl,rfl⟩
  rw[b.1,b.2] at k;exact DU (first:=[_]) (by kernel_rfl) (Nj H a (S.fr c3) (Bd.cu x c).1 (Bd.cu x c).2.1 (by omega) Bd.ms k)
 have c4:x.ph=4:=by omega
 have e:bS s i x=iF s x:=by unfold bS;rw[au c0,au c1,au c2,au c3]
 rw[e] at k;rw[c4];have b:(if(iF s x).2.2=true then((iF s x).2.1.1,(iF s x).2.1.2,()) else(0,0,()))=((iF s x).2.1.1,(iF s x).2.1.2,()):=by
  unfold iF;split<;>rfl
 rw[<-b] at k;exact DU (first:=[_]) (by kernel_rfl) (S6 H a (S.ak c4).1 (S.ak c4).2.1 (S.ak c4).2.2 k)
end
theorem CL: ∀(l:List Int) (s:MS),(l.foldl gQ s).cs=s.cs
 |[],s=>rfl
 |f::l,s=>by rw[G1,CL l];rfl
theorem JP (s:MS):(dA s).1.cs=s.cs:=by unfold dA;rw[CL]
theorem Nn (s:MS) (i:Nat) (x:bY):(dv s i x).1.cs.length=s.cs.length:=by
 have a: ∀(s:MS) (y:bY),(cB s i y).cs.length=s.cs.length:=λs y=>Dk ..;unfold dv;split
 ·dsimp only;split<;>exact a _ _
 ·split
  ·rfl
  ·split
   ·dsimp only;rw[JP]
   ·unfold iE;dsimp only;split
    ·split<;>exact a _ _
    ·exact a _ _
theorem No (s:MS) (i:Nat) (x:bY):(bS s i x).1.cs.length=s.cs.length:=by
 have a: ∀(s:MS) (y:bY),(cB s i y).cs.length=s.cs.length:=λs y=>Dk ..;unfold bS;split
 ·dsimp only;rw[JP]
 ·split
  ·exact Nn s i x
  ·split
   ·unfold lu;dsimp only;split
    ·exact a _ _
    ·split<;>exact a _ _
   ·split
    ·unfold fY;dsimp only;split<;>rfl
    ·unfold iF;split<;>rfl
section
variable {Q:Sys} {X:HX} {D G:List Nat} {w0 w w1:AC} {B:MB} {R:MR} {s:MS} {T L:List (Nat×List AI)} {M:List (Nat×B6)} {i:Nat} {x:bY} {g:Option Bool}
theorem Wl {b d:Nat} {l g:List AI} (H:MU Q X D G w0 w R s ((d,g)::(b,l)::T) L M) (h:l.length=2) (m:g.length=2) (j:s.cs[i]? =some x) (r:BQ) {K:BQ->AC->Prop}
 (k: ∀e,MU Q X D G w0 e R (if r.2.1=true then cB s i (cI x.ls) else s) T L M->K (if r.2.1=true then((r.1.1,r.1.2.1,()),true,()) else((0,0,()),false,())) e):
 Kl (some ⟨R.cb i,0,none⟩) (i:Int) b d K r w:=by
 unfold Kl;refine H.st 0 rfl rfl m.symm λe H=>ab (λc=>?_) (λc=>?_)
 ·have c:r.2.1=false:=by simpa using c
  rw[c] at k;exact MU.res (H.sub (Bx _ _)) h 0 0 false k
 ·have c:r.2.1=true:=by simpa using c
  rw[c] at k;refine⟨rfl,rfl,H.c1 j ⟨rfl,?_⟩⟩;obtain⟨a,f,u,n,hb,W,o,J⟩:=H.C8 j;rw[<-n, <-hb];refine stB (o.perm (L':=(a.cb,jL a i x)::(a.tb,dg a.st s.sz)::(a.Lt++(a.Lf++(a.Lw++(((d,[ax r.1.1,aa r.1.2.1])::(b,l)::T)++f))))) (bG λy=>by simp only[ae,sP,B1,B2,GF];omega)) 0 rfl rfl rfl λp q=>?_;have t:=(q.perm (L':=a.Lf++(a.Lw++((a.cb,[aa (i:Int),ag (ae a.tb),aa 0,aa 0,aa 0,ax 0,ax 0,ax 0,ag none,aa 0,ax 0,aa 0,aa 0,.slice none 0 0])::(a.tb,dg a.st s.sz)::(a.Lt++(((d,[ax r.1.1,aa r.1.2.1])::(b,l)::T)++f))))) (bG λy=>by simp only[ae,GF,B1,B2];omega)).sub ((Fm _ _).trans (Fm _ _));have H:MU Q X D G w0 p R (cB s i (cI x.ls)) ((d,[ax r.1.1,aa r.1.2.1])::(b,l)::T) L M:=by
   refine J (a':={a with wp:=none,sf:=(none,0,0),Lf:=[],Lw:=[]}) (x':=cI x.ls) rfl rfl ⟨W.ls,dm.nil eI,λc=>(by cases c)⟩ (t.perm (bG λy=>?_));show CW y ((a.cb,[aa (i:Int),ag (ae a.tb),aa 0,aa 0,aa 0,ax 0,ax 0,ax 0,ag none,aa 0,ax 0,aa 0,aa 0,.slice none 0 0])::(a.tb,dg a.st s.sz)::(a.Lt++([]++[]))++(((d,[ax r.1.1,aa r.1.2.1])::(b,l)::T)++f))= _;simp only[ae,B1,B2,Fo];omega
  exact H.ld 0 rfl (show _=some (r.1.1,r.1.2.1,()) from rfl) (MU.res (H.sub (Bx _ _)) h _ _ true k)
theorem EQ {b:Nat} {l:List AI} (H:MU Q X D G w0 w R s ((b,l)::T) L M) (q:l.length=2) (Bd:Bn s) (a:s.cs[i]? =some x) (g:B9 Q s.h) (S:Sx s i x) {K:BQ->AC->Prop}
 (k: ∀d,MU Q X D G w0 d R (iO (bS s i x) i x).1 T L M->K (((iO (bS s i x) i x).2.1.1,(iO (bS s i x) i x).2.1.2,()),(iO (bS s i x) i x).2.2,()) d):
 abJ (ae R.mb) (some ⟨R.cb i,0,none⟩) (i:Int) b K w:=by
 have u:=(B4.1 a).1;have v:=No s i x;obtain⟨x',j⟩: ∃x',(bS s i x).1.cs[i]? =some x':=⟨_,DB (by omega)⟩;have r:(bS s i x).1.cs.getD i x=x':=by rw[FQ,j];rfl
 unfold iO at k;rw[r] at k;have m:=S.ph;have fin: ∀{e:Nat} {o:List AI} {d:AC},o.length=2->MU Q X D G w0 d R (bS s i x).1 ((e,o)::(b,l)::T) L M->Kl (some ⟨R.cb i,0,none⟩) (i:Int) b e K (((bS s i x).2.1.1,(bS s i x).2.1.2,()),(bS s i x).2.2,()) d:=λt H=>by
  refine Wl H q t j _ λf H=>?_;have:=k f;dsimp only at H ⊢;by_cases c:(bS s i x).2.2=true
  ·rw[ay c] at H this ⊢;exact this H
  ·rw[au c] at H this ⊢;exact this H
 refine⟨rfl,rfl,H.cf a (n:=2) (λ_=>rfl) ⟨?_,?_⟩⟩
 ·refine zI H λd H=>⟨H.crd a (n:=2) λ_=>rfl,trivial,trivial,⟨m.1,by show x.ph<5;omega⟩,?_,?_⟩
  ·exact vg H Bd a g S λf H=>H.al λe p H=>fin rfl H
  ·exact H.al λe f H=>vg H Bd a g S λp H=>fin rfl H
 ·exact H.al λe d H=>zI H λf H=>⟨H.crd a (n:=2) λ_=>rfl,trivial,trivial,⟨m.1,by show x.ph<5;omega⟩,vg H Bd a g S λp H=>fin rfl H⟩
theorem Te (H:MU Q X D G w0 w R s T L M) (Bd:Bn s) (hi:i<s.cs.length) (m: ∀a q,s.bx[i]? =some (a::q)->(1<=a.1/\a.1<=(s.op.length:Int))/\ -1000<=s.op.getD (a.1 - 1).toNat 0/\s.op.getD (a.1 - 1).toNat 0<=1000) {K:(Int×Int×Int×Unit)×Bool×Unit->AC->Prop}
 (kn:xX s i=none-> ∀c,MU Q X D G w0 c R s T L M->K ((0,0,0,()),false,()) c)
 (ks: ∀a s1,xX s i=some (a,s1)-> ∀c,MU Q X D G w0 c R s1 T L M->K (a,true,()) c):
 az A2 66 (.bu [.agg [.int .i64,.int .i64,.int .i64],.one .bool]) [ag (ae R.xb),aa (i:Int)] w K:=by
 obtain⟨B,rfl,H⟩:=H;obtain⟨p,r,n,J⟩:=H.bxs;have W:=H.wf;have f:=W.l;have t:=Bd.bn;have u:=Bd.op;refine Sf n W.b W.o W.l i (by omega) m (by omega) λg h c j k d e=>?_;unfold vA at d e ⊢;unfold xX at kn ks;cases hb:s.bx[i]? with
 |none=>
  rw[hb] at d e kn;exact kn rfl c ⟨{B with so:=B.so,Lo:=h,cr:=g},rfl,J (op:=s.op) (bx:=s.bx) d (by rw[j,f]) k e⟩
 |some q=>
  cases q with
  |nil=>
   rw[hb] at d e kn;exact kn rfl c ⟨{B with so:=B.so,Lo:=h,cr:=g},rfl,J (op:=s.op) (bx:=s.bx) d (by rw[j,f]) k e⟩
  |cons a q=>
   rw[hb] at d e ks;refine ks a _ rfl c ⟨{B with so:=B.so,Lo:=h,cr:=g},rfl,J (op:=s.op.set (a.1 - 1).toNat (s.op.getD (a.1 - 1).toNat 0 - 1)) (bx:=s.bx.set i q) d (by rw[j,f,Dk]) k e⟩
theorem Tf (H:MU Q X D G w0 w R s T L M) (Bd:Bn s) (j:B9 Q s.h) (S: ∀i x,s.cs[i]? =some x->Sx s i x) (n:Int) {K:BQ->AC->Prop}
 (k: ∀g,MU Q X D G w0 g R (a8 s n).1 T L M->K (((a8 s n).2.1.1,(a8 s n).2.1.2,()),(a8 s n).2.2,()) g):
 az A2 31 NY [ag (ae R.mb),aa n] w K:=by
 refine H.go λw1 H=>aP (C:=U3) (aQ:=λ_=>[]) (B5 (So _ n w1 K) (H.al λb g H=>⟨_,DR H n,?_⟩));by_cases c:0<=n/\n<(s.cs.length:Int)
 ·obtain⟨i,rfl⟩: ∃i:Nat,n=(i:Int):=⟨n.toNat,by omega⟩;rw[ay c,DA];have l:i<s.cs.length:=by omega
  obtain⟨x,f⟩: ∃x,s.cs[i]? =some x:=⟨_,DB l⟩;have t:=Bd.ls x (Dg f);have u:=Bd.sz;have e:a8 s (i:Int)=lZ s i x:=by unfold a8;rw[au (by omega),DA,f]
  rw[e] at k;unfold lZ at k;refine an rfl ⟨rfl,rfl,H.cf f (n:=2) (λ_=>rfl) (ab (λc=>?_) (λc=>?_))⟩
  ·have c3:x.ph≠3:=by simpa using c
   rw[au c3] at k;refine⟨rfl,rfl,H.f2 (Te H Bd l (S i x f).tk (λd m H=>?_) (λa s1 d m H=>?_))⟩
   ·rw[d] at k;exact H.al λo p H=>H.st 0 rfl rfl rfl λq H=>an rfl (EQ (H.sub (Bx _ _)) rfl Bd f j (S i x f) k)
   ·rw[d] at k;have r:s1.cs[i]? =some x:=by
     unfold xX at d;split at d
     ·cases d;exact f
     ·cases d
    have v:s1.sz=s.sz:=by
     unfold xX at d;split at d
     ·cases d;rfl
     ·cases d
    refine H.al λo p H=>H.st 0 rfl rfl rfl λq H=>aB rfl ⟨rfl,H.cg 0 rfl (show _=some a.2.1 from rfl) ⟨rfl,H.cg 0 rfl (show _=some a.2.2.1 from rfl) ?_⟩⟩;exact zH H r (by omega) (by omega) _ _ λy H=>MU.res (H.sub (Bx _ _)) rfl 0 0 false k
  ·have c3:x.ph=3:=by simpa using c
   rw[ay c3] at k;exact EQ H rfl Bd f j (S i x f) k
 ·rw[au c];have e:a8 s n=(s,(0,0),false):=by
   unfold a8;by_cases h:n<0
   ·rw[ay h]
   ·rw[au h,N7 (by omega)]
  rw[e] at k;exact aB rfl (H.res rfl 0 0 false k)
end
def Il (s:MS) (n:Int):Int:=if n<0 then 0 else match s.cs[n.toNat]? with
 |none=>0
 |some x=>x.ph
def lnN (s:MS) (n:Int):List LT:=if n<0 then[] else match s.cs[n.toNat]? with
 |none=>[]
 |some x=>x.ls
def Uc (s:MS) (n:Int):Int:=if 0<=n/\n<(s.cs.length:Int) then((s.bx.getD n.toNat []).length:Int) else 0
section
variable {Q:Sys} {X:HX} {D G:List Nat} {w0 w w1:AC} {B:MB} {R:MR} {s:MS} {T L:List (Nat×List AI)} {M:List (Nat×B6)} {i:Nat} {x:bY} {g:Option Bool}
theorem Gw {n:Int} (c: ¬ (0<=n/\n<(s.cs.length:Int))):n<0\/s.cs[n.toNat]? =none:=by
 by_cases h:n<0
 ·exact .inl h
 ·exact .inr (N7 (by omega))
theorem pV (H:MU Q X D G w0 w R s T L M) (n vm k:Int) {a b c:Int} {K:Int->AC->Prop}
 (kk: ∀g,MU Q X D G w0 g R (dU s n vm (k,a,b,c,())) T L M->K (s7 s n) g):
 az A2 29 (.el (.one (.int .i64))) [ag (ae R.mb),aa n,aa vm,.agg ⟨fR k a b c⟩] w K:=by
 refine H.go λw1 H=>ai (C:=U2) (aQ:=λ_=>[]) (B5 (VZ _ n vm k a b c w1 K) (H.al λl g H=>⟨_,DR H n,λ_=>rfl,λ_=>rfl,H.f0 (an rfl ?_)⟩));by_cases hc:0<=n/\n<(s.cs.length:Int)
 ·obtain⟨i,rfl⟩: ∃i:Nat,n=(i:Int):=⟨n.toNat,by omega⟩;rw[ay hc,DA];obtain⟨x,d⟩: ∃x,s.cs[i]? =some x:=⟨_,DB (by omega)⟩;unfold dU s7 at kk;rw[au (by omega),au (by omega),DA,d] at kk;dsimp only at kk;refine an rfl ⟨rfl,rfl,H.cf d (n:=2) (λ_=>rfl) (ab (λe=>?_) (λe=>?_))⟩
  ·have e:x.ph≠0:=by simpa using e
   rw[au e,au e] at kk;exact H.en λf H=>kk f (H.sub (Bx _ _))
  ·have c0:x.ph=0:=by simpa using e
   rw[ay c0,ay c0] at kk;refine H.ld 0 rfl (show _=some (k,a,b,c,()) from rfl) ⟨rfl,rfl,H.cs d {x with ph:=1} 2 rfl rfl (λ_=>rfl) (λa h=>⟨h.ls,h.fs,λc=>(by cases c)⟩) λf H=>⟨?_,rfl,rfl,?_⟩⟩
   ·have:=H.rd 0 (n:=0) (el:= .agg sCl) rfl (show _=some (k,a,b,c,()) from rfl);rw[aV] at this;exact this
   refine H.cs (eY d) {x with ph:=1,vm:=vm} 3 rfl rfl (λ_=>rfl) (λa h=>⟨h.ls,h.fs,λc=>(by cases c)⟩) λm H=>⟨?_,rfl,rfl,?_⟩
   ·have:=H.rd 0 (n:=0) (el:= .agg sCl) rfl (show _=some (k,a,b,c,()) from rfl);rw[aV] at this;exact this
   refine H.cs (eY (eY d)) {x with ph:=1,vm:=vm,c:=(k,a,b,c,())} 4 rfl rfl (λ_=>rfl) (λa h=>⟨h.ls,h.fs,λc=>(by cases c)⟩) λo H=>H.en λj H=>?_;simp only[kW] at H;exact kk j (H.sub (Bx _ _))
 ·rw[au hc];have e:dU s n vm (k,a,b,c,())=s/\s7 s n=2:=by
   unfold dU s7;rcases Gw hc with h|h
   ·rw[ay h,ay h];exact⟨rfl,rfl⟩
   ·rw[h];constructor<;>split<;>rfl
  rw[e.1,e.2] at kk;exact aB rfl (H.en λf H=>kk f (H.sub (Bx _ _)))
theorem ER (H:MU Q X D G w0 w R s T L M) (n:Int):af A2 49 [ag (ae R.mb),aa n] w (aa (Il s n)):=by
 refine af.of (s:= .el (.one (.int .i64))) λw1 h1=>ai (C:=U2) (aQ:=λ_=>[]) (B5 (MO _ n w1 _) ?_);have H:=H.ext h1;refine⟨_,DR H n,?_⟩;unfold Il;by_cases hc:0<=n/\n<(s.cs.length:Int)
 ·rw[ay hc,au (by omega)];obtain⟨x,b⟩: ∃x,s.cs[n.toNat]? =some x:=⟨_,DB (by omega)⟩;rw[b];exact an rfl ⟨rfl,rfl,H.cf b (n:=2) (λ_=>rfl) λc a=>⟨rfl,a⟩⟩
 ·rw[au hc];refine aB rfl λc a=>⟨?_,a⟩;rcases Gw hc with h|h
  ·rw[ay h]
  ·rw[h];split<;>rfl
theorem Wn (H:MU Q X D G w0 w R s T L M) (o:s.bx.length=s.cs.length) (n:Int):af A2 50 [ag (ae R.mb),aa n] w (aa (Uc s n)):=by
 refine af.of (s:= .el (.one (.int .i64))) λw1 h1=>ai (C:=U2) (aQ:=λ_=>[]) (B5 (Sv _ n w1 _) ?_);have H:=H.ext h1;refine⟨_,DR H n,?_⟩;unfold Uc;by_cases hc:0<=n/\n<(s.cs.length:Int)
 ·rw[ay hc,ay hc];obtain⟨i,rfl⟩: ∃i:Nat,n=(i:Int):=⟨n.toNat,by omega⟩;rw[DA];obtain⟨q,d⟩: ∃q,s.bx[i]? =some q:=⟨_,DB (by omega)⟩;rw[FQ,d];refine an rfl ⟨rfl,rfl,H.f2 ⟨(q.length:Int),?_,λf a=>⟨rfl,a⟩⟩⟩;obtain⟨B,rfl,e⟩:=H;obtain⟨g,p,h,J⟩:=e.bxs;have W:=e.wf;have r:=W.l;obtain⟨c,j⟩: ∃c,B.cr[i]? =some c:=⟨_,DB (by omega)⟩;have k:=h.perm (L':=B.Lb++((B.xb,lK B.sb B.so)::(B.Lo++(T++g)))) (bG λy=>by simp only[B1,B2];omega);exact Se k B7 W.b (λx m=>BY _ m) j d
 ·rw[au hc,au hc];exact aB rfl λf a=>⟨rfl,a⟩
theorem zc (H:MU Q X D G w0 w R s T L M):af A2 17 [ag (ae R.mb)] w (ag (ae X.hb)):=by
 refine af.of (s:= .el (.one .ptr)) λw1 h1=>ai (C:=U2) (aQ:=λ_=>[]) (B5 (MV _ w1 _) ?_);exact an rfl ⟨rfl,rfl,(H.ext h1).f0 λb a=>⟨rfl,a⟩⟩
theorem BD (H:MU Q X D G w0 w R s T L M) (p:s.ms.length<=1000000000) {K:Option Ag×Nat×Nat->AC->Prop}
 (k: ∀r c b,dm eMk r (s.ms.map TV) c->MU Q X D G w0 b R s (c++T) L M->K r b):
 az A2 41 (.el (.one .slice)) [ag (ae R.mb)] w K:=by
 refine H.go λw1 H=>ai (C:=U2) (aQ:=λ_=>[]) (B5 (MP _ w1 K) (an rfl ⟨rfl,rfl,?_⟩));obtain⟨B,rfl,a⟩:=H;refine a.ri (show _=some (B.sm.1,B.sm.2.1,B.sm.2.2) from rfl) λb f=>?_;have a:=a.ext f;obtain⟨t,u,d,g, _, _,J⟩:=a.tmp;have W:=a.wf;have h:=W.m.oB d.base (λx i=>BJ _ (g _ (B3 _ (B3 _ (B3 _ (BJ _ (BY _ i)))))));refine Fu (Ls:=[]) d (dm.nil eMk) rfl (q:=B.sm) W.m.1 h rfl rfl (by rw[Dc,M4];omega) λs' e v j l n o=>k _ e n j ⟨B,rfl,?_⟩;exact J (T':=e++T) (by rw[N6];exact l.ext o)
theorem BE (H:MU Q X D G w0 w R s T L M) (g:0<s.sz/\s.sz<=64) (i: ∀y∈s.cs,(y.ls.length:Int)<=s.sz) (n:Int) {K:Option Ag×Nat×Nat->AC->Prop}
 (k: ∀r b c,dm j9 r (lnN s n) b->MU Q X D G w0 c R s (b++T) L M->K r c):
 az A2 51 (.el (.one .slice)) [ag (ae R.mb),aa n] w K:=by
 refine H.go λw1 H=>ai (C:=U2) (aQ:=λ_=>[]) (B5 (MQ _ n w1 K) ⟨_,DR H n,?_⟩);unfold lnN at k;by_cases hc:0<=n/\n<(s.cs.length:Int)
 ·rw[au (by omega)] at k;rw[ay hc];obtain⟨x,d⟩: ∃x,s.cs[n.toNat]? =some x:=⟨_,DB (by omega)⟩;rw[d] at k;have v:=i x (Dg d);refine an rfl ⟨rfl,rfl,H.c1 d ?_⟩;obtain⟨a,j,l,z,hb,W,m,J⟩:=H.C8 d;have f:cv D G w0 w1 ((R.tb n.toNat,dg a.st s.sz)::(a.Lt++((a.cb,jL a n.toNat x)::(a.Lf++(a.Lw++(T++j)))))) l:=m.perm (bG λy=>by rw[<-hb];simp only[sP,B1,B2];omega);refine KJ f.base.again W.ls (by omega) g.1 λr b c o p q t=>k r b q o ?_;have:=J (T':=b++T) rfl rfl W (((f.join p).perm (bG λy=>by rw[<-hb];simp only[sP,B1,B2];omega)).ext t);rw[Nh d] at this;exact this
 ·rw[au hc];have e:(if n<0 then[] else match s.cs[n.toNat]? with|none=>[]|some x=>x.ls)=([]:List LT):=by
   rcases Gw hc with h|h
   ·rw[ay h]
   ·rw[h];split<;>rfl
  rw[e] at k;exact aB rfl λc u=>k (none,0,0) [] c (dm.nil j9) (H.ext u)
theorem wz (H:MU Q X D G w0 w R s T L M) (l:s.ep.ws.length<=1000000) {K:Option Ag×Nat×Nat->AC->Prop}
 (k: ∀r a c,dm eI r (mH (s.ep.ws.map (·.1))) a->MU Q X D G w0 c R s (a++T) L M->K r c):
 az A2 32 (.el (.one .slice)) [ag (ae R.mb)] w K:=by
 refine H.go λw1 H=>ai (C:=U2) (aQ:=λ_=>[]) (B5 (Fc _ w1 K) (an rfl ⟨rfl,rfl,H.f1 ?_⟩));obtain⟨B,rfl,b⟩:=H;obtain⟨m,n,d,J⟩:=b.eps;refine Sa d b.wf.w (by omega) B7 λr o a c e f g h i j=>k r a i (by rw[<-Xt e f];exact g) ⟨_,rfl,J (T':=a++T) (ep:=s.ep) b.wf.p b.wf.w ((h.perm (bG λy=>by simp only[B1,B2];omega)).ext j)⟩
end
section
variable {Q:Sys} {X:HX} {D G:List Nat} {w0 w w1:AC} {B:MB} {R:MR} {s:MS} {T L:List (Nat×List AI)} {M:List (Nat×B6)} {i:Nat} {x:bY} {g:Option Bool}
abbrev s9 (B:MB) (n:Nat) (sc:Option Ag×Nat×Nat) (Lc:List (Nat×List AI)) (a:CA):MB:={B with sc:=sc,Lc:=Lc,A:=λk=>if k=n then a else B.A k}
theorem ir.cps (H:ir Q X D G w0 w B s T L M): ∃j n,cv D G w0 w ((B.mb,rG X B)::(B.Lc++(T++j))) n/\
 ∀{T' sc Lc a x w'},dm eP sc (yp B s.cs.length++[some ⟨a.cb,0,none⟩]) Lc->Tu a x->cv D G w0 w' ((B.mb,rG X (s9 B s.cs.length sc Lc a))::(Lc++(sP a s.cs.length x s.sz++(T'++j)))) n->ir Q X D G w0 w' (s9 B s.cs.length sc Lc a) {s with cs:=s.cs++[x]} T' L M:=by
 obtain⟨A,ca,la,h1,r,d,t⟩:=H;refine⟨(B.eb,oo s.ep.now B.sp B.wb)::(B.xb,lK B.sb B.so)::(B.Lm++(B.Lp++(B.Lb++(B.Lo++(gB B s (Aq s.cs.length)++(C9 Q X A ca la s.h++L)))))), _,t.perm (bG λa=>by simp only[B1,B2];omega),λ{T' sc Lc a x w'} u v K=>?_⟩;have g: ∀k,k<s.cs.length->(s9 B s.cs.length sc Lc a).A k=B.A k:=λk c=>au (by omega);have i:(s9 B s.cs.length sc Lc a).A s.cs.length=a:=ay rfl;have q:(s.cs++[x]).length=s.cs.length+1:=by rw[Gj];rfl
 have z:yp (s9 B s.cs.length sc Lc a) (s.cs++[x]).length=yp B s.cs.length++[some ⟨a.cb,0,none⟩]:=by
  show(Aq (s.cs++[x]).length).map _= _;rw[q,If,Gi];congr 1
  ·exact Ki λk c=>by rw[g k (DQ.1 c)]
  ·show[some (⟨((s9 B s.cs.length sc Lc a).A s.cs.length).cb,0,none⟩:Ag)]= _;rw[i]
 have C:gB (s9 B s.cs.length sc Lc a) {s with cs:=s.cs++[x]} (Aq (s.cs++[x]).length)=gB B s (Aq s.cs.length)++sP a s.cs.length x s.sz:=by
  unfold gB;rw[q,If,List.flatMap_append];congr 1
  ·refine gm λk c=>?_;have c:=DQ.1 c;show(match (s.cs++[x])[k]? with|some x=> _|none=> _)= _;rw[Fx c,g k c]<;>cases s.cs[k]? <;>rfl
  ·show(match (s.cs++[x])[s.cs.length]? with|some x=>sP ((s9 B s.cs.length sc Lc a).A s.cs.length) s.cs.length x s.sz|none=> _)++[]= _;rw[Ih (Dr _),J3,i];exact Do _
 refine⟨A,ca,la,h1,r,⟨by rw[z];exact u,d.m,d.p,d.b,d.o,d.l,d.k,d.w,λ{k y} f=>?_⟩,K.perm ?_⟩
 ·have f:(s.cs++[x])[k]? =some y:=f;by_cases c:k<s.cs.length
  ·rw[Fx c] at f;rw[g k c];exact d.a f
  ·have E:=(B4.1 f).1;have e:k=s.cs.length:=by omega
   subst e;rw[Ih (Dr _),J3] at f;cases f;rw[i];exact v
 ·show(T'++(((B.mb,rG X (s9 B s.cs.length sc Lc a))::(B.eb,oo s.ep.now B.sp B.wb)::(B.xb,lK B.sb B.so)::(Lc++(B.Lm++(B.Lp++(B.Lb++B.Lo)))))++(gB (s9 B s.cs.length sc Lc a) {s with cs:=s.cs++[x]} (Aq (s.cs++[x]).length)++(C9 Q X A ca la s.h++L)))).Perm _;rw[C];exact bG λa=>by simp only[B1,B2];omega
abbrev mZ (f c j:Nat) (l:Int):MS:={m0 f c l with cs:=DH j (cI [])}
theorem xr (H:aK D G w0 w L) (f c l:Int) (hf:4<=f/\f<=4096) (hl:1<=l/\l<=64) {K:Option Ag×Int×Unit->AC->Prop} (kb:c<1\/c>8-> ∀w1,aK D G w0 w1 L->K (none,1,()) w1)
 (V:1<=c->c<=8-> ∀Q X R w1,Q.c=16*f.toNat->MU Q X D G w0 w1 R (m0 f.toNat c.toNat l) [] L []->K (some ⟨R.mb,0,none⟩,0,()) w1):
 az A2 52 (.bu [.one .ptr,.one (.int .i64)]) [aa f,aa c,aa l] w K:=by
 refine az.go H λw1 H=>ai (C:=U2) (aQ:=wq) (B5 (V2 f c l w1 K) ?_);refine Js H f (λh=>by omega) λ_ _ Q X w2 Y H=>an rfl ?_;obtain⟨A,W,S⟩:=H;have Z:qJ (h0 f.toNat).s:=⟨S.pos,S.Dv,S.le,S.XV⟩;obtain⟨_, _, _, _,ca,la,H⟩:=S;refine Cu H c (λhc w3 H=>aB rfl λI M=>kb hc I ?_) λc1 c8 eb wb sp Lp w3 WC H=>an rfl λI M=>?_
 ·refine(H.base.sub ?_).ext M;refine FP _ (FP _ (FP _ (FP _ (FP _ (FP _ (FP _ (FP _ (Fm _ _))))))))
 obtain⟨n,rfl⟩: ∃n:Nat,c=(n:Int):=⟨c.toNat,by omega⟩;obtain⟨m,rfl⟩: ∃m:Nat,f=(m:Int):=⟨f.toNat,by omega⟩;simp only[ae,DA] at*
 have H:=(H.ext M).alloc (o:= .map ⟨[]⟩ 0) trivial;obtain⟨q,hkb⟩: ∃b,b=I.heap.size:=⟨_,rfl⟩;rw[<-hkb] at H ⊢;refine alM H λmb w5 H=>VY H (n:Int) (λh=>by omega) λ_ _ xb cr sb Lb w6 O hsb H=>⟨trivial,trivial,?_⟩;rw[DA] at O H;refine WR (n:=2) (H.perm (L':=(mb,[ag (ae X.hb),ag (ae eb),ag none,.slice none 0 0,.map (some q),.slice none 0 0])::((xb,lK sb (none,0,0))::(Lb++((eb,oo 0 sp wb)::(Lp++Q.L ca la (h0 m).s (dL Q X A (h0 m) (a6 Q A (h0 m).g (Aq 17)++L))))))) (bG λy=>by simp only[ae,B1,B2];omega)) 0 rfl rfl rfl λw7 H=>?_;have H0:ir Q X D G w0 w7 {mb:=mb,eb:=eb,xb:=xb,kb:=q,wb:=wb,sc:=(none,0,0),sm:=(none,0,0),sp:=sp,sb:=sb,so:=(none,0,0),Lc:=[],Lm:=[],Lp:=Lp,Lb:=Lb,Lo:=[],cr:=cr,ke:=[],we:=[],kk:=0,wk:=0,A:=λ_=>⟨0,0,(none,0,0),(none,0,0),none,[],[],[]⟩} (mZ m n 0 l) [] L []:=by
  refine⟨A,ca,la,W,Z,⟨dm.nil eP,dm.nil eMk,WC,hsb,dm.nil eI,by rw[O];exact Dq.symm,iu.nil,iu.nil,λ{i x} t=>?_⟩,(H.perm (bG λy=>?_)).iP (bG λy=>?_)⟩
  ·have t:(DH 0 (cI []))[i]? =some x:=t;rw[List.replicate_zero] at t;cases t
  ·show CW y ([]++((mb,[ag (ae X.hb),ag (ae eb),ag (ae xb),.slice none 0 0,.map (some q),.slice none 0 0])::(eb,oo 0 sp wb)::(xb,lK sb (none,0,0))::([]++([]++(Lp++(Lb++[]))))++([]++(Q.L ca la (h0 m).s (dL Q X A (h0 m) (a6 Q A (h0 m).g (Aq 17)))++L))))= _;simp only[ae,Sys.L,List.set_cons_succ,GF,B1,B2,Fo];omega
  ·show CW y ((q,Obj.map ⟨[]⟩ 0)::(wb,Obj.map ⟨[]⟩ 0)::qn cr (DH n [])++(cK A (h0 m).g (Aq 17)++[]))= _;simp only[ae,B1,B2,Fo];omega
 generalize u:({mb:=mb,eb:=eb,xb:=xb,kb:=q,wb:=wb,sc:=(none,0,0),sm:=(none,0,0),sp:=sp,sb:=sb,so:=(none,0,0),Lc:=[],Lm:=[],Lp:=Lp,Lb:=Lb,Lo:=[],cr:=cr,ke:=[],we:=[],kk:=0,wk:=0,A:=λ_=>⟨0,0,(none,0,0),(none,0,0),none,[],[],[]⟩}:MB)=B0 at H0;have u:B0.mb=mb:=by rw[<-u]
 refine⟨λk st N=> ∃(j:Nat) (B:MB),j<=n/\k=n - j/\st.1=(j:Int)/\B.mb=mb/\ir Q X D G w0 N B (mZ m n j l) [] L [],⟨n,λN h8=>⟨0,B0,FS _,rfl,rfl,u,H0.ext h8⟩⟩,?_⟩;clear H H0 u;rintro k ⟨i, _⟩ N ⟨j,B,hj,hk',hi,rfl,HH⟩;have hi:i=(j:Int):=hi;have H:=HH;subst hi hk';dsimp only;refine ab (λc=>?_) (λc=>?_)
 ·have hj:j<n:=by have:=of_decide_eq_true c;omega
  obtain⟨r,P,v, _, _, _,J⟩:=H.tmp;refine λz E=>UJ (v.ext E).base.again l (λh=>by omega) (λ_ _ tb j_ F=>an rfl ⟨trivial,trivial,?_⟩) z (Ext.refl z);have H:ir Q X D G w0 j_ B (mZ m n j l) [(tb,dg (none,0,0) l)] L []:=J (T':=[(tb,dg (none,0,0) l)]) ((v.ext E).join F);refine H.ri (show _=some (B.sc.1,B.sc.2.1,B.sc.2.2) from rfl) (H.al λa m9 H=>H.al λp CY H Nz h13=>?_);have H:=H.ext h13;obtain⟨r,P,v,J⟩:=H.cps;have hlen:(mZ m n j l).cs.length=j:=Dq;have T:=H.wf.c;rw[hlen] at J T;have F:=v.perm (L':=B.Lc++((B.mb,rG X B)::([(p,[ag (ae a)]),(a,[aa (j:Int),ag (ae tb),aa 0,aa 0,aa 0,ax 0,ax 0,ax 0,ag none,aa 0,ax 0,aa 0,aa 0,.slice none 0 0]),(tb,dg (none,0,0) l)]++r))) Gd;have hb:bL Nz p (cellsOf eP (ae a)):=F.base.db _ (BJ _ (B3 _ B7));refine Fu F T rfl (ys:=[some ⟨a,0,none⟩]) rfl (rK hb) rfl rfl (by rw[Dc,F2,H5];omega) λs' d Ie fe K3=>⟨trivial,trivial,WR (n:=3) (K3.perm Gd.symm) 0 rfl rfl rfl λWE K4 WG WT=>⟨n - (j+1),by omega,j+1,s9 B j s' d ⟨a,tb,(none,0,0),(none,0,0),none,[],[],[]⟩,by omega,rfl,?_,rfl,?_⟩⟩
  ·rw[aw (by omega) (by omega)];omega
  ·have K5:cv D G w0 WE ((B.mb,rG X (s9 B j s' d ⟨a,tb,(none,0,0),(none,0,0),none,[],[],[]⟩))::(d++(sP ⟨a,tb,(none,0,0),(none,0,0),none,[],[],[]⟩ j (cI []) (mZ m n j l).sz++([(p,[ag (ae a)])]++r)))) P:=K4.perm (bG λy=>by
    show CW y ((B.mb,rG X (s9 B j s' d ⟨a,tb,(none,0,0),(none,0,0),none,[],[],[]⟩))::(d++(((a,jL ⟨a,tb,(none,0,0),(none,0,0),none,[],[],[]⟩ j (cI []))::(tb,dg (none,0,0) l)::([]++([]++[])))++([(p,[ag (ae a)])]++r))))=CW y ((B.mb,rG X (s9 B j s' d ⟨a,tb,(none,0,0),(none,0,0),none,[],[],[]⟩))::(d++([(p,[ag (ae a)]),(a,jL ⟨a,tb,(none,0,0),(none,0,0),none,[],[],[]⟩ j (cI [])),(tb,dg (none,0,0) l)]++r)));simp only[ae,B1,B2,Fo];omega)
   have U:=(J (T':=[(p,[ag (ae a)])]) (x:=cI []) fe ⟨dm.nil j9,dm.nil eI,λc=>(by cases c)⟩ K5).ext WT;have e:({mZ m n j l with cs:=(mZ m n j l).cs++[cI []]}:MS)=mZ m n (j+1) l:=by
    show MS.mk _ _ _ _ _ _ _ _=MS.mk _ _ _ _ _ _ _ _;rw[List.replicate_succ']
   rw[e] at U;exact U.sub (NG _)
 ·have:j=n:=by have:=of_decide_eq_false c;omega
  subst this;exact λz E=>V c1 c8 Q X B.rt z Y ⟨B,rfl,H.ext E⟩
end
theorem Ff {ws:List Int} {p t:Int} {x:Int×Int×FT} (e:0<=x.2.1/\x.2.1<=3) (h1:(bF ws p t x).2.1= -1) (a:(bF ws p t x).2.2.2.2.2.1=0):1<=(bF ws p t x).2.2.2.1/\(bF ws p t x).2.2.2.1<=7:=by
 have b: ∀n:Nat,FB n<=7:=λn=>by unfold FB;split<;>omega
 have d: ∀{lv wt fr:Int} {ep:Bool} {er:Int} {el:Bool} {ef:Int},(xQ lv wt fr ep er el ef).2.2.2.1=0->er<=7->1<=(xQ lv wt fr ep er el ef).2.1/\(xQ lv wt fr ep er el ef).2.1<=7:=λ{lv wt fr ep er el ef} h f=>by
  unfold xQ at h ⊢;split
  grind
  ·rename_i c;rw[au c] at h;split
   ·rename_i c2;unfold gE at c2
    grind
   grind
 unfold bF at h1 a ⊢;rw[au (by omega)] at h1 a ⊢;split
 ·rename_i c;rw[ay c] at a;exact absurd a (show ¬ (11:Int)=0 by decide)
 ·rename_i c;rw[au c] at h1 a;revert h1 a;generalize (B (dE ws (dX x.1 p x.2.1))).toNat=N;intro h1 a;unfold tookS at h1 a ⊢;split
  ·rename_i c;rw[ay c] at a;exact absurd a (show ¬ (4:Int)=0 by decide)
  ·rename_i c;rw[au c] at h1 a;split
   ·rename_i c;rw[ay c] at h1;rw[Dj,decide_eq_true_eq] at c;have h1:aX .i64 x.2.1 1= -1:=h1;rw[bC (by omega) (by omega)] at h1;omega
   ·rename_i c;rw[au c] at h1 a;split
    ·rename_i c;rw[ay c] at a;exact d a (b N)
    ·rename_i c;rw[au c] at a;split
     ·rename_i c;rw[ay c] at a;exact d a (b N)
     ·rename_i c;rw[au c] at a;exact absurd a (show ¬ (11:Int)=0 by decide)
structure MG (Q:Sys) (n k:Nat) (s:MS):Prop where
 Tv:xi n s
 J4:Dh Q s.h.s
 now:s.ep.now<=(k:Int)
 ms:s.ms.length<=5000*k
 op:s.op.length<=k
 vm: ∀y∈s.cs,y.vm<9223372036854775808
section
variable {Q:Sys} {n k:Nat} {s:MS} {gh:Gh} {ta:Int->Bool}
theorem PL (M:MI gh ta n s):s.ep.ws.length<=4096:=by
 have:=tK _ _ M.wn λf a=>by
  obtain⟨e,b,rfl⟩:=BP.1 a;obtain⟨m,d,h1,c, _⟩:=M.k5 _ (M.wk e b).1;rw[h1];exact BP.2 ⟨m,DQ.2 (B4.1 c).1,rfl⟩
 rw[Dc,Dc,F2] at this;have:=M.hi.inv.le;omega
theorem MG.bn (H:MG Q n k s) (d:k<=100000):Bn s:=by
 obtain⟨gh,ta,M⟩:=H.Tv;have f:=M.nn;have h1:=M.lc;have g:=M.lb;have h:=M.lp;have i:=M.sz;have l:=H.now;have m:=H.ms;have o:=H.op;have p:=PL M;exact⟨by omega,by omega,by omega,⟨M.nw,by omega⟩,by omega,λe a=>(M.wk e a).2,by omega,by omega,λq b=>by
  obtain⟨j,c⟩:=GJ b;have:=M.box c;omega,by omega,M.tl,H.vm,M.ar⟩
theorem MG.rdy (H:MG Q n k s):B9 Q s.h:=by
 obtain⟨gh,ta,M⟩:=H.Tv;exact M.hi.rdy H.J4
theorem MG.sx (H:MG Q n k s) (X:k<=100000) {i:Nat} {x:bY} (u:s.cs[i]? =some x):Sx s i x:=by
 obtain⟨gh,ta,M⟩:=H.Tv;have g:=Dg u;have G:=M.ar x g;have Y:=H.op;have Z:=M.hi.inv.le;refine⟨M.ph x g,λb=>?_,λb I J=>?_,λA=>?_,λo=>?_,λB=>?_,λa q v=>?_⟩
 ·obtain⟨l,w1,K, _⟩:=M.wl u b;rw[w1];omega
 ·obtain⟨C,D,sw⟩:=M.ac x g b;obtain⟨l,w1,K,N,r⟩:=M.wl u b;have w:=xK ⟨G.1.1,D⟩;have L:x.wk=(x.wk.1,(l:Int),(0,0,0,0,())):=FE rfl (FE w1 N);obtain⟨O,P,hr,R,wJ,sN⟩:=xJ M C;have uG:=Ff (x:=x.wk) (by rw[w1];omega) I J;have v:bA s.h.s O.root false (x.c.2.1 / 16)=((bF s.h.s.1 (x.c.2.1 / 16) (a9 x.c.1) x.wk).2.2.1,(bF s.h.s.1 (x.c.2.1 / 16) (a9 x.c.1) x.wk).2.2.2.1,0,()):=by
   rcases r with r|r
   ·rcases M.hi.inv.qj M.hi.nl (t:=a9 x.c.1) R w r with ⟨m, _,E,z,k3,k4⟩|⟨E,z⟩
    ·rw[<-L] at E;rw[I] at E;omega
    ·rw[<-L] at z;exact z J
   ·obtain⟨_,z⟩:=M.hi.inv.ql (t:=a9 x.c.1) w K r.1
    grind
  have S:jJ s.h x.vm.toNat (x.c.2.1 / 16)=((bF s.h.s.1 (x.c.2.1 / 16) (a9 x.c.1) x.wk).2.2.1,(bF s.h.s.1 (x.c.2.1 / 16) (a9 x.c.1) x.wk).2.2.2.1,0,()):=by rw[bP P];exact v
  have T:m_ s.h x.vm.toNat (x.c.2.1 / 16)=some (bF s.h.s.1 (x.c.2.1 / 16) (a9 x.c.1) x.wk).2.2.1:=by rw[rP,S];rfl
  obtain⟨m,d,rb,U,d4, _⟩:=M.hi.TT T;have:=(B4.1 U).1;unfold lnR
  grind
 ·obtain⟨⟨m,d,h1,b, _⟩, _⟩:=M.rc u A;have:=(B4.1 b).1;omega
 ·obtain⟨h1,b, _⟩:=M.wt x g o;refine⟨by omega,?_,λf F=>?_⟩
  ·have:=tK x.fs _ (M.fn x g o) λf F=>by
    obtain⟨m,d,h1,b, _⟩:=M.k5 _ (M.fk x g o f F).1;rw[h1];exact BP.2 ⟨m,DQ.2 (B4.1 b).1,rfl⟩
   grind
  ·obtain⟨m,d,h1,b, _⟩:=M.k5 _ (M.fk x g o f F).1;omega
 ·unfold mj at B;simp only[Dj,decide_eq_true_eq] at B;obtain⟨h0,C, _,D⟩:=B;have w:=xK ⟨G.1.1,D⟩;have hb:=(Ng M.hi C w).1;unfold uM at hb ⊢;simp only[NK,decide_eq_false_iff_not] at hb ⊢;refine⟨⟨hb.1.1,by omega⟩,?_⟩;unfold a9;split
  ·decide
  ·split<;>decide
 ·have h1:=M.fI v B7;obtain⟨j,y, _,A,o,V⟩:=(M.aq v).2 a B7;have h6:=(M.wt y (Dg A) o).1;have e:a.1=y.ak:=by rw[V]
  refine⟨⟨by omega,h1⟩,?_⟩;have W:=M.oc (a.1 - 1).toNat (by omega);rw[W];have h8:=List.countP_le_length (p:=λq=>jv q (((a.1 - 1).toNat:Int)+1)) (l:=s.bx);have h9:=M.lb;have C4:=M.nn;omega
structure Cn (s s':MS):Prop where
 now:s'.ep.now<=s.ep.now+1
 ms:s'.ms.length<=s.ms.length+5000
 op:s'.op.length<=s.op.length+1
 wd:s'.h.s.1.length=s.h.s.1.length
 vm: ∀y∈s'.cs,y.vm=0\/ ∃x∈s.cs,x.vm=y.vm
theorem Cn.same (s:MS):Cn s s:=⟨by omega,by omega,by omega,rfl,by grind⟩
theorem Cn.set {s':MS} (h:Cn s s') {i:Nat} {x:bY} (y:bY) (b:y.vm=0\/ ∃x∈s.cs,x.vm=y.vm):Cn s (cB s' i y):=by
 refine⟨h.now,h.ms,h.op,h.wd,λz a=>?_⟩;rcases ig a with rfl|a
 ·grind
 ·exact h.vm z a
theorem uY: ∀(l:List Int) (s:MS),(l.foldl gQ s).h.s.1=s.h.s.1/\(l.foldl gQ s).op=s.op/\(l.foldl gQ s).ep=s.ep
 |[],s=>⟨rfl,rfl,rfl⟩
 |f::l,s=>by
  rw[G1,(uY l _).1,(uY l _).2.1,(uY l _).2.2];refine⟨?_,rfl,rfl⟩;show(fb _ f).1= _;unfold fb;grind
theorem Cn.free (a:s.ep.ws.length<=4096):Cn s (dA s).1:=by
 have b:(oz (fi s.ep)).length<=4096:=by
  unfold oz;rw[jD];rw[uX];grind
 unfold dA;refine⟨?_,?_,?_,?_,?_⟩
 ·rw[(uY _ _).2.2];exact(PK _).2
 ·rw[CJ];grind
 ·rw[(uY _ _).2.1];grind
 ·rw[(uY _ _).1]
 ·rw[CL];grind
theorem Cn.post {s':MS} (h:Cn s s') (b:s'.op=s.op) (bx:List (List AK)) (i:Nat) (t p:Int) (a:List (List AK)):Cn s {s' with bx:=a,op:=(dB bx s.op i t p).2.2}:=by
 refine⟨h.now,h.ms,?_,h.wd,h.vm⟩;unfold dB
 grind
theorem Cn.call {i:Nat} {x:bY} (b:x∈s.cs):Cn s (iE s i x).1:=by
 have h1:Cn s {s with h:=kf _ x.vm x.c.1 x.c.2.1 x.c.2.2.1 x.c.2.2.2.1,kn:=s.kn++eK s (kf s.h x.vm x.c.1 x.c.2.1 x.c.2.2.1 x.c.2.2.2.1),ms:=s.ms++[(1,x.vm,0,x.c,wL s.h x.vm x.c.1 x.c.2.1 x.c.2.2.1 x.c.2.2.2.1,qD s.h x.vm x.c.1 x.c.2.1 x.c.2.2.1 x.c.2.2.2.1)]}:=
  ⟨by grind,by simp,by simp,Cm ..,by grind⟩
 have a: ∀y:bY,y.vm=x.vm->y.vm=0\/ ∃x∈s.cs,x.vm=y.vm:=λy e=> .inr (by grind);unfold iE;dsimp;split
 ·split
  ·exact h1.set (x:=x) _ (a _ rfl)
  ·exact(h1.post rfl _ _ _ _ _).set (x:=x) _ (a _ rfl)
 ·exact h1.set (x:=x) _ (a _ rfl)
theorem Cn.phase (d:s.ep.ws.length<=4096) {i:Nat} {x:bY} (f:x∈s.cs):Cn s (bS s i x).1:=by
 have b: ∀y:bY,y.vm=x.vm->y.vm=0\/ ∃x∈s.cs,x.vm=y.vm:=λy e=> .inr ⟨x,f,e.symm⟩;have c: ∀e:vq,e.now=s.ep.now->Cn s {s with ep:=e}:=λe h=>⟨by show e.now<= _;omega,by show s.ms.length<= _;omega,by show s.op.length<= _;omega,rfl,λy a=> .inr ⟨y,a,rfl⟩⟩;have g:(Aj s.ep i).now=s.ep.now:=by unfold Aj;split<;>rfl
 unfold bS;split
 ·exact Cn.free d
 split
 ·unfold dv;split
  ·dsimp only;split<;>exact(c _ g).set (x:=x) _ (b _ rfl)
  split
  ·exact Cn.same s
  split
  ·exact Cn.free d
  ·exact Cn.call f
 split
 ·unfold lu;dsimp only;split
  ·exact(Cn.same s).set (x:=x) _ (b _ rfl)
  split
  ·exact(c (uQ s.ep i) rfl).set (x:=x) _ (b _ rfl)
  ·exact(Cn.same s).set (x:=x) _ (b _ rfl)
 split
 ·unfold fY;dsimp only;split
  ·exact⟨by show s.ep.now<= _;omega,by simp,by show s.op.length<= _;omega,cA ..,λy a=> .inr ⟨y,a,rfl⟩⟩
  ·exact⟨by show s.ep.now<= _;omega,by grind,by show s.op.length<= _;omega,rfl,λy a=> .inr ⟨y,a,rfl⟩⟩
 ·unfold iF;split
  ·exact c _ (zb _ _).1
  ·exact Cn.same s
theorem Cn.step (g:s.ep.ws.length<=4096) (c:Int):Cn s (a8 s c).1:=by
 have h: ∀{i:Nat} {x:bY},x∈s.cs->Cn s (iO (bS s i x) i x).1:=λ{i x} d=>by
  unfold iO;split
  ·exact(Cn.phase g d).set (x:=x) _ (.inl rfl)
  ·exact Cn.phase g d
 unfold a8;split
 ·exact Cn.same s
 split
 ·exact Cn.same s
 ·rename_i x k;have d:=Dg k;unfold lZ;split
  ·exact h d
  ·split
   ·rename_i a s1 f;unfold xX at f;split at f
    ·cases f;have l: ∀y:bY,y.vm=x.vm->y.vm=0\/ ∃x∈s.cs,x.vm=y.vm:=λy e=> .inr ⟨x,d,e.symm⟩;have h0: ∀(b:List (List AK)) (j:Nat) (v:Int),Cn s {s with bx:=b,op:=s.op.set j v}:=λb j v=>⟨by grind,by simp,by simp,rfl,by grind⟩;exact(h0 _ _ _).set (x:=x) _ (l _ rfl)
    ·cases f
   ·exact h d
theorem MG.step (H:MG Q n k s) (c:Int):MG Q n (k+1) (a8 s c).1:=by
 obtain⟨gh,ta,M⟩:=H.Tv;have C:=Cn.step (PL M) c;have h1:=H.now;have d:=H.ms;have f:=H.op;have g:=C.now;have h:=C.ms;have i:=C.op;refine⟨H.Tv.step c,⟨by rw[C.wd];exact H.J4.1,by rw[C.wd];exact H.J4.2⟩,by omega,by omega,by omega,λy a=>?_⟩;rcases C.vm y a with e|⟨x,b,e⟩
 ·grind
 ·rw[<-e];exact H.vm x b
theorem MG.mono (H:MG Q n k s) {a:Nat} (h:k<=a):MG Q n a s:=by
 have h1:=H.now;have b:=H.ms;have c:=H.op;exact⟨H.Tv,H.J4,by omega,by omega,by omega,H.vm⟩
theorem MG.ask (H:MG Q n k s) (c vm:Int) (hv:vm<9223372036854775808) {ct:CT} (hc:cF ct.2.1/\cF ct.2.2.1/\cF ct.2.2.2.1):MG Q n k (dU s c vm ct):=by
 refine⟨H.Tv.ask c vm hc,?_,?_,?_,?_,?_⟩<;>unfold dU
 ·split
  ·exact H.J4
  ·split
   ·exact H.J4
   ·split<;>exact H.J4
 ·split
  ·exact H.now
  ·split
   ·exact H.now
   ·split<;>exact H.now
 ·split
  ·exact H.ms
  ·split
   ·exact H.ms
   ·split<;>exact H.ms
 ·split
  ·exact H.op
  ·split
   ·exact H.op
   ·split<;>exact H.op
 ·split
  ·exact H.vm
  ·split
   ·exact H.vm
   ·split
    ·intro y a;rcases ig a with rfl|a
     ·grind
     ·exact H.vm y a
    ·exact H.vm
theorem MG.new {f:Nat} {l:Int} (a:4<=f/\f<=4096) (b:1<=n/\n<=8) (d:1<=l/\l<=64) (g:Q.c=16*f):MG Q n 0 (m0 f n l):=by
 refine⟨xi.new a b d,⟨?_,?_⟩,H6 _,Dr _,Dr _,λy e=>?_⟩
 ·show(DH _ _).length<=Q.c
  grind
 ·show(DH _ 0).length<= _
  grind
 ·rw[E5 e];decide
end
abbrev sOp:List Sc:=[.int .i64,.bool,.int .i64,.int .i64,.int .u64,.int .u64,.int .u64]
noncomputable def U4:dD A2:={U2 with quiet:=[49,50,17]++U2.quiet}
def qW:Nat->aY:=(λ|5=>[(10,Go.RX.El.one (Go.RX.Sc.int FU))]| _=>[])
theorem Np (f c l:Int) (w:AC) (d:Option Ag×Bool×Unit->AC->Prop):(aJ U4 qW 15 [aa f,aa c,aa l] w d)=(
 az A2 52 (.bu [.one .ptr,.one (.int .i64)]) [aa f,aa c,aa l] w λ(x:Option Ag×Int×Unit) a=>aH (x.2.1 != 0||x.1.isNone) (ao a (d (none,false,()))) (∃(I:Nat->Int×Unit->AC->Prop),(∃n, ∀w1,Ext a w1->I n (0,()) w1)/\ ∀(n:Nat) (s:Int×Unit) (w1:AC),I n s w1->aH (decide (s.1<2)) (az A2 29 (.el aT) [ag x.1,aa 0,aa 0,.agg ⟨[aa 1,ax 0,ax 0,ax 0]⟩] w1 λ(h:Int) a=>aH (h != 0) (ao a (d (none,false,()))) (az
 A2 31 (.bu [.agg [.int .u64,.int .i64],.one .bool]) [ag x.1,aa 0] a λ(x:(Int×Int×Unit)×Bool×Unit) a=>aM a ⟨[ax 0,aa 0]⟩ 61 λb a=>aA a (ae b) [ax x.1.1,aa x.1.2.1] λa=>((!!x.2.1)=true->true=true)/\aj a (some !!x.2.1) (ad (ae b) 0) ou λ(i:Int)=>aH (!x.2.1||i != aG .u64 (aI .i64 1 s.1)) (ao a (d (none,false,()))) (∀e,Ext a e-> ∃(g:Nat),g<n/\I g (aI .i64 s.1 1,()) e))) (ao w1 (d (x.1,true,()))))):=by kernel_rfl
theorem Z9 (p:Option Ag) (a:Int) (b:Bool) (v k x y z:Int) (w:AC) (e:Unit->AC->Prop):(aJ U4 (λ_=>[]) 16 [ag p,.agg ⟨[aa a,.bool b,aa v,aa k,ax x,ax y,ax z]⟩] w e)=(
 aM w ⟨[aa a,.bool b,aa v,aa k,ax x,ax y,ax z]⟩ 33 λb c=>true=true/\sU c (ad (ae b) 1) λx=>aH x (true=true/\aR c (ad (ae b) 0) λx=>true=true/\aR c (ad (ae b) 2) λf=>true=true/\aj c none (ad (ae b) 3) sW λ(d:Int×Int×Int×Int×Unit)=>az A2 29 (.el aT) [ag p,aa x,aa f,.agg ⟨[aa d.1,ax d.2.1,ax d.2.2.1,ax d.2.2.2.1]⟩] c λ(x:Int) c=>ao c (e ())) (true=true/\aR c (ad (ae b)
 0) λx=>az A2 31 (.bu [.agg [.int .u64,.int .i64],.one .bool]) [ag p,aa x] c λ(x:(Int×Int×Unit)×Bool×Unit) c=>ao c (e ()))):=by kernel_rfl
def qX:Nat->aY:=(λ|1=>[(6,Go.RX.El.one (Go.RX.Sc.int FU))]|4=>[(7,Go.RX.El.one (Go.RX.Sc.int FU))]| _=>[])
theorem Nq (p:Option Ag) (c r:Int) (w:AC) (f:Unit->AC->Prop):(aJ U4 qX 48 [ag p,aa c,aa r] w f)=(
 ∃(I:Nat->Int×Unit->AC->Prop),(∃n, ∀w1,Ext w w1->I n (0,()) w1)/\ ∀(n:Nat) (s:Int×Unit) (w1:AC),I n s w1->aH (decide (s.1<r)) (∃(e:Nat->Int×Unit->AC->Prop),(∃n, ∀g,Ext w1 g->e n (0,()) g)/\ ∀(h:Nat) (d:Int×Unit) (w1:AC),e h d w1->aH (decide (d.1<c)) (az A2 31 (.bu [.agg [.int .u64,.int .i64],.one .bool]) [ag p,aa d.1] w1 λ(x:(Int×Int×Unit)×Bool×Unit) i=> ∀a,Ext i a-> ∃(b:Nat),b<h/\e b (aI .i64 d.1 1,()) a) (∀a,
 Ext w1 a-> ∃(b:Nat),b<n/\I b (aI .i64 s.1 1,()) a)) (ao w1 (f ()))):=by kernel_rfl
def qY:Nat->aY:=(λ|10=>[(9,Go.RX.El.one (Go.RX.Sc.int FU))]| _=>[])
theorem Nr (w:AC) (f:Bool->AC->Prop):(aJ U4 qY 46 [] w f)=(
 az A2 15 (.bu [.one .ptr,.one .bool]) [aa 30,aa 2,aa 4] w λx a=>az A2 52 (.bu [.one .ptr,.one (.int .i64)]) [aa 30,aa 9,aa 4] a λ(q:Option Ag×Int×Unit) a=>aH (!x.2.1) (ao a (f false)) (az A2 29 (.el aT) [ag x.1,aa 0,aa 1,.agg ⟨[aa 3,ax 5,ax 3,ax 0]⟩] a λ(r:Int) a=>az A2 29 (.el aT) [ag x.1,aa 0,aa 1,.agg ⟨[aa 15,ax 0,ax 0,ax 0]⟩] a λ(t:Int) a=>az
 A2 31 (.bu [.agg [.int .u64,.int .i64],.one .bool]) [ag x.1,aa 0] a λ(k:(Int×Int×Unit)×Bool×Unit) a=>aM a ⟨[ax 0,aa 0]⟩ 61 λb a=>aA a (ae b) [ax k.1.1,aa k.1.2.1] λa=>az A2 29 (.el aT) [ag x.1,aa 1,aa 1,.agg ⟨[aa 7,ax 81,ax 7,ax 0]⟩] a λ(F:Int) a=> ∃(I:Nat->Int×Unit->AC->Prop),(∃n, ∀w1,Ext a w1->I n (0,()) w1)/\ ∀(n:Nat) (s:Int×Unit) (w1:AC),I n s w1-> ∃(u:Int),(decide (s.1<9)=
 true->af A2 49 [ag x.1,aa 1] w1 (aa u))/\aH (decide (s.1<9)&&u != 0) (az A2 31 (.bu [.agg [.int .u64,.int .i64],.one .bool]) [ag x.1,aa 1] w1 λ(x:(Int×Int×Unit)×Bool×Unit) a=> ∀v,Ext a v-> ∃(y:Nat),y<n/\I y (aI .i64 s.1 1,()) v) (az A2 29 (.el aT) [ag x.1,aa 0,aa 1,.agg ⟨[aa 4,ax 5,ax 0,ax 0]⟩] w1 λ(G:Int) a=>az A2 31 (.bu [.agg [.int .u64,.int .i64],.one .bool]) [ag x.1,aa 0] a λ(H
 :(Int×Int×Unit)×Bool×Unit) a=>az A2 31 (.bu [.agg [.int .u64,.int .i64],.one .bool]) [ag x.1,aa 0] a λ(l:(Int×Int×Unit)×Bool×Unit) a=>aM a ⟨[ax 0,aa 0]⟩ 61 λD a=>aA a (ae D) [ax l.1.1,aa l.1.2.1] λa=> ∃(z:Int),af A2 50 [ag x.1,aa 1] a (aa z)/\az A2 51 (.el eJ) [ag x.1,aa 1] a λE a=>az A2 31 (.bu [.agg [.int .u64,.int .i64],.one .bool]) [ag x.1,aa 1] a λ(J:(Int×Int×Unit)
 ×Bool×Unit) a=>az A2 31 (.bu [.agg [.int .u64,.int .i64],.one .bool]) [ag x.1,aa 0] a λ(h:(Int×Int×Unit)×Bool×Unit) a=>aM a ⟨[ax 0,aa 0]⟩ 61 λm a=>aA a (ae m) [ax h.1.1,aa h.1.2.1] λa=>az A2 32 (.el eJ) [ag x.1] a λo a=>az A2 41 (.el eJ) [ag x.1] a λd a=>az A2 48 (.bu []) [ag x.1,aa 2,aa 3] a λK a=>aj a (some (q.2.1==1&&r==0&&t==9)) (ae b) cw λ(A:Int×Int×Unit)=>
 aH (q.2.1==1&&r==0&&t==9&&(A.1==2&&(A.2.1==0&&true))&&k.2.1&&s.1==6&& !l.2.1&&z==1&&(↑E.2.1:Int)==1) (az A2 51 (.el eJ) [ag x.1,aa 1] a λi a=>aj a (some ((↑i.2.1:Int)==0)) (ae m) cw λ(e:Int×Int×Unit)=>(((↑i.2.1:Int)==0&&(e.1==2&&(e.2.1==0&&true))&&h.2.1&&(↑o.2.1:Int)==4&&(↑d.2.1:Int)==5)=true->d.1.isSome=true/\(0:Int)<=3/\3<(↑d.2.1:Int))/\aj a (some ((↑i.2.1:Int)==0&&(e.1==2&&(e.2.1==
 0&&true))&&h.2.1&&(↑o.2.1:Int)==4&&(↑d.2.1:Int)==5)) (ad d.1 27) T5 λ(c:Int×Int×Int×Int×Int×Int×Int×Int×Int×Unit)=>aH ((↑i.2.1:Int)==0&&(e.1==2&&(e.2.1==0&&true))&&h.2.1&&(↑o.2.1:Int)==4&&(↑d.2.1:Int)==5&&(c.1==4&&(c.2.1==0&&(c.2.2.1==33&&(c.2.2.2.1==0&&(c.2.2.2.2.1==0&&(c.2.2.2.2.2.1==0&&(c.2.2.2.2.2.2.1==0&&true)))&&(c.2.2.2.2.2.2.2.1==7&&(c.2.2.2.2.2.2.2.2.1==0&&true)&&true)))))) (az A2 32 (.el eJ)
 [ag x.1] a λg a=> ∃(j:Option Ag),(((↑g.2.1:Int)==0)=true->af A2 17 [ag x.1] a (ag j))/\aH ((↑g.2.1:Int)==0) (az A2 18 (.el jh) [ag j] a λp a=>az A2 30 (.el aT) [ag p,aa 5] a λ(B:Int) a=> ∃(C:Int),((B==0)=true->af A2 49 [ag x.1,aa 2] a (aa C))/\ao a (f (B==0&&C==0))) (∃(p:Int),(false=true->af A2 49 [ag x.1,aa 2] a (aa p))/\ao a (f false))) (∃
 (g:Option Ag),(false=true->af A2 17 [ag x.1] a (ag g))/\ ∃(j:Int),(false=true->af A2 49 [ag x.1,aa 2] a (aa j))/\ao a (f false))) (aj a (some false) (ae m) cw λ(i:Int×Int×Unit)=>(false=true->d.1.isSome=true/\(0:Int)<=3/\3<(↑d.2.1:Int))/\aj a (some false) (ad d.1 27) T5 λ(e:Int×Int×Int×Int×Int×Int×Int×Int×Int×Unit)=> ∃(c:Option Ag),(false=true->af A2 17 [ag x.1] a (ag c))/\ ∃(g:Int),
 (false=true->af A2 49 [ag x.1,aa 2] a (aa g))/\ao a (f false))))):=by kernel_rfl
def kA:MS:=dU (DD 30 2 4) 0 1 (3,5,3,0,())
def kB:MS:=(a8 kA 0).1
def kC:MS:=dU kB 1 1 (7,81,7,0,())
def kD (j:Nat):MS:=j.rec kC λ_ s=>(a8 s 1).1
def kE:MS:=dU (kD 6) 0 1 (4,5,0,0,())
def kF:MS:=(a8 kE 0).1
def kG:MS:=(a8 kF 0).1
def kH:MS:=(a8 kG 1).1
def kI':MS:=(a8 kH 0).1
def kJ:MS:=F3 2 3 kI'
def aaK:Bool:=s7 (DD 30 2 4) 0==0&&(s7 kA 0==9&&((a8 kA 0).2==((2,0),true)&&(Il kC 1 != 0&&(Il (kD 1) 1 != 0&&(Il (kD 2) 1 != 0&&(Il (kD 3) 1 != 0&&(Il (kD 4) 1 != 0&&(Il (kD 5) 1 != 0&&Il (kD 6) 1==0))))))))
theorem Wo:aaK=true:=by decide+kernel
def aaL:Bool:=(a8 kF 0).2.2==false&&(Uc kG 1==1&&((lnN kG 1).length==1&&((a8 kH 0).2==((2,0),true)&&(kI'.ep.ws.length==4&&(kI'.ms.length==5&&(kI'.ms[3]? ==some (4,0,33,(0,0,0,0,()),7,0)&&(lnN kJ 1==[]&&(kJ.ep.ws==[]&&(cj kJ.h.s.2 5==0&&Il kJ 2==0)))))))))
theorem Wp:aaL=true:=by decide+kernel
abbrev OpT:Type:=Int×Bool×Int×Int×Int×Int×Int×Unit
def opM (s:MS) (o:OpT):MS:=if o.2.1=true then dU s o.1 o.2.2.1 (o.2.2.2.1,o.2.2.2.2.1,o.2.2.2.2.2.1,o.2.2.2.2.2.2.1,()) else(a8 s o.1).1
def aaM (o:OpT):Prop:=o.2.2.1<9223372036854775808/\cF o.2.2.2.2.1/\cF o.2.2.2.2.2.1/\cF o.2.2.2.2.2.2.1
section
variable {Q:Sys} {X:HX} {D G:List Nat} {w0 w w1:AC} {R:MR} {s:MS} {T L:List (Nat×List AI)} {M:List (Nat×B6)} {n k:Nat}
theorem MG.op' (H:MG Q n k s) {o:OpT} (a:aaM o):MG Q n (k+1) (opM s o):=by
 unfold opM;split
 ·exact(H.ask _ _ a.1 a.2).mono (by omega)
 ·exact H.step _
theorem MU.db (H:MU Q X D G w0 w R s T L M) {x:Nat×List AI} (a:x∈T):bL w x.1 x.2:=by
 obtain⟨L0,K,h⟩:=H.base;exact K.db _ (h x a)
theorem kN (H:MU Q X D G w0 w R s T L M) (a:MG Q n k s) (b:k<=100000) (c:Int) {K:BQ->AC->Prop}
 (kk: ∀d,MU Q X D G w0 d R (a8 s c).1 T L M->K (((a8 s c).2.1.1,(a8 s c).2.1.2,()),(a8 s c).2.2,()) d):
 az A2 31 NY [ag (ae R.mb),aa c] w K:=
 Tf H (a.bn b) a.rdy (λ_ _ e=>a.sx b e) c kk
theorem abK {f n:Nat} {l:Int} {j:Nat} {s:MS} (B:Bg f n l j s) (a:j<16) (b:j<f) (c:1<=n):(a8 (dU s 0 0 wM) 0).2=((((j+1:Nat):Int),0),true)/\Bg f n l (j+1) (a8 (dU s 0 0 wM) 0).1/\s7 s 0=0:=B.DC a b c
theorem BF (H:aK D G w0 w L) (f c:Nat) (l:Int) (p:20<=f/\f<=4096) (hc:1<=c/\c<=8) (a:1<=l/\l<=64) {K:Option Ag×Bool×Unit->AC->Prop}
 (q: ∀Q X R w1,MU Q X D G w0 w1 R (DD f c l) [] L []->MG Q c 2 (DD f c l)->K (some ⟨R.mb,0,none⟩,true,()) w1):
 az A2 15 (.bu [.one .ptr,.one .bool]) [aa (f:Int),aa (c:Int),aa l] w K:=by
 refine az.go H λw1 H=>ai (C:=U4) (aQ:=qW) (B5 (Np _ _ l w1 K) ?_);refine xr H _ _ l (by omega) a (λh=>by omega) λ_ _ Q X R F g H=>an rfl ?_;rw[DA,DA] at H;rw[DA] at g;have hb:DD f c l=(a8 (dU (a8 (dU (m0 f c l) 0 0 wM) 0).1 0 0 wM) 0).1:=rfl;refine⟨λn st d=> ∃(j:Nat) (s:MS),j<=2/\n=2 - j/\st.1=(j:Int)/\Bg f c l j s/\(j=0->s=m0 f c l)/\(j=1->s=(a8 (dU (m0 f c l) 0 0 wM) 0).1)/\(j=2->s=DD f c l)/\MG Q c j s/\MU Q X D G w0 d R s [] L [],⟨2,λd r=>⟨0,m0 f c l,by omega,rfl,rfl,Bg.new p hc a,λ_=>rfl,λh=>(by cases h),λh=>(by cases h),MG.new (by omega) hc a g,H.ext r⟩⟩,?_⟩;clear H;rintro n ⟨t, _⟩ d ⟨j,s,I,u,hi,v,x,y,i,k,H⟩;have hi:t=(j:Int):=hi;subst hi u;dsimp only;refine ab (λe=>?_) (λe=>?_)
 ·have J:j<2:=by have:=of_decide_eq_true e;omega
  obtain⟨z,A,B⟩:=abK v (by omega) (by omega) hc.1;have m:MG Q c j (dU s 0 0 wM):=k.ask 0 0 (by decide) ⟨⟨by decide,by decide⟩,⟨by decide,by decide⟩,⟨by decide,by decide⟩⟩;refine pV H 0 0 1 λo H=>?_;rw[B];refine an rfl (kN H m (by omega) 0 λM H=>?_);rw[z];refine H.al λb N H=>H.st 0 rfl rfl rfl λO H=>⟨λ_=>rfl,H.cg 0 rfl (show _=some ((j+1:Nat):Int) from rfl) (an ?_ λP E=>⟨2 - (j+1),by omega,j+1,(a8 (dU s 0 0 wM) 0).1,by omega,rfl,?_,A,λh=>(by omega),λh=>?_,λh=>?_,m.step 0,(MU.sub H (NG _)).ext E⟩)⟩
  ·have:j=0\/j=1:=by omega
   rcases this with rfl|rfl<;>decide
  ·rw[aw (by omega) (by omega)];omega
  ·rw[x (by omega)]
  ·rw[hb,y (by omega)]
 ·have:j=2:=by have:=of_decide_eq_false e;omega
  subst this;refine H.en λo H=>q Q X R o (by rw[<-i rfl];exact H) (by rw[<-i rfl];exact k)
theorem Z_ (H:MU Q X D G w0 w R s T L M) (f:MG Q n k s) (g:k<=100000) (o:OpT) {K:Unit->AC->Prop} (kk: ∀d,MU Q X D G w0 d R (opM s o) T L M->K () d):
 az A2 16 (.bu []) [ag (ae R.mb),.agg ⟨[aa o.1,.bool o.2.1,aa o.2.2.1,aa o.2.2.2.1,ax o.2.2.2.2.1,ax o.2.2.2.2.2.1,ax o.2.2.2.2.2.2.1]⟩] w K:=by
 obtain⟨a,b,v,q,x,y,z,⟨⟩⟩:=o;refine H.go λw1 H=>ai (C:=U4) (aQ:=λ_=>[]) (B5 (Z9 _ a b v q x y z w1 K) (H.al λi d H=>⟨rfl,H.cg 0 rfl (show _=some b from rfl) ?_⟩));unfold opM at kk;dsimp only at kk;refine ab (λc=>?_) (λc=>?_)
 ·rw[ay c] at kk;refine⟨rfl,H.cg 0 rfl (show _=some a from rfl) ⟨rfl,H.cg 0 rfl (show _=some v from rfl) ⟨rfl,H.cg 0 rfl (show _=some (q,x,y,z,()) from rfl) (pV H a v q λh H=>H.en λe H=>kk e (H.sub (Bx _ _)))⟩⟩⟩
 ·rw[au (by rw[c];decide)] at kk;exact⟨rfl,H.cg 0 rfl (show _=some a from rfl) (kN H f g a λh H=>H.en λe H=>kk e (H.sub (Bx _ _)))⟩
theorem MG.run: ∀(l:List Nat) {k:Nat} {s:MS},MG Q n k s->MG Q n (k+l.length) (Kk s l)
 |[], _, _,h=>h
 |c::l,k,s,h=>by
  have:=MG.run l (h.step (c:Int));rw[LL,show k+(l.length+1)=k+1+l.length by omega];exact this
theorem MG.rnd (H:MG Q n k s) (m:Nat): ∀r,MG Q n (k+r*m) (F3 m r s)
 |0=>by rw[Nat.zero_mul];exact H
 |r+1=>by
  have:=MG.run (Aq m) (MG.rnd H m r);rw[F2] at this;rw[Nat.succ_mul, <-Nat.add_assoc];exact this
theorem Tg {m j:Nat} (s:MS) (h:j<m):Kk s ((Aq m).take (j+1))=(a8 (Kk s ((Aq m).take j)) (j:Int)).1:=by
 unfold Kk;rw[H4,I1 h,GD];rfl
theorem Ns (H:MU Q X D G w0 w R s T L M) (o:MG Q n k s) (m r:Nat) (B:k+r*m<=100000) (E:m<=1000) (F:r<=1000) {K:Unit->AC->Prop} (kk: ∀a,MU Q X D G w0 a R (F3 m r s) T L M->K () a):
 az A2 48 (.bu []) [ag (ae R.mb),aa (m:Int),aa (r:Int)] w K:=by
 refine H.go λw1 H=>ai (C:=U4) (aQ:=qX) (B5 (Nq _ _ _ w1 K) ?_);refine⟨λg st a=> ∃j:Nat,j<=r/\g=r - j/\st.1=(j:Int)/\MU Q X D G w0 a R (F3 m j s) T L M,⟨r,λa p=>⟨0,FS _,rfl,rfl,H.ext p⟩⟩,?_⟩;clear H;rintro g ⟨d, _⟩ a ⟨j,q,t,hi,H⟩;have hi:d=(j:Int):=hi;subst hi t;dsimp only;refine ab (λc=>?_) (λc=>?_)
 ·have q:j<r:=by have:=of_decide_eq_true c;omega
  have u:=o.rnd m j;have I:j*m+m<=r*m:=by
   have:=Nat.mul_le_mul_right m (show j+1<=r by omega);rw[Nat.succ_mul] at this;exact this
  refine⟨λh st b=> ∃i:Nat,i<=m/\h=m - i/\st.1=(i:Int)/\MU Q X D G w0 b R (Kk (F3 m j s) ((Aq m).take i)) T L M,⟨m,λb v=>⟨0,FS _,rfl,rfl,H.ext v⟩⟩,?_⟩;clear H;rintro h ⟨d, _⟩ b ⟨i,J,x,f,H⟩;have f:d=(i:Int):=f;subst f x;dsimp only;refine ab (λc=>?_) (λc=>?_)
  ·have hi:i<m:=by have:=of_decide_eq_true c;omega
   have l:=MG.run ((Aq m).take i) u;rw[M5,F2] at l;refine kN H l (by omega) (i:Int) λy H N z=>⟨m - (i+1),by omega,i+1,by omega,rfl,?_,?_⟩
   ·rw[aw (by omega) (by omega)];omega
   ·rw[Tg _ hi];exact H.ext z
  ·have:i=m:=by have:=of_decide_eq_false c;omega
   subst this;refine λy A=>⟨r - (j+1),by omega,j+1,by omega,rfl,?_,?_⟩
   ·rw[aw (by omega) (by omega)];omega
   ·have e:(Aq i).take i=Aq i:=List.take_of_length_le (by rw[F2];exact Dr _);rw[e] at H;exact H.ext A
 ·have:j=r:=by have:=of_decide_eq_false c;omega
  subst this;exact H.en λb H=>kk b H
theorem zJ (H:MU Q X D G w0 w R s T L M) {K:Option Ag->AC->Prop} (k: ∀bp bf c rest a,MU Q X D G w0 a R s ((bp,[.slice (ae bf) s.h.s.2.length c])::(bf,flat eD s.h.s.2++rest)::T) L M->K (ae bp) a):
 az A2 18 (.el (.one .ptr)) [ag (ae X.hb)] w K:=by
 obtain⟨A,i,L0,S,b, _,J⟩:=H.sat;exact r_ S b λd e f g a S=>k d e f g a (J (T':=[_, _]) S)
theorem Nt (H:MU Q X D G w0 w R s T L M) {bp bf c:Nat} {ds:List DT} {rest:List AI} (h1:(bp,[.slice (ae bf) ds.length c])∈T) (b:(bf,flat eD ds++rest)∈T) (v:Int) (d:ds.length<=4096) {K:Int->AC->Prop} (k: ∀a,MU Q X D G w0 a R s T L M->K (cj ds v:Int) a):
 az A2 30 (.el (.one (.int .i64))) [ag (ae bp),aa v] w K:=by
 refine H.go λw1 H=>(Ek (H.db h1) (H.db b) rfl d v).mono λx a ⟨e,h⟩=>?_;subst e;exact k a (H.ext h)
theorem Xv (H:MU Q X D G w0 w R s T L M) {bp bf c:Nat} {ds:List DT} {rest:List AI} (h1:(bp,[.slice (ae bf) ds.length c])∈T) (a:(bf,flat eD ds++rest)∈T) (f:Int):af A2 25 [ag (ae bp),aa f] w ((Sh.bu [eD,.one .bool]).gR (oE ds f,As ds f,())):=
 af.of λw' h'=>Gg ((H.db h1).ext h') ((H.db a).ext h') f
end
section
variable {Q:Sys} {X:HX} {D G:List Nat} {w0 w w1:AC} {R:MR} {s:MS} {T L:List (Nat×List AI)} {M:List (Nat×B6)} {n k:Nat}
theorem MU.ldm (H:MU Q X D G w0 w R s T L M) {g:Option Bool} {el:El} {K:el.T->Prop} {b o:Nat} {l:List AI} {x:el.T} (a:(b,l)∈T) (hv:kr l o el=some x) (k:K x):aj w g (some ⟨b,o,none⟩) el K:=by
 obtain⟨i,hi⟩:=GJ a;exact H.ld i hi hv k
theorem MU.sl (H:MU Q X D G w0 w R s T L M) {e:El} {r:Option Ag×Nat×Nat} {xs:List e.T} {a:List (Nat×List AI)} (b:dm e r xs a) (c: ∀x∈a,x∈T) {i:Nat} {x:e.T} (d:xs[i]? =some x):r.1.isSome=true/\cC w (ad r.1 (i*aE e)) e x:=by
 obtain⟨L0,K,h⟩:=H.base;exact b.sl K (λy f=>h y (c y f)) i x d
theorem Th {f c l:Int} (d:4<=f/\f<=4096) (e:1<=l/\l<=64) (hc:c<1\/c>8) {K:Option Ag×Int×Unit->AC->Prop} (k: ∀w1,Ext w w1->K (none,1,()) w1):
 az A2 52 (.bu [.one .ptr,.one (.int .i64)]) [aa f,aa c,aa l] w K:=λw1 h1=>
 xr (At.start [] w1) f c l d e (λ_ g H=>k g (Ext.trans h1 H.all)) (λa b=>by omega) w1 (Ext.refl w1)
theorem Wq: ∃(c sA e f:MS) (sD:Nat->MS) (g sF sG d a b:MS),c=DD 30 2 4/\(sA=dU c 0 1 (3,5,3,0,())/\e=(a8 sA 0).1/\f=dU e 1 1 (7,81,7,0,())/\sD 0=f/\(∀j,sD (j+1)=(a8 (sD j) 1).1)/\g=dU (sD 6) 0 1 (4,5,0,0,())/\sF=(a8 g 0).1/\sG=(a8 sF 0).1/\d=(a8 sG 1).1/\a=(a8 d 0).1/\b=F3 2 3 a)/\
 (s7 c 0=0/\s7 sA 0=9/\(a8 sA 0).2=((2,0),true)/\(∀j,j<6->Il (sD j) 1≠0)/\Il (sD 6) 1=0)/\
 ((a8 sF 0).2.2=false/\Uc sG 1=1/\(lnN sG 1).length=1/\(a8 d 0).2=((2,0),true)/\a.ep.ws.length=4/\a.ms.length=5/\a.ms[3]? =some (4,0,33,(0,0,0,0,()),7,0)/\lnN b 1=[]/\b.ep.ws=[]/\cj b.h.s.2 5=0/\Il b 2=0):=by
 have t1:=Wo;unfold aaK at t1;simp only[Dj,beq_iff_eq,bne_iff_ne,ne_eq] at t1;obtain⟨a1,i,k,l,p1,p2,p3,p4,m,n⟩:=t1;have t2:=Wp;unfold aaL at t2;simp only[Dj,beq_iff_eq] at t2;refine⟨_,kA,kB,kC,kD,kE,kF,kG,kH,kI',kJ,rfl,⟨rfl,rfl,rfl,rfl,λ_=>rfl,rfl,rfl,rfl,rfl,rfl,rfl⟩,⟨a1,i,k,λj o=>?_,n⟩,t2⟩;have:j=0\/j=1\/j=2\/j=3\/j=4\/j=5:=by omega
 rcases this with rfl|rfl|rfl|rfl|rfl|rfl
 ·exact l
 ·exact p1
 ·exact p2
 ·exact p3
 ·exact p4
 ·exact m
theorem Ti {s:MS} {c:Int} (h0: ¬ c<0) (h:s7 s c≠0) (vm:Int) (ct:CT):dU s c vm ct=s:=by
 unfold dU;unfold s7 at h;rw[au h0] at h ⊢;cases a:s.cs[c.toNat]? with
 |none=>rfl
 |some x=>
  rw[a] at h;dsimp only at h ⊢;rw[au λc=>h (ay c)]
theorem Nu (w:AC):aD A2 46 (.el (.one .bool)) [] w (λb w'=>b=true/\Ext w w'):=by
 obtain⟨s0,sA,P,S,sD,T,sF,sG,U,V,W,h0,⟨o,p,q,r,s,t,u,v,y,z,A⟩,⟨a1,B,Y,Z,p6⟩,c1,c2,c3,c4,c5,c6,c7,c8,c9,Yk,c11⟩:=Wq;have d: ∀{a:Int},decide (0<=a/\a<18446744073709551616)=true->cF a:=λh=>of_decide_eq_true h;refine ai (C:=U4) (aQ:=qY) (B5 (Nr w _) ?_);refine BF (At.start [] w) 30 2 4 (by omega) (by omega) (by omega) λQ X R w1 H D=>Th (by omega) (by omega) (by omega) λw2 h2=>?_;have H:=H.ext h2;rw[<-h0] at H D;clear h0;refine an rfl ?_;have GA:MG Q 2 2 sA:=by rw[o];exact D.ask 0 1 (by decide) ⟨d rfl,d rfl,d rfl⟩
 have GB:MG Q 2 3 P:=by rw[p];exact GA.step 0
 have GC:MG Q 2 3 S:=by rw[q];exact GB.ask 1 1 (by decide) ⟨d rfl,d rfl,d rfl⟩
 have E: ∀j:Nat,MG Q 2 (3+j) (sD j):=λj=>by
  induction j with
  |zero=>rw[r];exact GC
  |succ j ih=>rw[s];exact ih.step 1
 have GE:MG Q 2 9 T:=by rw[t];exact(E 6).ask 0 1 (by decide) ⟨d rfl,d rfl,d rfl⟩
 have F:MG Q 2 10 sF:=by rw[u];exact GE.step 0
 have f:MG Q 2 11 sG:=by rw[v];exact F.step 0
 have G:MG Q 2 12 U:=by rw[y];exact f.step 1
 have g:MG Q 2 13 V:=by rw[z];exact G.step 0
 have k:MG Q 2 19 W:=by rw[A];exact g.rnd 2 3
 refine pV H 0 1 3 λw3 H=>?_;rw[a1];rw[<-o] at H;refine pV H 0 1 15 λw4 H=>?_;rw[B];rw[Ti (by decide) (by rw[B];decide)] at H;refine kN H GA (by decide) 0 λw5 H=>?_;rw[Y];rw[<-p] at H;refine H.al λb w6 H=>H.st 0 rfl rfl rfl λw7 H=>pV H 1 1 7 λw8 H=>?_;rw[<-q, <-r] at H;refine⟨λn st l=> ∃j:Nat,j<=6/\n=6 - j/\st.1=(j:Int)/\MU Q X [] [] w l R (sD j) [(b,[ax 2,aa 0])] [] [],⟨6,λl h9=>⟨0,by omega,rfl,rfl,H.ext h9⟩⟩,?_⟩;clear H;rintro n ⟨ii, _⟩ l ⟨j,hj,rh,hi,H⟩;have hi:ii=(j:Int):=hi;subst hi rh;dsimp only;refine⟨_,λ_=>ER H 1,ab (λc=>?_) (λc=>?_)⟩
 ·have hj6:j<6:=by
   by_cases e:j=6
   ·subst e;rw[p6] at c;simp at c
   ·omega
  refine kN H (E j) (by omega) 1 λj_ H m9 Ic=>⟨6 - (j+1),by omega,j+1,by omega,rfl,?_,?_⟩
  ·rw[aw (by omega) (by omega)];omega
  ·rw[s];exact H.ext Ic
 ·have:j=6:=by
   by_cases e:j=6
   ·exact e
   ·have h6:=Z j (by omega);have:(decide ((j:Int)<9)&&Il (sD j) 1 != 0)=true:=by
     rw[Dj,decide_eq_true_eq,bne_iff_ne];exact⟨by omega,h6⟩
    rw[this] at c;cases c
  subst this;refine pV H 0 1 4 λj_ H=>?_;rw[<-t] at H;refine kN H GE (by decide) 0 λm9 H=>?_;rw[<-u] at H;refine kN H F (by decide) 0 λCY H=>?_;rw[<-v] at H;refine H.al λI Nz H=>H.st 0 rfl rfl rfl λIe H=>⟨_,Wn H (f.bn (by decide)).bn 1,?_⟩;rw[c2];refine BE H (f.bn (by decide)).sz (f.bn (by decide)).ls 1 λr11 J WE acA H=>?_;have e11:r11.2.1=1:=by rw[acA.1,c3]
  refine kN H f (by decide) 1 λWG H=>?_;rw[<-y] at H;refine kN H G (by decide) 0 λw17 H=>?_;rw[c4];rw[<-z] at H;refine H.al λm w18 H=>H.st 0 rfl rfl rfl λw19 H=>wz H (g.bn (by decide)).ws λr14 K w20 acB H=>?_;have e14:r14.2.1=4:=by rw[acB.1,jD,Dc,c5]
  refine BD H (by rw[c6];decide) λr15 L w21 M H=>?_;have N:r15.2.1=5:=by rw[M.1,Dc,c6]
  refine Ns H g 2 3 (by decide) (by decide) (by decide) λw22 H=>?_;rw[<-A] at H;have CZ:(m,[ax 2,aa 0])∈L++(K++((m,[ax 2,aa 0])::(J++[(I,[ax (a8 sF 0).2.1.1,aa (a8 sF 0).2.1.2]),(b,[ax 2,aa 0])]))):=by simp
  have hb:(b,[ax 2,aa 0])∈L++(K++((m,[ax 2,aa 0])::(J++[(I,[ax (a8 sF 0).2.1.1,aa (a8 sF 0).2.1.2]),(b,[ax 2,aa 0])]))):=by simp
  refine H.ldm (x:=(2,0,())) hb rfl (aB ?_ ?_)
  ·dsimp only;rw[c1,e11];decide
  refine BE H (k.bn (by decide)).sz (k.bn (by decide)).ls 1 λr18 L18 w23 acC H=>?_;have e18:r18.2.1=0:=by rw[acC.1,c8];rfl
  refine H.ldm (x:=(2,0,())) (BJ _ CZ) rfl ?_;have O:=H.sl M (λx hx=>BJ _ (BY _ hx)) (i:=3) (x:=TV (4,0,33,(0,0,0,0,()),7,0)) (by rw[Ga,c7];rfl);refine⟨λ_=>⟨O.1,by decide,by rw[N];decide⟩,aj.of _ O.2 (aB ?_ ?_)⟩
  ·dsimp only;rw[e18,e14,N];decide
  refine wz H (k.bn (by decide)).ws λr21 L21 w24 acD H=>⟨_,λ_=>zc H,?_⟩;have e21:r21.2.1=0:=by rw[acD.1,jD,Dc,c9];rfl
  refine aB (by rw[e21];rfl) (zJ H λbp bf c rest w25 H=>Nt H B7 (B3 _ B7) 5 H.sys.2.2.1 λw26 H=>⟨_,λ_=>ER H 2,H.en λw27 H=>⟨?_,H.all⟩⟩);rw[Yk,c11];rfl
end
noncomputable def U5:dD A2:={U4 with quiet:=[25,19,21]++U4.quiet}
abbrev sX3:List Sc:=[.int .u8,.int .u8,.int .u8]
theorem acE {x:Int} (h:(Lit.int .u8 x).wf=true):0<=x/\x<256:=by
 simp[Lit.wf,J5,J6,J7,JR] at h;omega
theorem Y0 {x:Int} (h:(Lit.int .u64 x).wf=true):cF x:=by
 simp[Lit.wf,J5,J6,J7,JR] at h;unfold cF;omega
theorem acF {x:Int} (h:(Lit.int .i64 x).wf=true):x<9223372036854775808:=by
 simp[Lit.wf,J5,J6,J7,JR] at h;omega
theorem acG {x d:Int} (h:0<=x/\x<256):ff (aG .i64 x) d=x % d:=by
 rw[bK (by omega)];unfold ff;exact NI h.1
theorem Y1 {x:Int} (h:(Lit.int .u8 x).wf=true) (a d:Nat) (b:0<d/\d<=1000) (c:a<=1000):aI .i64 (a:Int) (ff (aG .i64 x) (d:Int))=((a+x.toNat % d:Nat):Int):=by
 have h:=acE h;have:(((x.toNat % d:Nat)):Int)=x % (d:Int):=by rw[Int.natCast_emod,Int.toNat_of_nonneg h.1]
 have e:x.toNat % d<d:=Hb _ b.1;rw[acG h, <-this,aw (by omega) (by omega)];omega
theorem abL {o:jg sOp} (h:kl sOp o):aaM o:=⟨acF h.2.2.1,Y0 h.2.2.2.2.1,Y0 h.2.2.2.2.2.1,Y0 h.2.2.2.2.2.2.1⟩
section
variable {Q:Sys} {X:HX} {D G:List Nat} {w0 w w1:AC} {R:MR} {s:MS} {T L:List (Nat×List AI)} {M:List (Nat×B6)} {n k:Nat}
theorem Z' (H:MU Q X [] [] w0 w R s T L M):az A2 46 (.el (.one .bool)) [] w λ(x:Bool) (a:AC)=>ao a λ(w1:AC)=>x=true/\Ext w0 w1:=
 az.val ((At.start [] w0).ext H.all) (s:= .el (.one .bool)) true (λb _=>Nu b) λc H=>ao.go H λd H=>⟨rfl,H.all⟩
end
noncomputable def U6:dD A2:={U5 with quiet:=[27]++U5.quiet}
end Go.Proofs.YtlcenllcmeebhaaGreat.Mu
namespace Go.Proofs.YtlcenllcmeebhaaGreat
set_option maxRecDepth 100000
open Go.RX D
theorem PM: ∀(l:List Int) (s:MS),(l.foldl gQ s).h.s.2.length=s.h.s.2.length
 |[], _=>rfl
 |f::l,s=>by
  rw[G1,PM l _];show(fb s.h.s f).2.length= _;unfold fb;split
  ·exact im _ _ _
  ·rfl
theorem Nv {n:Nat} {s:MS} (X:xi n s) (k:Int):(a8 s k).1.h.s.2.length=s.h.s.2.length:=by
 rcases za X k with e|⟨c,x,x', _,a,C⟩
 ·rw[e]
 obtain⟨gh,ta,M⟩:=X;rcases C.md with e|e|⟨_,e⟩|⟨_, _,e⟩<;>rw[e]
 ·unfold dA;exact PM _ _
 ·exact V' ⟨gh,M.hi⟩ (M.ar x (aC a)).1.1
 ·rfl
theorem abM (s:MS) (c vm:Int) (ct:CT):(dU s c vm ct).h=s.h:=by
 unfold dU;split
 ·rfl
 ·split
  ·rfl
  ·split<;>rfl
namespace Mu
section
variable {Q:Sys} {X:HX} {D G:List Nat} {w0 w w1:AC} {R:MR} {s:MS} {T L:List (Nat×List AI)} {M:List (Nat×B6)} {bp bf c:Nat} {rest:List AI}
end
end Mu
end Go.Proofs.YtlcenllcmeebhaaGreat
namespace Go.Proofs.YtlcenllcmeebhaaGreat.Mu
set_option maxRecDepth 100000
open Go.RX D
def qZ:Nat->aY:=(λ|8=>[(11,Go.RX.El.one (Go.RX.Sc.int FU))]|13=>[(13,Go.RX.El.one (Go.RX.Sc.int FU))]|32=>[(19,Go.RX.El.one (Go.RX.Sc.int FU))]| _=>[])
theorem Nw (q x1 r:Int) (p:Option Ag) (m c:Nat) (w:AC) (g:Bool->AC->Prop):(aJ U6 qZ 6 [.agg ⟨[.int .u8 q,.int .u8 x1,.int .u8 r]⟩,.slice p m c] w g)=(
 aM w ⟨[.int .u8 q,.int .u8 x1,.int .u8 r]⟩ 22 λb a=>(true=true/\(0:Int)<=0/\0<(↑3:Int))/\aj a none (ad (ae b) 0) (.one (.int .u8)) λ(x:Int)=>(true=true/\(0:Int)<=1/\1<(↑3:Int))/\aj a none (ad (ae b) 1) (.one (.int .u8)) λ(u:Int)=>(true=true/\(0:Int)<=2/\2<(↑3:Int))/\aj a none (ad (ae b) 2) (.one (.int .u8)) λ(v:Int)=>az A2 15 (.bu [.one .ptr,.one .bool]) [aa (aI .i64 20 (ff (aG .i64 x) 60)),aa (aI .i64 1 (ff (aG .i64 u) 8)),aa (aI .i64 1 (ff (aG .i64
 v) 8))] a λk a=>az A2 40 (.bu [.one .ptr,.one (.int .i64)]) [aa (aI .i64 20 (ff (aG .i64 x) 60))] a λ(i:Option Ag×Int×Unit) a=>aH (!k.2.1||i.2.1 != 0||i.1.isNone) (ao a (g false)) (∃(I:Nat->Int×Unit->AC->Prop),(∃n, ∀w1,Ext a w1->I n (0,()) w1)/\ ∀(n:Nat) (s:Int×Unit) (w1:AC),I n s w1->aH (decide (s.1<(↑m:Int))&&decide (s.1<300)) ((p.isSome=true/\0<=s.1/\s.1<(↑m:Int))/\aj w1 none (ad p (Int.toNat s.1*7)) (.agg [.int .i64,.bool,.int .i64,.int .i64,.int .u64,.int
 .u64,.int .u64]) λ(x:Int×Bool×Int×Int×Int×Int×Int×Unit)=>az A2 16 (.bu []) [ag k.1,.agg {toList:=[aa x.1,.bool x.2.1,aa x.2.2.1,aa x.2.2.2.1,ax x.2.2.2.2.1,ax x.2.2.2.2.2.1,ax x.2.2.2.2.2.2.1]}] w1 λx a=> ∀d,Ext a d-> ∃(e:Nat),e<n/\I e (aI .i64 s.1 1,()) d) (az A2 41 (.el eJ) [ag k.1] w1 λl a=> ∃(I:Nat->Int×Unit->AC->Prop),(∃n, ∀w1,Ext a w1->I n (0,()) w1)/\ ∀(n:Nat) (s:Int×Unit) (w1:AC),I n s w1->aH (decide
 (s.1<(↑l.2.1:Int))) ((l.1.isSome=true/\0<=s.1/\s.1<(↑l.2.1:Int))/\aj w1 none (ad l.1 (Int.toNat s.1*9)) T5 λ(x:Int×Int×Int×Int×Int×Int×Int×Int×Int×Unit)=>aM w1 {toList:=[aa 0,aa 0,aa 0,aa 0,ax 0,ax 0,ax 0,ax 0,aa 0]} 86 λb a=>aA a (ae b) [aa x.1,aa x.2.1,aa x.2.2.1,aa x.2.2.2.1,ax x.2.2.2.2.1,ax x.2.2.2.2.2.1,ax x.2.2.2.2.2.2.1,ax x.2.2.2.2.2.2.2.1,aa x.2.2.2.2.2.2.2.2.1] λa=>true
 =true/\aR a (ad (ae b) 0) λx=>aH (x==1) (true=true/\aR a (ad (ae b) 1) λx=>true=true/\aj a none (ad (ae b) 3) sW λ(f:Int×Int×Int×Int×Unit)=>true=true/\aj a none (ad (ae b) 7) cw λ(h:Int×Int×Unit)=>az A2 42 (.el cw) [ag i.1,aa x,.agg ⟨[aa f.1,ax f.2.1,ax f.2.2.1,ax f.2.2.2.1]⟩] a λ(x:Int×Int×Unit) a=>cC a (ad (ae b) 7) cw h/\True/\aH (!(x.1==h.1&&(x.2.1==h.2.1&&true))) (ao a (g false)) (∀d,Ext a d-> ∃
 (e:Nat),e<n/\I e (aI .i64 s.1 1,()) d)) (aH (x==2) (true=true/\aR a (ad (ae b) 2) λx=>az A2 43 (.el aT) [ag i.1,aa x] a λ(x:Int) a=>aH (x != 0) (ao a (g false)) (∀d,Ext a d-> ∃(e:Nat),e<n/\I e (aI .i64 s.1 1,()) d)) (aH (x==3) (true=true/\aR a (ad (ae b) 2) λx=>az A2 23 (.el jh) [ag i.1] a λf a=>cC a (ad (ae b) 2) aT x/\True/\az A2 37 (.bu [.one (.int .u64),.one (.int .i64)]) [ag f,aa x] a λ(x:Int×Int×
 Unit) a=>true=true/\(ad (ae b) 7).isSome=true/\aj a none (ad (ad (ae b) 7) 0) ou λ(h:Int)=>aH (x.1 != h||x.2.1 != 0) (ao a (g false)) (∀d,Ext a d-> ∃(e:Nat),e<n/\I e (aI .i64 s.1 1,()) d)) (true=true/\aR a (ad (ae b) 2) λx=>true=true/\(ad (ae b) 7).isSome=true/\aj a none (ad (ad (ae b) 7) 0) ou λ(f:Int)=>az A2 23 (.el jh) [ag i.1] a λh a=>cC a (ad (ad (ae b) 7) 0) ou f/\True/\True/\cC a (ad (ae b) 2) aT x/\True/\az A2 38 (.el
 aT) [ag h,aa x,ax f] a λ(x:Int) a=>aH (x != 0) (ao a (g false)) (∀d,Ext a d-> ∃(e:Nat),e<n/\I e (aI .i64 s.1 1,()) d))))) (∃(f:Option Ag),af A2 17 [ag k.1] w1 (ag f)/\az A2 18 (.el jh) [ag f] w1 λh a=>az A2 18 (.el jh) [ag i.1] a λy a=> ∃(I:Nat->Int×Unit->AC->Prop),(∃n, ∀w1,Ext a w1->I n (0,()) w1)/\ ∀(n:Nat) (s:Int×Unit) (w1:AC),I n s w1->aH (decide (s.1<aI .i64 20 (ff (aG .i64 x) 60))) (∃
 (x:(Int×Int×Int×Int×Unit)×Bool×Unit),af A2 25 [ag h,aa s.1] w1 (.tuple {toList:=[.agg ⟨[aa x.1.1,aa x.1.2.1,aa x.1.2.2.1,aa x.1.2.2.2.1]⟩,.bool x.2.1]})/\aM w1 ⟨[aa 0,aa 0,aa 0,aa 0]⟩ 52 λb a=>aA a (ae b) [aa x.1.1,aa x.1.2.1,aa x.1.2.2.1,aa x.1.2.2.2.1] λa=> ∃(x:(Int×Int×Int×Int×Unit)×Bool×Unit),af A2 25 [ag y,aa s.1] a (.tuple {toList:=[.agg ⟨[aa x.1.1,aa x.1.2.1,.int .i64
 x.1.2.2.1,aa x.1.2.2.2.1]⟩,.bool x.2.1]})/\aM a ⟨[aa 0,aa 0,aa 0,aa 0]⟩ 52 λt a=>aA a (ae t) [aa x.1.1,aa x.1.2.1,aa x.1.2.2.1,aa x.1.2.2.2.1] λa=>aj a none (ae b) dG λ(x:Int×Int×Int×Int×Unit)=>aj a none (ae t) dG λ(j:Int×Int×Int×Int×Unit)=>aH (!(x.1==j.1&&(x.2.1==j.2.1&&(x.2.2.1==j.2.2.1&&(x.2.2.2.1==j.2.2.2.1&&true))))) (ao a (g false)) (∀d,Ext a d-> ∃(e:Nat),e<n/\I e (aI .i64 s.1 1,()) d)) (∃(j:
 Option Ag),af A2 17 [ag k.1] w1 (ag j)/\az A2 23 (.el jh) [ag j] w1 λz a=>az A2 45 (.el eJ) [ag z,aa 0,aa (gq .i64 16 (aI .i64 20 (ff (aG .i64 x) 60)))] a λo a=>az A2 23 (.el jh) [ag i.1] a λA a=>az A2 45 (.el eJ) [ag A,aa 0,aa (gq .i64 16 (aI .i64 20 (ff (aG .i64 x) 60)))] a λx a=>az A2 44 (.el rq) [.slice o.1 o.2.1 o.2.2,.slice x.1 x.2.1 x.2.2] a λx a=>aH x (az A2 46
 (.el rq) [] a λx a=>ao a (g x)) (ao a (g false))))))):=by kernel_rfl
end Go.Proofs.YtlcenllcmeebhaaGreat.Mu
namespace Go.Proofs.YtlcenllcmeebhaaGreat
set_option maxRecDepth 100000
open Go.RX D
section
variable {h0 h h1:HS} {l:List MT}
def Im (h:HS) (l:List MT):HS:=l.foldl Dl h
theorem Ws (R:Rp h0 l h):h=Im h0 l/\ ∀(i:Nat) (k:MT),l[i]? =some k->YY (Im h0 (l.take i)) k:=by
 induction R with
 |nil=>exact⟨rfl,λi k a=>by simp at a⟩
 | @snoc h1 l k r o b=>
   obtain⟨e,f⟩:=b;refine⟨?_,λi c a=>?_⟩
   ·unfold Im;rw[GD];show Dl h1 k=Dl (Im h0 l) k;rw[<-e]
   ·by_cases hi:i<l.length
    ·rw[Fx hi] at a;rw[List.take_append_of_le_length (Nat.le_of_lt hi)];exact f i c a
    ·have d:i=l.length:=by
      have:=(B4.1 a).1;rw[Gj,H5] at this;omega
     subst d;rw[Ih (Dr _),J3] at a;cases a;rw[List.take_left, <-e];exact o
theorem Tj {i:Nat} {k:MT} (a:l[i]? =some k):Im h0 (l.take (i+1))=Dl (Im h0 (l.take i)) k:=by
 unfold Im;rw[H4,a,GD];rfl
theorem aaa (h:HS) (k:MT):(Dl h k).s.1.length=h.s.1.length:=by
 unfold Dl;split
 ·exact Cm ..
 split
 ·show(fb h.s k.2.2.1).1.length= _;unfold fb;split<;>rfl
 split
 ·rfl
 ·exact cA ..
theorem JQ (h:HS): ∀l:List MT,(Im h l).s.1.length=h.s.1.length
 |[]=>rfl
 |k::l=>(JQ (Dl h k) l).trans (aaa h k)
end
namespace Mu
def MH (Q:Sys) (X:HX) (Q2:Sys) (X2:HX) (w0 w:AC) (R:MR) (s:MS) (h:HS) (T L:List (Nat×List AI)):Prop:=
 ∃(A:Nat->GA) (ca la:Int),C6 A h/\qJ h.s/\MU Q X [] [] w0 w R s T (C9 Q2 X2 A ca la h++L) (cK A h.g (Aq 17))
section
variable {Q:Sys} {X:HX} {Q2:Sys} {X2:HX} {w0 w w1:AC} {R:MR} {s:MS} {h:HS} {T L:List (Nat×List AI)}
theorem MH.mu (H:MH Q X Q2 X2 w0 w R s h T L): ∃L' M',MU Q X [] [] w0 w R s T L' M'/\ ∀{T' w' s'},MU Q X [] [] w0 w' R s' T' L' M'->MH Q X Q2 X2 w0 w' R s' h T' L:=by
 obtain⟨A,ca,la,h1,a,H⟩:=H;exact⟨_, _,H,λH=>⟨A,ca,la,h1,a,H⟩⟩
theorem MH.ext (H:MH Q X Q2 X2 w0 w R s h T L) (e:Ext w w1):MH Q X Q2 X2 w0 w1 R s h T L:=by
 obtain⟨A,ca,la,h1,a,H⟩:=H;exact⟨A,ca,la,h1,a,H.ext e⟩
theorem MH.hv (H:MH Q X Q2 X2 w0 w R s h T L): ∃e L',iB Q2 X2 [] e w w h L'/\ ∀{d h' T'},iB Q2 X2 [] e w d h' (T'++L')->MH Q X Q2 X2 w0 d R s h' (T'++T) L:=by
 obtain⟨b,f,i,g1,c,B,rfl,A,ca,la,h1,k,l,m⟩:=H;have j:cv [] [] w0 w (Q2.L f i h.s (dL Q2 X2 b h (a6 Q2 b h.g (Aq 17)++(T++(Fp X B s++(gB B s (Aq s.cs.length)++(C9 Q X A ca la s.h++L))))))) (cK b h.g (Aq 17)++(Yl B s++cK A s.h.g (Aq 17))):=
  (m.perm (bG λa=>by simp only[Sys.L,B1,B2];omega)).iP (bG λa=>by simp only[B1];omega)
 refine⟨_, _,⟨b,g1,c.1,c.2.1,c.2.2.1,c.2.2.2,f,i,cv.Ck j⟩,λ{d h' T'} K=>?_⟩;have n:=iB.qJ K;obtain⟨A',o, _, _, _, _,p,q,K⟩:=K;have K:=cv.IE j K;refine⟨A',p,q,o,n,B,rfl,A,ca,la,h1,k,l,?_⟩;exact(K.perm (bG λa=>by simp only[Sys.L,B1,B2];omega)).iP (bG λa=>by simp only[B1];omega)
theorem aab (H:MU Q X [] [] w0 w R s T L []) {f:Nat} (q:4<=f/\f<=4096) {K:Option Ag×Int×Unit->AC->Prop}
 (k: ∀Q2 X2 b,Q2.c=16*f->MH Q X Q2 X2 w0 b R s (h0 f) T L->K (some ⟨X2.hb,0,none⟩,0,()) b):
 az A2 40 (.bu [.one .ptr,.one (.int .i64)]) [aa (f:Int)] w K:=by
 obtain⟨B,rfl,A,ca,la,h1,i,j,l⟩:=H;have d:cv [] [] w0 w (T++(Fp X B s++(gB B s (Aq s.cs.length)++(C9 Q X A ca la s.h++L)))) ([]++(Yl B s++cK A s.h.g (Aq 17))):=l.iP (bG λa=>by simp only[B1,Fo];omega);refine Js (cv.Ck d).base (f:Int) (λc=>by omega) λ_ _ Q2 X2 b e K=>?_;rw[DA] at K e;refine k Q2 X2 b e ?_;have m:=iB.qJ K;obtain⟨A',n, _, _, _, _,o,p,K⟩:=K;have K:=cv.IE d K;refine⟨A',o,p,n,m,B,rfl,A,ca,la,h1,i,j,?_⟩;exact(K.perm (bG λa=>by simp only[Sys.L,B1,B2];omega)).iP (bG λa=>by simp only[B1];omega)
theorem MH.all (H:MH Q X Q2 X2 w0 w R s h T L):Ext w0 w:=by
 obtain⟨A,ca,la,h1,a,H⟩:=H;exact H.all
theorem MH.Km (H:MH Q X Q2 X2 w0 w R s h T L): ∃A c L0,bh Q2 [] c w w h.s L0/\(X2.hb,e9 Q2 X2 A h.g)∈L0/\ ∀{T' d s'},bh Q2 [] c w d s' (T'++L0)->MH Q X Q2 X2 w0 d R s (bq h s') (T'++T) L:=by
 obtain⟨c,L',⟨A,W,K⟩,J⟩:=H.hv;obtain⟨e,S,f⟩:=K.call;refine⟨A,e, _,S,B7,λ{T' d s'} S'=>J (T':=T') ⟨A,⟨W.iM,W.mp,W.gl,W.pt,W.gk⟩,?_⟩⟩;have b:=f S';exact⟨b.pos,b.Dv,b.le,b.XV,by
  obtain⟨ca,la,i⟩:=b.kn;exact⟨ca,la,i.perm (bG λa=>by
   show CW a (Q2.L ca la s' (dL Q2 X2 A h (a6 Q2 A h.g (Aq 17)++(T'++L'))))= _;simp only[Sys.L,B1,B2];omega)⟩⟩
theorem Nx {D G:List Nat} {M:List (Nat×B6)} (H:MU Q X D G w0 w R s T L M) (hc:Dh Q s.h.s) (n:Int) {K:Option Ag×Nat×Nat->AC->Prop} (k: ∀r f e,kh eW f r (gY s.h.s.1 0 n)->MU Q X D G w0 e R s (f++T) L M->K r e):
 az A2 45 (.el (.one .slice)) [ag (ae Q.bm),aa 0,aa n] w K:=by
 obtain⟨A,j,L0,S,l,m,J⟩:=H.sat;refine S.words hc 0 n λx rows e S g=>k x rows e g (J (T':=rows) (s':=s.h.s) ?_);obtain⟨a,b,c,d,ca,la,i⟩:=S;exact⟨a,b,c,d,ca,la,i.perm (bG λa=>by simp only[Sys.L,B1,B2];omega)⟩
end
end Mu
end Go.Proofs.YtlcenllcmeebhaaGreat
namespace Go.Proofs.YtlcenllcmeebhaaGreat.Mu
set_option maxRecDepth 100000
open Go.RX D
section
variable {Q:Sys} {X:HX} {Q2:Sys} {X2:HX} {w0 w w1:AC} {R:MR} {s:MS} {h:HS} {T L:List (Nat×List AI)}
theorem MH.do2 (H:MH Q X Q2 X2 w0 w R s h T L) (g: ∃gh,HI gh h) (e:Dh Q2 h.s) (v k:Int) {a b c:Int} (f:cF a) (hb:cF b) (hc:cF c) {K:RS->AC->Prop} (kk: ∀d,MH Q X Q2 X2 w0 d R s (kf h v k a b c) T L->K (wL h v k a b c,qD h v k a b c,()) d):
 az A2 42 (.el (.agg iv)) [ag (ae X2.hb),aa v,.agg ⟨fR k a b c⟩] w K:=λw1 h1=>by
 obtain⟨l,L',i,J⟩:=(H.ext h1).hv;obtain⟨gh,I⟩:=g;exact Pw i (I.rdy e) v k f hb hc λd j=>kk d (J (T':=[]) j)
theorem MH.fL (H:MH Q X Q2 X2 w0 w R s h T L) (f:Int) {K:Int->AC->Prop} (k: ∀a,MH Q X Q2 X2 w0 a R s (bq h (fb h.s f)) T L->K (iR h.s f) a):
 az A2 43 (.el (.one (.int .i64))) [ag (ae X2.hb),aa f] w K:=by
 obtain⟨A,c,L0,S,b,J⟩:=H.Km;exact yZ S b f λa S=>k a (J (T':=[]) S)
theorem MH.Y3 (H:MH Q X Q2 X2 w0 w R s h T L) {K:Option Ag->AC->Prop} (k: ∀a,MH Q X Q2 X2 w0 a R s h T L->K (ae Q2.bm) a):
 az A2 23 (.el (.one .ptr)) [ag (ae X2.hb)] w K:=by
 obtain⟨A,c,L0,S,b,J⟩:=H.Km;exact sa S b λa S=>k a (J (T':=[]) (s':=h.s) S)
theorem MH.abN (H:MH Q X Q2 X2 w0 w R s h T L) (i:Int) {K:Int×Int×Unit->AC->Prop} (k: ∀a,MH Q X Q2 X2 w0 a R s h T L->K (dE h.s.1 i,wH h.s.1 i,()) a):
 az A2 37 (.bu [.one (.int .u64),.one (.int .i64)]) [ag (ae Q2.bm),aa i] w K:=by
 obtain⟨A,b,L0,S,c,J⟩:=H.Km;exact S.load i λa S=>k a (J (T':=[]) (s':=h.s) S)
theorem MH.aac (H:MH Q X Q2 X2 w0 w R s h T L) (i v:Int) (hv:cF v) {K:Int->AC->Prop} (k: ∀a,MH Q X Q2 X2 w0 a R s (bq h (dJ h.s.1 i v,h.s.2)) T L->K (wH h.s.1 i) a):
 az A2 38 (.el (.one (.int .i64))) [ag (ae Q2.bm),aa i,ax v] w K:=by
 obtain⟨A,b,L0,S,c,J⟩:=H.Km;exact S.store i v hv λa S=>k a (J (T':=[]) S)
theorem MH.Wt (H:MH Q X Q2 X2 w0 w R s h T L) {K:Option Ag->AC->Prop} (k: ∀bp bf c rest a,MH Q X Q2 X2 w0 a R s h ((bp,[.slice (ae bf) h.s.2.length c])::(bf,flat eD h.s.2++rest)::T) L->K (ae bp) a):
 az A2 18 (.el (.one .ptr)) [ag (ae X2.hb)] w K:=by
 obtain⟨A,d,L0,S,b,J⟩:=H.Km;exact r_ S b λbp bf c rest a S=>k bp bf c rest a (J (T':=[_, _]) (s':=h.s) S)
theorem MH.aad (H:MH Q X Q2 X2 w0 w R s h T L) (hc:Dh Q2 h.s) (n:Int) {K:Option Ag×Nat×Nat->AC->Prop} (k: ∀r f e,kh eW f r (gY h.s.1 0 n)->MH Q X Q2 X2 w0 e R s h (f++T) L->K r e):
 az A2 45 (.el (.one .slice)) [ag (ae Q2.bm),aa 0,aa n] w K:=by
 obtain⟨A,j,L0,S,l,J⟩:=H.Km;refine S.words hc 0 n λx rows e S g=>k x rows e g (J (T':=rows) (s':=h.s) ?_);obtain⟨a,b,c,d,ca,la,i⟩:=S;exact⟨a,b,c,d,ca,la,i.perm (bG λa=>by simp only[Sys.L,B1,B2];omega)⟩
theorem MH.row (H:MH Q X Q2 X2 w0 w R s h T L) {e:El} {r:Option Ag×Nat×Nat} {l:List e.T} {a:List (Nat×List AI)} (b:kh e a r l) (c: ∀x∈a,x∈T):Sl w e r.1 l:=by
 obtain⟨L',M',U, _⟩:=H.mu;obtain⟨L0,K,h⟩:=U.base;exact b.sl K λx d=>h x (c x d)
end
theorem abO {f:Nat} (a:f<=4096):gq .i64 16 (f:Int)=((16*f:Nat):Int):=by
 show aG .i64 (16*(f:Int))= _;rw[bK (by omega)];omega
theorem BG {e:El} {rows:List (Nat×List AI)} {r:Option Ag×Nat×Nat} {l:List e.T} (h:kh e rows r l):r.2.1=l.length:=h.1
theorem HY (x:jg sX3) (S:kl sX3 x) (p:Option Ag) (m c:Nat) (xs:List (jg sOp)) (hm:m=xs.length) (hmx:m<=maxLen) {w:AC} (hs:Sl w (.agg sOp) p xs) (hxs: ∀x∈xs,kl sOp x):
 aD A2 6 (.el (.one .bool)) [.agg ⟨a_ _ x⟩,.slice p m c] w (λb w'=>b=true/\Ext w w'):=by
 obtain⟨F,x1,G,u⟩:=x;refine ai (C:=U6) (aQ:=qZ) (B5 (Nw F x1 G p m c w _) ?_);refine aM.go (At.start [] w) λb1 w2 H=>⟨⟨rfl,by decide,by decide⟩,aj.at 0 H rfl (show _=some F from rfl) ⟨⟨rfl,by decide,by decide⟩,aj.at 0 H rfl (show _=some x1 from rfl) ⟨⟨rfl,by decide,by decide⟩,aj.at 0 H rfl (show _=some G from rfl) ?_⟩⟩⟩;rw[show aI .i64 20 (ff (aG .i64 F) 60)= _ from Y1 S.1 20 60 (by decide) (by decide),show aI .i64 1 (ff (aG .i64 x1) 8)= _ from Y1 S.2.1 1 8 (by decide) (by decide),show aI .i64 1 (ff (aG .i64 G) 8)= _ from Y1 S.2.2.1 1 8 (by decide) (by decide)];have hn:1<=1+x1.toNat % 8/\1+x1.toNat % 8<=8:=by have:=Hb x1.toNat (show 0<8 by decide);omega
 have hl:1<=((1+G.toNat % 8:Nat):Int)/\((1+G.toNat % 8:Nat):Int)<=64:=by have:=Hb G.toNat (show 0<8 by decide);omega
 have hf:20<=20+F.toNat % 60/\20+F.toNat % 60<=4096:=by have:=Hb F.toNat (show 0<60 by decide);omega
 generalize 1+x1.toNat % 8=n at hn;generalize ((1+G.toNat % 8:Nat):Int)=ln at hl;generalize 20+F.toNat % 60=f at hf;have Bs:=(Wf hf hn hl).2.2;refine BF H f n ln hf hn hl λQ X R w4 H q=>?_;generalize hL0:[(b1,[Value.int .u8 F,.int .u8 x1,.int .u8 G])]=L0 at H;clear hL0;refine aab H (by omega) λQ2 X2 w5 hQ2 H=>an rfl ?_;have N:=Bs.rp;have O:=Bs.len;refine⟨λi st w5=> ∃(j:Nat) (s:MS),j<=m/\j<=300/\i=m - j/\st.1=(j:Int)/\MG Q n (2+j) s/\Rp (h0 f) s.ms s.h/\s.h.s.2.length=f/\MH Q X Q2 X2 w w5 R s (h0 f) [] L0,⟨m,λw5 h5=>⟨0, _,by omega,by omega,rfl,rfl,q,N,O,H.ext h5⟩⟩,?_⟩;clear H q Bs N O;rintro i ⟨W, _⟩ w5 ⟨j,s,hj,NU,Y,hi,q,N,O,H⟩;have hi:W=(j:Int):=hi;subst hi Y;dsimp only;refine ab (λz=>?_) (λz=>?_)
 ·have hjm:j<m/\j<300:=by
   simp only[Dj,decide_eq_true_eq] at z;omega
  obtain⟨o,ho⟩: ∃o,xs[j]? =some o:=⟨_,DB (by omega)⟩;obtain⟨a1,a2⟩:=(hs.ext H.all) j o ho;have hoo:=abL (hxs o (Dg ho));obtain⟨L',M',U,J⟩:=H.mu;refine⟨⟨a1,by omega,by omega⟩,aj.of o (by rw[DA];exact a2) (Z_ U q (by omega) o λw6 U w8 h8=>⟨m - (j+1),by omega,j+1, _,by omega,by omega,rfl,by rw[aw (by omega) (by omega)];omega,q.op' hoo,?_,?_,(J U).ext h8⟩)⟩
  ·unfold opM;split
   ·exact PJ N _ _ _
   ·exact JM q.Tv N _
  ·unfold opM;split
   ·rw[abM];exact O
   ·exact(Nv q.Tv _).trans O
 have B:=q.bn (by omega);obtain⟨gh,ta,Mi⟩:=q.Tv;have gW:=Mi.hi.sz;obtain⟨e1,e2⟩:=Ws N;have aaO: ∀l:List MT,Dh Q2 (Im (h0 f) l).s:=λl=>by
  have:(Im (h0 f) l).s.1.length=16*f:=(JQ (h0 f) l).trans Dq;exact⟨by rw[this,hQ2];exact Dr _,by rw[this];omega⟩
 obtain⟨L',M',U,J⟩:=H.mu;refine BD U (by have:=q.ms;omega) λr M w6 hs6 U=>?_;have H:=J U;have hr:=hs6.1;rw[Dc] at hr;have hms:=q.ms;clear U J;refine⟨λi st w7=> ∃j:Nat,j<=s.ms.length/\i=s.ms.length - j/\st.1=(j:Int)/\MH Q X Q2 X2 w w7 R s (Im (h0 f) (s.ms.take j)) (M++[]) L0,⟨s.ms.length,λw7 h7=>⟨0,by omega,rfl,rfl,H.ext h7⟩⟩,?_⟩;clear H;rintro i ⟨W, _⟩ w7 ⟨i0,FC,Y,hi,H⟩;have hi:W=(i0:Int):=hi;subst hi Y;dsimp only;refine ab (λz=>?_) (λz=>?_)
 ·have lT:i0<s.ms.length:=by have:=of_decide_eq_true z;omega
  obtain⟨k,hk⟩: ∃k,s.ms[i0]? =some k:=⟨_,DB lT⟩;have o:=e2 i0 k hk;have hfw:=aaO (s.ms.take i0);have Z: ∀{t},MH Q X Q2 X2 w t R s (Dl (Im (h0 f) (s.ms.take i0)) k) (M++[]) L0-> ∀v,Ext t v-> ∃n',n'<s.ms.length - i0/\ ∃j:Nat,j<=s.ms.length/\n'=s.ms.length - j/\aI .i64 (i0:Int) 1=(j:Int)/\MH Q X Q2 X2 w v R s (Im (h0 f) (s.ms.take j)) (M++[]) L0:=λH v C4=>⟨s.ms.length - (i0+1),by omega,i0+1,by omega,rfl,by rw[aw (by omega) (by omega)];omega,by rw[Tj hk];exact H.ext C4⟩;generalize Im (h0 f) (s.ms.take i0)=h at H o hfw Z;obtain⟨L',M',U,J⟩:=H.mu;obtain⟨a1,a2⟩:=U.sl hs6 (λy hy=>BY _ hy) (i:=i0) (x:=TV k) (by rw[Ga,hk];rfl);refine⟨⟨a1,by omega,by omega⟩,aj.of (TV k) (by rw[DA];exact a2) (U.al λb w8 U=>U.st 0 rfl rfl rfl λt U=>?_)⟩;obtain⟨kk,A,a,⟨kc,I,K,L,⟨⟩⟩,d,kE⟩:=k;have drop: ∀{t h} {row:Nat×List AI},MH Q X Q2 X2 w t R s h (row::(M++[])) L0->MH Q X Q2 X2 w t R s h (M++[]) L0:=λ{t h row} H=>by
   obtain⟨L',M',U,J⟩:=H.mu;exact J (U.sub (Bx _ _))
  have P: ∀{t h} {l:List AI},MH Q X Q2 X2 w t R s h ((b,l)::(M++[])) L0-> ∀{el:El} {n:Nat} {x:el.T},kr l n el=some x->cC t (ad (ae b) n) el x:=λ{t h l} H {el n x} hv=>by
   obtain⟨L',M',U,J⟩:=H.mu;exact U.rd 0 rfl hv
  refine⟨rfl,U.cg 0 rfl (show _=some kk from rfl) (ab (λc1=>?_) (λc1=>ab (λc2=>?_) (λc2=>ab (λc3=>?_) (λc3=>?_))))⟩
  ·have c1:kk=1:=by simpa using c1
   obtain⟨D,E,q3,q4,q5⟩:=o.call c1;have D:wL h A kc I K L=d:=D;have E:qD h A kc I K L=kE:=E;refine⟨rfl,U.cg 0 rfl (show _=some A from rfl) ⟨rfl,U.cg 0 rfl (show _=some (kc,I,K,L,()) from rfl) ⟨rfl,U.cg 0 rfl (show _=some (d,kE,()) from rfl) ((J U).do2 o.hi hfw A kc q3 q4 q5 λv H=>⟨P H (show _=some (d,kE,()) from rfl),trivial,an (by rw[D,E];simp) (Z ?_)⟩)⟩⟩⟩;have e:Dl h (kk,A,a,(kc,I,K,L,()),d,kE)=kf h A kc I K L:=ay c1;rw[e];exact drop H
  ·have c2:kk=2:=by simpa using c2
   have D:iR h.s a=0:=o.free c2;refine⟨rfl,U.cg 0 rfl (show _=some a from rfl) ((J U).fL a λv H=>an (by rw[D];rfl) (Z ?_))⟩;have e:Dl h (kk,A,a,(kc,I,K,L,()),d,kE)=bq h (fb h.s a):=by
    unfold Dl;rw[au (by show ¬ kk=1;omega),ay c2]
   rw[e];exact drop H
  ·have c3:kk=3:=by simpa using c3
   obtain⟨D,E,q3⟩:=o.load c3;have E:dE h.s.1 a=d:=E;refine⟨rfl,U.cg 0 rfl (show _=some a from rfl) ((J U).Y3 λv H=>⟨P H (show _=some a from rfl),trivial,H.abN a λm9 H=>⟨rfl,rfl,aj.of d (show cC _ (ad (ae b) 7) (.one (.int .u64)) d from P H rfl) (an ?_ (Z ?_))⟩⟩)⟩
   ·have:wH h.s.1 a=0:=by unfold wH;rw[show sq h.s.1 a=true from D];rfl
    rw[E,this];simp
   ·have e:Dl h (kk,A,a,(kc,I,K,L,()),d,kE)=h:=by
     unfold Dl;rw[au (by show ¬ kk=1;omega),au (by show ¬ kk=2;omega),ay c3]
    rw[e];exact drop H
  ·have c1:kk≠1:=by simpa using c1
   have c2:kk≠2:=by simpa using c2
   have c3:kk≠3:=by simpa using c3
   have c4:kk=4:=by have:=o.kd;have:1<=kk/\kk<=4:=this;omega
   obtain⟨D,E⟩:=o.store c4;refine⟨rfl,U.cg 0 rfl (show _=some a from rfl) ⟨rfl,rfl,aj.of d (show cC _ (ad (ae b) 7) (.one (.int .u64)) d from P (J U) rfl) ((J U).Y3 λv H=>⟨(show cC _ (ad (ae b) 7) (.one (.int .u64)) d from P H rfl),trivial,trivial,P H (show _=some a from rfl),trivial,H.aac a d E λm9 H=>an ?_ (Z ?_)⟩)⟩⟩
   ·have:wH h.s.1 a=0:=by unfold wH;rw[show sq h.s.1 a=true from D];rfl
    rw[this];rfl
   ·have e:Dl h (kk,A,a,(kc,I,K,L,()),d,kE)=bq h (dJ h.s.1 a d,h.s.2):=by
     unfold Dl;rw[au c1,au c2,au c3]
    rw[e];exact drop H
 ·have lT:i0=s.ms.length:=by have:=of_decide_eq_false z;omega
  subst lT;rw[IR, <-e1] at H;clear z hs6 hr e2;obtain⟨L',M',U,J⟩:=H.mu;refine⟨_,zc U,zJ U λbp bf cf rest w8 U=>(J U).Wt λbp2 bf2 cf2 DN t H=>?_⟩;generalize hT:((bp2,[Value.slice (ae bf2) s.h.s.2.length cf2])::(bf2,flat eD s.h.s.2++DN)::(bp,[.slice (ae bf) s.h.s.2.length cf])::(bf,flat eD s.h.s.2++rest)::(M++[]))=T at H;have m1:(bp2,[Value.slice (ae bf2) s.h.s.2.length cf2])∈T/\(bf2,flat eD s.h.s.2++DN)∈T/\(bp,[Value.slice (ae bf) s.h.s.2.length cf])∈T/\(bf,flat eD s.h.s.2++rest)∈T:=by rw[<-hT];simp
  obtain⟨m1,m2,m3,m4⟩:=m1;clear hT U J;refine⟨λi st v=> ∃j:Nat,j<=f/\i=f - j/\st.1=(j:Int)/\MH Q X Q2 X2 w v R s s.h T L0,⟨f,λv C4=>⟨0,by omega,rfl,rfl,H.ext C4⟩⟩,?_⟩;clear H;rintro i ⟨W, _⟩ v ⟨g,hg,Y,hi,H⟩;have hi:W=(g:Int):=hi;subst hi Y;dsimp only;obtain⟨L',M',U,J⟩:=H.mu;refine ab (λz=>?_) (λz=>?_)
  ·have hgf:g<f:=by have:=of_decide_eq_true z;omega
   refine⟨_,Xv U m3 m4 g,U.al λb m9 U=>U.st 0 rfl rfl rfl λCY U=>⟨_,Xv U (B3 _ m1) (B3 _ m2) g,U.al λb2 Nz U=>U.st 0 rfl rfl rfl λIe U=>?_⟩⟩;dsimp only at U;generalize oE s.h.s.2 (g:Int)=V at U;obtain⟨v1,v2,v3,v4,⟨⟩⟩:=V;refine U.ld 1 rfl (show _=some (v1,v2,v3,v4,()) from rfl) (U.ld 0 rfl (show _=some (v1,v2,v3,v4,()) from rfl) (an (by simp) λWE h15=>⟨f - (g+1),by omega,g+1,by omega,rfl,by rw[aw (by omega) (by omega)];omega,(J (U.sub ((Bx _ _).trans (Bx _ _)))).ext h15⟩))
  ·have hlw:s.h.s.1.length=16*f:=by rw[gW,O]
   have N3:gY s.h.s.1 0 ((16*f:Nat):Int)=s.h.s.1:=by rw[<-hlw];exact VN _ (by omega)
   rw[abO hf.2];have hfs:Dh Q s.h.s:=q.J4;have FD:Dh Q2 s.h.s:=by rw[e1];exact aaO _
   refine⟨_,zc U,se U λm9 U=>Nx U hfs _ λr1 Lr1 CY NB U=>(J U).Y3 λNz H=>H.aad FD _ λr2 Lr2 Ie Av H=>?_⟩;rw[N3] at NB Av;have s1:=H.row NB (λy hy=>BJ _ (BY _ hy));have s2:=H.row Av (λy hy=>BY _ hy);have l1:r1.2.1=s.h.s.1.length:=BG NB;have l2:r2.2.1=s.h.s.1.length:=BG Av;refine λWE h15=>(P6 (s1.ext h15) l1 (s2.ext h15) l2 (by omega)).mono λb WG ⟨hb,S⟩=>aB (by rw[hb];exact decide_eq_true rfl) ?_;obtain⟨L',M',U,J⟩:=(H.ext (h15.trans S)).mu;exact Z' U
end Go.Proofs.YtlcenllcmeebhaaGreat.Mu
