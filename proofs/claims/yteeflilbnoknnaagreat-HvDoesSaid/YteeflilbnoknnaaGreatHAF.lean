import Derived.Test.YteeflilbnoknnaaGreatHAE
/-! What the statement leans on: texts joined and shortened by a program of mine. -/
set_option linter.unusedVariables false
set_option linter.unusedSimpArgs false
open Go renaming World->A2,Addr->AE,Value->AR
open Go.Proofs.Tryz renaming prog->AC
open Int renaming toNat->AG
open Go.IntKind renaming i64->AT,min->FS,max->Fe,bits->Ff,signed->Fh
open List renaming sublist_cons_self->AU,replicate->AZ,range->B2,getElem?_set_ne->B3,getElem?_set_self->B4,mem_cons_self->B5,getElem?_eq_some_iff->C9,length_set->Ce,mem_of_getElem?->Ch,getElem?_eq_getElem->Cs,mem_cons_of_mem->Ct,length_replicate->DA,append_nil->DB,getD_eq_getElem?_getD->DC,ext_getElem?->DS,getElem?_replicate->Da,length_cons->Do,mem_range->Dt,mem_append_right->Du,mem_map->Dx,eq_of_mem_replicate->E4,getElem?_append_left->E5,getElem?_map->FA,getElem?_range->FB,append_assoc->FC,eq_nil_iff_forall_not_mem->FJ,mem_filter->Fk,set_cons_succ->Fm,length_append->Fz,perm_append_comm->GS,mem_append_left->Gi,getElem?_eq_none->H2,range_succ->H4,map_append->H5,map_congr_left->H6,perm_middle->H7
open Eq renaming mpr->B1
open Classical renaming byContradiction->C7
open Nat renaming le_refl->Df,zero_le->Dl,zero_add->Dm,eq_zero_or_pos->H8
open Int.ofNat renaming inj->Dn
open Bool renaming not_eq_true'->H9,and_eq_true->HB,and_eq_false_iff->HD
namespace Go.Proofs.YteeflilbnoknnaaGreat
set_option maxRecDepth 100000
open Go.RX D
theorem Inv.YQ {g:Gh} {s:WD} (I:Inv g s) (nl:A0 g s) {o r p t:Int} (c:g r=some (o,3,0)) (b:0<=p/\p<65536) (P:0<=t/\t<=7):
 if(bC s r false p).2.2.1=0 then rJ s.1 r p t=((bC s r false p).1,(bC s r false p).2.1,0,(if gy true (bC s r false p).2.1 false (bC s r false p).1 t=true then 0 else 7),()) else(rJ s.1 r p t).2.2.2.1=4:=by
 obtain⟨f,j, _,a⟩:=I.kG c b;rw[I.gv c b a];have v:=I.kd a.1;have w:=v.2.2.2.2.2;obtain⟨b1,b2,b3⟩:=I.pQ a.1;obtain⟨y,z,Q⟩:=I.pQ c;have hi:=fC p j;have d:=ko ⟨b1,b2⟩ b w;have i:=a.2;have A:=I.wf a.1 hi.1 hi.2;have C:=nl a.1 hi.1 hi.2;have D:=I.leaf a.1 hi.1 hi.2;have E:=oO s.1 (16*f+px j p % 16);have F:Cm r p t=false:=by
  unfold Cm;have G:c9 r p 3=16*r+px 3 p % 16:=ko ⟨y,z⟩ b (l:=3) (by omega);have R:=fC p 3;rw[G,decide_eq_false (by omega),decide_eq_false (by omega),decide_eq_false (by omega)];rfl
 have H:rJ s.1 r p t=(lj s.1 r p t 4).2.2:=ar (by rw[F];decide);have J:=I.IT (t:=t) c b (3 - j) (by omega) a.1;have K:oX s.1 (c9 f p (j:Int))=true:=by rw[d];exact jX (by omega) (by omega)
 have L:oh (B (eY s.1 (c9 f p (j:Int)))).toNat=true:=by
  rw[d];cases hb:(aO s.1 (16*f+px j p % 16)).1 with
  |true=>exact Ol hb
  |false=>rw[A hb];decide+kernel
 have n:lj s.1 r p t (3 - j+1)=tookS f p t (j:Int) (0,0,0,0,()) (aO s.1 (16*f+px j p % 16)).1 (aO s.1 (16*f+px j p % 16)).2.1 (aO s.1 (16*f+px j p % 16)).2.2.1 (aO s.1 (16*f+px j p % 16)).2.2.2.1:=by
  rw[lj,J,IS K L,d]
 generalize aO s.1 (16*f+px j p % 16)=e at*
 obtain⟨ep,er,el,ef,S⟩:=e;dsimp only at*
 have q: ∀x:FT,tookS f p t (j:Int) (0,0,0,0,()) ep er el ef=(f,-1,x)->rJ s.1 r p t=x:=λx u=>by
  rw[H];have M:(lj s.1 r p t (3 - j+1)).2.1= -1:=by rw[n,u]
  have:=CH M j;rw[show 3 - j+1+j=4 by omega] at this;rw[this,n,u]
 cases ep with
 |false=>
  rw[q (tD (j:Int) 4) (by unfold tookS;rfl)];unfold rL tD;simp
 |true=>
  have k:cP true er el ef=false:=i;obtain⟨T,U,N,k4,k5⟩:=oH.1 E;have O:=C rfl i;subst O;have m:el=false:=by
   rcases D rfl i with ⟨_,m⟩|⟨h, _⟩
   .exact m
   .exact absurd h (by decide)
  subst m;have V:er>0:=by
   refine C7 λhc=>?_;have:er=0:=by omega
   subst this;have:=fk ⟨N,k4⟩;unfold eM cw at this;dsimp only at this;rw[this] at k;cases k
  rw[q (AV 0 t ef true er false ef) (by
   unfold tookS;rw[ar (by decide),k,ar (by decide),ar (by decide),az (by simp;omega)];rfl)]
  unfold rL AV;rw[az rfl,ar (show ¬ ((0:Nat)=1) by decide)];dsimp only;rw[az rfl,ar (by omega)];split<;>rfl
theorem Ll {fr:HL} {v:Nat} {p:Int} {y:Option Int} (h:fr v p=y):ov fr v p y=fr:=by
 funext i q;unfold ov;split
 .rename_i c;rw[c.1,c.2,h]
 .rfl
section
variable {gh:Gh} {h:HS}
namespace HI
theorem po (H:HI gh h) (yx:List Po.PT):HI gh (kr h yx):=
 ⟨H.inv,H.rt,H.nl,H.sz,H.jI,H.root,H.own,H.hc⟩
theorem grs (H:HI gh h) {ki:List GT} (hc:HC (pS h) (kA h) h.s.2 ki):HI gh (cY h ki):=
 ⟨H.inv,H.rt,H.nl,H.sz,H.jI,H.root,H.own,hc⟩
theorem YR (H:HI gh h) (v a:Int):HI gh (jY h v a):=by
 unfold jY;split
 .exact H
 .refine H.grs (H.hc.Oi (qo _ _ _) (H.hc.gk.rev _ _) (λ{n x y} b c=>?_) λ{n x} b g=>?_)
  .unfold jf at c;by_cases e:mQ h.gr a v=0
   .rw[az e] at c;by_cases en:a.toNat=n
    .subst en;rw[B4 (C9.1 b).1] at c;cases c;unfold mQ at e;cases d:jF h.gr a with
     |none=>rw[d] at e;exact absurd (show(4:Int)=0 from e) (by decide)
     |some k=>
      rw[d] at e;dsimp only at e;have ⟨i,j,l⟩:=gA.1 d;have f:a.toNat=k:=by omega
      rw[f] at b;rw[getD_some b] at e;have:=(H.hc.gk x (Ch b)).2;split at e
      .exact absurd e (by decide)
      .split at e
       .exact absurd e (by decide)
       .show(0:Int)= _;omega
    .rw[B3 en,b] at c;cases c;rfl
   .rw[ar e,b] at c;cases c;rfl
  .unfold jf;by_cases e:mQ h.gr a v=0
   .rw[az e];by_cases en:a.toNat=n
    .subst en;unfold mQ at e;cases d:jF h.gr a with
     |none=>rw[d] at e;exact absurd (show(4:Int)=0 from e) (by decide)
     |some k=>
      rw[d] at e;dsimp only at e;have ⟨i,j,l⟩:=gA.1 d;have f:a.toNat=k:=by omega
      rw[f] at b;rw[getD_some b] at e;rw[az g] at e;split at e
      .exact absurd e (by decide)
      .exact absurd e (by decide)
    .rw[B3 en];exact b
   .rw[ar e];exact b
theorem offer (H:HI gh h) (v a b c:Int):HI gh (kH h v a b c):=by
 unfold kH;split
 .have j: ∀{n:Nat} {x:GT},iT h.gr v a b=0->(gU h.gr v a b).toNat=n->h.gr[n]? =some x->x=zG:=λ{n x} e en d=>by
   unfold gU at en;rw[az e] at en;have q:cI h.gr dN h.gr.length≠[]:=λhc=>by
    unfold iT at e;split at e
    .exact absurd e (by decide)
    .split at e
     .exact absurd e (by decide)
     .exact absurd e (by decide)
   have ⟨y,l,k⟩:=List.exists_cons_of_ne_nil q;have m:y∈cI h.gr dN h.gr.length:=by rw[k];exact B5
   rw[k] at en;have en:y.toNat=n:=en;unfold cI at m;obtain⟨i,hi,rfl⟩:=Dx.1 m;have o:=(Fk.1 hi).2;have r:i=n:=en;subst r;rw[getD_some d] at o;simpa[dN] using o
  have s:(ib h.gr v a b (c==1)).length=h.gr.length:=by
   unfold ib;split
   .rw[Ce]
   .rfl
  refine H.grs (H.hc.Oi s (H.hc.gk.off _ _ _ _) (λ{n x y} d f=>?_) λ{n x} d p=>?_)
  .unfold ib at f;by_cases e:iT h.gr v a b=0
   .rw[az e] at f;by_cases en:(gU h.gr v a b).toNat=n
    .have g:=j e en d;subst en;rw[B4 (C9.1 d).1] at f;cases f;rw[g];rfl
    .rw[B3 en,d] at f;cases f;rfl
   .rw[ar e,d] at f;cases f;rfl
  .unfold ib;by_cases e:iT h.gr v a b=0
   .rw[az e];by_cases en:(gU h.gr v a b).toNat=n
    .have g:=j e en d;rw[g] at p;exact absurd p (by decide)
    .rw[B3 en];exact d
   .rw[ar e];exact d
 .exact H
theorem UT (H:HI gh h) {v:Int} (l:aV h.g v=true) {a b:Int} (e:pk h v a b=0): ∃iE,HI iE (iU h v a b)/\xK h (iU h v a b) (λi q=>i=v.toNat/\q=a) (-1)/\(pH h v.toNat a).2.2.1=0/\pH (iU h v a b) v.toNat a=((pH h v.toNat a).1,b,0,())/\(iU h v a b).g=h.g/\wv v gh iE h.s (iU h v a b).s:=by
 have ⟨x,c,o,hv, _⟩:=bK l;unfold pk at e;unfold iU;split at e
 .exact absurd e (by decide)
 rename_i p;rw[ar p];split at e
 .exact absurd e (by decide)
 rename_i r;rw[ar r];split at e
 .exact absurd e (by decide)
 rename_i t;rw[ar t];rw[o] at e ⊢;obtain⟨n,rfl⟩: ∃n:Nat,v=(n:Int):=⟨v.toNat,hv.symm⟩;have c:h.g n=some x:=c;have ⟨B,g',C,f,j, _⟩:=H.inv.tR (H.root c) e;have u:pS h n a=some (bC h.s x.root false a).1:=by rw[cZ c,az f]
 have k:=H.zh c (s1:=h.s) (λ_ _=>rfl) H.inv C (y:=some (bC h.s x.root false a).1) (by rw[j,az rfl]) (h':=bz h (pY h.s (n:Int) x.root false a b)) rfl (λ_=>rfl);rw[Ll u] at k;rw[show((n:Int)).toNat=n from rfl];have w:(bz h (pY h.s (n:Int) x.root false a b)).g n=some x:=c;refine⟨g',H.base C ⟨rfl,rfl⟩ H.nl rfl (λ_=>rfl) ?_,⟨H.F5 (λ_ _=>rfl) H.inv C (h':=bz h (pY h.s (n:Int) x.root false a b)) rfl (λ_=>rfl),λ{m d d'} z A _ _ _=>C.kp.ws z A,C.kd⟩,by rw[cD c];exact f,by rw[cD c,cD w];exact j,rfl,C.gks⟩;rw[k];exact Kept.hc H.hc C.kp
theorem UU {v a b:Int} (e:pk h v a b≠0):iU h v a b=h:=by
 unfold pk at e;unfold iU;split
 .rfl
 rename_i c;rw[ar c] at e;split
 .rfl
 rename_i d;rw[ar d] at e;split
 .rfl
 rename_i f;rw[ar f] at e;rw[UF e];rfl
theorem tR (H:HI gh h) {v:Int} (c:aV h.g v=true) (a b:Int): ∃iE,HI iE (iU h v a b):=by
 by_cases e:pk h v a b=0
 .have ⟨g',d, _⟩:=H.UT c e;exact⟨g',d⟩
 .rw[UU e];exact⟨gh,H⟩
end HI
end
set_option maxRecDepth 100000
open Go.RX D
section
variable {gh:Gh} {h:HS}
theorem jB {gh:Gh} {s s':WD} (I:Inv gh s) (a:s'.1.length=s.1.length/\s'.2.length=s.2.length)
 (c: ∀b:Int,eY s'.1 b≠eY s.1 b-> ∃(n:Nat) (d:DT),s.2[n]? =some d/\d.1≠3/\16*(n:Int)<=b/\b<16*(n:Int)+16)
 (hd: ∀{n:Nat} {d d':DT},s.2[n]? =some d->s'.2[n]? =some d'->(d'=d\/(d.1≠3/\d'.1≠3/\(d'.1=0->d'=zD)))):Inv.gx gh s s' where
 len:=a
 ws:=λ{f o x k l} g h0 r=>by
  refine C7 λi=>?_;have ⟨n,d,t,u,v,w⟩:=c _ i;have y:=I.kd g;have e:f.toNat=n:=by omega
  grind
 tb:=λ{d} h j=>by
  grind
 bt:=λ{n d} h j=>by
  grind
 fz:=λd m h0=>by
  have ⟨n,p⟩:=List.getElem?_of_mem m;have q:n<s.2.length:=by grind
  have h':s.2[n]? =some s.2[n]:=Cs q;rcases hd h' p with e|⟨_, _,e⟩
  .rw[e] at h0 ⊢;exact I.fz _ (Ch h') h0
  .exact e h0
theorem rA {ds:List DT} {n m:Nat} {d0 d1 d d':DT} (h0:ds[n]? =some d0) (h:ds[m]? =some d) (h':(ds.set n d1)[m]? =some d'):(m=n/\d=d0/\d'=d1)\/(m≠n/\d'=d):=by
 grind
namespace HI
theorem Xe (H:HI gh h) {i:Nat} {p f:Int} (a:pS h i p=some f): ∃(n:Nat) (d:DT),f=(n:Int)/\h.s.2[n]? =some d/\d.1=4/\1<=d.2.1/\d.2.1<=16/\d=(4,d.2.1,(dH (kA h) (n:Int):Int),0,()):=by
 have ⟨n,d,e,h2,b⟩:=H.hc.at4 a;have ⟨j,q,g,c, _⟩:=H.hc.Sq h2 b;have:=H.hc.jI c;obtain:=H.hc.kd h2;have k:=H.hc.refs h2
 grind
structure abv (h h':HS) (v:Nat) (a b:Int) (f:Nat):Prop where
 g:h'.g=h.g
 gr:h'.gr=h.gr
 po:h'.po=h.po
 was:(pH h v a).2.2.1=4
 pg:pH h' v a=((f:Int),b,0,())
 fr:h.s.2[f]? =some zD
 f4:h'.s.2[f]? =some (4,(v:Int),0,0,())
 ef:xK h h' (λi q=>i=v/\q=a) (f:Int)
 zr: ∀k:Int,0<=k->k<16->eY h'.s.1 (16*(f:Int)+k)=0
 ct:cB h.s.2 0<=cB h'.s.2 0+4
theorem YS (H:HI gh h) {v:Int} (V:aV h.g v=true) {a b:Int} (o:mJ h v a b=0): ∃iE f,HI iE (gE h v a b)/\abv h (gE h v a b) v.toNat a b f/\ft h v=(f:Int)/\wv v gh iE h.s (gE h v a b).s:=by
 have ⟨x,p,K,hv,X,Y⟩:=bK V;unfold mJ at o;unfold gE;by_cases L:a>=65536
 .rw[az L] at o;exact absurd o (by decide)
 rw[ar L] at o ⊢;by_cases M:b<1\/b>7
 .rw[az M] at o;exact absurd o (by decide)
 rw[ar M] at o ⊢;by_cases w:cJ h.s.2 4 v=0
 case neg=>rw[az w] at o;exact absurd o w
 rw[ar (λe=>e w)] at o ⊢;have ⟨n,Z,r,t1,t2,t3⟩:=tf (rz w) H.inv.fz ⟨X,Y⟩;have N:ft h v=(n:Int):=t1;have u:jd h v=(h.s.1,h.s.2.set n (4,v,0,0,())):=by unfold jd;rw[t3]
 have hM:lu h v a b=js (jd h v) v (aY h.g v) false a (ft h v) b:=rfl;rw[ar (λe=>e o)];rw[hM,N,K];rw[N,K] at o;obtain⟨m,rfl⟩: ∃m:Nat,v=(m:Int):=⟨v.toNat,hv.symm⟩;have p:h.g m=some x:=p;have hlen:=H.sz;have B:Inv.gx gh h.s (jd h (m:Int)):=by
  rw[u];refine jB H.inv ⟨rfl,by rw[Ce]⟩ (λb hb=>absurd rfl hb) λ{i d d'} D h2=>?_;rcases rA r D h2 with ⟨_,e1,E⟩|⟨_,E⟩
  .exact .inr ⟨by rw[e1];decide,by rw[E];exact(show ¬ (4:Int)=3 by decide),by grind⟩
  .exact .inl E
 have A:=H.inv.beside B;have ⟨hp,g',C,O,q2,P, _,⟨f0,j,hE,hc⟩, _⟩:=A.map (H.root p) o;have hj:=(A.kd hE.1).2.2.2.2.2;have hcT:cB (jd h (m:Int)).2 0+1=cB h.s.2 0:=by
  rw[u];have:=tS (d':=((4:Int),(m:Int),(0:Int),(0:Int),())) r 0;exact this
 have th:pS h m a=none:=by
  rw[cZ p, <-H.inv.fl B (H.root p),ar (by rw[P];decide)]
 have hc1:HC (ov (pS h) m a (some (n:Int))) (kA h) (jd h (m:Int)).2 h.gr:=by
  rw[u];exact H.hc.F4 (by omega) hp r rfl th
 have ME:=Kept.hc hc1 C.kp;have kp:=C.kp;have Q:(jd h (m:Int)).1=h.s.1:=rfl;generalize js (jd h (m:Int)) (m:Int) x.root false a (n:Int) b=l at*
 have rF:=H.zh p (λ{i z} F q=>H.inv.fl B (H.root F) q) A C (y:=some (n:Int)) (by rw[O,az rfl]) (h':=bz h l) rfl (λ_=>rfl);have G:HI g' (bz h l):=H.base C B.len (Inv.n_ B H.nl) rfl (λ_=>rfl) (by rw[rF];exact ME);have R:l.2[n]? =some (4,(m:Int),0,0,()):=C.kp.ks (by rw[u];exact B4 Z) rfl;have AX:l.2.length=h.s.2.length:=by rw[C.len.2,B.len.2]
 have AW:l.1.length=h.s.1.length:=by rw[C.len.1,B.len.1]
 have S:(dz l.1 (n:Int) (λ_=>0) 16).length=l.1.length:=gN _ _ _ _;have I: ∀b,eY (dz l.1 (n:Int) (λ_=>0) 16) b=if 16*(n:Int)<=b/\b<16*(n:Int)+16 then 0 else eY l.1 b:=λb=>qO (by omega) (by omega) 16 (Df _) b;generalize dz l.1 (n:Int) (λ_=>0) 16=W at S I ⊢;have T:Inv.gx g' l (W,l.2):=by
  refine jB C.inv ⟨S,rfl⟩ (λb hb=>⟨n, _,R,(show ¬ (4:Int)=3 by decide),?_⟩) λ{i d d'} D h2=>?_
  grind
  .rw[D] at h2;cases h2;exact .inl rfl
 have H3:=G.side (ki:=h.gr) (yx:=h.po) T G.hc;have U: ∀{i:Nat} {q:Int},pH {s:=(W,l.2),g:=h.g,gr:=h.gr,po:=h.po} i q=pH (bz h l) i q:=λ{i q}=>by
  cases hi:h.g i with
  |none=>unfold pH;rw[show(bz h l).g i=none from hi];dsimp only;rw[hi]
  |some z=>rw[cD (h:=bz h l) hi,cD (h:={s:=(W,l.2),g:=h.g,gr:=h.gr,po:=h.po}) hi];exact C.inv.fl T (G.root hi) q
 refine⟨g',n,H3,⟨rfl,rfl,rfl,?_,?_,r,R,⟨⟨λ{i q} hn=>?_⟩,λ{i d d'} hd h4 _ _ cO k k0 J=>?_,KD.trans (t:=jd h (m:Int)) (by rw[u];exact KD.set r (λc=>absurd c (by decide)) (λc=>absurd c (by decide))) (C.kd.trans (.refl rfl))⟩,λk k0 J=>?_,?_⟩,rfl,((wv.kd (by rw[u];exact KD.set r (λc=>absurd c (by decide)) (λc=>absurd c (by decide))) (λ_ _ _ _ _=>by rw[Q])).trans C.gks).trans (wv.kd (.refl rfl) λ{i d} hd h5 k k0 J=>?_)⟩
 .rw[show((m:Int)).toNat=m from rfl,cD p, <-H.inv.fl B (H.root p)];exact P
 .exact U.trans ((cD (h:=bz h l) p a).trans O)
 .exact U.trans ((H.F5 (λ{i z} F q=>H.inv.fl B (H.root F) q) A C (h':=bz h l) rfl (λ_=>rfl)).to hn)
 .show eY W _= _;rw[I,ar (by omega)];have E8:(jd h (m:Int)).2[i]? =some d:=by
   grind
  rw[kp.ws E8 h4 k k0 J,Q]
 .show eY W _= _;rw[I,az (by omega)]
 .show _<=cB l.2 0+4;omega
 .show eY W _= _
  grind
theorem YT (H:HI gh h) {v:Int} (j:aV h.g v=true) {a b:Int} (c:mJ h v a b≠0):gE h v a b=h:=by
 have ⟨x,t,u,hv,f,i⟩:=bK j;unfold mJ at c;unfold gE;split
 .rfl
 rename_i k;rw[ar k] at c;split
 .rfl
 rename_i l;rw[ar l] at c;split
 .rename_i e;have:jd h v=(h.s.1,h.s.2):=by unfold jd;rw[v8 e]
  rw[this];rfl
 rename_i d;rw[ar d] at c;have d:=C7 d;rw[az c];have ⟨n,m,o,t1,t2,t3⟩:=tf (rz d) H.inv.fz ⟨f,i⟩;have p:ft h v=n:=t1;have q:jd h v=(h.s.1,h.s.2.set n (4,v,0,0,())):=by unfold jd;rw[t3]
 have r:lu h v a b=js _ v _ _ a _ b:=rfl;rw[r,IF c,q,p];have:=qf (B4 m) (Lj ⟨f,i⟩);rw[this.1,Q6 o];rfl
theorem F4 (H:HI gh h) {v:Int} (c:aV h.g v=true) (a b:Int): ∃iE,HI iE (gE h v a b):=by
 by_cases e:mJ h v a b=0
 .obtain:=H.YS c e
  grind
 .rw[H.YT c e];grind
structure abw (h h':HS) (v:Nat) (a:Int) (f:Nat):Prop where
 g:h'.g=h.g
 was:(pH h v a).2.2.1=0/\(pH h v a).1=(f:Int)
 pg:pH h' v a=(0,0,4,())
 f5:h'.s.2[f]? =some (5,(v:Int),0,0,())
 ef:xK h h' (λi q=>i=v/\q=a) (-1)
theorem YU (H:HI gh h) {v:Int} (B:aV h.g v=true) {a:Int} (e:pL h v a=0): ∃iE f,HI iE (nu h v a)/\abw h (nu h v a) v.toNat a f/\wv v gh iE h.s (nu h v a).s:=by
 have ⟨x,l,O,hv,lk,ky⟩:=bK B;unfold nu;rw[az e];obtain⟨m,rfl⟩: ∃m:Nat,v=(m:Int):=⟨v.toNat,hv.symm⟩;have l:h.g m=some x:=l;have Q:db h.g h.s (m:Int) a=bC h.s x.root false a:=by
  unfold db;grind
 unfold pL at e;rw[Q] at e ⊢;rw[O];split at e
 .exact absurd e (by decide)
 split at e
 .rename_i c;exact absurd e c
 rename_i r;have r:(bC h.s x.root false a).2.2.1=0:=C7 r;split at e
 .exact absurd e (by decide)
 rename_i R;split at e
 .exact absurd e (by decide)
 rename_i D;have w:pS h m a=some (bC h.s x.root false a).1:=by rw[cZ l,az r]
 have ⟨n,d,E,hd,d4,ZG,ZH,t⟩:=H.Xe w;have F:bU (kA h m) a=none:=by
  cases S:bU (kA h m) a with
  |none=>rfl
  |some y=>
   refine absurd ((n5 B (x:=x) l).2 ?_) R;rw[fG l] at S;unfold vr
   grind
 rw[E] at D w ⊢;rw[jU hd] at D;have I:dH (kA h) (n:Int)=0:=by
  have:=H.hc.refs hd;omega
 have J:=(H.inv.F2 (H.root l) r).1;have ⟨g',C,K, _⟩:=H.inv.Bc (H.root l) J (H.inv.XH H.nl (H.root l) J r);have T:=Kept.hc H.hc C.kp;generalize hH h.s (m:Int) x.root false a=j at*
 have u:=C.kp.ks hd d4;rw[I] at t;have t:d=(4,d.2.1,0,0,()):=t;have U:d.2.1=(m:Int):=by
  have ⟨V,d',W,L, _,X⟩:=H.hc.own w F;have:V=n:=Dn W;subst this;rw[hd] at L;cases L;exact X
 rw[U] at t;rw[t] at u;have Y:=qf (G:=aI 5 (m:Int)) u (l4 ⟨by omega,by omega⟩);rw[Y.1];have Z:=T.CR (o:=(m:Int)) ⟨by omega,by omega⟩ w F I;have A:Inv.gx g' j (j.1,j.2.set n (5,(m:Int),0,0,())):=by
  refine jB C.inv ⟨rfl,by rw[Ce]⟩ (λb hb=>absurd rfl hb) λ{i d d'} M h2=>?_
  grind
 have rF:=H.zh l (λ{i z} k q=>rfl) H.inv C (y:=none) (by rw[K];rfl) (h':=bz h j) rfl (λ_=>rfl);have Dd:=by
  funext i p;cases k:h.g i with
  |none=>exact(iw (h:=bz h (j.1,j.2.set n (5,(m:Int),0,0,()))) k p).trans (iw (h:=bz h j) k p).symm
  |some z=>
   refine(cZ (h:=bz h (j.1,j.2.set n (5,(m:Int),0,0,()))) k p).trans (Eq.trans ?_ (cZ (h:=bz h j) k p).symm);show(if(bC (j.1,j.2.set n (5,(m:Int),0,0,())) z.root false p).2.2.1=0 then some (bC (j.1,j.2.set n (5,(m:Int),0,0,())) z.root false p).1 else none)=if(bC j z.root false p).2.2.1=0 then some (bC j z.root false p).1 else none;rw[C.inv.fl A (C.root.to (H.root k))]
 have Cb:(bz h j).g m=some x:=l;have gL:n<j.2.length:=(C9.1 u).1;have N: ∀P,E' (bz h j) (bz h (j.1,j.2.set n (5,(m:Int),0,0,()))) P:=λP=>⟨λ{i q} _=>by
  cases k:h.g i with
  |none=>exact(iv (h:=bz h (j.1,j.2.set n (5,(m:Int),0,0,()))) k q).trans (iv (h:=bz h j) k q).symm
  |some z=>exact(cD (h:=bz h (j.1,j.2.set n (5,(m:Int),0,0,()))) k q).trans ((C.inv.fl A (C.root.to (H.root k)) q).trans (cD (h:=bz h j) k q).symm)⟩
 suffices hh:HI g' (bz h (j.1,j.2.set n (5,(m:Int),0,0,()))) from⟨g',n,hh,⟨rfl,by rw[show((m:Int)).toNat=m from rfl,cD l];exact⟨r,E⟩,((N (λ_ _=>False)).to (λc=>c)).trans ((cD Cb a).trans K),B4 gL,E'.trans (H.F5 (λ_ _=>rfl) H.inv C (h':=bz h j) rfl (λ_=>rfl)) (N _),λ{i d d'} M h4 _ _ _=>C.kp.ws M h4,C.kd.trans (KD.set u (λ_=> .inr rfl) (by grind))⟩,C.gks.trans (wv.kd (KD.set u (λ_=> .inr rfl) (λc=>absurd (show(4:Int)=5 from c) (by decide))) λ_ _ _ _ _=>rfl)⟩
 exact{inv:=C.inv.beside A,rt:=H.rt.gC C.root,nl:=Inv.n_ A (C.lg (λo q q' a b=>a.2.trans b.2.symm) H.nl),sz:=by
        show j.1.length=16*(j.2.set n (5,(m:Int),0,0,())).length;rw[Ce,C.len.1,C.len.2];exact H.sz
       ,jI:=H.jI,root:=λ{i z} k=>C.root.to (H.root k),own:=λ{f o y} hf=>H.own ((C.root o f y).1 hf),hc:=by rw[Dd,rF];exact Z}
theorem CR (H:HI gh h) {v:Int} (b:aV h.g v=true) (a:Int): ∃iE,HI iE (nu h v a):=by
 by_cases e:pL h v a=0
 .obtain:=H.YU b e
  grind
 .rw[show nu h v a=h from ar e];grind
end HI
end
set_option maxRecDepth 100000
open Go.RX D
theorem BT (k:Nat): ∀l:List TK,(∀t∈l,0<=t.2.1/\t.2.1<(k:Int))->l.length<=((B2 k).map λa=>l.countP λt=>t.2.1==((a:Nat):Int)).sum
 |[], _=>Dl _
 |t::l,h=>by
  have c:=BT k l λu b=>h u (Ct _ b);have d:=h t B5;have e:(λa:Nat=>(t::l).countP λt=>t.2.1==((a:Nat):Int))=ma (λa:Nat=>l.countP λt=>t.2.1==((a:Nat):Int)) t.2.1.toNat (l.countP (λu=>u.2.1==((t.2.1.toNat:Nat):Int))+1):=by
   funext a;rw[List.countP_cons];by_cases e:a=t.2.1.toNat
   .subst e;rw[lZ,az (by simp;omega)]
   .rw[oI e,ar (by simp;omega)];rfl
  have:=CO (λa:Nat=>l.countP λt=>t.2.1==((a:Nat):Int)) t.2.1.toNat (l.countP (λu=>u.2.1==((t.2.1.toNat:Nat):Int))+1) k;rw[az (by omega),az (by omega)] at this;rw[e,Do];omega
theorem Om {f:Nat->Nat} {c:Nat}: ∀l:List Nat,(∀x∈l,f x<=c)->(l.map f).sum<=c*l.length
 |[], _=>Dl _
 |x::l,h=>by
  have:=Om l λy a=>h y (Ct _ a);have:=h x B5;rw[List.map_cons,List.sum_cons,Do,Nat.mul_add];omega
theorem Lm (tk:Nat->List TK) (q:TK->Bool):ou tk q=((B2 17).flatMap tk).countP q:=by
 unfold ou;rw[List.countP_flatMap];rfl
theorem Ln (l:List TK) (k c:Nat) (h: ∀t∈l,0<=t.2.1/\t.2.1<(k:Int)) (hb: ∀a:Nat,a<k->(l.countP λt=>t.2.1==((a:Nat):Int))<=c):l.length<=c*k:=by
 have b:=BT k l h;have h2:=Om (f:=λa:Nat=>l.countP λt=>t.2.1==((a:Nat):Int)) (c:=c) (B2 k) λa d=>hb a (Dt.1 d);rw[List.length_range] at h2;exact Nat.le_trans b h2
namespace HC
variable {fr:HL} {tk:Nat->List TK} {ds:List DT} {gr:List GT}
theorem ids (H:HC fr tk ds gr) {i:Nat} {t:TK} (h:t∈tk i):0<=t.2.1/\t.2.1<((16:Nat):Int):=by
 have ⟨_,o, _,k,x,b,h2, _⟩:=H.A4 (a:=t.2.1) (f:=t.2.2) (H.Jn h);have ⟨c,d, _⟩:=gA.1 b;have:=H.gl;omega
theorem IU (H:HC fr tk ds gr) (f:Int):dH tk f<=16000:=by
 have h0: ∀q,ou tk q=((B2 17).flatMap tk).countP q:=Lm tk;have d: ∀t∈(B2 17).flatMap tk,0<=t.2.1/\t.2.1<((16:Nat):Int):=λt h=>by
  have ⟨i, _,hi⟩:=List.mem_flatMap.1 h;exact H.ids hi
 have b: ∀a:Nat,a<16->ou tk (λt=>t.2.1==((a:Nat):Int))<=1000:=λa c=>by
  have j:a<gr.length:=by rw[H.gl];exact c
  have e:gr[a]? =some gr[a]:=Cs j;have b:=H.vE e;have:=(H.gk _ (Ch e)).2;unfold nS at b;omega
 unfold dH;rw[h0];generalize (B2 17).flatMap tk=g at h0 d;have k:=List.countP_le_length (p:=λt:TK=>t.2.2==f) (l:=g);have h2:=Ln g 16 1000 d λa c=>by rw[<-h0];exact b a c
 omega
end HC
theorem Lo {gr:List GT} {k:Nat} {x:GT} (h:gr[k]? =some x) (y:GT):(gr.set k y).set k x=gr:=by
 apply DS;intro i;have a:k<gr.length:=(C9.1 h).1;by_cases e:k=i
 .subst e;rw[B4 (by rw[Ce];exact a),h]
 .rw[B3 e,B3 e]
section
variable {gh iE:Gh} {h:HS}
theorem HI.fin (H:HI gh h) {v:Nat} {p:Int} {s1 d l:WD} (C:tw (pj (v:Int) 0 p) (v:Int) gh iE s1 d) (u:A0 gh s1) (m:s1.1.length=h.s.1.length/\s1.2.length=h.s.2.length) (B:Inv.gx iE d l) {h':HS} (j:h'.s=l) (n: ∀i,(h'.g i).map GV.root=(h.g i).map GV.root)
 {F:HL} (w:pS {h' with s:=d}=F) (hc:HC F (kA h') l.2 h'.gr):HI iE h':=by
 have r: ∀{i:Nat} {x:GV},h'.g i=some x-> ∃z,h.g i=some z/\x.root=z.root:=λ{i x} k=>by
  have hi:=n i;rw[k] at hi;cases hc:h.g i with
  |none=>rw[hc] at hi;cases hi
  |some z=>rw[hc] at hi;exact⟨z,rfl,by simpa using hi⟩
 have t: ∀{i:Nat} {x:GV},h'.g i=some x->iE x.root=some ((i:Int),3,0):=λ{i x} k=>by
  have ⟨z,c,A⟩:=r k;rw[A];exact C.root.to (H.root c)
 refine⟨by rw[j];exact C.inv.beside B,H.rt.gC C.root,by rw[j];exact Inv.n_ B (C.lg (λo q G a b=>a.2.trans b.2.symm) u),?_,λ{i x} k=>?_,t,λ{f o y} D=>?_,?_⟩
 .rw[j,B.len.1,B.len.2,C.len.1,C.len.2,m.1,m.2];exact H.sz
 .have ⟨z,c, _⟩:=r k;exact H.jI c
 .have ⟨i,x,E,h2⟩:=H.own ((C.root o f y).1 D);have hi:=n i;rw[h2] at hi;cases hc:h'.g i with
  |none=>rw[hc] at hi;cases hi
  |some z=>exact⟨i,z,E,hc⟩
 .have e:pS h'=F:=by
   rw[<-w];funext i q;cases c:h'.g i with
   |none=>exact(iw c q).trans (iw (h:={h' with s:=d}) c q).symm
   |some z=>
    refine(cZ c q).trans (Eq.trans ?_ (cZ (h:={h' with s:=d}) c q).symm);show _=if(bC d z.root false q).2.2.1=0 then some (bC d z.root false q).1 else none;rw[j,C.inv.fl B (t c)]
  rw[e,j];exact hc
theorem HI.IV (H:HI gh h) {v:Nat} {p:Int} {b e:WD} (C:tw (pj (v:Int) 0 p) (v:Int) gh iE h.s b) (B:Inv.gx iE b e) (l:e.1=b.1) (n:KD b e) {h':HS} (f:h'.s=e) (j: ∀i,(h'.g i).map GV.root=(h.g i).map GV.root):
 xK h h' (λi q=>i=v/\q=p) (-1)/\ ∀{i:Nat} {x:GV},h.g i=some x-> ∀q,pH h' i q=bC b x.root false q:=by
 have r: ∀{i:Nat} {x:GV},h.g i=some x-> ∃z,h'.g i=some z/\z.root=x.root:=λ{i x} a=>by
  have hi:=j i;rw[a] at hi;cases hc:h'.g i with
  |none=>rw[hc] at hi;cases hi
  |some z=>rw[hc] at hi;exact⟨z,rfl,by simpa using hi⟩
 have key: ∀{i:Nat} {x:GV},h.g i=some x-> ∀q,pH h' i q=bC b x.root false q:=λ{i x} a q=>by
  have ⟨z,t,u⟩:=r a;rw[cD t,f,u];exact C.inv.fl B (C.root.to (H.root a)) q
 refine⟨⟨⟨λ{i q} w=>?_⟩,λ{m d d'} y A _ _ _ k k0 D=>?_,?_⟩,key⟩
 .cases a:h.g i with
  |none=>
   have hi:=j i;rw[a] at hi;rw[iv a,iv (by simpa using hi)]
  |some x=>
   rw[key a,cD a];refine H.inv.zF C.inv C.Dr C.root (o:=(i:Int)) (H.root a) λc=>w ?_;have ⟨E,F⟩:=c;exact⟨Dn E,F⟩
 .rw[f,l];exact C.kp.ws y A k k0 D
 .rw[f];exact C.kd.trans n
theorem oP {g:Gh} {s:WD} (I:Inv g s) {n:Nat} {o r r':Int} (hd:s.2[n]? =some (4,o,r,0,())):Inv.gx g s (s.1,s.2.set n (4,o,r',0,())):=
 jB I ⟨rfl,by rw[Ce]⟩ (λb hb=>absurd rfl hb) λ{i d d'} e h2=>by
  rcases rA hd e h2 with ⟨_,f,a⟩|⟨_,a⟩
  .exact .inr ⟨by rw[f];exact(show ¬ (4:Int)=3 by decide),by rw[a];exact(show ¬ (4:Int)=3 by decide),λc=>by rw[a] at c;exact absurd c (show ¬ (4:Int)=0 by decide)⟩
  .exact .inl a
theorem l5 {g:Nat->Option GV} {n:Nat} {x:GV} (a:g n=some x) (tk:List TK) (i:Nat):(bA g n (some {x with tk:=tk}) i).map GV.root=(g i).map GV.root:=by
 unfold bA;by_cases e:i=n
 .subst e;rw[az rfl,a];rfl
 .rw[ar e]
theorem IW {h':HS} {g:Nat->Option GV} {n:Nat} {x:GV} (b:h.g n=some x) (tk:List TK) (a:h'.g=bA h.g n (some {x with tk:=tk})):kA h'=ma (kA h) n tk:=by
 funext i;unfold kA ma;rw[a];unfold bA;by_cases e:i=n
 .rw[az e,az e]
 .rw[ar e,ar e]
def HM (ds:List DT) (n:Nat) (o:Int):Prop:= ∃d:DT,ds[n]? =some d/\d.1=4/\d.2.1=o
theorem Kept.Sq {s s':WD} (K:Kept s s') (n:Nat) (o:Int):HM s'.2 n o<->HM s.2 n o:=by
 constructor
 .rintro⟨d,a,h2,b⟩;rcases K.nw a with h|⟨h, _⟩
  .exact⟨d,h,h2,b⟩
  .omega
 .rintro⟨d,a,h2,b⟩;exact⟨d,K.ks a h2,h2,b⟩
theorem UW {ds:List DT} {n:Nat} {o r r':Int} (h:ds[n]? =some (4,o,r,0,())) (m:Nat) (o':Int):HM (ds.set n (4,o,r',0,())) m o'<->HM ds m o':=by
 have c:n<ds.length:=(C9.1 h).1;unfold HM;by_cases e:n=m
 .subst e;rw[B4 c,h];constructor
  .rintro⟨d,a,h2,b⟩;cases a;exact⟨_,rfl,rfl,b⟩
  .rintro⟨d,a,h2,b⟩;cases a;exact⟨_,rfl,rfl,b⟩
 .rw[B3 e]
theorem HI.FF (H:HI gh h) {v:Nat} {p id f:Int} {x:GV} (a:h.g v=some x) (I:bU x.tk p=some (id,f)): ∃iE,HI iE (dB h (v:Int) p id f)/\(∀n o,HM (dB h (v:Int) p id f).s.2 n o<->HM h.s.2 n o)/\xK h (dB h (v:Int) p id f) (λi q=>i=v/\q=p) (-1)/\pH (dB h (v:Int) p id f) v p=(0,0,4,())/\wv (v:Int) gh iE h.s (dB h (v:Int) p id f).s:=by
 have j:bU (kA h v) p=some (id,f):=by rw[fG a];exact I
 have ⟨l,o,X,J⟩:=H.hc.A4 j;have ⟨k,y,g1,e,Y,K, _⟩:=J;have ⟨n,d,L,hd,d4,M,N,O⟩:=H.Xe l;subst L;have ⟨P,Z,r⟩:=gA.1 g1;rw[getD_some e] at r;subst P;have Q:aY h.g (v:Int)=x.root:=by
  have hd:=H.jI a;unfold aY;rw[az (fx.2 ⟨by omega,x,a⟩)];show(match h.g v with|some x=>x.root|none=> -1)= _;rw[a]
 have u:(bC h.s x.root false p).2.2.1=0:=by
  rw[cZ a] at l;by_cases c:(bC h.s x.root false p).2.2.1=0
  .exact c
  .rw[ar c] at l;cases l
 have A:=(H.inv.F2 (H.root a) u).1;have ⟨g',C,B, _⟩:=H.inv.Bc (H.root a) A (H.inv.XH H.nl (H.root a) A u);have hdm:=H.jI a;have jK:0<dH (kA h) (n:Int):=m5 (q:=λt=>t.2.2==(n:Int)) (by omega:v<17) (H.hc.Jo j) (by simp);have acM:0<nS (kA h) (k:Int):=m5 (q:=λt=>t.2.1==(k:Int)) (by omega:v<17) (H.hc.Jo j) (by simp);have acp:=H.hc.IU (n:Int);have R:jS h.gr (k:Int) (v:Int)=0:=by
  unfold jS;rw[g1];dsimp only;rw[getD_some e,ar (by rw[K];simp),ar (by rw[H.hc.vE e];omega)]
 have D:dj h.gr (k:Int) (v:Int)=h.gr.set k (fM y (-1)):=by
  unfold dj;rw[az R];show h.gr.set k (fM (h.gr.getD k zG) (-1))= _;rw[getD_some e]
 have S:=Kept.hc H.hc C.kp;have T:dB h (v:Int) p (k:Int) (n:Int)={s:=((hH h.s (v:Int) x.root false p).1,eC (hH h.s (v:Int) x.root false p).2 (n:Int) (fA (-1))),g:=bA h.g v (some {x with tk:=x.tk.filter λt=> !(t.1==p)}),gr:=h.gr.set k (fM y (-1)),po:=h.po}:=by
  unfold dB;rw[Q,D];show HS.mk _ (bA h.g v (match h.g v with|some x=> _|none=>none)) _ _= _;rw[a]
 rw[T];generalize hH h.s (v:Int) x.root false p=E at*
 have b:=C.kp.ks hd d4;rw[O] at b;have U:=qf (G:=fA (-1)) b (aat ⟨M,N⟩ ⟨by omega,by omega⟩ ⟨by omega,by omega⟩);rw[U.1];have V:kf (h.gr.set k (fM y (-1))):=by rw[<-D];exact H.hc.gk.back _ _
 have W:=S.FF j b e r V;have F:=H.IV C (oP (r':=(dH (kA h) (n:Int):Int)+ -1) C.inv b) rfl (KD.set b (λ_=> .inl rfl) (λc=>absurd (show(4:Int)=5 from c) (by decide))) (h':={s:=(E.1,E.2.set n (4,d.2.1,(dH (kA h) (n:Int):Int)+ -1,0,())),g:=bA h.g v (some {x with tk:=x.tk.filter λt=> !(t.1==p)}),gr:=h.gr.set k (fM y (-1)),po:=h.po}) rfl (λi=>l5 a _ i);refine⟨g',H.fin C H.nl ⟨rfl,rfl⟩ (oP C.inv b) rfl (λi=>l5 a _ i) (H.zh a (λ{i z} hz q=>rfl) H.inv C (y:=none) (by rw[B];rfl) rfl (λi=>l5 a _ i)) ?_,λm w=>(UW b m w).trans (C.kp.Sq m w),F.1,(F.2 a p).trans B,C.gks.trans (wv.kd (KD.set b (λ_=> .inl rfl) (λc=>absurd (show(4:Int)=5 from c) (by decide))) λ_ _ _ _ _=>rfl)⟩;rw[IW (g:=h.g) a _ rfl, <-fG a];exact W
end
set_option maxRecDepth 100000
open Go.RX D
section
variable {gh iE:Gh} {h:HS}
theorem BU {v p:Int} (h0:(db h.g h.s v p).2.2.1=0):aV h.g v=true/\ ∃x,h.g v.toNat=some x/\db h.g h.s v p=bC h.s x.root false p:=by
 unfold db at h0 ⊢;by_cases a:aV h.g v=true
 .have ⟨x,b, _⟩:=bK a;rw[az a,b];exact⟨a,x,rfl,rfl⟩
 .rw[ar a] at h0;exact absurd h0 (by decide)
theorem Q7 {v p:Int} {x:GV} (b:aV h.g v=true) (a:h.g v.toNat=some x) (hb: ¬ fq h v p=true):bU x.tk p=none:=by
 cases c:bU x.tk p with
 |none=>rfl
 |some y=>
  refine absurd ((n5 b a).2 ?_) hb;unfold vr;rw[a];dsimp only;rw[c];rfl
theorem Q8 {gs:List GT} {k:Nat} {x:GT} {v:Int} (h:gs[k]? =some x) (i:x≠zG) (hv:x.2.2.1=v) (n:0<=x.2.2.2.2.1) (j:kf gs):dj (gs.set k (fM x 1)) (k:Int) v=gs:=by
 have g:k<gs.length:=(C9.1 h).1;have f:(gs.set k (fM x 1))[k]? =some (fM x 1):=B4 g;have l:jF (gs.set k (fM x 1)) (k:Int)=some k:=gA.2 ⟨rfl,by rw[Ce];exact g,by rw[getD_some f];exact yi j h i 1⟩;have m:jS (gs.set k (fM x 1)) (k:Int) v=0:=by
  unfold jS;rw[l];dsimp only;rw[getD_some f,ar (by show ¬ x.2.2.1≠v;rw[hv];simp),ar (by show ¬ x.2.2.2.2.1+1=0;omega)]
 unfold dj;rw[az m];show(gs.set k (fM x 1)).set k (fM ((gs.set k (fM x 1)).getD k zG) (-1))=gs;rw[getD_some f];have e:fM (fM x 1) (-1)=x:=by
  have ⟨a,b,c,d,e,u⟩:=x;unfold fM;dsimp only;rw[show e+1+ -1=e by omega]
 rw[e];exact Lo h _
theorem abx {v a b c:Int} (d:lA h v a b c=0):nv h v a b c=iW h.s (aY h.g v) false b (ll h a).1 (qH c):=by
 unfold lA at d;unfold nv;split at d
 .exact absurd d (by decide)
 rename_i f;rw[ar f];split at d
 .exact absurd d (by decide)
 rename_i i;rw[ar i];split at d
 .exact absurd d (by decide)
 rename_i j;rw[ar j];split at d
 .exact absurd d (by decide)
 rename_i k;rw[ar k];split at d
 .exact absurd d (by decide)
 rename_i l;rw[ar l];split at d
 .exact absurd d (by decide)
 rename_i m;rw[ar m,ar (λe=>e d)]
theorem HI.IX (H:HI gh h) {v a b c:Int} (X:aV h.g v=true) (f:lA h v a b c=0):
 (nv h v a b c=0-> ∃iE,HI iE (jA h v a b c)/\xK h (jA h v a b c) (λi q=>i=v.toNat/\q=b) (-1)/\(pH h v.toNat b).2.2.1=4/\pH (jA h v a b c) v.toNat b=((ll h a).1,qH c,0,())/\wv v gh iE h.s (jA h v a b c).s)/\(nv h v a b c≠0->yY h v a b c=h):=by
 have K:=abx f;have ⟨B,t,L,u⟩:(kz h a).2.2.1=v/\(ll h a).2.2.1=0/\ ¬ fq h (kz h a).1 (kz h a).2.1=true/\eB h.gr a v (c==1)=0:=by
  unfold lA at f;split at f
  .exact absurd f (by decide)
  split at f
  .exact absurd f (by decide)
  split at f
  .exact absurd f (by decide)
  split at f
  .exact absurd f (by decide)
  rename_i Y;split at f
  .exact absurd f (by decide)
  rename_i Z;split at f
  .exact absurd f (by decide)
  rename_i c6;exact⟨C7 λe=>Y (.inl e),C7 Z,c6,f⟩
 have ⟨x,j,M,hv,lk,ky⟩:=bK X;have ⟨k,w⟩: ∃k,jF h.gr a=some k:=by
  unfold eB at u;cases w:jF h.gr a with
  |none=>rw[w] at u;exact absurd (show(4:Int)=0 from u) (by decide)
  |some k=>exact⟨k,rfl⟩
 have ⟨D,k2,E⟩:=gA.1 w;have l:h.gr[k]? =some h.gr[k]:=Cs k2;have ⟨y,hye⟩: ∃y,y=h.gr[k]:=⟨_,rfl⟩;rw[<-hye] at l;rw[getD_some l] at E;have N:kz h a=y:=by
  unfold kz kX;rw[w];exact getD_some l
 have O:ll h a=db h.g h.s y.1 y.2.1:=by unfold ll;rw[N]
 rw[N] at B L;rw[O] at t;have ⟨P,Q,r,R⟩:=BU t;have hto:=Q7 P r L;obtain⟨m,rfl⟩: ∃m:Nat,v=(m:Int):=⟨v.toNat,hv.symm⟩;have j:h.g m=some x:=j;have ⟨o,S⟩: ∃o:Nat,y.1=(o:Int):=⟨y.1.toNat,by have:=fx.1 P;omega⟩;have r:h.g o=some Q:=by rw[S] at r;exact r
 rw[R] at t;have F:pS h o y.2.1=some (bC h.s Q.root false y.2.1).1:=by rw[cZ r,az t]
 have ⟨n,d,T,hd,d4,ZG,ZH,Mw⟩:=H.Xe F;rw[T] at F;have I:(ll h a).1=(n:Int):=by rw[O,R,T]
 have J:de h.gr a (m:Int) (c==1)=h.gr.set k (fM y 1):=by
  unfold de;rw[az u, <-D];show h.gr.set k (fM (h.gr.getD k zG) 1)= _;rw[getD_some l]
 refine⟨λe=>?_,λe=>?_⟩
 .rw[K,M,I] at e;have ⟨hp,g',C,U, _,V, _⟩:=H.inv.map (H.root j) e;have acq:pS h m b=none:=by rw[cZ j,ar (by rw[V];decide)]
  have fO:jA h (m:Int) a b c={s:=((js h.s (m:Int) x.root false b (n:Int) (qH c)).1,eC (js h.s (m:Int) x.root false b (n:Int) (qH c)).2 (n:Int) (fA 1)),g:=bA h.g m (some {x with tk:=l_ (b,a,(n:Int)) x.tk}),gr:=h.gr.set k (fM y 1),po:=h.po}:=by
   unfold jA;rw[M,I,J];show HS.mk _ (bA h.g m (match h.g m with|some x=> _|none=>none)) _ _= _;rw[j]
  rw[fO];have ME:=Kept.hc H.hc C.kp;generalize js h.s (m:Int) x.root false b (n:Int) (qH c)=A at*
  have p:=C.kp.ks hd d4;rw[Mw] at p;have acp:=H.hc.IU (n:Int);have rT:=qf (G:=fA 1) p (aat ⟨ZG,ZH⟩ ⟨by omega,by omega⟩ ⟨by omega,by omega⟩);rw[rT.1];have Mu:kf (h.gr.set k (fM y 1)):=by rw[<-J];exact H.hc.gk.take _ _ _
  have VF:=ME.take hp acq p l E S B F (by rw[fG r];exact hto) Mu;have W:=H.IV C (oP (r':=(dH (kA h) (n:Int):Int)+1) C.inv p) rfl (KD.set p (λ_=> .inl rfl) (λc=>absurd (show(4:Int)=5 from c) (by decide))) (h':={s:=(A.1,A.2.set n (4,d.2.1,(dH (kA h) (n:Int):Int)+1,0,())),g:=bA h.g m (some {x with tk:=l_ (b,a,(n:Int)) x.tk}),gr:=h.gr.set k (fM y 1),po:=h.po}) rfl (λi=>l5 j _ i)
  suffices hh:HI g' {s:=(A.1,A.2.set n (4,d.2.1,(dH (kA h) (n:Int):Int)+1,0,())),g:=bA h.g m (some {x with tk:=l_ (b,a,(n:Int)) x.tk}),gr:=h.gr.set k (fM y 1),po:=h.po} from⟨g',hh,W.1,by rw[show((m:Int)).toNat=m from rfl,cD j];exact V,by rw[I];exact(W.2 j b).trans U,C.gks.trans (wv.kd (KD.set p (λ_=> .inl rfl) (λc=>absurd (show(4:Int)=5 from c) (by decide))) λ_ _ _ _ _=>rfl)⟩
  refine H.fin C H.nl ⟨rfl,rfl⟩ (oP C.inv p) rfl (λi=>l5 j _ i) (H.zh j (λ{i z} hz q=>rfl) H.inv C (y:=some (n:Int)) (by rw[U];rfl) rfl (λi=>l5 j _ i)) ?_;rw[IW (g:=h.g) j _ rfl, <-fG j, <-D];exact VF
 .rw[K] at e;unfold yY;rw[IF e,J, <-D,Q8 l E B (H.hc.gk y (Ch l)).2.1 H.hc.gk]
theorem HI.YV (H:HI gh h) {v a b c:Int} (f:aV h.g v=true) (e:nv h v a b c≠0):gW h v a b c=h:=by
 unfold gW;by_cases d:lA h v a b c=0
 .rw[ar (λe=>e d),ar e];exact(H.IX f d).2 e
 .exact az d
theorem Q9 {v a b c:Int} (e:nv h v a b c=0):lA h v a b c=0:=by
 unfold nv at e;unfold lA;split at e
 .exact absurd e (by decide)
 rename_i f;rw[ar f];split at e
 .exact absurd e (by decide)
 rename_i g;rw[ar g];split at e
 .exact absurd e (by decide)
 rename_i i;rw[ar i];split at e
 .exact absurd e (by decide)
 rename_i j;rw[ar j];split at e
 .exact absurd e (by decide)
 rename_i k;rw[ar k];split at e
 .exact absurd e (by decide)
 rename_i l;rw[ar l];split at e
 .rename_i d;exact absurd e d
 rename_i d;exact C7 d
theorem HI.YW (H:HI gh h) {v a b c:Int} (f:aV h.g v=true) (e:nv h v a b c=0):gW h v a b c=jA h v a b c/\ ∃iE,HI iE (jA h v a b c)/\xK h (jA h v a b c) (λi q=>i=v.toNat/\q=b) (-1)/\(pH h v.toNat b).2.2.1=4/\pH (jA h v a b c) v.toNat b=((ll h a).1,qH c,0,())/\wv v gh iE h.s (jA h v a b c).s:=by
 have d:=Q9 e;refine⟨?_,(H.IX f d).1 e⟩;unfold gW;rw[ar (λe=>e d),az e]
theorem HI.take (H:HI gh h) {v:Int} (d:aV h.g v=true) (a b c:Int): ∃iE,HI iE (gW h v a b c):=by
 by_cases e:nv h v a b c=0
 .have ⟨f,g',i, _⟩:=H.YW d e;rw[f];exact⟨g',i⟩
 .rw[H.YV d e];exact⟨gh,H⟩
theorem HI.UX (H:HI gh h) {v:Int} (b:aV h.g v=true) {a:Int} (e:r7 h v a=0): ∃iE,HI iE (fU h v a)/\xK h (fU h v a) (λi q=>i=v.toNat/\q=a) (-1)/\pH (fU h v a) v.toNat a=(0,0,4,())/\wv v gh iE h.s (fU h v a).s:=by
 have ⟨x,c,n,hv, _⟩:=bK b;unfold r7 at e;unfold fU;split at e
 .exact absurd e (by decide)
 rename_i f;rw[ar f];split at e
 .rename_i d;rw[az d];have j:=(n5 b c).1 d;obtain⟨m,rfl⟩: ∃m:Nat,v=(m:Int):=⟨v.toNat,hv.symm⟩;have ⟨g',k, _,E,l⟩:=H.FF (x:=x) c j;exact⟨g',k,E,l⟩
 .exact absurd e (by decide)
theorem UY {v a:Int} (e:r7 h v a≠0):fU h v a=h:=by
 unfold r7 at e;unfold fU;split
 .rfl
 rename_i b;rw[ar b] at e;split
 .rename_i c;rw[az c] at e;exact absurd rfl e
 .rfl
theorem HI.back (H:HI gh h) {v:Int} (b:aV h.g v=true) (a:Int): ∃iE,HI iE (fU h v a):=by
 by_cases e:r7 h v a=0
 .have ⟨g',c, _⟩:=H.UX b e;exact⟨g',c⟩
 .rw[UY e];exact⟨gh,H⟩
theorem HI.fg {v:Nat}: ∀(n:Nat) {gh:Gh} {h:HS},HI gh h->(∃x,h.g v=some x)->(kA h v).length=n->
 ∃iE,HI iE (fg (v:Int) n h)/\(∃x,(fg (v:Int) n h).g v=some x)/\kA (fg (v:Int) n h) v=[]/\(∀i,i≠v->(fg (v:Int) n h).g i=h.g i)/\(∀m o,HM (fg (v:Int) n h).s.2 m o<->HM h.s.2 m o)/\xK h (fg (v:Int) n h) (λi _=>i=v) (-1)/\wv (v:Int) gh iE h.s (fg (v:Int) n h).s
 |0,gh,h,H,d,j=>⟨gh,H,d,List.length_eq_zero_iff.1 j,λ_ _=>rfl,λ_ _=>Iff.rfl,.refl _ _ _,wv.refl _ _⟩
 |n+1,gh,h,H,⟨x,d⟩,j=>by
  have z:pR h (v:Int)=x.tk:=by rw[Wa];exact fG d
  have A:x.tk.length=n+1:=by rw[<-fG d];exact j
  have B:x.tk.map (·.1)≠[]:=λe=>by
   have:=congrArg List.length e;rw[List.length_map,A] at this;simp at this
  have r:=zN B (λy C=>by
   obtain⟨t,k,rfl⟩:=Dx.1 C;have D:t∈kA h v:=by rw[fG d];exact k
   have:=H.hc.jI (H.hc.A4 (a:=t.2.1) (f:=t.2.2) (H.hc.Jn D)).1;omega)
  have ⟨p,u⟩: ∃p,p=vD (x.tk.map (·.1)):=⟨_,rfl⟩;rw[<-u] at r;have ⟨t,k,E⟩:=Dx.1 r;have l:=H.hc.nd v;rw[fG d] at l;have q:bU x.tk p=some t.2:=(iO (a:=t.2.1) (b:=t.2.2) l).2 (by rw[<-E];exact k);have F:vr h (v:Int) p=t.2:=by
   unfold vr;show(match h.g v with|some x=>(bU x.tk p).getD (0,0)|none=>(0,0))= _;rw[d];dsimp only;rw[q];rfl
  have G:wG (v:Int) h=dB h (v:Int) p t.2.1 t.2.2:=by
   unfold wG;rw[z, <-u,F]
  have ⟨U,I,J,K, _,L⟩:=H.FF (x:=x) d q;have w:(dB h (v:Int) p t.2.1 t.2.2).g v=some {x with tk:=x.tk.filter λt=> !(t.1==p)}:=by
   show bA h.g v (match h.g v with|some x=> _|none=>none) v= _;rw[d,dZ]
  have M:(kA (dB h (v:Int) p t.2.1 t.2.2) v).length=n:=by
   rw[fG w];have:=(BS l q).length_eq;rw[Do] at this;show(x.tk.filter λt=> !(t.1==p)).length=n;omega
  have ⟨N,O,h2,P,Q,R,S,T⟩:=HI.fg n I ⟨_,w⟩ M;have e:_root_.Go.Proofs.YteeflilbnoknnaaGreat.fg (v:Int) (n+1) h=_root_.Go.Proofs.YteeflilbnoknnaaGreat.fg (v:Int) n (dB h (v:Int) p t.2.1 t.2.2):=by rw[<-G];rfl
  rw[e];refine⟨N,O,h2,P,λi hi=>?_,λm o=>(R m o).trans (J m o),xK.trans (K.mono λc=>c.1) S,L.trans T⟩;rw[Q i hi];show bA h.g v _ i=h.g i;unfold bA;rw[ar hi]
end
section
variable {gh iE:Gh} {h:HS}
theorem Lq {v:Int} {x:GV} (a:aV h.g v=true) (b:h.g v.toNat=some x) (p:Int):db h.g h.s v p=bC h.s x.root false p:=by
 unfold db;rw[az a,b]
theorem HI.word (H:HI gh h) {v:Int} (j:aV h.g v=true) {a t:Int} (r:0<=a) (m:0<=t/\t<=7):
 (a<1048576/\(db h.g h.s v (a / 16)).2.2.1=0/\gV h v a t=(16*(db h.g h.s v (a / 16)).1+a % 16,if gy true (db h.g h.s v (a / 16)).2.1 false (db h.g h.s v (a / 16)).1 t=true then 0 else 7)/\
  ∃n:Nat,(db h.g h.s v (a / 16)).1=(n:Int)/\n<h.s.2.length/\pS h v.toNat (a / 16)=some (n:Int))\/
 ((a>=1048576/\(gV h v a t).2=2)\/(a<1048576/\db h.g h.s v (a / 16)=(0,0,4,())/\(gV h v a t).2=4)):=by
 have ⟨x,c,o,hv,u,w⟩:=bK j;rw[Lq j c];unfold gV;by_cases f:a>=1048576
 .rw[az f];exact .inr (.inl ⟨f,rfl⟩)
 rw[ar f,o];have p:=H.root c;have k:0<=a / 16/\a / 16<65536:=by omega
 have b:=H.inv.YQ H.nl p k m;by_cases e:(bC h.s x.root false (a / 16)).2.2.1=0
 .rw[az e] at b;have l:pS h v.toNat (a / 16)=some (bC h.s x.root false (a / 16)).1:=by rw[cZ c,az e]
  have ⟨n,d,i,hd, _⟩:=H.Xe l;have q:n<h.s.2.length:=(C9.1 hd).1;have y:=H.inv.le;refine .inl ⟨by omega,e,?_,n,i,q,by rw[l,i]⟩;rw[b];dsimp only;rw[i,da (by omega) (by omega),ao (by omega) (by omega)]
 .rw[ar e] at b;refine .inr (.inr ⟨by omega,(Inv.YP _ _ k).resolve_left e,b⟩)
theorem HI.Q_ (H:HI gh h) {n:Nat} {d:DT} (hd:h.s.2[n]? =some d) (d4:d.1=4) {o:Int} (e:0<=o/\o<16) (b:Int):HI gh (bz h (fm h.s.1 (16*(n:Int)+o) b,h.s.2))/\xK h (bz h (fm h.s.1 (16*(n:Int)+o) b,h.s.2)) (λ_ _=>False) (n:Int):=by
 have B:Inv.gx gh h.s (fm h.s.1 (16*(n:Int)+o) b,h.s.2):=by
  refine jB H.inv ⟨cL _ _ _,rfl⟩ (λq a=>⟨n,d,hd,by rw[d4];decide,?_⟩) λ{i d d'} c h2=>?_
  .refine C7 λhc=>a ?_;show eY (fm h.s.1 (16*(n:Int)+o) b) q= _;rw[qd (by omega)]
  .rw[c] at h2;cases h2;exact .inl rfl
 refine⟨H.side B H.hc,H.IQ B (h':=bz h (fm h.s.1 (16*(n:Int)+o) b,h.s.2)) rfl rfl _,λ{m d d'} _ _ _ _ f k k0 g=>?_,.refl rfl⟩;show eY (fm h.s.1 (16*(n:Int)+o) b) _= _;exact qd (by omega)
theorem HI.store (H:HI gh h) {v:Int} (c:aV h.g v=true) {a:Int} (f:0<=a) (b:Int):HI gh (iY h v a b)/\E' h (iY h v a b) (λ_ _=>False):=by
 unfold iY;by_cases e:(gV h v a 2).2≠0
 .rw[az e];exact⟨H,E'.refl _ _⟩
 rw[ar e];have e:(gV h v a 2).2=0:=C7 e;rcases H.word c f (t:=2) (by decide) with ⟨_, _,i,n,j,r,k⟩|⟨_,h2⟩|⟨_, _,h2⟩
 .rw[i];dsimp only;rw[j];have ⟨m,d,l,hd,d4, _⟩:=H.Xe k;have:n=m:=Dn l;subst this;have ⟨p,q⟩:=H.Q_ hd d4 (o:=a % 16) (by omega) b;exact⟨p,q.pg⟩
 .rw[h2] at e;exact absurd e (by decide)
 .rw[h2] at e;exact absurd e (by decide)
theorem HI.UZ (H:HI gh h) {n:Nat} {d:DT} (hd:h.s.2[n]? =some d) (g:d.1=5):d=(5,d.2.1,0,0,())/\0<=d.2.1/\d.2.1<=16:=by
 have ⟨_,i,k,l⟩:=H.hc.kd hd;have f:=H.hc.refs hd;have:dH (kA h) (n:Int)=0:=by
  rcases H8 (dH (kA h) (n:Int)) with e|e
  .exact e
  .have ⟨d',j,m⟩:=H.hc.H_ e;rw[hd] at j;cases j;omega
 rw[this] at f;refine⟨?_,k,l⟩;have ⟨a,b,c,e,u⟩:=d;dsimp only at g i f;rw[g,i,f];rfl
theorem HI.aby (H:HI gh h) {n:Nat} {d:DT} (hd:h.s.2[n]? =some d) (e:d.1=5):jz h.s (n:Int)=(h.s.1,h.s.2.set n zD)/\f_ h.s (n:Int)=0/\HI gh (bz h (h.s.1,h.s.2.set n zD))/\E' h (bz h (h.s.1,h.s.2.set n zD)) (λ_ _=>False):=by
 have l:n<h.s.2.length:=(C9.1 hd).1;have ⟨o,p,q⟩:=H.UZ hd e;have g:=hd;rw[o] at g;have j:=qf (G:=aI 0 0) g (G9 ⟨p,q⟩);have k:wu h.s.2 (n:Int)=true:=by
  unfold wu;simp only[H9,decide_eq_false_iff_not];simp;omega
 have B:Inv.gx gh h.s (h.s.1,h.s.2.set n zD):=by
  refine jB H.inv ⟨rfl,by rw[Ce]⟩ (λb hb=>absurd rfl hb) λ{i d0 d'} a h2=>?_;rcases rA hd a h2 with ⟨_,r,f⟩|⟨_,f⟩
  .exact .inr ⟨by rw[r,e];decide,by rw[f];decide,λ_=>f⟩
  .exact .inl f
 refine⟨?_,?_,H.side B (H.hc.F3 (λ{m d0} a t=>?_) λ{m d0} a=>?_),H.IQ B (h':=bz h (h.s.1,h.s.2.set n zD)) rfl rfl _⟩
 .unfold jz;rw[az ⟨k,by rw[jU hd];exact e⟩,j.1]
 .unfold f_;rw[k,ar (by decide),jU hd,ar (λc=>c e)];exact j.2
 .show(h.s.2.set n zD)[m]? = _;rw[B3 (λc=>by subst c;rw[hd] at a;cases a;omega)];exact a
 .have a:(h.s.2.set n zD)[m]? =some d0:=a;by_cases c:n=m
  .subst c;rw[B4 l] at a;cases a;exact .inr ⟨.inl rfl,rfl,by decide,by decide⟩
  .rw[B3 c] at a;exact .inl a
theorem U0 {s:WD} {f:Int} (b: ∀(n:Nat) (d:DT),f=(n:Int)->s.2[n]? =some d->d.1≠5):jz s f=s/\f_ s f≠0:=by
 by_cases e:wu s.2 f=true
 .have h:0<=f/\f<s.2.length:=by
   have a:=e;unfold wu at a;simp only[H9,decide_eq_false_iff_not] at a;simp at a;omega
  have hd:s.2[f.toNat]? =some s.2[f.toNat]:=Cs (by omega);have g:=b f.toNat _ (by omega) hd;have hv:(mH s.2 f).1≠5:=by
   have:=jU hd;rw[show((f.toNat:Nat):Int)=f by omega] at this;rw[this];exact g
  unfold jz f_;rw[ar (λc=>hv c.2),e,ar (by decide),az hv];exact⟨rfl,by decide⟩
 .unfold jz f_;have e:wu s.2 f=false:=by simpa using e
  rw[e,ar (by simp),az rfl];exact⟨rfl,by decide⟩
theorem HI.free (H:HI gh h) (f:Int):HI gh (bz h (jz h.s f))/\(jz h.s f=h.s\/ ∃(n:Nat) (d:DT),f=(n:Int)/\h.s.2[n]? =some d/\d.1=5/\jz h.s f=(h.s.1,h.s.2.set n zD)):=by
 by_cases e: ∃(n:Nat) (d:DT),f=(n:Int)/\h.s.2[n]? =some d/\d.1=5
 .obtain⟨n,d,rfl,a,h2⟩:=e;have ⟨b, _,c, _⟩:=H.aby a h2;rw[b];exact⟨c,.inr ⟨n,d,rfl,a,h2,rfl⟩⟩
 .have ⟨b, _⟩:=U0 (s:=h.s) (f:=f) λn d a h2 g=>e ⟨n,d,a,h2,g⟩;rw[b];exact⟨H,.inl rfl⟩
theorem HI.Wc (H:HI gh h): ∀n,HI gh (bz h (cv h.s n).1)
 |0=>H
 |n+1=>((HI.Wc H n).free (n:Int)).1
theorem HI.YX (H:HI gh h) (oo:Int:=0): ∃iE,HI iE (jQ h)/\xK h (jQ h) (λ_ q=> ¬ (0<=q/\q<65536)) (-1)/\wv oo gh iE h.s (jQ h).s:=by
 unfold jQ;cases hv:pn h.g with
 |none=>exact⟨gh,H,.refl _ _ _,wv.refl _ _⟩
 |some v=>
  dsimp only;by_cases e:oZ h.s (v:Int)=0
  case neg=>rw[ar e];exact⟨gh,H,.refl _ _ _,wv.refl _ _⟩
  rw[az e];have ⟨Sf,A, _⟩:=td.1 hv;have T: ∀f,gh f≠some ((v:Int),3,0):=λf a=>by
   have ⟨i,x,r,h2⟩:=H.own a;have:i=v:=Dn r;subst this;rw[A] at h2;cases h2
  have ⟨_,b1,b2,b3,C,J,D,U,V,E⟩:=H.inv.born (o:=(v:Int)) (by omega) T (rz e);have X: ∀{f o y k:Int} {l:Nat},gh f=some (o,l,y)->0<=k->k<16->eY (g8 h.s (v:Int) λ_=>0).1 (16*f+k)=eY h.s.1 (16*f+k):=λ{f o y k l} a k0 t=>by
   have cO:f≠fb h.s (v:Int):=λc=>by rw[c,b1] at a;cases a
   exact D _ (by omega)
  have K: ∀k,0<=k->k<16->aO (g8 h.s (v:Int) λ_=>0).1 (16*fb h.s (v:Int)+k)=zE:=λk k0 t=>aan (U k k0 t);generalize (g8 h.s (v:Int) λ_=>0)=s' at*
  generalize fb h.s (v:Int)=F at*
  have L: ∀{f o y k:Int} {l:Nat},gh f=some (o,l,y)->0<=k->k<16->aO s'.1 (16*f+k)=aO h.s.1 (16*f+k):=λa k0 t=>by unfold aO;rw[X a k0 t]
  have z: ∀{f o y:Int} {l:Nat},gh f=some (o,l,y)->lr gh F (some ((v:Int),3,0)) f=some (o,l,y):=λ{f o y l} a=>by
   rw[a8 (λc=>by rw[c,b1] at a;cases a)];exact a
  have M: ∀{i:Nat} {x:GV},bA h.g v (some ⟨F,[]⟩) i=some x->(i=v/\x=⟨F,[]⟩)\/(i≠v/\h.g i=some x):=λ{i x} n=>by
   unfold bA at n;by_cases c:i=v
   .rw[az c] at n;cases n;exact .inl ⟨c,rfl⟩
   .rw[ar c] at n;exact .inr ⟨c,n⟩
  have Y:F.toNat<h.s.2.length:=by omega
  have N: ∀{i:Nat} {p:Int},0<=p/\p<65536->pH {h with s:=s',g:=bA h.g v (some ⟨F,[]⟩)} i p=pH h i p:=λ{i p} b=>by
   by_cases c:i=v
   .subst c;rw[iv A,cD (h:={h with s:=s',g:=bA h.g i (some ⟨F,[]⟩)}) (x:=⟨F,[]⟩) (dZ _ _ _)];show bC s' F false p= _;have O:=K (px 3 p % 16) (fC p 3).1 (fC p 3).2;have u:dP (lr gh F (some ((i:Int),3,0))) s' (i:Int) p F 3:=⟨by rw[WX b];exact bR _ _ _,by rw[O];exact FD⟩;rw[E.gv (bR _ _ _) b u,O,AP _ _ rfl]
   .cases n:h.g i with
    |none=>
     rw[iv n];exact iv (h:={h with s:=s',g:=bA h.g v (some ⟨F,[]⟩)}) (show bA h.g v (some ⟨F,[]⟩) i=none by unfold bA;rw[ar c];exact n) p
    |some x=>
     rw[cD n,cD (h:={h with s:=s',g:=bA h.g v (some ⟨F,[]⟩)}) (x:=x) (show bA h.g v (some ⟨F,[]⟩) i=some x by unfold bA;rw[ar c];exact n)];show bC s' x.root false p= _;have ⟨f,j, _,u⟩:=H.inv.kG (H.root n) b;have P:=L u.1 (fC p j).1 (fC p j).2;have Z:dP (lr gh F (some ((v:Int),3,0))) s' (i:Int) p f j:=⟨z u.1,by rw[P];exact u.2⟩;rw[H.inv.gv (H.root n) b u,E.gv (z (H.root n)) b Z,P]
  have Q: ∀(h:HS) {i:Nat} {p:Int},¬ (0<=p/\p<65536)->(pH h i p).2.2.1≠0:=λh {i p} b=>by
   unfold pH;cases h.g i with
   |none=>exact(show ¬ (4:Int)=0 by decide)
   |some x=>dsimp only;rw[Inv.yh b];decide
  have fP:pS {h with s:=s',g:=bA h.g v (some ⟨F,[]⟩)}=pS h:=by
   funext i p;rw[Ok,Ok];by_cases b:0<=p/\p<65536
   .rw[N b]
   .rw[ar (Q _ b),ar (Q _ b)]
  have j_:kA {h with s:=s',g:=bA h.g v (some ⟨F,[]⟩)}=kA h:=by
   funext i;unfold kA;show(match bA h.g v (some ⟨F,[]⟩) i with|some x=>x.tk|none=>[])= _;unfold bA;by_cases c:i=v
   .rw[az c,c,A]
   .rw[ar c]<;>rfl
  have G:h.s.2[F.toNat]? =some zD:=J;have R:xK h {h with s:=s',g:=bA h.g v (some ⟨F,[]⟩)} (λ_ q=> ¬ (0<=q/\q<65536)) (-1):=by
   refine⟨⟨λhq=>N (C7 hq)⟩,λ{m d d'} r I _ _ _ k k0 t=>?_,?_⟩
   .have hmF:m≠F.toNat:=λc=>by rw[c,G] at r;cases r;exact absurd I (by decide)
    exact D _ (by omega)
   .show KD h.s s';have:=KD.set (s:=h.s) (W:=s'.1) (d1:=((3:Int),(v:Int),(0:Int),(0:Int),())) G (λc=>absurd c (by decide)) (λc=>absurd c (by decide));rw[<-C] at this;exact this
  suffices hh:HI (lr gh F (some ((v:Int),3,0))) {h with s:=s',g:=bA h.g v (some ⟨F,[]⟩)} from⟨_,hh,R,λf w a=> .inl (by
   have ⟨o,l,x⟩:=w;exact z a),λf c=>c.kd R.kd λk k0 t=>(by
   have ⟨z0,d,S,z2, _⟩:=c;have:f.toNat≠F.toNat:=λe=>by rw[e,G] at S;cases S;exact absurd z2 (by decide)
   exact D _ (by omega)),λf w a _=>(by
   have ⟨o,l,x⟩:=w;exact z a)⟩
  refine⟨E,λf o x a=>?_,λf o l x k a k0 t b B=>?_,?_,λ{i x} n=>?_,λ{i x} n=>?_,λ{f o y} a=>?_,?_⟩
  .by_cases c:f=F
   .subst c;rw[bR] at a;cases a;rfl
   .rw[a8 c] at a;exact H.rt f o x a
  .by_cases c:f=F
   .subst c;have b:(aO s'.1 (16*f+k)).1=true:=b;rw[K k k0 t] at b;cases b
   .rw[a8 c] at a;have b:(aO s'.1 (16*f+k)).1=true:=b;have B:eM (aO s'.1 (16*f+k))=false:=B;rw[L a k0 t] at b B;exact H.nl a k0 t b B
  .show s'.1.length=16*s'.2.length;rw[V,C,Ce];exact H.sz
  .rcases M n with ⟨c, _⟩|⟨_,c⟩
   .omega
   .exact H.jI c
  .rcases M n with ⟨c,d⟩|⟨_,c⟩
   .subst c;subst d;exact bR _ _ _
   .exact z (H.root c)
  .by_cases c:f=F
   .subst c;rw[bR] at a;cases a;exact⟨v, _,rfl,dZ _ _ _⟩
   .rw[a8 c] at a;have ⟨i,x,r,h2⟩:=H.own a;refine⟨i,x,r,?_⟩;show bA h.g v _ i=some x;unfold bA;rw[ar (λc=>by subst c;rw[A] at h2;cases h2)];exact h2
  .rw[fP,j_];show HC (pS h) (kA h) s'.2 h.gr;rw[C];refine H.hc.F3 (λ{m d} r I=>?_) λ{m d} r=>?_
   .rw[B3 (λc=>by subst c;rw[J] at r;cases r;exact absurd I (by decide))];exact r
   .by_cases c:F.toNat=m
    .subst c;rw[B4 Y] at r;cases r;exact .inr ⟨.inr (.inl rfl),rfl,by show 0<=(v:Int);omega,by show(v:Int)<=16;omega⟩
    .rw[B3 c] at r;exact .inl r
end
theorem n6 {ds:List DT} {v:Int} {i:Nat}:i∈dL ds v<-> ∃d,ds[i]? =some d/\d.2.1=v:=by
 unfold dL;rw[Fk,Dt];constructor
 .rintro⟨a,h2⟩;have hd:ds[i]? =some ds[i]:=Cs a;rw[hd] at h2;exact⟨_,hd,by simpa using h2⟩
 .rintro⟨d,a,h2⟩;exact⟨(C9.1 a).1,by rw[a];simpa using h2⟩
theorem G_ (ds:List DT) (v:Int):(dL ds v).Nodup:=List.Pairwise.filter _ List.nodup_range
theorem zQ {v:Int} (hv:1<=v/\v<=16): ∀(l:List Nat) (ds:List DT) (c:Int),l.Nodup->(∀i∈l, ∀d,ds[i]? =some d->d.1=4->d=(4,v,0,0,()))->
 (l.foldl (rO v) (ds,c)).1.length=ds.length/\ ∀n:Nat,((n∈l/\ ∃d,ds[n]? =some d/\d.1=4)->(l.foldl (rO v) (ds,c)).1[n]? =some (5,v,0,0,()))/\(¬ (n∈l/\ ∃d,ds[n]? =some d/\d.1=4)->(l.foldl (rO v) (ds,c)).1[n]? =ds[n]?)
 |[],ds,c, _, _=>⟨rfl,λn=>⟨λh=>(by cases h.1),λ_=>rfl⟩⟩
 |i::l,ds,c,b,g=>by
  rw[List.nodup_cons] at b;rw[List.foldl_cons];by_cases e:(mH ds (i:Int)).1=4
  .rw[show rO v (ds,c) i=(eC ds (i:Int) (aI 5 v),c+1) from az e];have hi:i<ds.length:=by
    refine C7 λhc=>?_;unfold mH at e;rw[az (.inr (by omega))] at e;exact absurd e (by decide)
   have hd:ds[i]? =some ds[i]:=Cs hi;rw[jU hd] at e;have o:=g i B5 _ hd e;rw[o] at hd;rw[(qf (G:=aI 5 v) hd (l4 hv)).1];have ⟨k,h2⟩:=zQ hv l (ds.set i (5,v,0,0,())) (c+1) b.2 λj f d m p=>by
    have q:i≠j:=λe=>b.1 (by rw[e];exact f);rw[B3 q] at m;exact g j (Ct _ f) d m p
   refine⟨k.trans (Ce ..),λn=>⟨λa=>?_,λa=>?_⟩⟩
   .by_cases en:i=n
    .subst en;rw[(h2 i).2 (λc=>b.1 c.1),B4 hi]
    .refine(h2 n).1 ⟨?_,?_⟩
     .rcases List.mem_cons.1 a.1 with h|h
      .exact absurd h.symm en
      .exact h
     .rw[B3 en];exact a.2
   .have en:i≠n:=λen=>by subst en;exact a ⟨B5, _,hd,rfl⟩
    rw[(h2 n).2 (λc=>a ⟨Ct _ c.1,by rw[B3 en] at c;exact c.2⟩),B3 en]
  .rw[show rO v (ds,c) i=(ds,c) from ar e];have ⟨k,h2⟩:=zQ hv l ds c b.2 λj f=>g j (Ct _ f);refine⟨k,λn=>⟨λa=>(h2 n).1 ⟨?_,a.2⟩,λa=>(h2 n).2 λc=>a ⟨Ct _ c.1,c.2⟩⟩⟩;rcases List.mem_cons.1 a.1 with h|h
   .subst h;have ⟨d,r,s⟩:=a.2;rw[jU r] at e;exact absurd s e
   .exact h
theorem IY {s s':WD} (h:s'.1=s.1) (r:Int) (g:Bool) (p:Int):bC s' r g p=bC s r g p:=by
 unfold bC;rw[h]
section
variable {gh:Gh} {h:HS}
theorem HI.gone (H:HI gh h) {v:Nat} {x:GV} (K:h.g v=some x) (P:kA h v=[]) (Q: ∀n,HM h.s.2 n (v:Int)->dH (kA h) (n:Int)=0): ∃iE,HI iE (r8 h (v:Int))/\xK h (r8 h (v:Int)) (λi _=>i=v) (-1)/\(∀(f:Int) (w:Int×Nat×Int),gh f=some w->w.1≠(v:Int)->iE f=some w)/\ ∀f,mh h.s f->mh (r8 h (v:Int)).s f:=by
 have hd:=H.jI K;have L:1<=(v:Int)/\(v:Int)<=16:=by omega
 have ⟨R,W,w1,l1,F⟩:=H.inv.dropped H.rt (H.root K);have X:aY h.g (v:Int)=x.root:=by
  unfold aY;rw[az (fx.2 ⟨by omega,x,K⟩)];show(match h.g v with|some x=>x.root|none=> -1)= _;rw[K]
 have Y:r8 h (v:Int)={s:=((bV h.s x.root false).1,(yG (bV h.s x.root false).2 (v:Int)).1),g:=bA h.g v none,gr:=bY h.gr (v:Int),po:=(Po.bV 4 h.po (v:Int)).2}:=by
  unfold r8;rw[X];rfl
 rw[Y];generalize bV h.s x.root false=s1 at*
 have Z: ∀{n:Nat} {d:DT},s1.2[n]? =some d->d.1=4->h.s.2[n]? =some d:=λ{n d} j t=>by
  by_cases e: ∃l y,gh (n:Int)=some ((v:Int),l,y)
  .rw[(F n).1 e] at j;cases j;exact absurd t (show ¬ (5:Int)=4 by decide)
  .rw[(F n).2 e] at j;exact j
 have M: ∀{n:Nat} {d:DT},h.s.2[n]? =some d->d.1=4->s1.2[n]? =some d:=λ{n d} j t=>by
  rw[(F n).2 (λ⟨l,y,G⟩=>?_)]
  .exact j
  .have:=(H.inv.kd G).2.2.1;rw[show((n:Int)).toNat=n from rfl,j] at this;cases this;exact absurd t (show ¬ (3:Int)=4 by decide)
 have fR: ∀i∈dL s1.2 (v:Int), ∀d,s1.2[i]? =some d->d.1=4->d=(4,(v:Int),0,0,()):=λi hi d j t=>by
  have ⟨d',I,J⟩:=n6.1 hi;rw[j] at I;cases I;have C:=Z j t;have ⟨_,D, _⟩:=H.hc.kd C;have E:=H.hc.refs C;rw[Q i ⟨d,C,t,J⟩] at E;have ⟨a,b,c,e,u⟩:=d;dsimp only at t D E J;rw[t,D,E,J];rfl
 have ⟨f1,f2⟩:=zQ L (dL s1.2 (v:Int)) s1.2 0 (G_ _ _) fR;have hoT:(yG s1.2 (v:Int)).1=((dL s1.2 (v:Int)).foldl (rO (v:Int)) (s1.2,0)).1:=rfl;rw[<-hoT] at f1 f2;generalize (yG s1.2 (v:Int)).1=r at*
 have B:Inv.gx (Jm gh (v:Int)) s1 (s1.1,r):=by
  refine jB R ⟨rfl,f1⟩ (λb hb=>absurd rfl hb) λ{n d d'} j h2=>?_;by_cases c:n∈dL s1.2 (v:Int)/\ ∃d,s1.2[n]? =some d/\d.1=4
  .have h2:r[n]? =some d':=h2;rw[(f2 n).1 c] at h2;cases h2;have ⟨_,d0,D,E⟩:=c;rw[j] at D;cases D;exact .inr ⟨by rw[E];decide,(show ¬ (5:Int)=3 by decide),λc=>absurd c (show ¬ (5:Int)=0 by decide)⟩
  .have h2:r[n]? =some d':=h2;rw[(f2 n).2 c,j] at h2;cases h2;exact .inl rfl
 have S: ∀{i:Nat} {y:GV},bA h.g v none i=some y->i≠v/\h.g i=some y:=λ{i y} A=>by
  unfold bA at A;by_cases c:i=v
  .rw[az c] at A;cases A
  .rw[ar c] at A;exact⟨c,A⟩
 have N: ∀{i:Nat} {y:GV},i≠v->h.g i=some y->bA h.g v none i=some y:=λ{i y} hi A=>by
  unfold bA;rw[ar hi];exact A
 have acr:kA {s:=(s1.1,r),g:=bA h.g v none,gr:=bY h.gr (v:Int),po:=(Po.bV 4 h.po (v:Int)).2}=kA h:=by
  funext i;unfold kA;show(match bA h.g v none i with|some x=>x.tk|none=>[])= _;unfold bA;by_cases c:i=v
  .rw[az c];subst c;exact P.symm
  .rw[ar c]<;>rfl
 have fP:pS {s:=(s1.1,r),g:=bA h.g v none,gr:=bY h.gr (v:Int),po:=(Po.bV 4 h.po (v:Int)).2}=λi p=>if i=v then none else pS h i p:=by
  funext i p;by_cases c:i=v
  .rw[az c];exact iw (h:={s:=(s1.1,r),g:=bA h.g v none,gr:=bY h.gr (v:Int),po:=(Po.bV 4 h.po (v:Int)).2}) (show bA h.g v none i=none by unfold bA;rw[az c]) p
  .rw[ar c];cases hi:h.g i with
   |none=>
    rw[iw hi];exact iw (h:={s:=(s1.1,r),g:=bA h.g v none,gr:=bY h.gr (v:Int),po:=(Po.bV 4 h.po (v:Int)).2}) (show bA h.g v none i=none by unfold bA;rw[ar c];exact hi) p
   |some z=>
    rw[cZ hi,cZ (h:={s:=(s1.1,r),g:=bA h.g v none,gr:=bY h.gr (v:Int),po:=(Po.bV 4 h.po (v:Int)).2}) (N c hi)];rw[IY (s:=h.s) (s':=(s1.1,r)) w1]
 have T:xK h {s:=(s1.1,r),g:=bA h.g v none,gr:=bY h.gr (v:Int),po:=(Po.bV 4 h.po (v:Int)).2} (λi _=>i=v) (-1):=by
  refine⟨⟨λ{i q} c=>?_⟩,λ{m d d'} _ _ _ _ _ k _ _=>by show eY s1.1 _= _;rw[w1],λ{n d} j t=>?_,λ{n d} j h5=>?_⟩
  .cases hi:h.g i with
   |none=>
    rw[iv hi];exact iv (h:={s:=(s1.1,r),g:=bA h.g v none,gr:=bY h.gr (v:Int),po:=(Po.bV 4 h.po (v:Int)).2}) (show bA h.g v none i=none by unfold bA;rw[ar c];exact hi) q
   |some z=>
    rw[cD hi,cD (h:={s:=(s1.1,r),g:=bA h.g v none,gr:=bY h.gr (v:Int),po:=(Po.bV 4 h.po (v:Int)).2}) (N c hi)];exact IY (s:=h.s) (s':=(s1.1,r)) w1 _ _ _
  .have C:=M j t;show∃d',r[n]? =some d'/\ _;by_cases c:n∈dL s1.2 (v:Int)/\ ∃d,s1.2[n]? =some d/\d.1=4
   .exact⟨_,(f2 n).1 c,.inr rfl⟩
   .exact⟨d,by rw[(f2 n).2 c];exact C,.inl t⟩
  .show∃d',r[n]? =some d'/\ _;have C: ∃d',s1.2[n]? =some d'/\d'.1=5:=by
    by_cases e: ∃l y,gh (n:Int)=some ((v:Int),l,y)
    .exact⟨_,(F n).1 e,rfl⟩
    .exact⟨d,by rw[(F n).2 e];exact j,h5⟩
   have ⟨d',D,E⟩:=C;by_cases c:n∈dL s1.2 (v:Int)/\ ∃d,s1.2[n]? =some d/\d.1=4
   .exact⟨_,(f2 n).1 c,rfl⟩
   .exact⟨d',by rw[(f2 n).2 c];exact D,E⟩
 suffices hh:HI (Jm gh (v:Int)) {s:=(s1.1,r),g:=bA h.g v none,gr:=bY h.gr (v:Int),po:=(Po.bV 4 h.po (v:Int)).2} from⟨_,hh,T,λf w G hn=>dE.2 ⟨G,hn⟩,λf c=>c.kd T.kd λk _ _=>by show eY s1.1 _= _;rw[w1]⟩
 refine⟨R.beside B,W,Inv.n_ B (λf o l y k G k0 I U V=>?_),?_,λ{i y} A=>H.jI (S A).2,λ{i y} A=>?_,λ{f o y} G=>?_,?_⟩
 .rw[w1] at U V;exact H.nl (dE.1 G).1 k0 I U V
 .show s1.1.length=16*r.length;rw[w1,f1,l1];exact H.sz
 .have ⟨j,h2⟩:=S A;exact dE.2 ⟨H.root h2,λc=>j (Dn c)⟩
 .have ⟨j,h2⟩:=dE.1 G;have ⟨i,y',D,E⟩:=H.own j;exact⟨i,y',D,N (λc=>h2 (by show o= _;rw[<-D,c])) E⟩
 .rw[fP,acr];refine H.hc.gone ⟨by omega,by omega⟩ P (λ{n d} j t O=>?_) (λ{n d} j t O=>?_) (λ{n d} j=>?_) (H.hc.gk.drop _)
  .rw[H.hc.refs j,Q n ⟨d,j,t,O⟩];rfl
  .show r[n]? =some d;rw[(f2 n).2 (λc=>?_)]
   .exact M j t
   .have ⟨d',I,J⟩:=n6.1 c.1;rw[M j t] at I;cases I;exact O J
  .have j:r[n]? =some d:=j;by_cases c:n∈dL s1.2 (v:Int)/\ ∃d,s1.2[n]? =some d/\d.1=4
   .rw[(f2 n).1 c] at j;cases j;exact .inr ⟨.inr (.inr rfl),rfl,by show 0<=(v:Int);omega,L.2⟩
   .rw[(f2 n).2 c] at j;by_cases e: ∃l y,gh (n:Int)=some ((v:Int),l,y)
    .rw[(F n).1 e] at j;cases j;exact .inr ⟨.inr (.inr rfl),rfl,by show 0<=(v:Int);omega,L.2⟩
    .have C:=j;rw[(F n).2 e] at j;exact .inl ⟨j,λk=>c ⟨n6.2 ⟨d,C,k.2⟩,d,C,k.1⟩⟩
theorem HI.U3 (H:HI gh h) (a:Int): ∃iE,HI iE (tF h a)/\xK h (tF h a) (λi _=>i=a.toNat) (-1)/\(∀(f:Int) (w:Int×Nat×Int),gh f=some w->w.1≠a->iE f=some w\/mh (tF h a).s f)/\ ∀f,mh h.s f->mh (tF h a).s f:=by
 unfold tF;by_cases k:aV h.g a=true
 case neg=>rw[ar k];exact⟨gh,H,.refl _ _ _,λ_ _ h _=> .inl h,λ_ h=>h⟩
 rw[az k];by_cases hb:mj h.s.2 a=true
 case pos=>rw[az hb];exact⟨gh,H,.refl _ _ _,λ_ _ h _=> .inl h,λ_ h=>h⟩
 rw[ar hb];have ⟨x,l,M,hv,N,O⟩:=bK k;obtain⟨v,rfl⟩: ∃v:Nat,a=(v:Int):=⟨a.toNat,hv.symm⟩;have l:h.g v=some x:=l;have ⟨g1,u,⟨P,y⟩,p,z,A,B,r⟩:=HI.fg (pR h (v:Int)).length H ⟨x,l⟩ rfl
 suffices C: ∀n,HM (_root_.Go.Proofs.YteeflilbnoknnaaGreat.fg (v:Int) (pR h (v:Int)).length h).s.2 n (v:Int)->dH (kA (_root_.Go.Proofs.YteeflilbnoknnaaGreat.fg (v:Int) (pR h (v:Int)).length h)) (n:Int)=0 by
  have ⟨D,E,E2,b,m⟩:=u.gone y p C;exact⟨D,E,B.trans E2,λf w F o=>(r.1 f w F).imp (λe=>b f w e o) (m f),λf c=>m f (r.2.1 f c)⟩
 intro n o;rcases H8 (dH (kA (_root_.Go.Proofs.YteeflilbnoknnaaGreat.fg (v:Int) (pR h (v:Int)).length h)) (n:Int)) with e|e
 .exact e
 .have ⟨i,t,hi,j,G⟩:=uz e;have I:i≠v:=λc=>by rw[c,p] at j;cases j
  have J:t∈kA h i:=by
   unfold kA at j ⊢;rw[z i I] at j;exact j
  have ⟨d,b,m,K⟩:=(A n (v:Int)).1 o;have Q:=m5 (q:=λt=>t.2.2==(n:Int)) hi J G;have L:=H.hc.refs b;refine absurd ?_ hb;unfold mj;refine List.any_eq_true.2 ⟨n,n6.2 ⟨d,b,K⟩,?_⟩;rw[jU b];have:d.2.2.1>0:=by rw[L];unfold dH;omega
  simpa using this
end
theorem An (o pg:Int): ∀(n:Nat) (x:WD×PT),(nP o pg n x).1.1.length=x.1.1.length
 |0,x=>rfl
 |n+1,x=>by
  rw[nP,An o pg n];exact ye _ _ _ _ _
theorem Lt (s:WD) (o r pg lv:Int) (e:ET):(pW s o r pg lv e).1.length=s.1.length:=by
 unfold pW;split
 .show(fm _ _ _).length= _;rw[cL,An]
 .rfl
theorem rB (s:WD) (o r:Int) (gone:Bool) (pg f rt:Int):(js s o r gone pg f rt).1.length=s.1.length:=by
 unfold js;split
 .rfl
 .split
  .exact Lt _ _ _ _ _ _
  .rfl
theorem Lu (s:WD) (o r:Int) (gone:Bool) (pg rt:Int):(pY s o r gone pg rt).1.length=s.1.length:=by
 unfold pY;split
 .rfl
 split
 .split
  .split
   .rfl
   .split
    .show(fm _ _ _).length= _;rw[cL,ux]
    .exact ux _ _ _ _
  .rfl
 .rfl
theorem Q' (s:WD) (r:Int) (gone:Bool):(bV s r gone).1=s.1:=by
 unfold bV;split<;>rfl
theorem BV (v:Int): ∀(n:Nat) (h:HS),(fg v n h).s.1.length=h.s.1.length
 |0,h=>rfl
 |n+1,h=>by
  rw[fg,BV v n];exact uy _ _ _ _ _
theorem U4 (h:HS) (v k a b c:Int):(run h v k a b c).1.s.1.length=h.s.1.length:=by
 unfold run;split
 .show(jQ h).s.1.length= _;unfold jQ;split
  .rfl
  .split
   .exact IM _ _ _
   .rfl
 .show(tF h a).s.1.length= _;unfold tF;split
  .split
   .rfl
   .show(bV _ _ _).1.length= _;rw[Q',BV]
  .rfl
 .show(gE h v a b).s.1.length= _;unfold gE;split
  .rfl
  split
  .rfl
  split
  .rfl
  split
  .exact rB _ _ _ _ _ _ _
  .exact(gN _ _ _ _).trans (rB _ _ _ _ _ _ _)
 .show(nu h v a).s.1.length= _;unfold nu;split
  .exact uy _ _ _ _ _
  .rfl
 .show(iU h v a b).s.1.length= _;unfold iU;split
  .rfl
  split
  .rfl
  split
  .rfl
  .exact Lu _ _ _ _ _ _
 .rfl
 .show(iY h v a b).s.1.length= _;unfold iY;split
  .rfl
  .exact cL _ _ _
 .show(kH h v a b c).s.1.length= _;unfold kH;split<;>rfl
 .show(gW h v a b c).s.1.length= _;unfold gW;split
  .rfl
  split
  .exact rB _ _ _ _ _ _ _
  .exact rB _ _ _ _ _ _ _
 .show(fU h v a).s.1.length= _;unfold fU;split
  .rfl
  split
  .exact uy _ _ _ _ _
  .rfl
 .show(jY h v a).s.1.length= _;unfold jY;split<;>rfl
 .show(jO h v a).s.1.length= _;unfold jO;split<;>rfl
 .show(jP h v a b).s.1.length= _;unfold jP;split
  .rfl
  split<;>rfl
 .show(mi h v a).s.1.length= _;unfold mi;split<;>rfl
 .rfl
 .show(jv h v a).s.1.length= _;unfold jv;split<;>rfl
 .show(cv h.s _).1.1.length= _;rw[(v_ h.s _).1]
theorem F6 (h:HS) (v k a b c:Int):(AB h v k a b c).s.1.length=h.s.1.length:=by
 unfold AB;split
 .exact U4 _ _ _ _ _ _
 .rfl
theorem On {h:HS} {v k a b c:Int} (f:qe h v k a b c=0):(1<=k/\k<=17)/\(xP k=false->aV h.g v=true)/\iq k a b c=true:=by
 unfold qe at f;split at f
 .exact absurd f (by decide)
 rename_i d1;split at f
 .exact absurd f (by decide)
 rename_i j;split at f
 .exact absurd f (by decide)
 rename_i d;have i:iq k a b c=true:=by
  cases e:iq k a b c with
  |true=>rfl
  |false=>rw[e] at d1;simp at d1
 have d0: ¬ v<0:=λe=>d1 (by simp[e]);refine⟨?_,λe=>?_,i⟩
 .unfold iq at i;rw[HB,decide_eq_true_eq] at i;have d1:=i.1;unfold jM at d1;by_cases e:1<=k/\k<=17
  .exact e
  .rw[ar e] at d1;exact absurd d1 (by decide)
 .rw[e] at j;have m:v≠0:=by
   intro l;rw[l] at j;exact absurd rfl j
  have:decide (v>0)=true:=decide_eq_true (by omega);rw[this,Bool.true_and] at d;simpa using d
section
variable {gh:Gh} {h:HS}
theorem HI.run (H:HI gh h) {v k a b c:Int} (i:1<=k/\k<=17) (d:xP k=false->aV h.g v=true) (f:0<=a): ∃iE,HI iE (run h v k a b c).1:=by
 have:k=1\/k=2\/k=3\/k=4\/k=5\/k=6\/k=7\/k=8\/k=9\/k=10\/k=11\/k=12\/k=13\/k=14\/k=15\/k=16\/k=17:=by omega
 rcases this with rfl|rfl|rfl|rfl|rfl|rfl|rfl|rfl|rfl|rfl|rfl|rfl|rfl|rfl|rfl|rfl|rfl
 .have ⟨g',e, _⟩:=H.YX (oo:=v);exact⟨g',e⟩
 .have ⟨g',e, _⟩:=H.U3 a;exact⟨g',e⟩
 .exact H.F4 (d rfl) a b
 .exact H.CR (d rfl) a
 .exact H.tR (d rfl) a b
 .exact⟨gh,H⟩
 .exact⟨gh,(H.store (d rfl) f b).1⟩
 .exact⟨gh,H.offer v a b c⟩
 .exact H.take (d rfl) a b c
 .exact H.back (d rfl) a
 .exact⟨gh,H.YR v a⟩
 .refine⟨gh,?_⟩;show HI gh (jO h v a);unfold jO;split
  .exact H.po _
  .exact H
 .refine⟨gh,?_⟩;show HI gh (jP h v a b);unfold jP;split
  .exact H
  split
  .exact H.po _
  .exact H
 .refine⟨gh,?_⟩;show HI gh (mi h v a);unfold mi;split
  .exact H
  .exact H.po _
 .exact⟨gh,H.po _⟩
 .refine⟨gh,?_⟩;show HI gh (jv h v a);unfold jv;split
  .exact H
  .exact H.po _
 .exact⟨gh,H.Wc _⟩
theorem HI.step (H:HI gh h) (v k:Int) {a:Int} (b c:Int) (e:0<=a): ∃iE,HI iE (AB h v k a b c):=by
 unfold AB;by_cases d:qe h v k a b c=0
 .rw[az d];have ⟨f,h2, _⟩:=On d;exact H.run f h2 e
 .rw[ar d];exact⟨gh,H⟩
end
theorem HI.new {n:Nat} (k:4<=n/\n<=4096):HI noG (h0 n) where
 inv:=K3 (Df _) k.2
 rt:=λf o x h=>(by cases h)
 nl:=λf o l x i h=>(by cases h)
 sz:=by
  show(AZ (16*n) (0:Int)).length=16*(AZ n zD).length;rw[DA,DA]
 jI:=λh=>(by cases h)
 root:=λh=>(by cases h)
 own:=λh=>(by cases h)
 hc:=by
  have b: ∀i p,pS (h0 n) i p=none:=λi p=>rfl;have c: ∀i,kA (h0 n) i=[]:=λi=>rfl;have hd: ∀{m:Nat} {d:DT},(AZ n zD)[m]? =some d->d=zD:=λ{m d} h=>E4 (Ch h);have r: ∀{m:Nat} {x:GT},(AZ 16 zG)[m]? =some x->x=zG:=λ{m d} h=>E4 (Ch h);have e: ∀q,ou (kA (h0 n)) q=0:=λq=>BQ λi t g=>by rw[c i] at g;cases g
  refine⟨λh=>?_,λ{m d} h=>?_,λ{m d} h j=>?_,λh=>?_,λ{i p a f} h=>?_,λi=>?_,λh=>?_,λ{m d} h=>?_,λ{m x} h=>?_,DA,kf.new 16⟩
  .rw[b] at h;cases h
  .rw[hd h];decide
  .rw[hd h] at j;exact absurd j (by decide)
  .rw[b] at h;cases h
  .rw[c i] at h;unfold bU at h;simp at h
  .rw[c i];exact List.nodup_nil
  .rw[b] at h;cases h
  .rw[hd h];unfold dH;rw[e];rfl
  .rw[r h];unfold nS;rw[e];rfl
noncomputable def Y0:fa AC:={V0 with quiet:=26::V0.quiet}
theorem Lv (w:A2) (C:Bool->A2->Prop):(aL Y0 (λ_=>[]) 28 [] w C)=(
 aA AC 6 (.bu [bF,aq]) [aa 20] w λ(x:Option AE×Int×Unit) a=>aA AC 6 (.bu [bF,aq]) [aa 3] a λ(k:Option AE×Int×Unit) a=>aD (x.2.1 != 0||x.1.isNone) (ak a (C false)) (aA AC 9 jJ [ah x.1,aa 0,.agg ⟨[aa 1,av 0,av 0,av 0]⟩] a λ(E:Int×Int×Unit) a=>aH a ⟨[av 0,aa 0]⟩ 38 λb a=>aw a (ae b) [av E.1,aa E.2.1] λa=>aA AC 9 jJ [ah x.1,aa 0,
 .agg ⟨[aa 1,av 0,av 0,av 0]⟩] a λ(F:Int×Int×Unit) a=>aH a ⟨[av 0,aa 0]⟩ 38 λG a=>aw a (ae G) [av F.1,aa F.2.1] λa=>aA AC 9 jJ [ah x.1,aa 1,.agg ⟨[aa 3,av 5,av 3,av 0]⟩] a λ(H:Int×Int×Unit) a=>aH a ⟨[av 0,aa 0]⟩ 38 λI a=>aw a (ae I) [av H.1,aa H.2.1] λa=>aA AC 9 jJ [ah x.1,aa 1,.agg ⟨[aa 7,av 80,av 9,.int .u64
 0]⟩] a λ(J:Int×Int×Unit) a=>aH a ⟨[av 0,aa 0]⟩ 38 λK a=>aw a (ae K) [av J.1,aa J.2.1] λa=>aA AC 9 jJ [ah x.1,aa 1,.agg ⟨[aa 8,av 5,av 2,av 0]⟩] a λ(L:Int×Int×Unit) a=>aH a ⟨[av 0,aa 0]⟩ 38 λM a=>aw a (ae M) [av L.1,aa L.2.1] λa=>aA AC 9 jJ [ah x.1,aa 2,.agg ⟨[aa 9,av 0,av 7,av 1]⟩] a λ(N:Int×Int×Unit) a=>aH a ⟨[.int
 .u64 0,aa 0]⟩ 38 λO a=>aw a (ae O) [av N.1,aa N.2.1] λa=>aA AC 9 jJ [ah x.1,aa 2,.agg ⟨[aa 9,av 0,av 7,av 0]⟩] a λ(P:Int×Int×Unit) a=>aH a ⟨[av 0,aa 0]⟩ 38 λQ a=>aw a (ae Q) [av P.1,aa P.2.1] λa=>aA AC 9 jJ [ah x.1,aa 2,.agg ⟨[aa 6,av 112,av 0,av 0]⟩] a λ(R:Int×Int×Unit) a=>aH a ⟨[av 0,aa 0]⟩ 38 λS a=>aw a (ae S)
 [av R.1,aa R.2.1] λa=>aA AC 9 jJ [ah x.1,aa 2,.agg ⟨[aa 7,av 112,av 0,av 0]⟩] a λ(T:Int×Int×Unit) a=>aH a ⟨[av 0,aa 0]⟩ 38 λU a=>aw a (ae U) [av T.1,aa T.2.1] λa=>aA AC 9 jJ [ah x.1,aa 1,.agg ⟨[aa 4,av 5,av 0,av 0]⟩] a λ(V:Int×Int×Unit) a=>aH a ⟨[av 0,aa 0]⟩ 38 λW a=>aw a (ae W) [av V.1,aa V.2.1] λa=>
 aA AC 9 jJ [ah x.1,aa 0,.agg ⟨[aa 2,av 1,av 0,av 0]⟩] a λ(X:Int×Int×Unit) a=>aH a ⟨[av 0,aa 0]⟩ 38 λY a=>aw a (ae Y) [av X.1,aa X.2.1] λa=>aA AC 9 jJ [ah x.1,aa 2,.agg ⟨[aa 10,av 7,av 0,av 0]⟩] a λ(Z:Int×Int×Unit) a=>aH a ⟨[av 0,aa 0]⟩ 38 λaav a=>aw a (ae aav) [av Z.1,aa Z.2.1] λa=>aA AC 9 jJ [ah x.1,.int
 .i64 0,.agg ⟨[aa 2,av 1,av 0,av 0]⟩] a λ(iJ:Int×Int×Unit) a=>aH a ⟨[av 0,aa 0]⟩ 38 λaaw a=>aw a (ae aaw) [av iJ.1,aa iJ.2.1] λa=>aA AC 9 jJ [ah x.1,aa 1,.agg ⟨[aa 15,av 0,av 0,av 0]⟩] a λ(iX:Int×Int×Unit) a=>aH a ⟨[av 0,aa 0]⟩ 38 λaax a=>aw a (ae aax) [av iX.1,aa iX.2.1] λa=>aA AC 9 jJ [ah x.1,aa 0,.agg ⟨[aa 17,av 0,.int
 .u64 0,av 0]⟩] a λ(h_:Int×Int×Unit) a=>aH a ⟨[av 0,aa 0]⟩ 38 λaay a=>aw a (ae aay) [av h_.1,aa h_.2.1] λa=>aA AC 9 jJ [ah x.1,aa 2,.agg ⟨[aa 1,av 0,av 0,av 0]⟩] a λ(kZ:Int×Int×Unit) a=>aH a ⟨[av 0,aa 0]⟩ 38 λaaz a=>aw a (ae aaz) [av kZ.1,aa kZ.2.1] λa=>aH a ⟨[av 0,aa 0]⟩ 38 λy a=>aw a (ae y) [av 0,aa 0] λa=>((k.2.1==1)=true->true=
 true)/\ag a (some (k.2.1==1)) (ad (ae b) 0) gZ λ(l:Int)=>((k.2.1==1&&l==1)=true->true=true)/\ag a (some (k.2.1==1&&l==1)) (ad (ae G) 0) gZ λ(m:Int)=>ag a (some (k.2.1==1&&l==1&&m==2)) (ae I) cT λ(c:Int×Int×Unit)=>ag a (some (k.2.1==1&&l==1&&m==2&&(c.1==2&&(c.2.1==0&&true)))) (ae K) cT λ(d:Int×Int×Unit)=>ag a (some (k.2.1==1&&l==1&&m==2&&(c.1==2&&(c.2.1==0&&true)))) (ae y) cT λ(e:Int
 ×Int×Unit)=>ag a (some (k.2.1==1&&l==1&&m==2&&(c.1==2&&(c.2.1==0&&true))&&(d.1==e.1&&(d.2.1==e.2.1&&true)))) (ae M) cT λ(f:Int×Int×Unit)=>ag a (some (k.2.1==1&&l==1&&m==2&&(c.1==2&&(c.2.1==0&&true))&&(d.1==e.1&&(d.2.1==e.2.1&&true)))) (ae y) cT λ(g:Int×Int×Unit)=>((k.2.1==1&&l==1&&m==2&&(c.1==2&&(c.2.1==0&&true))&&(d.1==e.1&&(d.2.1==e.2.1&&true))&&(f.1==g.1&&(f.2.1
 ==g.2.1&&true)))=true->true=true)/\ag a (some (k.2.1==1&&l==1&&m==2&&(c.1==2&&(c.2.1==0&&true))&&(d.1==e.1&&(d.2.1==e.2.1&&true))&&(f.1==g.1&&(f.2.1==g.2.1&&true)))) (ad (ae O) 1) aq λ(n:Int)=>ag a (some (k.2.1==1&&l==1&&m==2&&(c.1==2&&(c.2.1==0&&true))&&(d.1==e.1&&(d.2.1==e.2.1&&true))&&(f.1==g.1&&(f.2.1==g.2.1&&true))&&n==7)) (ae Q) cT λ(h:Int×Int×Unit)=>ag a (some (k.2.1==
 1&&l==1&&m==2&&(c.1==2&&(c.2.1==0&&true))&&(d.1==e.1&&(d.2.1==e.2.1&&true))&&(f.1==g.1&&(f.2.1==g.2.1&&true))&&n==7)) (ae y) cT λ(i:Int×Int×Unit)=>ag a (some (k.2.1==1&&l==1&&m==2&&(c.1==2&&(c.2.1==0&&true))&&(d.1==e.1&&(d.2.1==e.2.1&&true))&&(f.1==g.1&&(f.2.1==g.2.1&&true))&&n==7&&(h.1==i.1&&(h.2.1==i.2.1&&true)))) (ae S) cT λ(j:Int×Int×Unit)=>((k.2.1==1&&l
 ==1&&m==2&&(c.1==2&&(c.2.1==0&&true))&&(d.1==e.1&&(d.2.1==e.2.1&&true))&&(f.1==g.1&&(f.2.1==g.2.1&&true))&&n==7&&(h.1==i.1&&(h.2.1==i.2.1&&true))&&(j.1==9&&(j.2.1==0&&true)))=true->true=true)/\ag a (some (k.2.1==1&&l==1&&m==2&&(c.1==2&&(c.2.1==0&&true))&&(d.1==e.1&&(d.2.1==e.2.1&&true))&&(f.1==g.1&&(f.2.1==g.2.1&&true))&&n==7&&(h.1==i.1&&(h.2.1==i.2.1&&true))&&
 (j.1==9&&(j.2.1==0&&true)))) (ad (ae U) 1) aq λ(r:Int)=>((k.2.1==1&&l==1&&m==2&&(c.1==2&&(c.2.1==0&&true))&&(d.1==e.1&&(d.2.1==e.2.1&&true))&&(f.1==g.1&&(f.2.1==g.2.1&&true))&&n==7&&(h.1==i.1&&(h.2.1==i.2.1&&true))&&(j.1==9&&(j.2.1==0&&true))&&r==7)=true->true=true)/\ag a (some (k.2.1==1&&l==1&&m==2&&(c.1==2&&(c.2.1==0&&true))&&(d.1==e.1&&(d.2.1==e.2.1&&true))&&(f.1
 ==g.1&&(f.2.1==g.2.1&&true))&&n==7&&(h.1==i.1&&(h.2.1==i.2.1&&true))&&(j.1==9&&(j.2.1==0&&true))&&r==7)) (ad (ae W) 1) aq λ(s:Int)=>((k.2.1==1&&l==1&&m==2&&(c.1==2&&(c.2.1==0&&true))&&(d.1==e.1&&(d.2.1==e.2.1&&true))&&(f.1==g.1&&(f.2.1==g.2.1&&true))&&n==7&&(h.1==i.1&&(h.2.1==i.2.1&&true))&&(j.1==9&&(j.2.1==0&&true))&&r==7&&s==9)=true->true=true)/\ag a (some (k.2.1
 ==1&&l==1&&m==2&&(c.1==2&&(c.2.1==0&&true))&&(d.1==e.1&&(d.2.1==e.2.1&&true))&&(f.1==g.1&&(f.2.1==g.2.1&&true))&&n==7&&(h.1==i.1&&(h.2.1==i.2.1&&true))&&(j.1==9&&(j.2.1==0&&true))&&r==7&&s==9)) (ad (ae Y) 1) aq λ(u:Int)=>ag a (some (k.2.1==1&&l==1&&m==2&&(c.1==2&&(c.2.1==0&&true))&&(d.1==e.1&&(d.2.1==e.2.1&&true))&&(f.1==g.1&&(f.2.1==g.2.1&&true))&&n==7&&
 (h.1==i.1&&(h.2.1==i.2.1&&true))&&(j.1==9&&(j.2.1==0&&true))&&r==7&&s==9&&u==9)) (ae aav) cT λ(o:Int×Int×Unit)=>ag a (some (k.2.1==1&&l==1&&m==2&&(c.1==2&&(c.2.1==0&&true))&&(d.1==e.1&&(d.2.1==e.2.1&&true))&&(f.1==g.1&&(f.2.1==g.2.1&&true))&&n==7&&(h.1==i.1&&(h.2.1==i.2.1&&true))&&(j.1==9&&(j.2.1==0&&true))&&r==7&&s==9&&u==9)) (ae y) cT λ(p:Int×Int×Unit)=>
 ag a (some (k.2.1==1&&l==1&&m==2&&(c.1==2&&(c.2.1==0&&true))&&(d.1==e.1&&(d.2.1==e.2.1&&true))&&(f.1==g.1&&(f.2.1==g.2.1&&true))&&n==7&&(h.1==i.1&&(h.2.1==i.2.1&&true))&&(j.1==9&&(j.2.1==0&&true))&&r==7&&s==9&&u==9&&(o.1==p.1&&(o.2.1==p.2.1&&true)))) (ae aaw) cT λ(q:Int×Int×Unit)=>((k.2.1==1&&l==1&&m==2&&(c.1==2&&(c.2.1==0&&true))&&(d.1==e.1&&(d.2.1==e.2.1
 &&true))&&(f.1==g.1&&(f.2.1==g.2.1&&true))&&n==7&&(h.1==i.1&&(h.2.1==i.2.1&&true))&&(j.1==9&&(j.2.1==0&&true))&&r==7&&s==9&&u==9&&(o.1==p.1&&(o.2.1==p.2.1&&true))&&(q.1==1&&(q.2.1==0&&true)))=true->true=true)/\ag a (some (k.2.1==1&&l==1&&m==2&&(c.1==2&&(c.2.1==0&&true))&&(d.1==e.1&&(d.2.1==e.2.1&&true))&&(f.1==g.1&&(f.2.1==g.2.1&&true))&&n==7&&(h.1==i.1&&(h.2.1
 ==i.2.1&&true))&&(j.1==9&&(j.2.1==0&&true))&&r==7&&s==9&&u==9&&(o.1==p.1&&(o.2.1==p.2.1&&true))&&(q.1==1&&(q.2.1==0&&true)))) (ad (ae aax) 1) aq λ(v:Int)=>ag a (some (k.2.1==1&&l==1&&m==2&&(c.1==2&&(c.2.1==0&&true))&&(d.1==e.1&&(d.2.1==e.2.1&&true))&&(f.1==g.1&&(f.2.1==g.2.1&&true))&&n==7&&(h.1==i.1&&(h.2.1==i.2.1&&true))&&(j.1==9&&(j.2.1==0&&true))&&r==7&&s==9
 &&u==9&&(o.1==p.1&&(o.2.1==p.2.1&&true))&&(q.1==1&&(q.2.1==0&&true))&&v==4)) (ae aay) cT λ(t:Int×Int×Unit)=>((k.2.1==1&&l==1&&m==2&&(c.1==2&&(c.2.1==0&&true))&&(d.1==e.1&&(d.2.1==e.2.1&&true))&&(f.1==g.1&&(f.2.1==g.2.1&&true))&&n==7&&(h.1==i.1&&(h.2.1==i.2.1&&true))&&(j.1==9&&(j.2.1==0&&true))&&r==7&&s==9&&u==9&&(o.1==p.1&&(o.2.1==p.2.1&&true))&&(q.1==1
 &&(q.2.1==0&&true))&&v==4&&(t.1==8&&(t.2.1==0&&true)))=true->true=true)/\ag a (some (k.2.1==1&&l==1&&m==2&&(c.1==2&&(c.2.1==0&&true))&&(d.1==e.1&&(d.2.1==e.2.1&&true))&&(f.1==g.1&&(f.2.1==g.2.1&&true))&&n==7&&(h.1==i.1&&(h.2.1==i.2.1&&true))&&(j.1==9&&(j.2.1==0&&true))&&r==7&&s==9&&u==9&&(o.1==p.1&&(o.2.1==p.2.1&&true))&&(q.1==1&&(q.2.1==0&&true))&&v==4&&(t.1==8
 &&(t.2.1==0&&true)))) (ad (ae aaz) 1) aq λ(z:Int)=> ∃A,((k.2.1==1&&l==1&&m==2&&(c.1==2&&(c.2.1==0&&true))&&(d.1==e.1&&(d.2.1==e.2.1&&true))&&(f.1==g.1&&(f.2.1==g.2.1&&true))&&n==7&&(h.1==i.1&&(h.2.1==i.2.1&&true))&&(j.1==9&&(j.2.1==0&&true))&&r==7&&s==9&&u==9&&(o.1==p.1&&(o.2.1==p.2.1&&true))&&(q.1==1&&(q.2.1==0&&true))&&v==4&&(t.1==8&&(t.2.1==0&&true))&&z==
 7)=true->ai AC 18 [ah x.1,aa 1] a (.bool A))/\ ∃B,((k.2.1==1&&l==1&&m==2&&(c.1==2&&(c.2.1==0&&true))&&(d.1==e.1&&(d.2.1==e.2.1&&true))&&(f.1==g.1&&(f.2.1==g.2.1&&true))&&n==7&&(h.1==i.1&&(h.2.1==i.2.1&&true))&&(j.1==9&&(j.2.1==0&&true))&&r==7&&s==9&&u==9&&(o.1==p.1&&(o.2.1==p.2.1&&true))&&(q.1==1&&(q.2.1==0&&true))&&v==4&&(t.1==8&&(t.2.1==0&&true))&&
 z==7&& !A)=true->ai AC 18 [ah x.1,aa 2] a (.bool B))/\ ∃(D:Int),((k.2.1==1&&l==1&&m==2&&(c.1==2&&(c.2.1==0&&true))&&(d.1==e.1&&(d.2.1==e.2.1&&true))&&(f.1==g.1&&(f.2.1==g.2.1&&true))&&n==7&&(h.1==i.1&&(h.2.1==i.2.1&&true))&&(j.1==9&&(j.2.1==0&&true))&&r==7&&s==9&&u==9&&(o.1==p.1&&(o.2.1==p.2.1&&true))&&(q.1==1&&(q.2.1==0&&true))&&v==4&&(t.1==8&&
 (t.2.1==0&&true))&&z==7&& !A&&B)=true->ai AC 20 [ah x.1,aa 1] a (aa D))/\ ∃aaA,((k.2.1==1&&l==1&&m==2&&(c.1==2&&(c.2.1==0&&true))&&(d.1==e.1&&(d.2.1==e.2.1&&true))&&(f.1==g.1&&(f.2.1==g.2.1&&true))&&n==7&&(h.1==i.1&&(h.2.1==i.2.1&&true))&&(j.1==9&&(j.2.1==0&&true))&&r==7&&s==9&&u==9&&(o.1==p.1&&(o.2.1==p.2.1&&true))&&(q.1==1&&(q.2.1==0&&true))&&
 v==4&&(t.1==8&&(t.2.1==0&&true))&&z==7&& !A&&B&&D== -1)=true->ai AC 26 [ah x.1,aa 1,aa 2] a (.bool aaA))/\ak a λw1=>C (k.2.1==1&&l==1&&m==2&&(c.1==2&&(c.2.1==0&&true))&&(d.1==e.1&&(d.2.1==e.2.1&&true))&&(f.1==g.1&&(f.2.1==g.2.1&&true))&&n==7&&(h.1==i.1&&(h.2.1==i.2.1&&true))&&(j.1==9&&(j.2.1==0&&true))&&r==7&&s==9&&u==9&&(o.1==p.1&&(o.2.1==
 p.2.1&&true))&&(q.1==1&&(q.2.1==0&&true))&&v==4&&(t.1==8&&(t.2.1==0&&true))&&z==7&& !A&&B&&D== -1&& !aaA) w1)):=by kernel_rfl
abbrev CQ:Type:=Int×Int×Int×Int×Int
def dQ (h:HS) (q:CQ):HS:=AB h q.1 q.2.1 q.2.2.1 q.2.2.2.1 q.2.2.2.2
def rQ (h:HS) (q:CQ):Int×Int:=(ML h q.1 q.2.1 q.2.2.1 q.2.2.2.1 q.2.2.2.2,MK h q.1 q.2.1 q.2.2.1 q.2.2.2.1 q.2.2.2.2)
def runs:List CQ->HS->List (Int×Int)
 |[], _=>[]
 |q::l,h=>rQ h q::runs l (dQ h q)
def ends (l:List CQ) (h:HS):HS:=l.foldl dQ h
def kq:List CQ:=[(0,1,0,0,0),(0,1,0,0,0),(1,3,5,3,0),(1,7,80,9,0),(1,8,5,2,0),(2,9,0,7,1),(2,9,0,7,0),(2,6,112,0,0),(2,7,112,0,0),(1,4,5,0,0),(0,2,1,0,0),(2,10,7,0,0),(0,2,1,0,0),(1,15,0,0,0),(0,17,0,0,0),(2,1,0,0,0)]
theorem YY:runs kq (h0 20)=[(1,0),(2,0),(2,0),(0,0),(0,0),(0,7),(0,0),(9,0),(0,7),(0,9),(0,9),(0,0),(1,0),(0,4),(8,0),(0,7)]:=by decide+kernel
theorem U5:aV (ends kq (h0 20)).g 1=false:=by decide+kernel
theorem U6:aV (ends kq (h0 20)).g 2=true:=by decide+kernel
theorem U7:aY (ends kq (h0 20)).g 1= -1:=by decide+kernel
theorem acs:(ends kq (h0 20)).gr=AZ 16 zG:=by decide+kernel
theorem acu:(ends kq (h0 20)).po=Po.k0:=by decide+kernel
section
variable {Q:Sys} {X:HX} {D G:List Nat} {w0 w:A2} {h:HS} {L:List (Nat×List AR)}
namespace eH
theorem front (H:eH Q X D G w0 w h L): ∃A,Cf A h/\SM Q D G w0 w h.s (L++fH Q X A h (bI Q A h.g (B2 17))) (e_ A h.g (B2 17)):=by
 have a:eH Q X D G w0 w h (L++[]):=by rw[DB];exact H
 have ⟨A,W,H⟩:=eH.to a;rw[DB] at H;exact⟨A,W,H⟩
theorem oJ {A:Nat->GA} (W:Cf A h) (H:SM Q D G w0 w h.s (L++fH Q X A h (bI Q A h.g (B2 17))) (e_ A h.g (B2 17))):eH Q X D G w0 w h L:=by
 have:eH Q X D G w0 w h (L++[]):=eH.of W (by rw[DB];exact H);rwa[DB] at this
theorem d_ (H:eH Q X D G w0 w h L) {i b:Nat} {l:List AR} (a:L[i]? =some (b,l)):bq w b l:=by
 have ⟨A,W,H⟩:=H.front;exact H.base.get (by rw[E5 (C9.1 a).1];exact a)
theorem ld (i:Nat) (H:eH Q X D G w0 w h L) {g:Option Bool} {el:El} {K:el.T->Prop} {b o:Nat} {l:List AR} {x:el.T} (a:L[i]? =some (b,l)) (hv:pV l o el=some x) (k:K x):ag w g (some ⟨b,o,none⟩) el K:=
 ag.of x (cK (H.d_ a) hv) k
theorem a_ (i:Nat) (H:eH Q X D G w0 w h L) {g:Option Bool} {el:El} {K:el.T->Prop} {b o n:Nat} {l:List AR} {x:el.T} (a:L[i]? =some (b,l)) (hv:pV l (o+n) el=some x) (k:K x):ag w g (ad (some ⟨b,o,none⟩) n) el K:=by
 rw[aS];exact H.ld i a hv k
theorem en (H:eH Q X D G w0 w h L) {K:A2->Prop} (k: ∀w1,eH Q X D G w0 w1 h L->K w1):ak w K:=λ_ h=>k _ (H.ext h)
theorem al (H:eH Q X D G w0 w h L) {cs:List AR} {e:TypeId} {K:Nat->A2->Prop} (k: ∀b w1,eH Q X D G w0 w1 h ((b,cs)::L)->K b w1):aH w ⟨cs⟩ e K:=by
 have ⟨A,W,H⟩:=H.front;have ⟨a,S,J⟩:=H.call;exact S.al λb w1 S=>k b w1 (oJ W (J S))
theorem cQ (i:Nat) (H:eH Q X D G w0 w h L) {b:Nat} {l vs:List AR} {K:A2->Prop} (a:L[i]? =some (b,l)) (c:vs.all (·.oneCell')=true) (d:vs.length=l.length)
 (k: ∀w1,eH Q X D G w0 w1 h (L.set i (b,vs))->K w1):aw w (ae b) vs K:=by
 have hi:=(C9.1 a).1;have ⟨A,W,H⟩:=H.front;have ⟨e,S,J⟩:=H.call;refine S.cQ i (by rw[E5 hi];exact a) c d λw1 S=>k w1 (oJ W (J ?_));rw[List.set_append_left _ _ hi] at S;exact S
theorem perm {L':List (Nat×List AR)} (H:eH Q X D G w0 w h L) (a:L'.Perm L):eH Q X D G w0 w h L':=by
 have ⟨A,W,H⟩:=H.front;exact oJ W (H.perm (a.append_right _))
theorem all (H:eH Q X [] [] w0 w h L):Ext w0 w:=by
 have ⟨A,W,H⟩:=H;have ⟨_, _, _, _,ca,la,K⟩:=H;exact K.all
theorem ND (H:eH Q X D G w0 w h L) (v:Int):ai AC 18 [ah (ae X.hb),aa v] w (.bool (aV h.g v)):=by
 have ⟨A,W,H⟩:=H;exact qP H.base (X:=X) (A:=A) (g:=h.g) B5 v
theorem Wd (H:eH Q X D G w0 w h L) (v:Int):ai AC 20 [ah (ae X.hb),aa v] w (aa (aY h.g v)):=by
 have ⟨A,W,H⟩:=H;exact IH H.base (X:=X) (A:=A) (g:=h.g) B5 (bS W []) v
end eH
structure Good (Q:Sys) (h:HS):Prop where
 hi: ∃gh,HI gh h
 Sp:Jb Q h.s
theorem Good.step (g:Good Q h) (v k:Int) {a:Int} (b c:Int) (d:0<=a):Good Q (AB h v k a b c):=by
 have ⟨gh,H⟩:=g.hi;refine⟨H.step v k b c d,?_,?_⟩
 .show(AB h v k a b c).s.1.length<= _;rw[F6];exact g.Sp.1
 .show(AB h v k a b c).s.1.length<= _;rw[F6];exact g.Sp.2
theorem Good.new {n:Nat} (a:4<=n/\n<=4096) (b:Q.c=16*n):Good Q (h0 n):=by
 refine⟨⟨_,HI.new a⟩,?_,?_⟩
 .show(AZ (16*n) (0:Int)).length<=Q.c;rw[DA,b];exact Df _
 .show(AZ (16*n) (0:Int)).length<= _;rw[DA];omega
theorem aaB (H:eH Q X D G w0 w h L) (g:Good Q h) (v k:Int) {a b c:Int} (e:0<=a/\a<18446744073709551616) (hb:0<=b/\b<18446744073709551616) (hc:0<=c/\c<18446744073709551616) {K:RS->A2->Prop}
 (kk: ∀d,Good Q (AB h v k a b c)->eH Q X D G w0 d (AB h v k a b c) L->K (ML h v k a b c,MK h v k a b c,()) d):
 aA AC 9 (.el (.agg gm)) [ah (ae X.hb),aa v,.agg ⟨eO k a b c⟩] w K:=λw1 f=>by
 have ⟨gh,I⟩:=g.hi;exact YO (H.ext f) (I.rdy g.Sp) v k e hb hc λd H=>kk d (g.step v k b c e.1) H
structure ZI (l:List CQ) (rs:List (Int×Int)) (h:HS):Prop where
 r:runs l h=rs
 l1:aV (ends l h).g 1=false
 l2:aV (ends l h).g 2=true
 rt:aY (ends l h).g 1= -1
 gr:(ends l h).gr=AZ 16 zG
 po:(ends l h).po=Po.k0
theorem ZI.step {q:CQ} {l:List CQ} {V E:Int} {rs:List (Int×Int)} (k:ZI (q::l) ((V,E)::rs) h):(ML h q.1 q.2.1 q.2.2.1 q.2.2.2.1 q.2.2.2.2=V/\MK h q.1 q.2.1 q.2.2.1 q.2.2.2.1 q.2.2.2.2=E)/\ZI l rs (dQ h q):=by
 have ⟨r,l1,l2,rt,gr,po⟩:=k;have r:rQ h q::runs l (dQ h q)=(V,E)::rs:=r;have ⟨a,b⟩:=List.cons.inj r;refine⟨⟨congrArg (·.1) a,congrArg (·.2) a⟩,b,l1,l2,rt,gr,po⟩
theorem rP (H:eH Q X D G w0 w h L) (g:Good Q h) {v k a b c V E:Int} {l:List CQ} {rs:List (Int×Int)} (f:ZI ((v,k,a,b,c)::l) ((V,E)::rs) h) (i:0<=a/\a<18446744073709551616) (hb:0<=b/\b<18446744073709551616) (hc:0<=c/\c<18446744073709551616) {e:TypeId} {K:RS->Nat->A2->Prop}
 (kk: ∀h' b1 d,ZI l rs h'->Good Q h'->eH Q X D G w0 d h' ((b1,[av V,aa E])::L)->K (V,E,()) b1 d):
 aA AC 9 (.el (.agg gm)) [ah (ae X.hb),aa v,.agg ⟨eO k a b c⟩] w λx d=>aH d ⟨[av 0,aa 0]⟩ e λb1 d=>aw d (ae b1) [av x.1,aa x.2.1] λd=>K x b1 d:=by
 have ⟨⟨j,m⟩,n⟩:=f.step;refine aaB H g v k i hb hc λd o H=>?_;rw[show ML h v k a b c=V from j,show MK h v k a b c=E from m];exact H.al λb1 q H=>H.cQ 0 rfl rfl rfl λp H=>kk _ b1 p n o H
end
theorem Lw {a b:Int} (h:a≠b):pv (AZ 16 zG) Po.k0 a b=false:=by
 cases e:pv (AZ 16 zG) Po.k0 a b with
 |false=>rfl
 |true=>
  have ⟨_, _,j⟩:=wg.1 e;refine absurd (j.inv (λv=>v=a) rfl λu v g he=>?_) (λc=>h c.symm);rcases he with he|he
  .have ⟨_, _,d⟩:=re.1 he;refine d.inv (λv=>v=a) g λu v _ he=>?_;have ⟨x,k,f, _⟩:=he;exact absurd (E4 k) f
  .have ⟨_, _,d⟩:=Po.q_.1 he;have l: ∀u v,¬ Po.Ed 4 Po.k0 u v:=λu v he=>by
    have ⟨i, _,f, _⟩:=he;refine f ?_;unfold Po.gp Po.k0;rw[DC,Da];split<;>rfl
   exact d.inv (λv=>v=a) g λu v he=>absurd he (l u v)
theorem Lx (w:A2):aC AC 28 gD [] w (λb w'=>b=true/\Ext w w'):=by
 refine aj (C:=Y0) (b_:=λ_=>[]) (B1 (Lv w _) ?_);have H0:=At.start [] w;refine IP H0 20 (λc=>by omega) λ_ _ Q X w1 e H=>?_;rw[show((20:Int)).toNat=20 from rfl] at e H;have g:=Good.new (Q:=Q) (n:=20) (by decide) e;have a:ZI kq _ (h0 20):=⟨YY,U5,U6,U7,acs,acu⟩;generalize h0 20=h at H g a;refine λf h2=>aj (C:=V0) (b_:=λ_=>[]) (B1 (IC 3 f _) (ax rfl λj i=>?_));have H:=(H.ext h2).ext i;refine an rfl ?_;refine rP H g a (by decide) (by decide) (by decide) λh b1 d a g H=>?_;refine rP H g a (by decide) (by decide) (by decide) λh b2 d a g H=>?_;refine rP H g a (by decide) (by decide) (by decide) λh b3 d a g H=>?_;refine rP H g a (by decide) (by decide) (by decide) λh k d a g H=>?_;refine rP H g a (by decide) (by decide) (by decide) λh l d a g H=>?_;refine rP H g a (by decide) (by decide) (by decide) λh m d a g H=>?_;refine rP H g a (by decide) (by decide) (by decide) λh o d a g H=>?_;refine rP H g a (by decide) (by decide) (by decide) λh p d a g H=>?_;refine rP H g a (by decide) (by decide) (by decide) λh q d a g H=>?_;refine rP H g a (by decide) (by decide) (by decide) λh r d a g H=>?_;refine rP H g a (by decide) (by decide) (by decide) λh s d a g H=>?_;refine rP H g a (by decide) (by decide) (by decide) λh t d a g H=>?_;refine rP H g a (by decide) (by decide) (by decide) λh u d a g H=>?_;refine rP H g a (by decide) (by decide) (by decide) λh v d a g H=>?_;refine rP H g a (by decide) (by decide) (by decide) λh x d a g H=>?_;refine rP H g a (by decide) (by decide) (by decide) λh y d a g H=>?_;obtain⟨_,l1,l2,rt,gr,po⟩:=a;have l1:aV h.g 1=false:=l1;have l2:aV h.g 2=true:=l2;have rt:aY h.g 1= -1:=rt;have gr:h.gr=AZ 16 zG:=gr;have po:h.po=Po.k0:=po;refine H.al λz A H=>H.cQ 0 rfl rfl rfl λB H=>?_;refine⟨λ_=>rfl,H.a_ 16 rfl rfl ⟨λ_=>rfl,H.a_ 15 rfl rfl (H.ld 14 rfl (show _=some (2,0,()) from rfl) (H.ld 13 rfl (show _=some (0,0,()) from rfl) (H.ld 0 rfl (show _=some (0,0,()) from rfl) (H.ld 12 rfl (show _=some (0,0,()) from rfl) (H.ld 0 rfl (show _=some (0,0,()) from rfl) ⟨λ_=>rfl,H.a_ 11 rfl rfl (H.ld 10 rfl (show _=some (0,0,()) from rfl) (H.ld 0 rfl (show _=some (0,0,()) from rfl) (H.ld 9 rfl (show _=some (9,0,()) from rfl) ?_)))⟩)))))⟩⟩;refine⟨λ_=>rfl,H.a_ 8 rfl rfl ⟨λ_=>rfl,H.a_ 7 rfl rfl ⟨λ_=>rfl,H.a_ 6 rfl rfl (H.ld 5 rfl (show _=some (0,0,()) from rfl) (H.ld 0 rfl (show _=some (0,0,()) from rfl) (H.ld 4 rfl (show _=some (1,0,()) from rfl) ⟨λ_=>rfl,H.a_ 3 rfl rfl (H.ld 2 rfl (show _=some (8,0,()) from rfl) ⟨λ_=>rfl,H.a_ 1 rfl rfl ?_⟩)⟩)))⟩⟩⟩;refine⟨false,λ_=>by rw[<-l1];exact H.ND 1,true,λ_=>by rw[<-l2];exact H.ND 2,-1,λ_=>by rw[<-rt];exact H.Wd 1,false,λ_=>?_,H.en λD H=>⟨rfl,H.all⟩⟩;have:=BP H 1 2;rw[gr,po,Lw (by decide)] at this;exact this
set_option maxRecDepth 100000
open Go.RX D
def sr:Nat->aW:=(λ|3=>[(5,Go.RX.El.one Go.RX.Sc.slice),(6,Go.RX.El.one (Go.RX.Sc.int AT))]|7=>[(5,Go.RX.El.one Go.RX.Sc.slice),(8,Go.RX.El.one (Go.RX.Sc.int AT))]|12=>[(10,Go.RX.El.one Go.RX.Sc.bool),(11,Go.RX.El.one (Go.RX.Sc.int AT))]| _=>[])
theorem Ly (p:Option AE) (m c:Nat) (n:Int) (w:A2) (h:Option AE×Nat×Nat->A2->Prop):(aL Y0 sr 8 [.slice p m c,aa n] w h)=(
 ∃(I:Nat->(Option AE×Nat×Nat)×Int×Unit->A2->Prop),(∃n, ∀w1,Ext w w1->I n ((none,0,0),0,()) w1)/\ ∀(i:Nat) (s:(Option AE×Nat×Nat)×Int×Unit) (w1:A2),I i s w1->aD (decide (s.2.1<(↑m:Int))&&decide (s.2.1<n)) ((p.isSome=true/\0<=s.2.1/\s.2.1<(↑m:Int))/\(ad p (AG s.2.1*5)).isSome=true/\(ad (ad p (AG s.2.1*5)) 1).isSome=true/\ag w1 none (ad (ad (ad p (AG s.2.1*5)) 1) 1) gZ λ(x:Int)=>(p.isSome=true/\0<=s.2.1/\s.2.1<(↑m:Int))/\(ad p (AG s.2.1*
 5)).isSome=true/\(ad (ad p (AG s.2.1*5)) 1).isSome=true/\ag w1 none (ad (ad (ad p (AG s.2.1*5)) 1) 2) gZ λ(l:Int)=>(p.isSome=true/\0<=s.2.1/\s.2.1<(↑m:Int))/\(ad p (AG s.2.1*5)).isSome=true/\(ad (ad p (AG s.2.1*5)) 1).isSome=true/\ag w1 none (ad (ad (ad p (AG s.2.1*5)) 1) 1) gZ λ(o:Int)=>aH w1 ⟨[av x,av l,av (pT .u64 o 16)]⟩ 32 λb f=> ∃(g:Nat->(Option AE×Nat×Nat)×Int×Unit->A2->Prop),(∃n, ∀w1,Ext f w1->g n ((s.1.1,
 s.1.2.1,s.1.2.2),0,()) w1)/\ ∀(n:Nat) (a:(Option AE×Nat×Nat)×Int×Unit) (w1:A2),g n a w1->aD (decide (a.2.1<3)) ((true=true/\0<=a.2.1/\a.2.1<(↑3:Int))/\bH w1 (ad (ae b) (AG a.2.1*1)) λx=> ∃(I:Nat->Bool×Int×Unit->A2->Prop),(∃n, ∀j,Ext w1 j->I n (decide (x>65535),0,()) j)/\ ∀(k:Nat) (s:Bool×Int×Unit) (w1:A2),I k s w1->aD (decide (s.2.1<(↑a.1.2.1:Int))) (((!s.1)=true->a.1.1.isSome=true/\0<=s.2.1/\s.2.1<(↑a.1.2.1:Int))/\ag w1 (some !s.1)
 (ad a.1.1 (AG s.2.1*1)) aq λ(q:Int)=> ∀d,Ext w1 d-> ∃(e:Nat),e<k/\I e (s.1||q==aB .i64 x,ay .i64 s.2.1 1,()) d) (aD (!s.1) (aH w1 ⟨[aa (aB .i64 x)]⟩ 3 λb f=> ∀w1,Ext f w1->nm w1 3 1 8 ⟨[aa 0]⟩ (a.1.1,a.1.2.1,a.1.2.2) (some ⟨b,0,none⟩,1,1) λ(r:Option AE×Nat×Nat) f=> ∀d,Ext f d-> ∃(e:Nat),e<n/\g e ((r.1,r.2.1,r.2.2),ay .i64 a.2.1 1,()) d) (∀d,Ext w1 d-> ∃(e:Nat),e<n/\g e ((a.1.1,a.1.2.1,a.1.2.2),ay .i64 a.2.1 1,
 ()) d))) (∀d,Ext w1 d-> ∃(e:Nat),e<i/\I e ((a.1.1,a.1.2.1,a.1.2.2),ay .i64 s.2.1 1,()) d)) (ak w1 (h (s.1.1,s.1.2.1,s.1.2.2)))):=by kernel_rfl
section
variable {gh iE:Gh} {h:HS}
structure acV (h h':HS) (f o b:Int):Prop where
 g:h'.g=h.g
 gr:h'.gr=h.gr
 po:h'.po=h.po
 pg: ∀{i:Nat} {q:Int},pH h' i q=pH h i q
 ds:h'.s.2=h.s.2
 ld: ∀q,eY h'.s.1 q=if q=16*f+o then b else eY h.s.1 q
end
section
variable {gh:Gh} {h:HS} {v k a b c:Int} {l:List Int}
structure WS (h:HS) (v:Int) (l:List Int):Prop where
 hi: ∃gh,HI gh h
 lv:aV h.g 1=true
 tk:kA h 1=[]
 ct:4*12<=cB h.s.2 0+4*l.length
 pg: ∀a∈l, ∃f,pH h 1 a=(f,3,0,())/\eY h.s.1 (16*f+3)=ay .u64 v a/\eY h.s.1 (16*f+4)=0
 no: ∀a,(pH h 1 a).2.2.1=0->a∈l
end
section
variable {gh:Gh} {h:HS} {v k a b c:Int}
structure LS (n:Nat) (h:HS):Prop where
 hi: ∃gh,HI gh h
 g1: ∃x,h.g 1=some x
 go: ∀i,i≠1->h.g i=none
 ln:h.s.2.length=n
theorem U8 (H: ∃gh,HI gh h) (d:0<=a):(AB h v k a b c).s.2.length=h.s.2.length:=by
 have ⟨gh,H⟩:=H;have ⟨iE,e⟩:=H.step v k b c d;have f:=H.sz;have h2:=e.sz;rw[F6] at h2;omega
end
theorem acv {x:Int} (h:(Lit.int .u8 x).wf=true):0<=x/\x<256:=by
 simp[Lit.wf,FS,Fe,Ff,Fh] at h;omega
theorem abz {x:Int} (h: -9223372036854775808<=x) (h':x<9223372036854775808):aB .i64 x=x:=gg h h'
theorem abA {x d:Int} (h:0<=x):gj x d=x % d:=by unfold gj;exact Int.tmod_eq_emod_of_nonneg h
theorem abB (a:AE) (m n:Nat):(a.add m).add n=a.add (m+n):=by
 unfold Addr.add;by_cases b:m=0<;>by_cases c:n=0<;>simp[b,c,Nat.add_assoc]
theorem Lz {w:A2} {p:Option AE} {s:Sc} {ss:List Sc} {x:s.T} {y:g_ ss} (h:bP w p (.agg (s::ss)) (x,y)):bP w (ad p 1) (.agg ss) y:=by
 obtain⟨a,rfl,h⟩:=h;refine⟨a.add 1,rfl,λi hi=>?_⟩;rw[abB,Nat.add_comm 1 i,h (i+1) (by simp;omega)];rfl
abbrev Dh:List Sc:=[aG,aG,eh,eh,eh]
section
variable {Q:Sys} {X:HX} {D G:List Nat} {w0 w:A2} {h:HS} {L:List (Nat×List AR)}
theorem qR {a:Int} (h:(Lit.int .u64 a).wf=true):0<=a/\a<18446744073709551616:=by
 simp[Lit.wf,FS,Fe,Ff,Fh] at h;omega
theorem YZ {w w1:A2} (h:Ext w w1):aA AC 28 gD [] w1 λ(x:Bool) (a:A2)=>ak a λ(w1:A2)=>x=true/\Ext w w1:=
 aA.val ((At.start [] w).ext h) (s:= .el cr) true (λb _=>Lx b) λc H=>ak.go H λd H=>⟨rfl,H.all⟩
namespace eH
theorem F7 (H:eH Q X D G w0 w h L) {K:Option AE->A2->Prop} (k: ∀a b d e c,eH Q X D G w0 c h ((a,[.slice (ae b) h.s.2.length d])::(b,flat eD h.s.2++e)::L)->K (ae a) c):
 aA AC 14 oq [ah (ae X.hb)] w K:=by
 have ⟨A,W,H⟩:=H.front;have ⟨f,S,J⟩:=H.call;exact GW S (X:=X) (A:=A) (g:=h.g) (by simp) λa b d e c S=>k a b d e c (oJ W (J S))
theorem query (H:eH Q X D G w0 w h L) (v p:Int) {K:Int×Int×Int×Unit->A2->Prop} (k: ∀a,eH Q X D G w0 a h L->K (db h.g h.s v p) a):
 aA AC 22 (.bu [aq,aq,aq]) [ah (ae X.hb),aa v,aa p] w K:=by
 have ⟨A,W,H⟩:=H;have ⟨b,S,J⟩:=H.call;exact rn S (X:=X) (A:=A) (g:=h.g) B5 (bS W []) v p λa S=>k a ⟨A,W,J S⟩
theorem memory (H:eH Q X D G w0 w h L) {K:Option AE->A2->Prop} (k: ∀a,eH Q X D G w0 a h L->K (ae Q.bm) a):
 aA AC 12 oq [ah (ae X.hb)] w K:=by
 have ⟨A,W,H⟩:=H.front;have ⟨b,S,J⟩:=H.call;exact GX S (X:=X) (A:=A) (g:=h.g) (by simp) λa S=>k a (oJ W (J S))
end eH
end
end Go.Proofs.YteeflilbnoknnaaGreat
namespace Go.Proofs.YteeflilbnoknnaaGreat.Po
set_option maxRecDepth 100000
open Go.RX
noncomputable def R3:fa AC:={R1 with quiet:=[248,249,90]}
def xg:Nat->aW:=(λ|5=>[(5,Go.RX.El.one (Go.RX.Sc.int AT))]| _=>[])
theorem U9 (n:Int) (w:A2) (c:Option AE×Int×Unit->A2->Prop):(aL R3 xg 60 [aa n] w c)=(
 aH w ⟨[.slice none 0 0]⟩ 272 λb a=>aD (decide (n<1)||decide (n>32)) (ak a (c (some ⟨b,0,none⟩,1,()))) (∃(I:Nat->Int×Unit->A2->Prop),(∃n, ∀w1,Ext a w1->I n (0,()) w1)/\ ∀(d:Nat) (s:Int×Unit) (w1:A2),I d s w1->aD (decide (s.1<16)) (true=true/\true=true/\pJ w1 (ad (ae b) 0) λx=>xG w1 32 5 n n ⟨[aa 0,aa 0,aa 0,.bool false,.bool false]⟩ 312 λg a=>aH a {toList:=[.slice (ae g) n.toNat n.toNat]} 273 λh a=> ∀w1,Ext a w1->nm w1 273 1 24 ⟨[.slice none 0 0]⟩
 (x.1,x.2.1,x.2.2) (some ⟨h,0,none⟩,1,1) λ(r:Option AE×Nat×Nat) a=>true=true/\true=true/\aw a (ad (ae b) 0) [.slice r.1 r.2.1 r.2.2] λa=> ∀e,Ext a e-> ∃(f:Nat),f<d/\I f (ay .i64 s.1 1,()) e) (ak w1 (c (some ⟨b,0,none⟩,0,()))))):=by kernel_rfl
theorem Y1 (p:Option AE) (g i:Int) (w:A2) (d:PT×Bool×Unit->A2->Prop):(bO R3 (λ_=>[]) 248 [ah p,aa g,aa i] w d)=(
 aH w ⟨[aa 0,aa 0,aa 0,.bool false,.bool false]⟩ 312 λb a=>True/\((!(!gI g||decide (i<0)))=true->p.isSome=true)/\((!(!gI g||decide (i<0)))=true->p.isSome=true)/\ag a (some !(!gI g||decide (i<0))) (ad p 0) bX λx=>((!(!gI g||decide (i<0)))=true->x.1.isSome=true/\(0:Int)<=0/\0<(↑x.2.1:Int))/\ag a (some !(!gI g||decide (i<0))) (ad x.1 0) bX λx=>((!(!gI g||decide (i<0)||decide (i>=(↑x.2.1:Int))))=true->p.isSome=true)/\((!(!gI g||decide (i<0)||decide (i>=(↑x.2.1:Int))))=
 true->p.isSome=true)/\ag a (some !(!gI g||decide (i<0)||decide (i>=(↑x.2.1:Int)))) (ad p 0) bX λe=>((!(!gI g||decide (i<0)||decide (i>=(↑x.2.1:Int))))=true->e.1.isSome=true/\0<=aR .i64 g 1/\aR .i64 g 1<(↑e.2.1:Int))/\ag a (some !(!gI g||decide (i<0)||decide (i>=(↑x.2.1:Int)))) (ad e.1 ((aR .i64 g 1).toNat*1)) bX λc=>((!(!gI g||decide (i<0)||decide (i>=(↑x.2.1:Int))))=true->c.1.isSome=true/\0<=i/\i<(↑c.2.1:Int))/\((!(!gI g||decide (i<0)||decide (i>=(↑x.2.1:Int))))=true->
 (ad c.1 (i.toNat*5)).isSome=true)/\ag a (some !(!gI g||decide (i<0)||decide (i>=(↑x.2.1:Int)))) (ad (ad c.1 (i.toNat*5)) 0) aq λ(f:Int)=>aD (!gI g||decide (i<0)||decide (i>=(↑x.2.1:Int))||f==0) (aw a (ae b) [aa 0,aa 0,aa 0,.bool false,.bool false] λa=>ak a λw1=>ag w1 none (ae b) (.agg [aG,aG,aG,.bool,.bool]) λ(x:Int×Int×Int×Bool×Bool×Unit)=>d ((x.1,x.2.1,x.2.2.1,x.2.2.2.1,x.2.2.2.2.1,()),false,()) w1) (bD p 0 a λx=>
 (x.1.isSome=true/\0<=aR .i64 g 1/\aR .i64 g 1<(↑x.2.1:Int))/\ag a none (ad x.1 ((aR .i64 g 1).toNat*1)) bX λx=>(x.1.isSome=true/\0<=i/\i<(↑x.2.1:Int))/\ag a none (ad x.1 (i.toNat*5)) (.agg [aG,aG,aG,.bool,.bool]) λ(x:Int×Int×Int×Bool×Bool×Unit)=>aw a (ae b) [aa x.1,aa x.2.1,aa x.2.2.1,.bool x.2.2.2.1,.bool x.2.2.2.2.1] λa=>ak a λw1=>ag w1 none (ae b) (.agg [aG,aG,aG,.bool,.bool]) λ(x:Int×Int×Int×Bool×Bool×Unit)=>d ((x.1,
 x.2.1,x.2.2.1,x.2.2.2.1,x.2.2.2.2.1,()),true,()) w1)):=by kernel_rfl
def u_:Nat->aW:=(λ|2=>[(5,Go.RX.El.one (Go.RX.Sc.int AT))]| _=>[])
theorem Ra (p:Option AE) (g:Int) (w:A2) (a:Int->A2->Prop):(aL R3 u_ 249 [ah p,aa g] w a)=(
 ∃(I:Nat->Int×Unit->A2->Prop),(∃n, ∀w1,Ext w w1->I n (0,()) w1)/\ ∀(n:Nat) (s:Int×Unit) (w1:A2),I n s w1->bD p 0 w1 λx=>(x.1.isSome=true/\0<=aR .i64 g 1/\aR .i64 g 1<(↑x.2.1:Int))/\ag w1 none (ad x.1 ((aR .i64 g 1).toNat*1)) bX λx=>aD (decide (s.1<(↑x.2.1:Int))) (bD p 0 w1 λx=>(x.1.isSome=true/\0<=aR .i64 g 1/\aR .i64 g 1<(↑x.2.1:Int))/\ag w1 none (ad x.1 ((aR .i64 g 1).toNat*1)) bX λx=>(x.1.isSome=true/\0<=s.1/\s.1<(↑x.2.1:Int))/\(ad x.1 (AG s.1*5)).isSome=
 true/\ag w1 none (ad (ad x.1 (AG s.1*5)) 0) aq λ(x:Int)=>aD (x==0) (ak w1 (a s.1)) (∀b,Ext w1 b-> ∃(c:Nat),c<n/\I c (ay .i64 s.1 1,()) b)) (ak w1 (a (-1)))):=by kernel_rfl
theorem Rb (p:Option AE) (g r:Int) (w:A2) (a:Int×Int×Unit->A2->Prop):(aL R3 (λ_=>[]) 164 [ah p,aa g,aa r] w a)=(
 True/\((!!gI g)=true->True)/\aD (!gI g|| !gI r||g==r) (ak w (a (0,1,()))) (∃(x:Int),ai AC 249 [ah p,aa g] w (aa x)/\aD (decide (x<0)) (ak w (a (0,3,()))) (bD p 0 w λb=>(b.1.isSome=true/\0<=aR .i64 g 1/\aR .i64 g 1<(↑b.2.1:Int))/\ag w none (ad b.1 ((aR .i64 g 1).toNat*1)) bX λc=>(c.1.isSome=true/\0<=x/\x<(↑c.2.1:Int))/\aw w (ad c.1 (x.toNat*5)) [aa 1,aa r,aa 0,.bool false,.bool false] λd=>ak d (a (x,0,()))))):=by kernel_rfl
theorem Re (p:Option AE) (g r i:Int) (w:A2) (Post:Int×Int×Unit->A2->Prop):(aL R3 (λ_=>[]) 165 [ah p,aa g,aa r,aa i] w Post)=(
 True/\((!!gI g)=true->True)/\aD (!gI g|| !gI r||g==r) (ak w λw1=>Post (0,1,()) w1) (∃(x:(Int×Int×Int×Bool×Bool×Unit)×Bool×Unit),ai AC 248 [ah p,aa r,aa i] w (.tuple {toList:=[.agg ⟨[aa x.1.1,aa x.1.2.1,aa x.1.2.2.1,.bool x.1.2.2.2.1,.bool x.1.2.2.2.2.1]⟩,.bool x.2.1]})/\aH w ⟨[aa 0,aa 0,aa 0,.bool false,.bool false]⟩ 312 λb a=>aw a (ae b) [aa x.1.1,aa x.1.2.1,aa x.1.2.2.1,.bool x.1.2.2.2.1,.bool x.1.2.2.2.2.1] λ
 a=>aD (!x.2.1) (ak a λw1=>Post (0,4,()) w1) (true=true/\ag a none (ad (ae b) 0) aq λ(x:Int)=>aD (x==2) (ak a λw1=>Post (0,6,()) w1) (true=true/\ag a none (ad (ae b) 1) aq λ(x:Int)=>aD (x != g) (ak a λw1=>Post (0,7,()) w1) (∃(x:Int),ai AC 249 [ah p,aa g] a (aa x)/\aD (decide (x<0)) (ak a λw1=>Post (0,3,()) w1) (p.isSome=true/\p.isSome=true/\ag a none (ad p 0) bX λe=>
 (e.1.isSome=true/\0<=aR .i64 g 1/\aR .i64 g 1<(↑e.2.1:Int))/\ag a none (ad e.1 ((aR .i64 g 1).toNat*1)) bX λf=>(f.1.isSome=true/\0<=x/\x<(↑f.2.1:Int))/\aw a (ad f.1 (x.toNat*5)) [aa 2,aa r,aa i,.bool false,.bool false] λa=>p.isSome=true/\p.isSome=true/\ag a none (ad p 0) bX λh=>(h.1.isSome=true/\0<=aR .i64 r 1/\aR .i64 r 1<(↑h.2.1:Int))/\ag a none (ad h.1 ((aR .i64 r 1).toNat*1)) bX λc=>(c.1.isSome=true/\0<=i/\i<
 (↑c.2.1:Int))/\(ad c.1 (i.toNat*5)).isSome=true/\aw a (ad (ad c.1 (i.toNat*5)) 0) [aa 2] λa=>p.isSome=true/\p.isSome=true/\ag a none (ad p 0) bX λj=>(j.1.isSome=true/\0<=aR .i64 r 1/\aR .i64 r 1<(↑j.2.1:Int))/\ag a none (ad j.1 ((aR .i64 r 1).toNat*1)) bX λd=>(d.1.isSome=true/\0<=i/\i<(↑d.2.1:Int))/\(ad d.1 (i.toNat*5)).isSome=true/\aw a (ad (ad d.1 (i.toNat*5)) 2) [aa x] λa=>ak a λw1=>Post (x,0,()) w1)))))):=by
 kernel_rfl
theorem Rf (p:Option AE) (g i:Int) (w:A2) (c:Int->A2->Prop):(aL R3 (λ_=>[]) 162 [ah p,aa g,aa i] w c)=(
 ∃(x:(Int×Int×Int×Bool×Bool×Unit)×Bool×Unit),ai AC 248 [ah p,aa g,aa i] w (.tuple {toList:=[.agg ⟨[aa x.1.1,aa x.1.2.1,aa x.1.2.2.1,.bool x.1.2.2.2.1,.bool x.1.2.2.2.2.1]⟩,.bool x.2.1]})/\aH w ⟨[aa 0,aa 0,aa 0,.bool false,.bool false]⟩ 312 λb a=>aw a (ae b) [aa x.1.1,aa x.1.2.1,aa x.1.2.2.1,.bool x.1.2.2.2.1,.bool x.1.2.2.2.2.1] λa=>aD (!x.2.1) (ak a (c 4)) (true=true/\aN a (ad (ae b) 0) λx=>aD (x != 2) (ak a (c 6)) (bD p
 0 a λx=>true=true/\aN a (ad (ae b) 1) λe=>(x.1.isSome=true/\0<=aR .i64 e 1/\aR .i64 e 1<(↑x.2.1:Int))/\ag a none (ad x.1 ((aR .i64 e 1).toNat*1)) bX λx=>true=true/\aN a (ad (ae b) 2) λd=>(x.1.isSome=true/\0<=d/\d<(↑x.2.1:Int))/\(ad x.1 (d.toNat*5)).isSome=true/\aw a (ad (ad x.1 (d.toNat*5)) 3) [.bool true] λa=>ak a (c 0)))):=by kernel_rfl
def va:Nat->aW:=(λ|5=>[(5,Go.RX.El.one Go.RX.Sc.slice),(6,Go.RX.El.one (Go.RX.Sc.int AT))]| _=>[])
theorem Rh (p:Option AE) (g:Int) (w:A2) (e:Option AE×Nat×Nat->A2->Prop):(aL R3 va 247 [ah p,aa g] w e)=(
 True/\aD (!gI g) (ak w (e (none,0,0))) (∃(I:Nat->(Option AE×Nat×Nat)×Int×Unit->A2->Prop),(∃n, ∀w1,Ext w w1->I n ((none,0,0),0,()) w1)/\ ∀(n:Nat) (s:(Option AE×Nat×Nat)×Int×Unit) (w1:A2),I n s w1->bD p 0 w1 λx=>(x.1.isSome=true/\0<=aR .i64 g 1/\aR .i64 g 1<(↑x.2.1:Int))/\ag w1 none (ad x.1 ((aR .i64 g 1).toNat*1)) bX λx=>aD (decide (s.2.1<(↑x.2.1:Int))) (bD p 0 w1 λx=>(x.1.isSome=true/\0<=aR .i64 g 1/\aR .i64 g 1<(↑x.2.1:Int))/\ag w1 none (ad x.1 ((aR .i64 g
 1).toNat*1)) bX λx=>(x.1.isSome=true/\0<=s.2.1/\s.2.1<(↑x.2.1:Int))/\(ad x.1 (AG s.2.1*5)).isSome=true/\ag w1 none (ad (ad x.1 (AG s.2.1*5)) 3) cr λx=>(x=true->p.isSome=true)/\(x=true->p.isSome=true)/\ag w1 (some x) (ad p 0) bX λf=>(x=true->f.1.isSome=true/\0<=aR .i64 g 1/\aR .i64 g 1<(↑f.2.1:Int))/\ag w1 (some x) (ad f.1 ((aR .i64 g 1).toNat*1)) bX λd=>(x=true->d.1.isSome=true/\0<=s.2.1/\s.2.1<(↑d.2.1:Int))/\(x=true->(ad d.1 (AG s.2.1*
 5)).isSome=true)/\ag w1 (some x) (ad (ad d.1 (AG s.2.1*5)) 4) cr λi=>aD (x&& !i) (aH w1 ⟨[aa s.2.1]⟩ 3 λb h=> ∀w1,Ext h w1->nm w1 3 1 8 ⟨[aa 0]⟩ (s.1.1,s.1.2.1,s.1.2.2) (some ⟨b,0,none⟩,1,1) λ(r:Option AE×Nat×Nat) h=> ∀a,Ext h a-> ∃(c:Nat),c<n/\I c ((r.1,r.2.1,r.2.2),ay .i64 s.2.1 1,()) a) (∀a,Ext w1 a-> ∃(c:Nat),c<n/\I c ((s.1.1,s.1.2.1,s.1.2.2),ay .i64 s.2.1 1,()) a)) (ak w1 (e (s.1.1,s.1.2.1,s.1.2.2))))):=by kernel_rfl
theorem Ri (p:Option AE) (g:Int) (w:A2) (d:Int×Bool×Unit->A2->Prop):(aL R3 (λ_=>[]) 161 [ah p,aa g] w d)=(
 aA AC 247 di [ah p,aa g] w λx a=>aD ((↑x.2.1:Int)==0) (ak a (d (0,false,()))) (bD p 0 a λe=>(e.1.isSome=true/\0<=aR .i64 g 1/\aR .i64 g 1<(↑e.2.1:Int))/\ag a none (ad e.1 ((aR .i64 g 1).toNat*1)) bX λb=>(x.1.isSome=true/\(0:Int)<=0/\0<(↑x.2.1:Int))/\aN a (ad x.1 0) λc=>(b.1.isSome=true/\0<=c/\c<(↑b.2.1:Int))/\(ad b.1 (c.toNat*5)).isSome=true/\aw a (ad (ad b.1 (c.toNat*5)) 3) [.bool false] λa=>(x.1.isSome=true/\(0:Int)
 <=0/\0<(↑x.2.1:Int))/\aN a (ad x.1 0) λx=>ak a (d (x,true,())))):=by kernel_rfl
theorem LA (p:Option AE) (g i:Int) (w:A2) (c:Int->A2->Prop):(aL R3 (λ_=>[]) 163 [ah p,aa g,aa i] w c)=(
 ∃(x:(Int×Int×Int×Bool×Bool×Unit)×Bool×Unit),ai AC 248 [ah p,aa g,aa i] w (.tuple {toList:=[.agg ⟨[aa x.1.1,aa x.1.2.1,aa x.1.2.2.1,.bool x.1.2.2.2.1,.bool x.1.2.2.2.2.1]⟩,.bool x.2.1]})/\aH w ⟨[aa 0,aa 0,aa 0,.bool false,.bool false]⟩ 312 λb a=>aw a (ae b) [aa x.1.1,aa x.1.2.1,aa x.1.2.2.1,.bool x.1.2.2.2.1,.bool x.1.2.2.2.2.1] λa=>aD (!x.2.1) (ak a (c 4)) (true=true/\aN a (ad (ae b) 0) λx=>aD (x==2) (bD p 0 a λx=>
 true=true/\aN a (ad (ae b) 1) λf=>(x.1.isSome=true/\0<=aR .i64 f 1/\aR .i64 f 1<(↑x.2.1:Int))/\ag a none (ad x.1 ((aR .i64 f 1).toNat*1)) bX λx=>true=true/\aN a (ad (ae b) 2) λd=>(x.1.isSome=true/\0<=d/\d<(↑x.2.1:Int))/\(ad x.1 (d.toNat*5)).isSome=true/\aw a (ad (ad x.1 (d.toNat*5)) 0) [aa 1] λa=>bD p 0 a λx=>true=true/\aN a (ad (ae b) 1) λh=>(x.1.isSome=true/\0<=aR .i64 h 1/\aR .i64 h 1<(↑x.2.1:Int))/\ag a none (ad x.1 ((aR .i64 h
 1).toNat*1)) bX λx=>true=true/\aN a (ad (ae b) 2) λe=>(x.1.isSome=true/\0<=e/\e<(↑x.2.1:Int))/\(ad x.1 (e.toNat*5)).isSome=true/\aw a (ad (ad x.1 (e.toNat*5)) 2) [aa 0] λa=>bD p 0 a λx=>(x.1.isSome=true/\0<=aR .i64 g 1/\aR .i64 g 1<(↑x.2.1:Int))/\ag a none (ad x.1 ((aR .i64 g 1).toNat*1)) bX λx=>(x.1.isSome=true/\0<=i/\i<(↑x.2.1:Int))/\aw a (ad x.1 (i.toNat*5)) [aa 0,aa 0,aa 0,.bool false,.bool false] λa=>ak a (c 0)) (bD p 0 a λx
 =>(x.1.isSome=true/\0<=aR .i64 g 1/\aR .i64 g 1<(↑x.2.1:Int))/\ag a none (ad x.1 ((aR .i64 g 1).toNat*1)) bX λx=>(x.1.isSome=true/\0<=i/\i<(↑x.2.1:Int))/\aw a (ad x.1 (i.toNat*5)) [aa 0,aa 0,aa 0,.bool false,.bool false] λa=>ak a (c 0)))):=by kernel_rfl
def vb:Nat->aW:=(λ|5=>[(5,Go.RX.El.one (Go.RX.Sc.int AT)),(6,Go.RX.El.one (Go.RX.Sc.int AT))]|10=>[(5,Go.RX.El.one (Go.RX.Sc.int AT)),(7,Go.RX.El.one (Go.RX.Sc.int AT))]|13=>[(5,Go.RX.El.one (Go.RX.Sc.int AT)),(8,Go.RX.El.one (Go.RX.Sc.int AT))]| _=>[])
theorem Rj (p:Option AE) (g:Int) (w:A2) (i:Int->A2->Prop):(aL R3 vb 145 [ah p,aa g] w i)=(
 True/\aD (!gI g) (ak w (i 0)) (∃(I:Nat->Int×Int×Unit->A2->Prop),(∃n, ∀w1,Ext w w1->I n (0,0,()) w1)/\ ∀(n:Nat) (s:Int×Int×Unit) (w1:A2),I n s w1->bD p 0 w1 λx=>(x.1.isSome=true/\0<=aR .i64 g 1/\aR .i64 g 1<(↑x.2.1:Int))/\ag w1 none (ad x.1 ((aR .i64 g 1).toNat*1)) bX λx=>aD (decide (s.2.1<(↑x.2.1:Int))) (aA AC 163 aT [ah p,aa g,aa s.2.1] w1 λ(x:Int) e=>aD (x==0) (∀b,Ext e b-> ∃(c:Nat),c<n/\I c (ay .i64 s.1 1,ay .i64 s.2.1 1,())
 b) (∀b,Ext e b-> ∃(c:Nat),c<n/\I c (s.1,ay .i64 s.2.1 1,()) b)) (∃(I:Nat->Int×Int×Unit->A2->Prop),(∃n, ∀d,Ext w1 d->I n (s.1,0,()) d)/\ ∀(n:Nat) (s:Int×Int×Unit) (w1:A2),I n s w1->aD (decide (s.2.1<16)) (∃(f:Nat->Int×Int×Unit->A2->Prop),(∃n, ∀d,Ext w1 d->f n (s.1,0,()) d)/\ ∀(j:Nat) (a:Int×Int×Unit) (w1:A2),f j a w1->bD p 0 w1 λx=>(x.1.isSome=true/\0<=s.2.1/\s.2.1<(↑x.2.1:Int))/\pJ w1 (ad x.1 (AG s.2.1*1)) λx=>
 aD (decide (a.2.1<(↑x.2.1:Int))) (bD p 0 w1 λx=>(x.1.isSome=true/\0<=s.2.1/\s.2.1<(↑x.2.1:Int))/\pJ w1 (ad x.1 (AG s.2.1*1)) λx=>(x.1.isSome=true/\0<=a.2.1/\a.2.1<(↑x.2.1:Int))/\(ad x.1 (AG a.2.1*5)).isSome=true/\ag w1 none (ad (ad x.1 (AG a.2.1*5)) 0) aq λ(x:Int)=>((x==1)=true->p.isSome=true)/\((x==1)=true->p.isSome=true)/\ag w1 (some (x==1)) (ad p 0) bX λk=>((x==1)=true->k.1.isSome=true/\0<=s.2.1/\s.2.1<(↑k.2.1:Int))/\ag w1 (some (x==1)) (ad
 k.1 (AG s.2.1*1)) bX λh=>((x==1)=true->h.1.isSome=true/\0<=a.2.1/\a.2.1<(↑h.2.1:Int))/\((x==1)=true->(ad h.1 (AG a.2.1*5)).isSome=true)/\ag w1 (some (x==1)) (ad (ad h.1 (AG a.2.1*5)) 1) aq λ(l:Int)=>aD (x==1&&l==g) (bD p 0 w1 λx=>(x.1.isSome=true/\0<=s.2.1/\s.2.1<(↑x.2.1:Int))/\pJ w1 (ad x.1 (AG s.2.1*1)) λx=>(x.1.isSome=true/\0<=a.2.1/\a.2.1<(↑x.2.1:Int))/\aw w1 (ad x.1 (AG a.2.1*5)) [aa 0,aa 0,aa 0,
 .bool false,.bool false] λe=> ∀b,Ext e b-> ∃(c:Nat),c<j/\f c (ay .i64 a.1 1,ay .i64 a.2.1 1,()) b) (∀b,Ext w1 b-> ∃(c:Nat),c<j/\f c (a.1,ay .i64 a.2.1 1,()) b)) (∀b,Ext w1 b-> ∃(c:Nat),c<n/\I c (a.1,ay .i64 s.2.1 1,()) b)) (ak w1 (i s.1))))):=by kernel_rfl
def qB:Nat->aW:=(λ|6=>[(8,Go.RX.El.one (Go.RX.Sc.int AT))]|9=>[(9,Go.RX.El.one (Go.RX.Sc.int AT))]|12=>[(10,Go.RX.El.one (Go.RX.Sc.int AT))]| _=>[])
theorem Ha (p:Option AE) (a b:Int) (w:A2) (j:Bool->A2->Prop):(aL R3 qB 90 [ah p,aa a,aa b] w j)=(
 True/\((!!gI a)=true->True)/\aD (!gI a|| !gI b) (ak w (j false)) (xG w 1 1 17 17 ⟨[.bool false]⟩ 4 λg c=>(true=true/\0<=a/\a<(↑17:Int))/\aw c (ad (ae g) (a.toNat*1)) [.bool true] λc=> ∃(I:Nat->Int×Unit->A2->Prop),(∃n, ∀w1,Ext c w1->I n (0,()) w1)/\ ∀(n:Nat) (s:Int×Unit) (w1:A2),I n s w1->aD (decide (s.1<16)) (∃(k:Nat->Int×Unit->A2->Prop),(∃n, ∀h,Ext w1 h->k n (0,()) h)/\ ∀(m:Nat) (d:Int×Unit) (w1:A2),k m d w1->aD (decide (d.1<16)) (∃(I:Nat
 ->Int×Unit->A2->Prop),(∃n, ∀h,Ext w1 h->I n (0,()) h)/\ ∀(n:Nat) (s:Int×Unit) (w1:A2),I n s w1->bD p 0 w1 λx=>(x.1.isSome=true/\0<=d.1/\d.1<(↑x.2.1:Int))/\pJ w1 (ad x.1 (AG d.1*1)) λx=>aD (decide (s.1<(↑x.2.1:Int))) (bD p 0 w1 λx=>(x.1.isSome=true/\0<=d.1/\d.1<(↑x.2.1:Int))/\pJ w1 (ad x.1 (AG d.1*1)) λx=>(x.1.isSome=true/\0<=s.1/\s.1<(↑x.2.1:Int))/\ag w1 none (ad x.1 (AG s.1*5)) (.agg [aG,aG,aG,.bool,.bool]) λ(x:
 Int×Int×Int×Bool×Bool×Unit)=>aH w1 ⟨[aa 0,aa 0,aa 0,.bool false,.bool false]⟩ 312 λb c=>aw c (ae b) [aa x.1,aa x.2.1,aa x.2.2.1,.bool x.2.2.2.1,.bool x.2.2.2.2.1] λc=>true=true/\aN c (ad (ae b) 0) λx=>(decide (x>0)=true->true=true/\0<=ay .i64 d.1 1/\ay .i64 d.1 1<(↑17:Int))/\ag c (some (decide (x>0))) (ad (ae g) ((ay .i64 d.1 1).toNat*1)) cr λi=>((decide (x>0)&& !i)=true->true=true)/\ag c (some (decide (x>0)&& !i)) (ad (ae b) 1) aq
 λ(l:Int)=>((decide (x>0)&& !i)=true->true=true/\0<=l/\l<(↑17:Int))/\ag c (some (decide (x>0)&& !i)) (ad (ae g) (l.toNat*1)) cr λo=>aD (decide (x>0)&&(i||o)) ((true=true/\0<=ay .i64 d.1 1/\ay .i64 d.1 1<(↑17:Int))/\aw c (ad (ae g) ((ay .i64 d.1 1).toNat*1)) [.bool true] λc=>true=true/\aN c (ad (ae b) 1) λx=>(true=true/\0<=x/\x<(↑17:Int))/\aw c (ad (ae g) (x.toNat*1)) [.bool true] λc=> ∀e,Ext c e-> ∃(f:Nat),f<n/\I f (ay .i64 s.1 1,
 ()) e) (∀e,Ext c e-> ∃(f:Nat),f<n/\I f (ay .i64 s.1 1,()) e)) (∀e,Ext w1 e-> ∃(f:Nat),f<m/\k f (ay .i64 d.1 1,()) e)) (∀e,Ext w1 e-> ∃(f:Nat),f<n/\I f (ay .i64 s.1 1,()) e)) ((true=true/\0<=b/\b<(↑17:Int))/\jc w1 (ad (ae g) (b.toNat*1)) λx=>ak w1 (j x)))):=by kernel_rfl
theorem Hc {n:Nat} {f:Nat->Bool} {i:Nat} (hi:i<n) (h:f i=true) (hb: ∀j,j<i->f j=false):(B2 n).find? f=some i:=by
 simp_all
theorem Hd {room:Int} {ps:List PT} {g:Int} {i:Nat} (hi:(i:Int)<room) (h:lT room ps g i=none) (hb: ∀j:Nat,j<i->lT room ps g j≠none):bJ room ps g=i:=by
 unfold bJ;rw[Hc (i:=i) (by omega) (by grind) (by grind[lT])]
theorem He {room:Int} {ps:List PT} {g:Int} (hb: ∀j:Nat,(j:Int)<room->lT room ps g j≠none):bJ room ps g= -1:=by
 unfold bJ;have:(B2 room.toNat).find? (λ(i:Nat)=>(lT room ps g i).isNone)=none:=by
  simp_all
 rw[this]
theorem Oo {room:Int} {ps:List PT} {g i:Int} (h:mG room g i=true):Ay room ps g i=if gp ps g i=zP then(zP,false) else(gp ps g i,true):=by
 unfold Ay;rw[ly h];by_cases e:gp ps g i=zP
 grind
 .rw[ar e,ar e];rfl
def nN (room:Int) (ps:List PT) (k:Nat):List PT:=(B2 room.toNat).map λi=>ps.getD (k*32+i) zP
def SI (rb:Nat->Nat) (room:Int):List AR:=(B2 16).map λk=> .slice (some ⟨rb k,0,none⟩) room.toNat room.toNat
def uL (bp bl c:Nat) (rb:Nat->Nat) (rest:List AR) (room:Int) (ps:List PT):List (Nat×List AR):=
 (bp,[.slice (ae bl) 16 c])::(bl,SI rb room++rest)::(B2 16).map λk=>(rb k,flat eQ (nN room ps k)++[])
structure UB (w:A2) (bp bl c:Nat) (rb:Nat->Nat) (rest:List AR) (room:Int) (ps:List PT):Prop where
 b1:bq w bp [.slice (ae bl) 16 c]
 b2:bq w bl (SI rb room++rest)
 b3: ∀k,k<16->bq w (rb k) (flat eQ (nN room ps k)++[])
section
variable {D G:List Nat} {w0 w w':A2} {A:List (Nat×List AR)} {bp bl c:Nat} {rb:Nat->Nat} {rest:List AR} {room:Int} {ps:List PT}
theorem UB.ext (h:UB w bp bl c rb rest room ps) (e:Ext w w'):UB w' bp bl c rb rest room ps:=⟨h.b1.ext e,h.b2.ext e,λk a=>(h.b3 k a).ext e⟩
theorem tX (k:Nat):(nN room ps k).length=room.toNat:=by simp[nN]
theorem qS {k i:Nat} (hi:(i:Int)<room):(nN room ps k)[i]? =some (ps.getD (k*32+i) zP):=by grind[nN]
theorem IZ {k i:Nat} (b:okS room ps) (f:k<16) (hi:(i:Int)<room) (y:PT) (m:Nat):nN room (ps.set (k*32+i) y) m=if m=k then(nN room ps k).set i y else nN room ps m:=by
 have g:=b.hi;apply DS;intro n;by_cases a:(n:Int)<room
 .rw[qS a];by_cases e:m=k
  .subst e;rw[az rfl];by_cases c:n=i
   .subst c;rw[B4 (by rw[tX];omega),kS (by rw[b.len];omega)]
   .rw[B3 (λd=>c d.symm),qS a,iA (by omega)]
  .rw[ar e,qS a,iA (by omega)]
 .grind[tX]
theorem gF (H:aJ D G w0 w (A++uL bp bl c rb rest room ps)):UB w bp bl c rb rest room ps where
 b1:=H.d_ _ (Du _ B5)
 b2:=H.d_ _ (Du _ (Ct _ B5))
 b3 k a:=H.d_ (rb k,flat _ _++[]) (Du _ (Ct _ (by grind)))
theorem UB.hd (h:UB w bp bl c rb rest room ps) {g:Option Bool} {K:(Option AE×Nat×Nat)->Prop} (k:K (some ⟨bl,0,none⟩,16,c)):ag w g (ad (ae bp) 0) bX K:=
 ag.of _ (by exact h.b1.mF rfl) k
theorem UB.row (h:UB w bp bl c rb rest room ps) {m:Nat} (a:m<16) {g:Option Bool} {K:(Option AE×Nat×Nat)->Prop} (k:K (some ⟨rb m,0,none⟩,room.toNat,room.toNat)):ag w g (ad (ae bl) (m*1)) bX K:=
 ag.of _ (by
  rw[aS];refine h.b2.mF ?_;rw[Dm,Nat.mul_one,E5 (by simp[SI];omega)];unfold SI;rw[FA,FB a];rfl) k
theorem UB.rdE (h:UB w bp bl c rb rest room ps) {m i:Nat} (a:m<16) (hi:(i:Int)<room):bP w (ad (some ⟨rb m,0,none⟩) (i*5)) eQ (ps.getD (m*32+i) zP):=
 dK (h.b3 m a) (qS hi)
theorem UB.el (h:UB w bp bl c rb rest room ps) {m i:Nat} (a:m<16) (hi:(i:Int)<room) {g:Option Bool} {K:PT->Prop} (k:K (ps.getD (m*32+i) zP)):ag w g (ad (some ⟨rb m,0,none⟩) (i*5)) eQ K:=
 ag.of _ (h.rdE a hi) k
theorem UB.fd (h:UB w bp bl c rb rest room ps) {m i f:Nat} (a:m<16) (hi:(i:Int)<room) {g:Option Bool} {s:Sc} {y:s.T} {K:s.T->Prop} (b:f<5) (d:(a6 sQ (ps.getD (m*32+i) zP))[f]? =some (s.g9 y)) (k:K y):ag w g (ad (ad (some ⟨rb m,0,none⟩) (i*5)) f) (.one s) K:=
 ag.of y (jl (h.rdE a hi) b d) k
theorem Oq {m i:Nat} (a:okS room ps) (b:m<16) (hi:(i:Int)<room) (y:PT):(A++uL bp bl c rb rest room ps).set (A.length+2+m) (rb m,flat eQ ((nN room ps m).set i y)++[])=A++uL bp bl c rb rest room (ps.set (m*32+i) y):=by
 rw[List.set_append_right _ _ (by omega),show A.length+2+m - A.length=m+1+1 by omega];congr 1;unfold uL;rw[Fm,Fm];congr 2;apply DS;intro n;rw[FA];by_cases d:n<16
 .rw[FB d];by_cases e:m=n
  .subst e;rw[B4 (by grind)];simp;rw[IZ a b hi,az rfl]
  .rw[B3 e,FA,FB d];simp only[Option.map_some];rw[IZ a b hi,ar (λf=>e f.symm)]
 grind
theorem Ot {m:Nat} (a:m<16):(A++uL bp bl c rb rest room ps)[A.length+2+m]? =some (rb m,flat eQ (nN room ps m)++[]):=by
 rw[List.getElem?_append_right (by omega),show A.length+2+m - A.length=m+1+1 by omega];unfold uL
 simp_all
theorem Ni (H:aJ D G w0 w (A++uL bp bl c rb rest room ps)) (b:okS room ps) {m i:Nat} (a:m<16) (hi:(i:Int)<room) (y:PT) {vs:List AR} (hv:vs=a6 sQ y) {K:A2->Prop}
 (d: ∀w1,aJ D G w0 w1 (A++uL bp bl c rb rest room (ps.set (m*32+i) y))->K w1):aw w (ad (some ⟨rb m,0,none⟩) (i*5)) vs K:=by
 refine aw.flat _ H (e:=eQ) y (Ot a) hv rfl (by rw[tX];omega) λw1 f=>d w1 ?_;rw[Oq b a hi] at f;grind
theorem Bf (H:aJ D G w0 w (A++uL bp bl c rb rest room ps)) (b:okS room ps) {m i f:Nat} (a:m<16) (hi:(i:Int)<room) (y:PT) {v:AR} (d:f<5) (hv:v.oneCell'=true) (g:a6 sQ y=(a6 sQ (ps.getD (m*32+i) zP)).set f v) {K:A2->Prop}
 (h: ∀w1,aJ D G w0 w1 (A++uL bp bl c rb rest room (ps.set (m*32+i) y))->K w1):aw w (ad (ad (some ⟨rb m,0,none⟩) (i*5)) f) [v] K:=by
 rw[aS];refine aw.c_ _ H (Ot a) hv ?_ λw1 j=>h w1 ?_
 .rw[Nat.blt_eq];have:(flat eQ _).length=(nN room ps m).length*5:=aK _ _;rw[Fz,this,tX];omega
 .have e:(flat eQ (nN room ps m)++[]).set (0+i*5+f) v=flat eQ ((nN room ps m).set i y)++[]:=by
   rw[Dm];exact vX (qS hi) d g
  rw[e,Oq b a hi] at j;grind
theorem jq.st0 (a:jq room ps) {g i:Int} (h:mG room g i=true):((gp ps g i).1==0)=decide (gp ps g i=zP):=by
 rcases a.inv g i h with z|z|z
 .rw[z];rfl
 .grind[zP]
 .grind[zP]
theorem Y3 (a:UB w bp bl c rb rest room ps) (o:jq room ps) (g i:Int):aC AC 248 (.bu [eQ,cr]) [ah (ae bp),aa g,aa i] w (λv w'=>v=((Ay room ps g i).1,(Ay room ps g i).2,())/\Ext w w'):=by
 refine aQ (C:=R3) (B1 (Y1 _ g i w _) ?_);have p:=o.tookS;have x:=p.lo;have y:=p.hi;have H:=At.start [] w;refine aH.go H λb z H=>⟨trivial,λ_=>rfl,λ_=>rfl,?_⟩;have a:=a.ext H.all;refine a.hd ⟨λ_=>⟨rfl,Int.le_refl _,(by decide:(0:Int)<((16:Nat):Int))⟩,a.row (m:=0) (by decide) ?_⟩;dsimp only;have en:((room.toNat:Nat):Int)=room:=by omega
 rw[en];by_cases d:mG room g i=true
 .have t:=bL.1 d;have j:gI g=true:=fI.2 t.1;have k:(!gI g||decide (i<0)||decide (i>=room))=false:=by
   rw[j,decide_eq_false (by omega),decide_eq_false (by omega)];rfl
  have es:aR .i64 g 1=g - 1:=aX (by omega) (by omega);rw[k,es];have f:(g - 1).toNat<16:=by omega
  have hi:((i.toNat:Nat):Int)<room:=by omega
  have q:ps.getD ((g - 1).toNat*32+i.toNat) zP=gp ps g i:=rfl;refine⟨λ_=>rfl,λ_=>rfl,a.hd ⟨λ_=>⟨rfl,by omega,by show g - 1<((16:Nat):Int);omega⟩,a.row f ⟨λ_=>⟨rfl,by omega,by show i<((room.toNat:Nat):Int);omega⟩,λ_=>rfl,a.fd f hi (by decide) rfl ?_⟩⟩⟩;rw[q,o.st0 d,Bool.false_or];refine ab (λl=>?_) (λl=>?_)
  .have n:gp ps g i=zP:=of_decide_eq_true l;have e:Ay room ps g i=(zP,false):=by rw[Oo d,az n]
   rw[e];exact aw.all 0 H rfl rfl rfl λr H=>ak.go H λs H=>ag.at 0 H rfl rfl ⟨rfl,H.all⟩
  .have n:gp ps g i≠zP:=of_decide_eq_false l;have e:Ay room ps g i=(gp ps g i,true):=by rw[Oo d,ar n]
   rw[e];refine⟨rfl,rfl,a.hd ⟨⟨rfl,by omega,by show g - 1<((16:Nat):Int);omega⟩,a.row f ⟨⟨rfl,by omega,by show i<((room.toNat:Nat):Int);omega⟩,a.el f hi ?_⟩⟩⟩;rw[q];exact aw.all 0 H rfl rfl rfl λr H=>ak.go H λs H=>ag.at 0 H rfl rfl ⟨rfl,H.all⟩
 .have k:(!gI g||decide (i<0)||decide (i>=room))=true:=by
   cases j:gI g with
   |false=>rfl
   |true=>
    by_cases u:i<0
    .rw[decide_eq_true u];rfl
    .by_cases h2:i>=room
     .rw[decide_eq_true h2];simp
     .exact absurd (bL.2 ⟨fI.1 j,by omega,by omega⟩) d
  rw[k];have e:Ay room ps g i=(zP,false):=by unfold Ay;rw[TW d]
  rw[e];refine⟨λh=>by simp at h,λh=>by simp at h,(none,0,0),λh=>by simp at h,λh=>by simp at h,(none,0,0),λh=>by simp at h,λh=>by simp at h,λh=>by simp at h,(0:Int),λh=>by simp at h,ax rfl ?_⟩;exact aw.all 0 H rfl rfl rfl λr H=>ak.go H λs H=>ag.at 0 H rfl rfl ⟨rfl,H.all⟩
theorem Ev (a:UB w bp bl c rb rest room ps) (n:jq room ps) (g:Int) (r:gI g=true):aC AC 249 aT [ah (ae bp),aa g] w (λx w'=>x=bJ room ps g/\Ext w w'):=by
 refine aj (C:=R3) (b_:=u_) (B1 (Ra _ g w _) ?_);have o:=n.tookS;have y:=o.lo;have z:=o.hi;have t:=fI.1 r;have es:aR .i64 g 1=g - 1:=aX (by omega) (by omega);rw[es];have e:(g - 1).toNat<16:=by omega
 have en:((room.toNat:Nat):Int)=room:=by omega
 refine⟨λq s w'=> ∃i:Nat,s.1=i/\q+i=room.toNat/\(∀j:Nat,j<i->lT room ps g j≠none)/\Ext w w',⟨room.toNat,λw1 b=>⟨0,rfl,rfl,λj f=>absurd f (by omega),b⟩⟩,?_⟩;rintro q ⟨A,u⟩ w1 ⟨i,hi,B,h,d⟩;simp only at hi;subst hi;dsimp only;have a:=a.ext d;refine⟨rfl,rfl,a.hd ⟨⟨rfl,by omega,by show g - 1<((16:Nat):Int);omega⟩,a.row e (ab (λc=>?_) (λc p h2=>⟨?_,d.trans h2⟩))⟩⟩
 .have k:(i:Int)<room:=by simp at c;omega
  have l:mG room g i=true:=bL.2 ⟨t,by omega,k⟩;have v:ps.getD ((g - 1).toNat*32+i) zP=gp ps g i:=rfl;refine⟨rfl,rfl,a.hd ⟨⟨rfl,by omega,by show g - 1<((16:Nat):Int);omega⟩,a.row e ⟨⟨rfl,by omega,by show(i:Int)<((room.toNat:Nat):Int);omega⟩,rfl,a.fd e (i:=i) k (by decide) rfl ?_⟩⟩⟩;rw[v,n.st0 l];refine ab (λm p h2=>⟨?_,d.trans h2⟩) (λm p h2=>⟨q - 1,by omega,i+1,by rw[ao (by omega) (by omega)];rfl,by omega,λj f=>?_,d.trans h2⟩)
  .exact(Hd k (by rw[ly l,az (of_decide_eq_true m)]) h).symm
  .rcases Nat.lt_or_ge j i with b|b
   .exact h j b
   .obtain rfl:j=i:=by omega
    rw[ly l,ar (of_decide_eq_false m)];simp
 .have hi:i=room.toNat:=by simp at c;omega
  exact(He λj f=>h j (by omega)).symm
end
section
variable {n a b:Int} {ps:List PT}
theorem Hf (c:nr a b=0) {i:Int} (d:bJ n ps a=i) (hi:i≠ -1):dU n ps a b=((i,0),ps.set (ix a i) (1,b,0,false,false,())):=by grind[dU,dx]
theorem Hg (c:nr a b=0) (d:bJ n ps a= -1):dU n ps a b=((0,3),ps):=by grind[dU,dx]
end
section
variable {D G:List Nat} {w0 w w':A2} {A:List (Nat×List AR)} {bp bl c:Nat} {rb:Nat->Nat} {rest:List AR} {room:Int} {ps:List PT}
theorem BW {g:Int} (a:gI g=true):decide (bJ room ps g<0)=decide (bJ room ps g= -1):=by
 rw[decide_eq_decide];constructor
 .intro;apply C7;intro b;have:=bL.1 (jZ a b).1;omega
 omega
theorem NE (a:UB w bp bl c rb rest room ps) (b:jq room ps) (g i:Int):ai AC 248 [ah (ae bp),aa g,aa i] w ((Sh.bu [eQ,cr]).g9 ((Ay room ps g i).1,(Ay room ps g i).2,())):=
 ai.of λw' h'=>Y3 (a.ext h') b g i
theorem Rk (H:aJ D G w0 w (A++uL bp bl c rb rest room ps)) (j:jq room ps) (g r:Int) {K:Int×Int×Unit->A2->Prop}
 (k: ∀a,aJ D G w0 a (A++uL bp bl c rb rest room (dU room ps g r).2)->K ((dU room ps g r).1.1,(dU room ps g r).1.2,()) a):
 aA AC 164 (.bu [aq,aq]) [ah (ae bp),aa g,aa r] w K:=by
 refine aA.go H λw1 H=>aj (C:=R3) (B1 (Rb _ g r w1 K) ?_);have l:=j.tookS;have q:=l.lo;refine⟨trivial,λ_=>trivial,ab (λf=>?_) (λf=>?_)⟩
 .have e:dU room ps g r=((0,1),ps):=by
   have o:nr g r=1:=az f;unfold dU;rw[o,ar (by decide)]
  rw[e] at k;exact ak.go H λa H=>k a H
 have h:nr g r=0:=ar (by rw[f];decide);have ⟨d,t,u⟩:=mX.1 h;have v:=fI.1 d;have es:aR .i64 g 1=g - 1:=aX (by omega) (by omega);have m:(g - 1).toNat<16:=by omega
 rw[es];refine⟨_,ai.of (s:= .el aq) λw' h'=>Ev ((gF H).ext h') j g d,?_⟩;rw[BW d];refine ab (λi=>?_) (λi=>?_)
 .have e:=Hg h (of_decide_eq_true i);rw[e] at k;exact ak.go H λa H=>k a H
 .have n:=of_decide_eq_false i;have x:=bL.1 (jZ d n).1;have e:=Hf (b:=r) h rfl n;rw[e] at k;refine⟨rfl,rfl,(gF H).hd ⟨⟨rfl,by omega,by show g - 1<((16:Nat):Int);omega⟩,(gF H).row m ⟨by grind,?_⟩⟩⟩;exact Ni H l m (by omega) (1,r,0,false,false,()) rfl λa H=>ak.go H λp H=>k p H
theorem Rl (H:aJ D G w0 w (A++uL bp bl c rb rest room ps)) (p:jq room ps) (g r i:Int) {K:Int×Int×Unit->A2->Prop}
 (k: ∀a,aJ D G w0 a (A++uL bp bl c rb rest room (dA room ps g r i).2)->K ((dA room ps g r i).1.1,(dA room ps g r i).1.2,()) a):
 aA AC 165 (.bu [aq,aq]) [ah (ae bp),aa g,aa r,aa i] w K:=by
 refine aA.go H λw1 H=>aj (C:=R3) (B1 (Re _ g r i w1 K) ?_);have j:=p.tookS;have V:=j.lo;refine⟨trivial,λ_=>trivial,ab (λq=>?_) (λq=>?_)⟩
 .have e:dA room ps g r i=((0,1),ps):=by
   have M:nr g r=1:=az q;unfold dA;rw[M,ar (by decide)]
  rw[e] at k;exact ak.go H λa H=>k a H
 have y:nr g r=0:=ar (by rw[q];decide);have ⟨l,N,O⟩:=mX.1 y;have W:=fI.1 l;have X:=fI.1 N;have es:aR .i64 g 1=g - 1:=aX (by omega) (by omega);have P:aR .i64 r 1=r - 1:=aX (by omega) (by omega);have z:(g - 1).toNat<16:=by omega
 have m:(r - 1).toNat<16:=by omega
 rw[es,P];have hb:dA room ps g r i= _:=az y;refine⟨_,NE (gF H) p r i,aH.go H λb a H=>aw.all 0 H rfl rfl rfl λQ H=>?_⟩;cases f:lT room ps r i with
 |none=>
  rw[f] at hb;have e:dA room ps g r i=((0,4),ps):=hb;rw[e] at k;have t:Ay room ps r i=(zP,false):=by unfold Ay;rw[f]
  rw[t] at H ⊢;exact ax rfl (ak.go H λd H=>k d (H.sub (AU _ _)))
 |some kk=>
  rw[f] at hb;have ⟨B,E,Y⟩:=fj f;have Z:=bL.1 B;have t:Ay room ps r i=(ps.getD kk zP,true):=by unfold Ay;rw[f]
  rw[t] at H ⊢;refine an rfl ⟨rfl,ag.bj 0 H rfl rfl (ab (λn=>?_) (λn=>?_))⟩
  .have e:dA room ps g r i=((0,6),ps):=hb.trans (az (by simpa using n));rw[e] at k;exact ak.go H λd H=>k d (H.sub (AU _ _))
  refine⟨rfl,ag.bj 0 H rfl rfl (ab (λu=>?_) (λu=>?_))⟩
  .have e:dA room ps g r i=((0,7),ps):=hb.trans ((ar (by simpa using n)).trans (az (by simpa using u)));rw[e] at k;exact ak.go H λd H=>k d (H.sub (AU _ _))
  have F:=hb.trans ((ar (by simpa using n)).trans (ar (by simpa using u)));have H:=H.sub (AU _ _);refine⟨_,ai.of (s:= .el aq) λw' h'=>Ev ((gF (A:=A) H).ext h') p g l,?_⟩;rw[BW l];refine ab (λv=>?_) (λv=>?_)
  .have e:dA room ps g r i=((0,3),ps):=F.trans (az (of_decide_eq_true v));rw[e] at k;exact ak.go H λa H=>k a H
  have I:=of_decide_eq_false v;have J:=(jZ l I).1;have hpi:=bL.1 J;have e:=F.trans (ar I);rw[e] at k;have H:aJ D G w0 Q (A++uL bp bl c rb rest room ps):=H;refine⟨rfl,rfl,(gF H).hd ⟨⟨rfl,by omega,by show g - 1<((16:Nat):Int);omega⟩,(gF H).row z ⟨⟨rfl,by omega,by show bJ room ps g<((room.toNat:Nat):Int);omega⟩,?_⟩⟩⟩;refine Ni H j z (by omega) (2,r,i,false,false,()) rfl λd H=>?_;have R:ix g (bJ room ps g)≠kk:=λL=>by
   rw[E] at L;exact O (FR J B j.hi L).1
  have x:(ps.set (ix g (bJ room ps g)) (2,r,i,false,false,())).getD kk zP=ps.getD kk zP:=iA R _;have h:=j.set (ix g (bJ room ps g)) (2,r,i,false,false,());have o:aJ D G w0 d (A++uL bp bl c rb rest room (ps.set (ix g (bJ room ps g)) (2,r,i,false,false,()))):=H;generalize acW:ps.set (ix g (bJ room ps g)) (2,r,i,false,false,())=S at o x h k;subst E;generalize hxv:ps.getD (ix r i) zP=xv at k x;refine⟨rfl,rfl,(gF o).hd ⟨⟨rfl,by omega,by show r - 1<((16:Nat):Int);omega⟩,(gF o).row m ⟨⟨rfl,by omega,by show i<((room.toNat:Nat):Int);omega⟩,rfl,?_⟩⟩⟩;have T:S.getD ((r - 1).toNat*32+i.toNat) zP=xv:=x;refine Bf o h m (i:=i.toNat) (by omega) (2,xv.2.1,xv.2.2.1,xv.2.2.2.1,xv.2.2.2.2.1,()) (by decide) rfl (by rw[T];rfl) λw5 H=>?_;refine⟨rfl,rfl,(gF H).hd ⟨⟨rfl,by omega,by show r - 1<((16:Nat):Int);omega⟩,(gF H).row m ⟨⟨rfl,by omega,by show i<((room.toNat:Nat):Int);omega⟩,rfl,?_⟩⟩⟩;refine Bf H (h.set _ _) m (i:=i.toNat) (by omega) (2,xv.2.1,bJ room ps g,xv.2.2.2.1,xv.2.2.2.2.1,()) (by decide) rfl (by rw[kS (by have:=h.len;have:=h.hi;omega)];rfl) λw6 H=>ak.go H λU H=>k U ?_;rw[List.set_set] at H;exact H
theorem Rm (H:aJ D G w0 w (A++uL bp bl c rb rest room ps)) (f:jq room ps) (g i:Int) {K:Int->A2->Prop}
 (k: ∀h,aJ D G w0 h (A++uL bp bl c rb rest room (kj room ps g i).2)->K (kj room ps g i).1 h):
 aA AC 162 aT [ah (ae bp),aa g,aa i] w K:=by
 refine aA.go H λw1 H=>aj (C:=R3) (B1 (Rf _ g i w1 K) ?_);have o:=f.tookS;have z:=o.lo;refine⟨_,NE (gF H) f g i,aH.go H λb h H=>aw.all 0 H rfl rfl rfl λs H=>?_⟩;cases a:lT room ps g i with
 |none=>
  rw[Aa a] at k;have j:Ay room ps g i=(zP,false):=by unfold Ay;rw[a]
  rw[j] at H ⊢;exact ax rfl (ak.go H λd H=>k d (H.sub (AU _ _)))
 |some kk=>
  have j:Ay room ps g i=(ps.getD kk zP,true):=by unfold Ay;rw[a]
  rw[s8 a] at k;rw[j] at H ⊢;refine an rfl ⟨rfl,ag.bj 0 H rfl rfl (ab (λl=>?_) (λl=>?_))⟩
  .rw[ar (by simpa using l)] at k;exact ak.go H λd H=>k d (H.sub (AU _ _))
  have h2:(ps.getD kk zP).1=2:=by simpa using l
  rw[az h2] at k;have ⟨p,m,q⟩:=f.nz a h2;generalize ps.getD kk zP=x at H k p m q;have ⟨t,e,n,u,v,B⟩:=x;simp only at k p m q;have E:=bL.1 m;have es:aR .i64 e 1=e - 1:=aX (by omega) (by omega);have r:(e - 1).toNat<16:=by omega
  have H:aJ D G w0 s (((b,[aa t,aa e,aa n,.bool u,.bool v])::A)++uL bp bl c rb rest room ps):=H;refine⟨rfl,rfl,(gF H).hd ⟨rfl,ag.bj 0 H rfl rfl ?_⟩⟩;rw[es];refine⟨by grind,(gF H).row r ⟨rfl,ag.bj 0 H rfl rfl ⟨⟨rfl,by omega,by show n<((room.toNat:Nat):Int);omega⟩,rfl,?_⟩⟩⟩;refine Bf H o r (i:=n.toNat) (by omega) (_, _, _,true, _,()) (by decide) rfl rfl λd H=>ak.go H λy H=>k y (H.sub (AU _ _))
theorem BX (H:aJ D G w0 w (A++uL bp bl c rb rest room ps)) (l:jq room ps) (g i:Int) {K:Int->A2->Prop}
 (k: ∀m,aJ D G w0 m (A++uL bp bl c rb rest room (dR room ps g i).2)->K (dR room ps g i).1 m):
 aA AC 163 aT [ah (ae bp),aa g,aa i] w K:=by
 refine aA.go H λw1 H=>aj (C:=R3) (B1 (LA _ g i w1 K) ?_);have d:=l.tookS;have P:=d.lo;refine⟨_,NE (gF H) l g i,aH.go H λb m H=>aw.all 0 H rfl rfl rfl λs H=>?_⟩;cases f:lT room ps g i with
 |none=>
  rw[qu f] at k;have n:Ay room ps g i=(zP,false):=by unfold Ay;rw[f]
  rw[n] at H ⊢;exact ax rfl (ak.go H λt H=>k t (H.sub (AU _ _)))
 |some kk=>
  have n:Ay room ps g i=(ps.getD kk zP,true):=by unfold Ay;rw[f]
  rw[m8 f] at k;rw[n] at H ⊢;have ⟨B,u,Q⟩:=fj f;have R:=bL.1 B;have E:aR .i64 g 1=g - 1:=aX (by omega) (by omega);have h:(g - 1).toNat<16:=by omega
  rw[E];refine an rfl ⟨rfl,ag.bj 0 H rfl rfl (ab (λo=>?_) (λo=>?_))⟩
  .have h2:(ps.getD kk zP).1=2:=by simpa using o
   rw[az h2] at k;have ⟨v,p,z⟩:=l.nz f h2;generalize ps.getD kk zP=x at H k v p z;have ⟨F,a,e,I,J,S⟩:=x;simp only at k v p z;have T:=bL.1 p;have es:aR .i64 a 1=a - 1:=aX (by omega) (by omega);have j:(a - 1).toNat<16:=by omega
   generalize L:gp ps a e=y at k;have M:ps.getD ((a - 1).toNat*32+e.toNat) zP=y:=L;have H:aJ D G w0 s (((b,[aa F,aa a,aa e,.bool I,.bool J])::A)++uL bp bl c rb rest room ps):=H;refine⟨rfl,rfl,(gF H).hd ⟨rfl,ag.bj 0 H rfl rfl ?_⟩⟩;rw[es];refine⟨⟨rfl,by omega,by show a - 1<((16:Nat):Int);omega⟩,(gF H).row j ⟨rfl,ag.bj 0 H rfl rfl ⟨⟨rfl,by omega,by show e<((room.toNat:Nat):Int);omega⟩,rfl,?_⟩⟩⟩;refine Bf H d j (i:=e.toNat) (by omega) (1,y.2.1,y.2.2.1,y.2.2.2.1,y.2.2.2.2.1,()) (by decide) rfl (by rw[M];rfl) λt H=>?_;refine⟨rfl,rfl,(gF H).hd ⟨rfl,ag.bj 0 H rfl rfl ?_⟩⟩;rw[es];refine⟨⟨rfl,by omega,by show a - 1<((16:Nat):Int);omega⟩,(gF H).row j ⟨rfl,ag.bj 0 H rfl rfl ⟨⟨rfl,by omega,by show e<((room.toNat:Nat):Int);omega⟩,rfl,?_⟩⟩⟩;refine Bf H (d.set _ _) j (i:=e.toNat) (by omega) (1,y.2.1,0,y.2.2.2.1,y.2.2.2.2.1,()) (by decide) rfl (by rw[kS (by have:=d.len;have:=d.hi;omega)];rfl) λU H=>?_;rw[List.set_set] at H;refine⟨rfl,rfl,(gF H).hd ⟨⟨rfl,by omega,by show g - 1<((16:Nat):Int);omega⟩,(gF H).row h ⟨⟨rfl,by omega,by show i<((room.toNat:Nat):Int);omega⟩,?_⟩⟩⟩;subst u;exact Ni H (d.set _ _) h (i:=i.toNat) (by omega) zP rfl λN H=>ak.go H λq H=>k q (H.sub (AU _ _))
  .rw[ar (by simpa using o)] at k;have O:=H.sub (AU _ _);have r:aJ D G w0 s (A++uL bp bl c rb rest room ps):=O;subst u;refine⟨rfl,rfl,(gF r).hd ⟨⟨rfl,by omega,by show g - 1<((16:Nat):Int);omega⟩,(gF r).row h ⟨⟨rfl,by omega,by show i<((room.toNat:Nat):Int);omega⟩,?_⟩⟩⟩;exact Ni r d h (i:=i.toNat) (by omega) zP rfl λN H=>ak.go H λq H=>k q H
end
section
variable {D G:List Nat} {w0 w w':A2} {A:List (Nat×List AR)} {bp bl c:Nat} {rb:Nat->Nat} {rest:List AR} {room:Int} {ps:List PT}
theorem Rn (a:UB w bp bl c rb rest room ps) (A:jq room ps) (g:Int):aC AC 247 di [ah (ae bp),aa g] w (λr w'=>kx w w' eI r (lF room ps g)/\Ext w w'):=by
 refine aj (C:=R3) (b_:=va) (B1 (Rh _ g w _) ?_);have n:=A.tookS;have G:=n.lo;have I:=n.hi;refine⟨trivial,ab (λo w1 p=>?_) (λo=>?_)⟩
 .grind[gI,lF,B2,qa,List.filter_eq_nil_iff,kx.start]
 have t:gI g=true:=by simpa using o
 have J:=fI.1 t;have es:aR .i64 g 1=g - 1:=aX (by omega) (by omega);have d:(g - 1).toNat<16:=by omega
 rw[es];refine⟨λq s w'=> ∃i:Nat,s.2.1=i/\q+i=room.toNat/\At [] w w' []/\kx w w' eI s.1 (yM ps g i),⟨room.toNat,λw1 p=>⟨0,rfl,rfl,(At.start [] w).ext p,kx.start w w1 eI⟩⟩,?_⟩;rintro q ⟨⟨K,L,M⟩,N,u⟩ w1 ⟨i,hi,O,H,h⟩;simp only at hi h;subst hi;dsimp only;have a:=a.ext H.all;have j:(some (⟨bl,0,none⟩:AE)).isSome=true/\0<=g - 1/\g - 1<((16:Nat):Int):=⟨rfl,by omega,by omega⟩;refine⟨rfl,rfl,a.hd ⟨j,a.row d (ab (λk=>?_) (λk=>?_))⟩⟩
 .have v:(i:Int)<room:=by simp at k;omega
  have x:(some (⟨rb (g - 1).toNat,0,none⟩:AE)).isSome=true/\0<=(i:Int)/\(i:Int)<((room.toNat:Nat):Int):=⟨rfl,by omega,by omega⟩;have f:=Ab (ps:=ps) g i;have P:=Bu (ps:=ps) g i;have B:qa ps g i=((ps.getD ((g - 1).toNat*32+i) zP).2.2.2.1&& !(ps.getD ((g - 1).toNat*32+i) zP).2.2.2.2.1):=by
   unfold qa;rw[t];rfl
  rw[B] at f;refine⟨rfl,rfl,a.hd ⟨j,a.row d ⟨x,rfl,a.fd d (i:=i) v (by decide) rfl ⟨λ_=>rfl,λ_=>rfl,a.hd ⟨λ_=>j,a.row d ⟨λ_=>x,λ_=>rfl,a.fd d (i:=i) v (by decide) rfl ?_⟩⟩⟩⟩⟩⟩;refine ab (λl=>?_) (λl=>?_)
  .rw[az l] at f;have m:=At.start [] w1;refine aH.go m λb y m=>λQ D=>?_;refine At.VY (e:=eI) (i:=0) H h (m.ext D) (i:Int) rfl rfl rfl rfl rfl (by omega) λs' R E F S z=>⟨q - 1,by omega,i+1,by rw[ao (by omega) (by omega)];rfl,by omega,E.ext z,?_⟩;rw[f];exact F.ext z
  .rw[ar (by rw[l];decide),DB] at f;exact λy h2=>⟨q - 1,by omega,i+1,by rw[ao (by omega) (by omega)];rfl,by omega,H.ext h2,by rw[f];exact h.ext h2⟩
 .have hi:i=room.toNat:=by simp at k;omega
  subst hi;exact λy h2=>⟨h.ext h2,(H.ext h2).all⟩
theorem Ro (H:aJ D G w0 w (A++uL bp bl c rb rest room ps)) (b:jq room ps) (g:Int) {K:Option AE×Nat×Nat->A2->Prop}
 (k: ∀r rows a,aJ D G w0 a ((rows++A)++uL bp bl c rb rest room ps)->ia eI rows r (lF room ps g)->K r a):aA AC 247 di [ah (ae bp),aa g] w K:=
 aA.M7 H (λw1 H=>Rn (gF H) b g) λr rows a H d=>k r rows a (by rw[FC];exact H.perm GS) d
theorem Rp (H:aJ D G w0 w (A++uL bp bl c rb rest room ps)) (h:jq room ps) (g:Int) {K:Int×Bool×Unit->A2->Prop}
 (k: ∀f,aJ D G w0 f (A++uL bp bl c rb rest room (fe room ps g).2)->K ((fe room ps g).1.1,(fe room ps g).1.2,()) f):
 aA AC 161 (.bu [aq,cr]) [ah (ae bp),aa g] w K:=by
 refine aA.go H λw1 H=>aj (C:=R3) (B1 (Ri _ g w1 K) ?_);have s:=h.tookS;refine Ro H h g λr rows f H d=>?_;have a:=d.1;cases b:lF room ps g with
 |nil=>
  rw[b] at a;have e:fe room ps g=((0,false),ps):=by unfold fe;rw[b]
  rw[e] at k;refine ax (by rw[a];rfl) (ak.go H λj H=>k j (H.sub ?_))
  grind
 |cons x l=>
  have t:x∈lF room ps g:=by rw[b];exact B5
  rw[b] at a d;have e:fe room ps g=((x,true),ps.set (ix g x) ((gp ps g x).1,(gp ps g x).2.1,(gp ps g x).2.2.1,false,(gp ps g x).2.2.2.2)):=by unfold fe;rw[b]
  rw[e] at k;have ⟨u, _, _⟩:=uj t;have F:=bL.1 u;have es:aR .i64 g 1=g - 1:=aX (by omega) (by omega);have m:(g - 1).toNat<16:=by omega
  have v:(some (⟨bl,0,none⟩:AE)).isSome=true/\0<=g - 1/\g - 1<((16:Nat):Int):=⟨rfl,by omega,by omega⟩;have z:(some (⟨rb (g - 1).toNat,0,none⟩:AE)).isSome=true/\0<=x/\x<((room.toNat:Nat):Int):=⟨rfl,by omega,by omega⟩;have n: ∀{U:List (Nat×List AR)}, ∀y∈rows,y∈(rows++A)++U:=λy B=>Gi _ (Gi _ B);have h0:=oL d H n;have o:(x::l).length=l.length+1:=rfl;have p:(0:Int)<((r.2.1:Nat):Int):=by rw[a,o];omega
  rw[es];refine an (by rw[a,o];simp;omega) ⟨rfl,rfl,(gF H).hd ⟨v,(gF H).row m ⟨⟨h0.1,by omega,p⟩,ag.of x h0.2 ⟨z,rfl,?_⟩⟩⟩⟩;refine Bf H s m (i:=x.toNat) (by omega) (_, _, _,false, _,()) (by decide) rfl rfl λj H=>?_;have q:=oL d H n;refine⟨⟨q.1,by omega,p⟩,ag.of x q.2 (ak.go H λE H=>k E (H.sub ?_))⟩;rw[FC];exact List.sublist_append_right _ _
theorem Rq (H:aJ D G w0 w (A++uL bp bl c rb rest room ps)) (F:jq room ps) (g:Int) {K:Int->A2->Prop}
 (k: ∀P,aJ D G w0 P (A++uL bp bl c rb rest room (bV room ps g).2)->K (bV room ps g).1 P):
 aA AC 145 aT [ah (ae bp),aa g] w K:=by
 refine aA.go H λw1 H=>aj (C:=R3) (b_:=vb) (B1 (Rj _ g w1 K) ?_);have Q:=F.tookS;have yp:=Q.lo;have Ca:=Q.hi;refine⟨trivial,ab (λI=>?_) (λI=>?_)⟩
 .have p:gI g=false:=by simpa using I
  have e:bV room ps g=(0,ps):=by unfold bV;rw[p];rfl
  rw[e] at k;exact ak.go H λJ H=>k J H
 have p:gI g=true:=by simpa using I
 have vt:=fI.1 p;have es:aR .i64 g 1=g - 1:=aX (by omega) (by omega);have X:(g - 1).toNat<16:=by omega
 rw[es];have e:bV room ps g=gH room g (dO room ps g room.toNat) 16:=by unfold bV;rw[az p]
 rw[e] at k;have Y:(some (⟨bl,0,none⟩:AE)).isSome=true/\0<=g - 1/\g - 1<((16:Nat):Int):=⟨rfl,by omega,by omega⟩;refine⟨λq s w'=> ∃i:Nat,s.2.1=i/\q+i=room.toNat/\s.1=(dO room ps g i).1/\aJ D G w0 w' (A++uL bp bl c rb rest room (dO room ps g i).2),⟨room.toNat,λJ Z=>⟨0,rfl,rfl,rfl,H.ext Z⟩⟩,?_⟩;clear H;rintro q ⟨a,i',u⟩ J ⟨i,hi,hq,j,H⟩;simp only at hi j;subst hi;subst j;dsimp only;have Zy:=zy (room:=room) (ps:=ps) g i;refine⟨rfl,rfl,(gF H).hd ⟨Y,(gF H).row X (ab (λL=>?_) (λL=>?_))⟩⟩
 .have gL:i<room.toNat:=by simp at L;omega
  have hT2:=qn F g i;refine BX H hT2 g i λR H=>?_;have r:ay .i64 (i:Int) 1=((i+1:Nat):Int):=by rw[ao (by omega) (by omega)];rfl
  refine ab (λl t v=>⟨q - 1,by omega,i+1,r,by omega,?_,H.ext v⟩) (λl t v=>⟨q - 1,by omega,i+1,r,by omega,?_,H.ext v⟩)
  .have n:(dR room (dO room ps g i).2 g i).1=0:=by simpa using l
   simp only[dO];rw[az n,ao (by omega) (by omega)]
  .have n: ¬ (dR room (dO room ps g i).2 g i).1=0:=by simpa using l
   simp only[dO];rw[ar n,Int.add_zero]
 have hi:i=room.toNat:=by simp at L;omega
 subst hi;have S:=s9 F p;generalize dO room ps g room.toNat=d at H k S Zy;refine⟨λq s w'=> ∃m:Nat,s.2.1=(m:Int)/\q+m=16/\s.1=(gH room g d m).1/\aJ D G w0 w' (A++uL bp bl c rb rest room (gH room g d m).2),⟨16,λR h4=>⟨0,rfl,rfl,rfl,H.ext h4⟩⟩,?_⟩;clear H;rintro q2 ⟨a,m',u2⟩ R ⟨m,T,EY,j,H⟩;simp only at T j;subst T;subst j;dsimp only;have hgA:=oN S m;have hlA:=zz (room:=room) (g:=g) d m;have ab8:(m:Int)*(room.toNat:Int)<=16*32:=Int.mul_le_mul (by omega) (by omega) (by omega) (by omega);refine ab (λl=>?_) (λl=>?_)
 .have f:m<16:=by simp at l;omega
  have t1:(some (⟨bl,0,none⟩:AE)).isSome=true/\0<=(m:Int)/\(m:Int)<((16:Nat):Int):=⟨rfl,by omega,by omega⟩;refine⟨λq s w'=> ∃i:Nat,s.2.1=i/\q+i=room.toNat/\s.1=(kl room g (gH room g d m) ((m:Int)+1) i).1/\aJ D G w0 w' (A++uL bp bl c rb rest room (kl room g (gH room g d m) ((m:Int)+1) i).2),⟨room.toNat,λt v=>⟨0,rfl,rfl,rfl,H.ext v⟩⟩,?_⟩;clear H;rintro U ⟨a,i',u3⟩ t ⟨i,hi,hq3,j,H⟩;simp only at hi j;subst hi;subst j;dsimp only;have x:=oM hgA ((m:Int)+1) i;have hlR:=uk (room:=room) (g:=g) (gH room g d m) ((m:Int)+1) i;refine⟨rfl,rfl,(gF H).hd ⟨t1,(gF H).row f (ab (λn=>?_) (λn=>?_))⟩⟩
  .have gL:i<room.toNat:=by simp at n;omega
   have B:(i:Int)<room:=by omega
   have r:ay .i64 (i:Int) 1=((i+1:Nat):Int):=by rw[ao (by omega) (by omega)];rfl
   have V:=x.1.tookS;have er:kl room g (gH room g d m) ((m:Int)+1) (i+1)=lG room g (kl room g (gH room g d m) ((m:Int)+1) i) ((m:Int)+1) i:=rfl;generalize hS2:kl room g (gH room g d m) ((m:Int)+1) i=b at H x hlR V er ⊢;have t2:(some (⟨rb m,0,none⟩:AE)).isSome=true/\0<=(i:Int)/\(i:Int)<((room.toNat:Nat):Int):=⟨rfl,by omega,by omega⟩;have y:mG room ((m:Int)+1) i=true:=bL.2 ⟨by omega,by omega,B⟩;have M:ix ((m:Int)+1) i=m*32+i:=by unfold ix;omega
   have E:b.2.getD (m*32+i) zP=gp b.2 ((m:Int)+1) i:=by unfold gp;rw[M]
   have EW:=x.1.st0 y;refine⟨rfl,rfl,(gF H).hd ⟨t1,(gF H).row f ⟨t2,rfl,(gF H).fd f (i:=i) B (by decide) rfl ⟨λ_=>rfl,λ_=>rfl,(gF H).hd ⟨λ_=>t1,(gF H).row f ⟨λ_=>t2,λ_=>rfl,(gF H).fd f (i:=i) B (by decide) rfl ?_⟩⟩⟩⟩⟩⟩;have hT3:=x.1;by_cases hc:gp b.2 ((m:Int)+1) i≠zP/\(gp b.2 ((m:Int)+1) i).2.1=g
   .have h1:(gp b.2 ((m:Int)+1) i).1=1:=by
     rcases hT3.inv _ _ y with z|z|z
     .exact absurd z hc.1
     .exact z.1
     .exact absurd z.1 (D9 x y hc.2)
    have N:lG room g b ((m:Int)+1) i=(b.1+1,b.2.set (m*32+i) zP):=by
     unfold lG;rw[ly y,ar hc.1,M];simp only[E];rw[az hc.2]
    rw[N] at er;refine ax (by rw[E,h1,hc.2];simp) ⟨rfl,rfl,(gF H).hd ⟨t1,(gF H).row f ⟨t2,Ni H V f B zP rfl λW H w7 h7=>⟨U - 1,by omega,i+1,r,by omega,?_,?_⟩⟩⟩⟩
    .rw[er,ao (by omega) (by omega)]
    .rw[er];exact H.ext h7
   .have N:lG room g b ((m:Int)+1) i=b:=by
     unfold lG;rw[ly y];by_cases o:gp b.2 ((m:Int)+1) i=zP
     .rw[az o]
     .rw[ar o,M];simp only[E];rw[ar (λh=>hc ⟨o,h⟩)]
    rw[N] at er;refine an ?_ λW O=>⟨U - 1,by omega,i+1,r,by omega,by rw[er],by rw[er];exact H.ext O⟩;rw[E];by_cases o:gp b.2 ((m:Int)+1) i=zP
    .rw[o];rfl
    .have:(gp b.2 ((m:Int)+1) i).2.1≠g:=λh=>hc ⟨o,h⟩;simp[this]
  .have hi:i=room.toNat:=by simp at n;omega
   subst hi;exact λW O=>⟨q2 - 1,by omega,m+1,by rw[ao (by omega) (by omega)];omega,by omega,rfl,H.ext O⟩
 .have f:m=16:=by simp at l;omega
  subst f;exact ak.go H λt H=>k t H
end
def Closed (room:Int) (ps:List PT) (bs:List Bool):Prop:= ∀g i,mG room g i=true->EqAt ps bs g i
theorem jn {bs:List Bool} {k:Nat} (h:bs.getD k false=true):bs.set k true=bs:=by
 apply DS
 grind
section
variable {D G:List Nat} {w0 w w':A2} {A:List (Nat×List AR)} {bp bl c:Nat} {rb:Nat->Nat} {rest:List AR} {room:Int} {ps:List PT}
theorem Hh (q:UB w bp bl c rb rest room ps) (I:jq room ps) (a b:Int):aC AC 90 gD [ah (ae bp),aa a,aa b] w (λx w'=>x=me room ps a b/\Ext w w'):=by
 refine aj (C:=R3) (b_:=qB) (B1 (Ha _ a b w _) ?_);have hs:=I.tookS;have yp:=hs.lo;have Ca:=hs.hi;refine⟨trivial,λ_=>trivial,ab (λc w1 o=>⟨?_,o⟩) (λc=>?_)⟩
 .unfold me;cases J:gI a with
  |false=>rfl
  |true=>
   cases M:gI b with
   |false=>rfl
   |true=>rw[J,M] at c;cases c
 have N:gI a=true:=by
  cases J:gI a with
  |false=>rw[J] at c;cases c
  |true=>rfl
 have VG:gI b=true:=by
  cases M:gI b with
  |false=>rw[N,M] at c;cases c
  |true=>rfl
 have J:=fI.1 N;have Z0:=fI.1 VG;have H:=At.start [] w;refine xG.go H rfl (by decide) (by decide) (by decide) (by decide) λt w2 H=>⟨⟨rfl,by omega,by omega⟩,?_⟩;have H:At [] w w2 [(t,pN (AZ 17 false))]:=H;refine km 0 H rfl (by rw[DA];omega) λw3 H=>?_;have p:pf room ps a ((AZ 17 false).set a.toNat true):=by
  refine⟨by simp,?_,λv hv f=>?_⟩
  .rw[dS (by omega) (by simp;omega) (by omega),az rfl]
  .rw[dS (by omega) (by simp;omega) hv] at f;split at f
   .rename_i e;rw[e];exact .refl
   .unfold tv at f;rw[DC,Da] at f;split at f<;>cases f
 have Wz:i_ ((AZ 17 false).set a.toNat true)=16:=by
  have:=fo (bs:=AZ 17 false) (k:=a.toNat) (by simp;omega);have e:(AZ 17 false).getD a.toNat false=false:=by
   rw[DC,Da];split<;>rfl
  rw[e,az rfl] at this;have e2:i_ (AZ 17 false)=17:=by decide
  omega
 have H:At [] w w3 [(t,pN ((AZ 17 false).set a.toNat true))]:=H;generalize (AZ 17 false).set a.toNat true=bs at p H Wz;refine⟨λn s w'=> ∃(r:Nat) (bs:List Bool),s.1=r/\n+r=16/\pf room ps a bs/\(Closed room ps bs\/i_ bs+r<=16)/\At [] w w' [(t,pN bs)],⟨16,λw4 h4=>⟨0,bs,rfl,rfl,p,.inr (by omega),H.ext h4⟩⟩,?_⟩;clear H p Wz bs;rintro n ⟨r',u⟩ w4 ⟨r,d,hr,hn,p,hP,H⟩;simp only at hr;subst hr;dsimp only;refine ab (λO=>?_) (λO=>?_)
 .have Nj:r<16:=by simp at O;omega
  refine⟨λP s w'=> ∃(m:Nat) (bs:List Bool),s.1=m/\P+m=16/\pf room ps a bs/\((bs=d/\ ∀g i,mG room g i=true->g<=m->EqAt ps bs g i)\/(i_ bs<i_ d/\ ¬ Closed room ps d))/\At [] w w' [(t,pN bs)],
   ⟨16,λw5 h5=>⟨0,d,rfl,rfl,p,.inl ⟨rfl,λg i hi h0=>by have:=bL.1 hi;omega⟩,H.ext h5⟩⟩,?_⟩
  clear H;rintro P ⟨m',u⟩ w5 ⟨m,bs,hm,vx,l,y,H⟩;simp only at hm;subst hm;dsimp only;refine ab (λQ=>?_) (λQ=>?_)
  .have K:m<16:=by simp at Q;omega
   refine⟨λB s w'=> ∃(i:Nat) (bs:List Bool),s.1=i/\B+i=room.toNat/\pf room ps a bs/\((bs=d/\(∀g i,mG room g i=true->g<=m->EqAt ps bs g i)/\ ∀j:Nat,j<i->EqAt ps bs ((m:Int)+1) j)\/(i_ bs<i_ d/\ ¬ Closed room ps d))/\At [] w w' [(t,pN bs)],
    ⟨room.toNat,λw6 R=>⟨0,bs,rfl,rfl,l,y.imp (λh=>⟨h.1,h.2,λj D=>absurd D (by omega)⟩) id,H.ext R⟩⟩,?_⟩
   clear H l y bs;rintro B ⟨i',u⟩ w6 ⟨i,bs,hi,vl,l,y,H⟩;simp only at hi;subst hi;dsimp only;have q:=q.ext H.all;have t1:(some (⟨bl,0,none⟩:AE)).isSome=true/\0<=(m:Int)/\(m:Int)<((16:Nat):Int):=⟨rfl,by omega,by omega⟩;refine⟨rfl,rfl,q.hd ⟨t1,q.row K (ab (λS=>?_) (λS=>?_))⟩⟩
   .have gL:i<room.toNat:=by simp at S;omega
    have FK:(i:Int)<room:=by omega
    have T:ay .i64 (i:Int) 1=((i+1:Nat):Int):=by rw[ao (by omega) (by omega)];rfl
    have em:ay .i64 (m:Int) 1=(m:Int)+1:=ao (by omega) (by omega);rw[em];have t2:(some (⟨rb m,0,none⟩:AE)).isSome=true/\0<=(i:Int)/\(i:Int)<((room.toNat:Nat):Int):=⟨rfl,by omega,by omega⟩;have U:mG room ((m:Int)+1) i=true:=bL.2 ⟨by omega,by omega,FK⟩;have ekk:ix ((m:Int)+1) i=m*32+i:=by unfold ix;omega
    have Fj:ps.getD (m*32+i) zP=gp ps ((m:Int)+1) i:=by unfold gp;rw[ekk]
    have V:EqAt ps bs ((m:Int)+1) i->(∃nI,nI=bs/\((nI=d/\(∀g i,mG room g i=true->g<=m->EqAt ps nI g i)/\ ∀j:Nat,j<i+1->EqAt ps nI ((m:Int)+1) j)\/(i_ nI<i_ d/\ ¬ Closed room ps d))):=λhe=>⟨bs,rfl,y.imp (λh=>⟨h.1,h.2.1,λj D=>by
     rcases Nat.lt_or_ge j i with o|o
     .exact h.2.2 j o
     .obtain rfl:j=i:=by omega
      exact he⟩) id⟩
    refine⟨rfl,rfl,q.hd ⟨t1,q.row K ⟨t2,q.el K (i:=i) FK ?_⟩⟩⟩;rw[Fj];refine aH.go H λb1 w7 H=>aw.all 0 H rfl rfl rfl λw8 H=>⟨rfl,ag.bj 0 H rfl rfl ?_⟩;have E:bs.length=17:=l.1;have b1r:(some (⟨t,0,none⟩:AE)).isSome=true/\0<=(m:Int)+1/\(m:Int)+1<((17:Nat):Int):=⟨rfl,by omega,by omega⟩;by_cases A:gp ps ((m:Int)+1) i=zP
    .obtain⟨nI,rfl,F⟩:=V (λh=>absurd A h);have W:decide ((gp ps ((m:Int)+1) i).1>0)=false:=by rw[A];rfl
     rw[W];refine⟨λh=>by simp at h,ag.bj 1 H rfl (ig (by rw[E];omega)) ⟨λh=>by simp at h,ag.bj 0 H rfl rfl ⟨λh=>by simp at h,false,λh=>by simp at h,an rfl λw9 X=>⟨B - 1,by omega,i+1,nI,T,by omega,l,F,(H.sub (AU _ _)).ext X⟩⟩⟩⟩
    .have Y:Ed room ps ((m:Int)+1) (gp ps ((m:Int)+1) i).2.1:=⟨i,U,A,rfl⟩;have Z7:=Y.pQ I;have W:decide ((gp ps ((m:Int)+1) i).1>0)=true:=by
      rcases I.inv _ _ U with z|z|z
      .exact absurd z A
      .rw[z.1];rfl
      .rw[z.1];rfl
     rw[W];have b2r:(some (⟨t,0,none⟩:AE)).isSome=true/\0<=(gp ps ((m:Int)+1) i).2.1/\(gp ps ((m:Int)+1) i).2.1<((17:Nat):Int):=⟨rfl,by omega,by omega⟩;refine⟨λ_=>b1r,ag.bj 1 H rfl (ig (by rw[E];omega)) ⟨λ_=>rfl,ag.bj 0 H rfl rfl ⟨λ_=>b2r,ag.bj 1 H rfl (ig (by rw[E];omega)) (ab (λZ=>?_) (λZ=>?_))⟩⟩⟩
     .have G:tv bs ((m:Int)+1)=true\/tv bs (gp ps ((m:Int)+1) i).2.1=true:=by simpa using Z
      have AW:((m:Int)+1).toNat<bs.length:=by rw[E];omega
      have AX:(gp ps ((m:Int)+1) i).2.1.toNat<(bs.set ((m:Int)+1).toNat true).length:=by rw[Ce,E];omega
      have VH:Lk room ps a ((m:Int)+1)/\Lk room ps a (gp ps ((m:Int)+1) i).2.1:=by
       rcases G with f|f
       .have o:=l.2.2 ((m:Int)+1) (by omega) f;exact⟨o,.fwd o Y⟩
       .have o:=l.2.2 (gp ps ((m:Int)+1) i).2.1 (by omega) f;exact⟨.bwd o Y,o⟩
      refine⟨b1r,km 1 H rfl AW λw9 H=>⟨rfl,ag.bj 0 H rfl rfl ⟨b2r,km 1 H rfl AX λnp H l6 Ax=>⟨B - 1,by omega,i+1, _,T,by omega,(l.set (by omega) (u:=(m:Int)+1) (by omega) VH.1).set (by omega) (u:=(gp ps ((m:Int)+1) i).2.1) (by omega) VH.2,?_,(H.sub (AU _ _)).ext Ax⟩⟩⟩⟩;have f1:=fo AW;have f2:=fo AX;have e7:(bs.set ((m:Int)+1).toNat true).getD (gp ps ((m:Int)+1) i).2.1.toNat false=tv bs (gp ps ((m:Int)+1) i).2.1:=by
       have:=dS (bs:=bs) (u:=(m:Int)+1) (v:=(gp ps ((m:Int)+1) i).2.1) (by omega) AW (by omega);rw[ar (by omega)] at this;exact this
      have e8:bs.getD ((m:Int)+1).toNat false=tv bs ((m:Int)+1):=rfl;by_cases L:tv bs ((m:Int)+1)=tv bs (gp ps ((m:Int)+1) i).2.1
      .have f:tv bs ((m:Int)+1)=true:=G.elim id (λh=>L.trans h);have s1:bs.set ((m:Int)+1).toNat true=bs:=jn f;have s2:bs.set (gp ps ((m:Int)+1) i).2.1.toNat true=bs:=jn (L.symm.trans f);rw[s1,s2];obtain⟨nI,rfl,F⟩:=V (λ_=>L);exact F
      .refine .inr ⟨?_,?_⟩
       grind
       .rcases y with h|h
        .intro hc;rw[<-h.1] at hc;exact L (hc _ _ U A)
        .exact h.2
     .have G:tv bs ((m:Int)+1)=false/\tv bs (gp ps ((m:Int)+1) i).2.1=false:=by simpa using Z
      obtain⟨nI,rfl,F⟩:=V (λ_=>G.1.trans G.2.symm);exact λw9 X=>⟨B - 1,by omega,i+1,nI,T,by omega,l,F,(H.sub (AU _ _)).ext X⟩
   .have hi:i=room.toNat:=by simp at S;omega
    refine λw7 h7=>⟨P - 1,by omega,m+1,bs,by rw[ao (by omega) (by omega)];rfl,by omega,l,y.imp (λh=>⟨h.1,λg j D hg=>?_⟩) id,H.ext h7⟩;by_cases e:g<=m
    .exact h.2.1 g j D e
    .have e2:g=(m:Int)+1:=by omega
     subst e2;have I7:=bL.1 D;have:=h.2.2 j.toNat (by omega);rwa[show((j.toNat:Nat):Int)=j by omega] at this
  .have K:m=16:=by simp at Q;omega
   refine λw6 R=>⟨n - 1,by omega,r+1,bs,by rw[ao (by omega) (by omega)];rfl,by omega,l,?_,H.ext R⟩;rcases y with h|h
   .exact .inl λg i hi=>h.2 g i hi (by have:=bL.1 hi;omega)
   .rcases hP with h2|h2
    .exact absurd h2 h.2
    .exact .inr (by omega)
 .have Nj:r=16:=by simp at O;omega
  subst Nj;refine⟨⟨rfl,by omega,by omega⟩,ag.bj 0 H rfl (ig (by rw[p.1];omega)) (ak.go H λw5 H=>⟨?_,H.all⟩)⟩;have hC:Closed room ps d:=by
   rcases hP with h|h
   .exact h
   .have fR: ∀x∈d,x=true:=λx hx=>by
     have h0:i_ d=0:=by omega
     unfold i_ at h0;rw[List.countP_eq_zero] at h0;simpa using h0 x hx
    have tt: ∀v:Int,v.toNat<17->tv d v=true:=λv hv=>by
     unfold tv;have hl:v.toNat<d.length:=by rw[p.1];exact hv
     rw[DC,Cs hl];exact fR _ (List.getElem_mem hl)
    intro g i hi A;have Z7:=Ed.pQ (u:=g) (v:=(gp ps g i).2.1) I ⟨i,hi,A,rfl⟩;rw[tt g (by omega),tt _ (by omega)]
  have:=Ac (b:=b) p hC (by omega);rw[Bool.eq_iff_iff,q_,this];exact⟨λh=>⟨N,VG,h⟩,λh=>h.2.2⟩
theorem LB (d:UB w bp bl c rb rest room ps) (e:jq room ps) (a b:Int):ai AC 90 [ah (ae bp),aa a,aa b] w (.bool (me room ps a b)):=
 ai.of λw' h'=>Hh (d.ext h') e a b
end
abbrev eS:El:= .one .slice
def Fa (rb:Nat->Nat) (n:Int) (i:Nat):List (Option AE×Nat×Nat):=(B2 i).map λk=>(some ⟨rb k,0,none⟩,n.toNat,n.toNat)
def Bg (rb:Nat->Nat) (n:Int) (i:Nat):List (Nat×List AR):=(B2 i).map λk=>(rb k,flat eQ (nN n k0 k)++[])
theorem Rr (n:Int) (h:n<=32) (k:Nat):flat eQ (nN n k0 k)=(AZ n.toNat [aa 0,aa 0,aa 0,.bool false,.bool false]).flatten:=by
 have e:nN n k0 k=AZ n.toNat zP:=by
  apply DS;intro i;by_cases hi:(i:Int)<n
  .rw[qS hi,Da,az (by omega)];unfold k0;rw[DC,Da];split<;>rfl
  .rw[H2 (by rw[tX];omega),H2 (by simp;omega)]
 rw[e,fX];rfl
theorem Y4 (rb:Nat->Nat) (n:Int):flat eS (Fa rb n 16)=SI rb n:=by
 unfold Fa SI flat;rw[List.flatMap_map];simp[cellsOf,El.g9,Sc.g9];rfl
theorem tY (rb:Nat->Nat) (n:Int) (i:Nat):(Fa rb n i).length=i:=by simp[Fa]
theorem Rs (rb:Nat->Nat) (n:Int) (i b:Nat):Fa (λk=>if k=i then b else rb k) n (i+1)=Fa rb n i++[(some ⟨b,0,none⟩,n.toNat,n.toNat)]:=by
 unfold Fa;rw[H4,H5];congr 1
 .apply H6;intro k a;have c: ¬ k=i:=by have:=Dt.1 a;omega
  simp only[ar c]
 .simp
theorem Hi (rb:Nat->Nat) (n:Int) (i b:Nat):Bg (λk=>if k=i then b else rb k) n (i+1)=Bg rb n i++[(b,flat eQ (nN n k0 i)++[])]:=by
 unfold Bg;rw[H4,H5];congr 1
 .apply H6;intro k a;have c: ¬ k=i:=by have:=Dt.1 a;omega
  simp only[ar c]
 .simp
section
variable {D G:List Nat} {w0 w w':A2} {A:List (Nat×List AR)}
theorem abD {α:Type} (a b c:α) (r s:List α):([a]++(c::((r++[b])++s))).Perm (a::b::c::(r++s)):=by
 refine .cons _ ?_;have d:((r++[b])++s).Perm (b::(r++s)):=by
  rw[FC];exact H7
 exact(d.cons c).trans (.swap b c _)
theorem U_ (H:aJ D G w0 w A) (n:Int) {K:Option AE×Int×Unit->A2->Prop} (hb:n<1\/n>32-> ∀bp w1,aJ D G w0 w1 ((bp,[.slice none 0 0])::A)->K (some ⟨bp,0,none⟩,1,()) w1)
 (r:1<=n->n<=32-> ∀bp bl c rb rest w1,aJ D G w0 w1 (A++uL bp bl c rb rest n k0)->K (some ⟨bp,0,none⟩,0,()) w1):
 aA AC 60 (.bu [bF,aq]) [aa n] w K:=by
 refine aA.go H λw1 H=>aj (C:=R3) (b_:=xg) (B1 (U9 n w1 K) ?_);refine aH.go H λbp I H=>ab (λc=>ak.go H λd H=>hb (by simp at c;omega) bp d H) (λc=>?_);have e:1<=n/\n<=32:=by simp at c;omega
 refine⟨λq s w'=> ∃(i:Nat) (rb:Nat->Nat) (Ls:List (Nat×List AR)) (sl:Option AE×Nat×Nat),s.1=i/\q+i=16/\
  ((sl=(none,0,0)/\Fa rb n i=[]/\Ls=[])\/ ∃bs c rest,sl=(some ⟨bs,0,none⟩,(Fa rb n i).length,c)/\Ls=[(bs,flat eS (Fa rb n i)++rest)]/\(flat eS (Fa rb n i)++rest).length=c*aM eS/\(Fa rb n i).length<=c)/\
  aJ D G w0 w' (Ls++((bp,[.slice sl.1 sl.2.1 sl.2.2])::(Bg rb n i++A))),⟨16,λd g=>⟨0,λ_=>0,[],(none,0,0),rfl,rfl,.inl ⟨rfl,rfl,rfl⟩,H.ext g⟩⟩,?_⟩
 clear H;rintro q ⟨J,u⟩ d ⟨i,rb,Ls,sl,hi,L,h,H⟩;simp only at hi;subst hi;dsimp only;refine ab (λf=>?_) (λf=>?_)
 .have j:i<16:=by simp at f;omega
  have t:bq d bp [.slice sl.1 sl.2.1 sl.2.2]:=H.d_ (bp, _) (Du _ B5);refine⟨rfl,rfl,ag.of sl (by rw[aS];exact t.mF rfl) ?_⟩;refine xG.go H rfl (by omega) (by omega) (by omega) (by omega) λb l H=>aH.go H λb2 M H=>λv x=>?_;have H:=H.ext x;rw[<-Rr n e.2 i] at H;have H:aJ D G w0 v ((b2,cellsOf eS (some ⟨b,0,none⟩,n.toNat,n.toNat))::(b,flat eQ (nN n k0 i))::(Ls++((bp,[.slice sl.1 sl.2.1 sl.2.2])::(Bg rb n i++A)))):=H;have H:=H.perm (L':=(b2,cellsOf eS (some ⟨b,0,none⟩,n.toNat,n.toNat))::(Ls++((b,flat eQ (nN n k0 i))::(bp,[.slice sl.1 sl.2.1 sl.2.2])::(Bg rb n i++A)))) (.cons _ H7);refine aJ.grow H h rfl rfl rfl (by rw[tY];omega) λbs a m N y z H=>?_;refine⟨rfl,rfl,aw.c_ 2 H rfl rfl rfl λO H P B=>?_⟩;have o:=Rs rb n i b;have E:=Hi rb n i b;have p:(Fa rb n i).length+1=(Fa (λk=>if k=i then b else rb k) n (i+1)).length:=by rw[tY,tY]
  refine⟨q - 1,by omega,i+1,(λk=>if k=i then b else rb k),[(bs,flat eS (Fa rb n i++[(some ⟨b,0,none⟩,n.toNat,n.toNat)])++m)],(some ⟨bs,0,none⟩,(Fa rb n i).length+1,a),by rw[ao (by omega) (by omega)];rfl,by omega,.inr ⟨bs,a,m,by rw[p],by rw[o],by rw[o];exact y,by rw[<-p];exact z⟩,?_⟩;rw[E,DB];exact(H.ext B).perm (abD _ _ _ _ _)
 .have j:i=16:=by simp at f;omega
  subst j;rcases h with ⟨_,h2, _⟩|⟨bs,a,rest,F,h2,g,Q⟩
  .have:=tY rb n 16;rw[h2] at this;cases this
  .subst F;subst h2;refine ak.go H λl H=>r e.1 e.2 bp bs a rb rest l (H.perm ?_);rw[Y4,tY];refine GS.trans ?_;exact List.Perm.swap (bs,SI rb n++rest) (bp,[Value.slice (ae bs) 16 a]) _
end
end Go.Proofs.YteeflilbnoknnaaGreat.Po
namespace Go.Proofs.YteeflilbnoknnaaGreat
set_option maxRecDepth 100000
open Go.RX
theorem LC (n:Int) (w:A2) (a:Bool->A2->Prop):(aL G0 (λ_=>[]) 177 [aa n] w a)=(
 ak w (a (decide (n>=1)&&decide (n<=16)))):=by kernel_rfl
theorem LD (n:Int) (w:A2):aC AC 177 gD [aa n] w (λx w'=>x=gG n/\Ext w w'):=by
 refine aj (C:=G0) (B1 (LC n w _) ?_);have H:=At.start [] w
 repeat' (first
  |exact Go.RX.aJ.all H
  |exact And.intro (by first|rfl|decide+kernel) (Go.RX.aJ.all H)
  |refine And.intro (by first|exact rfl|exact trivial|exact λ_=>rfl|exact λ_=>trivial|exact⟨rfl,by decide,by decide⟩|exact⟨by decide,by decide⟩|decide+kernel|exact λ_=>by decide|exact λ_=>⟨rfl,by decide,by decide⟩|(dsimp only[Do,List.length_nil];exact⟨rfl,by decide,by decide⟩)) ?_
  |refine ag.bj 0 H rfl rfl ?_
  |refine ag.bj 1 H rfl rfl ?_
  |refine ag.at 0 H rfl rfl ?_
  |refine ag.at 1 H rfl rfl ?_
  |refine aH.go H λb w1 H=>?_
  |refine aw.all 0 H rfl rfl rfl λw1 H=>?_
  |refine aw.all 1 H rfl rfl rfl λw1 H=>?_
  |refine aw.c_ 0 H rfl rfl rfl λw1 H=>?_
  |refine aw.c_ 1 H rfl rfl rfl λw1 H=>?_
  |refine aw.one 0 H rfl rfl rfl λw1 H=>?_
  |refine aw.one 1 H rfl rfl rfl λw1 H=>?_
  |with_reducible refine ak.go H λw1 H=>?_
  |refine im ?_
  |refine ax (by assumption) ?_
  |refine an (by assumption) ?_
  |refine ab (λc=>?_) (λc=>?_))
noncomputable def U':Entry AC where
 f:=177
 fn l:=match l with
  |[.int .i64 a]=>some (True,.bool (gG a))
  | _=>none
 ok args pre v h b w:=by
  split at h
  .rename_i a;cases h;exact a7 (LD a w)
  .cases h
noncomputable def AD:fa AC:={G0 with oW:=[U'],quiet:=[156,141]}
theorem Va (p:Option AE) (i:Int) (w:A2) (d:GT×Bool×Unit->A2->Prop):(bO AD (λ_=>[]) 156 [ah p,aa i] w d)=(
 aH w ⟨[aa 0,aa 0,aa 0,.bool false,aa 0]⟩ 280 λb a=>((!decide (i<0))=true->p.isSome=true)/\((!decide (i<0))=true->p.isSome=true)/\ag a (some !decide (i<0)) (ad p 0) bX λx=>((!(decide (i<0)||decide (i>=(↑x.2.1:Int))))=true->p.isSome=true)/\((!(decide (i<0)||decide (i>=(↑x.2.1:Int))))=true->p.isSome=true)/\ag a (some !(decide (i<0)||decide (i>=(↑x.2.1:Int)))) (ad p 0) bX λc=>((!(decide (i<0)||decide (i>=(↑x.2.1:Int))))=true->c.1.isSome=true/\0<=i/\i<(↑c.2.1:
 Int))/\((!(decide (i<0)||decide (i>=(↑x.2.1:Int))))=true->(ad c.1 (i.toNat*5)).isSome=true)/\ag a (some !(decide (i<0)||decide (i>=(↑x.2.1:Int)))) (ad (ad c.1 (i.toNat*5)) 0) aq λ(e:Int)=>aD (decide (i<0)||decide (i>=(↑x.2.1:Int))||e==0) (aw a (ae b) [aa 0,aa 0,aa 0,.bool false,aa 0] λa=>ak a λw1=>ag w1 none (ae b) (.agg [aG,aG,aG,.bool,aG]) λ(x:Int×Int×Int×Bool×Int×Unit)=>d ((x.1,x.2.1,x.2.2.1,x.2.2.2.1,x.2.2.2.2.1,()),
 false,()) w1) (bD p 0 a λx=>(x.1.isSome=true/\0<=i/\i<(↑x.2.1:Int))/\ag a none (ad x.1 (i.toNat*5)) (.agg [aG,aG,aG,.bool,aG]) λ(x:Int×Int×Int×Bool×Int×Unit)=>aw a (ae b) [aa x.1,aa x.2.1,aa x.2.2.1,.bool x.2.2.2.1,aa x.2.2.2.2.1] λa=>ak a λw1=>ag w1 none (ae b) (.agg [aG,aG,aG,.bool,aG]) λ(x:Int×Int×Int×Bool×Int×Unit)=>d ((x.1,x.2.1,x.2.2.1,x.2.2.2.1,x.2.2.2.2.1,()),true,()) w1)):=by kernel_rfl
def qC:Nat->aW:=(λ|5=>[(12,Go.RX.El.one (Go.RX.Sc.int AT)),(13,Go.RX.El.one (Go.RX.Sc.int AT))]| _=>[])
theorem Hj (p:Option AE) (o q t:Int) (b:Bool) (w:A2) (c:Int×Int×Unit->A2->Prop):(aL AD qC 155 [ah p,aa o,aa q,aa t,.bool b] w c)=(
 True/\((!!gG o)=true->True)/\aD (!gG o|| !gG t||o==t||decide (q<0)||decide (q>65535)) (ak w (c (0,1,()))) (bD p 0 w λx=> ∃(I:Nat->Int×Int×Unit->A2->Prop),(∃n, ∀w1,Ext w w1->I n (-1,aR .i64 (↑x.2.1:Int) 1,()) w1)/\ ∀(n:Nat) (s:Int×Int×Unit) (w1:A2),I n s w1->aD (decide (s.2.1>=0)) (bD p 0 w1 λx=>(x.1.isSome=true/\0<=s.2.1/\s.2.1<(↑x.2.1:Int))/\ag w1 none (ad x.1 (AG s.2.1*5)) (.agg [aG,aG,aG,.bool,aG]) λ(x:Int×Int×Int×Bool×Int×Unit)
 =>aH w1 ⟨[aa 0,aa 0,aa 0,.bool false,aa 0]⟩ 280 λb a=>aw a (ae b) [aa x.1,aa x.2.1,aa x.2.2.1,.bool x.2.2.2.1,aa x.2.2.2.2.1] λa=>true=true/\aN a (ad (ae b) 0) λx=>((x==o)=true->true=true)/\ag a (some (x==o)) (ad (ae b) 1) aq λ(f:Int)=>((x==o&&f==q)=true->true=true)/\ag a (some (x==o&&f==q)) (ad (ae b) 2) aq λ(g:Int)=>aD (x==o&&f==q&&g==t) (ak a (c (0,5,()))) (true=true/\aN a (ad (ae b) 0) λx=>
 aD (x==0) (∀d,Ext a d-> ∃(e:Nat),e<n/\I e (s.2.1,aR .i64 s.2.1 1,()) d) (∀d,Ext a d-> ∃(e:Nat),e<n/\I e (s.1,aR .i64 s.2.1 1,()) d))) (aD (decide (s.1<0)) (ak w1 (c (0,3,()))) (bD p 0 w1 λx=>(x.1.isSome=true/\0<=s.1/\s.1<(↑x.2.1:Int))/\aw w1 (ad x.1 (AG s.1*5)) [aa o,aa q,aa t,.bool b,aa 0] λa=>ak a (c (s.1,0,())))))):=by kernel_rfl
theorem LF (p:Option AE) (i g:Int) (b:Bool) (w:A2) (c:Int->A2->Prop):(aL AD (λ_=>[]) 157 [ah p,aa i,aa g,.bool b] w c)=(
 ∃(x:(Int×Int×Int×Bool×Int×Unit)×Bool×Unit),ai AC 156 [ah p,aa i] w (.tuple {toList:=[.agg ⟨[aa x.1.1,aa x.1.2.1,aa x.1.2.2.1,.bool x.1.2.2.2.1,aa x.1.2.2.2.2.1]⟩,.bool x.2.1]})/\aH w ⟨[aa 0,aa 0,aa 0,.bool false,aa 0]⟩ 280 λd a=>aw a (ae d) [aa x.1.1,aa x.1.2.1,aa x.1.2.2.1,.bool x.1.2.2.2.1,aa x.1.2.2.2.2.1] λa=>aD (!x.2.1) (ak a (c 4)) (true=true/\aN a (ad (ae d) 2) λx=>((!x != g&&b)=true->true=true)
 /\ag a (some (!x != g&&b)) (ad (ae d) 3) cr λe=>aD (x != g||b&& !e) (ak a (c 7)) (true=true/\aN a (ad (ae d) 4) λx=>aD (decide (x>=1000)) (ak a (c 3)) (bD p 0 a λx=>true=true/\aN a (ad (ae d) 4) λf=>(x.1.isSome=true/\0<=i/\i<(↑x.2.1:Int))/\(ad x.1 (i.toNat*5)).isSome=true/\aw a (ad (ad x.1 (i.toNat*5)) 4) [aa (ay .i64 f 1)] λa=>ak a (c 0))))):=by kernel_rfl
theorem LG (p:Option AE) (i g:Int) (w:A2) (c:Int->A2->Prop):(aL AD (λ_=>[]) 159 [ah p,aa i,aa g] w c)=(
 ∃(x:(Int×Int×Int×Bool×Int×Unit)×Bool×Unit),ai AC 156 [ah p,aa i] w (.tuple {toList:=[.agg ⟨[aa x.1.1,aa x.1.2.1,aa x.1.2.2.1,.bool x.1.2.2.2.1,aa x.1.2.2.2.2.1]⟩,.bool x.2.1]})/\aH w ⟨[aa 0,aa 0,aa 0,.bool false,aa 0]⟩ 280 λb a=>aw a (ae b) [aa x.1.1,aa x.1.2.1,aa x.1.2.2.1,.bool x.1.2.2.2.1,aa x.1.2.2.2.2.1] λa=>aD (!x.2.1) (ak a (c 4)) (true=true/\aN a (ad (ae b) 2) λx=>aD (x != g) (ak a (c 7)) (true=true
 /\aN a (ad (ae b) 4) λx=>aD (x==0) (ak a (c 6)) (bD p 0 a λx=>true=true/\aN a (ad (ae b) 4) λd=>(x.1.isSome=true/\0<=i/\i<(↑x.2.1:Int))/\(ad x.1 (i.toNat*5)).isSome=true/\aw a (ad (ad x.1 (i.toNat*5)) 4) [aa (aR .i64 d 1)] λa=>ak a (c 0))))):=by kernel_rfl
theorem Ru (p:Option AE) (i o:Int) (w:A2) (c:Int->A2->Prop):(aL AD (λ_=>[]) 76 [ah p,aa i,aa o] w c)=(
 ∃(x:(Int×Int×Int×Bool×Int×Unit)×Bool×Unit),ai AC 156 [ah p,aa i] w (.tuple {toList:=[.agg ⟨[aa x.1.1,aa x.1.2.1,aa x.1.2.2.1,.bool x.1.2.2.2.1,aa x.1.2.2.2.2.1]⟩,.bool x.2.1]})/\aH w ⟨[aa 0,aa 0,aa 0,.bool false,aa 0]⟩ 280 λb a=>aw a (ae b) [aa x.1.1,aa x.1.2.1,aa x.1.2.2.1,.bool x.1.2.2.2.1,aa x.1.2.2.2.2.1] λa=>aD (!x.2.1) (ak a (c 4)) (true=true/\aN a (ad (ae b) 0) λx=>aD (x != o) (ak a (c 7)) (true=true
 /\aN a (ad (ae b) 4) λx=>aD (decide (x>0)) (ak a (c 9)) (bD p 0 a λx=>(x.1.isSome=true/\0<=i/\i<(↑x.2.1:Int))/\aw a (ad x.1 (i.toNat*5)) [aa 0,aa 0,aa 0,.bool false,aa 0] λa=>ak a (c 0))))):=by kernel_rfl
def su:Nat->aW:=(λ|3=>[(5,Go.RX.El.one (Go.RX.Sc.int AT)),(6,Go.RX.El.one (Go.RX.Sc.int AT))]| _=>[])
theorem LH (p:Option AE) (g:Int) (w:A2) (f:Int->A2->Prop):(aL AD su 144 [ah p,aa g] w f)=(
 ∃(I:Nat->Int×Int×Unit->A2->Prop),(∃n, ∀w1,Ext w w1->I n (0,0,()) w1)/\ ∀(n:Nat) (s:Int×Int×Unit) (w1:A2),I n s w1->bD p 0 w1 λx=>aD (decide (s.2.1<(↑x.2.1:Int))) (bD p 0 w1 λx=>(x.1.isSome=true/\0<=s.2.1/\s.2.1<(↑x.2.1:Int))/\(ad x.1 (AG s.2.1*5)).isSome=true/\ag w1 none (ad (ad x.1 (AG s.2.1*5)) 0) aq λ(x:Int)=>(decide (x>0)=true->p.isSome=true)/\(decide (x>0)=true->p.isSome=true)/\ag w1 (some (decide (x>0))) (ad p 0) bX λd=>(decide (x>0)=true->
 d.1.isSome=true/\0<=s.2.1/\s.2.1<(↑d.2.1:Int))/\(decide (x>0)=true->(ad d.1 (AG s.2.1*5)).isSome=true)/\ag w1 (some (decide (x>0))) (ad (ad d.1 (AG s.2.1*5)) 0) aq λ(a:Int)=>((decide (x>0)&& !a==g)=true->p.isSome=true)/\((decide (x>0)&& !a==g)=true->p.isSome=true)/\ag w1 (some (decide (x>0)&& !a==g)) (ad p 0) bX λe=>((decide (x>0)&& !a==g)=true->e.1.isSome=true/\0<=s.2.1/\s.2.1<(↑e.2.1:Int))/\((decide (x>0)&& !a==g)=true->(ad e.1 (AG s.2.1*
 5)).isSome=true)/\ag w1 (some (decide (x>0)&& !a==g)) (ad (ad e.1 (AG s.2.1*5)) 2) aq λ(h:Int)=>aD (decide (x>0)&&(a==g||h==g)) (bD p 0 w1 λx=>(x.1.isSome=true/\0<=s.2.1/\s.2.1<(↑x.2.1:Int))/\aw w1 (ad x.1 (AG s.2.1*5)) [aa 0,aa 0,aa 0,.bool false,aa 0] λi=> ∀b,Ext i b-> ∃(c:Nat),c<n/\I c (ay .i64 s.1 1,ay .i64 s.2.1 1,()) b) (∀b,Ext w1 b-> ∃(c:Nat),c<n/\I c (s.1,ay .i64 s.2.1 1,()) b)) (ak w1 (f s.1))):=by kernel_rfl
def pE:Nat->aW:=(λ|6=>[(8,Go.RX.El.one (Go.RX.Sc.int AT))]|9=>[(9,Go.RX.El.one (Go.RX.Sc.int AT))]| _=>[])
theorem EM (p:Option AE) (a b:Int) (w:A2) (j:Bool->A2->Prop):(aL AD pE 89 [ah p,aa a,aa b] w j)=(
 True/\((!!gG a)=true->True)/\aD (!gG a|| !gG b) (ak w (j false)) (xG w 1 1 17 17 ⟨[.bool false]⟩ 4 λg c=>(true=true/\0<=a/\a<(↑17:Int))/\aw c (ad (ae g) (a.toNat*1)) [.bool true] λc=> ∃(I:Nat->Int×Unit->A2->Prop),(∃n, ∀w1,Ext c w1->I n (0,()) w1)/\ ∀(n:Nat) (s:Int×Unit) (w1:A2),I n s w1->aD (decide (s.1<16)) (∃(i:Nat->Int×Unit->A2->Prop),(∃n, ∀o,Ext w1 o->i n (0,()) o)/\ ∀(k:Nat) (f:Int×Unit) (w1:A2),i k f w1->bD p 0 w1 λx=>aD (decide
 (f.1<(↑x.2.1:Int))) (bD p 0 w1 λx=>(x.1.isSome=true/\0<=f.1/\f.1<(↑x.2.1:Int))/\ag w1 none (ad x.1 (AG f.1*5)) (.agg [aG,aG,aG,.bool,aG]) λ(x:Int×Int×Int×Bool×Int×Unit)=>aH w1 ⟨[aa 0,aa 0,aa 0,.bool false,aa 0]⟩ 280 λb c=>aw c (ae b) [aa x.1,aa x.2.1,aa x.2.2.1,.bool x.2.2.2.1,aa x.2.2.2.2.1] λc=>true=true/\aN c (ad (ae b) 0) λx=>(decide (x>0)=true->true=true)/\ag c (some (decide (x>0))) (ad (ae
 b) 0) aq λ(l:Int)=>(decide (x>0)=true->true=true/\0<=l/\l<(↑17:Int))/\ag c (some (decide (x>0))) (ad (ae g) (l.toNat*1)) cr λh=>((decide (x>0)&& !h)=true->true=true)/\ag c (some (decide (x>0)&& !h)) (ad (ae b) 2) aq λ(m:Int)=>((decide (x>0)&& !h)=true->true=true/\0<=m/\m<(↑17:Int))/\ag c (some (decide (x>0)&& !h)) (ad (ae g) (m.toNat*1)) cr λq=>aD (decide (x>0)&&(h||q)) (true=true/\aN c (ad (ae b) 0) λx=>(true=true/\0<=x/\x<(↑17:
 Int))/\aw c (ad (ae g) (x.toNat*1)) [.bool true] λc=>true=true/\aN c (ad (ae b) 2) λx=>(true=true/\0<=x/\x<(↑17:Int))/\aw c (ad (ae g) (x.toNat*1)) [.bool true] λc=> ∀d,Ext c d-> ∃(e:Nat),e<k/\i e (ay .i64 f.1 1,()) d) (∀d,Ext c d-> ∃(e:Nat),e<k/\i e (ay .i64 f.1 1,()) d)) (∀d,Ext w1 d-> ∃(e:Nat),e<n/\I e (ay .i64 s.1 1,()) d)) ((true=true/\0<=b/\b<(↑17:Int))/\jc w1 (ad (ae g) (b.toNat*1)) λx=>ak w1 (j x)))):=by kernel_rfl
theorem Rv (n:Int) (w:A2) (c:Option AE×Int×Unit->A2->Prop):(aL AD (λ_=>[]) 59 [aa n] w c)=(
 aD (decide (n<1)||decide (n>64)) (aH w ⟨[.slice none 0 0]⟩ 269 λb a=>ak a (c (some ⟨b,0,none⟩,1,()))) (xG w 40 5 n n ⟨[aa 0,aa 0,aa 0,.bool false,aa 0]⟩ 280 λb a=>aH a {toList:=[.slice (ae b) n.toNat n.toNat]} 269 λb a=>ak a (c (some ⟨b,0,none⟩,0,())))):=by kernel_rfl
theorem Rw (k:Int) (w:A2) (a:Int->A2->Prop):(aL AD (λ_=>[]) 141 [aa k] w a)=(
 aD (decide (k<1)||decide (k>17)) (ak w (a (-1))) (aH w {toList:=[aa 0,aa 0,aa 1,aa 2,aa 1,aa 2,aa 1,aa 2,aa 3,aa 3,aa 1,aa 1,aa 1,aa 2,aa 1,aa 0,aa 1,aa 0]} 3 λb c=>(true=true/\0<=k/\k<(↑18:Int))/\aN c (ad (ae b) (k.toNat*1)) λx=>ak c (a x))):=by kernel_rfl
theorem Vb (k:Int) (w:A2) (a:Bool->A2->Prop):(aL AD (λ_=>[]) 66 [aa k] w a)=(
 ak w (a (k==1||k==2||k==17))):=by kernel_rfl
theorem LI (k a b c:Int) (w:A2) (g:Bool->A2->Prop):(aL AD (λ_=>[]) 65 [.agg ⟨[aa k,av a,av b,av c]⟩] w g)=(
 aH w ⟨[aa k,av a,av b,av c]⟩ 42 λb e=>true=true/\aN e (ad (ae b) 0) λx=> ∃(d:Int),ai AC 141 [aa x] e (aa d)/\((decide (d>=0)&& !decide (d>0))=true->true=true)/\ag e (some (decide (d>=0)&& !decide (d>0))) (ad (ae b) 1) gZ λ(x:Int)=>((decide (d>=0)&&(decide (d>0)||x==0)&& !decide (d>1))=true->true=true)/\ag e (some (decide (d>=0)&&(decide (d>0)||x==0)&& !decide (d>1))) (ad (ae b) 2) gZ λ(f:Int)=>((decide (d>=0)&&
 (decide (d>0)||x==0)&&(decide (d>1)||f==0)&& !decide (d>2))=true->true=true)/\ag e (some (decide (d>=0)&&(decide (d>0)||x==0)&&(decide (d>1)||f==0)&& !decide (d>2))) (ad (ae b) 3) gZ λ(h:Int)=>ak e λw1=>g (decide (d>=0)&&(decide (d>0)||x==0)&&(decide (d>1)||f==0)&&(decide (d>2)||h==0)) w1):=by kernel_rfl
section
variable {D G:List Nat} {w0 w:A2} {L:List (Nat×List AR)} {bg br c:Nat} {gs:List GT} {rest:List AR}
theorem kf.z {gs:List GT} (h:kf gs) {k:Nat} {x:GT} (a:gs[k]? =some x):x.1=0<->x=zG:=by
 constructor
 .intro e;rcases(h x (Ch a)).1 with h|h
  .exact h
  .omega
 .rintro rfl;rfl
theorem Ou {i:Int} (h:0<=i/\i<gs.length):gs[i.toNat]? =some (gs.getD i.toNat zG):=by
 rw[DC,Cs (by omega)];rfl
theorem NF (a:bq w br (flat eG gs++rest)) {k:Nat} {x:GT} (b:gs[k]? =some x):bP w (ad (ae br) (k*5)) eG x:=dK (e:=eG) a b
theorem Cz (a:bq w br (flat eG gs++rest)) {k:Nat} {x:GT} (b:gs[k]? =some x) {f:Nat} (c:f<5) {s:Sc} {y:s.T} (d:(match (a6 sG x)[f]? with|some v=>s.proj v|none=>none)=some y):bP w (ad (ad (ae br) (k*5)) f) (.one s) y:=by
 rw[aS,aS,Dm];refine cK a ?_;have h:(flat eG gs++rest)[k*5+f]? =(a6 sG x)[f]? :=Po.CG (ss:=sG) (rest:=rest) b c;show(match (flat eG gs++rest)[k*5+f]? with|some v=>s.proj v|none=>none)=some y;rw[h];exact d
theorem r9 (h:bq w bg (g7 br gs.length c)):bP w (ad (ae bg) 0) bX (some ⟨br,0,none⟩,gs.length,c):=by rw[aS];exact cK h rfl
theorem Vc (h:bq w bg (g7 br gs.length c)) (d:bq w br (flat eG gs++rest)) (m:kf gs) (i:Int):
 aC AC 156 (.bu [eG,cr]) [ah (ae bg),aa i] w (λx w'=>x=(kX gs i,(jF gs i).isSome,())/\Ext w w'):=by
 refine aQ (C:=AD) (B1 (Va _ i w _) ?_);refine aH.go (At.start [] w) λb j H=>?_;have h:=h.ext H.all;have d:=d.ext H.all;have f:=r9 h;have l:jF gs i=none->aw j (ae b) [aa 0,aa 0,aa 0,.bool false,aa 0] λj=>ak j λw1=>ag w1 none (ae b) (.agg [aG,aG,aG,.bool,aG]) λ(x:GT)=>(((x.1,x.2.1,x.2.2.1,x.2.2.2.1,x.2.2.2.2.1,()),false,()):GT×Bool×Unit)=(kX gs i,(jF gs i).isSome,())/\Ext w w1:=λe=>by
  unfold kX;rw[e];exact aw.all 0 H rfl rfl rfl λn H=>ak.go H λo H=>ag.at 0 H rfl (show _=some zG from rfl) ⟨rfl,H.all⟩
 by_cases a:0<=i/\i<gs.length
 .have k:=Ou a;have p:decide (i<0)=false:=decide_eq_false (by omega);have q:decide (i>=(gs.length:Int))=false:=decide_eq_false (by omega);refine⟨λ_=>rfl,λ_=>rfl,ag.of _ f ⟨λ_=>rfl,λ_=>rfl,ag.of _ f ⟨λ_=>⟨rfl,a⟩,λ_=>rfl,ag.of (gs.getD i.toNat zG).1 (Cz d k (by decide) rfl) ?_⟩⟩⟩;dsimp only;rw[p,q];by_cases g:gs.getD i.toNat zG=zG
  .exact ax (by rw[g];rfl) (l (ar λc=>c.2.2 g))
  .have e:jF gs i=some i.toNat:=az ⟨a.1,a.2,g⟩;unfold kX;rw[e];exact an (by simpa using λc=>g ((m.z k).1 c)) ⟨rfl,rfl,ag.of _ f ⟨⟨rfl,a⟩,ag.of _ (NF d k) (aw.all 0 H rfl rfl rfl λn H=>ak.go H λo H=>ag.at 0 H rfl (show _=some (gs.getD i.toNat zG) from rfl) ⟨rfl,H.all⟩)⟩⟩
 .have e:(decide (i<0)||decide (i>=(gs.length:Int)))=true:=by
   rw[Bool.or_eq_true,decide_eq_true_eq,decide_eq_true_eq];omega
  refine⟨λ_=>rfl,λ_=>rfl,ag.of _ f ?_⟩;dsimp only;rw[e];exact⟨λc=>(by cases c),λc=>(by cases c),⟨((none,0,0):Option AE×Nat×Nat),λc=>(by cases c),λc=>(by cases c),λc=>(by cases c),⟨0,λc=>(by cases c),ax rfl (l (ar λc=>a ⟨c.1,c.2.1⟩))⟩⟩⟩
theorem CA (h:bq w bg (g7 br gs.length c)) (a:bq w br (flat eG gs++rest)) (b:kf gs) (i:Int):ai AC 156 [ah (ae bg),aa i] w ((Sh.bu [eG,cr]).g9 (kX gs i,(jF gs i).isSome,())):=
 ai.of λw' h'=>Vc (h.ext h') (a.ext h') b i
theorem We (H:aJ D G w0 w L) (a:Nat) (b:L[a]? =some (br,flat eG gs++rest)) {k:Nat} {x:GT} (c:gs[k]? =some x) {f:Nat} (d:f<5) {v:AR} (hv:v.oneCell'=true) (y:GT) (e:a6 sG y=(a6 sG x).set f v) {K:A2->Prop} (kk: ∀w1,aJ D G w0 w1 (L.set a (br,flat eG (gs.set k y)++rest))->K w1):aw w (ad (ad (ae br) (k*5)) f) [v] K:=by
 rw[aS,Dm];exact Xw H a b c d hv y e kk
theorem XJ (H:aJ D G w0 w L) (a:Nat) (b:L[a]? =some (br,flat eG gs++rest)) {k:Nat} (c:k<gs.length) (y:GT) {K:A2->Prop} (kk: ∀w1,aJ D G w0 w1 (L.set a (br,flat eG (gs.set k y)++rest))->K w1):aw w (ad (ae br) (k*5)) (a6 sG y) K:=by
 rw[aS,Dm];refine aw.at a H b rfl ?_ λw1 d=>kk w1 ?_
 .rw[Fz,aK,cG];show k*5+5<=gs.length*5+rest.length;omega
 .have:=uh eG gs k y rest c;have e:(flat eG gs++rest).take (k*5)++(a6 sG y++(flat eG gs++rest).drop (k*5+(a6 sG y).length))=flat eG (gs.set k y)++rest:=this;rw[<-e];exact d
theorem LJ (H:aJ D G w0 w L) (j l:Nat) (p:L[j]? =some (bg,g7 br gs.length c)) (m:L[l]? =some (br,flat eG gs++rest)) (r:kf gs) (i g:Int) (b:Bool) {K:Int->A2->Prop}
 (k: ∀e,aJ D G w0 e (L.set l (br,flat eG (de gs i g b)++rest))->K (eB gs i g b) e):
 aA AC 157 aT [ah (ae bg),aa i,aa g,.bool b] w K:=by
 refine aA.go H λw1 H=>aj (C:=AD) (B1 (LF _ i g b w1 K) ?_);have same:eB gs i g b≠0-> ∀{e x},aJ D G w0 e (x::L)->aJ D G w0 e (L.set l (br,flat eG (de gs i g b)++rest)):=λh e x H=>by
  unfold de;rw[ar h,AN m];exact H.sub (AU _ _)
 have a:eB gs i g b=match jF gs i with
  |none=>4
  |some k=>if((gs.getD k zG).2.2.1 != g||b&& !(gs.getD k zG).2.2.2.1)=true then 7 else if(gs.getD k zG).2.2.2.2.1=1000 then 3 else 0:=rfl
 refine⟨_,CA (H.get p) (H.get m) r i,aH.go H λb1 e H=>aw.all 0 H rfl rfl rfl λA H=>?_⟩;unfold kX at H ⊢;cases n:jF gs i with
 |none=>
  rw[n] at a;dsimp only at a;rw[a] at k same;exact ax rfl (ak.go H λf H=>k f (same (by decide) H))
 |some q=>
  have ⟨u,v,s,o, _⟩:=iu n;rw[n] at a H;dsimp only at a H ⊢;have ⟨x,t⟩: ∃x,x=gs.getD q zG:=⟨_,rfl⟩;rw[<-t] at a o H;have hb:=(r x (Ch o)).2;refine an rfl ⟨rfl,ag.bj 0 H rfl (show _=some x.2.2.1 from rfl) ⟨λ_=>rfl,ag.bj 0 H rfl (show _=some x.2.2.2.1 from rfl) (ab (λd=>ak.go H λf H=>?_) (λd=>⟨rfl,ag.bj 0 H rfl (show _=some x.2.2.2.2.1 from rfl) (ab (λd2=>ak.go H λf H=>?_) (λd2=>?_))⟩))⟩⟩
  .rw[az d] at a;rw[a] at k same;exact k f (same (by decide) H)
  .rw[ar (by rw[d];decide),az (by have:=of_decide_eq_true d2;omega)] at a;rw[a] at k same;exact k f (same (by decide) H)
  .have d2:=of_decide_eq_false d2;rw[ar (by rw[d];decide),ar (by omega)] at a;refine⟨rfl,rfl,ag.of _ (r9 (H.get (i:=j+1) p)) ⟨rfl,ag.bj 0 H rfl (show _=some x.2.2.2.2.1 from rfl) ⟨⟨rfl,u,v⟩,rfl,?_⟩⟩⟩;rw[ao (by omega) (by omega), <-s];refine We H (l+1) m o (by decide) rfl (fM x 1) rfl λf H=>ak.go H λy H=>?_;have z:de gs i g b=gs.set q (fM x 1):=by
    unfold de;rw[az a, <-s, <-t]
   rw[a,z] at k;exact k y (H.sub (AU _ _))
theorem LK (H:aJ D G w0 w L) (j f:Nat) (o:L[j]? =some (bg,g7 br gs.length c)) (l:L[f]? =some (br,flat eG gs++rest)) (p:kf gs) (i g:Int) {K:Int->A2->Prop}
 (k: ∀b,aJ D G w0 b (L.set f (br,flat eG (dj gs i g)++rest))->K (jS gs i g) b):
 aA AC 159 aT [ah (ae bg),aa i,aa g] w K:=by
 refine aA.go H λw1 H=>aj (C:=AD) (B1 (LG _ i g w1 K) ?_);have same:jS gs i g≠0-> ∀{b x},aJ D G w0 b (x::L)->aJ D G w0 b (L.set f (br,flat eG (dj gs i g)++rest)):=λh b x H=>by
  unfold dj;rw[ar h,AN l];exact H.sub (AU _ _)
 have a:jS gs i g=match jF gs i with
  |none=>4
  |some k=>if(gs.getD k zG).2.2.1≠g then 7 else if(gs.getD k zG).2.2.2.2.1=0 then 6 else 0:=rfl
 refine⟨_,CA (H.get o) (H.get l) p i,aH.go H λb1 b H=>aw.all 0 H rfl rfl rfl λz H=>?_⟩;unfold kX at H ⊢;cases m:jF gs i with
 |none=>
  rw[m] at a;dsimp only at a;rw[a] at k same;exact ax rfl (ak.go H λe H=>k e (same (by decide) H))
 |some q=>
  have ⟨t,u,r,n, _⟩:=iu m;rw[m] at a H;dsimp only at a H ⊢;have ⟨x,s⟩: ∃x,x=gs.getD q zG:=⟨_,rfl⟩;rw[<-s] at a n H;have hb:=(p x (Ch n)).2;refine an rfl ⟨rfl,ag.bj 0 H rfl (show _=some x.2.2.1 from rfl) (ab (λd=>ak.go H λe H=>?_) (λd=>⟨rfl,ag.bj 0 H rfl (show _=some x.2.2.2.2.1 from rfl) (ab (λd2=>ak.go H λe H=>?_) (λd2=>?_))⟩))⟩
  .rw[az (by simpa using d)] at a;rw[a] at k same;exact k e (same (by decide) H)
  .rw[ar (by simpa using d),az (by simpa using d2)] at a;rw[a] at k same;exact k e (same (by decide) H)
  .have d2: ¬ x.2.2.2.2.1=0:=by simpa using d2
   rw[ar (by simpa using d),ar d2] at a;refine⟨rfl,rfl,ag.of _ (r9 (H.get (i:=j+1) o)) ⟨rfl,ag.bj 0 H rfl (show _=some x.2.2.2.2.1 from rfl) ⟨⟨rfl,t,u⟩,rfl,?_⟩⟩⟩;rw[aX (by omega) (by omega), <-r];refine We H (f+1) l n (by decide) rfl (fM x (-1)) rfl λe H=>ak.go H λv H=>?_;have y:dj gs i g=gs.set q (fM x (-1)):=by
    unfold dj;rw[az a, <-r, <-s]
   rw[a,y] at k;exact k v (H.sub (AU _ _))
theorem Rx (H:aJ D G w0 w L) (j f:Nat) (m:L[j]? =some (bg,g7 br gs.length c)) (g:L[f]? =some (br,flat eG gs++rest)) (n:kf gs) (i o:Int) {K:Int->A2->Prop}
 (k: ∀b,aJ D G w0 b (L.set f (br,flat eG (jf gs i o)++rest))->K (mQ gs i o) b):
 aA AC 76 aT [ah (ae bg),aa i,aa o] w K:=by
 refine aA.go H λw1 H=>aj (C:=AD) (B1 (Ru _ i o w1 K) ?_);have same:mQ gs i o≠0-> ∀{b x},aJ D G w0 b (x::L)->aJ D G w0 b (L.set f (br,flat eG (jf gs i o)++rest)):=λh b x H=>by
  unfold jf;rw[ar h,AN g];exact H.sub (AU _ _)
 have a:mQ gs i o=match jF gs i with
  |none=>4
  |some k=>if(gs.getD k zG).1≠o then 7 else if(gs.getD k zG).2.2.2.2.1>0 then 9 else 0:=rfl
 refine⟨_,CA (H.get m) (H.get g) n i,aH.go H λb1 b H=>aw.all 0 H rfl rfl rfl λy H=>?_⟩;unfold kX at H ⊢;cases l:jF gs i with
 |none=>
  rw[l] at a;dsimp only at a;rw[a] at k same;exact ax rfl (ak.go H λe H=>k e (same (by decide) H))
 |some q=>
  have ⟨p,r,z,s, _⟩:=iu l;rw[l] at a H;dsimp only at a H ⊢;have ⟨x,t⟩: ∃x,x=gs.getD q zG:=⟨_,rfl⟩;rw[<-t] at a s H;refine an rfl ⟨rfl,ag.bj 0 H rfl (show _=some x.1 from rfl) (ab (λd=>ak.go H λe H=>?_) (λd=>⟨rfl,ag.bj 0 H rfl (show _=some x.2.2.2.2.1 from rfl) (ab (λd2=>ak.go H λe H=>?_) (λd2=>?_))⟩))⟩
  .rw[az (by simpa using d)] at a;rw[a] at k same;exact k e (same (by decide) H)
  .rw[ar (by simpa using d),az (of_decide_eq_true d2)] at a;rw[a] at k same;exact k e (same (by decide) H)
  .rw[ar (by simpa using d),ar (of_decide_eq_false d2)] at a;refine⟨rfl,rfl,ag.of _ (r9 (H.get (i:=j+1) m)) ⟨⟨rfl,p,r⟩,?_⟩⟩;refine XJ H (f+1) g (show i.toNat<gs.length by omega) zG λe H=>ak.go H λu H=>?_;have v:jf gs i o=gs.set i.toNat zG:=by
    unfold jf;rw[az a]
   rw[a,v] at k;exact k u (H.sub (AU _ _))
end
section
variable {D G:List Nat} {w0 w:A2} {L:List (Nat×List AR)} {bg br c:Nat} {gs:List GT} {rest:List AR}
theorem Hk {p:GT->Bool} {n i:Nat} (hi:i<n) (h:p (gs.getD i zG)=true) (hb: ∀j,j<i->p (gs.getD j zG)=false):(cI gs p n).headD 0=(i:Int):=by
 have e:cI gs p i=[]:=FJ.2 λx d=>by
  have ⟨j,f,h2, _⟩:=iN.1 d;rw[hb j f] at h2;cases h2
 have: ∀m,(cI gs p (i+1+m)).headD 0=(i:Int)/\cI gs p (i+1+m)≠[]:=by
  intro m
  induction m with
  |zero=>rw[Nat.add_zero,mC,e,az h];exact⟨rfl,by simp⟩
  |succ m g=>
   rw[<-Nat.add_assoc,mC];have ⟨a,b⟩:=g;cases c:cI gs p (i+1+m) with
   |nil=>exact absurd c b
   |cons y l=>rw[c] at a;exact⟨a,by simp⟩
 have:=(this (n - (i+1))).1;rwa[show i+1+(n - (i+1))=n by omega] at this
theorem Hl (H:aJ D G w0 w L) (j F:Nat) (u:L[j]? =some (bg,g7 br gs.length c)) (I:L[F]? =some (br,flat eG gs++rest)) (hl:gs.length<=64) (Y:kf gs) (o q t:Int) (b:Bool) {K:Int×Int×Unit->A2->Prop}
 (k: ∀g,aJ D G w0 g (L.set F (br,flat eG (ib gs o q t b)++rest))->K (gU gs o q t,iT gs o q t,()) g):
 aA AC 155 (.bu [aq,aq]) [ah (ae bg),aa o,aa q,aa t,.bool b] w K:=by
 refine aA.go H λw1 H=>aj (C:=AD) (b_:=qC) (B1 (Hj _ o q t b w1 K) ?_);have J: ∀{e:Int},e≠0->iT gs o q t=e-> ∀{g},aJ D G w0 g L->K (0,e,()) g:=λ{e} S h g H=>by
  have k:=k g;unfold ib gU at k;rw[h,ar S,ar S,AN I] at k;exact k H
 refine⟨trivial,λ_=>trivial,ab (λd=>ak.go H λg H=>J (by decide) ?_ H) (λd=>?_)⟩
 .unfold iT;rw[az];revert d;cases gG o<;>cases gG t<;>cases (o==t)<;>simp<;>omega
 have h:iT gs o q t=if cI gs (fw o q t) gs.length≠[] then 5 else if cI gs dN gs.length=[] then 3 else 0:=by
  unfold iT;rw[ar];revert d;cases gG o<;>cases gG t<;>cases (o==t)<;>simp<;>omega
 have ho:1<=o:=by
  have:gG o=true:=by
   revert d;cases gG o<;>simp
  exact(oz.1 this).1
 clear d;refine⟨rfl,rfl,ag.of _ (r9 (H.get u)) ?_⟩;dsimp only;refine⟨λn st w'=> ∃i:Nat,n=i/\i<=gs.length/\st.2.1=(i:Int) - 1/\(∀m:Nat,i<=m->m<gs.length->fw o q t (gs.getD m zG)=false)/\((st.1= -1/\ ∀m:Nat,i<=m->m<gs.length->gs.getD m zG≠zG)\/ ∃f:Nat,st.1=(f:Int)/\i<=f/\f<gs.length/\gs.getD f zG=zG/\ ∀m:Nat,i<=m->m<f->gs.getD m zG≠zG)/\aJ D G w0 w' L,
  ⟨gs.length,λg h2=>⟨gs.length,rfl,Df _,aX (by omega) (by omega),λm l h2=>(by omega),.inl ⟨rfl,λm l h2=>(by omega)⟩,H.ext h2⟩⟩,?_⟩
 clear H;rintro n ⟨f0,i0, _⟩ g ⟨i,M,WO,hi,T,N,H⟩;have hi:i0=(i:Int) - 1:=hi;have M:i=n:=M.symm;subst hi M;dsimp only at N ⊢;refine ab (λd=>?_) (λd=>?_)
 .have wq:1<=i:=by have:=of_decide_eq_true d;omega
  have p:gs[((i:Int) - 1).toNat]? =some (gs.getD (i - 1) zG):=by
   have:=Ou (gs:=gs) (i:=(i:Int) - 1) (by omega);rwa[show((i:Int) - 1).toNat=i - 1 by omega] at this ⊢
  have O:=Y.z p;generalize v:gs.getD (i - 1) zG=x at p O;refine⟨rfl,rfl,ag.of _ (r9 (H.get u)) ⟨⟨rfl,by omega,by show(i:Int) - 1<(gs.length:Int);omega⟩,ag.of _ (NF (H.get I) p) (aH.go H λb1 U H=>aw.all 0 H rfl rfl rfl λV H=>?_)⟩⟩;have fin: ∀{B:A2} {y:Int},fw o q t x=false->((y=f0/\x≠zG)\/(y=(i:Int) - 1/\x=zG))->aJ D G w0 B L-> ∀P,Ext B P-> ∃W,W<i/\ ∃r:Nat,W=r/\r<=gs.length/\aR .i64 ((i:Int) - 1) 1=(r:Int) - 1/\(∀m:Nat,r<=m->m<gs.length->fw o q t (gs.getD m zG)=false)/\((y= -1/\ ∀m:Nat,r<=m->m<gs.length->gs.getD m zG≠zG)\/ ∃f:Nat,y=(f:Int)/\r<=f/\f<gs.length/\gs.getD f zG=zG/\ ∀m:Nat,r<=m->m<f->gs.getD m zG≠zG)/\aJ D G w0 P L:=λ{B y} t1 t2 H P Z=>by
   refine⟨i - 1,by omega,i - 1,rfl,by omega,by rw[aX (by omega) (by omega)];omega,λm Q s=>?_,?_,H.ext Z⟩
   .by_cases e:m=i - 1
    .rw[e,v];exact t1
    .exact T m (by omega) s
   .rcases t2 with ⟨rfl,t2⟩|⟨rfl,t2⟩
    .rcases N with ⟨l,h2⟩|⟨f,l,h2,A,E,R⟩
     .refine .inl ⟨l,λm Q s=>?_⟩;by_cases e:m=i - 1
      .rw[e,v];exact t2
      .exact h2 m (by omega) s
     .refine .inr ⟨f,l,by omega,A,E,λm Q s=>?_⟩;by_cases e:m=i - 1
      .rw[e,v];exact t2
      .exact R m (by omega) s
    .exact .inr ⟨i - 1,by omega,Df _,by omega,by rw[v];exact t2,λm Q s=>(by omega)⟩
  refine⟨rfl,ag.bj 0 H rfl (show _=some x.1 from rfl) ⟨λ_=>rfl,ag.bj 0 H rfl (show _=some x.2.1 from rfl) ⟨λ_=>rfl,ag.bj 0 H rfl (show _=some x.2.2.1 from rfl) (ab (λd2=>ak.go H λB H=>J (e:=5) (by decide) ?_ (H.sub (AU _ _))) (λd2=>⟨rfl,ag.bj 0 H rfl (show _=some x.1 from rfl) (ab (λd3=>?_) (λd3=>?_))⟩))⟩⟩⟩
  .rw[h,az];refine List.ne_nil_of_mem (a:=((i - 1:Nat):Int)) (iN.2 ⟨i - 1,by omega,?_,rfl⟩);rw[v];unfold fw;simp only[HB,beq_iff_eq] at d2 ⊢;omega
  .exact fin (by unfold fw;simp only[HD,beq_eq_false_iff_ne] at d2 ⊢;omega) (.inr ⟨rfl,O.1 (by simpa using d3)⟩) (H.sub (AU _ _))
  .exact fin (by unfold fw;simp only[HD,beq_eq_false_iff_ne] at d2 ⊢;omega) (.inl ⟨rfl,λc=>(by simp only[beq_eq_false_iff_ne] at d3;exact d3 (O.2 c))⟩) (H.sub (AU _ _))
 .have xI:i=0:=by have:=of_decide_eq_false d;omega
  subst xI;have htn:cI gs (fw o q t) gs.length=[]:=FJ.2 λx p=>by
   have ⟨m,l,h2, _⟩:=iN.1 p;rw[T m (Dl _) l] at h2;cases h2
  rw[ar (λc=>c htn)] at h;rcases N with ⟨rfl,h2⟩|⟨f,rfl, _,A,E,R⟩
  .refine ax rfl (ak.go H λU H=>J (by decide) ?_ H);rw[h,az];refine FJ.2 λx p=>?_;have ⟨m,l,h2', _⟩:=iN.1 p;exact h2 m (Dl _) l (of_decide_eq_true h2')
  .have acw:(cI gs dN gs.length).headD 0=(f:Int):=Hk A (decide_eq_true E) λm u=>decide_eq_false (R m (Dl _) u);rw[ar λc=>by
    have:(f:Int)∈cI gs dN gs.length:=iN.2 ⟨f,A,decide_eq_true E,rfl⟩;rw[c] at this;cases this] at h
   have X:gU gs o q t=(f:Int):=by unfold gU;rw[az h,acw]
   have hS:ib gs o q t b=gs.set f (o,q,t,b,0,()):=by unfold ib;rw[az h,X];rfl
   rw[h,X,hS] at k;refine an (decide_eq_false (by omega)) ⟨rfl,rfl,ag.of _ (r9 (H.get u)) ⟨⟨rfl,by omega,by show(f:Int)<(gs.length:Int);omega⟩,?_⟩⟩;rw[Int.toNat_natCast];exact XJ H F I A (o,q,t,b,0,()) λU H=>ak.go H λV H=>k V H
end
noncomputable def N2:fa AC:={N0 with quiet:=[309,242,82]}
def vc:Nat->aW:=(λ|1=>[(4,Go.RX.El.one (Go.RX.Sc.int AT))]| _=>[])
theorem Ry (p:Option AE) (f:Int) (w:A2) (a:Unit->A2->Prop):(aL N2 vc 234 [ah p,aa f] w a)=(
 ∃(I:Nat->Int×Unit->A2->Prop),(∃n, ∀w1,Ext w w1->I n (0,()) w1)/\ ∀(n:Nat) (s:Int×Unit) (w1:A2),I n s w1->aD (decide (s.1<16)) (bh p 0 w1 λx=>aA AC 154 aT [ah x,aa (ay .i64 (dk .i64 16 f) s.1),av 0] w1 λ(x:Int) d=> ∀b,Ext d b-> ∃(c:Nat),c<n/\I c (ay .i64 s.1 1,()) b) (ak w1 (a ()))):=by kernel_rfl
theorem Vd (m p:Option AE) (o:Int) (w:A2) (c:Option AE×Int×Unit->A2->Prop):(aL N2 (λ_=>[]) 142 [ah m,ah p,aa o] w c)=(
 aH w ⟨[ah m,ah p,aa o,aa 0,.bool false]⟩ 297 λb a=>bD m 0 a λx=>bD p 0 a λd=>aD (decide ((↑x.2.1:Int)<dk .i64 16 (↑d.2.1:Int))) (ak a (c (some ⟨b,0,none⟩,1,()))) (aA AC 233 (.bu [aq,aq]) [ah p,aa 3,aa o] a λ(x:Int×Int×Unit) a=>aD (x.2.1 != 0) (ak a (c (some ⟨b,0,none⟩,x.2.1,()))) (true=true/\true=true/\aw a (ad (ae b) 3) [aa x.1] λa=>aA AC 234 (.bu []) [ah (ae b),aa x.1] a λ
 x a=>ak a (c (some ⟨b,0,none⟩,0,()))))):=by kernel_rfl
theorem LM (p:Option AE) (f pg lv:Int) (w:A2) (c:(Bool×Int×Bool×Int×Unit)->A2->Prop):(bO N2 (λ_=>[]) 254 [ah p,aa f,aa pg,aa lv] w c)=(
 aH w ⟨[.bool false,aa 0,.bool false,aa 0]⟩ 305 λb a=>bh p 0 a λx=>bD x 0 a λx=>True/\(x.1.isSome=true/\0<=c9 f pg lv/\c9 f pg lv<(↑x.2.1:Int))/\ag a none (ad x.1 ((c9 f pg lv).toNat*1)) gZ λ(x:Int)=>U (B x)=x/\aH a ⟨[.bool false,aa 0,.bool false,aa 0]⟩ 305 λd a=>aw a (ae d) [.bool (vo (B x).toNat),aa (vp (B x).toNat),.bool (wk (B x).toNat),aa (tr (B x).toNat)] λa=>ag a none (ae d) fp λ(x:Bool×Int×Bool×Int×Unit)=>aw a (ae b) [.bool x.1,
 aa x.2.1,.bool x.2.2.1,aa x.2.2.2.1] λa=>ak a λw1=>ag w1 none (ae b) fp λ(x:Bool×Int×Bool×Int×Unit)=>c (x.1,x.2.1,x.2.2.1,x.2.2.2.1,()) w1):=by kernel_rfl
theorem Ve (p:Option AE) (i:Int) (ep:Bool) (er:Int) (el:Bool) (ef:Int) (w:A2) (c:Unit->A2->Prop):(aL N2 (λ_=>[]) 240 [ah p,aa i,.agg ⟨[.bool ep,aa er,.bool el,aa ef]⟩] w c)=(
 aH w ⟨[.bool ep,aa er,.bool el,aa ef]⟩ 305 λb a=>ag a none (ae b) fp λ(x:Bool×Int×Bool×Int×Unit)=>True/\bh p 0 a λd=>aA AC 154 aT [ah d,aa i,av (xU x.1 x.2.1 x.2.2.1 x.2.2.2.1)] a λ(x:Int) a=>ak a (c ())):=by kernel_rfl
def xh:Nat->aW:=(λ|3=>[(5,Go.RX.El.one Go.RX.Sc.slice),(6,Go.RX.El.one (Go.RX.Sc.int AT))]| _=>[])
theorem Vf (p:Option AE) (pg:Int) (w:A2) (c:Option AE×Nat×Nat->A2->Prop):(aL N2 xh 239 [ah p,aa pg] w c)=(
 dw p 3 w λx=>aH w ⟨[aa x]⟩ 3 λb a=> ∃(I:Nat->(Option AE×Nat×Nat)×Int×Unit->A2->Prop),(∃n, ∀w1,Ext a w1->I n ((some ⟨b,0,none⟩,1,1),3,()) w1)/\ ∀(n:Nat) (s:(Option AE×Nat×Nat)×Int×Unit) (w1:A2),I n s w1->aD (decide (s.2.1>0)) ((s.1.1.isSome=true/\0<=aR .i64 (↑s.1.2.1:Int) 1/\aR .i64 (↑s.1.2.1:Int) 1<(↑s.1.2.1:Int))/\ag w1 none (ad s.1.1 ((aR .i64 (↑s.1.2.1:Int) 1).toNat*1)) aq λ(x:Int)=>aA AC 254 (.el fp) [ah p,aa x,aa pg,aa s.2.1] w1
 λ(x:Bool×Int×Bool×Int×Unit) a=>aH a ⟨[.bool false,aa 0,.bool false,aa 0]⟩ 305 λb a=>aw a (ae b) [.bool x.1,aa x.2.1,.bool x.2.2.1,aa x.2.2.2.1] λa=>ag a none (ae b) fp λ(x:Bool×Int×Bool×Int×Unit)=>True/\aD (!cP x.1 x.2.1 x.2.2.1 x.2.2.2.1) (ak a (c (s.1.1,s.1.2.1,s.1.2.2))) (true=true/\aN a (ad (ae b) 3) λx=>aH a ⟨[aa x]⟩ 3 λb a=> ∀w1,Ext a w1->nm w1 3 1 8 ⟨[aa 0]⟩ (s.1.1,s.1.2.1,s.1.2.2) (some ⟨b,0,none⟩,1,1) λ(r:Option AE×Nat×Nat) a=>
 ∀d,Ext a d-> ∃(e:Nat),e<n/\I e ((r.1,r.2.1,r.2.2),aR .i64 s.2.1 1,()) d)) (ak w1 (c (s.1.1,s.1.2.1,s.1.2.2)))):=by kernel_rfl
theorem Rz (p:Option AE) (pg:Int) (w:A2) (e:(Bool×Int×Bool×Int×Unit)×Int×Unit->A2->Prop):(bO N2 (λ_=>[]) 169 [ah p,aa pg] w e)=(
 aH w ⟨[.bool false,aa 0,.bool false,aa 0]⟩ 305 λb a=>aA AC 239 di [ah p,aa pg] a λx a=>(x.1.isSome=true/\0<=aR .i64 (↑x.2.1:Int) 1/\aR .i64 (↑x.2.1:Int) 1<(↑x.2.1:Int))/\ag a none (ad x.1 ((aR .i64 (↑x.2.1:Int) 1).toNat*1)) aq λ(f:Int)=>aA AC 254 (.el fp) [ah p,aa f,aa pg,aa (aR .i64 4 (↑x.2.1:Int))] a λ(c:Bool×Int×Bool×Int×Unit) a=>aw a (ae b) [.bool c.1,aa c.2.1,.bool c.2.2.1,aa c.2.2.2.1] λa=>
 ak a λw1=>ag w1 none (ae b) fp λ(d:Bool×Int×Bool×Int×Unit)=>e ((d.1,d.2.1,d.2.2.1,d.2.2.2.1,()),aR .i64 4 (↑x.2.1:Int),()) w1):=by kernel_rfl
theorem LN (p:Option AE) (pg:Int) (w:A2) (c:Int×Int×Int×Unit->A2->Prop):(aL N2 (λ_=>[]) 84 [ah p,aa pg] w c)=(
 tA p 4 w λx=>aD x (ak w (c (0,0,6,()))) (aD (decide (pg<0)||decide (pg>65535)) (ak w (c (0,0,2,()))) (aA AC 169 (.bu [.agg [.bool,aG,.bool,aG],aq]) [ah p,aa pg] w λ(x:(Bool×Int×Bool×Int×Unit)×Int×Unit) a=>aH a ⟨[.bool false,aa 0,.bool false,aa 0]⟩ 305 λb a=>aw a (ae b) [.bool x.1.1,aa x.1.2.1,.bool x.1.2.2.1,aa x.1.2.2.2.1] λa=>true=true/\jc a (ad (ae b) 0) λe=>aD (!e) (ak a (c (0,0,4,()))) (aD
 (x.2.1==1) (true=true/\aN a (ad (ae b) 3) λx=>true=true/\aN a (ad (ae b) 1) λd=>ak a (c (ay .i64 x (gj pg 16),d,0,()))) (true=true/\aN a (ad (ae b) 3) λx=>true=true/\aN a (ad (ae b) 1) λd=>ak a (c (x,d,0,()))))))):=by kernel_rfl
def xi:Nat->aW:=(λ|14=>[(10,Go.RX.El.one (Go.RX.Sc.int AT))]| _=>[])
abbrev Ao (a:Option AE×Nat×Nat):Prop:=
 a.1.isSome=true/\0<=aR .i64 (↑a.2.1:Int) 1/\aR .i64 (↑a.2.1:Int) 1<(↑a.2.1:Int)
theorem Vg (p:Option AE) (pg lv:Int) (ep:Bool) (er:Int) (el:Bool) (ef:Int) (w:A2) (c:Int->A2->Prop):(aL N2 xi 245 [ah p,aa pg,aa lv,.agg ⟨[.bool ep,aa er,.bool el,aa ef]⟩] w c)=(
 aH w ⟨[.bool ep,aa er,.bool el,aa ef]⟩ 305 λb a=>tA p 4 a λx=>aD x (ak a (c 6)) (((!(decide (pg<0)||decide (pg>65535)))=true->true=true)/\ag a (some !(decide (pg<0)||decide (pg>65535))) (ad (ae b) 3) aq λ(x:Int)=>((!(decide (pg<0)||decide (pg>65535)||decide (x<0)))=true->true=true)/\ag a (some !(decide (pg<0)||decide (pg>65535)||decide (x<0))) (ad (ae b) 3) aq λ(j:Int)=>aD (decide (pg<0)||decide (pg>65535)||decide (x<0)||decide (j>4095)) (ak a (c 2)) (true=
 true/\aN a (ad (ae b) 1) λx=>((!decide (x<1))=true->true=true)/\ag a (some !decide (x<1)) (ad (ae b) 1) aq λ(k:Int)=>aD (decide (x<1)||decide (k>7)) (ak a (c 7)) (true=true/\jc a (ad (ae b) 2) λx=>((x&& !gj pg 16 != 0)=true->true=true)/\ag a (some (x&& !gj pg 16 != 0)) (ad (ae b) 3) aq λ(l:Int)=>aD (x&&(gj pg 16 != 0||gj l 16 != 0)) (ak a (c 8)) (aA AC 169 (.bu [.agg [.bool,aG,.bool,aG],aq]) [ah p,aa pg] a λ(x:(Bool×Int×
 Bool×Int×Unit)×Int×Unit) a=>aH a ⟨[.bool false,aa 0,.bool false,aa 0]⟩ 305 λe a=>aw a (ae e) [.bool x.1.1,aa x.1.2.1,.bool x.1.2.2.1,aa x.1.2.2.2.1] λa=>true=true/\jc a (ad (ae e) 0) λm=>aD (m||decide (x.2.1<lv)) (ak a (c 5)) (bh p 1 a λo=> ∃(f:Int),ai AC 309 [ah o,aa 0] a (aa f)/\aD (decide (f<aR .i64 x.2.1 lv)) (ak a (c 12)) (∃(I:Nat->Int×Unit->A2->Prop),(∃n, ∀w1,Ext a w1->I n (x.2.1,()) w1)/\ ∀(n:Nat) (s:
 Int×Unit) (w1:A2),I n s w1->aD (decide (s.1>lv)) (aA AC 239 di [ah p,aa pg] w1 λx a=>bh p 1 a λd=>dw p 2 a λq=>aA AC 233 (.bu [aq,aq]) [ah d,aa 3,aa q] a λ(g:Int×Int×Unit) a=>aA AC 234 (.bu []) [ah p,aa g.1] a λr a=>Ao x/\ag a none (ad x.1 ((aR .i64 (↑x.2.1:Int) 1).toNat*1)) aq λ(x:Int)=>True/\aA AC 240 (.bu []) [ah p,aa (c9 x pg s.1),.agg ⟨[.bool true,.int
 .i64 0,.bool false,aa g.1]⟩] a λx a=> ∀h,Ext a h-> ∃(i:Nat),i<n/\I i (aR .i64 s.1 1,()) h) (aA AC 239 di [ah p,aa pg] w1 λx a=>Ao x/\ag a none (ad x.1 ((aR .i64 (↑x.2.1:Int) 1).toNat*1)) aq λ(x:Int)=>True/\ag a none (ae b) fp λ(d:Bool×Int×Bool×Int×Unit)=>aA AC 240 (.bu []) [ah p,aa (c9 x pg lv),.agg ⟨[.bool d.1,aa d.2.1,.bool d.2.2.1,aa d.2.2.2.1]⟩] a λx a=>ak a (c 0))))))))):=by kernel_rfl
theorem Vh (p:Option AE) (pg f r:Int) (w:A2) (a:Int->A2->Prop):(aL N2 (λ_=>[]) 158 [ah p,aa pg,aa f,aa r] w a)=(
 aA AC 245 aT [ah p,aa pg,aa 0,.agg ⟨[.bool true,aa r,.bool false,aa f]⟩] w λ(x:Int) b=>ak b (a x)):=by kernel_rfl
def sv:Nat->aW:=(λ|8=>[(9,Go.RX.El.one (Go.RX.Sc.int AT))]| _=>[])
theorem LO (p:Option AE) (pg:Int) (w:A2) (d:Int->A2->Prop):(aL N2 sv 238 [ah p,aa pg] w d)=(
 aA AC 169 (.bu [.agg [.bool,aG,.bool,aG],aq]) [ah p,aa pg] w λ(x:(Bool×Int×Bool×Int×Unit)×Int×Unit) a=>aH a ⟨[.bool false,aa 0,.bool false,aa 0]⟩ 305 λb a=>aw a (ae b) [.bool x.1.1,aa x.1.2.1,.bool x.1.2.2.1,aa x.1.2.2.2.1] λa=>aD (x.2.1==0) (ak a (d 0)) (bh p 1 a λx=>dw p 2 a λh=>aA AC 233 (.bu [aq,aq]) [ah x,aa 3,aa h] a λ(x:Int×Int×Unit) a=>aD (x.2.1 != 0) (ak a
 (d x.2.1)) (∃(I:Nat->Int×Unit->A2->Prop),(∃n, ∀w1,Ext a w1->I n (0,()) w1)/\ ∀(n:Nat) (s:Int×Unit) (w1:A2),I n s w1->aD (decide (s.1<16)) (true=true/\aN w1 (ad (ae b) 1) λc=>true=true/\aN w1 (ad (ae b) 3) λe=>aA AC 240 (.bu []) [ah p,aa (ay .i64 (dk .i64 16 x.1) s.1),.agg ⟨[.bool true,aa c,.bool false,aa (ay .i64 e s.1)]⟩] w1 λx a=> ∀f,Ext a f-> ∃(g:Nat),g<n/\I g (ay .i64 s.1 1,()) f) (aA AC 239 di [ah p,.int .i64
 pg] w1 λc a=>(c.1.isSome=true/\0<=aR .i64 (↑c.2.1:Int) 1/\aR .i64 (↑c.2.1:Int) 1<(↑c.2.1:Int))/\ag a none (ad c.1 ((aR .i64 (↑c.2.1:Int) 1).toNat*1)) aq λ(e:Int)=>True/\aA AC 240 (.bu []) [ah p,aa (c9 e pg 1),.agg ⟨[.bool true,aa 0,.bool false,aa x.1]⟩] a λx a=>ak a (d 0))))):=by kernel_rfl
def sw:Nat->aW:=(λ|2=>[(5,Go.RX.El.one (Go.RX.Sc.int AT))]| _=>[])
theorem LP (p:Option AE) (f:Int) (w:A2) (a:Bool->A2->Prop):(aL N2 sw 242 [ah p,aa f] w a)=(
 ∃(I:Nat->Int×Unit->A2->Prop),(∃n, ∀w1,Ext w w1->I n (0,()) w1)/\ ∀(n:Nat) (s:Int×Unit) (w1:A2),I n s w1->aD (decide (s.1<16)) (bh p 0 w1 λx=>bD x 0 w1 λx=>(x.1.isSome=true/\0<=ay .i64 (dk .i64 16 f) s.1/\ay .i64 (dk .i64 16 f) s.1<(↑x.2.1:Int))/\ag w1 none (ad x.1 ((ay .i64 (dk .i64 16 f) s.1).toNat*1)) gZ λ(x:Int)=>aD (x != 0) (ak w1 (a false)) (∀b,Ext w1 b-> ∃(c:Nat),c<n/\I c (ay .i64 s.1 1,()) b)) (ak w1 (a true))):=by kernel_rfl
def sx:Nat->aW:=(λ|10=>[(11,Go.RX.El.one (Go.RX.Sc.int AT))]| _=>[])
theorem LQ (p:Option AE) (pg:Int) (w:A2) (c:Int×Int×Unit->A2->Prop):(aL N2 sx 151 [ah p,aa pg] w c)=(
 aA AC 84 (.bu [aq,aq,aq]) [ah p,aa pg] w λ(x:Int×Int×Int×Unit) a=>aD (x.2.2.1 != 0) (ak a (c (0,x.2.2.1,()))) (aA AC 238 aT [ah p,aa pg] a λ(d:Int) a=>aD (d != 0) (ak a (c (0,d,()))) (aA AC 239 di [ah p,aa pg] a λb a=>bh p 0 a λh=>(b.1.isSome=true/\(0:Int)<=3/\3<(↑b.2.1:Int))/\aN a (ad b.1 3) λi=>True/\aA AC 154 aT [ah h,aa (c9
 i pg 0),av 0] a λ(m:Int) a=> ∃(I:Nat->Int×Unit->A2->Prop),(∃n, ∀w1,Ext a w1->I n (3,()) w1)/\ ∀(n:Nat) (s:Int×Unit) (w1:A2),I n s w1->(decide (s.1>0)=true->b.1.isSome=true/\0<=s.1/\s.1<(↑b.2.1:Int))/\ag w1 (some (decide (s.1>0))) (ad b.1 (AG s.1*1)) aq λ(j:Int)=> ∃e,(decide (s.1>0)=true->ai AC 242 [ah p,aa j] w1 (.bool e))/\aD (decide (s.1>0)&&e) (bh p 0 w1 λx=>(b.1.isSome=true/\0<=aR .i64 s.1 1/\aR .i64 s.1 1<(↑b.2.1:
 Int))/\ag w1 none (ad b.1 ((aR .i64 s.1 1).toNat*1)) aq λ(k:Int)=>True/\aA AC 154 aT [ah x,aa (c9 k pg (aR .i64 4 s.1)),av 0] w1 λ(x:Int) a=>bh p 1 a λx=>(b.1.isSome=true/\0<=s.1/\s.1<(↑b.2.1:Int))/\aN a (ad b.1 (AG s.1*1)) λl=>aA AC 147 aT [ah x,aa l,aa 5,aa 0] a λ(x:Int) a=> ∀f,Ext a f-> ∃(g:Nat),g<n/\I g (aR .i64 s.1 1,()) f) (ak w1 (c (x.1,0,())))))):=by kernel_rfl
abbrev xj (p:Option AE) (pg:Int) (r:Int) (b:Int->A2->Prop) (c:A2) (d:Int×Int×Int×Unit):Prop:=
 aA AC 238 aT [ah p,aa pg] c λ(x:Int) a=>aD (x != 0) (ak a (b x)) (aA AC 239 di [ah p,aa pg] a λx a=>(x.1.isSome=true/\(0:Int)<=3/\3<(↑x.2.1:Int))/\aN a (ad x.1 3) λx=>True/\aA AC 240 (.bu []) [ah p,aa (c9 x pg 0),.agg ⟨[.bool true,aa r,.bool false,aa d.1]⟩] a λx a=>ak a (b 0))
theorem RA (p:Option AE) (pg r:Int) (w:A2) (c:Int->A2->Prop):(aL N2 (λ_=>[]) 150 [ah p,aa pg,aa r] w c)=(
 tA p 4 w λx=>aD x (ak w (c 6)) (aD (decide (pg<0)||decide (pg>65535)) (ak w (c 2)) (aD (decide (r<1)||decide (r>7)) (ak w (c 7)) (aA AC 84 (.bu [aq,aq,aq]) [ah p,aa pg] w λ(x:Int×Int×Int×Unit) a=>aD (x.2.2.1 != 0) (ak a (c x.2.2.1)) (aD (x.2.1==r) (aA AC 169 (.bu [.agg [.bool,aG,.bool,aG],aq]) [ah p,aa pg] a λ(d:(Bool×Int×Bool×Int×Unit)×Int×Unit) a=>aH a ⟨[.bool false,aa 0,.bool false,
 aa 0]⟩ 305 λb a=>aw a (ae b) [.bool d.1.1,aa d.1.2.1,.bool d.1.2.2.1,aa d.1.2.2.2.1] λa=>aD (d.2.1==1) (ak a (c 0)) (xj p pg r c a x)) (xj p pg r c a x)))))):=by kernel_rfl
def nH:Nat->aW:=(λ|3=>[(7,Go.RX.El.one Go.RX.Sc.slice),(8,Go.RX.El.one (Go.RX.Sc.int AT))]| _=>[])
theorem BY (p:Option AE) (f lv:Int) (w:A2) (e:Option AE×Nat×Nat->A2->Prop):(aL N2 nH 303 [ah p,aa f,aa lv] w e)=(
 aH w ⟨[aa f]⟩ 3 λb a=> ∃(I:Nat->(Option AE×Nat×Nat)×Int×Unit->A2->Prop),(∃n, ∀w1,Ext a w1->I n ((some ⟨b,0,none⟩,1,1),0,()) w1)/\ ∀(n:Nat) (s:(Option AE×Nat×Nat)×Int×Unit) (w1:A2),I n s w1->aD (decide (s.2.1<16)&&decide (lv>0)) (bh p 0 w1 λx=>bD x 0 w1 λx=>(x.1.isSome=true/\0<=ay .i64 (dk .i64 16 f) s.2.1/\ay .i64 (dk .i64 16 f) s.2.1<(↑x.2.1:Int))/\ag w1 none (ad x.1 ((ay .i64 (dk .i64 16 f) s.2.1).toNat*1)) gZ λ(x:Int)=>U (B x)=x/\aH w1 ⟨[.bool false,.int
 .i64 0,.bool false,aa 0]⟩ 305 λb a=>aw a (ae b) [.bool (vo (B x).toNat),aa (vp (B x).toNat),.bool (wk (B x).toNat),aa (tr (B x).toNat)] λa=>ag a none (ae b) fp λ(x:Bool×Int×Bool×Int×Unit)=>True/\aD (cP x.1 x.2.1 x.2.2.1 x.2.2.2.1) (true=true/\aN a (ad (ae b) 3) λx=>aA AC 303 di [ah p,aa x,aa (aR .i64 lv 1)] a λx a=> ∀w1,Ext a w1->nm w1 3 1 8 ⟨[aa 0]⟩ (s.1.1,s.1.2.1,s.1.2.2) (x.1,x.2.1,x.2.2) λ(r:Option AE×Nat×Nat) a=> ∀c,Ext a c->
 ∃(d:Nat),d<n/\I d ((r.1,r.2.1,r.2.2),ay .i64 s.2.1 1,()) c) (∀c,Ext a c-> ∃(d:Nat),d<n/\I d ((s.1.1,s.1.2.1,s.1.2.2),ay .i64 s.2.1 1,()) c)) (ak w1 (e (s.1.1,s.1.2.1,s.1.2.2)))):=by kernel_rfl
def xm:Nat->aW:=(λ|6=>[(3,Go.RX.El.one Go.RX.Sc.slice),(5,Go.RX.El.one (Go.RX.Sc.int AT))]|9=>[(3,Go.RX.El.one Go.RX.Sc.slice),(6,Go.RX.El.one (Go.RX.Sc.int AT))]| _=>[])
theorem Vi (p:Option AE) (w:A2) (g:Option AE×Nat×Nat->A2->Prop):(aL N2 xm 235 [ah p] w g)=(
 tA p 4 w λx=>aD x (ak w (g (none,0,0))) (dw p 3 w λx=>aA AC 303 di [ah p,aa x,aa 3] w λx e=> ∃(I:Nat->(Option AE×Nat×Nat)×Int×Unit->A2->Prop),(∃n, ∀w1,Ext e w1->I n ((none,0,0),0,()) w1)/\ ∀(n:Nat) (s:(Option AE×Nat×Nat)×Int×Unit) (w1:A2),I n s w1->bh p 1 w1 λj=>bD j 0 w1 λk=>aD (decide (s.2.1<(↑k.2.1:Int))) (∃(f:Nat->(Option AE×Nat×Nat)×Int×Unit->A2->Prop),(∃n, ∀i,Ext w1 i->f n ((s.1.1,s.1.2.1,s.1.2.2),0,
 ()) i)/\ ∀(h:Nat) (a:(Option AE×Nat×Nat)×Int×Unit) (w1:A2),f h a w1->aD (decide (a.2.1<(↑x.2.1:Int))) ((x.1.isSome=true/\0<=a.2.1/\a.2.1<(↑x.2.1:Int))/\aN w1 (ad x.1 (AG a.2.1*1)) λx=>aD (x==s.2.1) (aH w1 ⟨[aa s.2.1]⟩ 3 λb e=> ∀w1,Ext e w1->nm w1 3 1 8 ⟨[aa 0]⟩ (a.1.1,a.1.2.1,a.1.2.2) (some ⟨b,0,none⟩,1,1) λ(r:Option AE×Nat×Nat) e=> ∀c,Ext e c-> ∃(d:Nat),d<h/\f d ((r.1,r.2.1,r.2.2),ay .i64 a.2.1 1,()) c) (∀c,Ext w1 c-> ∃
 (d:Nat),d<h/\f d ((a.1.1,a.1.2.1,a.1.2.2),ay .i64 a.2.1 1,()) c)) (∀c,Ext w1 c-> ∃(d:Nat),d<n/\I d ((a.1.1,a.1.2.1,a.1.2.2),ay .i64 s.2.1 1,()) c)) (ak w1 (g (s.1.1,s.1.2.1,s.1.2.2))))):=by kernel_rfl
def vd:Nat->aW:=(λ|3=>[(4,Go.RX.El.one (Go.RX.Sc.int AT))]| _=>[])
theorem RB (p:Option AE) (w:A2) (b:Option AE×Nat×Nat->A2->Prop):(aL N2 vd 146 [ah p] w b)=(
 aA AC 235 di [ah p] w λx a=> ∃(I:Nat->Int×Unit->A2->Prop),(∃n, ∀w1,Ext a w1->I n (0,()) w1)/\ ∀(n:Nat) (s:Int×Unit) (w1:A2),I n s w1->aD (decide (s.1<(↑x.2.1:Int))) (bh p 1 w1 λe=>(x.1.isSome=true/\0<=s.1/\s.1<(↑x.2.1:Int))/\aN w1 (ad x.1 (AG s.1*1)) λx=>aA AC 147 aT [ah e,aa x,aa 5,aa 0] w1 λ(x:Int) a=> ∀c,Ext a c-> ∃(d:Nat),d<n/\I d (ay .i64 s.1 1,()) c) (p.isSome=true/\p.isSome=true/\aw w1 (ad
 p 4) [.bool true] λa=>ak a (b (x.1,x.2.1,x.2.2)))):=by kernel_rfl
theorem RC (p:Option AE) (w:A2) (a:Int->A2->Prop):(aL N2 (λ_=>[]) 82 [ah p] w a)=(
 tA p 4 w λx=>aD x (ak w (a (-1))) (dw p 3 w λx=>ak w (a x))):=by kernel_rfl
open Go.RX D
section
variable {Q:Sys} {D G:List Nat} {w0 w:A2} {s:WD} {L0:List (Nat×List AR)} {bt:Nat} {o r:Int} {gone:Bool}
namespace aF
theorem vO (S:aF Q D G w0 w s L0) (i v:Int) (hv:0<=v/\v<18446744073709551616) {K:Int->A2->Prop} (k: ∀a,aF Q D G w0 a (fm s.1 i v,s.2) L0->K (vy s.1 i) a):
 aA AC 154 aT [ah (ae Q.bm),aa i,av v] w K:=by
 have ⟨b,h2,d,e,ca,la,H⟩:=S;refine JY H 0 1 rfl rfl (by decide) rfl i v λa H=>k a ⟨?_,h2,d,N9 e i v hv,pM s.1 i ca,pM s.1 i la,?_⟩
 .show 0<(fm s.1 i v).length;rw[cL];exact b
 .unfold Sys.L;show aJ D G w0 a ((Q.bm,gi Q.bw (fm s.1 i v).length Q.c _ _):: _);rw[cL];exact H
theorem Ia (S:aF Q D G w0 w s L0) (y o:Int) {K:Int×Int×Unit->A2->Prop} (k: ∀a,aF Q D G w0 a (s.1,cX s.2 y o) L0->K (dV s.2 y o,cJ s.2 y o,()) a):
 aA AC 233 (.bu [aq,aq]) [ah (ae Q.bp),aa y,aa o] w K:=by
 have ⟨c,h2,b,d,ca,la,H⟩:=S;refine QJ H 3 2 rfl rfl (by decide) rfl h2 b y o λa H=>k a ⟨c,?_,?_,d,ca,la,?_⟩
 .show 0<(cX s.2 y o).length;rw[lW];exact h2
 .show(cX s.2 y o).length<=4096;rw[lW];exact b
 .unfold Sys.L;show aJ D G w0 a (_:: _:: _::(Q.bp,[.slice _ (cX s.2 y o).length _]):: _);rw[lW];exact H
theorem Ib (S:aF Q D G w0 w s L0) (f y o:Int) {K:Int->A2->Prop} (k: ∀a,aF Q D G w0 a (s.1,eC s.2 f (aI y o)) L0->K (oY s.2 f (aI y o)) a):
 aA AC 147 aT [ah (ae Q.bp),aa f,aa y,aa o] w K:=by
 have ⟨c,h2,b,d,ca,la,H⟩:=S;refine QG H 3 2 rfl rfl (by decide) rfl h2 b f y o λa H=>k a ⟨c,?_,?_,d,ca,la,?_⟩
 .show 0<(eC s.2 f (aI y o)).length;rw[dY];exact h2
 .show(eC s.2 f (aI y o)).length<=4096;rw[dY];exact b
 .unfold Sys.L;show aJ D G w0 a (_:: _:: _::(Q.bp,[.slice _ (eC s.2 f (aI y o)).length _]):: _);rw[dY];exact H
theorem acx (S:aF Q D G w0 w s L0) (v:Int):ai AC 309 [ah (ae Q.bp),aa v] w (aa (cB s.2 v:Nat)):=by
 have ⟨b,h2,a,c,ca,la,H⟩:=S;exact QK H 3 2 rfl rfl rfl a v
theorem Wf (S:aF Q D G w0 w s L0) (k0:Nat) (b:L0[k0]? =some (bt,iV Q o r gone)) (f:Int) (l:0<=f/\f<=4096) {K:Unit->A2->Prop} (k: ∀a,aF Q D G w0 a (dz s.1 f (λ_=>0) 16,s.2) L0->K () a):
 aA AC 234 (.bu []) [ah (ae bt),aa f] w K:=by
 refine S.go λw1 S=>aj (C:=N2) (b_:=vc) (B1 (Ry _ f w1 K) ?_);refine⟨λn v w'=> ∃m:Nat,n=16 - m/\m<=16/\v.1=(m:Int)/\aF Q D G w0 w' (dz s.1 f (λ_=>0) m,s.2) L0,⟨16,λd h=>⟨0,rfl,by omega,rfl,S.ext h⟩⟩,?_⟩;rintro n ⟨v,u⟩ d ⟨m,rfl,p,e,S⟩;dsimp only at e ⊢;subst e;refine ab (λc=>⟨rfl,rfl,S.a_ k0 b rfl ?_⟩) (λc=>S.en λg S=>k g ?_)
 .have c:m<16:=by simp at c;omega
  have i:ay .i64 (dk .i64 16 f) (m:Int)=16*f+(m:Int):=by
   rw[da (by omega) (by omega),ao (by omega) (by omega)]
  rw[i];refine S.vO _ 0 ⟨by decide,by decide⟩ λq S=>λt j=>⟨16 - (m+1),by omega,m+1,rfl,by omega,?_,S.ext j⟩;rw[ao (by omega) (by omega)];omega
 .have c: ¬ m<16:=by simp at c;omega
  have:m=16:=by omega
  subst this;exact S
theorem MR (S:aF Q D G w0 w s L0) (o:Int) {K:Option AE×Int×Unit->A2->Prop}
 (f: ¬ oZ s o=0-> ∀b a,aF Q D G w0 a (g8 s o λ_=>0) ((b,iV Q o 0 false)::L0)->K (some ⟨b,0,none⟩,oZ s o,()) a)
 (g:oZ s o=0-> ∀b a,aF Q D G w0 a (g8 s o λ_=>0) ((b,iV Q o (fb s o) false)::L0)->K (some ⟨b,0,none⟩,0,()) a) (h: ¬ (s.1.length:Int)<16*(s.2.length:Int)):
 aA AC 142 (.bu [bF,aq]) [ah (ae Q.bm),ah (ae Q.bp),aa o] w K:=by
 refine S.go λw1 S=>aj (C:=N2) (B1 (Vd _ _ o w1 K) ?_);have m:=S.pos;have h2:=S.yF;have n:=S.le;have i:=ri s.2 3 o S.yF;have j:dk .i64 16 ((s.2.length:Nat):Int)=16*(s.2.length:Int):=da (by omega) (by omega);refine S.al λb a S=>⟨rfl,rfl,?_⟩;have ⟨ca,la,k⟩:=S.mem;refine ag.of (some ⟨Q.bw,0,none⟩,s.1.length,Q.c) (by rw[aS];exact k.mF rfl) ⟨rfl,rfl,ag.of (some ⟨Q.bf,0,none⟩,s.2.length,Q.cp) (by rw[aS];exact S.aal.mF rfl) ?_⟩;dsimp only;rw[j];refine an (by simpa using h) (S.Ia 3 o λp S=>ab (λd=>S.en λe S=>?_) (λd=>⟨rfl,rfl,S.oB 0 rfl rfl rfl λe S=>S.Wf 0 rfl _ ⟨i.1,by omega⟩ λq S=>S.en λl S=>?_⟩))
 .have d: ¬ cJ s.2 3 o=0:=by simpa using d
  have d: ¬ oZ s o=0:=d;refine f d b e ?_;unfold g8;rw[ar d];exact S
 .have d:cJ s.2 3 o=0:=by simpa using d
  have d:oZ s o=0:=d;refine g d b l ?_;unfold g8;rw[az d];exact S
end aF
end
end Go.Proofs.YteeflilbnoknnaaGreat
