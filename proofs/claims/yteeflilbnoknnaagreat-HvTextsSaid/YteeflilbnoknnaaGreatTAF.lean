import Derived.Test.YteeflilbnoknnaaGreatTAE
/-! What the statement leans on: texts joined and shortened by a program of mine. -/
set_option linter.unusedVariables false
set_option linter.unusedSimpArgs false
open Go.Proofs.Tryz renaming prog->A1
open Go renaming World->A2,Value->A3,Addr->AX
open List renaming range->A9,mem_cons_self->A_,getElem?_eq_some_iff->AC,getElem?_eq_getElem->B1,getElem?_set_ne->B2,mem_map->B3,mem_cons_of_mem->B5,replicate->BA,mem_of_getElem?->Bb,getElem?_set_self->Bc,length_set->Bo,mem_append_left->Bq,append_nil->C7,length_append->DA,mem_append->DB,mem_append_right->DS,count_append->Di,length_cons->Dn,length_replicate->Do,mem_cons->EF,getElem?_append_left->EH,length_singleton->Eo,count_cons->Es,eq_of_mem_replicate->Ev,getElem_mem->Ey,map_append->FS,nodup_append->GS,not_mem_nil->Gi,nil_sublist->H2,mem_range->H9,set_append_left->HB,foldl_append->HH,mem_singleton->HL,take_length->HO,take_add_one->HP,length_take->HQ,getElem?_take_of_lt->HT,append_assoc->Hb,length_drop->Hc,sublist_cons_self->Hf
open Classical renaming byContradiction->B4
open Eq renaming mpr->Bd
open UInt8 renaming ofNat->Bg,toNat_inj->Ho
open Int renaming toNat_natCast->Bp,toNat->Et,tmod_eq_emod_of_nonneg->Hq
open Nat renaming le_refl->Br,le_trans->H4,strongRecOn->H5,eq_zero_or_pos->Hr,le_add_left->Ht
open Int.ofNat renaming inj->E4
open Bool renaming and_eq_true->E5,not_eq_true'->Hu,or_eq_false_iff->Hz
open Go.IntKind renaming bits->EA,signed->EB,i64->ED,u64->H6,wrap->H7,min->I1,max->I2
open Go.Value renaming slice->EE
namespace Go.Proofs.YteeflilbnoknnaaGreat
set_option maxRecDepth 100000
open Go.RX D
section
variable {gh:Gh} {h:HS}
theorem hH {gh:Gh} {s s':WD} (I:Inv gh s) (g:s'.1.length=s.1.length/\s'.2.length=s.2.length)
 (j: ∀b:Int,dB s'.1 b≠dB s.1 b-> ∃(n:Nat) (d:DT),s.2[n]? =some d/\d.1≠3/\16*(n:Int)<=b/\b<16*(n:Int)+16)
 (i: ∀{n:Nat} {d d':DT},s.2[n]? =some d->s'.2[n]? =some d'->(d'=d\/(d.1≠3/\d'.1≠3/\(d'.1=0->d'=zD)))):Inv.fc gh s s' where
 len:=g
 ws:=λ{f o x k l} m h0 w=>by
  refine B4 λp=>?_;obtain⟨n,d,q,r,y,z⟩:=j _ p;have t:=I.kd m;have e:f.toNat=n:=by omega
  have a:=t.2.2.1;rw[e,q] at a;cases a;exact r rfl
 tb:=λ{n d} h a=>by
  have c:n<s'.2.length:=by rw[g.2];exact(AC.1 h).1
  have h':s'.2[n]? =some s'.2[n]:=B1 c;rcases i h h' with e|⟨e, _⟩
  ·rw[h',e]
  ·exact absurd a e
 bt:=λ{n d} h a=>by
  have c:n<s.2.length:=by rw[<-g.2];exact(AC.1 h).1
  have h':s.2[n]? =some s.2[n]:=B1 c;rcases i h' h with e|⟨_,e, _⟩
  ·rw[h',e]
  ·exact absurd a e
 fz:=λd u h0=>by
  obtain⟨n,c⟩:=List.getElem?_of_mem u;have v:n<s.2.length:=by rw[<-g.2];exact(AC.1 c).1
  have h':s.2[n]? =some s.2[n]:=B1 v;rcases i h' c with e|⟨_, _,e⟩
  ·rw[e] at h0 ⊢;exact I.fz _ (Bb h') h0
  ·exact e h0
theorem nb {ds:List DT} {n m:Nat} {d0 d1 d d':DT} (h0:ds[n]? =some d0) (h:ds[m]? =some d) (h':(ds.set n d1)[m]? =some d'):(m=n/\d=d0/\d'=d1)\/(m≠n/\d'=d):=by
 by_cases e:n=m
 ·subst e;rw[Bc (AC.1 h0).1] at h';rw[h0] at h;cases h;cases h';exact .inl ⟨rfl,rfl,rfl⟩
 ·rw[B2 e,h] at h';cases h';exact .inr ⟨λc=>e c.symm,rfl⟩
namespace HI
theorem Ty (H:HI gh h) {i:Nat} {p f:Int} (m:mM h i p=some f): ∃(n:Nat) (d:DT),f=(n:Int)/\h.s.2[n]? =some d/\d.1=4/\1<=d.2.1/\d.2.1<=16/\d=(4,d.2.1,(dE (jA h) (n:Int):Int),0,()):=by
 obtain⟨n,d,o,h2,g⟩:=H.hc.Y5 m;obtain⟨j,q,t,r, _⟩:=H.hc.Mb h2 g;have:=H.hc.ig r;obtain⟨_,k, _⟩:=H.hc.kd h2;have l:=H.hc.refs h2;refine⟨n,d,o.symm,h2,g,by omega,by omega,?_⟩;obtain⟨a,b,c,e,u⟩:=d;dsimp only at g k l;rw[g,k,l]
structure U9 (h h':HS) (v:Nat) (a b:Int) (f:Nat):Prop where
 g:h'.g=h.g
 gr:h'.gr=h.gr
 po:h'.po=h.po
 was:(lN h v a).2.2.1=4
 pg:lN h' v a=((f:Int),b,0,())
 fr:h.s.2[f]? =some zD
 f4:h'.s.2[f]? =some (4,(v:Int),0,0,())
 ef:sx h h' (λi q=>i=v/\q=a) (f:Int)
 zr: ∀k:Int,0<=k->k<16->dB h'.s.1 (16*(f:Int)+k)=0
 ct:cz h.s.2 0<=cz h'.s.2 0+4
theorem R9 (H:HI gh h) {v:Int} (X:aX h.g v=true) {a b:Int} (o:oY h v a b=0): ∃fV f,HI fV (kl h v a b)/\U9 h (kl h v a b) v.toNat a b f/\gF h v=(f:Int)/\ru v gh fV h.s (kl h v a b).s:=by
 obtain⟨x,p,M,hv,Y,Z⟩:=cd X;unfold oY at o;unfold kl;by_cases N:a>=65536
 ·rw[ax N] at o;exact absurd o (by decide)
 rw[ao N] at o ⊢;by_cases O:b<1\/b>7
 ·rw[ax O] at o;exact absurd o (by decide)
 rw[ao O] at o ⊢;by_cases A:dk h.s.2 4 v=0
 case neg=>rw[ax A] at o;exact absurd o A
 rw[ao (λe=>e A)] at o ⊢;obtain⟨n,vq,u,t1,t2,t3⟩:=vi (rj A) H.inv.fz ⟨Y,Z⟩;have P:gF h v=(n:Int):=t1;have r:iU h v=(h.s.1,h.s.2.set n (4,v,0,0,())):=by unfold iU;rw[t3]
 have hM:n7 h v a b=ik (iU h v) v (a6 h.g v) false a (gF h v) b:=rfl;rw[ao (λe=>e o)];rw[hM,P,M];rw[P,M] at o;obtain⟨m,rfl⟩: ∃m:Nat,v=(m:Int):=⟨v.toNat,hv.symm⟩;have p:h.g m=some x:=p;have hlen:=H.sz;have B:Inv.fc gh h.s (iU h (m:Int)):=by
  rw[r];refine hH H.inv ⟨rfl,by rw[Bo]⟩ (λb hb=>absurd rfl hb) λ{i d d'} G h2=>?_;rcases nb u G h2 with ⟨_,e1,D⟩|⟨_,D⟩
  ·exact .inr ⟨by rw[e1];decide,by rw[D];exact(show ¬ (4:Int)=3 by decide),λc=>by rw[D] at c;exact absurd c (show ¬ (4:Int)=0 by decide)⟩
  ·exact .inl D
 have E:=H.inv.beside B;obtain⟨hp,g',C,Q,q2,R, _,⟨f0,j,hE,hc⟩, _⟩:=E.map (H.root p) o;have hj:=(E.kd hE.1).2.2.2.2.2;have hcT:cz (iU h (m:Int)).2 0+1=cz h.s.2 0:=by
  rw[r];have:=s9 (d':=((4:Int),(m:Int),(0:Int),(0:Int),())) u 0;rw[ax (show zD.1=0 from rfl),ao (show ¬ (4:Int)=0 by decide)] at this;exact this
 have sO:mM h m a=none:=by
  rw[cH p, <-H.inv.dz B (H.root p),ao (by rw[R];decide)]
 have VE:HC (kU (mM h) m a (some (n:Int))) (jA h) (iU h (m:Int)).2 h.gr:=by
  rw[r];exact H.hc.BR (by omega) hp u rfl sO
 have Hw:=Kept.hc VE C.kp;have kp:=C.kp;have S:(iU h (m:Int)).1=h.s.1:=rfl;generalize ik (iU h (m:Int)) (m:Int) x.root false a (n:Int) b=l at*
 have ng:=H.uk p (λ{i z} I q=>H.inv.dz B (H.root I) q) E C (y:=some (n:Int)) (by rw[Q,ax rfl]) (h':=bJ h l) rfl (λ_=>rfl);have J:HI g' (bJ h l):=H.base C B.len (Inv.kK B H.nl) rfl (λ_=>rfl) (by rw[ng];exact Hw);have K:l.2[n]? =some (4,(m:Int),0,0,()):=C.kp.ks (by rw[r];exact Bc vq) rfl;have L8:l.2.length=h.s.2.length:=by rw[C.len.2,B.len.2]
 have Hx:l.1.length=h.s.1.length:=by rw[C.len.1,B.len.1]
 have T:(dS l.1 (n:Int) (λ_=>0) 16).length=l.1.length:=fM _ _ _ _;have w: ∀b,dB (dS l.1 (n:Int) (λ_=>0) 16) b=if 16*(n:Int)<=b/\b<16*(n:Int)+16 then 0 else dB l.1 b:=λb=>pA (by omega) (by omega) 16 (Br _) b;generalize dS l.1 (n:Int) (λ_=>0) 16=W at T w ⊢;have U:Inv.fc g' l (W,l.2):=by
  refine hH C.inv ⟨T,rfl⟩ (λb hb=>⟨n, _,K,(show ¬ (4:Int)=3 by decide),?_⟩) λ{i d d'} G h2=>?_
  ·refine B4 λhc=>hb ?_;show dB W b= _;rw[w b,ao hc]
  ·rw[G] at h2;cases h2;exact .inl rfl
 have H3:=J.side (vA:=h.gr) (Hm:=h.po) U J.hc;have V: ∀{i:Nat} {q:Int},lN {s:=(W,l.2),g:=h.g,gr:=h.gr,po:=h.po} i q=lN (bJ h l) i q:=λ{i q}=>by
  cases hi:h.g i with
  |none=>unfold lN;rw[show(bJ h l).g i=none from hi];dsimp only;rw[hi]
  |some z=>rw[bM (h:=bJ h l) hi,bM (h:={s:=(W,l.2),g:=h.g,gr:=h.gr,po:=h.po}) hi];exact C.inv.dz U (J.root hi) q
 refine⟨g',n,H3,⟨rfl,rfl,rfl,?_,?_,u,K,⟨⟨λ{i q} hn=>?_⟩,λ{i d d'} F h4 _ _ cx k k0 L=>?_,KD.trans (t:=iU h (m:Int)) (by rw[r];exact KD.set u (λc=>absurd c (by decide)) (λc=>absurd c (by decide))) (C.kd.trans (.refl rfl))⟩,λk k0 L=>?_,?_⟩,rfl,((ru.kd (by rw[r];exact KD.set u (λc=>absurd c (by decide)) (λc=>absurd c (by decide))) (λ_ _ _ _ _=>by rw[S])).trans C.Tx).trans (ru.kd (.refl rfl) λ{i d} F h5 k k0 L=>?_)⟩
 ·rw[show((m:Int)).toNat=m from rfl,bM p, <-H.inv.dz B (H.root p)];exact R
 ·exact V.trans ((bM (h:=bJ h l) p a).trans Q)
 ·exact V.trans ((H.BS (λ{i z} I q=>H.inv.dz B (H.root I) q) E C (h':=bJ h l) rfl (λ_=>rfl)).to hn)
 ·show dB W _= _;rw[w,ao (by omega)];have v8:(iU h (m:Int)).2[i]? =some d:=by
   rw[r];show(h.s.2.set n _)[i]? = _;rw[B2 (by omega)];exact F
  rw[kp.ws v8 h4 k k0 L,S]
 ·show dB W _= _;rw[w,ax (by omega)]
 ·show _<=cz l.2 0+4;omega
 ·show dB W _= _;have lz:i≠n:=λc=>by
   subst c;rw[K] at F;cases F;exact absurd (show(4:Int)=5 from h5) (by decide)
  rw[w,ao (by omega)]
theorem R_ (H:HI gh h) {v:Int} (j:aX h.g v=true) {a b:Int} (c:oY h v a b≠0):kl h v a b=h:=by
 obtain⟨x,t,u,hv,f,i⟩:=cd j;unfold oY at c;unfold kl;split
 ·rfl
 rename_i k;rw[ao k] at c;split
 ·rfl
 rename_i l;rw[ao l] at c;split
 ·rename_i e;have:iU h v=(h.s.1,h.s.2):=by unfold iU;rw[wZ e]
  rw[this];rfl
 rename_i d;rw[ao d] at c;have d:dk h.s.2 4 v=0:=B4 d;rw[ax c];obtain⟨n,m,o,t1,t2,t3⟩:=vi (rj d) H.inv.fz ⟨f,i⟩;have p:gF h v=(n:Int):=t1;have q:iU h v=(h.s.1,h.s.2.set n (4,v,0,0,())):=by unfold iU;rw[t3]
 have r:n7 h v a b=ik (iU h v) v (a6 h.g v) false a (gF h v) b:=rfl;rw[r,DW c,q,p];have:=t_ (G:=aE 0 0) (show(h.s.2.set n (4,v,0,0,()))[n]? =some (4,v,0,0,()) from Bc m) (GN ⟨f,i⟩);dsimp only;rw[this.1,LJ o];rfl
theorem BR (H:HI gh h) {v:Int} (c:aX h.g v=true) (a b:Int): ∃fV,HI fV (kl h v a b):=by
 by_cases e:oY h v a b=0
 ·obtain⟨g', _,d, _⟩:=H.R9 c e;exact⟨g',d⟩
 ·rw[H.R_ c e];exact⟨gh,H⟩
structure U_ (h h':HS) (v:Nat) (a:Int) (f:Nat):Prop where
 g:h'.g=h.g
 was:(lN h v a).2.2.1=0/\(lN h v a).1=(f:Int)
 pg:lN h' v a=(0,0,4,())
 f5:h'.s.2[f]? =some (5,(v:Int),0,0,())
 ef:sx h h' (λi q=>i=v/\q=a) (-1)
theorem Sa (H:HI gh h) {v:Int} (E:aX h.g v=true) {a:Int} (e:vQ h v a=0): ∃fV f,HI fV (sL h v a)/\U_ h (sL h v a) v.toNat a f/\ru v gh fV h.s (sL h v a).s:=by
 obtain⟨x,l,S,hv,we,vz⟩:=cd E;unfold sL;rw[ax e];obtain⟨m,rfl⟩: ∃m:Nat,v=(m:Int):=⟨v.toNat,hv.symm⟩;have l:h.g m=some x:=l;have T:fj h.g h.s (m:Int) a=a_ h.s x.root false a:=by
  unfold fj;rw[ax E];show(match h.g m with|some x=> _|none=> _)= _;rw[l]
 unfold vQ at e;rw[T] at e ⊢;rw[S];split at e
 ·exact absurd e (by decide)
 split at e
 ·rename_i c;exact absurd e c
 rename_i t;have t:(a_ h.s x.root false a).2.2.1=0:=B4 t;split at e
 ·exact absurd e (by decide)
 rename_i U;split at e
 ·exact absurd e (by decide)
 rename_i J;have A:mM h m a=some (a_ h.s x.root false a).1:=by rw[cH l,ax t]
 obtain⟨n,d,K,B,d4,VQ,VR,w⟩:=H.Ty A;have L:bL (jA h m) a=none:=by
  cases M:bL (jA h m) a with
  |none=>rfl
  |some y=>
   refine absurd ((pN E (x:=x) l).2 ?_) U;rw[fy l] at M;unfold Hl;rw[show h.g ((m:Int)).toNat=some x from l];dsimp only;rw[M];rfl
 rw[K] at J A ⊢;rw[ot B] at J;have N:dE (jA h) (n:Int)=0:=by
  have:=H.hc.refs B;omega
 have O:=(H.inv.Je (H.root l) t).1;obtain⟨g',C,Q, _⟩:=H.inv.zN (H.root l) O (H.inv.TZ H.nl (H.root l) O t);have V:=Kept.hc H.hc C.kp;generalize kR h.s (m:Int) x.root false a=j at*
 have u:=C.kp.ks B d4;rw[N] at w;have w:d=(4,d.2.1,0,0,()):=w;have W:d.2.1=(m:Int):=by
  obtain⟨X,d',F,r, _,Y⟩:=H.hc.own A L;have:X=n:=E4 F;subst this;rw[B] at r;cases r;exact Y
 rw[W] at w;rw[w] at u;have Z:=t_ (G:=aE 5 (m:Int)) u (xy ⟨by omega,by omega⟩);rw[Z.1];have OW:=V.yI (o:=(m:Int)) ⟨by omega,by omega⟩ A L N;have D:Inv.fc g' j (j.1,j.2.set n (5,(m:Int),0,0,())):=by
  refine hH C.inv ⟨rfl,by rw[Bo]⟩ (λb hb=>absurd rfl hb) λ{i d d'} I h2=>?_;rcases nb u I h2 with ⟨_,F,r⟩|⟨_,r⟩
  ·exact .inr ⟨by rw[F];exact(show ¬ (4:Int)=3 by decide),by rw[r];exact(show ¬ (5:Int)=3 by decide),λc=>by rw[r] at c;exact absurd c (show ¬ (5:Int)=0 by decide)⟩
  ·exact .inl r
 have ng:=H.uk l (λ{i z} k q=>rfl) H.inv C (y:=none) (by rw[Q];rfl) (h':=bJ h j) rfl (λ_=>rfl);have zc:mM (bJ h (j.1,j.2.set n (5,(m:Int),0,0,())))=mM (bJ h j):=by
  funext i p;cases k:h.g i with
  |none=>exact(fx (h:=bJ h (j.1,j.2.set n (5,(m:Int),0,0,()))) k p).trans (fx (h:=bJ h j) k p).symm
  |some z=>
   refine(cH (h:=bJ h (j.1,j.2.set n (5,(m:Int),0,0,()))) k p).trans (Eq.trans ?_ (cH (h:=bJ h j) k p).symm);show(if(a_ (j.1,j.2.set n (5,(m:Int),0,0,())) z.root false p).2.2.1=0 then some (a_ (j.1,j.2.set n (5,(m:Int),0,0,())) z.root false p).1 else none)=if(a_ j z.root false p).2.2.1=0 then some (a_ j z.root false p).1 else none;rw[C.inv.dz D (C.root.to (H.root k))]
 have AY:(bJ h j).g m=some x:=l;have fD:n<j.2.length:=(AC.1 u).1;have R: ∀P,A6 (bJ h j) (bJ h (j.1,j.2.set n (5,(m:Int),0,0,()))) P:=λP=>⟨λ{i q} _=>by
  cases k:h.g i with
  |none=>exact(fw (h:=bJ h (j.1,j.2.set n (5,(m:Int),0,0,()))) k q).trans (fw (h:=bJ h j) k q).symm
  |some z=>exact(bM (h:=bJ h (j.1,j.2.set n (5,(m:Int),0,0,()))) k q).trans ((C.inv.dz D (C.root.to (H.root k)) q).trans (bM (h:=bJ h j) k q).symm)⟩
 suffices hh:HI g' (bJ h (j.1,j.2.set n (5,(m:Int),0,0,()))) from⟨g',n,hh,⟨rfl,by rw[show((m:Int)).toNat=m from rfl,bM l];exact⟨t,K⟩,((R (λ_ _=>False)).to (λc=>c)).trans ((bM AY a).trans Q),Bc fD,A6.trans (H.BS (λ_ _=>rfl) H.inv C (h':=bJ h j) rfl (λ_=>rfl)) (R _),λ{i d d'} I h4 _ _ _=>C.kp.ws I h4,C.kd.trans (KD.set u (λ_=> .inr rfl) (λc=>absurd (show(4:Int)=5 from c) (by decide)))⟩,C.Tx.trans (ru.kd (KD.set u (λ_=> .inr rfl) (λc=>absurd (show(4:Int)=5 from c) (by decide))) λ_ _ _ _ _=>rfl)⟩
 exact{inv:=C.inv.beside D,rt:=H.rt.eK C.root,nl:=Inv.kK D (C.lg (λo q q' a b=>a.2.trans b.2.symm) H.nl),sz:=by
        show j.1.length=16*(j.2.set n (5,(m:Int),0,0,())).length;rw[Bo,C.len.1,C.len.2];exact H.sz
       ,ig:=H.ig,root:=λ{i z} k=>C.root.to (H.root k),own:=λ{f o y} hf=>H.own ((C.root o f y).1 hf),hc:=by rw[zc,ng];exact OW}
theorem yI (H:HI gh h) {v:Int} (b:aX h.g v=true) (a:Int): ∃fV,HI fV (sL h v a):=by
 by_cases e:vQ h v a=0
 ·obtain⟨g', _,c, _⟩:=H.Sa b e;exact⟨g',c⟩
 ·rw[show sL h v a=h from ao e];exact⟨gh,H⟩
end HI
end
set_option maxRecDepth 100000
open Go.RX D
theorem xz (k:Nat): ∀l:List TK,(∀t∈l,0<=t.2.1/\t.2.1<(k:Int))->l.length<=((A9 k).map λa=>l.countP λt=>t.2.1==((a:Nat):Int)).sum
 |[], _=>Nat.zero_le _
 |t::l,h=>by
  have c:=xz k l λu b=>h u (B5 _ b);have d:=h t A_;have e:(λa:Nat=>(t::l).countP λt=>t.2.1==((a:Nat):Int))=jf (λa:Nat=>l.countP λt=>t.2.1==((a:Nat):Int)) t.2.1.toNat (l.countP (λu=>u.2.1==((t.2.1.toNat:Nat):Int))+1):=by
   funext a;rw[List.countP_cons];by_cases e:a=t.2.1.toNat
   ·subst e;rw[jc,ax (by simp;omega)]
   ·rw[lk e,ao (by simp;omega)];rfl
  have:=yG (λa:Nat=>l.countP λt=>t.2.1==((a:Nat):Int)) t.2.1.toNat (l.countP (λu=>u.2.1==((t.2.1.toNat:Nat):Int))+1) k;rw[ax (by omega),ax (by omega)] at this;rw[e,Dn];omega
theorem Jj {f:Nat->Nat} {c:Nat}: ∀l:List Nat,(∀x∈l,f x<=c)->(l.map f).sum<=c*l.length
 |[], _=>Nat.zero_le _
 |x::l,h=>by
  have:=Jj l λy a=>h y (B5 _ a);have:=h x A_;rw[List.map_cons,List.sum_cons,Dn,Nat.mul_add];omega
theorem GP (tk:Nat->List TK) (q:TK->Bool):kT tk q=((A9 17).flatMap tk).countP q:=by
 unfold kT;rw[List.countP_flatMap];rfl
theorem GQ (l:List TK) (k c:Nat) (h: ∀t∈l,0<=t.2.1/\t.2.1<(k:Int)) (hb: ∀a:Nat,a<k->(l.countP λt=>t.2.1==((a:Nat):Int))<=c):l.length<=c*k:=by
 have b:=xz k l h;have h2:=Jj (f:=λa:Nat=>l.countP λt=>t.2.1==((a:Nat):Int)) (c:=c) (A9 k) λa d=>hb a (H9.1 d);rw[List.length_range] at h2;exact H4 b h2
namespace HC
variable {fr:C6} {tk:Nat->List TK} {ds:List DT} {gr:List GT}
theorem ids (H:HC fr tk ds gr) {i:Nat} {t:TK} (h:t∈tk i):0<=t.2.1/\t.2.1<((16:Nat):Int):=by
 obtain⟨_,o, _,k,x,b,h2, _⟩:=H.y7 (a:=t.2.1) (f:=t.2.2) (H.H_ h);obtain⟨c,d, _⟩:=eH.1 b;have:=H.gl;omega
theorem Eb (H:HC fr tk ds gr) (f:Int):dE tk f<=16000:=by
 have h0: ∀q,kT tk q=((A9 17).flatMap tk).countP q:=GP tk;have d: ∀t∈(A9 17).flatMap tk,0<=t.2.1/\t.2.1<((16:Nat):Int):=λt h=>by
  obtain⟨i, _,hi⟩:=List.mem_flatMap.1 h;exact H.ids hi
 have b: ∀a:Nat,a<16->kT tk (λt=>t.2.1==((a:Nat):Int))<=1000:=λa c=>by
  have j:a<gr.length:=by rw[H.gl];exact c
  have e:gr[a]? =some gr[a]:=B1 j;have b:=H.qB e;have:=(H.gk _ (Bb e)).2;unfold ky at b;omega
 unfold dE;rw[h0];generalize (A9 17).flatMap tk=g at h0 d;have k:=List.countP_le_length (p:=λt:TK=>t.2.2==f) (l:=g);have h2:=GQ g 16 1000 d λa c=>by rw[<-h0];exact b a c
 omega
end HC
theorem GR {gr:List GT} {k:Nat} {x:GT} (h:gr[k]? =some x) (y:GT):(gr.set k y).set k x=gr:=by
 apply List.ext_getElem?;intro i;have a:k<gr.length:=(AC.1 h).1;by_cases e:k=i
 ·subst e;rw[Bc (by rw[Bo];exact a),h]
 ·rw[B2 e,B2 e]
section
variable {gh fV:Gh} {h:HS}
theorem HI.fin (H:HI gh h) {v:Nat} {p:Int} {s1 d l:WD} (C:oQ (lE (v:Int) 0 p) (v:Int) gh fV s1 d) (u:v_ gh s1) (m:s1.1.length=h.s.1.length/\s1.2.length=h.s.2.length) (B:Inv.fc fV d l) {h':HS} (j:h'.s=l) (n: ∀i,(h'.g i).map GV.root=(h.g i).map GV.root)
 {F:C6} (w:mM {h' with s:=d}=F) (hc:HC F (jA h') l.2 h'.gr):HI fV h':=by
 have r: ∀{i:Nat} {x:GV},h'.g i=some x-> ∃z,h.g i=some z/\x.root=z.root:=λ{i x} k=>by
  have hi:=n i;rw[k] at hi;cases hc:h.g i with
  |none=>rw[hc] at hi;cases hi
  |some z=>rw[hc] at hi;exact⟨z,rfl,by simpa using hi⟩
 have t: ∀{i:Nat} {x:GV},h'.g i=some x->fV x.root=some ((i:Int),3,0):=λ{i x} k=>by
  obtain⟨z,c,A⟩:=r k;rw[A];exact C.root.to (H.root c)
 refine⟨by rw[j];exact C.inv.beside B,H.rt.eK C.root,by rw[j];exact Inv.kK B (C.lg (λo q G a b=>a.2.trans b.2.symm) u),?_,λ{i x} k=>?_,t,λ{f o y} D=>?_,?_⟩
 ·rw[j,B.len.1,B.len.2,C.len.1,C.len.2,m.1,m.2];exact H.sz
 ·obtain⟨z,c, _⟩:=r k;exact H.ig c
 ·obtain⟨i,x,E,h2⟩:=H.own ((C.root o f y).1 D);have hi:=n i;rw[h2] at hi;cases hc:h'.g i with
  |none=>rw[hc] at hi;cases hi
  |some z=>exact⟨i,z,E,hc⟩
 ·have e:mM h'=F:=by
   rw[<-w];funext i q;cases c:h'.g i with
   |none=>exact(fx c q).trans (fx (h:={h' with s:=d}) c q).symm
   |some z=>
    refine(cH c q).trans (Eq.trans ?_ (cH (h:={h' with s:=d}) c q).symm);show _=if(a_ d z.root false q).2.2.1=0 then some (a_ d z.root false q).1 else none;rw[j,C.inv.dz B (t c)]
  rw[e,j];exact hc
theorem HI.Ec (H:HI gh h) {v:Nat} {p:Int} {b e:WD} (C:oQ (lE (v:Int) 0 p) (v:Int) gh fV h.s b) (B:Inv.fc fV b e) (l:e.1=b.1) (n:KD b e) {h':HS} (f:h'.s=e) (j: ∀i,(h'.g i).map GV.root=(h.g i).map GV.root):
 sx h h' (λi q=>i=v/\q=p) (-1)/\ ∀{i:Nat} {x:GV},h.g i=some x-> ∀q,lN h' i q=a_ b x.root false q:=by
 have r: ∀{i:Nat} {x:GV},h.g i=some x-> ∃z,h'.g i=some z/\z.root=x.root:=λ{i x} a=>by
  have hi:=j i;rw[a] at hi;cases hc:h'.g i with
  |none=>rw[hc] at hi;cases hi
  |some z=>rw[hc] at hi;exact⟨z,rfl,by simpa using hi⟩
 have key: ∀{i:Nat} {x:GV},h.g i=some x-> ∀q,lN h' i q=a_ b x.root false q:=λ{i x} a q=>by
  obtain⟨z,t,u⟩:=r a;rw[bM t,f,u];exact C.inv.dz B (C.root.to (H.root a)) q
 refine⟨⟨⟨λ{i q} w=>?_⟩,λ{m d d'} y A _ _ _ k k0 D=>?_,?_⟩,key⟩
 ·cases a:h.g i with
  |none=>
   have hi:=j i;rw[a] at hi;rw[fw a,fw (by simpa using hi)]
  |some x=>
   rw[key a,bM a];refine H.inv.uI C.inv C.zy C.root (o:=(i:Int)) (H.root a) λc=>w ?_;obtain⟨E,F⟩:=c;exact⟨E4 E,F⟩
 ·rw[f,l];exact C.kp.ws y A k k0 D
 ·rw[f];exact C.kd.trans n
theorem lu {g:Gh} {s:WD} (I:Inv g s) {n:Nat} {o r r':Int} (e:s.2[n]? =some (4,o,r,0,())):Inv.fc g s (s.1,s.2.set n (4,o,r',0,())):=
 hH I ⟨rfl,by rw[Bo]⟩ (λb hb=>absurd rfl hb) λ{i d d'} f h2=>by
  rcases nb e f h2 with ⟨_,h,a⟩|⟨_,a⟩
  ·exact .inr ⟨by rw[h];exact(show ¬ (4:Int)=3 by decide),by rw[a];exact(show ¬ (4:Int)=3 by decide),λc=>by rw[a] at c;exact absurd c (show ¬ (4:Int)=0 by decide)⟩
  ·exact .inl a
theorem jd {g:Nat->Option GV} {n:Nat} {x:GV} (a:g n=some x) (tk:List TK) (i:Nat):(a9 g n (some {x with tk:=tk}) i).map GV.root=(g i).map GV.root:=by
 unfold a9;by_cases e:i=n
 ·subst e;rw[ax rfl,a];rfl
 ·rw[ao e]
theorem Ee {h':HS} {g:Nat->Option GV} {n:Nat} {x:GV} (b:h.g n=some x) (tk:List TK) (a:h'.g=a9 h.g n (some {x with tk:=tk})):jA h'=jf (jA h) n tk:=by
 funext i;unfold jA jf;rw[a];unfold a9;by_cases e:i=n
 ·rw[ax e,ax e]
 ·rw[ao e,ao e]
def HD (ds:List DT) (n:Nat) (o:Int):Prop:= ∃d:DT,ds[n]? =some d/\d.1=4/\d.2.1=o
theorem Kept.Mb {s s':WD} (K:Kept s s') (n:Nat) (o:Int):HD s'.2 n o<->HD s.2 n o:=by
 constructor
 ·rintro⟨d,a,h2,b⟩;rcases K.nw a with h|⟨h, _⟩
  ·exact⟨d,h,h2,b⟩
  ·omega
 ·rintro⟨d,a,h2,b⟩;exact⟨d,K.ks a h2,h2,b⟩
theorem Oy {ds:List DT} {n:Nat} {o r r':Int} (h:ds[n]? =some (4,o,r,0,())) (m:Nat) (o':Int):HD (ds.set n (4,o,r',0,())) m o'<->HD ds m o':=by
 have c:n<ds.length:=(AC.1 h).1;unfold HD;by_cases e:n=m
 ·subst e;rw[Bc c,h];constructor
  ·rintro⟨d,a,h2,b⟩;cases a;exact⟨_,rfl,rfl,b⟩
  ·rintro⟨d,a,h2,b⟩;cases a;exact⟨_,rfl,rfl,b⟩
 ·rw[B2 e]
theorem HI.By (H:HI gh h) {v:Nat} {p id f:Int} {x:GV} (a:h.g v=some x) (J:bL x.tk p=some (id,f)): ∃fV,HI fV (cZ h (v:Int) p id f)/\(∀n o,HD (cZ h (v:Int) p id f).s.2 n o<->HD h.s.2 n o)/\sx h (cZ h (v:Int) p id f) (λi q=>i=v/\q=p) (-1)/\lN (cZ h (v:Int) p id f) v p=(0,0,4,())/\ru (v:Int) gh fV h.s (cZ h (v:Int) p id f).s:=by
 have j:bL (jA h v) p=some (id,f):=by rw[fy a];exact J
 obtain⟨l,o,Y,K⟩:=H.hc.y7 j;obtain⟨k,y,g1,e,Z,L, _⟩:=K;obtain⟨n,d,M,r,d4,N,O,P⟩:=H.Ty l;subst M;obtain⟨Q,k2,u⟩:=eH.1 g1;rw[getD_some e] at u;subst Q;have R:a6 h.g (v:Int)=x.root:=by
  have r:=H.ig a;unfold a6;rw[ax (g_.2 ⟨by omega,x,a⟩)];show(match h.g v with|some x=>x.root|none=> -1)= _;rw[a]
 have A:(a_ h.s x.root false p).2.2.1=0:=by
  rw[cH a] at l;by_cases c:(a_ h.s x.root false p).2.2.1=0
  ·exact c
  ·rw[ao c] at l;cases l
 have B:=(H.inv.Je (H.root a) A).1;obtain⟨g',C,D, _⟩:=H.inv.zN (H.root a) B (H.inv.TZ H.nl (H.root a) B A);have VO:=H.ig a;have qz:0<dE (jA h) (n:Int):=ll (q:=λt=>t.2.2==(n:Int)) (by omega:v<17) (H.hc.EM j) (by simp);have Zt:0<ky (jA h) (k:Int):=ll (q:=λt=>t.2.1==(k:Int)) (by omega:v<17) (H.hc.EM j) (by simp);have X_:=H.hc.Eb (n:Int);have S:j_ h.gr (k:Int) (v:Int)=0:=by
  unfold j_;rw[g1];dsimp only;rw[getD_some e,ao (by rw[L];simp),ao (by rw[H.hc.qB e];omega)]
 have E:dK h.gr (k:Int) (v:Int)=h.gr.set k (eo y (-1)):=by
  unfold dK;rw[ax S];show h.gr.set k (eo (h.gr.getD k zG) (-1))= _;rw[getD_some e]
 have T:=Kept.hc H.hc C.kp;have U:cZ h (v:Int) p (k:Int) (n:Int)={s:=((kR h.s (v:Int) x.root false p).1,fC (kR h.s (v:Int) x.root false p).2 (n:Int) (gE (-1))),g:=a9 h.g v (some {x with tk:=x.tk.filter λt=> !(t.1==p)}),gr:=h.gr.set k (eo y (-1)),po:=h.po}:=by
  unfold cZ;rw[R,E];show HS.mk _ (a9 h.g v (match h.g v with|some x=> _|none=>none)) _ _= _;rw[a]
 rw[U];generalize kR h.s (v:Int) x.root false p=F at*
 have b:=C.kp.ks r d4;rw[P] at b;have V:=t_ (G:=gE (-1)) b (T2 ⟨N,O⟩ ⟨by omega,by omega⟩ ⟨by omega,by omega⟩);rw[V.1];have W:ki (h.gr.set k (eo y (-1))):=by rw[<-E];exact H.hc.gk.back _ _
 have X:=T.By j b e u W;have I:=H.Ec C (lu (r':=(dE (jA h) (n:Int):Int)+ -1) C.inv b) rfl (KD.set b (λ_=> .inl rfl) (λc=>absurd (show(4:Int)=5 from c) (by decide))) (h':={s:=(F.1,F.2.set n (4,d.2.1,(dE (jA h) (n:Int):Int)+ -1,0,())),g:=a9 h.g v (some {x with tk:=x.tk.filter λt=> !(t.1==p)}),gr:=h.gr.set k (eo y (-1)),po:=h.po}) rfl (λi=>jd a _ i);refine⟨g',H.fin C H.nl ⟨rfl,rfl⟩ (lu C.inv b) rfl (λi=>jd a _ i) (H.uk a (λ{i z} hz q=>rfl) H.inv C (y:=none) (by rw[D];rfl) rfl (λi=>jd a _ i)) ?_,λm w=>(Oy b m w).trans (C.kp.Mb m w),I.1,(I.2 a p).trans D,C.Tx.trans (ru.kd (KD.set b (λ_=> .inl rfl) (λc=>absurd (show(4:Int)=5 from c) (by decide))) λ_ _ _ _ _=>rfl)⟩;rw[Ee (g:=h.g) a _ rfl, <-fy a];exact X
end
set_option maxRecDepth 100000
open Go.RX D
section
variable {gh fV:Gh} {h:HS}
theorem GU {v p:Int} (h0:(fj h.g h.s v p).2.2.1=0):aX h.g v=true/\ ∃x,h.g v.toNat=some x/\fj h.g h.s v p=a_ h.s x.root false p:=by
 unfold fj at h0 ⊢;by_cases a:aX h.g v=true
 ·obtain⟨x,b, _⟩:=cd a;rw[ax a,b];exact⟨a,x,rfl,rfl⟩
 ·rw[ao a] at h0;exact absurd h0 (by decide)
theorem LK {v p:Int} {x:GV} (b:aX h.g v=true) (a:h.g v.toNat=some x) (hb: ¬ fY h v p=true):bL x.tk p=none:=by
 cases c:bL x.tk p with
 |none=>rfl
 |some y=>
  refine absurd ((pN b a).2 ?_) hb;unfold Hl;rw[a];dsimp only;rw[c];rfl
theorem LM {gs:List GT} {k:Nat} {x:GT} {v:Int} (h:gs[k]? =some x) (i:x≠zG) (hv:x.2.2.1=v) (n:0<=x.2.2.2.2.1) (j:ki gs):dK (gs.set k (eo x 1)) (k:Int) v=gs:=by
 have g:k<gs.length:=(AC.1 h).1;have f:(gs.set k (eo x 1))[k]? =some (eo x 1):=Bc g;have l:jK (gs.set k (eo x 1)) (k:Int)=some k:=eH.2 ⟨rfl,by rw[Bo];exact g,by rw[getD_some f];exact te j h i 1⟩;have m:j_ (gs.set k (eo x 1)) (k:Int) v=0:=by
  unfold j_;rw[l];dsimp only;rw[getD_some f,ao (by show ¬ x.2.2.1≠v;rw[hv];simp),ao (by show ¬ x.2.2.2.2.1+1=0;omega)]
 unfold dK;rw[ax m];show(gs.set k (eo x 1)).set k (eo ((gs.set k (eo x 1)).getD k zG) (-1))=gs;rw[getD_some f];have e:eo (eo x 1) (-1)=x:=by
  obtain⟨a,b,c,d,e,u⟩:=x;unfold eo;dsimp only;rw[show e+1+ -1=e by omega]
 rw[e];exact GR h _
theorem U' {v a b c:Int} (d:ke h v a b c=0):lT h v a b c=iw h.s (a6 h.g v) false b (iu h a).1 (oR c):=by
 unfold ke at d;unfold lT;split at d
 ·exact absurd d (by decide)
 rename_i f;rw[ao f];split at d
 ·exact absurd d (by decide)
 rename_i i;rw[ao i];split at d
 ·exact absurd d (by decide)
 rename_i j;rw[ao j];split at d
 ·exact absurd d (by decide)
 rename_i k;rw[ao k];split at d
 ·exact absurd d (by decide)
 rename_i l;rw[ao l];split at d
 ·exact absurd d (by decide)
 rename_i m;rw[ao m,ao (λe=>e d)]
theorem HI.Ef (H:HI gh h) {v a b c:Int} (X:aX h.g v=true) (f:ke h v a b c=0):
 (lT h v a b c=0-> ∃fV,HI fV (gg h v a b c)/\sx h (gg h v a b c) (λi q=>i=v.toNat/\q=b) (-1)/\(lN h v.toNat b).2.2.1=4/\lN (gg h v a b c) v.toNat b=((iu h a).1,oR c,0,())/\ru v gh fV h.s (gg h v a b c).s)/\(lT h v a b c≠0->ww h v a b c=h):=by
 have K:=U' f;obtain⟨B,t,L,u⟩:(iZ h a).2.2.1=v/\(iu h a).2.2.1=0/\ ¬ fY h (iZ h a).1 (iZ h a).2.1=true/\fq h.gr a v (c==1)=0:=by
  unfold ke at f;split at f
  ·exact absurd f (by decide)
  split at f
  ·exact absurd f (by decide)
  split at f
  ·exact absurd f (by decide)
  split at f
  ·exact absurd f (by decide)
  rename_i Y;split at f
  ·exact absurd f (by decide)
  rename_i Z;split at f
  ·exact absurd f (by decide)
  rename_i c6;exact⟨B4 λe=>Y (.inl e),B4 Z,c6,f⟩
 obtain⟨x,j,M,hv,we,vz⟩:=cd X;obtain⟨k,w⟩: ∃k,jK h.gr a=some k:=by
  unfold fq at u;cases w:jK h.gr a with
  |none=>rw[w] at u;exact absurd (show(4:Int)=0 from u) (by decide)
  |some k=>exact⟨k,rfl⟩
 obtain⟨D,k2,E⟩:=eH.1 w;have l:h.gr[k]? =some h.gr[k]:=B1 k2;obtain⟨y,hye⟩: ∃y,y=h.gr[k]:=⟨_,rfl⟩;rw[<-hye] at l;rw[getD_some l] at E;have N:iZ h a=y:=by
  unfold iZ sH;rw[w];exact getD_some l
 have O:iu h a=fj h.g h.s y.1 y.2.1:=by unfold iu;rw[N]
 rw[N] at B L;rw[O] at t;obtain⟨P,Q,r,R⟩:=GU t;have Xl:=LK P r L;obtain⟨m,rfl⟩: ∃m:Nat,v=(m:Int):=⟨v.toNat,hv.symm⟩;have j:h.g m=some x:=j;obtain⟨o,S⟩: ∃o:Nat,y.1=(o:Int):=⟨y.1.toNat,by have:=g_.1 P;omega⟩;have r:h.g o=some Q:=by rw[S] at r;exact r
 rw[R] at t;have F:mM h o y.2.1=some (a_ h.s Q.root false y.2.1).1:=by rw[cH r,ax t]
 obtain⟨n,d,T,hd,d4,VQ,VR,Mt⟩:=H.Ty F;rw[T] at F;have I:(iu h a).1=(n:Int):=by rw[O,R,T]
 have J:db h.gr a (m:Int) (c==1)=h.gr.set k (eo y 1):=by
  unfold db;rw[ax u, <-D];show h.gr.set k (eo (h.gr.getD k zG) 1)= _;rw[getD_some l]
 refine⟨λe=>?_,λe=>?_⟩
 ·rw[K,M,I] at e;obtain⟨hp,g',C,U, _,V, _⟩:=H.inv.map (H.root j) e;have Ya:mM h m b=none:=by rw[cH j,ao (by rw[V];decide)]
  have ia:gg h (m:Int) a b c={s:=((ik h.s (m:Int) x.root false b (n:Int) (oR c)).1,fC (ik h.s (m:Int) x.root false b (n:Int) (oR c)).2 (n:Int) (gE 1)),g:=a9 h.g m (some {x with tk:=km (b,a,(n:Int)) x.tk}),gr:=h.gr.set k (eo y 1),po:=h.po}:=by
   unfold gg;rw[M,I,J];show HS.mk _ (a9 h.g m (match h.g m with|some x=> _|none=>none)) _ _= _;rw[j]
  rw[ia];have Hw:=Kept.hc H.hc C.kp;generalize ik h.s (m:Int) x.root false b (n:Int) (oR c)=A at*
  have p:=C.kp.ks hd d4;rw[Mt] at p;have X_:=H.hc.Eb (n:Int);have mJ:=t_ (G:=gE 1) p (T2 ⟨VQ,VR⟩ ⟨by omega,by omega⟩ ⟨by omega,by omega⟩);rw[mJ.1];have O4:ki (h.gr.set k (eo y 1)):=by rw[<-J];exact H.hc.gk.take _ _ _
  have OW:=Hw.take hp Ya p l E S B F (by rw[fy r];exact Xl) O4;have W:=H.Ec C (lu (r':=(dE (jA h) (n:Int):Int)+1) C.inv p) rfl (KD.set p (λ_=> .inl rfl) (λc=>absurd (show(4:Int)=5 from c) (by decide))) (h':={s:=(A.1,A.2.set n (4,d.2.1,(dE (jA h) (n:Int):Int)+1,0,())),g:=a9 h.g m (some {x with tk:=km (b,a,(n:Int)) x.tk}),gr:=h.gr.set k (eo y 1),po:=h.po}) rfl (λi=>jd j _ i)
  suffices hh:HI g' {s:=(A.1,A.2.set n (4,d.2.1,(dE (jA h) (n:Int):Int)+1,0,())),g:=a9 h.g m (some {x with tk:=km (b,a,(n:Int)) x.tk}),gr:=h.gr.set k (eo y 1),po:=h.po} from⟨g',hh,W.1,by rw[show((m:Int)).toNat=m from rfl,bM j];exact V,by rw[I];exact(W.2 j b).trans U,C.Tx.trans (ru.kd (KD.set p (λ_=> .inl rfl) (λc=>absurd (show(4:Int)=5 from c) (by decide))) λ_ _ _ _ _=>rfl)⟩
  refine H.fin C H.nl ⟨rfl,rfl⟩ (lu C.inv p) rfl (λi=>jd j _ i) (H.uk j (λ{i z} hz q=>rfl) H.inv C (y:=some (n:Int)) (by rw[U];rfl) rfl (λi=>jd j _ i)) ?_;rw[Ee (g:=h.g) j _ rfl, <-fy j, <-D];exact OW
 ·rw[K] at e;unfold ww;rw[DW e,J, <-D,LM l E B (H.hc.gk y (Bb l)).2.1 H.hc.gk]
theorem HI.Sb (H:HI gh h) {v a b c:Int} (f:aX h.g v=true) (e:lT h v a b c≠0):jm h v a b c=h:=by
 unfold jm;by_cases d:ke h v a b c=0
 ·rw[ao (λe=>e d),ao e];exact(H.Ef f d).2 e
 ·exact ax d
theorem LN {v a b c:Int} (e:lT h v a b c=0):ke h v a b c=0:=by
 unfold lT at e;unfold ke;split at e
 ·exact absurd e (by decide)
 rename_i f;rw[ao f];split at e
 ·exact absurd e (by decide)
 rename_i g;rw[ao g];split at e
 ·exact absurd e (by decide)
 rename_i i;rw[ao i];split at e
 ·exact absurd e (by decide)
 rename_i j;rw[ao j];split at e
 ·exact absurd e (by decide)
 rename_i k;rw[ao k];split at e
 ·exact absurd e (by decide)
 rename_i l;rw[ao l];split at e
 ·rename_i d;exact absurd e d
 rename_i d;exact B4 d
theorem HI.Se (H:HI gh h) {v a b c:Int} (f:aX h.g v=true) (e:lT h v a b c=0):jm h v a b c=gg h v a b c/\ ∃fV,HI fV (gg h v a b c)/\sx h (gg h v a b c) (λi q=>i=v.toNat/\q=b) (-1)/\(lN h v.toNat b).2.2.1=4/\lN (gg h v a b c) v.toNat b=((iu h a).1,oR c,0,())/\ru v gh fV h.s (gg h v a b c).s:=by
 have d:=LN e;refine⟨?_,(H.Ef f d).1 e⟩;unfold jm;rw[ao (λe=>e d),ax e]
theorem HI.take (H:HI gh h) {v:Int} (d:aX h.g v=true) (a b c:Int): ∃fV,HI fV (jm h v a b c):=by
 by_cases e:lT h v a b c=0
 ·obtain⟨f,g',i, _⟩:=H.Se d e;rw[f];exact⟨g',i⟩
 ·rw[H.Sb d e];exact⟨gh,H⟩
theorem HI.Oz (H:HI gh h) {v:Int} (b:aX h.g v=true) {a:Int} (e:rK h v a=0): ∃fV,HI fV (g7 h v a)/\sx h (g7 h v a) (λi q=>i=v.toNat/\q=a) (-1)/\lN (g7 h v a) v.toNat a=(0,0,4,())/\ru v gh fV h.s (g7 h v a).s:=by
 obtain⟨x,c,n,hv, _⟩:=cd b;unfold rK at e;unfold g7;split at e
 ·exact absurd e (by decide)
 rename_i f;rw[ao f];split at e
 ·rename_i d;rw[ax d];have j:=(pN b c).1 d;obtain⟨m,rfl⟩: ∃m:Nat,v=(m:Int):=⟨v.toNat,hv.symm⟩;obtain⟨g',k, _,E,l⟩:=H.By (x:=x) c j;exact⟨g',k,E,l⟩
 ·exact absurd e (by decide)
theorem OA {v a:Int} (e:rK h v a≠0):g7 h v a=h:=by
 unfold rK at e;unfold g7;split
 ·rfl
 rename_i b;rw[ao b] at e;split
 ·rename_i c;rw[ax c] at e;exact absurd rfl e
 ·rfl
theorem HI.back (H:HI gh h) {v:Int} (b:aX h.g v=true) (a:Int): ∃fV,HI fV (g7 h v a):=by
 by_cases e:rK h v a=0
 ·obtain⟨g',c, _⟩:=H.Oz b e;exact⟨g',c⟩
 ·rw[OA e];exact⟨gh,H⟩
theorem HI.fg {v:Nat}: ∀(n:Nat) {gh:Gh} {h:HS},HI gh h->(∃x,h.g v=some x)->(jA h v).length=n->
 ∃fV,HI fV (fg (v:Int) n h)/\(∃x,(fg (v:Int) n h).g v=some x)/\jA (fg (v:Int) n h) v=[]/\(∀i,i≠v->(fg (v:Int) n h).g i=h.g i)/\(∀m o,HD (fg (v:Int) n h).s.2 m o<->HD h.s.2 m o)/\sx h (fg (v:Int) n h) (λi _=>i=v) (-1)/\ru (v:Int) gh fV h.s (fg (v:Int) n h).s
 |0,gh,h,H,d,j=>⟨gh,H,d,List.length_eq_zero_iff.1 j,λ_ _=>rfl,λ_ _=>Iff.rfl,.refl _ _ _,ru.refl _ _⟩
 |n+1,gh,h,H,⟨x,d⟩,j=>by
  have z:sU h (v:Int)=x.tk:=by rw[Pr];exact fy d
  have A:x.tk.length=n+1:=by rw[<-fy d];exact j
  have B:x.tk.map (·.1)≠[]:=λe=>by
   have:=congrArg List.length e;rw[List.length_map,A] at this;simp at this
  have r:=AE B (λy C=>by
   obtain⟨t,k,rfl⟩:=B3.1 C;have D:t∈jA h v:=by rw[fy d];exact k
   have:=H.hc.ig (H.hc.y7 (a:=t.2.1) (f:=t.2.2) (H.hc.H_ D)).1;omega)
  obtain⟨p,u⟩: ∃p,p=vR (x.tk.map (·.1)):=⟨_,rfl⟩;rw[<-u] at r;obtain⟨t,k,E⟩:=B3.1 r;have l:=H.hc.nd v;rw[fy d] at l;have q:bL x.tk p=some t.2:=(g9 (a:=t.2.1) (b:=t.2.2) l).2 (by rw[<-E];exact k);have F:Hl h (v:Int) p=t.2:=by
   unfold Hl;show(match h.g v with|some x=>(bL x.tk p).getD (0,0)|none=>(0,0))= _;rw[d];dsimp only;rw[q];rfl
  have G:zR (v:Int) h=cZ h (v:Int) p t.2.1 t.2.2:=by
   unfold zR;rw[z, <-u,F]
  obtain⟨U,I,J,K, _,L⟩:=H.By (x:=x) d q;have w:(cZ h (v:Int) p t.2.1 t.2.2).g v=some {x with tk:=x.tk.filter λt=> !(t.1==p)}:=by
   show a9 h.g v (match h.g v with|some x=> _|none=>none) v= _;rw[d,eT]
  have M:(jA (cZ h (v:Int) p t.2.1 t.2.2) v).length=n:=by
   rw[fy w];have:=(xx l q).length_eq;rw[Dn] at this;show(x.tk.filter λt=> !(t.1==p)).length=n;omega
  obtain⟨N,O,h2,P,Q,R,S,T⟩:=HI.fg n I ⟨_,w⟩ M;have e:_root_.Go.Proofs.YteeflilbnoknnaaGreat.fg (v:Int) (n+1) h=_root_.Go.Proofs.YteeflilbnoknnaaGreat.fg (v:Int) n (cZ h (v:Int) p t.2.1 t.2.2):=by rw[<-G];rfl
  rw[e];refine⟨N,O,h2,P,λi hi=>?_,λm o=>(R m o).trans (J m o),sx.trans (K.mono λc=>c.1) S,L.trans T⟩;rw[Q i hi];show a9 h.g v _ i=h.g i;unfold a9;rw[ao hi]
end
section
variable {gh fV:Gh} {h:HS}
theorem GW {v:Int} {x:GV} (a:aX h.g v=true) (b:h.g v.toNat=some x) (p:Int):fj h.g h.s v p=a_ h.s x.root false p:=by
 unfold fj;rw[ax a,b]
theorem HI.word (H:HI gh h) {v:Int} (j:aX h.g v=true) {a t:Int} (u:0<=a) (m:0<=t/\t<=7):
 (a<1048576/\(fj h.g h.s v (a / 16)).2.2.1=0/\gU h v a t=(16*(fj h.g h.s v (a / 16)).1+a % 16,if gq true (fj h.g h.s v (a / 16)).2.1 false (fj h.g h.s v (a / 16)).1 t=true then 0 else 7)/\
  ∃n:Nat,(fj h.g h.s v (a / 16)).1=(n:Int)/\n<h.s.2.length/\mM h v.toNat (a / 16)=some (n:Int))\/
 ((a>=1048576/\(gU h v a t).2=2)\/(a<1048576/\fj h.g h.s v (a / 16)=(0,0,4,())/\(gU h v a t).2=4)):=by
 obtain⟨x,c,o,hv,w,y⟩:=cd j;rw[GW j c];unfold gU;by_cases f:a>=1048576
 ·rw[ax f];exact .inr (.inl ⟨f,rfl⟩)
 rw[ao f,o];have p:=H.root c;have k:0<=a / 16/\a / 16<65536:=by omega
 have b:=H.inv.R7 H.nl p k m;by_cases e:(a_ h.s x.root false (a / 16)).2.2.1=0
 ·rw[ax e] at b;have l:mM h v.toNat (a / 16)=some (a_ h.s x.root false (a / 16)).1:=by rw[cH c,ax e]
  obtain⟨n,d,i,q, _⟩:=H.Ty l;have r:n<h.s.2.length:=(AC.1 q).1;have z:=H.inv.le;refine .inl ⟨by omega,e,?_,n,i,r,by rw[l,i]⟩;rw[b];dsimp only;rw[i,dI (by omega) (by omega),av (by omega) (by omega)]
 ·rw[ao e] at b;refine .inr (.inr ⟨by omega,(Inv.R6 _ _ k).resolve_left e,b⟩)
theorem HI.LO (H:HI gh h) {n:Nat} {d:DT} (a:h.s.2[n]? =some d) (d4:d.1=4) {o:Int} (f:0<=o/\o<16) (b:Int):HI gh (bJ h (cW h.s.1 (16*(n:Int)+o) b,h.s.2))/\sx h (bJ h (cW h.s.1 (16*(n:Int)+o) b,h.s.2)) (λ_ _=>False) (n:Int):=by
 have B:Inv.fc gh h.s (cW h.s.1 (16*(n:Int)+o) b,h.s.2):=by
  refine hH H.inv ⟨cu _ _ _,rfl⟩ (λq c=>⟨n,d,a,by rw[d4];decide,?_⟩) λ{i d d'} e h2=>?_
  ·refine B4 λhc=>c ?_;show dB (cW h.s.1 (16*(n:Int)+o) b) q= _;rw[mi (by omega)]
  ·rw[e] at h2;cases h2;exact .inl rfl
 refine⟨H.side B H.hc,H.D9 B (h':=bJ h (cW h.s.1 (16*(n:Int)+o) b,h.s.2)) rfl rfl _,λ{m d d'} _ _ _ _ g k k0 j=>?_,.refl rfl⟩;show dB (cW h.s.1 (16*(n:Int)+o) b) _= _;exact mi (by omega)
theorem HI.store (H:HI gh h) {v:Int} (c:aX h.g v=true) {a:Int} (f:0<=a) (b:Int):HI gh (mo h v a b)/\A6 h (mo h v a b) (λ_ _=>False):=by
 unfold mo;by_cases e:(gU h v a 2).2≠0
 ·rw[ax e];exact⟨H,A6.refl _ _⟩
 rw[ao e];have e:(gU h v a 2).2=0:=B4 e;rcases H.word c f (t:=2) (by decide) with ⟨_, _,i,n,j,s,k⟩|⟨_,h2⟩|⟨_, _,h2⟩
 ·rw[i];dsimp only;rw[j];obtain⟨m,d,l,p,d4, _⟩:=H.Ty k;have:n=m:=E4 l;subst this;obtain⟨q,r⟩:=H.LO p d4 (o:=a % 16) (by omega) b;exact⟨q,r.pg⟩
 ·rw[h2] at e;exact absurd e (by decide)
 ·rw[h2] at e;exact absurd e (by decide)
theorem HI.OB (H:HI gh h) {n:Nat} {d:DT} (f:h.s.2[n]? =some d) (i:d.1=5):d=(5,d.2.1,0,0,())/\0<=d.2.1/\d.2.1<=16:=by
 obtain⟨_,j,l,m⟩:=H.hc.kd f;have g:=H.hc.refs f;have:dE (jA h) (n:Int)=0:=by
  rcases Hr (dE (jA h) (n:Int)) with e|e
  ·exact e
  ·obtain⟨d',k,o⟩:=H.hc.Dj e;rw[f] at k;cases k;omega
 rw[this] at g;refine⟨?_,l,m⟩;obtain⟨a,b,c,e,u⟩:=d;dsimp only at i j g;rw[i,j,g];rfl
theorem HI.Va (H:HI gh h) {n:Nat} {d:DT} (e:h.s.2[n]? =some d) (f:d.1=5):iM h.s (n:Int)=(h.s.1,h.s.2.set n zD)/\iK h.s (n:Int)=0/\HI gh (bJ h (h.s.1,h.s.2.set n zD))/\A6 h (bJ h (h.s.1,h.s.2.set n zD)) (λ_ _=>False):=by
 have o:n<h.s.2.length:=(AC.1 e).1;obtain⟨p,q,r⟩:=H.OB e f;have j:=e;rw[p] at j;have k:=t_ (G:=aE 0 0) j (CW ⟨q,r⟩);have l:vJ h.s.2 (n:Int)=true:=by
  unfold vJ;simp only[Hu,decide_eq_false_iff_not];simp;omega
 have B:Inv.fc gh h.s (h.s.1,h.s.2.set n zD):=by
  refine hH H.inv ⟨rfl,by rw[Bo]⟩ (λb hb=>absurd rfl hb) λ{i d0 d'} a h2=>?_;rcases nb e a h2 with ⟨_,t,g⟩|⟨_,g⟩
  ·exact .inr ⟨by rw[t,f];decide,by rw[g];decide,λ_=>g⟩
  ·exact .inl g
 refine⟨?_,?_,H.side B (H.hc.BQ (λ{m d0} a u=>?_) λ{m d0} a=>?_),H.D9 B (h':=bJ h (h.s.1,h.s.2.set n zD)) rfl rfl _⟩
 ·unfold iM;rw[ax ⟨l,by rw[ot e];exact f⟩,k.1]
 ·unfold iK;rw[l,ao (by decide),ot e,ao (λc=>c f)];exact k.2
 ·show(h.s.2.set n zD)[m]? = _;rw[B2 (λc=>by subst c;rw[e] at a;cases a;omega)];exact a
 ·have a:(h.s.2.set n zD)[m]? =some d0:=a;by_cases c:n=m
  ·subst c;rw[Bc o] at a;cases a;exact .inr ⟨.inl rfl,rfl,by decide,by decide⟩
  ·rw[B2 c] at a;exact .inl a
theorem OC {s:WD} {f:Int} (g: ∀(n:Nat) (d:DT),f=(n:Int)->s.2[n]? =some d->d.1≠5):iM s f=s/\iK s f≠0:=by
 by_cases e:vJ s.2 f=true
 ·have i:0<=f/\f<s.2.length:=by
   have a:=e;unfold vJ at a;simp only[Hu,decide_eq_false_iff_not] at a;simp at a;omega
  have b:s.2[f.toNat]? =some s.2[f.toNat]:=B1 (by omega);have h:=g f.toNat _ (by omega) b;have hv:(oK s.2 f).1≠5:=by
   have:=ot b;rw[show((f.toNat:Nat):Int)=f by omega] at this;rw[this];exact h
  unfold iM iK;rw[ao (λc=>hv c.2),e,ao (by decide),ax hv];exact⟨rfl,by decide⟩
 ·unfold iM iK;have e:vJ s.2 f=false:=by simpa using e
  rw[e,ao (by simp),ax rfl];exact⟨rfl,by decide⟩
theorem HI.free (H:HI gh h) (f:Int):HI gh (bJ h (iM h.s f))/\(iM h.s f=h.s\/ ∃(n:Nat) (d:DT),f=(n:Int)/\h.s.2[n]? =some d/\d.1=5/\iM h.s f=(h.s.1,h.s.2.set n zD)):=by
 by_cases e: ∃(n:Nat) (d:DT),f=(n:Int)/\h.s.2[n]? =some d/\d.1=5
 ·obtain⟨n,d,rfl,a,h2⟩:=e;obtain⟨b, _,c, _⟩:=H.Va a h2;rw[b];exact⟨c,.inr ⟨n,d,rfl,a,h2,rfl⟩⟩
 ·obtain⟨b, _⟩:=OC (s:=h.s) (f:=f) λn d a h2 g=>e ⟨n,d,a,h2,g⟩;rw[b];exact⟨H,.inl rfl⟩
theorem HI.Pt (H:HI gh h): ∀n,HI gh (bJ h (di h.s n).1)
 |0=>H
 |n+1=>((HI.Pt H n).free (n:Int)).1
theorem HI.Sf (H:HI gh h) (oo:Int:=0): ∃fV,HI fV (lF h)/\sx h (lF h) (λ_ q=> ¬ (0<=q/\q<65536)) (-1)/\ru oo gh fV h.s (lF h).s:=by
 unfold lF;cases hv:nG h.g with
 |none=>exact⟨gh,H,.refl _ _ _,ru.refl _ _⟩
 |some v=>
  dsimp only;by_cases e:oO h.s (v:Int)=0
  case neg=>rw[ao e];exact⟨gh,H,.refl _ _ _,ru.refl _ _⟩
  rw[ax e];obtain⟨PZ,A, _⟩:=vg.1 hv;have U: ∀f,gh f≠some ((v:Int),3,0):=λf a=>by
   obtain⟨i,x,r,h2⟩:=H.own a;have:i=v:=E4 r;subst this;rw[A] at h2;cases h2
  obtain⟨_,J,b2,b3,C,K,D,V,X,E⟩:=H.inv.born (o:=(v:Int)) (by omega) U (rj e);have Y: ∀{f o y k:Int} {l:Nat},gh f=some (o,l,y)->0<=k->k<16->dB (gD h.s (v:Int) λ_=>0).1 (16*f+k)=dB h.s.1 (16*f+k):=λ{f o y k l} a k0 t=>by
   have cx:f≠dJ h.s (v:Int):=λc=>by rw[c,J] at a;cases a
   exact D _ (by omega)
  have L: ∀k,0<=k->k<16->az (gD h.s (v:Int) λ_=>0).1 (16*dJ h.s (v:Int)+k)=zE:=λk k0 t=>TT (V k k0 t);generalize (gD h.s (v:Int) λ_=>0)=s' at*
  generalize dJ h.s (v:Int)=F at*
  have M: ∀{f o y k:Int} {l:Nat},gh f=some (o,l,y)->0<=k->k<16->az s'.1 (16*f+k)=az h.s.1 (16*f+k):=λa k0 t=>by unfold az;rw[Y a k0 t]
  have z: ∀{f o y:Int} {l:Nat},gh f=some (o,l,y)->jF gh F (some ((v:Int),3,0)) f=some (o,l,y):=λ{f o y l} a=>by
   rw[aR (λc=>by rw[c,J] at a;cases a)];exact a
  have N: ∀{i:Nat} {x:GV},a9 h.g v (some ⟨F,[]⟩) i=some x->(i=v/\x=⟨F,[]⟩)\/(i≠v/\h.g i=some x):=λ{i x} n=>by
   unfold a9 at n;by_cases c:i=v
   ·rw[ax c] at n;cases n;exact .inl ⟨c,rfl⟩
   ·rw[ao c] at n;exact .inr ⟨c,n⟩
  have Z:F.toNat<h.s.2.length:=by omega
  have O: ∀{i:Nat} {p:Int},0<=p/\p<65536->lN {h with s:=s',g:=a9 h.g v (some ⟨F,[]⟩)} i p=lN h i p:=λ{i p} b=>by
   by_cases c:i=v
   ·subst c;rw[fw A,bM (h:={h with s:=s',g:=a9 h.g i (some ⟨F,[]⟩)}) (x:=⟨F,[]⟩) (eT _ _ _)];show a_ s' F false p= _;have P:=L (px 3 p % 16) (dR p 3).1 (dR p 3).2;have u:dm (jF gh F (some ((i:Int),3,0))) s' (i:Int) p F 3:=⟨by rw[Tq b];exact bu _ _ _,by rw[P];exact EJ⟩;rw[E.fT (bu _ _ _) b u,P,Bx _ _ rfl]
   ·cases n:h.g i with
    |none=>
     rw[fw n];exact fw (h:={h with s:=s',g:=a9 h.g v (some ⟨F,[]⟩)}) (show a9 h.g v (some ⟨F,[]⟩) i=none by unfold a9;rw[ao c];exact n) p
    |some x=>
     rw[bM n,bM (h:={h with s:=s',g:=a9 h.g v (some ⟨F,[]⟩)}) (x:=x) (show a9 h.g v (some ⟨F,[]⟩) i=some x by unfold a9;rw[ao c];exact n)];show a_ s' x.root false p= _;obtain⟨f,j, _,u⟩:=H.inv.kZ (H.root n) b;have Q:=M u.1 (dR p j).1 (dR p j).2;have ir:dm (jF gh F (some ((v:Int),3,0))) s' (i:Int) p f j:=⟨z u.1,by rw[Q];exact u.2⟩;rw[H.inv.fT (H.root n) b u,E.fT (z (H.root n)) b ir,Q]
  have R: ∀(h:HS) {i:Nat} {p:Int},¬ (0<=p/\p<65536)->(lN h i p).2.2.1≠0:=λh {i p} b=>by
   unfold lN;cases h.g i with
   |none=>exact(show ¬ (4:Int)=0 by decide)
   |some x=>dsimp only;rw[Inv.tc b];decide
  have gA:mM {h with s:=s',g:=a9 h.g v (some ⟨F,[]⟩)}=mM h:=by
   funext i p;rw[Jh,Jh];by_cases b:0<=p/\p<65536
   ·rw[O b]
   ·rw[ao (R _ b),ao (R _ b)]
  have iX:jA {h with s:=s',g:=a9 h.g v (some ⟨F,[]⟩)}=jA h:=by
   funext i;unfold jA;show(match a9 h.g v (some ⟨F,[]⟩) i with|some x=>x.tk|none=>[])= _;unfold a9;by_cases c:i=v
   ·rw[ax c,c,A]
   ·rw[ao c]<;>rfl
  have G:h.s.2[F.toNat]? =some zD:=K;have S:sx h {h with s:=s',g:=a9 h.g v (some ⟨F,[]⟩)} (λ_ q=> ¬ (0<=q/\q<65536)) (-1):=by
   refine⟨⟨λhq=>O (B4 hq)⟩,λ{m d d'} r I _ _ _ k k0 t=>?_,?_⟩
   ·have hmF:m≠F.toNat:=λc=>by rw[c,G] at r;cases r;exact absurd I (by decide)
    exact D _ (by omega)
   ·show KD h.s s';have:=KD.set (s:=h.s) (W:=s'.1) (d1:=((3:Int),(v:Int),(0:Int),(0:Int),())) G (λc=>absurd c (by decide)) (λc=>absurd c (by decide));rw[<-C] at this;exact this
  suffices hh:HI (jF gh F (some ((v:Int),3,0))) {h with s:=s',g:=a9 h.g v (some ⟨F,[]⟩)} from⟨_,hh,S,λf w a=> .inl (by
   obtain⟨o,l,x⟩:=w;exact z a),λf c=>c.kd S.kd λk k0 t=>(by
   obtain⟨z0,d,T,z2, _⟩:=c;have:f.toNat≠F.toNat:=λe=>by rw[e,G] at T;cases T;exact absurd z2 (by decide)
   exact D _ (by omega)),λf w a _=>(by
   obtain⟨o,l,x⟩:=w;exact z a)⟩
  refine⟨E,λf o x a=>?_,λf o l x k a k0 t b B=>?_,?_,λ{i x} n=>?_,λ{i x} n=>?_,λ{f o y} a=>?_,?_⟩
  ·by_cases c:f=F
   ·subst c;rw[bu] at a;cases a;rfl
   ·rw[aR c] at a;exact H.rt f o x a
  ·by_cases c:f=F
   ·subst c;have b:(az s'.1 (16*f+k)).1=true:=b;rw[L k k0 t] at b;cases b
   ·rw[aR c] at a;have b:(az s'.1 (16*f+k)).1=true:=b;have B:dv (az s'.1 (16*f+k))=false:=B;rw[M a k0 t] at b B;exact H.nl a k0 t b B
  ·show s'.1.length=16*s'.2.length;rw[X,C,Bo];exact H.sz
  ·rcases N n with ⟨c, _⟩|⟨_,c⟩
   ·omega
   ·exact H.ig c
  ·rcases N n with ⟨c,d⟩|⟨_,c⟩
   ·subst c;subst d;exact bu _ _ _
   ·exact z (H.root c)
  ·by_cases c:f=F
   ·subst c;rw[bu] at a;cases a;exact⟨v, _,rfl,eT _ _ _⟩
   ·rw[aR c] at a;obtain⟨i,x,r,h2⟩:=H.own a;refine⟨i,x,r,?_⟩;show a9 h.g v _ i=some x;unfold a9;rw[ao (λc=>by subst c;rw[A] at h2;cases h2)];exact h2
  ·rw[gA,iX];show HC (mM h) (jA h) s'.2 h.gr;rw[C];refine H.hc.BQ (λ{m d} r I=>?_) λ{m d} r=>?_
   ·rw[B2 (λc=>by subst c;rw[K] at r;cases r;exact absurd I (by decide))];exact r
   ·by_cases c:F.toNat=m
    ·subst c;rw[Bc Z] at r;cases r;exact .inr ⟨.inr (.inl rfl),rfl,by show 0<=(v:Int);omega,by show(v:Int)<=16;omega⟩
    ·rw[B2 c] at r;exact .inl r
end
theorem pQ {ds:List DT} {v:Int} {i:Nat}:i∈fi ds v<-> ∃d,ds[i]? =some d/\d.2.1=v:=by
 unfold fi;rw[List.mem_filter,H9];constructor
 ·rintro⟨a,h2⟩;have b:ds[i]? =some ds[i]:=B1 a;rw[b] at h2;exact⟨_,b,by simpa using h2⟩
 ·rintro⟨d,a,h2⟩;exact⟨(AC.1 a).1,by rw[a];simpa using h2⟩
theorem CX (ds:List DT) (v:Int):(fi ds v).Nodup:=List.Pairwise.filter _ List.nodup_range
theorem uP {v:Int} (hv:1<=v/\v<=16): ∀(l:List Nat) (ds:List DT) (c:Int),l.Nodup->(∀i∈l, ∀d,ds[i]? =some d->d.1=4->d=(4,v,0,0,()))->
 (l.foldl (qA v) (ds,c)).1.length=ds.length/\ ∀n:Nat,((n∈l/\ ∃d,ds[n]? =some d/\d.1=4)->(l.foldl (qA v) (ds,c)).1[n]? =some (5,v,0,0,()))/\(¬ (n∈l/\ ∃d,ds[n]? =some d/\d.1=4)->(l.foldl (qA v) (ds,c)).1[n]? =ds[n]?)
 |[],ds,c, _, _=>⟨rfl,λn=>⟨λh=>(by cases h.1),λ_=>rfl⟩⟩
 |i::l,ds,c,b,k=>by
  rw[List.nodup_cons] at b;rw[List.foldl_cons];by_cases e:(oK ds (i:Int)).1=4
  ·rw[show qA v (ds,c) i=(fC ds (i:Int) (aE 5 v),c+1) from ax e];have hi:i<ds.length:=by
    refine B4 λhc=>?_;unfold oK at e;rw[ax (.inr (by omega))] at e;exact absurd e (by decide)
   have f:ds[i]? =some ds[i]:=B1 hi;rw[ot f] at e;have p:=k i A_ _ f e;rw[p] at f;rw[(t_ (G:=aE 5 v) f (xy hv)).1];obtain⟨m,h2⟩:=uP hv l (ds.set i (5,v,0,0,())) (c+1) b.2 λj g d o q=>by
    have r:i≠j:=λe=>b.1 (by rw[e];exact g);rw[B2 r] at o;exact k j (B5 _ g) d o q
   refine⟨m.trans (Bo ..),λn=>⟨λa=>?_,λa=>?_⟩⟩
   ·by_cases en:i=n
    ·subst en;rw[(h2 i).2 (λc=>b.1 c.1),Bc hi]
    ·refine(h2 n).1 ⟨?_,?_⟩
     ·rcases EF.1 a.1 with h|h
      ·exact absurd h.symm en
      ·exact h
     ·rw[B2 en];exact a.2
   ·have en:i≠n:=λen=>by subst en;exact a ⟨A_, _,f,rfl⟩
    rw[(h2 n).2 (λc=>a ⟨B5 _ c.1,by rw[B2 en] at c;exact c.2⟩),B2 en]
  ·rw[show qA v (ds,c) i=(ds,c) from ao e];obtain⟨m,h2⟩:=uP hv l ds c b.2 λj g=>k j (B5 _ g);refine⟨m,λn=>⟨λa=>(h2 n).1 ⟨?_,a.2⟩,λa=>(h2 n).2 λc=>a ⟨B5 _ c.1,c.2⟩⟩⟩;rcases EF.1 a.1 with h|h
   ·subst h;obtain⟨d,s,t⟩:=a.2;rw[ot s] at e;exact absurd t e
   ·exact h
theorem Eg {s s':WD} (h:s'.1=s.1) (r:Int) (g:Bool) (p:Int):a_ s' r g p=a_ s r g p:=by
 unfold a_;rw[h]
section
variable {gh:Gh} {h:HS}
theorem HI.gone (H:HI gh h) {v:Nat} {x:GV} (K:h.g v=some x) (P:jA h v=[]) (Q: ∀n,HD h.s.2 n (v:Int)->dE (jA h) (n:Int)=0): ∃fV,HI fV (rL h (v:Int))/\sx h (rL h (v:Int)) (λi _=>i=v) (-1)/\(∀(f:Int) (w:Int×Nat×Int),gh f=some w->w.1≠(v:Int)->fV f=some w)/\ ∀f,jl h.s f->jl (rL h (v:Int)).s f:=by
 have hd:=H.ig K;have L:1<=(v:Int)/\(v:Int)<=16:=by omega
 obtain⟨R,W,w1,l1,F⟩:=H.inv.dropped H.rt (H.root K);have X:a6 h.g (v:Int)=x.root:=by
  unfold a6;rw[ax (g_.2 ⟨by omega,x,K⟩)];show(match h.g v with|some x=>x.root|none=> -1)= _;rw[K]
 have Y:rL h (v:Int)={s:=((bY h.s x.root false).1,(yd (bY h.s x.root false).2 (v:Int)).1),g:=a9 h.g v none,gr:=cr h.gr (v:Int),po:=(Po.bY 4 h.po (v:Int)).2}:=by
  unfold rL;rw[X];rfl
 rw[Y];generalize bY h.s x.root false=s1 at*
 have Z: ∀{n:Nat} {d:DT},s1.2[n]? =some d->d.1=4->h.s.2[n]? =some d:=λ{n d} j t=>by
  by_cases e: ∃l y,gh (n:Int)=some ((v:Int),l,y)
  ·rw[(F n).1 e] at j;cases j;exact absurd t (show ¬ (5:Int)=4 by decide)
  ·rw[(F n).2 e] at j;exact j
 have M: ∀{n:Nat} {d:DT},h.s.2[n]? =some d->d.1=4->s1.2[n]? =some d:=λ{n d} j t=>by
  rw[(F n).2 (λ⟨l,y,G⟩=>?_)]
  ·exact j
  ·have:=(H.inv.kd G).2.2.1;rw[show((n:Int)).toNat=n from rfl,j] at this;cases this;exact absurd t (show ¬ (3:Int)=4 by decide)
 have gB: ∀i∈fi s1.2 (v:Int), ∀d,s1.2[i]? =some d->d.1=4->d=(4,(v:Int),0,0,()):=λi hi d j t=>by
  obtain⟨d',I,J⟩:=pQ.1 hi;rw[j] at I;cases I;have C:=Z j t;obtain⟨_,D, _⟩:=H.hc.kd C;have E:=H.hc.refs C;rw[Q i ⟨d,C,t,J⟩] at E;obtain⟨a,b,c,e,u⟩:=d;dsimp only at t D E J;rw[t,D,E,J];rfl
 obtain⟨f1,f2⟩:=uP L (fi s1.2 (v:Int)) s1.2 0 (CX _ _) gB;have hoT:(yd s1.2 (v:Int)).1=((fi s1.2 (v:Int)).foldl (qA (v:Int)) (s1.2,0)).1:=rfl;rw[<-hoT] at f1 f2;generalize (yd s1.2 (v:Int)).1=r at*
 have B:Inv.fc (EK gh (v:Int)) s1 (s1.1,r):=by
  refine hH R ⟨rfl,f1⟩ (λb hb=>absurd rfl hb) λ{n d d'} j h2=>?_;by_cases c:n∈fi s1.2 (v:Int)/\ ∃d,s1.2[n]? =some d/\d.1=4
  ·have h2:r[n]? =some d':=h2;rw[(f2 n).1 c] at h2;cases h2;obtain⟨_,d0,D,E⟩:=c;rw[j] at D;cases D;exact .inr ⟨by rw[E];decide,(show ¬ (5:Int)=3 by decide),λc=>absurd c (show ¬ (5:Int)=0 by decide)⟩
  ·have h2:r[n]? =some d':=h2;rw[(f2 n).2 c,j] at h2;cases h2;exact .inl rfl
 have S: ∀{i:Nat} {y:GV},a9 h.g v none i=some y->i≠v/\h.g i=some y:=λ{i y} A=>by
  unfold a9 at A;by_cases c:i=v
  ·rw[ax c] at A;cases A
  ·rw[ao c] at A;exact⟨c,A⟩
 have N: ∀{i:Nat} {y:GV},i≠v->h.g i=some y->a9 h.g v none i=some y:=λ{i y} hi A=>by
  unfold a9;rw[ao hi];exact A
 have Yb:jA {s:=(s1.1,r),g:=a9 h.g v none,gr:=cr h.gr (v:Int),po:=(Po.bY 4 h.po (v:Int)).2}=jA h:=by
  funext i;unfold jA;show(match a9 h.g v none i with|some x=>x.tk|none=>[])= _;unfold a9;by_cases c:i=v
  ·rw[ax c];subst c;exact P.symm
  ·rw[ao c]<;>rfl
 have gA:mM {s:=(s1.1,r),g:=a9 h.g v none,gr:=cr h.gr (v:Int),po:=(Po.bY 4 h.po (v:Int)).2}=λi p=>if i=v then none else mM h i p:=by
  funext i p;by_cases c:i=v
  ·rw[ax c];exact fx (h:={s:=(s1.1,r),g:=a9 h.g v none,gr:=cr h.gr (v:Int),po:=(Po.bY 4 h.po (v:Int)).2}) (show a9 h.g v none i=none by unfold a9;rw[ax c]) p
  ·rw[ao c];cases hi:h.g i with
   |none=>
    rw[fx hi];exact fx (h:={s:=(s1.1,r),g:=a9 h.g v none,gr:=cr h.gr (v:Int),po:=(Po.bY 4 h.po (v:Int)).2}) (show a9 h.g v none i=none by unfold a9;rw[ao c];exact hi) p
   |some z=>
    rw[cH hi,cH (h:={s:=(s1.1,r),g:=a9 h.g v none,gr:=cr h.gr (v:Int),po:=(Po.bY 4 h.po (v:Int)).2}) (N c hi)];rw[Eg (s:=h.s) (s':=(s1.1,r)) w1]
 have T:sx h {s:=(s1.1,r),g:=a9 h.g v none,gr:=cr h.gr (v:Int),po:=(Po.bY 4 h.po (v:Int)).2} (λi _=>i=v) (-1):=by
  refine⟨⟨λ{i q} c=>?_⟩,λ{m d d'} _ _ _ _ _ k _ _=>by show dB s1.1 _= _;rw[w1],λ{n d} j t=>?_,λ{n d} j h5=>?_⟩
  ·cases hi:h.g i with
   |none=>
    rw[fw hi];exact fw (h:={s:=(s1.1,r),g:=a9 h.g v none,gr:=cr h.gr (v:Int),po:=(Po.bY 4 h.po (v:Int)).2}) (show a9 h.g v none i=none by unfold a9;rw[ao c];exact hi) q
   |some z=>
    rw[bM hi,bM (h:={s:=(s1.1,r),g:=a9 h.g v none,gr:=cr h.gr (v:Int),po:=(Po.bY 4 h.po (v:Int)).2}) (N c hi)];exact Eg (s:=h.s) (s':=(s1.1,r)) w1 _ _ _
  ·have C:=M j t;show∃d',r[n]? =some d'/\ _;by_cases c:n∈fi s1.2 (v:Int)/\ ∃d,s1.2[n]? =some d/\d.1=4
   ·exact⟨_,(f2 n).1 c,.inr rfl⟩
   ·exact⟨d,by rw[(f2 n).2 c];exact C,.inl t⟩
  ·show∃d',r[n]? =some d'/\ _;have C: ∃d',s1.2[n]? =some d'/\d'.1=5:=by
    by_cases e: ∃l y,gh (n:Int)=some ((v:Int),l,y)
    ·exact⟨_,(F n).1 e,rfl⟩
    ·exact⟨d,by rw[(F n).2 e];exact j,h5⟩
   obtain⟨d',D,E⟩:=C;by_cases c:n∈fi s1.2 (v:Int)/\ ∃d,s1.2[n]? =some d/\d.1=4
   ·exact⟨_,(f2 n).1 c,rfl⟩
   ·exact⟨d',by rw[(f2 n).2 c];exact D,E⟩
 suffices hh:HI (EK gh (v:Int)) {s:=(s1.1,r),g:=a9 h.g v none,gr:=cr h.gr (v:Int),po:=(Po.bY 4 h.po (v:Int)).2} from⟨_,hh,T,λf w G hn=>cM.2 ⟨G,hn⟩,λf c=>c.kd T.kd λk _ _=>by show dB s1.1 _= _;rw[w1]⟩
 refine⟨R.beside B,W,Inv.kK B (λf o l y k G k0 I U V=>?_),?_,λ{i y} A=>H.ig (S A).2,λ{i y} A=>?_,λ{f o y} G=>?_,?_⟩
 ·rw[w1] at U V;exact H.nl (cM.1 G).1 k0 I U V
 ·show s1.1.length=16*r.length;rw[w1,f1,l1];exact H.sz
 ·obtain⟨j,h2⟩:=S A;exact cM.2 ⟨H.root h2,λc=>j (E4 c)⟩
 ·obtain⟨j,h2⟩:=cM.1 G;obtain⟨i,y',D,E⟩:=H.own j;exact⟨i,y',D,N (λc=>h2 (by show o= _;rw[<-D,c])) E⟩
 ·rw[gA,Yb];refine H.hc.gone ⟨by omega,by omega⟩ P (λ{n d} j t O=>?_) (λ{n d} j t O=>?_) (λ{n d} j=>?_) (H.hc.gk.drop _)
  ·rw[H.hc.refs j,Q n ⟨d,j,t,O⟩];rfl
  ·show r[n]? =some d;rw[(f2 n).2 (λc=>?_)]
   ·exact M j t
   ·obtain⟨d',I,J⟩:=pQ.1 c.1;rw[M j t] at I;cases I;exact O J
  ·have j:r[n]? =some d:=j;by_cases c:n∈fi s1.2 (v:Int)/\ ∃d,s1.2[n]? =some d/\d.1=4
   ·rw[(f2 n).1 c] at j;cases j;exact .inr ⟨.inr (.inr rfl),rfl,by show 0<=(v:Int);omega,L.2⟩
   ·rw[(f2 n).2 c] at j;by_cases e: ∃l y,gh (n:Int)=some ((v:Int),l,y)
    ·rw[(F n).1 e] at j;cases j;exact .inr ⟨.inr (.inr rfl),rfl,by show 0<=(v:Int);omega,L.2⟩
    ·have C:=j;rw[(F n).2 e] at j;exact .inl ⟨j,λk=>c ⟨pQ.2 ⟨d,C,k.2⟩,d,C,k.1⟩⟩
theorem HI.OD (H:HI gh h) (a:Int): ∃fV,HI fV (vS h a)/\sx h (vS h a) (λi _=>i=a.toNat) (-1)/\(∀(f:Int) (w:Int×Nat×Int),gh f=some w->w.1≠a->fV f=some w\/jl (vS h a).s f)/\ ∀f,jl h.s f->jl (vS h a).s f:=by
 unfold vS;by_cases k:aX h.g a=true
 case neg=>rw[ao k];exact⟨gh,H,.refl _ _ _,λ_ _ h _=> .inl h,λ_ h=>h⟩
 rw[ax k];by_cases hb:pv h.s.2 a=true
 case pos=>rw[ax hb];exact⟨gh,H,.refl _ _ _,λ_ _ h _=> .inl h,λ_ h=>h⟩
 rw[ao hb];obtain⟨x,l,M,hv,N,O⟩:=cd k;obtain⟨v,rfl⟩: ∃v:Nat,a=(v:Int):=⟨a.toNat,hv.symm⟩;have l:h.g v=some x:=l;obtain⟨g1,u,⟨P,y⟩,p,z,A,B,r⟩:=HI.fg (sU h (v:Int)).length H ⟨x,l⟩ rfl
 suffices C: ∀n,HD (_root_.Go.Proofs.YteeflilbnoknnaaGreat.fg (v:Int) (sU h (v:Int)).length h).s.2 n (v:Int)->dE (jA (_root_.Go.Proofs.YteeflilbnoknnaaGreat.fg (v:Int) (sU h (v:Int)).length h)) (n:Int)=0 by
  obtain⟨D,E,E2,b,m⟩:=u.gone y p C;exact⟨D,E,B.trans E2,λf w F o=>(r.1 f w F).imp (λe=>b f w e o) (m f),λf c=>m f (r.2.1 f c)⟩
 intro n o;rcases Hr (dE (jA (_root_.Go.Proofs.YteeflilbnoknnaaGreat.fg (v:Int) (sU h (v:Int)).length h)) (n:Int)) with e|e
 ·exact e
 ·obtain⟨i,t,hi,j,G⟩:=uO e;have I:i≠v:=λc=>by rw[c,p] at j;cases j
  have J:t∈jA h i:=by
   unfold jA at j ⊢;rw[z i I] at j;exact j
  obtain⟨d,b,m,K⟩:=(A n (v:Int)).1 o;have Q:=ll (q:=λt=>t.2.2==(n:Int)) hi J G;have L:=H.hc.refs b;refine absurd ?_ hb;unfold pv;refine List.any_eq_true.2 ⟨n,pQ.2 ⟨d,b,K⟩,?_⟩;rw[ot b];have:d.2.2.1>0:=by rw[L];unfold dE;omega
  simpa using this
end
theorem vj (o pg:Int): ∀(n:Nat) (x:WD×PT),(pn o pg n x).1.1.length=x.1.1.length
 |0,x=>rfl
 |n+1,x=>by
  rw[pn,vj o pg n];exact s_ _ _ _ _ _
theorem GX (s:WD) (o r pg lv:Int) (e:ET):(oV s o r pg lv e).1.length=s.1.length:=by
 unfold oV;split
 ·show(cW _ _ _).length= _;rw[cu,vj]
 ·rfl
theorem nc (s:WD) (o r:Int) (gone:Bool) (pg f rt:Int):(ik s o r gone pg f rt).1.length=s.1.length:=by
 unfold ik;split
 ·rfl
 ·split
  ·exact GX _ _ _ _ _ _
  ·rfl
theorem GY (s:WD) (o r:Int) (gone:Bool) (pg rt:Int):(n6 s o r gone pg rt).1.length=s.1.length:=by
 unfold n6;split
 ·rfl
 split
 ·split
  ·split
   ·rfl
   ·split
    ·show(cW _ _ _).length= _;rw[cu,pO]
    ·exact pO _ _ _ _
  ·rfl
 ·rfl
theorem LP (s:WD) (r:Int) (gone:Bool):(bY s r gone).1=s.1:=by
 unfold bY;split<;>rfl
theorem xA (v:Int): ∀(n:Nat) (h:HS),(fg v n h).s.1.length=h.s.1.length
 |0,h=>rfl
 |n+1,h=>by
  rw[fg,xA v n];exact pP _ _ _ _ _
theorem OE (h:HS) (v k a b c:Int):(run h v k a b c).1.s.1.length=h.s.1.length:=by
 unfold run;split
 ·show(lF h).s.1.length= _;unfold lF;split
  ·rfl
  ·split
   ·exact D6 _ _ _
   ·rfl
 ·show(vS h a).s.1.length= _;unfold vS;split
  ·split
   ·rfl
   ·show(bY _ _ _).1.length= _;rw[LP,xA]
  ·rfl
 ·show(kl h v a b).s.1.length= _;unfold kl;split
  ·rfl
  split
  ·rfl
  split
  ·rfl
  split
  ·exact nc _ _ _ _ _ _ _
  ·exact(fM _ _ _ _).trans (nc _ _ _ _ _ _ _)
 ·show(sL h v a).s.1.length= _;unfold sL;split
  ·exact pP _ _ _ _ _
  ·rfl
 ·show(jM h v a b).s.1.length= _;unfold jM;split
  ·rfl
  split
  ·rfl
  split
  ·rfl
  ·exact GY _ _ _ _ _ _
 ·rfl
 ·show(mo h v a b).s.1.length= _;unfold mo;split
  ·rfl
  ·exact cu _ _ _
 ·show(mn h v a b c).s.1.length= _;unfold mn;split<;>rfl
 ·show(jm h v a b c).s.1.length= _;unfold jm;split
  ·rfl
  split
  ·exact nc _ _ _ _ _ _ _
  ·exact nc _ _ _ _ _ _ _
 ·show(g7 h v a).s.1.length= _;unfold g7;split
  ·rfl
  split
  ·exact pP _ _ _ _ _
  ·rfl
 ·show(lj h v a).s.1.length= _;unfold lj;split<;>rfl
 ·show(tV h v a).s.1.length= _;unfold tV;split<;>rfl
 ·show(tW h v a b).s.1.length= _;unfold tW;split
  ·rfl
  split<;>rfl
 ·show(tU h v a).s.1.length= _;unfold tU;split<;>rfl
 ·rfl
 ·show(om h v a).s.1.length= _;unfold om;split<;>rfl
 ·show(di h.s _).1.1.length= _;rw[(xh h.s _).1]
theorem BT (h:HS) (v k a b c:Int):(A5 h v k a b c).s.1.length=h.s.1.length:=by
 unfold A5;split
 ·exact OE _ _ _ _ _ _
 ·rfl
theorem Sg {h:HS} {v k a b c:Int} (f:py h v k a b c=0):(1<=k/\k<=17)/\(xZ k=false->aX h.g v=true)/\dT k a b c=true:=by
 unfold py at f;split at f
 ·exact absurd f (by decide)
 rename_i d1;split at f
 ·exact absurd f (by decide)
 rename_i j;split at f
 ·exact absurd f (by decide)
 rename_i d;have i:dT k a b c=true:=by
  cases e:dT k a b c with
  |true=>rfl
  |false=>rw[e] at d1;simp at d1
 have d0: ¬ v<0:=λe=>d1 (by simp[e]);refine⟨?_,λe=>?_,i⟩
 ·unfold dT at i;rw[E5,decide_eq_true_eq] at i;have d1:=i.1;unfold cP at d1;by_cases e:1<=k/\k<=17
  ·exact e
  ·rw[ao e] at d1;exact absurd d1 (by decide)
 ·rw[e] at j;have m:v≠0:=by
   intro l;rw[l] at j;exact absurd rfl j
  have:decide (v>0)=true:=decide_eq_true (by omega);rw[this,Bool.true_and] at d;simpa using d
section
variable {gh:Gh} {h:HS}
theorem HI.run (H:HI gh h) {v k a b c:Int} (i:1<=k/\k<=17) (d:xZ k=false->aX h.g v=true) (f:0<=a): ∃fV,HI fV (run h v k a b c).1:=by
 have:k=1\/k=2\/k=3\/k=4\/k=5\/k=6\/k=7\/k=8\/k=9\/k=10\/k=11\/k=12\/k=13\/k=14\/k=15\/k=16\/k=17:=by omega
 rcases this with rfl|rfl|rfl|rfl|rfl|rfl|rfl|rfl|rfl|rfl|rfl|rfl|rfl|rfl|rfl|rfl|rfl
 ·obtain⟨g',e, _⟩:=H.Sf (oo:=v);exact⟨g',e⟩
 ·obtain⟨g',e, _⟩:=H.OD a;exact⟨g',e⟩
 ·exact H.BR (d rfl) a b
 ·exact H.yI (d rfl) a
 ·exact H.pz (d rfl) a b
 ·exact⟨gh,H⟩
 ·exact⟨gh,(H.store (d rfl) f b).1⟩
 ·exact⟨gh,H.offer v a b c⟩
 ·exact H.take (d rfl) a b c
 ·exact H.back (d rfl) a
 ·exact⟨gh,H.R8 v a⟩
 ·refine⟨gh,?_⟩;show HI gh (tV h v a);unfold tV;split
  ·exact H.po _
  ·exact H
 ·refine⟨gh,?_⟩;show HI gh (tW h v a b);unfold tW;split
  ·exact H
  split
  ·exact H.po _
  ·exact H
 ·refine⟨gh,?_⟩;show HI gh (tU h v a);unfold tU;split
  ·exact H
  ·exact H.po _
 ·exact⟨gh,H.po _⟩
 ·refine⟨gh,?_⟩;show HI gh (om h v a);unfold om;split
  ·exact H
  ·exact H.po _
 ·exact⟨gh,H.Pt _⟩
theorem HI.step (H:HI gh h) (v k:Int) {a:Int} (b c:Int) (e:0<=a): ∃fV,HI fV (A5 h v k a b c):=by
 unfold A5;by_cases d:py h v k a b c=0
 ·rw[ax d];obtain⟨f,h2, _⟩:=Sg d;exact H.run f h2 e
 ·rw[ao d];exact⟨gh,H⟩
end
theorem HI.new {n:Nat} (r:4<=n/\n<=4096):HI Y1 (h0 n) where
 inv:=Gr (Br _) r.2
 rt:=λf o x h=>(by cases h)
 nl:=λf o l x i h=>(by cases h)
 sz:=by
  show(BA (16*n) (0:Int)).length=16*(BA n zD).length;rw[Do,Do]
 ig:=λh=>(by cases h)
 root:=λh=>(by cases h)
 own:=λh=>(by cases h)
 hc:=by
  have b: ∀i p,mM (h0 n) i p=none:=λi p=>rfl;have c: ∀i,jA (h0 n) i=[]:=λi=>rfl;have e: ∀{m:Nat} {d:DT},(BA n zD)[m]? =some d->d=zD:=λ{m d} h=>Ev (Bb h);have s: ∀{m:Nat} {x:GT},(BA 16 zG)[m]? =some x->x=zG:=λ{m d} h=>Ev (Bb h);have g: ∀q,kT (jA (h0 n)) q=0:=λq=>xr λi t j=>by rw[c i] at j;cases j
  refine⟨λh=>?_,λ{m d} h=>?_,λ{m d} h k=>?_,λh=>?_,λ{i p a f} h=>?_,λi=>?_,λh=>?_,λ{m d} h=>?_,λ{m x} h=>?_,Do,ki.new 16⟩
  ·rw[b] at h;cases h
  ·rw[e h];decide
  ·rw[e h] at k;exact absurd k (by decide)
  ·rw[b] at h;cases h
  ·rw[c i] at h;unfold bL at h;simp at h
  ·rw[c i];exact List.nodup_nil
  ·rw[b] at h;cases h
  ·rw[e h];unfold dE;rw[g];rfl
  ·rw[s h];unfold ky;rw[g];rfl
noncomputable def Y0:dn A1:={V0 with quiet:=26::V0.quiet}
theorem GZ (w:A2) (C:Bool->A2->Prop):(aJ Y0 (λ_=>[]) 28 [] w C)=(
 aB A1 6 (.bH [.one .ptr,.one (.int .i64)]) [aa 20] w λ(x:Option AX×Int×Unit) a=>aB A1 6 (.bH [.one .ptr,.one (.int .i64)]) [aa 3] a λ(k:Option AX×Int×Unit) a=>aF (x.2.1 != 0||x.1.isNone) (ak a (C false)) (aB A1 9 (.el aY) [ah x.1,aa 0,.agg ⟨[aa 1,aq 0,aq 0,aq 0]⟩] a λ(E:Int×Int×Unit) a=>aA a ⟨[aq 0,aa 0]⟩ 38 λb a=>aw a (ad b) [aq E.1,aa E.2.1] λa=>aB A1 9 (.el aY) [ah x.1,aa 0,
 .agg ⟨[aa 1,aq 0,aq 0,aq 0]⟩] a λ(F:Int×Int×Unit) a=>aA a ⟨[aq 0,aa 0]⟩ 38 λG a=>aw a (ad G) [aq F.1,aa F.2.1] λa=>aB A1 9 (.el aY) [ah x.1,aa 1,.agg ⟨[aa 3,aq 5,aq 3,aq 0]⟩] a λ(H:Int×Int×Unit) a=>aA a ⟨[aq 0,aa 0]⟩ 38 λI a=>aw a (ad I) [aq H.1,aa H.2.1] λa=>aB A1 9 (.el aY) [ah x.1,aa 1,.agg ⟨[aa 7,aq 80,aq 9,.int .u64
 0]⟩] a λ(J:Int×Int×Unit) a=>aA a ⟨[aq 0,aa 0]⟩ 38 λK a=>aw a (ad K) [aq J.1,aa J.2.1] λa=>aB A1 9 (.el aY) [ah x.1,aa 1,.agg ⟨[aa 8,aq 5,aq 2,aq 0]⟩] a λ(L:Int×Int×Unit) a=>aA a ⟨[aq 0,aa 0]⟩ 38 λM a=>aw a (ad M) [aq L.1,aa L.2.1] λa=>aB A1 9 (.el aY) [ah x.1,aa 2,.agg ⟨[aa 9,aq 0,aq 7,aq 1]⟩] a λ(N:Int×Int×Unit) a=>aA a ⟨[.int
 .u64 0,aa 0]⟩ 38 λO a=>aw a (ad O) [aq N.1,aa N.2.1] λa=>aB A1 9 (.el aY) [ah x.1,aa 2,.agg ⟨[aa 9,aq 0,aq 7,aq 0]⟩] a λ(P:Int×Int×Unit) a=>aA a ⟨[aq 0,aa 0]⟩ 38 λQ a=>aw a (ad Q) [aq P.1,aa P.2.1] λa=>aB A1 9 (.el aY) [ah x.1,aa 2,.agg ⟨[aa 6,aq 112,aq 0,aq 0]⟩] a λ(R:Int×Int×Unit) a=>aA a ⟨[aq 0,aa 0]⟩ 38 λS a=>aw a (ad S)
 [aq R.1,aa R.2.1] λa=>aB A1 9 (.el aY) [ah x.1,aa 2,.agg ⟨[aa 7,aq 112,aq 0,aq 0]⟩] a λ(T:Int×Int×Unit) a=>aA a ⟨[aq 0,aa 0]⟩ 38 λU a=>aw a (ad U) [aq T.1,aa T.2.1] λa=>aB A1 9 (.el aY) [ah x.1,aa 1,.agg ⟨[aa 4,aq 5,aq 0,aq 0]⟩] a λ(V:Int×Int×Unit) a=>aA a ⟨[aq 0,aa 0]⟩ 38 λW a=>aw a (ad W) [aq V.1,aa V.2.1] λa=>
 aB A1 9 (.el aY) [ah x.1,aa 0,.agg ⟨[aa 2,aq 1,aq 0,aq 0]⟩] a λ(X:Int×Int×Unit) a=>aA a ⟨[aq 0,aa 0]⟩ 38 λY a=>aw a (ad Y) [aq X.1,aa X.2.1] λa=>aB A1 9 (.el aY) [ah x.1,aa 2,.agg ⟨[aa 10,aq 7,aq 0,aq 0]⟩] a λ(Z:Int×Int×Unit) a=>aA a ⟨[aq 0,aa 0]⟩ 38 λT4 a=>aw a (ad T4) [aq Z.1,aa Z.2.1] λa=>aB A1 9 (.el aY) [ah x.1,.int
 .i64 0,.agg ⟨[aa 2,aq 1,aq 0,aq 0]⟩] a λ(Bv:Int×Int×Unit) a=>aA a ⟨[aq 0,aa 0]⟩ 38 λT5 a=>aw a (ad T5) [aq Bv.1,aa Bv.2.1] λa=>aB A1 9 (.el aY) [ah x.1,aa 1,.agg ⟨[aa 15,aq 0,aq 0,aq 0]⟩] a λ(Bw:Int×Int×Unit) a=>aA a ⟨[aq 0,aa 0]⟩ 38 λT6 a=>aw a (ad T6) [aq Bw.1,aa Bw.2.1] λa=>aB A1 9 (.el aY) [ah x.1,aa 0,.agg ⟨[aa 17,aq 0,.int
 .u64 0,aq 0]⟩] a λ(nq:Int×Int×Unit) a=>aA a ⟨[aq 0,aa 0]⟩ 38 λT7 a=>aw a (ad T7) [aq nq.1,aa nq.2.1] λa=>aB A1 9 (.el aY) [ah x.1,aa 2,.agg ⟨[aa 1,aq 0,aq 0,aq 0]⟩] a λ(zx:Int×Int×Unit) a=>aA a ⟨[aq 0,aa 0]⟩ 38 λT8 a=>aw a (ad T8) [aq zx.1,aa zx.2.1] λa=>aA a ⟨[aq 0,aa 0]⟩ 38 λy a=>aw a (ad y) [aq 0,aa 0] λa=>((k.2.1==1)=true->true=
 true)/\aj a (some (k.2.1==1)) (ae (ad b) 0) oT λ(l:Int)=>((k.2.1==1&&l==1)=true->true=true)/\aj a (some (k.2.1==1&&l==1)) (ae (ad G) 0) oT λ(m:Int)=>aj a (some (k.2.1==1&&l==1&&m==2)) (ad I) aY λ(c:Int×Int×Unit)=>aj a (some (k.2.1==1&&l==1&&m==2&&(c.1==2&&(c.2.1==0&&true)))) (ad K) aY λ(d:Int×Int×Unit)=>aj a (some (k.2.1==1&&l==1&&m==2&&(c.1==2&&(c.2.1==0&&true)))) (ad y) aY λ(e:Int
 ×Int×Unit)=>aj a (some (k.2.1==1&&l==1&&m==2&&(c.1==2&&(c.2.1==0&&true))&&(d.1==e.1&&(d.2.1==e.2.1&&true)))) (ad M) aY λ(f:Int×Int×Unit)=>aj a (some (k.2.1==1&&l==1&&m==2&&(c.1==2&&(c.2.1==0&&true))&&(d.1==e.1&&(d.2.1==e.2.1&&true)))) (ad y) aY λ(g:Int×Int×Unit)=>((k.2.1==1&&l==1&&m==2&&(c.1==2&&(c.2.1==0&&true))&&(d.1==e.1&&(d.2.1==e.2.1&&true))&&(f.1==g.1&&(f.2.1
 ==g.2.1&&true)))=true->true=true)/\aj a (some (k.2.1==1&&l==1&&m==2&&(c.1==2&&(c.2.1==0&&true))&&(d.1==e.1&&(d.2.1==e.2.1&&true))&&(f.1==g.1&&(f.2.1==g.2.1&&true)))) (ae (ad O) 1) aT λ(n:Int)=>aj a (some (k.2.1==1&&l==1&&m==2&&(c.1==2&&(c.2.1==0&&true))&&(d.1==e.1&&(d.2.1==e.2.1&&true))&&(f.1==g.1&&(f.2.1==g.2.1&&true))&&n==7)) (ad Q) aY λ(h:Int×Int×Unit)=>aj a (some (k.2.1==
 1&&l==1&&m==2&&(c.1==2&&(c.2.1==0&&true))&&(d.1==e.1&&(d.2.1==e.2.1&&true))&&(f.1==g.1&&(f.2.1==g.2.1&&true))&&n==7)) (ad y) aY λ(i:Int×Int×Unit)=>aj a (some (k.2.1==1&&l==1&&m==2&&(c.1==2&&(c.2.1==0&&true))&&(d.1==e.1&&(d.2.1==e.2.1&&true))&&(f.1==g.1&&(f.2.1==g.2.1&&true))&&n==7&&(h.1==i.1&&(h.2.1==i.2.1&&true)))) (ad S) aY λ(j:Int×Int×Unit)=>((k.2.1==1&&l
 ==1&&m==2&&(c.1==2&&(c.2.1==0&&true))&&(d.1==e.1&&(d.2.1==e.2.1&&true))&&(f.1==g.1&&(f.2.1==g.2.1&&true))&&n==7&&(h.1==i.1&&(h.2.1==i.2.1&&true))&&(j.1==9&&(j.2.1==0&&true)))=true->true=true)/\aj a (some (k.2.1==1&&l==1&&m==2&&(c.1==2&&(c.2.1==0&&true))&&(d.1==e.1&&(d.2.1==e.2.1&&true))&&(f.1==g.1&&(f.2.1==g.2.1&&true))&&n==7&&(h.1==i.1&&(h.2.1==i.2.1&&true))&&
 (j.1==9&&(j.2.1==0&&true)))) (ae (ad U) 1) aT λ(r:Int)=>((k.2.1==1&&l==1&&m==2&&(c.1==2&&(c.2.1==0&&true))&&(d.1==e.1&&(d.2.1==e.2.1&&true))&&(f.1==g.1&&(f.2.1==g.2.1&&true))&&n==7&&(h.1==i.1&&(h.2.1==i.2.1&&true))&&(j.1==9&&(j.2.1==0&&true))&&r==7)=true->true=true)/\aj a (some (k.2.1==1&&l==1&&m==2&&(c.1==2&&(c.2.1==0&&true))&&(d.1==e.1&&(d.2.1==e.2.1&&true))&&(f.1
 ==g.1&&(f.2.1==g.2.1&&true))&&n==7&&(h.1==i.1&&(h.2.1==i.2.1&&true))&&(j.1==9&&(j.2.1==0&&true))&&r==7)) (ae (ad W) 1) aT λ(s:Int)=>((k.2.1==1&&l==1&&m==2&&(c.1==2&&(c.2.1==0&&true))&&(d.1==e.1&&(d.2.1==e.2.1&&true))&&(f.1==g.1&&(f.2.1==g.2.1&&true))&&n==7&&(h.1==i.1&&(h.2.1==i.2.1&&true))&&(j.1==9&&(j.2.1==0&&true))&&r==7&&s==9)=true->true=true)/\aj a (some (k.2.1
 ==1&&l==1&&m==2&&(c.1==2&&(c.2.1==0&&true))&&(d.1==e.1&&(d.2.1==e.2.1&&true))&&(f.1==g.1&&(f.2.1==g.2.1&&true))&&n==7&&(h.1==i.1&&(h.2.1==i.2.1&&true))&&(j.1==9&&(j.2.1==0&&true))&&r==7&&s==9)) (ae (ad Y) 1) aT λ(u:Int)=>aj a (some (k.2.1==1&&l==1&&m==2&&(c.1==2&&(c.2.1==0&&true))&&(d.1==e.1&&(d.2.1==e.2.1&&true))&&(f.1==g.1&&(f.2.1==g.2.1&&true))&&n==7&&
 (h.1==i.1&&(h.2.1==i.2.1&&true))&&(j.1==9&&(j.2.1==0&&true))&&r==7&&s==9&&u==9)) (ad T4) aY λ(o:Int×Int×Unit)=>aj a (some (k.2.1==1&&l==1&&m==2&&(c.1==2&&(c.2.1==0&&true))&&(d.1==e.1&&(d.2.1==e.2.1&&true))&&(f.1==g.1&&(f.2.1==g.2.1&&true))&&n==7&&(h.1==i.1&&(h.2.1==i.2.1&&true))&&(j.1==9&&(j.2.1==0&&true))&&r==7&&s==9&&u==9)) (ad y) aY λ(p:Int×Int×Unit)=>
 aj a (some (k.2.1==1&&l==1&&m==2&&(c.1==2&&(c.2.1==0&&true))&&(d.1==e.1&&(d.2.1==e.2.1&&true))&&(f.1==g.1&&(f.2.1==g.2.1&&true))&&n==7&&(h.1==i.1&&(h.2.1==i.2.1&&true))&&(j.1==9&&(j.2.1==0&&true))&&r==7&&s==9&&u==9&&(o.1==p.1&&(o.2.1==p.2.1&&true)))) (ad T5) aY λ(q:Int×Int×Unit)=>((k.2.1==1&&l==1&&m==2&&(c.1==2&&(c.2.1==0&&true))&&(d.1==e.1&&(d.2.1==e.2.1
 &&true))&&(f.1==g.1&&(f.2.1==g.2.1&&true))&&n==7&&(h.1==i.1&&(h.2.1==i.2.1&&true))&&(j.1==9&&(j.2.1==0&&true))&&r==7&&s==9&&u==9&&(o.1==p.1&&(o.2.1==p.2.1&&true))&&(q.1==1&&(q.2.1==0&&true)))=true->true=true)/\aj a (some (k.2.1==1&&l==1&&m==2&&(c.1==2&&(c.2.1==0&&true))&&(d.1==e.1&&(d.2.1==e.2.1&&true))&&(f.1==g.1&&(f.2.1==g.2.1&&true))&&n==7&&(h.1==i.1&&(h.2.1
 ==i.2.1&&true))&&(j.1==9&&(j.2.1==0&&true))&&r==7&&s==9&&u==9&&(o.1==p.1&&(o.2.1==p.2.1&&true))&&(q.1==1&&(q.2.1==0&&true)))) (ae (ad T6) 1) aT λ(v:Int)=>aj a (some (k.2.1==1&&l==1&&m==2&&(c.1==2&&(c.2.1==0&&true))&&(d.1==e.1&&(d.2.1==e.2.1&&true))&&(f.1==g.1&&(f.2.1==g.2.1&&true))&&n==7&&(h.1==i.1&&(h.2.1==i.2.1&&true))&&(j.1==9&&(j.2.1==0&&true))&&r==7&&s==9
 &&u==9&&(o.1==p.1&&(o.2.1==p.2.1&&true))&&(q.1==1&&(q.2.1==0&&true))&&v==4)) (ad T7) aY λ(t:Int×Int×Unit)=>((k.2.1==1&&l==1&&m==2&&(c.1==2&&(c.2.1==0&&true))&&(d.1==e.1&&(d.2.1==e.2.1&&true))&&(f.1==g.1&&(f.2.1==g.2.1&&true))&&n==7&&(h.1==i.1&&(h.2.1==i.2.1&&true))&&(j.1==9&&(j.2.1==0&&true))&&r==7&&s==9&&u==9&&(o.1==p.1&&(o.2.1==p.2.1&&true))&&(q.1==1
 &&(q.2.1==0&&true))&&v==4&&(t.1==8&&(t.2.1==0&&true)))=true->true=true)/\aj a (some (k.2.1==1&&l==1&&m==2&&(c.1==2&&(c.2.1==0&&true))&&(d.1==e.1&&(d.2.1==e.2.1&&true))&&(f.1==g.1&&(f.2.1==g.2.1&&true))&&n==7&&(h.1==i.1&&(h.2.1==i.2.1&&true))&&(j.1==9&&(j.2.1==0&&true))&&r==7&&s==9&&u==9&&(o.1==p.1&&(o.2.1==p.2.1&&true))&&(q.1==1&&(q.2.1==0&&true))&&v==4&&(t.1==8
 &&(t.2.1==0&&true)))) (ae (ad T8) 1) aT λ(z:Int)=> ∃A,((k.2.1==1&&l==1&&m==2&&(c.1==2&&(c.2.1==0&&true))&&(d.1==e.1&&(d.2.1==e.2.1&&true))&&(f.1==g.1&&(f.2.1==g.2.1&&true))&&n==7&&(h.1==i.1&&(h.2.1==i.2.1&&true))&&(j.1==9&&(j.2.1==0&&true))&&r==7&&s==9&&u==9&&(o.1==p.1&&(o.2.1==p.2.1&&true))&&(q.1==1&&(q.2.1==0&&true))&&v==4&&(t.1==8&&(t.2.1==0&&true))&&z==
 7)=true->ag A1 18 [ah x.1,aa 1] a (.bool A))/\ ∃B,((k.2.1==1&&l==1&&m==2&&(c.1==2&&(c.2.1==0&&true))&&(d.1==e.1&&(d.2.1==e.2.1&&true))&&(f.1==g.1&&(f.2.1==g.2.1&&true))&&n==7&&(h.1==i.1&&(h.2.1==i.2.1&&true))&&(j.1==9&&(j.2.1==0&&true))&&r==7&&s==9&&u==9&&(o.1==p.1&&(o.2.1==p.2.1&&true))&&(q.1==1&&(q.2.1==0&&true))&&v==4&&(t.1==8&&(t.2.1==0&&true))&&
 z==7&& !A)=true->ag A1 18 [ah x.1,aa 2] a (.bool B))/\ ∃(D:Int),((k.2.1==1&&l==1&&m==2&&(c.1==2&&(c.2.1==0&&true))&&(d.1==e.1&&(d.2.1==e.2.1&&true))&&(f.1==g.1&&(f.2.1==g.2.1&&true))&&n==7&&(h.1==i.1&&(h.2.1==i.2.1&&true))&&(j.1==9&&(j.2.1==0&&true))&&r==7&&s==9&&u==9&&(o.1==p.1&&(o.2.1==p.2.1&&true))&&(q.1==1&&(q.2.1==0&&true))&&v==4&&(t.1==8&&
 (t.2.1==0&&true))&&z==7&& !A&&B)=true->ag A1 20 [ah x.1,aa 1] a (aa D))/\ ∃T9,((k.2.1==1&&l==1&&m==2&&(c.1==2&&(c.2.1==0&&true))&&(d.1==e.1&&(d.2.1==e.2.1&&true))&&(f.1==g.1&&(f.2.1==g.2.1&&true))&&n==7&&(h.1==i.1&&(h.2.1==i.2.1&&true))&&(j.1==9&&(j.2.1==0&&true))&&r==7&&s==9&&u==9&&(o.1==p.1&&(o.2.1==p.2.1&&true))&&(q.1==1&&(q.2.1==0&&true))&&
 v==4&&(t.1==8&&(t.2.1==0&&true))&&z==7&& !A&&B&&D== -1)=true->ag A1 26 [ah x.1,aa 1,aa 2] a (.bool T9))/\ak a λw1=>C (k.2.1==1&&l==1&&m==2&&(c.1==2&&(c.2.1==0&&true))&&(d.1==e.1&&(d.2.1==e.2.1&&true))&&(f.1==g.1&&(f.2.1==g.2.1&&true))&&n==7&&(h.1==i.1&&(h.2.1==i.2.1&&true))&&(j.1==9&&(j.2.1==0&&true))&&r==7&&s==9&&u==9&&(o.1==p.1&&(o.2.1==
 p.2.1&&true))&&(q.1==1&&(q.2.1==0&&true))&&v==4&&(t.1==8&&(t.2.1==0&&true))&&z==7&& !A&&B&&D== -1&& !T9) w1)):=by kernel_rfl
abbrev CQ:Type:=Int×Int×Int×Int×Int
def dQ (h:HS) (q:CQ):HS:=A5 h q.1 q.2.1 q.2.2.1 q.2.2.2.1 q.2.2.2.2
def rQ (h:HS) (q:CQ):Int×Int:=(Qi h q.1 q.2.1 q.2.2.1 q.2.2.2.1 q.2.2.2.2,Qh h q.1 q.2.1 q.2.2.1 q.2.2.2.1 q.2.2.2.2)
def runs:List CQ->HS->List (Int×Int)
 |[], _=>[]
 |q::l,h=>rQ h q::runs l (dQ h q)
def ends (l:List CQ) (h:HS):HS:=l.foldl dQ h
def kq:List CQ:=[(0,1,0,0,0),(0,1,0,0,0),(1,3,5,3,0),(1,7,80,9,0),(1,8,5,2,0),(2,9,0,7,1),(2,9,0,7,0),(2,6,112,0,0),(2,7,112,0,0),(1,4,5,0,0),(0,2,1,0,0),(2,10,7,0,0),(0,2,1,0,0),(1,15,0,0,0),(0,17,0,0,0),(2,1,0,0,0)]
theorem Si:runs kq (h0 20)=[(1,0),(2,0),(2,0),(0,0),(0,0),(0,7),(0,0),(9,0),(0,7),(0,9),(0,9),(0,0),(1,0),(0,4),(8,0),(0,7)]:=by decide+kernel
theorem OF:aX (ends kq (h0 20)).g 1=false:=by decide+kernel
theorem OG:aX (ends kq (h0 20)).g 2=true:=by decide+kernel
theorem OH:a6 (ends kq (h0 20)).g 1= -1:=by decide+kernel
theorem Yc:(ends kq (h0 20)).gr=BA 16 zG:=by decide+kernel
theorem Ye:(ends kq (h0 20)).po=Po.k0:=by decide+kernel
section
variable {Q:Sys} {X:HX} {D G:List Nat} {w0 w:A2} {h:HS} {L:List (Nat×List A3)}
namespace dA
theorem front (H:dA Q X D G w0 w h L): ∃A,wc A h/\SM Q D G w0 w h.s (L++dC Q X A h (aW Q A h.g (A9 17))) (de A h.g (A9 17)):=by
 have a:dA Q X D G w0 w h (L++[]):=by rw[C7];exact H
 obtain⟨A,W,H⟩:=dA.to a;rw[C7] at H;exact⟨A,W,H⟩
theorem pB {A:Nat->GA} (W:wc A h) (H:SM Q D G w0 w h.s (L++dC Q X A h (aW Q A h.g (A9 17))) (de A h.g (A9 17))):dA Q X D G w0 w h L:=by
 have:dA Q X D G w0 w h (L++[]):=dA.of W (by rw[C7];exact H);rwa[C7] at this
theorem cX (H:dA Q X D G w0 w h L) {i b:Nat} {l:List A3} (a:L[i]? =some (b,l)):bh w b l:=by
 obtain⟨A,W,H⟩:=H.front;exact H.base.get (by rw[EH (AC.1 a).1];exact a)
theorem ld (i:Nat) (H:dA Q X D G w0 w h L) {g:Option Bool} {el:El} {K:el.T->Prop} {b o:Nat} {l:List A3} {x:el.T} (a:L[i]? =some (b,l)) (hv:l5 l o el=some x) (k:K x):aj w g (some ⟨b,o,none⟩) el K:=
 aj.of x (bI (H.cX a) hv) k
theorem bW (i:Nat) (H:dA Q X D G w0 w h L) {g:Option Bool} {el:El} {K:el.T->Prop} {b o n:Nat} {l:List A3} {x:el.T} (a:L[i]? =some (b,l)) (hv:l5 l (o+n) el=some x) (k:K x):aj w g (ae (some ⟨b,o,none⟩) n) el K:=by
 rw[aL];exact H.ld i a hv k
theorem en (H:dA Q X D G w0 w h L) {K:A2->Prop} (k: ∀w1,dA Q X D G w0 w1 h L->K w1):ak w K:=λ_ h=>k _ (H.ext h)
theorem al (H:dA Q X D G w0 w h L) {cs:List A3} {e:TypeId} {K:Nat->A2->Prop} (k: ∀b w1,dA Q X D G w0 w1 h ((b,cs)::L)->K b w1):aA w ⟨cs⟩ e K:=by
 obtain⟨A,W,H⟩:=H.front;obtain⟨a,S,J⟩:=H.call;exact S.al λb w1 S=>k b w1 (pB W (J S))
theorem dx (i:Nat) (H:dA Q X D G w0 w h L) {b:Nat} {l a:List A3} {K:A2->Prop} (c:L[i]? =some (b,l)) (d:a.all (·.oneCell')=true) (e:a.length=l.length)
 (k: ∀w1,dA Q X D G w0 w1 h (L.set i (b,a))->K w1):aw w (ad b) a K:=by
 have hi:=(AC.1 c).1;obtain⟨A,W,H⟩:=H.front;obtain⟨f,S,J⟩:=H.call;refine S.dx i (by rw[EH hi];exact c) d e λw1 S=>k w1 (pB W (J ?_));rw[HB _ _ hi] at S;exact S
theorem all (H:dA Q X [] [] w0 w h L):Ext w0 w:=by
 obtain⟨A,W,H⟩:=H;obtain⟨_, _, _, _,ca,la,K⟩:=H;exact K.all
theorem Pu (H:dA Q X D G w0 w h L) (v:Int):ag A1 18 [ah (ad X.hb),aa v] w (.bool (aX h.g v)):=by
 obtain⟨A,W,H⟩:=H;exact mU H.base (X:=X) (A:=A) (g:=h.g) A_ v
theorem Vb (H:dA Q X D G w0 w h L) (v:Int):ag A1 20 [ah (ad X.hb),aa v] w (aa (a6 h.g v)):=by
 obtain⟨A,W,H⟩:=H;exact DX H.base (X:=X) (A:=A) (g:=h.g) A_ (bF W []) v
end dA
structure Good (Q:Sys) (h:HS):Prop where
 hi: ∃gh,HI gh h
 Ma:EC Q h.s
theorem Good.step (g:Good Q h) (v k:Int) {a:Int} (b c:Int) (d:0<=a):Good Q (A5 h v k a b c):=by
 obtain⟨gh,H⟩:=g.hi;refine⟨H.step v k b c d,?_,?_⟩
 ·show(A5 h v k a b c).s.1.length<= _;rw[BT];exact g.Ma.1
 ·show(A5 h v k a b c).s.1.length<= _;rw[BT];exact g.Ma.2
theorem Good.new {n:Nat} (a:4<=n/\n<=4096) (b:Q.c=16*n):Good Q (h0 n):=by
 refine⟨⟨_,HI.new a⟩,?_,?_⟩
 ·show(BA (16*n) (0:Int)).length<=Q.c;rw[Do,b];exact Br _
 ·show(BA (16*n) (0:Int)).length<= _;rw[Do];omega
theorem T_ (H:dA Q X D G w0 w h L) (g:Good Q h) (v k:Int) {a b c:Int} (e:0<=a/\a<18446744073709551616) (hb:0<=b/\b<18446744073709551616) (hc:0<=c/\c<18446744073709551616) {K:RS->A2->Prop}
 (kk: ∀d,Good Q (A5 h v k a b c)->dA Q X D G w0 d (A5 h v k a b c) L->K (Qi h v k a b c,Qh h v k a b c,()) d):
 aB A1 9 (.el (.agg gY)) [ah (ad X.hb),aa v,.agg ⟨fk k a b c⟩] w K:=λw1 f=>by
 obtain⟨gh,I⟩:=g.hi;exact R5 (H.ext f) (I.rdy g.Ma) v k e hb hc λd H=>kk d (g.step v k b c e.1) H
structure SP (l:List CQ) (rs:List (Int×Int)) (h:HS):Prop where
 r:runs l h=rs
 l1:aX (ends l h).g 1=false
 l2:aX (ends l h).g 2=true
 rt:a6 (ends l h).g 1= -1
 gr:(ends l h).gr=BA 16 zG
 po:(ends l h).po=Po.k0
theorem SP.step {q:CQ} {l:List CQ} {V E:Int} {rs:List (Int×Int)} (k:SP (q::l) ((V,E)::rs) h):(Qi h q.1 q.2.1 q.2.2.1 q.2.2.2.1 q.2.2.2.2=V/\Qh h q.1 q.2.1 q.2.2.1 q.2.2.2.1 q.2.2.2.2=E)/\SP l rs (dQ h q):=by
 obtain⟨r,l1,l2,rt,gr,po⟩:=k;have r:rQ h q::runs l (dQ h q)=(V,E)::rs:=r;obtain⟨a,b⟩:=List.cons.inj r;refine⟨⟨congrArg (·.1) a,congrArg (·.2) a⟩,b,l1,l2,rt,gr,po⟩
theorem nu (H:dA Q X D G w0 w h L) (g:Good Q h) {v k a b c V E:Int} {l:List CQ} {rs:List (Int×Int)} (i:SP ((v,k,a,b,c)::l) ((V,E)::rs) h) (j:0<=a/\a<18446744073709551616) (hb:0<=b/\b<18446744073709551616) (hc:0<=c/\c<18446744073709551616) {e:TypeId} {K:RS->Nat->A2->Prop}
 (kk: ∀h' f d,SP l rs h'->Good Q h'->dA Q X D G w0 d h' ((f,[aq V,aa E])::L)->K (V,E,()) f d):
 aB A1 9 (.el (.agg gY)) [ah (ad X.hb),aa v,.agg ⟨fk k a b c⟩] w λx d=>aA d ⟨[aq 0,aa 0]⟩ e λf d=>aw d (ad f) [aq x.1,aa x.2.1] λd=>K x f d:=by
 obtain⟨⟨m,n⟩,o⟩:=i.step;refine T_ H g v k j hb hc λd p H=>?_;rw[show Qi h v k a b c=V from m,show Qh h v k a b c=E from n];exact H.al λf r H=>H.dx 0 rfl rfl rfl λq H=>kk _ f q o p H
end
theorem G1 {a b:Int} (h:a≠b):tY (BA 16 zG) Po.k0 a b=false:=by
 cases e:tY (BA 16 zG) Po.k0 a b with
 |false=>rfl
 |true=>
  obtain⟨_, _,j⟩:=xq.1 e;refine absurd (j.inv (λv=>v=a) rfl λu v g he=>?_) (λc=>h c.symm);rcases he with he|he
  ·obtain⟨_, _,d⟩:=qX.1 he;refine d.inv (λv=>v=a) g λu v _ he=>?_;obtain⟨x,k,f, _⟩:=he;exact absurd (Ev k) f
  ·obtain⟨_, _,d⟩:=Po.qW.1 he;have l: ∀u v,¬ Po.Ed 4 Po.k0 u v:=λu v he=>by
    obtain⟨i, _,f, _⟩:=he;refine f ?_;unfold Po.gp Po.k0;rw[List.getD_eq_getElem?_getD,List.getElem?_replicate];split<;>rfl
   exact d.inv (λv=>v=a) g λu v he=>absurd he (l u v)
theorem G5 (w:A2):ar A1 28 (.el (.one .bool)) [] w (λb w'=>b=true/\Ext w w'):=by
 refine ai (C:=Y0) (aM:=λ_=>[]) (Bd (GZ w _) ?_);have H0:=At.start [] w;refine yF H0 20 (λc=>by omega) λ_ _ Q X w1 e H=>?_;rw[show((20:Int)).toNat=20 from rfl] at e H;have g:=Good.new (Q:=Q) (n:=20) (by decide) e;have a:SP kq _ (h0 20):=⟨Si,OF,OG,OH,Yc,Ye⟩;generalize h0 20=h at H g a;refine λf h2=>ai (C:=V0) (aM:=λ_=>[]) (Bd (DQ 3 f _) (ay rfl λj i=>?_));have H:=(H.ext h2).ext i;refine an rfl ?_;refine nu H g a (by decide) (by decide) (by decide) λh k d a g H=>?_;refine nu H g a (by decide) (by decide) (by decide) λh l d a g H=>?_;refine nu H g a (by decide) (by decide) (by decide) λh m d a g H=>?_;refine nu H g a (by decide) (by decide) (by decide) λh o d a g H=>?_;refine nu H g a (by decide) (by decide) (by decide) λh p d a g H=>?_;refine nu H g a (by decide) (by decide) (by decide) λh q d a g H=>?_;refine nu H g a (by decide) (by decide) (by decide) λh r d a g H=>?_;refine nu H g a (by decide) (by decide) (by decide) λh s d a g H=>?_;refine nu H g a (by decide) (by decide) (by decide) λh t d a g H=>?_;refine nu H g a (by decide) (by decide) (by decide) λh u d a g H=>?_;refine nu H g a (by decide) (by decide) (by decide) λh v d a g H=>?_;refine nu H g a (by decide) (by decide) (by decide) λh x d a g H=>?_;refine nu H g a (by decide) (by decide) (by decide) λh y d a g H=>?_;refine nu H g a (by decide) (by decide) (by decide) λh z d a g H=>?_;refine nu H g a (by decide) (by decide) (by decide) λh A d a g H=>?_;refine nu H g a (by decide) (by decide) (by decide) λh B d a g H=>?_;obtain⟨_,l1,l2,rt,gr,po⟩:=a;have l1:aX h.g 1=false:=l1;have l2:aX h.g 2=true:=l2;have rt:a6 h.g 1= -1:=rt;have gr:h.gr=BA 16 zG:=gr;have po:h.po=Po.k0:=po;refine H.al λD E H=>H.dx 0 rfl rfl rfl λF H=>?_;refine⟨λ_=>rfl,H.bW 16 rfl rfl ⟨λ_=>rfl,H.bW 15 rfl rfl (H.ld 14 rfl (show _=some (2,0,()) from rfl) (H.ld 13 rfl (show _=some (0,0,()) from rfl) (H.ld 0 rfl (show _=some (0,0,()) from rfl) (H.ld 12 rfl (show _=some (0,0,()) from rfl) (H.ld 0 rfl (show _=some (0,0,()) from rfl) ⟨λ_=>rfl,H.bW 11 rfl rfl (H.ld 10 rfl (show _=some (0,0,()) from rfl) (H.ld 0 rfl (show _=some (0,0,()) from rfl) (H.ld 9 rfl (show _=some (9,0,()) from rfl) ?_)))⟩)))))⟩⟩;refine⟨λ_=>rfl,H.bW 8 rfl rfl ⟨λ_=>rfl,H.bW 7 rfl rfl ⟨λ_=>rfl,H.bW 6 rfl rfl (H.ld 5 rfl (show _=some (0,0,()) from rfl) (H.ld 0 rfl (show _=some (0,0,()) from rfl) (H.ld 4 rfl (show _=some (1,0,()) from rfl) ⟨λ_=>rfl,H.bW 3 rfl rfl (H.ld 2 rfl (show _=some (8,0,()) from rfl) ⟨λ_=>rfl,H.bW 1 rfl rfl ?_⟩)⟩)))⟩⟩⟩;refine⟨false,λ_=>by rw[<-l1];exact H.Pu 1,true,λ_=>by rw[<-l2];exact H.Pu 2,-1,λ_=>by rw[<-rt];exact H.Vb 1,false,λ_=>?_,H.en λG H=>⟨rfl,H.all⟩⟩;have:=GJ H 1 2;rw[gr,po,G1 (by decide)] at this;exact this
set_option maxRecDepth 100000
open Go.RX D
section
variable {gh fV:Gh} {h:HS}
structure aah (h h':HS) (f o b:Int):Prop where
 g:h'.g=h.g
 gr:h'.gr=h.gr
 po:h'.po=h.po
 pg: ∀{i:Nat} {q:Int},lN h' i q=lN h i q
 ds:h'.s.2=h.s.2
 ld: ∀q,dB h'.s.1 q=if q=16*f+o then b else dB h.s.1 q
end
section
variable {gh:Gh} {h:HS} {v k a b c:Int} {l:List Int}
structure WS (h:HS) (v:Int) (l:List Int):Prop where
 hi: ∃gh,HI gh h
 lv:aX h.g 1=true
 tk:jA h 1=[]
 ct:4*12<=cz h.s.2 0+4*l.length
 pg: ∀a∈l, ∃f,lN h 1 a=(f,3,0,())/\dB h.s.1 (16*f+3)=aC .u64 v a/\dB h.s.1 (16*f+4)=0
 no: ∀a,(lN h 1 a).2.2.1=0->a∈l
end
section
variable {gh:Gh} {h:HS} {v k a b c:Int}
structure LS (n:Nat) (h:HS):Prop where
 hi: ∃gh,HI gh h
 g1: ∃x,h.g 1=some x
 go: ∀i,i≠1->h.g i=none
 ln:h.s.2.length=n
theorem OI (H: ∃gh,HI gh h) (d:0<=a):(A5 h v k a b c).s.2.length=h.s.2.length:=by
 obtain⟨gh,H⟩:=H;obtain⟨fV,e⟩:=H.step v k b c d;have f:=H.sz;have h2:=e.sz;rw[BT] at h2;omega
end
theorem Yf {x:Int} (h:(Lit.int .u8 x).wf=true):0<=x/\x<256:=by
 simp[Lit.wf,I1,I2,EA,EB] at h;omega
theorem Vc {x:Int} (h: -9223372036854775808<=x) (h':x<9223372036854775808):aD .i64 x=x:=dZ h h'
theorem Vd {x d:Int} (h:0<=x):gu x d=x % d:=by unfold gu;exact Hq h
abbrev Xs:List Sc:=[.int .i64,.int .i64,.int .u64,.int .u64,.int .u64]
section
variable {Q:Sys} {X:HX} {D G:List Nat} {w0 w:A2} {h:HS} {L:List (Nat×List A3)}
theorem yJ {a:Int} (h:(Lit.int .u64 a).wf=true):0<=a/\a<18446744073709551616:=by
 simp[Lit.wf,I1,I2,EA,EB] at h;omega
theorem Sj {w w1:A2} (h:Ext w w1):aB A1 28 (.el (.one .bool)) [] w1 λ(x:Bool) (a:A2)=>ak a λ(w1:A2)=>x=true/\Ext w w1:=
 aB.val ((At.start [] w).ext h) (s:= .el (.one .bool)) true (λb _=>G5 b) λc H=>ak.go H λd H=>⟨rfl,H.all⟩
namespace dA
theorem yl (H:dA Q X D G w0 w h L) {K:Option AX->A2->Prop} (k: ∀a b d e c,dA Q X D G w0 c h ((a,[.slice (ad b) h.s.2.length d])::(b,flat eD h.s.2++e)::L)->K (ad a) c):
 aB A1 14 (.el (.one .ptr)) [ah (ad X.hb)] w K:=by
 obtain⟨A,W,H⟩:=H.front;obtain⟨f,S,J⟩:=H.call;exact CK S (X:=X) (A:=A) (g:=h.g) (by simp) λa b d e c S=>k a b d e c (pB W (J S))
theorem memory (H:dA Q X D G w0 w h L) {K:Option AX->A2->Prop} (k: ∀a,dA Q X D G w0 a h L->K (ad Q.bm) a):
 aB A1 12 (.el (.one .ptr)) [ah (ad X.hb)] w K:=by
 obtain⟨A,W,H⟩:=H.front;obtain⟨b,S,J⟩:=H.call;exact CL S (X:=X) (A:=A) (g:=h.g) (by simp) λa S=>k a (pB W (J S))
end dA
end
set_option maxRecDepth 100000
open Go.RX
noncomputable def K0:dn A1:={H0 with quiet:=[91,29,92]}
theorem OJ (n:Int) (w:A2) (c:ByteArray->A2->Prop):(aJ K0 (λ_=>[]) 97 [aq n] w c)=(
 aF (decide (n<10)) (aA w ⟨[.int .u8 (aD .u8 (aC .u64 48 n))]⟩ 5 λb a=> ∃(s:ByteArray),sB a (ad b) 1 s/\ak a (c s)) ((aB A1 97 (.el (.one .str)) [aq (nh .u64 n 10)] w λx a=>True/\True/\True/\aA a ⟨[.int .u8 (aD .u8 (aC .u64 48 (gu n 10)))]⟩ 5 λb a=> ∃(s:ByteArray),sB a (ad b) 1 s/\(↑(x.size+s.size):Int)<=9223372036854775807/\ak a (c (x++s)))/\aA w ⟨[.int .u8 (aD .u8 (aC .u64 48 (gu n 10)))]⟩ 5 λb a=> ∃(s:ByteArray),sB a (ad b) 1 s/\aB A1 97 (.el (.one .str)) [aq (nh
 .u64 n 10)] a λx a=>sB a (ad b) 1 s/\True/\True/\True/\(↑(x.size+s.size):Int)<=9223372036854775807/\ak a (c (x++s)))):=by kernel_rfl
def qo:Nat->aV:=(λ|7=>[(4,Go.RX.El.one Go.RX.Sc.str),(23,Go.RX.El.one (Go.RX.Sc.int ED))]| _=>[])
abbrev sm (j:ByteArray->A2->Prop) (k:A2) (f:Nat) (g:ByteArray×Int×Unit) (l:Nat):Prop:=
 aw k (ad f) [.string g.1,aa g.2.1] λa=>true=true/\aj a none (ae (ad f) 0) (.one .str) λx=>aj a none (ad l) nm λ(d:Int×Int×Int×Int×Unit)=> ∃(c:Int×Int×Int×Unit),ag A1 92 [.agg ⟨[aa d.1,aq d.2.1,aq d.2.2.1,aq d.2.2.2.1]⟩] a (.agg ⟨[aq c.1,aq c.2.1,aq c.2.2.1]⟩)/\aA a ⟨[aq 0,aq 0,aq 0]⟩ 184 λb a=>aw a (ad b) [aq c.1,aq c.2.1,aq c.2.2.1] λa=>true=true/\aQ a (ae (ad f) 1)
 λe=>(true=true/\0<=(↑0:Int)/\(↑0:Int)<=e/\e<=(↑3:Int)/\(↑3:Int)<=(↑3:Int))/\ ∃(I:Nat->ByteArray×Int×Unit->A2->Prop),(∃n, ∀w1,Ext a w1->I n (x,0,()) w1)/\ ∀(n:Nat) (s:ByteArray×Int×Unit) (w1:A2),I n s w1->aF (decide (s.2.1<(↑(e.toNat - (↑0:Int).toNat):Int))) (((ae (ad b) 0).isSome=true/\0<=s.2.1/\s.2.1<(↑(e.toNat - 0):Int))/\aj w1 none (ae (ae (ad b) 0) (Et s.2.1*1)) oT λ(x:Int)=>aB A1 97 (.el (.one .str)) [aq x] w1 λx a=>(↑(1+x.size):Int)<=
 9223372036854775807/\(↑(ByteArray.size s.1+({data:=⟨[32]⟩}++x).size):Int)<=9223372036854775807/\ ∀h,Ext a h-> ∃(i:Nat),i<n/\I i (s.1++({data:=⟨[32]⟩}++x),aC .i64 s.2.1 1,()) h) (ak w1 (j s.1))
theorem LQ (k a b c:Int) (w:A2) (f:ByteArray->A2->Prop):(aJ K0 qo 31 [.agg ⟨[aa k,aq a,aq b,aq c]⟩] w f)=(
 aA w ⟨[aa k,aq a,aq b,aq c]⟩ 34 λb d=>aj d none (ad b) nm λ(x:Int×Int×Int×Int×Unit)=> ∃i,ag A1 29 [.agg ⟨[aa x.1,aq x.2.1,aq x.2.2.1,aq x.2.2.2.1]⟩] d (.bool i)/\aF (!i) (ak d λw1=>f {data:=⟨[]⟩} w1) (true=true/\aQ d (ae (ad b) 0) λx=>(aB A1 96 (.el EG) [] d λg d=>cI d (ae (ad b) 0) aT x/\True/\ ∃(e:ByteArray×Int×Unit),jg d g .i64 x (.agg {toList:=[.string {data:=⟨[]⟩},aa 0]}) (.agg ⟨[.string
 e.1,aa e.2.1]⟩)/\aA d {toList:=[.string {data:=⟨[]⟩},aa 0]} 192 λh d=>sm f d h e b)/\aA d {toList:=[.string {data:=⟨[]⟩},aa 0]} 192 λh d=>aB A1 96 (.el EG) [] d λg d=>cI d (ae (ad b) 0) aT x/\True/\ ∃(e:ByteArray×Int×Unit),jg d g .i64 x (.agg {toList:=[.string {data:=⟨[]⟩},aa 0]}) (.agg ⟨[.string e.1,aa e.2.1]⟩)/\sm f d h e b)):=by kernel_rfl
def mE:Nat->aV:=(λ|2=>[(8,Go.RX.El.one (Go.RX.Sc.int ED))]| _=>[])
theorem Eh (s:ByteArray) (w:A2) (b:ByteArray×ByteArray×Bool×Unit->A2->Prop):(aJ K0 mE 93 [.string s] w b)=(
 ∃(I:Nat->Int×Unit->A2->Prop),(∃n, ∀w1,Ext w w1->I n (0,()) w1)/\ ∀(n:Nat) (a:Int×Unit) (w1:A2),I n a w1->aF (decide (a.1<(↑s.size:Int))) ((0<=a.1/\a.1<(↑s.size:Int))/\aF (zC s a.1==32) ((0<=(↑0:Int)/\(↑0:Int)<=a.1/\a.1<=(↑s.size:Int))/\(0<=aC .i64 a.1 1/\aC .i64 a.1 1<=(↑s.size:Int)/\(↑s.size:Int)<=(↑s.size:Int))/\ak w1 (b (s.extract 0 (Et a.1),s.extract (aC .i64 a.1 1).toNat (↑s.size:Int).toNat,true,()))) (∀c,Ext w1 c-> ∃(d:Nat),d<n/\I d (aC
 .i64 a.1 1,()) c)) (ak w1 (b (s,{data:=⟨[]⟩},false,())))):=by kernel_rfl
def so:Nat->aV:=(λ|3=>[(4,Go.RX.El.one (Go.RX.Sc.int H6))]| _=>[])
theorem OK (s:ByteArray) (w:A2) (e:Int×Bool×Unit->A2->Prop):(aJ K0 so 95 [.string s] w e)=(
 ∀w1,Ext w w1-> ∃(I:Nat->Int×Unit->A2->Prop),(∃n, ∀b,Ext (w1.alloc (Obj.stringIter s 0)) b->I n (0,()) b)/\ ∀(n:Nat) (d:Int×Unit) (b:A2),I n d b->Ym b (ad w1.heap.size) (λa=>aB A1 97 (.el (.one .str)) [aq d.1] a λx a=>ak a (e (d.1,x==s,()))) λ(i c:Nat) a=>aF (decide ((↑c:Int)<48)||decide ((↑c:Int)>57)) (ak a (e (0,false,()))) (∀f,Ext a f-> ∃(g:Nat),g<n/\I g (aC .u64 (dO .u64 10 d.1) (aD .u64 (bK .i32 (↑c:Int)
 48)),()) f)):=by kernel_rfl
def nR:Nat->aV:=(λ|2=>[]| _=>[])
theorem G6 (s:ByteArray) (w:A2) (c:Int->A2->Prop):(aJ K0 nR 94 [.string s] w c)=(
 aB A1 96 (.el EG) [] w λx a=>VZ a x λb a=> ∃(I:Nat->Unit->A2->Prop),(∃n, ∀w1,Ext a w1->I n () w1)/\ ∀(n:Nat) (f:Unit) (w1:A2),I n f w1->V3 w1 (ad b) (λa=>ak a (c (-1))) λ(k v:A3) a=> ∃(x:Int), ∃(y:ByteArray×Int×Unit),zm a (ad b) (aa x) (.agg ⟨[.string y.1,aa y.2.1]⟩)/\aA a {toList:=[.string {data:=⟨[]⟩},aa 0]} 192 λb a=>aw a (ad b) [.string y.1,aa y.2.1] λa=>true=true/\aj a none (ae (ad b) 0) (.one .str) λg=>aF (g==s)
 (ak a (c x)) (∀d,Ext a d-> ∃(e:Nat),e<n/\I e () d)):=by kernel_rfl
def nS:Nat->aV:=(λ|7=>[(5,Go.RX.El.one Go.RX.Sc.str),(6,Go.RX.El.one Go.RX.Sc.bool),(9,Go.RX.El.one (Go.RX.Sc.int ED))]| _=>[])
abbrev qp (b:(Int×Int×Int×Int×Unit)×Int×Unit->A2->Prop) (c:A2) (a:Nat):Prop:=
 aw c (ad a) [aa 0,aq 0,aq 0,aq 0] λd=>ak d λw1=>aj w1 none (ad a) nm λ(x:Int×Int×Int×Int×Unit)=>b ((x.1,x.2.1,x.2.2.1,x.2.2.2.1,()),11,()) w1
theorem G7 (s:ByteArray) (w:A2) (c:(Int×Int×Int×Int×Unit)×Int×Unit->A2->Prop):(bO K0 nS 30 [.string s] w c)=(
 aA w ⟨[aa 0,aq 0,aq 0,aq 0]⟩ 34 λb a=>aB A1 93 (.bH [.one .str,.one .str,.one .bool]) [.string s] a λx a=>aB A1 94 (.el aT) [.string x.1] a λ(d:Int) a=>aF (d== -1) (aw a (ad b) [aa 0,aq 0,aq 0,aq 0] λa=>ak a λw1=>aj w1 none (ad b) nm λ(x:Int×Int×Int×Int×Unit)=>c ((x.1,x.2.1,x.2.2.1,x.2.2.2.1,()),4,()) w1) (aA a ⟨[aq 0,aq 0,aq 0]⟩ 184 λe a=> ∃(I:Nat->ByteArray×Bool×Int×Unit->A2->
 Prop),(∃n, ∀w1,Ext a w1->I n (x.2.1,x.2.2.1,0,()) w1)/\ ∀(n:Nat) (s:ByteArray×Bool×Int×Unit) (w1:A2),I n s w1-> ∃(x:Int),(s.2.1=true->ag A1 91 [aa d] w1 (aa x))/\aF (s.2.1&&decide (s.2.2.1<x)) (aB A1 93 (.bH [.one .str,.one .str,.one .bool]) [.string s.1] w1 λx a=>aB A1 95 (.bH [.one (.int .u64),.one .bool]) [.string x.1] a λ(f:Int×Bool×Unit) a=>aF (!f.2.1) (qp c a b) ((true=true/\0<=s.2.2.1/\s.2.2.1<(↑3:Int))/\aw a (ae (ad e) (Et s.2.2.1*
 1)) [aq f.1] λa=> ∀g,Ext a g-> ∃(h:Nat),h<n/\I h (x.2.1,x.2.2.1,aC .i64 s.2.2.1 1,()) g)) (∃(x:Int),((!s.2.1)=true->ag A1 91 [aa d] w1 (aa x))/\aF (s.2.1||decide (s.2.2.1<x)) (qp c w1 b) ((true=true/\(0:Int)<=0/\0<(↑3:Int))/\cg w1 (ae (ad e) 0) λx=>(true=true/\(0:Int)<=1/\1<(↑3:Int))/\cg w1 (ae (ad e) 1) λf=>(true=true/\(0:Int)<=2/\2<(↑3:Int))/\cg w1 (ae (ad e) 2) λi=>aw w1 (ad b) [aa d,aq x,aq f,
 aq i] λa=>ak a λw1=>aj w1 none (ad b) nm λ(x:Int×Int×Int×Int×Unit)=>c ((x.1,x.2.1,x.2.2.1,x.2.2.2.1,()),0,()) w1)))):=by kernel_rfl
def bS (l:List UInt8):ByteArray:=⟨⟨l⟩⟩
theorem ym (a b:List UInt8):bS a++bS b=bS (a++b):=by
 apply ByteArray.ext;rw[ByteArray.data_append];simp[bS]
theorem jR (l:List UInt8):(bS l).size=l.length:=rfl
theorem Jk (l:List UInt8) (i j:Nat):(bS l).extract i j=bS ((l.take j).drop i):=by
 apply ByteArray.ext;rw[ByteArray.data_extract];simp[bS,List.extract_eq_take_drop,List.drop_take]
theorem yK {l:List UInt8} {i:Nat} {x:UInt8} (h:l[i]? =some x):zC (bS l) (i:Int)=(x.toNat:Int):=by
 unfold zC bS;rw[Bp,h];rfl
theorem Ei {a:Int} (h:0<=a/\a<256):aD .u8 a=a:=by
 unfold aD;simp only[H7,EA,EB];simp;omega
theorem wy {a:Int} (h:0<=a) (h':a<18446744073709551616):H6.wrap a=a:=by
 simp only[H7,EA,EB];simp;omega
theorem Ua {w:A2} {b:Nat} {v:Int} (H:bh w b [.int .u8 v]):sB w (ad b) 1 (bS [Bg v.toNat]):=
 ⟨[v],rfl,rfl,⟨_,rfl⟩,λi x a=>by
  cases i with
  |zero=>cases a;rw[aL];exact bI H rfl
  |succ i=>cases a⟩
def iy (n:Nat):List UInt8:=if a:n<10 then[Bg (48+n)] else iy (n / 10)++[Bg (48+n % 10)]
termination_by n
theorem pC {n:Nat} (h:n<10):iy n=[Bg (48+n)]:=by rw[iy,dif_pos h]
theorem tf {n:Nat} (h: ¬ n<10):iy n=iy (n / 10)++[Bg (48+n % 10)]:=by rw[iy,dif_neg h]
theorem AF (n:Nat):(iy n).length<=n / 2+1:=by
 induction n using H5 with
 | _ n a=>
   by_cases h:n<10
   ·rw[pC h];exact Ht _ _
   ·rw[tf h,DA,Eo];have:=a (n / 10) (by omega);omega
def n9 (l:List UInt8):Nat:=l.foldl (λa d=>10*a+(d.toNat - 48)) 0
theorem AG (l:List UInt8) (d:UInt8):n9 (l++[d])=10*n9 l+(d.toNat - 48):=by
 unfold n9;rw[HH];rfl
theorem Zk {m:Nat} (h:m<10):(Bg (48+m)).toNat=48+m:=by
 rw[UInt8.toNat_ofNat'];omega
theorem Ej (n:Nat):n9 (iy n)=n/\ ∀d∈iy n,48<=d.toNat/\d.toNat<=57:=by
 induction n using H5 with
 | _ n c=>
   by_cases h:n<10
   ·rw[pC h];have b:=Zk h;refine⟨?_,λd a=>?_⟩
    ·show 10*0+((Bg (48+n)).toNat - 48)=n;omega
    ·rw[HL.1 a];omega
   ·rw[tf h];obtain⟨e,h2⟩:=c (n / 10) (by omega);have b:=Zk (show n % 10<10 by omega);refine⟨?_,λd a=>?_⟩
    ·rw[AG,e,b];omega
    ·rcases DB.1 a with a|a
     ·exact h2 d a
     ·rw[HL.1 a];omega
theorem Jl: ∀(l:List UInt8) (a:Nat),a<=l.foldl (λa d=>10*a+(d.toNat - 48)) a
 |[], _=>Br _
 |d::l,a=>H4 (by omega) (Jl l (10*a+(d.toNat - 48)))
theorem LR (l:List UInt8) (k:Nat):n9 (l.take k)<=n9 l:=by
 have e:n9 l=(l.drop k).foldl (λa d=>10*a+(d.toNat - 48)) (n9 (l.take k)):=by
  unfold n9;rw[<-HH,List.take_append_drop]
 rw[e];exact Jl _ _
theorem Jm (l:List UInt8):(bS l==bS l)=true:=by
 show((⟨l⟩:Array UInt8)==⟨l⟩)=true;exact beq_self_eq_true _
theorem Ek (n:Nat) (q:n<18446744073709551616) (w:A2):ar A1 97 (.el (.one .str)) [aq (n:Int)] w (λx w'=>x=bS (iy n)/\Ext w w'):=by
 induction n using H5 generalizing w with
 | _ n g=>
   refine ai (C:=K0) (aM:=λ_=>[]) (Bd (OJ (n:Int) w _) ?_);have H:=At.start [] w;by_cases h:n<10
   ·refine ay (decide_eq_true (by omega)) (aA.go H λb a H=>⟨_,Ua (H.cX (b, _) A_),λc d=>⟨?_,(H.ext d).all⟩⟩);rw[show aC .u64 48 (n:Int)=48+(n:Int) from wy (by omega) (by omega),Ei (by omega),pC h];congr 2
   ·have k:nh .u64 (n:Int) 10=((n / 10:Nat):Int):=by
     show(H6).wrap (Int.tdiv (n:Int) 10)= _;rw[Int.tdiv_eq_ediv_of_nonneg (by omega)];exact(wy (by omega) (by omega)).trans (by omega)
    have l:aD .u8 (aC .u64 48 (gu (n:Int) 10))=((48+n % 10:Nat):Int):=by
     have:gu (n:Int) 10=((n % 10:Nat):Int):=by unfold gu;rw[Hq (by omega)];omega
     rw[this,show aC .u64 48 ((n % 10:Nat):Int)=48+((n % 10:Nat):Int) from wy (by omega) (by omega),Ei (by omega)];omega
    rw[k,l];have i:(((bS (iy (n / 10))).size+(bS [Bg (48+n % 10)]).size:Nat):Int)<=9223372036854775807:=by
     rw[jR,jR,Eo];have:=AF (n / 10);omega
    have j:bS (iy (n / 10))++bS [Bg (48+n % 10)]=bS (iy n):=by rw[ym, <-tf h]
    have hb: ∀{a:A2} {b:Nat},bh a b [.int .u8 ((48+n % 10:Nat):Int)]->sB a (ad b) 1 (bS [Bg (48+n % 10)]):=λH=>by
     have:=Ua H;rwa[Bp] at this
    refine an (decide_eq_false (by omega)) ⟨λw1 m=>(g (n / 10) (by omega) (by omega) w1).mono λx a ⟨e,h2⟩=>?_,aA.go H λb a H=>⟨_,hb (H.cX (b, _) A_),λc d=>(g (n / 10) (by omega) (by omega) c).mono λx o ⟨e,f⟩=>?_⟩⟩
    ·subst e;exact⟨trivial,trivial,trivial,aA.go (H.ext (m.trans h2)) λb c H=>⟨_,hb (H.cX (b, _) A_),i,λo f=>⟨j,(H.ext f).all⟩⟩⟩
    ·subst e;have H:=(H.ext d).ext f;exact⟨hb (H.cX (b, _) A_),trivial,trivial,trivial,i,λr p=>⟨j,(H.ext p).all⟩⟩
theorem OL {l:List UInt8} (h:(32:UInt8)∉l) (j:l.length<9223372036854775807) (w:A2):ar A1 93 (.bH [.one .str,.one .str,.one .bool]) [.string (bS l)] w (λx w'=>x=(bS l,bS [],false,())/\Ext w w'):=by
 refine ai (C:=K0) (aM:=mE) (Bd (Eh (bS l) w _) ?_);rw[jR];refine⟨λn st w'=> ∃i:Nat,st.1=(i:Int)/\i<=l.length/\n=l.length - i/\Ext w w',⟨l.length,λw1 b=>⟨0,rfl,by omega,rfl,b⟩⟩,?_⟩;rintro n ⟨d, _⟩ w1 ⟨i,hi,k,f,a⟩;have hi:d=(i:Int):=hi;subst hi f;dsimp only;refine ab (λc=>?_) (λc=>λg h2=>⟨rfl,a.trans h2⟩);have c:i<l.length:=by have:=of_decide_eq_true c;omega
 refine⟨⟨by omega,by omega⟩,an ?_ λg h2=>⟨l.length - (i+1),by omega,i+1,by rw[av (by omega) (by omega)];omega,by omega,rfl,a.trans h2⟩⟩;rw[yK (B1 c),beq_eq_false_iff_ne];intro e;refine h ?_;have:l[i]=32:=Ho.1 (by show l[i].toNat=32;omega);rw[<-this];exact Ey c
theorem LU {a b:List UInt8} (h:(32:UInt8)∉a) (p:a.length+b.length<9223372036854775800) (w:A2):ar A1 93 (.bH [.one .str,.one .str,.one .bool]) [.string (bS (a++32::b))] w (λx w'=>x=(bS a,bS b,true,())/\Ext w w'):=by
 refine ai (C:=K0) (aM:=mE) (Bd (Eh (bS (a++32::b)) w _) ?_);have d:(a++(32:UInt8)::b).length=a.length+b.length+1:=by rw[DA,Dn];omega
 rw[jR,d];refine⟨λn st w'=> ∃i:Nat,st.1=(i:Int)/\i<=a.length/\n=a.length - i/\Ext w w',⟨a.length,λw1 g=>⟨0,rfl,by omega,rfl,g⟩⟩,?_⟩;rintro n ⟨j, _⟩ w1 ⟨i,hi,q,k,f⟩;have hi:j=(i:Int):=hi;subst hi k;dsimp only;refine ay (decide_eq_true (by omega)) ⟨⟨by omega,by omega⟩,?_⟩;by_cases c:i<a.length
 ·refine an ?_ λl h2=>⟨a.length - (i+1),by omega,i+1,by rw[av (by omega) (by omega)];omega,by omega,rfl,f.trans h2⟩;rw[yK (x:=a[i]) (by rw[EH c];exact B1 c),beq_eq_false_iff_ne];intro e;refine h ?_;have:a[i]=32:=Ho.1 (by show a[i].toNat=32;omega);rw[<-this];exact Ey c
 ·have:i=a.length:=by omega
  subst this;rw[av (by omega) (by omega)];refine ay ?_ ⟨⟨by omega,by omega,by omega⟩,⟨by omega,by omega,by omega⟩,λl h2=>⟨?_,f.trans h2⟩⟩
  ·rw[yK (x:=32) (by rw[List.getElem?_append_right (Br _),Nat.sub_self];rfl)];rfl
  ·rw[Jk,Jk,Bp,show(((a.length:Nat):Int)+1).toNat=a.length+1 by omega,Bp];have m:((a++(32:UInt8)::b).take a.length).drop 0=a:=by rw[List.drop_zero,List.take_left]
   have o:((a++(32:UInt8)::b).take (a.length+b.length+1)).drop (a.length+1)=b:=by
    rw[<-d,HO,show a.length+1=(a++[(32:UInt8)]).length by rw[DA];rfl,show a++(32:UInt8)::b=(a++[32])++b by simp,List.drop_left]
   rw[m,o]
theorem OM (n:Nat) (g:n<18446744073709551616) (w:A2):ar A1 95 (.bH [.one (.int .u64),.one .bool]) [.string (bS (iy n))] w (λx w'=>x=((n:Int),true,())/\Ext w w'):=by
 refine ai (C:=K0) (aM:=so) (Bd (OK (bS (iy n)) w _) ?_);obtain⟨hv,b⟩:=Ej n;have h:=AF n;intro w1 j;have H:=(gW.of ((At.start [] w).ext j)).alloc (o:= .stringIter (bS (iy n)) 0) trivial;obtain⟨r,k⟩: ∃r,r=w1.heap.size:=⟨_,rfl⟩;rw[<-k] at H ⊢;obtain⟨l,d⟩: ∃l,l=iy n:=⟨_,rfl⟩;rw[<-d] at hv b H h ⊢;refine⟨λm st w'=> ∃i:Nat,st.1=(n9 (l.take i):Int)/\i<=l.length/\m=l.length - i/\gW [] [] w w' [] [(r,.stringIter (bS l) i)],⟨l.length,λp h2=>⟨0,rfl,by omega,rfl,H.ext h2⟩⟩,?_⟩;clear H;rintro m ⟨q, _⟩ p ⟨i,hi,B,s,H⟩;have hi:q=(n9 (l.take i):Int):=hi;subst hi s;dsimp only;intro D t;have H:=H.ext t;refine⟨r,bS l,i,rfl,H.get (i:=0) rfl,λc=>?_,λc=>?_⟩
 ·have e:i=l.length:=by rw[jR] at c;omega
  subst e;rw[HO,hv];refine λf a=>(Ek n g f).mono λx E ⟨e,u⟩ F v=>?_;subst e;rw[<-d];exact⟨by rw[Jm],((H.ext a).ext (u.trans v)).all⟩
 ·have c:i<l.length:=c;have G:=b l[i] (Ey c);have y:Utf8.decode (bS l) i=(l[i].toNat,1):=decode_ascii (bS l) i c (by show l[i].toNat<128;omega);have z:n9 (l.take (i+1))=10*n9 (l.take i)+(l[i].toNat - 48):=by
   rw[HP,B1 c];exact AG _ _
  have I:=LR l (i+1);rw[y];dsimp only;refine an ?_ λf a=>⟨l.length - (i+1),by omega,i+1,?_,by omega,rfl,(H.put (i:=0) rfl (o':= .stringIter (bS l) (i+1)) trivial).ext a⟩
  ·rw[Hz,decide_eq_false_iff_not,decide_eq_false_iff_not];omega
  ·have A:bK .i32 (l[i].toNat:Int) 48=((l[i].toNat - 48:Nat):Int):=by
    show(IntKind.i32).wrap _= _;simp only[H7,EA,EB];simp;omega
   rw[A,show aD .u64 ((l[i].toNat - 48:Nat):Int)= _ from wy (by omega) (by omega),show dO .u64 10 ((n9 (l.take i):Nat):Int)=10*((n9 (l.take i):Nat):Int) from wy (by omega) (by omega),z];exact(wy (by omega) (by omega)).trans (by omega)
open Go.RX D
section
variable {D G:List Nat} {w0 w w1:A2} {L L0 Ls:List (Nat×List A3)}
theorem gW.Pv {M1 M2 g:List (Nat×Obj)} {L':List (Nat×List A3)} (H:gW D G w0 w L (M1++M2)) (K:gW [] (L.map (·.1)++M1.map (·.1)) w w1 L' g):gW D G w0 w1 L' (g++M2):=by
 have f:=H.nd;rw[FS,GS] at f;have h: ∀x∈L.map (·.1)++M1.map (·.1),w0.heap.size<=x\/x∈G:=λx c=>by
  rcases DB.1 c with c|c
  ·obtain⟨y,d,rfl⟩:=B3.1 c;exact H.base.own y d
  ·obtain⟨y,d,rfl⟩:=B3.1 c;exact H.own y (Bq _ d)
 have i: ∀x,w.heap.size<=x\/x∈L.map (·.1)++M1.map (·.1)->w0.heap.size<=x\/x∈G:=λx c=>by
  rcases c with c|c
  ·exact .inl (H4 H.base.fr.size c)
  ·exact h x c
 have j: ∀r∈D,r∉L.map (·.1)++M1.map (·.1):=λr k c=>by
  rcases DB.1 c with c|c
  ·obtain⟨y,d,e⟩:=B3.1 c;exact aH.cN (H.base.cX y d) (H.base.nv r k).2 (λ_ _ _ hc=>by cases hc) e
  ·obtain⟨y,d,e⟩:=B3.1 c;exact H.nD y (Bq _ d) (by rw[e];exact k)
 have h2: ∀y∈M2,y.1∉L.map (·.1)++M1.map (·.1):=λy d c=>by
  rcases DB.1 c with c|c
  ·obtain⟨x,c,e⟩:=B3.1 c;exact H.BJ c (DS _ d) e
  ·exact f.2.2 _ c _ (B3.2 ⟨y,d,rfl⟩) rfl
 have l: ∀y∈M2,y.1<w.heap.size:=λy d=>(Array.getElem?_eq_some_iff.1 (H.obj y (DS _ d)).1).1;refine⟨H.base.frame K.base.fr h j K.base.cX (λx c=>i _ (K.base.own x c)) K.base.nd,λx c=>?_,λx c=>?_,?_,λx c=>?_⟩
 ·rcases DB.1 c with c|c
  ·exact K.obj x c
  ·obtain⟨n,o⟩:=H.obj x (DS _ c);exact⟨by rw[K.base.fr.block x.1 (l x c) (h2 x c)];exact n,o⟩
 ·rcases DB.1 c with c|c
  ·exact i _ (K.own x c)
  ·exact H.own x (DS _ c)
 ·rw[FS,GS];refine⟨K.nd,f.2.1,λa p b hb e=>?_⟩;subst e;obtain⟨x,c,rfl⟩:=B3.1 p;obtain⟨y,d,e⟩:=B3.1 hb;rcases K.own x c with q|q
  ·have:=l y d;omega
  ·exact h2 y d (by rw[e];exact q)
 ·rcases DB.1 c with c|c
  ·intro m;rcases K.own x c with q|q
   ·have:=(Array.getElem?_eq_some_iff.1 (H.base.nv _ m).2).1;omega
   ·exact j _ m q
  ·exact H.nD x (DS _ c)
theorem gW.Jn {M1 M2:List (Nat×Obj)} (H:gW D G w0 w L (M1++M2)):gW [] (L.map (·.1)++M1.map (·.1)) w w L M1:=by
 have b:=H.nd;rw[FS,GS] at b;exact⟨⟨Fr.refl _ w,H.base.cX,λx a=> .inr (Bq _ (B3.2 ⟨x,a,rfl⟩)),H.base.nd,λx a=>(by cases a)⟩,λx a=>H.obj x (Bq _ a),λx a=> .inr (DS _ (B3.2 ⟨x,a,rfl⟩)),b.1,λx a=>Gi⟩
end
theorem ua {α:Type} {l1 l2:List α} (h: ∀[BEq α] [LawfulBEq α] (a:α),l1.count a=l2.count a):l1.Perm l2:=by
 letI:DecidableEq α:=λa b=>Classical.propDecidable (a=b)
 exact List.perm_iff_count.2 λa=>h a
abbrev Xt (Q:Sys) (X:HX) (A:Nat->GA) (ca la:Int) (h:HS):List (Nat×List A3):=Q.L ca la h.s (dC Q X A h (aW Q A h.g (A9 17)))
def zS (s:WD):Prop:=0<s.1.length/\0<s.2.length/\s.2.length<=4096/\okW s.1
def TH (Q:Sys) (X:HX) (Q2:Sys) (X2:HX) (w0 w:A2) (h h2:HS) (T:List (Nat×List A3)):Prop:=
 ∃(A a:Nat->GA) (ca la b c:Int),wc A h/\wc a h2/\zS h.s/\zS h2.s/\gW [] [] w0 w (T++(Xt Q X A ca la h++Xt Q2 X2 a b c h2)) (de A h.g (A9 17)++de a h2.g (A9 17))
section
variable {Q:Sys} {X:HX} {Q2:Sys} {X2:HX} {w0 w w1:A2} {h h2:HS} {T:List (Nat×List A3)}
theorem TH.ext (H:TH Q X Q2 X2 w0 w h h2 T) (e:Ext w w1):TH Q X Q2 X2 w0 w1 h h2 T:=by
 obtain⟨A,f,ca,la,g,i,a,b,c,d,H⟩:=H;exact⟨A,f,ca,la,g,i,a,b,c,d,H.ext e⟩
theorem TH.all (H:TH Q X Q2 X2 w0 w h h2 T):Ext w0 w:=by
 obtain⟨A,e,ca,la,f,g,a,b,c,d,H⟩:=H;exact H.all
theorem TH.swap (H:TH Q X Q2 X2 w0 w h h2 T):TH Q2 X2 Q X w0 w h2 h T:=by
 obtain⟨A,e,ca,la,f,g,a,b,c,d,H⟩:=H;exact⟨e,A,f,g,ca,la,b,a,d,c,(H.perm (ua λa=>by simp only[Di];omega)).pj (ua λa=>by simp only[Di];omega)⟩
theorem TH.hv (H:TH Q X Q2 X2 w0 w h h2 T): ∃i L',dA Q X [] i w w h (T++L')/\ ∀{e h' T'},dA Q X [] i w e h' (T'++L')->TH Q X Q2 X2 w0 e h' h2 T':=by
 obtain⟨A,f,ca,la,j,k,a,b,c,d,H⟩:=H;have l:gW [] [] w0 w (Q.L ca la h.s (dC Q X A h (aW Q A h.g (A9 17)++(T++Xt Q2 X2 f j k h2)))) (de A h.g (A9 17)++de f h2.g (A9 17)):=
  H.perm (ua λa=>by simp only[Sys.L,Di,Es];omega)
 refine⟨_, _,⟨A,a,c.1,c.2.1,c.2.2.1,c.2.2.2,ca,la,gW.Jn l⟩,λ{e h' T'} K=>?_⟩;obtain⟨A',m,S⟩:=K;have n:zS h'.s:=⟨S.pos,S.zw,S.le,S.P5⟩;obtain⟨_, _, _, _,o,p,K⟩:=S;have K:=gW.Pv l K;exact⟨A',f,o,p,j,k,m,b,n,d,K.perm (ua λa=>by simp only[Sys.L,Di,Es];omega)⟩
theorem TH.new {h:HS} (H:dA Q X [] [] w0 w h []) {f:Nat} (o:4<=f/\f<=4096) {K:Option AX×Int×Unit->A2->Prop}
 (k: ∀Q2 X2 e,Q2.c=16*f->TH Q X Q2 X2 w0 e h (h0 f) []->K (some ⟨X2.hb,0,none⟩,0,()) e):
 aB A1 6 (.bH [.one .ptr,.one (.int .i64)]) [aa (f:Int)] w K:=by
 obtain⟨A,a,S⟩:=H;have c:zS h.s:=⟨S.pos,S.zw,S.le,S.P5⟩;obtain⟨_, _, _, _,ca,la,H⟩:=S;have i:gW [] [] w0 w (Q.L ca la h.s (dC Q X A h (aW Q A h.g (A9 17)++[]))) ([]++de A h.g (A9 17)):=H;refine yF (gW.Jn i).base (f:Int) (λc=>by omega) λ_ _ Q2 X2 e j K=>?_;rw[Bp] at K j;refine k Q2 X2 e j ?_;obtain⟨l,b,S⟩:=K;have d:zS (h0 f).s:=⟨S.pos,S.zw,S.le,S.P5⟩;obtain⟨_, _, _, _,m,n,K⟩:=S;have K:=gW.Pv i K;refine⟨A,l,ca,la,m,n,a,b,c,d,?_⟩;exact(K.perm (ua λa=>by simp only[Sys.L,Di,Es,List.count_nil];omega)).pj (ua λa=>by simp only[Di];omega)
end
def nT:Nat->aV:=(λ|7=>[(10,Go.RX.El.one (Go.RX.Sc.int ED))]|17=>[(16,Go.RX.El.one (Go.RX.Sc.int ED))]| _=>[])
theorem G8 (n:Int) (p:Option AX) (m c:Nat) (w:A2) (i:Bool->A2->Prop):(aJ Y0 nT 4 [.int .u8 n,.slice p m c] w i)=(
 aB A1 6 (.bH [.one .ptr,.one (.int .i64)]) [aa (aC .i64 4 (gu (aD .i64 n) 60))] w λ(x:Option AX×Int×Unit) a=>aB A1 6 (.bH [.one .ptr,.one (.int .i64)]) [aa (aC .i64 4 (gu (aD .i64 n) 60))] a λ(q:Option AX×Int×Unit) a=>aF (x.2.1 != 0||q.2.1 != 0||x.1.isNone||q.1.isNone) (ak a (i false)) (∃(I:Nat->Int×Unit->A2->Prop),(∃n, ∀w1,Ext a w1->I n (0,()) w1)/\ ∀(t:Nat) (s:Int×Unit) (w1:A2),I t s w1->aF (decide (s.1<(↑m:Int))&&decide (s.1<40)) ((p.isSome=
 true/\0<=s.1/\s.1<(↑m:Int))/\aj w1 none (ae p (Et s.1*5)) (.agg [.int .i64,.int .i64,.int .u64,.int .u64,.int .u64]) λ(j:Int×Int×Int×Int×Int×Unit)=>aA w1 ⟨[aa 0,aa 0,aq 0,aq 0,aq 0]⟩ 36 λb a=>aw a (ad b) [aa j.1,aa j.2.1,aq j.2.2.1,aq j.2.2.2.1,aq j.2.2.2.2.1] λa=>true=true/\aj a none (ae (ad b) 1) nm λ(l:Int×Int×Int×Int×Unit)=> ∃e,ag A1 29 [.agg ⟨[aa l.1,aq l.2.1,aq l.2.2.1,
 aq l.2.2.2.1]⟩] a (.bool e)/\aF (!e) (∀f,Ext a f-> ∃(g:Nat),g<t/\I g (aC .i64 s.1 1,()) f) (true=true/\aj a none (ae (ad b) 1) nm λ(h:Int×Int×Int×Int×Unit)=>aB A1 31 (.el (.one .str)) [.agg ⟨[aa h.1,aq h.2.1,aq h.2.2.1,aq h.2.2.2.1]⟩] a λz a=>aB A1 30 (.bH [.agg [.int .i64,.int .u64,.int .u64,.int .u64],.one (.int .i64)]) [.string z] a λ(d:(Int×Int×Int×Int×Unit)×Int×Unit) a=>aA a ⟨[aa 0,aq 0,aq 0,.int
 .u64 0]⟩ 34 λk a=>aw a (ad k) [aa d.1.1,aq d.1.2.1,aq d.1.2.2.1,aq d.1.2.2.2.1] λa=>((!d.2.1 != 0)=true->true=true)/\aj a (some !d.2.1 != 0) (ae (ad b) 0) aT λ(A:Int)=>((!d.2.1 != 0)=true->true=true)/\aj a (some !d.2.1 != 0) (ae (ad b) 1) nm λ(r:Int×Int×Int×Int×Unit)=>((!d.2.1 != 0)=true->true=true)/\aj a (some !d.2.1 != 0) (ae (ad b) 0) aT λ(u:Int)=>aj a (some !d.2.1 != 0) (ad k) nm λ(o:Int×Int×Int×Int×Unit)=>aF (d.2.1
 != 0) (((!d.2.1 != 0)=true->cI a (ad k) nm o)/\((!d.2.1 != 0)=true->cI a (ae (ad b) 0) aT u)/\True/\ak a (i false)) (aB A1 9 (.el aY) [ah x.1,aa A,.agg ⟨[aa r.1,aq r.2.1,aq r.2.2.1,aq r.2.2.2.1]⟩] a λ(x:Int×Int×Unit) a=>((!d.2.1 != 0)=true->cI a (ad k) nm o)/\((!d.2.1 != 0)=true->cI a (ae (ad b) 0) aT u)/\True/\aB A1 9 (.el aY) [ah q.1,aa u,.agg ⟨[aa o.1,aq o.2.1,aq o.2.2.1,.int
 .u64 o.2.2.2.1]⟩] a λ(v:Int×Int×Unit) a=>aF (!(x.1==v.1&&(x.2.1==v.2.1&&true))) (ak a (i false)) (∀f,Ext a f-> ∃(g:Nat),g<t/\I g (aC .i64 s.1 1,()) f)))) (aB A1 14 (.el jW) [ah x.1] w1 λj a=>aB A1 14 (.el jW) [ah q.1] a λl a=> ∃(I:Nat->Int×Unit->A2->Prop),(∃n, ∀w1,Ext a w1->I n (0,()) w1)/\ ∀(y:Nat) (s:Int×Unit) (w1:A2),I y s w1->aF (decide (s.1<aC .i64 4 (gu (aD .i64 n) 60))) (∃(x:(Int×Int×Int×Int×Unit)×Bool×
 Unit),ag A1 32 [ah j,aa s.1] w1 (.tuple {toList:=[.agg ⟨[aa x.1.1,aa x.1.2.1,aa x.1.2.2.1,aa x.1.2.2.2.1]⟩,.bool x.2.1]})/\aA w1 ⟨[aa 0,aa 0,aa 0,aa 0]⟩ 79 λb a=>aw a (ad b) [aa x.1.1,aa x.1.2.1,aa x.1.2.2.1,aa x.1.2.2.2.1] λa=> ∃(x:(Int×Int×Int×Int×Unit)×Bool×Unit),ag A1 32 [ah l,aa s.1] a (.tuple {toList:=[.agg ⟨[aa x.1.1,aa x.1.2.1,aa x.1.2.2.1,aa x.1.2.2.2.1]⟩,.bool
 x.2.1]})/\aA a ⟨[aa 0,aa 0,aa 0,aa 0]⟩ 79 λk a=>aw a (ad k) [aa x.1.1,aa x.1.2.1,aa x.1.2.2.1,aa x.1.2.2.2.1] λa=>aj a none (ad b) cY λ(x:Int×Int×Int×Int×Unit)=>aj a none (ad k) cY λ(e:Int×Int×Int×Int×Unit)=>aF (!(x.1==e.1&&(x.2.1==e.2.1&&(x.2.2.1==e.2.2.1&&(x.2.2.2.1==e.2.2.2.1&&true))))) (ak a (i false)) (∀f,Ext a f-> ∃(g:Nat),g<y/\I g (aC .i64 s.1 1,()) f)) (aB A1 12 (.el jW) [ah x.1] w1 λ
 x a=>aB A1 16 (.el jD) [ah x,aa 0,aa (dO .i64 16 (aC .i64 4 (gu (aD .i64 n) 60)))] a λx a=>aB A1 12 (.el jW) [ah q.1] a λe a=>aB A1 16 (.el jD) [ah e,aa 0,aa (dO .i64 16 (aC .i64 4 (gu (aD .i64 n) 60)))] a λh a=>aB A1 15 (.el nk) [.slice x.1 x.2.1 x.2.2,.slice h.1 h.2.1 h.2.2] a λx a=>aF x (aB A1 28 (.el nk) [] a λx a=>ak a (i x)) (ak a (i false)))))):=by kernel_rfl
def BU:List (List UInt8):=[[99,114,101,97,116,101],[100,101,115,116,114,111,121],[100,111,110,97,116,101],[114,101,99,108,97,105,109],[112,114,111,116,101,99,116],[108,111,97,100],[115,116,111,114,101],[111,102,102,101,114],[116,97,107,101],[98,97,99,107],[114,101,118,111,107,101],[111,112,101,110],[98,105,110,100],[115,101,110,100],[112,111,108,108],[99,108,111,115,101],[115,119,101,101,112]]
def gJ (k:Int):List UInt8:=BU.getD (k - 1).toNat []
theorem xB {e:MapEntry} (a:e∈b_.toList): ∃(j:Int) (b:Nat),e=cQ j (bS (gJ j)) (cP j) b/\(1<=j/\j<=17)/\(b:Int)=j - 1:=by
 have a:e∈[cQ 1 ⟨⟨[99,114,101,97,116,101]⟩⟩ 0 0,cQ 2 ⟨⟨[100,101,115,116,114,111,121]⟩⟩ 1 1,cQ 3 ⟨⟨[100,111,110,97,116,101]⟩⟩ 2 2,cQ 4 ⟨⟨[114,101,99,108,97,105,109]⟩⟩ 1 3,cQ 5 ⟨⟨[112,114,111,116,101,99,116]⟩⟩ 2 4,cQ 6 ⟨⟨[108,111,97,100]⟩⟩ 1 5,cQ 7 ⟨⟨[115,116,111,114,101]⟩⟩ 2 6,cQ 8 ⟨⟨[111,102,102,101,114]⟩⟩ 3 7,cQ 9 ⟨⟨[116,97,107,101]⟩⟩ 3 8,cQ 10 ⟨⟨[98,97,99,107]⟩⟩ 1 9,cQ 11 ⟨⟨[114,101,118,111,107,101]⟩⟩ 1 10,cQ 12 ⟨⟨[111,112,101,110]⟩⟩ 1 11,cQ 13 ⟨⟨[98,105,110,100]⟩⟩ 2 12,cQ 14 ⟨⟨[115,101,110,100]⟩⟩ 1 13,cQ 15 ⟨⟨[112,111,108,108]⟩⟩ 0 14,cQ 16 ⟨⟨[99,108,111,115,101]⟩⟩ 1 15,cQ 17 ⟨⟨[115,119,101,101,112]⟩⟩ 0 16]:=a;simp only[EF,Gi,or_false] at a;rcases a with rfl|rfl|rfl|rfl|rfl|rfl|rfl|rfl|rfl|rfl|rfl|rfl|rfl|rfl|rfl|rfl|rfl
 all_goals exact⟨_, _,rfl,by decide,by decide⟩
theorem LV {k:Int} (a:1<=k/\k<=17):b_.toList[(k - 1).toNat]? =some (cQ k (bS (gJ k)) (cP k) (k - 1).toNat):=by
 have:k=1\/k=2\/k=3\/k=4\/k=5\/k=6\/k=7\/k=8\/k=9\/k=10\/k=11\/k=12\/k=13\/k=14\/k=15\/k=16\/k=17:=by omega
 rcases this with rfl|rfl|rfl|rfl|rfl|rfl|rfl|rfl|rfl|rfl|rfl|rfl|rfl|rfl|rfl|rfl|rfl
 all_goals rfl
theorem xC {w:A2} {r:Nat} (h:bE w r b_ 17) {k:Int} (a:1<=k/\k<=17) (z:A3):jg w (some r) .i64 k z (.agg ⟨[.string (bS (gJ k)),aa (cP k)]⟩):=by
 have:k=1\/k=2\/k=3\/k=4\/k=5\/k=6\/k=7\/k=8\/k=9\/k=10\/k=11\/k=12\/k=13\/k=14\/k=15\/k=16\/k=17:=by omega
 rcases this with rfl|rfl|rfl|rfl|rfl|rfl|rfl|rfl|rfl|rfl|rfl|rfl|rfl|rfl|rfl|rfl|rfl
 all_goals exact⟨r,b_,17,rfl,h,rfl⟩
theorem Em {k:Int} (a:1<=k/\k<=17):(32:UInt8)∉gJ k/\(gJ k).length<=7/\0<=cP k/\cP k<=3:=by
 have:k=1\/k=2\/k=3\/k=4\/k=5\/k=6\/k=7\/k=8\/k=9\/k=10\/k=11\/k=12\/k=13\/k=14\/k=15\/k=16\/k=17:=by omega
 rcases this with rfl|rfl|rfl|rfl|rfl|rfl|rfl|rfl|rfl|rfl|rfl|rfl|rfl|rfl|rfl|rfl|rfl
 all_goals decide
theorem LW: ∀i,i<17-> ∀j,j<17->BU.getD i []=BU.getD j []->i=j:=by decide+kernel
theorem Ve {a b:List UInt8} (h:a≠b):(bS a==bS b)=false:=by
 show((⟨a⟩:Array UInt8)==⟨b⟩)=false;rw[beq_eq_false_iff_ne];exact λe=>h (congrArg Array.toList e)
theorem G9 {k:Int} (h:1<=k/\k<=17) (w:A2):ar A1 94 (.el (.one (.int .i64))) [.string (bS (gJ k))] w (λx w'=>x=k/\Ext w w'):=by
 refine ai (C:=K0) (aM:=nR) (Bd (G6 (bS (gJ k)) w _) ?_);refine m7 (gW.start [] w) λr E H l m=>?_;have H:=H.ext m;refine⟨r,b_,17,rfl,H.get (i:=0) rfl,?_⟩;have H:=H.alloc (o:= .mapIter (some r) 17 #[] 17) trivial;obtain⟨b,hb⟩: ∃b,b=l.heap.size:=⟨_,rfl⟩;rw[<-hb] at H ⊢;refine⟨λn _ w'=> ∃seen:Array Nat,gW [] [] w w' [] [(b,.mapIter (some r) 17 seen 17),(r,.map b_ 17)]/\n=(b_.toList.filter λx=> !seen.contains x.born).length/\seen.contains (k - 1).toNat=false,⟨_,λp s=>⟨#[],H.ext s,rfl,by simp⟩⟩,?_⟩;clear H;rintro n _ p ⟨seen,H,t,g⟩ F u;have H:=H.ext u;refine⟨b,r,17,seen,17,b_,17,rfl,H.get (i:=0) rfl,H.get (i:=1) rfl,Br _,λe a=>?_,λv=>?_,λe a d G y=>?_⟩
 ·obtain⟨j,q,rfl,z,h2⟩:=xB a;show q<17;omega
 ·exfalso;have:=v _ (Bb (LV h));rw[show(cQ k (bS (gJ k)) (cP k) (k - 1).toNat).born=(k - 1).toNat from rfl,g] at this;cases this
 ·obtain⟨j,q,rfl,z,h2⟩:=xB a;have d:seen.contains q=false:=d;have H:=(H.ext y).put (i:=0) rfl (o':= .mapIter (some r) 17 (seen.push q) 17) trivial;have A:(b_.toList.filter λx=> !(seen.push q).contains x.born).length<n:=by rw[t];exact xj a seen d
  refine⟨j,(bS (gJ j),cP j,()),⟨b,r,17,seen,b_,17, _,rfl,H.get (i:=0) rfl,H.get (i:=1) rfl,a,by decide+kernel,rfl,rfl⟩,?_⟩;refine aA.go H.base.again λI J K=>aw.all 0 K rfl rfl rfl λL K=>⟨rfl,aj.bN 0 K rfl (show _=some (bS (gJ j)) from rfl) ?_⟩;have H:=H.join K;by_cases e:j=k
  ·subst e;exact ay (Jm _) λB f=>⟨rfl,(H.ext f).all⟩
  ·have D:gJ j≠gJ k:=λc=>e (by have:=LW _ (by omega) _ (by omega) c;omega);refine an (Ve D) λB f=>⟨_,A,seen.push q,(H.ext f).sub (H2 _),rfl,?_⟩;rw[Array.contains_push,g,Bool.false_or,beq_eq_false_iff_ne];omega
theorem En: ∀(k n:Nat),n<10 ^ (k+1)->(iy n).length<=k+1
 |0,n,h=>by rw[pC (by simpa using h)];exact Br _
 |k+1,n,h=>by
  by_cases c:n<10
  ·rw[pC c];exact Ht _ _
  ·rw[tf c,DA,Eo];have:n / 10<10 ^ (k+1):=by rw[Nat.div_lt_iff_lt_mul (by decide)];rw[Nat.pow_succ] at h;exact h
   have:=En k (n / 10) this;omega
theorem BV {n:Nat} (h:n<18446744073709551616):(iy n).length<=20:=En 19 n (Nat.lt_trans h (by decide))
theorem Sk (n:Nat):(32:UInt8)∉iy n:=λh=>by
 have:=(Ej n).2 _ h;exact absurd this.1 (by decide)
def kz (l:List Int):List UInt8:=l.flatMap λx=>32::iy x.toNat
def zT:List Int->List UInt8
 |[]=>[]
 |x::l=>iy x.toNat++kz l
def zU (k a b c:Int):List UInt8:=gJ k++kz ([a,b,c].take (cP k).toNat)
theorem uQ: ∀(l:List Int),(∀x∈l,0<=x/\x<18446744073709551616)->(kz l).length<=21*l.length
 |[], _=>Br _
 |x::l,h=>by
  have b:=h x A_;have h2:=BV (n:=x.toNat) (by omega);have c:=uQ l λy a=>h y (B5 _ a);show((32::iy x.toNat)++kz l).length<= _;rw[DA,Dn,Dn];omega
theorem AH {p:List UInt8} (h:(32:UInt8)∉p) (b:p.length<=30) {l:List Int} (a: ∀x∈l,0<=x/\x<18446744073709551616) (c:l.length<=3) (w:A2):
 ar A1 93 (.bH [.one .str,.one .str,.one .bool]) [.string (bS (p++kz l))] w (λx w'=>x=(bS p,bS (zT l),decide (0<l.length),())/\Ext w w'):=by
 have d:=uQ l a;cases l with
 |nil=>
  rw[show p++kz []=p from C7 p];exact OL h (by omega) w
 |cons x l=>
  have:p++kz (x::l)=p++32::zT (x::l):=rfl;rw[this];refine LU h ?_ w;have:(kz (x::l)).length=(zT (x::l)).length+1:=rfl;omega
def n_ (x:Int):Prop:=0<=x/\x<18446744073709551616
theorem Dk {a b c:Int} (d:n_ a) (hb:n_ b) (hc:n_ c) (i:Nat):(∀x∈[a,b,c].take i,0<=x/\x<18446744073709551616)/\([a,b,c].take i).length<=3:=by
 refine⟨λx e=>?_,by rw[HQ];exact Nat.min_le_right _ _⟩;have:=List.mem_of_mem_take e;simp only[EF,Gi,or_false] at this;rcases this with rfl|rfl|rfl
 ·exact d
 ·exact hb
 ·exact hc
theorem Yh {a b c:Int} {i:Nat} (h:i<3): ∃x,[a,b,c][i]? =some x:=⟨_,B1 h⟩
theorem G_ (l:List Int) (x:Int):kz (l++[x])=kz l++32::iy x.toNat:=by
 unfold kz;rw[List.flatMap_append,List.flatMap_cons,List.flatMap_nil,C7]
theorem LX {k a b c:Int} (f:1<=k/\k<=17) (q:dT k a b c=true) (g:n_ a) (hb:n_ b) (hc:n_ c) (w:A2):
 ar A1 31 (.el (.one .str)) [.agg ⟨[aa k,aq a,aq b,aq c]⟩] w (λx w'=>x=bS (zU k a b c)/\Ext w w'):=by
 refine ai (C:=K0) (aM:=qo) (Bd (LQ k a b c w _) ?_);obtain⟨L,M,N,O⟩:=Em f;refine aA.go (At.start [] w) λm P H=>aj.at 0 H rfl (show _=some (k,a,b,c,()) from rfl) ⟨true,by rw[<-q];exact uF k a b c,an rfl ⟨rfl,aj.bN 0 H rfl (show _=some k from rfl) ⟨m7 (gW.of H) λr s H=>⟨by rw[aL];exact bI (H.base.cX (m, _) A_) rfl,trivial,(bS (gJ k),cP k,()),xC (H.get (i:=0) rfl) f _,aA.go H.base λt u H=>?_⟩,
  aA.go H λt s H=>m7 (gW.of H) λr u H=>⟨by rw[aL];exact bI (H.base.cX (m, _) (B5 _ A_)) rfl,trivial,(bS (gJ k),cP k,()),xC (H.get (i:=0) rfl) f _,(λH=>?_) H.base⟩⟩⟩⟩
 all_goals
  refine aw.all 0 H rfl rfl rfl λQ H=>⟨rfl,aj.bN 0 H rfl (show _=some (bS (gJ k)) from rfl) (aj.at 1 H rfl (show _=some (k,a,b,c,()) from rfl) ⟨(a,b,c,()),Al k a b c,aA.go H λv R H=>aw.all 0 H rfl rfl rfl λS H=>⟨rfl,aj.bN 1 H rfl (show _=some (cP k) from rfl) ⟨⟨rfl,by omega,by omega,by omega,by omega⟩,?_⟩⟩⟩)⟩;generalize z:(cP k).toNat=A;have T:A<=3:=by omega
  refine⟨λn st w'=> ∃i:Nat,i<=A/\n=A - i/\st.1=bS (gJ k++kz ([a,b,c].take i))/\st.2.1=(i:Int)/\aH [] [] w w' _,⟨A,λB D=>⟨0,by omega,rfl,by show bS (gJ k)=bS (gJ k++[]);rw[C7],rfl,H.ext D⟩⟩,?_⟩;clear H;rintro n ⟨E,i0, _⟩ B ⟨i,hi,F,h,j,H⟩;have h:E= _:=h;have j:i0=(i:Int):=j;subst h j F;dsimp only;refine ab (λd=>?_) (λd=>?_)
  ·have o:i<A:=by have:=of_decide_eq_true d;omega
   obtain⟨x,l⟩:=Yh (a:=a) (b:=b) (c:=c) (show i<3 by omega);obtain⟨t1,t2⟩:=Dk g hb hc (i+1);have U:=t1 x (Bb (i:=i) (by rw[HT (Nat.lt_succ_self i)];exact l));have G:[a,b,c].take (i+1)=[a,b,c].take i++[x]:=by rw[HP,l];rfl
   have V:=uQ _ (Dk g hb hc i).1;have W:=(Dk g hb hc i).2;have X:=BV (n:=x.toNat) (by omega);refine⟨⟨rfl,by omega,by omega⟩,aj.of x ?_ λp I=>?_⟩
   ·rw[Bp,aL,aL];refine bI (H.cX (v, _) A_) ?_;have:i=0\/i=1\/i=2:=by omega
    rcases this with rfl|rfl|rfl<;>(cases l;rfl)
   ·rw[show x=((x.toNat:Nat):Int) by omega];refine(Ek x.toNat (by omega) p).mono λy Y ⟨e,J⟩=>?_;subst e;refine⟨?_,?_,λZ K=>⟨A - (i+1),by omega,i+1,by omega,rfl,?_,by rw[av (by omega) (by omega)];omega,(H.ext I).ext (J.trans K)⟩⟩
    ·rw[jR];omega
    ·rw[show(⟨⟨[32]⟩⟩:ByteArray)=bS [32] from rfl,ym,jR,jR,DA,DA,Eo];omega
    ·show bS _++(bS [32]++bS _)= _;rw[ym,ym,G,G_,Hb];rfl
  ·have o:i=A:=by have:=of_decide_eq_false d;omega
   subst o;exact ak.go H λp H=>⟨by unfold zU;rw[z],H.all⟩
def vI (a b c:Int) (i:Nat):List A3:=[aq (if 0<i then a else 0),aq (if 1<i then b else 0),aq (if 2<i then c else 0)]
theorem Sm {k a b c:Int} (d:dT k a b c=true):(if 0<(cP k).toNat then a else 0)=a/\(if 1<(cP k).toNat then b else 0)=b/\(if 2<(cP k).toNat then c else 0)=c:=by
 unfold dT at d;simp only[E5,Bool.or_eq_true,decide_eq_true_eq,beq_iff_eq] at d;obtain⟨h0,e,h2,f⟩:=d;refine⟨?_,?_,?_⟩<;>split<;>omega
theorem LY {l:List Int} {i:Nat} {x:Int} (h:l[i]? =some x):zT (l.drop i)=iy x.toNat++kz (l.drop (i+1)):=by
 obtain⟨hi,e⟩:=AC.1 h;rw[List.drop_eq_getElem_cons hi,e];rfl
theorem Ha {k a b c:Int} (p:1<=k/\k<=17) (D:dT k a b c=true) (E:n_ a) (hb:n_ b) (hc:n_ c) (w:A2):
 ar A1 30 (.bH [.agg [.int .i64,.int .u64,.int .u64,.int .u64],.one (.int .i64)]) [.string (bS (zU k a b c))] w (λx w'=>x=((k,a,b,c,()),0,())/\Ext w w'):=by
 refine aO (C:=K0) (aM:=nS) (Bd (G7 (bS (zU k a b c)) w _) ?_);obtain⟨F,tl,hn3,Tz⟩:=Em p;obtain⟨q,r,s⟩:=Sm D;unfold zU;generalize hA:(cP k).toNat=A at q r s;have G:A<=3:=by omega
 have t:cP k=(A:Int):=by omega
 obtain⟨t1,t2⟩:=Dk E hb hc A;obtain⟨l,g⟩: ∃l,l=[a,b,c].take A:=⟨_,rfl⟩;have u:l.length=A:=by rw[g,HQ];exact Nat.min_eq_left G
 rw[<-g] at t1 t2 ⊢;have v: ∀i,(∀x∈l.drop i,0<=x/\x<18446744073709551616)/\(l.drop i).length<=3:=λi=>⟨λx I=>t1 x (List.mem_of_mem_drop I),by rw[Hc];omega⟩;refine aA.go (At.start [] w) λJ w2 H=>λK L=>(AH F (by omega) t1 t2 K).mono λx w4 ⟨e,M⟩=>?_;subst e;refine λN O=>(G9 p N).mono λx w6 ⟨e,P⟩=>?_;have e:x=k:=e;subst e;have H:=((H.ext L).ext (M.trans O)).ext P;refine an (by rw[beq_eq_false_iff_ne];omega) (aA.go H λQ w7 H=>?_);refine⟨λn st w'=> ∃i:Nat,i<=A/\n=A - i/\st.1=bS (zT (l.drop i))/\st.2.1=decide (i<A)/\st.2.2.1=(i:Int)/\aH [] [] w w' [(Q,vI a b c i),(J,[aa 0,aq 0,aq 0,aq 0])],⟨A,λR S=>⟨0,by omega,rfl,rfl,by show decide (0<l.length)= _;rw[u],rfl,H.ext S⟩⟩,?_⟩;clear H;rintro n ⟨T,U,i0, _⟩ R ⟨i,hi,V,h,j,m,H⟩;have h:T= _:=h;have j:U= _:=j;have m:i0=(i:Int):=m;subst h j m V;dsimp only;refine⟨cP x,λ_=>yq x,?_⟩;rw[t];refine ab (λd=>?_) (λd=>?_)
 ·have o:i<A:=by
   rw[E5,decide_eq_true_eq] at d;exact d.1
  obtain⟨y,f⟩: ∃y,l[i]? =some y:=⟨_,B1 (by omega)⟩;have hyu:=t1 y (Bb f);have W:[a,b,c][i]? =some y:=by
   rw[g,HT o] at f;exact f
  have hd:=BV (n:=y.toNat) (by omega);rw[LY f];refine λB X=>(AH (Sk y.toNat) (by omega) (v (i+1)).1 (v (i+1)).2 B).mono λz Y ⟨e,Z⟩=>?_;subst e;refine λlL vw=>(OM y.toNat (by omega) lL).mono λz AZ ⟨e,Hy⟩=>?_;subst e;have H:=((H.ext X).ext (Z.trans vw)).ext Hy;refine an rfl ⟨⟨rfl,by omega,by omega⟩,?_⟩;rw[Bp,show((y.toNat:Nat):Int)=y by omega];refine aw.dF 0 H rfl rfl (by rw[Nat.blt_eq];show 0+i*1<3;omega) λMl H Hv VH=>⟨A - (i+1),by omega,i+1,by omega,rfl,rfl,?_,by rw[av (by omega) (by omega)];omega,?_⟩
  ·show decide (0<(l.drop (i+1)).length)=decide (i+1<A);rw[Hc,u,decide_eq_decide];omega
  ·have e:(vI a b c i).set (0+i*1) (aq y)=vI a b c (i+1):=by
    have:i=0\/i=1\/i=2:=by omega
    rcases this with rfl|rfl|rfl<;>(cases W;rfl)
   have H:=H.ext VH;rw[<-e];exact H
 ·have o:i=A:=by
   refine B4 λc'=>?_;rw[decide_eq_true (show i<A by omega),decide_eq_true (show(i:Int)<(A:Int) by omega)] at d;cases d
  subst o;refine⟨cP x,λ_=>yq x,?_⟩;rw[t];refine an ?_ ⟨⟨rfl,by decide,by decide⟩,aj.bN 0 H rfl (show _=some (if 0<i then a else 0) from rfl) ⟨⟨rfl,by decide,by decide⟩,aj.bN 0 H rfl (show _=some (if 1<i then b else 0) from rfl) ⟨⟨rfl,by decide,by decide⟩,aj.bN 0 H rfl (show _=some (if 2<i then c else 0) from rfl) (aw.all 1 H rfl rfl rfl λB H=>ak.go H λY H=>aj.at 1 H rfl (show _=some (x, _, _, _,()) from rfl) ⟨?_,H.all⟩)⟩⟩⟩
  ·rw[Hz,decide_eq_false_iff_not,decide_eq_false_iff_not];omega
  ·rw[q,r,s]
section
variable {Q:Sys} {X:HX} {Q2:Sys} {X2:HX} {D G:List Nat} {w0 w w1:A2} {h h2:HS} {T L:List (Nat×List A3)}
theorem dA.words (H:dA Q X D G w0 w h L) (hc:EC Q h.s) (n:Int) {K:Option AX×Nat×Nat->A2->Prop} (k: ∀r f e,jh eW f r (fX h.s.1 0 n)->dA Q X D G w0 e h (f++L)->K r e):
 aB A1 16 (.el (.one .slice)) [ah (ad Q.bm),aa 0,aa n] w K:=by
 obtain⟨A,W,H⟩:=H.front;obtain⟨j,S,J⟩:=H.call;refine S.words hc 0 n λx rows e S g=>k x rows e g (dA.pB W (J ?_));obtain⟨a,b,c,d,ca,la,i⟩:=S;exact⟨a,b,c,d,ca,la,i.perm (ua λa=>by simp only[Sys.L,Di,Es];omega)⟩
theorem TH.cX (H:TH Q X Q2 X2 w0 w h h2 T) {x:Nat×List A3} (e:x∈T):bh w x.1 x.2:=by
 obtain⟨A,f,ca,la,g,i,a,b,c,d,H⟩:=H;exact H.base.cX x (Bq _ e)
theorem TH.row (H:TH Q X Q2 X2 w0 w h h2 T) {e:El} {r:Option AX×Nat×Nat} {l:List e.T} {f:List (Nat×List A3)} (g:jh e f r l) (i: ∀x∈f,x∈T):Sl w e r.1 l:=by
 obtain⟨A,k,ca,la,m,n,a,b,c,d,H⟩:=H;exact g.sl H.base λx j=>Bq _ (i x j)
theorem TH.sub (H:TH Q X Q2 X2 w0 w h h2 T) {T':List (Nat×List A3)} (e:T'.Sublist T):TH Q X Q2 X2 w0 w h h2 T':=by
 obtain⟨A,f,ca,la,g,i,a,b,c,d,H⟩:=H;exact⟨A,f,ca,la,g,i,a,b,c,d,H.sub (e.append_right _)⟩
theorem TH.al (H:TH Q X Q2 X2 w0 w h h2 T) {cs:List A3} {e:TypeId} {K:Nat->A2->Prop} (k: ∀b w1,TH Q X Q2 X2 w0 w1 h h2 ((b,cs)::T)->K b w1):aA w ⟨cs⟩ e K:=by
 obtain⟨a,L',K,J⟩:=H.hv;exact K.al λb w1 K=>k b w1 (J (T':=(b,cs)::T) K)
theorem TH.st (H:TH Q X Q2 X2 w0 w h h2 T) (i:Nat) {b:Nat} {l a:List A3} {K:A2->Prop} (c:T[i]? =some (b,l)) (d:a.all (·.oneCell')=true) (e:a.length=l.length) (k: ∀w1,TH Q X Q2 X2 w0 w1 h h2 (T.set i (b,a))->K w1):aw w (ad b) a K:=by
 obtain⟨f,L',K,J⟩:=H.hv;have hi:=(AC.1 c).1;refine K.dx i (by rw[EH hi];exact c) d e λw1 K=>k w1 (J ?_);rw[HB _ _ hi] at K;exact K
theorem TH.ld (H:TH Q X Q2 X2 w0 w h h2 T) (i:Nat) {g:Option Bool} {el:El} {K:el.T->Prop} {b o:Nat} {l:List A3} {x:el.T} (a:T[i]? =some (b,l)) (hv:l5 l o el=some x) (k:K x):aj w g (some ⟨b,o,none⟩) el K:=
 aj.of x (bI (H.cX (Bb a)) hv) k
theorem TH.bW (H:TH Q X Q2 X2 w0 w h h2 T) (i:Nat) {g:Option Bool} {el:El} {K:el.T->Prop} {b o n:Nat} {l:List A3} {x:el.T} (a:T[i]? =some (b,l)) (hv:l5 l (o+n) el=some x) (k:K x):aj w g (ae (some ⟨b,o,none⟩) n) el K:=by
 rw[aL];exact H.ld i a hv k
theorem TH.Zo (H:TH Q X Q2 X2 w0 w h h2 T) (g:Good Q h) (v k:Int) {a b c:Int} (e:n_ a) (hb:n_ b) (hc:n_ c) {K:RS->A2->Prop}
 (kk: ∀d,Good Q (A5 h v k a b c)->TH Q X Q2 X2 w0 d (A5 h v k a b c) h2 T->K (Qi h v k a b c,Qh h v k a b c,()) d):
 aB A1 9 (.el (.agg gY)) [ah (ad X.hb),aa v,.agg ⟨fk k a b c⟩] w K:=by
 obtain⟨f,L',K,J⟩:=H.hv;exact T_ K g v k e hb hc λd g' K=>kk d g' (J K)
theorem TH.yl (H:TH Q X Q2 X2 w0 w h h2 T) {K:Option AX->A2->Prop} (k: ∀bp bf c rest a,TH Q X Q2 X2 w0 a h h2 ((bp,[.slice (ad bf) h.s.2.length c])::(bf,flat eD h.s.2++rest)::T)->K (ad bp) a):
 aB A1 14 (.el (.one .ptr)) [ah (ad X.hb)] w K:=by
 obtain⟨b,L',K,J⟩:=H.hv;exact K.yl λbp bf c rest a K=>k bp bf c rest a (J (T':= _:: _::T) K)
theorem TH.memory (H:TH Q X Q2 X2 w0 w h h2 T) {K:Option AX->A2->Prop} (k: ∀a,TH Q X Q2 X2 w0 a h h2 T->K (ad Q.bm) a):
 aB A1 12 (.el (.one .ptr)) [ah (ad X.hb)] w K:=by
 obtain⟨b,L',K,J⟩:=H.hv;exact K.memory λa K=>k a (J K)
theorem TH.words (H:TH Q X Q2 X2 w0 w h h2 T) (hc:EC Q h.s) (n:Int) {K:Option AX×Nat×Nat->A2->Prop} (k: ∀r a b,jh eW a r (fX h.s.1 0 n)->TH Q X Q2 X2 w0 b h h2 (a++T)->K r b):
 aB A1 16 (.el (.one .slice)) [ah (ad Q.bm),aa 0,aa n] w K:=by
 obtain⟨d,L',K,J⟩:=H.hv;refine K.words hc n λr a b c K=>k r a b c (J (T':=a++T) ?_);rw[Hb];exact K
theorem TH.MF (H:TH Q X Q2 X2 w0 w h h2 T) {bp bf c:Nat} {ds:List DT} {rest:List A3} (a:(bp,[EE (ad bf) ds.length c])∈T) (h2:(bf,flat eD ds++rest)∈T) (f:Int):ag A1 32 [ah (ad bp),aa f] w ((Sh.bH [eD,.one .bool]).gj (oK ds f,vJ ds f,())):=
 ag.of λw' h'=>I3 ((H.cX a).ext h') ((H.cX h2).ext h') f
end
theorem Sn (ws:List Int) (h:0<ws.length):fX ws 0 (ws.length:Int)=ws:=by
 unfold fX;rw[ao (by omega)];simp
theorem ON {k a b c:Int} (h:dT k a b c=true):1<=k/\k<=17:=by
 unfold dT at h;rw[E5,decide_eq_true_eq] at h;have d1:=h.1;unfold cP at d1;by_cases e:1<=k/\k<=17
 ·exact e
 ·rw[ao e] at d1;exact absurd d1 (by decide)
theorem OO {h:HS} (I: ∃gh,HI gh h) {N:Nat} (d:h.s.2.length=N) (v k:Int) {a:Int} (b c:Int) (e:0<=a):(A5 h v k a b c).s.2.length=N:=(OI I e).trans d
theorem CY (n:Int) (G:(Lit.int .u8 n).wf=true) (p:Option AX) (m c:Nat) (xs:List (iv Xs)) (hm:m=xs.length) (Yl:m<=maxLen) {w:A2} (J:Sl w (.agg Xs) p xs) (hxw: ∀x∈xs,ku Xs x):
 ar A1 4 (.el (.one .bool)) [.int .u8 n,.slice p m c] w (λb w'=>b=true/\Ext w w'):=by
 have G:=Yf G;refine ai (C:=Y0) (aM:=nT) (Bd (G8 n p m c w _) ?_);rw[Vc (x:=n) (by omega) (by omega),Vd G.1,av (by omega) (by omega)];obtain⟨N,hN,hN1⟩: ∃N:Nat,4+n % 60=(N:Int)/\4<=N/\N<64:=⟨(4+n % 60).toNat,by omega,by omega,by omega⟩;rw[hN];refine yF (At.start [] w) _ (λc=>by omega) λn1 n2 Q X w1 W H=>?_;rw[Bp] at H W;refine TH.new H (by omega) λQ2 X2 w2 hQ2 H=>an rfl ?_;have g1:=Good.new (Q:=Q) (n:=N) (by omega) W;have o:=Good.new (Q:=Q2) (n:=N) (by omega) hQ2;have q:(h0 N).s.2.length=N:=Do;generalize h0 N=h1 at H g1 o q;refine⟨λk st w'=> ∃(i:Nat) (h:HS),st.1=(i:Int)/\k+i=40/\Good Q h/\Good Q2 h/\h.s.2.length=N/\TH Q X Q2 X2 w w' h h [],⟨40,λw3 h3=>⟨0,h1,rfl,rfl,g1,o,q,H.ext h3⟩⟩,?_⟩;clear H g1 o q;rintro k ⟨K,u⟩ w3 ⟨i,h,e,v,g1,o,q,H⟩;have e:K=(i:Int):=e;subst e;dsimp only;have z:i<40-> ∀{h':HS} {w':A2},Good Q h'->Good Q2 h'->h'.s.2.length=N->TH Q X Q2 X2 w w' h' h' []-> ∀A,Ext w' A-> ∃Y,Y<k/\ ∃(Z:Nat) (h:HS),aC .i64 (i:Int) 1=(Z:Int)/\Y+Z=40/\Good Q h/\Good Q2 h/\h.s.2.length=N/\TH Q X Q2 X2 w A h h []:=λhi h' w' a b c H A h4=>⟨k - 1,by omega,i+1,h',by rw[av (by omega) (by omega)];omega,by omega,a,b,c,H.ext h4⟩;refine ab (λr=>?_) (λr=>?_)
 ·have hi:i<m/\i<40:=by
   simp only[E5,decide_eq_true_eq] at r;omega
  have z:=@z hi.2;obtain⟨y,gX⟩: ∃y,xs[i]? =some y:=⟨_,B1 (by omega)⟩;have L:=hxw _ (Bb gX);obtain⟨r1,r2⟩:=(J.ext H.all) i y gX;obtain⟨t,d,l,f,g,⟨⟩⟩:=y;have B:n_ l:=yJ L.2.2.1;have hb:n_ f:=yJ L.2.2.2.1;have hc:n_ g:=yJ L.2.2.2.2.1;refine⟨⟨r1,by omega,by omega⟩,aj.of (t,d,l,f,g,()) (by rw[Bp];exact r2) (H.al λb1 A H=>H.st 0 rfl rfl rfl λw5 H=>⟨rfl,H.bW 0 rfl (show _=some (d,l,f,g,()) from rfl) ⟨dT d l f g,uF d l f g,?_⟩⟩)⟩;cases M:dT d l f g with
  |false=>exact ay rfl (z g1 o q (H.sub (H2 _)))
  |true=>
   have v:=ON M;refine an rfl ⟨rfl,H.bW 0 rfl (show _=some (d,l,f,g,()) from rfl) λO P=>(LX v M B hb hc O).mono λy w7 ⟨e,h7⟩=>?_⟩;subst e;refine λR h8=>(Ha v M B hb hc R).mono λy w9 ⟨e,h9⟩=>?_;subst e;have H:=(H.ext P).ext (h7.trans (h8.trans h9));refine H.al λb2 lU H=>H.st 0 rfl rfl rfl λlL H=>⟨λ_=>rfl,H.bW 1 rfl (show _=some t from rfl) ⟨λ_=>rfl,H.bW 1 rfl (show _=some (d,l,f,g,()) from rfl) ⟨λ_=>rfl,H.bW 1 rfl (show _=some t from rfl) (H.ld 0 rfl (show _=some (d,l,f,g,()) from rfl) (an rfl (H.Zo g1 t d B hb hc λAZ g1' H=>⟨λ_=>bI (H.cX (x:=(b2, _)) A_) rfl,λ_=>?_,trivial,H.swap.Zo o t d B hb hc λMl g2' H=>an (by simp) (z g1' g2' (OO g1.hi q t d f g B.1) (H.swap.sub (H2 _)))⟩)))⟩⟩⟩;rw[aL];exact bI (H.cX (x:=(b1, _)) (B5 _ A_)) rfl
 ·clear z r;obtain⟨gh,I⟩:=g1.hi;have Wd:h.s.1.length=16*N:=by rw[I.sz,q]
  refine H.yl λbp bf c1 rest A H=>H.swap.yl λZq E c2 zM w5 H=>?_;generalize hT:((Zq,[EE (ad E) h.s.2.length c2])::(E,flat eD h.s.2++zM)::(bp,[EE (ad bf) h.s.2.length c1])::(bf,flat eD h.s.2++rest)::[])=T at H;have P3:(Zq,[EE (ad E) h.s.2.length c2])∈T/\(E,flat eD h.s.2++zM)∈T/\(bp,[EE (ad bf) h.s.2.length c1])∈T/\(bf,flat eD h.s.2++rest)∈T:=by rw[<-hT];simp
  obtain⟨m1,m2,m3,m4⟩:=P3;clear hT;refine⟨λk st w'=> ∃j:Nat,j<=N/\k=N - j/\st.1=(j:Int)/\TH Q2 X2 Q X w w' h h T,⟨N,λO P=>⟨0,by omega,rfl,rfl,H.ext P⟩⟩,?_⟩;clear H;rintro k ⟨K,u⟩ O ⟨j,hj,v,e,H⟩;have e:K=(j:Int):=e;subst e v;dsimp only;refine ab (λr=>?_) (λr=>?_)
  ·have hjN:j<N:=by have:=of_decide_eq_true r;omega
   refine⟨_,H.MF m3 m4 j,H.al λb1 w7 H=>H.st 0 rfl rfl rfl λR H=>⟨_,H.MF (B5 _ m1) (B5 _ m2) j,H.al λb2 w9 H=>H.st 0 rfl rfl rfl λlU H=>?_⟩⟩;dsimp only at H;generalize oK h.s.2 (j:Int)=V at H;obtain⟨v1,v2,v3,v4,⟨⟩⟩:=V;exact H.ld 1 rfl (show _=some (v1,v2,v3,v4,()) from rfl) (H.ld 0 rfl (show _=some (v1,v2,v3,v4,()) from rfl) (an (by simp) λlL D=>⟨N - (j+1),by omega,j+1,by omega,rfl,by rw[av (by omega) (by omega)];omega,(H.sub ((Hf _ _).trans (Hf _ _))).ext D⟩))
  ·have HK:fX h.s.1 0 ((16*N:Nat):Int)=h.s.1:=by rw[<-Wd];exact Sn _ (by omega)
   rw[show dO .i64 16 (N:Int)=((16*N:Nat):Int) by rw[dI (by omega) (by omega)];omega];refine H.swap.memory λw7 H=>H.words g1.Ma _ λq1 L1 R F H=>H.swap.memory λw9 H=>H.words o.Ma _ λq2 L2 lU S H=>?_;rw[HK] at F S;have s1:=H.row F λy U=>DS _ (Bq _ U);have s2:=H.row S λy U=>Bq _ U;refine λlL D=>(JF (s1.ext D) F.1 (s2.ext D) S.1 (by have:=F.1;omega)).mono λb AZ ⟨hb,J⟩=>ay (by rw[hb];exact decide_eq_true rfl) (Sj (H.all.trans (D.trans J)))
end Go.Proofs.YteeflilbnoknnaaGreat
