import Derived.Test.YtdnoecpjcoibmaaGreatSNF
/-! What the statement leans on: texts joined and shortened by a program of mine. -/
set_option linter.unusedVariables false
set_option linter.unusedSimpArgs false
namespace Go.Proofs.YtdnoecpjcoibmaaGreat
set_option maxRecDepth 100000
open Go.RX D
section
variable {gh:Gh} {h:HS} {v k a b c:Int} {l:List Int}
theorem sd (hl:aD h.g v=true) (hk:qu k=false) (hr:iB k a b c=true):iu h v k a b c=0:=by
 obtain⟨m,x,rfl,h1,h2, _⟩:=Bh hl
 unfold iu
 rw[hr,hk,hl,if_neg,if_neg,if_neg]
 ·simp
 ·have:((m:Int)==0)=false:=by rw[beq_eq_false_iff_ne];omega
  rw[this];decide
 ·simp;omega
theorem kG (hp:iu h v k a b c=0):g_ h v k a b c=(run h v k a b c).1/\lH h v k a b c=(run h v k a b c).2.2/\qq h v k a b c=if(run h v k a b c).2.2=0 then(run h v k a b c).2.1 else 0:=by
 unfold g_ lH qq
 rw[if_pos hp,if_pos hp,if_pos hp]
 exact⟨rfl,rfl,rfl⟩
theorem JS (hl:aD h.g v=true):g_ h v 3 a b 0=gQ h v a b/\lH h v 3 a b 0=ju h v a b/\qq h v 3 a b 0=if ju h v a b=0 then gy h v else 0:=by
 obtain⟨h1,h2,h3⟩:=kG (sd (k:=3) (a:=a) (b:=b) (c:=0) hl rfl rfl)
 have e:(run h v 3 a b 0).2.2=ju h v a b:=by
  show(rT h v a b).2= _
  unfold rT;split
  ·rename_i e;rw[e]
  ·rfl
 refine⟨h1,h2.trans e,h3.trans ?_⟩
 rw[e]
 show(if ju h v a b=0 then(rT h v a b).1 else 0)= _
 unfold rT;split<;>rfl
theorem l6 (hl:aD h.g v=true):g_ h v 6 a 0 0=h/\lH h v 6 a 0 0=(m8 h v a).2/\qq h v 6 a 0 0=if(m8 h v a).2=0 then(m8 h v a).1 else 0:=
 kG (sd (k:=6) (a:=a) (b:=0) (c:=0) hl rfl rfl)
theorem vI (hl:aD h.g v=true):g_ h v 7 a b 0=dS h v a b/\lH h v 7 a b 0=ni h v a/\qq h v 7 a b 0=0:=by
 obtain⟨h1,h2,h3⟩:=kG (sd (k:=7) (a:=a) (b:=b) (c:=0) hl rfl rfl)
 exact⟨h1,h2,h3.trans (by split<;>rfl)⟩
theorem DZ {h h':HS} (e:h'.g=h.g) (i:Nat):fW h' i=fW h i:=by unfold fW;rw[e]
theorem Tk (f:Int) (hf:0<=f/\f<4096):dK true 3 false f 1=true/\dK true 3 false f 2=true:=by
 have:aM true 3 false f=true:=j7.2 ⟨by decide,by decide,hf.1,hf.2,.inr rfl⟩
 unfold dK
 rw[this]
 exact⟨by decide+kernel,by decide+kernel⟩
theorem HI.mC (H:HI gh h) {i:Nat} {p f r:Int} (hq:dm h i p=(f,r,0,())):kI h i p=some f/\ ∃(n:Nat) (d:DT),f=(n:Int)/\n<4096/\h.s.2[n]? =some d/\d.1=4:=by
 have hf:kI h i p=some f:=by rw[nk,hq];rfl
 obtain⟨n,d,e1,e2,e3, _⟩:=H.Qs hf
 have hn:=(List.getElem?_eq_some_iff.1 e2).1
 have:=H.inv.le
 exact⟨hf,n,d,e1,by omega,e2,e3⟩
structure WS (h:HS) (v:Int) (l:List Int):Prop where
 hi: ∃gh,HI gh h
 lv:aD h.g 1=true
 tk:fW h 1=[]
 ct:4*12<=aX h.s.2 0+4*l.length
 pg: ∀a∈l, ∃f,dm h 1 a=(f,3,0,())/\cZ h.s.1 (16*f+3)=au .u64 v a/\cZ h.s.1 (16*f+4)=0
 no: ∀a,(dm h 1 a).2.2.1=0->a∈l
theorem WS.load (W:WS h v l) (ha:a∈l) (h0:0<=a/\a<65536):g_ h 1 6 (16*a+3) 0 0=h/\lH h 1 6 (16*a+3) 0 0=0/\qq h 1 6 (16*a+3) 0 0=au .u64 v a:=by
 obtain⟨gh,H⟩:=W.hi
 obtain⟨f,p1,p2,p3⟩:=W.pg a ha
 obtain⟨_,n,d,rfl,hn, _⟩:=H.mC p1
 obtain⟨q1,q2,q3⟩:=l6 (a:=16*a+3) W.lv
 have:=H.xF W.lv (a:=16*a+3) (by omega) (by rw[show(16*a+3) / 16=a by omega];exact p1) (Tk n (by omega)).1
 rw[show(16*a+3) % 16=3 by omega,p2] at this
 rw[this] at q2 q3
 exact⟨q1,q2,q3⟩
theorem WS.round (W:WS h v l) (h0:0<=a/\a<65536) (hl:l.length<12): ∃h1 h2 E,g_ h 1 3 a 3 0=h1/\lH h 1 3 a 3 0=E/\(E=0\/E=5)/\(∃V,qq h1 1 6 (16*a+3) 0 0=V/\(E=0->V=0))/\lH h1 1 6 (16*a+3) 0 0=0/\g_ h1 1 6 (16*a+3) 0 0=h1/\
 g_ h1 1 7 (16*a+3) (au .u64 v a) 0=h2/\lH h1 1 7 (16*a+3) (au .u64 v a) 0=0/\g_ h2 1 6 (16*a+3) 0 0=h2/\lH h2 1 6 (16*a+3) 0 0=0/\qq h2 1 6 (16*a+3) 0 0=au .u64 v a/\
 g_ h2 1 6 (16*a+4) 0 0=h2/\lH h2 1 6 (16*a+4) 0 0=0/\qq h2 1 6 (16*a+4) 0 0=0/\WS h2 v (l++[a]):=by
 obtain⟨gh,H⟩:=W.hi
 obtain⟨d1,d2,d3⟩:=JS (a:=a) (b:=3) W.lv
 have hcan:=H.ES W.lv h0 (b:=3) (by decide) (by have:=W.ct;omega)
 rw[show(1:Int).toNat=1 from rfl] at hcan
 have key: ∃(h1:HS) (Qt:Gh) (f:Nat) (E:Int),gQ h 1 a 3=h1/\ju h 1 a 3=E/\(E=0\/E=5)/\HI Qt h1/\aD h1.g 1=true/\fW h1 1=[]/\4*12<=aX h1.s.2 0+4*(l.length+1)/\dm h1 1 a=((f:Int),3,0,())/\(E=0->cZ h1.s.1 (16*(f:Int)+3)=0)/\cZ h1.s.1 (16*(f:Int)+4)=0/\
  (∀p∈l, ∃f,dm h1 1 p=(f,3,0,())/\(p≠a->cZ h1.s.1 (16*f+3)=au .u64 v p)/\cZ h1.s.1 (16*f+4)=0)/\(∀p,(dm h1 1 p).2.2.1=0->p∈l\/p=a):=by
  by_cases e:(dm h 1 a).2.2.1=0
  ·rw[if_pos e] at hcan
   have hm:=W.no a e
   obtain⟨f,p1,p2,p3⟩:=W.pg a hm
   obtain⟨_,n,d,rfl,hn, _⟩:=H.mC p1
   have hf:=H.ze (a:=a) (b:=3) W.lv (by rw[hcan];decide)
   refine⟨h,gh,n,5,hf,hcan,.inr rfl,H,W.lv,W.tk,by have:=W.ct;omega,p1,fun c=>absurd c (by decide),p3,fun p hp=>?_,fun p hp=> .inl (W.no p hp)⟩
   obtain⟨f,p1,p2,p3⟩:=W.pg p hp
   exact⟨f,p1,fun _=>p2,p3⟩
  ·rw[if_neg e] at hcan
   obtain⟨Qt,f,H1,O, _⟩:=H.zc W.lv hcan
   rw[show(1:Int).toNat=1 from rfl] at O
   refine⟨_,Qt,f,0,rfl,hcan,.inl rfl,H1,by rw[O.g];exact W.lv,by rw[DZ O.g];exact W.tk,by have:=W.ct;have:=O.ct;omega,O.pg,fun _=>O.zr 3 (by decide) (by decide),O.zr 4 (by decide) (by decide),fun p hp=>?_,fun p hp=>?_⟩
   ·obtain⟨f2,p1,p2,p3⟩:=W.pg p hp
    have hne:p≠a:=fun c=>e (by rw[<-c,p1])
    obtain⟨_,n,d,rfl,hn,hd,h4⟩:=H.mC p1
    have hnf:(n:Int)≠(f:Int):=fun c=>by
     have:n=f:=Int.ofNat.inj c
     subst this
     rw[O.fr] at hd;cases hd;exact absurd h4 (by decide)
    have Yn:=(O.ef.pg.to fun c=>hne c.2).trans p1
    obtain⟨_,n2,d2,e2, _,sV,Yo⟩:=H1.mC Yn
    have:n=n2:=Int.ofNat.inj e2
    subst this
    refine⟨n,Yn,fun _=>?_,?_⟩
    ·rw[O.ef.ws hd h4 sV Yo hnf 3 (by decide) (by decide)];exact p2
    ·rw[O.ef.ws hd h4 sV Yo hnf 4 (by decide) (by decide)];exact p3
   ·by_cases c:p=a
    ·exact .inr c
    ·rw[O.ef.pg.to fun x=>c x.2] at hp;exact .inl (W.no p hp)
 obtain⟨h1,Qt,f,E,k1,k2,k3,H1,l1,t1,c1,p1,z3,z4,o1,n1⟩:=key
 rw[k1] at d1
 rw[k2] at d2
 obtain⟨_,n,d,hfn,hn, _⟩:=H1.mC p1
 have hfr:0<=(f:Int)/\(f:Int)<4096:=by omega
 have e1:(16*a+3) / 16=a/\(16*a+3) % 16=3/\(16*a+4) / 16=a/\(16*a+4) % 16=4:=by omega
 obtain⟨q1,q2,q3⟩:=l6 (a:=16*a+3) l1
 have hL:=H1.xF l1 (a:=16*a+3) (by omega) (by rw[e1.1];exact p1) (Tk f hfr).1
 rw[e1.2.1] at hL
 rw[hL] at q2 q3
 obtain⟨s1,s2,s3⟩:=vI (a:=16*a+3) (b:=au .u64 v a) l1
 obtain⟨u1,u2,u3⟩:=H1.I8 l1 (a:=16*a+3) (b:=au .u64 v a) (by omega) (by rw[e1.1];exact p1) (Tk f hfr).2
 rw[e1.2.1] at u3
 rw[u1] at s2
 generalize hh2:dS h1 1 (16*a+3) (au .u64 v a)=h2 at s1 u2 u3
 have l2:aD h2.g 1=true:=by rw[u3.g];exact l1
 have p2:dm h2 1 a=((f:Int),3,0,()):=u3.pg.trans p1
 have W2:WS h2 v (l++[a]):=by
  have own: ∀p,p≠a-> ∀f2:Int,dm h1 1 p=(f2,3,0,())->0<=f2/\f2≠(f:Int):=fun p hp f2 hq=>by
   obtain⟨xg,n2, _,rfl, _⟩:=H1.mC hq
   refine⟨by omega,fun c=>hp ?_⟩
   rw[c] at xg
   have h0: ∀p,a9 (fW h1 1) p=none:=fun p=>by rw[t1];rfl
   exact H1.hc.inj xg (H1.mC p1).1 (h0 _) (h0 _)
  have new: ∃f,dm h2 1 a=(f,3,0,())/\cZ h2.s.1 (16*f+3)=au .u64 v a/\cZ h2.s.1 (16*f+4)=0:=
   ⟨f,p2,by rw[u3.ld,if_pos rfl],by rw[u3.ld,if_neg (by omega)];exact z4⟩
  refine⟨⟨Qt,u2⟩,l2,by rw[DZ u3.g];exact t1,by rw[u3.ds,List.length_append];exact c1,fun p hp=>?_,fun p hp=>?_⟩
  ·by_cases c:p=a
   ·rw[c];exact new
   ·have hp:p∈l:=by
     rcases List.mem_append.1 hp with hp|hp
     ·exact hp
     ·exact absurd (List.mem_singleton.1 hp) c
    obtain⟨f2,r1,r2,r3⟩:=o1 p hp
    obtain⟨w1,w2⟩:=own p c f2 r1
    exact⟨f2,u3.pg.trans r1,by rw[u3.ld,if_neg (by omega)];exact r2 c,by rw[u3.ld,if_neg (by omega)];exact r3⟩
  ·rw[u3.pg] at hp
   rcases n1 p hp with h|h
   ·exact List.mem_append_left _ h
   ·rw[h];exact List.mem_append_right _ (List.mem_singleton.2 rfl)
 obtain⟨y1,y2,y3⟩:=W2.load (a:=a) (List.mem_append_right _ (List.mem_singleton.2 rfl)) h0
 obtain⟨x1,x2,x3⟩:=l6 (a:=16*a+4) l2
 have Yp:=u2.xF l2 (a:=16*a+4) (by omega) (by rw[e1.2.2.1];exact p2) (Tk f hfr).1
 rw[e1.2.2.2,u3.ld,if_neg (by omega),z4] at Yp
 rw[Yp] at x2 x3
 exact⟨h1,h2,E,d1,d2,k3,⟨_,q3,fun e=>z3 e⟩,q2,q1,s1,s2,y1,y2,y3,x1,x2,x3,W2⟩
theorem WS.first {n:Nat} (hn:49<=n/\n<=4096) (v:Int):WS (g_ (h0 n) 0 1 0 0 0) v []/\lH (h0 n) 0 1 0 0 0=0:=by
 have H:=HI.new (n:=n) (by omega)
 have hp:iu (h0 n) 0 1 0 0 0=0:=rfl
 obtain⟨h1,h2, _⟩:=kG hp
 have hf:kV (h0 n).g=some 1:=rfl
 have hc:aX (h0 n).s.2 0=n:=by
  show aX (List.replicate n zD) 0=n
  rw[OI,if_pos rfl]
 have ht:pq (h0 n).s ((1:Nat):Int)=0:=H.inv.RY (by decide) (by rw[hc];omega)
 have hS:(run (h0 n) 0 1 0 0 0).1={ (h0 n) with s:=gM (h0 n).s ((1:Nat):Int) fun _=>0,g:=aS (h0 n).g 1 (some ⟨dL (h0 n).s ((1:Nat):Int),[]⟩)}:=by
  show gU (h0 n)= _
  unfold gU
  rw[hf]
  exact if_pos ht
 have hE:(run (h0 n) 0 1 0 0 0).2.2=0:=by
  show m9 (h0 n)=0
  unfold m9
  rw[hf]
  exact ht
 obtain⟨fX,H'⟩:=H.step 0 1 0 0 (a:=0) (by decide)
 obtain⟨i,hi1,hi2,hd⟩: ∃i:Nat,i<(h0 n).s.2.length/\(h0 n).s.2[i]? =some zD/\c8 (h0 n).s.2 3 1=(h0 n).s.2.set i (3,1,0,0,()):=by
  obtain⟨i,e1,e2, _, _,e4⟩:=lz (ds:=(h0 n).s.2) (o:=1) (by rw[hc];omega) H.inv.fz (by decide)
  exact⟨i,e1,e2,e4⟩
 rw[h1,hS] at H' ⊢
 refine⟨⟨⟨fX,H'⟩,rfl,rfl,?_,fun a ha=>(by cases ha),fun a ha=>?_⟩,h2.trans hE⟩
 ·show 4*12<=aX (c8 (h0 n).s.2 3 1) 0+0
  rw[hd]
  have:=nZ (d':=((3:Int),(1:Int),(0:Int),(0:Int),())) hi2 0
  rw[if_pos (show zD.1=0 from rfl),if_neg (show ¬ (3:Int)=0 by decide),hc] at this
  omega
 ·exfalso
  generalize hq:dm _ 1 a=q at ha
  obtain⟨f,r,e,u⟩:=q
  have ha:e=0:=ha
  subst ha
  obtain⟨_,m,d, _, _,hm,h4⟩:=H'.mC hq
  have hm:(c8 (h0 n).s.2 3 1)[m]? =some d:=hm
  rw[hd] at hm
  rcases js hi2 (d:=(h0 n).s.2.getD m zD) (d1:=(3,1,0,0,())) (d':=d) (by
   have:=(List.getElem?_eq_some_iff.1 hm).1
   rw[List.length_set] at this
   rw[List.getD_eq_getElem?_getD,List.getElem?_eq_getElem this];rfl) hm with ⟨_, _,e⟩|⟨_,e⟩
  ·rw[e] at h4;exact absurd h4 (by decide)
  ·have hz:(h0 n).s.2.getD m zD=zD:=by
    show(List.replicate n zD).getD m zD=zD
    rw[List.getD_eq_getElem?_getD,List.getElem?_replicate]
    split<;>rfl
   rw[e,hz] at h4;exact absurd h4 (by decide)
end
end Go.Proofs.YtdnoecpjcoibmaaGreat
namespace Go.Proofs.YtdnoecpjcoibmaaGreat
set_option maxRecDepth 100000
open Go.RX D
section
variable {gh:Gh} {h:HS} {v k a b c:Int}
theorem O4 {gr:List GT} {po:List Po.PT} {x:GT} {o i:Nat} (hx:x∈gr) (hz:x≠zG) (h1:x.1=(o:Int)) (h2:x.2.2.1=(i:Int)) (ho:1<=o/\o<=16) (hi:1<=i/\i<=16):BD gr po (o:Int) (i:Int)/\BD gr po (i:Int) (o:Int):=by
 have g1:gG (o:Int)=true:=ng.2 (by omega)
 have g2:gG (i:Int)=true:=ng.2 (by omega)
 exact⟨.inl (lu.2 ⟨g1,g2,.step .refl ⟨x,hx,hz,.inl ⟨h1,h2⟩⟩⟩),.inl (lu.2 ⟨g2,g1,.step .refl ⟨x,hx,hz,.inr ⟨h1,h2⟩⟩⟩)⟩
theorem HI.Bi (H:HI gh h) {i:Nat} {p f:Int} (hf:kI h i p=some f): ∃(o n:Nat) (d:DT),f=(n:Int)/\h.s.2[n]? =some d/\d.1=4/\d.2.1=(o:Int)/\(1<=o/\o<=16)/\(1<=i/\i<=16)/\(o=i\/(BD h.gr h.po (o:Int) (i:Int)/\BD h.gr h.po (i:Int) (o:Int))):=by
 have hd:=H.hc.dom hf
 cases ht:a9 (fW h i) p with
 |none=>
  obtain⟨n,d,e1,e2,e3,e4⟩:=H.hc.own hf ht
  exact⟨i,n,d,e1.symm,e2,e3,e4,⟨hd.1,hd.2.1⟩,⟨hd.1,hd.2.1⟩,.inl rfl⟩
 |some y=>
  obtain⟨a,f'⟩:=y
  obtain⟨n,d,o,e1,e2,e3,e4,e5,k,x,g1,g2,g3,g4,g5,g6⟩:=H.hc.Nb ht
  have lF:=(H.hc.uJ ht).1
  rw[hf] at lF;cases lF
  have ho:=H.hc.dom g5
  obtain⟨k1,k2,k3⟩:=dZ.1 g1
  rw[getD_some g2] at k3
  exact⟨o,n,d,e1.symm,e2,e3,e4,⟨ho.1,ho.2.1⟩,⟨hd.1,hd.2.1⟩,.inr (O4 (List.mem_of_getElem? g2) k3 g3 g4 ⟨ho.1,ho.2.1⟩ ⟨hd.1,hd.2.1⟩)⟩
theorem HI.apart (H:HI gh h) {i j:Nat} {p q f:Int} (hij:i≠j) (h1:kI h i p=some f) (h2:kI h j q=some f):qH h.gr h.po (i:Int) (j:Int)=true:=by
 obtain⟨o,n,d,e1,e2, _,e4, _,hi,hc⟩:=H.Bi h1
 obtain⟨o',n',d',Vq,UQ, _,Z2, _,hj,SH⟩:=H.Bi h2
 have:n=n':=Int.ofNat.inj (e1.symm.trans Vq)
 subst this
 rw[e2] at UQ;cases UQ
 have:o=o':=Int.ofNat.inj (e4.symm.trans Z2)
 subst this
 refine sE.2 ⟨by omega,by omega,?_⟩
 rcases hc with rfl|⟨_,hc⟩
 ·rcases SH with rfl|⟨SH, _⟩
  ·exact absurd rfl hij
  ·exact .step .refl SH
 ·rcases SH with rfl|⟨SH, _⟩
  ·exact .step .refl hc
  ·exact .step (.step .refl hc) SH
theorem Bj {g:Nat->Option GV} {n i:Nat} {f:GV->GV}:(aS g n (match g n with|some x=>some (f x)|none=>none) i).isSome=(g i).isSome/\(i≠n->aS g n (match g n with|some x=>some (f x)|none=>none) i=g i):=by
 unfold aS
 by_cases e:i=n
 ·rw[if_pos e];subst e
  refine⟨by cases g i<;>rfl,fun c=>absurd rfl c⟩
 ·rw[if_neg e];exact⟨rfl,fun _=>rfl⟩
theorem UO (h:HS) (v a b:Int):(gQ h v a b).g=h.g:=by
 unfold gQ
 split
 ·rfl
 split
 ·rfl
 split
 ·rfl
 split
 ·rfl
 ·rfl
theorem EU (hk:1<=k/\k<=17) (hc:qu k=false) (i:Nat):((run h v k a b c).1.g i).isSome=(h.g i).isSome:=by
 have:k=1\/k=2\/k=3\/k=4\/k=5\/k=6\/k=7\/k=8\/k=9\/k=10\/k=11\/k=12\/k=13\/k=14\/k=15\/k=16\/k=17:=by omega
 rcases this with rfl|rfl|rfl|rfl|rfl|rfl|rfl|rfl|rfl|rfl|rfl|rfl|rfl|rfl|rfl|rfl|rfl
 ·cases hc
 ·cases hc
 ·show((gQ h v a b).g i).isSome= _
  rw[UO]
 ·show((mM h v a).g i).isSome= _
  unfold mM;split<;>rfl
 ·show((ir h v a b).g i).isSome= _
  unfold ir
  split
  ·rfl
  split
  ·rfl
  split<;>rfl
 ·rfl
 ·show((dS h v a b).g i).isSome= _
  unfold dS;split<;>rfl
 ·show((fc h v a b c).g i).isSome= _
  unfold fc;split<;>rfl
 ·show((gF h v a b c).g i).isSome= _
  unfold gF
  split
  ·rfl
  split
  ·exact Bj.1
  ·rfl
 ·show((dU h v a).g i).isSome= _
  unfold dU
  split
  ·rfl
  split
  ·exact Bj.1
  ·rfl
 ·show((fh h v a).g i).isSome= _
  unfold fh;split<;>rfl
 ·show((jD h v a).g i).isSome= _
  unfold jD;split<;>rfl
 ·show((jE h v a b).g i).isSome= _
  unfold jE;split
  ·rfl
  split<;>rfl
 ·show((jC h v a).g i).isSome= _
  unfold jC;split<;>rfl
 ·rfl
 ·show((gC h v a).g i).isSome= _
  unfold gC;split<;>rfl
 ·cases hc
structure LS (n:Nat) (h:HS):Prop where
 hi: ∃gh,HI gh h
 g1: ∃x,h.g 1=some x
 go: ∀i,i≠1->h.g i=none
 ln:h.s.2.length=n
theorem uD (H: ∃gh,HI gh h) (ha:0<=a):(g_ h v k a b c).s.2.length=h.s.2.length:=by
 obtain⟨gh,H⟩:=H
 obtain⟨fX,H'⟩:=H.step v k b c ha
 have h1:=H.sz
 have h2:=H'.sz
 rw[Cw] at h2
 omega
theorem LS.step {n:Nat} (L:LS n h) (k:Int) {a:Int} (b c:Int) (ha:0<=a):LS n (g_ h 1 k a b c):=by
 obtain⟨gh,H⟩:=L.hi
 obtain⟨fX,H'⟩:=H.step 1 k b c ha
 have hd: ∀i,((g_ h 1 k a b c).g i).isSome=(h.g i).isSome:=fun i=>by
  unfold g_
  by_cases hp:iu h 1 k a b c=0
  ·rw[if_pos hp]
   obtain⟨h1, _, _⟩:=zf hp
   refine EU h1 ?_ i
   unfold iu at hp
   split at hp
   ·exact absurd hp (by decide)
   split at hp
   ·exact absurd hp (by decide)
   rename_i dc
   cases e:qu k with
   |false=>rfl
   |true=>rw[e] at dc;exact absurd rfl dc
  ·rw[if_neg hp]
 refine⟨⟨fX,H'⟩,?_,fun i hi=>?_,(uD ⟨gh,H⟩ ha).trans L.ln⟩
 ·obtain⟨x,hx⟩:=L.g1
  have:=hd 1
  rw[hx] at this
  exact Option.isSome_iff_exists.1 this
 ·have:=hd i
  rw[L.go i hi] at this
  exact Option.isNone_iff_eq_none.1 (by rw[<-Option.not_isSome,this];rfl)
theorem LS.EV {n:Nat} (L:LS n h) (i:Nat):fW h i=[]:=by
 obtain⟨gh,H⟩:=L.hi
 by_cases e:i=1
 ·subst e
  cases ht:fW h 1 with
  |nil=>rfl
  |cons t l=>
   exfalso
   have hm:t∈fW h 1:=by rw[ht];exact List.mem_cons_self
   obtain⟨_,o,ho,k,x,g1,g2,g3,g4,g5,g6⟩:=H.hc.uJ (a:=t.2.1) (f:=t.2.2) (H.hc.Cc hm)
   rw[eH (L.go o ho)] at g5
   cases g5
 ·unfold fW;rw[L.go i e]
theorem wu (H:HI gh h): ∀n,n<=h.s.2.length->(∀{m:Nat} {d:DT},(bC h.s n).1.2[m]? =some d->(m<n->d.1≠5)/\(∃d0,h.s.2[m]? =some d0/\(d=d0\/d=zD)))
 |0, _,m,d,hd=>⟨fun c=>absurd c (Nat.not_lt_zero _),d,hd,.inl rfl⟩
 |n+1,hn,m,d,hd=>by
  have ih:=fun{m d}=>wu H n (by omega) (m:=m) (d:=d)
  have Hn:=H.DY n
  have hd:(iq (bC h.s n).1 (n:Int)).2[m]? =some d:=hd
  have hl:=(lA h.s n).2
  have hn2:(bC h.s n).1.2[n]? =some (bC h.s n).1.2[n]:=List.getElem?_eq_getElem (by omega)
  by_cases e:((bC h.s n).1.2[n]).1=5
  ·have e1:iq (bC h.s n).1 (n:Int)=((bC h.s n).1.1,(bC h.s n).1.2.set n zD):=(Hn.PI (h:=bh h (bC h.s n).1) hn2 e).1
   rw[e1] at hd
   have hd:((bC h.s n).1.2.set n zD)[m]? =some d:=hd
   by_cases c:n=m
   ·subst c
    rw[List.getElem?_set_self (by omega)] at hd
    cases hd
    obtain⟨_,d0,q1, _⟩:=ih hn2
    exact⟨fun _=>by decide,d0,q1,.inr rfl⟩
   ·rw[List.getElem?_set_ne c] at hd
    obtain⟨q1,q2⟩:=ih hd
    exact⟨fun hm=>q1 (by omega),q2⟩
  ·have e1:=(EQ (s:=(bC h.s n).1) (f:=(n:Int)) fun n' d' h1 h2=>by
    have:n=n':=Int.ofNat.inj h1
    subst this
    rw[hn2] at h2;cases h2;exact e).1
   rw[e1] at hd
   obtain⟨q1,q2⟩:=ih hd
   refine⟨fun hm=>?_,q2⟩
   by_cases c:m=n
   ·subst c
    rw[hn2] at hd;cases hd;exact e
   ·exact q1 (by omega)
theorem Ms {ds:List DT} (h: ∀{m:Nat} {d:DT},ds[m]? =some d->d.1=0):aX ds 0=ds.length:=by
 unfold aX
 refine List.countP_eq_length.2 fun d hd=>?_
 obtain⟨m,hm⟩:=List.getElem?_of_mem hd
 have:=h hm
 simpa using this
theorem LS.leaves {n:Nat} (L:LS n h):lH h 0 2 1 0 0=0/\ ∃h1 h2,g_ h 0 2 1 0 0=h1/\g_ h1 0 17 0 0 0=h2/\(∃gh,HI gh h2)/\aD h2.g 1=false/\(aX h2.s.2 0=n/\h2.s.2.length=n):=by
 obtain⟨gh,H⟩:=L.hi
 obtain⟨x,hx⟩:=L.g1
 have hl:aD h.g 1=true:=dw.2 ⟨by decide,x,hx⟩
 have hp:iu h 0 2 1 0 0=0:=rfl
 obtain⟨q1,q2, _⟩:=kG hp
 have Qr: ∀f,c_ (fW h) f=0:=fun f=>sH fun i t ht=>by rw[L.EV i] at ht;cases ht
 have hb:mA h.s.2 1=false:=by
  cases e:mA h.s.2 1 with
  |false=>rfl
  |true=>
   exfalso
   unfold mA at e
   obtain⟨i,hi,hd⟩:=List.any_eq_true.1 e
   obtain⟨d,k1,k2⟩:=nA.1 hi
   rw[kF k1,H.hc.refs k1,Qr] at hd
   exact absurd hd (by decide)
 have hE:(run h 0 2 1 0 0).2.2=0:=by
  show Cb h 1=0
  unfold Cb
  rw[if_pos hl,hb];rfl
 obtain⟨Qt,H1, _⟩:=H.zI 1
 have hS:(run h 0 2 1 0 0).1=jF h 1:=by
  show mT h 1= _
  unfold mT
  rw[if_pos hl,hb]
  show _root_.Go.Proofs.YtdnoecpjcoibmaaGreat.jF (eR 1 (rS h 1).length h) 1= _
  rw[show rS h 1=[] from L.EV 1];rfl
 have hD:mT h 1=jF h 1:=hS
 rw[hD] at H1
 rw[q1,hS]
 refine⟨q2.trans hE, _, _,rfl,rfl,?_⟩
 have hg: ∀i,(jF h 1).g i=none:=fun i=>by
  show aS h.g 1 none i=none
  unfold aS
  by_cases c:i=1
  ·rw[if_pos c]
  ·rw[if_neg c];exact L.go i c
 have Im:(jF h 1).s.2.length=n:=by
  have h3:=uD (v:=0) (k:=2) (a:=1) (b:=0) (c:=0) ⟨gh,H⟩ (by decide)
  rw[q1,hS] at h3
  exact h3.trans L.ln
 generalize jF h 1=h1 at H1 hg Im
 obtain⟨s1, _, _⟩:=kG (h:=h1) (v:=0) (k:=17) (a:=0) (b:=0) (c:=0) rfl
 have s1:g_ h1 0 17 0 0 0=bh h1 (bC h1.s h1.s.2.length).1:=s1
 have H2:=H1.DY h1.s.2.length
 rw[s1]
 refine⟨⟨_,H2⟩,?_,?_⟩
 ·show aD h1.g 1=false
  unfold aD
  rw[show h1.g (1:Int).toNat=none from hg 1];rfl
 have HU:(bh h1 (bC h1.s h1.s.2.length).1).s.2.length=n:=((lA h1.s h1.s.2.length).2).trans Im
 refine⟨?_,HU⟩
 rw[<-HU]
 refine Ms fun{m d} hm=>?_
 obtain⟨z1,d0,z2,z3⟩:=wu H1 h1.s.2.length (Nat.le_refl _) hm
 have hml:=(List.getElem?_eq_some_iff.1 z2).1
 have h5:=z1 hml
 obtain⟨hk, _⟩:=H2.hc.kd hm
 rcases hk with hk|hk|hk|hk
 ·exact hk
 ·exfalso
  obtain⟨w,hw⟩:=H2.inv.tb hm hk
  obtain⟨o,l,y⟩:=w
  obtain⟨i,z, _,hz⟩:=H2.owner hw
  have hz:h1.g i=some z:=hz
  rw[hg i] at hz;cases hz
 ·exfalso
  obtain⟨i,p, _,hf, _⟩:=H2.hc.Ib hm hk
  rw[eH (h:=bh h1 (bC h1.s h1.s.2.length).1) (hg i)] at hf;cases hf
 ·exact absurd hk h5
theorem LS.first {n:Nat} (hn:49<=n/\n<=4096):LS n (g_ (h0 n) 0 1 0 0 0)/\qq (h0 n) 0 1 0 0 0=1:=by
 have H:=HI.new (n:=n) (by omega)
 obtain⟨W,hE⟩:=WS.first (n:=n) hn 0
 obtain⟨m,x,hm, _, _,hx⟩:=Bh W.lv
 have:m=1:=by omega
 subst this
 obtain⟨h1,h2,h3⟩:=kG (h:=h0 n) (v:=0) (k:=1) (a:=0) (b:=0) (c:=0) rfl
 refine⟨⟨W.hi,⟨x,hx⟩,fun i hi=>?_,?_⟩,?_⟩
 ·rw[h1]
  show(gU (h0 n)).g i=none
  unfold gU
  rw[show kV (h0 n).g=some 1 from rfl]
  dsimp only
  split
  ·show aS (h0 n).g 1 _ i=none
   unfold aS
   rw[if_neg hi]<;>rfl
  ·rfl
 ·rw[uD ⟨_,H⟩ (by decide)]
  show(List.replicate n zD).length=n
  exact List.length_replicate
 ·rw[h3, <-h2,hE];rfl
end
end Go.Proofs.YtdnoecpjcoibmaaGreat
namespace Go.Proofs.YtdnoecpjcoibmaaGreat
set_option maxRecDepth 100000
open Go.RX D
def DI (n:Nat):HS:=g_ (g_ (h0 n) 0 1 0 0 0) 0 1 0 0 0
theorem TV:aD (DI 60).g 1=true/\aD (DI 60).g 2=true:=by decide+kernel
theorem Xq:aX (DI 60).s.2 0=58:=by decide+kernel
theorem Xr:(DI 60).gr=List.replicate 16 zG:=by decide+kernel
theorem Xs:((DI 60).s.2.all fun d=>decide (d.1≠4))=true:=by decide+kernel
theorem Xt:fW (DI 60) 1=[]/\fW (DI 60) 2=[]:=by decide+kernel
section
variable {gh:Gh} {h:HS} {v k a b c:Int}
theorem HI.Te (H:HI gh h) (h4:(h.s.2.all fun d=>decide (d.1≠4))=true) (i:Nat) (p:Int):(dm h i p).2.2.1≠0:=fun e=>by
 generalize hq:dm h i p=q at e
 obtain⟨f,r,e',u⟩:=q
 have e:e'=0:=e
 subst e
 obtain⟨_,n,d, _, _,hd,d4⟩:=H.mC hq
 have:=List.all_eq_true.1 h4 d (List.mem_of_getElem? hd)
 simp at this;exact this d4
theorem Sa (hl:aD h.g v=true):g_ h v 8 a b c=fc h v a b c/\lH h v 8 a b c=(kD h v a b c).2/\qq h v 8 a b c=if(kD h v a b c).2=0 then(kD h v a b c).1 else 0:=
 kG (sd (k:=8) hl rfl rfl)
theorem Sb (hl:aD h.g v=true):g_ h v 9 a b c=gF h v a b c/\lH h v 9 a b c=jv h v a b c/\qq h v 9 a b c=0:=by
 obtain⟨h1,h2,h3⟩:=kG (sd (k:=9) (a:=a) (b:=b) (c:=c) hl rfl rfl)
 exact⟨h1,h2,h3.trans (by split<;>rfl)⟩
theorem Se (hl:aD h.g v=true):g_ h v 10 a 0 0=dU h v a/\lH h v 10 a 0 0=kU h v a/\qq h v 10 a 0 0=0:=by
 obtain⟨h1,h2,h3⟩:=kG (sd (k:=10) (a:=a) (b:=0) (c:=0) hl rfl rfl)
 exact⟨h1,h2,h3.trans (by split<;>rfl)⟩
theorem HI.uA (H:HI gh h) {i:Nat} {x:GV} (hx:h.g i=some x) {p f r:Int} (hp:0<=p/\p<65536) (hf:0<=f/\f<4096) (hr:1<=r/\r<=7) (he:(dm h i p).2.2.1≠0) (hc:3<=aX h.s.2 0):gO h.s x.root false p f r=0:=by
 rw[bH hx] at he
 obtain⟨f0,j,hj,hE⟩:=H.inv.jH (H.root hx) hp
 refine H.inv.uA (H.root hx) hp hf hr hE ?_ (by omega)
 rw[H.inv.fB (H.root hx) hp hE] at he
 unfold lM at he
 cases h1:(aC h.s.1 (16*f0+px j p % 16)).1 with
 |false=>rfl
 |true=>rw[if_pos h1] at he;exact absurd rfl he
theorem Bk {g:Nat->Option GV} {n:Nat} (hl:aD g (n:Int)=true): ∃x,g n=some x/\aT g (n:Int)=x.root:=by
 obtain⟨x,h1,h2, _⟩:=bG hl
 exact⟨x,h1,h2⟩
theorem shares (H0:HI gh (DI 60)) {p q o v0 v1:Int} (hp:0<=p/\p<65536) (hq:0<=q/\q<65536) (ho:0<=o/\o<16):
 ∃h3 h4 h5 h6 h7 h8,g_ (DI 60) 1 3 p 3 0=h3/\lH (DI 60) 1 3 p 3 0=0/\g_ h3 1 8 p 2 1=h4/\lH h3 1 8 p 2 1=0/\qq h3 1 8 p 2 1=0/\g_ h4 2 9 0 q 1=h5/\lH h4 2 9 0 q 1=0/\
  g_ h5 2 7 (16*q+o) v0 0=h6/\g_ h6 1 6 (16*p+o) 0 0=h6/\qq h6 1 6 (16*p+o) 0 0=v0/\lH h6 1 6 (16*p+o) 0 0=0/\g_ h6 1 7 (16*p+o) v1 0=h7/\g_ h7 2 6 (16*q+o) 0 0=h7/\qq h7 2 6 (16*q+o) 0 0=v1/\lH h7 2 6 (16*q+o) 0 0=0/\
  g_ h7 2 10 q 0 0=h8/\lH h7 2 10 q 0 0=0/\g_ h8 2 6 (16*q+o) 0 0=h8/\lH h8 2 6 (16*q+o) 0 0=4/\lH h8 1 6 (16*p+o) 0 0=0/\qq h8 1 6 (16*p+o) 0 0=v1:=by
 have hno:=H0.Te Xs
 have l1:=TV.1
 have l2:=TV.2
 have hc:=Xq
 have hg:=Xr
 have ht:=Xt
 generalize DI 60=h2 at*
 obtain⟨d1,d2, _⟩:=JS (a:=p) (b:=3) l1
 have hcan:=H0.ES l1 hp (b:=3) (by decide) (by omega)
 rw[show(1:Int).toNat=1 from rfl,if_neg (hno 1 p)] at hcan
 obtain⟨g3,f,H3,O, _⟩:=H0.zc l1 hcan
 rw[hcan] at d2
 rw[show(1:Int).toNat=1 from rfl] at O
 have Z3:54<=aX (gQ h2 1 p 3).s.2 0:=by have:=O.ct;omega
 generalize gQ h2 1 p 3=h3 at d1 H3 O Z3
 have l1:aD h3.g 1=true:=by rw[O.g];exact l1
 have l2:aD h3.g 2=true:=by rw[O.g];exact l2
 have t1:fW h3 1=[]:=(DZ O.g 1).trans ht.1
 have t2:fW h3 2=[]:=(DZ O.g 2).trans ht.2
 have p1:dm h3 1 p=((f:Int),3,0,()):=O.pg
 have p2:(dm h3 2 q).2.2.1≠0:=by rw[O.ef.pg.to fun c=>absurd c.1 (by decide)];exact hno 2 q
 have Yq:h3.gr=List.replicate 16 zG:=O.gr.trans hg
 obtain⟨_,n,d,hfn,hn, _⟩:=H3.mC p1
 have hfr:0<=(f:Int)/\(f:Int)<4096:=by omega
 clear O H0 hno hc hg ht hcan
 obtain⟨x1,hx1,r1⟩:=Bk (n:=1) l1
 obtain⟨x2,wX,r2⟩:=Bk (n:=2) l2
 have r2:aT h3.g 2=x2.root:=r2
 have Z4:x1.tk=[]:=(bX hx1).symm.trans t1
 have Z5:x2.tk=[]:=(bX wX).symm.trans t2
 have oE:cr h3.g 1 2=0:=by unfold cr;rw[if_neg (by omega),if_pos l2]
 have q1:cL h3.g h3.s 1 p=((f:Int),3,0,()):=(qN l1 p).trans p1
 have b1:cI h3 1 p=false:=by unfold cI;rw[iE l1 hx1,Z4];rfl
 have e0:lS h3 1 p 2 1=0:=by
  unfold lS
  rw[if_neg (by omega),oE,q1,b1,if_neg (by simp),if_neg (by simp),if_neg (by decide)]
 have e1:iQ (List.replicate 16 zG) 1 p 2=0:=by
  unfold iQ
  rw[decide_eq_false (show ¬ p<0 by omega),decide_eq_false (show ¬ p>=65536 by omega),if_neg (by decide),if_neg (fun e=>e rfl),if_neg (by decide+kernel)]
 have e2:h_ (List.replicate 16 zG) 1 p 2=0:=by unfold h_;rw[if_pos e1];decide+kernel
 have e3:gR (List.replicate 16 zG) 1 p 2 true=(1,p,2,true,0,())::List.replicate 15 zG:=by unfold gR;rw[if_pos e1,e2];rfl
 obtain⟨o1,o2,o3⟩:=Sa (h:=h3) (a:=p) (b:=2) (c:=1) l1
 have oV:kD h3 1 p 2 1=(0,0):=by unfold kD;rw[if_pos e0,Yq,e1,e2]
 rw[oV] at o2 o3
 have o3:qq h3 1 8 p 2 1=0:=o3
 have oS:fc h3 1 p 2 1=kT h3 ((1,p,2,true,0,())::List.replicate 15 zG):=by unfold fc;rw[if_pos e0,Yq,show((1:Int)==1)=true from rfl,e3]
 have H4:=H3.offer 1 p 2 1
 rw[oS] at o1 H4
 have Yr: ∀i r,dm (kT h3 ((1,p,2,true,0,())::List.replicate 15 zG)) i r=dm h3 i r:=fun i r=>rfl
 have g4:(kT h3 ((1,p,2,true,0,())::List.replicate 15 zG)).g=h3.g:=rfl
 have s4:(kT h3 ((1,p,2,true,0,())::List.replicate 15 zG)).s=h3.s:=rfl
 have Vo:(kT h3 ((1,p,2,true,0,())::List.replicate 15 zG)).gr=(1,p,2,true,0,())::List.replicate 15 zG:=rfl
 generalize kT h3 ((1,p,2,true,0,())::List.replicate 15 zG)=h4 at o1 H4 Yr g4 s4 Vo
 have l1':aD h4.g 1=true:=by rw[g4];exact l1
 have Ys:aD h4.g 2=true:=by rw[g4];exact l2
 have tG:iY h4 0=(1,p,2,true,0,()):=by unfold iY;rw[Vo];rfl
 have tQ:iy h4 0=((f:Int),3,0,()):=by unfold iy;rw[tG,g4,s4];exact q1
 have tB:cI h4 1 p=false:=by unfold cI;rw[g4];exact b1
 have tA:jR h4.gr 0=some 0:=by rw[Vo];rfl
 have tg:e_ h4.gr 0 2 true=0:=by
  unfold e_
  rw[tA,Vo];rfl
 have tE:jv h4 2 0 q 1=0:=by
  unfold jv
  rw[if_neg (by omega),if_neg (by decide),tA,if_neg (by decide),tG,if_neg (fun c=>c.elim (fun c=>c rfl) fun c=>absurd (show true=false from c.2) (by decide)),tQ,if_neg (fun c=>c rfl)]
  dsimp only
  rw[tB,if_neg (by decide),show((1:Int)==1)=true from rfl,tg,if_neg (by decide),g4,r2,s4]
  exact H3.uA wX hq hfr (by decide) p2 (by omega)
 obtain⟨u1,u2, _⟩:=Sb (h:=h4) (a:=0) (b:=q) (c:=1) Ys
 rw[tE] at u2
 obtain⟨v1',g5,H5,E5, _,w5, _⟩:=H4.Cv Ys tE
 rw[v1'] at u1
 rw[tQ] at w5
 have w5:dm (fk h4 2 0 q 1) 2 q=((f:Int),3,0,()):=w5
 have z5:dm (fk h4 2 0 q 1) 1 p=((f:Int),3,0,()):=(E5.pg.to fun c=>absurd c.1 (by decide)).trans ((Yr 1 p).trans p1)
 have Wx:(fk h4 2 0 q 1).g=aS h3.g 2 (some {x2 with tk:=[(q,0,(f:Int))]}):=by
  show aS h4.g (2:Int).toNat (match h4.g (2:Int).toNat with|some x=>some {x with tk:=ki (q,0,(iy h4 0).1) x.tk}|none=>none)= _
  rw[g4,show(2:Int).toNat=2 from rfl,wX,tQ]
  dsimp only
  rw[Z5];rfl
 generalize fk h4 2 0 q 1=h5 at u1 H5 w5 z5 Wx
 have Yt:h5.g 2=some {x2 with tk:=[(q,0,(f:Int))]}:=by rw[Wx];exact eJ _ _ _
 have Wy:aD h5.g 2=true:=dw.2 ⟨by decide, _,Yt⟩
 have Z6:aD h5.g 1=true:=by
  refine dw.2 ⟨by decide,x1,?_⟩
  rw[Wx];unfold aS;rw[if_neg (by decide)];exact hx1
 have e1:(16*q+o) / 16=q/\(16*q+o) % 16=o/\(16*p+o) / 16=p/\(16*p+o) % 16=o:=by omega
 have al:=Tk (f:Int) hfr
 obtain⟨s1,s2,s3⟩:=vI (a:=16*q+o) (b:=v0) Wy
 obtain⟨_,H6,S6⟩:=H5.I8 Wy (a:=16*q+o) (b:=v0) (by omega) (by rw[e1.1];exact w5) al.2
 rw[e1.2.1] at S6
 generalize dS h5 2 (16*q+o) v0=h6 at s1 H6 S6
 have Tl:aD h6.g 1=true:=by rw[S6.g];exact Z6
 have Z7:aD h6.g 2=true:=by rw[S6.g];exact Wy
 obtain⟨a1,a2,a3⟩:=l6 (a:=16*p+o) Tl
 have L6:=H6.xF Tl (a:=16*p+o) (by omega) (by rw[e1.2.2.1];exact S6.pg.trans z5) al.1
 rw[e1.2.2.2,S6.ld,if_pos rfl] at L6
 rw[L6] at a2 a3
 obtain⟨c1,c2,c3⟩:=vI (a:=16*p+o) (b:=v1) Tl
 obtain⟨_,H7,S7⟩:=H6.I8 Tl (a:=16*p+o) (b:=v1) (by omega) (by rw[e1.2.2.1];exact S6.pg.trans z5) al.2
 rw[e1.2.2.2] at S7
 generalize dS h6 1 (16*p+o) v1=h7 at c1 H7 S7
 have Yu:aD h7.g 1=true:=by rw[S7.g];exact Tl
 have Qu:aD h7.g 2=true:=by rw[S7.g];exact Z7
 have w7:dm h7 2 q=((f:Int),3,0,()):=S7.pg.trans (S6.pg.trans w5)
 have z7:dm h7 1 p=((f:Int),3,0,()):=S7.pg.trans (S6.pg.trans z5)
 obtain⟨i1,i2,i3⟩:=l6 (a:=16*q+o) Qu
 have L7:=H7.xF Qu (a:=16*q+o) (by omega) (by rw[e1.1];exact w7) al.1
 rw[e1.2.1,S7.ld,if_pos rfl] at L7
 rw[L7] at i2 i3
 obtain⟨j1,j2,j3⟩:=Se (h:=h7) (a:=q) Qu
 have Z8:h7.g 2=some {x2 with tk:=[(q,0,(f:Int))]}:=by rw[S7.g,S6.g];exact Yt
 have bB:cI h7 2 q=true:=by
  unfold cI
  rw[iE Qu Z8]
  show(match a9 [(q,0,(f:Int))] q with|some y=>(y.1,true,())|none=>(0,false,())).2.1=true
  rw[show a9 [(q,0,(f:Int))] q=some (0,(f:Int)) by rw[jq,if_pos rfl]]
 have bE:kU h7 2 q=0:=by unfold kU;rw[if_neg (by omega),if_pos bB]
 rw[bE] at j2
 obtain⟨g8,H8,E8,w8, _⟩:=H7.zC Qu bE
 have z8:dm (dU h7 2 q) 1 p=((f:Int),3,0,()):=(E8.pg.to fun c=>absurd c.1 (by decide)).trans z7
 have l8: ∀i:Nat,((dU h7 2 q).g i).isSome=(h7.g i).isSome:=fun i=>EU (k:=10) (v:=2) (a:=q) (b:=0) (c:=0) (h:=h7) (by decide) rfl i
 generalize dU h7 2 q=h8 at j1 H8 E8 w8 z8 l8
 have Yv:aD h8.g 1=true:=by unfold aD at Yu ⊢;rw[l8];exact Yu
 have Yw:aD h8.g 2=true:=by unfold aD at Qu ⊢;rw[l8];exact Qu
 obtain⟨k1,k2,k3⟩:=l6 (a:=16*q+o) Yw
 rw[H8.UN Yw (a:=16*q+o) (by omega) (by rw[e1.1];show(dm h8 2 q).2.2.1≠0;rw[show dm h8 2 q=(0,0,4,()) from w8];decide)] at k2
 obtain⟨m1,m2,m3⟩:=l6 (a:=16*p+o) Yv
 have L8:=H8.xF Yv (a:=16*p+o) (by omega) (by rw[e1.2.2.1];exact z8) al.1
 obtain⟨_,n8,d8,Z9, _,Z_,d84⟩:=H8.mC z8
 obtain⟨_,n7,d7,Yx, _,hd7,d74⟩:=H7.mC z7
 have:n7=n8:=Int.ofNat.inj (Yx.symm.trans Z9)
 subst this
 have hw:=E8.ws hd7 d74 Z_ d84 (by omega) o ho.1 ho.2
 rw[<-Yx,S7.ld,if_pos rfl] at hw
 rw[e1.2.2.2,hw] at L8
 rw[L8] at m2 m3
 exact⟨h3,h4,h5,h6,h7,h8,d1,d2,o1,o2,o3,u1,u2,s1,a1,a3,a2,c1,i1,i3,i2,j1,j2,k1,k2,m2,m3⟩
theorem O5: ∃gh,HI gh (DI 60):=by
 obtain⟨_,H1⟩:=(HI.new (n:=60) (by decide)).step 0 1 0 0 (a:=0) (by decide)
 exact H1.step 0 1 0 0 (a:=0) (by decide)
end
end Go.Proofs.YtdnoecpjcoibmaaGreat
namespace Go.Proofs.YtdnoecpjcoibmaaGreat
set_option maxRecDepth 100000
open Go.RX D
theorem Nd {x:Int} (h:(Lit.int .u8 x).wf=true):0<=x/\x<256:=by
 simp[Lit.wf,IntKind.min,IntKind.max,IntKind.bits,IntKind.signed] at h
 omega
theorem I9 {x:Int} (h:(Lit.int .u16 x).wf=true):0<=x/\x<65536:=by
 simp[Lit.wf,IntKind.min,IntKind.max,IntKind.bits,IntKind.signed] at h
 omega
theorem I_ {x:Int} (h: -9223372036854775808<=x) (h':x<9223372036854775808):ax .i64 x=x:=eT h h'
theorem D4 {x d:Int} (h:0<=x):dM x d=x % d:=by unfold dM;exact Int.tmod_eq_emod_of_nonneg h
theorem UP (a:Addr) (m n:Nat):(a.add m).add n=a.add (m+n):=by
 unfold Addr.add
 by_cases hm:m=0<;>by_cases hn:n=0<;>simp[hm,hn,Nat.add_assoc]
theorem sJ {w:World} {p:Option Addr} {s:Sc} {ss:List Sc} {x:s.T} {y:d_ ss} (h:cg w p (.agg (s::ss)) (x,y)):cg w (af p 1) (.agg ss) y:=by
 obtain⟨a,rfl,h⟩:=h
 refine⟨a.add 1,rfl,fun i hi=>?_⟩
 rw[UP,Nat.add_comm 1 i,h (i+1) (by simp;omega)]
 rfl
abbrev qj:List Sc:=[.int .i64,.int .i64,.int .u64,.int .u64,.int .u64]
section
variable {Q:Sys} {X:HX} {D G:List Nat} {w0 w:World} {h:HS} {L:List (Nat×List Value)}
theorem l7 {a:Int} (h:(Lit.int .u64 a).wf=true):0<=a/\a<18446744073709551616:=by
 simp[Lit.wf,IntKind.min,IntKind.max,IntKind.bits,IntKind.signed] at h
 omega
theorem mW (H:bJ Q X D G w0 w h L) (g:Good Q h) {v k a b c:Int} (ha:0<=a/\a<18446744073709551616) (hb:0<=b/\b<18446744073709551616) (hc:0<=c/\c<18446744073709551616) {h':HS} (hS:g_ h v k a b c=h') {e:TypeId} {K:RS->Nat->World->Prop}
 (kk: ∀b1 w2,Good Q h'->bJ Q X D G w0 w2 h' ((b1,[.int .u64 (qq h v k a b c),.int .i64 (lH h v k a b c)])::L)->K (qq h v k a b c,lH h v k a b c,()) b1 w2):
 az Tryz.prog 14 (.el (.agg gw)) [.pointer (some ⟨X.hb,0,none⟩),.int .i64 v,.agg ⟨fi k a b c⟩] w fun x w2=>aA w2 ⟨[.int .u64 0,.int .i64 0]⟩ e fun b1 w2=>av w2 (some ⟨b1,0,none⟩) [.int .u64 x.1,.int .i64 x.2.1] fun w2=>K x b1 w2:=by
 subst hS
 exact QZ H g v k ha hb hc fun w2 g2 H=>H.al fun b1 w3 H=>H.cC 0 rfl rfl rfl fun w4 H=>kk b1 w4 g2 H
theorem y7 (H:bJ Q X D G w0 w h L) (g:Good Q h) {v k a b c:Int} (ha:0<=a/\a<18446744073709551616) (hb:0<=b/\b<18446744073709551616) (hc:0<=c/\c<18446744073709551616) {h':HS} (hS:g_ h v k a b c=h') {K:RS->World->Prop}
 (kk: ∀w2,Good Q h'->bJ Q X D G w0 w2 h' L->K (qq h v k a b c,lH h v k a b c,()) w2):
 az Tryz.prog 14 (.el (.agg gw)) [.pointer (some ⟨X.hb,0,none⟩),.int .i64 v,.agg ⟨fi k a b c⟩] w K:=by
 subst hS
 exact QZ H g v k ha hb hc kk
theorem pT {w w1:World} (h:Ext w w1):az Tryz.prog 18 (.el (.one .bool)) [] w1 fun(x:Bool) (w2:World)=>aj w2 fun(w1:World)=>x=true/\Ext w w1:=
 az.val ((At.start [] w).ext h) (s:= .el (.one .bool)) true (fun w3 _=>yB w3) fun w4 H=>aj.go H fun w5 H=>⟨rfl,H.all⟩
namespace bJ
theorem sl (H:bJ Q X [] [] w0 w h L) {e:El} {p:Option Addr} {xs:List e.T} (hx:Sl w0 e p xs) {i:Nat} {x:e.T} (hi:xs[i]? =some x):p.isSome=true/\cg w (af p (i*aI e)) e x:=(hx.ext H.all) i x hi
theorem Wz (H:bJ Q X [] [] w0 w h L) {p:Option Addr} {m:Nat} {xs:List (d_ qj)} (hx:Sl w0 (.agg qj) p xs) (xj: ∀x∈xs,fF qj x) (hm:m=xs.length) {i:Nat} (hi:i<m):
 ∃xv xk xa xb xc:Int,xs[i]? =some (xv,xk,xa,xb,xc,())/\p.isSome=true/\cg w (af p (Int.toNat (i:Int)*5)) (.agg qj) (xv,xk,xa,xb,xc,())/\(0<=xa/\xa<18446744073709551616)/\(0<=xb/\xb<18446744073709551616)/\(0<=xc/\xc<18446744073709551616):=by
 have dn:xs[i]? =some (xs[i]'(by omega)):=List.getElem?_eq_getElem (by omega)
 have hok:=xj _ (List.mem_of_getElem? dn)
 obtain⟨r1,r2⟩:=H.sl hx dn
 generalize xs[i]'(by omega)=x at dn hok r2
 obtain⟨xv,xk,xa,xb,xc,xu⟩:=x
 exact⟨xv,xk,xa,xb,xc,dn,r1,r2,l7 hok.2.2.1,l7 hok.2.2.2.1,l7 hok.2.2.2.2.1⟩
theorem frames (H:bJ Q X D G w0 w h L) {K:Option Addr->World->Prop} (k: ∀pn kK c' rest' w2,bJ Q X D G w0 w2 h ((pn,[.slice (some ⟨kK,0,none⟩) h.s.2.length c'])::(kK,flat eD h.s.2++rest')::L)->K (some ⟨pn,0,none⟩) w2):
 az Tryz.prog 19 (.el (.one .ptr)) [.pointer (some ⟨X.hb,0,none⟩)] w K:=by
 obtain⟨A,W,H⟩:=H.front
 obtain⟨G',S,J⟩:=H.call
 exact Dg S (X:=X) (A:=A) (g:=h.g) (by simp) fun pn kK c' rest' w2 S=>k pn kK c' rest' w2 (iI W (J S))
theorem query (H:bJ Q X D G w0 w h L) (v p:Int) {K:Int×Int×Int×Unit->World->Prop} (k: ∀w2,bJ Q X D G w0 w2 h L->K (cL h.g h.s v p) w2):
 az Tryz.prog 15 (.bq [.one (.int .i64),.one (.int .i64),.one (.int .i64)]) [.pointer (some ⟨X.hb,0,none⟩),.int .i64 v,.int .i64 p] w K:=by
 obtain⟨A,W,H⟩:=H
 obtain⟨G',S,J⟩:=H.call
 exact ot S (X:=X) (A:=A) (g:=h.g) List.mem_cons_self (a7 W []) v p fun w2 S=>k w2 ⟨A,W,J S⟩
theorem memory (H:bJ Q X D G w0 w h L) {K:Option Addr->World->Prop} (k: ∀w2,bJ Q X D G w0 w2 h L->K (some ⟨Q.bm,0,none⟩) w2):
 az Tryz.prog 26 (.el (.one .ptr)) [.pointer (some ⟨X.hb,0,none⟩)] w K:=by
 obtain⟨A,W,H⟩:=H.front
 obtain⟨G',S,J⟩:=H.call
 exact Dh S (X:=X) (A:=A) (g:=h.g) (by simp) fun w2 S=>k w2 (iI W (J S))
theorem IK (H:bJ Q X D G w0 w h L) (i j:Nat) {bp bf n c:Nat} {ds:List DT} {rest:List Value} (hp:L[i]? =some (bp,[.slice (some ⟨bf,0,none⟩) n c])) (hf:L[j]? =some (bf,flat eD ds++rest)) (hn:n=ds.length) (hle:n<=4096) (v:Int) {K:Int->World->Prop} (k: ∀w2,bJ Q X D G w0 w2 h L->K (aX ds v:Nat) w2):
 az Tryz.prog 20 (.el (.one (.int .i64))) [.pointer (some ⟨bp,0,none⟩),.int .i64 v] w K:=fun w1 h1=>by
 have H:=H.ext h1
 refine(AX (H.cY hp) (H.cY hf) hn hle v).mono fun x w2 h2=>?_
 obtain⟨e,h2⟩:=h2
 rw[e]
 exact k w2 (H.ext h2)
end bJ
end
theorem Dz (p q v0 v1 t:Int) (hp:0<=p/\p<65536) (hq:0<=q/\q<65536) (Pf:0<=v0/\v0<18446744073709551616) (uo:0<=v1/\v1<18446744073709551616) (ht:0<=t/\t<256) {w:World}:
 an Tryz.prog 5 (.el (.one .bool)) [.agg ⟨[.int .u16 p,.int .u16 q]⟩,.agg ⟨[.int .u64 v0,.int .u64 v1]⟩,.int .u8 t] w (fun b w'=>b=true/\Ext w w'):=by
 refine ai (C:=Y0) (aJ:=fun _=>[]) (Eq.mpr (Dx p q v0 v1 t w _) ?_)
 rw[cJ (a:=t) (by omega),D4 ht.1]
 have ho:0<=t % 16/\t % 16<16:=by omega
 generalize t % 16=o at ho
 obtain⟨gh,H0⟩:=O5
 obtain⟨h3,h4,h5,h6,h7,h8,s1,e1,s2,e2,v2,s3,e3,s4,s5,v5,e5,s6,s7,v7,e7,s8,e8,s9,e9,e10,v10⟩:=shares H0 (v0:=v0) (v1:=v1) hp hq ho
 have cp:ax .u64 p=p:=cJ (by omega)
 have cq:ax .u64 q=q:=cJ (by omega)
 have ap:au .u64 (b_ .u64 16 p) o=16*p+o:=by rw[kZ (by omega) (by omega),g7 (by omega) (by omega)]
 have aq:au .u64 (b_ .u64 16 q) o=16*q+o:=by rw[kZ (by omega) (by omega),g7 (by omega) (by omega)]
 refine aA.go (At.start [] w) fun bx w1 H=>aA.go H fun bv w2 H=>?_
 refine lY H 60 (fun c=>by omega) fun _ _ Q X w1 hQ H=>ak rfl ⟨⟨rfl,by decide,by decide⟩,H.bu 1 rfl rfl ⟨⟨rfl,by decide,by decide⟩,H.bu 1 rfl rfl ?_⟩⟩
 have g:=Good.new (Q:=Q) (n:=60) (by decide) hQ
 rw[cp,cq,ap,aq]
 refine y7 H g (by decide) (by decide) (by decide) rfl fun w2 g H=>?_
 refine y7 H g (by decide) (by decide) (by decide) rfl fun w2 g H=>?_
 have H:bJ Q X [] [] w w2 (DI 60) _:=H
 have g:Good Q (DI 60):=g
 refine mW H g (by omega) (by decide) (by decide) s1 fun b1 w2 g H=>?_
 rw[e1] at H
 refine mW H g (by omega) (by decide) (by decide) s2 fun b2 w2 g H=>?_
 rw[e2,v2] at H
 refine⟨rfl,H.bu 0 rfl rfl ?_⟩
 refine mW H g (by decide) (by omega) (by decide) s3 fun b3 w2 g H=>?_
 rw[e3] at H
 refine⟨⟨rfl,by decide,by decide⟩,H.bu 3 rfl rfl ?_⟩
 refine y7 H g (by omega) (by omega) (by decide) s4 fun w2 g H=>?_
 refine mW H g (by omega) (by decide) (by decide) s5 fun b4 w2 g H=>?_
 rw[e5,v5] at H
 refine⟨⟨rfl,by decide,by decide⟩,H.bu 4 rfl rfl ?_⟩
 refine y7 H g (by omega) (by omega) (by decide) s6 fun w2 g H=>?_
 refine mW H g (by omega) (by decide) (by decide) s7 fun b5 w2 g H=>?_
 rw[e7,v7] at H
 refine mW H g (by omega) (by decide) (by decide) s8 fun b6 w2 g H=>?_
 rw[e8] at H
 refine mW H g (by omega) (by decide) (by decide) s9 fun b7 w2 g H=>?_
 rw[e9] at H
 refine mW H g (by omega) (by decide) (by decide) rfl fun b8 w2 g H=>?_
 rw[e10,v10] at H
 refine⟨rfl,H.bu 7 rfl rfl ⟨fun _=>rfl,H.bu 6 rfl rfl ⟨fun _=>rfl,H.bu 5 rfl rfl (H.ld 4 rfl (show _=some (v0,0,()) from rfl) ?_)⟩⟩⟩
 refine⟨fun _=>⟨rfl,by decide,by decide⟩,H.bu 8 rfl rfl (H.ld 3 rfl (show _=some (v1,0,()) from rfl) ⟨fun _=>⟨rfl,by decide,by decide⟩,H.bu 8 rfl rfl ?_⟩)⟩
 refine⟨fun _=>rfl,H.bu 2 rfl rfl ⟨fun _=>rfl,H.bu 1 rfl rfl (H.ld 0 rfl (show _=some (v1,0,()) from rfl) (H.ld 3 rfl (show _=some (v1,0,()) from rfl) (ay (by simp) (pT H.all))))⟩⟩
theorem BA (x:d_ [.int .u16,.int .u16]) (hx:fF [.int .u16,.int .u16] x) (v:d_ [.int .u64,.int .u64]) (hv:fF [.int .u64,.int .u64] v) (t:Int) (ht:(Lit.int .u8 t).wf=true) {w:World}:
 an Tryz.prog 5 (.el (.one .bool)) [.agg ⟨aP _ x⟩,.agg ⟨aP _ v⟩,.int .u8 t] w (fun b w'=>b=true/\Ext w w'):=by
 obtain⟨p,q,u⟩:=x
 obtain⟨v0,v1,u'⟩:=v
 exact Dz p q v0 v1 t (I9 hx.1) (I9 hx.2.1) (l7 hv.1) (l7 hv.2.1) (Nd ht)
theorem BB (p:Option Addr) (m c:Nat) (xs:List (d_ qj)) (hm:m=xs.length) (Si:m<=maxLen) {w:World} (hx:Sl w (.agg qj) p xs) (xj: ∀x∈xs,fF qj x):
 an Tryz.prog 7 (.el (.one .bool)) [.slice p m c] w (fun b w'=>b=true/\Ext w w'):=by
 refine ai (C:=Y0) (aJ:=nO) (Eq.mpr (Dy p m c w _) ?_)
 refine lY (At.start [] w) 120 (fun c=>by omega) fun _ _ Q X w1 hQ H=>ak rfl ?_
 have g:=Good.new (Q:=Q) (n:=120) (by decide) hQ
 obtain⟨L0,hV⟩:=LS.first (n:=120) (by decide)
 obtain⟨_,hE⟩:=WS.first (n:=120) (by decide) 0
 refine mW H g (by decide) (by decide) (by decide) rfl fun b1 w2 g H=>?_
 rw[show(120:Int).toNat=120 from rfl] at H g
 rw[hV,hE] at H
 generalize g_ (h0 120) 0 1 0 0 0=h1 at H g L0
 refine⟨fun k s w'=> ∃(i:Nat) (h:HS),s.1=(i:Int)/\k+i=40/\Good Q h/\LS 120 h/\bJ Q X [] [] w w' h [(b1,[.int .u64 1,.int .i64 0])],⟨40,fun w3 h3=>⟨0,h1,rfl,rfl,g,L0,H.ext h3⟩⟩,?_⟩
 clear H g L0
 rintro k ⟨i',u⟩ w3 ⟨i,h,e,hk,g,L0,H⟩
 dsimp only at e ⊢
 subst e
 refine aa (fun cc=>?_) (fun cc=>?_)
 ·have hi:i<m/\i<40:=by
   simp only[Bool.and_eq_true,decide_eq_true_eq] at cc
   omega
  obtain⟨xv,xk,xa,xb,xc, _,r1,r2,ha,hb,hc⟩:=H.Wz hx xj hm hi.1
  have Tm:(af p (Int.toNat (i:Int)*5)).isSome=true:=oa r1 _
  have rA:cg w3 (af (af p (Int.toNat (i:Int)*5)) 1) (.agg [.int .i64,.int .u64,.int .u64,.int .u64]) (xk,xa,xb,xc,()):=sJ r2
  have nx:au .i64 (i:Int) 1=((i+1:Nat):Int):=by rw[ar (by omega) (by omega)];rfl
  rw[nx]
  refine⟨⟨r1,by omega,by omega⟩,Tm,ag.of xv (nr r2 (by decide) rfl) (aa (fun _=>⟨⟨r1,by omega,by omega⟩,Tm,ag.of (xk,xa,xb,xc,()) rA ?_⟩) fun _ w4 h4=>⟨k - 1,by omega,i+1,h,rfl,by omega,g,L0,H.ext h4⟩)⟩
  exact y7 H g ha hb hc rfl fun w5 g5 H5 w6 h6=>⟨k - 1,by omega,i+1, _,rfl,by omega,g5,L0.step xk xb xc ha.1,H5.ext h6⟩
 ·obtain⟨z1,h1,h2,z2,z3,⟨gh2,H2⟩,z4,z5,z6⟩:=L0.leaves
  refine mW H g (by decide) (by decide) (by decide) z2 fun b2 w2 g H=>?_
  rw[z1] at H
  refine y7 H g (by decide) (by decide) (by decide) z3 fun w2 g H=>⟨rfl,H.bu 1 rfl rfl ⟨fun _=>rfl,H.bu 0 rfl rfl ⟨false,fun _=>by rw[<-z4];exact H.AB 1,ay rfl ?_⟩⟩⟩
  refine H.frames fun pn kK c' rest' w4 H=>?_
  refine H.IK 0 1 rfl rfl rfl (by omega) 0 fun w5 H=>?_
  rw[z5]
  exact ay rfl (pT H.all)
end Go.Proofs.YtdnoecpjcoibmaaGreat
namespace Go.Proofs.YtdnoecpjcoibmaaGreat
set_option maxRecDepth 100000
open Go.RX D
theorem DA (p:Option Addr) (m c:Nat) (xs:List Int) (hm:m=xs.length) (Si:m<=maxLen) {w:World} (hx:Sl w (.one (.int .u16)) p xs) (xj: ∀x∈xs,(Lit.int .u16 x).wf=true) (v:BitVec 64):
 an Tryz.prog 4 (.el (.one .bool)) [.slice p m c,.int .u64 (U v)] w (fun b w'=>b=true/\Ext w w'):=by
 generalize U v=v
 refine ai (C:=Y0) (aJ:=o7) (Eq.mpr (HF p m c v w _) ?_)
 refine lY (At.start [] w) 200 (fun c=>by omega) fun _ _ Q X w1 hQ H=>?_
 refine aa (fun cc=>ay rfl (pT H.all)) (fun cc=>?_)
 have aae:m<=12:=by
  simp at cc;omega
 have g:=Good.new (Q:=Q) (n:=200) (by decide) hQ
 refine y7 H g (by decide) (by decide) (by decide) rfl fun w2 g H=>?_
 rw[show(200:Int).toNat=200 from rfl] at H g
 have W:=(WS.first (n:=200) (by decide) v).1
 generalize g_ (h0 200) 0 1 0 0 0=h1 at H g W
 have rd: ∀{w':World} {h:HS} {L:List (Nat×List Value)} {i:Nat},bJ Q X [] [] w w' h L->i<m-> ∃a:Int,xs[i]? =some a/\(0<=a/\a<65536)/\p.isSome=true/\cg w' (af p (Int.toNat (i:Int)*1)) (.one (.int .u16)) a:=fun{w' h L i} H hi=>by
  have dn:xs[i]? =some (xs[i]'(by omega)):=List.getElem?_eq_getElem (by omega)
  obtain⟨r1,r2⟩:=(hx.ext H.all) i _ dn
  exact⟨_,dn,I9 (xj _ (List.mem_of_getElem? dn)),r1,r2⟩
 refine⟨fun k s w'=> ∃(i:Nat) (h:HS),s.1=(i:Int)/\k+i=m/\Good Q h/\WS h v (xs.take i)/\bJ Q X [] [] w w' h [],⟨m,fun w3 h3=>⟨0,h1,rfl,rfl,g,W,H.ext h3⟩⟩,?_⟩
 clear H g W
 rintro k ⟨i',u⟩ w3 ⟨i,h,e,hk,g,W,H⟩
 dsimp only at e ⊢
 subst e
 refine aa (fun ci=>?_) (fun ci=>?_)
 ·have hi:i<m:=by simpa using ci
  obtain⟨a,dn,ha,r1,r2⟩:=rd H hi
  have ca:ax .u64 a=a:=cJ (by omega)
  have a3:au .u64 (b_ .u64 16 a) 3=16*a+3:=by rw[kZ (by omega) (by omega),g7 (by omega) (by omega)]
  have a4:au .u64 (b_ .u64 16 a) 4=16*a+4:=by rw[kZ (by omega) (by omega),g7 (by omega) (by omega)]
  have nx:au .i64 (i:Int) 1=((i+1:Nat):Int):=by rw[ar (by omega) (by omega)];rfl
  have hva:0<=au .u64 v a/\au .u64 v a<18446744073709551616:=by
   show 0<=IntKind.u64.wrap (v+a)/\IntKind.u64.wrap (v+a)< _
   rw[wrap_u64]
   omega
  obtain⟨h1,h2,E,s1,e1,hE,⟨V,v2,hV⟩,e2,s2,s3,e3,s4,e4,v4,s5,e5,v5,W2⟩:=W.round ha (by rw[List.length_take];omega)
  have iK:xs.take (i+1)=xs.take i++[a]:=by rw[List.take_add_one,dn];rfl
  rw[<-iK] at W2
  refine⟨⟨r1,by omega,by omega⟩,ag.of a r2 ?_⟩
  rw[ca,a3,a4,nx]
  refine mW H g (by omega) (by decide) (by decide) s1 fun b1 w4 g H=>?_
  refine mW H g (by omega) (by decide) (by decide) s2 fun b2 w4 g H=>?_
  rw[e1,v2,e2] at H
  refine⟨rfl,H.bu 1 rfl rfl (H.ld 0 rfl (show _=some (V,0,()) from rfl) ⟨fun _=>rfl,H.bu 1 rfl rfl ⟨fun _=>rfl,H.bu 1 rfl rfl (ak ?_ ?_)⟩⟩)⟩
  ·rcases hE with rfl|rfl
   ·rw[hV rfl];rfl
   ·rfl
  refine mW H g (by omega) hva (by decide) s3 fun b3 w4 g H=>?_
  refine mW H g (by omega) (by decide) (by decide) s4 fun b4 w4 g H=>?_
  refine mW H g (by omega) (by decide) (by decide) s5 fun b5 w4 g H=>?_
  rw[e3,v4,e4,v5,e5] at H
  refine⟨rfl,H.bu 2 rfl rfl (H.ld 1 rfl (show _=some (au .u64 v a,0,()) from rfl) (H.ld 0 rfl (show _=some (0,0,()) from rfl) (ak (by simp) fun w5 h5=>⟨k - 1,by omega,i+1,h2,rfl,by omega,g,W2,(H.ext h5).sub (List.nil_sublist _)⟩)))⟩
 ·have hi:i=m:=by
   have: ¬ i<m:=by
    intro c;exact absurd ci (by simp;omega)
   omega
  rw[hi,hm,List.take_length] at W
  refine⟨fun k s w'=> ∃(i:Nat),s.1=(i:Int)/\k+i=m/\Good Q h/\WS h v xs/\bJ Q X [] [] w w' h [],⟨m,fun w3 h3=>⟨0,rfl,rfl,g,W,H.ext h3⟩⟩,?_⟩
  clear H g W
  rintro k ⟨i',u⟩ w3 ⟨i,e,hk,g,W,H⟩
  dsimp only at e ⊢
  subst e
  refine aa (fun ci=>?_) (fun ci=>pT H.all)
  have hi:i<m:=by simpa using ci
  obtain⟨a,dn,ha,r1,r2⟩:=rd H hi
  have ca:ax .u64 a=a:=cJ (by omega)
  have a3:au .u64 (b_ .u64 16 a) 3=16*a+3:=by rw[kZ (by omega) (by omega),g7 (by omega) (by omega)]
  have nx:au .i64 (i:Int) 1=((i+1:Nat):Int):=by rw[ar (by omega) (by omega)];rfl
  obtain⟨y1,y2,y3⟩:=W.load (List.mem_of_getElem? dn) ha
  refine⟨⟨r1,by omega,by omega⟩,ag.of a r2 ?_⟩
  rw[ca,a3,nx]
  refine mW H g (by omega) (by decide) (by decide) y1 fun b1 w4 g H=>?_
  rw[y3,y2] at H
  exact H.ld 0 rfl (show _=some (au .u64 v a,0,()) from rfl) (ak (by simp) fun w5 h5=>⟨k - 1,by omega,i+1,rfl,by omega,g,W,(H.ext h5).sub (List.nil_sublist _)⟩)
end Go.Proofs.YtdnoecpjcoibmaaGreat
namespace Go.Proofs.YtdnoecpjcoibmaaGreat
set_option maxRecDepth 100000
open Go.RX D
theorem sO.own {w0 w:World} {Ls L0:List (Nat×List Value)} {s:Option Addr×Nat×Nat} {xs:List Int} (h:sO Ls s xs) (H:At [] w0 w (Ls++L0)):iM w0 w eI s xs:=by
 rcases h with ⟨rfl,rfl, _⟩|⟨bs,c,rest,rfl,rfl,h1,h2⟩
 ·exact iM.nil _ _ _
 ·refine⟨rfl,h2,.inr ⟨bs, _,rfl,(H.own _ List.mem_cons_self).resolve_right (by simp),H.get (i:=0) rfl,h1,?_⟩⟩
  rw[List.take_append_of_le_length (by rw[aG];exact Nat.le_refl _),List.take_of_length_le (by rw[aG];exact Nat.le_refl _)]
theorem sO.sl {w0 w:World} {Ls L0:List (Nat×List Value)} {s:Option Addr×Nat×Nat} {xs:List Int} (h:sO Ls s xs) (H:At [] w0 w (Ls++L0)):Sl w eI s.1 xs:=(h.own H).sl
structure MD (xs:List (d_ qj)) (i:Nat) (l:List Int) (ps:List Int):Prop where
 nd:ps.Nodup
 rg: ∀y∈ps,0<=y/\y<65536
 op: ∀{k:Nat} {xv xk xa xb xc:Int},k<i->xs[k]? =some (xv,xk,xa,xb,xc,())->(0<=xa/\xa<65536->xa∈ps)/\(0<=xb/\xb<65536->xb∈ps)
 ls: ∀y∈l,0<=y/\y<65536->y∈ps
theorem MD.push {xs:List (d_ qj)} {i:Nat} {l ps:List Int} (h:MD xs i l ps) {y:Int} (hy:0<=y/\y<65536) (hn:y∉ps):MD xs i (l++[y]) (ps++[y]):=by
 refine⟨List.nodup_append.2 ⟨h.nd,by simp,fun a ha b hb c=>?_⟩,fun z hz=>?_,fun hk hx=>?_,fun z hz hr=>?_⟩
 ·rw[List.mem_singleton] at hb
  rw[c,hb] at ha;exact hn ha
 ·rcases List.mem_append.1 hz with hz|hz
  ·exact h.rg z hz
  ·rw[List.mem_singleton.1 hz];exact hy
 ·exact⟨fun c=>List.mem_append_left _ ((h.op hk hx).1 c),fun c=>List.mem_append_left _ ((h.op hk hx).2 c)⟩
 ·rcases List.mem_append.1 hz with hz|hz
  ·exact List.mem_append_left _ (h.ls z hz hr)
  ·exact List.mem_append_right _ hz
theorem MD.skip {xs:List (d_ qj)} {i:Nat} {l ps:List Int} (h:MD xs i l ps) {y:Int} (hn:0<=y/\y<65536->y∈ps):MD xs i (l++[y]) ps:=by
 refine⟨h.nd,h.rg,h.op,fun z hz hr=>?_⟩
 rcases List.mem_append.1 hz with hz|hz
 ·exact h.ls z hz hr
 ·rw[List.mem_singleton.1 hz] at hr ⊢;exact hn hr
theorem HM {w:World} {p:Option Addr} {m c:Nat} {xs:List (d_ qj)} (hm:m=xs.length) (hx:Sl w (.agg qj) p xs) (xj: ∀x∈xs,fF qj x) (n:Int) (hn:n<=100):
 an Tryz.prog 13 (.el (.one .slice)) [.slice p m c,.int .i64 n] w (fun r w'=> ∃ps,MD xs (min m n.toNat) [] ps/\ps.length<=300/\iM w w' eI r ps/\Ext w w'):=by
 refine ai (C:=Y0) (aJ:=o8) (Eq.mpr (HG p m c n w _) ?_)
 refine⟨fun k v w'=> ∃(i:Nat) (ps:List Int) (Ls:List (Nat×List Value)),v.2.1=(i:Int)/\k+i=100/\i<=min m n.toNat/\MD xs i [] ps/\ps.length<=3*i/\sO Ls v.1 ps/\At [] w w' (Ls++[]),⟨100,fun w1 h1=>⟨0,[],[],rfl,rfl,Nat.zero_le _,⟨List.nodup_nil,fun y hy=>(by cases hy),fun hk=>absurd hk (Nat.not_lt_zero _),fun y hy=>(by cases hy)⟩,Nat.le_refl _,.inl ⟨rfl,rfl,rfl⟩,(At.start [] w).ext h1⟩⟩,?_⟩
 rintro k ⟨s,i',u⟩ w1 ⟨i,ps,Ls,e,hk,hi,P,hl,hP,H⟩
 dsimp only at e hP ⊢
 subst e
 refine aa (fun cc=>?_) (fun cc=>?_)
 ·have hc:i<m/\(i:Int)<n:=by
   simp only[Bool.and_eq_true,decide_eq_true_eq] at cc
   omega
  have dn:xs[i]? =some (xs[i]'(by omega)):=List.getElem?_eq_getElem (by omega)
  have hok:=xj _ (List.mem_of_getElem? dn)
  obtain⟨r1,r2⟩:=(hx.ext H.all) i _ dn
  obtain⟨xv,xk,xa,xb,xc,sK,ha,hb⟩: ∃xv xk xa xb xc:Int,xs[i]'(by omega)=(xv,xk,xa,xb,xc,())/\(0<=xa/\xa<18446744073709551616)/\(0<=xb/\xb<18446744073709551616):=by
   generalize xs[i]'(by omega)=x at hok
   obtain⟨xv,xk,xa,xb,xc,xu⟩:=x
   exact⟨xv,xk,xa,xb,xc,rfl,l7 hok.2.2.1,l7 hok.2.2.2.1⟩
  rw[sK] at r2 dn
  have r2:cg w1 (af p (Int.toNat (i:Int)*5)) (.agg qj) (xv,xk,xa,xb,xc,()):=r2
  have q1:(af p (Int.toNat (i:Int)*5)).isSome=true:=oa r1 _
  have r3:cg w1 (af (af p (Int.toNat (i:Int)*5)) 1) (.agg [.int .i64,.int .u64,.int .u64,.int .u64]) (xk,xa,xb,xc,()):=sJ r2
  have q2:(af (af p (Int.toNat (i:Int)*5)) 1).isSome=true:=oa q1 _
  have q0:p.isSome=true/\0<=(i:Int)/\(i:Int)<(m:Int):=⟨r1,by omega,by omega⟩
  have nx:au .i64 (i:Int) 1=((i+1:Nat):Int):=by rw[ar (by omega) (by omega)];rfl
  have Xu:py .u64 xa 16=xa / 16:=by
   show ax .u64 (xa.tdiv 16)= _
   rw[Int.tdiv_eq_ediv_of_nonneg ha.1]
   exact cJ (by omega)
  refine⟨q0,q1,q2,ag.of xa (nr r3 (by decide) rfl) ⟨q0,q1,q2,ag.of xb (nr r3 (by decide) rfl) ⟨q0,q1,q2,ag.of xa (nr r3 (by decide) rfl) ?_⟩⟩⟩
  rw[Xu,nx]
  clear r1 r2 r3 q0 q1 q2 sK
  refine aA.go H fun b w2 H=>?_
  refine⟨fun k v w'=> ∃(j:Nat) (ps:List Int) (Ls:List (Nat×List Value)),v.2.1=(j:Int)/\k+j=3/\MD xs i ([xa,xb,xa / 16].take j) ps/\ps.length<=3*i+j/\sO Ls v.1 ps/\At [] w w' (Ls++[(b,[.int .u64 xa,.int .u64 xb,.int .u64 (xa / 16)])]),⟨3,fun w3 h3=>⟨0,ps,Ls,rfl,rfl,P,hl,hP,(H.ext h3).perm ?_⟩⟩,?_⟩
  ·rw[List.append_nil]
   exact List.perm_append_singleton _ _
  clear H P hl hP
  rintro k2 ⟨s,j',u⟩ w3 ⟨j,ps,Ls,e,hk2,P,hl,hP,H⟩
  dsimp only at e hP ⊢
  subst e
  refine aa (fun cj=>?_) (fun cj=>?_)
  ·have hj:j<3:=by
    have:(j:Int)<3:=by simpa using cj
    omega
   obtain⟨y,hy,hy0⟩: ∃y:Int,[xa,xb,xa / 16][j]? =some y/\(0<=y/\y<18446744073709551616):=by
    have:j=0\/j=1\/j=2:=by omega
    rcases this with rfl|rfl|rfl
    ·exact⟨xa,rfl,ha⟩
    ·exact⟨xb,rfl,hb⟩
    ·exact⟨xa / 16,rfl,by omega⟩
   have hrd:cg w3 (af (some ⟨b,0,none⟩) (Int.toNat (j:Int)*1)) (.one (.int .u64)) y:=by
    rw[aK]
    have:j=0\/j=1\/j=2:=by omega
    rcases this with rfl|rfl|rfl
    all_goals
     cases hy
     exact(H.cY (b, _) (List.mem_append_right _ (List.mem_singleton.2 rfl))).lG rfl
   have iK:[xa,xb,xa / 16].take (j+1)=[xa,xb,xa / 16].take j++[y]:=by rw[List.take_add_one,hy];rfl
   have nj:au .i64 (j:Int) 1=((j+1:Nat):Int):=by rw[ar (by omega) (by omega)];rfl
   rw[nj]
   refine⟨⟨rfl,by omega,by omega⟩,ag.of y hrd ?_⟩
   refine⟨fun k v w'=> ∃q:Nat,v.2.1=(q:Int)/\k+q=ps.length/\v.1=(decide (y>65535)||(ps.take q).any (· ==ax .i64 y))/\At [] w w' (Ls++[(b,[.int .u64 xa,.int .u64 xb,.int .u64 (xa / 16)])]),⟨ps.length,fun w4 h4=>⟨0,rfl,rfl,by simp,H.ext h4⟩⟩,?_⟩
   clear H hrd
   rintro k3 ⟨had,q',u⟩ w4 ⟨q,e,PO,hv,H⟩
   dsimp only at e hv ⊢
   subst e
   have hlen:=hP.len
   have HT:sO Ls (s.1,ps.length,s.2.2) ps:=by rw[<-hlen];exact hP
   rw[hlen]
   refine aa (fun cq=>?_) (fun cq=>?_)
   ·have hq:q<ps.length:=by simpa using cq
    have qf:=(hP.sl H) q _ (List.getElem?_eq_getElem hq)
    refine⟨fun _=>⟨qf.1,by omega,by omega⟩,ag.of ps[q] qf.2 fun w5 h5=>⟨k3 - 1,by omega,q+1,?_,by omega,?_,H.ext h5⟩⟩
    ·rw[ar (by omega) (by omega)];rfl
    ·rw[hv,show ps.take (q+1)=ps.take q++[ps[q]] by rw[List.take_add_one,List.getElem?_eq_getElem hq];rfl,List.any_append,Bool.or_assoc]
     simp
   ·have hq:q=ps.length:=by
     have: ¬ q<ps.length:=by simpa using cq
     omega
    rw[hq,List.take_length] at hv
    refine aa (fun ch=>?_) (fun ch=>?_)
    ·have ch:had=false:=by simpa using ch
     rw[ch] at hv
     have hv:=hv.symm
     rw[Bool.or_eq_false_iff] at hv
     have hy1:y<65536:=by have:=hv.1;simp at this;omega
     have ey:ax .i64 y=y:=bI (by omega)
     rw[ey] at hv ⊢
     have hno:y∉ps:=fun c=>by
      have:=hv.2
      rw[List.any_eq_false] at this
      exact this y c (by simp)
     refine aA.go H fun b2 w5 H w6 h6=>?_
     refine(H.ext h6).grow (e:=eI) (x:=y) (xs:=ps) (Ls:=Ls) (bytes:=8) HT rfl rfl rfl (by omega) fun bs c' rest w7 e1 e2 H w8 h8=>⟨k2 - 1,by omega,j+1,ps++[y],[(bs,flat eI (ps++[y])++rest)],rfl,by omega,?_,by rw[List.length_append];simp;omega,.inr ⟨bs,c',rest,by rw[List.length_append];rfl,rfl,e1,by rw[List.length_append];exact e2⟩,H.ext h8⟩
     rw[iK]
     exact P.push ⟨hy0.1,hy1⟩ hno
    ·have ch:had=true:=by simpa using ch
     refine fun w5 h5=>⟨k2 - 1,by omega,j+1,ps,Ls,rfl,by omega,?_,by omega,HT,H.ext h5⟩
     rw[iK]
     refine P.skip fun hr=>?_
     rw[ch] at hv
     have hv:=hv.symm
     rw[Bool.or_eq_true] at hv
     rcases hv with hv|hv
     ·have:y>65535:=by simpa using hv
      omega
     ·rw[bI (a:=y) (by omega),List.any_eq_true] at hv
      obtain⟨z,h1,h2⟩:=hv
      have:z=y:=by simpa using h2
      rw[<-this];exact h1
  ·have hj:j=3:=by
    have: ¬ j<3:=by
     intro c;exact absurd cj (by simp;omega)
    omega
   subst hj
   refine fun w4 h4=>⟨k - 1,by omega,i+1,ps,Ls,rfl,by omega,by omega,⟨P.nd,P.rg,fun{k' yv yk ya yb yc} hk' hx'=>?_,fun y hy=>(by cases hy)⟩,by omega,hP,(H.ext h4).sub ?_⟩
   ·by_cases e:k'=i
    ·subst e
     rw[dn] at hx'
     cases hx'
     exact⟨P.ls xa (by simp),P.ls xb (by simp)⟩
    ·exact P.op (by omega) hx'
   ·rw[List.append_nil]
    exact List.sublist_append_left _ _
 ·have hc: ¬ (i<m/\(i:Int)<n):=by
   intro c
   rw[Bool.and_eq_false_iff] at cc
   simp at cc
   omega
  refine aj.go H fun w2 H=>⟨ps,?_,by omega,hP.own H,H.all⟩
  have:i=min m n.toNat:=by omega
  rw[<-this];exact P
section
variable {Q:Sys} {X:HX} {D G:List Nat} {w0 w w':World} {h:HS} {L:List (Nat×List Value)}
theorem bJ.Iz (H:bJ Q X D G w0 w h L) (e:Ext w w') {el:El} {r:Option Addr×Nat×Nat} {xs:List el.T} (ho:iM w w' el r xs): ∃rows,bJ Q X D G w0 w' h (L++rows)/\jy el rows r xs:=by
 obtain⟨A,W,H⟩:=H.front
 obtain⟨G',S,J⟩:=H.call
 obtain⟨a,b,c,d,ca,la,H'⟩:=S
 obtain⟨rows,H2,hr⟩:=aF.Iz H' e ho
 refine⟨rows,iI W (SM.perm (J (L':=L++(dF Q X A h (aR Q A h.g (List.range 17))++rows)) ⟨a,b,c,d,ca,la,?_⟩) ?_),hr⟩
 ·have: ∀(x:List (Nat×List Value)),Q.L ca la h.s (x++rows)=Q.L ca la h.s x++rows:=fun x=>rfl
  rw[<-List.append_assoc,this]
  exact H2
 ·rw[List.append_assoc]
  exact(List.perm_append_comm).append_left _
theorem bJ.xG (H:bJ Q X D G w0 w h L) {rows:List (Nat×List Value)} {r:Option Addr×Nat×Nat} {ps:List Int} (hr:jy eI rows r ps) (hm: ∀x∈rows,x∈L) {k:Nat} (hk:k<ps.length):(r.1.isSome=true/\0<=(k:Int)/\(k:Int)<(r.2.1:Nat))/\cg w (af r.1 (Int.toNat (k:Int)*1)) (.one (.int .i64)) ps[k]:=by
 have hl:=hr.1
 obtain⟨A,W,H⟩:=H.front
 obtain⟨a,b,c,d,ca,la,H'⟩:=H.base
 have:=(hr.sl H' (fun x hx=>by
  have:=hm x hx
  simp[Sys.L,this])) k _ (List.getElem?_eq_getElem hk)
 exact⟨⟨this.1,by omega,by omega⟩,this.2⟩
theorem bJ.pages (H:bJ Q X [] [] w0 w h L) {p:Option Addr} {m c:Nat} {xs:List (d_ qj)} (hm:m=xs.length) (hx:Sl w0 (.agg qj) p xs) (xj: ∀x∈xs,fF qj x) (n:Int) (hn:n<=100) {K:Option Addr×Nat×Nat->World->Prop}
 (k: ∀r rows ps w2,MD xs (min m n.toNat) [] ps->ps.length<=300->jy eI rows r ps->bJ Q X [] [] w0 w2 h (L++rows)->K r w2):
 az Tryz.prog 13 (.el (.one .slice)) [.slice p m c,.int .i64 n] w K:=fun w1 h1=>by
 have H:=H.ext h1
 refine(HM hm (hx.ext H.all) xj n hn).mono fun r w2 h2=>?_
 obtain⟨ps,P,hl,ho,h2⟩:=h2
 obtain⟨rows,H2,hr⟩:=H.Iz h2 ho
 exact k r rows ps w2 P hl hr H2
end
end Go.Proofs.YtdnoecpjcoibmaaGreat
namespace Go.Proofs.YtdnoecpjcoibmaaGreat
set_option maxRecDepth 100000
open Go.RX D
theorem Sf {h h':HS} (hs:h'.s.1=h.s.1) (hg:h'.g=h.g) (i:Nat) (q:Int):dm h' i q=dm h i q:=by
 unfold dm
 rw[hg]
 cases h.g i with
 |none=>rfl
 |some x=>exact zH hs _ _ _
section
variable {gh:Gh} {h:HS} {v k a b c:Int}
theorem EW (h:HS) (i:Nat) {p:Int} (hp: ¬ (0<=p/\p<65536)):(dm h i p).2.2.1≠0:=by
 unfold dm
 cases h.g i with
 |none=>exact(show ¬ (4:Int)=0 by decide)
 |some x=>dsimp only;rw[Inv.qM hp];decide
theorem O6 (H:HI gh h) (hk:1<=k/\k<=17) (hl:qu k=false->aD h.g v=true) (ha:0<=a) {i:Nat} {q:Int} (he:(dm (run h v k a b c).1 i q).2.2.1=0):(dm h i q).2.2.1=0\/q=a\/q=b:=by
 have same: ∀{h':HS},h'.s.1=h.s.1->h'.g=h.g->(dm h' i q).2.2.1=0->(dm h i q).2.2.1=0\/q=a\/q=b:=fun hs hg he=> .inl (by rw[<-Sf hs hg];exact he)
 have but: ∀{h':HS} {z:Int},Ag h h' (fun i q=>i=v.toNat/\q=z)->z=a\/z=b->(dm h' i q).2.2.1=0->(dm h i q).2.2.1=0\/q=a\/q=b:=fun{h' z} hP hz he=>by
  by_cases e:i=v.toNat/\q=z
  ·rw[e.2];exact .inr hz
  ·rw[hP.to e] at he;exact .inl he
 have:k=1\/k=2\/k=3\/k=4\/k=5\/k=6\/k=7\/k=8\/k=9\/k=10\/k=11\/k=12\/k=13\/k=14\/k=15\/k=16\/k=17:=by omega
 rcases this with rfl|rfl|rfl|rfl|rfl|rfl|rfl|rfl|rfl|rfl|rfl|rfl|rfl|rfl|rfl|rfl|rfl
 ·obtain⟨_, _,E, _⟩:=H.JR
  by_cases e:0<=q/\q<65536
  ·have he:(dm (gU h) i q).2.2.1=0:=he
   rw[E.pg.to fun c=>c e] at he;exact .inl he
  ·exact absurd he (EW _ _ e)
 ·obtain⟨_, _,E, _⟩:=H.zI a
  have he:(dm (mT h a) i q).2.2.1=0:=he
  by_cases e:i=a.toNat
  ·unfold mT at he
   split at he
   ·split at he
    ·exact .inl he
    ·have hn:(jF (eR a (rS h a).length h) a).g i=none:=by
      show aS _ a.toNat none i=none
      unfold aS;rw[if_pos e]
     rw[eC hn] at he
     exact absurd he (show ¬ (4:Int)=0 by decide)
   ·exact .inl he
  ·rw[E.pg.to e] at he;exact .inl he
 ·have he:(dm (gQ h v a b) i q).2.2.1=0:=he
  by_cases e:ju h v a b=0
  ·obtain⟨_, _, _,O, _⟩:=H.zc (hl rfl) e
   exact but O.ef.pg (.inl rfl) he
  ·rw[H.ze (hl rfl) e] at he;exact .inl he
 ·have he:(dm (mM h v a) i q).2.2.1=0:=he
  by_cases e:uP h v a=0
  ·obtain⟨_, _, _,O, _⟩:=H.JP (hl rfl) e
   exact but O.ef.pg (.inl rfl) he
  ·rw[show mM h v a=h from if_neg e] at he;exact .inl he
 ·have he:(dm (ir h v a b) i q).2.2.1=0:=he
  by_cases e:oN h v a b=0
  ·obtain⟨_, _,E, _⟩:=H.EL (hl rfl) e
   exact but E.pg (.inl rfl) he
  ·rw[HI.zB e] at he;exact .inl he
 ·exact .inl he
 ·have he:(dm (dS h v a b) i q).2.2.1=0:=he
  rw[(H.store (hl rfl) ha b).2.to fun c=>c] at he;exact .inl he
 ·refine same ?_ ?_ he
  ·show(fc h v a b c).s.1= _
   unfold fc;split<;>rfl
  ·show(fc h v a b c).g= _
   unfold fc;split<;>rfl
 ·have he:(dm (gF h v a b c) i q).2.2.1=0:=he
  by_cases e:jv h v a b c=0
  ·obtain⟨e1, _, _,E, _⟩:=H.Cv (hl rfl) e
   rw[e1] at he
   exact but E.pg (.inr rfl) he
  ·rw[H.Cu (hl rfl) e] at he;exact .inl he
 ·have he:(dm (dU h v a) i q).2.2.1=0:=he
  by_cases e:kU h v a=0
  ·obtain⟨_, _,E, _⟩:=H.zC (hl rfl) e
   exact but E.pg (.inl rfl) he
  ·rw[zF e] at he;exact .inl he
 ·refine same ?_ ?_ he
  ·show(fh h v a).s.1= _
   unfold fh;split<;>rfl
  ·show(fh h v a).g= _
   unfold fh;split<;>rfl
 ·refine same ?_ ?_ he
  ·show(jD h v a).s.1= _
   unfold jD;split<;>rfl
  ·show(jD h v a).g= _
   unfold jD;split<;>rfl
 ·refine same ?_ ?_ he
  ·show(jE h v a b).s.1= _
   unfold jE;split
   ·rfl
   split<;>rfl
  ·show(jE h v a b).g= _
   unfold jE;split
   ·rfl
   split<;>rfl
 ·refine same ?_ ?_ he
  ·show(jC h v a).s.1= _
   unfold jC;split<;>rfl
  ·show(jC h v a).g= _
   unfold jC;split<;>rfl
 ·exact same rfl rfl he
 ·refine same ?_ ?_ he
  ·show(gC h v a).s.1= _
   unfold gC;split<;>rfl
  ·show(gC h v a).g= _
   unfold gC;split<;>rfl
 ·exact same (h':=bh h (bC h.s h.s.2.length).1) (lA h.s _).1 rfl he
def MT (h:HS) (ps:List Int):Prop:= ∀i q,(dm h i q).2.2.1=0->q∈ps
theorem HI.cov (H:HI gh h) {ps:List Int} (hC:MT h ps) (v k:Int) {a b:Int} (c:Int) (ha:0<=a) (h1:0<=a/\a<65536->a∈ps) (h2:0<=b/\b<65536->b∈ps):MT (g_ h v k a b c) ps:=fun i q he=>by
 have hq:0<=q/\q<65536:=Classical.byContradiction fun c=>EW _ _ c he
 unfold g_ at he
 by_cases hp:iu h v k a b c=0
 ·rw[if_pos hp] at he
  obtain⟨e1,e2, _⟩:=zf hp
  rcases O6 H e1 e2 ha he with h|rfl|rfl
  ·exact hC i q h
  ·exact h1 hq
  ·exact h2 hq
 ·rw[if_neg hp] at he
  exact hC i q he
theorem MT.new {n:Nat} (ps:List Int):MT (h0 n) ps:=fun i q he=>absurd he (show ¬ (4:Int)=0 by decide)
theorem HI.EX (H:HI gh h) {v p:Int} (hl:aD h.g v=true) (he:(dm h v.toNat p).2.2.1=0): ∃(n:Nat) (d:DT),(dm h v.toNat p).1=(n:Int)/\h.s.2[n]? =some d/\d.1=4/\(d.2.1=v<->cI h v p=false)/\0<=p/\p<65536:=by
 obtain⟨x,hx, _,hv,uo,tX⟩:=bG hl
 have hf:kI h v.toNat p=some (dm h v.toNat p).1:=by rw[nk,if_pos he]
 have hd:=H.hc.dom hf
 cases ht:a9 x.tk p with
 |none=>
  obtain⟨n,d,e1,e2,e3,e4⟩:=H.hc.own hf (by rw[bX hx];exact ht)
  refine⟨n,d,e1.symm,e2,e3,⟨fun _=>?_,fun _=>by omega⟩,hd.2.2⟩
  unfold cI;rw[iE hl hx,ht]
 |some y=>
  obtain⟨n,d,o,e1,e2,e3,e4,e5, _⟩:=H.hc.Nb (a:=y.1) (f:=y.2) (by rw[bX hx];exact ht)
  have lF:=(H.hc.uJ (a:=y.1) (f:=y.2) (by rw[bX hx];exact ht)).1
  rw[hf] at lF
  refine⟨n,d,(Option.some.inj lF).trans e1.symm,e2,e3,⟨fun c=>by omega,fun c=>?_⟩,hd.2.2⟩
  unfold cI at c;rw[iE hl hx,ht] at c;cases c
def kL (h:HS) (i:Nat) (f:Int) (t:Bool) (p:Int):Bool:=aD h.g (i:Int)&&(decide ((dm h i p).2.2.1=0/\(dm h i p).1=f)&&(cI h (i:Int) p==t))
def gz (h:HS) (ps:List Int) (f:Int) (t:Bool) (n:Nat):Nat:=((List.range n).map fun i=>ps.countP (kL h i f t)).sum
theorem yE (h:HS) (ps:List Int) (f:Int) (t:Bool) (n:Nat):gz h ps f t (n+1)=gz h ps f t n+ps.countP (kL h n f t):=by
 unfold gz
 rw[List.range_succ,List.map_append,List.sum_append]
 simp
theorem HI.Mt (H:HI gh h) {ps:List Int} (nd:ps.Nodup) (hC:MT h ps) (f:Int):gz h ps f true 17=c_ (fW h) f:=by
 unfold gz c_ kN
 congr 1
 refine List.map_congr_left fun i _=>?_
 cases hx:h.g i with
 |none=>
  have hl:aD h.g (i:Int)=false:=by unfold aD;rw[show h.g ((i:Int)).toNat=none from hx];simp
  have ht:fW h i=[]:=by unfold fW;rw[hx]
  rw[ht,List.countP_nil]
  refine List.countP_eq_zero.2 fun p _=>?_
  unfold kL;rw[hl];simp
 |some x=>
  have hd:=H.dom hx
  have hl:aD h.g (i:Int)=true:=dw.2 ⟨by omega,x,hx⟩
  have hk: ∀p,cI h (i:Int) p=(a9 x.tk p).isSome:=fun p=>by
   unfold cI;rw[iE hl hx]
   cases a9 x.tk p<;>rfl
  rw[List.countP_eq_length_filter,List.countP_eq_length_filter,show((fW h i).filter fun t=>t.2.2==f).length=(((fW h i).filter fun t=>t.2.2==f).map (·.1)).length from(List.length_map _).symm]
  refine List.Perm.length_eq ((List.perm_ext_iff_of_nodup (nd.filter _) ?_).2 fun p=>?_)
  ·have:=H.hc.nd i
   exact(List.filter_sublist.map _).nodup this
  rw[List.mem_filter,List.mem_map]
  constructor
  ·rintro⟨_,hb⟩
   unfold kL at hb
   rw[hl,hk] at hb
   simp only[Bool.true_and,Bool.and_eq_true,decide_eq_true_eq,beq_true] at hb
   obtain⟨⟨he,hf⟩,ht⟩:=hb
   obtain⟨y,hy⟩:=Option.isSome_iff_exists.1 ht
   have Vb:a9 (fW h i) p=some (y.1,y.2):=by rw[bX hx];exact hy
   have lF:=(H.hc.uJ Vb).1
   rw[nk,if_pos he,hf] at lF
   have lF:=Option.some.inj lF
   exact⟨(p,y.1,y.2),List.mem_filter.2 ⟨H.hc.Cd Vb,by simp[<-lF]⟩,rfl⟩
  ·rintro⟨t,ht,rfl⟩
   obtain⟨h1,h2⟩:=List.mem_filter.1 ht
   have h2:t.2.2=f:=by simpa using h2
   have hy:=H.hc.Cc h1
   have lF:=(H.hc.uJ (a:=t.2.1) (f:=t.2.2) hy).1
   rw[nk] at lF
   by_cases he:(dm h i t.1).2.2.1=0
   ·rw[if_pos he] at lF
    have lF:=Option.some.inj lF
    refine⟨hC i _ he,?_⟩
    rw[bX hx] at hy
    unfold kL
    rw[hl,hk,hy,decide_eq_true ⟨he,lF.trans h2⟩];rfl
   ·rw[if_neg he] at lF;cases lF
theorem zJ {F:Nat->Nat} {o:Nat} (h: ∀i,i≠o->F i=0): ∀n,((List.range n).map F).sum=if o<n then F o else 0
 |0=>rfl
 |n+1=>by
  rw[List.range_succ,List.map_append,List.sum_append,zJ h n]
  by_cases e:n=o
  ·subst e
   rw[if_neg (by omega),if_pos (by omega)];simp
  ·have:=h n e
   by_cases c:o<n
   ·rw[if_pos c,if_pos (by omega)];simp[this]
   ·rw[if_neg c,if_neg (by omega)];simp[this]
theorem HN {l:List Int} (nd:l.Nodup) {x:Int} (h: ∀y∈l,y=x):l.length<=1:=by
 match l,nd,h with
 |[], _, _=>simp
 |[_], _, _=>simp
 |a::b::l,nd,h=>
  have h1:=h a List.mem_cons_self
  have h2:=h b (List.mem_cons_of_mem _ List.mem_cons_self)
  have:=(List.nodup_cons.1 nd).1
  exact absurd (by rw[h1, <-h2];exact List.mem_cons_self) this
theorem HI.O7 (H:HI gh h) {ps:List Int} (nd:ps.Nodup) (hC:MT h ps) {n:Nat} {d:DT} (hd:h.s.2[n]? =some d):gz h ps (n:Int) false 17<=1/\(d.1=4->gz h ps (n:Int) false 17=1):=by
 have key: ∀{i p},kL h i (n:Int) false p=true->(i:Int)=d.2.1/\kI h i p=some (n:Int)/\a9 (fW h i) p=none/\d.1=4:=fun{i p} hb=>by
  unfold kL at hb
  simp only[Bool.and_eq_true,decide_eq_true_eq,beq_iff_eq] at hb
  obtain⟨hl,⟨he,hf⟩,ht⟩:=hb
  obtain⟨m,d',e1,e2,e3,e4, _⟩:=H.EX hl (p:=p) he
  have e1:(dm h i p).1=(m:Int):=e1
  have:m=n:=Int.ofNat.inj (e1.symm.trans hf)
  subst this
  rw[hd] at e2;cases e2
  refine⟨(e4.2 ht).symm,by rw[nk,if_pos he,hf],?_,e3⟩
  obtain⟨x,hx, _⟩:=bG hl
  have hx:h.g i=some x:=hx
  unfold cI at ht
  rw[iE hl hx] at ht
  rw[bX hx]
  cases hc:a9 x.tk p with
  |none=>rfl
  |some y=>rw[hc] at ht;cases ht
 by_cases h4:d.1=4
 ·obtain⟨i,p,e1,e2,e3⟩:=H.hc.Ib hd h4
  have Td:=H.hc.dom e2
  have hs:gz h ps (n:Int) false 17=ps.countP (kL h i (n:Int) false):=by
   unfold gz
   rw[zJ (o:=i) fun j hj=>?_,if_pos (by omega)]
   refine List.countP_eq_zero.2 fun q _ hb=>hj ?_
   have:=(key hb).1
   omega
  have h1:ps.countP (kL h i (n:Int) false)<=1:=by
   rw[List.countP_eq_length_filter]
   refine HN (x:=p) (nd.filter _) fun q hq=>?_
   obtain⟨_,f2,f3, _⟩:=key (List.mem_filter.1 hq).2
   exact H.hc.inj f2 e2 f3 e3
  have h2:0<ps.countP (kL h i (n:Int) false):=by
   rw[nk] at e2
   by_cases he:(dm h i p).2.2.1=0
   ·rw[if_pos he] at e2
    refine List.countP_pos_iff.2 ⟨p,hC i p he,?_⟩
    have SE: ∃x,h.g i=some x:=by
     cases hc:h.g i with
     |none=>rw[eC hc] at he;exact absurd he (show ¬ (4:Int)=0 by decide)
     |some x=>exact⟨x,rfl⟩
    obtain⟨x,hx⟩:=SE
    have hl:aD h.g (i:Int)=true:=dw.2 ⟨by omega,x,hx⟩
    rw[bX hx] at e3
    unfold kL
    rw[hl,decide_eq_true ⟨he,Option.some.inj e2⟩]
    unfold cI
    rw[iE hl hx,e3];rfl
   ·rw[if_neg he] at e2;cases e2
  rw[hs]
  exact⟨h1,fun _=>by omega⟩
 ·have:gz h ps (n:Int) false 17=0:=by
   unfold gz
   rw[zJ (o:=0) fun j hj=>List.countP_eq_zero.2 fun q _ hb=>h4 (key hb).2.2.2,if_pos (by decide)]
   exact List.countP_eq_zero.2 fun q _ hb=>h4 (key hb).2.2.2
  rw[this]
  exact⟨by decide,fun c=>absurd c h4⟩
theorem HI.HO (H:HI gh h):aX h.s.2 0+aX h.s.2 3+aX h.s.2 4+aX h.s.2 5=h.s.2.length:=by
 have: ∀l:List DT,(∀d∈l,d.1=0\/d.1=3\/d.1=4\/d.1=5)->aX l 0+aX l 3+aX l 4+aX l 5=l.length:=fun l=>by
  induction l with
  |nil=>intro _;rfl
  |cons d l ih=>
   intro hl
   have h1:=ih fun d hd=>hl d (List.mem_cons_of_mem _ hd)
   have h2:=hl d List.mem_cons_self
   unfold aX at*
   rw[List.countP_cons,List.countP_cons,List.countP_cons,List.countP_cons,List.length_cons]
   rcases h2 with e|e|e|e<;>rw[e]<;>simp<;>omega
 refine this _ fun d hd=>?_
 obtain⟨n,hn⟩:=List.getElem?_of_mem hd
 exact(H.hc.kd hn).1
end
end Go.Proofs.YtdnoecpjcoibmaaGreat
namespace Go.Proofs.YtdnoecpjcoibmaaGreat
set_option maxRecDepth 100000
open Go.RX D
theorem PJ {h:HS} {v p:Int} (he:(cL h.g h.s v p).2.2.1=0):((v.toNat:Nat):Int)=v/\aD h.g v=true/\kI h v.toNat p=some (cL h.g h.s v p).1:=by
 obtain⟨hl,x,hx,hq⟩:=yz he
 obtain⟨_, _, _,hv, _⟩:=bG hl
 refine⟨hv,hl,?_⟩
 rw[hq] at he ⊢
 rw[cw hx,if_pos he]
section
variable {Q:Sys} {X:HX} {D G:List Nat} {w0 w w':World} {h:HS} {L:List (Nat×List Value)}
theorem bJ.Yy (H:bJ Q X [] [] w0 w h L) {p:Option Addr} {m:Nat} {xs:List (d_ qj)} (hx:Sl w0 (.agg qj) p xs) (xj: ∀x∈xs,fF qj x) (hm:m=xs.length) {i:Nat} (hi:i<m) {t:TypeId} {K:Nat->World->Prop}
 (k: ∀xv xk xa xb xc:Int,xs[i]? =some (xv,xk,xa,xb,xc,())->(0<=xa/\xa<18446744073709551616)->(0<=xb/\xb<18446744073709551616)->(0<=xc/\xc<18446744073709551616)-> ∀b w1,bJ Q X [] [] w0 w1 h ((b,[.int .i64 xv,.int .i64 xk,.int .u64 xa,.int .u64 xb,.int .u64 xc])::L)->K b w1):
 (p.isSome=true/\0<=(i:Int)/\(i:Int)<(m:Int))/\ag w none (af p ((i:Int).toNat*5)) (.agg qj) fun x=>
  aA w ⟨[.int .i64 0,.int .i64 0,.int .u64 0,.int .u64 0,.int .u64 0]⟩ t fun b w2=>av w2 (some ⟨b,0,none⟩) [.int .i64 x.1,.int .i64 x.2.1,.int .u64 x.2.2.1,.int .u64 x.2.2.2.1,.int .u64 x.2.2.2.2.1] fun w3=>K b w3:=by
 obtain⟨xv,xk,xa,xb,xc,dn,r1,r2,ha,hb,hc⟩:=H.Wz hx xj hm hi
 exact⟨⟨r1,by omega,by omega⟩,ag.of _ r2 (H.al fun b w2 H=>H.cC 0 rfl rfl rfl fun w3 H=>k xv xk xa xb xc dn ha hb hc b w3 H)⟩
end
theorem iF {i n:Nat} (h:decide ((i:Int)<(n:Int))=true):i<n:=by
 have:=of_decide_eq_true h
 omega
theorem yF {i n:Nat} (h:decide ((i:Int)<(n:Int))=false):n<=i:=by
 have:=of_decide_eq_false h
 omega
theorem Ic {i:Nat} (h:i<4611686018427387904):au .i64 (i:Int) 1=((i+1:Nat):Int):=by rw[ar (by omega) (by omega)];rfl
theorem DB (n:Int) (hn:(Lit.int .u8 n).wf=true) (p:Option Addr) (m c:Nat) (xs:List (d_ qj)) (hm:m=xs.length) (Si:m<=maxLen) {w:World} (hx:Sl w (.agg qj) p xs) (xj: ∀x∈xs,fF qj x):
 an Tryz.prog 3 (.el (.one .bool)) [.int .u8 n,.slice p m c] w (fun b w'=>b=true/\Ext w w'):=by
 have hn:=Nd hn
 refine ai (C:=Y0) (aJ:=o9) (Eq.mpr (HJ n p m c w _) ?_)
 rw[I_ (x:=n) (by omega) (by omega),D4 hn.1,ar (by omega) (by omega)]
 refine lY (At.start [] w) _ (fun c=>by omega) fun n1 n2 Q X w1 hQ H=>ak rfl ?_
 have g:=Good.new (Q:=Q) (n:=(30+n % 60).toNat) (by omega) hQ
 generalize h0 (30+n % 60).toNat=h1 at H g
 refine H.pages hm hx xj 40 (by decide) fun r rows ps w2 P ql hr H=>?_
 have yN:=hr.1
 refine⟨fun k s w'=> ∃(i:Nat) (h:HS),s.1=(i:Int)/\k+i=40/\Good Q h/\bJ Q X [] [] w w' h rows,⟨40,fun w3 h3=>⟨0,h1,rfl,rfl,g,H.ext h3⟩⟩,?_⟩
 clear H g
 rintro k ⟨i',u⟩ w3 ⟨i,h,e,hk,g,H⟩
 dsimp only at e ⊢
 subst e
 refine aa (fun cc=>?_) (fun cc=>pT H.all)
 have hi:i<m/\i<40:=by
  simp only[Bool.and_eq_true,decide_eq_true_eq] at cc
  omega
 refine H.Yy hx xj hm hi.1 fun xv xk xa xb xc _ ha hb hc b w4 H=>?_
 refine⟨rfl,H.bu 0 rfl rfl ⟨rfl,H.bu 0 rfl (show _=some (xk,xa,xb,xc,()) from rfl) ?_⟩⟩
 refine y7 H g ha hb hc rfl fun w5 g H=>?_
 generalize g_ h xv xk xa xb xc=h' at H g
 obtain⟨gh,I⟩:=g.hi
 rw[Ic (by omega)]
 refine⟨fun k2 s w'=> ∃(q:Nat),s.1=(q:Int)/\k2+q=ps.length/\bJ Q X [] [] w w' h' ((b,[.int .i64 xv,.int .i64 xk,.int .u64 xa,.int .u64 xb,.int .u64 xc])::rows),⟨ps.length,fun w6 h6=>⟨0,rfl,rfl,H.ext h6⟩⟩,?_⟩
 clear H
 rintro k2 ⟨q',u⟩ w6 ⟨q,e,hk2,H⟩
 dsimp only at e ⊢
 subst e
 have mB: ∀x∈rows,x∈((b,[.int .i64 xv,.int .i64 xk,.int .u64 xa,.int .u64 xb,.int .u64 xc])::rows:List (Nat×List Value)):=fun x hx=>List.mem_cons_of_mem _ hx
 refine aa (fun cq=>?_) (fun cq w7 h7=>⟨k - 1,by omega,i+1,h',rfl,by omega,g,(H.ext h7).sub (List.sublist_cons_self _ _)⟩)
 rw[yN] at cq
 have hq:=iF cq
 obtain⟨q1,q2⟩:=H.xG hr mB hq
 refine⟨rfl,H.bu 0 rfl rfl ⟨q1,ag.of _ q2 (H.query xv ps[q] fun w7 H=>?_)⟩⟩
 rw[Ic (by omega)]
 refine⟨fun k3 s w'=> ∃(v:Nat),s.1=(v:Int)/\k3+v=17/\bJ Q X [] [] w w' h' ((b,[.int .i64 xv,.int .i64 xk,.int .u64 xa,.int .u64 xb,.int .u64 xc])::rows),⟨16,fun w8 h8=>⟨1,rfl,rfl,H.ext h8⟩⟩,?_⟩
 clear H
 rintro k3 ⟨v',u⟩ w8 ⟨v,e,PO,H⟩
 dsimp only at e ⊢
 subst e
 refine aa (fun cv=>?_) (fun cv w9 h9=>⟨k2 - 1,by omega,q+1,rfl,by omega,H.ext h9⟩)
 obtain⟨cv1,cv2⟩:=(Bool.and_eq_true_iff.1 cv)
 have hv:v<17:=by have:=of_decide_eq_true cv1;omega
 have Qn:(cL h'.g h'.s xv ps[q]).2.2.1=0:=by simpa using cv2
 rw[Ic (by omega)]
 refine⟨fun k4 s w'=> ∃(j:Nat),s.1=(j:Int)/\k4+j=ps.length/\bJ Q X [] [] w w' h' ((b,[.int .i64 xv,.int .i64 xk,.int .u64 xa,.int .u64 xb,.int .u64 xc])::rows),⟨ps.length,fun w9 h9=>⟨0,rfl,rfl,H.ext h9⟩⟩,?_⟩
 clear H
 rintro k4 ⟨j',u⟩ w9 ⟨j,e,hk4,H⟩
 dsimp only at e ⊢
 subst e
 refine⟨fun _=>rfl,H.bu 0 rfl rfl ⟨aD h'.g v,fun _=>H.AB v,aa (fun cj=>?_) (fun cj lE Ac=>⟨k3 - 1,by omega,v+1,rfl,by omega,H.ext Ac⟩)⟩⟩
 rw[yN] at cj
 simp only[Bool.and_eq_true] at cj
 obtain⟨⟨cj1,Yz⟩,cj3⟩:=cj
 have hj:=iF cj1
 obtain⟨j1,j2⟩:=H.xG hr mB hj
 refine⟨j1,ag.of _ j2 (H.query v ps[j] fun lE H=>⟨fun _=>rfl,H.bu 0 rfl rfl ⟨qH h'.gr h'.po xv v,fun _=>yq H xv v,ak ?_ ?_⟩⟩)⟩
 ·cases P_:((cL h'.g h'.s v ps[j]).2.2.1==0&&(cL h'.g h'.s v ps[j]).1==(cL h'.g h'.s xv ps[q]).1) with
  |false=>rfl
  |true=>
   simp only[Bool.and_eq_true,beq_iff_eq] at P_
   obtain⟨e1,e2⟩:=P_
   obtain⟨f1, _,f3⟩:=PJ Qn
   obtain⟨_, _,f4⟩:=PJ e1
   rw[e2] at f4
   have hne:xv.toNat≠v:=by
    intro c
    have:(v:Int)=xv:=by rw[<-c];exact f1
    rw[this] at Yz
    simp at Yz
   have:=I.apart hne f3 f4
   rw[f1] at this
   rw[this];rfl
 ·rw[Ic (by omega)]
  exact fun mh zU=>⟨k4 - 1,by omega,j+1,rfl,by omega,H.ext zU⟩
end Go.Proofs.YtdnoecpjcoibmaaGreat
namespace Go.Proofs.YtdnoecpjcoibmaaGreat
set_option maxRecDepth 100000
open Go.RX D
section
variable {Q:Sys} {X:HX} {D G:List Nat} {w0 w w':World} {h:HS} {L:List (Nat×List Value)}
namespace bJ
theorem YA (H:bJ Q X D G w0 w h L) (i j:Nat) {bp bf n c:Nat} {ds:List DT} {rest:List Value} (hp:L[i]? =some (bp,[.slice (some ⟨bf,0,none⟩) n c])) (hf:L[j]? =some (bf,flat eD ds++rest)) (hn:n=ds.length) (f:Int):
 ah Tryz.prog 21 [.pointer (some ⟨bp,0,none⟩),.int .i64 f] w ((Sh.bq [eD,.one .bool]).gi (oJ ds f,uI ds f,())):=by
 subst hn
 exact ah.of (s:= .bq [eD,.one .bool]) fun w' h=>zb ((H.cY hp).ext h) ((H.cY hf).ext h) f
theorem Sg (H:bJ Q X D G w0 w h L) (v p:Int):ah Tryz.prog 22 [.pointer (some ⟨X.hb,0,none⟩),.int .i64 v,.int .i64 p] w ((Sh.bq [.one (.int .i64),.one .bool]).gi (dH h.g v p)):=by
 obtain⟨A,W,H⟩:=H
 exact k_ H (X:=X) (A:=A) (g:=h.g) List.mem_cons_self (a7 W []) (eK W) (fun i x hx=>W.mp hx) v p
theorem mk (H:bJ Q X D G w0 w h L) {n:Int} {e:TypeId} {K:Nat->World->Prop} (h0:0<=n) (h2:n<4096) (k: ∀b w1,bJ Q X D G w0 w1 h ((b,(List.replicate n.toNat [Value.int .i64 0]).flatten)::L)->K b w1):BF w 8 1 n n ⟨[.int .i64 0]⟩ e K:=by
 obtain⟨A,W,H⟩:=H.front
 obtain⟨G',S,J⟩:=H.call
 obtain⟨a,b,c,d,ca,la,H'⟩:=S
 refine BF.go H' rfl h0 (Int.le_refl _) (by omega) (by omega) fun bb w1 H2=>k bb w1 (iI W (J ⟨a,b,c,d,ca,la,H2.perm ?_⟩))
 exact List.perm_middle (l₁:=[_, _, _, _])
end bJ
end
def fK (F:Nat->Int) (n:Nat):List Value:=(List.range n).map fun i=>Value.int .i64 (F i)
theorem lc (F:Nat->Int) (n:Nat):(fK F n).length=n:=by unfold fK;simp
theorem nC (F:Nat->Int) {n i:Nat} (h:i<n):(fK F n)[i]? =some (.int .i64 (F i)):=by
 unfold fK
 rw[List.getElem?_map,List.getElem?_range h];rfl
theorem Mu (F:Nat->Int) {n i:Nat} (y:Int) {F':Nat->Int} (hs:F' i=y) (ho: ∀j,j≠i->F' j=F j):(fK F n).set i (.int .i64 y)=fK F' n:=by
 refine List.ext_getElem? fun j=>?_
 rw[List.getElem?_set]
 by_cases e:i=j
 ·subst e
  rw[if_pos rfl,lc]
  by_cases c:i<n
  ·rw[if_pos c,nC _ c,hs]
  ·rw[if_neg c,List.getElem?_eq_none (by rw[lc];omega)]
 ·rw[if_neg e]
  by_cases c:j<n
  ·rw[nC _ c,nC _ c,ho j (fun c=>e c.symm)]
  ·rw[List.getElem?_eq_none (by rw[lc];omega),List.getElem?_eq_none (by rw[lc];omega)]
theorem HP (n:Nat):(List.replicate n [Value.int .i64 0]).flatten=fK (fun _=>0) n:=by
 unfold fK
 induction n with
 |zero=>rfl
 |succ n ih=>
  rw[List.replicate_succ',List.flatten_append,ih,List.range_succ,List.map_append];rfl
theorem DC (n:Int) (hn:(Lit.int .u8 n).wf=true) (p:Option Addr) (m c:Nat) (xs:List (d_ qj)) (hm:m=xs.length) (Si:m<=maxLen) {w:World} (hx:Sl w (.agg qj) p xs) (xj: ∀x∈xs,fF qj x):
 an Tryz.prog 6 (.el (.one .bool)) [.int .u8 n,.slice p m c] w (fun b w'=>b=true/\Ext w w'):=by
 have hn:=Nd hn
 refine ai (C:=Y0) (aJ:=o_) (Eq.mpr (HK n p m c w _) ?_)
 rw[I_ (x:=n) (by omega) (by omega),D4 hn.1,ar (by omega) (by omega)]
 obtain⟨N,hN,hN1⟩: ∃N:Nat,4+n % 60=(N:Int)/\4<=N/\N<64:=⟨(4+n % 60).toNat,by omega,by omega,by omega⟩
 rw[hN]
 refine lY (At.start [] w) _ (fun c=>by omega) fun n1 n2 Q X w1 hQ H=>ak rfl ?_
 have g:=Good.new (Q:=Q) (n:=N) (by omega) hQ
 have Im:(h0 N).s.2.length=N:=List.length_replicate
 have hC: ∀ps,MT (h0 N) ps:=fun ps=>MT.new ps
 have H:bJ Q X [] [] w w1 (h0 N) []:=H
 generalize h0 N=h1 at H g Im hC
 refine H.pages hm hx xj 40 (by decide) fun r rows ps w2 P ql hr H=>?_
 have yN:=hr.1
 refine⟨fun k s w'=> ∃(i:Nat) (h:HS),s.1=(i:Int)/\k+i=40/\Good Q h/\h.s.2.length=N/\MT h ps/\bJ Q X [] [] w w' h rows,⟨40,fun w3 h3=>⟨0,h1,rfl,rfl,g,Im,hC ps,H.ext h3⟩⟩,?_⟩
 clear H g Im hC
 rintro k ⟨i',u⟩ w3 ⟨i,h,e,hk,g,Im,hC,H⟩
 dsimp only at e ⊢
 subst e
 refine aa (fun cc=>?_) (fun cc=>pT H.all)
 have hi:i<m/\i<40:=by
  simp only[Bool.and_eq_true,decide_eq_true_eq] at cc
  omega
 obtain⟨xv,xk,xa,xb,xc,dn,r1,r2,ha,hb,hc⟩:=H.Wz hx xj hm hi.1
 have Tm:(af p (Int.toNat (i:Int)*5)).isSome=true:=oa r1 _
 refine⟨⟨r1,by omega,by omega⟩,Tm,ag.of xv (nr r2 (by decide) rfl) ⟨⟨r1,by omega,by omega⟩,Tm,ag.of (xk,xa,xb,xc,()) (sJ r2) ?_⟩⟩
 refine y7 H g ha hb hc rfl fun w5 g' H=>?_
 obtain⟨gh0,I0⟩:=g.hi
 have hop:=P.op (k:=i) (by omega) dn
 have hC:=I0.cov hC xv xk (a:=xa) (b:=xb) xc ha.1 hop.1 hop.2
 have Im:(g_ h xv xk xa xb xc).s.2.length=N:=(uD ⟨gh0,I0⟩ ha.1).trans Im
 generalize g_ h xv xk xa xb xc=h' at H g' hC Im
 clear I0 g
 obtain⟨gh,I⟩:=g'.hi
 have hle:=I.inv.le
 refine H.frames fun pn kK c' rest' w6 H=>?_
 refine H.IK 0 1 rfl rfl rfl hle 0 fun w6 H=>H.IK 0 1 rfl rfl rfl hle 3 fun w6 H=>H.IK 0 1 rfl rfl rfl hle 4 fun w6 H=>H.IK 0 1 rfl rfl rfl hle 5 fun w6 H=>?_
 have hks:=I.HO
 refine ak ?_ ?_
 ·rw[ar (x:=((aX h'.s.2 0:Nat):Int)) (by omega) (by omega),ar (x:=((aX h'.s.2 0:Nat):Int)+(aX h'.s.2 3:Nat)) (by omega) (by omega),ar (x:=((aX h'.s.2 0:Nat):Int)+(aX h'.s.2 3:Nat)+(aX h'.s.2 4:Nat)) (by omega) (by omega)]
  simp;omega
 refine H.mk (by omega) (by omega) fun b1 w7 H=>H.mk (by omega) (by omega) fun b2 w7 H=>?_
 rw[show((N:Int)).toNat=N from rfl,HP] at H
 rw[Ic (by omega)]
 let R:Nat->Nat->List (Nat×List Value):=fun v k=>(b2,fK (fun f=>((gz h' ps (f:Int) false v+(ps.take k).countP (kL h' v (f:Int) false):Nat):Int)) N)::(b1,fK (fun f=>((gz h' ps (f:Int) true v+(ps.take k).countP (kL h' v (f:Int) true):Nat):Int)) N)::(pn,[.slice (some ⟨kK,0,none⟩) h'.s.2.length c'])::(kK,flat eD h'.s.2++rest')::rows
 have R1:R 1 0=(b2,fK (fun _=>0) N)::(b1,fK (fun _=>0) N)::(pn,[.slice (some ⟨kK,0,none⟩) h'.s.2.length c'])::(kK,flat eD h'.s.2++rest')::rows:=by
  have z: ∀(t:Bool) (f:Nat),((gz h' ps (f:Int) t 1+(ps.take 0).countP (kL h' 1 (f:Int) t):Nat):Int)=0:=fun t f=>by
   have:gz h' ps (f:Int) t 1=0:=by
    unfold gz
    have:ps.countP (kL h' 0 (f:Int) t)=0:=List.countP_eq_zero.2 fun q _=>by
     unfold kL aD;simp
    simp[List.range_succ,this]
   rw[this];rfl
  show(_,fK _ N)::(_,fK _ N):: _= _
  rw[show(fun f:Nat=>((gz h' ps (f:Int) false 1+(ps.take 0).countP (kL h' 1 (f:Int) false):Nat):Int))=fun _=>0 from funext (z false),show(fun f:Nat=>((gz h' ps (f:Int) true 1+(ps.take 0).countP (kL h' 1 (f:Int) true):Nat):Int))=fun _=>0 from funext (z true)]
 have Rn: ∀v k,(∀(f:Nat) (t:Bool),(ps.take k).countP (kL h' v (f:Int) t)=ps.countP (kL h' v (f:Int) t))->R v k=R (v+1) 0:=fun v k hf=>by
  show(_,fK _ N)::(_,fK _ N):: _=(_,fK _ N)::(_,fK _ N):: _
  have z: ∀(t:Bool) (f:Nat),((gz h' ps (f:Int) t v+(ps.take k).countP (kL h' v (f:Int) t):Nat):Int)=((gz h' ps (f:Int) t (v+1)+(ps.take 0).countP (kL h' (v+1) (f:Int) t):Nat):Int):=fun t f=>by
   rw[hf f t,yE,List.take_zero,List.countP_nil];rfl
  rw[funext (z false),funext (z true)]
 have mB: ∀v k, ∀x∈rows,x∈R v k:=fun v k x hx=>List.mem_cons_of_mem _ (List.mem_cons_of_mem _ (List.mem_cons_of_mem _ (List.mem_cons_of_mem _ hx)))
 rw[<-R1] at H
 refine⟨fun k2 s w'=> ∃(v:Nat),s.1=(v:Int)/\k2+v=17/\bJ Q X [] [] w w' h' (R v 0),⟨16,fun w8 h8=>⟨1,rfl,rfl,H.ext h8⟩⟩,?_⟩
 clear H R1
 rintro k2 ⟨v',u⟩ w8 ⟨v,e,hk2,H⟩
 dsimp only at e ⊢
 subst e
 refine aa (fun cv=>?_) (fun cv=>?_)
 ·have hv:v<17:=by have:=of_decide_eq_true cv;omega
  rw[Ic (by omega)]
  refine⟨fun k3 s w'=> ∃(q:Nat),s.1=(q:Int)/\k3+q=ps.length/\bJ Q X [] [] w w' h' (R v q),⟨ps.length,fun w9 h9=>⟨0,rfl,rfl,H.ext h9⟩⟩,?_⟩
  clear H
  rintro k3 ⟨q',u⟩ w9 ⟨q,e,PO,H⟩
  dsimp only at e ⊢
  subst e
  rw[yN]
  refine⟨aD h'.g v,fun _=>H.AB v,aa (fun cq=>?_) (fun cq lE Ac=>⟨k2 - 1,by omega,v+1,rfl,by omega,?_⟩)⟩
  ·obtain⟨cq1,hl⟩:=Bool.and_eq_true_iff.1 cq
   have hq:=iF cq1
   have hstep: ∀(f:Nat) (t:Bool),(ps.take (q+1)).countP (kL h' v (f:Int) t)=(ps.take q).countP (kL h' v (f:Int) t)+if kL h' v (f:Int) t ps[q]=true then 1 else 0:=fun f t=>by
    rw[List.take_add_one,List.getElem?_eq_getElem hq,Option.toList_some,List.countP_append,List.countP_singleton]
   obtain⟨j1,j2⟩:=H.xG hr (mB v q) hq
   rw[yN] at j1
   refine⟨j1,ag.of _ j2 (H.query v ps[q] fun lE H=>?_)⟩
   rw[qN hl,show((v:Int)).toNat=v from rfl]
   rw[Ic (by omega)]
   refine aa (fun ce mh zU=>⟨k3 - 1,by omega,q+1,rfl,by omega,?_⟩) (fun ce=>?_)
   ·have ce:(dm h' v ps[q]).2.2.1≠0:=by simpa using ce
    have:R v (q+1)=R v q:=by
     show(_,fK _ N)::(_,fK _ N):: _=(_,fK _ N)::(_,fK _ N):: _
     have z: ∀(t:Bool) (f:Nat),((gz h' ps (f:Int) t v+(ps.take (q+1)).countP (kL h' v (f:Int) t):Nat):Int)=((gz h' ps (f:Int) t v+(ps.take q).countP (kL h' v (f:Int) t):Nat):Int):=fun t f=>by
      rw[hstep,if_neg (by unfold kL;simp[ce])];rfl
     rw[funext (z false),funext (z true)]
    rw[this]
    exact H.ext zU
   ·have ce:(dm h' v ps[q]).2.2.1=0:=by simpa using ce
    obtain⟨f,d,f1,f2,f3,f4, _⟩:=I.EX hl (p:=ps[q]) ce
    have f1:(dm h' v ps[q]).1=(f:Int):=f1
    have hf:f<N:=by have:=(List.getElem?_eq_some_iff.1 f2).1;omega
    rw[f1]
    refine⟨_,H.YA 2 3 rfl rfl rfl f,?_⟩
    have Mv:oJ h'.s.2 (f:Int)=d:=kF f2
    have tU:uI h'.s.2 (f:Int)=true:=by
     unfold uI
     simp only[Bool.not_eq_true',decide_eq_false_iff_not]
     simp;omega
    rw[Mv,tU]
    refine H.al fun b3 mh H=>H.cC 0 rfl rfl rfl fun Ab H=>?_
    obtain⟨j1,j2⟩:=H.xG hr (fun x hx=>List.mem_cons_of_mem _ (mB v q x hx)) hq
    rw[yN] at j1
    refine⟨j1,ag.of _ j2 ⟨dH h'.g v ps[q],H.Sg v ps[q],fun _=>rfl,H.bu 0 rfl rfl ⟨fun _=>rfl,H.bu 0 rfl rfl (ak ?_ ?_)⟩⟩⟩
    ·rw[f3]
     have iK:(dH h'.g v ps[q]).2.1=cI h' v ps[q]:=rfl
     rw[iK]
     cases ht:cI h' v ps[q] with
     |true=>
      have:d.2.1≠(v:Int):=fun c=>by rw[f4.1 c] at ht;cases ht
      simp[this]
     |false=>simp[f4.2 ht]
    have H:=H.sub (List.sublist_cons_self _ _)
    have hcell: ∀(t:Bool) (g':Nat),(kL h' v (g':Int) t ps[q]=true<->g'=f/\cI h' v ps[q]=t):=fun t g'=>by
     unfold kL
     rw[hl,ce,f1]
     simp only[Bool.true_and,Bool.and_eq_true,decide_eq_true_eq,beq_iff_eq,true_and]
     exact⟨fun⟨a,b⟩=>⟨by omega,b⟩,fun⟨a,b⟩=>⟨by omega,b⟩⟩
    have hbound: ∀(t:Bool),gz h' ps (f:Int) t v+(ps.take q).countP (kL h' v (f:Int) t)<=10000:=fun t=>by
     have h1: ∀n,n<=17->gz h' ps (f:Int) t n<=300*n:=fun n=>by
      induction n with
      |zero=>intro _;exact Nat.le_refl _
      |succ n ih=>
       intro hn
       rw[yE]
       have:=ih (by omega)
       have:=List.countP_le_length (p:=kL h' n (f:Int) t) (l:=ps)
       omega
     have:=h1 v (by omega)
     have:=List.countP_le_length (p:=kL h' v (f:Int) t) (l:=ps.take q)
     rw[List.length_take] at this
     omega
    have hrow: ∀(t:Bool) {F:Nat->Int},(∀g',F g'=((gz h' ps (g':Int) t v+(ps.take q).countP (kL h' v (g':Int) t):Nat):Int))->cI h' v ps[q]=t->(fK F N).set (0+Int.toNat (f:Int)*1) (.int .i64 (au .i64 (F f) 1))=fK (fun g'=>((gz h' ps (g':Int) t v+(ps.take (q+1)).countP (kL h' v (g':Int) t):Nat):Int)) N:=fun t F hF ht=>by
     rw[show 0+Int.toNat (f:Int)*1=f by simp]
     have hb:=hbound t
     refine Mu F _ ?_ fun j hj=>?_
     ·rw[hstep,if_pos ((hcell t f).2 ⟨rfl,ht⟩),hF,ar (by omega) (by omega)]
      omega
     ·rw[hstep,if_neg (fun c=>hj ((hcell t j).1 c).1),hF];rfl
    have hsame: ∀(t:Bool),cI h' v ps[q]≠t->(fun g':Nat=>((gz h' ps (g':Int) t v+(ps.take (q+1)).countP (kL h' v (g':Int) t):Nat):Int))=fun g':Nat=>((gz h' ps (g':Int) t v+(ps.take q).countP (kL h' v (g':Int) t):Nat):Int):=fun t ht=>funext fun g'=>by
     rw[hstep,if_neg (fun c=>ht ((hcell t g').1 c).2)];rfl
    have Mx: ∀(t:Bool) {F:Nat->Int},lI (fK F N) (0+Int.toNat (f:Int)*1) (.one (.int .i64))=some (F f):=fun t F=>by
     rw[show 0+Int.toNat (f:Int)*1=f by simp]
     unfold lI
     rw[nC _ hf];rfl
    have wH:true=true/\0<=(f:Int)/\(f:Int)<(((N:Int).toNat:Nat):Int):=⟨rfl,by omega,by omega⟩
    refine aa (fun ct=>⟨wH,H.bu 1 rfl (Mx true) ⟨wH,?_⟩⟩) (fun ct=>⟨wH,H.bu 0 rfl (Mx false) ⟨wH,?_⟩⟩)
    ·have ct:cI h' v ps[q]=true:=ct
     refine H.lR 1 rfl rfl (by rw[lc];simp;omega) fun E9 H E_ MA=>⟨k3 - 1,by omega,q+1,rfl,by omega,?_⟩
     rw[hrow true (fun _=>rfl) ct] at H
     have:R v (q+1)=(R v q).set 1 (b1,fK (fun g'=>((gz h' ps (g':Int) true v+(ps.take (q+1)).countP (kL h' v (g':Int) true):Nat):Int)) N):=by
      show(_,fK _ N)::(_,fK _ N):: _=(_,fK _ N)::(_,fK _ N):: _
      rw[hsame false (by rw[ct];decide)]
     rw[this]
     exact H.ext MA
    ·have ct:cI h' v ps[q]=false:=ct
     refine H.lR 0 rfl rfl (by rw[lc];simp;omega) fun E9 H E_ MA=>⟨k3 - 1,by omega,q+1,rfl,by omega,?_⟩
     rw[hrow false (fun _=>rfl) ct] at H
     have:R v (q+1)=(R v q).set 0 (b2,fK (fun g'=>((gz h' ps (g':Int) false v+(ps.take (q+1)).countP (kL h' v (g':Int) false):Nat):Int)) N):=by
      show(_,fK _ N)::(_,fK _ N):: _=(_,fK _ N)::(_,fK _ N):: _
      rw[hsame true (by rw[ct];decide)]
     rw[this]
     exact H.ext MA
  ·rw[<-Rn v q fun f t=>?_]
   ·exact H.ext Ac
   ·cases hl:aD h'.g v with
    |true=>
     rw[hl,Bool.and_true] at cq
     have:=yF cq
     rw[List.take_of_length_le this]
    |false=>
     have z: ∀l:List Int,l.countP (kL h' v (f:Int) t)=0:=fun l=>List.countP_eq_zero.2 fun x _=>by unfold kL;simp[hl]
     rw[z,z]
 ·have hv:v=17:=by have:=of_decide_eq_false cv;omega
  subst hv
  refine⟨fun k3 s w'=> ∃(f:Nat),s.1=(f:Int)/\k3+f=N/\bJ Q X [] [] w w' h' (R 17 0),⟨N,fun w9 h9=>⟨0,rfl,rfl,H.ext h9⟩⟩,?_⟩
  clear H
  rintro k3 ⟨f',u⟩ w9 ⟨f,e,PO,H⟩
  dsimp only at e ⊢
  subst e
  refine aa (fun cf=>?_) (fun cf lE Ac=>⟨k - 1,by omega,i+1,h',rfl,by omega,g',Im,hC,(H.ext Ac).sub ?_⟩)
  ·have hf:=iF cf
   rw[Ic (by omega)]
   have hd:h'.s.2[f]? =some (h'.s.2[f]'(by omega)):=List.getElem?_eq_getElem (by omega)
   generalize h'.s.2[f]'(by omega)=d at hd
   obtain⟨o1,o2⟩:=I.O7 P.nd hC hd
   have o3:=I.Mt P.nd hC (f:Int)
   have o4:=I.hc.refs hd
   have Mv:oJ h'.s.2 (f:Int)=d:=kF hd
   refine⟨_,H.YA 2 3 rfl rfl rfl f,?_⟩
   rw[Mv]
   refine H.al fun b3 mh H=>H.cC 0 rfl rfl rfl fun Ab H=>?_
   have wH:true=true/\0<=(f:Int)/\(f:Int)<(((N:Int).toNat:Nat):Int):=⟨rfl,by omega,by omega⟩
   have Mx: ∀{F:Nat->Int},lI (fK F N) (0+Int.toNat (f:Int)*1) (.one (.int .i64))=some (F f):=fun{F}=>by
    rw[show 0+Int.toNat (f:Int)*1=f by simp]
    unfold lI
    rw[nC _ hf];rfl
   refine⟨wH,H.bu 2 rfl Mx ⟨rfl,H.bu 0 rfl rfl ⟨fun _=>wH,H.bu 1 rfl Mx ⟨fun _=>rfl,H.bu 0 rfl rfl ⟨fun _=>wH,H.bu 1 rfl Mx (ak ?_ fun E9 Pc=>⟨k3 - 1,by omega,f+1,rfl,by omega,(H.ext Pc).sub (List.sublist_cons_self _ _)⟩)⟩⟩⟩⟩⟩
   rw[List.take_zero,List.countP_nil,List.countP_nil,Nat.add_zero,Nat.add_zero,o3, <-o4]
   have a1: ¬ ((gz h' ps (f:Int) false 17:Nat):Int)>1:=by omega
   rw[decide_eq_false a1]
   by_cases h4:d.1=4
   ·rw[o2 h4];simp[o4]
   ·simp[h4,o4]
  ·exact List.sublist_append_right [_, _, _, _] rows
end Go.Proofs.YtdnoecpjcoibmaaGreat
namespace Go.Proofs.YtdnoecpjcoibmaaGreat
set_option maxRecDepth 100000
open Go.RX D
theorem wv {w:World} {bm bw n c:Nat} {ca la:Int} {ws:List Int} {rest:List Value} (hb:aY w bm (hH bw n c ca la)) (hw:aY w bw (flat eW ws++rest)) (hn:n=ws.length) (h0:0<n) (hc:n<=c) (Fa:n<=1048576):
 an Tryz.prog 29 (.el (.one .slice)) [.pointer (some ⟨bm,0,none⟩),.int .i64 0,.int .i64 (n:Int)] w (fun r w'=>iM w w' eW r ws/\Ext w w'):=by
 refine ai (C:=N0) (aJ:=fun _=>[]) (Eq.mpr (sx _ 0 _ w _) ?_)
 have hr:cg w (af (some ⟨bm,0,none⟩) 0) (.agg [.slice]) ((some ⟨bw,0,none⟩,n,c),()):=by rw[aK];exact bY hb rfl
 refine ak rfl ⟨rfl,rfl,ag.of _ hr fun w5 h5=>(Cn (hw.ext h5) hn hc Fa 0 _).mono fun x w6 hx=>?_⟩
 obtain⟨ho,hx⟩:=hx
 subst hn
 rw[Ez ws h0] at ho
 have h56:Ext w w6:=h5.trans hx
 have ho:iM w w6 eW x ws:=ho.VF.of h5.size
 exact fun w7 h7=>⟨ho.ext h7,h56.trans h7⟩
section
variable {Q:Sys} {X:HX} {D G:List Nat} {w0 w w':World} {h:HS} {L Ls:List (Nat×List Value)}
namespace bJ
theorem Xv (H:bJ Q X D G w0 w h L):0<h.s.1.length/\(∃ca la,aY w Q.bm (hH Q.bw h.s.1.length Q.c ca la))/\ ∃rest,aY w Q.bw (flat eW h.s.1++rest):=by
 obtain⟨A,W,H⟩:=H.front
 obtain⟨h1,h2,h3,h4,ca,la,H'⟩:=H.base
 exact⟨h1,⟨ca,la,H'.get (i:=0) rfl⟩,⟨_,H'.get (i:=1) rfl⟩⟩
theorem I3 (H:bJ Q X D G w0 w h L) (hc:Fe Q h.s) {K:Option Addr->World->Prop}
 (k: ∀bc bs cap rest ca la w2,h.s.1.length<=cap->bJ Q X D G w0 w2 h ((bc,hH bs h.s.1.length cap ca la)::(bs,flat eW h.s.1++rest)::L)->K (some ⟨bc,0,none⟩) w2):
 az Tryz.prog 38 (.el (.one .ptr)) [.pointer (some ⟨Q.bm,0,none⟩)] w K:=by
 obtain⟨A,W,H⟩:=H.front
 obtain⟨G',S,J⟩:=H.call
 exact S.I3 hc fun bc bs cap rest ca la w2 hle S=>k bc bs cap rest ca la w2 hle (iI W (J S))
theorem grow {b:Nat} {x:Int} (H:bJ Q X D G w0 w h ((b,[.int .i64 x])::(Ls++L))) {s:Option Addr×Nat×Nat} {xs:List Int} (hs:sO Ls s xs) (hb:xs.length<=900000) {t:TypeId} {R:Option Addr×Nat×Nat->World->Prop}
 (k: ∀wZ s' w',sO wZ s' (xs++[x])->bJ Q X D G w0 w' h (wZ++L)->R s' w'):tV w t 1 8 ⟨[.int .i64 0]⟩ s (some ⟨b,0,none⟩,1,1) R:=by
 obtain⟨A,W,H⟩:=H.front
 obtain⟨G',S,J⟩:=H.call
 obtain⟨a1,b1,c1,d1,ca,la,H'⟩:=S
 have e1: ∀T,Q.L ca la h.s T=[(Q.bm,hH Q.bw h.s.1.length Q.c ca la),(Q.bw,flat eW h.s.1++Q.rw),(Q.bf,flat eD h.s.2++Q.rf),(Q.bp,[.slice (some ⟨Q.bf,0,none⟩) h.s.2.length Q.cp])]++T:=fun T=>rfl
 refine aF.grow (e:=eI) (x:=x) (xs:=xs) (Ls:=Ls) (L0:=Q.L ca la h.s (L++dF Q X A h (aR Q A h.g (List.range 17)))) (bytes:=8) (H'.perm ?_) hs rfl rfl rfl (by omega) fun bs c rest w' q1 q2 H3=>
  k [(bs,flat eI (xs++[x])++rest)] (some ⟨bs,0,none⟩,xs.length+1,c) w' (.inr ⟨bs,c,rest,by rw[List.length_append];rfl,rfl,q1,by rw[List.length_append];exact q2⟩) (iI W (J ⟨a1,b1,c1,d1,ca,la,H3.perm ?_⟩))
 ·rw[e1,e1]
  show((b, _)::Ls++([_, _, _, _]++ _)).Perm ([_, _, _, _]++(((b, _)::(Ls++L))++ _))
  refine(List.perm_append_comm_assoc _ _ _).trans (List.Perm.append_left _ ?_)
  rw[List.cons_append,List.cons_append,List.append_assoc]
  exact List.Perm.refl _
 ·rw[e1,e1]
  exact List.perm_append_comm_assoc [_, _, _, _] [_] _
end bJ
end
theorem DD (n:Int) (hn:(Lit.int .u8 n).wf=true) (p:Option Addr) (m c:Nat) (xs:List (d_ qj)) (hm:m=xs.length) (Si:m<=maxLen) {w:World} (hx:Sl w (.agg qj) p xs) (xj: ∀x∈xs,fF qj x):
 an Tryz.prog 10 (.el (.one .bool)) [.int .u8 n,.slice p m c] w (fun b w'=>b=true/\Ext w w'):=by
 have hn:=Nd hn
 refine ai (C:=Y0) (aJ:=ph) (Eq.mpr (HL n p m c w _) ?_)
 rw[I_ (x:=n) (by omega) (by omega),D4 hn.1,ar (by omega) (by omega)]
 refine lY (At.start [] w) _ (fun c=>by omega) fun n1 n2 Q X w1 hQ H=>ak rfl ?_
 have g:=Good.new (Q:=Q) (n:=(4+n % 30).toNat) (by omega) hQ
 generalize h0 (4+n % 30).toNat=h1 at H g
 refine H.pages hm hx xj 40 (by decide) fun r rows ps w2 P ql hr H=>?_
 have yN:=hr.1
 refine⟨fun k s w'=> ∃(i:Nat) (h:HS),s.1=(i:Int)/\k+i=40/\Good Q h/\bJ Q X [] [] w w' h rows,⟨40,fun w3 h3=>⟨0,h1,rfl,rfl,g,H.ext h3⟩⟩,?_⟩
 clear H g
 rintro k ⟨i',u⟩ w3 ⟨i,h,e,hk,g,H⟩
 dsimp only at e ⊢
 subst e
 refine aa (fun cc=>?_) (fun cc=>pT H.all)
 have hi:i<m/\i<40:=by
  simp only[Bool.and_eq_true,decide_eq_true_eq] at cc
  omega
 refine H.Yy hx xj hm hi.1 fun xv xk xa xb xc _ ha hb hc b w4 H=>?_
 refine H.memory fun w5 H=>H.I3 g.BO fun bc bs cap rest ca la w5 hcap H=>H.frames fun pn kK c' rest' w6 H=>?_
 rw[Ic (by omega)]
 let val:Int->Int:=fun q=>au .i64 (b_ .i64 8 (cL h.g h.s xv q).1) (cL h.g h.s xv q).2.1
 refine⟨fun k2 s w'=> ∃(q:Nat) (Ls:List (Nat×List Value)),s.2.1=(q:Int)/\k2+q=ps.length/\q<=ps.length/\sO Ls s.1 ((ps.take q).map val)/\bJ Q X [] [] w w' h (Ls++((pn,[.slice (some ⟨kK,0,none⟩) h.s.2.length c'])::(kK,flat eD h.s.2++rest')::(bc,hH bs h.s.1.length cap ca la)::(bs,flat eW h.s.1++rest)::(b,[.int .i64 xv,.int .i64 xk,.int .u64 xa,.int .u64 xb,.int .u64 xc])::rows)),⟨ps.length,fun w7 h7=>⟨0,[],rfl,rfl,Nat.zero_le _,.inl ⟨rfl,rfl,rfl⟩,H.ext h7⟩⟩,?_⟩
 clear H
 rintro k2 ⟨s,q',u⟩ w7 ⟨q,Ls,e,hk2,hql,hP,H⟩
 dsimp only at e hP ⊢
 subst e
 refine aa (fun cq=>?_) (fun cq=>?_)
 ·rw[yN] at cq
  have hq:=iF cq
  have wT:(Ls++((pn,[.slice (some ⟨kK,0,none⟩) h.s.2.length c'])::(kK,flat eD h.s.2++rest')::(bc,hH bs h.s.1.length cap ca la)::(bs,flat eW h.s.1++rest)::(b,[.int .i64 xv,.int .i64 xk,.int .u64 xa,.int .u64 xb,.int .u64 xc])::rows):List (Nat×List Value))[Ls.length+4]? =some (b,[.int .i64 xv,.int .i64 xk,.int .u64 xa,.int .u64 xb,.int .u64 xc]):=by
   rw[List.getElem?_append_right (by omega)];simp
  obtain⟨q1,q2⟩:=H.xG hr (fun x hx=>List.mem_append_right _ (by simp[hx])) hq
  refine⟨rfl,H.bu _ wT rfl ⟨q1,ag.of _ q2 (H.query xv ps[q] fun w8 H=>H.al fun b2 w9 H lE Ac=>?_)⟩⟩
  have hlen:=hP.len
  refine(H.ext Ac).grow hP (by rw[List.length_map,List.length_take];omega) fun wZ s' mh HT H Ab h12=>⟨k2 - 1,by omega,q+1,wZ,Ic (by omega),by omega,by omega,?_,H.ext h12⟩
  rw[List.take_add_one,List.getElem?_eq_getElem hq,Option.toList_some,List.map_append]
  exact HT
 ·have hq:q=ps.length:=by
   rw[yN] at cq
   have:=yF cq
   omega
  subst hq
  rw[List.take_length] at hP
  have wT:(Ls++((pn,[.slice (some ⟨kK,0,none⟩) h.s.2.length c'])::(kK,flat eD h.s.2++rest')::(bc,hH bs h.s.1.length cap ca la)::(bs,flat eW h.s.1++rest)::(b,[.int .i64 xv,.int .i64 xk,.int .u64 xa,.int .u64 xb,.int .u64 xc])::rows):List (Nat×List Value))[Ls.length+4]? =some (b,[.int .i64 xv,.int .i64 xk,.int .u64 xa,.int .u64 xb,.int .u64 xc]):=by
   rw[List.getElem?_append_right (by omega)];simp
  refine⟨rfl,H.bu _ wT rfl ⟨rfl,H.bu _ wT (show _=some (xk,xa,xb,xc,()) from rfl) ?_⟩⟩
  obtain⟨gh,I⟩:=g.hi
  have PK:=I.fail (v:=xv) (k:=xk) (a:=xa) (b:=xb) (c:=xc)
  refine mW H g ha hb hc rfl fun b1 w8 g' H=>?_
  refine⟨rfl,H.bu 0 rfl rfl (aa (fun ce w9 h9=>⟨k - 1,by omega,i+1, _,rfl,by omega,g',(H.ext h9).sub ?_⟩) (fun ce=>?_))⟩
  ·refine List.Sublist.cons _ (List.Sublist.trans ?_ (List.sublist_append_right Ls _))
   exact List.sublist_append_right [_, _, _, _, _] rows
  have ce:lH h xv xk xa xb xc≠0:=by simpa using ce
  obtain⟨⟨hs,hg⟩,hV⟩:=PK ce
  rw[hV] at H
  have BO:=g.BO
  generalize g_ h xv xk xa xb xc=h' at H g' hs hg
  clear PK
  refine H.memory fun w9 H=>⟨rfl,H.bu 0 rfl rfl ?_⟩
  obtain⟨m0,⟨ca1,la1,hB⟩,aaf,hW⟩:=H.Xv
  refine⟨_,fun _=>ah.of (s:= .el (.one (.int .i64))) fun w' h=>uw (hB.ext h),ak rfl ?_⟩
  rw[hs] at m0 hB hW
  rw[hs]
  refine fun lE Ac=>(wv (hB.ext Ac) (hW.ext Ac) rfl m0 BO.1 BO.2).mono fun r1 mh ⟨Pa,zU⟩=>?_
  obtain⟨tj,H,YD⟩:=(H.ext Ac).Iz zU Pa
  have Tb: ∀{j:Nat} {x:Nat×List Value},[(pn,[.slice (some ⟨kK,0,none⟩) h.s.2.length c']),(kK,flat eD h.s.2++rest'),(bc,hH bs h.s.1.length cap ca la),(bs,flat eW h.s.1++rest)][j]? =some x-> ∀T,(((b1,[.int .u64 0,.int .i64 (lH h xv xk xa xb xc)])::(Ls++((pn,[.slice (some ⟨kK,0,none⟩) h.s.2.length c'])::(kK,flat eD h.s.2++rest')::(bc,hH bs h.s.1.length cap ca la)::(bs,flat eW h.s.1++rest)::(b,[.int .i64 xv,.int .i64 xk,.int .u64 xa,.int .u64 xb,.int .u64 xc])::rows)):List (Nat×List Value))++T)[1+Ls.length+j]? =some x:=fun{j x} hj T=>by
   have hjl:=(List.getElem?_eq_some_iff.1 hj).1
   have hjl:j<4:=hjl
   rw[List.cons_append,List.append_assoc,show 1+Ls.length+j=(Ls.length+j)+1 by omega,List.getElem?_cons_succ,List.getElem?_append_right (by omega),show Ls.length+j - Ls.length=j by omega]
   have:j=0\/j=1\/j=2\/j=3:=by omega
   rcases this with rfl|rfl|rfl|rfl<;>exact hj
  have cB:=H.cY (Tb (j:=2) rfl tj)
  have cW:=H.cY (Tb (j:=3) rfl tj)
  refine⟨_,ah.of (s:= .el (.one (.int .i64))) fun w' h=>uw (cB.ext h),?_⟩
  refine fun Ab h12=>(wv (cB.ext h12) (cW.ext h12) rfl m0 hcap BO.2).mono fun r2 E9 ⟨SB,Pc⟩=>?_
  have Xw:Sl E9 eW r1.1 h.s.1:=((Pa.sl.ext h12).ext Pc)
  have Xx:Sl E9 eW r2.1 h.s.1:=SB.sl
  have H:=(H.ext h12).ext Pc
  refine fun E_ MA=>(J_ (Xw.ext MA) Pa.len (Xx.ext MA) SB.len (by have:=BO.2;have:=Pa.len;omega)).mono fun bb U9 ⟨SU,h15⟩=>?_
  have SU:bb=true:=by rw[SU];simp
  subst SU
  have H:=(H.ext MA).ext h15
  refine ak rfl (H.frames fun YB Vp c2 Ax Sv H=>?_)
  rw[hs] at H
  have VL: ∀{j:Nat} {x:Nat×List Value},[(pn,[.slice (some ⟨kK,0,none⟩) h.s.2.length c']),(kK,flat eD h.s.2++rest'),(bc,hH bs h.s.1.length cap ca la),(bs,flat eW h.s.1++rest)][j]? =some x->(((YB,[.slice (some ⟨Vp,0,none⟩) h.s.2.length c2])::(Vp,flat eD h.s.2++Ax)::((b1,[.int .u64 0,.int .i64 (lH h xv xk xa xb xc)])::(Ls++((pn,[.slice (some ⟨kK,0,none⟩) h.s.2.length c'])::(kK,flat eD h.s.2++rest')::(bc,hH bs h.s.1.length cap ca la)::(bs,flat eW h.s.1++rest)::(b,[.int .i64 xv,.int .i64 xk,.int .u64 xa,.int .u64 xb,.int .u64 xc])::rows))++tj)):List (Nat×List Value))[1+Ls.length+j+2]? =some x:=fun{j x} hj=>by
   rw[List.getElem?_cons_succ,List.getElem?_cons_succ]
   exact Tb hj tj
  refine⟨fun k3 s w'=> ∃(f:Nat),s.1=(f:Int)/\k3+f=h.s.2.length/\bJ Q X [] [] w w' h' _,⟨h.s.2.length,fun VS h17=>⟨0,rfl,rfl,H.ext h17⟩⟩,?_⟩
  clear H
  rintro k3 ⟨f',u⟩ VS ⟨f,e,PO,H⟩
  dsimp only at e ⊢
  subst e
  have pB:=H.cY (VL (j:=0) rfl)
  have pF:=H.cY (VL (j:=1) rfl)
  have WA:=H.cY (i:=0) rfl
  have WB:=H.cY (i:=1) rfl
  refine⟨_,ah.of (s:= .el (.one (.int .i64))) fun w' h=>pR (pB.ext h),aa (fun cf=>?_) (fun cf=>?_)⟩
  ·have hf:=iF cf
   have hle:=I.inv.le
   rw[Ic (by omega)]
   refine⟨_,ah.of (s:= .bq [eD,.one .bool]) fun w' h=>zb (pB.ext h) (pF.ext h) f,H.al fun b3 Va H=>H.cC 0 rfl rfl rfl fun SY H=>?_⟩
   have WA:=H.cY (i:=1) rfl
   have WB:=H.cY (i:=2) rfl
   refine⟨_,ah.of (s:= .bq [eD,.one .bool]) fun w' h=>zb (WA.ext h) (WB.ext h) f,H.al fun b4 SZ H=>H.cC 0 rfl rfl rfl fun w21 H=>?_⟩
   generalize oJ h.s.2 (f:Int)=d at H ⊢
   obtain⟨d1,d2,d3,d4,du⟩:=d
   refine H.ld 1 rfl (show _=some (d1,d2,d3,d4,()) from rfl) (H.ld 0 rfl (show _=some (d1,d2,d3,d4,()) from rfl) (ak (by simp) fun w22 h22=>⟨k3 - 1,by omega,f+1,rfl,by omega,(H.ext h22).sub ?_⟩))
   exact(List.sublist_cons_self _ _).trans (List.sublist_cons_self _ _)
  ·refine⟨fun k4 s w'=> ∃(j:Nat),s.1=(j:Int)/\k4+j=ps.length/\bJ Q X [] [] w w' h' _,⟨ps.length,fun Va h18=>⟨0,rfl,rfl,H.ext h18⟩⟩,?_⟩
   clear H pB pF WA WB
   rintro k4 ⟨j',u⟩ Va ⟨j,e,hk4,H⟩
   dsimp only at e ⊢
   subst e
   have Xy:(((YB,[.slice (some ⟨Vp,0,none⟩) h.s.2.length c2])::(Vp,flat eD h.s.2++Ax)::((b1,[.int .u64 0,.int .i64 (lH h xv xk xa xb xc)])::(Ls++((pn,[.slice (some ⟨kK,0,none⟩) h.s.2.length c'])::(kK,flat eD h.s.2++rest')::(bc,hH bs h.s.1.length cap ca la)::(bs,flat eW h.s.1++rest)::(b,[.int .i64 xv,.int .i64 xk,.int .u64 xa,.int .u64 xb,.int .u64 xc])::rows))++tj)):List (Nat×List Value))[Ls.length+4+3]? =some (b,[.int .i64 xv,.int .i64 xk,.int .u64 xa,.int .u64 xb,.int .u64 xc]):=by
    rw[List.getElem?_cons_succ,List.getElem?_cons_succ,List.cons_append,List.getElem?_cons_succ,List.append_assoc,List.getElem?_append_right (by omega)]
    simp
   refine aa (fun cj=>?_) (fun cj SY h19=>⟨k - 1,by omega,i+1,h',rfl,by omega,g',(H.ext h19).sub ?_⟩)
   ·rw[yN] at cj
    have hj:=iF cj
    rw[Ic (by omega)]
    obtain⟨j1,j2⟩:=H.xG hr (fun x hx=>by simp[hx]) hj
    refine⟨rfl,H.bu _ Xy rfl ⟨j1,ag.of _ j2 (H.query xv ps[j] fun SY H=>?_)⟩⟩
    have hPl:=hP.len
    have qf:Sl SY eI s.1 (ps.map val):=by
     rcases hP with ⟨rfl,h1, _⟩|⟨bss,cc',rst,rfl,rfl, _, _⟩
     ·rw[h1];intro i x hx;simp at hx
     ·refine Sl.iA (H.cY (i:=3) rfl) ?_
      rw[List.take_append_of_le_length (by rw[aG];exact Nat.le_refl _),List.take_of_length_le (by rw[aG];exact Nat.le_refl _)]
    have dn:(ps.map val)[j]? =some (val ps[j]):=by rw[List.getElem?_map,List.getElem?_eq_getElem hj];rfl
    obtain⟨t1,t2⟩:=qf j _ dn
    rw[List.length_map] at hPl
    refine⟨⟨t1,by omega,by omega⟩,ag.of _ t2 (ak ?_ fun SZ S3=>⟨k4 - 1,by omega,j+1,rfl,by omega,H.ext S3⟩)⟩
    show(val ps[j] != au .i64 (b_ .i64 8 (cL h'.g h'.s xv ps[j]).1) (cL h'.g h'.s xv ps[j]).2.1)=false
    rw[hs,hg]
    simp[val]
   ·refine List.Sublist.cons _ (List.Sublist.cons _ ?_)
    refine List.Sublist.trans ?_ (List.sublist_append_left _ tj)
    refine List.Sublist.cons _ (List.Sublist.trans ?_ (List.sublist_append_right Ls _))
    exact List.sublist_append_right [_, _, _, _, _] rows
end Go.Proofs.YtdnoecpjcoibmaaGreat
