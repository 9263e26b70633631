import Derived.Test.YteeflilbnoknnaaGreatHAG
/-! What the statement leans on: texts joined and shortened by a program of mine. -/
set_option linter.unusedVariables false
set_option linter.unusedSimpArgs false
open Go renaming World->A2,Addr->AE,Value->AG
open Go.Proofs.Tryz renaming prog->AC
open List renaming range->AR,replicate->AT,mem_map->AZ,mem_append_left->B1,mem_append_right->B2,mem_append->B3,getElem?_eq_getElem->B4,append_assoc->B5,mem_cons_of_mem->C7,mem_cons_self->C9,length_replicate->Ce,count_append->Ch,count_cons->Cs,mem_of_getElem?->DB,map_append->DC,any_eq_true->Da,sublist_append_left->Df,range_succ->Dl,nodup_append->Dm,append_nil->Dn,mem_singleton->Do,length_map->Dt,getElem?_eq_some_iff->Du,sublist_append_right->Dx,perm_append_comm_assoc->E4,perm_append_comm->E5,perm_middle->FA,sublist_cons_self->FB,length_append->FC,foldl_cons->FS,getElem?_set_ne->Fe,getElem?_map->Ff,foldl_append->Fh,map_congr_left->Fk,mem_range->Fm,take_append_of_le_length->Fz,take_of_length_le->GS,take_add_one->Gi
open Int renaming toNat->AU,toNat_natCast->Ct
open Go.IntKind renaming i64->DA
open Nat renaming le_refl->DS,not_lt_zero->H2
open Bool renaming and_eq_true->FJ,or_eq_true->H4,or_eq_false_iff->H5
namespace Go.Proofs.YteeflilbnoknnaaGreat
set_option maxRecDepth 100000
open Go.RX D
def tZ (v:Int) (x:List DT×Int) (i:Nat):List DT×Int:=if(mH x.1 (i:Int)).2.1=v/\(mH x.1 (i:Int)).1=4 then(eC x.1 (i:Int) (aI 5 0),x.2+1) else x
theorem ua {v:Int} (hv:1<=v/\v<=16): ∀(l:List Nat) (ds:List DT) (c:Int),l.Nodup->(∀i∈l, ∀d,ds[i]? =some d->d.1=4->d.2.1=v->d=(4,v,0,0,()))->
 l.foldl (tZ v) (ds,c)=(l.filter λi=>match ds[i]? with|some d=>d.2.1==v|none=>false).foldl (rO v) (ds,c)
 |[], _, _, _, _=>rfl
 |i::l,ds,c,b,f=>by
  rw[List.nodup_cons] at b;rw[FS,List.filter_cons];cases hd:ds[i]? with
  |none=>
   have e:tZ v (ds,c) i=(ds,c):=by
    have h0:mH ds (i:Int)=zD:=by
     unfold mH;rw[az (by right;have:=List.getElem?_eq_none_iff.1 hd;omega)]
    exact ar (by rw[h0];rintro⟨_,h⟩;exact absurd h (by decide))
   rw[e];exact ua hv l ds c b.2 λj a=>f j (C7 _ a)
  |some d=>
   have g:=jU hd;by_cases k:d.2.1=v
   .have o:(match some d with|some d=>d.2.1==v|none=>false)=true:=by simpa using k
    rw[az o,FS];by_cases m:d.1=4
    .have s:=f i C9 d hd m k;have p:=hd;rw[s] at p;have n:tZ v (ds,c) i=(eC ds (i:Int) (aI 5 0),c+1):=az (by rw[g];exact⟨k,m⟩);have q:rO v (ds,c) i=(eC ds (i:Int) (aI 5 v),c+1):=az (by rw[g];exact m);rw[n,q,(qf (G:=aI 5 0) p (l4 hv)).1,(qf (G:=aI 5 v) p (l4 hv)).1];have ne: ∀j∈l,i≠j:=λj a e=>b.1 (by rw[e];exact a);rw[ua hv l (ds.set i (5,v,0,0,())) (c+1) b.2 λj a d r=>by
      rw[Fe (ne j a)] at r;exact f j (C7 _ a) d r]
     congr 1;refine List.filter_congr λj a=>?_;rw[Fe (ne j a)]
    .have n:tZ v (ds,c) i=(ds,c):=ar (by rw[g];exact λh=>m h.2);have q:rO v (ds,c) i=(ds,c):=ar (by rw[g];exact m);rw[n,q];exact ua hv l ds c b.2 λj a=>f j (C7 _ a)
   .have o: ¬ (match some d with|some d=>d.2.1==v|none=>false)=true:=by simpa using k
    have n:tZ v (ds,c) i=(ds,c):=ar (by rw[g];exact λh=>k h.1);rw[ar o,n];exact ua hv l ds c b.2 λj a=>f j (C7 _ a)
theorem Zb {v:Int} (hv:1<=v/\v<=16) {ds:List DT} (a: ∀(i:Nat) (d:DT),ds[i]? =some d->d.1=4->d.2.1=v->d=(4,v,0,0,())):(AR ds.length).foldl (tZ v) (ds,0)=yG ds v:=by
 rw[ua hv _ _ _ List.nodup_range λi _=>a i];rfl
section
variable {gh:Gh} {h:HS}
theorem HI.Me (H:HI gh h) {v:Nat} (f: ∃x,h.g v=some x) (hb: ¬ mj h.s.2 (v:Int)=true): ∀n,HM (_root_.Go.Proofs.YteeflilbnoknnaaGreat.fg (v:Int) (pR h (v:Int)).length h).s.2 n (v:Int)->dH (kA (_root_.Go.Proofs.YteeflilbnoknnaaGreat.fg (v:Int) (pR h (v:Int)).length h)) (n:Int)=0:=by
 have ⟨g1,y,⟨z,A⟩,j,k,l,B,C⟩:=HI.fg (pR h (v:Int)).length H f rfl;intro n m;rcases Nat.eq_zero_or_pos (dH (kA (_root_.Go.Proofs.YteeflilbnoknnaaGreat.fg (v:Int) (pR h (v:Int)).length h)) (n:Int)) with e|e
 .exact e
 .have ⟨i,t,hi,a,o⟩:=uz e;have p:i≠v:=λc=>by rw[c,j] at a;cases a
  have r:t∈kA h i:=by
   unfold kA at a ⊢;rw[k i p] at a;exact a
  have ⟨d,b,D,u⟩:=(l n (v:Int)).1 m;have E:=m5 (q:=λt=>t.2.2==(n:Int)) hi r o;have w:=H.hc.refs b;refine absurd ?_ hb;unfold mj;refine Da.2 ⟨n,n6.2 ⟨d,b,u⟩,?_⟩;rw[jU b];have:d.2.2.1>0:=by rw[w];unfold dH;omega
  simpa using this
theorem HI.R8 (H:HI gh h) {v:Nat} {x:GV} (r:h.g v=some x) (t: ∀n,HM h.s.2 n (v:Int)->dH (kA h) (n:Int)=0): ∀(i:Nat) (d:DT),(bV h.s x.root false).2[i]? =some d->d.1=4->d.2.1=(v:Int)->d=(4,(v:Int),0,0,()):=by
 have ⟨w,z,w1,l1,p⟩:=H.inv.dropped H.rt (H.root r);intro i d f j k;have m:h.s.2[i]? =some d:=by
  by_cases e: ∃l y,gh (i:Int)=some ((v:Int),l,y)
  .rw[(p i).1 e] at f;cases f;exact absurd j (show ¬ (5:Int)=4 by decide)
  .rw[(p i).2 e] at f;exact f
 have ⟨_,q, _⟩:=H.hc.kd m;have o:=H.hc.refs m;rw[t i ⟨d,m,j,k⟩] at o;have ⟨a,b,c,e,u⟩:=d;dsimp only at j q o k;rw[j,q,o,k];rfl
end
open Po (uL)
section
variable {Q:Sys} {X:DX} {D G:List Nat} {w0 w:A2} {h:HS} {T:List (Nat×List AG)} {L0 L1:List (Nat×List AG)} {A:Nat->DG} {g:Nat->Option GV} {s:WD} {gh:Gh}
theorem DM.mono (M:DM Q X A g L0) (a: ∀x∈L0,x∈L1):DM Q X A g L1:=⟨a _ M.hd,a _ M.ls,λi hi x b=>a _ (M.gs i hi x b)⟩
theorem aF.Zc (S:aF Q D G w0 w s L0) (v:Int) {K:Option AE×Nat×Nat->A2->Prop} (k: ∀r rows a,aF Q D G w0 a s (L0++rows)->ia eI rows r ((dL s.2 v).map λi=>((i:Nat):Int))->K r a):
 aA AC 143 di [ah (ae Q.bp),aa v] w K:=by
 have ⟨c,h2,b,d,ca,la,H⟩:=S;exact KG H 3 2 rfl rfl rfl b v λr rows a H e=>k r rows a ⟨c,h2,b,d,ca,la,H⟩ e
theorem aF.abJ {i:Nat} (hi:i<17) {a:DG} {y:Option GV} (S:aF Q D G w0 w s (gf Q a i y++(T++sM Q X A h (eR Q A h.g ((AR 17).erase i))))) {K:A2->Prop}
 (k: ∀b,aF Q D G w0 b s (T++bM Q X (ow A i a) {h with g:=bA h.g i y})->K b):aw w (ad (ae X.lb) (i*1)) [ah (ae a.bg)] K:=by
 have ⟨Z,e⟩: ∃Z,Z=eR Q A h.g ((AR 17).erase i):=⟨_,rfl⟩;have ⟨R,f⟩: ∃R,R=T++(X.hb,Fo Q X)::(X.gb,g7 X.gr h.gr.length X.gc)::(X.gr,flat eG h.gr++X.ml)::(uL X.qb X.ql X.qc X.qr X.gJ 4 h.po++Z):=⟨_,rfl⟩;have l:=yj (Q:=Q) (X:=X) (h:=h) (A:=A) (T:=T) Z;rw[<-f] at l;rw[<-e] at S;have S:aF Q D G w0 w s ((X.lb,bZ A++X.ji)::gf Q a i y++R):=by
  refine S.perm ?_;exact((l.append_left _).trans (by simp)).symm
 have u:(bZ A++X.ji).length>=17:=by unfold bZ;grind
 refine S.oB 0 rfl rfl (by rw[Nat.blt_eq];omega) λb S=>k b ?_;rw[Ar hi] at S;have ⟨A',c⟩: ∃A',A'=ow A i a:=⟨_,rfl⟩;have ⟨h',d⟩: ∃h',h'={h with g:=bA h.g i y}:=⟨_,rfl⟩;have p:A' i=a:=by rw[c];exact rE _ _ _
 have q:h'.g i=y:=by rw[d];exact dZ _ _ _
 have r:eR Q A' h'.g ((AR 17).erase i)=Z:=by rw[e];exact qx λj m=>by rw[c,d];exact⟨ar m,ar m⟩
 have n:=kP (Q:=Q) (X:=X) (h:=h') (A:=A') (T:=T) hi;have o:=yj (Q:=Q) (X:=X) (h:=h') (A:=A') (T:=T) Z;have t:T++(X.hb,Fo Q X)::(X.gb,g7 X.gr h'.gr.length X.gc)::(X.gr,flat eG h'.gr++X.ml)::(uL X.qb X.ql X.qc X.qr X.gJ 4 h'.po++Z)=R:=by rw[f,d]
 rw[t] at o;rw[p,q,r] at n;rw[<-c, <-d];rw[<-c] at S;refine S.perm (n.trans ?_);exact(o.append_left _).trans (by simp)
theorem Vs {ds:List DT} {v:Int} {f:Nat} (h:f∈dL ds v):ds[f]? =some (mH ds (f:Int)):=by
 have ⟨d,a, _⟩:=n6.1 h;rw[jU a,a]
theorem Mf {p:List TK} {t:TK} {l:List TK} (c:p.Pairwise (λa b=>a.1<b.1)) (e:p=t::l) {q:List TK} (k:p.Perm q) (m: ∀u∈q,u.1<65536):vD (q.map (·.1))=t.1:=by
 have d:q.map (·.1)≠[]:=λn=>by
  simp_all
 have f:=zN d (by grind);obtain⟨o,g,r⟩:=uw _ _;have h:t.1∈q.map (·.1):=List.mem_map_of_mem (by grind);have s:vD _<=t.1:=g _ h;obtain⟨u,v,w⟩:=AZ.1 f;have i:u∈t::l:=by grind
 rw[e] at c;rcases List.mem_cons.1 i with rfl|j
 .grind
 .have:=(List.pairwise_cons.1 c).1 u j;omega
theorem EV (W:gS A h) (S:aF Q D G w0 w h.s (T++bM Q X A h)) (I:HI gh h) {a:Int} (ha:0<=a) {K:RS->A2->Prop}
 (kk: ∀A' w2,gS A' (tF h a)->aF Q D G w0 w2 (tF h a).s (T++bM Q X A' (tF h a))->K (FH h a,FG h a,()) w2):
 aA AC 68 (.el (.agg gm)) [ah (ae X.hb),av a] w K:=by
 refine S.go λw1 S=>aQ (C:=nJ) (b_:=pF) (Eq.mpr (EO _ a w1 K) ?_);unfold FG FH tF at kk;refine S.al λb1 w3 S=>?_;have M:=(DM.of Q X A h T).app [(b1,[av 0,aa 0])];refine⟨aV h.g a,λc=>?_,?_⟩
 .have c: ¬ a>16:=by simpa using c
  rw[a9 ⟨ha,by omega⟩];exact m6 M S a
 cases hl:aV h.g a with
 |false=>
  rw[hl,ar (by decide),ar (by decide),ar (by decide)] at kk;exact ax (by simp) (S.res (j:=0) rfl 0 4 λw4 S=>kk A w4 W S.tail)
 |true=>
 rw[hl,az rfl,az rfl,az rfl] at kk;have ⟨x,V,o7,hv,lk,ky⟩:=bK hl;have ea:aB .i64 a=a:=a9 ⟨ha,by omega⟩;refine an (by rw[decide_eq_false (by omega)];rfl) ⟨rfl,rfl,ag.of _ (M.rp S) ?_⟩;rw[ea];refine S.Zc a λr rows w4 S kY=>?_;have M2:DM Q X A h.g (((b1,[av 0,aa 0])::(T++bM Q X A h))++rows):=M.mono λx V=>B1 _ V;have hlen:(dL h.s.2 a).length<=4096:=Nat.le_trans (zM _ _) S.le;have ⟨xp,xn,xc⟩:=r;have Fl:xn=(dL h.s.2 a).length:=by have:=kY.1;rw[Dt] at this;exact this
 subst Fl;refine⟨λn q w'=> ∃m:Nat,q.1=(m:Int)/\n+m=(dL h.s.2 a).length/\(∀i,i<m-> ∀f,(dL h.s.2 a)[i]? =some f-> ¬ (mH h.s.2 (f:Int)).2.2.1>0)/\aF Q D G w0 w' h.s (((b1,[av 0,aa 0])::(T++bM Q X A h))++rows),⟨(dL h.s.2 a).length,λw5 h5=>⟨0,rfl,rfl,λi hi=>absurd hi (H2 i),S.ext h5⟩⟩,?_⟩;clear S;rintro n ⟨q,u⟩ w5 ⟨m,Y,MB,vv,S⟩;dsimp only at Y ⊢;subst Y;refine ab (λk=>?_) (λk=>?_)
 .have F:m<(dL h.s.2 a).length:=by simpa using k
  have ⟨f,Mt⟩: ∃f,f=(dL h.s.2 a)[m]:=⟨_,rfl⟩;have N:(dL h.s.2 a)[m]? =some f:=by rw[Mt];exact B4 F
  have A1:((dL h.s.2 a).map λi=>((i:Nat):Int))[m]? =some ((f:Nat):Int):=by rw[Ff,N];rfl
  have ke:=(S.XE kY (λx V=>B2 _ V)) m _ A1;have hd:=Vs (DB N);have EZ:=(Du.1 hd).1;refine⟨rfl,rfl,ag.of _ (M2.rp S) ⟨rfl,rfl,ag.of _ S.Fb ⟨⟨ke.1,by omega,by omega⟩,ag.of _ ke.2 ⟨⟨rfl,by omega,by show(f:Int)<(h.s.2.length:Int);omega⟩,rfl,ag.of (mH h.s.2 (f:Int)).2.2.1 (by rw[Ct];exact S.rdK hd (by decide) rfl) ?_⟩⟩⟩⟩;refine ab (λo=>S.res (j:=0) rfl 0 9 λw8 S=>?_) (λo=>λw8 h8=>⟨n - 1,by omega,m+1,?_,by omega,λi hi g E=>?_,S.ext h8⟩)
  .have o:(mH h.s.2 (f:Int)).2.2.1>0:=by simpa using o
   have hb:mj h.s.2 a=true:=by
    unfold mj;exact Da.2 ⟨f,DB N,by simpa using o⟩
   rw[hb,az rfl,az rfl,az rfl] at kk;exact kk A w8 W (S.tail.sub (Df _ _))
  .rw[ao (by omega) (by omega)];omega
  .by_cases e:i=m
   .subst e;rw[N] at E;cases E;simpa using o
   .exact vv i (by omega) g E
 have F: ¬ m<(dL h.s.2 a).length:=by simpa using k
 have hb: ¬ mj h.s.2 a=true:=by
  unfold mj;rw[Da];rintro⟨f,N,hd⟩;have ⟨i,hi⟩:=List.getElem?_of_mem N;have:i<(dL h.s.2 a).length:=(Du.1 hi).1;exact vv i (by omega) f hi (by simpa using hd)
 rw[ar hb,ar hb,ar hb] at kk;have S:aF Q D G w0 w5 h.s ((b1,[av 0,aa 0])::(T++bM Q X A h)):=S.sub (Df _ rows);clear vv MB kY k F M2;refine⟨λn _ w'=> ∃(B:Nat->DG) (h':HS) (iE:Gh),HI iE h'/\fg a n h'=fg a (pR h a).length h/\(pR h' a).length=n/\aV h'.g a=true/\gS B h'/\aF Q D G w0 w' h'.s ((b1,[av 0,aa 0])::(T++bM Q X B h')),⟨(pR h a).length,λw6 h6=>⟨A,h,gh,I,rfl,rfl,hl,W,S.ext h6⟩⟩,?_⟩;clear S;rintro n u w6 ⟨B,h',iE,L,E,hn,O,U,S⟩;have M':=(DM.of Q X B h' T).app [(b1,[av 0,aa 0])];have ⟨p,z,FI,Zq, _, _⟩:=bK O;have xQ:a.toNat<17:=by omega
 have j_:pR h' a=p.tk:=by unfold pR;rw[z]
 have ⟨t1,t2,t3⟩:=U.tk z;have sC:(B a.toNat).tk.length=n:=by rw[t1.length_eq, <-j_];exact hn
 have wF:(B a.toNat).ts.2.1=n:=by rw[t3.1,Dt];exact sC
 unfold j9;rw[ea];refine⟨rfl,rfl,M'.VP S lk ky z ?_⟩;rw[wF];refine ab (λk=>?_) (λk=>?_)
 .have k:0<n:=by
   have:=of_decide_eq_true k;omega
  have ⟨t,l,hp⟩: ∃t l,(B a.toNat).tk=t::l:=by
   cases hB:(B a.toNat).tk with
   |nil=>rw[hB] at sC;simp at sC;omega
   |cons t l=>exact⟨t,l,rfl⟩
  have h0:(B a.toNat).tk[0]? =some t:=by rw[hp];rfl
  have ⟨r1,r2⟩:=(S.ZJ t3 (M'.rows (i:=a.toNat) (by omega) z)) 0 (tT t) (by rw[Ff,h0];rfl);have htm:t∈p.tk:=t1.mem_iff.1 (by rw[hp];exact C9);have htr:=L.tkR z t htm;have kU:(p.tk.map (·.1)).Nodup:=(t1.map _).nodup_iff.1 (jC t2);have rU:bU p.tk t.1=some t.2:=(iO (a:=t.2.1) (b:=t.2.2) kU).2 htm;have hX:vr h' a t.1=t.2:=by unfold vr;rw[z];dsimp only;rw[rU];rfl
  have Cr:vD ((pR h' a).map (·.1))=t.1:=by
   rw[j_];exact Mf t2 hp t1 λu hu=>(L.tkR z u hu).2
  have Jd:wG a h'=dB h' a t.1 t.2.1 t.2.2:=by
   unfold wG;rw[Cr,hX]
  have hB:fq h' a t.1=true:=(n5 O z).2 (by rw[hX];exact rU);have hbk:fU h' a t.1=wG a h':=by
   unfold fU;rw[ar (by omega),az hB,hX,Jd]
  refine⟨rfl,rfl,M'.VP S lk ky z ⟨⟨r1,Int.le_refl _,by rw[wF];omega⟩,kJ r1 _,ag.of t.1 (jl r2 (by decide) rfl) ?_⟩⟩;rw[cN (by omega)];refine Ey (T:= _::T) U S L O htr.1 λB' w8 _ W'' S=>λw9 h9=>⟨n - 1,by omega,B',fU h' a t.1,?_⟩;have ⟨gh2,I2⟩:=L.back O t.1;refine⟨gh2,I2,?_,?_,?_,W'',S.ext h9⟩
  .rw[hbk, <-E];obtain⟨m,rfl⟩: ∃m,n=m+1:=⟨n - 1,by omega⟩;rfl
  .rw[hbk,Jd,zL,j_];have e1:(p.tk.filter λu=> !(u.1==t.1)).Perm ((B a.toNat).tk.filter λu=> !(u.1==t.1)):=(t1.filter _).symm;rw[e1.length_eq, <-erase_filter (jC t2) h0,List.length_eraseIdx,az (by omega)];omega
  .rw[hbk,Jd,te];exact O
 have SL:n=0:=by
  have:=of_decide_eq_false k;omega
 subst SL;have E:h'=fg a (pR h a).length h:=E;have hz: ∀n,HM h'.s.2 n a->dH (kA h') (n:Int)=0:=by
  rw[E];have:=I.Me (v:=a.toNat) ⟨x,V⟩ (by rw[hv];exact hb);rw[hv] at this;exact this
 rw[<-E] at kk;have yB:=L.R8 (v:=a.toNat) z (by rw[hv];exact hz);rw[hv] at yB;clear E;refine⟨rfl,rfl,ag.of _ (M'.rg S) (aF.Za (T:= _::T) S U a λn2 w8 S=>?_)⟩;have W2:gS B (cY h' (bY h'.gr a)):=U.cY (BO _ _) (U.gk.drop _);have M2:=(DM.of Q X B (cY h' (bY h'.gr a)) T).app [(b1,[av 0,aa 0])];refine⟨rfl,rfl,ag.of _ (M2.rq S) ?_⟩;have ⟨R,H,J⟩:=aF.po (h:=cY h' (bY h'.gr a)) (T:= _::T) S;refine Po.Rq H W2.pt a λw9 H=>?_;have S:=J H;have ⟨h2,hh2⟩: ∃h2:HS,h2=kr (cY h' (bY h'.gr a)) (Po.bV 4 h'.po a).2:=⟨_,rfl⟩;have S:aF Q D G w0 w9 h'.s ((b1,[av 0,aa 0])::(T++bM Q X B h2)):=by rw[hh2];exact S
 have hg2:h2.g=h'.g:=by rw[hh2];rfl
 have W3:gS B h2:=by rw[hh2];exact W2.kr (Po.D_ U.pt a)
 have M3:=(DM.of Q X B h2 T).app [(b1,[av 0,aa 0])];have Cb:h2.g a.toNat=some p:=by rw[hg2];exact z
 refine⟨rfl,rfl,M3.gt S lk ky Cb ?_⟩;have P:=kP (Q:=Q) (X:=X) (h:=h2) (A:=B) (T:=(b1,[av 0,aa 0])::T) xQ;rw[Cb] at P;have S:=S.perm P.symm;have hj:(gf Q (B a.toNat) a.toNat (some p)++((b1,[av 0,aa 0])::T++sM Q X B h2 (eR Q B h2.g ((AR 17).erase a.toNat))))[1]? =some ((B a.toNat).bt,iV Q a p.root false):=by
  show some ((B a.toNat).bt,iV Q ((a.toNat:Nat):Int) p.root false)= _;rw[hv]
 refine S.abG 1 hj (g:=iE) (λ_=>⟨L.inv,by rw[<-FI];exact L.Bh O⟩) λy Ls np _ S=>?_;have ⟨s1,EX⟩: ∃s1,s1=bV h'.s p.root false:=⟨_,rfl⟩;rw[<-EX] at S yB;have ⟨Z,hZ⟩: ∃Z,Z=T++sM Q X B h2 (eR Q B h2.g ((AR 17).erase a.toNat)):=⟨_,rfl⟩;have S:aF Q D G w0 np s1 ((b1,[av 0,aa 0])::Z):=by
  have S:=S.sub (Df _ Ls);have S:aF Q D G w0 np s1 (((B a.toNat).bg,Jq (B a.toNat) (some p))::((B a.toNat).bt,iV Q a p.root true)::((B a.toNat).rows++((b1,[av 0,aa 0])::T++sM Q X B h2 (eR Q B h2.g ((AR 17).erase a.toNat))))):=S;rw[hZ];exact S.tail.tail.sub (Dx _ _)
 have hhd:(X.hb,Fo Q X)∈(b1,[av 0,aa 0])::Z:=by rw[hZ];exact C7 _ (B2 _ C9)
 have acX:s1.2.length<=4096:=S.le;have hTZ:=Zb ⟨lk,ky⟩ yB;have ⟨R2,hR2⟩: ∃R2,R2=yG s1.2 a:=⟨_,rfl⟩;have SG:r8 h' a={s:=(s1.1,R2.1),g:=bA h'.g a.toNat none,gr:=bY h'.gr a,po:=(Po.bV 4 h'.po a).2}:=by
  unfold r8;rw[FI, <-EX,hR2]
 rw[FI, <-EX, <-hR2,SG] at kk;rw[<-hR2] at hTZ;refine⟨λn q w'=> ∃(m:Nat) (ds:List DT),q.2.1=(m:Int)/\n+m=s1.2.length/\ds.length=s1.2.length/\(0<=q.1/\q.1<=m)/\(AR m).foldl (tZ a) (s1.2,0)=(ds,q.1)/\aF Q D G w0 w' (s1.1,ds) ((b1,[av 0,aa 0])::Z),⟨s1.2.length,λrX MH=>⟨0,s1.2,rfl,rfl,rfl,⟨by decide,by decide⟩,rfl,S.ext MH⟩⟩,?_⟩;clear S;rintro n ⟨cnt,q,u⟩ rX ⟨m,ds,Y,MB,Zy,hcm,mS,S⟩;dsimp only at Y hcm mS ⊢;subst Y;have rp: ∀{w:A2} {ds:List DT},aF Q D G w0 w (s1.1,ds) ((b1,[av 0,aa 0])::Z)->bP w (ad (ae X.hb) 1) bF (ae Q.bp):=λS=>HP (S.bk hhd) rfl;have rl: ∀{w:A2} {ds:List DT},aF Q D G w0 w (s1.1,ds) ((b1,[av 0,aa 0])::Z)->bP w (ad (ae X.hb) 4) bX (some ⟨X.lb,0,none⟩,17,X.lc):=λS=>HP (S.bk hhd) rfl;refine⟨rfl,rfl,ag.of _ (rp S) ⟨rfl,rfl,ag.of _ S.Fb ?_⟩⟩;dsimp only;refine ab (λk=>?_) (λk=>?_)
 .have F:m<ds.length:=by have:=of_decide_eq_true k;omega
  have hd:ds[m]? =some (mH ds (m:Int)):=by
   have e:=B4 F;rw[jU e,e]
  have ⟨d,Xg⟩: ∃d,d=mH ds (m:Int):=⟨_,rfl⟩;rw[<-Xg] at hd;have hbd:(some (⟨Q.bf,0,none⟩:AE)).isSome=true/\0<=(m:Int)/\(m:Int)<((ds.length:Nat):Int):=⟨rfl,by omega,by omega⟩;have em:ay .i64 (m:Int) 1=((m+1:Nat):Int):=by rw[ao (by omega) (by omega)];rfl
  have ec:ay .i64 cnt 1=cnt+1:=ao (by omega) (by omega);rw[em,ec];have f1:=aF.rdK S (i:=m) hd (f:=1) (y:=d.2.1) (by decide) rfl;have f0:=aF.rdK S (i:=m) hd (f:=0) (y:=d.1) (by decide) rfl;refine⟨rfl,rfl,ag.of _ (rp S) ⟨rfl,rfl,ag.of _ S.Fb ⟨hbd,rfl,ag.of d.2.1 f1 ⟨λ_=>rfl,λ_=>rfl,ag.of _ (rp S) ⟨λ_=>rfl,λ_=>rfl,ag.of _ S.Fb ⟨λ_=>hbd,λ_=>rfl,ag.of d.1 f0 ?_⟩⟩⟩⟩⟩⟩;refine ab (λo=>⟨rfl,rfl,ag.of _ (rp S) (S.Ib (m:Int) 5 0 λMp S=>λMq Xb=>⟨n - 1,by omega,m+1,eC ds (m:Int) (aI 5 0),rfl,by omega,?_,⟨by omega,by omega⟩,?_,S.ext Xb⟩)⟩) (λo=>λMq Xb=>⟨n - 1,by omega,m+1,ds,rfl,by omega,Zy,⟨by omega,by omega⟩,?_,S.ext Xb⟩)
  .rw[dY];exact Zy
  .have o:d.2.1=a/\d.1=4:=by simpa using o
   rw[Dl,Fh,mS];exact az (by rw[<-Xg];exact o)
  .have o: ¬ (d.2.1=a/\d.1=4):=by
    intro e;have:(d.2.1==a&&d.1==4)=true:=by simpa using e
    exact absurd (this.symm.trans o) (by decide)
   rw[Dl,Fh,mS];exact ar (by rw[<-Xg];exact o)
 have F:m=s1.2.length:=by
  have:=of_decide_eq_false k;omega
 subst F;rw[hTZ] at mS;rw[mS] at kk;refine⟨rfl,rfl,ag.of _ (rl S) (S.al λbg E7 S=>⟨⟨rfl,by omega,by show a<((17:Nat):Int);omega⟩,?_⟩)⟩;have S:aF Q D G w0 E7 (s1.1,ds) (gf Q ⟨bg,0,(none,0,0),[],[]⟩ a.toNat none++((b1,[av 0,aa 0])::T++sM Q X B h2 (eR Q B h2.g ((AR 17).erase a.toNat)))):=by
  rw[hZ] at S;exact S
 refine aF.abJ (T:=(b1,[av 0,aa 0])::T) (a:=⟨bg,0,(none,0,0),[],[]⟩) (y:=none) xQ S λFi S=>?_;rw[cN ⟨by omega,by omega⟩];have W4:=gS.lr (a:=⟨bg,0,(none,0,0),[],[]⟩) (y:=none) (W3.bz (s1.1,ds)) (i:=a.toNat) (by omega) λv hv=>by cases hv
 rw[hh2] at W4 S;exact aF.res (j:=0) S rfl _ _ λMp S=>kk (ow B a.toNat ⟨bg,0,(none,0,0),[],[]⟩) Mp W4 S.tail
end
theorem acG {ws:List Int} {i:Int} (h:vy ws i≠0):eY ws i=0:=by
 unfold vy at h;unfold eY;by_cases e:oX ws i=true
 .rw[az e] at h;exact absurd rfl h
 .rw[ar e]
theorem abK {ps:List Po.PT} {g:Int} {x:Po.PT} (h:(Po.dx 4 ps g x).1.2≠0):(Po.dx 4 ps g x).1.1=0:=by
 unfold Po.dx at h ⊢;split
 .rfl
 .rename_i e;rw[ar e] at h;exact absurd rfl h
theorem Zd {ps:List Po.PT} {g r:Int} (h:(Po.dU 4 ps g r).1.2≠0):(Po.dU 4 ps g r).1.1=0:=by
 unfold Po.dU at h ⊢;split
 .rename_i e;rw[az e] at h;exact abK h
 .rfl
theorem Ze {ps:List Po.PT} {g r i:Int} (h:(Po.dA 4 ps g r i).1.2≠0):(Po.dA 4 ps g r i).1.1=0:=by
 unfold Po.dA at h ⊢;split
 .rename_i e;rw[az e] at h;split
  .rfl
  .rename_i k a;rw[a] at h;dsimp only at h ⊢;split
   .rfl
   .rename_i b;rw[ar b] at h;split
    .rfl
    .rename_i c;rw[ar c] at h;split
     .rfl
     .rename_i d;rw[ar d] at h;exact absurd rfl h
 .rfl
theorem abL {h:HS} {v k a b c:Int} (g:2<=k/\k<=17) (d:(run h v k a b c).2.2≠0):(run h v k a b c).2.1=0:=by
 have:k=2\/k=3\/k=4\/k=5\/k=6\/k=7\/k=8\/k=9\/k=10\/k=11\/k=12\/k=13\/k=14\/k=15\/k=16\/k=17:=by omega
 rcases this with rfl|rfl|rfl|rfl|rfl|rfl|rfl|rfl|rfl|rfl|rfl|rfl|rfl|rfl|rfl|rfl
 .have d:FG h a≠0:=d;show FH h a=0;unfold FG at d;unfold FH;split
  .rename_i e;rw[az e] at d;split
   .rfl
   .rename_i f;rw[ar f] at d;exact absurd rfl d
  .rfl
 .have d:(mK h v a b).2≠0:=d;show(mK h v a b).1=0;unfold mK at d ⊢;split
  .rename_i e;rw[az e] at d;exact absurd rfl d
  .rfl
 .have d:(rN h v a).2≠0:=d;show(rN h v a).1=0;unfold rN at d ⊢;split
  .rename_i e;rw[az e] at d;exact absurd rfl d
  .rfl
 .rfl
 .have d:(rZ h v a).2≠0:=d;show(rZ h v a).1=0;unfold rZ at d ⊢;split
  .rfl
  .rename_i e;rw[ar e] at d;exact acG d
 .rfl
 .have d:(lz h v a b c).2≠0:=d;show(lz h v a b c).1=0;unfold lz at d ⊢;split
  .rename_i e;rw[az e] at d;show gU h.gr v a b=0;unfold gU;rw[ar d]
  .rfl
 .rfl
 .rfl
 .rfl
 .have d:(lI h v a).2≠0:=d;show(lI h v a).1=0;unfold lI at d ⊢;split
  .rename_i e;rw[az e] at d;exact Zd d
  .rfl
 .have d:(lJ h v a b).2≠0:=d;show(lJ h v a b).1=0;unfold lJ at d ⊢;split
  .rfl
  .rename_i e;rw[ar e] at d;split
   .rename_i f;rw[az f] at d;exact Ze d
   .rfl
 .rfl
 .exact absurd rfl d
 .rfl
 .exact absurd rfl d
section
variable {Q:Sys} {X:DX} {G:List Nat} {w0 w:A2} {h:HS} {T:List (Nat×List AG)} {A:Nat->DG} {gh:Gh}
theorem Zf (W:gS A h) (S:aF Q [] G w0 w h.s (T++bM Q X A h)) (I:HI gh h) (v k:Int) {a b c:Int} (o:0<=a/\a<18446744073709551616) (hb:0<=b/\b<18446744073709551616) (hc:0<=c/\c<18446744073709551616) {K:RS->A2->Prop}
 (kk: ∀A' n,gS A' (AB h v k a b c)->aF Q [] G w0 n (AB h v k a b c).s (T++bM Q X A' (AB h v k a b c))->K (ML h v k a b c,MK h v k a b c,()) n):
 aA AC 10 (.el (.agg gm)) [ah (ae X.hb),aa v,.agg ⟨eO k a b c⟩] w K:=by
 refine S.go λw1 S=>aQ (C:=nJ) (Eq.mpr (Y8 _ v k a b c w1 K) ?_);unfold MK ML AB at kk;refine S.al λy n S=>S.al λb1 F S=>?_;have M:=(DM.of Q X A h T).app [(b1,[av 0,aa 0]),(y,eO k a b c)];have r: ∀e,e≠0->qe h v k a b c=e-> ∀{n:A2} {x:List AG},aF Q [] G w0 n h.s ((b1,x)::(y,eO k a b c)::(T++bM Q X A h))->K (0,e,()) n:=λe t z n x S=>by
  rw[z,ar t,ar t,ar t] at kk;exact kk A n W S.tail.tail
 have p:qe h v k a b c=if(decide (v<0)||decide (v>16)|| !iq k a b c)=true then 1 else if(!(v==0)==xP k)=true then 7 else if(decide (v>0)&& !aV h.g v)=true then 4 else 0:=rfl;refine S.ld 1 rfl (show _=some (k,a,b,c,()) from rfl) ⟨iq k a b c,λ_=>RV k a b c,?_⟩;refine ab (λd=>S.res (j:=0) rfl 0 1 λm S=>?_) (λd=>⟨rfl,S.a_ 1 rfl rfl ⟨xP k,Y_ k,?_⟩⟩)
 .rw[az d] at p;exact r 1 (by decide) p S
 rw[ar (by rw[d];decide)] at p;refine ab (λd=>S.res (j:=0) rfl 0 7 λm S=>?_) (λd=>⟨aV h.g v,λ_=>m6 M S v,?_⟩)
 .rw[az d] at p;exact r 7 (by decide) p S
 rw[ar (by rw[d];decide)] at p;refine ab (λd=>S.res (j:=0) rfl 0 4 λm S=>?_) (λd=>⟨rfl,S.a_ 1 rfl rfl ?_⟩)
 .rw[az d] at p;exact r 4 (by decide) p S
 rw[ar (by rw[d];decide)] at p;rw[p,az rfl,az rfl,az rfl] at kk;have ⟨B,q,u⟩:=On p;have l:2<=k-> ∀A' n,gS A' (run h v k a b c).1->aF Q [] G w0 n (run h v k a b c).1.s (T++bM Q X A' (run h v k a b c).1)->K ((run h v k a b c).2.1,(run h v k a b c).2.2,()) n:=λh2 A' n i D=>by
  have e:(if(run h v k a b c).2.2=0 then(run h v k a b c).2.1 else 0)=(run h v k a b c).2.1:=by
   split
   .rfl
   .rename_i e;exact(abL ⟨h2,B.2⟩ e).symm
  rw[<-e];exact kk A' n i D
 have:k=1\/k=2\/k=3\/k=4\/k=5\/k=6\/k=7\/k=8\/k=9\/k=10\/k=11\/k=12\/k=13\/k=14\/k=15\/k=16\/k=17:=by omega
 rcases this with rfl|rfl|rfl|rfl|rfl|rfl|rfl|rfl|rfl|rfl|rfl|rfl|rfl|rfl|rfl|rfl|rfl
 all_goals repeat (first|refine ax rfl ?_|refine an rfl ?_)
 .refine Hv (T:= _:: _::T) W S (by rw[I.sz];omega) λA' m i S=>S.res (j:=0) rfl _ _ λf S=>kk A' f i S.tail.tail
 .refine⟨rfl,S.a_ 1 rfl rfl (EV (T:= _:: _::T) W S I o.1 λA' m i S=>S.res (j:=0) rfl _ _ λf S=>l (by decide) A' f i S.tail.tail)⟩
 .exact S.ld 1 rfl (show _=some (_,a,b,c,()) from rfl) (zT (T:= _:: _::T) W S I (q rfl) (.inl rfl) o.1 hb λm i S=>S.res (j:=0) rfl _ _ λf S=>l (by decide) A f i S.tail.tail)
 .exact S.ld 1 rfl (show _=some (_,a,b,c,()) from rfl) (zT (T:= _:: _::T) W S I (q rfl) (.inr (.inl rfl)) o.1 hb λm i S=>S.res (j:=0) rfl _ _ λf S=>l (by decide) A f i S.tail.tail)
 .exact S.ld 1 rfl (show _=some (_,a,b,c,()) from rfl) (zT (T:= _:: _::T) W S I (q rfl) (.inr (.inr rfl)) o.1 hb λm i S=>S.res (j:=0) rfl _ _ λf S=>l (by decide) A f i S.tail.tail)
 .exact⟨rfl,S.a_ 1 rfl rfl (RZ M S v o.1 λm S=>S.res (j:=0) rfl _ _ λf S=>l (by decide) A f W S.tail.tail)⟩
 .refine⟨rfl,S.a_ 1 rfl rfl ⟨rfl,S.a_ 1 rfl rfl (L8 M S v o.1 hb λm S=>S.res (j:=0) rfl _ _ λf S=>l (by decide) A f ?_ ?_)⟩⟩
  .show gS A (iY h v a b);unfold iY;split
   .exact W
   .exact W.bz _
  .have S:=S.tail.tail;have e:bM Q X A (iY h v a b)=bM Q X A h:=by unfold iY;split<;>rfl
   show aF Q [] G w0 f (iY h v a b).s (T++bM Q X A (iY h v a b));rw[e];exact S
 .exact S.ld 1 rfl (show _=some (_,a,b,c,()) from rfl) (Ma (T:= _:: _::T) W S I (q rfl) _ o.1 hb.1 hc.1 λm i S=>S.res (j:=0) rfl _ _ λf S=>l (by decide) A f i S.tail.tail)
 .exact S.ld 1 rfl (show _=some (_,a,b,c,()) from rfl) (R7 (T:= _:: _::T) W S I (q rfl) _ o.1 hb.1 hc.1 λA' m i S=>S.res (j:=0) rfl _ _ λf S=>l (by decide) A' f i S.tail.tail)
 .exact⟨rfl,S.a_ 1 rfl rfl (Ey (T:= _:: _::T) W S I (q rfl) o.1 λA' m _ i S=>S.res (j:=0) rfl _ _ λf S=>l (by decide) A' f i S.tail.tail)⟩
 .have l: ∀A' n,gS A' (jY h v a)->aF Q [] G w0 n (jY h v a).s (T++bM Q X A' (jY h v a))->K (0,tW h v a,()) n:=l (by decide);unfold tW jY at l;refine⟨rfl,S.a_ 1 rfl rfl (ab (λd=>S.res (j:=0) rfl 0 1 λm S=>?_) (λd=>⟨rfl,rfl,ag.of _ (M.rg S) ⟨rfl,S.a_ 1 rfl rfl ?_⟩⟩))⟩
  .have d:a>=16:=by have:=of_decide_eq_true d;omega
   rw[az d,az d] at l;exact l A m W S.tail.tail
  .have d: ¬ a>=16:=by have:=of_decide_eq_false d;omega
   rw[ar d,ar d] at l;rw[a9 ⟨o.1,by omega⟩];exact aF.abI (T:= _:: _::T) S W a v λm S=>S.res (j:=0) rfl 0 _ λf S=>l A f (W.cY (qo _ _ _) (W.gk.rev _ _)) S.tail.tail
 .have E:b=0:=by
   unfold iq at u;simp only[FJ,H4,decide_eq_true_eq,beq_iff_eq] at u;exact u.2.2.1.resolve_left (by decide)
  exact S.ld 1 rfl (show _=some (_,a,b,c,()) from rfl) (oe (T:= _:: _::T) W S v (.inl ⟨rfl,E⟩) o.1 hb.1 λm i S=>S.res (j:=0) rfl _ _ λf S=>l (by decide) A f i S.tail.tail)
 .exact S.ld 1 rfl (show _=some (_,a,b,c,()) from rfl) (oe (T:= _:: _::T) W S v (.inr (.inl rfl)) o.1 hb.1 λm i S=>S.res (j:=0) rfl _ _ λf S=>l (by decide) A f i S.tail.tail)
 .exact S.ld 1 rfl (show _=some (_,a,b,c,()) from rfl) (oe (T:= _:: _::T) W S v (.inr (.inr (.inl rfl))) o.1 hb.1 λm i S=>S.res (j:=0) rfl _ _ λf S=>l (by decide) A f i S.tail.tail)
 .exact S.ld 1 rfl (show _=some (_,a,b,c,()) from rfl) (oe (T:= _:: _::T) W S v (.inr (.inr (.inr (.inl rfl)))) o.1 hb.1 λm i S=>S.res (j:=0) rfl _ _ λf S=>l (by decide) A f i S.tail.tail)
 .exact S.ld 1 rfl (show _=some (_,a,b,c,()) from rfl) (oe (T:= _:: _::T) W S v (.inr (.inr (.inr (.inr rfl)))) o.1 hb.1 λm i S=>S.res (j:=0) rfl _ _ λf S=>l (by decide) A f i S.tail.tail)
 .exact L7 M S λm S=>S.res (j:=0) rfl _ _ λf S=>l (by decide) A f (W.bz _) S.tail.tail
end
open Po (uL)
abbrev ePt:El:= .one .ptr
def MN (bg:Nat->Nat) (i:Nat):List (Option AE):=(AR i).map λj=>some ⟨bg j,0,none⟩
def mT (bg:Nat->Nat) (i:Nat):List (Nat×List AG):=(AR i).map λj=>(bg j,[ah none,.slice none 0 0,.bool false])
theorem R9 (bg:Nat->Nat) (i:Nat):MN bg (i+1)=MN bg i++[some ⟨bg i,0,none⟩]:=by unfold MN;rw[Dl,DC];rfl
theorem Hw (bg:Nat->Nat) (i:Nat):mT bg (i+1)=mT bg i++[(bg i,[ah none,.slice none 0 0,.bool false])]:=by unfold mT;rw[Dl,DC];rfl
theorem Vt (bg:Nat->Nat) (i b:Nat):MN (λj=>if j=i then b else bg j) i=MN bg i:=by
 unfold MN;refine Fk λj a=>?_;have:=Fm.1 a;dsimp only;rw[ar (by omega)]
theorem Mg (bg:Nat->Nat) (i b:Nat):mT (λj=>if j=i then b else bg j) i=mT bg i:=by
 unfold mT;refine Fk λj a=>?_;have:=Fm.1 a;dsimp only;rw[ar (by omega)]
theorem Wj: ∀l:List (Option AE),flat ePt l=l.map Value.pointer
 |[]=>rfl
 |x::l=>by
  rw[List.map_cons, <-Wj l];rfl
theorem acH {α:Type} (hb lb gb gr bp bf bm bw:α) (rows L U:List α):(bm::bw::bf::bp::(L++(hb::lb::gb::gr::(U++rows)))).Perm (hb::lb::(rows++(gb::gr::bp::bf::bm::bw::(L++U)))):=by
 have a:(bm::bw::bf::bp::(L++(hb::lb::gb::gr::(U++rows)))).Perm ([bm,bw,bf,bp,hb,lb,gb,gr]++(L++(U++rows))):=
  List.Perm.append_left [bm,bw,bf,bp] (E4 L [hb,lb,gb,gr] (U++rows))
 have b:([bm,bw,bf,bp,hb,lb,gb,gr]++(L++(U++rows))).Perm ([hb,lb,gb,gr,bp,bf,bm,bw]++(L++(U++rows))):=by
  refine List.Perm.append_right _ ?_;exact(show([6,7,5,4,0,1,2,3]:List Nat).Perm [0,1,2,3,4,5,6,7] by decide).map λi=>([hb,lb,gb,gr,bp,bf,bm,bw]:List α).getD i hb
 have c:(hb::lb::(rows++(gb::gr::bp::bf::bm::bw::(L++U)))).Perm ([hb,lb,gb,gr,bp,bf,bm,bw]++(L++(U++rows))):=by
  have:(rows++([gb,gr,bp,bf,bm,bw]++(L++U))).Perm ([gb,gr,bp,bf,bm,bw]++(L++(U++rows))):=by
   refine E5.trans ?_;rw[B5,B5]
  exact(this.cons lb).cons hb
 exact(a.trans b).trans c.symm
section
variable {D G:List Nat} {w0 w:A2} {L:List (Nat×List AG)}
theorem Vu (H:aJ D G w0 w L) (n:Int) {K:Option AE×Int×Unit->A2->Prop} (I:n<4\/n>4096-> ∀b w1,aJ D G w0 w1 ((b,[ah none,ah none,ah none,ah none,.slice none 0 0])::L)->K (some ⟨b,0,none⟩,1,()) w1)
 (J:4<=n->n<=4096-> ∀Q X w1,Q.c=16*n.toNat->DAt Q X D G w0 w1 (h0 n.toNat) L->K (some ⟨X.hb,0,none⟩,0,()) w1):
 aA AC 7 (.bu [bF,aq]) [aa n] w K:=by
 refine aA.go H λw1 H=>aj (C:=nJ) (b_:=xC) (Eq.mpr (Vp n w1 K) ?_);refine aH.go H λb w2 H=>ab (λc=>ak.go H λl H=>I (by simpa using c) b l H) (λc=>?_);have o:4<=n/\n<=4096:=by
  simp only[H5,decide_eq_false_iff_not] at c;omega
 obtain⟨m,rfl⟩: ∃m:Nat,n=(m:Int):=⟨n.toNat,by omega⟩;have e:dk .i64 16 (m:Int)=((16*m:Nat):Int):=by rw[da (by omega) (by omega)];omega
 rw[e];refine TJ (n:=16*m) H (by omega) λbm bw l H=>?_;generalize p:AT (16*m) (0:Int)=W at H;refine Qu H (m:Int) (λhb=>by omega) λ_ _ bp bf w5 H=>?_;rw[show((m:Int)).toNat=m from rfl] at H;generalize r:AT m zD=t at H;refine RR H 16 (by decide) λgb gr w7 H=>?_;have ⟨a,v⟩: ∃a,a=AT 16 zG:=⟨_,rfl⟩;rw[<-v] at H;refine Po.U_ H 4 (λhb=>by omega) λ_ _ qb ql qc qr gJ w9 H=>?_;have ⟨d,y⟩: ∃d,d=uL qb ql qc qr gJ 4 Po.k0:=⟨_,rfl⟩;rw[<-y] at H;refine⟨rfl,rfl,aw.c_ 6 H rfl rfl rfl λnp H=>⟨rfl,rfl,aw.c_ 6 H rfl rfl rfl λl6 H=>⟨rfl,rfl,aw.c_ 6 H rfl rfl rfl λrX H=>⟨rfl,rfl,aw.c_ 6 H rfl rfl rfl λM H=>?_⟩⟩⟩⟩;have ⟨R,z⟩: ∃R:List (Nat×List AG),R=(gb,g7 gr a.length 16)::(gr,flat eG a++[])::(bp,[.slice (ae bf) m m])::(bf,flat eD t++[])::(bm,gi bw (16*m) (16*m) 0 0)::(bw,flat eW W++[])::(L++d):=⟨_,rfl⟩;have H:aJ D G w0 M ((b,[ah (ae bm),ah (ae bp),ah (ae gb),ah (ae qb),.slice none 0 0])::R):=by
  rw[z];exact H.perm (FA (l₁:=[_, _, _, _, _, _])).symm
 refine⟨λq s w'=> ∃(i:Nat) (bg:Nat->Nat) (Ls:List (Nat×List AG)) (sl:Option AE×Nat×Nat),s.1=(i:Int)/\q+i=17/\vz ePt sl (MN bg i) Ls/\
  aJ D G w0 w' ((b,[ah (ae bm),ah (ae bp),ah (ae gb),ah (ae qb),.slice sl.1 sl.2.1 sl.2.2])::(Ls++(mT bg i++R))),⟨17,λN O=>⟨0,λ_=>0,[],(none,0,0),rfl,rfl,vz.nil ePt,H.ext O⟩⟩,?_⟩
 clear H;rintro q ⟨i',u⟩ N ⟨i,bg,Ls,sl,hi,hq,A,H⟩;dsimp only at hi ⊢;subst hi;have B:(MN bg i).length=i:=by unfold MN;rw[Dt,List.length_range]
 refine ab (λf=>?_) (λf=>ak.go H λg H=>?_)
 .have E:i<17:=by have:=of_decide_eq_true f;omega
  refine⟨rfl,rfl,ag.bj 0 H rfl rfl (aH.go H λb1 g H=>aH.go H λb2 Mq H=>λw17 P=>?_)⟩;have H:=H.ext P;have S:=H.get (i:=0) rfl;have H:=H.perm (L':=Ls++([(b2,[ah (ae b1)]),(b1,[ah none,.slice none 0 0,.bool false]),(b,[ah (ae bm),ah (ae bp),ah (ae gb),ah (ae qb),.slice sl.1 sl.2.1 sl.2.2])]++(mT bg i++R))) (E4 Ls [_, _, _] _);refine aJ.FM (e:=ePt) H A rfl (q:=(some ⟨b2,0,none⟩,1,1)) (ys:=[some ⟨b1,0,none⟩]) rfl (S.rS rfl λj hj=>by rw[Nat.zero_add];rfl) rfl rfl (by rw[B];simp only[List.length_cons,List.length_nil];omega) λs' iC w18 T H=>?_;have H:=H.perm (L':=[(b2,[ah (ae b1)]),(b1,[ah none,.slice none 0 0,.bool false]),(b,[ah (ae bm),ah (ae bp),ah (ae gb),ah (ae qb),.slice sl.1 sl.2.1 sl.2.2])]++(iC++(mT bg i++R))) (E4 [_, _, _] iC _);refine⟨rfl,rfl,aw.c_ 2 H rfl rfl rfl λU H=>λSH V=>⟨q - 1,by omega,i+1,λj=>if j=i then b1 else bg j,iC,s',by rw[ao (by omega) (by omega)];rfl,by omega,?_,?_⟩⟩
  .rw[R9,Vt,az rfl];exact T
  .rw[Hw,Mg,az rfl];have H:aJ D G w0 U ((b2,[ah (ae b1)])::(b1,[ah none,.slice none 0 0,.bool false])::(b,[ah (ae bm),ah (ae bp),ah (ae gb),ah (ae qb),.slice s'.1 s'.2.1 s'.2.2])::(iC++(mT bg i++R))):=H;refine((H.sub (FB _ _)).perm ?_).ext V;have Y:(mT bg i++[(b1,[Value.pointer none,Value.slice none 0 0,Value.bool false])]++R).Perm ((b1,[Value.pointer none,Value.slice none 0 0,Value.bool false])::(mT bg i++R)):=by
    rw[B5];exact FA
   exact(((Y.append_left iC).trans FA).cons _).trans (.swap _ _ _)
 .have E:i=17:=by have:=of_decide_eq_false f;omega
  subst E;obtain⟨s1,s2,⟨_,F, _⟩|⟨bs,rest,a1,F, _⟩⟩:=A
  .omega
  have ⟨sp,sn,Z⟩:=sl;dsimp only at a1 s1;subst a1 s1;rw[B] at H;refine J o.1 o.2 ⟨bm,bw,bf,bp,16*m,m,[],[]⟩ ⟨b,gb,gr,16,[],qb,ql,qc,qr,gJ,bs,Z,rest⟩ g rfl ⟨λi=>⟨bg i,0,(none,0,0),[],[]⟩,⟨λh=>(by cases h),λh=>(by cases h),rfl,Po.Eu (by decide) (by decide),kf.new 16⟩,⟨?_,?_,?_,?_,0,0,?_⟩⟩
  .show 0<(AT (16*m) (0:Int)).length;rw[Ce];omega
  .show 0<(AT m zD).length;rw[Ce];omega
  .show(AT m zD).length<=4096;rw[Ce];omega
  .intro x k;have k:x∈AT (16*m) (0:Int):=k;rw[List.eq_of_mem_replicate k];decide
  .have er:eR (⟨bm,bw,bf,bp,16*m,m,[],[]⟩:Sys) (λi=>⟨bg i,0,(none,0,0),[],[]⟩) (λ_=>none) (AR 17)=mT bg 17:=by
    unfold eR mT;rw[List.flatMap_def];rfl
   have el:bZ (λi=>(⟨bg i,0,(none,0,0),[],[]⟩:DG))=flat ePt (MN bg 17):=by
    rw[Wj];unfold bZ MN;rw[List.map_map];rfl
   unfold Sys.L;show aJ D G w0 g ((bm,gi bw (AT (16*m) (0:Int)).length (16*m) 0 0)::(bw,flat eW (AT (16*m) (0:Int))++[])::(bf,flat eD (AT m zD)++[])::(bp,[.slice (ae bf) (AT m zD).length m])::(L++((b, _)::(bs,bZ (λi=>(⟨bg i,0,(none,0,0),[],[]⟩:DG))++rest)::(gb,g7 gr (AT 16 zG).length 16)::(gr,flat eG (AT 16 zG)++[])::(uL qb ql qc qr gJ 4 Po.k0++eR (⟨bm,bw,bf,bp,16*m,m,[],[]⟩:Sys) (λi=>⟨bg i,0,(none,0,0),[],[]⟩) (λ_=>none) (AR 17)))));rw[er,el,p,r, <-v, <-y,show W.length=16*m by rw[<-p,Ce],show t.length=m by rw[<-r,Ce]];rw[F,z] at H;exact H.perm (acH _ _ _ _ _ _ _ _ _ _ _)
end
noncomputable def Y9:fa AC:={Y0 with quiet:=[19,21,25,27,11]++Y0.quiet}
theorem Mh (k a b c:Int) (w:A2) (e:Int×Int×Int×Int×Unit->A2->Prop):(bO Y9 (λ_=>[]) 11 [.agg ⟨[aa k,av a,av b,av c]⟩] w e)=(
 aH w ⟨[aa k,av a,av b,av c]⟩ 34 λb d=>aH d ⟨[aa 0,av 0,av 0,av 0]⟩ 42 λf d=>true=true/\aN d (ad (ae b) 0) λx=>true=true/\bH d (ad (ae b) 1) λg=>true=true/\bH d (ad (ae b) 2) λh=>true=true/\bH d (ad (ae b) 3) λi=>aw d (ae f) [aa x,av g,av h,av i] λd=>ak d λw1=>ag w1 none (ae f) vB λ(x:Int×Int×Int×Int×Unit)=>e (x.1,x.2.1,x.2.2.1,x.2.2.2.1,()) w1):=by kernel_rfl
def xD:Nat->aW:=(λ|4=>[(5,Go.RX.El.one (Go.RX.Sc.int DA))]| _=>[])
theorem Vv (p q:Option AE) (m c:Nat) (w:A2) (d:Int->A2->Prop):(aL Y9 xD 13 [ah p,.slice q m c] w d)=(
 ∃(x:Int),ai AC 78 [ah p] w (aa x)/\aD (x != (↑m:Int)) (ak w (d (↑m:Int))) (∃(I:Nat->Int×Unit->A2->Prop),(∃n, ∀w1,Ext w w1->I n (0,()) w1)/\ ∀(n:Nat) (s:Int×Unit) (w1:A2),I n s w1->aD (decide (s.1<(↑m:Int))) (∃(x:(Int×Int×Int×Int×Unit)×Bool×Unit),ai AC 32 [ah p,aa s.1] w1 (.tuple {toList:=[.agg ⟨[aa x.1.1,aa x.1.2.1,aa x.1.2.2.1,aa x.1.2.2.2.1]⟩,.bool x.2.1]})/\aH w1 ⟨[aa 0,aa 0,aa 0,aa 0]⟩ 79 λb a=>
 aw a (ae b) [aa x.1.1,aa x.1.2.1,aa x.1.2.2.1,aa x.1.2.2.2.1] λa=>true=true/\aN a (ad (ae b) 0) λx=>true=true/\aN a (ad (ae b) 1) λh=>true=true/\aN a (ad (ae b) 2) λi=>true=true/\aN a (ad (ae b) 3) λj=>(q.isSome=true/\0<=s.1/\s.1<(↑m:Int))/\ag a none (ad q (AU s.1*4)) dh λ(e:Int×Int×Int×Int×Unit)=>aD (!(x==e.1&&(h==e.2.1&&(i==e.2.2.1&&(j==e.2.2.2.1&&true))))) (ak a (d s.1)) (∀f,Ext a f-> ∃(g:Nat),g<n/\I
 g (ay .i64 s.1 1,()) f)) (ak w1 (d (-1))))):=by kernel_rfl
def vi:Nat->aW:=(λ|8=>[(11,Go.RX.El.one (Go.RX.Sc.int DA))]|17=>[(16,Go.RX.El.one (Go.RX.Sc.int DA))]|22=>[(17,Go.RX.El.one (Go.RX.Sc.int DA))]|31=>[(28,Go.RX.El.one (Go.RX.Sc.int DA))]|34=>[(29,Go.RX.El.one (Go.RX.Sc.int DA))]| _=>[])
abbrev nb (a:Option AE×Nat×Nat) (b:Int×Unit):Prop:=
 a.1.isSome=true/\0<=b.1/\b.1<(↑a.2.1:Int)
abbrev nc (a:Int) (b:A2) (c:Option AE×Int×Unit) (d:Option AE):Prop:=
 (!decide (a>=0))=true->bP b (ad c.1 0) bF d
abbrev nf (a:Int) (b:Int) (c:Int) (d:Int) (e:Option AE) (f:Option AE×Int×Unit):Prop:=
 (!(a != b||c != d||e.isNone))=true->f.1.isSome=true
abbrev ng (a:Int) (b:Option AE×Int×Unit):Prop:=
 (!decide (a>=0))=true->b.1.isSome=true
abbrev nh (a:Int) (b:A2) (c:Option AE) (d:Option AE×Nat×Nat):Prop:=
 (!decide (a>=0))=true->bP b (ad c 0) bX d
abbrev ni (a:Int) (b:Int) (c:Int) (d:Int) (e:Option AE) (f:Option AE):Prop:=
 (!(a != b||c != d||e.isNone))=true->f.isSome=true
abbrev nk (a:Int) (b:Option AE):Prop:=
 (!decide (a>=0))=true->b.isSome=true
abbrev oU (a:Int) (b:Int) (c:Int) (d:Int) (e:Option AE) (f:A2) (g:Option AE×Int×Unit) (h:Option AE):Prop:=
 (!(a != b||c != d||e.isNone))=true->bP f (ad g.1 1) bF h
abbrev oV (a:Int) (b:Int) (c:Int) (d:Int) (e:Option AE) (f:A2) (g:Option AE) (h:Option AE×Nat×Nat):Prop:=
 (!(a != b||c != d||e.isNone))=true->bP f (ad g 0) bX h
abbrev vj (a:Int) (b:Option AE) (c:A2) (d:Int):Prop:=
 (!decide (a>=0))=true->ai AC 17 [ah b] c (aa d)
abbrev xE (m:Bool->A2->Prop) (r:Bool) (p:A2) (f:Option AE×Int×Unit) (g:Option AE×Int×Unit) (b:Option AE×Nat×Nat) (h:Nat) (t:Nat) (u:Nat->Int×Unit->A2->Prop) (v:Int×Unit):Prop:=
 aD (!r) (ak p (m false)) (∃(I:Nat->Int×Unit->A2->Prop),(∃n, ∀w1,Ext p w1->I n (0,()) w1)/\ ∀(n:Nat) (s:Int×Unit) (w1:A2),I n s w1->aD (decide (s.1<18)) (∃x,ai AC 18 [ah f.1,aa s.1] w1 (.bool x)/\ ∃e,ai AC 19 [ah g.1,aa s.1] w1 (.bool e)/\ ∃(i:Int),((!!x==e)=true->ai AC 20 [ah f.1,aa s.1] w1 (aa i))/\ ∃(j:Int),((!!x==e)=true->ai AC 21 [ah g.1,aa s.1] w1 (aa j))/\aD (!x==e||i != j)
 (ak w1 (m false)) (∀c,Ext w1 c-> ∃(d:Nat),d<n/\I d (ay .i64 s.1 1,()) c)) (∃(I:Nat->Int×Unit->A2->Prop),(∃n, ∀q,Ext w1 q->I n (0,()) q)/\ ∀(n:Nat) (s:Int×Unit) (w1:A2),I n s w1->aD (decide (s.1<(↑b.2.1:Int))) (true=true/\aN w1 (ad (ae h) 0) λx=>nb b s/\aN w1 (ad b.1 (AU s.1*1)) λe=>aA AC 22 (.bu [aq,aq,aq]) [ah f.1,aa x,aa e] w1 λ(x:Int×Int×Int×Unit) a=>true=true/\aN a
 (ad (ae h) 0) λi=>nb b s/\aN a (ad b.1 (AU s.1*1)) λj=>aA AC 23 (.bu [aq,aq,aq]) [ah g.1,aa i,aa j] a λ(o:Int×Int×Int×Unit) a=>true=true/\aN a (ad (ae h) 0) λw=>nb b s/\aN a (ad b.1 (AU s.1*1)) λy=> ∃(k:Int×Bool×Unit),ai AC 24 [ah f.1,aa w,aa y] a (.tuple ⟨[aa k.1,.bool k.2.1]⟩)/\true=true/\aN a (ad (ae h) 0) λz=>nb b
 s/\aN a (ad b.1 (AU s.1*1)) λA=> ∃(l:Int×Bool×Unit),ai AC 25 [ah g.1,aa z,aa A] a (.tuple ⟨[aa l.1,.bool l.2.1]⟩)/\aD (x.1 != o.1||x.2.1 != o.2.1||x.2.2.1 != o.2.2.1||k.1 != l.1|| !k.2.1==l.2.1) (ak a (m false)) (∀c,Ext a c-> ∃(d:Nat),d<n/\I d (ay .i64 s.1 1,()) c)) (∀c,Ext w1 c-> ∃(d:Nat),d<t/\u d (ay .i64 v.1 1,()) c)))
abbrev xF (i:Bool->A2->Prop) (d:Int) (e:Int) (f:Int) (g:Int) (c:Option AE) (a:A2) (h:Option AE) (j:Option AE×Nat×Nat) (b:Option AE×Int×Unit):Prop:=
 oV d e f g c a h j/\True/\True/\oU d e f g c a b h/\True/\True/\ ∃(x:Int),(false=true->ai AC 17 [ah c] a (aa x))/\(false=true->b.1.isSome=true)/\(false=true->b.1.isSome=true)/\ag a (some false) (ad b.1 0) bF λx=>(false=true->x.isSome=true)/\(false=true->x.isSome=true)/\ag a (some false) (ad x 0) bX λk=>(false=true->bP a (ad x 0) bX k)/\True/\True/\(false=true->bP a (ad b.1 0) bF x)/\True/\True/\ak a (i false)
theorem R_ (n:Int) (p:Option AE) (m c:Nat) (w:A2) (t:Bool->A2->Prop):(aL Y9 vi 3 [.int .u8 n,.slice p m c] w t)=(
 aA AC 6 (.bu [bF,aq]) [aa (ay .i64 4 (gj (aB .i64 n) 60))] w λ(x:Option AE×Int×Unit) a=>aA AC 7 (.bu [bF,aq]) [aa (ay .i64 4 (gj (aB .i64 n) 60))] a λ(f:Option AE×Int×Unit) a=>aD (x.2.1 != 0||x.1.isNone) (ak a (t false)) (aA AC 8 di [.slice p m c,aa 50] a λM a=> ∃(I:Nat->Int×Unit->A2->Prop),(∃n, ∀w1,Ext a w1->I n (0,()) w1)/\ ∀(n:Nat) (s:Int×Unit) (w1:A2),I n s w1->aD (decide (s.1<(↑m:Int))
 &&decide (s.1<50)) ((p.isSome=true/\0<=s.1/\s.1<(↑m:Int))/\ag w1 none (ad p (AU s.1*5)) (.agg [aG,aG,eh,eh,eh]) λ(u:Int×Int×Int×Int×Int×Unit)=>aH w1 ⟨[aa 0,aa 0,av 0,av 0,av 0]⟩ 36 λb a=>aw a (ae b) [aa u.1,aa u.2.1,av u.2.2.1,av u.2.2.2.1,av u.2.2.2.2.1] λa=>true=true/\aN a (ad (ae b) 0) λQ=>true=true/\ag a none (ad (ae b) 1) vB λ(G:Int×Int×Int×Int×Unit)=>aA
 AC 9 jJ [ah x.1,aa Q,.agg ⟨[aa G.1,av G.2.1,av G.2.2.1,av G.2.2.2.1]⟩] a λ(N:Int×Int×Unit) a=>aH a ⟨[av 0,aa 0]⟩ 38 λz a=>aw a (ae z) [av N.1,aa N.2.1] λa=>true=true/\aN a (ad (ae b) 0) λO=>true=true/\ag a none (ad (ae b) 1) vB λ(H:Int×Int×Int×Int×Unit)=> ∃(o:Int×Int×Int×Int×Unit),ai AC 11 [.agg ⟨[aa H.1,av H.2.1,av H.2.2.1,av H.2.2.2.1]⟩] a (.agg
 ⟨[aa o.1,av o.2.1,av o.2.2.1,av o.2.2.2.1]⟩)/\(aA AC 10 jJ [ah f.1,aa O,.agg ⟨[aa o.1,av o.2.1,av o.2.2.1,av o.2.2.2.1]⟩] a λ(A:Int×Int×Unit) a=>aH a ⟨[av 0,aa 0]⟩ 40 λv a=>aw a (ae v) [av A.1,aa A.2.1] λa=>aA AC 12 oq [ah x.1] a λg a=>true=true/\bH a (ad (ae z) 0) λd=>true=true/\bH a (ad (ae v) 0) λe=>((!d != e)=true->true=true)
 /\ag a (some !d != e) (ad (ae z) 1) aq λ(i:Int)=>((!d != e)=true->true=true)/\ag a (some !d != e) (ad (ae v) 1) aq λ(j:Int)=>nf d e i j g f/\nf d e i j g f/\ag a (some !(d != e||i != j||g.isNone)) (ad f.1 1) bF λl=>ni d e i j g l/\ni d e i j g l/\ag a (some !(d != e||i != j||g.isNone)) (ad l 0) bX λq=>aD (d != e||i != j||g.isNone)
 (xF t d e i j g a l q f) (aA AC 14 oq [ah x.1] a λJ a=>oV d e i j g a l q/\True/\True/\oU d e i j g a f l/\True/\True/\aA AC 13 aT [ah J,.slice q.1 q.2.1 q.2.2] a λ(h:Int) a=> ∃(B:Int),vj h g a B/\ng h f/\ng h f/\ag a (some !decide (h>=0)) (ad f.1 0) bF λk=>nk h k/\nk h k/\ag a (some !decide (h>=0))
 (ad k 0) bX λr=>aD (decide (h>=0)) (nh h a k r/\True/\True/\nc h a f k/\True/\True/\ak a (t false)) (aA AC 16 di [ah g,aa 0,aa B] a λy a=>nh h a k r/\True/\True/\nc h a f k/\True/\True/\aA AC 15 gD [.slice y.1 y.2.1 y.2.2,.slice r.1 r.2.1 r.2.2] a λK a=>xE t K a x f M b n I s)))/\aH a ⟨[av 0,aa 0]⟩ 40 λv a=>aA AC 10 jJ
 [ah f.1,aa O,.agg ⟨[aa o.1,av o.2.1,av o.2.2.1,av o.2.2.2.1]⟩] a λ(A:Int×Int×Unit) a=>aw a (ae v) [av A.1,aa A.2.1] λa=>aA AC 12 oq [ah x.1] a λg a=>true=true/\bH a (ad (ae z) 0) λd=>true=true/\bH a (ad (ae v) 0) λe=>((!d != e)=true->true=true)/\ag a (some !d != e) (ad (ae z) 1) aq λ(i:Int)=>((!d != e)=true->true=true)/\ag a (some !d != e) (ad (ae v) 1) aq
 λ(j:Int)=>nf d e i j g f/\nf d e i j g f/\ag a (some !(d != e||i != j||g.isNone)) (ad f.1 1) bF λl=>ni d e i j g l/\ni d e i j g l/\ag a (some !(d != e||i != j||g.isNone)) (ad l 0) bX λq=>aD (d != e||i != j||g.isNone) (xF t d e i j g a l q f) (aA AC 14 oq [ah x.1] a λJ a=>oV d e i j g a l
 q/\True/\True/\oU d e i j g a f l/\True/\True/\aA AC 13 aT [ah J,.slice q.1 q.2.1 q.2.2] a λ(h:Int) a=> ∃(B:Int),vj h g a B/\ng h f/\ng h f/\ag a (some !decide (h>=0)) (ad f.1 0) bF λk=>nk h k/\nk h k/\ag a (some !decide (h>=0)) (ad k 0) bX λr=>aD (decide (h>=0)) (nh h a k r/\True/\True/\nc h a f k/\True/\True/\ak a (t false))
 (aA AC 16 di [ah g,aa 0,aa B] a λy a=>nh h a k r/\True/\True/\nc h a f k/\True/\True/\aA AC 15 gD [.slice y.1 y.2.1 y.2.2,.slice r.1 r.2.1 r.2.2] a λK a=>xE t K a x f M b n I s))) (∃(I:Nat->Int×Unit->A2->Prop),(∃n, ∀C,Ext w1 C->I n (0,()) C)/\ ∀(n:Nat) (s:Int×Unit) (w1:A2),I n s w1->aD (decide (s.1<5)) (∃(L:Nat->Int×Unit->A2->Prop),(∃n, ∀C,Ext w1 C->L n (1,
 ()) C)/\ ∀(P:Nat) (D:Int×Unit) (w1:A2),L P D w1->aD (decide (D.1<5)) (∃u,ai AC 26 [ah x.1,aa s.1,aa D.1] w1 (.bool u)/\ ∃x,ai AC 27 [ah f.1,aa s.1,aa D.1] w1 (.bool x)/\aD (!u==x) (ak w1 (t false)) (∀E,Ext w1 E-> ∃(F:Nat),F<P/\L F (ay .i64 D.1 1,()) E)) (∀E,Ext w1 E-> ∃(F:Nat),F<n/\I F (ay .i64 s.1 1,()) E)) (aA AC 28 gD [] w1 λx a=>ak a (t x))))):=by kernel_rfl
section
variable {D G:List Nat} {w0 w w1:A2} {L L0 Ls:List (Nat×List AG)}
theorem lU.abM {M1 M2 g:List (Nat×Obj)} {L':List (Nat×List AG)} (H:lU D G w0 w L (M1++M2)) (K:lU [] (L.map (·.1)++M1.map (·.1)) w w1 L' g):lU D G w0 w1 L' (g++M2):=by
 have f:=H.nd;rw[DC,Dm] at f;have h: ∀x∈L.map (·.1)++M1.map (·.1),w0.heap.size<=x\/x∈G:=λx c=>by
  rcases B3.1 c with c|c
  .obtain⟨y,d,rfl⟩:=AZ.1 c;exact H.base.own y d
  .obtain⟨y,d,rfl⟩:=AZ.1 c;exact H.own y (B1 _ d)
 have i: ∀x,w.heap.size<=x\/x∈L.map (·.1)++M1.map (·.1)->w0.heap.size<=x\/x∈G:=λx c=>by
  rcases c with c|c
  .exact .inl (Nat.le_trans H.base.fr.size c)
  .exact h x c
 have j: ∀r∈D,r∉L.map (·.1)++M1.map (·.1):=λr k c=>by
  rcases B3.1 c with c|c
  .have ⟨y,d,e⟩:=AZ.1 c;exact aJ.dG (H.base.d_ y d) (H.base.rV r k).2 (λ_ _ _ hc=>by cases hc) e
  .have ⟨y,d,e⟩:=AZ.1 c;exact H.nD y (B1 _ d) (by rw[e];exact k)
 have h2: ∀y∈M2,y.1∉L.map (·.1)++M1.map (·.1):=λy d c=>by
  rcases B3.1 c with c|c
  .have ⟨x,c,e⟩:=AZ.1 c;exact H.FV c (B2 _ d) e
  .exact f.2.2 _ c _ (AZ.2 ⟨y,d,rfl⟩) rfl
 have l: ∀y∈M2,y.1<w.heap.size:=λy d=>(Array.getElem?_eq_some_iff.1 (H.obj y (B2 _ d)).1).1;refine⟨H.base.frame K.base.fr h j K.base.d_ (λx c=>i _ (K.base.own x c)) K.base.nd,λx c=>?_,λx c=>?_,?_,λx c=>?_⟩
 .rcases B3.1 c with c|c
  .exact K.obj x c
  .have ⟨m,n⟩:=H.obj x (B2 _ c);exact⟨by rw[K.base.fr.block x.1 (l x c) (h2 x c)];exact m,n⟩
 .rcases B3.1 c with c|c
  .exact i _ (K.own x c)
  .exact H.own x (B2 _ c)
 .rw[DC,Dm];refine⟨K.nd,f.2.1,λa o b hb e=>?_⟩;subst e;obtain⟨x,c,rfl⟩:=AZ.1 o;have ⟨y,d,e⟩:=AZ.1 hb;rcases K.own x c with q|q
  .have:=l y d;omega
  .exact h2 y d (by rw[e];exact q)
 .rcases B3.1 c with c|c
  .intro hd;rcases K.own x c with q|q
   .have:=(Array.getElem?_eq_some_iff.1 (H.base.rV _ hd).2).1;omega
   .exact j _ hd q
  .exact H.nD x (B2 _ c)
theorem lU.Zg {M1 M2:List (Nat×Obj)} (H:lU D G w0 w L (M1++M2)):lU [] (L.map (·.1)++M1.map (·.1)) w w L M1:=by
 have b:=H.nd;rw[DC,Dm] at b;exact⟨⟨Fr.refl _ w,H.base.d_,λx a=> .inr (B1 _ (AZ.2 ⟨x,a,rfl⟩)),H.base.nd,λx a=>(by cases a)⟩,λx a=>H.obj x (B1 _ a),λx a=> .inr (B2 _ (AZ.2 ⟨x,a,rfl⟩)),b.1,λx a=>List.not_mem_nil⟩
end
theorem Bi {α:Type} {l1 l2:List α} (h: ∀[BEq α] [LawfulBEq α] (a:α),l1.count a=l2.count a):l1.Perm l2:=by
 letI:DecidableEq α:=λa b=>Classical.propDecidable (a=b)
 exact List.perm_iff_count.2 λa=>h a
abbrev hvL (Q:Sys) (X:HX) (A:Nat->GA) (ca la:Int) (h:HS):List (Nat×List AG):=Q.L ca la h.s (fH Q X A h (bI Q A h.g (AR 17)))
def Bj (s:WD):Prop:=0<s.1.length/\0<s.2.length/\s.2.length<=4096/\okW s.1
def dvL (Q:Sys) (X:DX) (A:Nat->DG) (ca la:Int) (h:HS):List (Nat×List AG):=Q.L ca la h.s (bM Q X A h)
def UH (Q:Sys) (X:HX) (Q2:Sys) (X2:DX) (w0 w:A2) (h h2:HS) (T:List (Nat×List AG)):Prop:=
 ∃(A:Nat->GA) (a:Nat->DG) (ca la b c:Int),Cf A h/\gS a h2/\Bj h.s/\Bj h2.s/\lU [] [] w0 w (T++(hvL Q X A ca la h++dvL Q2 X2 a b c h2)) (e_ A h.g (AR 17))
section
variable {Q:Sys} {X:HX} {Q2:Sys} {X2:DX} {w0 w w1:A2} {h h2:HS} {T:List (Nat×List AG)}
theorem UH.ext (H:UH Q X Q2 X2 w0 w h h2 T) (e:Ext w w1):UH Q X Q2 X2 w0 w1 h h2 T:=by
 have ⟨A,f,ca,la,g,i,a,b,c,d,H⟩:=H;exact⟨A,f,ca,la,g,i,a,b,c,d,H.ext e⟩
theorem UH.dv (H:UH Q X Q2 X2 w0 w h h2 T): ∃f L',DAt Q2 X2 [] f w w h2 (T++L')/\ ∀{e h' T'},DAt Q2 X2 [] f w e h' (T'++L')->UH Q X Q2 X2 w0 e h h' T':=by
 have ⟨A,i,ca,la,j,k,a,b,c,d,H⟩:=H;have l:lU [] [] w0 w (Q2.L j k h2.s ((T++hvL Q X A ca la h)++bM Q2 X2 i h2)) (e_ A h.g (AR 17)):=
  H.perm (Bi λa=>by simp only[dvL,Sys.L,Ch,Cs];omega)
 refine⟨_, _,⟨i,b,d.1,d.2.1,d.2.2.1,d.2.2.2,j,k,l.base.again⟩,λ{e h' T'} K=>?_⟩;have ⟨A',m,S⟩:=K;have n:Bj h'.s:=⟨S.pos,S.yF,S.le,S.Sk⟩;have ⟨_, _, _, _,o,p,K⟩:=S;have K:=l.join K;exact⟨A,A',ca,la,o,p,a,m,c,n,K.perm (Bi λa=>by simp only[dvL,Sys.L,Ch,Cs];omega)⟩
theorem UH.hv (H:UH Q X Q2 X2 w0 w h h2 T): ∃f L',eH Q X [] f w w h (T++L')/\ ∀{e h' T'},eH Q X [] f w e h' (T'++L')->UH Q X Q2 X2 w0 e h' h2 T':=by
 have ⟨A,i,ca,la,j,k,a,b,c,d,H⟩:=H;have l:lU [] [] w0 w (Q.L ca la h.s (fH Q X A h (bI Q A h.g (AR 17)++(T++dvL Q2 X2 i j k h2)))) (e_ A h.g (AR 17)++[]):=by
  rw[Dn];exact H.perm (Bi λa=>by simp only[Sys.L,Ch,Cs];omega)
 refine⟨_, _,⟨A,a,c.1,c.2.1,c.2.2.1,c.2.2.2,ca,la,lU.Zg l⟩,λ{e h' T'} K=>?_⟩;have ⟨A',m,S⟩:=K;have n:Bj h'.s:=⟨S.pos,S.yF,S.le,S.Sk⟩;have ⟨_, _, _, _,o,p,K⟩:=S;have K:=lU.abM l K;rw[Dn] at K;exact⟨A',i,o,p,j,k,m,b,n,d,K.perm (Bi λa=>by simp only[Sys.L,Ch,Cs];omega)⟩
theorem UH.new {h:HS} (H:eH Q X [] [] w0 w h []) {f:Nat} (p:4<=f/\f<=4096) {K:Option AE×Int×Unit->A2->Prop}
 (k: ∀Q2 X2 e,Q2.c=16*f->UH Q X Q2 X2 w0 e h (h0 f) []->K (some ⟨X2.hb,0,none⟩,0,()) e):
 aA AC 7 (.bu [bF,aq]) [aa (f:Int)] w K:=by
 have ⟨A,a,S⟩:=H;have c:Bj h.s:=⟨S.pos,S.yF,S.le,S.Sk⟩;have ⟨_, _, _, _,ca,la,H⟩:=S;have i:lU [] [] w0 w (Q.L ca la h.s (fH Q X A h (bI Q A h.g (AR 17)++[]))) (e_ A h.g (AR 17)):=H;refine Vu i.base.again (f:Int) (λc=>by omega) λ_ _ Q2 X2 e j K=>?_;rw[Ct] at K j;refine k Q2 X2 e j ?_;have ⟨l,m,b⟩:=K;have d:Bj (h0 f).s:=⟨b.pos,b.yF,b.le,b.Sk⟩;have ⟨_, _, _, _,n,o,K⟩:=b;have K:=i.join K;exact⟨A,l,ca,la,n,o,a,m,c,d,K.perm (Bi λa=>by simp only[dvL,Sys.L,Ch,Cs,List.count_nil];omega)⟩
end
def Cu (x:Int):Prop:=0<=x/\x<18446744073709551616
theorem Zh (ws:List Int) (h:0<ws.length):jt ws 0 (ws.length:Int)=ws:=by
 unfold jt;rw[ar (by omega)];simp
theorem Vw {h:HS} (I: ∃gh,HI gh h) {N:Nat} (d:h.s.2.length=N) (v k:Int) {a:Int} (b c:Int) (e:0<=a):(AB h v k a b c).s.2.length=N:=(U8 I e).trans d
section
variable {Q:Sys} {X:HX} {D G:List Nat} {w0 w:A2} {h:HS} {L:List (Nat×List AG)}
theorem eH.words (H:eH Q X D G w0 w h L) (hc:Jb Q h.s) (n:Int) {K:Option AE×Nat×Nat->A2->Prop} (k: ∀r f e,ia eW f r (jt h.s.1 0 n)->eH Q X D G w0 e h (f++L)->K r e):
 aA AC 16 di [ah (ae Q.bm),aa 0,aa n] w K:=by
 have ⟨A,W,H⟩:=H.front;have ⟨j,S,J⟩:=H.call;refine S.words hc 0 n λx rows e S g=>k x rows e g (eH.oJ W (J ?_));have ⟨a,b,c,d,ca,la,i⟩:=S;exact⟨a,b,c,d,ca,la,i.perm (Bi λa=>by simp only[Sys.L,Ch,Cs];omega)⟩
end
section
variable {Q:Sys} {X:HX} {Q2:Sys} {X2:DX} {w0 w w1:A2} {h h2:HS} {T:List (Nat×List AG)}
theorem UH.d_ (H:UH Q X Q2 X2 w0 w h h2 T) {x:Nat×List AG} (e:x∈T):bq w x.1 x.2:=by
 have ⟨A,f,ca,la,g,i,a,b,c,d,H⟩:=H;exact H.base.d_ x (B1 _ e)
theorem UH.row (H:UH Q X Q2 X2 w0 w h h2 T) {e:El} {r:Option AE×Nat×Nat} {l:List e.T} {f:List (Nat×List AG)} (g:ia e f r l) (i: ∀x∈f,x∈T):Sl w e r.1 l:=by
 have ⟨A,k,ca,la,m,n,a,b,c,d,H⟩:=H;exact g.sl H.base λx j=>B1 _ (i x j)
theorem UH.sub (H:UH Q X Q2 X2 w0 w h h2 T) {T':List (Nat×List AG)} (e:T'.Sublist T):UH Q X Q2 X2 w0 w h h2 T':=by
 have ⟨A,f,ca,la,g,i,a,b,c,d,H⟩:=H;exact⟨A,f,ca,la,g,i,a,b,c,d,H.sub (e.append_right _)⟩
theorem UH.al (H:UH Q X Q2 X2 w0 w h h2 T) {cs:List AG} {e:TypeId} {K:Nat->A2->Prop} (k: ∀b w1,UH Q X Q2 X2 w0 w1 h h2 ((b,cs)::T)->K b w1):aH w ⟨cs⟩ e K:=by
 have ⟨a,L',K,J⟩:=H.hv;exact K.al λb w1 K=>k b w1 (J (T':=(b,cs)::T) K)
theorem UH.st (H:UH Q X Q2 X2 w0 w h h2 T) (i:Nat) {b:Nat} {l vs:List AG} {K:A2->Prop} (a:T[i]? =some (b,l)) (c:vs.all (·.oneCell')=true) (d:vs.length=l.length) (k: ∀w1,UH Q X Q2 X2 w0 w1 h h2 (T.set i (b,vs))->K w1):aw w (ae b) vs K:=by
 have ⟨e,L',K,J⟩:=H.hv;have hi:=(Du.1 a).1;refine K.cQ i (by rw[List.getElem?_append_left hi];exact a) c d λw1 K=>k w1 (J ?_);rw[List.set_append_left _ _ hi] at K;exact K
theorem UH.ld (H:UH Q X Q2 X2 w0 w h h2 T) (i:Nat) {g:Option Bool} {el:El} {K:el.T->Prop} {b o:Nat} {l:List AG} {x:el.T} (a:T[i]? =some (b,l)) (hv:pV l o el=some x) (k:K x):ag w g (some ⟨b,o,none⟩) el K:=
 ag.of x (cK (H.d_ (DB a)) hv) k
theorem UH.a_ (H:UH Q X Q2 X2 w0 w h h2 T) (i:Nat) {g:Option Bool} {el:El} {K:el.T->Prop} {b o n:Nat} {l:List AG} {x:el.T} (a:T[i]? =some (b,l)) (hv:pV l (o+n) el=some x) (k:K x):ag w g (ad (some ⟨b,o,none⟩) n) el K:=by
 rw[aS];exact H.ld i a hv k
theorem UH.doC (H:UH Q X Q2 X2 w0 w h h2 T) (g:Good Q h) (v k:Int) {a b c:Int} (e:Cu a) (hb:Cu b) (hc:Cu c) {K:RS->A2->Prop}
 (kk: ∀d,Good Q (AB h v k a b c)->UH Q X Q2 X2 w0 d (AB h v k a b c) h2 T->K (ML h v k a b c,MK h v k a b c,()) d):
 aA AC 9 (.el (.agg gm)) [ah (ae X.hb),aa v,.agg ⟨eO k a b c⟩] w K:=by
 have ⟨f,L',K,J⟩:=H.hv;exact aaB K g v k e hb hc λd g' K=>kk d g' (J K)
theorem UH.F7 (H:UH Q X Q2 X2 w0 w h h2 T) {K:Option AE->A2->Prop} (k: ∀bp bf c rest a,UH Q X Q2 X2 w0 a h h2 ((bp,[.slice (ae bf) h.s.2.length c])::(bf,flat eD h.s.2++rest)::T)->K (ae bp) a):
 aA AC 14 oq [ah (ae X.hb)] w K:=by
 have ⟨b,L',K,J⟩:=H.hv;exact K.F7 λbp bf c rest a K=>k bp bf c rest a (J (T':= _:: _::T) K)
theorem UH.memory (H:UH Q X Q2 X2 w0 w h h2 T) {K:Option AE->A2->Prop} (k: ∀a,UH Q X Q2 X2 w0 a h h2 T->K (ae Q.bm) a):
 aA AC 12 oq [ah (ae X.hb)] w K:=by
 have ⟨b,L',K,J⟩:=H.hv;exact K.memory λa K=>k a (J K)
theorem UH.words (H:UH Q X Q2 X2 w0 w h h2 T) (hc:Jb Q h.s) (n:Int) {K:Option AE×Nat×Nat->A2->Prop} (k: ∀r a b,ia eW a r (jt h.s.1 0 n)->UH Q X Q2 X2 w0 b h h2 (a++T)->K r b):
 aA AC 16 di [ah (ae Q.bm),aa 0,aa n] w K:=by
 have ⟨d,L',K,J⟩:=H.hv;refine K.words hc n λr a b c K=>k r a b c (J (T':=a++T) ?_);rw[B5];exact K
theorem UH.doZ (H:UH Q X Q2 X2 w0 w h h2 T) {e:Sys} (g:Good e h2) (v k:Int) {a b c:Int} (f:Cu a) (hb:Cu b) (hc:Cu c) {K:RS->A2->Prop}
 (kk: ∀d,UH Q X Q2 X2 w0 d h (AB h2 v k a b c) T->K (ML h2 v k a b c,MK h2 v k a b c,()) d):
 aA AC 10 (.el (.agg gm)) [ah (ae X2.hb),aa v,.agg ⟨eO k a b c⟩] w K:=by
 have ⟨gh,I⟩:=g.hi;have ⟨l,L',⟨A,W,S⟩,J⟩:=H.dv;exact Zf W S I v k f hb hc λA' d i j=>kk d (J ⟨A',i,j⟩)
end
theorem Sa {w:A2} (k a b c:Int):ai AC 11 [.agg ⟨[aa k,av a,av b,av c]⟩] w ((Sh.el (.agg [aG,eh,eh,eh])).g9 (k,a,b,c,())):=by
 refine ai.of (s:= .el (.agg [aG,eh,eh,eh])) λw' _=>aQ (C:=Y9) (Eq.mpr (Mh k a b c w' _) ?_);have H:=At.start [] w';exact aH.go H λb1 d H=>aH.go H λb2 e H=>⟨rfl,ag.bj 1 H rfl rfl ⟨rfl,ag.bj 1 H rfl rfl ⟨rfl,ag.bj 1 H rfl rfl ⟨rfl,ag.bj 1 H rfl rfl (aw.all 0 H rfl rfl rfl λf H=>ak.go H λg H=>ag.at 0 H rfl (show _=some (k,a,b,c,()) from rfl) ⟨rfl,H.all⟩)⟩⟩⟩⟩
theorem Vx {w:A2} {bp bf c a m:Nat} {ds:List DT} {rest o:List AG} (d:bq w bp [.slice (ae bf) ds.length c]) (p:bq w bf (flat eD ds++rest)) (q:bq w a (flat eD ds++o)) (y:ds.length<=4096):
 aC AC 13 aT [ah (ae bp),.slice (ae a) ds.length m] w (λx w'=>x= -1/\Ext w w'):=by
 refine aj (C:=Y9) (b_:=xD) (Eq.mpr (Vv _ _ _ _ w _) ?_);refine⟨(ds.length:Int),ai.of (s:= .el aq) λw' h=>sP (d.ext h),an (by simp) ?_⟩;refine⟨λn s w'=> ∃i:Nat,s.1=(i:Int)/\n+i=ds.length/\At [] w w' [],⟨ds.length,λw1 r=>⟨0,rfl,rfl,(At.start [] w).ext r⟩⟩,?_⟩;rintro n ⟨z,u⟩ w1 ⟨i,e,A,H⟩;dsimp only at e ⊢;subst e;refine ab (λf=>?_) (λf=>ak.go H λt H=>⟨rfl,H.all⟩);have hi:i<ds.length:=by have:=of_decide_eq_true f;omega
 have hd:ds[i]? =some (mH ds (i:Int)):=by
  have e:=B4 hi;rw[jU e,e]
 refine⟨(mH ds (i:Int),wu ds (i:Int),()),ai.of (s:= .bu [eD,cr]) λw' h=>N7 ((d.ext H.all).ext h) ((p.ext H.all).ext h) i,aH.go H λb t H=>aw.all 0 H rfl rfl rfl λB H=>?_⟩;dsimp only at H;generalize mH ds (i:Int)=V at H hd;obtain⟨g,j,k,l,⟨⟩⟩:=V;refine⟨rfl,ag.bj 0 H rfl (show _=some g from rfl) ⟨rfl,ag.bj 0 H rfl (show _=some j from rfl) ⟨rfl,ag.bj 0 H rfl (show _=some k from rfl) ⟨rfl,ag.bj 0 H rfl (show _=some l from rfl) ⟨⟨rfl,by omega,by omega⟩,ag.of (g,j,k,l,()) (by rw[Ct];exact dK (e:=eD) (q.ext H.all) hd) (an (by simp) λD v=>⟨n - 1,by omega,i+1,by rw[ao (by omega) (by omega)];rfl,by omega,(H.sub (FB _ _)).ext v⟩)⟩⟩⟩⟩⟩
section
variable {Q:Sys} {X:HX} {Q2:Sys} {X2:DX} {w0 w w1:A2} {h h2:HS} {T:List (Nat×List AG)}
theorem UH.abN (H:UH Q X Q2 X2 w0 w h h2 T) (v:Int):ai AC 19 [ah (ae X2.hb),aa v] w (.bool (aV h2.g v)):=by
 have ⟨a,L',⟨A,W,S⟩,J⟩:=H.dv;exact m6 (DM.of Q2 X2 A h2 (T++L')) S v
theorem UH.abO (H:UH Q X Q2 X2 w0 w h h2 T) (v:Int):ai AC 21 [ah (ae X2.hb),aa v] w (aa (aY h2.g v)):=by
 have ⟨a,L',⟨A,W,S⟩,J⟩:=H.dv;exact I4 (DM.of Q2 X2 A h2 (T++L')) S v
theorem UH.Zi (H:UH Q X Q2 X2 w0 w h h2 T) {a:Sys} (g:Good a h2) (v q:Int):ai AC 25 [ah (ae X2.hb),aa v,aa q] w ((Sh.bu [aq,cr]).g9 (dC h2.g v q)):=by
 have ⟨gh,I⟩:=g.hi;have ⟨b,L',⟨A,W,S⟩,J⟩:=H.dv;exact RW (DM.of Q2 X2 A h2 (T++L')) S W I v q
theorem UH.Vy (H:UH Q X Q2 X2 w0 w h h2 T) (a b:Int):ai AC 27 [ah (ae X2.hb),aa a,aa b] w (.bool (pv h2.gr h2.po a b)):=by
 have ⟨c,L',K,J⟩:=H.dv;exact L9 K a b
theorem UH.Zj (H:UH Q X Q2 X2 w0 w h h2 T) {b:Sys} (g:Good b h2) (v q:Int) {K:Int×Int×Int×Unit->A2->Prop} (k: ∀a,UH Q X Q2 X2 w0 a h h2 T->K (db h2.g h2.s v q) a):
 aA AC 23 (.bu [aq,aq,aq]) [ah (ae X2.hb),aa v,aa q] w K:=by
 have ⟨gh,I⟩:=g.hi;have ⟨c,L',⟨A,W,S⟩,J⟩:=H.dv;exact rD (DM.of Q2 X2 A h2 (T++L')) S I v q λa S=>k a (J ⟨A,W,S⟩)
end
theorem nq.own {w0 w:A2} {Ls L0:List (Nat×List AG)} {s:Option AE×Nat×Nat} {xs:List Int} (h:nq Ls s xs) (H:At [] w0 w (Ls++L0)):kx w0 w eI s xs:=by
 rcases h with ⟨rfl,rfl, _⟩|⟨bs,c,rest,rfl,rfl,a,h2⟩
 .exact kx.nil _ _ _
 .refine⟨rfl,h2,.inr ⟨bs, _,rfl,(H.own _ C9).resolve_right (by simp),H.get (i:=0) rfl,a,?_⟩⟩;rw[Fz (by rw[aK];exact DS _),GS (by rw[aK];exact DS _)]
theorem nq.sl {w0 w:A2} {Ls L0:List (Nat×List AG)} {s:Option AE×Nat×Nat} {xs:List Int} (h:nq Ls s xs) (H:At [] w0 w (Ls++L0)):Sl w eI s.1 xs:=(h.own H).sl
structure SU (xs:List (g_ Dh)) (i:Nat) (l:List Int) (ps:List Int):Prop where
 nd:ps.Nodup
 rg: ∀y∈ps,0<=y/\y<65536
 op: ∀{k:Nat} {xv xk xa xb xc:Int},k<i->xs[k]? =some (xv,xk,xa,xb,xc,())->(0<=xa/\xa<65536->xa∈ps)/\(0<=xb/\xb<65536->xb∈ps)
 ls: ∀y∈l,0<=y/\y<65536->y∈ps
theorem SU.push {xs:List (g_ Dh)} {i:Nat} {l ps:List Int} (h:SU xs i l ps) {y:Int} (j:0<=y/\y<65536) (k:y∉ps):SU xs i (l++[y]) (ps++[y]):=by
 refine⟨Dm.2 ⟨h.nd,by simp,λa e b hb c=>?_⟩,λz d=>?_,λf g=>?_,λz d m=>?_⟩
 .rw[Do] at hb;rw[c,hb] at e;exact k e
 .rcases B3.1 d with d|d
  .exact h.rg z d
  .rw[Do.1 d];exact j
 .exact⟨λc=>B1 _ ((h.op f g).1 c),λc=>B1 _ ((h.op f g).2 c)⟩
 .rcases B3.1 d with d|d
  .exact B1 _ (h.ls z d m)
  .exact B2 _ d
theorem SU.skip {xs:List (g_ Dh)} {i:Nat} {l ps:List Int} (h:SU xs i l ps) {y:Int} (c:0<=y/\y<65536->y∈ps):SU xs i (l++[y]) ps:=by
 refine⟨h.nd,h.rg,h.op,λz a b=>?_⟩;rcases B3.1 a with a|a
 .exact h.ls z a b
 .rw[Do.1 a] at b ⊢;exact c b
theorem Mi {w:A2} {p:Option AE} {m c:Nat} {xs:List (g_ Dh)} (hm:m=xs.length) (hx:Sl w (.agg Dh) p xs) (VQ: ∀x∈xs,lH Dh x) (n:Int) (hn:n<=100):
 aC AC 8 di [.slice p m c,aa n] w (λr w'=> ∃ps,SU xs (min m n.toNat) [] ps/\ps.length<=300/\kx w w' eI r ps/\Ext w w'):=by
 refine aj (C:=Y0) (b_:=sr) (Eq.mpr (Ly p m c n w _) ?_);refine⟨λk v w'=> ∃(i:Nat) (ps:List Int) (Ls:List (Nat×List AG)),v.2.1=(i:Int)/\k+i=100/\i<=min m n.toNat/\SU xs i [] ps/\ps.length<=3*i/\nq Ls v.1 ps/\At [] w w' (Ls++[]),⟨100,λw1 E=>⟨0,[],[],rfl,rfl,Nat.zero_le _,⟨List.nodup_nil,λy f=>(by cases f),λO=>absurd O (H2 _),λy f=>(by cases f)⟩,DS _,.inl ⟨rfl,rfl,rfl⟩,(At.start [] w).ext E⟩⟩,?_⟩;rintro k ⟨s,i',u⟩ w1 ⟨i,ps,Ls,e,O,hi,P,F,d,H⟩;dsimp only at e d ⊢;subst e;refine ab (λl=>?_) (λl=>?_)
 .have hc:i<m/\(i:Int)<n:=by
   simp only[FJ,decide_eq_true_eq] at l;omega
  have o:xs[i]? =some (xs[i]'(by omega)):=B4 (by omega);have G:=VQ _ (DB o);have ⟨I,g⟩:=(hx.ext H.all) i _ o;have ⟨xv,xk,xa,xb,xc,Q,R,hb⟩: ∃xv xk xa xb xc:Int,xs[i]'(by omega)=(xv,xk,xa,xb,xc,())/\(0<=xa/\xa<18446744073709551616)/\(0<=xb/\xb<18446744073709551616):=by
   generalize xs[i]'(by omega)=x at G;have ⟨xv,xk,xa,xb,xc,xu⟩:=x;exact⟨xv,xk,xa,xb,xc,rfl,qR G.2.2.1,qR G.2.2.2.1⟩
  rw[Q] at g o;have g:bP w1 (ad p (AU (i:Int)*5)) (.agg Dh) (xv,xk,xa,xb,xc,()):=g;have h:(ad p (AU (i:Int)*5)).isSome=true:=kJ I _;have t:bP w1 (ad (ad p (AU (i:Int)*5)) 1) (.agg [aG,eh,eh,eh]) (xk,xa,xb,xc,()):=Lz g;have A:(ad (ad p (AU (i:Int)*5)) 1).isSome=true:=kJ h _;have B:p.isSome=true/\0<=(i:Int)/\(i:Int)<(m:Int):=⟨I,by omega,by omega⟩;have nx:ay .i64 (i:Int) 1=((i+1:Nat):Int):=by rw[ao (by omega) (by omega)];rfl
  have acI:pT .u64 xa 16=xa / 16:=by
   show aB .u64 (xa.tdiv 16)= _;rw[Int.tdiv_eq_ediv_of_nonneg R.1];exact cN (by omega)
  refine⟨B,h,A,ag.of xa (jl t (by decide) rfl) ⟨B,h,A,ag.of xb (jl t (by decide) rfl) ⟨B,h,A,ag.of xa (jl t (by decide) rfl) ?_⟩⟩⟩;rw[acI,nx];clear I g t B h A Q;refine aH.go H λb w2 H=>?_;refine⟨λk v w'=> ∃(j:Nat) (ps:List Int) (Ls:List (Nat×List AG)),v.2.1=(j:Int)/\k+j=3/\SU xs i ([xa,xb,xa / 16].take j) ps/\ps.length<=3*i+j/\nq Ls v.1 ps/\At [] w w' (Ls++[(b,[av xa,av xb,av (xa / 16)])]),⟨3,λS h3=>⟨0,ps,Ls,rfl,rfl,P,F,d,(H.ext h3).perm ?_⟩⟩,?_⟩
  .rw[Dn];exact List.perm_append_singleton _ _
  clear H P F d;rintro T ⟨s,j',u⟩ S ⟨j,ps,Ls,e,sB,P,F,d,H⟩;dsimp only at e d ⊢;subst e;refine ab (λJ=>?_) (λJ=>?_)
  .have U:j<3:=by
    have:(j:Int)<3:=by simpa using J
    omega
   have ⟨y,f,hy0⟩: ∃y:Int,[xa,xb,xa / 16][j]? =some y/\(0<=y/\y<18446744073709551616):=by
    have:j=0\/j=1\/j=2:=by omega
    rcases this with rfl|rfl|rfl
    .exact⟨xa,rfl,R⟩
    .exact⟨xb,rfl,hb⟩
    .exact⟨xa / 16,rfl,by omega⟩
   have V:bP S (ad (ae b) (AU (j:Int)*1)) gZ y:=by
    rw[aS];have:j=0\/j=1\/j=2:=by omega
    rcases this with rfl|rfl|rfl
    all_goals
     cases f;exact(H.d_ (b, _) (B2 _ (Do.2 rfl))).mF rfl
   have W:[xa,xb,xa / 16].take (j+1)=[xa,xb,xa / 16].take j++[y]:=by rw[Gi,f];rfl
   have nj:ay .i64 (j:Int) 1=((j+1:Nat):Int):=by rw[ao (by omega) (by omega)];rfl
   rw[nj];refine⟨⟨rfl,by omega,by omega⟩,ag.of y V ?_⟩;refine⟨λk v w'=> ∃q:Nat,v.2.1=(q:Int)/\k+q=ps.length/\v.1=(decide (y>65535)||(ps.take q).any (· ==aB .i64 y))/\At [] w w' (Ls++[(b,[av xa,av xb,av (xa / 16)])]),⟨ps.length,λX K=>⟨0,rfl,rfl,by simp,H.ext K⟩⟩,?_⟩;clear H V;rintro k3 ⟨Y,q',u⟩ X ⟨q,e,Wo,hv,H⟩;dsimp only at e hv ⊢;subst e;have Z:=d.len;have C8:nq Ls (s.1,ps.length,s.2.2) ps:=by rw[<-Z];exact d
   rw[Z];refine ab (λL=>?_) (λL=>?_)
   .have D:q<ps.length:=by simpa using L
    have ke:=(d.sl H) q _ (B4 D);refine⟨λ_=>⟨ke.1,by omega,by omega⟩,ag.of ps[q] ke.2 λw5 M=>⟨k3 - 1,by omega,q+1,?_,by omega,?_,H.ext M⟩⟩
    .rw[ao (by omega) (by omega)];rfl
    .rw[hv,show ps.take (q+1)=ps.take q++[ps[q]] by rw[Gi,B4 D];rfl,List.any_append,Bool.or_assoc];simp
   .have D:q=ps.length:=by
     have: ¬ q<ps.length:=by simpa using L
     omega
    rw[D,List.take_length] at hv;refine ab (λch=>?_) (λch=>?_)
    .have ch:Y=false:=by simpa using ch
     rw[ch] at hv;have hv:=hv.symm;rw[H5] at hv;have hy1:y<65536:=by have:=hv.1;simp at this;omega
     have ey:aB .i64 y=y:=a9 (by omega);rw[ey] at hv ⊢;have vv:y∉ps:=λc=>by
      have:=hv.2;rw[List.any_eq_false] at this;exact this y c (by simp)
     refine aH.go H λb2 w5 H w6 h6=>?_;refine(H.ext h6).grow (e:=eI) (x:=y) (xs:=ps) (Ls:=Ls) (bytes:=8) C8 rfl rfl rfl (by omega) λbs c' rest w7 e1 e2 H w8 h8=>⟨T - 1,by omega,j+1,ps++[y],[(bs,flat eI (ps++[y])++rest)],rfl,by omega,?_,by rw[FC];simp;omega,.inr ⟨bs,c',rest,by rw[FC];rfl,rfl,e1,by rw[FC];exact e2⟩,H.ext h8⟩;rw[W];exact P.push ⟨hy0.1,hy1⟩ vv
    .have ch:Y=true:=by simpa using ch
     refine λw5 M=>⟨T - 1,by omega,j+1,ps,Ls,rfl,by omega,?_,by omega,C8,H.ext M⟩;rw[W];refine P.skip λhr=>?_;rw[ch] at hv;have hv:=hv.symm;rw[H4] at hv;rcases hv with hv|hv
     .have:y>65535:=by simpa using hv
      omega
     .rw[a9 (a:=y) (by omega),Da] at hv;have ⟨z,E,h2⟩:=hv;have:z=y:=by simpa using h2
      rw[<-this];exact E
  .have U:j=3:=by
    have: ¬ j<3:=by
     intro c;exact absurd J (by simp;omega)
    omega
   subst U;refine λX K=>⟨k - 1,by omega,i+1,ps,Ls,rfl,by omega,by omega,⟨P.nd,P.rg,λ{k' yv yk ya yb yc} hk' N=>?_,λy f=>(by cases f)⟩,by omega,d,(H.ext K).sub ?_⟩
   .by_cases e:k'=i
    .subst e;rw[o] at N;cases N;exact⟨P.ls xa (by simp),P.ls xb (by simp)⟩
    .exact P.op (by omega) N
   .rw[Dn];exact Df _ _
 .have hc: ¬ (i<m/\(i:Int)<n):=by
   intro c;rw[Bool.and_eq_false_iff] at l;simp at l;omega
  refine ak.go H λw2 H=>⟨ps,?_,by omega,d.own H,H.all⟩;have:i=min m n.toNat:=by omega
  rw[<-this];exact P
section
variable {Q:Sys} {X:HX} {D G:List Nat} {w0 w w':A2} {h:HS} {L:List (Nat×List AG)}
theorem eH.S3 (H:eH Q X D G w0 w h L) (e:Ext w w') {el:El} {r:Option AE×Nat×Nat} {xs:List el.T} (f:kx w w' el r xs): ∃rows,eH Q X D G w0 w' h (L++rows)/\ia el rows r xs:=by
 have ⟨A,W,H⟩:=H.front;have ⟨l,S,J⟩:=H.call;have ⟨a,b,c,d,ca,la,i⟩:=S;have ⟨rows,j,k⟩:=aJ.S3 i e f;refine⟨rows,oJ W (SM.perm (J (L':=L++(fH Q X A h (bI Q A h.g (AR 17))++rows)) ⟨a,b,c,d,ca,la,?_⟩) ?_),k⟩
 .have: ∀(x:List (Nat×List AG)),Q.L ca la h.s (x++rows)=Q.L ca la h.s x++rows:=λx=>rfl;rw[<-B5,this];exact j
 .rw[B5];exact(E5).append_left _
end
theorem dlt {i n:Nat} (h:decide ((i:Int)<(n:Int))=true):i<n:=by
 have:=of_decide_eq_true h;omega
theorem nxU {i:Nat} (h:i<4611686018427387904):ay .i64 (i:Int) 1=((i+1:Nat):Int):=by rw[ao (by omega) (by omega)];rfl
section
variable {Q:Sys} {X:HX} {Q2:Sys} {X2:DX} {w0 w w1:A2} {h h2:HS} {T:List (Nat×List AG)}
theorem UH.all (H:UH Q X Q2 X2 w0 w h h2 T):Ext w0 w:=by
 have ⟨A,e,ca,la,f,g,a,b,c,d,H⟩:=H;exact H.base.all
theorem UH.opv (H:UH Q X Q2 X2 w0 w h h2 T) {p:Option AE} {m:Nat} {xs:List (g_ Dh)} (g:Sl w0 (.agg Dh) p xs) (j: ∀x∈xs,lH Dh x) (n:m=xs.length) {i:Nat} (hi:i<m) {t:TypeId} {K:Nat->A2->Prop}
 (k: ∀xv xk xa xb xc:Int,Cu xa->Cu xb->Cu xc-> ∀b w1,UH Q X Q2 X2 w0 w1 h h2 ((b,[aa xv,aa xk,av xa,av xb,av xc])::T)->K b w1):
 (p.isSome=true/\0<=(i:Int)/\(i:Int)<(m:Int))/\ag w none (ad p ((i:Int).toNat*5)) (.agg Dh) λx=>
  aH w ⟨[aa 0,aa 0,av 0,av 0,av 0]⟩ t λb e=>aw e (ae b) [aa x.1,aa x.2.1,av x.2.2.1,av x.2.2.2.1,av x.2.2.2.2.1] λc=>K b c:=by
 have d:xs[i]? =some (xs[i]'(by omega)):=B4 (by omega);have a:=j _ (DB d);have ⟨l,f⟩:=(g.ext H.all) i _ d;generalize xs[i]'(by omega)=x at d a f;obtain⟨xv,xk,xa,xb,xc,⟨⟩⟩:=x;exact⟨⟨l,by omega,by omega⟩,ag.of (xv,xk,xa,xb,xc,()) (by rw[Ct];exact f) (H.al λb e H=>H.st 0 rfl rfl rfl λc H=>k xv xk xa xb xc (qR a.2.2.1) (qR a.2.2.2.1) (qR a.2.2.2.2.1) b c H)⟩
theorem UH.abP (H:UH Q X Q2 X2 w0 w h h2 T) {p:Option AE} {m c:Nat} {xs:List (g_ Dh)} (b:m=xs.length) (d:Sl w0 (.agg Dh) p xs) (f: ∀x∈xs,lH Dh x) (n:Int) (g:n<=100) {K:Option AE×Nat×Nat->A2->Prop}
 (k: ∀r rows ps a,ps.length<=300->ia eI rows r ps->UH Q X Q2 X2 w0 a h h2 (T++rows)->K r a):
 aA AC 8 di [.slice p m c,aa n] w K:=λw1 i=>by
 have H:=H.ext i;refine(Mi b (d.ext H.all) f n g).mono λr a e=>?_;have ⟨ps,P,j,l,e⟩:=e;have ⟨s,L',K,J⟩:=H.hv;have ⟨rows,o,q⟩:=K.S3 e l;refine k r rows ps a j q (J (T':=T++rows) (o.perm ?_));rw[B5,B5];exact(E5).append_left _
theorem UH.abQ (H:UH Q X Q2 X2 w0 w h h2 T) {rows:List (Nat×List AG)} {r:Option AE×Nat×Nat} {ps:List Int} (a:ia eI rows r ps) (b: ∀x∈rows,x∈T) {k:Nat} (c:k<ps.length):(r.1.isSome=true/\0<=(k:Int)/\(k:Int)<(r.2.1:Nat))/\bP w (ad r.1 (AU (k:Int)*1)) aq ps[k]:=by
 have d:=a.1;have:=(H.row a b) k _ (B4 c);rw[Ct];exact⟨⟨this.1,by omega,by omega⟩,this.2⟩
theorem UH.live (H:UH Q X Q2 X2 w0 w h h2 T) (v:Int):ai AC 18 [ah (ae X.hb),aa v] w (.bool (aV h.g v)):=by
 have ⟨a,L',K,J⟩:=H.hv;exact K.ND v
theorem UH.root (H:UH Q X Q2 X2 w0 w h h2 T) (v:Int):ai AC 20 [ah (ae X.hb),aa v] w (aa (aY h.g v)):=by
 have ⟨a,L',K,J⟩:=H.hv;exact K.Wd v
theorem UH.taken (H:UH Q X Q2 X2 w0 w h h2 T) (v p:Int):ai AC 24 [ah (ae X.hb),aa v,aa p] w ((Sh.bu [aq,cr]).g9 (dC h.g v p)):=by
 have ⟨b,L',K,J⟩:=H.hv;have ⟨A,W,K⟩:=K;exact nZ K (X:=X) (A:=A) (g:=h.g) C9 (bS W []) (fV W) (λi x a=>W.mp a) v p
theorem UH.linked (H:UH Q X Q2 X2 w0 w h h2 T) (a b:Int):ai AC 26 [ah (ae X.hb),aa a,aa b] w (.bool (pv h.gr h.po a b)):=by
 have ⟨c,L',K,J⟩:=H.hv;exact BP K a b
theorem UH.query (H:UH Q X Q2 X2 w0 w h h2 T) (v p:Int) {K:Int×Int×Int×Unit->A2->Prop} (k: ∀a,UH Q X Q2 X2 w0 a h h2 T->K (db h.g h.s v p) a):
 aA AC 22 (.bu [aq,aq,aq]) [ah (ae X.hb),aa v,aa p] w K:=by
 have ⟨b,L',K,J⟩:=H.hv;exact K.query v p λa K=>k a (J K)
theorem UH.doc (H:UH Q X Q2 X2 w0 w h h2 T):bq w Q2.bw (flat eW h2.s.1++Q2.rw)/\bq w Q2.bf (flat eD h2.s.2++Q2.rf)/\bP w (ad (ae X2.hb) 0) bF (ae Q2.bm)/\bP w (ad (ae X2.hb) 1) bF (ae Q2.bp)/\bP w (ad (ae Q2.bm) 0) bX (some ⟨Q2.bw,0,none⟩,h2.s.1.length,Q2.c)/\bP w (ad (ae Q2.bp) 0) bX (some ⟨Q2.bf,0,none⟩,h2.s.2.length,Q2.cp):=by
 have ⟨e,L',⟨A,W,S⟩,J⟩:=H.dv;have M:=DM.of Q2 X2 A h2 (T++L');refine⟨?_,?_,M.rm S,M.rp S,S.rdL,S.Fb⟩
 .have ⟨a,h2,b,d,ca,la,H⟩:=S;exact H.get (i:=1) rfl
 .have ⟨a,h2,b,d,ca,la,H⟩:=S;exact H.get (i:=2) rfl
end
section
variable {Q:Sys} {X:HX} {Q2:Sys} {X2:DX} {w0 w w1:A2} {h h2:HS} {T:List (Nat×List AG)}
theorem UH.acJ (H:UH Q X Q2 X2 w0 w h h2 T):0<h.s.1.length/\ ∃ca la,bq w Q.bm (gi Q.bw h.s.1.length Q.c ca la):=by
 have ⟨d,L',K,J⟩:=H.hv;have ⟨A,W,K⟩:=K.front;have ⟨a,h2,e,f,ca,la,b⟩:=K.base;exact⟨a,ca,la,b.get (i:=0) rfl⟩
end
theorem Mj (n:Int) (O:(Lit.int .u8 n).wf=true) (p:Option AE) (m c:Nat) (xs:List (g_ Dh)) (hm:m=xs.length) (hmx:m<=maxLen) {w:A2} (J:Sl w (.agg Dh) p xs) (VQ: ∀x∈xs,lH Dh x):
 aC AC 3 gD [.int .u8 n,.slice p m c] w (λb w'=>b=true/\Ext w w'):=by
 have O:=acv O;refine aj (C:=Y9) (b_:=vi) (Eq.mpr (R_ n p m c w _) ?_);rw[abz (x:=n) (by omega) (by omega),abA O.1,ao (by omega) (by omega)];have ⟨N,hN,hN1⟩: ∃N:Nat,4+n % 60=(N:Int)/\4<=N/\N<64:=⟨(4+n % 60).toNat,by omega,by omega,by omega⟩;rw[hN];refine IP (At.start [] w) _ (λc=>by omega) λn1 n2 Q X w1 hQ H=>?_;rw[Ct] at H hQ;refine UH.new H (by omega) λQ2 X2 w2 hQ2 H=>an rfl ?_;have g:=Good.new (Q:=Q) (n:=N) (by omega) hQ;have A:(h0 N).s.2.length=N:=Ce;generalize h0 N=P at H g A;refine H.abP hm J VQ 50 (by decide) λr rows ps w3 sC hr H=>?_;have H:UH Q X Q2 X2 w w3 P P rows:=H;have Cd:=hr.1;refine⟨λk st w'=> ∃(i:Nat) (h:HS),st.1=(i:Int)/\k+i=50/\Good Q h/\h.s.2.length=N/\UH Q X Q2 X2 w w' h h rows,⟨50,λw4 h4=>⟨0,P,rfl,rfl,g,A,H.ext h4⟩⟩,?_⟩;clear H g A;rintro k ⟨i',u⟩ w4 ⟨i,h,e,hk,g,A,H⟩;have e:i'=(i:Int):=e;subst e;dsimp only;refine ab (λR=>?_) (λR=>?_)
 .have hi:i<m/\i<50:=by
   simp only[FJ,decide_eq_true_eq] at R;omega
  refine H.opv J VQ hm hi.1 λxv xk xa xb xc K hb hc b w5 H=>⟨rfl,H.a_ 0 rfl (show _=some xv from rfl) ⟨rfl,H.a_ 0 rfl (show _=some (xk,xa,xb,xc,()) from rfl) (H.doC g xv xk K hb hc λw6 g' H=>H.al λb1 w7 H=>H.st 0 rfl rfl rfl λw8 H=>⟨rfl,H.a_ 1 rfl (show _=some xv from rfl) ⟨rfl,H.a_ 1 rfl (show _=some (xk,xa,xb,xc,()) from rfl) ⟨(xk,xa,xb,xc,()),Sa xk xa xb xc,H.doZ g xv xk K hb hc λw9 H=>H.al λb2 np H=>H.st 0 rfl rfl rfl λl6 H=>?_,H.al λb2 np H=>H.doZ g xv xk K hb hc λw9 H=>H.st 0 rfl rfl rfl λl6 H=>?_⟩⟩⟩)⟩⟩
  all_goals
   have aaN:=Vw g.hi A xv xk xb xc K.1;generalize ML h xv xk xa xb xc=V at H;generalize MK h xv xk xa xb xc=E at H;generalize AB h xv xk xa xb xc=h' at H g' aaN;clear g A;have H:UH Q X Q2 X2 w l6 h' h' ((b2,[av V,aa E])::(b1,[av V,aa E])::(b,[aa xv,aa xk,av xa,av xb,av xc])::rows):=H;refine H.memory λrX H=>?_;have ⟨o,t,a,d,f,l⟩:=H.doc;refine⟨rfl,H.a_ 1 rfl (show _=some V from rfl) ⟨rfl,H.a_ 0 rfl (show _=some V from rfl) ⟨λ_=>rfl,H.a_ 1 rfl (show _=some E from rfl) ⟨λ_=>rfl,H.a_ 0 rfl (show _=some E from rfl) ⟨λ_=>rfl,λ_=>rfl,ag.of _ d ⟨λ_=>rfl,λ_=>rfl,ag.of _ l (an (by simp) ?_)⟩⟩⟩⟩⟩⟩;clear o t a d f l;refine H.F7 λbp bf c1 rest E7 H=>?_;have ⟨o,t,a,d,f,l⟩:=H.doc;refine⟨λ_=>l,trivial,trivial,λ_=>d,trivial,trivial,λFi L=>(Vx ((H.d_ C9).ext L) ((H.d_ (C7 _ C9)).ext L) (t.ext L) (by omega)).mono λx Mp ⟨e,h15⟩=>?_⟩;subst e;have H:=(H.ext L).ext h15;clear o t a d f l;have ⟨o,t,a,d,f,l⟩:=H.doc;have ⟨h0,ca,la,hB⟩:=H.acJ;refine⟨_,λ_=>ai.of (s:= .el aq) λw' h=>CE (hB.ext h),λ_=>rfl,λ_=>rfl,ag.of _ a ⟨λ_=>rfl,λ_=>rfl,ag.of _ f (an rfl ?_)⟩⟩;clear o t a d f l;refine H.words g'.Sp _ λr1 Lr Mq D H=>?_;rw[Zh _ h0] at D;have ⟨o,t,a,d,f,l⟩:=H.doc;have s1:=H.row D λy hy=>B1 _ hy;have s2:Sl Mq eU (ae Q2.bw) h'.s.1:=Sl.jR o (by rw[Fz (by rw[aK];exact DS _),GS (by rw[aK];exact DS _)]);refine⟨λ_=>f,trivial,trivial,λ_=>a,trivial,trivial,λw17 S=>(OQ (s1.ext S) D.1 (s2.ext S) rfl (by have:=g'.Sp.2;have:=D.1;omega)).mono λx w18 ⟨e,h18⟩=>an (by rw[e];simp) ?_⟩;have H:UH Q X Q2 X2 w w18 h' h' ((b,[aa xv,aa xk,av xa,av xb,av xc])::rows):=((H.ext S).ext h18).sub ((Dx [_, _, _, _] _).trans (Dx _ _));clear o t a d f l s1 s2 hB D;refine⟨λv st w'=> ∃j:Nat,st.1=(j:Int)/\v+j=18/\UH Q X Q2 X2 w w' h' h' ((b,[aa xv,aa xk,av xa,av xb,av xc])::rows),⟨18,λT U=>⟨0,rfl,rfl,H.ext U⟩⟩,?_⟩;clear H;rintro v ⟨W,u⟩ T ⟨j,e,sB,H⟩;have e:W=(j:Int):=e;subst e;dsimp only;refine ab (λB=>?_) (λB=>?_)
   .have hj:j<18:=by have:=of_decide_eq_true B;omega
    refine⟨_,H.live j, _,H.abN j, _,λ_=>H.root j, _,λ_=>H.abO j,an (by simp) λM F=>⟨v - 1,by omega,j+1,nxU (by omega),by omega,H.ext F⟩⟩
   clear B sB;refine⟨λz st w'=> ∃q:Nat,st.1=(q:Int)/\z+q=ps.length/\UH Q X Q2 X2 w w' h' h' ((b,[aa xv,aa xk,av xa,av xb,av xc])::rows),⟨ps.length,λM F=>⟨0,rfl,rfl,H.ext F⟩⟩,?_⟩;clear H;rintro z ⟨Y,u⟩ M ⟨q,e,Wo,H⟩;have e:Y=(q:Int):=e;subst e;dsimp only;refine ab (λG=>?_) (λG=>λZ I=>⟨k - 1,by omega,i+1,h',nxU (by omega),by omega,g',aaN,(H.sub (FB _ _)).ext I⟩);rw[Cd] at G;have hq:=dlt G;have rl: ∀{w'},UH Q X Q2 X2 w w' h' h' ((b,[aa xv,aa xk,av xa,av xb,av xc])::rows)->(r.1.isSome=true/\0<=(q:Int)/\(q:Int)<(r.2.1:Nat))/\bP w' (ad r.1 (AU (q:Int)*1)) aq ps[q]:=λH=>H.abQ hr (λx J=>C7 _ J) hq
   refine⟨rfl,H.a_ 0 rfl (show _=some xv from rfl) ⟨(rl H).1,ag.of _ (rl H).2 (H.query xv ps[q] λZ H=>⟨rfl,H.a_ 0 rfl (show _=some xv from rfl) ⟨(rl H).1,ag.of _ (rl H).2 (H.Zj g' xv ps[q] λw22 H=>⟨rfl,H.a_ 0 rfl (show _=some xv from rfl) ⟨(rl H).1,ag.of _ (rl H).2 ⟨_,H.taken xv ps[q],rfl,H.a_ 0 rfl (show _=some xv from rfl) ⟨(rl H).1,ag.of _ (rl H).2 ⟨_,H.Zi g' xv ps[q],an (by simp) λw23 h23=>⟨z - 1,by omega,q+1,nxU (by omega),by omega,H.ext h23⟩⟩⟩⟩⟩⟩)⟩⟩)⟩⟩
 .clear R;refine⟨λv st w'=> ∃j:Nat,st.1=(j:Int)/\v+j=5/\UH Q X Q2 X2 w w' h h rows,⟨5,λT U=>⟨0,rfl,rfl,H.ext U⟩⟩,?_⟩;clear H;rintro v ⟨W,u⟩ T ⟨j,e,sB,H⟩;have e:W=(j:Int):=e;subst e;dsimp only;refine ab (λB=>?_) (λB=>YZ H.all);have hj:j<5:=by have:=of_decide_eq_true B;omega
  refine⟨λz st w'=> ∃q:Nat,st.1=(q:Int)/\z+q=5/\UH Q X Q2 X2 w w' h h rows,⟨4,λM F=>⟨1,rfl,rfl,H.ext F⟩⟩,?_⟩;clear H;rintro z ⟨Y,u⟩ M ⟨q,e,Wo,H⟩;have e:Y=(q:Int):=e;subst e;dsimp only;refine ab (λG=>?_) (λG=>λZ I=>⟨v - 1,by omega,j+1,nxU (by omega),by omega,H.ext I⟩);have hq:q<5:=by have:=of_decide_eq_true G;omega
  exact⟨_,H.linked j q, _,H.Vy j q,an (by simp) λZ I=>⟨z - 1,by omega,q+1,nxU (by omega),by omega,H.ext I⟩⟩
end Go.Proofs.YteeflilbnoknnaaGreat
