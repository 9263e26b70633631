import Derived.Test.YteeflilbnoknnaaGreatHAC
/-! What the statement leans on: texts joined and shortened by a program of mine. -/
set_option linter.unusedVariables false
set_option linter.unusedSimpArgs false
open Go renaming World->A2,Addr->AE,Value->AG,MapEntry->AT
open Go.Proofs.Tryz renaming prog->AC
open Eq renaming mpr->AR
open Go.IntKind renaming i64->AU
open List renaming range->AZ,getElem?_eq_getElem->B2,getElem?_eq_some_iff->B5,length_cons->C7,length_set->Ce,length_map->Ch,append_nil->DA,sublist_cons_self->DB,mem_of_getElem?->DC,mem_append_right->DS,length_take->Dl,take_of_length_le->Dm,perm_middle->Dn,getElem?_set_ne->Do,getD_eq_getElem?_getD->E5,length_append->FA,mem_cons_self->FB,mem_cons->FC,getElem?_append_left->FJ,replicate->Fe,mem_singleton->Ff,mem_or_eq_of_mem_set->Fh,getElem?_set_self->Fk,drop_of_length_le->Fm,sublist_append_left->Fz,mem_cons_of_mem->GS,map_append->H7,mem_append_left->H8,length_eq_zero_iff->H9,findIdx?_eq_some_iff_getElem->HB,ext_getElem?->HD,append_assoc->HF,not_mem_nil->HH,length_pos_iff->HQ,length_drop->HY,getElem?_map->Hb,getElem?_take_of_lt->Hr,getElem?_drop->Hz,take_add_one->I1,all_eq_false->I8,all_eq_true->I_,getElem?_of_mem->IR,range_succ->In,foldl_cons->J3,drop_eq_getElem_cons->Jc,getElem?_append_right->Jf
open Int renaming toNat->B1,le_refl->Dt,natCast_nonneg->Gi,eq_ofNat_of_zero_le->Jj
open Nat renaming le_refl->B3,mul_one->Da,eq_of_beq_eq_true->Du,ne_of_beq_eq_false->Dx,zero_add->H2
open Prod.mk renaming injEq->B4
open Option.some renaming injEq->C9
open Decidable renaming rec->Cs
open List.Sublist renaming refl->Ct
open Bool renaming or_eq_false_iff->Df,or_eq_true->FS
open Go.Value renaming func->E4,nilFunc->H4,pointer->Jl
open List.Perm renaming swap->H5,cons->H6
namespace Go.Proofs.YteeflilbnoknnaaGreat.D
set_option maxRecDepth 100000
open Go.RX
theorem uq {w:A2} {b:Nat} {e:List Sc} {xs:List (g_ e)} {rest:List AG} (h:bq w b (flat (.agg e) xs++rest)) {i:Nat} {x:g_ e} (a:xs[i]? =some x) {j:Nat} {s:Sc} {y:s.T} (c:j<e.length) (d:(a6 e x)[j]? =some (s.g9 y)):
 bP w (ad (ad (ae b) (i*e.length)) j) (.one s) y:=jl (dK (e:= .agg e) h a) c d
section
variable {D G:List Nat} {w0 w:A2} {L:List (Nat×List AG)}
theorem Qu (H:aJ D G w0 w L) (n:Int) {K:Option AE×Int×Unit->A2->Prop} (hb:n<1\/n>4096-> ∀bp w1,aJ D G w0 w1 ((bp,[.slice none 0 0])::L)->K (some ⟨bp,0,none⟩,1,()) w1)
 (d:1<=n->n<=4096-> ∀bp bf w1,aJ D G w0 w1 ((bp,[.slice (ae bf) n.toNat n.toNat])::(bf,flat eD (Fe n.toNat zD)++[])::L)->K (some ⟨bp,0,none⟩,0,()) w1):
 aA AC 58 (.bu [bF,aq]) [aa n] w K:=by
 refine aA.go H λw1 H=>aj (C:=E0) (AR (Qo n w1 K) ?_);refine ab (λc=>aH.go H λbp a H=>ak.go H λa H=>hb (by simpa using c) bp a H) (λc=>?_);have b:1<=n/\n<=4096:=by simp only[Df,decide_eq_false_iff_not] at c;omega
 refine xG.go H rfl (by omega) (by omega) (by omega) (by omega) λbf a H=>?_;rw[Iu] at H;exact aH.go H λbp f H=>ak.go H λe H=>d b.1 b.2 bp bf e H
end
theorem zA {w:A2} {bp bf n c:Nat} {ds:List DT} {rest:List AG} (g:bq w bp [.slice (ae bf) n c]) (t:bq w bf (flat eD ds++rest)) (u:bp≠bf) (v:n=ds.length) (A:0<n) (f:Int) (k o:Int):
 aC AC 147 aT [ah (ae bp),aa f,aa k,aa o] w
  (λe w'=>e=oY ds f (aI k o)/\bq w' bf (flat eD (eC ds f (aI k o))++rest)/\Fr [bf] w w'):=by
 subst v;refine aj (C:=E0) (AR (Qq _ f k o w _) ?_);have H:=At.mn t;have h:bp∉[bf]:=by simpa using u
 refine⟨λ_=>rfl,λ_=>rfl,ag.g6 H g h rfl (ab (λj=>ak.go H λw1 H=>?_) (λj=>?_))⟩
 .have a:f<0\/f>=ds.length:=by simpa using j
  exact⟨(x9 (by omega) a _).symm,by rw[tQ a];exact H.get (i:=0) rfl,H.fr⟩
 .have a:0<=f/\f<ds.length:=by simp only[Df,decide_eq_false_iff_not] at j;omega
  have r:f.toNat<ds.length:=by omega
  have s:ds[f.toNat]? =some ds[f.toNat]:=B2 r;have x:ds.getD f.toNat zD=ds[f.toNat]:=by rw[E5,s];rfl
  have l:=sS a (aI k o);have m:=oA a (aI k o);rw[x] at l m;generalize hd:ds[f.toNat]=d at*
  refine⟨rfl,rfl,ag.g6 H g h rfl ⟨⟨rfl,a.1,a.2⟩,ag.of d (dK (H.get (i:=0) rfl) s) ⟨trivial,?_⟩⟩⟩;refine aH.go H λb y H=>aw.all 0 H rfl rfl rfl λy H=>ab (λp=>⟨rfl,rfl,ag.g6 H g h rfl (ag.at 0 H rfl rfl ⟨⟨rfl,a.1,a.2⟩,?_⟩)⟩) (λp=>ak.go H λz H=>?_)
  .have q:((aI k o) d).2=0:=beq_iff_eq.1 p;refine aw.flat (e:=eD) 1 H (xs:=ds) (rest:=rest) ((aI k o) d).1 rfl rfl rfl r λz H=>ak.go H λB H=>?_;exact⟨l.symm,by rw[m,az q];exact H.get (i:=1) rfl,H.fr⟩
  .have q: ¬ ((aI k o) d).2=0:=beq_eq_false_iff_ne.1 p;exact⟨l.symm,by rw[m,ar q];exact H.get (i:=1) rfl,H.fr⟩
theorem Qv {w:A2} {bp bf n c:Nat} {ds:List DT} {rest:List AG} (g:bq w bp [.slice (ae bf) n c]) (r:bq w bf (flat eD ds++rest)) (s:bp≠bf) (t:n=ds.length) (z:0<n) (f:Int) (x:Int) (hi: -9223372036854775808<=x/\x<9223372036854775808):
 aC AC 160 aT [ah (ae bp),aa f,aa x] w
  (λe w'=>e=oY ds f (fA x)/\bq w' bf (flat eD (eC ds f (fA x))++rest)/\Fr [bf] w w'):=by
 subst t;refine aj (C:=E0) (AR (Qr _ f x w _) ?_);have H:=At.mn r;have h:bp∉[bf]:=by simpa using s
 refine⟨λ_=>rfl,λ_=>rfl,ag.g6 H g h rfl (ab (λj=>ak.go H λw1 H=>?_) (λj=>?_))⟩
 .have a:f<0\/f>=ds.length:=by simpa using j
  exact⟨(x9 (by omega) a _).symm,by rw[tQ a];exact H.get (i:=0) rfl,H.fr⟩
 .have a:0<=f/\f<ds.length:=by simp only[Df,decide_eq_false_iff_not] at j;omega
  have p:f.toNat<ds.length:=by omega
  have q:ds[f.toNat]? =some ds[f.toNat]:=B2 p;have u:ds.getD f.toNat zD=ds[f.toNat]:=by rw[E5,q];rfl
  have k:=sS a (fA x);have l:=oA a (fA x);rw[u] at k l;generalize hd:ds[f.toNat]=d at*
  refine⟨rfl,rfl,ag.g6 H g h rfl ⟨⟨rfl,a.1,a.2⟩,ag.of d (dK (H.get (i:=0) rfl) q) ⟨hi,?_⟩⟩⟩;refine aH.go H λb v H=>aw.all 0 H rfl rfl rfl λv H=>ab (λm=>⟨rfl,rfl,ag.g6 H g h rfl (ag.at 0 H rfl rfl ⟨⟨rfl,a.1,a.2⟩,?_⟩)⟩) (λm=>ak.go H λy H=>?_)
  .have o:((fA x) d).2=0:=beq_iff_eq.1 m;refine aw.flat (e:=eD) 1 H (xs:=ds) (rest:=rest) ((fA x) d).1 rfl rfl rfl p λy H=>ak.go H λA H=>?_;exact⟨k.symm,by rw[l,az o];exact H.get (i:=1) rfl,H.fr⟩
  .have o: ¬ ((fA x) d).2=0:=beq_eq_false_iff_ne.1 m;exact⟨k.symm,by rw[l,ar o];exact H.get (i:=1) rfl,H.fr⟩
theorem Qw {w:A2} {bp bf n c:Nat} {ds:List DT} {rest:List AG} (b:bq w bp [.slice (ae bf) n c]) (d:bq w bf (flat eD ds++rest)) (a:bp≠bf) (g:n=ds.length) (h:0<n) (f:Int):
 aC AC 237 aT [ah (ae bp),aa f] w (λe w'=>e=oY ds f (aI 0 0)/\bq w' bf (flat eD (eC ds f (aI 0 0))++rest)/\Fr [bf] w w'):=by
 refine aj (C:=E0) (AR (Qs _ f w _) ?_);have H:=At.mn d;have j:bp∉[bf]:=by simpa using a
 refine aA.tC H 0 rfl (λk H=>zA (H.iQ b j) (H.get (i:=0) rfl) a g h f 0 0) λk H=>ak.go H λl H=>?_;exact⟨rfl,H.get (i:=0) rfl,H.fr⟩
theorem Qx {w:A2} {bp bf n c:Nat} {ds:List DT} {rest:List AG} (g:bq w bp [.slice (ae bf) n c]) (t:bq w bf (flat eD ds++rest)) (p:bp≠bf) (x:n=ds.length) (y:0<n) (E:n<=4096) (k o:Int):
 aC AC 233 (.bu [aq,aq]) [ah (ae bp),aa k,aa o] w
  (λv w'=>v=(dV ds k o,cJ ds k o,())/\bq w' bf (flat eD (cX ds k o)++rest)/\Fr [bf] w w'):=by
 subst x;refine aj (C:=E0) (b_:=uZ) (AR (Qt _ k o w _) ?_);have h:bp∉[bf]:=by simpa using p
 refine⟨λn s w'=> ∃i:Nat,s.1=i/\n+i=ds.length/\At [bf] w w' [(bf,flat eD ds++rest)]/\ ∀(j:Nat) d,j<i->ds[j]? =some d->d.1≠0,⟨ds.length,λw1 z=>⟨0,rfl,rfl,(At.mn t).ext z,λj d b=>absurd b (by omega)⟩⟩,?_⟩;rintro n ⟨F,u⟩ w1 ⟨i,hi,G,H,b⟩;simp only at hi;subst hi;refine⟨rfl,rfl,ag.g6 H g h rfl (ab (λc=>?_) (λc=>?_))⟩
 .have A:i<ds.length:=by simp only[decide_eq_true_eq] at c;omega
  have f:ds[i]? =some ds[i]:=B2 A;generalize hd:ds[i]=d at f;refine⟨rfl,rfl,ag.g6 H g h rfl ⟨⟨rfl,Gi i,by simpa using c⟩,rfl,ag.of d.1 (uq (e:=sD) (H.get (i:=0) rfl) f (by decide) rfl) (ab (λl=>?_) (λl=>?_))⟩⟩
  .have a:=BB f (by simpa using l) b;refine aA.tC H 0 rfl (λB H=>zA (H.iQ g h) (H.get (i:=0) rfl) p rfl y _ k o) λB H=>?_;have q:cX ds k o=eC ds i (aI k o):=by unfold cX;rw[a]
   refine ab (λc=>ak.go H λr H=>?_) (λc=>ak.go H λr H=>?_)
   .have hc: ¬ oY ds (i:Nat) (aI k o)=0:=by simpa using c
    refine⟨?_,by rw[q];exact H.get (i:=0) rfl,H.fr⟩;unfold dV cJ;rw[a,ar (by omega)];simp only[ar hc]
   .have hc:oY ds (i:Nat) (aI k o)=0:=by simpa using c
    refine⟨?_,by rw[q];exact H.get (i:=0) rfl,H.fr⟩;unfold dV cJ;rw[a,ar (by omega)];simp[hc]
  .refine λI D=>⟨n - 1,by omega,i+1,by rw[ao (by omega) (by omega)];rfl,by omega,H.ext D,λj d' J m=>?_⟩;by_cases e:j=i
   .subst e;rw[f] at m;cases m;simpa using l
   .exact b j d' (by omega) m
 .have a:jh ds=none:=BA λj d hd=>b j d (by have:=(B5.1 hd).1;simp only[decide_eq_false_iff_not] at c;omega) hd;refine ak.go H λr H=>⟨?_,?_,H.fr⟩
  .unfold dV cJ;rw[a,ar (by omega)]
  .have:cX ds k o=ds:=by unfold cX;rw[a]
   rw[this];exact H.get (i:=0) rfl
theorem Kp {w:A2} {bp bf n c:Nat} {ds:List DT} {rest:List AG} (h:bq w bp [.slice (ae bf) n c]) (l:bq w bf (flat eD ds++rest)) (m:n=ds.length) (t:n<=4096) (v:Int):
 aC AC 309 aT [ah (ae bp),aa v] w (λx w'=>x=(cB ds v:Int)/\Ext w w'):=by
 subst m;refine aj (C:=E0) (b_:=sg) (AR (Km _ v w _) ?_);refine⟨λn s w'=> ∃i:Nat,s.1=(cB (ds.take i) v:Nat)/\s.2.1=i/\n+i=ds.length/\At [] w w' [],⟨ds.length,λw1 o=>⟨0,rfl,rfl,rfl,(At.start [] w).ext o⟩⟩,?_⟩;rintro n ⟨a,y,u⟩ w1 ⟨i,j,hi,z,H⟩;simp only at hi j;subst hi;subst j;refine⟨rfl,rfl,ag.g6 H h (by simp) rfl (ab (λc=>?_) (λc=>?_))⟩
 .have p:i<ds.length:=by simp only[decide_eq_true_eq] at c;omega
  have b:ds[i]? =some ds[i]:=B2 p;generalize hd:ds[i]=d at b;have A:cB (ds.take i) v<=4096:=Nat.le_trans List.countP_le_length (by rw[Dl];omega);have k:ay .i64 ((i:Nat):Int) 1=((i+1:Nat):Int):=by rw[ao (by omega) (by omega)];rfl
  have q:ay .i64 ((cB (ds.take i) v:Nat):Int) 1=((cB (ds.take i) v+1:Nat):Int):=by rw[ao (by omega) (by omega)];rfl
  refine⟨rfl,rfl,ag.g6 H h (by simp) rfl ⟨⟨rfl,Gi i,by simpa using c⟩,rfl,ag.of d.1 (uq (e:=sD) (H.iQ l (by simp)) b (by decide) rfl) (ab (λf=>?_) (λf=>?_))⟩⟩
  .exact λr g=>⟨n - 1,by omega,i+1,by rw[q,um b,az (by simpa using f)],k,by omega,H.ext g⟩
  .exact λr g=>⟨n - 1,by omega,i+1,by rw[um b,ar (by simpa using f)];rfl,k,by omega,H.ext g⟩
 .have hi:ds.length<=i:=by simp only[decide_eq_false_iff_not] at c;omega
  refine ak.go H λB H=>⟨by rw[Dm hi],H.all⟩
theorem Kq {w:A2} {bp bf n c:Nat} {ds:List DT} {rest:List AG} (j:bq w bp [.slice (ae bf) n c]) (m:bq w bf (flat eD ds++rest)) (o:n=ds.length) (F:n<=4096) (v:Int):
 aC AC 143 di [ah (ae bp),aa v] w (λr w'=>kx w w' eI r ((dL ds v).map λi=>((i:Nat):Int))/\Ext w w'):=by
 subst o;refine aj (C:=E0) (b_:=si) (AR (Ko _ v w _) ?_)
 let a:Nat->List Int:=λi=>(dL (ds.take i) v).map λi=>((i:Nat):Int)
 have p: ∀i,(a i).length<=4096:=λi=>by
  simp only[a,Ch];refine Nat.le_trans (List.length_filter_le _ _) ?_;simp only[List.length_range,Dl];omega
 refine⟨λn s w'=> ∃(i:Nat) (Ls:List (Nat×List AG)),s.2.1=i/\n+i=ds.length/\At [] w w' (Ls++[])/\((s.1=(none,0,0)/\a i=[]/\Ls=[])\/ ∃bs cs rs,s.1=(some ⟨bs,0,none⟩,(a i).length,cs)/\Ls=[(bs,flat eI (a i)++rs)]/\(flat eI (a i)++rs).length=cs*aM eI/\(a i).length<=cs),
  ⟨ds.length,λw1 q=>⟨0,[],rfl,rfl,(At.start [] w).ext q,.inl ⟨rfl,rfl,rfl⟩⟩⟩,?_⟩
 rintro n ⟨s,G,u⟩ w1 ⟨i,Ls,hi,I,H,b⟩;simp only at hi b;subst hi;refine⟨rfl,rfl,ag.g6 H j (by simp) rfl (ab (λc=>?_) (λc=>?_))⟩
 .have t:i<ds.length:=by simp only[decide_eq_true_eq] at c;omega
  have f:ds[i]? =some ds[i]:=B2 t;generalize hd:ds[i]=d at f;have k:ay .i64 ((i:Nat):Int) 1=((i+1:Nat):Int):=by rw[ao (by omega) (by omega)];rfl
  have J:=p i;refine⟨rfl,rfl,ag.g6 H j (by simp) rfl ⟨⟨rfl,Gi i,by simpa using c⟩,rfl,ag.of d.2.1 (uq (e:=sD) (H.iQ m (by simp)) f (by decide) rfl) (ab (λg=>?_) (λg=>?_))⟩⟩
  .have e:a (i+1)=a i++[((i:Nat):Int)]:=by simp only[a,uo f,az (show d.2.1=v by simpa using g),H7,List.map_cons,List.map_nil]
   have l:(a (i+1)).length=(a i).length+1:=by rw[e];simp
   refine aH.go H λb2 K H=>λL y=>?_;refine aJ.grow (e:=eI) (x:=((i:Nat):Int)) (Ls:=Ls) (L0:=[]) (H.ext y) b rfl rfl rfl (by omega) λbs cs rs M z A H N B=>?_;refine⟨n - 1,by omega,i+1,[(bs,flat eI (a (i+1))++rs)],k,by omega,?_,.inr ⟨bs,cs,rs,by rw[l],rfl,by rw[e];exact z,by rw[l];exact A⟩⟩;rw[e];exact H.ext B
  .have e:a (i+1)=a i:=by simp only[a,uo f,ar (show ¬ d.2.1=v by simpa using g),DA]
   exact λO h=>⟨n - 1,by omega,i+1,Ls,k,by omega,H.ext h,by rw[e];exact b⟩
 .have hi:ds.length<=i:=by simp only[decide_eq_false_iff_not] at c;omega
  refine ak.go H λP H=>⟨?_,H.all⟩;have D:a i=(dL ds v).map λi=>((i:Nat):Int):=by simp only[a,Dm hi]
  rw[<-D];rcases b with ⟨rfl,h2,rfl⟩|⟨bs,cs,rs,rfl,rfl,h,E⟩
  .rw[h2];exact kx.nil _ _ _
  .refine⟨rfl,E,.inr ⟨bs, _,rfl,(H.own _ (H8 _ (Ff.2 rfl))).resolve_right (by simp),H.get (i:=0) rfl,h,?_⟩⟩;rw[List.take_append_of_le_length (by rw[aK];exact B3 _),Dm (by rw[aK];exact B3 _)]
end Go.Proofs.YteeflilbnoknnaaGreat.D
namespace Go.Proofs.YteeflilbnoknnaaGreat
set_option maxRecDepth 100000
open Go.RX
abbrev aak:Sh:= .el (.one (.vk 311 2))
abbrev FW:Sh:= .el (.one (.vk 362 3))
noncomputable def N0:fa AC:={M0 with sh:=[(251,aak),(334,FW)],quiet:=[17,339,78,123,166,81,288,168,338]}
theorem Ks (p:Option AE) (w:A2) (a:Int->A2->Prop):(aL N0 (λ_=>[]) 166 [ah p] w a)=(
 ((!p.isNone)=true->p.isSome=true)/\((!p.isNone)=true->p.isSome=true)/\ag w (some !p.isNone) (ad p 0) bF λx=>aD (p.isNone||x.isNone) (ak w (a 10)) (tA p 4 w λx=>aD x (ak w (a 6)) (ak w (a 0)))):=by kernel_rfl
theorem Qy (p:Option AE) (w:A2) (a:Int->A2->Prop):(aL N0 (λ_=>[]) 81 [ah p] w a)=(
 ∃(x:Int),ai AC 166 [ah p] w (aa x)/\aD (x != 0) (ak w (a (-1))) (dw p 3 w λx=>ak w (a x))):=by kernel_rfl
theorem Kt (p f r:Int) (w:A2) (a:Int->A2->Prop):(aL N0 (λ_=>[]) 288 [aa p,aa f,aa r] w a)=(
 aD (decide (p<0)||decide (p>=65536)||decide (f<0)||decide (f>=4096)) (ak w (a 2)) (aD (decide (r<1)||decide (r>7)) (ak w (a 7)) (ak w (a 0)))):=by kernel_rfl
theorem Ku (f:Int) (w:A2) (c:(Bool×Int×Bool×Int×Unit)->A2->Prop):(bO N0 (λ_=>[]) 338 [aa f] w c)=(
 aH w ⟨[.bool false,aa 0,.bool false,aa 0]⟩ 301 λb a=>aw a (ae b) [.bool true,aa 0,.bool false,aa f] λa=>ak a λw1=>ag w1 none (ae b) fp λ(x:Bool×Int×Bool×Int×Unit)=>c (x.1,x.2.1,x.2.2.1,x.2.2.2.1,()) w1):=by kernel_rfl
theorem Kv (p d e f:Int) (ep:Bool) (er:Int) (el:Bool) (ef:Int) (w:A2) (c:Int->A2->Prop):(aL N0 (λ_=>[]) 168 [aa p,.agg ⟨[aa d,aa e,aa f]⟩,.agg ⟨[.bool ep,aa er,.bool el,aa ef]⟩] w c)=(
 aH w ⟨[aa d,aa e,aa f]⟩ 299 λb a=>aH a ⟨[.bool ep,aa er,.bool el,aa ef]⟩ 301 λg a=>true=true/\aN a (ad (ae b) 1) λx=>aD (x==1) (true=true/\aN a (ad (ae g) 3) λx=>True/\iS 1≠0/\ak a λw1=>c (ay .i64 x (gj p (iS 1))) w1) (true=true/\aN a (ad (ae g) 3) λx=>ak a (c x))):=by kernel_rfl
theorem N8 (p:Option AE) (i:Int) (w:A2) (c:(Bool×Int×Bool×Int×Unit)->A2->Prop):(bO N0 (λ_=>[]) 252 [ah p,aa i] w c)=(
 aH w ⟨[.bool false,aa 0,.bool false,aa 0]⟩ 301 λb a=>bh p 0 a λx=>aA AC 221 (.bu [.one eh,aq]) [ah x,aa i] a λ(x:Int×Int×Unit) a=>U (B x.1)=x.1/\aH a ⟨[.bool false,aa 0,.bool false,aa 0]⟩ 301 λd a=>aw a (ae d) [.bool (vo (B x.1).toNat),aa (vp (B x.1).toNat),.bool (wk (B x.1).toNat),aa (tr (B x.1).toNat)] λa=>ag a none (ae d) fp λ(x:Bool×Int×Bool×Int×Unit)=>aw a (ae b) [.bool x.1,aa x.2.1,.bool x.2.2.1,.int
 .i64 x.2.2.2.1] λa=>ak a λw1=>ag w1 none (ae b) fp λ(x:Bool×Int×Bool×Int×Unit)=>c (x.1,x.2.1,x.2.2.1,x.2.2.2.1,()) w1):=by kernel_rfl
theorem Ul (p:Option AE) (i:Int) (ep:Bool) (er:Int) (el:Bool) (ef:Int) (w:A2) (c:Unit->A2->Prop):(aL N0 (λ_=>[]) 294 [ah p,aa i,.agg ⟨[.bool ep,aa er,.bool el,aa ef]⟩] w c)=(
 aH w ⟨[.bool ep,aa er,.bool el,aa ef]⟩ 301 λb a=>ag a none (ae b) fp λ(x:Bool×Int×Bool×Int×Unit)=>True/\bh p 0 a λd=>aA AC 216 aT [ah d,aa i,av (xU x.1 x.2.1 x.2.2.1 x.2.2.2.1)] a λ(x:Int) a=>ak a (c ())):=by kernel_rfl
theorem Um (p:Option AE) (pg:Int) (w:A2) (c:Option AE×Option AE×Unit->A2->Prop):(aL N0 (λ_=>[]) 251 [ah p,aa pg] w c)=(
 aH w ⟨[ah p]⟩ 171 λb a=>aH a ⟨[aa pg]⟩ 3 λd a=>ak a (c (some ⟨b,0,none⟩,some ⟨d,0,none⟩,()))):=by kernel_rfl
def u0:Nat->aW:=(λ|2=>[(4,Go.RX.El.one (Go.RX.Sc.int AU)),(5,Go.RX.El.one (Go.RX.Sc.int AU))]| _=>[])
theorem Qz (y:Nat) (p c:Option AE) (w:A2) (d:Unit->A2->Prop):(aL N0 u0 311 [.func (.yield y) #[] #[],ah p,ah c] w d)=(
 eJ w p λx=>dw x 3 w λx=> ∃(I:Nat->Int×Int×Unit->A2->Prop),(∃n, ∀w1,Ext w w1->I n (x,3,()) w1)/\ ∀(n:Nat) (s:Int×Int×Unit) (w1:A2),I n s w1->aD (decide (s.2.1>=0)) (aN w1 c λx=>True/\aH w1 ⟨[aa 0,aa 0,aa 0]⟩ 299 λb a=>aw a (ae b) [aa s.1,aa s.2.1,aa (c9 s.1 x s.2.1)] λa=>eJ a p λx=>true=true/\aN a (ad (ae b) 2) λh=>aA AC 252 (.el fp) [ah x,aa h] a λ(x:Bool×Int×Bool×Int×Unit) a=>aH a ⟨[.bool false,
 aa 0,.bool false,aa 0]⟩ 301 λe a=>aw a (ae e) [.bool x.1,aa x.2.1,.bool x.2.2.1,aa x.2.2.2.1] λa=>ag a none (ae b) AM λ(x:Int×Int×Int×Unit)=> ∀w1,Ext a w1->nA AC y [.agg ⟨[aa x.1,aa x.2.1,aa x.2.2.1]⟩] w1 λ(b:Bool) a=>ag a (some !!b) (ae e) fp λ(x:Bool×Int×Bool×Int×Unit)=>((!!b)=true->True)/\aD (!b|| !cP x.1 x.2.1 x.2.2.1 x.2.2.2.1) (ak a (d ())) (true=true/\aN a (ad (ae e) 3) λx=> ∀f,Ext a f-> ∃(g:Nat),g<n/\
 I g (x,aR .i64 s.2.1 1,()) f)) (ak w1 (d ()))):=by kernel_rfl
def u5:Nat->aW:=(λ|4=>[(6,.agg [aG,aG,aG])]| _=>[])
theorem QA (p c:Option AE) (w:A2) (e:Option AE×Nat×Nat->A2->Prop):(bO N0 u5 250 [.func (.func 311) #[] #[ah p,ah c]] w e)=(
 aH w ⟨[.slice none 0 0]⟩ 349 λb a=>Aw AC 311 (λ(y:Nat)=>[.func (Fn.yield y) ⟨[]⟩ ⟨[]⟩,ah p,ah c]) ⟨[6]⟩ a (λ(x:(Int×Int×Int×Unit)×Unit)=>[.agg ⟨[aa x.1.1,aa x.1.2.1,aa x.1.2.2.1]⟩]) (λ(l:Nat) (rec:Loop) (x:(Int×Int×Int×Unit)×Unit) g (R:Bool->A2->Prop)=>De l rec [Value.agg ⟨[aa x.1.1,aa x.1.2.1,aa x.1.2.2.1]⟩].length 1 g (aH g ⟨[aa 0,aa 0,aa 0]⟩ 299 λi a=>aw a (ae i) [aa x.1.1,aa x.1.2.1,.int .i64
 x.1.2.2.1] λa=>B_ l rec a λd=>pJ d (ae b) λx=>ag d none (ae i) AM λ(f:Int×Int×Int×Unit)=>aH d ⟨[aa f.1,aa f.2.1,aa f.2.2.1]⟩ 299 λj a=> ∀w1,Ext a w1->nm w1 299 3 24 ⟨[aa 0,aa 0,aa 0]⟩ (x.1,x.2.1,x.2.2) (some ⟨j,0,none⟩,1,1) λ(r:Option AE×Nat×Nat) a=>aw a (ae b) [.slice r.1 r.2.1 r.2.2] λa=>tj l rec none a R)) λ(r:Nat) (rec:Loop) k=>dX (r+1) rec
 k (λd=>pJ d (ae b) λx=>tq [r] d λw1=>e (x.1,x.2.1,x.2.2) w1) (λ(id:Nat) d=>Cs (λ(h:id=0->False)=>False) (λ(h:id=0)=>pJ d (ae b) λx=>tq [r] d λw1=>e (x.1,x.2.1,x.2.2) w1) (match h:id.beq 0 with|true=>isTrue (Du h)|false=>isFalse (Dx h))) λd=>tq [r] d λw1=>e (none,0,0) w1):=by kernel_rfl
theorem Un (p:Option AE) (pg:Int) (w:A2) (f:(Int×Int×Int×Unit)×(Bool×Int×Bool×Int×Unit)×Unit->A2->Prop):(bO N0 (λ_=>[]) 167 [ah p,aa pg] w f)=(
 aH w ⟨[aa 0,aa 0,aa 0]⟩ 299 λb a=>aH a ⟨[.bool false,aa 0,.bool false,aa 0]⟩ 301 λg a=>aA AC 251 (.el (.one (.vk 311 2))) [ah p,aa pg] a λx a=>aA AC 250 di [.func (.func 311) ⟨[]⟩ ⟨[ah x.1,ah x.2.1]⟩] a λx a=>(x.1.isSome=true/\0<=aR .i64 (↑x.2.1:Int) 1/\aR .i64 (↑x.2.1:Int) 1<(↑x.2.1:Int))/\ag a none (ad x.1 ((aR .i64 (↑x.2.1:Int) 1).toNat*3)) AM λ(x:Int×Int×Int×Unit)=>aH a ⟨[aa 0,aa 0,aa 0]⟩ 299 λc
 a=>aw a (ae c) [aa x.1,aa x.2.1,aa x.2.2.1] λa=>ag a none (ae c) AM λ(x:Int×Int×Int×Unit)=>true=true/\aN a (ad (ae c) 2) λh=>aA AC 252 (.el fp) [ah p,aa h] a λ(d:Bool×Int×Bool×Int×Unit) a=>bP a (ae c) AM x/\aw a (ae b) [aa x.1,aa x.2.1,aa x.2.2.1] λa=>aw a (ae g) [.bool d.1,aa d.2.1,.bool d.2.2.1,aa d.2.2.2.1] λa=>ak a λw1=>ag w1 none (ae b) AM λ(x:Int×Int×Int×Unit)=>ag w1
 none (ae g) fp λ(e:Bool×Int×Bool×Int×Unit)=>f ((x.1,x.2.1,x.2.2.1,()),(e.1,e.2.1,e.2.2.1,e.2.2.2.1,()),()) w1):=by kernel_rfl
def sj:Nat->aW:=(λ|5=>[(24,Go.RX.El.one (Go.RX.Sc.int AU))]| _=>[])
theorem Kw (p:Option AE) (w:A2) (b:Int×Int×Unit->A2->Prop):(aL N0 sj 279 [ah p,.func (.func 280) #[] #[]] w b)=(
 bh p 1 w λx=>dw p 2 w λf=>aA AC 213 (.bu [aq,aq]) [ah x,aa 3,aa f] w λ(x:Int×Int×Unit) a=>aD (x.2.1 != 0) (ak a (b (0,x.2.1,()))) (∃(I:Nat->Int×Unit->A2->Prop),(∃n, ∀w1,Ext a w1->I n (0,()) w1)/\ ∀(n:Nat) (s:Int×Unit) (w1:A2),I n s w1->aD (decide (s.1<16)) (bh p 0 w1 λc=>aA AC 280 (.el gZ) [aa s.1] w1 λ(g:Int) a=>True/\True/\bP a (ad p 0) bF c/\True/\True/\aA AC 216 aT [ah c,
 aa (ay .i64 (dk .i64 16 x.1) s.1),av g] a λ(x:Int) a=> ∀d,Ext a d-> ∃(e:Nat),e<n/\I e (ay .i64 s.1 1,()) d) (ak w1 (b (x.1,0,()))))):=by kernel_rfl
def sk:Nat->aW:=(λ|5=>[(24,Go.RX.El.one (Go.RX.Sc.int AU))]| _=>[])
theorem Ky (p:Option AE) (w:A2) (b:Int×Int×Unit->A2->Prop):(aL N0 sk 279 [ah p,.func (.func 337) #[] #[]] w b)=(
 bh p 1 w λx=>dw p 2 w λf=>aA AC 213 (.bu [aq,aq]) [ah x,aa 3,aa f] w λ(x:Int×Int×Unit) a=>aD (x.2.1 != 0) (ak a (b (0,x.2.1,()))) (∃(I:Nat->Int×Unit->A2->Prop),(∃n, ∀w1,Ext a w1->I n (0,()) w1)/\ ∀(n:Nat) (s:Int×Unit) (w1:A2),I n s w1->aD (decide (s.1<16)) (bh p 0 w1 λc=>aA AC 337 (.el gZ) [aa s.1] w1 λ(g:Int) a=>True/\True/\bP a (ad p 0) bF c/\True/\True/\aA AC 216 aT [ah c,
 aa (ay .i64 (dk .i64 16 x.1) s.1),av g] a λ(x:Int) a=> ∀d,Ext a d-> ∃(e:Nat),e<n/\I e (ay .i64 s.1 1,()) d) (ak w1 (b (x.1,0,()))))):=by kernel_rfl
def sm:Nat->aW:=(λ|5=>[(24,Go.RX.El.one (Go.RX.Sc.int AU))]| _=>[])
theorem Kz (p e:Option AE) (w:A2) (b:Int×Int×Unit->A2->Prop):(aL N0 sm 279 [ah p,.func (.func 340) #[] #[ah e]] w b)=(
 bh p 1 w λx=>dw p 2 w λg=>aA AC 213 (.bu [aq,aq]) [ah x,aa 3,aa g] w λ(x:Int×Int×Unit) a=>aD (x.2.1 != 0) (ak a (b (0,x.2.1,()))) (∃(I:Nat->Int×Unit->A2->Prop),(∃n, ∀w1,Ext a w1->I n (0,()) w1)/\ ∀(n:Nat) (s:Int×Unit) (w1:A2),I n s w1->aD (decide (s.1<16)) (bh p 0 w1 λc=>aA AC 340 (.el gZ) [aa s.1,ah e] w1 λ(h:Int) a=>True/\True/\bP a (ad p 0) bF c/\True/\True/\aA AC 216 aT
 [ah c,aa (ay .i64 (dk .i64 16 x.1) s.1),av h] a λ(x:Int) a=> ∀d,Ext a d-> ∃(f:Nat),f<n/\I f (ay .i64 s.1 1,()) d) (ak w1 (b (x.1,0,()))))):=by kernel_rfl
theorem QB (i:Int) (w:A2) (a:Int->A2->Prop):(aL N0 (λ_=>[]) 280 [aa i] w a)=(
 ak w (a 0)):=by kernel_rfl
theorem QC (i:Int) (w:A2) (a:Int->A2->Prop):(aL N0 (λ_=>[]) 337 [aa i] w a)=(
 ak w (a 0)):=by kernel_rfl
theorem GH (i:Int) (e:Option AE) (w:A2) (a:Int->A2->Prop):(aL N0 (λ_=>[]) 340 [aa i,ah e] w a)=(
 e.isSome=true/\aN w (ad e 1) λx=>e.isSome=true/\aN w (ad e 3) λb=>True/\ak w (a (xU true x false (ay .i64 b i)))):=by kernel_rfl
def wY:Nat->aW:=(λ|6=>[]| _=>[])
theorem Uo (p:Option AE) (pg lv:Int) (ep:Bool) (er:Int) (el:Bool) (ef:Int) (w:A2) (f:Int->A2->Prop):(aL N0 wY 289 [ah p,aa pg,aa lv,.agg ⟨[.bool ep,aa er,.bool el,aa ef]⟩] w f)=(
 aH w ⟨[.bool ep,aa er,.bool el,aa ef]⟩ 301 λb a=>aA AC 167 (.bu [.agg [aG,aG,aG],.agg [.bool,aG,.bool,aG]]) [ah p,aa pg] a λ(x:(Int×Int×Int×Unit)×(Bool×Int×Bool×Int×Unit)×Unit) a=>aH a ⟨[aa 0,aa 0,aa 0]⟩ 299 λc a=>aH a ⟨[.bool false,aa 0,.bool false,aa 0]⟩ 301 λg a=>aw a (ae c) [aa x.1.1,aa x.1.2.1,aa x.1.2.2.1] λa=>aw a (ae g) [.bool x.2.1.1,aa x.2.1.2.1,.bool
 x.2.1.2.2.1,aa x.2.1.2.2.2.1] λa=>true=true/\jc a (ad (ae g) 0) λx=>((!x)=true->true=true)/\ag a (some !x) (ad (ae c) 1) aq λ(k:Int)=>aD (x||decide (k<lv)) (ak a (f 5)) (bh p 1 a λx=> ∃(h:Int),ai AC 123 [ah x,aa 0] a (aa h)/\true=true/\aN a (ad (ae c) 1) λx=>aD (decide (h<aR .i64 x lv)) (ak a (f 12)) (∃(I:Nat->Unit->A2->Prop),(∃n, ∀w1,Ext a w1->I n () w1)/\ ∀(n:Nat) (s:Unit) (w1:A2),I n s w1->true=true/\aN w1 (ad
 (ae c) 1) λx=>aD (decide (x>lv)) (aA AC 279 (.bu [aq,aq]) [ah p,.func (.func 337) ⟨[]⟩ ⟨[]⟩] w1 λ(x:Int×Int×Unit) a=>true=true/\aN a (ad (ae c) 2) λe=> ∃(d:Bool×Int×Bool×Int×Unit),ai AC 338 [aa x.1] a (.agg ⟨[.bool d.1,aa d.2.1,.bool d.2.2.1,aa d.2.2.2.1]⟩)/\aA AC 294 (.bu []) [ah p,aa e,.agg ⟨[.bool d.1,aa d.2.1,.bool d.2.2.1,aa d.2.2.2.1]⟩] a λo a=>true=true/\aN a (ad (ae c) 1)
 λl=>true=true/\aN a (ad (ae c) 1) λm=>True/\aw a (ae c) [aa x.1,aa (aR .i64 l 1),aa (c9 x.1 pg (aR .i64 m 1))] λa=> ∀i,Ext a i-> ∃(j:Nat),j<n/\I j () i) (true=true/\aN w1 (ad (ae c) 2) λx=>ag w1 none (ae b) fp λ(e:Bool×Int×Bool×Int×Unit)=>aA AC 294 (.bu []) [ah p,aa x,.agg ⟨[.bool e.1,aa e.2.1,.bool e.2.2.1,aa e.2.2.2.1]⟩] w1 λx a=>ak a (f 0))))):=by kernel_rfl
theorem Uq (p:Option AE) (pg f r:Int) (w:A2) (a:Int->A2->Prop):(aL N0 (λ_=>[]) 214 [ah p,aa pg,aa f,aa r] w a)=(
 ∃(x:Int),ai AC 166 [ah p] w (aa x)/\aD (x != 0) (ak w (a x)) (∃(x:Int),ai AC 288 [aa pg,aa f,aa r] w (aa x)/\aD (x != 0) (ak w (a x)) (aA AC 289 aT [ah p,aa pg,aa 0,.agg ⟨[.bool true,aa r,.bool false,aa f]⟩] w λ(x:Int) b=>ak b (a x)))):=by kernel_rfl
theorem KA (p:Option AE) (pg:Int) (w:A2) (c:Int×Int×Int×Unit->A2->Prop):(aL N0 (λ_=>[]) 83 [ah p,aa pg] w c)=(
 ∃(x:Int),ai AC 166 [ah p] w (aa x)/\aD (x != 0) (ak w (c (0,0,x,()))) (aD (decide (pg<0)||decide (pg>=65536)) (ak w (c (0,0,2,()))) (aA AC 167 (.bu [.agg [aG,aG,aG],.agg [.bool,aG,.bool,aG]]) [ah p,aa pg] w λ(x:(Int×Int×Int×Unit)×(Bool×Int×Bool×Int×Unit)×Unit) a=>aH a ⟨[aa 0,aa 0,aa 0]⟩ 299 λb a=>aH a ⟨[.bool false,aa 0,.bool false,aa 0]⟩ 301 λd a=>aw a (ae b) [aa x.1.1,.int
 .i64 x.1.2.1,aa x.1.2.2.1] λa=>aw a (ae d) [.bool x.2.1.1,aa x.2.1.2.1,.bool x.2.1.2.2.1,aa x.2.1.2.2.2.1] λa=>true=true/\jc a (ad (ae d) 0) λx=>aD (!x) (ak a (c (0,0,4,()))) (ag a none (ae b) AM λ(x:Int×Int×Int×Unit)=>ag a none (ae d) fp λ(e:Bool×Int×Bool×Int×Unit)=> ∃(f:Int),ai AC 168 [aa pg,.agg ⟨[aa x.1,aa x.2.1,aa x.2.2.1]⟩,.agg ⟨[.bool e.1,aa e.2.1,.bool e.2.2.1,aa e.2.2.2.1]⟩] a (aa f)/\
 true=true/\aN a (ad (ae d) 1) λx=>ak a (c (f,x,0,())))))):=by kernel_rfl
theorem KB (p:Option AE) (pg:Int) (w:A2) (d:Int->A2->Prop):(aL N0 (λ_=>[]) 291 [ah p,aa pg] w d)=(
 aA AC 167 (.bu [.agg [aG,aG,aG],.agg [.bool,aG,.bool,aG]]) [ah p,aa pg] w λ(x:(Int×Int×Int×Unit)×(Bool×Int×Bool×Int×Unit)×Unit) a=>aH a ⟨[aa 0,aa 0,aa 0]⟩ 299 λb a=>aH a ⟨[.bool false,aa 0,.bool false,aa 0]⟩ 301 λe a=>aw a (ae b) [aa x.1.1,aa x.1.2.1,aa x.1.2.2.1] λa=>aw a (ae e) [.bool x.2.1.1,aa x.2.1.2.1,.bool x.2.1.2.2.1,aa x.2.1.2.2.2.1] λa=>true=true/\aN a (ad (ae b) 1)
 λx=>aD (x==0) (ak a (d 0)) (aA AC 279 (.bu [aq,aq]) [ah p,.func (.func 340) ⟨[]⟩ {toList:=[ah (ae e)]}] a λ(x:Int×Int×Unit) a=>aD (x.2.1==0) (true=true/\aN a (ad (ae b) 2) λf=> ∃(c:Bool×Int×Bool×Int×Unit),ai AC 338 [aa x.1] a (.agg ⟨[.bool c.1,aa c.2.1,.bool c.2.2.1,aa c.2.2.2.1]⟩)/\aA AC 294 (.bu []) [ah p,aa f,.agg ⟨[.bool c.1,aa c.2.1,.bool c.2.2.1,aa c.2.2.2.1]⟩] a λg a=>
 ak a (d x.2.1)) (ak a (d x.2.1)))):=by kernel_rfl
def u6:Nat->aW:=(λ|1=>[(4,Go.RX.El.one (Go.RX.Sc.int AU))]|4=>[(26,Go.RX.El.one (Go.RX.Sc.int AU))]| _=>[])
theorem QD (p q:Option AE) (n c:Nat) (w:A2) (g:Unit->A2->Prop):(aL N0 u6 292 [ah p,.slice q n c] w g)=(
 ∃(I:Nat->Int×Unit->A2->Prop),(∃f, ∀w1,Ext w w1->I f (aR .i64 (↑n:Int) 1,()) w1)/\ ∀(f:Nat) (s:Int×Unit) (w1:A2),I f s w1->aD (decide (s.1>0)) (bh p 0 w1 λx=>(q.isSome=true/\0<=s.1/\s.1<(↑n:Int))/\(ad q (B1 s.1*3)).isSome=true/\ag w1 none (ad (ad q (B1 s.1*3)) 0) aq λ(j:Int)=>aA AC 16 di [ah x,aa (dk .i64 16 j),aa 16] w1 λx a=> ∃(h:Nat->Int×Unit->A2->Prop),(∃n, ∀w1,Ext a w1->h n (0,()) w1)/\ ∀(i:Nat) (b
 :Int×Unit) (w1:A2),h i b w1->aD (decide (b.1<(↑x.2.1:Int))) ((x.1.isSome=true/\0<=b.1/\b.1<(↑x.2.1:Int))/\bH w1 (ad x.1 (B1 b.1*1)) λx=>aD (x != 0) (ak w1 (g ())) (∀d,Ext w1 d-> ∃(e:Nat),e<i/\h e (ay .i64 b.1 1,()) d)) (bh p 0 w1 λx=>(q.isSome=true/\0<=aR .i64 s.1 1/\aR .i64 s.1 1<(↑n:Int))/\(ad q ((aR .i64 s.1 1).toNat*3)).isSome=true/\ag w1 none (ad (ad q ((aR .i64 s.1 1).toNat*3)) 2) aq λ(k:Int)=>aA AC 216 aT [ah x,.int
 .i64 k,av 0] w1 λ(x:Int) a=>bh p 1 a λx=>(q.isSome=true/\0<=s.1/\s.1<(↑n:Int))/\(ad q (B1 s.1*3)).isSome=true/\ag a none (ad (ad q (B1 s.1*3)) 0) aq λ(l:Int)=>aA AC 211 aT [ah x,aa l,aa 5,aa 0] a λ(x:Int) a=> ∀d,Ext a d-> ∃(e:Nat),e<f/\I e (aR .i64 s.1 1,()) d)) (ak w1 (g ()))):=by kernel_rfl
theorem KC (p:Option AE) (pg:Int) (w:A2) (c:Int×Int×Unit->A2->Prop):(aL N0 (λ_=>[]) 217 [ah p,aa pg] w c)=(
 aA AC 83 (.bu [aq,aq,aq]) [ah p,aa pg] w λ(x:Int×Int×Int×Unit) a=>aD (x.2.2.1 != 0) (ak a (c (0,x.2.2.1,()))) (aA AC 291 aT [ah p,aa pg] a λ(d:Int) a=>aD (d != 0) (ak a (c (0,d,()))) (aA AC 251 (.el (.one (.vk 311 2))) [ah p,aa pg] a λe a=>aA AC 250 di [.func (.func 311) ⟨[]⟩ ⟨[ah e.1,ah e.2.1]⟩] a λb a=>bh p 0 a λf=>(b.1.isSome=true/\0<=aR .i64
 (↑b.2.1:Int) 1/\aR .i64 (↑b.2.1:Int) 1<(↑b.2.1:Int))/\(ad b.1 ((aR .i64 (↑b.2.1:Int) 1).toNat*3)).isSome=true/\ag a none (ad (ad b.1 ((aR .i64 (↑b.2.1:Int) 1).toNat*3)) 2) aq λ(g:Int)=>aA AC 216 aT [ah f,aa g,av 0] a λ(h:Int) a=>aA AC 292 (.bu []) [ah p,.slice b.1 b.2.1 b.2.2] a λi a=>ak a (c (x.1,0,()))))):=by kernel_rfl
theorem QE (p:Option AE) (pg r:Int) (w:A2) (c:Int->A2->Prop):(aL N0 (λ_=>[]) 219 [ah p,aa pg,aa r] w c)=(
 ∃(x:Int),ai AC 166 [ah p] w (aa x)/\aD (x != 0) (ak w (c x)) (∃(x:Int),ai AC 288 [aa pg,aa 0,aa r] w (aa x)/\aD (x != 0) (ak w (c x)) (aA AC 167 (.bu [.agg [aG,aG,aG],.agg [.bool,aG,.bool,aG]]) [ah p,aa pg] w λ(x:(Int×Int×Int×Unit)×(Bool×Int×Bool×Int×Unit)×Unit) a=>aH a ⟨[aa 0,aa 0,aa 0]⟩ 299 λb a=>aH a ⟨[.bool false,aa 0,.bool false,aa 0]⟩ 301 λd a=>aw a (ae b)
 [aa x.1.1,aa x.1.2.1,aa x.1.2.2.1] λa=>aw a (ae d) [.bool x.2.1.1,aa x.2.1.2.1,.bool x.2.1.2.2.1,aa x.2.1.2.2.2.1] λa=>true=true/\jc a (ad (ae d) 0) λx=>aD (!x) (ak a (c 4)) (true=true/\jc a (ad (ae d) 2) λx=>(x=true->true=true)/\ag a (some x) (ad (ae d) 1) aq λ(g:Int)=>aD (x&&g==r) (ak a (c 0)) (ag a none (ae b) AM λ(x:Int×Int×Int×Unit)=>ag a none (ae d) fp λ(e:Bool×Int×Bool×Int×Unit)=> ∃(f:Int),ai AC 168
 [aa pg,.agg ⟨[aa x.1,aa x.2.1,aa x.2.2.1]⟩,.agg ⟨[.bool e.1,aa e.2.1,.bool e.2.2.1,aa e.2.2.2.1]⟩] a (aa f)/\aA AC 291 aT [ah p,aa pg] a λ(x:Int) a=>aD (x != 0) (ak a (c x)) (aA AC 167 (.bu [.agg [aG,aG,aG],.agg [.bool,aG,.bool,aG]]) [ah p,aa pg] a λ(x:(Int×Int×Int×Unit)×(Bool×Int×Bool×Int×Unit)×Unit) a=>aw a (ae b) [aa x.1.1,aa x.1.2.1,aa x.1.2.2.1] λa=>true=
 true/\aN a (ad (ae b) 2) λx=>aA AC 294 (.bu []) [ah p,aa x,.agg ⟨[.bool true,aa r,.bool false,aa f]⟩] a λx a=>ak a (c 0))))))):=by kernel_rfl
theorem BC (p:Option AE) (f lv:Int) (w:A2) (c:Option AE×Option AE×Option AE×Unit->A2->Prop):(aL N0 (λ_=>[]) 334 [ah p,aa f,aa lv] w c)=(
 aH w ⟨[ah p]⟩ 171 λb a=>aH a ⟨[aa f]⟩ 3 λd a=>aH a ⟨[aa lv]⟩ 3 λe a=>ak a (c (some ⟨d,0,none⟩,some ⟨b,0,none⟩,some ⟨e,0,none⟩,()))):=by kernel_rfl
def so:Nat->aW:=(λ|4=>[(6,.one aG)]| _=>[])
theorem KE (p c d:Option AE) (w:A2) (f:Option AE×Nat×Nat->A2->Prop):(bO N0 so 333 [.func (.func 362) #[] #[ah p,ah c,ah d]] w f)=(
 aH w ⟨[.slice none 0 0]⟩ 30 λb e=>Aw AC 362 (λ(y:Nat)=>[.func (Fn.yield y) ⟨[]⟩ ⟨[]⟩,ah p,ah c,ah d]) ⟨[6]⟩ e (λ(x:Int×Unit)=>[aa x.1]) (λ(l:Nat) (rec:Loop) (x:Int×Unit) i (R:Bool->A2->Prop)=>De l rec [aa x.1].length 1 i (B_ l rec i λa=>pJ a (ae b) λg=>aH a ⟨[aa x.1]⟩ 3 λj e=> ∀w1,Ext e w1->nm w1 3 1 8 ⟨[aa 0]⟩ (g.1,g.2.1,g.2.2) (some ⟨j,0,none⟩,1,1) λ(r:Option AE×Nat×Nat) e=>aw e (some ⟨b,0,
 none⟩) [.slice r.1 r.2.1 r.2.2] λe=>tj l rec none e R)) λ(r:Nat) (rec:Loop) k=>dX (r+1) rec k (λa=>pJ a (ae b) λx=>tq [r] a λw1=>f (x.1,x.2.1,x.2.2) w1) (λ(id:Nat) a=>Cs (λ(h:id=0->False)=>False) (λ(h:id=0)=>pJ a (ae b) λx=>tq [r] a λw1=>f (x.1,x.2.1,x.2.2) w1) (match h:id.beq 0 with|true=>isTrue (Du h)|false=>isFalse (Dx h))) λa=>tq [r] a λw1=>f (none,0,0)
 w1):=by kernel_rfl
def wZ:Nat->aW:=(λ|5=>[(18,Go.RX.El.one (Go.RX.Sc.int AU))]|8=>[(5,Go.RX.El.one (Go.RX.Sc.int AU))]| _=>[])
theorem Ur (p:Option AE) (w:A2) (e:Option AE×Nat×Nat->A2->Prop):(aL N0 wZ 284 [ah p] w e)=(
 ∃(x:Int),ai AC 166 [ah p] w (aa x)/\aD (x != 0) (ak w (e (none,0,0))) (dw p 3 w λx=>aA AC 334 (.el (.one (.vk 362 3))) [ah p,aa x,aa 3] w λx b=>aA AC 333 di [.func (.func 362) ⟨[]⟩ ⟨[ah x.1,ah x.2.1,ah x.2.2.1]⟩] b λx b=> ∃(I:Nat->Int×Unit->A2->Prop),(∃n, ∀w1,Ext b w1->I n (0,()) w1)/\ ∀(n:Nat) (s:Int×Unit) (w1:A2),I n s w1->aD (decide (s.1<(↑x.2.1:Int))) (∃(f:Nat->Int×Unit->A2->Prop),(∃n, ∀g,Ext w1 g->f
 n (s.1,()) g)/\ ∀(h:Nat) (a:Int×Unit) (w1:A2),f h a w1->(decide (a.1>0)=true->x.1.isSome=true/\0<=aR .i64 a.1 1/\aR .i64 a.1 1<(↑x.2.1:Int))/\ag w1 (some (decide (a.1>0))) (ad x.1 ((aR .i64 a.1 1).toNat*1)) aq λ(i:Int)=>(decide (a.1>0)=true->x.1.isSome=true/\0<=a.1/\a.1<(↑x.2.1:Int))/\ag w1 (some (decide (a.1>0))) (ad x.1 (B1 a.1*1)) aq λ(j:Int)=>aD (decide (a.1>0)&&decide (i>j)) ((x.1.isSome=true/\0<=a.1/\a.1<(↑x.2.1:Int))/\aN w1
 (ad x.1 (B1 a.1*1)) λk=>(x.1.isSome=true/\0<=aR .i64 a.1 1/\aR .i64 a.1 1<(↑x.2.1:Int))/\ag w1 none (ad x.1 ((aR .i64 a.1 1).toNat*1)) aq λ(l:Int)=>(x.1.isSome=true/\0<=aR .i64 a.1 1/\aR .i64 a.1 1<(↑x.2.1:Int))/\aw w1 (ad x.1 ((aR .i64 a.1 1).toNat*1)) [aa k] λb=>(x.1.isSome=true/\0<=a.1/\a.1<(↑x.2.1:Int))/\aw b (ad x.1 (B1 a.1*1)) [aa l] λb=> ∀c,Ext b c-> ∃(d:Nat),d<h/\f d (aR .i64 a.1 1,()) c) (∀c,Ext w1 c-> ∃(d
 :Nat),d<n/\I d (ay .i64 s.1 1,()) c)) (ak w1 (e (x.1,x.2.1,x.2.2))))):=by kernel_rfl
def u7:Nat->aW:=(λ|5=>[(13,Go.RX.El.one (Go.RX.Sc.int AU))]| _=>[])
theorem QF (p:Option AE) (w:A2) (b:Option AE×Nat×Nat->A2->Prop):(aL N0 u7 210 [ah p] w b)=(
 ∃(x:Int),ai AC 166 [ah p] w (aa x)/\aD (x != 0) (ak w (b (none,0,0))) (aA AC 284 di [ah p] w λx a=> ∃(I:Nat->Int×Unit->A2->Prop),(∃n, ∀w1,Ext a w1->I n (0,()) w1)/\ ∀(n:Nat) (s:Int×Unit) (w1:A2),I n s w1->aD (decide (s.1<(↑x.2.1:Int))) ((x.1.isSome=true/\0<=s.1/\s.1<(↑x.2.1:Int))/\aN w1 (ad x.1 (B1 s.1*1)) λx=>bh p 1 w1 λe=>aA AC 211 aT [ah e,aa x,aa 5,aa 0] w1 λ(x:Int) a=> ∀c,Ext a c-> ∃(d
 :Nat),d<n/\I d (ay .i64 s.1 1,()) c) (p.isSome=true/\p.isSome=true/\aw w1 (ad p 4) [.bool true] λa=>ak a (b (x.1,x.2.1,x.2.2))))):=by kernel_rfl
theorem Us (m p:Option AE) (o:Int) (w:A2) (c:Option AE×Int×Unit->A2->Prop):(aL N0 (λ_=>[]) 203 [ah m,ah p,aa o] w c)=(
 ∃(x:Int),ai AC 17 [ah m] w (aa x)/\ ∃(d:Int),((!x==0)=true->ai AC 78 [ah p] w (aa d))/\ ∃(e:Int),((!(x==0||d==0))=true->ai AC 17 [ah m] w (aa e))/\ ∃(f:Int),((!(x==0||d==0))=true->ai AC 78 [ah p] w (aa f))/\aD (x==0||d==0||decide (e<dk .i64 16 f)) (ak w (c (none,1,()))) (aH w ⟨[ah m,ah p,aa o,aa 0,.bool false]⟩ 295 λb a=>aA AC 279 (.bu [aq,.one (.int
 .i64)]) [ah (ae b),.func (.func 280) ⟨[]⟩ ⟨[]⟩] a λ(x:Int×Int×Unit) a=>aD (x.2.1 != 0) (ak a (c (none,x.2.1,()))) (true=true/\true=true/\aw a (ad (ae b) 3) [aa x.1] λa=>ak a (c (some ⟨b,0,none⟩,0,()))))):=by kernel_rfl
theorem KF (p:Option AE) (i n:Int) (w:A2) (a:Option AE×Nat×Nat->A2->Prop):(aL N0 (λ_=>[]) 16 [ah p,aa i,aa n] w a)=(
 aD p.isNone (ak w (a (none,0,0))) (p.isSome=true/\p.isSome=true/\ag w none (ad p 0) (.agg [.slice]) λx=>aA AC 80 di [.agg ⟨[.slice x.1.1 x.1.2.1 x.1.2.2]⟩,aa i,aa n] w λx b=>ak b (a (x.1,x.2.1,x.2.2)))):=by kernel_rfl
theorem Ut (p:Option AE) (n c:Nat) (i k:Int) (w:A2) (Post:Option AE×Nat×Nat->A2->Prop):(aL N0 (λ_=>[]) 80 [.agg ⟨[.slice p n c]⟩,aa i,aa k] w Post)=(
 aH w ⟨[.slice p n c]⟩ 168 λb a=>((!(decide (k<1)||decide (i<0)))=true->true=true)/\ag a (some !(decide (k<1)||decide (i<0))) (ad (ae b) 0) bX λx=>((!(decide (k<1)||decide (i<0)||decide (i>(↑x.2.1:Int))))=true->true=true)/\ag a (some !(decide (k<1)||decide (i<0)||decide (i>(↑x.2.1:Int)))) (ad (ae b) 0) bX λe=>aD (decide (k<1)||decide (i<0)||decide (i>(↑x.2.1:Int))||decide (k>aR .i64 (↑e.2.1:Int) i)) (ak a λw1=>Post (none,0,0) w1) (xG a 8
 1 k k ⟨[av 0]⟩ 32 λd a=>true=true/\ag a none (ad (ae b) 0) bX λx=>(0<=i/\i<=(↑x.2.1:Int)/\(↑x.2.1:Int)<=(↑x.2.2:Int)/\(↑x.2.2:Int)<=(↑x.2.2:Int))/\ ∀w1,Ext a w1->cpR w1 1 (some ⟨d,0,none⟩,k.toNat) (Cs (λ(h:(↑x.2.2:Int).toNat=i.toNat->False)=>ad x.1 (i.toNat*1)) (λ(h:(↑x.2.2:Int).toNat=i.toNat)=>x.1) (instDecidableEqNat (↑x.2.2:Int).toNat i.toNat),(↑x.2.1:Int).toNat - i.toNat) λ(r:Int) a=>ak a λw1=>Post (some ⟨d,0,none⟩,k.toNat,k.toNat) w1)):=by
 kernel_rfl
end Go.Proofs.YteeflilbnoknnaaGreat
namespace Go.Proofs.YteeflilbnoknnaaGreat.D
set_option maxRecDepth 100000
open Go.RX
noncomputable def E3:fa AC:={E0 with quiet:=[78,123,309,32]}
section
variable {D G:List Nat} {w0 w:A2} {L:List (Nat×List AG)}
theorem Uu (H:aJ D G w0 w L) (i j:Nat) {bp bf n c:Nat} {ds:List DT} {rest:List AG} (b:L[i]? =some (bp,[.slice (ae bf) n c])) (a:L[j]? =some (bf,flat eD ds++rest)) (e:i≠j) (g:n=ds.length) (l:0<n) (h:n<=4096) (f y o:Int) {K:Int->A2->Prop}
 (k: ∀d,aJ D G w0 d (L.set j (bf,flat eD (eC ds f (aI y o))++rest))->K (oY ds f (aI y o)) d):aA AC 211 aT [ah (ae bp),aa f,aa y,aa o] w K:=by
 subst g;exact aA.tC H j a (λw1 H=>CK (H.get b) (H.get a) (H.ne b a e) h f y o) k
theorem Uv (H:aJ D G w0 w L) (i j:Nat) {bp bf n c:Nat} {ds:List DT} {rest:List AG} (b:L[i]? =some (bp,[.slice (ae bf) n c])) (a:L[j]? =some (bf,flat eD ds++rest)) (e:i≠j) (g:n=ds.length) (l:0<n) (h:n<=4096) (f x:Int) (hi: -9223372036854775808<=x/\x<9223372036854775808) {K:Int->A2->Prop}
 (k: ∀d,aJ D G w0 d (L.set j (bf,flat eD (eC ds f (fA x))++rest))->K (oY ds f (fA x)) d):aA AC 226 aT [ah (ae bp),aa f,aa x] w K:=by
 subst g;exact aA.tC H j a (λw1 H=>Ug (H.get b) (H.get a) (H.ne b a e) h f x hi) k
theorem Uw (H:aJ D G w0 w L) (i j:Nat) {bp bf n c:Nat} {ds:List DT} {rest:List AG} (b:L[i]? =some (bp,[.slice (ae bf) n c])) (a:L[j]? =some (bf,flat eD ds++rest)) (e:i≠j) (g:n=ds.length) (l:0<n) (h:n<=4096) (f:Int) {K:Int->A2->Prop}
 (k: ∀d,aJ D G w0 d (L.set j (bf,flat eD (eC ds f (aI 0 0))++rest))->K (oY ds f (aI 0 0)) d):aA AC 215 aT [ah (ae bp),aa f] w K:=by
 subst g;exact aA.tC H j a (λw1 H=>Uh (H.get b) (H.get a) (H.ne b a e) h f) k
theorem Ux (H:aJ D G w0 w L) (i j:Nat) {bp bf n c:Nat} {ds:List DT} {rest:List AG} (b:L[i]? =some (bp,[.slice (ae bf) n c])) (a:L[j]? =some (bf,flat eD ds++rest)) (e:i≠j) (f:n=ds.length) (h:0<n) (g:n<=4096) (y o:Int) {K:Int×Int×Unit->A2->Prop}
 (k: ∀d,aJ D G w0 d (L.set j (bf,flat eD (cX ds y o)++rest))->K (dV ds y o,cJ ds y o,()) d):aA AC 213 (.bu [aq,aq]) [ah (ae bp),aa y,aa o] w K:=by
 subst f;exact aA.tC H j a (λw1 H=>Uk (H.get b) (H.get a) (H.ne b a e) rfl g y o) k
theorem QG (H:aJ D G w0 w L) (i j:Nat) {bp bf n c:Nat} {ds:List DT} {rest:List AG} (b:L[i]? =some (bp,[.slice (ae bf) n c])) (a:L[j]? =some (bf,flat eD ds++rest)) (e:i≠j) (g:n=ds.length) (h:0<n) (l:n<=4096) (f y o:Int) {K:Int->A2->Prop}
 (k: ∀d,aJ D G w0 d (L.set j (bf,flat eD (eC ds f (aI y o))++rest))->K (oY ds f (aI y o)) d):aA AC 147 aT [ah (ae bp),aa f,aa y,aa o] w K:=by
 subst g;exact aA.tC H j a (λw1 H=>zA (H.get b) (H.get a) (H.ne b a e) rfl h f y o) k
theorem QH (H:aJ D G w0 w L) (i j:Nat) {bp bf n c:Nat} {ds:List DT} {rest:List AG} (b:L[i]? =some (bp,[.slice (ae bf) n c])) (a:L[j]? =some (bf,flat eD ds++rest)) (e:i≠j) (g:n=ds.length) (h:0<n) (l:n<=4096) (f x:Int) (hi: -9223372036854775808<=x/\x<9223372036854775808) {K:Int->A2->Prop}
 (k: ∀d,aJ D G w0 d (L.set j (bf,flat eD (eC ds f (fA x))++rest))->K (oY ds f (fA x)) d):aA AC 160 aT [ah (ae bp),aa f,aa x] w K:=by
 subst g;exact aA.tC H j a (λw1 H=>Qv (H.get b) (H.get a) (H.ne b a e) rfl h f x hi) k
theorem QI (H:aJ D G w0 w L) (i j:Nat) {bp bf n c:Nat} {ds:List DT} {rest:List AG} (b:L[i]? =some (bp,[.slice (ae bf) n c])) (a:L[j]? =some (bf,flat eD ds++rest)) (e:i≠j) (g:n=ds.length) (h:0<n) (l:n<=4096) (f:Int) {K:Int->A2->Prop}
 (k: ∀d,aJ D G w0 d (L.set j (bf,flat eD (eC ds f (aI 0 0))++rest))->K (oY ds f (aI 0 0)) d):aA AC 237 aT [ah (ae bp),aa f] w K:=by
 subst g;exact aA.tC H j a (λw1 H=>Qw (H.get b) (H.get a) (H.ne b a e) rfl h f) k
theorem QJ (H:aJ D G w0 w L) (i j:Nat) {bp bf n c:Nat} {ds:List DT} {rest:List AG} (b:L[i]? =some (bp,[.slice (ae bf) n c])) (a:L[j]? =some (bf,flat eD ds++rest)) (e:i≠j) (f:n=ds.length) (g:0<n) (h:n<=4096) (y o:Int) {K:Int×Int×Unit->A2->Prop}
 (k: ∀d,aJ D G w0 d (L.set j (bf,flat eD (cX ds y o)++rest))->K (dV ds y o,cJ ds y o,()) d):aA AC 233 (.bu [aq,aq]) [ah (ae bp),aa y,aa o] w K:=by
 subst f;exact aA.tC H j a (λw1 H=>Qx (H.get b) (H.get a) (H.ne b a e) rfl g h y o) k
theorem aa9 (H:aJ D G w0 w L) (i:Nat) {bp n c:Nat} {a:Option AE} (b:L[i]? =some (bp,[.slice a n c])):ai AC 78 [ah (ae bp)] w (aa (n:Int)):=
 ai.of (s:= .el aq) λw' h=>sP ((H.get b).ext h)
theorem Uy (H:aJ D G w0 w L) (i j:Nat) {bp bf n c:Nat} {ds:List DT} {rest:List AG} (a:L[i]? =some (bp,[.slice (ae bf) n c])) (b:L[j]? =some (bf,flat eD ds++rest)) (d:n=ds.length) (e:n<=4096) (v:Int):
 ai AC 123 [ah (ae bp),aa v] w (aa (cB ds v:Nat)):=
 ai.of (s:= .el aq) λw' h=>Qm ((H.get a).ext h) ((H.get b).ext h) d e v
theorem QK (H:aJ D G w0 w L) (i j:Nat) {bp bf n c:Nat} {ds:List DT} {rest:List AG} (a:L[i]? =some (bp,[.slice (ae bf) n c])) (b:L[j]? =some (bf,flat eD ds++rest)) (d:n=ds.length) (e:n<=4096) (v:Int):
 ai AC 309 [ah (ae bp),aa v] w (aa (cB ds v:Nat)):=
 ai.of (s:= .el aq) λw' h=>Kp ((H.get a).ext h) ((H.get b).ext h) d e v
theorem acb (H:aJ D G w0 w L) (i j:Nat) {bp bf n c:Nat} {ds:List DT} {rest:List AG} (a:L[i]? =some (bp,[.slice (ae bf) n c])) (b:L[j]? =some (bf,flat eD ds++rest)) (d:n=ds.length) (f:Int):
 ai AC 32 [ah (ae bp),aa f] w ((Sh.bu [eD,cr]).g9 (mH ds f,wu ds f,())):=by
 subst d;exact ai.of (s:= .bu [eD,cr]) λw' h=>N7 ((H.get a).ext h) ((H.get b).ext h) f
theorem QL (H:aJ D G w0 w L) (i j:Nat) {bp bf n c:Nat} {ds:List DT} {rest:List AG} (b:L[i]? =some (bp,[.slice (ae bf) n c])) (d:L[j]? =some (bf,flat eD ds++rest)) (e:n=ds.length) (f:n<=4096) (v:Int) {K:Option AE×Nat×Nat->A2->Prop}
 (k: ∀r rows a,aJ D G w0 a (L++rows)->ia eI rows r ((dL ds v).map λi=>((i:Nat):Int))->K r a):aA AC 205 di [ah (ae bp),aa v] w K:=
 aA.M7 H (λw1 H=>Qn (H.get b) (H.get d) e f v) k
theorem KG (H:aJ D G w0 w L) (i j:Nat) {bp bf n c:Nat} {ds:List DT} {rest:List AG} (b:L[i]? =some (bp,[.slice (ae bf) n c])) (d:L[j]? =some (bf,flat eD ds++rest)) (e:n=ds.length) (f:n<=4096) (v:Int) {K:Option AE×Nat×Nat->A2->Prop}
 (k: ∀r rows a,aJ D G w0 a (L++rows)->ia eI rows r ((dL ds v).map λi=>((i:Nat):Int))->K r a):aA AC 143 di [ah (ae bp),aa v] w K:=
 aA.M7 H (λw1 H=>Kq (H.get b) (H.get d) e f v) k
end
end Go.Proofs.YteeflilbnoknnaaGreat.D
namespace Go.Proofs.YteeflilbnoknnaaGreat
set_option maxRecDepth 100000
open Go.RX D
abbrev ET:Type:=Bool×Int×Bool×Int×Unit
abbrev PT:Type:=Int×Int×Int×Unit
abbrev ZC:List Sc:=[.bool,aG,.bool,aG]
abbrev SK:List Sc:=[aG,aG,aG]
def zE:ET:=(false,0,false,0,())
def fS (v:Int):ET:=(vo (B v).toNat,vp (B v).toNat,wk (B v).toNat,tr (B v).toNat,())
def eM (e:ET):Bool:=cP e.1 e.2.1 e.2.2.1 e.2.2.2.1
def Sj (e:ET):Int:=xU e.1 e.2.1 e.2.2.1 e.2.2.2.1
def cw (f:Int):ET:=(true,0,false,f,())
def aO (ws:List Int) (i:Int):ET:=fS (eY ws i)
def bG (ws:List Int) (pg:Int):Nat->Int->List PT
 |0,f=>[(f,0,c9 f pg 0,())]
 |l+1,f=>(f,((l+1:Nat):Int),c9 f pg ((l+1:Nat):Int),())::if eM (aO ws (c9 f pg ((l+1:Nat):Int)))=true then bG ws pg l (aO ws (c9 f pg ((l+1:Nat):Int))).2.2.2.1 else[]
theorem mY (ws:List Int) (pg:Int) (l:Nat) (f:Int):bG ws pg l f≠[]:=by cases l<;>simp[bG]
theorem k6 (ws:List Int) (pg:Int): ∀(l:Nat) (f:Int),(bG ws pg l f).length<=l+1
 |0,f=>by simp[bG]
 |l+1,f=>by
  rw[bG];split
  .have:=k6 ws pg l (aO ws (c9 f pg ((l+1:Nat):Int))).2.2.2.1;simp only[C7];omega
  .simp
def cM (ws:List Int) (r pg:Int):PT:=(bG ws pg 3 r).getLastD (0,0,0,())
def cx (ws:List Int) (r pg:Int):ET:=aO ws (cM ws r pg).2.2.1
def dz (ws:List Int) (f:Int) (g:Int->Int):Nat->List Int
 |0=>ws
 |i+1=>fm (dz ws f g i) (16*f+(i:Int)) (g i)
theorem gN (ws:List Int) (f:Int) (g:Int->Int): ∀n,(dz ws f g n).length=ws.length
 |0=>rfl
 |n+1=>by rw[dz,cL,gN ws f g n]
abbrev WD:Type:=List Int×List DT
def fb (s:WD) (o:Int):Int:=dV s.2 3 o
def oZ (s:WD) (o:Int):Int:=cJ s.2 3 o
def g8 (s:WD) (o:Int) (g:Int->Int):WD:=(if oZ s o=0 then dz s.1 (fb s o) g 16 else s.1,cX s.2 3 o)
def dx (s:WD) (i:Int) (e:ET):WD:=(fm s.1 i (Sj e),s.2)
def nP (o pg:Int):Nat->WD×PT->WD×PT
 |0,x=>x
 |n+1,x=>nP o pg n (dx (g8 x.1 o λ_=>0) x.2.2.2.1 (cw (fb x.1 o)),(fb x.1 o,x.2.2.1 - 1,c9 (fb x.1 o) pg (x.2.2.1 - 1),()))
def lp (s:WD) (r pg lv:Int):Int:=
 if((cx s.1 r pg).1||decide ((cM s.1 r pg).2.1<lv))=true then 5
 else if(cB s.2 0:Int)<(cM s.1 r pg).2.1 - lv then 12 else 0
def pW (s:WD) (o r pg lv:Int) (e:ET):WD:=
 if lp s r pg lv=0 then dx (nP o pg ((cM s.1 r pg).2.1 - lv).toNat (s,cM s.1 r pg)).1 (nP o pg ((cM s.1 r pg).2.1 - lv).toNat (s,cM s.1 r pg)).2.2.2.1 e else s
def jL (pg f rt:Int):Int:=if pg<0\/pg>=65536\/f<0\/f>=4096 then 2 else if rt<1\/rt>7 then 7 else 0
def iW (s:WD) (r:Int) (gone:Bool) (pg f rt:Int):Int:=if gone=true then 6 else if jL pg f rt=0 then lp s r pg 0 else jL pg f rt
def js (s:WD) (o r:Int) (gone:Bool) (pg f rt:Int):WD:=if gone=true then s else if jL pg f rt=0 then pW s o r pg 0 (true,rt,false,f,()) else s
def M_ (pg f:Int):Bool:=decide (pg % 16>0)||decide (f % 16>0)
def l9 (pg:Int) (x:PT) (e:ET):Int:=if x.2.1=1 then e.2.2.2.1+pg % 16 else e.2.2.2.1
def bC (s:WD) (r:Int) (gone:Bool) (pg:Int):Int×Int×Int×Unit:=
 if gone=true then(0,0,6,()) else if pg<0\/pg>=65536 then(0,0,2,())
 else if(cx s.1 r pg).1=true then(l9 pg (cM s.1 r pg) (cx s.1 r pg),(cx s.1 r pg).2.1,0,()) else(0,0,4,())
def lq (e:ET) (i:Int):Int:=Sj (true,e.2.1,false,e.2.2.2.1+i,())
def kB (s:WD) (o r pg:Int):Int:=if(cM s.1 r pg).2.1=0 then 0 else oZ s o
def fu (s:WD) (o r pg:Int):WD:=
 if(cM s.1 r pg).2.1=0 then s
 else if oZ s o=0 then dx (g8 s o (lq (cx s.1 r pg))) (cM s.1 r pg).2.2.1 (cw (fb s o)) else g8 s o (lq (cx s.1 r pg))
def jt (ws:List Int) (i n:Int):List Int:=if n<1\/i<0\/i>ws.length\/n>ws.length - i then[] else(ws.drop i.toNat).take n.toNat
def pX (ws:List Int) (f:Int):Bool:=(jt ws (16*f) 16).all λv=>v==0
def ij:List PT->WD->WD
 |x::y::l,s=>if pX s.1 x.1=true then ij (y::l) (fm s.1 y.2.2.1 0,eC s.2 x.1 (aI 5 0)) else s
 | _,s=>s
def rK (s:WD) (o r:Int) (gone:Bool) (pg:Int):Int:=if(bC s r gone pg).2.2.1=0 then kB s o r pg else(bC s r gone pg).2.2.1
def yE (s:WD) (o r:Int) (gone:Bool) (pg:Int):Int:=if rK s o r gone pg=0 then(bC s r gone pg).1 else 0
def hH (s:WD) (o r:Int) (gone:Bool) (pg:Int):WD:=
 if(bC s r gone pg).2.2.1=0 then
  if kB s o r pg=0 then ij (bG (fu s o r pg).1 pg 3 r).reverse (fm (fu s o r pg).1 (cM (fu s o r pg).1 r pg).2.2.1 0,(fu s o r pg).2)
  else fu s o r pg
 else s
def Cq (s:WD) (o r:Int) (gone:Bool) (pg rt:Int):Int:=
 if gone=true then 6 else if jL pg 0 rt=0 then(if(cx s.1 r pg).1=true then(if((cx s.1 r pg).2.2.1&&(cx s.1 r pg).2.1==rt)=true then 0 else kB s o r pg) else 4) else jL pg 0 rt
def pY (s:WD) (o r:Int) (gone:Bool) (pg rt:Int):WD:=
 if gone=true then s else if jL pg 0 rt=0 then(if(cx s.1 r pg).1=true then(if((cx s.1 r pg).2.2.1&&(cx s.1 r pg).2.1==rt)=true then s
  else if kB s o r pg=0 then dx (fu s o r pg) (cM (fu s o r pg).1 r pg).2.2.1 (true,rt,false,l9 pg (cM s.1 r pg) (cx s.1 r pg),()) else fu s o r pg) else s) else s
def cC (ws:List Int):Nat->Int->List Int
 |0,f=>[f]
 |l+1,f=>f::(AZ 16).flatMap λ(i:Nat)=>if eM (aO ws (16*f+(i:Int)))=true then cC ws l (aO ws (16*f+(i:Int))).2.2.2.1 else[]
def kC (x:Int):List Int->List Int
 |[]=>[x]
 |y::l=>if y>x then y::kC x l else x::y::l
def mR (l:List Int):List Int:=(l.foldl (λa x=>kC x a) []).reverse
def jy (s:WD) (r:Int) (gone:Bool):List Int:=if gone=true then[] else mR (cC s.1 3 r)
def bV (s:WD) (r:Int) (gone:Bool):WD:=if gone=true then s else(s.1,(jy s r gone).foldl (λds f=>eC ds f (aI 5 0)) s.2)
structure Sys where
 bm:Nat
 bw:Nat
 bf:Nat
 bp:Nat
 c:Nat
 cp:Nat
 rw:List AG
 rf:List AG
def Sys.L (Q:Sys) (ca la:Int) (s:WD) (L0:List (Nat×List AG)):List (Nat×List AG):=
 (Q.bm,gi Q.bw s.1.length Q.c ca la)::(Q.bw,flat eW s.1++Q.rw)::(Q.bf,flat eD s.2++Q.rf)::(Q.bp,[.slice (ae Q.bf) s.2.length Q.cp])::L0
structure aF (Q:Sys) (D G:List Nat) (w0 w:A2) (s:WD) (L0:List (Nat×List AG)):Prop where
 pos:0<s.1.length
 yF:0<s.2.length
 le:s.2.length<=4096
 Sk:okW s.1
 kn: ∃ca la,aJ D G w0 w (Q.L ca la s L0)
abbrev iV (Q:Sys) (o r:Int) (gone:Bool):List AG:=[ah (ae Q.bm),ah (ae Q.bp),aa o,aa r,.bool gone]
theorem N9 {ws:List Int} (h:okW ws) (i v:Int) (hv:0<=v/\v<18446744073709551616):okW (fm ws i v):=by
 intro x a;unfold fm at a;split at a
 .rcases Fh a with a|rfl
  .exact h x a
  .exact hv
 .exact h x a
theorem FX (p:Bool) (r:Int) (l:Bool) (f:Int):0<=xU p r l f/\xU p r l f<18446744073709551616:=by
 unfold xU;split
 .rename_i h;unfold o_;cases p with
  |false=>
   unfold aZ at h;simp at h;have ⟨⟨a,h2⟩,b⟩:=h;subst a;subst h2;subst b;decide
  |true=>
   unfold aZ at h;simp at h;have b1:(nB l:Int)<=1:=by cases l<;>decide
   have d:0<=(nB l:Int):=by omega
   have c:(nB true:Int)=1:=rfl;rw[c];omega
 .exact⟨by decide,by decide⟩
theorem Iv (n:Nat):0<=tr n/\tr n<4096:=by
 unfold tr;split<;>omega
section
variable {Q:Sys} {D G:List Nat} {w0 w w1:A2} {s:WD} {L0 L1:List (Nat×List AG)}
namespace aF
theorem ext (S:aF Q D G w0 w s L0) (h:Ext w w1):aF Q D G w0 w1 s L0:=by
 have ⟨a,h2,b,c,ca,la,H⟩:=S;exact⟨a,h2,b,c,ca,la,H.ext h⟩
theorem al (S:aF Q D G w0 w s L0) {cs:List AG} {e:TypeId} {K:Nat->A2->Prop} (k: ∀b w1,aF Q D G w0 w1 s ((b,cs)::L0)->K b w1):aH w ⟨cs⟩ e K:=by
 have ⟨a,h2,c,d,ca,la,H⟩:=S;exact aH.go H λb w1 H=>k b w1 ⟨a,h2,c,d,ca,la,H.perm (Dn (l₁:=[_, _, _, _]))⟩
theorem en (S:aF Q D G w0 w s L0) {K:A2->Prop} (k: ∀w1,aF Q D G w0 w1 s L0->K w1):ak w K:=λ_ h=>k _ (S.ext h)
theorem get (S:aF Q D G w0 w s L0) {i b:Nat} {l:List AG} (h:L0[i]? =some (b,l)):bq w b l:=by
 have ⟨a,h2,c,d,ca,la,H⟩:=S;exact H.get (i:=i+4) h
theorem ld (i:Nat) (S:aF Q D G w0 w s L0) {g:Option Bool} {el:El} {K:el.T->Prop} {b o:Nat} {l:List AG} {x:el.T} (a:L0[i]? =some (b,l)) (hv:pV l o el=some x) (k:K x):ag w g (some ⟨b,o,none⟩) el K:=
 .of x (cK (S.get a) hv) k
theorem a_ (i:Nat) (S:aF Q D G w0 w s L0) {g:Option Bool} {el:El} {K:el.T->Prop} {b o n:Nat} {l:List AG} {x:el.T} (a:L0[i]? =some (b,l)) (hv:pV l (o+n) el=some x) (k:K x):ag w g (ad (some ⟨b,o,none⟩) n) el K:=by
 rw[aS];exact .of x (cK (S.get a) hv) k
theorem cQ (i:Nat) (S:aF Q D G w0 w s L0) {b:Nat} {l vs:List AG} {K:A2->Prop} (a:L0[i]? =some (b,l)) (c:vs.all (·.oneCell')=true) (d:vs.length=l.length)
 (k: ∀w1,aF Q D G w0 w1 s (L0.set i (b,vs))->K w1):aw w (ae b) vs K:=by
 have ⟨e,h2,f,g,ca,la,H⟩:=S;exact aw.all (i+4) H a c d λw1 H=>k w1 ⟨e,h2,f,g,ca,la,H⟩
theorem aa_ (i:Nat) (S:aF Q D G w0 w s L0) {b o:Nat} {l:List AG} {x:AG} {K:A2->Prop} (a:L0[i]? =some (b,l)) (c:x.oneCell'=true) (d:Nat.blt o l.length=true)
 (k: ∀w1,aF Q D G w0 w1 s (L0.set i (b,l.set o x))->K w1):aw w (some ⟨b,o,none⟩) [x] K:=by
 have ⟨e,h2,f,g,ca,la,H⟩:=S;exact aw.one (i+4) H a c d λw1 H=>k w1 ⟨e,h2,f,g,ca,la,H⟩
theorem oB (i:Nat) (S:aF Q D G w0 w s L0) {b o n:Nat} {l:List AG} {x:AG} {K:A2->Prop} (a:L0[i]? =some (b,l)) (c:x.oneCell'=true) (d:Nat.blt (o+n) l.length=true)
 (k: ∀w1,aF Q D G w0 w1 s (L0.set i (b,l.set (o+n) x))->K w1):aw w (ad (some ⟨b,o,none⟩) n) [x] K:=by
 rw[aS];exact S.aa_ i a c d k
theorem go (S:aF Q D G w0 w s L0) {P:Program} {f:FuncId} {sh:Sh} {args:List AG} {K:sh.T->A2->Prop} (k: ∀w1,aF Q D G w0 w1 s L0->aC P f sh args w1 K):aA P f sh args w K:=λ_ h=>k _ (S.ext h)
theorem sub (S:aF Q D G w0 w s L0) (h:L1.Sublist L0):aF Q D G w0 w s L1:=by
 have ⟨a,h2,b,c,ca,la,H⟩:=S;exact⟨a,h2,b,c,ca,la,H.sub (((((h.cons_cons _).cons_cons _).cons_cons _).cons_cons _))⟩
theorem tail {x:Nat×List AG} (S:aF Q D G w0 w s (x::L0)):aF Q D G w0 w s L0:=S.sub (DB _ _)
theorem perm (S:aF Q D G w0 w s L0) (h:L1.Perm L0):aF Q D G w0 w s L1:=by
 have ⟨a,h2,b,c,ca,la,H⟩:=S;exact⟨a,h2,b,c,ca,la,H.perm ((((h.cons _).cons _).cons _).cons _)⟩
theorem mem (S:aF Q D G w0 w s L0): ∃ca la,bq w Q.bm (gi Q.bw s.1.length Q.c ca la):=by
 have ⟨a,h2,b,d,ca,la,H⟩:=S;exact⟨ca,la,H.get (i:=0) rfl⟩
theorem aal (S:aF Q D G w0 w s L0):bq w Q.bp [.slice (ae Q.bf) s.2.length Q.cp]:=by
 have ⟨a,h2,b,c,ca,la,H⟩:=S;exact H.get (i:=3) rfl
theorem load (S:aF Q D G w0 w s L0) (i:Int) {K:Int×Int×Unit->A2->Prop} (k: ∀a,aF Q D G w0 a s L0->K (eY s.1 i,vy s.1 i,()) a):
 aA AC 221 (.bu [.one eh,aq]) [ah (ae Q.bm),aa i] w K:=by
 have ⟨b,h2,c,d,ca,la,H⟩:=S;exact DZ H 0 1 rfl rfl (by decide) rfl b i λa H=>k a ⟨b,h2,c,d, _, _,H⟩
theorem store (S:aF Q D G w0 w s L0) (i v:Int) (hv:0<=v/\v<18446744073709551616) {K:Int->A2->Prop} (k: ∀a,aF Q D G w0 a (fm s.1 i v,s.2) L0->K (vy s.1 i) a):
 aA AC 216 aT [ah (ae Q.bm),aa i,av v] w K:=by
 have ⟨b,h2,d,e,ca,la,H⟩:=S;refine JX H 0 1 rfl rfl (by decide) rfl b i v λa H=>k a ⟨?_,h2,d,N9 e i v hv,pM s.1 i ca,pM s.1 i la,?_⟩
 .show 0<(fm s.1 i v).length;rw[cL];exact b
 .unfold Sys.L;show aJ D G w0 a ((Q.bm,gi Q.bw (fm s.1 i v).length Q.c _ _):: _);rw[cL];exact H
theorem take (S:aF Q D G w0 w s L0) (y o:Int) {K:Int×Int×Unit->A2->Prop} (k: ∀a,aF Q D G w0 a (s.1,cX s.2 y o) L0->K (dV s.2 y o,cJ s.2 y o,()) a):
 aA AC 213 (.bu [aq,aq]) [ah (ae Q.bp),aa y,aa o] w K:=by
 have ⟨c,h2,b,d,ca,la,H⟩:=S;refine Ux H 3 2 rfl rfl (by decide) rfl h2 b y o λa H=>k a ⟨c,?_,?_,d,ca,la,?_⟩
 .show 0<(cX s.2 y o).length;rw[lW];exact h2
 .show(cX s.2 y o).length<=4096;rw[lW];exact b
 .unfold Sys.L;show aJ D G w0 a (_:: _:: _::(Q.bp,[.slice _ (cX s.2 y o).length _]):: _);rw[lW];exact H
theorem S6 (S:aF Q D G w0 w s L0) (f y o:Int) {K:Int->A2->Prop} (k: ∀a,aF Q D G w0 a (s.1,eC s.2 f (aI y o)) L0->K (oY s.2 f (aI y o)) a):
 aA AC 211 aT [ah (ae Q.bp),aa f,aa y,aa o] w K:=by
 have ⟨c,h2,b,d,ca,la,H⟩:=S;refine Uu H 3 2 rfl rfl (by decide) rfl h2 b f y o λa H=>k a ⟨c,?_,?_,d,ca,la,?_⟩
 .show 0<(eC s.2 f (aI y o)).length;rw[dY];exact h2
 .show(eC s.2 f (aI y o)).length<=4096;rw[dY];exact b
 .unfold Sys.L;show aJ D G w0 a (_:: _:: _::(Q.bp,[.slice _ (eC s.2 f (aI y o)).length _]):: _);rw[dY];exact H
theorem cnt (S:aF Q D G w0 w s L0) (v:Int):ai AC 123 [ah (ae Q.bp),aa v] w (aa (cB s.2 v:Nat)):=by
 have ⟨b,h2,a,c,ca,la,H⟩:=S;exact Uy H 3 2 rfl rfl rfl a v
theorem aam (S:aF Q D G w0 w s L0):ai AC 17 [ah (ae Q.bm)] w (aa (s.1.length:Nat)):=by
 have ⟨a,h2,b,c,ca,la,H⟩:=S;exact ai.of (s:= .el aq) λw' h'=>CE ((H.get (i:=0) rfl).ext h')
theorem Xz (S:aF Q D G w0 w s L0):ai AC 78 [ah (ae Q.bp)] w (aa (s.2.length:Nat)):=by
 have ⟨a,h2,b,c,ca,la,H⟩:=S;exact aa9 H 3 rfl
end aF
end
set_option maxRecDepth 100000
open Go.RX D
def stE (gone:Bool):Int:=if gone=true then 6 else 0
def V6 (r:Int) (gone:Bool):Int:=if gone=true then -1 else r
theorem Iw (pg f rt:Int) (w:A2):ai AC 288 [aa pg,aa f,aa rt] w (aa (jL pg f rt)):=by
 refine ai.of (s:= .el aq) λw' _=>aj (C:=N0) (AR (Kt _ _ _ w' _) ?_);unfold jL;refine ab (λc=>λw1 a=>⟨?_,a⟩) (λc=>ab (λd=>λw1 a=>⟨?_,a⟩) (λd=>λw1 a=>⟨?_,a⟩))
 .simp at c;rw[az (by omega)]
 .simp at c d;rw[ar (by omega),az (by omega)]
 .simp at c d;rw[ar (by omega),ar (by omega)]
theorem Ix (f:Int) (w:A2):ai AC 338 [aa f] w (.agg ⟨[.bool true,aa 0,.bool false,aa f]⟩):=by
 refine ai.of (s:= .el (.agg ZC)) (v:=cw f) λw' _=>aQ (C:=N0) (AR (Ku f w' _) ?_);have H:=At.start [] w';exact aH.go H λb a H=>aw.all 0 H rfl rfl rfl λc H=>ak.go H λd H=>ag.at 0 H rfl rfl ⟨rfl,H.all⟩
theorem Iy {pg:Int} (a:0<=pg) (x:PT) (e:ET) (g:0<=e.2.2.2.1/\e.2.2.2.1<4096) (w:A2):ai AC 168 [aa pg,.agg ⟨[aa x.1,aa x.2.1,aa x.2.2.1]⟩,.agg ⟨[.bool e.1,aa e.2.1,.bool e.2.2.1,aa e.2.2.2.1]⟩] w (aa (l9 pg x e)):=by
 refine ai.of (s:= .el aq) λw' _=>aj (C:=N0) (AR (Kv pg x.1 x.2.1 x.2.2.1 e.1 e.2.1 e.2.2.1 e.2.2.2.1 w' _) ?_);have H:=At.start [] w';unfold l9;refine aH.go H λb h H=>aH.go H λb1 i H=>⟨rfl,ag.bj 1 H rfl rfl (ab (λc=>⟨rfl,ag.bj 0 H rfl rfl ⟨trivial,by decide,ak.go H λd H=>⟨?_,H.all⟩⟩⟩) (λc=>⟨rfl,ag.bj 0 H rfl rfl (ak.go H λd H=>⟨?_,H.all⟩)⟩))⟩
 .have c:x.2.1=1:=by simpa using c
  rw[az c];have f:gj pg (iS 1)=pg % 16:=by
   have:iS 1=16:=rfl;rw[this];exact Int.tmod_eq_emod_of_nonneg a
  rw[f,ao (by omega) (by omega)]
 .have c: ¬ x.2.1=1:=by simpa using c
  rw[ar c]
section
variable {Q:Sys} {D G:List Nat} {w0 w:A2} {s:WD} {L0:List (Nat×List AG)} {bt:Nat} {o r:Int} {gone:Bool}
namespace aF
theorem state (S:aF Q D G w0 w s L0) (i:Nat) (b:L0[i]? =some (bt,iV Q o r gone)):ai AC 166 [ah (ae bt)] w (aa (stE gone)):=by
 have hb:=S.get b;refine ai.of (s:= .el aq) λw' h'=>aj (C:=N0) (AR (Ks _ w' _) ?_);have hb:=hb.ext h';refine⟨λ_=>rfl,λ_=>rfl,ag.of (ae Q.bm) (by rw[aS];exact hb.mF rfl) (an rfl ⟨rfl,rfl,ag.of gone (by rw[aS];exact hb.mF rfl) ?_⟩)⟩;cases gone with
 |true=>exact ax rfl λw1 a=>⟨rfl,a⟩
 |false=>exact an rfl λw1 a=>⟨rfl,a⟩
theorem root (S:aF Q D G w0 w s L0) (i:Nat) (b:L0[i]? =some (bt,iV Q o r gone)):ai AC 81 [ah (ae bt)] w (aa (V6 r gone)):=by
 refine ai.of (s:= .el aq) λw' h'=>aj (C:=N0) (AR (Qy _ w' _) ?_);have S:=S.ext h';refine⟨_,S.state i b,?_⟩;cases gone with
 |true=>exact ax rfl λw1 a=>⟨rfl,a⟩
 |false=>exact an rfl ⟨rfl,rfl,S.a_ i b rfl λw1 a=>⟨rfl,a⟩⟩
theorem at_ (S:aF Q D G w0 w s L0) (k:Nat) (d:L0[k]? =some (bt,iV Q o r gone)) (i:Int) {K:ET->A2->Prop} (c: ∀a,aF Q D G w0 a s L0->K (aO s.1 i) a):
 aA AC 252 (.el (.agg ZC)) [ah (ae bt),aa i] w K:=by
 refine S.go λw1 S=>aQ (C:=N0) (AR (N8 _ i w1 K) ?_);refine S.al λb a S=>⟨rfl,rfl,S.a_ (k+1) d rfl (S.load i λf S=>⟨?_,S.al λb1 g S=>S.cQ 0 rfl rfl rfl λj S=>S.ld 0 rfl rfl (S.cQ 1 rfl rfl rfl λl S=>S.en λe S=>S.ld 1 rfl rfl (c e S.tail.tail))⟩)⟩;have h:=vM S.Sk i;exact yz h.1 h.2
theorem lay (S:aF Q D G w0 w s L0) (k:Nat) (d:L0[k]? =some (bt,iV Q o r gone)) (i:Int) (e:ET) {K:Unit->A2->Prop} (c: ∀a,aF Q D G w0 a (dx s i e) L0->K () a):
 aA AC 294 (.bu []) [ah (ae bt),aa i,.agg ⟨[.bool e.1,aa e.2.1,.bool e.2.2.1,aa e.2.2.2.1]⟩] w K:=by
 refine S.go λw1 S=>aj (C:=N0) (AR (Ul _ i e.1 e.2.1 e.2.2.1 e.2.2.2.1 w1 K) ?_);exact S.al λb a S=>S.ld 0 rfl rfl ⟨trivial,rfl,rfl,S.a_ (k+1) d rfl (S.store i _ (FX _ _ _ _) λg S=>S.en λf S=>c f S.tail)⟩
end aF
theorem FY {ds:List DT} {y o:Int} (h: ¬ cJ ds y o=0):dV ds y o=0:=by
 unfold cJ at h;unfold dV;cases a:jh ds with
 |none=>rfl
 |some n=>
  have b: ¬ ds.length=0:=λe=>by
   have:ds=[]:=H9.1 e;subst this;cases a
  rw[ar b,a] at h;exact ar h
theorem ri (ds:List DT) (y o:Int) (h0:0<ds.length):0<=dV ds y o/\dV ds y o<ds.length:=by
 unfold dV;cases a:jh ds with
 |none=>exact⟨Dt 0,by show(0:Int)< _;omega⟩
 |some n=>
  unfold jh at a;rw[HB] at a;have b:=a.1;dsimp only;split<;>omega
end
set_option maxRecDepth 100000
open Go.RX D
section
variable {Q:Sys} {D G:List Nat} {w0 w:A2} {s:WD} {L0:List (Nat×List AG)} {bt:Nat} {o r:Int} {gone:Bool}
namespace aF
theorem aa' (S:aF Q D G w0 w s L0) (i:Nat) (b:L0[i]? =some (bt,iV Q o r gone)) {K:Int×Int×Unit->A2->Prop} (k: ∀d,aF Q D G w0 d (g8 s o (λ_=>0)) L0->K (fb s o,oZ s o,()) d):
 aA AC 279 (.bu [aq,aq]) [ah (ae bt),.func (.func 280) #[] #[]] w K:=by
 refine S.go λw1 S=>aj (C:=N0) (b_:=sj) (AR (Kw _ w1 K) ?_);have A:=ri s.2 3 o S.yF;have B:=S.le;refine⟨rfl,rfl,S.a_ i b rfl ⟨rfl,rfl,S.a_ i b rfl (S.take 3 o λd S=>?_)⟩⟩;by_cases a:oZ s o=0
 .have f:g8 s o (λ_=>0)=(dz s.1 (fb s o) (λ_=>0) 16,cX s.2 3 o):=by unfold g8;rw[az a]
  rw[f,a] at k;have g:cJ s.2 3 o=0:=a;refine an (by simp[g]) ⟨λn v w'=> ∃m:Nat,n=16 - m/\m<=16/\v.1=(m:Int)/\aF Q D G w0 w' (dz s.1 (fb s o) (λ_=>0) m,cX s.2 3 o) L0,⟨16,λj h=>⟨0,rfl,by omega,rfl,S.ext h⟩⟩,?_⟩;rintro n ⟨v,u⟩ j ⟨m,rfl,E,e,S⟩;dsimp only at e ⊢;subst e;refine ab (λc=>⟨rfl,rfl,S.a_ i b rfl ?_⟩) (λc=>S.en λl S=>k l ?_)
  .have c:m<16:=by simp at c;omega
   refine λl p=>aj (C:=N0) (AR (QB _ l _) λF q=>?_);have S:=(S.ext p).ext q;have t:(0:Int)<=0/\(0:Int)<18446744073709551616:=by decide
   refine⟨trivial,trivial,by rw[aS];exact(S.get b).mF rfl,trivial,trivial,?_⟩;have x:ay .i64 (dk .i64 16 (dV s.2 3 o)) (m:Int)=16*fb s o+(m:Int):=by
    have:fb s o=dV s.2 3 o:=rfl;rw[da (by omega) (by omega),ao (by omega) (by omega),this]
   rw[x];refine S.store _ _ t λH S=>λI y=>⟨16 - (m+1),by omega,m+1,rfl,by omega,?_,S.ext y⟩;rw[ao (by omega) (by omega)];omega
  .have c: ¬ m<16:=by simp at c;omega
   have:m=16:=by omega
   subst this;exact S
 .have f:g8 s o (λ_=>0)=(s.1,cX s.2 3 o):=by unfold g8;rw[ar a]
  have z:fb s o=0:=FY a;rw[f,z] at k;have g: ¬ cJ s.2 3 o=0:=a;exact ax (by simp[g]) (S.en λj S=>k j S)
theorem aba (S:aF Q D G w0 w s L0) (i:Nat) (b:L0[i]? =some (bt,iV Q o r gone)) {K:Int×Int×Unit->A2->Prop} (k: ∀d,aF Q D G w0 d (g8 s o (λ_=>0)) L0->K (fb s o,oZ s o,()) d):
 aA AC 279 (.bu [aq,aq]) [ah (ae bt),.func (.func 337) #[] #[]] w K:=by
 refine S.go λw1 S=>aj (C:=N0) (b_:=sk) (AR (Ky _ w1 K) ?_);have A:=ri s.2 3 o S.yF;have B:=S.le;refine⟨rfl,rfl,S.a_ i b rfl ⟨rfl,rfl,S.a_ i b rfl (S.take 3 o λd S=>?_)⟩⟩;by_cases a:oZ s o=0
 .have f:g8 s o (λ_=>0)=(dz s.1 (fb s o) (λ_=>0) 16,cX s.2 3 o):=by unfold g8;rw[az a]
  rw[f,a] at k;have g:cJ s.2 3 o=0:=a;refine an (by simp[g]) ⟨λn v w'=> ∃m:Nat,n=16 - m/\m<=16/\v.1=(m:Int)/\aF Q D G w0 w' (dz s.1 (fb s o) (λ_=>0) m,cX s.2 3 o) L0,⟨16,λj h=>⟨0,rfl,by omega,rfl,S.ext h⟩⟩,?_⟩;rintro n ⟨v,u⟩ j ⟨m,rfl,E,e,S⟩;dsimp only at e ⊢;subst e;refine ab (λc=>⟨rfl,rfl,S.a_ i b rfl ?_⟩) (λc=>S.en λl S=>k l ?_)
  .have c:m<16:=by simp at c;omega
   refine λl p=>aj (C:=N0) (AR (QC _ l _) λF q=>?_);have S:=(S.ext p).ext q;have t:(0:Int)<=0/\(0:Int)<18446744073709551616:=by decide
   refine⟨trivial,trivial,by rw[aS];exact(S.get b).mF rfl,trivial,trivial,?_⟩;have x:ay .i64 (dk .i64 16 (dV s.2 3 o)) (m:Int)=16*fb s o+(m:Int):=by
    have:fb s o=dV s.2 3 o:=rfl;rw[da (by omega) (by omega),ao (by omega) (by omega),this]
   rw[x];refine S.store _ _ t λH S=>λI y=>⟨16 - (m+1),by omega,m+1,rfl,by omega,?_,S.ext y⟩;rw[ao (by omega) (by omega)];omega
  .have c: ¬ m<16:=by simp at c;omega
   have:m=16:=by omega
   subst this;exact S
 .have f:g8 s o (λ_=>0)=(s.1,cX s.2 3 o):=by unfold g8;rw[ar a]
  have z:fb s o=0:=FY a;rw[f,z] at k;have g: ¬ cJ s.2 3 o=0:=a;exact ax (by simp[g]) (S.en λj S=>k j S)
theorem abb (S:aF Q D G w0 w s L0) (i:Nat) (b:L0[i]? =some (bt,iV Q o r gone)) (j:Nat) {be:Nat} {e:ET} (hb:L0[j]? =some (be,[.bool e.1,aa e.2.1,.bool e.2.2.1,aa e.2.2.2.1])) (B:0<=e.2.2.2.1/\e.2.2.2.1<4096) {K:Int×Int×Unit->A2->Prop} (k: ∀d,aF Q D G w0 d (g8 s o (lq e)) L0->K (fb s o,oZ s o,()) d):
 aA AC 279 (.bu [aq,aq]) [ah (ae bt),.func (.func 340) #[] #[ah (ae be)]] w K:=by
 refine S.go λw1 S=>aj (C:=N0) (b_:=sm) (AR (Kz _ _ w1 K) ?_);have E:=ri s.2 3 o S.yF;have F:=S.le;refine⟨rfl,rfl,S.a_ i b rfl ⟨rfl,rfl,S.a_ i b rfl (S.take 3 o λd S=>?_)⟩⟩;by_cases a:oZ s o=0
 .have f:g8 s o (lq e)=(dz s.1 (fb s o) (lq e) 16,cX s.2 3 o):=by unfold g8;rw[az a]
  rw[f,a] at k;have g:cJ s.2 3 o=0:=a;refine an (by simp[g]) ⟨λn v w'=> ∃m:Nat,n=16 - m/\m<=16/\v.1=(m:Int)/\aF Q D G w0 w' (dz s.1 (fb s o) (lq e) m,cX s.2 3 o) L0,⟨16,λl h=>⟨0,rfl,by omega,rfl,S.ext h⟩⟩,?_⟩;rintro n ⟨v,u⟩ l ⟨m,rfl,H,ev,S⟩;dsimp only at ev ⊢;subst ev;refine ab (λc=>⟨rfl,rfl,S.a_ i b rfl ?_⟩) (λc=>S.en λp S=>k p ?_)
  .have c:m<16:=by simp at c;omega
   refine λp q=>aj (C:=N0) (AR (GH _ _ p _) ?_);have S:=S.ext q;refine⟨rfl,S.a_ j hb rfl ⟨rfl,S.a_ j hb rfl ⟨trivial,S.en λI S=>?_⟩⟩⟩;have t:xU true e.2.1 false (ay .i64 e.2.2.2.1 (m:Int))=lq e (m:Int):=by
    rw[ao (by omega) (by omega)];rfl
   rw[t];have x:0<=lq e (m:Int)/\lq e (m:Int)<18446744073709551616:=FX _ _ _ _;refine⟨trivial,trivial,by rw[aS];exact(S.get b).mF rfl,trivial,trivial,?_⟩;have y:ay .i64 (dk .i64 16 (dV s.2 3 o)) (m:Int)=16*fb s o+(m:Int):=by
    have:fb s o=dV s.2 3 o:=rfl;rw[da (by omega) (by omega),ao (by omega) (by omega),this]
   rw[y];refine S.store _ _ x λJ S=>λL z=>⟨16 - (m+1),by omega,m+1,rfl,by omega,?_,S.ext z⟩;rw[ao (by omega) (by omega)];omega
  .have c: ¬ m<16:=by simp at c;omega
   have:m=16:=by omega
   subst this;exact S
 .have f:g8 s o (lq e)=(s.1,cX s.2 3 o):=by unfold g8;rw[ar a]
  have A:fb s o=0:=FY a;rw[f,A] at k;have g: ¬ cJ s.2 3 o=0:=a;exact ax (by simp[g]) (S.en λl S=>k l S)
end aF
end
set_option maxRecDepth 100000
open Go.RX D
section
variable {D G:List Nat} {w0 w:A2} {L:List (Nat×List AG)}
def WR (e:El) (b:Nat) (xs:List e.T) (a:List (Nat×List AG)):Prop:=
 (xs=[]/\a=[(b,[.slice none 0 0])])\/ ∃bs c rest,a=[(b,[.slice (ae bs) xs.length c]),(bs,flat e xs++rest)]/\(flat e xs++rest).length=c*aM e/\xs.length<=c
theorem WR.head {e:El} {b:Nat} {xs:List e.T} {a:List (Nat×List AG)} (h:WR e b xs a): ∃s:Option AE×Nat×Nat,a[0]? =some (b,[.slice s.1 s.2.1 s.2.2]):=by
 rcases h with ⟨_,rfl⟩|⟨bs,c,rest,rfl, _⟩
 .exact⟨(none,0,0),rfl⟩
 .exact⟨(_, _, _),rfl⟩
theorem WR.push {e:El} {b b2:Nat} {xs:List e.T} {x:e.T} {d Z:List (Nat×List AG)} {s:Option AE×Nat×Nat} (u:WR e b xs d) (h:d[0]? =some (b,[.slice s.1 s.2.1 s.2.2])) (H:aJ D G w0 w ((b2,cellsOf e x)::(d++Z)))
 (i:lx e=true) {t:TypeId} {size bytes:Nat} {z:Array AG} (j:size=aM e) (l:z.size=aM e) (hb:(xs.length+1)*bytes<=140737488355328) {K:A2->Prop}
 (k: ∀m w',WR e b (xs++[x]) m->aJ D G w0 w' (m++Z)->K w'):
 nm w t size bytes z (s.1,s.2.1,s.2.2) (some ⟨b2,0,none⟩,1,1) λr a=>aw a (ae b) [.slice r.1 r.2.1 r.2.2] K:=by
 have ⟨p,n,c⟩:=s;rcases u with ⟨rfl,rfl⟩|⟨bs,A,rest,rfl,v,h2⟩
 .cases h;refine aJ.grow (Ls:=[]) (L0:=(b,[.slice none 0 0])::Z) (xs:=[]) H (.inl ⟨rfl,rfl,rfl⟩) i j l hb λbs c rest w' g1 f H=>?_;refine aw.all 1 H rfl rfl rfl λa H=>k [(b,[.slice (ae bs) 1 c]),(bs,flat e [x]++rest)] a (.inr ⟨bs,c,rest,rfl,g1,f⟩) ?_;exact H.perm (H5 _ _ _)
 .cases h;have y:aJ D G w0 w ((b2,cellsOf e x)::([(bs,flat e xs++rest)]++((b,[.slice (ae bs) xs.length c])::Z))):=H.perm (H6 _ (H5 _ _ _));refine aJ.grow y (.inr ⟨bs,c,rest,rfl,rfl,v,h2⟩) i j l hb λg o q w' g1 f H=>?_;refine aw.all 1 H rfl rfl rfl λa H=>k [(b,[.slice (ae g) (xs.length+1) o]),(g,flat e (xs++[x])++q)] a (.inr ⟨g,o,q,?_,g1,by simpa using f⟩) ?_
  .rw[FA];rfl
  .exact H.perm (H5 _ _ _)
theorem yq.new {l:Nat} {rec:Loop} {w':A2} {b:Nat} {cs:List AG} (h:yq D G w0 w L l rec) (H:At [] w w' [(b,cs)]):yq D G w0 w' ((b,cs)::L) l rec/\Ob l w w':=by
 have a:Ext w w':=H.all;have hb:w.heap.size<=b:=by
  rcases H.own (b,cs) FB with h|h
  .exact h
  .cases h
 exact⟨⟨h.1,h.2.1.more a hb (H.d_ (b,cs) FB),h.2.2.ext a⟩,Ob.vI a⟩
theorem KH {bm bw n c:Nat} {ca la:Int} {ws:List Int} {rest:List AG} (H:aJ D G w0 w L) (j:Nat) (b:L[j]? =some (bm,gi bw n c ca la)) (f:bq w0 bw (flat eW ws++rest)) (g:bw∉G) (h:n=ws.length) (h0:0<n) (i:Int) {K:Int×Int×Unit->A2->Prop}
 (k: ∀a,aJ D G w0 a (L.set j (bm,gi bw n c (pM ws i ca) la))->K (eY ws i,vy ws i,()) a):
 aA AC 221 (.bu [.one eh,aq]) [ah (ae bm),aa i] w K:=by
 refine aA.go H λw1 H=>aj (C:=M0) (AR (DY _ i w1 K) ?_);refine zx H j b h h0 i (λhi a H=>?_) (λhi a H=>?_)
 .unfold pM eY vy at k;rw[hi,az rfl,az rfl,az rfl] at k;have l:=gz.1 hi;refine an rfl ⟨rfl,?_⟩;rw[aS];have e:=S4 (ws:=ws) (rest:=rest) (i:=i.toNat) (by omega);rw[Da] at e;exact ag.iQ H f g e (ak.go H λd H=>k d H)
 .unfold pM eY vy at k;rw[hi,ar (by decide),ar (by decide),ar (by decide)] at k;refine ax rfl (ak.go H λd H=>k d ?_);rw[show L.set j (bm,gi bw n c ca la)=L from HD λm=>by
   by_cases e:j=m
   .subst e;rw[Fk (B5.1 b).1,b]
   .rw[Do e]]
  exact H
structure TbR (Q:Sys) (ws:List Int) (w:A2) (bt:Nat) (o r:Int) (gone:Bool):Prop where
 tb:bq w bt (iV Q o r gone)
 wd:bq w Q.bw (flat eW ws++Q.rw)
 tne:bt≠Q.bm
 wne:Q.bw≠Q.bm
 Sk:okW ws
 pos:0<ws.length
abbrev Mc (Q:Sys) (n:Nat) (l:List AG):Prop:= ∃ca la,l=gi Q.bw n Q.c ca la
theorem N_ {Q:Sys} {ws:List Int} {bt:Nat} {o r:Int} {gone:Bool} {D:List Nat} {L:List (Nat×List AG)} {ca la:Int} (R:TbR Q ws w0 bt o r gone) (H:aJ D [Q.bm] w0 w L) (j:Nat) (d:L[j]? =some (Q.bm,gi Q.bw ws.length Q.c ca la)) (i:Int) {K:ET->A2->Prop}
 (k: ∀ca a,aJ D [Q.bm] w0 a (L.set j (Q.bm,gi Q.bw ws.length Q.c ca la))->K (aO ws i) a):
 aA AC 252 (.el (.agg ZC)) [ah (ae bt),aa i] w K:=by
 have t1:bt∉[Q.bm]:=by simpa using R.tne
 have t2:Q.bw∉[Q.bm]:=by simpa using R.wne
 refine aA.go H λw1 H=>aQ (C:=N0) (AR (N8 _ i w1 K) ?_);refine aH.go H λb a H=>⟨rfl,rfl,ag.g6 H R.tb t1 rfl (KH H (j+1) d R.wd t2 rfl R.pos i λf H=>⟨?_,aH.go H λb1 g H=>aw.all 0 H rfl rfl rfl λl H=>ag.at 0 H rfl rfl (aw.all 1 H rfl rfl rfl λm H=>ak.go H λe H=>ag.at 1 H rfl rfl (k (pM ws i ca) e (H.sub ?_)))⟩)⟩
 .have h:=vM R.Sk i;exact yz h.1 h.2
 .exact(DB _ _).trans (DB _ _)
end
abbrev emP (x:PT×Unit):List AG:=[.agg ⟨[aa x.1.1,aa x.1.2.1,aa x.1.2.2.1]⟩]
abbrev WT (x:PT):PT×Unit:=(x,())
def Na (ws:List Int) (pg:Int):Nat->Int->List PT
 |0, _=>[]
 |l+1,f=>if eM (aO ws (c9 f pg ((l+1:Nat):Int)))=true then bG ws pg l (aO ws (c9 f pg ((l+1:Nat):Int))).2.2.2.1 else[]
theorem BD (ws:List Int) (pg:Int): ∀(l:Nat) (f:Int),bG ws pg l f=(f,(l:Int),c9 f pg (l:Int),())::Na ws pg l f
 |0, _=>rfl
 | _+1, _=>rfl
theorem QM {ws:List Int} {pg:Int} {l:Nat} {f:Int} (h:eM (aO ws (c9 f pg (l:Int)))=false):Na ws pg l f=[]:=by
 cases l with
 |zero=>rfl
 |succ l=>rw[Na,h,ar (by decide)]
theorem YD {Q:Sys} {ws:List Int} {bt b c:Nat} {o r pg:Int} {gone:Bool} {N:Nat} (E:okW ws) (F:0<ws.length):
 ItJ AC 311 (λy=>[.func (.yield y) #[] #[],ah (ae b),ah (ae c)]) emP N Q.bm (Mc Q ws.length)
  [(bt,iV Q o r gone),(Q.bw,flat eW ws++Q.rw),(b,[ah (ae bt)]),(c,[aa pg])] ((bG ws pg 3 r).map WT):=by
 intro y J K G a X O w z i j;refine Calls.mono (aj (C:=N0) (b_:=u0) (Post:=λ_ w'=>J (a++(bG ws pg 3 r).map WT) X O w') (AR (Qz y _ _ w _) ?_)) ?_
 rotate_left
 .rintro e w' ⟨x,rfl,h⟩;exact⟨_,rfl,h⟩
 have m:=i (bt,iV Q o r gone) (by simp);have A:=i (Q.bw,flat eW ws++Q.rw) (by simp);have B:=i (b,[ah (ae bt)]) (by simp);have I:=i (c,[aa pg]) (by simp);refine ag.of (ae bt) ((K.d_ j B).2.mF rfl) ⟨rfl,rfl,ag.of r (by rw[aS];exact(K.d_ j m).2.mF rfl) ⟨λn v w'=>(∃l:Nat,v.2.1=(l:Int)/\n=l+1/\l<=3/\ ∃pre,bG ws pg 3 r=pre++bG ws pg l v.1/\J (a++pre.map WT) X O w')\/(v.2.1= -1/\J (a++(bG ws pg 3 r).map WT) X O w'),
  ⟨4,λw1 L=> .inl ⟨3,rfl,rfl,B3 _,[],rfl,by simpa using K.ext j L⟩⟩,?_⟩⟩
 rintro n ⟨f,lv,u⟩ w1 (⟨l,g,rfl,Z,pre,d,j⟩|⟨g,j⟩)
 .dsimp only at g d ⊢;subst g;refine ax (by simp) (ag.of pg ((K.d_ j I).2.mF rfl) ⟨trivial,?_⟩);obtain⟨lm,⟨ca,la,rfl⟩,H⟩:=K.at0 j;have R:TbR Q ws w1 bt o r gone:=⟨(K.d_ j m).2,(K.d_ j A).2,(K.d_ j m).1,(K.d_ j A).1,E,F⟩;have hb:=K.d_ j B;have M:b∉[Q.bm]:=by simpa using hb.1
  refine aH.go H λb1 P H=>aw.all 0 H rfl rfl rfl λw3 H=>ag.iQ H hb.2 M rfl ⟨rfl,ag.bj 0 H rfl rfl (N_ R H 1 rfl _ λAA w4 H=>aH.go H λb2 w5 H=>aw.all 0 H rfl rfl rfl λw6 H=>ag.at 1 H rfl rfl λS T=>?_)⟩;have H:=H.ext T;rw[BD ws pg l f] at d;have U:(a++pre.map WT).length<N:=by
   rw[d] at z;simp only[H7,FA,Ch,C7] at z ⊢;omega
  have V:=K.tL (Y:=[(b2, _),(b1, _)]) j H ⟨_, _,rfl⟩;refine G _ (WT (f,(l:Int),c9 f pg (l:Int),())) _ _ S _ U V λw8 p=>?_;have D:=(K.d_ p (x:=(b2, _)) (FB)).2;refine ag.of (aO ws (c9 f pg (l:Int))) (cK D rfl) ⟨λ_=>trivial,ab (λq W s=>?_) (λq=>⟨rfl,ag.of (aO ws (c9 f pg (l:Int))).2.2.2.1 (by rw[aS];exact D.mF rfl) λW s=>?_⟩)⟩
  .have t:eM (aO ws (c9 f pg (l:Int)))=false:=by simpa[eM] using q
   have k:=K.sub (K.ext p s) (X':=X) (λx h=>by simp[h]) (Ct _);rw[QM t] at d;rw[d];simpa using k
  .have t:eM (aO ws (c9 f pg (l:Int)))=true:=by simpa[eM] using q
   have k:=K.sub (K.ext p s) (X':=X) (λx h=>by simp[h]) (Ct _);rcases l with _|l
   .refine⟨0,by omega,.inr ⟨rfl,?_⟩⟩;rw[d];simpa[Na] using k
   .refine⟨l+1,by omega,.inl ⟨l,?_,rfl,by omega,pre++[(f,((l+1:Nat):Int),c9 f pg ((l+1:Nat):Int),())],?_,by simpa using k⟩⟩
    .show aR .i64 ((l+1:Nat):Int) 1=(l:Int);rw[aX (by omega) (by omega)];omega
    .rw[d,Na,az t,HF];rfl
 .dsimp only at g ⊢;subst g;exact an rfl λP h2=>K.ext j h2
section
variable {Q:Sys} {D G:List Nat} {w0 w:A2} {s:WD} {L0:List (Nat×List AG)} {bt:Nat} {o r:Int} {gone:Bool}
namespace aF
theorem way (S:aF Q D G w0 w s L0) (pg:Int) {K:Option AE×Option AE×Unit->A2->Prop} (k: ∀b c a,aF Q D G w0 a s ((c,[aa pg])::(b,[ah (ae bt)])::L0)->K (some ⟨b,0,none⟩,some ⟨c,0,none⟩,()) a):
 aA AC 251 aak [ah (ae bt),aa pg] w K:=by
 refine S.go λw1 S=>aj (C:=N0) (AR (Um _ pg w1 K) ?_);exact S.al λb a S=>S.al λc e S=>S.en λd S=>k b c d S
theorem M8 (S:aF Q D G w0 w s L0) (k0:Nat) (q:L0[k0]? =some (bt,iV Q o r gone)) {b c:Nat} {pg:Int} (hb:(b,[Jl (ae bt)])∈L0) (hc:(c,[aa pg])∈L0)
 {K:Option AE×Nat×Nat->A2->Prop} (k: ∀bs cs rest g,aF Q D G w0 g s ((bs,flat (.agg SK) (bG s.1 pg 3 r)++rest)::L0)->K (some ⟨bs,0,none⟩,(bG s.1 pg 3 r).length,cs) g):
 aA AC 250 di [.func (.func 311) #[] #[ah (ae b),ah (ae c)]] w K:=by
 refine S.go λw1 S=>aQ (C:=N0) (b_:=u5) (AR (QA _ _ w1 K) ?_);have ⟨m,h2,t,n,ca,la,H0⟩:=S;have H:=H0.again;refine aH.go H λbl g H=>?_;have u:(bG s.1 pg 3 r).length<=4:=k6 s.1 pg 3 r;refine Aw.M8 (N:=4) (bm:=Q.bm) (mc:=Mc Q s.1.length) (Zw:=[(bl,[.slice none 0 0])]) (Lb:=(Q.bw,flat eW s.1++Q.rw)::(Q.bf,flat eD s.2++Q.rf)::(Q.bp,[.slice (ae Q.bf) s.2.length Q.cp])::L0) H ⟨_, _,rfl⟩
  (YD (o:=o) (r:=r) (gone:=gone) (bt:=bt) (pg:=pg) n m) ?_ (by simpa using u) (λxs d=>WR (.agg SK) bl (xs.map (·.1)) d) (.inl ⟨rfl,rfl⟩) ?_ ?_
 .intro x e;simp only[FC,HH,or_false] at e;rcases e with rfl|rfl|rfl|rfl
  .simp[DC q]
  .simp
  .simp[hb]
  .simp[hc]
 .intro b0 x d Z rr l rec v R hN a f y;refine De.go f rfl ?_;refine aH.go (At.start [] v) λb1 z i=>aw.all 0 i rfl rfl rfl λA i=>?_;have ⟨B,E⟩:=yq.new f i;have ⟨sl,j⟩:=a.head;refine B_.goO B λwb H F I=>ag.at 1 H (by rw[List.getElem?_cons_succ,FJ (B5.1 j).1];exact j) rfl (ag.at 0 H rfl rfl (aH.go H λb2 p H=>λJ L=>?_));have H:=H.ext L;have M:aJ [] _ wb J ((b2,cellsOf (.agg SK) x.1)::(d++((b1,[aa x.1.1,aa x.1.2.1,aa x.1.2.2.1])::Z))):=H.perm (H6 _ Dn);refine a.push j M rfl rfl rfl (by simp only[Ch];omega) λO w8 P T=>tj.iR F (T.sub (List.Sublist.append (Ct _) (DB _ _))) λU V W=>y O U (by simpa using P) V ((E.trans I).trans W)
 .rintro rr rec z l' d ⟨X,Y,rfl⟩ a f;refine dX.none f λA H=>?_;have Z1:((bG s.1 pg 3 r).map WT).map (·.1)=bG s.1 pg 3 r:=by
   rw[List.map_map];exact List.map_id _
  rw[Z1] at a;rcases a with ⟨h, _⟩|⟨bs,cs,rest,rfl,g1,g2⟩
  .exact absurd h (mY _ _ _ _)
  .refine ag.at 0 H rfl rfl (tq.go H λp H=>k bs cs rest p ⟨m,h2,t,n,X,Y,H0.join (λx e=>e) ?_⟩);refine(H.sub (DB _ _)).perm ?_;exact Dn (l₁:=[_, _, _, _])
end aF
end
set_option maxRecDepth 100000
open Go.RX D
theorem lQ (ws:List Int) (r pg:Int):(bG ws pg 3 r)[(bG ws pg 3 r).length - 1]? =some (cM ws r pg):=by
 have a:=mY ws pg 3 r;unfold cM;rw[List.getLastD_eq_getLast?, <-List.getLast?_eq_getElem?,List.getLast?_eq_some_getLast a];rfl
theorem mw (ws:List Int) (a:Int):0<=(aO ws a).2.2.2.1/\(aO ws a).2.2.2.1<4096:=Iv _
section
variable {Q:Sys} {D G:List Nat} {w0 w:A2} {s:WD} {L0:List (Nat×List AG)} {bt:Nat} {o r:Int} {gone:Bool}
namespace aF
theorem end_ (S:aF Q D G w0 w s L0) (k0:Nat) (c:L0[k0]? =some (bt,iV Q o r gone)) (pg:Int) {K:PT×ET×Unit->A2->Prop} (k: ∀a,aF Q D G w0 a s L0->K (cM s.1 r pg,cx s.1 r pg,()) a):
 aA AC 167 (.bu [.agg SK,.agg ZC]) [ah (ae bt),aa pg] w K:=by
 refine S.go λw1 S=>aQ (C:=N0) (AR (Un _ pg w1 K) ?_);refine S.al λb a S=>S.al λb1 g S=>S.way pg λh bc j S=>S.M8 (pg:=pg) (k0+4) c (by simp) (by simp) λbs cs rest l S=>?_;have m:(bG s.1 pg 3 r).length<=4:=k6 s.1 pg 3 r;have n:0<(bG s.1 pg 3 r).length:=HQ.2 (mY s.1 pg 3 r);have d:aR .i64 (((bG s.1 pg 3 r).length:Nat):Int) 1=(((bG s.1 pg 3 r).length - 1:Nat):Int):=by rw[aX (by omega) (by omega)];omega
 have e:=dK (S.get (i:=0) rfl) (lQ s.1 r pg);dsimp only;rw[d];refine⟨⟨rfl,by omega,by omega⟩,ag.of (cM s.1 r pg) e ?_⟩;refine S.al λb2 p S=>S.cQ 0 rfl rfl rfl λq S=>S.ld 0 rfl rfl ⟨rfl,S.a_ 0 rfl rfl (S.at_ (k0+6) c _ λt S=>⟨cK (S.get (i:=0) rfl) rfl,S.cQ 5 rfl rfl rfl λu S=>S.cQ 4 rfl rfl rfl λv S=>S.en λf S=>S.ld 5 rfl rfl (S.ld 4 rfl rfl (k f S.tail.tail.tail.tail.tail.tail))⟩)⟩
theorem query (S:aF Q D G w0 w s L0) (k0:Nat) (f:L0[k0]? =some (bt,iV Q o r gone)) (pg:Int) {K:Int×Int×Int×Unit->A2->Prop} (k: ∀a,aF Q D G w0 a s L0->K (bC s r gone pg) a):
 aA AC 83 (.bu [aq,aq,aq]) [ah (ae bt),aa pg] w K:=by
 refine S.go λw1 S=>aj (C:=N0) (AR (KA _ pg w1 K) ?_);refine⟨_,S.state k0 f,?_⟩;unfold bC at k;cases gone with
 |true=>
  rw[az rfl] at k;exact ax rfl (S.en λa S=>k a S)
 |false=>
  rw[ar (by decide)] at k;refine an rfl (ab (λc=>S.en λa S=>?_) (λc=>?_))
  .simp only[FS,decide_eq_true_eq] at c;rw[az c] at k;exact k a S
  .simp only[Df,decide_eq_false_iff_not] at c;rw[ar (by omega)] at k;refine S.end_ k0 f pg λa S=>S.al λb g S=>S.al λb1 h S=>S.cQ 1 rfl rfl rfl λi S=>S.cQ 0 rfl rfl rfl λj S=>⟨rfl,S.a_ 0 rfl rfl (ab (λd=>S.en λe S=>?_) (λd=>S.ld 1 rfl rfl (S.ld 0 rfl rfl ⟨_,Iy (by omega) (cM s.1 r pg) (cx s.1 r pg) (mw _ _) _,rfl,S.a_ 0 rfl rfl (S.en λe S=>?_)⟩)))⟩
   .have d:(cx s.1 r pg).1=false:=by simpa using d
    rw[d,ar (by decide)] at k;exact k e S.tail.tail
   .have d:(cx s.1 r pg).1=true:=by simpa using d
    rw[d,az rfl] at k;exact k e S.tail.tail
theorem split (S:aF Q D G w0 w s L0) (k0:Nat) (d:L0[k0]? =some (bt,iV Q o r gone)) (pg:Int) {K:Int->A2->Prop} (k: ∀f,aF Q D G w0 f (fu s o r pg) L0->K (kB s o r pg) f):
 aA AC 291 aT [ah (ae bt),aa pg] w K:=by
 refine S.go λw1 S=>aj (C:=N0) (AR (KB _ pg w1 K) ?_);unfold fu kB at k;refine S.end_ k0 d pg λf S=>S.al λb j S=>S.al λb1 l S=>S.cQ 1 rfl rfl rfl λm S=>S.cQ 0 rfl rfl rfl λn S=>⟨rfl,S.a_ 1 rfl rfl (ab (λc=>S.en λg S=>?_) (λc=>?_))⟩
 .have c:(cM s.1 r pg).2.1=0:=by simpa using c
  rw[az c,az c] at k;exact k g S.tail.tail
 .have c: ¬ (cM s.1 r pg).2.1=0:=by simpa using c
  rw[ar c,ar c] at k;refine S.abb (k0+2) d 0 (be:=b1) (e:=cx s.1 r pg) rfl (mw _ _) λg S=>ab (λa=>⟨rfl,S.a_ 1 rfl rfl ⟨cw (fb s o),Ix _ _,S.lay (k0+2) d _ (cw (fb s o)) λh S=>S.en λi S=>?_⟩⟩) (λa=>S.en λh S=>?_)
  .have a:oZ s o=0:=by simpa using a
   rw[az a] at k;exact k i S.tail.tail
  .have a: ¬ oZ s o=0:=by simpa using a
   rw[ar a] at k;exact k h S.tail.tail
end aF
end
set_option maxRecDepth 100000
open Go.RX D
theorem Iz (ws:List Int) (pg:Int): ∀(l:Nat) (f:Int) (x:PT),x∈bG ws pg l f->0<=x.2.1/\x.2.1<=(l:Int)
 |0,f,x,h=>by
  rw[bG,Ff] at h;subst h;exact⟨Dt _,Dt _⟩
 |l+1,f,x,h=>by
  rw[bG] at h;rcases FC.1 h with rfl|h
  .exact⟨by show(0:Int)<=((l+1:Nat):Int);omega,Dt _⟩
  .split at h
   .have:=Iz ws pg l _ x h;omega
   .cases h
theorem Uz (ws:List Int) (r pg:Int):0<=(cM ws r pg).2.1/\(cM ws r pg).2.1<=3:=by
 have:=Iz ws pg 3 r _ (DC (lQ ws r pg));omega
section
variable {Q:Sys} {D G:List Nat} {w0 w:A2} {s:WD} {L0:List (Nat×List AG)} {bt:Nat} {o r:Int} {gone:Bool}
namespace aF
theorem put (S:aF Q D G w0 w s L0) (k0:Nat) (c:L0[k0]? =some (bt,iV Q o r gone)) (pg lv:Int) (B:0<=lv/\lv<=3) (e:ET) {K:Int->A2->Prop} (k: ∀g,aF Q D G w0 g (pW s o r pg lv e) L0->K (lp s r pg lv) g):
 aA AC 289 aT [ah (ae bt),aa pg,aa lv,.agg ⟨[.bool e.1,aa e.2.1,.bool e.2.2.1,aa e.2.2.2.1]⟩] w K:=by
 refine S.go λw1 S=>aj (C:=N0) (b_:=wY) (AR (Uo _ pg lv e.1 e.2.1 e.2.2.1 e.2.2.2.1 w1 K) ?_);have E:=Uz s.1 r pg;unfold pW at k;refine S.al λb g S=>S.end_ (k0+1) c pg λg S=>S.al λb1 F S=>S.al λb2 H S=>S.cQ 1 rfl rfl rfl λI S=>S.cQ 0 rfl rfl rfl λJ S=>⟨rfl,S.a_ 0 rfl rfl ⟨λ_=>rfl,S.a_ 1 rfl rfl ?_⟩⟩;by_cases a:((cx s.1 r pg).1||decide ((cM s.1 r pg).2.1<lv))=true
 .have d:lp s r pg lv=5:=by unfold lp;rw[az a]
  rw[d,ar (by decide)] at k;exact ax a (S.en λf S=>k f S.tail.tail.tail)
 have l:=a;simp only[FS,decide_eq_true_eq,not_or] at l;refine an (by simpa using a) ⟨rfl,rfl,S.a_ (k0+3) c rfl ⟨_,S.cnt 0,rfl,S.a_ 1 rfl rfl ?_⟩⟩;have m:aR .i64 (cM s.1 r pg).2.1 lv=(cM s.1 r pg).2.1 - lv:=aX (by omega) (by omega);dsimp only;rw[m];by_cases h:(cB s.2 0:Int)<(cM s.1 r pg).2.1 - lv
 .have d:lp s r pg lv=12:=by unfold lp;rw[ar a,az h]
  rw[d,ar (by decide)] at k;exact ax (by simpa using h) (S.en λf S=>k f S.tail.tail.tail)
 have d:lp s r pg lv=0:=by unfold lp;rw[ar a,ar h]
 rw[d,az rfl] at k;have ⟨n0,p⟩: ∃n0,n0=((cM s.1 r pg).2.1 - lv).toNat:=⟨_,rfl⟩;rw[<-p] at k;have ⟨z,i⟩: ∃z,z=nP o pg n0 (s,cM s.1 r pg):=⟨_,rfl⟩;rw[<-i] at k;refine an (by simpa using h) ⟨λn _ w'=> ∃t:WD, ∃x:PT,nP o pg n (t,x)=z/\x.2.1=lv+(n:Int)/\n<=3/\aF Q D G w0 w' t ((b2,[.bool (cx s.1 r pg).1,aa (cx s.1 r pg).2.1,.bool (cx s.1 r pg).2.2.1,aa (cx s.1 r pg).2.2.2.1])::(b1,[aa x.1,aa x.2.1,aa x.2.2.1])::(b,[.bool e.1,aa e.2.1,.bool e.2.2.1,aa e.2.2.2.1])::L0),
  ⟨n0,λf q=>⟨s,cM s.1 r pg,i.symm,by omega,by omega,S.ext q⟩⟩,?_⟩
 rintro n u f ⟨t,x,hd,L,M,S⟩;refine⟨rfl,S.a_ 1 rfl rfl ?_⟩;rcases n with _|n
 .refine an (by simp;omega) ⟨rfl,S.a_ 1 rfl rfl (S.ld 2 rfl rfl (S.lay (k0+3) c _ e λv S=>S.en λj S=>k j ?_))⟩;have:z=(t,x):=hd.symm;rw[this];exact S.tail.tail.tail
 .refine ax (by simp;omega) (S.aba (k0+3) c λv S=>⟨rfl,S.a_ 1 rfl rfl ⟨cw (fb t o),Ix _ _,S.lay (k0+3) c _ (cw (fb t o)) λj S=>⟨rfl,S.a_ 1 rfl rfl ⟨rfl,S.a_ 1 rfl rfl ⟨trivial,S.cQ 1 rfl rfl rfl λN S=>λO y=>⟨n,by omega,dx (g8 t o λ_=>0) x.2.2.1 (cw (fb t o)),(fb t o,x.2.1 - 1,c9 (fb t o) pg (x.2.1 - 1),()),hd,by show x.2.1 - 1= _;omega,by omega,?_⟩⟩⟩⟩⟩⟩);have A:aR .i64 x.2.1 1=x.2.1 - 1:=aX (by omega) (by omega);have S:=S.ext y;rw[A] at S;exact S
theorem map (S:aF Q D G w0 w s L0) (k0:Nat) (b:L0[k0]? =some (bt,iV Q o r gone)) (pg f rt:Int) {K:Int->A2->Prop} (k: ∀a,aF Q D G w0 a (js s o r gone pg f rt) L0->K (iW s r gone pg f rt) a):
 aA AC 214 aT [ah (ae bt),aa pg,aa f,aa rt] w K:=by
 refine S.go λw1 S=>aj (C:=N0) (AR (Uq _ pg f rt w1 K) ?_);unfold js iW at k;refine⟨_,S.state k0 b,?_⟩;cases gone with
 |true=>
  rw[az rfl,az rfl] at k;exact ax rfl (S.en λa S=>k a S)
 |false=>
  have d: ¬ (false=true):=by decide
  rw[ar d,ar d] at k;refine an rfl ⟨_,Iw _ _ _ _,ab (λc=>S.en λa S=>?_) (λc=>S.put k0 b pg 0 ⟨by decide,by decide⟩ (true,rt,false,f,()) λa S=>S.en λe S=>?_)⟩
  .have c: ¬ jL pg f rt=0:=by simpa using c
   rw[ar c,ar c] at k;exact k a S
  .have c:jL pg f rt=0:=by simpa using c
   rw[az c,az c] at k;exact k e S
end aF
end
set_option maxRecDepth 100000
open Go.RX D
theorem UA {p:Prop} {α:Type} (d:Decidable p) (c: ¬ p) (a b:α):(Cs (λ_=>a) (λ_=>b) d:α)=a:=by
 cases d with
 |isFalse h=>rfl
 |isTrue h=>exact absurd h c
theorem IA {ws:List Int} {i n:Int} (h: ¬ (n<1\/i<0\/i>ws.length\/n>ws.length - i)):(jt ws i n).length=n.toNat:=by
 unfold jt;rw[ar h,Dl,HY];omega
section
variable {D G:List Nat} {w0 w:A2} {L:List (Nat×List AG)}
theorem YE {bw n c:Nat} {ws:List Int} {rest:List AG} (p:bq w bw (flat eW ws++rest)) (I:n=ws.length) (hc:n<=c) (hb:n<=1048576) (i k:Int):
 aC AC 80 di [.agg ⟨[.slice (ae bw) n c]⟩,aa i,aa k] w (λr w'=>kx w w' eW r (jt ws i k)/\Ext w w'):=by
 refine aj (C:=N0) (AR (Ut _ n c i k w _) ?_);have H:=At.start [] w;refine aH.go H λb J H=>⟨λ_=>rfl,ag.bj 0 H rfl rfl ⟨λ_=>rfl,ag.bj 0 H rfl rfl ?_⟩⟩;by_cases e:k<1\/i<0\/i>ws.length\/k>ws.length - i
 .have q:jt ws i k=[]:=az e;rw[q];refine ax ?_ (ak.go H λl H=>⟨kx.nil w l eW,H.all⟩);dsimp only;simp only[FS,decide_eq_true_eq];by_cases s:k<1
  .exact .inl (.inl (.inl s))
  .by_cases h2:i<0
   .exact .inl (.inl (.inr h2))
   .by_cases t:i>(n:Int)
    .exact .inl (.inr t)
    .refine .inr ?_;rw[aX (by omega) (by omega)];omega
 .have K:1<=k/\0<=i/\i+k<=n:=by omega
  have u:aR .i64 (n:Int) i=(n:Int) - i:=aX (by omega) (by omega);refine an ?_ ?_
  .dsimp only;rw[u];simp only[Df,decide_eq_false_iff_not];omega
  refine xG.go H (z:=[av 0]) rfl (by omega) (Dt _) (by omega) (by omega) λb1 l H=>⟨rfl,ag.bj 1 H rfl rfl ⟨by dsimp only;omega,λv x=>?_⟩⟩;have H:=H.ext x;have y:=p.ext H.all;dsimp only;rw[UA _ (by show ¬ (((c:Nat):Int).toNat=i.toNat);omega)];have d:(jt ws i k).length=k.toNat:=IA e;have A:jt ws i k=(ws.drop i.toNat).take k.toNat:=ar e;have a:(flat eW (jt ws i k)).length=k.toNat:=by rw[aK,d];exact Da _
  have B:Nat.min (((n:Nat):Int).toNat - i.toNat) k.toNat=k.toNat:=Nat.min_eq_right (by omega);have f:(Fe k.toNat [av 0]).flatten.length=k.toNat:=by simp
  refine⟨flat eW (jt ws i k),?_,.inr (.inr ⟨?_,?_⟩),?_⟩
  .show rS v (ad (ae bw) (i.toNat*1)) (Nat.min (((n:Nat):Int).toNat - i.toNat) k.toNat*1) _;rw[B,aS,Da,Da];refine y.rS a λj D=>?_;have E:=HV ws;have F:=HV (jt ws i k);rw[H2,E,F,FJ (by rw[Ch];omega),Hb,Hb,A,Hr D,Hz]
  .rw[a];exact(H.get (i:=0) rfl).st (by rw[f];omega)
  .have:=kR eW (jt ws i k) rfl;exact this
  .have m:=H.put 0 (b:=b1) (o:=0) rfl (flat eW (jt ws i k)) (by rw[a,f];omega);have hd:List.drop k.toNat (Fe k.toNat [av 0]).flatten=[]:=Fm (Nat.le_of_eq f);rw[H2,a,hd,DA,List.take_zero,List.nil_append] at m;refine ak.go m λL g=>⟨?_,g.all⟩;have G:w.heap.size<=b1:=by
    rcases g.own (b1,flat eW (jt ws i k)) FB with h|h
    .exact h
    .cases h
   refine⟨d.symm,by rw[d];exact B3 _,.inr ⟨b1, _,rfl,G,g.get (i:=0) rfl,by rw[a];exact(Da _).symm,?_⟩⟩;rw[d];exact Dm (by rw[a];exact Nat.le_of_eq (Da _).symm)
theorem KI {e:El} {xs:List e.T} {rest:List AG} {i:Nat} {x:e.T} (a:xs[i]? =some x) {j:Nat} (b:j<aM e):(flat e xs++rest)[i*aM e+j]? =(cellsOf e x)[j]? :=by
 have hi:i<xs.length:=(B5.1 a).1;have c:i*aM e+j<(flat e xs).length:=by
  rw[aK];have:(i+1)*aM e<=xs.length*aM e:=Nat.mul_le_mul_right _ hi;rw[Nat.add_mul] at this;omega
 rw[FJ c];exact zu e xs i x a j b
end
section
variable {Q:Sys} {D G:List Nat} {w0 w:A2} {s:WD} {L0:List (Nat×List AG)} {bt:Nat} {o r:Int} {gone:Bool}
abbrev Jb (Q:Sys) (s:WD):Prop:=s.1.length<=Q.c/\s.1.length<=1048576
namespace aF
theorem words (S:aF Q D G w0 w s L0) (hc:Jb Q s) (i n:Int) {K:Option AE×Nat×Nat->A2->Prop} (k: ∀x rows a,aF Q D G w0 a s (L0++rows)->ia eW rows x (jt s.1 i n)->K x a):
 aA AC 16 di [ah (ae Q.bm),aa i,aa n] w K:=by
 refine S.go λw1 S=>aj (C:=N0) (AR (KF _ i n w1 K) ?_);have ⟨b,h2,c,d,ca,la,H⟩:=S;refine an rfl ⟨rfl,rfl,ag.bj 0 H rfl rfl ?_⟩;refine aA.M7 H (λa H=>YE (H.get (i:=1) rfl) rfl hc.1 hc.2 i n) λx rows a H e=>ak.go H λf H=>k x rows f ⟨b,h2,c,d,ca,la,H⟩ e
theorem ur (S:aF Q D G w0 w s L0) {j bs:Nat} {l:List PT} {rest:List AG} (hb:L0[j]? =some (bs,flat (.agg SK) l++rest)) {i:Nat} {x:PT} (a:l[i]? =some x) (q:Nat) {K:Int->Prop} {v:Int} (b:q<3) (hv:(cellsOf (.agg SK) x)[q]? =some (aa v)) (k:K v):
 ag w none (ad (ad (ae bs) (i*3)) q) aq K:=by
 rw[aS,aS,H2];refine ag.of v ((S.get hb).mF ?_) k;have:=KI (e:= .agg SK) (rest:=rest) a (j:=q) b;rw[show i*3+q=i*aM (.agg SK)+q from rfl,this,hv];rfl
end aF
end
set_option maxRecDepth 100000
open Go.RX D
theorem abc (x:PT) (t:WD):ij [x] t=t:=rfl
theorem abd (x y:PT) (l:List PT) (t:WD):ij (x::y::l) t=if pX t.1 x.1=true then ij (y::l) (fm t.1 y.2.2.1 0,eC t.2 x.1 (aI 5 0)) else t:=rfl
theorem KJ {l:List PT} {q:Nat} {x y:PT} (a:l[q]? =some y) (b:l[q+1]? =some x):(l.take (q+2)).reverse=x::y::(l.take q).reverse/\(l.take (q+1)).reverse=y::(l.take q).reverse:=by
 grind[I1]
theorem IB {ws:List Int} (pg:Int): ∀(l:Nat) (f:Int),(0<=f/\f<4096)-> ∀x∈bG ws pg l f,0<=x.1/\x.1<4096
 |0,f,a,x,h=>by
  rw[bG] at h
  grind
 |l+1,f,a,x,h=>by
  rcases FC.1 h with rfl|h
  .grind
  .split at h
   .exact IB pg l _ (mw _ _) x h
   grind
section
variable {Q:Sys} {D G:List Nat} {w0 w:A2} {s:WD} {L0:List (Nat×List AG)} {bt:Nat} {o r:Int} {gone:Bool}
namespace aF
theorem thin (S:aF Q D G w0 w s L0) (hc:Jb Q s) (k0:Nat) (p:L0[k0]? =some (bt,iV Q o r gone)) {j bs c:Nat} {l:List PT} {rest:List AG} (hb:L0[j]? =some (bs,flat (.agg SK) l++rest)) (hl:l.length<=4) (T: ∀x∈l,0<=x.1/\x.1<4096)
 {K:Unit->A2->Prop} (k: ∀f,aF Q D G w0 f (ij l.reverse s) L0->K () f):
 aA AC 292 (.bu []) [ah (ae bt),.slice (ae bs) l.length c] w K:=by
 refine S.go λw1 S=>aj (C:=N0) (b_:=u6) (AR (QD _ _ _ c w1 K) ?_);have ⟨z,J⟩: ∃z,z=ij l.reverse s:=⟨_,rfl⟩;rw[<-J] at k;refine⟨λn v w'=> ∃t:WD,v.1+1=(n:Int)/\n<=l.length/\t.1.length=s.1.length/\ij (l.take n).reverse t=z/\aF Q D G w0 w' t L0,
  ⟨l.length,λf h2=>⟨s,?_,B3 _,rfl,by rw[List.take_length];exact J.symm,S.ext h2⟩⟩,?_⟩
 .show aR .i64 ((l.length:Nat):Int) 1+1= _;rw[aX (by omega) (by omega)];omega
 rintro n ⟨v,u⟩ f ⟨t,g,hn,A,hd,S⟩;dsimp only at g ⊢;rcases n with _| _|q
 .refine an (by simp;omega) (S.en λh S=>k h ?_);rw[<-hd];exact S
 .refine an (by simp;omega) (S.en λh S=>k h ?_);have:ij (l.take (0+1)).reverse t=t:=by
   cases l with
   |nil=>rfl
   |cons x l=>exact abc x t
  rw[<-hd,this];exact S
 .obtain rfl:v=((q+1:Nat):Int):=by omega
  have a:l[q+1]? =some l[q+1]:=B2 (by omega);have B:l[q]? =some l[q]:=B2 (by omega);generalize l[q+1]=x at a;generalize l[q]=y at B;have ⟨t2,t1⟩:=KJ B a;rw[t2,abd, <-t1] at hd;have hfx:=T x (DC a);have U:dk .i64 16 x.1=16*x.1:=da (by omega) (by omega);have es:aR .i64 ((q+1:Nat):Int) 1=(q:Int):=by rw[aX (by omega) (by omega)];omega
  refine ax (by simp) ⟨rfl,rfl,S.a_ k0 p rfl ⟨⟨rfl,by omega,by omega⟩,rfl,S.ur hb a 0 (by decide) rfl ?_⟩⟩;rw[U];refine S.words ⟨by rw[A];exact hc.1,by rw[A];exact hc.2⟩ (16*x.1) 16 λrr rows h S L=>?_;have hll:(jt t.1 (16*x.1) 16).length<=16:=by
   by_cases M:(16:Int)<1\/16*x.1<0\/16*x.1>t.1.length\/16>t.1.length - 16*x.1
   .rw[show jt t.1 (16*x.1) 16=[] from az M];simp
   .rw[IA M];decide
  have V:rr.2.1=(jt t.1 (16*x.1) 16).length:=L.1;refine⟨λn v w'=> ∃m:Nat,v.1=(m:Int)/\n+m=(jt t.1 (16*x.1) 16).length/\(∀i,i<m->(jt t.1 (16*x.1) 16)[i]? =some 0)/\aF Q D G w0 w' t (L0++rows),⟨(jt t.1 (16*x.1) 16).length,λN W=>⟨0,rfl,rfl,λi hi=>by omega,S.ext W⟩⟩,?_⟩;rintro n ⟨v,u2⟩ N ⟨m,g,MB,O,S⟩;dsimp only at g ⊢;subst g;rw[V];refine ab (λE=>?_) (λE=>?_)
  .have P:m<(jt t.1 (16*x.1) 16).length:=by simpa using E
   have hv:=B2 P;generalize (jt t.1 (16*x.1) 16)[m]=d at hv;have ⟨g1,X,Y,Z,ca,la,H⟩:=S;have R:=L.sl H (λx a=>by
    show x∈ _:: _:: _:: _::(L0++rows);simp[a]) m d hv
   have S:aF Q D G w0 N t (L0++rows):=⟨g1,X,Y,Z,ca,la,H⟩;refine⟨⟨R.1,by omega,by omega⟩,ag.of d R.2 (ab (λb=>S.en λF S=>k F ?_) (λb=>λF h5=>⟨n - 1,by omega,m+1,?_,by omega,λi hi=>?_,S.ext h5⟩))⟩
   .have b: ¬ d=0:=by simpa using b
    have I:pX t.1 x.1=false:=by
     unfold pX;rw[I8];exact⟨d,DC hv,by simpa using b⟩
    rw[I,ar (by decide)] at hd;rw[<-hd];exact S.sub (Fz _ _)
   .rw[ao (by omega) (by omega)];omega
   .have b:d=0:=by simpa using b
    by_cases e:i=m
    .subst e;rw[hv,b]
    .exact O i (by omega)
  .have P: ¬ m<(jt t.1 (16*x.1) 16).length:=by simpa using E
   have I:pX t.1 x.1=true:=by
    unfold pX;rw[I_];intro d ZD;have ⟨i,hi⟩:=IR ZD;have:=O i (by have:=(B5.1 hi).1;omega);rw[hi] at this;cases this;rfl
   rw[I,az rfl] at hd;have S:=S.sub (Fz L0 rows);refine⟨rfl,rfl,S.a_ k0 p rfl ?_⟩;rw[es];refine⟨⟨rfl,by omega,by omega⟩,rfl,S.ur hb B 2 (by decide) rfl (S.store _ 0 ⟨by decide,by decide⟩ λF S=>⟨rfl,rfl,S.a_ k0 p rfl ⟨⟨rfl,by omega,by omega⟩,rfl,S.ur hb a 0 (by decide) rfl (S.S6 x.1 5 0 λw6 S=>λw7 h7=>⟨q+1,by omega, _,by show(q:Int)+1= _;omega,by omega,?_,hd,S.ext h7⟩)⟩⟩)⟩;show(fm t.1 y.2.2.1 0).length=s.1.length;rw[cL];exact A
theorem Bc (S:aF Q D G w0 w s L0) (hc:Jb Q s) (k0:Nat) (b:L0[k0]? =some (bt,iV Q o r gone)) (l:0<=r/\r<4096) (pg:Int) {K:Int×Int×Unit->A2->Prop} (k: ∀f,aF Q D G w0 f (hH s o r gone pg) L0->K (yE s o r gone pg,rK s o r gone pg,()) f):
 aA AC 217 (.bu [aq,aq]) [ah (ae bt),aa pg] w K:=by
 refine S.go λw1 S=>aj (C:=N0) (AR (KC _ pg w1 K) ?_);refine S.query k0 b pg λf S=>ab (λc=>S.en λh S=>?_) (λc=>?_)
 .have c: ¬ (bC s r gone pg).2.2.1=0:=by simpa using c
  have a:rK s o r gone pg=(bC s r gone pg).2.2.1:=ar c;have e:yE s o r gone pg=0:=by unfold yE;rw[a,ar c]
  have g:hH s o r gone pg=s:=ar c;rw[a,e,g] at k;exact k h S
 have c:(bC s r gone pg).2.2.1=0:=by simpa using c
 have a:rK s o r gone pg=kB s o r pg:=az c;have g:hH s o r gone pg=if kB s o r pg=0 then ij (bG (fu s o r pg).1 pg 3 r).reverse _ else fu s o r pg:=az c;refine S.split k0 b pg λh S=>ab (λd=>S.en λm S=>?_) (λd=>?_)
 .have d: ¬ kB s o r pg=0:=by simpa using d
  have e:yE s o r gone pg=0:=by unfold yE;rw[a,ar d]
  grind
 have d:kB s o r pg=0:=by simpa using d
 have e:yE s o r gone pg=(bC s r gone pg).1:=by unfold yE;rw[a,az d]
 rw[e,a,g,az d,d] at k;have i:(fu s o r pg).1.length=s.1.length:=by
  unfold fu g8 dx;split
  .rfl
  .split
   .show(fm _ _ _).length= _;rw[cL,gN]
   .rfl
 generalize fu s o r pg=t at*
 refine S.way pg λq bc m S=>S.M8 (pg:=pg) (k0+2) b (by simp) (by simp) λbs cs rest u S=>⟨rfl,rfl,S.a_ (k0+3) b rfl ?_⟩;have n:(bG t.1 pg 3 r).length<=4:=k6 t.1 pg 3 r;have v:0<(bG t.1 pg 3 r).length:=HQ.2 (mY t.1 pg 3 r);have es:aR .i64 (((bG t.1 pg 3 r).length:Nat):Int) 1=(((bG t.1 pg 3 r).length - 1:Nat):Int):=by rw[aX (by omega) (by omega)];omega
 dsimp only;rw[es];refine⟨⟨rfl,by omega,by omega⟩,rfl,S.ur (j:=0) rfl (lQ t.1 r pg) 2 (by decide) rfl (S.store _ 0 ⟨by decide,by decide⟩ λx S=>S.thin ⟨by show(fm _ _ _).length<= _;rw[cL,i];exact hc.1,by show(fm _ _ _).length<= _;rw[cL,i];exact hc.2⟩ (k0+3) b (j:=0) rfl n (IB pg 3 r l) λy S=>S.en λp S=>k p S.tail.tail.tail)⟩
theorem tR (S:aF Q D G w0 w s L0) (k0:Nat) (g:L0[k0]? =some (bt,iV Q o r gone)) (pg rt:Int) {K:Int->A2->Prop} (k: ∀a,aF Q D G w0 a (pY s o r gone pg rt) L0->K (Cq s o r gone pg rt) a):
 aA AC 219 aT [ah (ae bt),aa pg,aa rt] w K:=by
 refine S.go λw1 S=>aj (C:=N0) (AR (QE _ pg rt w1 K) ?_);unfold pY Cq at k;refine⟨_,S.state k0 g,?_⟩;cases gone with
 |true=>
  rw[az rfl,az rfl] at k;exact ax rfl (S.en λa S=>k a S)
 |false=>
  have j: ¬ (false=true):=by decide
  rw[ar j,ar j] at k;refine an rfl ⟨_,Iw _ _ _ _,ab (λc=>S.en λa S=>?_) (λc=>?_)⟩
  .have c: ¬ jL pg 0 rt=0:=by simpa using c
   rw[ar c,ar c] at k;exact k a S
  have c:jL pg 0 rt=0:=by simpa using c
  rw[az c,az c] at k;have m:0<=pg:=by
   unfold jL at c;by_cases h:pg<0\/pg>=65536\/(0:Int)<0\/(0:Int)>=4096
   .rw[az h] at c;cases c
   .omega
  refine S.end_ k0 g pg λa S=>S.al λb q S=>S.al λb1 t S=>S.cQ 1 rfl rfl rfl λu S=>S.cQ 0 rfl rfl rfl λv S=>⟨rfl,S.a_ 0 rfl rfl (ab (λd=>S.en λi S=>?_) (λd=>⟨rfl,S.a_ 0 rfl rfl ⟨λ_=>rfl,S.a_ 0 rfl rfl (ab (λe=>S.en λi S=>?_) (λe=>?_))⟩⟩))⟩
  .have d: ¬ (cx s.1 r pg).1=true:=by simpa using d
   rw[ar d,ar d] at k;exact k i S.tail.tail
  .have d:(cx s.1 r pg).1=true:=by simpa using d
   rw[az d,az d] at k;have e:((cx s.1 r pg).2.2.1&&(cx s.1 r pg).2.1==rt)=true:=e;rw[az e,az e] at k;exact k i S.tail.tail
  have d:(cx s.1 r pg).1=true:=by simpa using d
  rw[az d,az d] at k;have e: ¬ ((cx s.1 r pg).2.2.1&&(cx s.1 r pg).2.1==rt)=true:=by
   have n:((cx s.1 r pg).2.2.1&&(cx s.1 r pg).2.1==rt)=false:=e;rw[n];decide
  rw[ar e,ar e] at k;refine S.ld 1 rfl rfl (S.ld 0 rfl rfl ⟨_,Iy m (cM s.1 r pg) (cx s.1 r pg) (mw _ _) _,S.split (k0+2) g pg λi S=>ab (λf=>S.en λl S=>?_) (λf=>S.end_ (k0+2) g pg λl S=>S.cQ 1 rfl rfl rfl λx S=>⟨rfl,S.a_ 1 rfl rfl (S.lay (k0+2) g _ (true,rt,false,l9 pg (cM s.1 r pg) (cx s.1 r pg),()) λy S=>S.en λp S=>?_)⟩)⟩)
  .have f: ¬ kB s o r pg=0:=by simpa using f
   rw[ar f] at k;exact k l S.tail.tail
  .have f:kB s o r pg=0:=by simpa using f
   rw[az f,f] at k;exact k p S.tail.tail
end aF
end
set_option maxRecDepth 100000
open Go.RX
noncomputable def N1:fa AC:={N0 with cl:=[(65,.Wn)]}
def qz:Nat->aW:=(λ|3=>[(12,Go.RX.El.one (Go.RX.Sc.int AU))]|9=>[(34,.one aG)]| _=>[])
theorem GI (y:Nat) (p c d:Option AE) (w:A2) (i:Unit->A2->Prop):(bO N1 qz 362 [.func (.yield y) #[] #[],ah p,ah c,ah d] w i)=(
 aH w {toList:=[.func (Fn.yield y) ⟨[]⟩ ⟨[]⟩]} 65 λb a=>ag a none (ae b) (.one .Wn) λx=>aN a p λm=> ∀w1,Ext a w1->nA AC x [aa m] w1 λ(o:Bool) a=>aD (!o) (ak a (i ())) (∃(I:Nat->Int×Unit->List Nat->A2->Prop),(∃n, ∀w1,Ext a w1->I n (0,()) [] w1)/\ ∀(n:Nat) (s:Int×Unit) (D1:List Nat) (w1:A2),I n s D1 w1->aD (decide (s.1<16)) (eJ w1 c λx=>aN w1 p λq=>aA
 AC 252 (.el fp) [ah x,aa (ay .i64 (dk .i64 16 q) s.1)] w1 λ(x:Bool×Int×Bool×Int×Unit) a=>aH a ⟨[.bool false,aa 0,.bool false,aa 0]⟩ 301 λk a=>aw a (ae k) [.bool x.1,aa x.2.1,.bool x.2.2.1,aa x.2.2.2.1] λa=>aN a d λx=>ag a (some !x==0) (ae k) fp λ(j:Bool×Int×Bool×Int×Unit)=>((!x==0)=true->True)/\aD (x==0|| !cP j.1
 j.2.1 j.2.2.1 j.2.2.2.1) (∀e,Ext a e-> ∃(f:Nat),f<n/\I f (ay .i64 s.1 1,()) D1 e) (eJ a c λx=>true=true/\aN a (ad (ae k) 3) λt=>aN a d λu=>aA AC 334 (.el (.one (.vk 362 3))) [ah x,aa t,aa (aR .i64 u 1)] a λx a=>Aw AC 362 (λ(y:Nat)=>[.func (Fn.yield y) ⟨[]⟩ ⟨[]⟩,ah x.1,ah x.2.1,ah x.2.2.1]) ⟨[34]⟩ a (λ(x:Int×Unit)=>[aa x.1]) (λ(l:Nat)
 (rec:Loop) (x:Int×Unit) e (R:Bool->A2->Prop)=>De l rec [aa x.1].length 1 e (B_ l rec e λg=>ag g none (ae b) (.one .Wn) λv=> ∀w1,Ext g w1->nA AC v [aa x.1] w1 λ(b:Bool) a=>aD (!b) (tj l rec (some Code.ret) a R) (tj l rec none a R))) λ(r:Nat) (rec:Loop) z=>dX (r+1) rec z (λg=> ∀e,Ext g e-> ∃(f:Nat),f<n/\I f (ay .i64 s.1 1,()) (r::D1) e) (λ(id:Nat) g=>Cs (λ(h:id=2->False)=>Cs (λ(h:id=1->False)=>
 Cs (λ(h:id=0->False)=>False) (λ(h:id=0)=>tq (r::D1) g λw1=>i () w1) (match h:id.beq 0 with|true=>isTrue (Du h)|false=>isFalse (Dx h))) (λ(h:id=1)=> ∀e,Ext g e-> ∃(f:Nat),f<n/\I f (ay .i64 s.1 1,()) (r::D1) e) (match h:id.beq 1 with|true=>isTrue (Du h)|false=>isFalse (Dx h))) (λ(h:id=2)=> ∀e,Ext g e-> ∃(f:Nat),f<n/\I f (ay .i64 s.1 1,()) (r::D1) e)
 (match h:id.beq 2 with|true=>isTrue (Du h)|false=>isFalse (Dx h))) λg=>tq (r::D1) g λw1=>i () w1)) (byD D1 (ak w1 (i ())) λ(r:Nat) (D:List Nat)=>tq (r::D) w1 λw1=>i () w1))):=by kernel_rfl
open Go.RX D
section
variable {T:Type} {bm:Nat} {mc:List AG->Prop} {J:List T->List (Nat×List AG)->List (Nat×Obj)->A2->Prop} {a:List T} {X:List (Nat×List AG)} {O:List (Nat×Obj)} {w w':A2}
theorem Aw.inX (K:JK bm mc J) {P:Program} {k:FuncId} {args:Nat->List AG} {ps:Array Nat} {f:T->List AG} {m:Nat->Loop->T->A2->(Bool->A2->Prop)->Prop} {n:Nat->Loop->A2->Prop} {N:Nat} {p:List (Nat×List AG)} {xs:List T}
 (j:J a X O w) (t:ItJ P k args f N bm mc p xs) (u: ∀x∈p,x∈X) (y:a.length+xs.length<=N)
 (z: ∀b x X' O' l rec d (R:Bool->A2->Prop),b.length<N->J b (X'++X) ((l,MC rec)::O') d->(∀w',J (b++[x]) (X'++X) ((l,MC rec)::O') w'->R true w')->m l rec x d R)
 (A: ∀r rec g,J (a++xs) X ((r+1,MC rec)::(r,.deferred (some []))::O) g->n r rec g):Aw P k args ps w f m n:=by
 intro w1 B rec _ _ C D E;have W:rec={rec with state:= .ready,pending:= .none}:=by rw[<-C, <-D]
 have sz:(w1.alloc (.deferred (some []))).heap.size=w1.heap.size+1:=mA _ _;have j1:J a X _ (w1.alloc (.deferred (some []))):=K.alO (K.ext j B) (λ_ _ _ e=>by cases e);have q:=K.alO (o:=MC rec) j1 (HT rec _ _);rw[sz] at q
 let Z:=(w1.heap.size+1,MC rec)::(w1.heap.size,.deferred (some []))::O
 let i:=λb X' O' w=>J b (X'++X) (O'++Z) w
 have F:JK bm mc i:=
  {step:=λ{a' X' O' w2 d l' Y} h G hb H I L=>by
    have:=K.step h G hb H I L
    grind
   mem:=λh=>K.mem h
   d_:=λh hm=>K.d_ h (by grind)
   obj:=λh hm=>K.obj h (by grind)
   alO:=λh c=>K.alO h c
   Zv:=λh c=>K.Zv h c
   sub:=λh hx c=>K.sub h (by grind) (c.append_right Z)
   perm:=λh c=>K.perm h (c.append_right Z)}
 have M:Yd P (w1.heap.size+1) f N i:=λb x X' O' d R hb h Q=>by
  refine E x d R ?_;have s:((w1.heap.size+1,MC rec)::(O'++((w1.heap.size,.deferred (some []))::O))).Perm (O'++Z):=(Dn).symm;exact z b x X' _ _ rec d R hb (K.perm h s) (λw' h'=>Q w' (K.perm h' s.symm))
 have S:(w1.alloc (.deferred (some []))).alloc (.loop rec)=(w1.alloc (.deferred (some []))).alloc (MC rec):=by
  grind
 rw[S];have U:=K.sub q (λx hm=>by
  rcases List.mem_append.1 hm with hm|hm<;>exact hm) (Ct _)
 refine Calls.mono (t (w1.heap.size+1) i F M a X [] _ y u U) ?_;rintro e g ⟨v,V,h⟩;exact⟨v,V,A _ _ _ (K.sub h (by grind) (by grind))⟩
end
def kD (ws:List Int) (l:Nat) (f:Int) (i:Nat):List Int:=match l with
 |0=>[]
 |l+1=>if eM (aO ws (16*f+(i:Int)))=true then cC ws l (aO ws (16*f+(i:Int))).2.2.2.1 else[]
theorem kK (ws:List Int): ∀(l:Nat) (f:Int),cC ws l f=f::(AZ 16).flatMap (kD ws l f)
 |0,f=>by
  simp[cC,kD]
 |l+1,f=>rfl
theorem BE {m:Nat} (a:m<16) (g:Nat->List Int): ∃z,(AZ 16).flatMap g=(AZ m).flatMap g++(g m++z):=by
 obtain⟨z,e⟩: ∃z,AZ _=AZ (m+1)++z:=by
  refine⟨(AZ 16).drop (m+1),?_⟩
  conv=>rw[<-List.take_append_drop (m+1) (AZ 16)]
  grind
 rw[e,In];simp
abbrev emI (x:Int×Unit):List AG:=[aa x.1]
abbrev SN (x:Int):Int×Unit:=(x,())
abbrev ucs (bt a b c:Nat) (f:Int) (l:Nat):List (Nat×List AG):=[(a,[aa f]),(b,[ah (ae bt)]),(c,[aa (l:Int)])]
theorem KK {D G:List Nat} {w0 w:A2} {L:List (Nat×List AG)} (H:aJ D G w0 w L) (p:Option AE) (f lv:Int) {K:Option AE×Option AE×Option AE×Unit->A2->Prop}
 (k: ∀b b1 b2 a,aJ D G w0 a ((b2,[aa lv])::(b1,[aa f])::(b,[ah p])::L)->K (some ⟨b1,0,none⟩,some ⟨b,0,none⟩,some ⟨b2,0,none⟩,()) a):
 aA AC 334 FW [ah p,aa f,aa lv] w K:=
 aA.go H λw1 H=>aj (AR (BC p f lv w1 K) (aH.go H λb a H=>aH.go H λb1 c H=>aH.go H λb2 d H=>ak.go H (by grind)))
abbrev UIt (Q:Sys) (ws:List Int) (bt:Nat) (o r:Int) (gone:Bool) (N lv:Nat):Prop:= ∀(f:Int) (d:0<=f/\f<4096) (a b c:Nat),
 ItJ AC 362 (λy=>[.func (.yield y) #[] #[],ah (ae a),ah (ae b),ah (ae c)]) emI N Q.bm (Mc Q ws.length)
  ((bt,iV Q o r gone)::(Q.bw,flat eW ws++Q.rw)::ucs bt a b c f lv) ((cC ws lv f).map SN)
theorem GJ {Q:Sys} {ws:List Int} {bt:Nat} {o r:Int} {gone:Bool} {N:Nat} (fO:okW ws) (jK:0<ws.length) (lv:Nat) (WU:lv<=3) (ih: ∀l',lv=l'+1->UIt Q ws bt o r gone N l'):UIt Q ws bt o r gone N lv:=by
 intro f hf G p q y J K I a X O w i hX j;refine Calls.mono (aQ (C:=N1) (b_:=qz) (Post:=λ_ w'=>J (a++(cC ws lv f).map SN) X O w') (AR (GI y _ _ _ w _) ?_)) ?_
 rotate_left
 .rintro e w' ⟨x,rfl,h⟩;exact⟨_,rfl,h⟩
 rw[kK] at i ⊢;simp only[List.map_cons,C7,Ch] at i;obtain⟨lm,⟨ca,la,rfl⟩,H⟩:=K.at0 j;refine aH.go H λb w2 H=>?_;have j:=K.tL (Y:=[(b, _)]) j H ⟨_, _,rfl⟩;have g: ∀x∈(bt,iV Q o r gone)::(Q.bw,flat eW ws++Q.rw)::ucs bt G p q f lv,x∈[(b,[E4 (.yield y) #[] #[]])]++X:=λx s=>DS _ (hX x s);have t:(b,[E4 (.yield y) #[] #[]])∈[(b,[E4 (.yield y) #[] #[]])]++X:=H8 _ (Ff.2 rfl);have back: ∀{L:List (Int×Unit)} {w':A2},J L ([(b,[E4 (.yield y) #[] #[]])]++X) O w'->J L X O w':=λh=>K.sub h (λx s=>DS _ s) (Ct _);generalize [(b,[E4 (.yield y) #[] #[]])]++X=k at j g t back;have M:=g (bt,iV Q o r gone) (by simp);have P:=g (Q.bw,flat eW ws++Q.rw) (by simp);have S:=g (G,[aa f]) (by simp);have T:=g (p,[ah (ae bt)]) (by simp);have x5:=g (q,[aa (lv:Int)]) (by simp);refine ag.of y ((K.d_ j t).2.mF rfl) (ag.of f ((K.d_ j S).2.mF rfl) λw3 h3=>I a (SN f) k O w3 _ (by omega) (K.ext j h3) λw4 j=>?_);refine an rfl ⟨λn v D1 w'=> ∃m:Nat,v.1=(m:Int)/\n+m=16/\J (a++SN f::((AZ m).flatMap (kD ws lv f)).map SN) k (D1.map (λr=>(r,Obj.deferred (some [])))++O) w',⟨16,λU h5=>⟨0,rfl,rfl,by simpa using K.ext j h5⟩⟩,?_⟩;rintro n ⟨v,u⟩ D1 U ⟨m,V,MB,j⟩;dsimp only at V ⊢;subst V;refine ab (λA=>?_) (λA=>?_)
 .have B:m<16:=by simp at A;omega
  have ⟨z,hz⟩:=BE B (kD ws lv f);have W:(a++SN f::((AZ m).flatMap (kD ws lv f)).map SN).length+((kD ws lv f m).map SN).length<=N:=by
   rw[hz] at i;simp only[FA,C7,Ch] at i ⊢;omega
  have D:(AZ (m+1)).flatMap (kD ws lv f)=(AZ m).flatMap (kD ws lv f)++kD ws lv f m:=by
   rw[In,List.flatMap_append];simp
  have acd:ay .i64 (dk .i64 16 f) (m:Int)=16*f+(m:Int):=by rw[da (by omega) (by omega),ao (by omega) (by omega)]
  have ace:ay .i64 (m:Int) 1=((m+1:Nat):Int):=by rw[ao (by omega) (by omega)];omega
  refine ag.of (ae bt) ((K.d_ j T).2.mF rfl) (ag.of f ((K.d_ j S).2.mF rfl) ?_);rw[acd,ace];obtain⟨lm,⟨ca,la,rfl⟩,H⟩:=K.at0 j;have R:TbR Q ws U bt o r gone:=⟨(K.d_ j M).2,(K.d_ j P).2,(K.d_ j M).1,(K.d_ j P).1,fO,jK⟩;have b3:=K.d_ j x5;have Z:=K.d_ j T;have n3:q∉[Q.bm]:=by simpa using b3.1
  have n4:p∉[Q.bm]:=by simpa using Z.1
  refine N_ R H 0 rfl _ λAA w6 H=>aH.go H λb2 w7 H=>aw.all 0 H rfl rfl rfl λw8 H=>ag.iQ H b3.2 n3 rfl (ag.at 0 H rfl rfl ⟨λ_=>trivial,ab (λc=>λw9 h9=>?_) (λc=>?_)⟩)
  .have E:=K.sub (K.ext (K.tL (Y:=[(b2, _)]) j H ⟨_, _,rfl⟩) h9) (X':=k) (λx h=>DS _ h) (Ct _);refine⟨n - 1,by omega,m+1,rfl,by omega,?_⟩;have F:kD ws lv f m=[]:=by
    cases lv with
    |zero=>rfl
    |succ l=>
     have c:eM (aO ws (16*f+(m:Int)))=false:=by
      have h0:((((l+1:Nat):Int))==0)=false:=by simp;omega
      simp only[h0,Bool.false_or,Bool.not_eq_true'] at c;exact c
     exact ar (by rw[c];decide)
   rw[D,F,DA];exact E
  .have c0: ¬ lv=0/\eM (aO ws (16*f+(m:Int)))=true:=by
    simp only[Df,Bool.not_eq_false'] at c;refine⟨λe=>?_,c.2⟩;subst e;simp at c
   obtain⟨l,rfl⟩: ∃l,lv=l+1:=⟨lv - 1,by omega⟩;have F:kD ws (l+1) f m=cC ws l (aO ws (16*f+(m:Int))).2.2.2.1:=az c0.2;have elv:aR .i64 ((l+1:Nat):Int) 1=(l:Int):=by rw[aX (by omega) (by omega)];omega
   refine ag.iQ H Z.2 n4 rfl ⟨rfl,ag.bj 0 H rfl rfl (ag.iQ H b3.2 n3 rfl ?_)⟩;rw[elv];refine KK H _ _ _ λd d1 d2 w9 H=>?_;have E:=K.tL (Y:=[(d2, _),(d1, _),(d, _),(b2, _)]) j H ⟨_, _,rfl⟩;rw[F] at W D;refine Aw.inX K E (ih l rfl _ (mw _ _) d1 d d2) ?_ W ?_ ?_
   grind
   .intro b0 x X' O' l' rec np R hb j hR;refine De.WG K j rfl (B_.WG K j λwb j=>ag.of y ((K.d_ j (DS _ (DS _ t))).2.mF rfl) λl6 Ax=>I b0 x _ _ l6 _ hb (K.ext j Ax) λrX j=>an rfl (tj.WG K j λE7 j=>hR E7 j))
   .intro r' rec np j;refine dX.WG K j λl6 j=>λrX MH=>⟨n - 1,by omega,m+1,rfl,by omega,?_⟩;have j3:=K.sub (K.ext j MH) (X':=k) (λx h=>DS _ h) (Ct _);rw[D];simpa using j3
 .have B:m=16:=by simp at A;omega
  subst B;cases D1 with
  |nil=>exact λw6 h6=>back (K.ext j h6)
  |cons r' D1=>exact K.tq (r'::D1) j λw6 j=>back j
theorem QN {Q:Sys} {ws:List Int} {bt:Nat} {o r:Int} {gone:Bool} {N:Nat} (a:okW ws) (b:0<ws.length): ∀lv:Nat,lv<=3->UIt Q ws bt o r gone N lv:=by
 intro lv
 induction lv with
 |zero
 |succ=>
  intro h;refine GJ a b _ h λe=>?_
  grind
abbrev eN:El:= .one aG
theorem tc (ws:List Int): ∀(l:Nat) (f:Int),(cC ws l f).length<=(match l with|0=>1|1=>17|2=>273| _=>4369)\/3<l
 |0,f=> .inl (by simp[cC])
 |l+1,f=>by
  by_cases b:3<l+1
  .exact .inr b
  refine .inl ?_;have step: ∀(c:Nat) (a:List Nat),(∀i,(kD ws (l+1) f i).length<=c)->(a.flatMap (kD ws (l+1) f)).length<=a.length*c:=by
   intro c a h
   induction a with
   |nil=>simp
   |cons i a d=>
    rw[List.flatMap_cons,FA,C7,Nat.add_mul];have:=h i;omega
  have sub: ∀(c:Nat),(∀g,(cC ws l g).length<=c)-> ∀i,(kD ws (l+1) f i).length<=c:=by
   intro c h i;unfold kD
   grind
  rw[kK];have d:=tc ws l;rcases l with _| _| _|l
  .have:=step 1 (AZ 16) (sub 1 (by grind))
   grind
  .have:=step 17 (AZ 16) (sub 17 (by grind))
   grind
  .have:=step 273 (AZ 16) (sub 273 (by grind))
   grind
  .omega
theorem k9 (ws:List Int) (f:Int):(cC ws 3 f).length<=4369:=by grind[tc]
theorem vZ (ws:List Int) (l:Nat) (f:Int):cC ws l f≠[]:=by simp[kK]
theorem Eb (x:Int): ∀l:List Int,(kC x l).length=l.length+1
 |[]=>rfl
 |y::l=>by
  rw[kC];split
  .rw[C7,Eb];rfl
  .rfl
theorem zB: ∀(l a:List Int),(l.foldl (λa x=>kC x a) a).length=a.length+l.length
 |[],a=>rfl
 |x::l,a=>by
  rw[J3,zB,Eb,C7];omega
theorem v7 (l:List Int):(mR l).length=l.length:=by simp[mR,zB]
theorem YF (p z:List Int) (a c:Int):(p++a::z).set p.length c=p++c::z:=by simp
section
variable {Q:Sys} {D G:List Nat} {w0 w:A2} {s:WD} {L0:List (Nat×List AG)} {bt:Nat} {o r:Int} {gone:Bool}
namespace aF
theorem under (S:aF Q D G w0 w s L0) (f lv:Int) {K:Option AE×Option AE×Option AE×Unit->A2->Prop} (k: ∀b b1 b2 a,aF Q D G w0 a s ((b2,[aa lv])::(b1,[aa f])::(b,[ah (ae bt)])::L0)->K (some ⟨b1,0,none⟩,some ⟨b,0,none⟩,some ⟨b2,0,none⟩,()) a):
 aA AC 334 FW [ah (ae bt),aa f,aa lv] w K:=by
 refine S.go λw1 S=>aj (AR (BC _ f lv w1 K) ?_);exact S.al λb a S=>S.al λb1 c S=>S.al λb2 d S=>S.en (by grind)
theorem abe (S:aF Q D G w0 w s L0) (k0:Nat) (q:L0[k0]? =some (bt,iV Q o r gone)) {d e g:Nat} {f:Int} (t:0<=f/\f<4096) (u:(d,[aa f])∈L0) (h2:(e,[Jl (ae bt)])∈L0) (v:(g,[aa 3])∈L0)
 {K:Option AE×Nat×Nat->A2->Prop} (k: ∀bs cs rest i,aF Q D G w0 i s ((bs,flat eN (cC s.1 3 f)++rest)::L0)->K (some ⟨bs,0,none⟩,(cC s.1 3 f).length,cs) i):
 aA AC 333 di [.func (.func 362) #[] #[ah (ae d),ah (ae e),ah (ae g)]] w K:=by
 refine S.go λw1 S=>aQ (C:=N0) (b_:=so) (AR (KE _ _ _ w1 K) ?_);have ⟨g1,y,z,n,ca,la,H0⟩:=S;have H:=H0.again;refine aH.go H λbl i H=>?_;have A:=k9 s.1 f;refine Aw.M8 (N:=4369) (bm:=Q.bm) (mc:=Mc Q s.1.length) (Zw:=[(bl,[.slice none 0 0])]) (Lb:=(Q.bw,flat eW s.1++Q.rw)::(Q.bf,flat eD s.2++Q.rf)::(Q.bp,[.slice (ae Q.bf) s.2.length Q.cp])::L0) H ⟨_, _,rfl⟩
  (QN (o:=o) (r:=r) (gone:=gone) (bt:=bt) n g1 3 (B3 _) f t d e g) ?_ (by simpa using A) (λxs j=>WR eN bl (xs.map (·.1)) j) (.inl ⟨rfl,rfl⟩) ?_ ?_
 .intro x b;simp only[ucs,FC,HH,or_false] at b;rcases b with rfl|rfl|rfl|rfl|rfl
  .simp[DC q]
  .simp
  .simp[u]
  .simp[h2]
  .exact GS _ (GS _ (GS _ v))
 .intro X x j Z rr l rec Y R hN a c B;have ⟨sl,m⟩:=a.head;refine De.go c rfl (B_.goO c λwb H E F=>ag.at 0 H (by rw[FJ (B5.1 m).1];exact m) rfl (aH.go H λb2 p H=>λw7 I=>?_));have H:=H.ext I;exact a.push m (x:=x.1) H rfl rfl rfl (by simp only[Ch];omega) λJ w8 L M=>tj.iR E M λO P T=>B J O (by simpa using L) P (F.trans T)
 .rintro rr rec w4 l' j ⟨U,V,rfl⟩ a c;refine dX.none c λw5 H=>?_;have W:((cC s.1 3 f).map SN).map (·.1)=cC s.1 3 f:=by
   rw[List.map_map];exact List.map_id _
  rw[W] at a;rcases a with ⟨h, _⟩|⟨bs,cs,rest,rfl,q1,q2⟩
  .exact absurd h (vZ _ _ _)
  .refine ag.at 0 H rfl rfl (tq.go H λp H=>k bs cs rest p ⟨g1,y,z,n,U,V,H0.join (λx b=>b) ?_⟩);refine(H.sub (DB _ _)).perm ?_;exact Dn (l₁:=[_, _, _, _])
theorem HZ (S:aF Q D G w0 w s L0) {j bs:Nat} {xs:List Int} {rest:List AG} (a:L0[j]? =some (bs,flat eN xs++rest)) {i:Nat} {x:Int} (b:xs[i]? =some x):bP w (ad (ae bs) (i*1)) eN x:=dK (S.get a) b
theorem V7 (S:aF Q D G w0 w s L0) (j:Nat) {bs:Nat} {xs:List Int} {rest:List AG} (a:L0[j]? =some (bs,flat eN xs++rest)) {i:Nat} (hi:i<xs.length) (v:Int) {K:A2->Prop} (k: ∀w1,aF Q D G w0 w1 s (L0.set j (bs,flat eN (xs.set i v)++rest))->K w1):aw w (ad (ae bs) (i*1)) [aa v] K:=by
 have ⟨b,h2,c,d,ca,la,H⟩:=S;exact aw.flat (e:=eN) (j+4) H v a rfl rfl hi λw1 H=>k w1 ⟨b,h2,c,d,ca,la,H⟩
theorem all (S:aF Q D G w0 w s L0) (k0:Nat) (t:L0[k0]? =some (bt,iV Q o r gone)) (W:0<=r/\r<4096) {K:Option AE×Nat×Nat->A2->Prop} (k: ∀x rows d,aF Q D G w0 d s (L0++rows)->ia eN rows x (jy s r gone)->K x d):
 aA AC 284 di [ah (ae bt)] w K:=by
 refine S.go λw1 S=>aj (C:=N0) (b_:=wZ) (AR (Ur _ w1 K) ?_);refine⟨_,S.state k0 t,?_⟩;cases gone with
 |true=>exact ax rfl (S.en λd S=>k (none,0,0) [] d (by rw[DA];exact S) ⟨rfl,.inl ⟨rfl,rfl⟩⟩)
 |false=>
  refine an rfl ⟨rfl,rfl,S.a_ k0 t rfl (S.under r 3 λf X Y d S=>S.abe (k0+3) t W (by simp) (by simp) (by simp) λbs cs rest p S=>?_)⟩;have S:=S.perm (L1:=(bs,flat eN (cC s.1 3 r)++rest)::(L0++[(Y,[aa 3]),(X,[aa r]),(f,[ah (ae bt)])])) (H6 _ (by exact List.perm_append_comm (l₂:=[_, _, _])));have S:=S.sub (List.Sublist.cons_cons _ (Fz _ _));have hlen:=k9 s.1 r;have ha:jy s r false=mR (cC s.1 3 r):=ar (by decide);rw[ha] at k;have cO:=vZ s.1 3 r;generalize cC s.1 3 r=l at*
  refine⟨λn v w'=> ∃m:Nat,v.1=(m:Int)/\n+m=l.length/\aF Q D G w0 w' s ((bs,flat eN (((l.take m).foldl (λa x=>kC x a) []).reverse++l.drop m)++rest)::L0),⟨l.length,λw4 h4=>⟨0,rfl,rfl,by simpa using S.ext h4⟩⟩,?_⟩;rintro n ⟨v,u⟩ w4 ⟨m,b,MB,S⟩;dsimp only at b ⊢;subst b;refine ab (λz=>?_) (λz=>?_)
  .have E:m<l.length:=by simpa using z
   have ⟨R,F⟩: ∃R,R=(l.take m).foldl (λa x=>kC x a) []:=⟨_,rfl⟩;have H:R.length=m:=by rw[F,zB,Dl];simp;omega
   have M:=B2 E;have ⟨x,N⟩: ∃x,x=l[m]:=⟨_,rfl⟩;rw[<-N] at M;have hd:l.drop m=x::l.drop (m+1):=by rw[Jc E,N]
   have abf:(l.take (m+1)).foldl (λa x=>kC x a) []=kC x R:=by
    rw[I1,M,Option.toList_some,List.foldl_append, <-F];rfl
   have ⟨Z,O⟩: ∃Z,Z=l.drop (m+1):=⟨_,rfl⟩;rw[<-F,hd, <-O] at S;refine⟨λP v w'=> ∃A B:List Int,v.1=(A.length:Int)/\P=A.length/\A.length+B.length=m/\B++kC x A=kC x R/\aF Q D G w0 w' s ((bs,flat eN (A.reverse++x::(B.reverse++Z))++rest)::L0),⟨m,λg h5=>⟨R,[],by rw[H],H.symm,by simp[H],rfl,by simpa using S.ext h5⟩⟩,?_⟩;rintro P ⟨v,u2⟩ g ⟨A,B,b,rfl,hAB,I,S⟩;dsimp only at b ⊢;subst b;have T: ∀(C:List Int),C=kC x R-> ∀{w':A2},aF Q D G w0 w' s ((bs,flat eN (C.reverse++Z)++rest)::L0)-> ∀p,Ext w' p-> ∃U,U<n/\ ∃q:Nat,ay .i64 (m:Int) 1=(q:Int)/\U+q=l.length/\aF Q D G w0 p s ((bs,flat eN (((l.take q).foldl (λa x=>kC x a) []).reverse++l.drop q)++rest)::L0):=by
    intro C hC w' S p h3;refine⟨n - 1,by omega,m+1,by rw[ao (by omega) (by omega)];omega,by omega,?_⟩;rw[abf, <-hC, <-O];exact S.ext h3
   cases A with
   |nil=>
    refine⟨λh=>by simp at h,0,λh=>by simp at h,λh=>by simp at h,0,λh=>by simp at h,an rfl (T (B++kC x []) I (w':=g) ?_)⟩;have e:(B++kC x []).reverse++Z=[].reverse++x::(B.reverse++Z):=by simp[kC]
    rw[e];exact S
   |cons y A=>
    have e:(y::A).reverse++x::(B.reverse++Z)=A.reverse++y::x::(B.reverse++Z):=by simp
    rw[e] at S;simp only[C7] at hAB;have es:aR .i64 (((y::A).length:Nat):Int) 1=(A.length:Int):=by rw[C7,aX (by omega) (by omega)];omega
    rw[es];have J:(A.reverse++y::x::(B.reverse++Z))[A.length]? =some y:=by rw[Jf (by simp)];simp
    have V:(A.reverse++y::x::(B.reverse++Z))[A.length+1]? =some x:=by rw[Jf (by simp)];simp
    have AW:A.length<(A.reverse++y::x::(B.reverse++Z)).length:=(B5.1 J).1;have s1:(A.reverse++y::x::(B.reverse++Z)).set A.length x=A.reverse++x::x::(B.reverse++Z):=by
     have:=YF A.reverse (x::(B.reverse++Z)) y x;rwa[List.length_reverse] at this
    have s2:(A.reverse++x::x::(B.reverse++Z)).set (A.length+1) y=A.reverse++x::y::(B.reverse++Z):=by
     simp
    have AX:A.length+1<(A.reverse++x::x::(B.reverse++Z)).length:=by simp
    have t1:((A.length:Nat):Int).toNat=A.length:=rfl;have t2:(((y::A).length:Nat):Int).toNat=A.length+1:=rfl;rw[t1,t2];have g1:(some (⟨bs,0,none⟩:AE)).isSome=true/\0<=(A.length:Int)/\(A.length:Int)<(l.length:Int):=⟨rfl,by omega,by omega⟩;have L:(some (⟨bs,0,none⟩:AE)).isSome=true/\0<=(((y::A).length:Nat):Int)/\(((y::A).length:Nat):Int)<(l.length:Int):=⟨rfl,by omega,by rw[C7];omega⟩;refine⟨λ_=>g1,ag.of y (S.HZ (j:=0) rfl J) ⟨λ_=>L,ag.of x (S.HZ (j:=0) rfl V) (ab (λc=>⟨L,ag.of x (S.HZ (j:=0) rfl V) ⟨g1,ag.of y (S.HZ (j:=0) rfl J) ⟨g1,S.V7 0 rfl AW x λw6 S=>⟨L,?_⟩⟩⟩⟩) (λc=>T (B++kC x (y::A)) I (w':=g) ?_))⟩⟩
    .rw[s1] at S;refine S.V7 0 rfl AX y λw7 S=>λw8 h8=>⟨A.length,Nat.lt_succ_self _,A,B++[y],rfl,rfl,by simp;omega,?_,?_⟩
     .have f:y>x:=by simpa using c
      rw[<-I,kC,az f,HF];rfl
     .rw[s2] at S;have i:A.reverse++x::((B++[y]).reverse++Z)=A.reverse++x::y::(B.reverse++Z):=by simp
      rw[i];exact S.ext h8
    .have f: ¬ y>x:=by simpa using c
     have i:(B++kC x (y::A)).reverse++Z=A.reverse++y::x::(B.reverse++Z):=by rw[kC,ar f];simp
     rw[i];exact S
  .have E: ¬ m<l.length:=by simpa using z
   have b:l.take m=l:=Dm (by omega);have i:l.drop m=[]:=Fm (by omega);rw[b,i,DA] at S;refine S.en λg S=>k (some ⟨bs,0,none⟩,l.length,cs) [(bs,flat eN (mR l)++rest)] g (S.perm (List.perm_append_singleton _ _)) ⟨(v7 l).symm,.inr ⟨bs,rest,rfl,rfl⟩⟩
theorem drop (S:aF Q D G w0 w s L0) (k0:Nat) (c:L0[k0]? =some (bt,iV Q o r gone)) (B:0<=r/\r<4096) {K:Option AE×Nat×Nat->A2->Prop} (k: ∀x rows a,aF Q D G w0 a (bV s r gone) (L0.set k0 (bt,iV Q o r true)++rows)->ia eN rows x (jy s r gone)->K x a):
 aA AC 210 di [ah (ae bt)] w K:=by
 refine S.go λw1 S=>aj (C:=N0) (b_:=u7) (AR (QF _ w1 K) ?_);refine⟨_,S.state k0 c,?_⟩;have E:k0<L0.length:=(B5.1 c).1;cases gone with
 |true=>
  have e:L0.set k0 (bt,iV Q o r true)=L0:=HD (by grind);exact ax rfl (S.en λa S=>k (none,0,0) [] a (by rw[DA,e];exact S) ⟨rfl,.inl ⟨rfl,rfl⟩⟩)
 |false=>
  refine an rfl (S.all k0 c B λx rows a S d=>?_);have F:bV s r false=(s.1,(jy s r false).foldl (λds f=>eC ds f (aI 5 0)) s.2):=ar (by decide);rw[F] at k;have V:(jy s r false).length<=4369:=by
   rw[show jy s r false=mR (cC s.1 3 r) from ar (by decide),v7];exact k9 _ _
  generalize jy s r false=l at*
  have ⟨I,J,xc⟩:=x;have L:J=l.length:=d.1;subst L;have ⟨b,i⟩: ∃b,b=l.foldl (λds f=>eC ds f (aI 5 0)) s.2:=⟨_,rfl⟩;rw[<-i] at k;have j:(L0++rows)[k0]? =some (bt,iV Q o r false):=by grind
  refine⟨λn v w'=> ∃(m:Nat) (ds:List DT),v.1=(m:Int)/\n+m=l.length/\(l.drop m).foldl (λds f=>eC ds f (aI 5 0)) ds=b/\aF Q D G w0 w' (s.1,ds) (L0++rows),⟨l.length,λp M=>⟨0,s.2,rfl,rfl,i.symm,S.ext M⟩⟩,?_⟩;rintro n ⟨v,u⟩ p ⟨m,ds,q,W,hd,S⟩;dsimp only at q ⊢;subst q;refine ab (λg=>?_) (λg=>?_)
  .have h:m<l.length:=by simpa using g
   have t:=B2 h;have ⟨f,y⟩: ∃f,f=l[m]:=⟨_,rfl⟩;rw[<-y] at t;rw[Jc h, <-y,J3] at hd;have ⟨g1,N,O,P,ca,la,H⟩:=S;have z:=d.sl H (λx R=>by
    show x∈ _:: _:: _:: _::(L0++rows);simp[R]) m f t
   have S:aF Q D G w0 p (s.1,ds) (L0++rows):=⟨g1,N,O,P,ca,la,H⟩;refine⟨⟨z.1,by omega,by omega⟩,ag.of f z.2 ⟨rfl,rfl,S.a_ k0 j rfl (S.S6 f 5 0 λT S=>λA U=>⟨n - 1,by omega,m+1, _,?_,by omega,hd,S.ext U⟩)⟩⟩;rw[ao (by omega) (by omega)];omega
  .have h: ¬ m<l.length:=by simpa using g
   rw[Fm (by omega)] at hd;have hd:ds=b:=hd;subst hd;refine⟨rfl,rfl,S.oB k0 j rfl rfl λT S=>S.en λA S=>k (I,l.length,xc) rows A ?_ d⟩;rw[List.set_append_left _ _ E] at S;exact S
theorem new (S:aF Q D G w0 w s L0) (o:Int) {K:Option AE×Int×Unit->A2->Prop}
 (f:(s.1.length:Int)<16*(s.2.length:Int)-> ∀a,aF Q D G w0 a s L0->K (none,1,()) a)
 (g: ¬ (s.1.length:Int)<16*(s.2.length:Int)-> ¬ oZ s o=0-> ∀a,aF Q D G w0 a (g8 s o λ_=>0) L0->K (none,oZ s o,()) a)
 (k: ¬ (s.1.length:Int)<16*(s.2.length:Int)->oZ s o=0-> ∀b a,aF Q D G w0 a (g8 s o λ_=>0) ((b,iV Q o (fb s o) false)::L0)->K (some ⟨b,0,none⟩,0,()) a):
 aA AC 203 (.bu [bF,aq]) [ah (ae Q.bm),ah (ae Q.bp),aa o] w K:=by
 refine S.go λw1 S=>aj (C:=N0) (AR (Us _ _ o w1 K) ?_);have l:=S.pos;have h2:=S.yF;have m:=S.le;have h:(((s.1.length:Nat):Int)==0)=false:=by grind
 have i:(((s.2.length:Nat):Int)==0)=false:=by grind
 have j:dk .i64 16 ((s.2.length:Nat):Int)=16*(s.2.length:Int):=da (by omega) (by omega);refine⟨_,S.aam, _,λ_=>S.Xz, _,λ_=>S.aam, _,λ_=>S.Xz,?_⟩;rw[h,i,j];refine ab (λc=>S.en λa S=>f (by simpa using c) a S) (λc=>S.al λb a S=>S.aa' (r:=0) (gone:=false) 0 rfl λn S=>ab (λd=>S.en λe S=>?_) (λd=>⟨rfl,rfl,S.oB 0 rfl rfl rfl λe S=>S.en (by grind)⟩));exact g (by simpa using c) (by simpa using d) e S.tail
end aF
end
set_option maxRecDepth 100000
open Go.RX
abbrev gm:List Sc:=[eh,aG]
abbrev RS:Type:=Int×Int×Unit
noncomputable def B0:fa AC:={N0 with quiet:=[]}
theorem UC (e:Int) (w:A2) (c:RS->A2->Prop):(bO B0 (λ_=>[]) 62 [aa e] w c)=(
 aH w ⟨[av 0,aa 0]⟩ 38 λb a=>aw a (ae b) [av 0,aa e] λa=>ak a λw1=>ag w1 none (ae b) cT λ(x:Int×Int×Unit)=>c (x.1,x.2.1,()) w1):=by kernel_rfl
theorem UD (e:Int) (w:A2):aC AC 62 (.el (.agg gm)) [aa e] w (λx w'=>x=(0,e,())/\Ext w w'):=by
 refine aQ (C:=B0) (AR (UC e w _) ?_);have H:=At.start [] w;exact aH.go H λb a H=>aw.all 0 H rfl rfl rfl λc H=>ak.go H λd H=>ag.at 0 H rfl (show _=some (0,e,()) from rfl) ⟨rfl,H.all⟩
noncomputable def abg:Entry AC where
 f:=62
 fn l:=match l with
  |[.int .i64 e]=>some (True,.agg ⟨[.int .u64 0,.int .i64 e]⟩)
  | _=>none
 ok args pre v h a w:=by
  split at h
  .rename_i e;cases h;exact a7 (UD e w)
  .cases h
noncomputable def V0:fa AC:={N0 with oW:=abg::N0.oW,quiet:=[61,18,204,20,222,24,29,63,218,87,88,32,78,17,81]}
noncomputable def V1:fa AC:={V0 with ZP:=some (.el (.agg gm))}
noncomputable def V2:fa AC:={V0 with cl:=[(183,.vk 86 3)]}
theorem KL (p:Option AE) (w:A2) (a:Bool->A2->Prop):(aL V0 (λ_=>[]) 61 [ah p] w a)=(
 ((!p.isNone)=true->p.isSome=true)/\((!p.isNone)=true->p.isSome=true)/\ag w (some !p.isNone) (ad p 0) bF λx=>ak w (a (!p.isNone&& !x.isNone))):=by kernel_rfl
theorem QO (p:Option AE) (v:Int) (w:A2) (a:Bool->A2->Prop):(aL V0 (λ_=>[]) 18 [ah p,aa v] w a)=(
 ∃x,ai AC 61 [ah p] w (.bool x)/\((x&&decide (v>=1)&&decide (v<=16))=true->p.isSome=true)/\((x&&decide (v>=1)&&decide (v<=16))=true->p.isSome=true)/\((x&&decide (v>=1)&&decide (v<=16))=true->(ad p 4).isSome=true/\0<=v/\v<(↑17:Int))/\ag w (some (x&&decide (v>=1)&&decide (v<=16))) (ad (ad p 4) (v.toNat*1)) bF λb=>ak w (a (x&&decide (v>=1)&&decide (v<=16)&& !b.isNone))):=by kernel_rfl
theorem KM (p:Option AE) (a:Int) (w:A2) (b:Bool->A2->Prop):(aL V0 (λ_=>[]) 204 [ah p,av a] w b)=(
 ∃x,(decide (a<=16)=true->ai AC 18 [ah p,aa (aB .i64 a)] w (.bool x))/\ak w (b (decide (a<=16)&&x))):=by kernel_rfl
theorem QP (p:Option AE) (v:Int) (w:A2) (a:Int->A2->Prop):(aL V0 (λ_=>[]) 20 [ah p,aa v] w a)=(
 ∃x,ai AC 18 [ah p,aa v] w (.bool x)/\aD (!x) (ak w (a (-1))) (p.isSome=true/\p.isSome=true/\((ad p 4).isSome=true/\0<=v/\v<(↑17:Int))/\eJ w (ad (ad p 4) (v.toNat*1)) λx=>bh x 0 w λx=> ∃(b:Int),ai AC 81 [ah x] w (aa b)/\ak w (a b))):=by kernel_rfl
theorem KN (p:Option AE) (v g:Int) (w:A2) (a:Int×Int×Int×Unit->A2->Prop):(aL V0 (λ_=>[]) 22 [ah p,aa v,aa g] w a)=(
 ∃x,ai AC 61 [ah p] w (.bool x)/\aD (!x) (ak w (a (0,0,10,()))) (∃x,ai AC 18 [ah p,aa v] w (.bool x)/\aD (!x) (ak w (a (0,0,4,()))) (p.isSome=true/\p.isSome=true/\((ad p 4).isSome=true/\0<=v/\v<(↑17:Int))/\eJ w (ad (ad p 4) (v.toNat*1)) λx=>bh x 0 w λx=>aA AC 83 (.bu [aq,aq,aq]) [ah x,aa g] w λ(x:Int×Int×Int×Unit) b=>ak b (a (x.1,x.2.1,x.2.2.1,()))))):=by kernel_rfl
theorem KO (p:Option AE) (v g:Int) (w:A2) (d:Int×Bool×Unit->A2->Prop):(aL V0 (λ_=>[]) 24 [ah p,aa v,aa g] w d)=(
 ∃x,ai AC 18 [ah p,aa v] w (.bool x)/\aD (!x) (ak w (d (0,false,()))) (p.isSome=true/\p.isSome=true/\((ad p 4).isSome=true/\0<=v/\v<(↑17:Int))/\eJ w (ad (ad p 4) (v.toNat*1)) λx=>Fv x 1 w λx=> ∃(a:Int×Int×Unit), ∃(b:Bool),ox w x .i64 g (.agg ⟨[aa 0,aa 0]⟩) (.agg ⟨[aa a.1,aa a.2.1]⟩) b/\aH w ⟨[aa 0,aa 0]⟩ 177 λe c=>aw c (ae e) [aa a.1,aa a.2.1] λc=>true=true/\aN c (ad (ae e) 0) λx=>ak c (d (x,
 b,())))):=by kernel_rfl
theorem GK (p:Option AE) (w:A2) (a:Option AE->A2->Prop):(aL V0 (λ_=>[]) 14 [ah p] w a)=(
 ∃x,ai AC 61 [ah p] w (.bool x)/\aD (!x) (ak w (a none)) (bh p 1 w λx=>aA AC 79 oq [ah x] w λx b=>ak b (a x))):=by kernel_rfl
theorem GL (p:Option AE) (w:A2) (a:Option AE->A2->Prop):(aL V0 (λ_=>[]) 12 [ah p] w a)=(
 ∃x,ai AC 61 [ah p] w (.bool x)/\aD (!x) (ak w (a none)) (bh p 0 w λx=>ak w (a x))):=by kernel_rfl
theorem QQ (p:Option AE) (f:Int) (w:A2) (d:Int->A2->Prop):(aL V0 (λ_=>[]) 212 [ah p,aa f] w d)=(
 ∃x,ai AC 61 [ah p] w (.bool x)/\aD (!x) (ak w (d 10)) (bh p 1 w λx=> ∃(a:(Int×Int×Int×Int×Unit)×Bool×Unit),ai AC 32 [ah x,aa f] w (.tuple {toList:=[.agg ⟨[aa a.1.1,aa a.1.2.1,aa a.1.2.2.1,aa a.1.2.2.2.1]⟩,.bool a.2.1]})/\aH w ⟨[aa 0,aa 0,aa 0,aa 0]⟩ 79 λb c=>aw c (ae b) [aa a.1.1,aa a.1.2.1,aa a.1.2.2.1,aa a.1.2.2.2.1] λc=>aD (!a.2.1) (ak c (d 2)) (true=true/\aN c (ad (ae
 b) 0) λx=>aD (x != 5) (ak c (d 6)) (bh p 1 c λx=>aA AC 215 aT [ah x,aa f] c λ(x:Int) c=>ak c (d x))))):=by kernel_rfl
theorem KP (p:Option AE) (v a:Int) (w:A2) (b:Int->A2->Prop):(aL V0 (λ_=>[]) 222 [ah p,aa v,av a] w b)=(
 aD (decide (a<1)||decide (a>16)||aB .i64 a==v) (ak w (b 1)) (∃x,ai AC 204 [ah p,av a] w (.bool x)/\aD (!x) (ak w (b 4)) (ak w (b 0)))):=by kernel_rfl
theorem QR (p:Option AE) (v a t:Int) (w:A2) (d:Int×Int×Unit->A2->Prop):(aL V0 (λ_=>[]) 220 [ah p,aa v,av a,aa t] w d)=(
 aD (decide (a>=1048576)) (ak w (d (0,2,()))) (bh p 0 w λx=> ∃(e:Int),ai AC 20 [ah p,aa v] w (aa e)/\(aA AC 295 (.el dh) [ah x,aa e,aa (aB .i64 (pT .u64 a 16)),aa t] w λ(x:Int×Int×Int×Int×Unit) c=>aH c ⟨[aa 0,aa 0,aa 0,aa 0]⟩ 361 λb c=>aw c (ae b) [aa x.1,aa x.2.1,aa x.2.2.1,aa x.2.2.2.1] λc=>true=true/\aN c (ad (ae b) 0) λx=>true=true/\aN c (ad (ae b) 3) λf=>ak
 c λw1=>d (ay .i64 (dk .i64 16 x) (aB .i64 (gj a 16)),f,()) w1)/\aH w ⟨[aa 0,aa 0,aa 0,aa 0]⟩ 361 λb c=>aA AC 295 (.el dh) [ah x,aa e,aa (aB .i64 (pT .u64 a 16)),aa t] c λ(x:Int×Int×Int×Int×Unit) c=>aw c (ae b) [aa x.1,aa x.2.1,aa x.2.2.1,aa x.2.2.2.1] λc=>true=true/\aN c (ad (ae b) 0) λx=>true=true/\aN c (ad (ae b) 3) λf=>ak c λw1=>d (ay .i64 (dk .i64 16 x) (aB .i64 (gj a 16)),
 f,()) w1)):=by kernel_rfl
def sq:Nat->aW:=(λ|3=>[(3,Go.RX.El.one (Go.RX.Sc.int AU))]| _=>[])
theorem KQ (p:Option AE) (w:A2) (c:Int->A2->Prop):(aL V0 sq 207 [ah p] w c)=(
 Fv p 1 w λx=>RgP w x λb a=> ∃(I:Nat->Int×Unit->A2->Prop),(∃n, ∀w1,Ext a w1->I n (65536,()) w1)/\ ∀(n:Nat) (s:Int×Unit) (w1:A2),I n s w1->NxP w1 (ae b) (λa=>ak a (c s.1)) λ(k v:AG) a=> ∃(x:Int), ∃(v:AG),Fp a (ae b) (aa x) v/\ ∀d,Ext a d-> ∃(e:Nat),e<n/\I e (lL s.1 x,()) d):=by kernel_rfl
def u9:Nat->aW:=(λ_=>[])
theorem QS (p:Option AE) (v g:Int) (w:A2) (d:Unit->A2->Prop):(aL V0 u9 206 [ah p,aa v,aa g] w d)=(
 p.isSome=true/\p.isSome=true/\((ad p 4).isSome=true/\0<=v/\v<(↑17:Int))/\eJ w (ad (ad p 4) (v.toNat*1)) λx=>Fv x 1 w λf=> ∃(c:Int×Int×Unit),o8 w f .i64 g (.agg ⟨[aa 0,aa 0]⟩) (.agg ⟨[aa c.1,aa c.2.1]⟩)/\aH w ⟨[aa 0,aa 0]⟩ 177 λb a=>aw a (ae b) [aa c.1,aa c.2.1] λa=>Fv x 1 a λh=> ∀w1,Ext a w1-> ∃(r:Nat), ∃(es:Array AT), ∃(e:Nat),h=some r/\cd w1 r es e/\MP w1 r .i64 g es e λa=>bh x 0 a λx=>aA
 AC 217 (.bu [aq,aq]) [ah x,aa g] a λ(x:Int×Int×Unit) a=>bh p 1 a λx=>true=true/\aN a (ad (ae b) 1) λi=>aA AC 226 aT [ah x,aa i,aa (-1)] a λ(x:Int) a=>bh p 2 a λx=>true=true/\aN a (ad (ae b) 0) λj=>aA AC 225 aT [ah x,aa j,aa v] a λ(x:Int) a=>ak a (d ())):=by kernel_rfl
theorem IC (n:Int) (w:A2) (c:Option AE×Int×Unit->A2->Prop):(aL V0 (λ_=>[]) 6 [aa n] w c)=(
 aD (decide (n<4)||decide (n>4096)) (ak w (c (none,1,()))) (aH w {toList:=[ah none,ah none,ah none,ah none,ah none,ah none,ah none,ah none,ah none,ah none,ah none,ah none,ah none,ah none,ah none,ah none,ah none,ah none,ah none,ah none,ah none]} 131 λb a=>aA AC 53 (.bu [bF,aq]) [aa (dk .i64 16 n)] a λ(x:Option AE×Int×Unit) a=>true=true/\true=true/\aw a (ad
 (ae b) 0) [ah x.1] λa=>aA AC 54 (.bu [bF,aq]) [aa n] a λ(x:Option AE×Int×Unit) a=>true=true/\true=true/\aw a (ad (ae b) 1) [ah x.1] λa=>aA AC 55 (.bu [bF,aq]) [aa 16] a λ(x:Option AE×Int×Unit) a=>true=true/\true=true/\aw a (ad (ae b) 2) [ah x.1] λa=>aA AC 56 (.bu [bF,aq]) [aa 4] a λ(x:Option AE×Int×Unit) a=>true=true/\true=true/\aw a (ad (ae b) 3) [ah x.1] λ
 a=>ak a (c (some ⟨b,0,none⟩,0,())))):=by kernel_rfl
theorem KR (w:A2) (u:Option Nat->A2->Prop):(aL V0 (λ_=>[]) 64 [] w u)=(
 ∀w1,Ext w w1-> ∀c,Ext (w1.alloc (Obj.map ⟨[]⟩ 0)) c-> ∃(r:Nat), ∃(es:Array AT), ∃(a:Nat),some w1.heap.size=some r/\cd c r es a/\jE c r .i64 1 (.func (.func 124) ⟨[]⟩ ⟨[]⟩) es a λb=> ∀d,Ext b d-> ∃(r:Nat), ∃(es:Array AT), ∃(a:Nat),some w1.heap.size=some r/\cd d r es a/\jE d r .i64 2 (.func (.func 125) ⟨[]⟩ ⟨[]⟩) es a λb=> ∀e,Ext b e-> ∃(r:Nat), ∃(es:Array AT), ∃(a:Nat),some w1.heap.size=some r/\cd e r es a/\jE e r .i64 17 (.func (.func
 126) ⟨[]⟩ ⟨[]⟩) es a λb=> ∀f,Ext b f-> ∃(r:Nat), ∃(es:Array AT), ∃(a:Nat),some w1.heap.size=some r/\cd f r es a/\jE f r .i64 3 (.func (.func 127) ⟨[]⟩ ⟨[]⟩) es a λb=> ∀g,Ext b g-> ∃(r:Nat), ∃(es:Array AT), ∃(a:Nat),some w1.heap.size=some r/\cd g r es a/\jE g r .i64 4 (.func (.func 128) ⟨[]⟩ ⟨[]⟩) es a λb=> ∀h,Ext b h-> ∃(r:Nat), ∃(es:Array AT), ∃(a:Nat),some w1.heap.size=some r/\cd h r es a/\jE h r .i64 5 (.func (.func 129) ⟨[]⟩
 ⟨[]⟩) es a λb=> ∀i,Ext b i-> ∃(r:Nat), ∃(es:Array AT), ∃(a:Nat),some w1.heap.size=some r/\cd i r es a/\jE i r .i64 6 (.func (.func 130) ⟨[]⟩ ⟨[]⟩) es a λb=> ∀j,Ext b j-> ∃(r:Nat), ∃(es:Array AT), ∃(a:Nat),some w1.heap.size=some r/\cd j r es a/\jE j r .i64 7 (.func (.func 131) ⟨[]⟩ ⟨[]⟩) es a λb=> ∀k,Ext b k-> ∃(r:Nat), ∃(es:Array AT), ∃(a:Nat),some w1.heap.size=some r/\cd k r es a/\jE k r .i64 8 (.func (.func 132) ⟨[]⟩ ⟨[]⟩) es
 a λb=> ∀l,Ext b l-> ∃(r:Nat), ∃(es:Array AT), ∃(a:Nat),some w1.heap.size=some r/\cd l r es a/\jE l r .i64 9 (.func (.func 133) ⟨[]⟩ ⟨[]⟩) es a λb=> ∀m,Ext b m-> ∃(r:Nat), ∃(es:Array AT), ∃(a:Nat),some w1.heap.size=some r/\cd m r es a/\jE m r .i64 10 (.func (.func 134) ⟨[]⟩ ⟨[]⟩) es a λb=> ∀n,Ext b n-> ∃(r:Nat), ∃(es:Array AT), ∃(a:Nat),some w1.heap.size=some r/\cd n r es a/\jE n r .i64 11 (.func (.func 135) ⟨[]⟩ ⟨[]⟩)
 es a λb=> ∀o,Ext b o-> ∃(r:Nat), ∃(es:Array AT), ∃(a:Nat),some w1.heap.size=some r/\cd o r es a/\jE o r .i64 12 (.func (.func 136) ⟨[]⟩ ⟨[]⟩) es a λb=> ∀p,Ext b p-> ∃(r:Nat), ∃(es:Array AT), ∃(a:Nat),some w1.heap.size=some r/\cd p r es a/\jE p r .i64 13 (.func (.func 137) ⟨[]⟩ ⟨[]⟩) es a λb=> ∀q,Ext b q-> ∃(r:Nat), ∃(es:Array AT), ∃(a:Nat),some w1.heap.size=some r/\cd q r es a/\jE q r .i64 14 (.func (.func 138) ⟨[]⟩
 ⟨[]⟩) es a λb=> ∀s,Ext b s-> ∃(r:Nat), ∃(es:Array AT), ∃(a:Nat),some w1.heap.size=some r/\cd s r es a/\jE s r .i64 15 (.func (.func 139) ⟨[]⟩ ⟨[]⟩) es a λb=> ∀t,Ext b t-> ∃(r:Nat), ∃(es:Array AT), ∃(a:Nat),some w1.heap.size=some r/\cd t r es a/\jE t r .i64 16 (.func (.func 140) ⟨[]⟩ ⟨[]⟩) es a λb=>ak b (u (some w1.heap.size))):=by kernel_rfl
def pz:Nat->aW:=(λ|2=>[(7,Go.RX.El.one (Go.RX.Sc.int AU))]| _=>[])
theorem EI (p:Option AE) (v k a b c:Int) (w:A2) (e:RS->A2->Prop):(bO V0 pz 124 [ah p,aa v,.agg ⟨[aa k,av a,av b,av c]⟩] w e)=(
 aH w ⟨[aa k,av a,av b,av c]⟩ 34 λb d=>aH d ⟨[av 0,aa 0]⟩ 38 λb d=> ∃(I:Nat->Int×Unit->A2->Prop),(∃n, ∀w1,Ext d w1->I n (1,()) w1)/\ ∀(n:Nat) (s:Int×Unit) (w1:A2),I n s w1->aD (decide (s.1<=16)) (p.isSome=true/\p.isSome=true/\((ad p 4).isSome=true/\0<=s.1/\s.1<(↑17:Int))/\eJ w1 (ad (ad p 4) (B1 s.1*1)) λx=>aD (!x.isNone) (∀f,Ext w1 f-> ∃(g:Nat),g<n/\I g (ay .i64 s.1 1,()) f) (bh p 0 w1 λx=>bh p 1 w1 λh=>aA
 AC 203 (.bu [bF,aq]) [ah x,ah h,aa s.1] w1 λ(x:Option AE×Int×Unit) d=>aD (x.2.1==0) (∀w1,Ext d w1->aH (w1.alloc (Obj.map ⟨[]⟩ 0)) ⟨[ah x.1,.map (some w1.heap.size)]⟩ 174 λi d=>p.isSome=true/\p.isSome=true/\((ad p 4).isSome=true/\0<=s.1/\s.1<(↑17:Int))/\aw d (ad (ad p 4) (B1 s.1*1)) [ah (ae i)] λd=>aw d (ae b) [av (aB .u64 s.1),aa x.2.1] λd=>ak d λw1=>ag w1 none (ae b) cT λ(x:Int×Int×Unit)=>e (x.1,x.2.1,
 ()) w1) (aw d (ae b) [av (aB .u64 s.1),aa x.2.1] λd=>ak d λw1=>ag w1 none (ae b) cT λ(x:Int×Int×Unit)=>e (x.1,x.2.1,()) w1))) (True/\aw w1 (ae b) [av 0,aa 3] λd=>ak d λw1=>ag w1 none (ae b) cT λ(x:Int×Int×Unit)=>e (x.1,x.2.1,()) w1)):=by kernel_rfl
def og:Nat->aW:=(λ|5=>[(34,Go.RX.El.one (Go.RX.Sc.int AU))]|12=>[]|19=>[(13,Go.RX.El.one (Go.RX.Sc.int AU)),(93,Go.RX.El.one (Go.RX.Sc.int AU))]| _=>[])
theorem CW (p:Option AE) (v k a b c:Int) (w:A2) (l:RS->A2->Prop):(bO V0 og 125 [ah p,aa v,.agg ⟨[aa k,av a,av b,av c]⟩] w l)=(
 aH w ⟨[aa k,av a,av b,av c]⟩ 34 λb d=>aH d ⟨[av 0,aa 0]⟩ 38 λi d=>true=true/\bH d (ad (ae b) 1) λx=> ∃r,ai AC 204 [ah p,av x] d (.bool r)/\aD (!r) (True/\aw d (ae i) [av 0,aa 4] λd=>ak d λw1=>ag w1 none (ae i) cT λ(x:Int×Int×Unit)=>l (x.1,x.2.1,()) w1) (true=true/\bH d (ad (ae b) 1) λx=>bh p 1 d λz=>aA AC 205 di [ah z,aa (aB .i64 x)] d λm d=> ∃(I:Nat->
 Int×Unit->A2->Prop),(∃n, ∀w1,Ext d w1->I n (0,()) w1)/\ ∀(n:Nat) (s:Int×Unit) (w1:A2),I n s w1->aD (decide (s.1<(↑m.2.1:Int))) ((m.1.isSome=true/\0<=s.1/\s.1<(↑m.2.1:Int))/\aN w1 (ad m.1 (B1 s.1*1)) λx=>bh p 1 w1 λj=> ∃(e:(Int×Int×Int×Int×Unit)×Bool×Unit),ai AC 32 [ah j,aa x] w1 (.tuple {toList:=[.agg ⟨[aa e.1.1,aa e.1.2.1,aa e.1.2.2.1,aa e.1.2.2.2.1]⟩,.bool e.2.1]})/\aH w1 ⟨[aa 0,aa 0,aa 0,.int
 .i64 0]⟩ 79 λb d=>aw d (ae b) [aa e.1.1,aa e.1.2.1,aa e.1.2.2.1,aa e.1.2.2.2.1] λd=>true=true/\aN d (ad (ae b) 2) λx=>aD (decide (x>0)) (True/\aw d (ae i) [av 0,aa 9] λd=>ak d λw1=>ag w1 none (ae i) cT λ(x:Int×Int×Unit)=>l (x.1,x.2.1,()) w1) (∀f,Ext d f-> ∃(g:Nat),g<n/\I g (ay .i64 s.1 1,()) f)) (p.isSome=true/\p.isSome=true/\((ad p 4).isSome=true/\0<=aB .i64 x/\aB .i64 x<(↑17:Int))/\ag w1 none (ad (ad p 4)
 ((aB .i64 x).toNat*1)) bF λj=> ∃(I:Nat->Unit->A2->Prop),(∃n, ∀t,Ext w1 t->I n () t)/\ ∀(n:Nat) (s:Unit) (w1:A2),I n s w1->Fv j 1 w1 λe=> ∃u,SW w1 e u/\aD (decide ((↑u:Int)>0)) (aA AC 207 aT [ah j] w1 λ(q:Int) d=>aA AC 206 (.bu []) [ah p,aa (aB .i64 x),aa q] d λx d=> ∀f,Ext d f-> ∃(g:Nat),g<n/\I g () f) (bh p 2 w1 λq=>aA AC 208 aT [ah q,aa (aB .i64 x)] w1 λ(G:Int)
 d=>bh p 3 d λA=>aA AC 209 aT [ah A,aa (aB .i64 x)] d λ(H:Int) d=>bh j 0 d λB=>aA AC 210 di [ah B] d λJ d=>bh p 1 d λC=>aA AC 205 di [ah C,aa (aB .i64 x)] d λo d=> ∃(I:Nat->Int×Int×Unit->A2->Prop),(∃n, ∀w1,Ext d w1->I n (0,0,()) w1)/\ ∀(n:Nat) (s:Int×Int×Unit) (w1:A2),I n s w1->aD (decide (s.2.1<(↑o.2.1:Int))) ((o.1.isSome=true/\0<=s.2.1/\s.2.1<(↑o.2.1:Int))/\aN w1
 (ad o.1 (B1 s.2.1*1)) λy=>bh p 1 w1 λD=> ∃(h:(Int×Int×Int×Int×Unit)×Bool×Unit),ai AC 32 [ah D,aa y] w1 (.tuple {toList:=[.agg ⟨[aa h.1.1,aa h.1.2.1,aa h.1.2.2.1,aa h.1.2.2.2.1]⟩,.bool h.2.1]})/\aH w1 ⟨[aa 0,aa 0,aa 0,aa 0]⟩ 79 λb d=>aw d (ae b) [aa h.1.1,aa h.1.2.1,aa h.1.2.2.1,aa h.1.2.2.2.1] λd=>true=true/\aN d (ad (ae b) 0) λE=>aD (E==4) (bh p 1
 d λF=>aA AC 211 aT [ah F,aa y,aa 5,aa (aB .i64 x)] d λ(x:Int) d=> ∀f,Ext d f-> ∃(g:Nat),g<n/\I g (ay .i64 s.1 1,ay .i64 s.2.1 1,()) f) (∀f,Ext d f-> ∃(g:Nat),g<n/\I g (s.1,ay .i64 s.2.1 1,()) f)) (p.isSome=true/\p.isSome=true/\((ad p 4).isSome=true/\0<=aB .i64 x/\aB .i64 x<(↑17:Int))/\aw w1 (ad (ad p 4) ((aB .i64 x).toNat*1)) [ah none] λd=>aw d (ae i) [av (aB .u64 s.1),aa 0] λd=>ak d λw1
 =>ag w1 none (ae i) cT λ(x:Int×Int×Unit)=>l (x.1,x.2.1,()) w1))))):=by kernel_rfl
def qA:Nat->aW:=(λ|3=>[(7,Go.RX.El.one (Go.RX.Sc.int AU)),(14,Go.RX.El.one (Go.RX.Sc.int AU))]| _=>[])
theorem GM (p:Option AE) (v k a b c:Int) (w:A2) (g:RS->A2->Prop):(bO V0 qA 126 [ah p,aa v,.agg ⟨[aa k,av a,av b,av c]⟩] w g)=(
 aH w ⟨[aa k,av a,av b,av c]⟩ 34 λb d=>aH d ⟨[av 0,aa 0]⟩ 38 λb d=>bh p 1 d λx=> ∃(h:Int),ai AC 78 [ah x] d (aa h)/\ ∃(I:Nat->Int×Int×Unit->A2->Prop),(∃n, ∀w1,Ext d w1->I n (0,0,()) w1)/\ ∀(n:Nat) (s:Int×Int×Unit) (w1:A2),I n s w1->aD (decide (s.2.1<h)) (aA AC 212 aT [ah p,aa s.2.1] w1 λ(x:Int) d=>aD (x==0) (∀e,Ext d e-> ∃(f:Nat),f<n/\I f (ay .i64 s.1 1,ay .i64 s.2.1 1,()) e)
 (∀e,Ext d e-> ∃(f:Nat),f<n/\I f (s.1,ay .i64 s.2.1 1,()) e)) (aw w1 (ae b) [av (aB .u64 s.1),aa 0] λd=>ak d λw1=>ag w1 none (ae b) cT λ(x:Int×Int×Unit)=>g (x.1,x.2.1,()) w1)):=by kernel_rfl
def pA:Nat->aW:=(λ|13=>[(66,Go.RX.El.one (Go.RX.Sc.int AU))]| _=>[])
abbrev iB (a:RS->A2->Prop) (b:A2) (c:Nat):Prop:=
 ak b λw1=>ag w1 none (ae c) cT λ(x:Int×Int×Unit)=>a (x.1,x.2.1,()) w1
theorem EJ (p:Option AE) (v k a b c:Int) (w:A2) (f:RS->A2->Prop):(bO V0 pA 127 [ah p,aa v,.agg ⟨[aa k,av a,av b,av c]⟩] w f)=(
 aH w ⟨[aa k,av a,av b,av c]⟩ 34 λb d=>aH d ⟨[av 0,aa 0]⟩ 38 λe d=>true=true/\bH d (ad (ae b) 1) λx=>aD (decide (x>=65536)) (True/\aw d (ae e) [av 0,aa 2] λd=>iB f d e) (true=true/\bH d (ad (ae b) 2) λx=>((!decide (x<1))=true->true=true)/\ag d (some !decide (x<1)) (ad (ae b) 2) gZ λ(l:Int)=>aD (decide (x<1)||decide (l>7)) (True/\aw d (ae e) [av 0,aa 7] λd=>iB f d e) (bh p 1 d
 λx=>aA AC 213 (.bu [aq,aq]) [ah x,aa 4,aa v] d λ(x:Int×Int×Unit) d=>aD (x.2.1 != 0) (True/\aw d (ae e) [av 0,aa x.2.1] λd=>iB f d e) (p.isSome=true/\p.isSome=true/\((ad p 4).isSome=true/\0<=v/\v<(↑17:Int))/\eJ d (ad (ad p 4) (v.toNat*1)) λm=>bh m 0 d λo=>true=true/\bH d (ad (ae b) 1) λq=>true=true/\bH d (ad (ae b) 2) λr=>aA AC 214 aT [ah o,aa (aB .i64 q),
 aa x.1,aa (aB .i64 r)] d λ(h:Int) d=>aD (h != 0) (bh p 1 d λg=>aA AC 215 aT [ah g,aa x.1] d λ(x:Int) d=>True/\aw d (ae e) [av 0,aa h] λd=>iB f d e) (∃(I:Nat->Int×Unit->A2->Prop),(∃n, ∀w1,Ext d w1->I n (0,()) w1)/\ ∀(n:Nat) (s:Int×Unit) (w1:A2),I n s w1->aD (decide (s.1<16)) (bh p 0 w1 λg=>aA AC 216 aT [ah g,aa (ay .i64 (dk .i64 16 x.1) s.1),av 0] w1 λ(x:Int) d=> ∀
 i,Ext d i-> ∃(j:Nat),j<n/\I j (ay .i64 s.1 1,()) i) (aw w1 (ae e) [av (aB .u64 x.1),aa 0] λd=>iB f d e)))))):=by kernel_rfl
abbrev gK (a:RS->A2->Prop) (b:A2) (c:Nat):Prop:=
 ak b λw1=>ag w1 none (ae c) cT λ(x:Int×Int×Unit)=>a (x.1,x.2.1,()) w1
theorem CX (p:Option AE) (v k a b c:Int) (w:A2) (g:RS->A2->Prop):(bO V0 (λ_=>[]) 128 [ah p,aa v,.agg ⟨[aa k,av a,av b,av c]⟩] w g)=(
 aH w ⟨[aa k,av a,av b,av c]⟩ 34 λb d=>aH d ⟨[av 0,aa 0]⟩ 38 λe d=>true=true/\bH d (ad (ae b) 1) λx=>aD (decide (x>=65536)) (True/\aw d (ae e) [av 0,aa 2] λd=>gK g d e) (true=true/\bH d (ad (ae b) 1) λx=>aA AC 22 (.bu [aq,aq,aq]) [ah p,aa v,aa (aB .i64 x)] d λ(h:Int×Int×Int×Unit) d=>aD (h.2.2.1 != 0) (True/\aw d (ae e) [av 0,aa h.2.2.1]
 λd=>gK g d e) (∃(i:Int×Bool×Unit),ai AC 24 [ah p,aa v,aa (aB .i64 x)] d (.tuple ⟨[aa i.1,.bool i.2.1]⟩)/\aD i.2.1 (True/\aw d (ae e) [av 0,aa 7] λd=>gK g d e) (bh p 1 d λj=> ∃(f:(Int×Int×Int×Int×Unit)×Bool×Unit),ai AC 32 [ah j,aa h.1] d (.tuple {toList:=[.agg ⟨[aa f.1.1,aa f.1.2.1,aa f.1.2.2.1,aa f.1.2.2.2.1]⟩,.bool f.2.1]})/\aH d ⟨[aa 0,aa 0,
 aa 0,aa 0]⟩ 79 λb d=>aw d (ae b) [aa f.1.1,aa f.1.2.1,aa f.1.2.2.1,aa f.1.2.2.2.1] λd=>true=true/\aN d (ad (ae b) 2) λl=>aD (decide (l>0)) (True/\aw d (ae e) [av 0,aa 9] λd=>gK g d e) (p.isSome=true/\p.isSome=true/\((ad p 4).isSome=true/\0<=v/\v<(↑17:Int))/\eJ d (ad (ad p 4) (v.toNat*1)) λm=>bh m 0 d λn=>aA AC 217 (.bu [aq,aq]) [ah n,aa (aB .i64 x)] d λ(x
 :Int×Int×Unit) d=>bh p 1 d λx=>aA AC 211 aT [ah x,aa h.1,aa 5,aa v] d λ(x:Int) d=>aw d (ae e) [av (aB .u64 h.1),aa 0] λd=>gK g d e))))):=by kernel_rfl
abbrev lC (a:RS->A2->Prop) (b:A2) (c:Nat):Prop:=
 ak b λw1=>ag w1 none (ae c) cT λ(x:Int×Int×Unit)=>a (x.1,x.2.1,()) w1
abbrev pB (p:Option AE) (v:Int) (e:RS->A2->Prop) (a:A2) (c:Nat) (d:Nat):Prop:=
 p.isSome=true/\p.isSome=true/\((ad p 4).isSome=true/\0<=v/\v<(↑17:Int))/\eJ a (ad (ad p 4) (v.toNat*1)) λx=>bh x 0 a λx=>true=true/\bH a (ad (ae c) 1) λf=>true=true/\bH a (ad (ae c) 2) λg=>aA AC 219 aT [ah x,aa (aB .i64 f),aa (aB .i64 g)] a λ(x:Int) b=>True/\aw b (ae d) [av 0,aa x] λb=>lC e b d
abbrev pC (b:RS->A2->Prop) (c:A2) (a:Nat):Prop:=
 True/\aw c (ae a) [av 0,aa 7] λd=>lC b d a
theorem CY (p:Option AE) (v k a b c:Int) (w:A2) (f:RS->A2->Prop):(bO V0 (λ_=>[]) 129 [ah p,aa v,.agg ⟨[aa k,av a,av b,av c]⟩] w f)=(
 aH w ⟨[aa k,av a,av b,av c]⟩ 34 λb d=>aH d ⟨[av 0,aa 0]⟩ 38 λg d=>true=true/\bH d (ad (ae b) 1) λx=>aD (decide (x>=65536)) (True/\aw d (ae g) [av 0,aa 2] λd=>lC f d g) (true=true/\bH d (ad (ae b) 2) λx=>((!decide (x<1))=true->true=true)/\ag d (some !decide (x<1)) (ad (ae b) 2) gZ λ(j:Int)=>aD (decide (x<1)||decide (j>7)) (pC f d g) (true=true/\bH d (ad (ae b) 1) λx=> ∃(h:Int×Bool×
 Unit),ai AC 24 [ah p,aa v,aa (aB .i64 x)] d (.tuple ⟨[aa h.1,.bool h.2.1]⟩)/\(h.2.1=true->true=true)/\ag d (some h.2.1) (ad (ae b) 2) gZ λ(x:Int)=>aD (h.2.1&&decide (iF .u64 x 2>0)) (bh p 2 d λx=> ∃(e:(Int×Int×Int×Bool×Int×Unit)×Bool×Unit),ai AC 218 [ah x,aa h.1] d (.tuple {toList:=[.agg ⟨[aa e.1.1,aa e.1.2.1,aa e.1.2.2.1,.bool e.1.2.2.2.1,aa e.1.2.2.2.2.1]⟩,.bool e.2.1]})/\aH d ⟨[aa 0,.int .i64
 0,aa 0,.bool false,aa 0]⟩ 308 λi d=>aw d (ae i) [aa e.1.1,aa e.1.2.1,aa e.1.2.2.1,.bool e.1.2.2.2.1,aa e.1.2.2.2.2.1] λd=>true=true/\jc d (ad (ae i) 3) λx=>aD (!x) (pC f d g) (pB p v f d b g)) (pB p v f d b g)))):=by kernel_rfl
theorem KS (p:Option AE) (v k a b c:Int) (w:A2) (f:RS->A2->Prop):(bO V0 (λ_=>[]) 130 [ah p,aa v,.agg ⟨[aa k,av a,av b,av c]⟩] w f)=(
 aH w ⟨[aa k,av a,av b,av c]⟩ 34 λb d=>aH d ⟨[av 0,aa 0]⟩ 38 λe d=>true=true/\bH d (ad (ae b) 1) λx=>aA AC 220 (.bu [aq,aq]) [ah p,aa v,av x,aa 1] d λ(x:Int×Int×Unit) d=>aD (x.2.1 != 0) (True/\aw d (ae e) [av 0,aa x.2.1] λd=>ak d λw1=>ag w1 none (ae e) cT λ(x:Int×Int×Unit)=>f (x.1,x.2.1,()) w1) (bh p 0 d λg=>aA AC 221 (.bu [.one eh,.one (.int
 .i64)]) [ah g,aa x.1] d λ(x:Int×Int×Unit) d=>aw d (ae e) [av x.1,aa x.2.1] λd=>ak d λw1=>ag w1 none (ae e) cT λ(x:Int×Int×Unit)=>f (x.1,x.2.1,()) w1)):=by kernel_rfl
theorem GN (p:Option AE) (v k a b c:Int) (w:A2) (f:RS->A2->Prop):(bO V0 (λ_=>[]) 131 [ah p,aa v,.agg ⟨[aa k,av a,av b,av c]⟩] w f)=(
 aH w ⟨[aa k,av a,av b,av c]⟩ 34 λb d=>aH d ⟨[av 0,aa 0]⟩ 38 λe d=>true=true/\bH d (ad (ae b) 1) λx=>aA AC 220 (.bu [aq,aq]) [ah p,aa v,av x,aa 2] d λ(x:Int×Int×Unit) d=>aD (x.2.1 != 0) (True/\aw d (ae e) [av 0,aa x.2.1] λd=>ak d λw1=>ag w1 none (ae e) cT λ(x:Int×Int×Unit)=>f (x.1,x.2.1,()) w1) (bh p 0 d λg=>true=true/\bH d (ad (ae b) 2) λh=>aA
 AC 216 aT [ah g,aa x.1,av h] d λ(x:Int) d=>True/\aw d (ae e) [av 0,aa x] λd=>ak d λw1=>ag w1 none (ae e) cT λ(x:Int×Int×Unit)=>f (x.1,x.2.1,()) w1)):=by kernel_rfl
abbrev jm (a:RS->A2->Prop) (b:A2) (c:Nat):Prop:=
 ak b λw1=>ag w1 none (ae c) cT λ(x:Int×Int×Unit)=>a (x.1,x.2.1,()) w1
theorem GO (p:Option AE) (v k a b c:Int) (w:A2) (f:RS->A2->Prop):(bO V0 (λ_=>[]) 132 [ah p,aa v,.agg ⟨[aa k,av a,av b,av c]⟩] w f)=(
 aH w ⟨[aa k,av a,av b,av c]⟩ 34 λb d=>aH d ⟨[av 0,aa 0]⟩ 38 λe d=>true=true/\bH d (ad (ae b) 2) λx=> ∃(g:Int),ai AC 222 [ah p,aa v,av x] d (aa g)/\true=true/\bH d (ad (ae b) 1) λx=>aD (decide (x>=65536)) (True/\aw d (ae e) [av 0,aa 2] λd=>jm f d e) (((!g==1)=true->true=true)/\ag d (some !g==1) (ad (ae b) 3) gZ λ(x:Int)=>aD (g==1||decide (x>1)) (True/\aw d (ae e) [.int
 .u64 0,aa 1] λd=>jm f d e) (true=true/\bH d (ad (ae b) 1) λx=>aA AC 22 (.bu [aq,aq,aq]) [ah p,aa v,aa (aB .i64 x)] d λ(x:Int×Int×Int×Unit) d=>aD (x.2.2.1 != 0||g != 0) (True/\aw d (ae e) [av 0,aa 4] λd=>jm f d e) (true=true/\bH d (ad (ae b) 1) λx=> ∃(h:Int×Bool×Unit),ai AC 24 [ah p,aa v,aa (aB .i64 x)] d (.tuple ⟨[aa h.1,.bool h.2.1]⟩)/\
 aD h.2.1 (True/\aw d (ae e) [av 0,aa 7] λd=>jm f d e) (bh p 2 d λx=>true=true/\bH d (ad (ae b) 1) λi=>true=true/\bH d (ad (ae b) 2) λj=>true=true/\bH d (ad (ae b) 3) λl=>aA AC 223 (.bu [aq,aq]) [ah x,aa v,aa (aB .i64 i),aa (aB .i64 j),.bool (l==1)] d λ(x:Int×Int×Unit) d=>aw d (ae e) [av (aB .u64 x.1),aa x.2.1] λd=>jm f d e))))):=by kernel_rfl
theorem KT (p:Option AE) (v k a b c:Int) (w:A2) (f:RS->A2->Prop):(bO V0 (λ_=>[]) 133 [ah p,aa v,.agg ⟨[aa k,av a,av b,av c]⟩] w f)=(
 aH w ⟨[aa k,av a,av b,av c]⟩ 34 λb d=>aH d ⟨[av 0,aa 0]⟩ 38 λe d=>true=true/\bH d (ad (ae b) 2) λx=>aD (decide (x>=65536)) (True/\aw d (ae e) [av 0,aa 2] λd=>ak d λw1=>ag w1 none (ae e) cT λ(x:Int×Int×Unit)=>f (x.1,x.2.1,()) w1) (true=true/\bH d (ad (ae b) 1) λx=>((!decide (x>=16))=true->true=true)/\ag d (some !decide (x>=16)) (ad (ae b) 3) gZ λ(A:Int)=>aD (decide (x>=16)||decide (A>1)) (True/\aw d (ae
 e) [av 0,aa 1] λd=>ak d λw1=>ag w1 none (ae e) cT λ(x:Int×Int×Unit)=>f (x.1,x.2.1,()) w1) (true=true/\bH d (ad (ae b) 1) λx=>true=true/\bH d (ad (ae b) 2) λn=>true=true/\bH d (ad (ae b) 3) λj=>bh p 2 d λB=> ∃(g:(Int×Int×Int×Bool×Int×Unit)×Bool×Unit),ai AC 218 [ah B,aa (aB .i64 x)] d (.tuple {toList:=[.agg ⟨[aa g.1.1,aa g.1.2.1,aa g.1.2.2.1,.bool g.1.2.2.2.1,aa g.1.2.2.2.2.1]⟩,.bool
 g.2.1]})/\aH d ⟨[aa 0,aa 0,aa 0,.bool false,aa 0]⟩ 308 λb d=>aw d (ae b) [aa g.1.1,aa g.1.2.1,aa g.1.2.2.1,.bool g.1.2.2.2.1,aa g.1.2.2.2.2.1] λd=>aD (!g.2.1) (True/\aw d (ae e) [av 0,aa 4] λd=>ak d λw1=>ag w1 none (ae e) cT λ(x:Int×Int×Unit)=>f (x.1,x.2.1,()) w1) (true=true/\aN d (ad (ae b) 2) λo=>((!o != v&&j==1)=true->true=true)/\ag d (some (!o != v&&j==1)) (ad (ae b) 3) cr λC=>aD
 (o != v||j==1&& !C) (True/\aw d (ae e) [av 0,aa 7] λd=>ak d λw1=>ag w1 none (ae e) cT λ(x:Int×Int×Unit)=>f (x.1,x.2.1,()) w1) (true=true/\aN d (ad (ae b) 0) λD=>true=true/\aN d (ad (ae b) 1) λE=>aA AC 22 (.bu [aq,aq,aq]) [ah p,aa D,aa E] d λ(h:Int×Int×Int×Unit) d=>aD (h.2.2.1 != 0) (True/\aw d (ae e) [av 0,aa 4] λd=>ak d λw1=>ag w1 none (ae e) cT λ
 (x:Int×Int×Unit)=>f (x.1,x.2.1,()) w1) (true=true/\aN d (ad (ae b) 0) λF=>true=true/\aN d (ad (ae b) 1) λG=> ∃(q:Int×Bool×Unit),ai AC 24 [ah p,aa F,aa G] d (.tuple ⟨[aa q.1,.bool q.2.1]⟩)/\aD q.2.1 (True/\aw d (ae e) [av 0,aa 7] λd=>ak d λw1=>ag w1 none (ae e) cT λ(x:Int×Int×Unit)=>f (x.1,x.2.1,()) w1) (bh p 2 d λH=>aA AC 224 aT [ah H,aa (aB .i64 x),aa v,
 .bool (j==1)] d λ(z:Int) d=>aD (z != 0) (True/\aw d (ae e) [av 0,aa z] λd=>ak d λw1=>ag w1 none (ae e) cT λ(x:Int×Int×Unit)=>f (x.1,x.2.1,()) w1) (aD (j==1) (p.isSome=true/\p.isSome=true/\((ad p 4).isSome=true/\0<=v/\v<(↑17:Int))/\eJ d (ad (ad p 4) (v.toNat*1)) λs=>bh s 0 d λt=>aA AC 214 aT [ah t,aa (aB .i64 n),aa h.1,aa (Zk .i64 1 2)] d λ(l:Int) d=>aD (l != 0) (bh p 2 d λi
 =>aA AC 225 aT [ah i,aa (aB .i64 x),aa v] d λ(x:Int) d=>True/\aw d (ae e) [av 0,aa l] λd=>ak d λw1=>ag w1 none (ae e) cT λ(x:Int×Int×Unit)=>f (x.1,x.2.1,()) w1) (bh p 1 d λi=>aA AC 226 aT [ah i,aa h.1,aa 1] d λ(I:Int) d=>p.isSome=true/\p.isSome=true/\((ad p 4).isSome=true/\0<=v/\v<(↑17:Int))/\eJ d (ad (ad p 4) (v.toNat*1)) λu=>Fv u 1 d λy=> ∀w1,Ext d w1-> ∃(r
 :Nat), ∃(es:Array AT), ∃(m:Nat),y=some r/\cd w1 r es m/\jE w1 r .i64 (aB .i64 n) (.agg ⟨[aa (aB .i64 x),aa h.1]⟩) es m λd=>aw d (ae e) [av 0,aa 0] λd=>ak d λw1=>ag w1 none (ae e) cT λ(x:Int×Int×Unit)=>f (x.1,x.2.1,()) w1)) (p.isSome=true/\p.isSome=true/\((ad p 4).isSome=true/\0<=v/\v<(↑17:Int))/\eJ d (ad (ad p 4) (v.toNat*1)) λs=>bh s 0 d λt=>aA AC 214 aT [ah t,aa (aB .i64 n),
 aa h.1,aa 1] d λ(l:Int) d=>aD (l != 0) (bh p 2 d λi=>aA AC 225 aT [ah i,aa (aB .i64 x),aa v] d λ(x:Int) d=>True/\aw d (ae e) [av 0,aa l] λd=>ak d λw1=>ag w1 none (ae e) cT λ(x:Int×Int×Unit)=>f (x.1,x.2.1,()) w1) (bh p 1 d λi=>aA AC 226 aT [ah i,aa h.1,aa 1] d λ(I:Int) d=>p.isSome=true/\p.isSome=true/\((ad p 4).isSome=true/\0<=v/\v<(↑17:Int))/\eJ
 d (ad (ad p 4) (v.toNat*1)) λu=>Fv u 1 d λy=> ∀w1,Ext d w1-> ∃(r:Nat), ∃(es:Array AT), ∃(m:Nat),y=some r/\cd w1 r es m/\jE w1 r .i64 (aB .i64 n) (.agg ⟨[aa (aB .i64 x),aa h.1]⟩) es m λd=>aw d (ae e) [av 0,aa 0] λd=>ak d λw1=>ag w1 none (ae e) cT λ(x:Int×Int×Unit)=>f (x.1,x.2.1,()) w1)))))))))):=by kernel_rfl
abbrev oS (a:RS->A2->Prop) (b:A2) (c:Nat):Prop:=
 ak b λw1=>ag w1 none (ae c) cT λ(x:Int×Int×Unit)=>a (x.1,x.2.1,()) w1
theorem KU (p:Option AE) (v k a b c:Int) (w:A2) (f:RS->A2->Prop):(bO V0 (λ_=>[]) 134 [ah p,aa v,.agg ⟨[aa k,av a,av b,av c]⟩] w f)=(
 aH w ⟨[aa k,av a,av b,av c]⟩ 34 λb d=>aH d ⟨[av 0,aa 0]⟩ 38 λe d=>true=true/\bH d (ad (ae b) 1) λx=>aD (decide (x>=65536)) (True/\aw d (ae e) [av 0,aa 2] λd=>oS f d e) (true=true/\bH d (ad (ae b) 1) λx=> ∃(g:Int×Bool×Unit),ai AC 24 [ah p,aa v,aa (aB .i64 x)] d (.tuple ⟨[aa g.1,.bool g.2.1]⟩)/\aD (!g.2.1) (True/\aw d (ae e) [av 0,aa 4] λd=>oS f d e) (true=
 true/\bH d (ad (ae b) 1) λx=>aA AC 206 (.bu []) [ah p,aa v,aa (aB .i64 x)] d λx d=>aw d (ae e) [av 0,aa 0] λd=>oS f d e))):=by kernel_rfl
theorem EK (p:Option AE) (v k a b c:Int) (w:A2) (f:RS->A2->Prop):(bO V0 (λ_=>[]) 135 [ah p,aa v,.agg ⟨[aa k,av a,av b,av c]⟩] w f)=(
 aH w ⟨[aa k,av a,av b,av c]⟩ 34 λb d=>aH d ⟨[av 0,aa 0]⟩ 38 λe d=>true=true/\bH d (ad (ae b) 1) λx=>aD (decide (x>=16)) (True/\aw d (ae e) [av 0,aa 1] λd=>ak d λw1=>ag w1 none (ae e) cT λ(x:Int×Int×Unit)=>f (x.1,x.2.1,()) w1) (bh p 2 d λx=>true=true/\bH d (ad (ae b) 1) λg=>aA AC 227 aT [ah x,aa (aB .i64 g),aa v] d λ(x:Int) d=>True/\aw d (ae e) [av 0,aa x]
 λd=>ak d λw1=>ag w1 none (ae e) cT λ(x:Int×Int×Unit)=>f (x.1,x.2.1,()) w1)):=by kernel_rfl
theorem KV (p:Option AE) (v k a b c:Int) (w:A2) (f:RS->A2->Prop):(bO V0 (λ_=>[]) 136 [ah p,aa v,.agg ⟨[aa k,av a,av b,av c]⟩] w f)=(
 aH w ⟨[aa k,av a,av b,av c]⟩ 34 λb d=>aH d ⟨[av 0,aa 0]⟩ 38 λe d=>true=true/\bH d (ad (ae b) 1) λx=> ∃(g:Int),ai AC 222 [ah p,aa v,av x] d (aa g)/\aD (g != 0) (True/\aw d (ae e) [av 0,aa g] λd=>ak d λw1=>ag w1 none (ae e) cT λ(x:Int×Int×Unit)=>f (x.1,x.2.1,()) w1) (bh p 3 d λx=>true=true/\bH d (ad (ae b) 1) λh=>aA AC 228 (.bu [aq,aq])
 [ah x,aa v,aa (aB .i64 h)] d λ(x:Int×Int×Unit) d=>aw d (ae e) [av (aB .u64 x.1),aa x.2.1] λd=>ak d λw1=>ag w1 none (ae e) cT λ(x:Int×Int×Unit)=>f (x.1,x.2.1,()) w1)):=by kernel_rfl
abbrev oT (a:RS->A2->Prop) (b:A2) (c:Nat):Prop:=
 ak b λw1=>ag w1 none (ae c) cT λ(x:Int×Int×Unit)=>a (x.1,x.2.1,()) w1
theorem KW (p:Option AE) (v k a b c:Int) (w:A2) (g:RS->A2->Prop):(bO V0 (λ_=>[]) 137 [ah p,aa v,.agg ⟨[aa k,av a,av b,av c]⟩] w g)=(
 aH w ⟨[aa k,av a,av b,av c]⟩ 34 λb d=>aH d ⟨[av 0,aa 0]⟩ 38 λe d=>true=true/\bH d (ad (ae b) 1) λx=> ∃(f:Int),ai AC 222 [ah p,aa v,av x] d (aa f)/\((!f==1)=true->true=true)/\ag d (some !f==1) (ad (ae b) 2) gZ λ(x:Int)=>aD (f==1||decide (x>=4)) (True/\aw d (ae e) [av 0,aa 1] λd=>oT g d e) (aD (f != 0) (True/\aw d (ae e) [av 0,aa f] λd=>oT g d e)
 (bh p 3 d λx=>true=true/\bH d (ad (ae b) 1) λh=>true=true/\bH d (ad (ae b) 2) λi=>aA AC 229 (.bu [aq,aq]) [ah x,aa v,aa (aB .i64 h),aa (aB .i64 i)] d λ(x:Int×Int×Unit) d=>aw d (ae e) [av (aB .u64 x.1),aa x.2.1] λd=>oT g d e))):=by kernel_rfl
theorem KX (p:Option AE) (v k a b c:Int) (w:A2) (f:RS->A2->Prop):(bO V0 (λ_=>[]) 138 [ah p,aa v,.agg ⟨[aa k,av a,av b,av c]⟩] w f)=(
 aH w ⟨[aa k,av a,av b,av c]⟩ 34 λb d=>aH d ⟨[av 0,aa 0]⟩ 38 λe d=>true=true/\bH d (ad (ae b) 1) λx=>aD (decide (x>=4)) (True/\aw d (ae e) [av 0,aa 1] λd=>ak d λw1=>ag w1 none (ae e) cT λ(x:Int×Int×Unit)=>f (x.1,x.2.1,()) w1) (bh p 3 d λx=>true=true/\bH d (ad (ae b) 1) λg=>aA AC 230 aT [ah x,aa v,aa (aB .i64 g)] d λ(x:Int) d=>True/\aw d (ae e) [av 0,aa x] λ
 d=>ak d λw1=>ag w1 none (ae e) cT λ(x:Int×Int×Unit)=>f (x.1,x.2.1,()) w1)):=by kernel_rfl
theorem KY (p:Option AE) (v k a b c:Int) (w:A2) (e:RS->A2->Prop):(bO V0 (λ_=>[]) 139 [ah p,aa v,.agg ⟨[aa k,av a,av b,av c]⟩] w e)=(
 aH w ⟨[aa k,av a,av b,av c]⟩ 34 λb d=>aH d ⟨[av 0,aa 0]⟩ 38 λb d=>bh p 3 d λx=>aA AC 231 (.bu [aq,cr]) [ah x,aa v] d λ(x:Int×Bool×Unit) d=>aD (!x.2.1) (aw d (ae b) [av 0,aa 0] λd=>ak d λw1=>ag w1 none (ae b) cT λ(x:Int×Int×Unit)=>e (x.1,x.2.1,()) w1) (aw d (ae b) [av (aB .u64 (ay .i64 x.1 1)),aa 0] λd=>ak d λw1=>ag w1 none (ae b) cT λ(x:Int×Int×Unit)=>e
 (x.1,x.2.1,()) w1)):=by kernel_rfl
theorem GP (p:Option AE) (v k a b c:Int) (w:A2) (f:RS->A2->Prop):(bO V0 (λ_=>[]) 140 [ah p,aa v,.agg ⟨[aa k,av a,av b,av c]⟩] w f)=(
 aH w ⟨[aa k,av a,av b,av c]⟩ 34 λb d=>aH d ⟨[av 0,aa 0]⟩ 38 λe d=>true=true/\bH d (ad (ae b) 1) λx=>aD (decide (x>=4)) (True/\aw d (ae e) [av 0,aa 1] λd=>ak d λw1=>ag w1 none (ae e) cT λ(x:Int×Int×Unit)=>f (x.1,x.2.1,()) w1) (bh p 3 d λx=>true=true/\bH d (ad (ae b) 1) λg=>aA AC 232 aT [ah x,aa v,aa (aB .i64 g)] d λ(x:Int) d=>True/\aw d (ae e) [av 0,aa x] λ
 d=>ak d λw1=>ag w1 none (ae e) cT λ(x:Int×Int×Unit)=>f (x.1,x.2.1,()) w1)):=by kernel_rfl
abbrev lX (a:RS->A2->Prop) (b:A2) (c:Nat):Prop:=
 ak b λw1=>ag w1 none (ae c) cT λ(x:Int×Int×Unit)=>a (x.1,x.2.1,()) w1
abbrev BF (d:RS->A2->Prop) (f:A2) (b:Nat) (e:Int×Int×Unit) (c:Nat):Prop:=
 aw f (ae b) [av e.1,aa e.2.1] λa=>true=true/\aN a (ad (ae b) 1) λx=>aD (x != 0) (true=true/\aN a (ad (ae b) 1) λx=>True/\aw a (ae c) [av 0,aa x] λa=>lX d a c) (ag a none (ae b) cT λ(x:Int×Int×Unit)=>aw a (ae c) [av x.1,aa x.2.1] λa=>lX d a c)
abbrev BG (p:Option AE) (v:Int) (b:RS->A2->Prop) (c:AG) (a:Int×Int×Int×Int×Unit) (d:A2) (e:Nat) (f:Nat):Prop:=
 Hx AC c jJ [ah p,aa v,.agg ⟨[aa a.1,av a.2.1,av a.2.2.1,av a.2.2.2.1]⟩] d λ(x:Int×Int×Unit) g=>BF b g e x f
theorem YG (p:Option AE) (v k a b c:Int) (w:A2) (f:RS->A2->Prop):(bO V1 (λ_=>[]) 9 [ah p,aa v,.agg ⟨[aa k,av a,av b,av c]⟩] w f)=(
 aH w ⟨[aa k,av a,av b,av c]⟩ 34 λb d=>aH d ⟨[av 0,aa 0]⟩ 38 λe d=> ∃x,ai AC 61 [ah p] d (.bool x)/\aD (!x) (True/\aw d (ae e) [av 0,aa 10] λd=>lX f d e) (ag d (some !(decide (v<0)||decide (v>16))) (ae b) vB λ(x:Int×Int×Int×Int×Unit)=> ∃j,((!(decide (v<0)||decide (v>16)))=true->ai AC 29 [.agg ⟨[aa x.1,av x.2.1,av x.2.2.1,av x.2.2.2.1]⟩] d (.bool j))/\aD (decide (v<0)||decide (v>16)
 || !j) (True/\aw d (ae e) [av 0,aa 1] λd=>lX f d e) (true=true/\aN d (ad (ae b) 0) λx=> ∃l,ai AC 63 [aa x] d (.bool l)/\aD (!(v==0)==l) (True/\aw d (ae e) [av 0,aa 7] λd=>lX f d e) (∃x,(decide (v>0)=true->ai AC 18 [ah p,aa v] d (.bool x))/\aD (decide (v>0)&& !x) (True/\aw d (ae e) [av 0,aa 4] λd=>lX f d e) (true=true/\aN d (ad (ae b) 0) λx=>ag d none (ae b) vB λ(g:Int
 ×Int×Int×Int×Unit)=>(aA AC 64 (.el Dq) [] d λi d=>bP d (ae b) vB g/\bP d (ad (ae b) 0) aq x/\True/\ ∃(h:AG),o8 d i .i64 x H4 h/\(Hx AC h jJ [ah p,aa v,.agg ⟨[aa g.1,av g.2.1,av g.2.2.1,av g.2.2.2.1]⟩] d λ(x:Int×Int×Unit) d=>aH d ⟨[av 0,aa 0]⟩ 38 λb d=>BF f d b x e)/\aH d ⟨[av 0,aa 0]⟩ 38 λb d=>BG p v f h g d b e)/\aH d ⟨[av 0,aa 0]⟩ 38 λm
 d=>aA AC 64 (.el Dq) [] d λi d=>bP d (ae b) vB g/\bP d (ad (ae b) 0) aq x/\True/\ ∃(h:AG),o8 d i .i64 x H4 h/\BG p v f h g d m e))))):=by kernel_rfl
theorem GQ (p:Option AE) (a b:Int) (w:A2) (d:Bool->A2->Prop):(aL V2 (λ_=>[]) 26 [ah p,aa a,aa b] w d)=(
 aH w ⟨[ah p]⟩ 23 λf c=>eJ c (ae f) λx=> ∃g,ai AC 61 [ah x] c (.bool g)/\aD (!g||decide (a<1)||decide (a>16)||decide (b<1)||decide (b>16)) (ak c (d false)) (aH c {toList:=[.bool false,.bool false,.bool false,.bool false,.bool false,.bool false,.bool false,.bool false,.bool false,.bool false,.bool false,.bool false,.bool false,.bool false,.bool false,.bool false,.bool false]} 182 λh c=>aH c ⟨[H4]⟩ 183 λe c=>aw c (ae e) [.func (.func 86) ⟨[]⟩ {toList:=[.pointer
 (ae h),ah (ae f),ah (ae e)]}] λc=>ag c none (ae e) (.one (.vk 86 3)) λx=>aA AC 86 (.bu []) [aa a,ah x.1,ah x.2.1,ah x.2.2.1] c λx c=>(true=true/\0<=b/\b<(↑17:Int))/\jc c (ad (ae h) (b.toNat*1)) λx=>ak c (d x))):=by kernel_rfl
def pD:Nat->aW:=(λ|2=>[(5,Go.RX.El.one (Go.RX.Sc.int AU))]| _=>[])
theorem EL (n:Int) (c d e:Option AE) (w:A2) (k:Unit->A2->Prop):(aL V2 pD 86 [aa n,ah c,ah d,ah e] w k)=(
 (c.isSome=true/\0<=n/\n<(↑17:Int))/\aw w (ad c (n.toNat*1)) [.bool true] λg=> ∃(I:Nat->Int×Unit->A2->Prop),(∃n, ∀w1,Ext g w1->I n (1,()) w1)/\ ∀(h:Nat) (s:Int×Unit) (w1:A2),I h s w1->aD (decide (s.1<=16)) ((c.isSome=true/\0<=s.1/\s.1<(↑17:Int))/\jc w1 (ad c (B1 s.1*1)) λx=>ag w1 (some !x) d bF λi=>((!x)=true->i.isSome=true)/\((!x)=true->i.isSome=true)/\ag w1 (some !x) (ad i 2) bF λm=> ∃a,((!x)=true->ai AC 87 [ah m,aa n,.int
 .i64 s.1] w1 (.bool a))/\ag w1 (some (!x&& !a)) d bF λj=>((!x&& !a)=true->j.isSome=true)/\((!x&& !a)=true->j.isSome=true)/\ag w1 (some (!x&& !a)) (ad j 3) bF λo=> ∃l,((!x&& !a)=true->ai AC 88 [ah o,aa n,aa s.1] w1 (.bool l))/\aD (!x&&(a||l)) (ag w1 none e (.one (.vk 86 3)) λx=>aA AC 86 (.bu []) [aa s.1,ah x.1,ah x.2.1,ah x.2.2.1] w1 λx g=> ∀b,Ext g b-> ∃(f:Nat),f<h/\I f (ay .i64 s.1 1,()) b) (∀b,Ext w1 b
 -> ∃(f:Nat),f<h/\I f (ay .i64 s.1 1,()) b)) (ak w1 (k ()))):=by kernel_rfl
open Go.RX D
def px:Nat->Int->Int
 |0,p=>p
 |l+1,p=>px l p / 16
theorem WX {p:Int} (h:0<=p/\p<65536):px 4 p=0:=by grind[px]
theorem mZ (p:Int) (l:Nat):px l p=16*px (l+1) p+px l p % 16:=by grind[px]
theorem fC (p:Int) (l:Nat):0<=px l p % 16/\px l p % 16<16:=by omega
theorem YH {p:Int} (h:0<=p/\p<65536) {l:Nat} (a:l<=3):fh p (l:Int)=px l p % 16:=by
 unfold fh;rw[az (by omega)];congr;rcases l with _| _| _| _|l
 .show p / 1=p;omega
 .rfl
 .show p / 256=p / 16 / 16;omega
 .show p / 4096=p / 16 / 16 / 16;omega
 grind
theorem ko {f p:Int} (b:0<=f/\f<4096) (h:0<=p/\p<65536) {l:Nat} (a:l<=3):c9 f p (l:Int)=16*f+px l p % 16:=by
 unfold c9;rw[YH h a,ar (by omega)]
theorem ph:fS 0=zE:=rfl
theorem FD:eM zE=false:=rfl
theorem GR (v:Int):aZ (fS v).1 (fS v).2.1 (fS v).2.2.1 (fS v).2.2.2.1=true:=by
 unfold fS vo vp wk tr;cases h:oh _ with
 |false=>simp;decide
 |true=>
  unfold oh at h
  grind
theorem x_ {p:Bool} {r:Int} {l:Bool} {f:Int} (h:aZ p r l f=true):fS (xU p r l f)=(p,r,l,f,()):=by
 have hb:=nV h;unfold xU;rw[az h];have ⟨k,h2,m,w,o⟩:=hb;obtain⟨r,rfl⟩:=Jj k;obtain⟨f,rfl⟩:=Jj m;have key: ∀n:Nat,o_ p (r:Int) l (f:Int)=(n:Int)->n<18446744073709551616->(n % 2==1)=p->n / 2 % 8=r->(n / 16 % 2==1)=l->n / 32 % 128=0->n / 4096 % 4096=f->n / 16777216 % 1099511627776=0->fS (o_ p (r:Int) l (f:Int))=(p,(r:Int),l,(f:Int),()):=by
  intro n e x d g i q j s;have t:(B (o_ p (r:Int) l (f:Int))).toNat=n:=by rw[e,HU (by omega) (by omega)];omega
  have ok:oh n=true:=by
   unfold oh;rw[q,s,d,g,i,j,h];decide
  unfold fS vo vp wk tr;rw[t,ok,d,g,i,j];simp
 cases p with
 |false=>
  have ⟨a,b,c⟩:=o rfl;subst b;have u:r=0:=by omega
  have v:f=0:=by omega
  subst u;subst v;exact key 0 rfl (by decide) rfl rfl rfl rfl rfl rfl
 |true=>
  have y:nB l<=1:=DD l;refine key (1+2*r+16*nB l+4096*f) ?_ (by omega) ?_ (by omega) ?_ (by omega) (by omega) (by omega)
  .unfold o_;have:nB true=1:=rfl;rw[this];omega
  grind
  .have:(1+2*r+16*nB l+4096*f) / 16 % 2=nB l:=by omega
   rw[this];cases l<;>rfl
theorem oO (ws:List Int) (a:Int):aZ (aO ws a).1 (aO ws a).2.1 (aO ws a).2.2.1 (aO ws a).2.2.2.1=true:=GR _
theorem fk {f:Int} (h:0<=f/\f<4096):eM (cw f)=true:=by grind[eM,cw,cP,aZ]
theorem GU {f:Int} (h:0<=f/\f<4096):aZ true 0 false f=true:=by grind[aZ]
theorem QT {f:Int} (h:0<=f/\f<4096):fS (Sj (cw f))=cw f:=x_ (GU h)
theorem jX {ws:List Int} {i:Int} (h:0<=i) (h':i<ws.length):oX ws i=true:=gz.2 ⟨h,h'⟩
theorem yd {ws:List Int} {a v:Int} (h:oX ws a=true):eY (fm ws a v) a=v:=by
 have hi:=gz.1 h;have h2:oX (fm ws a v) a=true:=gz.2 (by grind[cL]);unfold eY;rw[az h2];unfold fm
 grind
theorem qd {ws:List Int} {a b v:Int} (h:a≠b):eY (fm ws a v) b=eY ws b:=by
 have e:oX (fm ws a v) b=oX ws b:=by unfold oX;rw[cL]
 unfold eY;rw[e];by_cases hb:oX ws b=true
 .rw[az hb];unfold fm;split
  .rename_i c;have d:=gz.1 c;have h2:=gz.1 hb
   grind
  .rfl
 grind
theorem qO {ws:List Int} {f:Int} {G:Int->Int} (a:0<=f) (c:16*f+16<=ws.length): ∀n:Nat,n<=16-> ∀b,eY (dz ws f G n) b=if 16*f<=b/\b<16*f+(n:Int) then G (b - 16*f) else eY ws b
 |0, _,b=>by rw[ar (by omega)];rfl
 |n+1,d,b=>by
  rw[dz];by_cases e:16*f+n=b
  .subst e;rw[yd (by grind[jX,gN])]
   grind
  .rw[qd e,qO a c n (by omega)]
   grind
theorem Ec {ds:List DT} (h:0<cB ds 0): ∃i d,jh ds=some i/\i<ds.length/\ds[i]? =some d/\d.1=0:=by
 unfold cB at h;rw[List.countP_pos_iff] at h;cases a:jh ds with
 |none=>
  unfold jh at a
  grind
 |some=>
  unfold jh at a;rw[HB] at a
  grind
theorem BH {o:Int} (h:1<=o/\o<=16):aI 3 o zD=((3,o,0,0,()),0):=by
 have e:ff 0 0 0 0 3 o=0:=by
  unfold ff;rw[ar (by decide),ar (by grind),az (by decide)];unfold dg gQ
  grind
 unfold aI zD jN iR
 grind
theorem rj {ds:List DT} {o:Int} (h:0<cB ds 0) (c: ∀d∈ds,d.1=0->d=zD) (a:1<=o/\o<=16): ∃i:Nat,i<ds.length/\ds[i]? =some zD/\dV ds 3 o=(i:Int)/\cJ ds 3 o=0/\cX ds 3 o=ds.set i (3,o,0,0,()):=by
 have ⟨i,d,g,h2,e,f⟩:=Ec h;have hd:d=zD:=c d (by grind) f;subst hd;have b:ds.getD i zD=zD:=by grind
 have j:oY ds i (aI 3 o)=0:=by
  rw[sS (by omega)];show(aI 3 o (ds.getD i zD)).2=0;rw[b,BH a]
 have k:eC ds i (aI 3 o)=ds.set i (3,o,0,0,()):=by
  rw[oA (by omega)];show(if(aI 3 o (ds.getD i zD)).2=0 then ds.set i (aI 3 o (ds.getD i zD)).1 else ds)= _;rw[b,BH a,az rfl]
 refine⟨i,h2,e,?_,?_,?_⟩
 .unfold dV;grind
 .unfold cJ;grind
 .unfold cX;grind
theorem tS {ds:List DT} {i:Nat} {d d':DT} (h:ds[i]? =some d) (v:Int):cB (ds.set i d') v+(if d.1=v then 1 else 0)=cB ds v+(if d'.1=v then 1 else 0):=by grind[cB]
theorem Ee {o:Int} (h:1<=o/\o<=16):aI 5 0 (3,o,0,0,())=((5,o,0,0,()),0):=by
 have a:dg 3 o 0 0=true:=by unfold dg gQ;grind
 have b:dg 5 o 0 0=true:=by unfold dg gQ;grind
 have e:ff 3 o 0 0 5 0=0:=by
  unfold ff;rw[ar (by grind),ar (by grind),az (by decide),ar (by grind)]
 unfold aI jN iR
 grind
abbrev Gh:Type:=Int->Option (Int×Nat×Int)
def lr (g:Gh) (f:Int) (v:Option (Int×Nat×Int)):Gh:=λx=>if x=f then v else g x
theorem bR (g:Gh) (f:Int) (v:Option (Int×Nat×Int)):lr g f v f=v:=az rfl
theorem a8 {g:Gh} {f x:Int} (h:x≠f) (v:Option (Int×Nat×Int)):lr g f v x=g x:=ar h
def mo (l:Nat) (e:ET):Prop:=e.1=true->eM e=false->(l=0/\e.2.2.1=false)\/(l=1/\e.2.2.1=true/\e.2.2.2.1 % 16=0)
theorem Bd (l:Nat):mo l zE:=λh=>by cases h
theorem abh (l:Nat) {e:ET} (h:eM e=true):mo l e:=λh'=>by grind
structure Inv (g:Gh) (s:WD):Prop where
 len:16*s.2.length<=s.1.length
 le:s.2.length<=4096
 fz: ∀d∈s.2,d.1=0->d=zD
 kd: ∀{f o l x},g f=some (o,l,x)->0<=f/\f<s.2.length/\s.2[f.toNat]? =some (3,o,0,0,())/\1<=o/\o<=16/\l<=3
 inj: ∀{f f' v},g f=some v->g f'=some v->f=f'
 oW: ∀{f o l x i},g f=some (o,l,x)->0<=i->i<16->eM (aO s.1 (16*f+i))=true-> ∃m,l=m+1/\g (aO s.1 (16*f+i)).2.2.2.1=some (o,m,16*x+i)
 leaf: ∀{f o l x i},g f=some (o,l,x)->0<=i->i<16->mo l (aO s.1 (16*f+i))
 E9: ∀{f o l x},g f=some (o,l,x)->l<3-> ∃f',g f'=some (o,l+1,x / 16)/\aO s.1 (16*f'+x % 16)=cw f
 wf: ∀{f o l x i},g f=some (o,l,x)->0<=i->i<16->(aO s.1 (16*f+i)).1=false->eY s.1 (16*f+i)=0
 tb: ∀{n:Nat} {d},s.2[n]? =some d->d.1=3-> ∃v,g (n:Int)=some v
def dP (g:Gh) (s:WD) (o p f:Int) (j:Nat):Prop:=g f=some (o,j,px (j+1) p)/\eM (aO s.1 (16*f+px j p % 16))=false
theorem ir {ws:List Int} {a v b:Int} (h:a≠b):aO (fm ws a v) b=aO ws b:=by grind[aO,qd]
theorem zC {ws:List Int} {a v:Int} (h:oX ws a=true):aO (fm ws a v) a=fS v:=by grind[aO,yd]
namespace Inv
variable {g:Gh} {s:WD}
theorem pQ (I:Inv g s) {f o:Int} {l:Nat} {x:Int} (h:g f=some (o,l,x)):0<=f/\f<4096/\16*f+16<=s.1.length:=by
 have:=I.kd h;have:=I.len;have:=I.le;omega
theorem reach (I:Inv g s) {o r p:Int} (c:g r=some (o,3,0)) (b:0<=p/\p<65536): ∀(n:Nat) {f:Int} {j:Nat},j+n=3->g f=some (o,j,px (j+1) p)-> ∃a,bG s.1 p 3 r=a++bG s.1 p j f
 |0,f,j,i,h=>by
  have:j=3:=by omega
  subst this;rw[WX b] at h;rw[I.inj h c];simp
 |n+1,f,j,i,h=>by
  have ⟨f',d,h2⟩:=I.E9 h (by omega);have k:=d;have ⟨a,u⟩:=I.reach c b n (by omega) k;have ⟨b1,b2, _⟩:=I.pQ d;refine⟨a++[(f',(j+1:Int),c9 f' p (j+1:Nat),())],?_⟩;have l:j+1<=3:=by omega
  have e:bG s.1 p (j+1) f'=(f',(j+1:Int),c9 f' p (j+1:Nat),())::bG s.1 p j f:=by
   rw[bG];have m:aO s.1 (c9 f' p (j+1:Nat))=cw f:=by rw[ko ⟨b1,b2⟩ b l];exact h2
   have ⟨q,t, _⟩:=I.pQ h;rw[m,az (fk ⟨q,t⟩)];rfl
  grind
theorem acf {ws:List Int} {p f:Int} {j:Nat} (h:eM (aO ws (c9 f p (j:Int)))=false):bG ws p j f=[(f,(j:Int),c9 f p (j:Int),())]:=by
 cases j with
 |zero=>rfl
 |succ=>rw[bG,ar (by grind)]
theorem iK (I:Inv g s) {o r p:Int} (e:g r=some (o,3,0)) (b:0<=p/\p<65536) {f:Int} {j:Nat} (h:dP g s o p f j):
 cM s.1 r p=(f,(j:Int),16*f+px j p % 16,())/\cx s.1 r p=aO s.1 (16*f+px j p % 16):=by
 have i:=I.kd h.1;have ⟨b1,b2, _⟩:=I.pQ h.1;have ⟨a,k⟩:=I.reach e b (3 - j) (by omega) h.1;have c:=ko ⟨b1,b2⟩ b i.2.2.2.2.2;have d:cM s.1 r p=(f,(j:Int),16*f+px j p % 16,()):=by
  unfold cM;rw[k,acf (by rw[c];exact h.2),c,List.getLastD_concat]
 exact⟨d,by unfold cx;rw[d]⟩
theorem N' (I:Inv g s) {o p:Int}: ∀(l:Nat) {f:Int},g f=some (o,l,px (l+1) p)-> ∃f' j,j<=l/\dP g s o p f' j
 |l,f,h=>by
  cases a:eM _ with
  |false=>exact⟨f,l,by simp,h,a⟩
  |true=>
   obtain⟨m,rfl,b⟩:=I.oW h (fC p l).1 (fC p l).2 a;rw[<-mZ] at b;obtain:=I.N' m b
   grind
theorem kG (I:Inv g s) {o r p:Int} (a:g r=some (o,3,0)) (b:0<=p/\p<65536): ∃f j,j<=3/\dP g s o p f j:=I.N' 3 (by rw[WX b];exact a)
theorem grow (I:Inv g s) {f o x i:Int} {m:Nat} (w:g f=some (o,m+1,x)) (xI:0<=i) (wq:i<16) (q:eM (aO s.1 (16*f+i))=false) (hc:0<cB s.2 0) (G:Int->Int)
 (P: ∀k,0<=k->k<16->eM (fS (G k))=false/\mo m (fS (G k))/\((fS (G k)).1=false->G k=0)):
 oZ s o=0/\g (fb s o)=none/\0<=fb s o/\fb s o<s.2.length/\(dx (g8 s o G) (16*f+i) (cw (fb s o))).2=s.2.set (fb s o).toNat (3,o,0,0,())/\s.2[(fb s o).toNat]? =some zD/\
 (∀b,b≠16*f+i->(b<16*fb s o\/16*fb s o+16<=b)->aO (dx (g8 s o G) (16*f+i) (cw (fb s o))).1 b=aO s.1 b)/\
 (∀k,0<=k->k<16->aO (dx (g8 s o G) (16*f+i) (cw (fb s o))).1 (16*fb s o+k)=fS (G k))/\
 aO (dx (g8 s o G) (16*f+i) (cw (fb s o))).1 (16*f+i)=cw (fb s o)/\
 Inv (lr g (fb s o) (some (o,m,16*x+i))) (dx (g8 s o G) (16*f+i) (cw (fb s o))):=by
 have H:=I.kd w;have ⟨n,vx,R,j,J,S⟩:=rj hc I.fz ⟨H.2.2.2.1,H.2.2.2.2.1⟩;have T:fb s o=(n:Int):=j;have U:oZ s o=0:=J;have hlen:=I.len;have hle:=I.le;have wF:16*(n:Int)+16<=s.1.length:=by omega
 have ⟨W,K⟩: ∃W,W=dz s.1 (n:Int) G 16:=⟨_,rfl⟩;have V:W.length=s.1.length:=by rw[K,gN]
 have Sn: ∀b,eY W b=if 16*(n:Int)<=b/\b<16*(n:Int)+16 then G (b - 16*(n:Int)) else eY s.1 b:=λb=>by
  rw[K];exact qO (by omega) wF 16 (B3 _) b
 have eS:g8 s o G=(W,s.2.set n (3,o,0,0,())):=by unfold g8;rw[az U,T,S,K]
 clear K;have fP:=I.pQ w;have X:g (n:Int)=none:=by
  cases hg:g (n:Int) with
  |none=>rfl
  |some v=>
   have ⟨a,b,c⟩:=v;have:=(I.kd hg).2.2.1;rw[show((n:Int)).toNat=n from rfl,R] at this;cases this
 have L: ∀{f':Int} {v},g f'=some v->f'≠(n:Int):=λh e=>by rw[e,X] at h;cases h
 have th:f≠(n:Int):=L w;rw[eS,T];have WY:oX (W) (16*f+i)=true:=jX (by omega) (by rw[V];omega);have Q: ∀b,b≠16*f+i->eY (fm (W) (16*f+i) (Sj (cw (n:Int)))) b=if 16*(n:Int)<=b/\b<16*(n:Int)+16 then G (b - 16*(n:Int)) else eY s.1 b:=λb hb=>by
  rw[qd (λe=>hb e.symm),Sn b]
 have w0: ∀b,b≠16*f+i->aO (fm (W) (16*f+i) (Sj (cw (n:Int)))) b=if 16*(n:Int)<=b/\b<16*(n:Int)+16 then fS (G (b - 16*(n:Int))) else aO s.1 b:=λb hb=>by
  unfold aO;rw[Q b hb];split<;>rfl
 have w1: ∀b,b≠16*f+i->(b<16*(n:Int)\/16*(n:Int)+16<=b)->aO (dx (W,s.2.set n (3,o,0,0,())) (16*f+i) (cw (n:Int))).1 b=aO s.1 b:=λb hb h=>by
  show aO (fm _ _ _) b= _;rw[w0 b hb,ar (by omega)]
 have M: ∀k,0<=k->k<16->aO (dx (W,s.2.set n (3,o,0,0,())) (16*f+i) (cw (n:Int))).1 (16*(n:Int)+k)=fS (G k):=λk h0 l=>by
  show aO (fm _ _ _) _= _;rw[w0 _ (by omega),az (by omega)];congr 2;omega
 have B:aO (dx (W,s.2.set n (3,o,0,0,())) (16*f+i) (cw (n:Int))).1 (16*f+i)=cw (n:Int):=by
  show aO (fm _ _ _) _= _;rw[zC WY,QT (by omega)]
 refine⟨U,X,by omega,by omega,rfl,by rw[show((n:Int)).toNat=n from rfl];exact R,w1,M,B,?_⟩;have iQ: ∀{f0 y t k:Int} {z:Nat},g f0=some (y,z,t)->0<=k->k<16->(16*f0+k=16*f+i/\f0=f/\k=i)\/aO (dx (W,s.2.set n (3,o,0,0,())) (16*f+i) (cw (n:Int))).1 (16*f0+k)=aO s.1 (16*f0+k):=λ{f0 y t k z} h h0 l=>by
  by_cases e:16*f0+k=16*f+i
  .exact .inl ⟨e,by omega,by omega⟩
  .have:=L h;exact .inr (w1 _ e (by omega))
 refine⟨?_,?_,?_,?_,?_,?_,?_,?_,?_,?_⟩
 .show 16*(s.2.set n _).length<=(fm W _ _).length;rw[cL,V,Ce];exact hlen
 .show(s.2.set n _).length<=4096;rw[Ce];exact hle
 .intro d hd h0;rcases Fh hd with hd|rfl
  .exact I.fz d hd h0
  .cases h0
 .intro f0 y z t h;show _/\ _<((s.2.set n (3,o,0,0,())).length:Int)/\(s.2.set n (3,o,0,0,()))[f0.toNat]? = _/\ _;rw[Ce];by_cases e:f0=(n:Int)
  .subst e;rw[bR] at h;cases h;refine⟨by omega,by omega,?_,H.2.2.2.1,H.2.2.2.2.1,by omega⟩;rw[show((n:Int)).toNat=n from rfl,Fk vx]
  .rw[a8 e] at h;have ⟨a1,a2,a3,a4⟩:=I.kd h;refine⟨a1,a2,?_,a4⟩;rw[Do (by omega)];exact a3
 .intro a b v A hb;by_cases e:a=(n:Int)<;>by_cases N:b=(n:Int)
  .rw[e,N]
  .subst e;rw[bR] at A;rw[a8 N] at hb;cases A;exfalso;have ⟨f',r,p⟩:=I.E9 hb (by omega);have C:(16*x+i) / 16=x:=by omega
   have D:(16*x+i) % 16=i:=by omega
   rw[C] at r;rw[D] at p;rw[I.inj r w, ] at p;rw[p] at q;have ⟨E,F, _⟩:=I.pQ hb;rw[fk ⟨E,F⟩] at q;cases q
  .subst N;rw[bR] at hb;rw[a8 e] at A;cases hb;exfalso;have ⟨f',r,p⟩:=I.E9 A (by omega);have C:(16*x+i) / 16=x:=by omega
   have D:(16*x+i) % 16=i:=by omega
   rw[C] at r;rw[D] at p;rw[I.inj r w, ] at p;rw[p] at q;have ⟨E,F, _⟩:=I.pQ A;rw[fk ⟨E,F⟩] at q;cases q
  .rw[a8 e] at A;rw[a8 N] at hb;exact I.inj A hb
 .intro f0 y z t k h h0 l O;by_cases e:f0=(n:Int)
  .subst e;rw[M k h0 l,(P k h0 l).1] at O;cases O
  .rw[a8 e] at h;rcases iQ h h0 l with ⟨j,rfl,rfl⟩|j
   .rw[j,B];rw[w] at h;cases h;exact⟨m,rfl,bR _ _ _⟩
   .rw[j] at O ⊢;have ⟨m',q1,Y⟩:=I.oW h h0 l O;exact⟨m',q1,by rw[a8 (L Y)];exact Y⟩
 .intro f0 y z t k h h0 l;by_cases e:f0=(n:Int)
  .subst e;rw[bR] at h;cases h;rw[M k h0 l];exact(P k h0 l).2.1
  .rw[a8 e] at h;rcases iQ h h0 l with ⟨j,rfl,rfl⟩|j
   .rw[j,B];exact abh _ (fk (by omega))
   .rw[j];exact I.leaf h h0 l
 .intro f0 y z t h hl;by_cases e:f0=(n:Int)
  .subst e;rw[bR] at h;cases h;have C:(16*x+i) / 16=x:=by omega
   have D:(16*x+i) % 16=i:=by omega
   exact⟨f,by rw[a8 th,C];exact w,by rw[D];exact B⟩
  .rw[a8 e] at h;have ⟨f',r,p⟩:=I.E9 h hl;refine⟨f',by rw[a8 (L r)];exact r,?_⟩;rcases iQ r (by omega:0<=t % 16) (by omega) with ⟨j,rfl,S⟩|j
   .exfalso;rw[j] at p;rw[p] at q;have ⟨E,F, _⟩:=I.pQ h;rw[fk ⟨E,F⟩] at q;cases q
   .rw[j];exact p
 .intro f0 y z t k h h0 l u;by_cases e:f0=(n:Int)
  .subst e;rw[M k h0 l] at u;show eY (fm _ _ _) _=0;rw[Q _ (by omega),az (by omega),show 16*(n:Int)+k - 16*(n:Int)=k from by omega];exact(P k h0 l).2.2 u
  .rw[a8 e] at h;rcases iQ h h0 l with ⟨j,rfl,rfl⟩|j
   .rw[j,B] at u;cases u
   .rw[j] at u;have hb:16*f0+k≠16*f+i:=λJ=>by
     rw[J,B] at j;rw[J, <-j] at u;cases u
    show eY (fm _ _ _) _=0;rw[Q _ hb,ar (by omega)];exact I.wf h h0 l u
 .intro Z d Z4 h3;by_cases e:Z=n
  .subst e;exact⟨_,bR _ _ _⟩
  .have h':(s.2.set n (3,o,0,0,()))[Z]? =some d:=Z4;rw[Do (by omega)] at h';have ⟨v,hv⟩:=I.tb h' h3;exact⟨v,by rw[a8 (by omega)];exact hv⟩
theorem UE (I:Inv g s) {f o x i v:Int} {l:Nat} (y:g f=some (o,l,x)) (F:0<=i) (G:i<16) (m:eM (aO s.1 (16*f+i))=false) (hv:eM (fS v)=false) (u:mo l (fS v)) (z:(fS v).1=false->v=0):
 aO (fm s.1 (16*f+i) v) (16*f+i)=fS v/\Inv g (fm s.1 (16*f+i) v,s.2):=by
 have H:=I.pQ y;have w:oX s.1 (16*f+i)=true:=jX (by omega) (by omega);have n:=zC (v:=v) w;have iQ: ∀{f0 k:Int},0<=k->k<16->(16*f0+k=16*f+i/\f0=f/\k=i)\/aO (fm s.1 (16*f+i) v) (16*f0+k)=aO s.1 (16*f0+k):=λ{f0 k} h0 b=>by
  by_cases e:16*f0+k=16*f+i
  grind
  .exact .inr (ir (λc=>e c.symm))
 refine⟨n,by rw[cL];exact I.len,I.le,I.fz,I.kd,I.inj,?_,?_,?_,?_,I.tb⟩
 .intro f0 p q d k h h0 b r;rcases iQ (f0:=f0) h0 b with ⟨a,rfl,rfl⟩|a
  .rw[n,hv] at r;cases r
  .have A:eM (aO s.1 (16*f0+k))=true:=by rw[<-a];exact r
   rw[a];exact I.oW h h0 b A
 .intro f0 p q d k h h0 b;rcases iQ (f0:=f0) h0 b with ⟨a,rfl,rfl⟩|a
  grind
  .rw[a];exact I.leaf h h0 b
 .intro f0 p q d h u;have ⟨f',B,t⟩:=I.E9 h u;refine⟨f',B,?_⟩;rcases iQ (f0:=f') (by omega:0<=d % 16) (by omega) with ⟨a,rfl,J⟩|a
  .exfalso;rw[a] at t;rw[t] at m;have ⟨C,D, _⟩:=I.pQ h;rw[fk ⟨C,D⟩] at m;cases m
  .rw[a];exact t
 .intro f0 p q d k h h0 b E;have j:=E;by_cases e:16*f0+k=16*f+i
  .rw[e,n] at j;rw[e,yd w];exact z j
  .rw[ir (λc=>e c.symm)] at j;rw[qd (λc=>e c.symm)];exact I.wf h h0 b j
theorem abi (I:Inv g s) {f o x i f2:Int} {m:Nat} (z:g f=some (o,m+1,x)) (Z:0<=i) (wq:i<16) (D:g f2=some (o,m,16*x+i)) (M:aO s.1 (16*f+i)=cw f2) (N: ∀k,0<=k->k<16->aO s.1 (16*f2+k)=zE):
 aO (fm s.1 (16*f+i) 0) (16*f+i)=zE/\eC s.2 f2 (aI 5 0)=s.2.set f2.toNat (5,o,0,0,())/\Inv (lr g f2 none) (fm s.1 (16*f+i) 0,eC s.2 f2 (aI 5 0)):=by
 have fP:=I.pQ z;have E:=I.kd z;have A:=I.kd D;have F:oX s.1 (16*f+i)=true:=jX (by omega) (by omega);have u:aO (fm s.1 (16*f+i) 0) (16*f+i)=zE:=by rw[zC F];exact ph
 have G:eC s.2 f2 (aI 5 0)=s.2.set f2.toNat (5,o,0,0,()):=by
  rw[oA ⟨A.1,A.2.1⟩,E5,A.2.2.1];show(if(aI 5 0 (3,o,0,0,())).2=0 then s.2.set f2.toNat (aI 5 0 (3,o,0,0,())).1 else _)= _;rw[Ee ⟨E.2.2.2.1,E.2.2.2.2.1⟩,az rfl]
 have l: ∀{f0 v},lr g f2 none f0=some v->f0≠f2/\g f0=some v:=λ{f0 v} h=>by
  by_cases e:f0=f2
  .rw[e,bR] at h;cases h
  .rw[a8 e] at h;exact⟨e,h⟩
 have iQ: ∀{f0 k:Int},0<=k->k<16->(16*f0+k=16*f+i/\f0=f/\k=i)\/aO (fm s.1 (16*f+i) 0) (16*f0+k)=aO s.1 (16*f0+k):=λ{f0 k} h0 j=>by
  by_cases e:16*f0+k=16*f+i
  .exact .inl ⟨e,by omega,by omega⟩
  .exact .inr (ir (λq=>e q.symm))
 refine⟨u,G,?_⟩;rw[G];refine⟨?_,?_,?_,?_,?_,?_,?_,?_,?_,?_⟩
 .show 16*(s.2.set _ _).length<=(fm _ _ _).length;rw[cL,Ce];exact I.len
 .show(s.2.set _ _).length<=4096;rw[Ce];exact I.le
 .intro d hd h0;rcases Fh hd with hd|rfl
  .exact I.fz d hd h0
  .cases h0
 .intro f0 w r n h;have ⟨t,h⟩:=l h;rw[Ce];have ⟨a1,H,O,a4⟩:=I.kd h
  grind
 .intro a b v P hb;exact I.inj (l P).2 (l hb).2
 .intro f0 w r n k h h0 j B;have ⟨t,h⟩:=l h;rcases iQ (f0:=f0) h0 j with ⟨c,rfl,rfl⟩|c
  .rw[u] at B;cases B
  .have C:eM (aO s.1 (16*f0+k))=true:=by rw[<-c];exact B
   rw[c];have ⟨Q,J,y⟩:=I.oW h h0 j C;refine⟨Q,J,?_⟩;rw[a8]
   .exact y
   .intro e;rw[e,D] at y;simp only[C9,B4] at y;have ⟨a1,H,O⟩:=y;have R:k=i:=by omega
    have S:n=x:=by omega
    subst R;subst S;subst a1;subst H;subst J;have:=I.inj h z;subst this;rw[u] at c;rw[<-c] at C;cases C
 .intro f0 w r n k h h0 j;have ⟨t,h⟩:=l h;show mo r (aO (fm s.1 (16*f+i) 0) (16*f0+k));rcases iQ (f0:=f0) h0 j with ⟨c,rfl,rfl⟩|c
  .rw[u];exact Bd _
  .rw[c];exact I.leaf h h0 j
 .intro f0 w r n h T;have ⟨t,h⟩:=l h;have ⟨f',U,p⟩:=I.E9 h T;have V:f'≠f2:=λe=>by
   rw[e,N _ (by omega) (by omega)] at p;cases p
  refine⟨f',by rw[a8 V];exact U,?_⟩;show aO (fm s.1 (16*f+i) 0) (16*f'+n % 16)= _;rcases iQ (f0:=f') (by omega:0<=n % 16) (by omega) with ⟨c,rfl,e3⟩|c
  .exfalso;rw[c,M] at p;unfold cw at p;simp only[B4,and_true,true_and] at p;exact t p.symm
  .rw[c];exact p
 .intro f0 w r n k h h0 j W;have ⟨t,h⟩:=l h;show eY (fm s.1 (16*f+i) 0) (16*f0+k)=0;have K:(aO (fm s.1 (16*f+i) 0) (16*f0+k)).1=false:=W;by_cases e:16*f0+k=16*f+i
  .rw[e,yd F]
  .rw[ir (λq=>e q.symm)] at K;rw[qd (λq=>e q.symm)];exact I.wf h h0 j K
 .intro L d X Y;have h':(s.2.set f2.toNat (5,o,0,0,()))[L]? =some d:=X;by_cases e:L=f2.toNat
  grind
  .rw[Do (by omega)] at h';have ⟨v,hv⟩:=I.tb h' Y;exact⟨v,by rw[a8 (by omega)];exact hv⟩
end Inv
set_option maxRecDepth 100000
open Go.RX D
def rL (p:Int) (j:Nat) (e:ET):Int×Int×Int×Unit:=if e.1=true then(if j=1 then e.2.2.2.1+p % 16 else e.2.2.2.1,e.2.1,0,()) else(0,0,4,())
theorem AP (p:Int) (j:Nat) {e:ET} (h:e.1=false):rL p j e=(0,0,4,()):=by grind[rL]
def nQ (g g':Gh):Prop:= ∀o r x,g' r=some (o,3,x)<->g r=some (o,3,x)
theorem nQ.refl (g:Gh):nQ g g:=λ_ _ _=>Iff.rfl
theorem nQ.trans {a b c:Gh} (h:nQ a b) (k:nQ b c):nQ a c:=λo r x=>(k o r x).trans (h o r x)
theorem nQ.to {g g':Gh} {o r x:Int} (h:nQ g g') (k:g r=some (o,3,x)):g' r=some (o,3,x):=(h _ _ _).2 k
def AQ (o:Int) (g g':Gh) (s s':WD):Prop:= ∀ ⦃f o' l x⦄,o'≠o->g f=some (o',l,x)->g' f=some (o',l,x)/\ ∀k,0<=k->k<16->aO s'.1 (16*f+k)=aO s.1 (16*f+k)
theorem AQ.refl (o:Int) (g:Gh) (s:WD):AQ o g g s s:=λ_ _ _ _ _ h=>⟨h,λ_ _ _=>rfl⟩
theorem AQ.trans {o:Int} {a b c:Gh} {s t u:WD} (h:AQ o a b s t) (k:AQ o b c t u):AQ o a c s u:=λ_ _ _ _ d e=>by
 obtain⟨f⟩:=h d e;obtain:=k d f
 grind
def tE (P:Int->Int->Prop) (g g':Gh) (s s':WD):Prop:= ∀ ⦃o p f j⦄,¬ P o p->dP g s o p f j-> ∃f' a,dP g' s' o p f' a/\rL p a (aO s'.1 (16*f'+px a p % 16))=rL p j (aO s.1 (16*f+px j p % 16))
theorem tE.refl (P:Int->Int->Prop) (g:Gh) (s:WD):tE P g g s s:=λ_ _ _ _ _ h=>⟨_, _,h,rfl⟩
theorem tE.trans {P:Int->Int->Prop} {a b c:Gh} {s t u:WD} (h:tE P a b s t) (k:tE P b c t u):tE P a c s u:=λ_ _ _ _ d e=>by
 have ⟨f1,j1,f,h2⟩:=h d e;obtain:=k d f
 grind
theorem tE.mono {P c:Int->Int->Prop} {a b:Gh} {s t:WD} (h:tE P a b s t) (e: ∀o p,P o p->c o p):tE c a b s t:=λ_ _ _ _ f d=>h (by grind) d
def W6:Int->Int->Prop:=λ_ _=>False
def pj (o:Int) (l:Nat) (p:Int):Int->Int->Prop:=λo' q=>o'=o/\px l q=px l p
namespace Inv
variable {g:Gh} {s:WD}
theorem gv (I:Inv g s) {o r p:Int} (a:g r=some (o,3,0)) (b:0<=p/\p<65536) {f:Int} {j:Nat} (h:dP g s o p f j):bC s r false p=rL p j (aO s.1 (16*f+px j p % 16)):=by
 obtain:=I.iK a b h;unfold bC rL;unfold l9
 grind
theorem zF (I:Inv g s) {g':Gh} {s':WD} (c:Inv g' s') {P:Int->Int->Prop} (d:tE P g g' s s') (i:nQ g g') {o r p:Int} (a:g r=some (o,3,0)) (k: ¬ P o p):bC s' r false p=bC s r false p:=by
 by_cases h:0<=p/\p<65536
 .have ⟨f,j, _,b⟩:=I.kG a h;have ⟨f',m,l,h2⟩:=d k b;rw[I.gv a h b,c.gv (i.to a) h l,h2]
 .have e: ∀t,bC t r false p=(0,0,2,()):=λt=>by
   unfold bC
   grind
  grind
theorem zH (I:Inv g s) {f o x i:Int} {m:Nat} (c:g f=some (o,m+1,x)) (y:0<=i) (z:i<16) (A:eM (aO s.1 (16*f+i))=false) (hc:0<cB s.2 0) (G:Int->Int)
 (q: ∀k,0<=k->k<16->eM (fS (G k))=false/\mo m (fS (G k))/\((fS (G k)).1=false->G k=0))
 (K: ∀p,0<=px m p % 16->px (m+1) p % 16=i->rL p m (fS (G (px m p % 16)))=rL p (m+1) (aO s.1 (16*f+i))):
 let n:=fb s o
 let s':=dx (g8 s o G) (16*f+i) (cw n)
 let g':=lr g n (some (o,m,16*x+i))
 oZ s o=0/\Inv g' s'/\nQ g g'/\AQ o g g' s s'/\tE W6 g g' s s'/\s'.2=s.2.set n.toNat (3,o,0,0,())/\s.2[n.toNat]? =some zD/\
 (∀p,dP g s o p f (m+1)->px (m+1) p % 16=i->dP g' s' o p n m/\aO s'.1 (16*n+px m p % 16)=fS (G (px m p % 16)))/\0<=n/\n<4096:=by
 have ⟨B,r,C,L,D,E,t,F,M,H⟩:=I.grow c y z A hc G q;dsimp only;have d: ∀{f':Int} {v},g f'=some v->f'≠fb s o:=λh e=>by rw[e,r] at h;cases h
 have C_: ∀p,dP g s o p f (m+1)->px (m+1) p % 16=i->dP (lr g (fb s o) (some (o,m,16*x+i))) (dx (g8 s o G) (16*f+i) (cw (fb s o))) o p (fb s o) m/\aO _ (16*fb s o+px m p % 16)=fS (G (px m p % 16)):=λp a u=>by
  have e:=F (px m p % 16) (fC p m).1 (fC p m).2;refine⟨⟨?_,by rw[e];exact(q _ (fC p m).1 (fC p m).2).1⟩,e⟩;rw[bR];have b:=a.1;rw[c] at b;simp only[C9,B4,true_and] at b;rw[b, <-u, <-mZ]
 refine⟨B,H,λo' r' N=>?_,λ⦃f0 o' l O⦄ J h=>⟨?_,λk h0 b=>?_⟩,λ⦃o' p f' j⦄ _ a=>?_,D,E,C_,C,by have:=I.le;omega⟩
 .by_cases e:r'=fb s o
  .rw[e,bR,r];refine⟨λh=>?_,λh=>by cases h⟩;have:=(I.kd c).2.2.2.2.2;simp only[C9,B4] at h;omega
  .rw[a8 e]
 .rw[a8 (d h)];exact h
 .have:=d h;refine t _ (λe=>?_) (by omega);have:f0=f:=by omega
  subst this;rw[c] at h;cases h;exact J rfl
 .by_cases w:f'=f/\px j p % 16=i
  .obtain⟨rfl,u⟩:=w;have b:=a.1;rw[c] at b
   grind
  .have e:aO (dx (g8 s o G) (16*f+i) (cw (fb s o))).1 (16*f'+px j p % 16)=aO s.1 (16*f'+px j p % 16):=by
    have:=d a.1;have:=fC p j;refine t _ (λe=>w ?_) (by omega);omega
   refine⟨f',j,⟨by rw[a8 (d a.1)];exact a.1,by rw[e];exact a.2⟩,by rw[e]⟩
theorem zI (I:Inv g s) {f o x i v:Int} {l:Nat} (c:g f=some (o,l,x)) (r:0<=i) (t:i<16) (n:eM (aO s.1 (16*f+i))=false) (hv:eM (fS v)=false) (u:mo l (fS v)) (w:(fS v).1=false->v=0) {q:Int} (y:dP g s o q f l) (z:px l q % 16=i):
 Inv g (fm s.1 (16*f+i) v,s.2)/\AQ o g g s (fm s.1 (16*f+i) v,s.2)/\tE (pj o l q) g g s (fm s.1 (16*f+i) v,s.2)/\
 (∀p,px l p=px l q->dP g (fm s.1 (16*f+i) v,s.2) o p f l/\dP g s o p f l)/\aO (fm s.1 (16*f+i) v) (16*f+i)=fS v:=by
 have ⟨A,B⟩:=I.UE c r t n hv u w;have d:=y.1;rw[c] at d;simp only[C9,B4,true_and] at d;refine⟨B,λ⦃f0 o' E F⦄ C h=>⟨h,λk h0 a=>?_⟩,λ⦃o' p f' j⦄ b m=>?_,λp b=>?_,A⟩
 .refine ir (λe=>C ?_)
  grind
 .have e:aO (fm s.1 (16*f+i) v) (16*f'+px j p % 16)=aO s.1 (16*f'+px j p % 16):=by
   refine ir (λe=>b ?_);have:f'=f:=by omega
   subst this;have a:=m.1;rw[c] at a;simp only[C9,B4] at a;obtain⟨rfl,rfl,D⟩:=a;refine⟨rfl,?_⟩;rw[mZ p,mZ q, <-D, <-d];omega
  exact⟨f',j,⟨m.1,by rw[e];exact m.2⟩,by grind⟩
 .have a:px (l+1) p=px (l+1) q:=by simp only[px];rw[b]
  have h2:px l p % 16=i:=by rw[b];exact z
  refine⟨⟨by grind,?_⟩,⟨by grind,by rw[h2];exact n⟩⟩
  grind
theorem KZ (I:Inv g s) {f o x i f2:Int} {m:Nat} (c:g f=some (o,m+1,x)) (v:0<=i) (w:i<16) (a:g f2=some (o,m,16*x+i)) (q:aO s.1 (16*f+i)=cw f2) (r: ∀k,0<=k->k<16->aO s.1 (16*f2+k)=zE):
 let s':WD:=(fm s.1 (16*f+i) 0,eC s.2 f2 (aI 5 0))
 let g':=lr g f2 none
 Inv g' s'/\nQ g g'/\AQ o g g' s s'/\tE W6 g g' s s'/\s'.2=s.2.set f2.toNat (5,o,0,0,())/\s.2[f2.toNat]? =some (3,o,0,0,())/\(∀p,dP g s o p f2 m->dP g' s' o p f (m+1))/\aO s'.1 (16*f+i)=zE:=by
 have ⟨d,y,z⟩:=I.abi c v w a q r;dsimp only;have t:=I.pQ a;have A:f≠f2:=λe=>by
  subst e;rw[c] at a;simp at a
 have B:eM (aO s.1 (16*f+i))=true:=by rw[q];exact fk ⟨t.1,t.2.1⟩
 have C_: ∀p,dP g s o p f2 m->dP (lr g f2 none) (fm s.1 (16*f+i) 0,eC s.2 f2 (aI 5 0)) o p f (m+1)/\px (m+1) p % 16=i:=λp h=>by
  have b:=h.1;rw[a] at b;simp only[C9,B4,true_and] at b;have h2:=mZ p (m+1);have F:=fC p (m+1);have n:px (m+1+1) p=x:=by omega
  have u:px (m+1) p % 16=i:=by omega
  refine⟨⟨by rw[a8 A,n];exact c,?_⟩,u⟩;rw[u,d];exact FD
 refine⟨z,λo' r' G=>?_,λ⦃f0 o' l H⦄ C h=>⟨?_,λk h0 b=>?_⟩,λ⦃o' p f' j⦄ _ h=>?_,y,(I.kd a).2.2.1,λp h=>(C_ p h).1,d⟩
 .by_cases e:r'=f2
  .subst e;rw[bR,a];refine⟨λh=>(by cases h),λh=>?_⟩;simp only[C9,B4] at h;have:=(I.kd c).2.2.2.2.2;omega
  .rw[a8 e]
 .rw[a8]
  .exact h
  grind
 .refine ir (λe=>C ?_);have:f0=f:=by omega
  grind
 .by_cases e:f'=f2
  .subst e;have b:=h.1;rw[a] at b;simp only[C9,B4] at b;obtain⟨rfl,rfl,b⟩:=b;have ⟨D,E⟩:=C_ p h;refine⟨_, _,D,?_⟩;rw[E,d,r _ (fC p m).1 (fC p m).2,AP _ _ rfl,AP _ _ rfl]
  .have n:aO (fm s.1 (16*f+i) 0) (16*f'+px j p % 16)=aO s.1 (16*f'+px j p % 16):=by
    refine ir (λe=>?_);have h2:=h.2;rw[<-e,B] at h2;cases h2
   refine⟨f',j,⟨by rw[a8 e];exact h.1,?_⟩,?_⟩
   .rw[n];exact h.2
   grind
end Inv
set_option maxRecDepth 100000
open Go.RX D
structure Kept (s s':WD):Prop where
 Z5: ∀{n:Nat} {d:DT},s.2[n]? =some d->d.1=4\/d.1=5->s'.2[n]? =some d
 ws5: ∀{n:Nat} {d:DT},s.2[n]? =some d->d.1=4\/d.1=5-> ∀k:Int,0<=k->k<16->eY s'.1 (16*(n:Int)+k)=eY s.1 (16*(n:Int)+k)
 nw: ∀{n:Nat} {d:DT},s'.2[n]? =some d->s.2[n]? =some d\/((d.1=3\/d.1=5)/\d.2.2=(0,0,())/\1<=d.2.1/\d.2.1<=16)
theorem Kept.ks {s s':WD} (K:Kept s s') {n:Nat} {d:DT} (h:s.2[n]? =some d) (a:d.1=4):s'.2[n]? =some d:=K.Z5 h (.inl a)
theorem Kept.ws {s s':WD} (K:Kept s s') {n:Nat} {d:DT} (h:s.2[n]? =some d) (a:d.1=4) (k:Int) (k0:0<=k) (b:k<16):eY s'.1 (16*(n:Int)+k)=eY s.1 (16*(n:Int)+k):=K.ws5 h (.inl a) k k0 b
theorem Kept.refl (s:WD):Kept s s:=⟨λh _=>h,by simp,λh=> .inl h⟩
theorem Kept.trans {s t u:WD} (h:Kept s t) (k:Kept t u):Kept s u:=
 ⟨λa h2=>k.Z5 (h.Z5 a h2) h2,λa h2 i i0 i1=>(k.ws5 (h.Z5 a h2) h2 i i0 i1).trans (h.ws5 a h2 i i0 i1),λa=>(k.nw a).elim h.nw .inr⟩
theorem Kept.set {s:WD} {W:List Int} {n:Nat} {d0 d1:DT} (h0:s.2[n]? =some d0) (c:d0.1≠4/\d0.1≠5) (f:(d1.1=3\/d1.1=5)/\d1.2.2=(0,0,())/\1<=d1.2.1/\d1.2.1<=16) (b: ∀{m:Nat} {d:DT},s.2[m]? =some d->d.1=4\/d.1=5-> ∀k:Int,0<=k->k<16->eY W (16*(m:Int)+k)=eY s.1 (16*(m:Int)+k)):Kept s (W,s.2.set n d1):=by
 refine⟨λ{m d} a g=>?_,b,λ{m d} a=>?_⟩
 .have e:n≠m:=λe=>by grind
  rw[Do e];exact a
 grind
def mh (s:WD) (f:Int):Prop:=0<=f/\ ∃d,s.2[f.toNat]? =some d/\d.1=5/\ ∀k:Int,0<=k->k<16->eY s.1 (16*f+k)=0
theorem mh.kept {s s':WD} {f:Int} (h:mh s f) (K:Kept s s'):mh s' f:=by
 have ⟨h0,d,a,h2,b⟩:=h;refine⟨h0,d,K.Z5 a (.inr h2),h2,λk k0 c=>?_⟩;have:=K.ws5 a
 grind
theorem Inv.off {g:Gh} {s:WD} (I:Inv g s) {f o x i:Int} {l:Nat} (a:g f=some (o,l,x)) (h0:0<=i) (b:i<16) {n:Nat} {d:DT} (hd:s.2[n]? =some d) (c:d.1=4\/d.1=5) {k:Int} (k0:0<=k) (e:k<16):16*f+i≠16*(n:Int)+k:=by
 have h:=I.kd a
 grind
theorem Inv.CM {g:Gh} {s:WD} (I:Inv g s) {f o x i:Int} {l:Nat} (a:g f=some (o,l,x)) (h0:0<=i) (b:i<16) (v:Int):Kept s (fm s.1 (16*f+i) v,s.2):=
 ⟨λh _=>h,λhd c k k0 d=>by exact qd (I.off a h0 b hd c k0 d),λh=> .inl h⟩
theorem Inv.BI {g:Gh} {s:WD} (I:Inv g s) {f o x i:Int} {m:Nat} (c:g f=some (o,m+1,x)) (p:0<=i) (q:i<16) (hc:0<cB s.2 0) (G:Int->Int) (e:ET):Kept s (dx (g8 s o G) (16*f+i) e):=by
 have h:=I.kd c;have ⟨n,z,j,r,t,A⟩:=rj hc I.fz ⟨h.2.2.2.1,h.2.2.2.2.1⟩;have B:fb s o=n:=r;have C:oZ s o=0:=t;have D:=I.len;have u:16*(n:Int)+16<=s.1.length:=by omega
 have eS:g8 s o G=(dz s.1 n G 16,s.2.set n (3,o,0,0,())):=by unfold g8;grind
 have ⟨W,a⟩: ∃W,W=dz s.1 n G 16:=⟨_,rfl⟩;have v: ∀b,eY W b=if 16*n<=b/\b<16*n+16 then G _ else eY s.1 b:=λb=>by
  rw[a];exact qO (by omega) u 16 (by grind) b
 rw[<-a] at eS;clear a;have w:dx (W,s.2.set n (3,o,0,0,())) _ e=(fm W (16*f+i) (Sj e),s.2.set n _):=rfl;rw[eS,w];refine Kept.set j (by decide) (by grind) λ{m d} hd l k k0 y=>?_;have E:n≠m:=λe=>by subst e;rw[j] at hd;cases hd;exact absurd l (by decide)
 rw[qd (I.off c p q hd l k0 y),v,ar (by omega)]
def A0 (g:Gh) (s:WD):Prop:= ∀ ⦃f o l x i⦄,g f=some (o,l,x)->0<=i->i<16->(aO s.1 (16*f+i)).1=true->eM (aO s.1 (16*f+i))=false->l=0
theorem A0.upd {g:Gh} {s s':WD} (h:A0 g s) {f o x i:Int} {l:Nat} (n:g f=some (o,l,x)) (h0:0<=i) (p:i<16) (d: ∀b,b≠16*f+i->aO s'.1 b=aO s.1 b)
 (q:(aO s'.1 (16*f+i)).1=true->eM (aO s'.1 (16*f+i))=false->l=0):A0 g s':=λf2 r l2 t k j k0 m a c=>by
 by_cases e:16*f2+k=16*f+i
 grind
 .rw[d _ e] at a c;exact h j k0 m a c
theorem A0.grow {g:Gh} {s s':WD} (h:A0 g s) {f i F o x a:Int} {m:Nat} (l: ∀b,b≠a->(b<16*F\/16*F+16<=b)->aO s'.1 b=aO s.1 b)
 (q: ∀k,0<=k->k<16->(aO s'.1 (16*F+k)).1=true->m=0) (r:eM (aO s'.1 a)=true):A0 (lr g F (some (o,m,x))) s':=λf2 t l2 u k c k0 n d j=>by
 by_cases e:f2=F
 .subst e;rw[bR] at c
  grind
 .rw[a8 e] at c;by_cases p:16*f2+k=a
  grind
  .rw[l _ p (by omega)] at d j;exact h c k0 n d j
theorem A0.del {g:Gh} {s:WD} (h:A0 g s) (F:Int):A0 (lr g F none) s:=λf2 f l2 i k a k0 b c d=>by
 by_cases e:f2=F
 .subst e;rw[bR] at a;grind
 .rw[a8 e] at a;exact h a k0 b c d
def XC (P:Int->Int->Prop):Prop:= ∀o q a,P o q->P o a->q=a
theorem Oa (l:Nat) (p:Int):px (l+1) p=px l (p / 16):=by
 induction l with
 |zero=>rfl
 |succ l a=>rw[px,a];rfl
theorem XC.lv {o p:Int} {lv:Nat} (h:XC (λo' q=>o'=o/\px lv q=px lv p)):lv=0:=by
 cases lv with
 |zero=>rfl
 |succ=>
  have a:(16*(p / 16)+(p % 16+1) % 16) / 16=p / 16:=by omega
  have:=h o p (16*(p / 16)+(p % 16+1) % 16) (by grind) ⟨rfl,by rw[Oa,Oa,a]⟩;omega
structure tw (P:Int->Int->Prop) (o:Int) (g g':Gh) (s s':WD):Prop where
 inv:Inv g' s'
 root:nQ g g'
 Nc:AQ o g g' s s'
 Dr:tE P g g' s s'
 kk: ∀{n:Nat} {d:DT},s.2[n]? =some d->d.1=3\/d.1=5-> ∃d':DT,s'.2[n]? =some d'/\(d'.1=5\/(d'.1=3/\d.1=3))
 len:s'.1.length=s.1.length/\s'.2.length=s.2.length
 kp:Kept s s'
 lg:XC P->A0 g s->A0 g' s'
 gk: ∀{f:Int} {v:Int×Nat×Int},g f=some v->g' f=some v\/mh s' f
theorem tw.refl {g:Gh} {s:WD} (I:Inv g s) (P:Int->Int->Prop) (o:Int):tw P o g g s s:=
 ⟨I,.refl g,.refl o g s,.refl P g s,by grind,by simp,.refl s,λ_ h=>h,λh=> .inl h⟩
theorem tw.trans {P:Int->Int->Prop} {o:Int} {a b c:Gh} {s t u:WD} (h:tw P o a b s t) (k:tw P o b c t u):tw P o a c s u where
 inv:=k.inv
 root:=h.root.trans k.root
 Nc:=h.Nc.trans k.Nc
 Dr:=h.Dr.trans k.Dr
 kk:=λhd f=>by
  have ⟨d1,d,h2⟩:=h.kk hd f;obtain:=k.kk d
  grind
 len:=⟨k.len.1.trans h.len.1,k.len.2.trans h.len.2⟩
 kp:=h.kp.trans k.kp
 lg:=λo n=>k.lg o (h.lg o n)
 gk:=λd=>(h.gk d).elim (λe=>k.gk e) λe=> .inr (e.kept k.kp)
theorem tw.mono {P d:Int->Int->Prop} {o:Int} {a b:Gh} {s t:WD} (h:tw P o a b s t) (c: ∀o p,P o p->d o p):tw d o a b s t:=⟨h.inv,h.root,h.Nc,h.Dr.mono c,h.kk,h.len,h.kp,λe n=>h.lg (λo q f a b=>e o q f (c _ _ a) (c _ _ b)) n,h.gk⟩
theorem Oc {ds:List DT} {i:Nat} {d0 d1:DT} (h0:ds[i]? =some d0) (a:d0.1=3\/d0.1=5->d1.1=5) {n:Nat} {d:DT} (h:ds[n]? =some d) (k:d.1=3\/d.1=5): ∃d':DT,(ds.set i d1)[n]? =some d'/\(d'.1=5\/(d'.1=3/\d.1=3)):=by
 grind
theorem ye (s:WD) (o:Int) (G:Int->Int) (i:Int) (e:ET):(dx (g8 s o G) i e).1.length=s.1.length:=by grind[dx,g8,cL,gN]
def Dg (g:Gh) (s:WD) (e:Option Int):Prop:= ∀ ⦃f o l x⦄,g f=some (o,l,x)->l<3->some f≠e-> ∃k,0<=k/\k<16/\(aO s.1 (16*f+k)).1=true
theorem Dg.some {g:Gh} {s:WD} (h:Dg g s none) (f:Int):Dg g s (some f):=λ_ _ _ _ a b _=>h a b (by simp)
namespace Inv
variable {g:Gh} {s:WD}
theorem down {o p:Int} (b:0<=p/\p<65536) (lv:Nat): ∀(n:Nat) {g:Gh} {s:WD} {f:Int},Inv g s->dP g s o p f (lv+n)->(aO s.1 (16*f+px (lv+n) p % 16)).1=false->n<=cB s.2 0->
 ∃g' s' f',nP o p n (s,(f,((lv+n:Nat):Int),16*f+px (lv+n) p % 16,()))=(s',(f',(lv:Int),16*f'+px lv p % 16,()))/\tw W6 o g g' s s'/\dP g' s' o p f' lv/\(aO s'.1 (16*f'+px lv p % 16)).1=false/\cB s'.2 0+n=cB s.2 0/\(Dg g s (some f)->Dg g' s' (some f'))
 |0,g,s,f,I,a,c, _=>⟨g,s,f,rfl,.refl I _ _,a,c,rfl,λh=>h⟩
 |n+1,g,s,f,I,a,c,hc=>by
  have w:=I.kd a.1;have x:lv+n<=3:=by have:=w.2.2.2.2.2;omega
  have hi:=fC p (lv+n+1);have ⟨Z,j,y,z,A,l,q,B,C,D⟩:=I.zH (m:=lv+n) a.1 hi.1 hi.2 a.2 (by omega) (λ_=>0) (λk _ _=>by
   rw[ph];exact⟨FD,Bd _,λ_=>rfl⟩) (λp' _ lR=>by
   rw[ph,AP _ _ rfl,AP];exact c)
  have ⟨E,F⟩:=B p a rfl;have r:0<=fb s o/\fb s o<4096:=⟨C,D⟩;have G:=tS (d':=(3,o,0,0,())) q 0;have ME:cB (dx (g8 s o λ_=>0) (16*f+px (lv+n+1) p % 16) (cw (fb s o))).2 0+1=cB s.2 0:=by
   rw[l];simpa[zD] using G
  have ⟨_,u1, _, _, _, _,t,H,u, _⟩:=I.grow (m:=lv+n) a.1 hi.1 hi.2 a.2 (by omega) (λ_=>0) (λk _ _=>by
   rw[ph];exact⟨FD,Bd _,λ_=>rfl⟩)
  have J:tw W6 o g _ s (dx (g8 s o λ_=>0) (16*f+px (lv+n+1) p % 16) (cw (fb s o))):=
   ⟨j,y,z,A,by grind,⟨ye _ _ _ _ _,by rw[l,Ce]⟩,I.BI (m:=lv+n) a.1 hi.1 hi.2 (by omega) _ _,λ_ nl=>nl.grow (f:=f) (i:=0) t (λk k0 d b=>by rw[H k k0 d,ph] at b;cases b) (by rw[u];exact fk r),λ{f0 K} v=> .inl (by
    rw[a8 (λe=>?_)]
    .exact v
    .have ⟨L,M,N⟩:=K;have:=(I.kd v).2.2.1;rw[e,q] at this;cases this)⟩
  have O:Dg g s (some f)->Dg (lr g (fb s o) (some (o,lv+n,16*px (lv+n+1+1) p+px (lv+n+1) p % 16))) (dx (g8 s o λ_=>0) (16*f+px (lv+n+1) p % 16) (cw (fb s o))) (some (fb s o)):=λh f0 L M N h0 P Q=>by
   have R:f0≠fb s o:=λe=>Q (by rw[e]);rw[a8 R] at h0;by_cases e:f0=f
   .subst e;exact⟨_,hi.1,hi.2,by rw[u];rfl⟩
   .have ⟨k,d,S,T⟩:=h h0 P (by simpa using e);exact⟨k,d,S,by rw[t _ (by omega) (by omega)];exact T⟩
  have ⟨g',s',f',U,V,W,X,r5,Y⟩:=down b lv n j E (by rw[F,ph];rfl) (by omega);refine⟨g',s',f',?_,J.trans V,W,X,by omega,λh=>Y (O h)⟩;rw[<-U];show nP o p n _= _;have el:((lv+(n+1):Nat):Int) - 1=((lv+n:Nat):Int):=by omega
  rw[el,ko r b x];rfl
end Inv
set_option maxRecDepth 100000
open Go.RX D
theorem V8 {ds:List DT} (h:cB ds 0=0):jh ds=none:=by
 unfold cB at h;unfold jh;rw[List.findIdx?_eq_none_iff];intro d hd;have:=List.countP_eq_zero.1 h d hd;simpa using this
theorem v8 {ds:List DT} {y o:Int} (h: ¬ cJ ds y o=0):cX ds y o=ds:=by
 unfold cJ at h;unfold cX;cases a:jh ds with
 |none=>rfl
 |some n=>
  have b: ¬ ds.length=0:=λe=>by
   have:ds=[]:=H9.1 e;subst this;cases a
  rw[ar b,a] at h;dsimp only at h ⊢;by_cases c:(n:Int)<0\/(n:Int)>=ds.length
  .exact tQ c _
  .rw[sS (by omega)] at h;rw[oA (by omega),ar h]
theorem yf {s:WD} {o:Int} {G:Int->Int} (h: ¬ oZ s o=0):g8 s o G=s:=by
 unfold g8;rw[ar h,v8 h]
theorem Ef {s:WD} {o:Int} (h:cB s.2 0=0) (a:0<s.2.length): ¬ oZ s o=0:=by
 unfold oZ cJ;rw[ar (by omega),V8 h];show ¬ (12:Int)=0;decide
theorem tU {p:Int} {j:Nat} {e:ET} (h:(rL p j e).2.2.1=0):e.1=true:=by
 cases a:e.1 with
 |true=>rfl
 |false=>
  rw[AP p j a] at h;exact absurd h (by decide)
theorem Od {ws:List Int} {f:Int} (c:0<=f) (d:16*f+16<=ws.length) {k:Nat} (a:k<16):(jt ws (16*f) 16)[k]? =some (eY ws (16*f+(k:Int))):=by
 have e:jt ws (16*f) 16=(ws.drop (16*f).toNat).take 16:=ar (by omega);rw[e,Hr a,Hz];unfold eY;have hi:(16*f).toNat+k<ws.length:=by omega
 rw[az (jX (by omega) (by omega)),B2 hi,E5];have b:(16*f+(k:Int)).toNat=(16*f).toNat+k:=by omega
 rw[b,B2 hi];rfl
theorem zJ {ws:List Int} {f:Int} (a:0<=f) (b:16*f+16<=ws.length) (h:pX ws f=true) (k:Int) (h0:0<=k) (d:k<16):eY ws (16*f+k)=0:=by
 have c:=Od a b (k:=k.toNat) (by omega);unfold pX at h;rw[I_] at h;have:=h _ (DC c);rw[show((k.toNat:Nat):Int)=k from by omega] at this;simpa using this
theorem Eg {ws:List Int} {f:Int} (b:0<=f) (c:16*f+16<=ws.length) (h:pX ws f=false): ∃k:Int,0<=k/\k<16/\eY ws (16*f+k)≠0:=by
 unfold pX at h;rw[I8] at h;have ⟨v,hv,d⟩:=h;have ⟨k,a⟩:=IR hv;have i:(jt ws (16*f) 16).length=16:=by
  have e:jt ws (16*f) 16=(ws.drop (16*f).toNat).take 16:=ar (by omega);rw[e,Dl,HY];omega
 have g:k<16:=by have:=(B5.1 a).1;omega
 have:=Od b c g;rw[a] at this;refine⟨(k:Int),by omega,by omega,λe=>d ?_⟩;cases this;simpa using e
def E_ (F:Nat->Int) (p:Int):Nat->Nat->List PT
 |j,0=>[(F j,(j:Int),16*F j+px j p % 16,())]
 |j,n+1=>(F j,(j:Int),16*F j+px j p % 16,())::E_ F p (j+1) n
structure Up (g:Gh) (s:WD) (o p:Int) (F:Nat->Int) (j:Nat):Prop where
 gh: ∀i,j<=i->i<=3->g (F i)=some (o,i,px (i+1) p)
 ld: ∀i,j<=i->i<3->aO s.1 (16*F (i+1)+px (i+1) p % 16)=cw (F i)
theorem Eh (F:Nat->Int) (p:Int) (j n:Nat): ∃l,E_ F p j n=(F j,(j:Int),16*F j+px j p % 16,())::l:=by cases n<;>exact⟨_,rfl⟩
namespace Inv
theorem put {g:Gh} {s:WD} (I:Inv g s) {o r p:Int} (t:g r=some (o,3,0)) (i:0<=p/\p<65536) {lv:Nat} {e:ET} (u:e.1=true) (z:aZ e.1 e.2.1 e.2.2.1 e.2.2.2.1=true) (A:eM e=false) (B:mo lv e) (h0:lp s r p lv=0):
 ∃g',tw (pj o lv p) o g g' s (pW s o r p lv e)/\(∀q,px lv q=px lv p-> ∃f,dP g' (pW s o r p lv e) o q f lv/\aO (pW s o r p lv e).1 (16*f+px lv q % 16)=e)/\
  (∃f j,lv<=j/\dP g s o p f j/\(aO s.1 (16*f+px j p % 16)).1=false/\cB (pW s o r p lv e).2 0+(j - lv)=cB s.2 0)/\(Dg g s none->Dg g' (pW s o r p lv e) none):=by
 have ⟨f,j,P,l⟩:=I.kG t i;have ⟨w,eP⟩:=I.iK t i l;have a:=h0;unfold lp at a;rw[w,eP] at a;dsimp only at a;by_cases c:((aO s.1 (16*f+px j p % 16)).1||decide (((j:Nat):Int)<((lv:Nat):Int)))=true
 .rw[az c] at a;exact absurd a (by decide)
 rw[ar c] at a;by_cases C:(cB s.2 0:Int)<((j:Nat):Int) - ((lv:Nat):Int)
 .rw[az C] at a;exact absurd a (by decide)
 simp only[FS,decide_eq_true_eq,not_or,Bool.not_eq_true] at c;obtain⟨n,rfl⟩: ∃n,j=lv+n:=⟨j - lv,by omega⟩;have ⟨g1,s1,f1,d1,C1,E1,Q,R,D⟩:=down i lv n I l c.1 (by omega);have E:pW s o r p lv e=(fm s1.1 (16*f1+px lv p % 16) (Sj e),s1.2):=by
  unfold pW;rw[az h0,w];have en:(((lv+n:Nat):Int) - ((lv:Nat):Int)).toNat=n:=by omega
  dsimp only;rw[en,d1];rfl
 rw[E];have hv:fS (Sj e)=e:=x_ z;have hi:=fC p lv;have ⟨F,G,H,J,x⟩:=C1.inv.zI (v:=Sj e) E1.1 hi.1 hi.2 E1.2 (by rw[hv];exact A) (by rw[hv];exact B) (λh=>by rw[hv,u] at h;cases h) E1 rfl;refine⟨g1,(C1.mono λ_ _ h=>h.elim).trans ⟨F,.refl _,G,H,λ{m d} h k=>⟨d,h,k.elim (λe=> .inr ⟨e,e⟩) .inl⟩,⟨cL _ _ _,rfl⟩,C1.inv.CM E1.1 hi.1 hi.2 _,λK nl=>nl.upd E1.1 hi.1 hi.2 (λb hb=>ir (λe=>hb e.symm)) λ_ _=>K.lv,λh=> .inl h⟩,λq y=>⟨f1,(J q y).1,?_⟩,⟨f,lv+n,by omega,l,c.1,?_⟩,λh=>?_⟩
 .show aO (fm s1.1 _ _) _= _;rw[y,x,hv]
 .show cB s1.2 0+ _= _;omega
 .intro f0 S T U h0 L _;by_cases ef:f0=f1
  .subst ef;exact⟨_,hi.1,hi.2,by show(aO (fm s1.1 _ _) _).1=true;rw[x,hv];exact u⟩
  .have ⟨k,M,N,O⟩:=D (h.some f) h0 L (by simpa using ef);exact⟨k,M,N,by show(aO (fm s1.1 _ _) _).1=true;rw[ir (by omega)];exact O⟩
end Inv
set_option maxRecDepth 100000
open Go.RX D
theorem Oe (x y:PT) (l:List PT) (t:WD):ij (x::y::l) t=if pX t.1 x.1=true then ij (y::l) (fm t.1 y.2.2.1 0,eC t.2 x.1 (aI 5 0)) else t:=rfl
theorem aan {ws:List Int} {a:Int} (h:eY ws a=0):aO ws a=zE:=by unfold aO;rw[h];exact ph
theorem Up.ne {g:Gh} {s:WD} {o p:Int} {F:Nat->Int} {j:Nat} (U:Up g s o p F j) {a b:Nat} (d:j<=a) (f:a<=3) (hb:j<=b) (i:b<=3) (h:a≠b):F a≠F b:=λe=>by
 have c:=U.gh a d f;rw[e,U.gh b hb i] at c;simp only[C9,B4,true_and] at c;exact h c.1.symm
theorem oH {r:Int} {l:Bool} {f:Int}:aZ true r l f=true<->(0<=r/\r<=7/\0<=f/\f<4096/\(r>0\/l=false)):=by
 unfold aZ;cases l<;>simp<;>omega
theorem Nz {p:Bool} {r:Int} {l:Bool} {f:Int} (h:r≠0):eM (p,r,l,f,())=false:=by
 unfold eM cP;simp[h]
namespace Inv
theorem split {g:Gh} {s:WD} (I:Inv g s) {o r p:Int} (F:g r=some (o,3,0)) (G:0<=p/\p<65536) {f:Int} {j:Nat} (a:dP g s o p f j) (b:(aO s.1 (16*f+px j p % 16)).1=true) (h0:kB s o r p=0):
 ∃g' f',tw W6 o g g' s (fu s o r p)/\dP g' (fu s o r p) o p f' 0/\cB (fu s o r p).2 0+j=cB s.2 0/\(Dg g s none->Dg g' (fu s o r p) none):=by
 have ⟨l,eP⟩:=I.iK F G a;have hi:=fC p j;rcases I.leaf a.1 hi.1 hi.2 b a.2 with ⟨rfl, _⟩|⟨rfl,n,x⟩
 .have q:fu s o r p=s:=by unfold fu;rw[l];exact az rfl
  rw[q];exact⟨g,f,.refl I _ _,a,rfl,λh=>h⟩
 .have H:kB s o r p=oZ s o:=by unfold kB;rw[l];exact ar (by show ¬ ((1:Int)=0);decide)
  rw[H] at h0;have q:fu s o r p=dx (g8 s o (lq (aO s.1 (16*f+px 1 p % 16)))) (16*f+px 1 p % 16) (cw (fb s o)):=by
   unfold fu;rw[l,eP];rw[ar (by show ¬ ((1:Int)=0);decide),az h0]
  have y:=I.kd a.1;have hc:0<cB s.2 0:=by
   rcases Nat.eq_zero_or_pos (cB s.2 0) with e|e
   .exact absurd h0 (Ef e (by omega))
   .exact e
  have t:=oO s.1 (16*f+px 1 p % 16);rw[q];have J:=a.2;generalize K:aO s.1 (16*f+px 1 p % 16)=e at n x t b J ⊢;have ⟨ep,er,el,ef,eu⟩:=e;dsimp only at n x t b;subst n;subst b;have ⟨b1,b2,b3,b4,z⟩:=oH.1 t;have z:er>0:=z.elim id (λh=>by cases h);have u: ∀k:Int,0<=k->k<16->fS (lq (true,er,true,ef,()) k)=(true,er,false,ef+k,()):=λk k0 c=>by
   show fS (xU true er false (ef+k))= _;exact x_ (oH.2 ⟨b1,b2,by omega,by omega,.inr rfl⟩)
  have A: ∀k,0<=k->k<16->eM (fS (lq (true,er,true,ef,()) k))=false/\mo 0 (fS (lq (true,er,true,ef,()) k))/\((fS (lq (true,er,true,ef,()) k)).1=false->lq (true,er,true,ef,()) k=0):=λk k0 c=>by
   rw[u k k0 c];exact⟨Nz (by omega),λ_ _=> .inl ⟨rfl,rfl⟩,λh=>by cases h⟩
  have ⟨q0,L,M,N,O,v,w,P,Q,R⟩:=I.zH (m:=0) a.1 hi.1 hi.2 a.2 hc (lq (true,er,true,ef,())) A (λp' hp0 lR=>by
   rw[u _ (fC p' 0).1 (fC p' 0).2,K];rfl)
  have ⟨_,u1, _, _, _, _,B,S,C, _⟩:=I.grow (m:=0) a.1 hi.1 hi.2 a.2 hc (lq (true,er,true,ef,())) A;have ⟨T,e2⟩:=P p a rfl;have U:=tS (d':=(3,o,0,0,())) w 0;refine⟨_,fb s o,⟨L,M,N,O,λ{m d} hd y=>by rw[v];exact Oc w (λh=>by rcases h with h|h<;>exact absurd h (by decide)) hd y,⟨ye _ _ _ _ _,by rw[v,Ce]⟩,I.BI (m:=0) a.1 hi.1 hi.2 hc _ _,λ_ nl=>nl.grow (f:=f) (i:=0) B (λ_ _ _ _=>rfl) (by rw[C];exact fk ⟨Q,R⟩),λ{f0 V} D=> .inl (by
   rw[a8 (λe=>?_)]
   .exact D
   .have ⟨W,X,Y⟩:=V;have:=(I.kd D).2.2.1;rw[e,w] at this;cases this)⟩,T,?_,?_⟩
  .rw[v];simpa[zD] using U
  .intro h f0 W X Y h0 Z _;by_cases E:f0=fb s o
   .subst E;exact⟨0,by decide,by decide,by rw[S 0 (by decide) (by decide),u 0 (by decide) (by decide)]⟩
   .rw[a8 E] at h0;by_cases e:f0=f
    .subst e;exact⟨_,hi.1,hi.2,by rw[C];rfl⟩
    .have ⟨k,c,k2,k3⟩:=h h0 Z (by simp);exact⟨k,c,k2,by rw[B _ (by omega) (by omega)];exact k3⟩
theorem thin {o p:Int} (t:0<=p/\p<65536) {F:Nat->Int}: ∀(n:Nat) {j:Nat} {g:Gh} {s:WD},j+n=3->Inv g s->Up g s o p F j->
 ∃g',tw W6 o g g' s (ij (E_ F p j n) s)/\cB (ij (E_ F p j n) s).2 0=cB s.2 0/\(Dg g s (some (F j))->Dg g' (ij (E_ F p j n) s) none)
 |0,j,g,s,N,I,U=>by
  refine⟨g,.refl I _ _,rfl,λh f0 y z A h0 q _=>h h0 q (λe=>?_)⟩;have B:=U.gh j (B3 _) (by omega);cases e;rw[h0] at B;simp only[C9,B4] at B;omega
 |n+1,j,g,s,N,I,U=>by
  have ⟨l',C⟩:=Eh F p (j+1) n;have O:E_ F p j (n+1)=(F j,(j:Int),16*F j+px j p % 16,())::(F (j+1),((j+1:Nat):Int),16*F (j+1)+px (j+1) p % 16,())::l':=by rw[E_,C]
  have u:=U.gh j (B3 _) (by omega);have g1:=U.gh (j+1) (by omega) (by omega);have P:=U.ld j (B3 _) (by omega);have hi:=fC p (j+1);have f:=I.pQ u;rw[O,Oe];cases v:pX s.1 (F j) with
  |false=>
   rw[ar (by decide)];refine⟨g,.refl I _ _,rfl,λh f0 y z A h0 q _=>?_⟩;by_cases e:f0=F j
   .subst e;have ⟨k,k0,c,w⟩:=Eg f.1 f.2.2 v;refine⟨k,k0,c,?_⟩;cases hb:(aO s.1 (16*F j+k)).1 with
    |true=>rfl
    |false=>exact absurd (I.wf u k0 c hb) w
   .exact h h0 q (by simpa using e)
  |true=>
   rw[az rfl];dsimp only;have Q:g (F j)=some (o,j,16*px (j+1+1) p+px (j+1) p % 16):=by rw[<-mZ];exact u
   have ⟨x,D,E,G,l,r,R,H⟩:=I.KZ g1 hi.1 hi.2 Q P (λk k0 c=>aan (zJ f.1 f.2.2 v k k0 c));dsimp only at x D E G l r R H;have C1:tw W6 o g (lr g (F j) none) s (fm s.1 (16*F (j+1)+px (j+1) p % 16) 0,eC s.2 (F j) (aI 5 0)):=
    ⟨x,D,E,G,λ{m d} hd S=>by rw[l];exact Oc r (λ_=>rfl) hd S,⟨cL _ _ _,by rw[l,Ce]⟩,by rw[l];exact Kept.set r (show ¬ (3:Int)=4/\ ¬ (3:Int)=5 by decide) ⟨.inr rfl,rfl,(I.kd g1).2.2.2.1,(I.kd g1).2.2.2.2.1⟩ λ{m d} hd T k k0 c=>by rw[qd (I.off g1 hi.1 hi.2 hd T k0 c)],λ_ nl=>(nl.upd (s':=(fm s.1 (16*F (j+1)+px (j+1) p % 16) 0,eC s.2 (F j) (aI 5 0))) g1 hi.1 hi.2 (λb hb=>ir (λe=>hb e.symm)) λt _=>by rw[H] at t;cases t).del _,λ{f0 v0} V=>by
     by_cases e:f0=F j
     .subst e;have W:=U.ne (a:=j) (b:=j+1) (by omega) (by omega) (by omega) (by omega) (by omega);refine .inr ⟨f.1, _,by rw[l];exact Fk (B5.1 r).1,rfl,λk k0 c=>?_⟩;show eY (fm s.1 _ _) _=0;rw[qd (by omega)];exact zJ f.1 f.2.2 v k k0 c
     .exact .inl (by rw[a8 e];exact V)⟩
   have X:Up (lr g (F j) none) (fm s.1 (16*F (j+1)+px (j+1) p % 16) 0,eC s.2 (F j) (aI 5 0)) o p F (j+1):=by
    refine⟨λi Y h2=>?_,λi Y h2=>?_⟩
    .rw[a8 (U.ne (by omega) h2 (B3 _) (by omega) (by omega))];exact U.gh i (by omega) h2
    .have W:=U.ne (a:=i+1) (b:=j+1) (by omega) (by omega) (by omega) (by omega) (by omega);have hi2:=fC p (i+1);show aO (fm _ _ _) _= _;rw[ir (by omega)];exact U.ld i (by omega) h2
   have ⟨g',J,K,L⟩:=thin t n (by omega) x X;rw[C] at J K L;refine⟨g',C1.trans J,K.trans ?_,λh=>L λf0 y z A h0 q Z=>?_⟩
   .have:=tS (d':=(5,o,0,0,())) r 0;rw[l];simpa using this
   .have M:f0≠F j:=λe=>by rw[e,bR] at h0;cases h0
    have n2:f0≠F (j+1):=λe=>Z (by rw[e]);rw[a8 M] at h0;have ⟨k,k0,c,w⟩:=h h0 q (by simpa using M);exact⟨k,k0,c,by show(aO (fm _ _ _) _).1=true;rw[ir (by omega)];exact w⟩
end Inv
end Go.Proofs.YteeflilbnoknnaaGreat
