import Derived.Test.YtlcenllcmeebhaaGreatPBD
/-! What the statement leans on: texts joined and shortened by a program of mine. -/
set_option linter.unusedVariables false
set_option linter.unusedSimpArgs false
open Go renaming World->A1,Value->AC,Addr->AM,MapEntry->B3,Obj->Be
open Go.Proofs.Tryz renaming prog->A2
open List renaming range->AL,mem_append_right->AY,mem_cons_self->Am,mem_cons_of_mem->Ap,mem_map->Ar,length_map->Az,perm_middle->B1,getElem?_of_mem->B2,sublist_cons_self->B4,replicate->B5,getElem?_map->Bx,mem_append_left->CB,getElem?_eq_some_iff->CD,mem_of_getElem?->CF,getElem?_eq_getElem->Cf,append_assoc->Cp,mem_range->DA,map_append->DB,mem_append->DL,length_cons->DM,length_set->DR,length_replicate->DU,perm_append_comm->DZ,flatMap_cons->Dn,getElem?_set_self->Do,length_take->Du,getD_eq_getElem?_getD->Ee,mem_cons->Ek,getElem?_set_ne->Eo,length->F7,getElem?_inj->FI,filter_eq_self->FK,nodup_append->FS,getElem?_append_right->FU,sublist_append_right->FX,length_append->FY,perm_cons_erase->G1,filter_map->GD,map_map->GF,ext_getElem?->GG,any_eq_true->GH,sublist_append_left->GI,mem_flatMap->Gj,foldl_cons->Gn,mem_singleton->Gp,map_cons->Gq,find?_eq_none->Gr,take_append_drop->Gz,set_append_right->H4,filter_congr->H5,length_singleton->H6,mem_filter->H7,length_drop->HB,getElem?_append_left->Hb,length_eraseIdx->Hq,nodup_nil->IG,find?_some->IJ,mem_of_find?_eq_some->IN,findIdx?_eq_some_iff_getElem->IQ,drop_eq_getElem_cons->IR,nodup_cons->In,eraseIdx_eq_take_drop_succ->J3,filter_cons_of_neg->K1,filter_sublist->KA,length_nil->KF,countP_eq_length_filter->Kf,filter_cons->Kg,length_filter_le->Kh,replicate_succ'->Kj,set_append_left->Kl,nil_append->Km,length_zipIdx->Kt,find?_range_eq_some->LL,getElem?_eq_none->M4,perm_append_comm_assoc->M5
open Eq renaming mpr->AP
open List.Perm renaming cons->DD,refl->E4,flatMap_right->GJ,append_right->GS,append_left->Hr
open Int renaming toNat_natCast->DF,le_refl->Ga
open Bool renaming or_eq_false_iff->E5,and_eq_true->F5,true_and->Gd,and_eq_false_iff->I1,or_eq_true->N4,not_eq_true'->N7,eq_iff_iff->N9
open Nat renaming le_refl->Ea,zero_le->F6,min_eq_left->I2,le_trans->I3,not_lt_zero->N_
open List.Sublist renaming append_left->Gi
open Array renaming contains_push->I8,eraseIdxIfInBounds->Nz,getElem?_eq_some_iff->O2
open Option renaming map_eq_some_iff->OC,map_eq_none_iff->OG
namespace Go.Proofs.YtlcenllcmeebhaaGreat
set_option maxRecDepth 100000
open Go.RX D
def Rt (g:Gh):Prop:= ∀f o x,g f=some (o,3,x)->x=0
theorem Rt.dy {g g':Gh} (h:Rt g) (k:mQ g g'):Rt g':=λf o x e=>h f o x ((k _ _ _).1 e)
def upx:Nat->Int->Int
 |0,x=>x
 |n+1,x=>upx n x / 16
theorem JJ {ws:List Int} {l:Nat} {f z:Int}:z∈(AL 16).flatMap (oP ws l f)<-> ∃i:Nat,i<16/\ ∃m,l=m+1/\du (aJ ws (16*f+(i:Int)))=true/\z∈cU ws m (aJ ws (16*f+(i:Int))).2.2.2.1:=by
 rw[Gj];constructor
 ·rintro⟨hi,h⟩;cases l with
  |zero
  |succ=>
   unfold oP at h
   grind
 ·rintro⟨i,hi,m,rfl,h⟩;unfold oP
  grind
theorem vD (x:Int): ∀l:List Int,(jE x l).Perm (x::l)
 |[]=> .refl _
 |y::l=>by
  rw[jE];split
  ·exact((vD x l).cons y).trans (.swap _ _ _)
  simp
theorem BQ: ∀(l a:List Int),(l.foldl (λa x=>jE x a) a).Perm (l++a)
 |[],a=> .refl _
 |x::l,a=>by
  exact(BQ l _).trans (by grind[vD])
theorem lJ (l:List Int):(mN l).Perm l:=by grind[mN,BQ]
theorem So (o:Int) (h:1<=o/\o<=16): ¬ (aO 5 0 (5,o,0,0,())).2=0:=by
 have a:dT 5 o 0 0=true:=by unfold dT jK;grind
 show ¬ gS 5 o 0 0 5 0=0;unfold gS;rw[ao (by grind),ao (by grind),ao (by decide)]
 grind
theorem BR {o:Int} (c:1<=o/\o<=16): ∀(l:List Int) (ds:List DT),(∀f∈l,0<=f/\(ds[f.toNat]? =some (3,o,0,0,())\/ds[f.toNat]? =some (5,o,0,0,())))->
 (l.foldl (λds f=>dL ds f (aO 5 0)) ds).length=ds.length/\ ∀n:Nat,((n:Int)∈l->(l.foldl (λds f=>dL ds f (aO 5 0)) ds)[n]? =some (5,o,0,0,()))/\((n:Int)∉l->(l.foldl (λds f=>dL ds f (aO 5 0)) ds)[n]? =ds[n]?)
 |[],ds, _=>⟨rfl,by grind⟩
 |f::l,ds,h=>by
  obtain⟨i,a⟩:=h f Am;have r:f.toNat<ds.length:=by
   rcases a with h|h<;>exact(CD.1 h).1
  have j:(dL ds f (aO 5 0)).length=ds.length/\(dL ds f (aO 5 0))[f.toNat]? =some (5,o,0,0,())/\ ∀n:Nat,n≠f.toNat->(dL ds f (aO 5 0))[n]? =ds[n]? :=by
   rw[pJ ⟨i,by omega⟩,Ee];rcases a with a|a
   ·rw[a];show((if(aO 5 0 (3,o,0,0,())).2=0 then ds.set f.toNat (aO 5 0 (3,o,0,0,())).1 else ds).length= _)/\(if(aO 5 0 (3,o,0,0,())).2=0 then ds.set f.toNat (aO 5 0 (3,o,0,0,())).1 else ds)[f.toNat]? = _/\ ∀n:Nat,n≠f.toNat->(if(aO 5 0 (3,o,0,0,())).2=0 then ds.set f.toNat (aO 5 0 (3,o,0,0,())).1 else ds)[n]? = _;rw[EP c,av rfl]
    grind
   ·rw[a];show((if(aO 5 0 (5,o,0,0,())).2=0 then ds.set f.toNat (aO 5 0 (5,o,0,0,())).1 else ds).length= _)/\(if(aO 5 0 (5,o,0,0,())).2=0 then ds.set f.toNat (aO 5 0 (5,o,0,0,())).1 else ds)[f.toNat]? = _/\ ∀n:Nat,n≠f.toNat->(if(aO 5 0 (5,o,0,0,())).2=0 then ds.set f.toNat (aO 5 0 (5,o,0,0,())).1 else ds)[n]? = _;rw[ao (So o c)]
    grind
  rw[Gn];obtain⟨k,m,p⟩:=j;obtain⟨q,d⟩:=BR c l (dL ds f (aO 5 0)) (by grind);refine⟨q.trans k,λn=>⟨λb=>?_,λb=>?_⟩⟩
  ·by_cases g:(n:Int)∈l
   ·exact(d n).1 g
   ·rw[(d n).2 g];have:(n:Int)=f:=(Ek.1 b).resolve_right g;have e:n=f.toNat:=by omega
    rw[e];exact m
  ·rw[(d n).2 (λh=>b (Ap _ h)),p n (λe=>b (by
   have:(n:Int)=f:=by omega
   rw[this];exact Am))]
def KG (g:Gh) (o:Int):Gh:=λf=>match g f with
 |some v=>if v.1=o then none else some v
 |none=>none
theorem dh {g:Gh} {o f:Int} {v:Int×Nat×Int}:KG g o f=some v<->g f=some v/\v.1≠o:=by grind[KG]
namespace Inv
variable {g:Gh} {s:WD}
theorem Sp (I:Inv g s): ∀(l:Nat) {f o x:Int},g f=some (o,l,x)-> ∀z∈cU s.1 l f, ∃l' x' n,l'+n=l/\g z=some (o,l',x')/\upx n x'=x:=by
 intro l
 induction l with
 |zero=>
  intro f o x b z a;rw[cU,Gp] at a;subst a;exact⟨0,x,0,rfl,b,rfl⟩
 |succ l c=>
  intro f o x b z a;rw[m9] at a;rcases Ek.1 a with rfl|a
  ·exact⟨l+1,x,0,rfl,b,rfl⟩
  ·obtain⟨i,hi,m,p,d,e⟩:=JJ.1 a;have:m=l:=by omega
   subst this;obtain⟨h,h1,j⟩:=I.sW b (by omega) (by omega) d;have:h=m:=by omega
   subst this;obtain⟨l',x',n,q,k,r⟩:=c j z e;refine⟨l',x',n+1,by omega,k,?_⟩;show upx n x' / 16=x;omega
theorem ES (I:Inv g s) (c:Rt g) {r o:Int} (d:g r=some (o,3,0)): ∀(n:Nat) {l:Nat} {f x:Int},l+n=3->g f=some (o,l,x)-> ∀z∈cU s.1 l f,z∈cU s.1 3 r
 |0,l,f,x,h,a,z,b=>by
  have:l=3:=by omega
  subst this;have:=c _ _ _ a;subst this;rw[I.inj a d] at b
  grind
 |n+1,l,f,x,h,a,z,b=>by
  obtain⟨f',h1,i⟩:=I.FO a (by omega);obtain⟨j,k, _⟩:=I.vU a;refine I.ES c d n (by omega) h1 z ?_;refine Ap _ (JJ.2 ⟨(x % 16).toNat,by omega,l,rfl,?_⟩);have e:(x % 16).toNat=x % 16:=by omega
  rw[e,i];exact⟨dI ⟨j,k⟩,b⟩
theorem MN (I:Inv g s) (a:Rt g) {r o:Int} (b:g r=some (o,3,0)) (z:Int):z∈cU s.1 3 r<-> ∃l x,g z=some (o,l,x):=by
 constructor
 ·obtain:=I.Sp
  grind
 ·rintro⟨l,x,h⟩;have c:=(I.kd h).2.2.2.2.2;exact I.ES a b (3 - l) (by omega) h z (by rw[m9];simp)
theorem dropped (I:Inv g s) (t:Rt g) {r o:Int} (u:g r=some (o,3,0)):
 Inv (KG g o) (cH s r false)/\Rt (KG g o)/\(cH s r false).1=s.1/\(cH s r false).2.length=s.2.length/\
  ∀n:Nat,((∃l x,g (n:Int)=some (o,l,x))->(cH s r false).2[n]? =some (5,o,0,0,()))/\((¬ ∃l x,g (n:Int)=some (o,l,x))->(cH s r false).2[n]? =s.2[n]?):=by
 have w: ¬ (false=true):=by decide
 have D:cH s r false=(s.1,(mO s r false).foldl _ s.2):=ao w;have E:mO s r false=mN (cU s.1 3 r):=ao w;have p: ∀z,z∈mO s r false<-> ∃l x,g z=some (o,l,x):=λz=>by
  rw[E,(lJ _).mem_iff];exact I.MN t u z
 have y:=(I.kd u).2.2.2;obtain⟨t1,t2⟩:=BR ⟨y.1,y.2.1⟩ (mO s r false) s.2 (λf F=>by
  obtain⟨l,x,h⟩:=(p f).1 F;obtain⟨a1,G,A, _⟩:=I.kd h;exact⟨a1,.inl A⟩)
 rw[D];generalize Q:(mO s r false).foldl _ s.2=ds at t1 t2;have B:=λn h=>(t2 n).1 ((p _).2 h);have q: ∀n:Nat,(¬ ∃l x,g (n:Int)=some (o,l,x))->ds[n]? =s.2[n]? :=λn h=>(t2 n).2 (λH=>h ((p _).1 H));refine⟨?_,λf o' x h=>t f o' x (dh.1 h).1,rfl,t1,λn=>⟨B n,q n⟩⟩;refine⟨?_,?_,?_,?_,?_,?_,?_,?_,?_,?_⟩
 ·rw[t1];exact I.len
 ·show ds.length<=4096;rw[t1];exact I.le
 ·intro d J h0;obtain⟨n,i⟩:=B2 J;by_cases h: ∃l x,g (n:Int)=some (o,l,x)
  grind
  ·rw[q n h] at i;exact I.fz d (CF i) h0
 ·intro f o' l x h;obtain⟨h,j⟩:=dh.1 h;obtain⟨a1,G,A,R⟩:=I.kd h
  grind
 ·intro a b v K hb;exact I.inj (dh.1 K).1 (dh.1 hb).1
 ·intro f o' l x k h h0 h1 L;obtain⟨h,j⟩:=dh.1 h;obtain⟨m,M,N⟩:=I.sW h h0 h1 L;exact⟨m,M,dh.2 ⟨N,j⟩⟩
 ·intro f o' l x k h h0 h1;exact I.leaf (dh.1 h).1 h0 h1
 ·intro f o' l x h O;obtain⟨h,j⟩:=dh.1 h;obtain⟨f',p1,p2⟩:=I.FO h O;exact⟨f',dh.2 ⟨p1,j⟩,p2⟩
 ·intro f o' l x k h h0 h1 P;exact I.wf (dh.1 h).1 h0 h1 P
 ·intro n d i C;by_cases h: ∃l x,g (n:Int)=some (o,l,x)
  ·rw[B n h] at i;cases i;cases C
  ·rw[q n h] at i;obtain⟨v,hv⟩:=I.tb i C;refine⟨v,dh.2 ⟨hv,λe=>h ?_⟩⟩;obtain⟨a,b,c⟩:=v;have e:a=o:=e;subst e;exact⟨b,c,hv⟩
end Inv
set_option maxRecDepth 100000
open Go.RX D
theorem V9 {s:WD} {o r pg lv:Int} {e:ET} (h: ¬ mj s r pg lv=0):rU s o r pg lv e=s:=ao h
theorem JL {s:WD} {o r:Int} {gone:Bool} {pg f rt:Int} (h: ¬ lU s r gone pg f rt=0):jC s o r gone pg f rt=s:=by
 unfold lU at h;unfold jC;cases gone with
 |true=>rw[av rfl]
 |false=>
  have a: ¬ (false=true):=by decide
  rw[ao a] at h ⊢;by_cases c:mm pg f rt=0
  ·rw[av c] at h ⊢;exact V9 h
  ·rw[ao c]
theorem V_ {s:WD} {o r pg:Int} (h: ¬ mn s o r pg=0):ft s o r pg=s:=by
 unfold mn at h;unfold ft;by_cases c:(dD s.1 r pg).2.1=0
 ·rw[av c]
 ·rw[ao c] at h ⊢;rw[ao h,JH h]
theorem V' {s:WD} {o r:Int} {gone:Bool} {pg rt:Int} (h: ¬ Gt s o r gone pg rt=0):rV s o r gone pg rt=s:=by
 unfold Gt at h;unfold rV;cases gone with
 |true=>rw[av rfl]
 |false=>
  have a: ¬ (false=true):=by decide
  rw[ao a] at h ⊢;by_cases c:mm pg 0 rt=0
  ·rw[av c] at h ⊢;by_cases d:(db s.1 r pg).1=true
   ·rw[av d] at h ⊢;by_cases e:((db s.1 r pg).2.2.1&&(db s.1 r pg).2.1==rt)=true
    ·rw[av e]
    ·rw[ao e] at h ⊢;rw[ao h,V_ h]
   ·rw[ao d]
  ·rw[ao c]
namespace Inv
variable {g:Gh} {s:WD}
theorem aaj (I:Inv g s) {o:Int} (a:1<=o/\o<=16) (hc:0<cd s.2 0):rL s o=0:=by
 obtain⟨n, _, _, _,e, _⟩:=m_ hc I.fz a;exact e
end Inv
set_option maxRecDepth 100000
open Go.RX D
structure SM (Q:Sys) (D G:List Nat) (w0 w:A1) (s:WD) (L0:List (Nat×List AC)) (M:List (Nat×Be)):Prop where
 pos:0<s.1.length
 Gu:0<s.2.length
 le:s.2.length<=4096
 okw:okW s.1
 kn: ∃ca la,cB D G w0 w (Q.L ca la s L0) M
section
variable {Q:Sys} {D G:List Nat} {w0 w w1:A1} {s:WD} {L0 L1:List (Nat×List AC)} {M M1:List (Nat×Be)}
namespace SM
theorem ext (H:SM Q D G w0 w s L0 M) (h:Ext w w1):SM Q D G w0 w1 s L0 M:=by
 obtain⟨a,b,c,d,ca,la,k⟩:=H;exact⟨a,b,c,d,ca,la,k.ext h⟩
theorem base (H:SM Q D G w0 w s L0 M):bj Q D G w0 w s L0:=by
 obtain⟨a,b,c,d,ca,la,k⟩:=H;exact⟨a,b,c,d,ca,la,k.base⟩
theorem of (S:bj Q D G w0 w s L0):SM Q D G w0 w s L0 []:=by
 obtain⟨a,b,c,d,ca,la,k⟩:=S;exact⟨a,b,c,d,ca,la,cB.of k⟩
theorem call (H:SM Q D G w0 w s L0 M): ∃f,bj Q [] f w w s L0/\ ∀{e:A1} {s':WD} {L':List (Nat×List AC)},bj Q [] f w e s' L'->SM Q D G w0 e s' L' M:=by
 obtain⟨a,b,c,d,ca,la,k⟩:=H;refine⟨_,⟨a,b,c,d,ca,la,k.base.again⟩,λ{e s' L'} S=>?_⟩;obtain⟨a',g,h,d',i,j,l⟩:=S;exact⟨a',g,h,d',i,j,k.join l⟩
theorem perm (H:SM Q D G w0 w s L0 M) (h:L1.Perm L0):SM Q D G w0 w s L1 M:=by
 obtain⟨a,b,c,d,ca,la,k⟩:=H;exact⟨a,b,c,d,ca,la,k.perm ((((h.cons _).cons _).cons _).cons _)⟩
theorem sub (H:SM Q D G w0 w s L0 M) (h:L1.Sublist L0):SM Q D G w0 w s L1 M:=by
 obtain⟨a,b,c,d,ca,la,k⟩:=H;exact⟨a,b,c,d,ca,la,k.sub ((((h.cons_cons _).cons_cons _).cons_cons _).cons_cons _)⟩
theorem lq (H:SM Q D G w0 w s L0 M) (h:M1.Perm M):SM Q D G w0 w s L0 M1:=by
 obtain⟨a,b,c,d,ca,la,k⟩:=H;exact⟨a,b,c,d,ca,la,k.lq h⟩
theorem Gl (H:SM Q D G w0 w s L0 M) (h:M1.Sublist M):SM Q D G w0 w s L0 M1:=by
 obtain⟨a,b,c,d,ca,la,k⟩:=H;exact⟨a,b,c,d,ca,la,k.Gl h⟩
theorem get (H:SM Q D G w0 w s L0 M) {r:Nat} {o:Be} (h:(r,o)∈M):w.heap[r]? =some o:=by
 obtain⟨a,b,c,d,ca,la,k⟩:=H;exact(k.obj _ h).1
theorem put (H:SM Q D G w0 w s L0 M) {i r:Nat} {o:Be} (h:M[i]? =some (r,o)) {o':Be} (e:nP o'):SM Q D G w0 (w.putObj r o') s L0 (M.set i (r,o')):=by
 obtain⟨a,b,c,d,ca,la,k⟩:=H;exact⟨a,b,c,d,ca,la,k.put h e⟩
theorem alloc (H:SM Q D G w0 w s L0 M) {o:Be} (e:nP o):SM Q D G w0 (w.alloc o) s L0 ((w.heap.size,o)::M):=by
 obtain⟨a,b,c,d,ca,la,k⟩:=H;exact⟨a,b,c,d,ca,la,k.alloc e⟩
theorem go (H:SM Q D G w0 w s L0 M) {P:Program} {f:FuncId} {sh:Sh} {args:List AC} {K:sh.T->A1->Prop} (k: ∀w1,SM Q D G w0 w1 s L0 M->aE P f sh args w1 K):az P f sh args w K:=λ_ h=>k _ (H.ext h)
theorem en (H:SM Q D G w0 w s L0 M) {K:A1->Prop} (k: ∀w1,SM Q D G w0 w1 s L0 M->K w1):au w K:=λ_ h=>k _ (H.ext h)
end SM
end
abbrev TK:Type:=Int×Int×Int
def xJ (t:TK):AC×AC:=(aa t.1,.agg ⟨[aa t.2.1,aa t.2.2]⟩)
def qU (es:List B3) (ck:Nat) (tk:List TK):Prop:=
 (∃p:List TK,p.Perm tk/\es.map (λe=>(e.key,e.val))=p.map xJ)/\(es.map (·.born)).Nodup/\(∀e∈es,e.born<ck)/\(tk.map (·.1)).Nodup
theorem qU.nil:qU [] 0 []:=⟨⟨[],List.Perm.nil,rfl⟩,IG,λe a=>(by cases a),IG⟩
theorem qU.len {es:List B3} {ck:Nat} {tk:List TK} (h:qU es ck tk):es.length=tk.length:=by
 obtain⟨⟨p,h1,a⟩, _⟩:=h;have:=congrArg F7 a;rw[Az,Az] at this;rw[this,h1.length_eq]
theorem Sq {es:List B3} {p:List TK} (h:es.map (λe=>(e.key,e.val))=p.map xJ) (g:Int) (i0:Nat):
 Instr.findNow (.int .i64) (aa g) es i0=some (match p.findIdx? (λt=>t.1==g) with
  |some i=>some (i0+i,(xJ (p.getD i (0,0,0))).2)
  |none=>none):=by
 induction es generalizing p i0 with
 |nil=>
  cases p with
  |nil=>rfl
  |cons t p=>simp at h
 |cons e es d=>
  cases p with
  |nil=>simp at h
  |cons t p=>
   simp only[Gq,List.cons.injEq] at h;obtain⟨h1,f⟩:=h;have j:e.key=aa t.1:=congrArg (·.1) h1;have hv:e.val=(xJ t).2:=congrArg (·.2) h1;unfold Instr.findNow;rw[j];have k:Instr.sameNow (.int .i64) (aa g) (aa t.1)=some (g==t.1):=by
    show(if IntKind.i64=IntKind.i64 then some (g==t.1) else none)= _;rw[av rfl]
   rw[k,List.findIdx?_cons];by_cases a:t.1=g
   ·have b:(g==t.1)=true:=by simp[a]
    have c:(t.1==g)=true:=by simp[a]
    rw[b,av c];dsimp only;rw[hv];rfl
   ·have b:(g==t.1)=false:=by simp;exact λe=>a e.symm
    have c: ¬ (t.1==g)=true:=by simp[a]
    rw[b,ao c];dsimp only;rw[d f (i0+1)];cases p.findIdx? (λt=>t.1==g) with
    |none=>rfl
    |some i=>
     show some (some (i0+1+i, _))=some (some (i0+(i+1), _));rw[show i0+1+i=i0+(i+1) by omega];rfl
def cg (tk:List TK) (g:Int):Option (Int×Int):=(tk.find? λt=>t.1==g).map (·.2)
theorem jM {tk:List TK} {g a b:Int} (l:(tk.map (·.1)).Nodup):cg tk g=some (a,b)<->(g,a,b)∈tk:=by
 unfold cg;constructor
 ·intro h;obtain⟨t,h1,k⟩:=OC.1 h;have c:=IJ h1;have d:=IN h1;have:t.1=g:=by simpa using c
  obtain⟨t1,t2⟩:=t;simp only at this k;subst this;subst k;exact d
 ·intro h;cases e:tk.find? λt=>t.1==g with
  |none=>
   have:=Gr.1 e _ h;simp at this
  |some t=>
   have c:=IJ e;have d:=IN e;have m:t.1=g:=by simpa using c
   obtain⟨i,hi⟩:=B2 h;obtain⟨j,f⟩:=B2 d;have n:(tk.map (·.1))[i]? =some g:=by rw[Bx,hi];rfl
   have o:(tk.map (·.1))[j]? =some g:=by rw[Bx,f];exact congrArg some m
   have:=(FI (by rw[Az];exact(CD.1 hi).1) l).1 (n.trans o.symm);subst this;rw[hi] at f;cases f;rfl
theorem qz {tk:List TK} {g:Int}:cg tk g=none<-> ∀t∈tk,t.1≠g:=by
 unfold cg;rw[OG,Gr];simp
theorem qA {α β:Type} (f:α->β): ∀(l:List α) (i:Nat),(l.eraseIdx i).map f=(l.map f).eraseIdx i
 |[],i=>by simp
 |a::l,0=>rfl
 |a::l,i+1=>by
  simp only[List.eraseIdx_cons_succ,Gq];rw[qA f l i]
theorem qU.find {es:List B3} {ck:Nat} {tk:List TK} (h:qU es ck tk) (g:Int): ∃r,Instr.findNow (.int .i64) (aa g) es 0=some r/\
 match cg tk g with
 |some x=> ∃i,r=some (i,.agg ⟨[aa x.1,aa x.2]⟩)/\i<es.length/\qU (es.eraseIdx i) ck (tk.filter λt=> !(t.1==g))
 |none=>r=none:=by
 obtain⟨⟨p,h1,f⟩,s,u,j⟩:=h;refine⟨_,Sq f g 0,?_⟩;have v:(p.map (·.1)).Nodup:=(h1.map _).nodup_iff.2 j;cases k:p.findIdx? (λt=>t.1==g) with
 |none=>
  have:cg tk g=none:=qz.2 λt d=>by
   have:=List.findIdx?_eq_none_iff.1 k t (h1.mem_iff.2 d);simpa using this
  rw[this]
 |some i=>
  rw[IQ] at k;obtain⟨hi,b, _⟩:=k;have l:p[i]? =some p[i]:=Cf hi;have m:p.getD i (0,0,0)=p[i]:=by rw[Ee,l];rfl
  obtain⟨t,d⟩: ∃t,t=p[i]:=⟨_,rfl⟩;rw[<-d] at l m b;have b:t.1=g:=by simpa using b
  have w:(g,t.2.1,t.2.2)∈tk:=by
   have:=h1.mem_iff.1 (CF l);obtain⟨t1,t2,t3⟩:=t;simp only at b;subst b;exact this
  rw[(jM j).2 w];have B:es.length=p.length:=by
   have:=congrArg F7 f;simpa using this
  refine⟨i,by dsimp only;rw[m,Nat.zero_add];rfl,by omega,⟨p.eraseIdx i,?_,?_⟩,?_,?_,?_⟩
  ·have y:p.eraseIdx i=p.filter λt=> !(t.1==g):=by
    have n:p=p.take i++t::p.drop (i+1):=by
     conv=>lhs;rw[<-Gz i p]
     rw[IR hi, <-d]
    have o: ∀x∈p.take i++p.drop (i+1),x.1≠g:=by
     intro x c e;have q:=v;rw[n,DB,Gq] at q;have z:=(B1 (a:=t.1) (l₁:=(p.take i).map (·.1)) (l₂:=(p.drop (i+1)).map (·.1))).nodup_iff.1 q;have:=(In.1 z).1;refine this ?_;rw[b, <-e, <-DB];exact Ar.2 ⟨x,c,rfl⟩
    rw[J3]
    conv=>rhs;rw[n]
    rw[List.filter_append,K1 (by simp[b])];rw[FK.2 (λx c=>by have:=o x (CB _ c);simpa using this),FK.2 (λx c=>by have:=o x (AY _ c);simpa using this)]
   rw[y];exact h1.filter _
  ·rw[qA,f,qA]
  ·rw[qA];exact s.sublist (List.eraseIdx_sublist _ _)
  ·exact λe A=>u e (List.mem_of_mem_eraseIdx A)
  ·exact j.sublist ((KA).map _)
theorem qU.push {es:List B3} {ck:Nat} {tk:List TK} (h:qU es ck tk) {t:TK} (g:cg tk t.1=none) {b:List TK} (c:b.Perm (t::tk)):qU (es++[{key:=(xJ t).1,val:=(xJ t).2,born:=ck}]) (ck+1) b:=by
 obtain⟨⟨p,h1,i⟩,j,d,k⟩:=h;refine⟨⟨p++[t],?_,?_⟩,?_,?_,?_⟩
 ·exact(List.perm_append_singleton _ _).trans ((h1.cons _).trans c.symm)
 ·rw[DB,i,DB];rfl
 ·rw[DB];refine FS.2 ⟨j,by simp,λx a y f e=>?_⟩;obtain⟨e',he,rfl⟩:=Ar.1 a;have f:y=ck:=by simpa using f
  have:=d e' he;omega
 ·intro e he;rcases DL.1 he with he|he
  ·have:=d e he;omega
  ·have:e={key:=(xJ t).1,val:=(xJ t).2,born:=ck}:=by simpa using he
   subst this;exact Nat.lt_succ_self _
 ·refine(c.map _).nodup_iff.2 (In.2 ⟨λl=>?_,k⟩);obtain⟨x,a,e⟩:=Ar.1 l;exact qz.1 g x a e
set_option maxRecDepth 100000
open Go.RX D
structure GV where
 root:Int
 tk:List TK
structure HS where
 s:WD
 g:Nat->Option GV
 gr:List GT
 po:List Po.PT
structure HX where
 hb:Nat
 gb:Nat
 u5:Nat
 pb:Nat
 c:Nat
 rest:List AC
structure GA where
 bg:Nat
 bt:Nat
 bm:Nat
 ck:Nat
 es:List B3
def kO (A:Nat->GA) (g:Nat->Option GV) (i:Nat):Option AM:=match g i with
 |some _=>some ⟨(A i).bg,0,none⟩
 |none=>none
def mB (A:Nat->GA) (g:Nat->Option GV):List AC:=(AL 17).map λi=>ag (kO A g i)
abbrev fh (Q:Sys) (X:HX) (A:Nat->GA) (g:Nat->Option GV):List AC:=[ag (af Q.bm),ag (af Q.bp),ag (af X.gb),ag (af X.pb)]++mB A g
def gT (Q:Sys) (A:Nat->GA) (i:Nat) (v:GV):List (Nat×List AC):=[((A i).bg,[ag (some ⟨(A i).bt,0,none⟩),.map (some (A i).bm)]),((A i).bt,oY Q i v.root false)]
def bh (Q:Sys) (A:Nat->GA) (g:Nat->Option GV) (l:List Nat):List (Nat×List AC):=l.flatMap λi=>match g i with
 |some v=>gT Q A i v
 |none=>[]
def dm (A:Nat->GA) (g:Nat->Option GV) (l:List Nat):List (Nat×Be):=l.flatMap λi=>match g i with
 |some _=>[((A i).bm,Obj.map ⟨(A i).es⟩ (A i).ck)]
 |none=>[]
abbrev dZ (Q:Sys) (X:HX) (A:Nat->GA) (h:HS) (L:List (Nat×List AC)):List (Nat×List AC):=
 (X.hb,fh Q X A h.g)::(X.gb,mG X.u5 h.gr.length X.c)::(X.u5,flat eG h.gr++X.rest)::(X.pb,Po.gE 4 h.po)::L
structure DN (A:Nat->GA) (h:HS):Prop where
 jo: ∀{i v},h.g i=some v->1<=i/\i<=16
 mp: ∀{i v},h.g i=some v->qU (A i).es (A i).ck v.tk
 gl:h.gr.length=16
 pt:Po.lM 4 h.po
 gk:oh h.gr
def jq (Q:Sys) (X:HX) (D G:List Nat) (w0 w:A1) (h:HS) (L:List (Nat×List AC)):Prop:=
 ∃A,DN A h/\SM Q D G w0 w h.s (dZ Q X A h (bh Q A h.g (AL 17)++L)) (dm A h.g (AL 17))
theorem BS {Q:Sys} {A:Nat->GA} {g:Nat->Option GV} {l:List Nat} {i:Nat} {v:GV} (hi:i∈l) (hv:g i=some v): ∀x∈gT Q A i v,x∈bh Q A g l:=λx a=>by
 unfold bh;exact Gj.2 ⟨i,hi,by rw[hv];exact a⟩
theorem MO {A:Nat->GA} {g:Nat->Option GV} {l:List Nat} {i:Nat} {v:GV} (hi:i∈l) (hv:g i=some v):((A i).bm,Obj.map ⟨(A i).es⟩ (A i).ck)∈dm A g l:=by
 unfold dm;exact Gj.2 ⟨i,hi,by rw[hv];exact Gp.2 rfl⟩
theorem vE {A:Nat->GA} {g:Nat->Option GV} {i:Nat} (hi:i<17):(mB A g)[i]? =some (ag (kO A g i)):=by
 unfold mB;rw[Bx,List.getElem?_range hi];rfl
def aV (g:Nat->Option GV) (v:Int):Bool:=decide (v>=1)&&decide (v<=16)&&(g v.toNat).isSome
def a9 (g:Nat->Option GV) (v:Int):Int:=if aV g v=true then(match g v.toNat with|some x=>x.root|none=> -1) else -1
def gw (g:Nat->Option GV) (v p:Int):Int×Bool×Unit:=if aV g v=true then(match g v.toNat with
 |some x=>(match cg x.tk p with|some y=>(y.1,true,())|none=>(0,false,()))
 |none=>(0,false,())) else(0,false,())
def de (g:Nat->Option GV) (v a:Int):Int:=if a<1\/a>16\/a=v then 1 else if aV g a=true then 0 else 4
theorem b_ {g:Nat->Option GV} {v:Int}:aV g v=true<->(1<=v/\v<=16)/\ ∃x,g v.toNat=some x:=by
 unfold aV;simp only[F5,decide_eq_true_eq,Option.isSome_iff_exists]
section
variable {Q:Sys} {X:HX} {D G:List Nat} {w0 w:A1} {s:WD} {L0:List (Nat×List AC)} {M:List (Nat×Be)} {A:Nat->GA} {g:Nat->Option GV}
theorem bj.pA (S:bj Q D G w0 w s L0) (a:(X.hb,fh Q X A g)∈L0) {v:Int} (hv:0<=v/\v<=16):cC w (ad (ad (af X.hb) 4) (v.toNat*1)) (.one .ptr) (kO A g v.toNat):=by
 obtain⟨j,b⟩:=B2 a;rw[aW,aW];refine dW (S.get b) ?_;show(match (fh Q X A g)[0+4+v.toNat*1]? with|some v=>Sc.ptr.proj v|none=>none)= _;have:(fh Q X A g)[0+4+v.toNat*1]? =some (ag (kO A g v.toNat)):=by
  show([ag (af Q.bm),ag (af Q.bp),ag (af X.gb),ag (af X.pb)]++mB A g)[0+4+v.toNat*1]? = _;rw[FU (by simp),DM,DM,DM,DM,KF];rw[show 0+4+v.toNat*1 - (0+1+1+1+1)=v.toNat by omega];exact vE (by omega)
 rw[this];rfl
theorem bj.fT (S:bj Q D G w0 w s L0) (a:(X.hb,fh Q X A g)∈L0) {n:Nat} {x:Option AM} (h:[(some ⟨Q.bm,0,none⟩:Option AM),some ⟨Q.bp,0,none⟩,some ⟨X.gb,0,none⟩,some ⟨X.pb,0,none⟩][n]? =some x):cC w (ad (af X.hb) n) (.one .ptr) x:=by
 obtain⟨j,b⟩:=B2 a;rw[aW];refine dW (S.get b) ?_;rcases n with _| _| _| _|n
 ·cases h;rfl
 ·cases h;rfl
 ·cases h;rfl
 ·cases h;rfl
 ·simp at h
theorem m5 (S:bj Q D G w0 w s L0) (a:(X.hb,fh Q X A g)∈L0):ae A2 53 [ag (af X.hb)] w (.bool true):=by
 refine ae.of (s:= .el (.one .bool)) λw' h'=>ai (C:=V0) (aR:=λ_=>[]) (AP (Mq _ w' _) ?_);exact⟨λ_=>rfl,λ_=>rfl,aj.of _ ((S.ext h').fT a (n:=0) rfl) λw1 h1=>⟨rfl,h1⟩⟩
theorem nT (S:bj Q D G w0 w s L0) (a:(X.hb,fh Q X A g)∈L0) (v:Int):ae A2 19 [ag (af X.hb),aa v] w (.bool (aV g v)):=by
 refine ae.of (s:= .el (.one .bool)) λw' h'=>ai (C:=V0) (aR:=λ_=>[]) (AP (Sb _ v w' _) ?_);have S:=S.ext h';refine⟨_,m5 S a,λ_=>rfl,λ_=>rfl,λc=>?_,?_⟩
 ·simp only[F5,decide_eq_true_eq] at c;exact⟨rfl,by omega,by show v<((17:Nat):Int);omega⟩
 ·unfold aV;by_cases hv:v>=1/\v<=16
  ·refine aj.of _ (S.pA a ⟨by omega,hv.2⟩) λw1 h1=>⟨?_,h1⟩;unfold kO;cases g v.toNat<;>simp
  ·have c:(true&&decide (v>=1)&&decide (v<=16))=false:=by
    rw[I1,Gd,decide_eq_false_iff_not,decide_eq_false_iff_not];omega
   rw[c];refine⟨none,λh=>(by cases h),λw1 h1=>⟨?_,h1⟩⟩;rw[Gd] at c;rw[c];rfl
theorem bM {a:Int} (h:0<=a/\a<9223372036854775808):aD .i64 a=a:=gz (by omega) h.2
theorem EU (S:bj Q D G w0 w s L0) (b:(X.hb,fh Q X A g)∈L0) {a:Int} (d:0<=a):ae A2 165 [ag (af X.hb),ay a] w (.bool (aV g a)):=by
 refine ae.of (s:= .el (.one .bool)) λw' h'=>ai (C:=V0) (aR:=λ_=>[]) (AP (Ms _ a w' _) ?_);have S:=S.ext h';refine⟨aV g a,λc=>?_,λw1 h1=>⟨?_,h1⟩⟩
 ·have c:a<=16:=by simpa using c
  rw[bM ⟨d,by omega⟩];exact nT S b a
 ·by_cases c:a<=16
  ·rw[decide_eq_true c];rfl
  ·rw[decide_eq_false c];unfold aV;rw[decide_eq_false c];simp
theorem zw (S:bj Q D G w0 w s L0) (d:(X.hb,fh Q X A g)∈L0) (v:Int) {a:Int} (b:0<=a):ae A2 179 [ag (af X.hb),aa v,ay a] w (aa (de g v a)):=by
 refine ae.of (s:= .el (.one (.int .i64))) λw' h'=>ai (C:=V0) (aR:=λ_=>[]) (AP (Mw _ v a w' _) ?_);have S:=S.ext h';unfold de;by_cases c:a<1\/a>16\/a=v
 ·rw[av c];refine aA ?_ λw1 h1=>⟨rfl,h1⟩;simp only[N4,decide_eq_true_eq,beq_iff_eq];rcases c with c|c|c
  ·exact .inl (.inl c)
  ·exact .inl (.inr c)
  ·by_cases c2:a>16
   ·exact .inl (.inr c2)
   ·exact .inr (by rw[bM ⟨b,by omega⟩];exact c)
 ·rw[ao c];refine an ?_ ⟨_,EU S d b,?_⟩
  ·rw[bM ⟨b,by omega⟩];simp only[E5,decide_eq_false_iff_not,beq_eq_false_iff_ne];omega
  ·cases aV g a with
   |true=>exact an rfl λw1 h1=>⟨rfl,h1⟩
   |false=>exact aA rfl λw1 h1=>⟨rfl,h1⟩
theorem JM (S:bj Q D G w0 w s L0) (b:(X.hb,fh Q X A g)∈L0) (c: ∀i v,g i=some v-> ∀x∈gT Q A i v,x∈L0) (v:Int):ae A2 21 [ag (af X.hb),aa v] w (aa (a9 g v)):=by
 refine ae.of (s:= .el (.one (.int .i64))) λw' h'=>ai (C:=V0) (aR:=λ_=>[]) (AP (Se _ v w' _) ?_);have S:=S.ext h';refine⟨_,nT S b v,?_⟩;unfold a9;cases d:aV g v with
 |false=>exact aA rfl λw1 h1=>⟨rfl,h1⟩
 |true=>
  obtain⟨hv,x,a⟩:=b_.1 d;have hc:=S.pA b (v:=v) ⟨by omega,hv.2⟩;have e:kO A g v.toNat=some ⟨(A v.toNat).bg,0,none⟩:=by unfold kO;rw[a]
  rw[e] at hc;obtain⟨j1,f⟩:=B2 (c _ _ a _ Am);obtain⟨h,j⟩:=B2 (c _ _ a _ (Ap _ Am));refine an rfl ⟨rfl,rfl,⟨rfl,by omega,by show v<((17:Nat):Int);omega⟩,aj.of _ hc ⟨rfl,rfl,S.cx j1 f rfl ⟨_,S.root h j,λw1 h1=>⟨?_,h1⟩⟩⟩⟩;rw[a,av rfl];rfl
theorem pR (H:SM Q D G w0 w s L0 M) (d:(X.hb,fh Q X A g)∈L0) (k: ∀i v,g i=some v-> ∀x∈gT Q A i v,x∈L0) (l: ∀i v,g i=some v->((A i).bm,Obj.map ⟨(A i).es⟩ (A i).ck)∈M) (m: ∀i v,g i=some v->qU (A i).es (A i).ck v.tk) (v p:Int):
 ae A2 174 [ag (af X.hb),aa v,aa p] w ((Sh.bu [.one (.int .i64),.one .bool]).gO (gw g v p)):=by
 refine ae.of (s:= .bu [.one (.int .i64),.one .bool]) λw' h'=>ai (C:=V0) (aR:=λ_=>[]) (AP (Mv _ v p w' _) ?_);have H:=H.ext h';have S:=H.base;refine⟨_,nT S d v,?_⟩;unfold gw;cases n:aV g v with
 |false=>exact aA rfl λw1 h1=>⟨rfl,h1⟩
 |true=>
  obtain⟨hv,x,a⟩:=b_.1 n;have hc:=S.pA d (v:=v) ⟨by omega,hv.2⟩;have o:kO A g v.toNat=some ⟨(A v.toNat).bg,0,none⟩:=by unfold kO;rw[a]
  rw[o] at hc;obtain⟨j1,q⟩:=B2 (k _ _ a _ Am);obtain⟨r,f,c⟩:=(m _ _ a).find p;have h:bF w' (A v.toNat).bm ⟨(A v.toNat).es⟩ (A v.toNat).ck:=H.get (l _ _ a);refine an rfl ⟨rfl,rfl,⟨rfl,by omega,by show v<((17:Nat):Int);omega⟩,aj.of _ hc ⟨rfl,rfl,S.cx j1 q rfl ?_⟩⟩;rw[a,av rfl];dsimp only;have at0:Ext w' w':=Ext.refl _;have H0:=At.start [] w';cases j:cg x.tk p with
  |none=>
   rw[j] at c;refine⟨(0,0,()),false,⟨_, _, _,rfl,h,?_⟩,aN.go H0 λb t H0=>aC.all 0 H0 rfl rfl rfl λu H0=>⟨rfl,aj.cw 0 H0 rfl rfl (au.go H0 λz H0=>⟨rfl,H0.all⟩)⟩⟩;rw[f,c];exact⟨rfl,rfl⟩
  |some y=>
   rw[j] at c;obtain⟨i,e, _⟩:=c;refine⟨(y.1,y.2,()),true,⟨_, _, _,rfl,h,?_⟩,aN.go H0 λb t H0=>aC.all 0 H0 rfl rfl rfl λu H0=>⟨rfl,aj.cw 0 H0 rfl rfl (au.go H0 λz H0=>⟨rfl,H0.all⟩)⟩⟩;rw[f,e];exact⟨rfl,rfl⟩
end
section
variable {G:List Nat} {w0 w:A1}
theorem Sr {bm bw n c:Nat} {ca la:Int} {ws:List Int} {rest:List AC} {L0:List (Nat×List AC)} (H:At G w0 w ((bm,lZ bw n c ca la)::(bw,flat eW ws++rest)::L0)) (B:n=ws.length) (h0:0<n) (D:okW ws) (f p t:Int) {K:FT->A1->Prop}
 (k: ∀d w1,At G w0 w1 ((bm,lZ bw n c d la)::(bw,flat eW ws++rest)::L0)->K (nr ws f p t) w1):
 az A2 223 (.el (.agg sF)) [ag (af bm),aa f,aa p,aa t] w K:=by
 refine az.go H λw1 H=>aQ (C:=M1) (aR:=wN) (AP (Vo _ f p t w1 K) ?_);refine aN.go H λb S H=>Ju H f p t (λhb E H=>?_) λhb bk E H=>?_
 ·have e:nr ws f p t=(0,0,0,1,()):=av hb;rw[e] at k;exact aA rfl (aC.all 0 H rfl rfl rfl λr H=>au.go H λv H=>aj.at 0 H rfl rfl (k ca v (H.sub (B4 _ _))))
 have e:nr ws f p t=(lN ws f p t 4).2.2:=ao (by rw[hb];decide);rw[e] at k;refine an rfl ⟨λq _ w'=> ∃(i:Nat) (Ls:List (Nat×List AC)) (s:Option AM×Nat×Nat) (xs:List Int) (d:Int),q+i=4/\i<=3/\(lN ws f p t i).2.1≠ -1/\xs.length=i/\Co Ls s xs/\
  At G w0 w' ((bk,lS (lN ws f p t i).1 p t (lN ws f p t i).2.1 (lN ws f p t i).2.2 s)::(bm,lZ bw n c d la)::(bw,flat eW ws++rest)::(Ls++((b,[aa 0,aa 0,aa 0,aa 0])::L0))),⟨4,λr F=>⟨0,[],(none,0,0),[],ca,rfl,by decide,(show(3:Int)≠ -1 by decide),rfl,.inl ⟨rfl,rfl,rfl⟩,(H.ext F).perm ?_⟩⟩,?_⟩
 ·exact .cons _ (DZ (l₁:=[(bm,lZ bw n c ca la),(bw,flat eW ws++rest)]) (l₂:=[(b,[aa 0,aa 0,aa 0,aa 0])]) |>.append_right L0)
 clear H;rintro q u r ⟨i,Ls,s,xs,d,T,U,I,J,L,H⟩;dsimp only;refine EE H L (by omega) B h0 D I λv h s' M H=>?_;have es:bA ws p t ((lN ws f p t i).1,(lN ws f p t i).2.1,(lN ws f p t i).2.2)=lN ws f p t (i+1):=rfl;rw[es] at H ⊢;by_cases g:(lN ws f p t (i+1)).2.1= -1
 ·have N:lN ws f p t 4=lN ws f p t (i+1):=by
   have:=x_ g (4 - (i+1));rw[show i+1+(4 - (i+1))=4 by omega] at this;exact this
  rw[N] at k;generalize lN ws f p t (i+1)=y at H g k;obtain⟨z,A,⟨j,l,m,o,V⟩⟩:=y;refine an (by rw[g];rfl) ⟨rfl,rfl,aj.cw (x:=(j,l,m,o,())) 0 H rfl rfl ?_⟩;have H:=H.perm (L':=(b,[aa 0,aa 0,aa 0,aa 0])::((bk,lS z p t A (j,l,m,o,()) s')::(bm,lZ bw n c (xx ws (dV (lN ws f p t i).1 p (lN ws f p t i).2.1) d) la)::(bw,flat eW ws++rest)::(h++L0))) (by
   refine(B1 (l₁:=[(bk,lS z p t A (j,l,m,o,()) s'),(bm,lZ bw n c (xx ws (dV (lN ws f p t i).1 p (lN ws f p t i).2.1) d) la),(bw,flat eW ws++rest)]++h) (a:=(b,[aa 0,aa 0,aa 0,aa 0])) (l₂:=L0)).symm)
  refine aC.all 0 H rfl rfl rfl λO H=>au.go H λP H=>aj.at 0 H rfl rfl (k (xx ws (dV (lN ws f p t i).1 p (lN ws f p t i).2.1) d) P ?_);have H:=(H.sub (B4 _ _)).sub (B4 _ _);exact H.sub (.cons_cons _ (.cons_cons _ (FX _ _)))
 ·have Q:=(XJ ws f p t (i+1)).resolve_left g;refine aA (by simp[g]) λO R=>⟨q - 1,by omega,i+1,h,s',xs++[(lN ws f p t i).1], _,by omega,Q.2,g,by rw[FY,J];rfl,M,H.ext R⟩
theorem MP {bm bw n c:Nat} {ca la:Int} {ws:List Int} {rest:List AC} {L:List (Nat×List AC)} (H:At G w0 w L) (j b:Nat) (d:L[j]? =some (bm,lZ bw n c ca la)) (e:L[b]? =some (bw,flat eW ws++rest)) (g:j≠b) (h:n=ws.length) (h0:0<n) (i:okW ws) (f p t:Int) {K:FT->A1->Prop}
 (k: ∀a w1,At G w0 w1 (L.set j (bm,lZ bw n c a la))->K (nr ws f p t) w1):
 az A2 223 (.el (.agg sF)) [ag (af bm),aa f,aa p,aa t] w K:=by
 obtain⟨o,l,m⟩:=Z5 d e g;exact Sr (H.perm l.symm) h h0 i f p t λa w1 H=>k a w1 (H.perm (m _))
end
section
variable {D G:List Nat} {w0 w w':A1} {L:List (Nat×List AC)}
end
section
variable {Q:Sys} {D G:List Nat} {w0 w:A1} {s:WD} {L0:List (Nat×List AC)}
namespace bj
theorem abS (S:bj Q D G w0 w s L0) {K:Option AM->A1->Prop}
 (k: ∀a b d e c,bj Q D G w0 c s ((a,[.slice (af b) s.2.length d])::(b,flat eD s.2++e)::L0)->K (af a) c):
 az A2 54 (.el (.one .ptr)) [ag (af Q.bp)] w K:=by
 refine S.go λw1 S=>?_;obtain⟨h1,f,g,h,ca,la,H⟩:=S;refine VL H (H.get (i:=3) rfl) (H.get (i:=2) rfl) rfl f g λa b d e c H=>k a b d e c ⟨h1,f,g,h,ca,la,H.perm ?_⟩;exact DZ (l₁:=[_, _, _, _]) (l₂:=[(a, _),(b, _)]) |>.append_right L0
theorem ofq (S:bj Q D G w0 w s L0) (f:Int):ae A2 25 [ag (af Q.bp),aa f] w ((Sh.bu [eD,.one .bool]).gO (oV s.2 f,xR s.2 f,())):=by
 obtain⟨h1,a,b,c,ca,la,H⟩:=S;exact acD H 3 2 rfl rfl rfl f
theorem Gx (S:bj Q D G w0 w s L0) (f:Int) {K:Int->A1->Prop} (k: ∀a,bj Q D G w0 a (s.1,dL s.2 f (aO 0 0)) L0->K (vT s.2 f (aO 0 0)) a):
 az A2 79 (.el (.one (.int .i64))) [ag (af Q.bp),aa f] w K:=by
 obtain⟨h1,b,c,d,ca,la,H⟩:=S;refine VX H 3 2 rfl rfl (by decide) rfl b c f λa H=>k a ⟨h1,?_,?_,d,ca,la,?_⟩
 ·show 0<(dL s.2 f (aO 0 0)).length;rw[ji];exact b
 ·show(dL s.2 f (aO 0 0)).length<=4096;rw[ji];exact c
 ·unfold Sys.L;show aM D G w0 a (_:: _:: _::(Q.bp,[.slice _ (dL s.2 f (aO 0 0)).length _]):: _);rw[ji];exact H
theorem aaU (S:bj Q D G w0 w s L0) (f x:Int) (d: -9223372036854775808<=x/\x<9223372036854775808) {K:Int->A1->Prop} (k: ∀a,bj Q D G w0 a (s.1,dL s.2 f (ia x)) L0->K (vT s.2 f (ia x)) a):
 az A2 183 (.el (.one (.int .i64))) [ag (af Q.bp),aa f,aa x] w K:=by
 obtain⟨h1,b,c,e,ca,la,H⟩:=S;refine VW H 3 2 rfl rfl (by decide) rfl b c f x d λa H=>k a ⟨h1,?_,?_,e,ca,la,?_⟩
 ·show 0<(dL s.2 f (ia x)).length;rw[ji];exact b
 ·show(dL s.2 f (ia x)).length<=4096;rw[ji];exact c
 ·unfold Sys.L;show aM D G w0 a (_:: _:: _::(Q.bp,[.slice _ (dL s.2 f (ia x)).length _]):: _);rw[ji];exact H
theorem owned (S:bj Q D G w0 w s L0) (v:Int) {K:Option AM×Nat×Nat->A1->Prop} (k: ∀r rows a,bj Q D G w0 a s (L0++rows)->oq eI rows r ((gf s.2 v).map λi=>((i:Nat):Int))->K r a):
 az A2 166 (.el (.one .slice)) [ag (af Q.bp),aa v] w K:=by
 obtain⟨h1,c,b,d,ca,la,H⟩:=S;exact R9 H 3 2 rfl rfl rfl b v λr rows a H e=>k r rows a ⟨h1,c,b,d,ca,la,H⟩ e
theorem walk (S:bj Q [] G w0 w s L0) (f p t:Int) {K:FT->A1->Prop} (k: ∀w1,bj Q [] G w0 w1 s L0->K (nr s.1 f p t) w1):
 az A2 223 (.el (.agg sF)) [ag (af Q.bm),aa f,aa p,aa t] w K:=by
 obtain⟨h1,b,c,a,ca,la,H⟩:=S;exact MP H 0 1 rfl rfl (by decide) rfl h1 a f p t λd w1 H=>k w1 ⟨h1,b,c,a,d,la,H⟩
end bj
end
set_option maxRecDepth 100000
open Go.RX D
def fv (g:Nat->Option GV) (s:WD) (v p:Int):Int×Int×Int×Unit:=if aV g v=true then(match g v.toNat with
 |some x=>bz s x.root false p
 |none=>(0,0,4,())) else(0,0,4,())
def jy (s:WD) (f:Int):Int:=if xR s.2 f=false then 2 else if(oV s.2 f).1≠5 then 6 else vT s.2 f (aO 0 0)
def im (s:WD) (f:Int):WD:=if xR s.2 f=true/\(oV s.2 f).1=5 then(s.1,dL s.2 f (aO 0 0)) else s
section
variable {Q:Sys} {X:HX} {D G:List Nat} {w0 w:A1} {s:WD} {L0:List (Nat×List AC)} {M:List (Nat×Be)} {A:Nat->GA} {g:Nat->Option GV}
theorem qB (S:bj Q D G w0 w s L0) (c:(X.hb,fh Q X A g)∈L0) (e: ∀i v,g i=some v-> ∀x∈gT Q A i v,x∈L0) (v p:Int) {K:Int×Int×Int×Unit->A1->Prop} (k: ∀a,bj Q D G w0 a s L0->K (fv g s v p) a):
 az A2 81 (.bu [.one (.int .i64),.one (.int .i64),.one (.int .i64)]) [ag (af X.hb),aa v,aa p] w K:=by
 refine S.go λw1 S=>ai (C:=V0) (aR:=λ_=>[]) (AP (Mt _ v p w1 K) ?_);refine⟨_,m5 S c,an rfl ⟨_,nT S c v,?_⟩⟩;unfold fv at k;cases d:aV g v with
 |false=>
  rw[d,ao (by decide)] at k;exact aA rfl (S.en λa S=>k a S)
 |true=>
  obtain⟨hv,x,b⟩:=b_.1 d;rw[d,av rfl,b] at k;have hc:=S.pA c (v:=v) ⟨by omega,hv.2⟩;have f:kO A g v.toNat=some ⟨(A v.toNat).bg,0,none⟩:=by unfold kO;rw[b]
  rw[f] at hc;obtain⟨j1,h⟩:=B2 (e _ _ b _ Am);obtain⟨j,l⟩:=B2 (e _ _ b _ (Ap _ Am));refine an rfl ⟨rfl,rfl,⟨rfl,by omega,by show v<((17:Nat):Int);omega⟩,aj.of _ hc ⟨rfl,rfl,S.cx j1 h rfl (S.query j l p λa S=>S.en λm S=>k m S)⟩⟩
theorem EV (S:bj Q D G w0 w s L0) (j:(X.hb,fh Q X A g)∈L0) (f:Int) {K:Int->A1->Prop} (k: ∀l,bj Q D G w0 l (im s f) L0->K (jy s f) l):
 az A2 43 (.el (.one (.int .i64))) [ag (af X.hb),aa f] w K:=by
 refine S.go λw1 S=>ai (C:=V0) (aR:=λ_=>[]) (AP (Sf _ f w1 K) ?_);refine⟨_,m5 S j,an rfl ⟨rfl,rfl,aj.of _ (S.fT j (n:=1) rfl) ⟨(oV s.2 f,xR s.2 f,()),S.ofq f,S.al λb l S=>S.fm 0 rfl rfl rfl λq S=>?_⟩⟩⟩;have o: ∀x:Nat×List AC,(X.hb,fh Q X A g)∈x::L0:=λx=>Ap _ j;cases e:xR s.2 f with
 |false=>
  have c:im s f=s:=ao (λh=>by rw[e] at h;cases h.1);have d:jy s f=2:=av e;rw[c,d] at k;exact aA rfl (S.en λi S=>k i S.tail)
 |true=>
  have m: ¬ xR s.2 f=false:=by rw[e];decide
  refine an rfl ⟨rfl,S.cx 0 rfl rfl ?_⟩;by_cases a:(oV s.2 f).1=5
  ·have c:im s f=(s.1,dL s.2 f (aO 0 0)):=av ⟨e,a⟩;have d:jy s f=vT s.2 f (aO 0 0):=by
    unfold jy;rw[ao m,ao (λh=>h a)]
   rw[c,d] at k;exact an (by simpa using a) ⟨rfl,rfl,aj.of _ (S.fT (o _) (n:=1) rfl) (S.Gx f λi S=>S.en λp S=>k p S.tail)⟩
  ·have c:im s f=s:=ao (λh=>a h.2);have d:jy s f=6:=by
    unfold jy;rw[ao m,av a]
   rw[c,d] at k;exact aA (by simpa using a) (S.en λi S=>k i S.tail)
theorem z5 (S:bj Q D G w0 w s L0) (f:(X.hb,fh Q X A g)∈L0) {K:Option AM->A1->Prop} (k: ∀h i j l e,bj Q D G w0 e s ((h,[.slice (af i) s.2.length j])::(i,flat eD s.2++l)::L0)->K (af h) e):
 az A2 18 (.el (.one .ptr)) [ag (af X.hb)] w K:=by
 refine S.go λw1 S=>ai (C:=V0) (aR:=λ_=>[]) (AP (HY _ w1 K) ?_);exact⟨_,m5 S f,an rfl ⟨rfl,rfl,aj.of _ (S.fT f (n:=1) rfl) (S.abS λa b c d e S=>S.en λm S=>k a b c d m S)⟩⟩
theorem z6 (S:bj Q D G w0 w s L0) (a:(X.hb,fh Q X A g)∈L0) {K:Option AM->A1->Prop} (k: ∀b,bj Q D G w0 b s L0->K (af Q.bm) b):
 az A2 23 (.el (.one .ptr)) [ag (af X.hb)] w K:=by
 refine S.go λw1 S=>ai (C:=V0) (aR:=λ_=>[]) (AP (HZ _ w1 K) ?_);exact⟨_,m5 S a,an rfl ⟨rfl,rfl,aj.of _ (S.fT a (n:=0) rfl) (S.en λc S=>k c S)⟩⟩
end
structure Yy (A:Nat->GA) (g:Nat->Option GV) (A':Nat->GA) (g':Nat->Option GV):Prop where
 bg: ∀i,(A' i).bg=(A i).bg
 bt: ∀i,(A' i).bt=(A i).bt
 bm: ∀i,(A' i).bm=(A i).bm
 rt: ∀i,(g' i).map GV.root=(g i).map GV.root
section
variable {A A':Nat->GA} {g g':Nat->Option GV} {Q:Sys} {X:HX}
theorem Yy.ptr (h:Yy A g A' g'):kO A' g'=kO A g:=by
 funext i;have:=h.rt i;have hb:=h.bg i;unfold kO;cases h1:g' i<;>cases a:g i<;>rw[h1,a] at this<;>simp at this<;>simp[hb]
theorem Yy.cs (h:Yy A g A' g'):fh Q X A' g'=fh Q X A g:=by
 unfold fh mB;rw[h.ptr]
theorem Yy.rows (h:Yy A g A' g') (l:List Nat):bh Q A' g' l=bh Q A g l:=by
 unfold bh;congr 1;funext i;have:=h.rt i;cases h1:g' i<;>cases a:g i<;>rw[h1,a] at this<;>simp at this
 ·dsimp only;unfold gT;rw[h.bg i,h.bt i,h.bm i,this]
theorem mi {i:Nat} {v:GV} (hi:i<17) (hv:g i=some v):(dm A g (AL 17)).Perm (((A i).bm,Obj.map ⟨(A i).es⟩ (A i).ck)::dm A g ((AL 17).erase i)):=by
 unfold dm;refine(GJ _ (G1 (DA.2 hi))).trans ?_;rw[Dn,hv];exact E4 _
theorem wW {i:Nat} {v:GV} (hi:i<17) (hv:g i=some v):(bh Q A g (AL 17)).Perm (gT Q A i v++bh Q A g ((AL 17).erase i)):=by
 unfold bh;refine(GJ _ (G1 (DA.2 hi))).trans ?_;rw[Dn,hv]
theorem z7 {i:Nat} (hi:i<17) (hv:g i=none):(dm A g (AL 17)).Perm (dm A g ((AL 17).erase i)):=by
 unfold dm;refine(GJ _ (G1 (DA.2 hi))).trans ?_;rw[Dn,hv];exact E4 _
theorem z8 {i:Nat} (hi:i<17) (hv:g i=none):(bh Q A g (AL 17)).Perm (bh Q A g ((AL 17).erase i)):=by
 unfold bh;refine(GJ _ (G1 (DA.2 hi))).trans ?_;rw[Dn,hv];exact E4 _
theorem gB {α β:Type} {f f':α->List β}: ∀{l:List α},(∀x∈l,f x=f' x)->l.flatMap f=l.flatMap f'
 |[], _=>rfl
 |x::l,h=>by
  rw[Dn,Dn,h x Am,gB λy a=>h y (Ap _ a)]
theorem PQ {i j:Nat} (h:j∈(AL 17).erase i):j≠i:=λe=>by
 subst e;exact(List.nodup_range.not_mem_erase) h
theorem pX {i:Nat} (h: ∀j,j≠i->A' j=A j/\g' j=g j):dm A' g' ((AL 17).erase i)=dm A g ((AL 17).erase i):=by
 unfold dm;refine gB λj a=>?_;obtain⟨h1,b⟩:=h j (PQ a);rw[h1,b]
theorem wX {i:Nat} (h: ∀j,j≠i->A' j=A j/\g' j=g j):bh Q A' g' ((AL 17).erase i)=bh Q A g ((AL 17).erase i):=by
 unfold bh;refine gB λj a=>?_;obtain⟨h1,b⟩:=h j (PQ a);rw[b];cases g j with
 |none=>rfl
 |some v=>dsimp only;unfold gT;rw[h1]
end
def oR (A:Nat->GA) (i:Nat) (x:GA):Nat->GA:=λj=>if j=i then x else A j
def bq (g:Nat->Option GV) (i:Nat) (x:Option GV):Nat->Option GV:=λj=>if j=i then x else g j
theorem qC (A:Nat->GA) (i:Nat) (x:GA):oR A i x i=x:=av rfl
theorem fP (g:Nat->Option GV) (i:Nat) (x:Option GV):bq g i x i=x:=av rfl
theorem BT (A:Nat->GA) (g:Nat->Option GV) (i:Nat) (x:GA) (y:Option GV): ∀j,j≠i->oR A i x j=A j/\bq g i y j=g j:=λ_ h=>⟨ao h,ao h⟩
theorem JN {A:Nat->GA} {g:Nat->Option GV} {i:Nat} {v:GV} (hv:g i=some v) (es:List B3) (ck:Nat) (tk:List TK):Yy A g (oR A i {A i with es:=es,ck:=ck}) (bq g i (some {v with tk:=tk})):=by
 refine⟨λj=>?_,λj=>?_,λj=>?_,λj=>?_⟩
 ·unfold oR;split
  ·rename_i e;subst e;rfl
  ·rfl
 ·unfold oR;split
  ·rename_i e;subst e;rfl
  ·rfl
 ·unfold oR;split
  ·rename_i e;subst e;rfl
  ·rfl
 ·unfold bq;split
  ·rename_i e;subst e;rw[hv];rfl
  ·rfl
theorem SM.PU {Q:Sys} {D G:List Nat} {w0 w:A1} {s:WD} {L0:List (Nat×List AC)} {A:Nat->GA} {g:Nat->Option GV} (H:SM Q D G w0 w s L0 (dm A g (AL 17))) {i:Nat} {v:GV} (hi:i<17) (hv:g i=some v) (es:List B3) (ck:Nat) (tk:List TK):
 SM Q D G w0 (w.putObj (A i).bm (.map ⟨es⟩ ck)) s L0 (dm (oR A i {A i with es:=es,ck:=ck}) (bq g i (some {v with tk:=tk})) (AL 17)):=by
 have a:=(H.lq (mi hi hv).symm).put (i:=0) rfl (o':= .map ⟨es⟩ ck) trivial;refine a.lq ((mi hi (v:={v with tk:=tk}) (fP _ _ _)).trans ?_);rw[pX (BT A g i _ _),qC];exact E4 _
section
variable {Q:Sys} {X:HX} {D G:List Nat} {w0 w:A1} {s:WD} {L0:List (Nat×List AC)} {bg br bp c:Nat} {gs:List GT} {rest:List AC} {room:Int} {ps:List Po.PT}
namespace bj
theorem Wa (S:bj Q D G w0 w s L0) (j b:Nat) (e:L0[j]? =some (bg,mG br gs.length c)) (f:L0[b]? =some (br,flat eG gs++rest)) (h0:0<gs.length) (i o:Int) {K:Int->A1->Prop}
 (k: ∀a,bj Q D G w0 a s (L0.set b (br,flat eG (lu gs i o)++rest))->K (rh gs i o) a):
 az A2 184 (.el (.one (.int .i64))) [ag (af bg),aa i,aa o] w K:=by
 obtain⟨h1,g,h,l,ca,la,d⟩:=S;exact HG d (j+4) (b+4) e f h0 i o λa d=>k a ⟨h1,g,h,l,ca,la,d⟩
theorem abT (S:bj Q D G w0 w s L0) (j d:Nat) (f:L0[j]? =some (bg,mG br gs.length c)) (h:L0[d]? =some (br,flat eG gs++rest)) (h0:0<gs.length) (l: ∀x∈gs,0<=x.2.2.2.2.1/\x.2.2.2.2.1<=1000) (i g:Int) (b:Bool) {K:Int->A1->Prop}
 (k: ∀a,bj Q D G w0 a s (L0.set d (br,flat eG (eh gs i g b)++rest))->K (gZ gs i g b) a):
 az A2 181 (.el (.one (.int .i64))) [ag (af bg),aa i,aa g,.bool b] w K:=by
 obtain⟨h1,m,n,o,ca,la,e⟩:=S;exact Rv e (j+4) (d+4) f h h0 l i g b λa e=>k a ⟨h1,m,n,o,ca,la,e⟩
theorem XN (S:bj Q D G w0 w s L0) (j b:Nat) (e:L0[j]? =some (bg,mG br gs.length c)) (f:L0[b]? =some (br,flat eG gs++rest)) (h0:0<gs.length) (h: ∀x∈gs,0<=x.2.2.2.2.1/\x.2.2.2.2.1<=1000) (i g:Int) {K:Int->A1->Prop}
 (k: ∀a,bj Q D G w0 a s (L0.set b (br,flat eG (eR gs i g)++rest))->K (mz gs i g) a):
 az A2 182 (.el (.one (.int .i64))) [ag (af bg),aa i,aa g] w K:=by
 obtain⟨h1,l,m,n,ca,la,d⟩:=S;exact Rw d (j+4) (b+4) e f h0 h i g λa d=>k a ⟨h1,l,m,n,ca,la,d⟩
theorem aak (S:bj Q D G w0 w s L0) (j d:Nat) (f:L0[j]? =some (bg,mG br gs.length c)) (g:L0[d]? =some (br,flat eG gs++rest)) (h0:0<gs.length) (h:gs.length<=64) (o q t:Int) (b:Bool) {K:Int×Int×Unit->A1->Prop}
 (k: ∀a,bj Q D G w0 a s (L0.set d (br,flat eG (jV gs o q t b)++rest))->K (kx gs o q t,lx gs o q t,()) a):
 az A2 180 (.bu [.one (.int .i64),.one (.int .i64)]) [ag (af bg),aa o,aa q,aa t,.bool b] w K:=by
 obtain⟨h1,i,l,m,ca,la,e⟩:=S;exact LJ e (j+4) (d+4) f g h0 h o q t b λa e=>k a ⟨h1,i,l,m,ca,la,e⟩
theorem abU (S:bj Q D G w0 w s L0) (j a:Nat) (e:L0[j]? =some (bg,mG br gs.length c)) (f:L0[a]? =some (br,flat eG gs++rest)) (h0:0<gs.length) (h:gs.length<=64) (o:j≠a) (g:Int) {K:Int->A1->Prop}
 (k: ∀n b,bj Q D G w0 b s (L0.set a (br,flat eG (cP gs g)++rest))->K n b):
 az A2 169 (.el (.one (.int .i64))) [ag (af bg),aa g] w K:=by
 obtain⟨h1,i,l,m,ca,la,d⟩:=S;exact Rx d (j+4) (a+4) e f h0 h (by omega) g λn b d=>k n b ⟨h1,i,l,m,ca,la,d⟩
theorem aaV (S:bj Q D G w0 w s L0) (j a:Nat) (b:L0[j]? =some (bg,mG br gs.length c)) (d:L0[a]? =some (br,flat eG gs++rest)) (h0:0<gs.length) (i:Int):
 ae A2 176 [ag (af bg),aa i] w ((Sh.bu [eG,.one .bool]).gO (xF gs i,(l5 gs i).isSome,())):=
 ae.of (s:= .bu [eG,.one .bool]) λw' h'=>Z4 ((S.get b).ext h') ((S.get d).ext h') h0 i
theorem abV (S:bj Q D G w0 w s L0) (j:Nat) (c:L0[j]? =some (bp,Po.gE room ps)) (d:Po.okS room ps) (g r:Int) {K:Int×Int×Unit->A1->Prop}
 (k: ∀a,bj Q D G w0 a s (L0.set j (bp,Po.gE room (Po.iY room ps g r).2))->K ((Po.iY room ps g r).1.1,(Po.iY room ps g r).1.2,()) a):
 az A2 185 (.bu [.one (.int .i64),.one (.int .i64)]) [ag (af bp),aa g,aa r] w K:=by
 obtain⟨h1,e,f,h,ca,la,b⟩:=S;exact Po.Ry b (j+4) c d g r λa b=>k a ⟨h1,e,f,h,ca,la,b⟩
theorem pbind (S:bj Q D G w0 w s L0) (j:Nat) (c:L0[j]? =some (bp,Po.gE room ps)) (d:Po.okS room ps) (g r i:Int) {K:Int×Int×Unit->A1->Prop}
 (k: ∀a,bj Q D G w0 a s (L0.set j (bp,Po.gE room (Po.ik room ps g r i).2))->K ((Po.ik room ps g r i).1.1,(Po.ik room ps g r i).1.2,()) a):
 az A2 186 (.bu [.one (.int .i64),.one (.int .i64)]) [ag (af bp),aa g,aa r,aa i] w K:=by
 obtain⟨h1,e,f,h,ca,la,b⟩:=S;exact Po.Rz b (j+4) c d g r i λa b=>k a ⟨h1,e,f,h,ca,la,b⟩
theorem abW (S:bj Q D G w0 w s L0) (j:Nat) (c:L0[j]? =some (bp,Po.gE room ps)) (d:Po.lM room ps) (g i:Int) {K:Int->A1->Prop}
 (k: ∀a,bj Q D G w0 a s (L0.set j (bp,Po.gE room (Po.ly room ps g i).2))->K (Po.ly room ps g i).1 a):
 az A2 187 (.el (.one (.int .i64))) [ag (af bp),aa g,aa i] w K:=by
 obtain⟨h1,e,f,h,ca,la,b⟩:=S;exact Po.RA b (j+4) c d g i λa b=>k a ⟨h1,e,f,h,ca,la,b⟩
theorem aal (S:bj Q D G w0 w s L0) (j:Nat) (c:L0[j]? =some (bp,Po.gE room ps)) (d:Po.lM room ps) (g i:Int) {K:Int->A1->Prop}
 (k: ∀a,bj Q D G w0 a s (L0.set j (bp,Po.gE room (Po.eT room ps g i).2))->K (Po.eT room ps g i).1 a):
 az A2 189 (.el (.one (.int .i64))) [ag (af bp),aa g,aa i] w K:=by
 obtain⟨h1,e,f,h,ca,la,b⟩:=S;exact Po.BD b (j+4) c d g i λa b=>k a ⟨h1,e,f,h,ca,la,b⟩
theorem abX (S:bj Q D G w0 w s L0) (j:Nat) (c:L0[j]? =some (bp,Po.gE room ps)) (d:Po.okS room ps) (g:Int) {K:Int×Bool×Unit->A1->Prop}
 (k: ∀a,bj Q D G w0 a s (L0.set j (bp,Po.gE room (Po.gR room ps g).2))->K ((Po.gR room ps g).1.1,(Po.gR room ps g).1.2,()) a):
 az A2 188 (.bu [.one (.int .i64),.one .bool]) [ag (af bp),aa g] w K:=by
 obtain⟨h1,e,f,h,ca,la,b⟩:=S;exact Po.RD b (j+4) c d g λa b=>k a ⟨h1,e,f,h,ca,la,b⟩
theorem abY (S:bj Q D G w0 w s L0) (j:Nat) (c:L0[j]? =some (bp,Po.gE room ps)) (d:Po.lM room ps) (g:Int) {K:Int->A1->Prop}
 (k: ∀a,bj Q D G w0 a s (L0.set j (bp,Po.gE room (Po.cH room ps g).2))->K (Po.cH room ps g).1 a):
 az A2 170 (.el (.one (.int .i64))) [ag (af bp),aa g] w K:=by
 obtain⟨h1,e,f,h,ca,la,b⟩:=S;exact Po.RH b (j+4) c d g λa b=>k a ⟨h1,e,f,h,ca,la,b⟩
theorem res (S:bj Q D G w0 w s L0) {j b:Nat} {x1 d:AC} (c:L0[j]? =some (b,[x1,d])) (v e:Int) {K:RS->A1->Prop} (k: ∀a,bj Q D G w0 a s (L0.set j (b,[ay v,aa e]))->K (v,e,()) a):
 aC w (af b) [ay v,aa e] λa=>au a λw1=>aj w1 none (af b) (.agg iR) λx=>K (x.1,x.2.1,()) w1:=by
 have f:j<L0.length:=(CD.1 c).1;refine S.fm j c rfl rfl λa S=>S.en λg S=>?_;exact S.ld j (Do f) (show _=some (v,e,()) from rfl) (k g S)
end bj
end
def yP (h:HS) (gr:List GT):HS:={h with gr:=gr}
def Ba (h:HS) (po:List Po.PT):HS:={h with po:=po}
def bD (h:HS) (s:WD):HS:={h with s:=s}
abbrev gm (k a b c:Int):List AC:=[aa k,ay a,ay b,ay c]
theorem zx (gs:List GT) (i o:Int):(lu gs i o).length=gs.length:=by
 unfold lu;split
 ·rw[DR]
 ·rfl
def C9 (h:HS) (v a:Int):Int:=if a>=16 then 1 else rh h.gr a v
def f_ (h:HS) (v a:Int):HS:=if a>=16 then h else yP h (lu h.gr a v)
section
variable {Q:Sys} {X:HX} {D G:List Nat} {w0 w:A1} {h:HS} {L:List (Nat×List AC)} {K:RS->A1->Prop}
theorem MQ (H:jq Q X D G w0 w h L) (v k:Int) {a:Int} (b c:Int) (m:0<=a) (kk: ∀f,jq Q X D G w0 f (f_ h v a) L->K (0,C9 h v a,()) f):
 aE A2 132 (.el (.agg iR)) [ag (af X.hb),aa v,.agg ⟨gm k a b c⟩] w K:=by
 obtain⟨A,W,H⟩:=H;obtain⟨o,S,J⟩:=H.call;refine aQ (C:=V0) (aR:=λ_=>[]) (AP (FC _ v k a b c w K) ?_);refine S.al λp f S=>S.al λq r S=>⟨rfl,S.cx 1 rfl rfl ?_⟩;unfold C9 f_ at kk;refine ab (λd=>⟨trivial,S.res (j:=0) rfl 0 1 λi S=>?_⟩) (λd=>?_)
 ·rw[av (by simpa using d),av (by simpa using d)] at kk;exact kk i ⟨A,W,J (S.tail.tail)⟩
 ·have d: ¬ a>=16:=by simpa using d
  rw[ao d,ao d] at kk;refine⟨rfl,rfl,aj.of _ (S.fT (X:=X) (A:=A) (g:=h.g) (by simp) (n:=2) rfl) ⟨rfl,S.cx 1 rfl rfl ?_⟩⟩;rw[bM ⟨m,by omega⟩];refine S.Wa 3 4 rfl rfl (by rw[W.gl];decide) a v λi S=>⟨trivial,S.res (j:=0) rfl 0 _ λl S=>kk l ⟨A,⟨W.jo,W.mp,(zx _ _ _).trans W.gl,W.pt,W.gk.rev _ _⟩,J ?_⟩⟩;have S:=S.tail.tail;have e:(lu h.gr a v).length=h.gr.length:=zx _ _ _;show bj Q [] o w l h.s ((X.hb,fh Q X A h.g)::(X.gb,mG X.u5 (lu h.gr a v).length X.c):: _);rw[e];exact S
end
set_option maxRecDepth 100000
open Go.RX D
def O3 (h:HS) (v a:Int):Int:=if a>=4 then 1 else(Po.ly 4 h.po v a).1
def l6 (h:HS) (v a:Int):HS:=if a>=4 then h else Ba h (Po.ly 4 h.po v a).2
def G7 (h:HS) (v a:Int):Int:=if a>=4 then 1 else(Po.eT 4 h.po v a).1
def jf (h:HS) (v a:Int):HS:=if a>=4 then h else Ba h (Po.eT 4 h.po v a).2
def O4 (h:HS) (v:Int):Int:=if(Po.gR 4 h.po v).1.2=true then(Po.gR 4 h.po v).1.1+1 else 0
def O5 (h:HS) (v:Int):HS:=Ba h (Po.gR 4 h.po v).2
def I5 (h:HS) (v a:Int):Int×Int:=if de h.g v a=0 then(Po.iY 4 h.po v a).1 else(0,de h.g v a)
def l7 (h:HS) (v a:Int):HS:=if de h.g v a=0 then Ba h (Po.iY 4 h.po v a).2 else h
def I6 (h:HS) (v a b:Int):Int×Int:=if de h.g v a=1\/b>=4 then(0,1) else if de h.g v a=0 then(Po.ik 4 h.po v a b).1 else(0,de h.g v a)
def l8 (h:HS) (v a b:Int):HS:=if de h.g v a=1\/b>=4 then h else if de h.g v a=0 then Ba h (Po.ik 4 h.po v a b).2 else h
theorem vF {g:Nat->Option GV} {v a:Int} (h:de g v a≠1):1<=a/\a<=16:=by
 unfold de at h;split at h
 ·exact absurd rfl h
 ·omega
theorem dH {a:Int} (h:0<=a/\a<18446744073709551616):aD .u64 a=a:=by
 unfold aD;simp only[IntKind.wrap,IntKind.bits,IntKind.signed];simp;omega
theorem Ss {ps:List Po.PT} {g:Int} (h:(Po.gR 4 ps g).1.2=true):0<=(Po.gR 4 ps g).1.1/\(Po.gR 4 ps g).1.1<4:=by
 unfold Po.gR at h ⊢;cases a:Po.py 4 ps g with
 |nil=>rw[a] at h;cases h
 |cons i l=>
  have:=(Po.e_.1 (Po.tV (ps:=ps) (g:=g) (x:=i) (room:=4) (by rw[a];exact Am)).1).2;exact this
theorem Wb {ps:List Po.PT} {g:Int} {x:Po.PT} (a:Po.gI g=true):0<=(Po.dP 4 ps g x).1.1/\(Po.dP 4 ps g x).1.1<4:=by
 unfold Po.dP;split
 ·exact⟨Ga _,(by decide:(0:Int)<4)⟩
 ·rename_i b;have:=(Po.e_.1 (Po.mX a b).1).2;exact this
theorem Su (ps:List Po.PT) (g r:Int):0<=(Po.iY 4 ps g r).1.1/\(Po.iY 4 ps g r).1.1<4:=by
 unfold Po.iY;split
 ·rename_i a;exact Wb (Po.qj.1 a).1
 ·exact⟨Ga _,(by decide:(0:Int)<4)⟩
section
variable {Q:Sys} {X:HX} {D G:List Nat} {w0 w:A1} {h:HS} {L:List (Nat×List AC)} {K:RS->A1->Prop}
theorem Wc (H:jq Q X D G w0 w h L) (v k:Int) {a:Int} (b c:Int) (i:0<=a) (kk: ∀e,jq Q X D G w0 e (l6 h v a) L->K (0,O3 h v a,()) e):
 aE A2 135 (.el (.agg iR)) [ag (af X.hb),aa v,.agg ⟨gm k a b c⟩] w K:=by
 obtain⟨A,W,H⟩:=H;obtain⟨m,S,J⟩:=H.call;refine aQ (C:=V0) (aR:=λ_=>[]) (AP (MJ _ v k a b c w K) ?_);refine S.al λo e S=>S.al λp q S=>⟨rfl,S.cx 1 rfl rfl ?_⟩;unfold O3 l6 at kk;refine ab (λd=>⟨trivial,S.res (j:=0) rfl 0 1 λf S=>?_⟩) (λd=>?_)
 ·rw[av (by simpa using d),av (by simpa using d)] at kk;exact kk f ⟨A,W,J (S.tail.tail)⟩
 ·have d: ¬ a>=4:=by simpa using d
  rw[ao d,ao d] at kk;refine⟨rfl,rfl,aj.of _ (S.fT (X:=X) (A:=A) (g:=h.g) (by simp) (n:=3) rfl) ⟨rfl,S.cx 1 rfl rfl ?_⟩⟩;rw[bM ⟨i,by omega⟩];exact S.abW 5 rfl W.pt v a λf S=>⟨trivial,S.res (j:=0) rfl 0 _ λl S=>kk l ⟨A,⟨W.jo,W.mp,W.gl,W.pt.ly v a,W.gk⟩,J (S.tail.tail)⟩⟩
theorem Sv (H:jq Q X D G w0 w h L) (v k:Int) {a:Int} (b c:Int) (i:0<=a) (kk: ∀e,jq Q X D G w0 e (jf h v a) L->K (0,G7 h v a,()) e):
 aE A2 137 (.el (.agg iR)) [ag (af X.hb),aa v,.agg ⟨gm k a b c⟩] w K:=by
 obtain⟨A,W,H⟩:=H;obtain⟨m,S,J⟩:=H.call;refine aQ (C:=V0) (aR:=λ_=>[]) (AP (Ic _ v k a b c w K) ?_);refine S.al λo e S=>S.al λp q S=>⟨rfl,S.cx 1 rfl rfl ?_⟩;unfold G7 jf at kk;refine ab (λd=>⟨trivial,S.res (j:=0) rfl 0 1 λf S=>?_⟩) (λd=>?_)
 ·rw[av (by simpa using d),av (by simpa using d)] at kk;exact kk f ⟨A,W,J (S.tail.tail)⟩
 ·have d: ¬ a>=4:=by simpa using d
  rw[ao d,ao d] at kk;refine⟨rfl,rfl,aj.of _ (S.fT (X:=X) (A:=A) (g:=h.g) (by simp) (n:=3) rfl) ⟨rfl,S.cx 1 rfl rfl ?_⟩⟩;rw[bM ⟨i,by omega⟩];exact S.aal 5 rfl W.pt v a λf S=>⟨trivial,S.res (j:=0) rfl 0 _ λl S=>kk l ⟨A,⟨W.jo,W.mp,W.gl,W.pt.eT v a,W.gk⟩,J (S.tail.tail)⟩⟩
theorem Wd (H:jq Q X D G w0 w h L) (v k a b c:Int) (kk: ∀e,jq Q X D G w0 e (O5 h v) L->K (O4 h v,0,()) e):
 aE A2 136 (.el (.agg iR)) [ag (af X.hb),aa v,.agg ⟨gm k a b c⟩] w K:=by
 obtain⟨A,W,H⟩:=H;obtain⟨o,S,J⟩:=H.call;refine aQ (C:=V0) (aR:=λ_=>[]) (AP (MK _ v k a b c w K) ?_);refine S.al λp e S=>S.al λq s S=>⟨rfl,rfl,aj.of _ (S.fT (X:=X) (A:=A) (g:=h.g) (by simp) (n:=3) rfl) ?_⟩;unfold O4 O5 at kk;have l:=λh'=>Ss (ps:=h.po) (g:=v) h';refine S.abX 5 rfl W.pt.tookS v λt S=>?_;obtain⟨r,m⟩: ∃r,r=Po.gR 4 h.po v:=⟨_,rfl⟩;have f:=W.pt.gR v;rw[<-m] at l kk S f ⊢;refine ab (λd=>S.res (j:=0) rfl 0 0 λi S=>?_) (λd=>?_)
 ·have d: ¬ r.1.2=true:=by simpa using d
  rw[ao d] at kk;exact kk i ⟨A,⟨W.jo,W.mp,W.gl,f,W.gk⟩,J (S.tail.tail)⟩
 ·have d:r.1.2=true:=by simpa using d
  rw[av d] at kk;have:=l d;rw[aw (by omega) (by omega),dH (by omega)];exact S.res (j:=0) rfl _ 0 λi S=>kk i ⟨A,⟨W.jo,W.mp,W.gl,f,W.gk⟩,J (S.tail.tail)⟩
theorem We (H:jq Q X D G w0 w h L) (v k:Int) {a:Int} (b c:Int) (i:0<=a) (kk: ∀f,jq Q X D G w0 f (l7 h v a) L->K ((I5 h v a).1,(I5 h v a).2,()) f):
 aE A2 133 (.el (.agg iR)) [ag (af X.hb),aa v,.agg ⟨gm k a b c⟩] w K:=by
 obtain⟨A,W,H⟩:=H;obtain⟨o,S,J⟩:=H.call;refine aQ (C:=V0) (aR:=λ_=>[]) (AP (MF _ v k a b c w K) ?_);refine S.al λp f S=>S.al λq r S=>⟨rfl,S.cx 1 rfl rfl ⟨_,zw S (X:=X) (A:=A) (g:=h.g) (by simp) v i,?_⟩⟩;unfold I5 l7 at kk;refine ab (λd=>⟨trivial,S.res (j:=0) rfl 0 _ λl S=>?_⟩) (λd=>?_)
 ·have d: ¬ de h.g v a=0:=by simpa using d
  rw[ao d,ao d] at kk;exact kk l ⟨A,W,J (S.tail.tail)⟩
 ·have d:de h.g v a=0:=by simpa using d
  rw[av d,av d] at kk;have s:=vF (g:=h.g) (v:=v) (a:=a) (by rw[d];decide);refine⟨rfl,rfl,aj.of _ (S.fT (X:=X) (A:=A) (g:=h.g) (by simp) (n:=3) rfl) ⟨rfl,S.cx 1 rfl rfl ?_⟩⟩;rw[bM ⟨i,by omega⟩];have t:=Su h.po v a;refine S.abV 5 rfl W.pt.tookS v a λl S=>?_;have e:aD .u64 (Po.iY 4 h.po v a).1.1=(Po.iY 4 h.po v a).1.1:=dH (by omega);dsimp only;rw[e];exact S.res (j:=0) rfl _ _ λm S=>kk m ⟨A,⟨W.jo,W.mp,W.gl,W.pt.iY v a,W.gk⟩,J (S.tail.tail)⟩
theorem Sw (ps:List Po.PT) (g r i:Int):0<=(Po.ik 4 ps g r i).1.1/\(Po.ik 4 ps g r i).1.1<4:=by
 unfold Po.ik;have z:(0:Int)<=0/\(0:Int)<4:=by decide
 split
 ·rename_i a;split
  ·exact z
  ·split
   ·exact z
   ·split
    ·exact z
    ·split
     ·exact z
     ·rename_i b;have:=(Po.e_.1 (Po.mX (Po.qj.1 a).1 b).1).2;exact this
 ·exact z
theorem Wf (H:jq Q X D G w0 w h L) (v k:Int) {a b:Int} (c:Int) (l:0<=a) (hb:0<=b) (kk: ∀i,jq Q X D G w0 i (l8 h v a b) L->K ((I6 h v a b).1,(I6 h v a b).2,()) i):
 aE A2 134 (.el (.agg iR)) [ag (af X.hb),aa v,.agg ⟨gm k a b c⟩] w K:=by
 obtain⟨A,W,H⟩:=H;obtain⟨o,S,J⟩:=H.call;refine aQ (C:=V0) (aR:=λ_=>[]) (AP (MH _ v k a b c w K) ?_);refine S.al λp i S=>S.al λq r S=>⟨rfl,S.cx 1 rfl rfl ⟨_,zw S (X:=X) (A:=A) (g:=h.g) (by simp) v l,λ_=>rfl,S.cx 1 rfl rfl ?_⟩⟩;unfold I6 l8 at kk;refine ab (λd=>⟨trivial,S.res (j:=0) rfl 0 _ λf S=>?_⟩) (λd=>?_)
 ·have d:de h.g v a=1\/b>=4:=by simpa using d
  rw[av d,av d] at kk;exact kk f ⟨A,W,J (S.tail.tail)⟩
 have d: ¬ (de h.g v a=1\/b>=4):=by
  intro e;have:(de h.g v a==1||decide (b>=4))=true:=by simpa using e
  rw[this] at d;cases d
 rw[ao d,ao d] at kk;refine ab (λd=>⟨trivial,S.res (j:=0) rfl 0 _ λf S=>?_⟩) (λd2=>?_)
 ·have d: ¬ de h.g v a=0:=by simpa using d
  rw[ao d,ao d] at kk;exact kk f ⟨A,W,J (S.tail.tail)⟩
 ·have d2:de h.g v a=0:=by simpa using d2
  rw[av d2,av d2] at kk;have s:=vF (g:=h.g) (v:=v) (a:=a) (by rw[d2];decide);have t:b<4:=by omega
  refine⟨rfl,rfl,aj.of _ (S.fT (X:=X) (A:=A) (g:=h.g) (by simp) (n:=3) rfl) ⟨rfl,S.cx 1 rfl rfl ⟨rfl,S.cx 1 rfl rfl ?_⟩⟩⟩;rw[bM ⟨l,by omega⟩,bM ⟨hb,by omega⟩];have u:=Sw h.po v a b;refine S.pbind 5 rfl W.pt.tookS v a b λf S=>?_;have e:aD .u64 (Po.ik 4 h.po v a b).1.1=(Po.ik 4 h.po v a b).1.1:=dH (by omega);dsimp only;rw[e];exact S.res (j:=0) rfl _ _ λm S=>kk m ⟨A,⟨W.jo,W.mp,W.gl,W.pt.ik v a b,W.gk⟩,J (S.tail.tail)⟩
end
theorem EW (gs:List GT) (o q t:Int) (b:Bool):(jV gs o q t b).length=gs.length:=by
 unfold jV;split
 ·rw[DR]
 ·rfl
theorem Sy {gs:List GT} (b:gs.length=16) (o q t:Int):0<=kx gs o q t/\kx gs o q t<16:=by
 have z:(0:Int)<=0/\(0:Int)<16:=by decide
 unfold kx;split
 ·cases a:dk gs fc gs.length with
  |nil=>exact z
  |cons x l=>
   obtain⟨i,hi, _,e⟩:=qw.1 (by rw[a];exact Am:x∈dk gs fc gs.length);show 0<=x/\x<16;omega
 ·exact z
def ib (h:HS) (v p:Int):Bool:=(gw h.g v p).2.1
def sk (h:HS) (v a b c:Int):Int:=
 if a>=65536 then 2 else if de h.g v b=1\/c>1 then 1 else if(fv h.g h.s v a).2.2.1≠0\/de h.g v b≠0 then 4 else if ib h v a=true then 7 else 0
def y8 (h:HS) (v a b c:Int):Int×Int:=if sk h v a b c=0 then(kx h.gr v a b,lx h.gr v a b) else(0,sk h v a b c)
def iF (h:HS) (v a b c:Int):HS:=if sk h v a b c=0 then yP h (jV h.gr v a b (c==1)) else h
section
variable {Q:Sys} {X:HX} {D G:List Nat} {w0 w:A1} {h:HS} {L:List (Nat×List AC)} {K:RS->A1->Prop}
theorem bW {A:Nat->GA} (W:DN A h) (T:List (Nat×List AC)): ∀i v,h.g i=some v-> ∀x∈gT Q A i v,x∈T++dZ Q X A h (bh Q A h.g (AL 17)++L):=λi v hv x a=>by
 have:=W.jo hv;exact AY _ (Ap _ (Ap _ (Ap _ (Ap _ (CB _ (BS (DA.2 (by omega)) hv x a))))))
theorem fQ {A:Nat->GA} (W:DN A h): ∀i v,h.g i=some v->((A i).bm,Obj.map ⟨(A i).es⟩ (A i).ck)∈dm A h.g (AL 17):=λi v hv=>by
 have:=W.jo hv;exact MO (DA.2 (by omega)) hv
theorem Sz (H:jq Q X D G w0 w h L) (v k:Int) {a b c:Int} (z:0<=a) (hb:0<=b) (hc:0<=c) (kk: ∀l,jq Q X D G w0 l (iF h v a b c) L->K ((y8 h v a b c).1,(y8 h v a b c).2,()) l):
 aE A2 129 (.el (.agg iR)) [ag (af X.hb),aa v,.agg ⟨gm k a b c⟩] w K:=by
 obtain⟨A,W,H⟩:=H;obtain⟨B,S,J⟩:=H.call;refine aQ (C:=V0) (aR:=λ_=>[]) (AP (Ib _ v k a b c w K) ?_);refine S.al λF l S=>S.al λI M S=>⟨rfl,S.cx 1 rfl rfl ⟨_,zw S (X:=X) (A:=A) (g:=h.g) (by simp) v hb,rfl,S.cx 1 rfl rfl ?_⟩⟩;have m:sk h v a b c≠0-> ∀{l},jq Q X D G w0 l h L->K (0,sk h v a b c,()) l:=λr l H=>by
  have o:y8 h v a b c=(0,sk h v a b c):=ao r;have p:iF h v a b c=h:=ao r;rw[o,p] at kk;exact kk l H
 have f:sk h v a b c=if a>=65536 then 2 else if de h.g v b=1\/c>1 then 1 else if(fv h.g h.s v a).2.2.1≠0\/de h.g v b≠0 then 4 else if ib h v a=true then 7 else 0:=rfl;refine ab (λd=>⟨trivial,S.res (j:=0) rfl 0 _ λt S=>?_⟩) (λd=>⟨λ_=>rfl,S.cx 1 rfl rfl ?_⟩)
 ·rw[av (by simpa using d)] at f;rw[f] at m;exact m (by decide) ⟨A,W,J S.tail.tail⟩
 have d: ¬ a>=65536:=by simpa using d
 rw[ao d] at f;have q:aD .i64 a=a:=bM ⟨z,by omega⟩;refine ab (λd=>⟨trivial,S.res (j:=0) rfl 0 _ λt S=>?_⟩) (λd2=>⟨rfl,S.cx 1 rfl rfl ?_⟩)
 ·rw[av (by simpa using d)] at f;rw[f] at m;exact m (by decide) ⟨A,W,J S.tail.tail⟩
 have d2: ¬ (de h.g v b=1\/c>1):=by
  intro e;have:(de h.g v b==1||decide (c>1))=true:=by simpa using e
  rw[this] at d2;cases d2
 rw[ao d2] at f;rw[q];refine qB S (X:=X) (A:=A) (g:=h.g) (by simp) (bW W [_, _]) v a λt S=>?_;refine ab (λd=>⟨trivial,S.res (j:=0) rfl 0 _ λu S=>?_⟩) (λd3=>⟨rfl,S.cx 1 rfl rfl ?_⟩)
 ·rw[av (by simpa using d)] at f;rw[f] at m;exact m (by decide) ⟨A,W,J S.tail.tail⟩
 have d3: ¬ ((fv h.g h.s v a).2.2.1≠0\/de h.g v b≠0):=by
  intro e;have:((fv h.g h.s v a).2.2.1 != 0||de h.g v b != 0)=true:=by simpa using e
  rw[this] at d3;cases d3
 rw[ao d3] at f;rw[q];refine⟨gw h.g v a,pR (J S) (X:=X) (A:=A) (g:=h.g) (by simp) (bW W [_, _]) (fQ W) (λi x E=>W.mp E) v a,?_⟩;refine ab (λd=>⟨trivial,S.res (j:=0) rfl 0 _ λu S=>?_⟩) (λd4=>?_)
 ·rw[av (show ib h v a=true from d)] at f;rw[f] at m;exact m (by decide) ⟨A,W,J S.tail.tail⟩
 rw[ao (show ¬ ib h v a=true by unfold ib;rw[d4];decide)] at f;have o:y8 h v a b c=(kx h.gr v a b,lx h.gr v a b):=av f;have p:iF h v a b c=yP h (jV h.gr v a b (c==1)):=av f;rw[o,p] at kk;have N:=vF (g:=h.g) (v:=v) (a:=b) (λe=>d2 (.inl e));refine⟨rfl,rfl,aj.of _ (S.fT (X:=X) (A:=A) (g:=h.g) (by simp) (n:=2) rfl) ⟨rfl,S.cx 1 rfl rfl ⟨rfl,S.cx 1 rfl rfl ⟨rfl,S.cx 1 rfl rfl ?_⟩⟩⟩⟩;rw[q,bM ⟨hb,by omega⟩];have O:=Sy W.gl v a b;refine S.aak 3 4 rfl rfl (by rw[W.gl];decide) (by rw[W.gl];decide) v a b (c==1) λu S=>?_;dsimp only;rw[dH (by omega)];refine S.res (j:=0) rfl _ _ λy S=>kk y ⟨A,⟨W.jo,W.mp,(EW _ _ _ _ _).trans W.gl,W.pt,W.gk.off _ _ _ _⟩,J ?_⟩;have S:=S.tail.tail;have e:(jV h.gr v a b (c==1)).length=h.gr.length:=EW _ _ _ _ _;show bj Q [] B w y h.s ((X.hb,fh Q X A h.g)::(X.gb,mG X.u5 (jV h.gr v a b (c==1)).length X.c):: _);rw[e];exact S
end
def iK (h:HS) (v a t:Int):Int×Int:=if a>=1048576 then(0,2) else(aH .i64 (iB .i64 16 (nr h.s.1 (a9 h.g v) (a / 16) t).1) (a % 16),(nr h.s.1 (a9 h.g v) (a / 16) t).2.2.2.1)
def I7 (h:HS) (v a:Int):Int×Int:=if(iK h v a 1).2≠0 then(0,(iK h v a 1).2) else(dK h.s.1 (iK h v a 1).1,Cm h.s.1 (iK h v a 1).1)
def sq (h:HS) (v a:Int):Int:=if(iK h v a 2).2≠0 then(iK h v a 2).2 else Cm h.s.1 (iK h v a 2).1
def ko (h:HS) (v a b:Int):HS:=if(iK h v a 2).2≠0 then h else bD h (cZ h.s.1 (iK h v a 2).1 b,h.s.2)
def dN (s:WD):Nat->WD×Nat
 |0=>(s,0)
 |n+1=>(im (dN s n).1 (n:Int),(dN s n).2+if jy (dN s n).1 (n:Int)=0 then 1 else 0)
theorem MV (s:WD) (f:Int):(im s f).1=s.1/\(im s f).2.length=s.2.length:=by
 unfold im;split
 ·exact⟨rfl,ji _ _ _⟩
 ·exact⟨rfl,rfl⟩
theorem BU (s:WD): ∀n,(dN s n).1.1=s.1/\(dN s n).1.2.length=s.2.length
 |0=>⟨rfl,rfl⟩
 |n+1=>by
  have h:=MV (dN s n).1 (n:Int);have a:=BU s n;exact⟨h.1.trans a.1,h.2.trans a.2⟩
theorem BV (s:WD): ∀n,(dN s n).2<=n
 |0=>Ea _
 |n+1=>by
  have:=BV s n;show(dN s n).2+ _<=n+1;split<;>omega
theorem abZ {a:Int} (h:0<=a/\a<1048576):aD .i64 (tj .u64 a 16)=a / 16:=by
 have e:tj .u64 a 16=a / 16:=by
  show aD .u64 (a.tdiv 16)= _;rw[Int.tdiv_eq_ediv_of_nonneg h.1];exact dH (by omega)
 rw[e];exact bM (by omega)
theorem ab0 {a:Int} (h:0<=a):aD .i64 (dX a 16)=a % 16:=by
 have e:dX a 16=a % 16:=by
  unfold dX;exact Int.tmod_eq_emod_of_nonneg h
 rw[e];exact bM (by omega)
section
variable {Q:Sys} {X:HX} {D G:List Nat} {w0 w:A1} {h:HS} {L:List (Nat×List AC)} {K:RS->A1->Prop}
theorem EX {f:List Nat} {j:A1} {A:Nat->GA} {s:WD} {L0:List (Nat×List AC)} (S:bj Q [] f j w s L0) (m:s=h.s) (k:(X.hb,fh Q X A h.g)∈L0) (o: ∀i v,h.g i=some v-> ∀x∈gT Q A i v,x∈L0) (v:Int) {a:Int} (l:0<=a) (t:Int) {K:Int×Int×Unit->A1->Prop}
 (kk: ∀c,bj Q [] f j c s L0->K ((iK h v a t).1,(iK h v a t).2,()) c):
 az A2 178 (.bu [.one (.int .i64),.one (.int .i64)]) [ag (af X.hb),aa v,ay a,aa t] w K:=by
 subst m;refine S.go λw1 S=>ai (C:=V0) (aR:=λ_=>[]) (AP (Sg _ v a t w1 K) ?_);unfold iK at kk;refine ab (λd=>S.en λc S=>?_) (λd=>?_)
 ·rw[av (by simpa using d)] at kk;exact kk c S
 ·have d: ¬ a>=1048576:=by simpa using d
  rw[ao d] at kk;rw[abZ ⟨l,by omega⟩,ab0 l];refine⟨rfl,rfl,aj.of _ (S.fT (X:=X) (A:=A) (g:=h.g) k (n:=0) rfl) ⟨_,JM S k o v,?_,?_⟩⟩
  ·exact S.walk _ _ _ λc S=>S.al λb p S=>S.fm 0 rfl rfl rfl λq S=>⟨rfl,S.cx 0 rfl rfl ⟨rfl,S.cx 0 rfl rfl (S.en λe S=>kk e S.tail)⟩⟩
  ·exact S.al λb p S=>S.walk _ _ _ λc S=>S.fm 0 rfl rfl rfl λq S=>⟨rfl,S.cx 0 rfl rfl ⟨rfl,S.cx 0 rfl rfl (S.en λe S=>kk e S.tail)⟩⟩
theorem Wg (H:jq Q X D G w0 w h L) (v k:Int) {a:Int} (b c:Int) (i:0<=a) (kk: ∀e,jq Q X D G w0 e h L->K ((I7 h v a).1,(I7 h v a).2,()) e):
 aE A2 127 (.el (.agg iR)) [ag (af X.hb),aa v,.agg ⟨gm k a b c⟩] w K:=by
 obtain⟨A,W,H⟩:=H;obtain⟨m,S,J⟩:=H.call;refine aQ (C:=V0) (aR:=λ_=>[]) (AP (MC _ v k a b c w K) ?_);refine S.al λo e S=>S.al λp q S=>⟨rfl,S.cx 1 rfl rfl (EX (h:=h) (A:=A) S rfl (by simp) (bW W [_, _]) v i 1 λr S=>?_)⟩;unfold I7 at kk;refine ab (λd=>⟨trivial,S.res (j:=0) rfl 0 _ λf S=>?_⟩) (λd=>?_)
 ·rw[av (by simpa using d)] at kk;exact kk f ⟨A,W,J S.tail.tail⟩
 ·rw[ao (by simpa using d)] at kk;exact⟨rfl,rfl,aj.of _ (S.fT (X:=X) (A:=A) (g:=h.g) (by simp) (n:=0) rfl) (S.load _ λf S=>S.res (j:=0) rfl _ _ λl S=>kk l ⟨A,W,J S.tail.tail⟩)⟩
theorem SA (H:jq Q X D G w0 w h L) (v k:Int) {a b:Int} (c:Int) (i:0<=a) (hb:0<=b/\b<18446744073709551616) (kk: ∀e,jq Q X D G w0 e (ko h v a b) L->K (0,sq h v a,()) e):
 aE A2 128 (.el (.agg iR)) [ag (af X.hb),aa v,.agg ⟨gm k a b c⟩] w K:=by
 obtain⟨A,W,H⟩:=H;obtain⟨m,S,J⟩:=H.call;refine aQ (C:=V0) (aR:=λ_=>[]) (AP (Ia _ v k a b c w K) ?_);refine S.al λo e S=>S.al λp q S=>⟨rfl,S.cx 1 rfl rfl (EX (h:=h) (A:=A) S rfl (by simp) (bW W [_, _]) v i 2 λr S=>?_)⟩;unfold ko sq at kk;refine ab (λd=>⟨trivial,S.res (j:=0) rfl 0 _ λf S=>?_⟩) (λd=>?_)
 ·rw[av (by simpa using d),av (by simpa using d)] at kk;exact kk f ⟨A,W,J S.tail.tail⟩
 ·rw[ao (by simpa using d),ao (by simpa using d)] at kk;exact⟨rfl,rfl,aj.of _ (S.fT (X:=X) (A:=A) (g:=h.g) (by simp) (n:=0) rfl) ⟨rfl,S.cx 1 rfl rfl (S.store _ b hb λf S=>⟨trivial,S.res (j:=0) rfl 0 _ λl S=>kk l ⟨A,⟨W.jo,W.mp,W.gl,W.pt,W.gk⟩,J S.tail.tail⟩⟩)⟩⟩
theorem SB (H:jq Q X D G w0 w h L) (v k a b c:Int) (kk: ∀e,jq Q X D G w0 e (bD h (dN h.s h.s.2.length).1) L->K (((dN h.s h.s.2.length).2:Int),0,()) e):
 aE A2 123 (.el (.agg iR)) [ag (af X.hb),aa v,.agg ⟨gm k a b c⟩] w K:=by
 obtain⟨A,W,H⟩:=H;obtain⟨r,S,J⟩:=H.call;refine aQ (C:=V0) (aR:=qb) (AP (H_ _ v k a b c w K) ?_);have N:=S.le;refine S.al λt e S=>S.al λz O S=>⟨rfl,rfl,aj.of _ (S.fT (X:=X) (A:=A) (g:=h.g) (by simp) (n:=1) rfl) ⟨_,S.Zd,?_⟩⟩;refine⟨λn u w'=> ∃m:Nat,u.1=((dN h.s m).2:Int)/\u.2.1=(m:Int)/\n+m=h.s.2.length/\bj Q [] r w w' (dN h.s m).1 ((z,[ay 0,aa 0])::(t,gm k a b c)::dZ Q X A h (bh Q A h.g (AL 17)++L)),⟨h.s.2.length,λB E=>⟨0,rfl,rfl,rfl,S.ext E⟩⟩,?_⟩;clear S;rintro n ⟨x,y,u⟩ B ⟨m,l,o,P,S⟩;dsimp only at l o ⊢;subst l;subst o;have hc:=BV h.s m;refine ab (λf=>?_) (λf=>?_)
 ·have p:m<h.s.2.length:=by simpa using f
  refine EV S (X:=X) (A:=A) (g:=h.g) (by simp) (m:Int) λq S=>?_;have F:aH .i64 (m:Int) 1=((m+1:Nat):Int):=by rw[aw (by omega) (by omega)];omega
  have I:aH .i64 ((dN h.s m).2:Int) 1=(((dN h.s m).2+1:Nat):Int):=by rw[aw (by omega) (by omega)];omega
  rw[F,I];refine ab (λd=>λM i=>⟨n - 1,by omega,m+1,?_,rfl,by omega,S.ext i⟩) (λd=>λM i=>⟨n - 1,by omega,m+1,?_,rfl,by omega,S.ext i⟩)
  ·have d:jy (dN h.s m).1 (m:Int)=0:=by simpa using d
   show _=(((dN h.s m).2+if jy (dN h.s m).1 (m:Int)=0 then 1 else 0:Nat):Int);rw[av d]
  ·have d: ¬ jy (dN h.s m).1 (m:Int)=0:=by simpa using d
   show _=(((dN h.s m).2+if jy (dN h.s m).1 (m:Int)=0 then 1 else 0:Nat):Int);rw[ao d];rfl
 ·have p:m=h.s.2.length:=by
   have: ¬ m<h.s.2.length:=by simpa using f
   omega
  subst p;rw[dH (by omega)];exact S.res (j:=0) rfl _ 0 λq S=>kk q ⟨A,⟨W.jo,W.mp,W.gl,W.pt,W.gk⟩,J S.tail.tail⟩
end
theorem bZ {g:Nat->Option GV} {v:Int} (a:aV g v=true): ∃x,g v.toNat=some x/\a9 g v=x.root/\((v.toNat:Nat):Int)=v/\1<=v/\v<=16:=by
 obtain⟨hv,x,b⟩:=b_.1 a;refine⟨x,b,?_,by omega,hv.1,hv.2⟩;unfold a9;rw[av a,b]
theorem bj.tA {Q:Sys} {X:HX} {D G:List Nat} {w0 w:A1} {s:WD} {L0:List (Nat×List AC)} {A:Nat->GA} {g:Nat->Option GV} (S:bj Q D G w0 w s L0) (d:(X.hb,fh Q X A g)∈L0) (b: ∀i v,g i=some v-> ∀x∈gT Q A i v,x∈L0) {v:Int} (e:aV g v=true):
 cC w (ad (ad (af X.hb) 4) (v.toNat*1)) (.one .ptr) (some ⟨(A v.toNat).bg,0,none⟩)/\cC w (ad (some ⟨(A v.toNat).bg,0,none⟩) 0) (.one .ptr) (some ⟨(A v.toNat).bt,0,none⟩)/\cC w (ad (some ⟨(A v.toNat).bg,0,none⟩) 1) (.one .map) (some (A v.toNat).bm)/\
  ∃j:Nat,L0[j]? =some ((A v.toNat).bt,oY Q v (a9 g v) false):=by
 obtain⟨x,a,f,hv,h1,h⟩:=bZ e;have hc:=S.pA d (v:=v) ⟨by omega,h⟩;have k:kO A g v.toNat=some ⟨(A v.toNat).bg,0,none⟩:=by unfold kO;rw[a]
 rw[k] at hc;obtain⟨j1,c⟩:=B2 (b _ _ a _ Am);obtain⟨l,m⟩:=B2 (b _ _ a _ (Ap _ Am));refine⟨hc,?_,?_,l,?_⟩
 ·rw[aW];exact dW (S.get c) rfl
 ·rw[aW];exact dW (S.get c) rfl
 ·rw[f, <-hv];exact m
def pC (h:HS) (v a b:Int):Int:=
 if a>=65536 then 2 else if b<1\/b>7 then 7 else if ib h v a=true/\xB .u64 b 2>0/\(xF h.gr (gw h.g v a).1).2.2.2.1=false then 7 else Gt h.s v (a9 h.g v) false a b
def jX (h:HS) (v a b:Int):HS:=
 if a>=65536 then h else if b<1\/b>7 then h else if ib h v a=true/\xB .u64 b 2>0/\(xF h.gr (gw h.g v a).1).2.2.2.1=false then h else bD h (rV h.s v (a9 h.g v) false a b)
section
variable {Q:Sys} {X:HX} {D G:List Nat} {w0 w:A1} {h:HS} {L:List (Nat×List AC)} {K:RS->A1->Prop}
theorem Ig (H:jq Q X D G w0 w h L) {v:Int} (m:aV h.g v=true) (k:Int) {a b:Int} (c:Int) (E:0<=a) (hb:0<=b) (kk: ∀f,jq Q X D G w0 f (jX h v a b) L->K (0,pC h v a b,()) f):
 aE A2 126 (.el (.agg iR)) [ag (af X.hb),aa v,.agg ⟨gm k a b c⟩] w K:=by
 obtain⟨A,W,H⟩:=H;obtain⟨F,S,J⟩:=H.call;obtain⟨x,o,O,hv,P,R⟩:=bZ m;refine aQ (C:=V0) (aR:=λ_=>[]) (AP (Ds _ v k a b c w K) ?_);refine S.al λI f S=>S.al λt U S=>⟨rfl,S.cx 1 rfl rfl ?_⟩;unfold pC jX at kk;refine ab (λd=>⟨trivial,S.res (j:=0) rfl 0 _ λp S=>?_⟩) (λd=>⟨rfl,S.cx 1 rfl rfl ⟨λ_=>rfl,S.cx 1 rfl rfl ?_⟩⟩)
 ·rw[av (by simpa using d),av (by simpa using d)] at kk;exact kk p ⟨A,W,J S.tail.tail⟩
 have d: ¬ a>=65536:=by simpa using d
 rw[ao d,ao d] at kk;refine ab (λd=>⟨trivial,S.res (j:=0) rfl 0 _ λp S=>?_⟩) (λd2=>?_)
 ·have d:b<1\/b>7:=by simpa using d
  rw[av d,av d] at kk;exact kk p ⟨A,W,J S.tail.tail⟩
 have d2: ¬ (b<1\/b>7):=by
  intro e;have:(decide (b<1)||decide (b>7))=true:=by simpa using e
  rw[this] at d2;cases d2
 rw[ao d2,ao d2] at kk;have u:aD .i64 a=a:=bM ⟨E,by omega⟩;have eb:aD .i64 b=b:=bM ⟨hb,by omega⟩;have fin: ∀{r:A1} {T:List (Nat×List AC)} {q:Nat},bj Q [] F w r h.s (T++((t,[ay 0,aa 0])::(I,gm k a b c)::dZ Q X A h (bh Q A h.g (AL 17)++L)))->T.length=q->(¬ (ib h v a=true/\xB .u64 b 2>0/\(xF h.gr (gw h.g v a).1).2.2.2.1=false))->
  az A2 177 (.el (.one (.int .i64))) [ag (some ⟨(A v.toNat).bt,0,none⟩),aa a,aa b] r λ(x:Int) (f:A1)=>True/\aC f (af t) [ay 0,aa x] λ(f:A1)=>au f λ(w1:A1)=>aj w1 none (af t) (.agg iR) λ(x:Int×Int×Unit)=>K (x.1,x.2.1,()) w1:=by
  intro r T q S V z;rw[ao z,ao z] at kk;obtain⟨_, _, _,j,M⟩:=S.tA (X:=X) (A:=A) (g:=h.g) (by simp) (λi v hv x o=>AY T (bW W [_, _] i v hv x o)) m;refine S.tL j M a b λB S=>⟨trivial,S.res (j:=T.length) (by rw[FU (Ea _),Nat.sub_self];rfl) 0 _ λN S=>kk N ⟨A,⟨W.jo,W.mp,W.gl,W.pt,W.gk⟩,J ?_⟩⟩;rw[H4 _ _ (Ea _),Nat.sub_self] at S;have S:=S.sub (FX T _);exact S.tail.tail
 refine⟨rfl,S.cx 1 rfl rfl ⟨gw h.g v a,by rw[u];exact pR (J S) (X:=X) (A:=A) (g:=h.g) (by simp) (bW W [_, _]) (fQ W) (λi x o=>W.mp o) v a,λ_=>rfl,S.cx 1 rfl rfl (ab (λd3=>?_) (λd3=>?_))⟩⟩
 ·have d3:ib h v a=true/\xB .u64 b 2>0:=by
   have:=d3;rw[F5,decide_eq_true_eq] at this;exact this
  refine⟨rfl,rfl,aj.of _ (S.fT (X:=X) (A:=A) (g:=h.g) (by simp) (n:=2) rfl) ⟨(xF h.gr (gw h.g v a).1,(l5 h.gr (gw h.g v a).1).isSome,()),S.aaV 3 4 rfl rfl (by rw[W.gl];decide) _,S.al λY p S=>S.fm 0 rfl rfl rfl λr S=>⟨rfl,S.cx 0 rfl rfl (ab (λd4=>⟨trivial,S.res (j:=1) rfl 0 _ λB S=>?_⟩) (λd4=>?_))⟩⟩⟩
  ·have d4:(xF h.gr (gw h.g v a).1).2.2.2.1=false:=by simpa using d4
   rw[av ⟨d3.1,d3.2,d4⟩,av ⟨d3.1,d3.2,d4⟩] at kk;exact kk B ⟨A,W,J S.tail.tail.tail⟩
  ·have d4:(xF h.gr (gw h.g v a).1).2.2.2.1=true:=by simpa using d4
   obtain⟨g1,y, _, _⟩:=S.tA (X:=X) (A:=A) (g:=h.g) (by simp) (bW W [_, _, _]) m;exact⟨rfl,rfl,⟨rfl,by omega,by show v<((17:Nat):Int);omega⟩,aj.of _ g1 ⟨rfl,rfl,aj.of _ y ⟨rfl,S.cx 2 rfl rfl ⟨rfl,S.cx 2 rfl rfl (by
    rw[u,eb];exact fin (T:=[_]) S rfl (λl=>by rw[d4] at l;cases l.2.2))⟩⟩⟩⟩
 ·have d3: ¬ (ib h v a=true/\xB .u64 b 2>0):=by
   intro e;have:((gw h.g v a).2.1&&decide (xB .u64 b 2>0))=true:=by rw[F5,decide_eq_true_eq];exact e
   rw[this] at d3;cases d3
  obtain⟨g1,y, _, _⟩:=S.tA (X:=X) (A:=A) (g:=h.g) (by simp) (bW W [_, _]) m;exact⟨rfl,rfl,⟨rfl,by omega,by show v<((17:Nat):Int);omega⟩,aj.of _ g1 ⟨rfl,rfl,aj.of _ y ⟨rfl,S.cx 1 rfl rfl ⟨rfl,S.cx 1 rfl rfl (by
   rw[u,eb];exact fin (T:=[]) S rfl (λl=>d3 ⟨l.1,l.2.1⟩))⟩⟩⟩⟩
end
theorem MW (s:WD) (r:Int) (gone:Bool) (p:Int):0<=(bz s r gone p).1/\(bz s r gone p).1<5000:=by
 have z:(0:Int)<=0/\(0:Int)<5000:=by decide
 unfold bz;split
 ·exact z
 ·split
  ·exact z
  ·split
   ·have h:=JA (B (dK s.1 (dD s.1 r p).2.2.1)).toNat;have h:0<=(db s.1 r p).2.2.2.1/\(db s.1 r p).2.2.2.1<4096:=h;show 0<=qR p (dD s.1 r p) (db s.1 r p)/\qR p (dD s.1 r p) (db s.1 r p)<5000;unfold qR;split<;>omega
   ·exact z
theorem EY (g:Nat->Option GV) (s:WD) (v p:Int):0<=(fv g s v p).1/\(fv g s v p).1<5000:=by
 have z:(0:Int)<=0/\(0:Int)<5000:=by decide
 unfold fv;split
 ·split
  ·exact MW _ _ _ _
  ·exact z
 ·exact z
def xK (h:HS) (v a:Int):Int:=
 if a>=65536 then 2 else if(fv h.g h.s v a).2.2.1≠0 then(fv h.g h.s v a).2.2.1 else if ib h v a=true then 7 else if(oV h.s.2 (fv h.g h.s v a).1).2.2.1>0 then 9 else 0
def CC (h:HS) (v a:Int):Int×Int:=if xK h v a=0 then((fv h.g h.s v a).1,0) else(0,xK h v a)
def qV (h:HS) (v a:Int):HS:=if xK h v a=0 then bD h ((nv h.s v (a9 h.g v) false a).1,dL (nv h.s v (a9 h.g v) false a).2 (fv h.g h.s v a).1 (aO 5 v)) else h
section
variable {Q:Sys} {X:HX} {D G:List Nat} {w0 w:A1} {h:HS} {L:List (Nat×List AC)} {K:RS->A1->Prop}
theorem Ih (H:jq Q X D G w0 w h L) {v:Int} (q:aV h.g v=true) (u:Ol Q h.s) (y:0<=a9 h.g v/\a9 h.g v<4096) (k:Int) {a:Int} (b c:Int) (z:0<=a) (kk: ∀f,jq Q X D G w0 f (qV h v a) L->K ((CC h v a).1,(CC h v a).2,()) f):
 aE A2 125 (.el (.agg iR)) [ag (af X.hb),aa v,.agg ⟨gm k a b c⟩] w K:=by
 obtain⟨A,W,H⟩:=H;obtain⟨N,S,J⟩:=H.call;obtain⟨x,r,O,hv,P,R⟩:=bZ q;refine aQ (C:=V0) (aR:=λ_=>[]) (AP (Dr _ v k a b c w K) ?_);have l:xK h v a≠0-> ∀{f},jq Q X D G w0 f h L->K (0,xK h v a,()) f:=λt f H=>by
  have m:CC h v a=(0,xK h v a):=ao t;have o:qV h v a=h:=ao t;rw[m,o] at kk;exact kk f H
 have e:xK h v a=if a>=65536 then 2 else if(fv h.g h.s v a).2.2.1≠0 then(fv h.g h.s v a).2.2.1 else if ib h v a=true then 7 else if(oV h.s.2 (fv h.g h.s v a).1).2.2.1>0 then 9 else 0:=rfl;refine S.al λT f S=>S.al λU V S=>⟨rfl,S.cx 1 rfl rfl ?_⟩;refine ab (λd=>⟨trivial,S.res (j:=0) rfl 0 _ λB S=>?_⟩) (λd=>⟨rfl,S.cx 1 rfl rfl ?_⟩)
 ·rw[av (by simpa using d)] at e;rw[e] at l;exact l (by decide) ⟨A,W,J S.tail.tail⟩
 have d: ¬ a>=65536:=by simpa using d
 rw[ao d] at e;have E:aD .i64 a=a:=bM ⟨z,by omega⟩;rw[E];refine qB S (X:=X) (A:=A) (g:=h.g) (by simp) (bW W [_, _]) v a λB S=>?_;have Y:=EY h.g h.s v a;refine ab (λd=>⟨trivial,S.res (j:=0) rfl 0 _ λp S=>?_⟩) (λd2=>?_)
 ·have d:(fv h.g h.s v a).2.2.1≠0:=by simpa using d
  rw[av d] at e;rw[e] at l;exact l d ⟨A,W,J S.tail.tail⟩
 rw[ao (by simpa using d2)] at e;refine⟨gw h.g v a,pR (J S) (X:=X) (A:=A) (g:=h.g) (by simp) (bW W [_, _]) (fQ W) (λi x r=>W.mp r) v a,?_⟩;refine ab (λd=>⟨trivial,S.res (j:=0) rfl 0 _ λp S=>?_⟩) (λd3=>?_)
 ·rw[av (show ib h v a=true from d)] at e;rw[e] at l;exact l (by decide) ⟨A,W,J S.tail.tail⟩
 rw[ao (show ¬ ib h v a=true by unfold ib;rw[d3];decide)] at e;refine⟨rfl,rfl,aj.of _ (S.fT (X:=X) (A:=A) (g:=h.g) (by simp) (n:=1) rfl) ⟨(oV h.s.2 (fv h.g h.s v a).1,xR h.s.2 (fv h.g h.s v a).1,()),S.ofq _,S.al λZ p S=>S.fm 0 rfl rfl rfl λw6 S=>⟨rfl,S.cx 0 rfl rfl ?_⟩⟩⟩;refine ab (λd=>⟨trivial,S.res (j:=1) rfl 0 _ λp S=>?_⟩) (λd4=>?_)
 ·rw[av (by simpa using d)] at e;rw[e] at l;exact l (by decide) ⟨A,W,J S.tail.tail.tail⟩
 rw[ao (by simpa using d4)] at e;have m:CC h v a=((fv h.g h.s v a).1,0):=av e;have o:qV h v a=bD h _:=av e;rw[m,o] at kk;obtain⟨g1,F, _,j,I⟩:=S.tA (X:=X) (A:=A) (g:=h.g) (by simp) (bW W [_, _, _]) q;refine⟨rfl,rfl,⟨rfl,by omega,by show v<((17:Nat):Int);omega⟩,aj.of _ g1 ⟨rfl,rfl,aj.of _ F (S.Ei u j I y a λw7 S=>⟨rfl,rfl,aj.of _ (S.fT (X:=X) (A:=A) (g:=h.g) (by simp) (n:=1) rfl) (S.Uw _ 5 v λw8 S=>?_)⟩)⟩⟩;rw[dH (by omega)];exact S.res (j:=1) rfl _ 0 λM S=>kk M ⟨A,⟨W.jo,W.mp,W.gl,W.pt,W.gk⟩,J S.tail.tail.tail⟩
end
theorem Ii {ds:List DT} (b:ds.length<=4096) (y o:Int):0<=fl ds y o/\fl ds y o<4096:=by
 have z:(0:Int)<=0/\(0:Int)<4096:=by decide
 unfold fl;split
 ·exact z
 ·rename_i n a;unfold iI at a;rw[IQ] at a;obtain⟨h1, _⟩:=a;split
  ·exact⟨by omega,by omega⟩
  ·exact z
def kQ (h:HS) (v:Int):WD:=(h.s.1,dF h.s.2 4 v)
def jt (h:HS) (v:Int):Int:=fl h.s.2 4 v
def qW (h:HS) (v a b:Int):WD:=jC (kQ h v) v (a9 h.g v) false a (jt h v) b
def qX (h:HS) (v a b:Int):Int:=
 if a>=65536 then 2 else if b<1\/b>7 then 7 else if dS h.s.2 4 v≠0 then dS h.s.2 4 v else lU (kQ h v) (a9 h.g v) false a (jt h v) b
def yB (h:HS) (v a b:Int):Int×Int:=if qX h v a b=0 then(jt h v,0) else(0,qX h v a b)
def jS (h:HS) (v a b:Int):HS:=
 if a>=65536 then h else if b<1\/b>7 then h else if dS h.s.2 4 v≠0 then bD h (kQ h v)
 else if lU (kQ h v) (a9 h.g v) false a (jt h v) b≠0 then bD h ((qW h v a b).1,dL (qW h v a b).2 (jt h v) (aO 0 0))
 else bD h (fb (qW h v a b).1 (jt h v) (λ_=>0) 16,(qW h v a b).2)
section
variable {Q:Sys} {X:HX} {D G:List Nat} {w0 w:A1} {h:HS} {L:List (Nat×List AC)} {K:RS->A1->Prop}
theorem MX (H:jq Q X D G w0 w h L) {v:Int} (B:aV h.g v=true) (k:Int) {a b:Int} (c:Int) (V:0<=a) (hb:0<=b) (kk: ∀l,jq Q X D G w0 l (jS h v a b) L->K ((yB h v a b).1,(yB h v a b).2,()) l):
 aE A2 124 (.el (.agg iR)) [ag (af X.hb),aa v,.agg ⟨gm k a b c⟩] w K:=by
 obtain⟨A,W,H⟩:=H;obtain⟨E,S,J⟩:=H.call;obtain⟨x,hx,td,hv,vV,rM⟩:=bZ B;refine aQ (C:=V0) (aR:=oD) (AP (FB _ v k a b c w K) ?_);have I:=Ii S.le 4 v;have wf: ∀s',DN A (bD h s'):=λs'=>⟨W.jo,W.mp,W.gl,W.pt,W.gk⟩;have p: ∀e,e≠0->qX h v a b=e->yB h v a b=(0,e):=λe Y h1=>by
  unfold yB;rw[ao (by rw[h1];exact Y),h1]
 refine S.al λM l S=>S.al λN w3 S=>⟨rfl,S.cx 1 rfl rfl ?_⟩;refine ab (λd=>⟨trivial,S.res (j:=0) rfl 0 _ λq S=>?_⟩) (λd=>⟨rfl,S.cx 1 rfl rfl ⟨λ_=>rfl,S.cx 1 rfl rfl ?_⟩⟩)
 ·have d:a>=65536:=by simpa using d
  have f:jS h v a b=h:=av d;rw[p 2 (by decide) (av d),f] at kk;exact kk q ⟨A,W,J S.tail.tail⟩
 have d: ¬ a>=65536:=by simpa using d
 have Z:aD .i64 a=a:=bM ⟨V,by omega⟩;refine ab (λd2=>⟨trivial,S.res (j:=0) rfl 0 _ λq S=>?_⟩) (λd2=>⟨rfl,rfl,?_⟩)
 ·have d2:b<1\/b>7:=by simpa using d2
  have o:qX h v a b=7:=by unfold qX;rw[ao d,av d2]
  have f:jS h v a b=h:=by unfold jS;rw[ao d,av d2]
  rw[p 7 (by decide) o,f] at kk;exact kk q ⟨A,W,J S.tail.tail⟩
 have d2: ¬ (b<1\/b>7):=by
  intro e;have:(decide (b<1)||decide (b>7))=true:=by simpa using e
  rw[this] at d2;cases d2
 have eb:aD .i64 b=b:=bM ⟨hb,by omega⟩;refine aj.of _ (S.fT (X:=X) (A:=A) (g:=h.g) (by simp) (n:=1) rfl) (S.take 4 v λq S=>?_);refine ab (λd3=>⟨trivial,S.res (j:=0) rfl 0 _ λy S=>?_⟩) (λd3=>?_)
 ·have d3:dS h.s.2 4 v≠0:=by simpa using d3
  have o:qX h v a b=dS h.s.2 4 v:=by unfold qX;rw[ao d,ao d2,av d3]
  have f:jS h v a b=bD h (kQ h v):=by unfold jS;rw[ao d,ao d2,av d3]
  rw[p _ d3 o,f] at kk;exact kk y ⟨A,wf _,J S.tail.tail⟩
 have d3: ¬ dS h.s.2 4 v≠0:=by
  intro e;have:(dS h.s.2 4 v != 0)=true:=by simpa using e
  rw[this] at d3;cases d3
 obtain⟨g1,O, _,j,P⟩:=S.tA (X:=X) (A:=A) (g:=h.g) (by simp) (bW W [_, _]) B;refine⟨rfl,rfl,⟨rfl,by omega,by show v<((17:Nat):Int);omega⟩,aj.of _ g1 ⟨rfl,rfl,aj.of _ O ⟨rfl,S.cx 1 rfl rfl ⟨rfl,S.cx 1 rfl rfl ?_⟩⟩⟩⟩;rw[Z,eb];refine S.map j P a (jt h v) b λy S=>?_;have S:bj Q [] E w y (qW h v a b) ((N,[ay 0,aa 0])::(M,gm k a b c)::dZ Q X A h (bh Q A h.g (AL 17)++L)):=S;have R:qX h v a b=lU (kQ h v) (a9 h.g v) false a (jt h v) b:=by unfold qX;rw[ao d,ao d2,ao d3]
 refine ab (λd4=>⟨rfl,rfl,?_⟩) (λd4=>?_)
 ·have d4: ¬ lU (h.s.1,dF h.s.2 4 v) (a9 h.g v) false a (jt h v) b=0:=by simpa using d4
  have d4:lU (kQ h v) (a9 h.g v) false a (jt h v) b≠0:=d4;have f:jS h v a b=bD h ((qW h v a b).1,dL (qW h v a b).2 (jt h v) (aO 0 0)):=by unfold jS;rw[ao d,ao d2,ao d3,av d4]
  rw[p _ d4 R,f] at kk;exact aj.of _ (S.fT (X:=X) (A:=A) (g:=h.g) (by simp) (n:=1) rfl) (S.Gx (jt h v) λT S=>⟨trivial,S.res (j:=0) rfl 0 _ λr S=>kk r ⟨A,wf _,J S.tail.tail⟩⟩)
 have d4: ¬ lU (kQ h v) (a9 h.g v) false a (jt h v) b≠0:=by
  intro e;have:(lU (kQ h v) (a9 h.g v) false a (jt h v) b != 0)=true:=by simpa using e
  exact absurd (this.symm.trans d4) (by decide)
 have o:yB h v a b=(jt h v,0):=by
  unfold yB;rw[R,av (by omega)]
 have f:jS h v a b=bD h (fb (qW h v a b).1 (jt h v) (λ_=>0) 16,(qW h v a b).2):=by unfold jS;rw[ao d,ao d2,ao d3,ao d4]
 rw[o,f] at kk;have I:0<=jt h v/\jt h v<4096:=I;obtain⟨F,t⟩: ∃F:Nat->List Int,F=λi=>fb (qW h v a b).1 (jt h v) (λ_=>0) i:=⟨_,rfl⟩;have F0:F 0=(qW h v a b).1:=by rw[t];rfl
 have Fs: ∀i,F (i+1)=cZ (F i) (16*jt h v+(i:Int)) 0:=λi=>by rw[t];rfl
 have kk: ∀l,jq Q X D G w0 l (bD h (F 16,(qW h v a b).2)) L->K (jt h v,0,()) l:=by rw[t];exact kk
 clear t;refine⟨λn u w'=> ∃m:Nat,u.1=(m:Int)/\n+m=16/\bj Q [] E w w' (F m,(qW h v a b).2) ((N,[ay 0,aa 0])::(M,gm k a b c)::dZ Q X A h (bh Q A h.g (AL 17)++L)),⟨16,λT h6=>⟨0,rfl,rfl,by rw[F0];exact S.ext h6⟩⟩,?_⟩;clear S g1 O P;rintro n ⟨u,u2⟩ T ⟨m,e,hn,S⟩;dsimp only at e ⊢;subst e;have efr:(fl h.s.2 4 v)=jt h v:=rfl;rw[efr];refine ab (λz=>?_) (λz=>?_)
 ·have U:m<16:=by
   have:(m:Int)<16:=by simpa using z
   omega
  have e5:aH .i64 (iB .i64 16 (jt h v)) (m:Int)=16*jt h v+(m:Int):=by rw[eK (by omega) (by omega),aw (by omega) (by omega)]
  rw[e5];refine⟨rfl,rfl,aj.of _ (S.fT (X:=X) (A:=A) (g:=h.g) (by simp) (n:=0) rfl) (S.store _ 0 (by decide) λr S=>λw8 h8=>⟨n - 1,by omega,m+1,by rw[aw (by omega) (by omega)];omega,by omega,?_⟩)⟩;rw[Fs];exact S.ext h8
 ·have U:m=16:=by
   have: ¬ (m:Int)<16:=by simpa using z
   omega
  subst U;rw[dH (by omega)];exact S.res (j:=0) rfl _ 0 λr S=>kk r ⟨A,wf _,J S.tail.tail⟩
end
def dA (h:HS) (v p id f:Int):HS where
 s:=((nv h.s v (a9 h.g v) false p).1,dL (nv h.s v (a9 h.g v) false p).2 f (ia (-1)))
 g:=bq h.g v.toNat (match h.g v.toNat with|some x=>some {x with tk:=x.tk.filter λt=> !(t.1==p)}|none=>none)
 gr:=eR h.gr id v
 po:=h.po
theorem qD (gs:List GT) (i o:Int):(eR gs i o).length=gs.length:=by
 unfold eR;split
 ·rw[DR]
 ·rfl
theorem PV {α:Type} {T L:List α} {k:Nat} {x:α} (h:L[k]? =some x):(T++L)[T.length+k]? =some x:=by
 rw[FU (by omega),show T.length+k - T.length=k by omega];exact h
section
variable {Q:Sys} {X:HX} {D G:List Nat} {w0 w:A1} {h:HS} {L:List (Nat×List AC)}
theorem EZ {A:Nat->GA} (W:DN A h) {T:List (Nat×List AC)} (H:SM Q D G w0 w h.s (T++dZ Q X A h (bh Q A h.g (AL 17)++L)) (dm A h.g (AL 17))) {v p id f:Int} (o:aV h.g v=true) (U:Ol Q h.s) (V:0<=a9 h.g v/\a9 h.g v<4096)
 {x:GV} (l:h.g v.toNat=some x) (Y:cg x.tk p=some (id,f)) {K:Unit->A1->Prop} (kk: ∀A' y,(∀i,(A' i).bg=(A i).bg)->DN A' (dA h v p id f)->SM Q D G w0 y (dA h v p id f).s (T++dZ Q X A' (dA h v p id f) (bh Q A' (dA h v p id f).g (AL 17)++L)) (dm A' (dA h v p id f).g (AL 17))->K () y):
 az A2 167 (.bu []) [ag (af X.hb),aa v,aa p] w K:=by
 obtain⟨x',I,td,hv,vV,rM⟩:=bZ o;rw[l] at I;cases I;refine H.go λw1 H=>ai (C:=V0) (aR:=uO) (AP (Si _ v p w1 K) ?_);obtain⟨G',S,J⟩:=H.call;have mem: ∀{T':List (Nat×List AC)},(X.hb,fh Q X A h.g)∈T'++(T++dZ Q X A h (bh Q A h.g (AL 17)++L)):=λ{T'}=>AY _ (AY _ Am);have z: ∀{T':List (Nat×List AC)}, ∀i v,h.g i=some v-> ∀x∈gT Q A i v,x∈T'++(T++dZ Q X A h (bh Q A h.g (AL 17)++L)):=λ{T'} i v hv x l=>AY _ (bW W T i v hv x l);obtain⟨g1,M,B, _⟩:=S.tA (X:=X) (A:=A) (g:=h.g) (mem (T':=[])) (z (T':=[])) o;obtain⟨r,N,O⟩:=(W.mp l).find p;rw[Y] at O;obtain⟨i,e,hi,Z⟩:=O;have E:bF w1 (A v.toNat).bm ⟨(A v.toNat).es⟩ (A v.toNat).ck:=H.get (fQ W _ _ l);refine⟨rfl,rfl,⟨rfl,by omega,by show v<((17:Nat):Int);omega⟩,aj.of _ g1 ⟨rfl,rfl,aj.of _ B ⟨(id,f,()),⟨_, _, _,rfl,E,?_⟩,S.al λb y S=>S.fm 0 rfl rfl rfl λw3 S=>⟨rfl,rfl,?_⟩⟩⟩⟩
 ·rw[N,e]
 obtain⟨_, _,B, _⟩:=S.tA (X:=X) (A:=A) (g:=h.g) (mem (T':=[_])) (z (T':=[_])) o;refine aj.of _ B λw4 h4=>?_;have H:=(J S).ext h4;have E:bF w4 (A v.toNat).bm ⟨(A v.toNat).es⟩ (A v.toNat).ck:=H.get (fQ W _ _ l);refine⟨_, _, _,rfl,E,?_⟩;unfold AD;rw[N,e];dsimp only;have hea:(Nz (⟨(A v.toNat).es⟩:Array B3) i)=⟨(A v.toNat).es.eraseIdx i⟩:=by
  apply Array.ext';rw[Array.toList_eraseIdxIfInBounds]
 rw[hea];have KH:v.toNat<17:=by omega
 have H:=H.PU KH l ((A v.toNat).es.eraseIdx i) (A v.toNat).ck (x.tk.filter λt=> !(t.1==p));have q:=JN (A:=A) l ((A v.toNat).es.eraseIdx i) (A v.toNat).ck (x.tk.filter λt=> !(t.1==p));obtain⟨A',P⟩: ∃A',A'=oR A v.toNat {A v.toNat with es:=(A v.toNat).es.eraseIdx i,ck:=(A v.toNat).ck}:=⟨_,rfl⟩;have F:bq h.g v.toNat (some {x with tk:=x.tk.filter λt=> !(t.1==p)})=(dA h v p id f).g:=by
  show _=bq h.g v.toNat (match h.g v.toNat with|some x=> _|none=>none);rw[l]
 have hmp: ∀{a m},(dA h v p id f).g a=some m->qU (A' a).es (A' a).ck m.tk:=λ{a m} d=>by
  rw[<-F] at d;rw[P];unfold bq at d;unfold oR;by_cases u:a=v.toNat
  ·rw[av u] at d ⊢;cases d;exact Z
  ·rw[ao u] at d ⊢;exact W.mp d
 have Uc: ∀{a m},(dA h v p id f).g a=some m->1<=a/\a<=16:=λ{a m} d=>by
  rw[<-F] at d;unfold bq at d;by_cases u:a=v.toNat
  ·omega
  ·rw[ao u] at d;exact W.jo d
 rw[<-P,F] at H q;obtain⟨G2,S,J2⟩:=H.call;obtain⟨_,M, _,j,hj⟩:=S.tA (X:=X) (A:=A) (g:=h.g) (mem (T':=[_])) (z (T':=[_])) o;refine⟨rfl,rfl,aj.of _ M (S.Ei U j hj V p λw5 S=>⟨rfl,rfl,aj.of _ (S.fT (X:=X) (A:=A) (g:=h.g) (mem (T':=[_])) (n:=1) rfl) ⟨rfl,S.cx 0 rfl rfl (S.aaU f (-1) (by decide) λw6 S=>⟨rfl,rfl,aj.of _ (S.fT (X:=X) (A:=A) (g:=h.g) (mem (T':=[_])) (n:=2) rfl) ⟨rfl,S.cx 0 rfl rfl ?_⟩⟩)⟩⟩)⟩;refine S.XN (T.length+1+1) (T.length+2+1) (PV (T:= _::T) (k:=1) rfl) (PV (T:= _::T) (k:=2) rfl) (by rw[W.gl];decide) W.gk.use id v λw7 S=>S.en λR S=>kk A' R q.bg ⟨Uc,hmp,(qD _ _ _).trans W.gl,W.pt,W.gk.back _ _⟩ (J2 ?_);have e1:dZ Q X A' (dA h v p id f) (bh Q A' (dA h v p id f).g (AL 17)++L)=(dZ Q X A h (bh Q A h.g (AL 17)++L)).set 2 (X.u5,flat eG (eR h.gr id v)++X.rest):=by
  show(X.hb,fh Q X A' (dA h v p id f).g)::(X.gb,mG X.u5 (eR h.gr id v).length X.c)::(X.u5,flat eG (eR h.gr id v)++X.rest)::(X.pb,Po.gE 4 h.po)::(bh Q A' (dA h v p id f).g (AL 17)++L)= _;rw[q.cs,q.rows,qD];rfl
 have S:bj Q [] G2 _ R _ ((T++dZ Q X A h (bh Q A h.g (AL 17)++L)).set (T.length+2) (X.u5,flat eG (eR h.gr id v)++X.rest)):=S.tail;rw[H4 _ _ (by omega),show T.length+2 - T.length=2 by omega, <-e1] at S;exact S
end
def N2 (h:HS) (v p:Int):Int×Int:=match h.g v.toNat with
 |some x=>(cg x.tk p).getD (0,0)
 |none=>(0,0)
def pD (h:HS) (v a:Int):Int:=if a>=65536 then 2 else if ib h v a=true then 0 else 4
def g_ (h:HS) (v a:Int):HS:=if a>=65536 then h else if ib h v a=true then dA h v a (N2 h v a).1 (N2 h v a).2 else h
theorem tZ {h:HS} {v p:Int} {x:GV} (a:aV h.g v=true) (b:h.g v.toNat=some x):ib h v p=true<->cg x.tk p=some (N2 h v p):=by
 unfold ib gw N2;rw[av a,b];dsimp only;cases cg x.tk p<;>simp
section
variable {Q:Sys} {X:HX} {D G:List Nat} {w0 w:A1} {h:HS} {L:List (Nat×List AC)} {K:RS->A1->Prop}
theorem Wh (H:jq Q X D G w0 w h L) {v:Int} (l:aV h.g v=true) (o:Ol Q h.s) (p:0<=a9 h.g v/\a9 h.g v<4096) (k:Int) {a:Int} (b c:Int) (q:0<=a) (kk: ∀m,jq Q X D G w0 m (g_ h v a) L->K (0,pD h v a,()) m):
 aE A2 131 (.el (.agg iR)) [ag (af X.hb),aa v,.agg ⟨gm k a b c⟩] w K:=by
 obtain⟨A,W,H⟩:=H;obtain⟨y,S,J⟩:=H.call;obtain⟨x,e,z,hv,B,E⟩:=bZ l;refine aQ (C:=V0) (aR:=λ_=>[]) (AP (ME _ v k a b c w K) ?_);unfold pD g_ at kk;refine S.al λF m S=>S.al λI M S=>⟨rfl,S.cx 1 rfl rfl ?_⟩;refine ab (λd=>⟨trivial,S.res (j:=0) rfl 0 _ λf S=>?_⟩) (λd=>⟨rfl,S.cx 1 rfl rfl ?_⟩)
 ·rw[av (by simpa using d),av (by simpa using d)] at kk;exact kk f ⟨A,W,J S.tail.tail⟩
 have d: ¬ a>=65536:=by simpa using d
 rw[ao d,ao d] at kk;have n:aD .i64 a=a:=bM ⟨q,by omega⟩;rw[n];refine⟨gw h.g v a,pR (J S) (X:=X) (A:=A) (g:=h.g) (by simp) (bW W [_, _]) (fQ W) (λi x e=>W.mp e) v a,?_⟩;refine ab (λd2=>⟨trivial,S.res (j:=0) rfl 0 _ λf S=>?_⟩) (λd2=>⟨rfl,S.cx 1 rfl rfl ?_⟩)
 ·have d2: ¬ ib h v a=true:=by
   unfold ib;simpa using d2
  rw[ao d2,ao d2] at kk;exact kk f ⟨A,W,J S.tail.tail⟩
 ·have d2:ib h v a=true:=by
   unfold ib;simpa using d2
  rw[av d2,av d2] at kk;rw[n];refine EZ W (T:=[_, _]) (J S) l o p e ((tZ l e).1 d2) λA' f _ r H=>?_;obtain⟨N,S,t⟩:=H.call;exact S.res (j:=0) rfl 0 0 λu S=>kk u ⟨A',r,t S.tail.tail⟩
end
def mJ (t:TK):List TK->List TK
 |[]=>[t]
 |u::l=>if u.1<t.1 then u::mJ t l else t::u::l
theorem na (t:TK): ∀l,(mJ t l).Perm (t::l)
 |[]=>E4 _
 |u::l=>by
  rw[mJ];split
  ·exact((na t l).cons u).trans (.swap _ _ _)
  ·exact E4 _
def lT (h:HS) (a:Int):GT:=xF h.gr a
def lO (h:HS) (a:Int):Int×Int×Int×Unit:=fv h.g h.s (lT h a).1 (lT h a).2.1
def xy (c:Int):Int:=if c=1 then 3 else 1
def nA (h:HS) (v a b c:Int):Int:=
 if b>=65536 then 2 else if a>=16\/c>1 then 1 else if(l5 h.gr a).isSome=false then 4
 else if(lT h a).2.2.1≠v\/(c=1/\(lT h a).2.2.2.1=false) then 7 else if(lO h a).2.2.1≠0 then 4 else if ib h (lT h a).1 (lT h a).2.1=true then 7
 else if gZ h.gr a v (c==1)≠0 then gZ h.gr a v (c==1) else lU h.s (a9 h.g v) false b (lO h a).1 (xy c)
def iq (h:HS) (v a b c:Int):HS where
 s:=((jC h.s v (a9 h.g v) false b (lO h a).1 (xy c)).1,dL (jC h.s v (a9 h.g v) false b (lO h a).1 (xy c)).2 (lO h a).1 (ia 1))
 g:=bq h.g v.toNat (match h.g v.toNat with|some x=>some {x with tk:=mJ (b,a,(lO h a).1) x.tk}|none=>none)
 gr:=eh h.gr a v (c==1)
 po:=h.po
def Bb (h:HS) (v a b c:Int):HS:={h with s:=jC h.s v (a9 h.g v) false b (lO h a).1 (xy c),gr:=eR (eh h.gr a v (c==1)) a v}
def mC (h:HS) (v a b c:Int):Int:=
 if b>=65536 then 2 else if a>=16\/c>1 then 1 else if(l5 h.gr a).isSome=false then 4
 else if(lT h a).2.2.1≠v\/(c=1/\(lT h a).2.2.2.1=false) then 7 else if(lO h a).2.2.1≠0 then 4 else if ib h (lT h a).1 (lT h a).2.1=true then 7 else gZ h.gr a v (c==1)
def jz (h:HS) (v a b c:Int):HS:=if mC h v a b c≠0 then h else if nA h v a b c=0 then iq h v a b c else Bb h v a b c
theorem MY (gs:List GT) (i g:Int) (b:Bool):(eh gs i g b).length=gs.length:=by
 unfold eh;split
 ·rw[DR]
 ·rfl
section
variable {Q:Sys} {X:HX} {D G:List Nat} {w0 w:A1} {h:HS} {L:List (Nat×List AC)} {K:RS->A1->Prop}
theorem aam {A:Nat->GA} (W:DN A h) {v a b c:Int} {x:GV} (f:h.g v.toNat=some x) (hv:((v.toNat:Nat):Int)=v) (vV:1<=v) (rM:v<=16) (t:cg x.tk b=none) (F:(eh h.gr a v (c==1)).length=h.gr.length) {h1:HS} (I:h1=yP h (eh h.gr a v (c==1)))
 {J l M:Nat} {N u la:List AC} (O:u=[ay 0,aa 0]) {m:A1}
 (H:SM Q D G w0 m ((jC h.s v (a9 h.g v) false b (lO h a).1 (xy c)).1,dL (jC h.s v (a9 h.g v) false b (lO h a).1 (xy c)).2 (lO h a).1 (ia 1)) ((J,N)::(l,u)::(M,la)::dZ Q X A h1 (bh Q A h.g (AL 17)++L)) (dm A h.g (AL 17)))
 (kk: ∀i,jq Q X D G w0 i (iq h v a b c) L->K (0,0,()) i):
 ∃r es w,some (A v.toNat).bm=some r/\bF m r es w/\gX m r .i64 b (.agg ⟨[aa a,aa (lO h a).1]⟩) es w λi=>
  aC i (af l) [ay 0,aa 0] λi=>au i λw1=>aj w1 none (af l) (.agg [.int .u64,.int .i64]) λx=>K (x.1,x.2.1,()) w1:=by
 subst O;have P:=H.get (fQ W _ _ f);refine⟨_, _, _,rfl,P,?_⟩;obtain⟨r,y,z⟩:=(W.mp f).find b;rw[t] at z;rw[z] at y;unfold gX;have R:=y;rw[R];have T:(⟨(A v.toNat).es⟩:Array B3).push {key:=aa b,val:= .agg ⟨[aa a,aa (lO h a).1]⟩,born:=(A v.toNat).ck}=⟨(A v.toNat).es++[{key:=aa b,val:= .agg ⟨[aa a,aa (lO h a).1]⟩,born:=(A v.toNat).ck}]⟩:=by
  grind
 rw[T];have B:=(W.mp f).push t (na (b,a,(lO h a).1) x.tk);have U:v.toNat<17:=by omega
 have V:({key:=(xJ (b,a,(lO h a).1)).1,val:=(xJ (b,a,(lO h a).1)).2,born:=(A v.toNat).ck}:B3)={key:=aa b,val:= .agg ⟨[aa a,aa (lO h a).1]⟩,born:=(A v.toNat).ck}:=rfl;rw[V] at B;generalize (A v.toNat).es++[{key:=aa b,val:= .agg _,born:=(A v.toNat).ck}]=n at B ⊢;have H:=H.PU U f n ((A v.toNat).ck+1) (mJ (b,a,(lO h a).1) x.tk);have o:=JN (A:=A) f n ((A v.toNat).ck+1) (mJ (b,a,(lO h a).1) x.tk);obtain⟨A',C⟩: ∃A',A'=oR A v.toNat {A v.toNat with es:=n,ck:=(A v.toNat).ck+1}:=⟨_,rfl⟩;have p:bq h.g v.toNat (some {x with tk:=mJ (b,a,(lO h a).1) x.tk})=(iq h v a b c).g:=by
  show _=bq h.g v.toNat _;rw[f]
 have Y: ∀{d k},(iq h v a b c).g d=some k->qU (A' d).es (A' d).ck k.tk:=λ{d k} e=>by
  rw[<-p] at e;rw[C];unfold bq at e;unfold oR;by_cases q:d=v.toNat
  grind
  ·rw[ao q] at e ⊢;exact W.mp e
 have Z: ∀{d k},(iq h v a b c).g d=some k->1<=d/\d<=16:=λ{d k} e=>by
  rw[<-p] at e;unfold bq at e;by_cases q:d=v.toNat
  ·omega
  ·rw[ao q] at e;exact W.jo e
 rw[<-C,p] at H o;obtain⟨G2,S,J2⟩:=H.call;refine S.res (j:=1) rfl 0 0 λE S=>kk E ⟨A',⟨Z,Y,F.trans W.gl,W.pt,W.gk.take _ _ _⟩,J2 ?_⟩;have S:=S.tail.tail.tail;rw[I] at S;show bj Q [] G2 _ E _ ((X.hb,fh Q X A' _)::(X.gb,mG X.u5 _ X.c)::(X.u5,flat eG _++X.rest)::(X.pb,Po.gE 4 h.po)::(bh Q A' _ _++L));rw[o.cs,o.rows];exact S
theorem JO {A:Nat->GA} (W:DN A h) {v a b c:Int} {x:GV} (f:h.g v.toNat=some x) (hv:((v.toNat:Nat):Int)=v) (I:1<=v) (M:v<=16) (u:aV h.g v=true)
 (N: ∀x,h.g v.toNat=some x->lU h.s (a9 h.g v) false b (lO h a).1 (xy c)=0->cg x.tk b=none)
 (w:(eh h.gr a v (c==1)).length=h.gr.length) {h1:HS} (k:h1=yP h (eh h.gr a v (c==1))) (l:DN A h1)
 {O e P:Nat} {R la:List AC} {m B:A1} {o:List Nat}
 (J: ∀{d:A1} {s':WD} {L':List (Nat×List AC)},bj Q [] o m d s' L'->SM Q D G w0 d s' L' (dm A h.g (AL 17)))
 (S:bj Q [] o m B h.s ((O,R)::(e,[ay 0,aa 0])::(P,la)::dZ Q X A h1 (bh Q A h.g (AL 17)++L)))
 (C:nA h v a b c=lU h.s (a9 h.g v) false b (lO h a).1 (xy c)) (hS0:jz h v a b c=if nA h v a b c=0 then iq h v a b c else Bb h v a b c)
 (kk: ∀d,jq Q X D G w0 d (jz h v a b c) L->K (0,nA h v a b c,()) d):
 az A2 173 (.el (.one (.int .i64))) [ag (some ⟨(A v.toNat).bt,0,none⟩),aa b,aa (lO h a).1,aa (xy c)] B λ(y:Int) (d:A1)=>
  aI (y != 0)
   ((some (⟨X.hb,0,none⟩:AM)).isSome=true/\(some (⟨X.hb,0,none⟩:AM)).isSome=true/\
    aj d none (ad (af X.hb) 2) (.one .ptr) λ(z:Option AM)=>
     az A2 182 (.el (.one (.int .i64))) [ag z,aa a,aa v] d λ(_:Int) (d:A1)=>
      True/\aC d (af e) [ay 0,aa y] λ(d:A1)=>au d λ(w1:A1)=>aj w1 none (af e) (.agg [.int .u64,.int .i64]) λ(x:Int×Int×Unit)=>K (x.1,x.2.1,()) w1)
   ((some (⟨X.hb,0,none⟩:AM)).isSome=true/\(some (⟨X.hb,0,none⟩:AM)).isSome=true/\
    aj d none (ad (af X.hb) 1) (.one .ptr) λ(z:Option AM)=>
     az A2 183 (.el (.one (.int .i64))) [ag z,aa (lO h a).1,aa 1] d λ(_:Int) (d:A1)=>
      (some (⟨X.hb,0,none⟩:AM)).isSome=true/\(some (⟨X.hb,0,none⟩:AM)).isSome=true/\((ad (af X.hb) 4).isSome=true/\0<=v/\v<((17:Nat):Int))/\
       aj d none (ad (ad (af X.hb) 4) (v.toNat*1)) (.one .ptr) λ(p:Option AM)=>
        p.isSome=true/\p.isSome=true/\
         aj d none (ad p 1) (.one .map) λ(U:Option Nat)=>
          ∀(w1:A1),Ext d w1-> ∃(r:Nat), ∃(es:Array B3), ∃(E:Nat),U=some r/\bF w1 r es E/\
           gX w1 r .i64 b (.agg ⟨[aa a,aa (lO h a).1]⟩) es E λ(d:A1)=>
            aC d (af e) [ay 0,aa 0] λ(d:A1)=>au d λ(w1:A1)=>aj w1 none (af e) (.agg [.int .u64,.int .i64]) λ(x:Int×Int×Unit)=>K (x.1,x.2.1,()) w1):=by
 have mem: ∀{T},(X.hb,fh Q X A h.g)∈T++dZ Q X A h1 (bh Q A h.g (AL 17)++L):=λ{T}=>AY T (by rw[k];exact Am);have F:=λ{T} i v hv x f=>by
  have H:h1.g=h.g:=by rw[k];rfl
  have:=bW (Q:=Q) (X:=X) (L:=L) l T i v (by rw[H];exact hv) x f;rw[H] at this;exact this
 obtain⟨_, _, _,j,V⟩:=S.tA (X:=X) (A:=A) (g:=h.g) (mem (T:=[_, _, _])) (F (T:=[_, _, _])) u;refine S.map j V b (lO h a).1 (xy c) λw8 S=>?_;refine ab (λd8=>?_) (λd8=>?_)
 ·have d8:lU h.s (a9 h.g v) false b (lO h a).1 (xy c)≠0:=by
   grind
  have q:jz h v a b c=Bb h v a b c:=by grind
  refine⟨rfl,rfl,aj.of _ (S.fT (X:=X) (A:=A) (g:=h.g) (mem (T:=[_, _, _])) (n:=2) rfl) (S.XN 4 5 rfl rfl (by rw[l.gl];decide) l.gk.use a v λY S=>⟨trivial,S.res (j:=1) rfl 0 _ λt S=>?_⟩)⟩;rw[C,q] at kk;refine kk t ⟨A,⟨W.jo,W.mp,(qD _ _ _).trans (w.trans W.gl),W.pt,(W.gk.take _ _ _).back _ _⟩,J ?_⟩;have S:=S.tail.tail.tail;rw[k] at S;show bj Q [] o m t _ ((X.hb,fh Q X A h.g)::(X.gb,mG X.u5 (eR _ a v).length X.c):: _);rw[qD];exact S
 ·have d8:lU h.s (a9 h.g v) false b (lO h a).1 (xy c)=0:=by
   grind
  have q:jz h v a b c=iq h v a b c:=by grind
  refine⟨rfl,rfl,aj.of _ (S.fT (X:=X) (A:=A) (g:=h.g) (mem (T:=[_, _, _])) (n:=1) rfl) (S.aaU (lO h a).1 1 (by decide) λY S=>⟨rfl,rfl,⟨rfl,by omega⟩,?_⟩)⟩;rw[C,q,d8] at kk;have Z:=N x f d8;obtain⟨g1, _,g3, _⟩:=S.tA (X:=X) (A:=A) (g:=h.g) (mem (T:=[_, _, _])) (F (T:=[_, _, _])) u;refine aj.of _ g1 ⟨rfl,rfl,aj.of _ g3 λt Dx=>?_⟩;exact aam W f hv I M Z w k rfl ((J S).ext Dx) kk
theorem Wi (H:jq Q X D G w0 w h L) {v:Int} (r:aV h.g v=true) (k:Int) {a b c:Int} (Y:0<=a) (hb:0<=b) (hc:0<=c) (F: ∀x,h.g v.toNat=some x->lU h.s (a9 h.g v) false b (lO h a).1 (xy c)=0->cg x.tk b=none)
 (kk: ∀m,jq Q X D G w0 m (jz h v a b c) L->K (0,nA h v a b c,()) m):
 aE A2 130 (.el (.agg iR)) [ag (af X.hb),aa v,.agg ⟨gm k a b c⟩] w K:=by
 obtain⟨A,W,H⟩:=H;obtain⟨I,S,J⟩:=H.call;obtain⟨x,q,td,hv,M,N⟩:=bZ r;refine aQ (C:=V0) (aR:=λ_=>[]) (AP (MD _ v k a b c w K) ?_);have p: ∀e,e≠0->mC h v a b c=e->nA h v a b c=e-> ∀{m},jq Q X D G w0 m h L->K (0,e,()) m:=λe Z h1 h2 m H=>by
  have y:jz h v a b c=h:=av (by rw[h1];exact Z);rw[h2,y] at kk;exact kk m H
 have l:mC h v a b c=if b>=65536 then 2 else if a>=16\/c>1 then 1 else if(l5 h.gr a).isSome=false then 4
  else if(lT h a).2.2.1≠v\/(c=1/\(lT h a).2.2.2.1=false) then 7 else if(lO h a).2.2.1≠0 then 4 else if ib h (lT h a).1 (lT h a).2.1=true then 7 else gZ h.gr a v (c==1):=rfl
 have f:nA h v a b c=if b>=65536 then 2 else if a>=16\/c>1 then 1 else if(l5 h.gr a).isSome=false then 4
  else if(lT h a).2.2.1≠v\/(c=1/\(lT h a).2.2.2.1=false) then 7 else if(lO h a).2.2.1≠0 then 4 else if ib h (lT h a).1 (lT h a).2.1=true then 7
  else if gZ h.gr a v (c==1)≠0 then gZ h.gr a v (c==1) else lU h.s (a9 h.g v) false b (lO h a).1 (xy c):=rfl
 refine S.al λba m S=>S.al λb1 w3 S=>⟨rfl,S.cx 1 rfl rfl ?_⟩;refine ab (λd=>⟨trivial,S.res (j:=0) rfl 0 _ λO S=>?_⟩) (λd=>⟨rfl,S.cx 1 rfl rfl ⟨λ_=>rfl,S.cx 1 rfl rfl ?_⟩⟩)
 ·have d:b>=65536:=by simpa using d
  rw[av d] at l f;exact p 2 (by decide) l f ⟨A,W,J S.tail.tail⟩
 have d: ¬ b>=65536:=by simpa using d
 rw[ao d] at l f;refine ab (λd1=>⟨trivial,S.res (j:=0) rfl 0 _ λO S=>?_⟩) (λd1=>⟨rfl,S.cx 1 rfl rfl ⟨rfl,S.cx 1 rfl rfl ⟨rfl,S.cx 1 rfl rfl ⟨rfl,rfl,?_⟩⟩⟩⟩)
 ·have d1:a>=16\/c>1:=by simpa using d1
  rw[av d1] at l f;exact p 1 (by decide) l f ⟨A,W,J S.tail.tail⟩
 have d1: ¬ (a>=16\/c>1):=by
  grind
 rw[ao d1] at l f;have ea:aD .i64 a=a:=bM ⟨Y,by omega⟩;have eb:aD .i64 b=b:=bM ⟨hb,by omega⟩;rw[ea,eb];refine aj.of _ (S.fT (X:=X) (A:=A) (g:=h.g) (by simp) (n:=2) rfl) ⟨(xF h.gr a,(l5 h.gr a).isSome,()),S.aaV 3 4 rfl rfl (by rw[W.gl];decide) a,S.al λb2 O S=>S.fm 0 rfl rfl rfl λw5 S=>?_⟩;refine ab (λd2=>⟨trivial,S.res (j:=1) rfl 0 _ λP S=>?_⟩) (λd2=>⟨rfl,S.cx 0 rfl rfl ⟨λ_=>rfl,S.cx 0 rfl rfl ?_⟩⟩)
 ·have d2:(l5 h.gr a).isSome=false:=by simpa using d2
  rw[av d2] at l f;exact p 4 (by decide) l f ⟨A,W,J S.tail.tail.tail⟩
 have d2: ¬ (l5 h.gr a).isSome=false:=by
  have d2:(!(l5 h.gr a).isSome)=false:=d2;intro e;rw[e] at d2;cases d2
 rw[ao d2] at l f;refine ab (λd3=>⟨trivial,S.res (j:=1) rfl 0 _ λP S=>?_⟩) (λd3=>⟨rfl,S.cx 0 rfl rfl ⟨rfl,S.cx 0 rfl rfl ?_⟩⟩)
 ·have d3:=by
   have d3:((lT h a).2.2.1 != v||c==1&& !(lT h a).2.2.2.1)=true:=d3;simpa using d3
  rw[av d3] at l f;exact p 7 (by decide) l f ⟨A,W,J S.tail.tail.tail⟩
 have d3: ¬ ((lT h a).2.2.1≠v\/(c=1/\(lT h a).2.2.2.1=false)):=by
  grind[lT]
 rw[ao d3] at l f;refine qB S (X:=X) (A:=A) (g:=h.g) (by simp) (bW W [_, _, _]) (lT h a).1 (lT h a).2.1 λP S=>?_;refine ab (λd4=>⟨trivial,S.res (j:=1) rfl 0 _ λt S=>?_⟩) (λd4=>⟨rfl,S.cx 0 rfl rfl ⟨rfl,S.cx 0 rfl rfl ?_⟩⟩)
 ·have d4:(lO h a).2.2.1≠0:=by
   have d4:((lO h a).2.2.1 != 0)=true:=d4;simpa using d4
  rw[av d4] at l f;exact p 4 (by decide) l f ⟨A,W,J S.tail.tail.tail⟩
 have d4: ¬ (lO h a).2.2.1≠0:=by
  grind[lO]
 rw[ao d4] at l f;refine⟨gw h.g (lT h a).1 (lT h a).2.1,pR (J S) (X:=X) (A:=A) (g:=h.g) (by simp) (bW W [_, _, _]) (fQ W) (λi x q=>W.mp q) _ _,?_⟩;refine ab (λd5=>⟨trivial,S.res (j:=1) rfl 0 _ λt S=>?_⟩) (λd5=>⟨rfl,rfl,?_⟩)
 ·have d5:ib h (lT h a).1 (lT h a).2.1=true:=d5;rw[av d5] at l f;exact p 7 (by decide) l f ⟨A,W,J S.tail.tail.tail⟩
 have d5: ¬ ib h (lT h a).1 (lT h a).2.1=true:=by
  have d5:ib h (lT h a).1 (lT h a).2.1=false:=d5;rw[d5];decide
 rw[ao d5] at l f;refine aj.of _ (S.fT (X:=X) (A:=A) (g:=h.g) (by simp) (n:=2) rfl) (S.abT 4 5 rfl rfl (by rw[W.gl];decide) W.gk.use a v (c==1) λt S=>?_);have u:(eh h.gr a v (c==1)).length=h.gr.length:=MY _ _ _ _;obtain⟨h1,o⟩: ∃h1,h1=yP h (eh h.gr a v (c==1)):=⟨_,rfl⟩;have R:h1.g=h.g:=by rw[o];rfl
 have Cg:h1.s=h.s:=by rw[o];rfl
 have z:DN A h1:=by rw[o];exact⟨W.jo,W.mp,u.trans W.gl,W.pt,W.gk.take _ _ _⟩
 have S:bj Q [] I w t h.s ((b2,[aa (lT h a).1,aa (lT h a).2.1,aa (lT h a).2.2.1,.bool (lT h a).2.2.2.1,aa (lT h a).2.2.2.2.1])::(b1,[ay 0,aa 0])::(ba,gm k a b c)::dZ Q X A h1 (bh Q A h.g (AL 17)++L)):=by
  rw[o];show bj Q [] I w t h.s (_:: _:: _::(X.hb,fh Q X A h.g)::(X.gb,mG X.u5 (eh h.gr a v (c==1)).length X.c):: _);rw[u];exact S
 refine ab (λd6=>⟨trivial,S.res (j:=1) rfl 0 _ λw8 S=>?_⟩) (λd6=>?_)
 ·have d6:gZ h.gr a v (c==1)≠0:=by simpa using d6
  rw[av d6] at f;have e1:eh h.gr a v (c==1)=h.gr:=ao d6;have y:h1=h:=by rw[o,e1];rfl
  rw[y] at S;exact p _ d6 l f ⟨A,W,J S.tail.tail.tail⟩
 have d6: ¬ gZ h.gr a v (c==1)≠0:=by
  grind
 rw[ao d6] at f;have U:jz h v a b c=if nA h v a b c=0 then iq h v a b c else Bb h v a b c:=ao (by rw[l];exact d6);have mem: ∀{T:List (Nat×List AC)},(X.hb,fh Q X A h.g)∈T++dZ Q X A h1 (bh Q A h.g (AL 17)++L):=λ{T}=>AY T (by rw[o];exact Am);have V:=λ{T} i v hv x q=>by
  have:=bW (Q:=Q) (X:=X) (L:=L) z T i v (by rw[R];exact hv) x q;rw[R] at this;exact this
 have hq:=EY h.g h.s (lT h a).1 (lT h a).2.1;refine ab (λd7=>⟨rfl,rfl,⟨rfl,by omega,by show v<((17:Nat):Int);omega⟩,?_⟩) (λd7=>⟨rfl,rfl,⟨rfl,by omega,by show v<((17:Nat):Int);omega⟩,?_⟩)
 ·have B:(orI .i64 1 2)=xy c:=by
   unfold xy;rw[av (by simpa using d7)];decide
  obtain⟨g1,E,g3,j,hj⟩:=S.tA (X:=X) (A:=A) (g:=h.g) (mem (T:=[_, _, _])) (V (T:=[_, _, _])) r;refine aj.of _ g1 ⟨rfl,rfl,aj.of _ E ?_⟩;have T:=JO W q hv M N r F u o z J S f U kk;rw[<-B] at T;exact T
 ·have B:(1:Int)=xy c:=by
   unfold xy;rw[ao (by simpa using d7)]
  obtain⟨g1,E,g3,j,hj⟩:=S.tA (X:=X) (A:=A) (g:=h.g) (mem (T:=[_, _, _])) (V (T:=[_, _, _])) r;refine aj.of _ g1 ⟨rfl,rfl,aj.of _ E ?_⟩;have T:=JO W q hv M N r F u o z J S f U kk;rw[<-B] at T;exact T
end
def AO (l:List Int):Int:=l.foldl (λm x=>kK m x) 65536
theorem yg (a b:Int):kK a b<=a/\kK a b<=b/\(kK a b=a\/kK a b=b):=by
 unfold kK;split<;>omega
theorem zy: ∀(l:List Int) (m:Int),l.foldl (λm x=>kK m x) m<=m/\(∀x∈l,l.foldl (λm x=>kK m x) m<=x)/\(l.foldl (λm x=>kK m x) m=m\/l.foldl (λm x=>kK m x) m∈l)
 |[],m=>⟨Ga _,λx b=>(by cases b),.inl rfl⟩
 |y::l,m=>by
  obtain⟨h1,c,a⟩:=zy l (kK m y);obtain⟨d,e,f⟩:=yg m y;rw[Gn];refine⟨Int.le_trans h1 d,λx b=>?_,?_⟩
  ·rcases Ek.1 b with rfl|b
   ·exact Int.le_trans h1 e
   ·exact c x b
  ·rcases a with a|a
   ·rcases f with k|k
    ·exact .inl (a.trans k)
    ·exact .inr (Ek.2 (.inl (a.trans k)))
   ·exact .inr (Ap _ a)
theorem MZ {l:List Int} {m:Int} (h1:m<=65536) (c: ∀x∈l,m<=x) (b:m=65536\/m∈l):m=AO l:=by
 obtain⟨e,d,a⟩:=zy l 65536;unfold AO;rcases b with b|b
 ·rcases a with a|a
  ·omega
  ·have:=c _ a;omega
 ·have:=d _ b;rcases a with a|a
  ·omega
  ·have:=c _ a;omega
theorem BW {es:List B3} {e:B3} (he:e∈es) (seen:Array Nat) (a:seen.contains e.born=false):
 (es.filter λx=> !(seen.push e.born).contains x.born).length<(es.filter λx=> !seen.contains x.born).length:=by
 induction es with
 |nil=>cases he
 |cons y es b=>
  have mono: ∀l:List B3,(l.filter λx=> !(seen.push e.born).contains x.born).length<=(l.filter λx=> !seen.contains x.born).length:=λl=>by
   rw[<-Kf, <-Kf];refine List.countP_mono_left λx _ c=>?_;simp only[I8,N7,E5] at c ⊢
   simp_all
  rcases Ek.1 he with rfl|he
  ·rw[K1 (by simp),List.filter_cons_of_pos (by simpa using a)];have:=mono es;simp only[DM];omega
  ·have:=b he;rw[Kg,Kg];by_cases h1:(!(seen.push e.born).contains y.born)=true
   ·have d:(!seen.contains y.born)=true:=by
     simp only[I8,N7,E5] at h1 ⊢
     simp_all
    rw[av h1,av d];simp only[DM];omega
   ·rw[ao h1];split
    ·simp only[DM];omega
    ·exact this
section
variable {Q:Sys} {X:HX} {D G:List Nat} {w0 w:A1} {s:WD} {L0:List (Nat×List AC)} {M:List (Nat×Be)} {es:List B3} {ck bm bg:Nat} {pt:Option AM} {tk:List TK}
theorem M6 (H:SM Q D G w0 w s L0 M) (N:(bg,[ag pt,.map (some bm)])∈L0) (v:(bm,Obj.map ⟨es⟩ ck)∈M) (O:qU es ck tk) {K:Int->A1->Prop} (kk: ∀d,SM Q D G w0 d s L0 M->K (AO (tk.map (·.1))) d):
 az A2 168 (.el (.one (.int .i64))) [ag (af bg)] w K:=by
 obtain⟨⟨p,A,B⟩,E,P, _⟩:=O;have R: ∀e∈es, ∃t∈tk,e.key=aa t.1:=λe a=>by
  have:(e.key,e.val)∈p.map xJ:=by rw[<-B];exact Ar.2 ⟨e,a,rfl⟩
  obtain⟨t,c,y⟩:=Ar.1 this;exact⟨t,A.mem_iff.1 c,(congrArg (·.1) y).symm⟩
 have S: ∀t∈tk, ∃e∈es,e.key=aa t.1:=λt c=>by
  have:xJ t∈es.map λe=>(e.key,e.val):=by rw[B];exact Ar.2 ⟨t,A.mem_iff.2 c,rfl⟩
  obtain⟨e,a,y⟩:=Ar.1 this;exact⟨e,a,congrArg (·.1) y⟩
 refine H.go λw1 H=>ai (C:=V0) (aR:=rD) (AP (My _ w1 K) ?_);obtain⟨j,f⟩:=B2 N;refine⟨rfl,rfl,H.base.cx j f rfl λd g=>?_⟩;have H:=H.ext g;have T:bF d bm ⟨es⟩ ck:=H.get v;refine⟨_, _, _,rfl,T,?_⟩;have H:=H.alloc (o:= .mapIter (some bm) ck #[] ck) trivial;obtain⟨b,hb⟩: ∃b,b=d.heap.size:=⟨_,rfl⟩;rw[<-hb] at H ⊢;refine⟨λn q w'=> ∃seen:Array Nat,SM Q D G w0 w' s L0 ((b,.mapIter (some bm) ck seen ck)::M)/\n=(es.filter λx=> !seen.contains x.born).length/\q.1<=65536/\(∀e∈es, ∀x,e.key=aa x->seen.contains e.born=true->q.1<=x)/\(q.1=65536\/q.1∈tk.map (·.1)),⟨_,λU k=>⟨#[],H.ext k,rfl,Ga _,λe _ x _ l=>(by simp at l),.inl rfl⟩⟩,?_⟩;clear H;rintro n ⟨q,u⟩ U ⟨seen,H,V,h1,g,k⟩;dsimp only at h1 g k ⊢;intro w4 W;have H:=H.ext W;refine⟨b,bm,ck,seen,ck,⟨es⟩,ck,rfl,H.get Am,H.get (Ap _ v),Ea _,P,λl X z=>?_,λe a l X z=>?_⟩
 ·refine(H.ext z).en λF H=>?_;have m:q=AO (tk.map (·.1)):=MZ h1 (λx r=>by
   obtain⟨t,c,rfl⟩:=Ar.1 r;obtain⟨e,I,Y⟩:=S t c;exact g e I _ Y (l e I)) k
  rw[m];exact kk F (H.Gl (B4 _ _))
 ·have a:e∈es:=a;obtain⟨t,c,J⟩:=R e a;have H:=(H.ext z).put (i:=0) rfl (o':= .mapIter (some bm) ck (seen.push e.born) ck) trivial;refine⟨t.1,e.val,⟨b,bm,ck,seen,⟨es⟩,ck,e,rfl,H.get Am,H.get (Ap _ v),a,E,J.symm,rfl⟩,λF Z=>?_⟩;refine⟨_,?_,seen.push e.born,H.ext Z,rfl,?_,?_,?_⟩
  ·rw[V];exact BW a seen l
  ·have:=yg q t.1;omega
  ·intro e' L x r fo;have hmi:=yg q t.1;by_cases h:seen.contains e'.born=true
   ·have:=g e' L x r h;show kK q t.1<=x;omega
   ·have qI:e'.born=e.born:=by
     rw[I8] at fo
     simp_all
    have acJ:e'=e:=by
     obtain⟨i,hi⟩:=B2 L;obtain⟨j,f⟩:=B2 a;have xN:(es.map (·.born))[i]? =some e.born:=by rw[Bx,hi];exact congrArg some qI
     have xO:(es.map (·.born))[j]? =some e.born:=by rw[Bx,f];rfl
     have:=(FI (by rw[Az];exact(CD.1 hi).1) E).1 (xN.trans xO.symm);subst this;rw[hi] at f;cases f;rfl
    subst acJ;rw[J] at r;cases r;show kK q t.1<=t.1;exact hmi.2.1
  ·rcases(yg q t.1).2.2 with m|m
   ·show kK q t.1=65536\/ _;rw[m];exact k
   ·show kK q t.1=65536\/kK q t.1∈ _;rw[m];exact .inr (Ar.2 ⟨t,c,rfl⟩)
end
end Go.Proofs.YtlcenllcmeebhaaGreat
namespace Go.Proofs.YtlcenllcmeebhaaGreat.Mu
set_option maxRecDepth 100000
open Go.RX
section
variable {D G:List Nat} {w0 w:A1} {L Ls:List (Nat×List AC)} {M:List (Nat×Be)} {es:List B3} {mb ck:Nat} {wl:List (Int×Int)}
theorem BX (H:cB D G w0 w L ((mb,.map ⟨es⟩ ck)::M)) (hv:iC es ck (wl.map FZ)) (hl:(wl.length:Int)<=1000000) {is:Int->Bool} {Q:Int->A1->Bool->Prop}
 (Z: ∀{w' d Mr},cB D G w0 w' (d++L) Mr-> ∀e∈wl,Q e.2 w' (is e.2)) {K:Option AM×Nat×Nat->A1->Prop}
 (k: ∀r R d c,R.Pairwise (· <= ·)->R.Perm ((wl.filter λe=>is e.2).map (·.1))->dx eI r R d->cB D G w0 c (d++L) ((mb,.map ⟨es⟩ ck)::M)->K r c):
 RgP w (some mb) λb c=> ∃I:Nat->(Option AM×Nat×Nat)×Unit->A1->Prop,(∃n, ∀w1,Ext c w1->I n ((none,0,0),()) w1)/\ ∀(n:Nat) (s:(Option AM×Nat×Nat)×Unit) (w1:A1),I n s w1->
  NxP w1 (af b) (λc=>au c λw1=>K (s.1.1,s.1.2.1,s.1.2.2) w1) λ_ _ c=> ∃x y:Int,AE c (af b) (aa x) (aa y)/\ ∃O:Bool,Q y c O/\
   aI (!O) (∀g,Ext c g-> ∃h,h<n/\I h ((s.1.1,s.1.2.1,s.1.2.2),()) g)
    (aN c ⟨[aa x]⟩ 3 λb c=> ∀w1,Ext c w1->mF w1 3 1 8 ⟨[aa 0]⟩ (s.1.1,s.1.2.1,s.1.2.2) (some ⟨b,0,none⟩,1,1) λr c=>
     ∃z:Nat->Int×Unit->A1->Prop,(∃n, ∀w1,Ext c w1->z n (((s.1.2.1:Nat):Int),()) w1)/\ ∀(P:Nat) (s:Int×Unit) (w1:A1),z P s w1->
      (decide (s.1>0)=true->r.1.isSome=true/\0<=aZ .i64 s.1 1/\aZ .i64 s.1 1<((r.2.1:Nat):Int))/\aj w1 (some (decide (s.1>0))) (ad r.1 ((aZ .i64 s.1 1).toNat*1)) eI λ(aL:Int)=>
       aI (decide (s.1>0)&&decide (aL>x)) ((r.1.isSome=true/\0<=aZ .i64 s.1 1/\aZ .i64 s.1 1<((r.2.1:Nat):Int))/\aj w1 none (ad r.1 ((aZ .i64 s.1 1).toNat*1)) eI λ(y:Int)=>
        (r.1.isSome=true/\0<=s.1/\s.1<((r.2.1:Nat):Int))/\aC w1 (ad r.1 (Int.toNat s.1*1)) [aa y] λc=> ∀g,Ext c g-> ∃h,h<P/\z h (aZ .i64 s.1 1,()) g)
        ((r.1.isSome=true/\0<=s.1/\s.1<((r.2.1:Nat):Int))/\aC w1 (ad r.1 (Int.toNat s.1*1)) [aa x] λc=> ∀g,Ext c g-> ∃h,h<n/\I h ((r.1,r.2.1,r.2.2),()) g)):=by
 obtain⟨Yx,he2⟩:=hv.acw;have S:=hv.2.1;have hck:=hv.2.2.1;have hlen:es.length=wl.length:=by
  obtain⟨⟨p,A,B⟩, _⟩:=hv;have C:=congrArg F7 B;have E:=A.length_eq;simp only[Az] at C E;omega
 intro w1 h1;have H:=H.ext h1;refine⟨mb,⟨es⟩,ck,rfl,H.get (i:=0) rfl,?_⟩;have H:=H.alloc (o:= .mapIter (some mb) ck #[] ck) trivial;obtain⟨b,hb⟩: ∃b,b=w1.heap.size:=⟨_,rfl⟩;rw[<-hb] at H ⊢;refine⟨λn q w'=> ∃(seen:Array Nat) (d:List (Nat×List AC)) (R:List Int),cB D G w0 w' (d++L) ((b,.mapIter (some mb) ck seen ck)::(mb,.map ⟨es⟩ ck)::M)/\n=(es.filter λx=> !seen.contains x.born).length/\dx eI q.1 R d/\R.Pairwise (· <= ·)/\
  R.Perm ((es.filter λx=>seen.contains x.born&&is (kI x.val)).map λx=>kI x.key),⟨_,λg h3=>⟨#[],[],[],H.ext h3,rfl,dx.nil eI,List.Pairwise.nil,?_⟩⟩,?_⟩
 ·simp_all
 clear H;rintro n ⟨q,u⟩ g ⟨seen,d,R,H,hn,m,F,J⟩;dsimp only at m ⊢;have hRl:R.length<=es.length:=by
  rw[J.length_eq,Az];exact Kh _ _
 intro w4 h4;have H:=H.ext h4;refine⟨b,mb,ck,seen,ck,⟨es⟩,ck,rfl,H.get (i:=0) rfl,H.get (i:=1) rfl,Ea _,hck,λmH w5 N j v=>?_,λe l T w5 N=>?_⟩
 ·refine k q R d j F (J.trans ?_) m (((H.ext N).ext v).Gl (B4 _ _));have C:(es.filter λx=>seen.contains x.born&&is (kI x.val))=es.filter λx=>is (kI x.val):=H5 λx hx=>by rw[mH x hx,Gd]
  rw[C];obtain⟨⟨p,A,B⟩, _⟩:=hv;have E:(es.filter λx=>is (kI x.val)).map (λx=>kI x.key)=((es.map λe=>(e.key,e.val)).filter λt=>is (kI t.2)).map λt=>kI t.1:=by
   rw[GD,GF];rfl
  have e3:((p.map kvE).filter λt=>is (kI t.2)).map (λt=>kI t.1)=(p.filter λt=>is (kI t.2)).map (·.1):=by
   rw[GD,GF];rfl
  have e4:(((wl.map FZ).filter λt=>is (kI t.2)).map (·.1):List Int)=(wl.filter λe=>is e.2).map (·.1):=by
   rw[GD,GF];rfl
  rw[E,B,e3, <-e4];exact(A.filter _).map _
 ·have l:e∈es:=l;obtain⟨t,ht,U,V⟩:=Yx e l;obtain⟨a,ha,rfl⟩:=Ar.1 ht;have H:=(H.ext N).put (i:=0) rfl (o':= .mapIter (some mb) ck (seen.push e.born) ck) trivial;have W:(es.filter λx=> !(seen.push e.born).contains x.born).length<n:=by rw[hn];exact BW l seen T
  have Xa:=Bv (f:=λx=>is (kI x.val)) T S l;have hke:kI e.key=a.1:=by rw[U];rfl
  have hve:kI e.val=a.2:=by rw[V];rfl
  refine⟨a.1,a.2,⟨b,mb,ck,seen,⟨es⟩,ck,e,rfl,H.get (i:=0) rfl,H.get (i:=1) rfl,l,S,U.symm,V.symm⟩,is a.2,Z H a ha,?_⟩;cases hi:is a.2 with
  |false=>
   refine aA rfl λj v=>⟨_,W,seen.push e.born,d,R,H.ext v,rfl,m,F,?_⟩
   grind
  |true=>
   rw[hve,hi,av rfl] at Xa;refine an rfl λj v w7 h7=>?_;have X:=by
    have Y:=H.ext v;have K6:=Y.join (L':=(j.heap.size,[aa a.1])::(d++L)) (w1:=j.alloc (.cells ⟨[aa a.1]⟩ 3)) (Y.base.again.alloc _ _);exact(K6.perm B1).ext h7
   refine FV X m rfl (q:=(some ⟨j.heap.size,0,none⟩,1,1)) (ys:=[a.1]) rfl (sg (e:=eI) (x:=a.1) (X.base.dj _ (AY _ Am))) rfl rfl (by simp only[H6];omega) λr cI w8 fo H8=>?_;refine QE H8 fo F (by omega) (by rw[m.1]) λW_ R' w9 hR' T6 T4 H9=>⟨_,W,seen.push e.born,W_,R',H9.sub (by grind),rfl,T4,hR',?_⟩;refine(T6.trans (DD _ J)).trans ?_
   grind
theorem M7 (H:cB D G w0 w L ((mb,.map ⟨es⟩ ck)::M)) (hv:iC es ck (wl.map FZ)) (d:(wl.length:Int)<=1000000) {now:Int} {s:Option AM×Nat×Nat} {c eb:Nat} (hc:(c,[ag (af eb)])∈L) (f:(eb,oM now s mb)∈L) (g: ∀e∈wl,0<=e.2/\e.2<=now) (n:now<4611686018427387904)
 {K:Option AM×Nat×Nat->A1->Prop} (k: ∀r R a b,R.Pairwise (· <= ·)->R.Perm ((wl.filter λe=>decide (e.2+2<=now)).map (·.1))->dx eI r R a->cB D G w0 b (a++L) ((mb,.map ⟨es⟩ ck)::M)->K r b):
 az A2 115 (.el (.one .slice)) [.map (some mb),.func (.func 236) #[] #[ag (af c)]] w K:=by
 refine λw1 h1=>ai (C:=U1) (aR:=rj) (AP (K9 _ _ w1 K) ?_);refine BX (H.ext h1) hv d (is:=λy=>decide (y+2<=now)) (λ{w' a o} H e h=>?_) k;refine ae.of λb i=>ai (C:=U0) (aR:=λ_=>[]) (AP (KZ _ _ b _) ?_);have H:=(H.ext i).base;have hb:=g e h;obtain⟨j,l⟩:=B2 (AY a hc);refine aj.at j H l (rfl) ⟨rfl,rfl,aj.kN H (AY a f) (rfl) λp m=>⟨?_,m⟩⟩;rw[aw (by omega) (by omega)]
theorem M8 (H:cB D G w0 w L ((mb,.map ⟨es⟩ ck)::M)) (hv:iC es ck (wl.map FZ)) (f:(wl.length:Int)<=1000000)
 {K:Option AM×Nat×Nat->A1->Prop} (k: ∀r R c d,R.Pairwise (· <= ·)->R.Perm (wl.map (·.1))->dx eI r R c->cB D G w0 d (c++L) ((mb,.map ⟨es⟩ ck)::M)->K r d):
 az A2 115 (.el (.one .slice)) [.map (some mb),.func (.func 116) #[] #[]] w K:=by
 refine λw1 h1=>ai (C:=U1) (aR:=rk) (AP (K_ _ w1 K) ?_);refine BX (H.ext h1) hv f (is:=λ_=>true) (λ{w' c g} H e h=>?_) (λr R c d a b=>k r R c d a (by rw[FK.2 (λ_ _=>rfl)] at b;exact b));exact ae.of λd i=>ai (C:=U0) (aR:=λ_=>[]) (by grind[AP,K8])
theorem SC (H:cB D G w0 w L ((mb,.map ⟨es⟩ ck)::M)) (hv:iC es ck (wl.map FZ)) (h:(wl.length:Int)<=1000000) {now:Int} {s:Option AM×Nat×Nat} {eb:Nat} (g:(eb,oM now s mb)∈L)
 {K:Option AM×Nat×Nat->A1->Prop} (k: ∀r R e f,R.Pairwise (· <= ·)->R.Perm (wl.map (·.1))->dx eI r R e->cB D G w0 f (e++L) ((mb,.map ⟨es⟩ ck)::M)->K r f):
 az A2 69 (.el (.one .slice)) [ag (af eb)] w K:=by
 refine λw1 h1=>ai (AP (QB _ w1 K) ?_);have H:=H.ext h1;refine⟨_,mW H.base g,an rfl ⟨rfl,rfl,aj.kN H.base g rfl ?_⟩⟩;exact M8 H hv h λr R e f a b c d=>λi j=>k r R e i a b c (d.ext j)
theorem SD (H:cB D G w0 w L ((mb,.map ⟨es⟩ ck)::M)) (hv:iC es ck (wl.map FZ)) (W:(wl.length:Int)<=1000000) {now:Int} {s:Option AM×Nat×Nat} {eb:Nat} (X:(eb,oM now s mb)∈L) (Y: ∀e∈wl,0<=e.2/\e.2<=now) (Z:now<4611686018427387904)
 {K:Option AM×Nat×Nat->A1->Prop} (k: ∀r R d a g,R.Pairwise (· <= ·)->R.Perm ((wl.filter λe=>decide (e.2+2<=now)).map (·.1))->dx eI r R d->iC a ck ((wl.filter λe=> !decide (e.2+2<=now)).map FZ)->
  cB D G w0 g (d++L) ((mb,.map ⟨a⟩ ck)::M)->K r g):
 az A2 198 (.el (.one .slice)) [ag (af eb)] w K:=by
 refine λw1 h1=>ai (C:=U0) (aR:=uC) (AP (QA _ w1 K) λg q=>?_);have H:=(H.ext h1).ext q;obtain⟨b,hb⟩: ∃b,b=g.heap.size:=⟨_,rfl⟩;have H:=H.join (L':=(b,[ag (af eb)])::L) (w1:=g.alloc (.cells ⟨[ag (af eb)]⟩ 98)) (by rw[hb];exact H.base.again.alloc _ _);rw[<-hb];have l:(eb,oM now s mb)∈(b,[ag (af eb)])::L:=Ap _ X;refine aj.at 0 H.base rfl (show _=some (some (⟨eb,0,none⟩:AM)) from rfl) ⟨_,mW H.base l,an rfl (aj.at 0 H.base rfl (show _=some (some (⟨eb,0,none⟩:AM)) from rfl) ⟨rfl,rfl,aj.kN H.base l (show _=some (some mb) from rfl) ?_⟩)⟩;refine M7 H hv W (c:=b) Am l Y Z λr R d I hR m u H=>?_;have J:=u.1;have N:(wl.map (·.1)).Nodup:=by
  have:=hv.2.2.2;rw[GF] at this;exact this
 have hRl:R.length<=wl.length:=by
  rw[m.length_eq,Az];exact Kh _ _
 have hRn:R.Nodup:=by
  refine m.nodup_iff.2 ?_;exact N.sublist (KA.map _)
 have O: ∀f,f∈R<-> ∃e∈wl,e.1=f/\e.2+2<=now:=λf=>by
  rw[m.mem_iff,Ar];constructor
  grind
  ·rintro⟨e,h,rfl,c⟩;exact⟨e,H7.2 ⟨h,by simpa using c⟩,rfl⟩
 refine⟨λn st v=> ∃(j:Nat) (a:List B3),j<=R.length/\n=R.length - j/\st.1=(j:Int)/\iC a ck ((wl.filter λe=> !(R.take j).contains e.1).map FZ)/\cB D G w0 v (d++((b,[ag (af eb)])::L)) ((mb,.map ⟨a⟩ ck)::M),⟨R.length,λv h4=>⟨0,es,F6 _,rfl,rfl,?_,H.ext h4⟩⟩,?_⟩
 ·have:(wl.filter λe=> !(R.take 0).contains e.1)=wl:=FK.2 λ_ _=>rfl;rw[this];exact hv
 rintro n ⟨i, _⟩ v ⟨j,a,P,qK,hi,z,H⟩;have hi:i=(j:Int):=hi;subst hi qK;dsimp only;rw[J];have hmb:(b,[ag (some (⟨eb,0,none⟩:AM))])∈d++((b,[ag (af eb)])::L):=AY _ Am;have hme:(eb,oM now s mb)∈d++((b,[ag (some (⟨eb,0,none⟩:AM))])::L):=AY _ l;obtain⟨jb,hjb⟩:=B2 hmb;refine ab (λc=>?_) (λc=>?_)
 ·have P:j<R.length:=by have:=of_decide_eq_true c;omega
  obtain⟨x,o⟩: ∃x,R[j]? =some x:=⟨_,Cf P⟩;have Q:=u.sl H.base (λy p=>CB _ p) j x o;refine⟨⟨Q.1,by omega,by omega⟩,aj.of x (by rw[DF];exact Q.2) (aj.at jb H.base hjb (show _=some (some (⟨eb,0,none⟩:AM)) from rfl) ⟨rfl,rfl,aj.kN H.base hme (show _=some (some mb) from rfl) λS A=>?_⟩)⟩;have H:=H.ext A;obtain⟨e,hew,T,hed⟩:=(O x).1 (CF o);have hxn:x∉R.take j:=λhm=>by
   obtain⟨i,hi⟩:=B2 hm;have B:i<(R.take j).length:=(CD.1 hi).1;rw[Du] at B;rw[List.getElem?_take_of_lt (by omega)] at hi;have:=(FI (by omega) hRn).1 (hi.trans o.symm);omega
  have lQ:(x,aa e.2)∈(wl.filter λe=> !(R.take j).contains e.1).map FZ:=Ar.2 ⟨e,H7.2 ⟨hew,by rw[T];simpa using hxn⟩,by rw[<-T]⟩;obtain⟨i,hf,B,U⟩:=z.FL lQ;refine⟨mb,⟨a⟩,ck,rfl,H.get (i:=0) rfl,?_⟩;unfold AD;rw[hf];have e1:(Array.mk a).eraseIdxIfInBounds i=⟨a.eraseIdx i⟩:=by
   apply Array.ext';simp[Nz,B]
  have H:=H.put (i:=0) rfl (o':= .map ⟨a.eraseIdx i⟩ ck) trivial;show∀I,Ext _ I-> _;rw[e1];refine λw6 h6=>⟨R.length - (j+1),by omega,j+1,a.eraseIdx i,by omega,rfl,?_,?_,H.ext h6⟩
  ·rw[aw (by omega) (by omega)];omega
  ·have E:(((wl.filter λe=> !(R.take j).contains e.1).map FZ).filter λt=> !(t.1==x))=(wl.filter λe=> !(R.take (j+1)).contains e.1).map FZ:=by
    rw[GD,List.filter_filter];congr 1;refine H5 λy _=>?_;rw[List.take_add_one,o]
    grind
   rw[E] at U;exact U
 ·have:j=R.length:=by have:=of_decide_eq_false c;omega
  subst this;refine λS A=>k _ R d a S hR m (by rw[<-J];exact u) ?_ ((H.ext A).sub (Gi (B4 _ _) _));have E:(wl.filter λe=> !(R.take R.length).contains e.1)=wl.filter λe=> !decide (e.2+2<=now):=H5 λy p=>by
   rw[List.take_length];congr 1;rw[N9,List.contains_iff_mem,decide_eq_true_eq,O];constructor
   ·rintro⟨e,h1,q,h3⟩;have:e=y:=by
     obtain⟨i1,F⟩:=B2 h1;obtain⟨i2,V⟩:=B2 p;have a1:(wl.map (·.1))[i1]? =some y.1:=by rw[Bx,F];exact congrArg some q
     have a2:(wl.map (·.1))[i2]? =some y.1:=by rw[Bx,V];rfl
     have:=(FI (by rw[Az];exact(CD.1 F).1) N).1 (a1.trans a2.symm);subst this;exact Option.some.inj (F.symm.trans V)
    rw[<-this];exact h3
   ·exact λh=>⟨y,p,rfl,h⟩
  rw[E] at z;exact z
theorem C4 (H:cB D G w0 w L M) (n:Int) {K:Option AM×Int×Unit->A1->Prop} (kb:n<1\/n>8-> ∀w1,cB D G w0 w1 L M->K (none,1,()) w1)
 (E:1<=n->n<=8-> ∀eb mb s Ls w1,dx eI s (B5 n.toNat (-1)) Ls->cB D G w0 w1 ((eb,oM 0 s mb)::(Ls++L)) ((mb,.map ⟨[]⟩ 0)::M)->K (some ⟨eb,0,none⟩,0,()) w1):
 az A2 84 (.bu [.one .ptr,.one (.int .i64)]) [aa n] w K:=by
 refine λw1 h1=>ai (C:=U0) (aR:=wI) (AP (CY n w1 K) ?_);have H:=H.ext h1;refine ab (λc=>λf g=>kb (by simpa using c) f (H.ext g)) (λc f g p F=>?_);have t:1<=n/\n<=8:=by
  grind
 obtain⟨m,rfl⟩: ∃m:Nat,n=(m:Int):=⟨n.toNat,by omega⟩;have H:=((H.ext g).alloc (o:= .map #[] 0) trivial).ext F;obtain⟨mb,I⟩: ∃b,b=f.heap.size:=⟨_,rfl⟩;rw[<-I] at H ⊢;obtain⟨eb,u⟩: ∃b,b=p.heap.size:=⟨_,rfl⟩;have H:=H.join (L':=(eb,oM 0 (none,0,0) mb)::L) (w1:=p.alloc (.cells ⟨[aa 0,.slice none 0 0,.map (some mb)]⟩ 210)) (by rw[u];exact H.base.again.alloc _ _);rw[<-u];refine⟨λn st h=> ∃(j:Nat) (s:Option AM×Nat×Nat) (Ls:List (Nat×List AC)),j<=m/\n=m - j/\st.1=(j:Int)/\dx eI s (B5 j (-1)) Ls/\cB D G w0 h (Ls++((eb,oM 0 s mb)::L)) ((mb,.map ⟨[]⟩ 0)::M),⟨m,λh J=>⟨0,(none,0,0),[],F6 _,rfl,rfl,dx.nil eI,H.ext J⟩⟩,?_⟩;clear H;rintro n ⟨i, _⟩ h ⟨j,s,Ls,N,O,hi,v,H⟩;have hi:i=(j:Int):=hi;subst hi O;dsimp only;have P:(eb,oM 0 s mb)∈Ls++((eb,oM 0 s mb)::L):=AY _ Am;refine ab (λc=>?_) (λc=>?_)
 ·have N:j<m:=by have:=of_decide_eq_true c;omega
  refine⟨rfl,rfl,aj.kN H.base P (show _=some (s.1,s.2.1,s.2.2) from rfl) λa k V Q=>?_⟩;have y:=by
   have z:=H.ext k;have R:=z.join (w1:=a.alloc (.cells ⟨[aa (-1)]⟩ 3)) (z.base.again.alloc _ _);exact(R.perm B1).ext Q
  refine FV y v rfl (q:=(some ⟨a.heap.size,0,none⟩,1,1)) (ys:=[(-1:Int)]) rfl (sg (e:=eI) (x:=(-1:Int)) (y.base.dj _ (AY _ Am))) rfl rfl (by grind) λr l W S d=>⟨rfl,rfl,?_⟩;have d:=(d.sub (Gi (B4 _ _) l)).perm (L':=(eb,oM 0 s mb)::(l++L)) B1.symm;refine λA B=>?_;have key:=aC.fS (b:=eb) (o:=0) (n:=1) 0 (d.ext B).base.again rfl (x:= .slice r.1 r.2.1 r.2.2) rfl rfl (λX T=>(d.ext B).join T) A (Ext.refl A);refine⟨key.1,λY U=>⟨m - (j+1),by omega,j+1,r,l,by omega,rfl,?_,?_,(key.2.ext U).perm B1⟩⟩
  ·rw[aw (by omega) (by omega)];omega
  ·rw[Kj];exact S
 ·have:j=m:=by have:=of_decide_eq_false c;omega
  subst this;refine λa k=>E t.1 t.2 eb mb s Ls a ?_ ((H.ext k).perm B1.symm);rw[DF];exact v
end
abbrev te:Type:=Int×Int×Int×Unit
abbrev eC:El:= .one .chan
abbrev N3 (a:te):AC:= .agg ⟨[aa a.1,aa a.2.1,aa a.2.2.1]⟩
abbrev CR:Type:=Nat×Nat×Nat
abbrev cO (c:CR) (q:List te):Nat×Be:=(c.1,.chan 16 ⟨q.map N3⟩ false c.2.1 c.2.2 false)
abbrev om (cs:List CR) (bx:List (List te)):List (Nat×Be):=List.zipWith cO cs bx
abbrev dL (cs:List CR):List (Option Nat):=cs.map λc=>some c.1
abbrev kz (sb so:Option AM×Nat×Nat):List AC:=[.slice sb.1 sb.2.1 sb.2.2,.slice so.1 so.2.1 so.2.2]
theorem JP {cs:List CR} {bx:List (List te)} {k:Nat} {c:CR} {q:List te}:(om cs bx).set k (cO c q)=om (cs.set k c) (bx.set k q):=by
 unfold om
 induction cs generalizing bx k with
 |nil=>simp
 |cons a cs d=>
  cases bx with
  |nil=>simp
  |cons b bx=>
   cases k with
   |zero=>rfl
   |succ k=>simp only[List.zipWith_cons_cons,List.set_cons_succ];rw[d]
theorem yh {cs:List CR} {bx:List (List te)} {k:Nat} {c:CR} {q:List te} (h1:cs[k]? =some c) (a:bx[k]? =some q):(om cs bx)[k]? =some (cO c q):=by
 unfold om;rw[List.getElem?_zipWith,h1,a]
theorem _root_.Go.Proofs.YtlcenllcmeebhaaGreat.dx.sub {D G:List Nat} {w0 w:A1} {L Ls:List (Nat×List AC)} {e:El} {s:Option AM×Nat×Nat} {xs:List e.T} (h:dx e s xs Ls) (H:aM D G w0 w L) (d: ∀x∈Ls,x∈L) {lo n:Nat} (j:lo+n<=xs.length):
 Go.RX.oW w (ad s.1 (lo*aF e)) (n*aF e) (flat e ((xs.drop lo).take n)):=by
 obtain⟨h1,k,⟨a1,a,f⟩|⟨bs,rest,a1,a,f⟩⟩:=h
 ·have:xs=[]:=List.eq_nil_of_length_eq_zero (by omega);subst this;rw[a1,List.drop_nil,List.take_nil];rfl
 ·rw[a1,aW,Nat.zero_add];have b:(flat e ((xs.drop lo).take n)).length=n*aF e:=by rw[aG,Du,HB,I2 (by omega)]
  refine bK.oW (vs:=flat e ((xs.drop lo).take n)) (H.dj _ (d _ (by rw[a];exact Gp.2 rfl))) b λi hi=>?_;have g:flat e xs=flat e (xs.take lo)++(flat e ((xs.drop lo).take n)++flat e ((xs.drop lo).drop n)):=by
   rw[<-dO, <-dO,Gz,Gz]
  have c:(flat e (xs.take lo)).length=lo*aF e:=by rw[aG,Du,I2 (by omega)]
  rw[g,Cp,FU (by rw[c];omega),c,Nat.add_sub_cancel_left,Cp,Hb (by rw[b];exact hi)]
section
variable {D G:List Nat} {w0 w:A1} {L Lb Lo:List (Nat×List AC)} {M:List (Nat×Be)} {sb so:Option AM×Nat×Nat} {cs:List CR} {bx:List (List te)} {op:List Int} {xb:Nat}
theorem G8 (H:aM D G w0 w L) (a:(xb,kz sb so)∈L) (b:sb.2.1=cs.length) (i:Int):ae A2 106 [ag (af xb),aa i] w (.bool (decide (0<=i/\i<(cs.length:Int)))):=by
 refine ae.of (s:= .el (.one .bool)) λw' h'=>ai (C:=U0) (aR:=λ_=>[]) (AP (UW _ _ w' _) ?_);refine⟨λ_=>rfl,λ_=>rfl,aj.kN (H.ext h') a (show _=some (sb.1,sb.2.1,sb.2.2) from rfl) λw1 h1=>⟨?_,h1⟩⟩;dsimp only;rw[b,N9];simp[and_assoc]
theorem SE (H:cB D G w0 w (Lb++L) M) (a:(xb,kz sb so)∈L) (b:dx eC sb (dL cs) Lb) (e: ∀x∈om cs bx,x∈M) {i:Nat} {c:CR} {q:List te} (hc:cs[i]? =some c) (f:bx[i]? =some q):
 ae A2 82 [ag (af xb),aa (i:Int)] w (aa (q.length:Int)):=by
 refine ae.of (s:= .el (.one (.int .i64))) λw' h'=>ai (C:=U0) (aR:=λ_=>[]) (AP (KW _ _ w' _) ?_);have H:=H.ext h';have g:sb.2.1=cs.length:=by rw[b.1,Az]
 have hi:i<cs.length:=(CD.1 hc).1;have d:=b.sl H.base (λy h=>CB _ h) i (some c.1) (by rw[Bx,hc];rfl);refine⟨_,G8 H.base (AY _ a) g _,an (by rw[decide_eq_true (by omega)];rfl) ⟨rfl,rfl,aj.kN H.base (AY _ a) (show _=some (sb.1,sb.2.1,sb.2.2) from rfl) ⟨⟨d.1,by omega,by dsimp only;omega⟩,aj.of (some c.1) (by dsimp only;rw[DF];exact d.2) ?_⟩⟩⟩;have j:=(H.obj _ (e _ (CF (yh hc f)))).1;exact⟨q.length,⟨c.1,16,q.map N3,c.2.1,c.2.2,rfl,j,by rw[Az]⟩,λl k=>⟨rfl,k⟩⟩
def O6 (op:List Int) (a:Int):Bool:=decide (1<=a/\a<=(op.length:Int))&&op.getD (a - 1).toNat 0==0
theorem Wj (H:aM D G w0 w (Lo++L)) (b:(xb,kz sb so)∈L) (d:dx eI so op Lo) (i:Int) (hb:i<4611686018427387904):
 ae A2 161 [ag (af xb),aa i] w (.bool (O6 op i)):=by
 refine ae.of (s:= .el (.one .bool)) λw' h'=>ai (C:=U0) (aR:=λ_=>[]) (AP (Qz _ _ w' _) ?_);have H:=H.ext h';have g:=d.1;refine⟨λ_=>rfl,λ_=>rfl,aj.kN H (AY _ b) (show _=some (so.1,so.2.1,so.2.2) from rfl) ⟨λ_=>rfl,λ_=>rfl,aj.kN H (AY _ b) (show _=some (so.1,so.2.1,so.2.2) from rfl) ?_⟩⟩;dsimp only;rw[g];by_cases c:1<=i/\i<=(op.length:Int)
 ·have j:aZ .i64 i 1=i - 1:=bE (by omega) (by omega);have k:op[(i - 1).toNat]? =some (op.getD (i - 1).toNat 0):=by rw[Ee,Cf (by omega)];rfl
  have f:=d.sl H (λy l=>CB _ l) _ _ k;rw[j];refine⟨λ_=>⟨f.1,by omega,by omega⟩,aj.of _ f.2 λm a=>⟨?_,a⟩⟩;unfold O6;rw[decide_eq_true c,decide_eq_true c.2,decide_eq_true (show i>=1 from c.1)];rfl
 ·have e:(!(some (⟨xb,0,none⟩:AM)).isNone&&decide (i>=1)&&decide (i<=(op.length:Int)))=false:=by
   rw[I1,I1,decide_eq_false_iff_not,decide_eq_false_iff_not];by_cases q:i>=1
   ·exact .inr λr=>c ⟨q,r⟩
   ·exact .inl (.inr q)
  rw[e];refine⟨λh=>(by cases h),⟨0,λh=>(by cases h),λm a=>⟨?_,a⟩⟩⟩;unfold O6;rw[decide_eq_false c];rfl
def wi (bx:List (List te)) (op:List Int) (i:Nat):(te×Bool×Unit)×List (List te)×List Int:=match bx[i]? with
 |some (a::q)=>((a,true,()),bx.set i q,op.set (a.1 - 1).toNat (op.getD (a.1 - 1).toNat 0 - 1))
 | _=>(((0,0,0,()),false,()),bx,op)
theorem SF (H:cB D G w0 w ((xb,kz sb so)::(Lb++(Lo++L))) (om cs bx++M)) (J:dx eC sb (dL cs) Lb) (o:dx eI so op Lo) (hcb:cs.length=bx.length) (i:Nat) (hi:i<cs.length)
 (V: ∀a q,bx[i]? =some (a::q)->(1<=a.1/\a.1<=(op.length:Int))/\ -1000<=op.getD (a.1 - 1).toNat 0/\op.getD (a.1 - 1).toNat 0<=1000) (Yz:(op.length:Int)<4611686018427387904) {K:(Int×Int×Int×Unit)×Bool×Unit->A1->Prop}
 (k: ∀u d l,u.length=cs.length->dL u=dL cs->dx eI so (wi bx op i).2.2 d->cB D G w0 l ((xb,kz sb so)::(Lb++(d++L))) (om u (wi bx op i).2.1++M)->K (wi bx op i).1 l):
 az A2 66 (.bu [.agg [.int .i64,.int .i64,.int .i64],.one .bool]) [ag (af xb),aa (i:Int)] w K:=by
 refine λw1 h1=>aQ (C:=U0) (aR:=λ_=>[]) (AP (Qx _ _ w1 K) λl W=>?_);have H:=(H.ext h1).ext W;obtain⟨b,hb⟩: ∃b,b=l.heap.size:=⟨_,rfl⟩;have H:=H.join (L':=(b,[aa 0,aa 0,aa 0])::(xb,kz sb so)::(Lb++(Lo++L))) (w1:=l.alloc (.cells ⟨[aa 0,aa 0,aa 0]⟩ 147)) (by rw[hb];exact H.base.again.alloc _ _);rw[<-hb];have X:sb.2.1=cs.length:=by rw[J.1,Az]
 obtain⟨c,hc⟩: ∃c,cs[i]? =some c:=⟨_,Cf hi⟩;obtain⟨q,p⟩: ∃q,bx[i]? =some q:=⟨_,Cf (by omega)⟩;have Y: ∀{x:Nat×List AC},x∈Lb->x∈(b,[aa 0,aa 0,aa 0])::(xb,kz sb so)::(Lb++(Lo++L)):=λh=>Ap _ (Ap _ (CB _ h));have N:=J.sl H.base (λy z=>Y z) i (some c.1) (by rw[Bx,hc];rfl);refine⟨_,G8 H.base (Ap _ Am) X _,an (by rw[decide_eq_true (by omega)];rfl) ⟨rfl,rfl,aj.cw 1 H.base rfl (show _=some (sb.1,sb.2.1,sb.2.2) from rfl) ⟨⟨N.1,by omega,by dsimp only;omega⟩,aj.of (some c.1) (by dsimp only;rw[DF];exact N.2) λw3 Z=>?_⟩⟩⟩;have H:=H.ext Z;have A:=yh hc p;have O:(om cs bx++M)[i]? =some (cO c q):=by rw[Hb (CD.1 A).1];exact A
 refine⟨c.1,16,q.map N3,c.2.1,c.2.2,rfl,H.get O,λB=>?_,λv vs P=>?_⟩
 ·have B:q=[]:=List.map_eq_nil_iff.1 B;subst B;have e:wi bx op i=(((0,0,0,()),false,()),bx,op):=by unfold wi;rw[p]
  rw[e] at k;intro m E;have H:=H.ext E;have key:=aC.all 0 H.base.again rfl (vs:=[aa 0,aa 0,aa 0]) rfl rfl (K:=λf=>cB D G w0 f ((b,[aa 0,aa 0,aa 0])::(xb,kz sb so)::(Lb++(Lo++L))) (om cs bx++M)) (λf n=>H.join n) m (Ext.refl m);exact⟨key.1,λr s=>aj.at 0 (key.2.ext s).base rfl (show _=some (0,0,0,()) from rfl) (k cs Lo r rfl rfl o ((key.2.ext s).sub (B4 _ _)))⟩
 ·cases q with
  |nil=>cases P
  |cons a q=>
   obtain⟨rfl,rfl⟩:=List.cons.inj P;obtain⟨⟨o1,o2⟩,o3,o4⟩:=V a q p;have e:wi bx op i=((a,true,()),bx.set i q,op.set (a.1 - 1).toNat (op.getD (a.1 - 1).toNat 0 - 1)):=by unfold wi;rw[p]
   rw[e] at k;refine⟨(a.1,a.2.1,a.2.2.1,()),rfl,λm E=>?_⟩;have H:=H.put O (o':= .chan 16 ⟨q.map N3⟩ false c.2.1 (c.2.2+1) false) trivial;have ez:(om cs bx++M).set i (c.1,.chan 16 ⟨q.map N3⟩ false c.2.1 (c.2.2+1) false)=om (cs.set i (c.1,c.2.1,c.2.2+1)) (bx.set i q)++M:=by
    rw[Kl _ _ (CD.1 A).1];congr 1;exact JP (c:=(c.1,c.2.1,c.2.2+1))
   rw[ez] at H;have H:=H.ext E;obtain⟨g,Q⟩: ∃g,g=m.heap.size:=⟨_,rfl⟩;have H:=H.join (L':=(g,[aa 0,aa 0,aa 0])::(b,[aa 0,aa 0,aa 0])::(xb,kz sb so)::(Lb++(Lo++L))) (w1:=m.alloc (.cells ⟨[aa 0,aa 0,aa 0]⟩ 147)) (by rw[Q];exact H.base.again.alloc _ _);rw[<-Q];intro r s;have H:=H.ext s;have key:=aC.all 0 H.base.again rfl (vs:=[aa a.1,aa a.2.1,aa a.2.2.1]) rfl rfl (K:=λf=>cB D G w0 f ((g,[aa a.1,aa a.2.1,aa a.2.2.1])::(b,[aa 0,aa 0,aa 0])::(xb,kz sb so)::(Lb++(Lo++L))) (om (cs.set i (c.1,c.2.1,c.2.2+1)) (bx.set i q)++M)) (λf n=>H.join n) r (Ext.refl r);refine⟨key.1,?_⟩;have H:=key.2;have e1:aZ .i64 a.1 1=a.1 - 1:=bE (by omega) (by omega);have hx:op[(a.1 - 1).toNat]? =some (op.getD (a.1 - 1).toNat 0):=by rw[Ee,Cf (by omega)];rfl
   have adh:=o.1;have F:=o.sl H.base (λy z=>Ap _ (Ap _ (Ap _ (AY _ (CB _ z))))) _ _ hx;refine⟨rfl,rfl,aj.cw 2 H.base rfl (show _=some (so.1,so.2.1,so.2.2) from rfl) ⟨rfl,aj.cw 0 H.base rfl (show _=some a.1 from rfl) ?_⟩⟩;dsimp only;rw[e1];refine⟨⟨F.1,by omega,by omega⟩,aj.of _ F.2 ⟨⟨F.1,by omega,by omega⟩,?_⟩⟩;rw[bE (by omega) (by omega)];have Hp:cB D G w0 _ (Lo++((g,[aa a.1,aa a.2.1,aa a.2.2.1])::(b,[aa 0,aa 0,aa 0])::(xb,kz sb so)::(Lb++L))) (om (cs.set i (c.1,c.2.1,c.2.2+1)) (bx.set i q)++M):=H.perm (by
    have I:(Lo++(Lb++L)).Perm (Lb++(Lo++L)):=by rw[<-Cp, <-Cp];exact GS _ DZ
    exact B1.trans (DD _ (B1.trans (DD _ (B1.trans (DD _ I))))))
   refine stM Hp o (i:=(a.1 - 1).toNat) (by omega) (op.getD (a.1 - 1).toNat 0 - 1) rfl rfl λd w6 ym t=>?_;have t:=t.perm (L':=(g,[aa a.1,aa a.2.1,aa a.2.2.1])::(b,[aa 0,aa 0,aa 0])::(xb,kz sb so)::(Lb++(d++L))) (by
    have I:(Lb++(d++L)).Perm (d++(Lb++L)):=by rw[<-Cp, <-Cp];exact GS _ DZ
    refine List.Perm.symm ?_;exact B1.trans (DD _ (B1.trans (DD _ (B1.trans (DD _ I.symm)))))
    )
   refine aj.at 0 t.base rfl (show _=some (a.1,a.2.1,a.2.2.1,()) from rfl) λR h7=>?_;have S:=t.ext h7;have key:=aC.all 1 S.base.again rfl (vs:=[aa a.1,aa a.2.1,aa a.2.2.1]) rfl rfl (K:=λf=>cB D G w0 f ((g,[aa a.1,aa a.2.1,aa a.2.2.1])::(b,[aa a.1,aa a.2.1,aa a.2.2.1])::(xb,kz sb so)::(Lb++(d++L))) (om (cs.set i (c.1,c.2.1,c.2.2+1)) (bx.set i q)++M)) (λf n=>S.join n) R (Ext.refl R);refine⟨key.1,λw8 T=>aj.at 1 (key.2.ext T).base rfl (show _=some (a.1,a.2.1,a.2.2.1,()) from rfl) (k (cs.set i (c.1,c.2.1,c.2.2+1)) d w8 (DR ..) ?_ ym ((key.2.ext T).sub ((B4 _ _).trans (B4 _ _))))⟩;refine GG λj=>?_;rw[Bx,Bx];by_cases U:i=j
   ·subst U;rw[Do hi,hc];rfl
   ·rw[Eo U]
end
section
variable {D G:List Nat} {w0 w:A1} {L:List (Nat×List AC)} {M:List (Nat×Be)}
theorem alM (H:cB D G w0 w L M) {cs:List AC} {e:TypeId} {K:Nat->A1->Prop} (k: ∀b w1,cB D G w0 w1 ((b,cs)::L) M->K b w1):aN w ⟨cs⟩ e K:=λw1 h1=>
 k _ _ ((H.ext h1).join ((H.ext h1).base.again.alloc cs e))
theorem Xl (H:cB D G w0 w L M) (i:Nat) {b n:Nat} {l:List AC} {x:AC} {K:A1->Prop} (a:L[i]? =some (b,l)) (c:x.oneCell'=true) (e:Nat.blt n l.length=true) (k: ∀w1,cB D G w0 w1 (L.set i (b,l.set n x)) M->K w1):aC w (ad (af b) n) [x] K:=λw1 h1=>
 aC.fS i (H.ext h1).base.again a c (by grind) (λd f=>k d ((H.ext h1).join (by grind))) w1 (Ext.refl w1)
theorem stB (H:cB D G w0 w L M) (i:Nat) {b:Nat} {l vs:List AC} {K:A1->Prop} (a:L[i]? =some (b,l)) (c:vs.all (·.oneCell')=true) (d:vs.length=l.length) (k: ∀w1,cB D G w0 w1 (L.set i (b,vs)) M->K w1):aC w (af b) vs K:=λw1 h1=>
 aC.all i (H.ext h1).base.again a c d (λe f=>k e ((H.ext h1).join f)) w1 (Ext.refl w1)
theorem enM (H:cB D G w0 w L M) {K:A1->Prop} (k: ∀w1,cB D G w0 w1 L M->K w1):au w K:=λ_ h=>k _ (H.ext h)
end
section
variable {D G:List Nat} {w0 w:A1} {L Lb Lo:List (Nat×List AC)} {M:List (Nat×Be)} {sb so:Option AM×Nat×Nat} {cs:List CR} {bx:List (List te)} {op:List Int} {xb:Nat}
theorem yi {α:Type} (A B C:List α):(A++(B++C)).Perm (B++(A++C)):=by
 grind[GS,DZ]
theorem Ij (H:cB D G w0 w (Lb++L) M) (v:(xb,kz sb so)∈L) (f:dx eC sb (dL cs) Lb) (i:Nat) (hi:i<cs.length) (U:cs.length<=8) {K:Option AM×Nat×Nat->A1->Prop}
 (k: ∀r g b,dx eC r ((dL cs).eraseIdx i) g->cB D G w0 b (g++(Lb++L)) M->K r b):
 az A2 202 (.el (.one .slice)) [ag (af xb),aa (i:Int)] w K:=by
 refine λw1 h1=>ai (C:=U0) (aR:=λ_=>[]) (AP (Hx _ _ w1 K) ?_);have H:=H.ext h1;obtain⟨p,n,c⟩:=sb;have V:n=(dL cs).length:=f.1;have W:(dL cs).length=cs.length:=Az _;have hc:(dL cs).length<=c:=f.2.1;have l:aH .i64 (i:Int) 1=((i+1:Nat):Int):=by rw[aw (by omega) (by omega)];omega
 have m:(xb,kz (p,n,c) so)∈Lb++L:=AY _ v;refine⟨rfl,rfl,aj.kN H.base m (show _=some (p,n,c) from rfl) ⟨?_,λb A=>?_⟩⟩
 ·dsimp only;omega
 have H:=H.ext A;dsimp only;have X:(Decidable.rec (λ_=>ad p 0) (λ_=>p) (instDecidableEqNat ((c:Int)).toNat 0:Decidable (((c:Int)).toNat=((0:Nat):Int).toNat)):Option AM)=p:=GR (show((c:Int)).toNat≠0 by omega)▸by
  rcases p with _|a
  ·rfl
  ·rfl
 have Y:((i:Int)).toNat - 0=i:=by omega
 have B:Go.RX.oW b p (i*aF eC) (flat eC ((dL cs).take i)):=by
  have:=f.sub H.base (λy h=>CB _ h) (lo:=0) (n:=i) (by omega);rw[Nat.zero_mul,List.drop_zero] at this;rcases p with _|a
  ·exact this
  ·have e:ad (some a) 0=some a:=by show some (a.add 0)=some a;rfl
   rw[e] at this;exact this
 have key:=FV (Ls:=[]) H (dx.nil eC) (show gY eC=true from rfl) (q:=(p,i,(c:Int).toNat - 0)) (ys:=(dL cs).take i) (by rw[Du,I2 (by omega)]) B (t:=202) (size:=1) (bytes:=8) (z:=⟨[Value.chan none]⟩) rfl rfl (by rw[KF,Du];omega)
  (R:=λr b=>(some (⟨xb,0,none⟩:AM)).isSome=true/\(some (⟨xb,0,none⟩:AM)).isSome=true/\aj b none (ad (af xb) 0) (.one .slice) λx=>(0<=aH .i64 (i:Int) 1/\aH .i64 (i:Int) 1<=((x.2.1:Nat):Int)/\((x.2.1:Nat):Int)<=((x.2.2:Nat):Int)/\((x.2.2:Nat):Int)<=((x.2.2:Nat):Int))/\ ∀w1,Ext b w1->
   mF w1 202 1 8 ⟨[Value.chan none]⟩ (r.1,r.2.1,r.2.2) (Decidable.rec (λ_=>ad x.1 ((aH .i64 (i:Int) 1).toNat*1)) (λ_=>x.1) (instDecidableEqNat ((x.2.2:Nat):Int).toNat (aH .i64 (i:Int) 1).toNat),((x.2.1:Nat):Int).toNat - (aH .i64 (i:Int) 1).toNat,((x.2.2:Nat):Int).toNat - (aH .i64 (i:Int) 1).toNat) λr b=>au b λw1=>K (r.1,r.2.1,r.2.2) w1) λr g Z E o=>?_
 grind
 ·refine⟨rfl,rfl,aj.kN o.base (AY _ m) (show _=some (p,n,c) from rfl) ⟨?_,λF I=>?_⟩⟩
  ·rw[l];dsimp only;omega
  have s:=o.ext I;rw[l];dsimp only;have J:Go.RX.oW F (if((c:Int)).toNat=((i+1:Nat):Int).toNat then p else ad p (((i+1:Nat):Int).toNat*1)) ((((n:Nat):Int).toNat - ((i+1:Nat):Int).toNat)*aF eC) (flat eC ((dL cs).drop (i+1))):=by
   by_cases d:c=i+1
   ·have:(dL cs).drop (i+1)=[]:=List.drop_eq_nil_of_le (by omega);rw[this,av (by omega),show((((n:Nat):Int).toNat - ((i+1:Nat):Int).toNat))=0 by omega];rcases p with _|a
    ·rfl
    ·exact⟨rfl,λj N=>by simp at N⟩
   ·rw[ao (by omega)];have:=f.sub s.base (λy h=>AY _ (CB _ h)) (lo:=i+1) (n:=(dL cs).length - (i+1)) (by omega);rw[List.take_of_length_le (by rw[HB];exact Ea _)] at this;rw[show((((n:Nat):Int).toNat - ((i+1:Nat):Int).toNat))=(dL cs).length - (i+1) by omega];exact this
  have O:(Decidable.rec (λ_=>ad p (((i+1:Nat):Int).toNat*1)) (λ_=>p) (instDecidableEqNat ((c:Int)).toNat ((i+1:Nat):Int).toNat):Option AM)=if((c:Int)).toNat=((i+1:Nat):Int).toNat then p else ad p (((i+1:Nat):Int).toNat*1):=by
   by_cases d:((c:Int)).toNat=((i+1:Nat):Int).toNat
   ·rw[av d,Pw d]
   ·rw[ao d,GR d]
  rw[O];refine FV s E rfl (ys:=(dL cs).drop (i+1)) (by grind) J rfl rfl (by
   rw[Km,Du,HB];omega) λr2 P w5 u Q=>λS T=>k _ P S ?_ (Q.ext T)
  rw[J3];rw[Km] at u;exact u
def vW (i j:Nat):Nat:=if j<i then j else j+1
def TP (i k:Nat):Nat:=if k<i then k else k - 1
def lA (bx:List (List te)) (i j:Nat) (a:te):List (List te):=bx.zipIdx.map λ(q,k)=>if k≠i/\TP i k<j then q++[a] else q
theorem qE {bx:List (List te)} {i j k:Nat} {a:te} {q:List te} (h:bx[k]? =some q):(lA bx i j a)[k]? =some (if k≠i/\TP i k<j then q++[a] else q):=by grind[lA]
theorem Ik {bx:List (List te)} {i j:Nat} {a:te} {q:List te} (h:bx[vW i j]? =some q):(lA bx i j a).set (vW i j) (q++[a])=lA bx i (j+1) a:=by
 have c:vW i j≠i/\TP i (vW i j)=j:=by unfold vW TP;grind
 refine GG λk=>?_;by_cases e:vW i j=k
 ·subst e;rw[Do (by grind[lA,Az,Kt]),qE h,av (by grind)]
 ·rw[Eo e];cases b:bx[k]? with
  |none=>
   grind[lA,Az,Kt]
  |some d=>
   rw[qE b,qE b];have:(k≠i/\TP i k<j)<->(k≠i/\TP i k<j+1):=by
    grind[TP,vW]
   grind
def wj (bx:List (List te)) (op:List Int) (n:Nat) (t p:Int):Int×List (List te)×List Int:=
 if t<1\/t>16\/p< -1\/p>=65536 then(0,bx,op)
 else if(bx.eraseIdx n).any (λq=>q.length==16)=true then(0,bx,op)
 else((op.length:Int)+1,(bx.zipIdx.map λ(q,i)=>if i=n then q else q++[((op.length:Int)+1,t,p,())]),op++[(bx.length:Int) - 1])
theorem M9 {bx:List (List te)} {i:Nat} (hi:i<bx.length) (a:te):lA bx i (bx.length - 1) a=bx.zipIdx.map λ(q,k)=>if k=i then q else q++[a]:=by
 refine List.map_congr_left λx b=>?_;obtain⟨q,k⟩:=x;dsimp;by_cases e:k=i
 grind
 ·rw[ao e,av (by grind[TP])]
theorem Il (bx:List (List te)) (i:Nat) (a:te):lA bx i 0 a=bx:=by
 simp[lA]
theorem CQ {α:Type} (l:List α) (i j:Nat):(l.eraseIdx i)[j]? =l[vW i j]? :=by grind[vW]
theorem SG (H:cB D G w0 w ((xb,kz sb so)::(Lb++(Lo++L))) (om cs bx++M)) (hs:dx eC sb (dL cs) Lb) (J:dx eI so op Lo) (hcb:cs.length=bx.length) (i:Nat) (hi:i<cs.length) (hl:cs.length<=8) (Yz:(op.length:Int)<=1000000000) (FQ: ∀q∈bx,q.length<=16) (t g:Int) {K:Int×Int×Unit->A1->Prop}
 (k: ∀e f o h z,f.length=cs.length->dL f=dL cs->dx eI o (wj bx op i t g).2.2 h->cB D G w0 z ((xb,kz sb o)::(Lb++(h++L))) (om f (wj bx op i t g).2.1++M)->K ((wj bx op i t g).1,e,()) z):
 az A2 157 (.bu [.one (.int .i64),.one (.int .i64)]) [ag (af xb),aa (i:Int),aa t,aa g] w K:=by
 refine λw1 h1=>ai (C:=U0) (aR:=uB) (AP (Qy _ _ t g w1 K) ?_);have H:=H.ext h1;have hn:sb.2.1=cs.length:=by rw[hs.1,Az]
 refine⟨λ_=>rfl,λ_=>rfl,aj.cw 0 H.base rfl (show _=some (sb.1,sb.2.1,sb.2.2) from rfl) ?_⟩;dsimp only;rw[hn];refine an (by rw[show((cs.length:Int)==0)=false by rw[beq_eq_false_iff_ne];omega];rfl) ⟨_,G8 H.base Am hn _,an (by rw[decide_eq_true (by omega)];rfl) ?_⟩;by_cases N:t<1\/t>16\/g< -1\/g>=65536
 ·refine aA ?_ (enM H λz H=>?_)
  ·simp only[N4,decide_eq_true_eq];omega
  ·have e:wj bx op i t g=(0,bx,op):=av N;rw[e] at k;exact k 1 cs so Lo z rfl rfl J H
 refine an ?_ ?_
 ·simp only[E5,decide_eq_false_iff_not];omega
 have Hp:cB D G w0 w1 (Lb++((xb,kz sb so)::(Lo++L))) (om cs bx++M):=H.perm B1;refine Ij Hp Am hs i hi hl λr l z O H=>?_;have hrn:r.2.1=cs.length - 1:=by rw[O.1,Hq,Az,av hi]
 have hxm:(xb,kz sb so)∈l++(Lb++((xb,kz sb so)::(Lo++L))):=AY _ (AY _ Am);have aaW: ∀j,j<cs.length - 1-> ∃c q,cs[vW i j]? =some c/\bx[vW i j]? =some q/\((dL cs).eraseIdx i)[j]? =some (some c.1):=λj p=>by
  have h2:vW i j<cs.length:=by unfold vW;split<;>omega
  obtain⟨c,hc⟩: ∃c,cs[vW i j]? =some c:=⟨_,Cf h2⟩;obtain⟨q,m⟩: ∃q,bx[vW i j]? =some q:=⟨_,Cf (by omega)⟩;exact⟨c,q,hc,m,by rw[CQ,Bx,hc];rfl⟩
 refine⟨λn st u=> ∃j:Nat,j<=cs.length - 1/\n=cs.length - 1 - j/\st.1=(j:Int)/\(∀s q,s<j->(bx.eraseIdx i)[s]? =some q->q.length≠16)/\cB D G w0 u (l++(Lb++((xb,kz sb so)::(Lo++L)))) (om cs bx++M),⟨cs.length - 1,λu h3=>⟨0,F6 _,rfl,rfl,λs q p=>absurd p (N_ _),H.ext h3⟩⟩,?_⟩;clear H Hp;rintro n ⟨P, _⟩ u ⟨j,p,Q,v,R,H⟩;have v:P=(j:Int):=v;subst v Q;dsimp only;rw[hrn];refine ab (λc=>?_) (λc=>?_)
 ·have p:j<cs.length - 1:=by have:=of_decide_eq_true c;omega
  obtain⟨c,q,hc,m,S⟩:=aaW j p;have E:=O.sl H.base (λy T=>CB _ T) j _ S;have uW:=(H.obj _ (CB _ (CF (yh hc m)))).1;refine⟨⟨E.1,by omega,by omega⟩,aj.of (some c.1) (by rw[DF];exact E.2) ⟨q.length,⟨c.1,16,q.map N3,c.2.1,c.2.2,rfl,uW,by rw[Az]⟩,?_⟩⟩;refine ab (λF=>enM H λU H=>?_) (λF U h4=>⟨cs.length - 1 - (j+1),by omega,j+1,by omega,rfl,?_,λs q' V W=>?_,H.ext h4⟩)
  ·have F:q.length=16:=by have:(q.length:Int)=16:=(by simpa using F);omega
   have e:wj bx op i t g=(0,bx,op):=by
    unfold wj;rw[ao N,av (GH.2 ⟨q,CF (show(bx.eraseIdx i)[j]? =some q by rw[CQ];exact m),by simp[F]⟩)]
   rw[e] at k;refine k 3 cs so Lo U rfl rfl J ((H.sub (FX _ _)).perm B1.symm)
  ·rw[aw (by omega) (by omega)];omega
  ·by_cases e:s=j
   ·subst e;rw[CQ,m] at W;cases W;have: ¬ (q.length:Int)=16:=by simpa using F
    omega
   ·exact R s q' (by omega) W
 have X:j=cs.length - 1:=by have:=of_decide_eq_false c;omega
 subst X;have uX: ¬ (bx.eraseIdx i).any (λq=>q.length==16)=true:=λc=>by
  obtain⟨q,m,Xm⟩:=GH.1 c;obtain⟨s,V⟩:=B2 m;have Al:s<(bx.eraseIdx i).length:=(CD.1 V).1;rw[Hq,av (by omega)] at Al;exact R s q (by omega) V (by simpa using Xm)
 have ep:wj bx op i t g=((op.length:Int)+1,lA bx i (bx.length - 1) ((op.length:Int)+1,t,g,()),op++[(bx.length:Int) - 1]):=by
  unfold wj;rw[ao N,ao uX,M9 (by omega)]
 rw[ep] at k;refine⟨rfl,rfl,aj.kN H.base hxm (show _=some (so.1,so.2.1,so.2.2) from rfl) (alM H λb U H w5 h5=>?_)⟩;have H:=H.ext h5;have Y:cB D G w0 w5 (Lo++((b,[aa ((cs.length - 1:Nat):Int)])::(l++(Lb++((xb,kz sb so)::L))))) (om cs bx++M):=H.perm (by
  refine B1.trans (DD _ ?_);have p1:(Lo++(l++(Lb++((xb,kz sb so)::L)))).Perm (l++(Lo++(Lb++((xb,kz sb so)::L)))):=yi _ _ _;refine p1.trans (Hr _ ?_);have p2:(Lo++(Lb++((xb,kz sb so)::L))).Perm (Lb++(Lo++((xb,kz sb so)::L))):=yi _ _ _;exact p2.trans (Hr _ B1))
 refine FV Y J rfl (q:=(some ⟨b,0,none⟩,1,1)) (ys:=[((cs.length - 1:Nat):Int)]) rfl (sg (e:=eI) (x:=((cs.length - 1:Nat):Int)) (Y.base.dj _ (AY _ Am))) rfl rfl (by simp only[H6];omega) λo h w6 Z H=>?_;have acL:op++[((cs.length - 1:Nat):Int)]=op++[(bx.length:Int) - 1]:=by rw[show((cs.length - 1:Nat):Int)=(bx.length:Int) - 1 by omega]
 rw[acL] at Z;have H:=(H.sub (Gi (B4 _ _) h)).perm (L':=(xb,kz sb so)::(l++(Lb++(h++L)))) (by
  have p2:(l++(Lb++(h++L))).Perm (h++(l++(Lb++L))):=by
   have a1:(Lb++(h++L)).Perm (h++(Lb++L)):=yi _ _ _;have a2:(l++(h++(Lb++L))).Perm (h++(l++(Lb++L))):=yi _ _ _;exact(Hr _ a1).trans a2
  refine(DD _ p2).trans ?_;have a3: ∀(A B C:List (Nat×List AC)) (x:Nat×List AC),(x::(A++(B++(C++L)))).Perm (A++(B++(C++(x::L)))):=λA B C x=>by
   rw[<-Cp, <-Cp, <-Cp, <-Cp];exact B1.symm
  exact a3 _ _ _ _)
 refine⟨rfl,rfl,Xl H 0 rfl rfl rfl λw7 H=>⟨rfl,rfl,aj.cw 0 H.base rfl (show _=some (o.1,o.2.1,o.2.2) from rfl) ?_⟩⟩;have H:cB D G w0 w7 ((xb,kz sb o)::(l++(Lb++(h++L)))) (om cs bx++M):=H;have aaE:(o.2.1:Int)=(op.length:Int)+1:=by
  have:=Z.1;rw[FY,H6] at this;omega
 dsimp only;rw[aaE];obtain⟨a,ha⟩: ∃a:te,a=((op.length:Int)+1,t,g,()):=⟨_,rfl⟩;rw[<-ha] at k;refine⟨λn st u=> ∃(j:Nat) (f:List CR),j<=cs.length - 1/\n=cs.length - 1 - j/\st.1=(j:Int)/\f.length=cs.length/\dL f=dL cs/\cB D G w0 u ((xb,kz sb o)::(l++(Lb++(h++L)))) (om f (lA bx i j a)++M),⟨cs.length - 1,λw8 h8=>⟨0,cs,F6 _,rfl,rfl,rfl,rfl,by rw[Il];exact H.ext h8⟩⟩,?_⟩;clear H Y;rintro n ⟨P, _⟩ w8 ⟨j,f,p,Q,v,Cj,Ce,H⟩;have v:P=(j:Int):=v;subst v Q;dsimp only;refine ab (λc=>?_) (λc=>?_)
 ·have p:j<cs.length - 1:=by have:=of_decide_eq_true c;omega
  obtain⟨c,q,hc,m,S⟩:=aaW j p;have E:=O.sl H.base (λy T=>Ap _ (CB _ T)) j _ S;refine⟨⟨E.1,by omega,by omega⟩,aj.of (some c.1) (by rw[DF];exact E.2) λw9 h9=>?_⟩;have H:=H.ext h9;obtain⟨d,I⟩: ∃d,f[vW i j]? =some d:=⟨_,Cf (by rw[Cj];exact(CD.1 hc).1)⟩;have Xn:d.1=c.1:=by
   have h1:(dL f)[vW i j]? =some (some d.1):=by rw[Bx,I];rfl
   rw[Ce,Bx,hc] at h1;exact(Option.some.inj (Option.some.inj h1)).symm
  have dn:vW i j≠i/\TP i (vW i j)=j:=by unfold vW TP;split<;>(first|omega|(constructor<;>(try split)<;>omega))
  have hsq:(lA bx i j a)[vW i j]? =some q:=by rw[qE m,ao λc=>by rw[dn.2] at c;exact Nat.lt_irrefl _ c.2]
  have hz:=yh I hsq;have hmz:(om f (lA bx i j a)++M)[vW i j]? =some (cO d q):=by rw[Hb (CD.1 hz).1];exact hz
  have Xm:q.length≠16:=R j q p (by rw[CQ];exact m);have adi:=FQ q (CF m);refine⟨d.1,16,q.map N3,d.2.1,d.2.2,by rw[Xn],H.get hmz,by rw[Az];omega,?_⟩;have H:=H.put hmz (o':= .chan 16 ⟨(q++[a]).map N3⟩ false (d.2.1+1) d.2.2 false) trivial;have ez:(om f (lA bx i j a)++M).set (vW i j) (d.1,.chan 16 ⟨(q++[a]).map N3⟩ false (d.2.1+1) d.2.2 false)=om (f.set (vW i j) (d.1,d.2.1+1,d.2.2)) (lA bx i (j+1) a)++M:=by
   rw[Kl _ _ (CD.1 hz).1, <-Ik m];congr 1;exact JP (c:=(d.1,d.2.1+1,d.2.2))
  rw[ez] at H;have ev:(q.map N3).append [Value.agg ⟨[aa ((op.length:Int)+1),aa t,aa g]⟩]=(q++[a]).map N3:=by
   rw[DB,ha];rfl
  show∀u,Ext (w9.putObj d.1 (.chan 16 ⟨(q.map N3).append _⟩ false (d.2.1+1) d.2.2 false)) u-> _;rw[ev];refine λl4 Dx=>⟨cs.length - 1 - (j+1),by omega,j+1,f.set (vW i j) (d.1,d.2.1+1,d.2.2),by omega,rfl,?_,by rw[DR];exact Cj,?_,H.ext Dx⟩
  ·rw[aw (by omega) (by omega)];omega
  ·rw[<-Ce];refine GG λy=>?_;rw[Bx,Bx];by_cases ej:vW i j=y
   ·subst ej;rw[Do (CD.1 I).1,I];rfl
   ·rw[Eo ej]
 ·have X:j=cs.length - 1:=by have:=of_decide_eq_false c;omega
  subst X;refine enM H λw9 H=>k 0 f o h w9 Cj Ce Z ?_;rw[<-hcb];exact H.sub (List.Sublist.cons_cons _ (FX _ _))
theorem Wk (H:cB D G w0 w L M) (n:Int) {K:Option AM×Int×Unit->A1->Prop} (kb:n<1\/n>8-> ∀w1,cB D G w0 w1 L M->K (none,1,()) w1)
 (t:1<=n->n<=8-> ∀xb cs sb Lb w1,cs.length=n.toNat->dx eC sb (dL cs) Lb->cB D G w0 w1 ((xb,kz sb (none,0,0))::(Lb++L)) (om cs (B5 n.toNat [])++M)->K (some ⟨xb,0,none⟩,0,()) w1):
 az A2 85 (.bu [.one .ptr,.one (.int .i64)]) [aa n] w K:=by
 refine λw1 h1=>ai (C:=U0) (aR:=wH) (AP (UX n w1 K) ?_);have H:=H.ext h1;refine ab (λc=>λk u=>kb (by simpa using c) k (H.ext u)) (λc=>alM H λxb k H=>?_);have l:1<=n/\n<=8:=by
  grind
 obtain⟨m,rfl⟩: ∃m:Nat,n=(m:Int):=⟨n.toNat,by omega⟩;refine⟨λn st d=> ∃(j:Nat) (cs:List CR) (s:Option AM×Nat×Nat) (Ls:List (Nat×List AC)),j<=m/\n=m - j/\st.1=(j:Int)/\cs.length=j/\dx eC s (dL cs) Ls/\cB D G w0 d (Ls++((xb,kz s (none,0,0))::L)) (om cs (B5 j [])++M),⟨m,λd v=>⟨0,[],(none,0,0),[],F6 _,rfl,rfl,rfl,dx.nil eC,H.ext v⟩⟩,?_⟩;clear H;rintro n ⟨i, _⟩ d ⟨j,cs,s,Ls,y,z,hi,f,p,H⟩;have hi:i=(j:Int):=hi;subst hi z;dsimp only;have A:(xb,kz s (none,0,0))∈Ls++((xb,kz s (none,0,0))::L):=AY _ Am;refine ab (λc=>?_) (λc=>?_)
 ·have y:j<m:=by have:=of_decide_eq_true c;omega
  refine⟨rfl,rfl,aj.kN H.base A (show _=some (s.1,s.2.1,s.2.2) from rfl) λg h=>?_⟩;have H:=(H.ext h).alloc (o:= .chan 16 #[] false 0 0 false) trivial;obtain⟨c1,B⟩: ∃c1,c1=g.heap.size:=⟨_,rfl⟩;rw[<-B] at H ⊢;refine alM H λb J H N E=>?_;have H:=(H.ext E).perm (L':=Ls++((b,[.chan (some c1)])::(xb,kz s (none,0,0))::L)) B1;refine FV H p rfl (q:=(some ⟨b,0,none⟩,1,1)) (ys:=[some c1]) rfl (sg (e:=eC) (x:=some c1) (H.base.dj _ (AY _ Am))) rfl rfl (by grind) λr a O P H=>⟨rfl,rfl,?_⟩;have H:=(H.sub (Gi (B4 _ _) a)).perm (L':=(xb,kz s (none,0,0))::(a++L)) B1.symm;refine Xl H 0 rfl rfl rfl λQ H R F=>⟨m - (j+1),by omega,j+1,cs++[(c1,0,0)],r,a,by omega,rfl,?_,by rw[FY,f];rfl,?_,?_⟩
  ·rw[aw (by omega) (by omega)];omega
  grind
  ·have I:om (cs++[(c1,0,0)]) (B5 (j+1) [])=om cs (B5 j [])++[cO (c1,0,0) []]:=by
    unfold om;rw[Kj,List.zipWith_append (by rw[f,DU])];rfl
   rw[I,Cp];refine((H.ext F).perm (L':=a++((xb,kz r (none,0,0))::L)) B1).lq ?_;exact B1
 ·have:j=m:=by have:=of_decide_eq_false c;omega
  subst this;refine λg h=>t l.1 l.2 xb cs s Ls g (by rw[DF];exact f) p ?_;rw[DF];exact(H.ext h).perm B1.symm
end
end Go.Proofs.YtlcenllcmeebhaaGreat.Mu
namespace Go.Proofs.YtlcenllcmeebhaaGreat
set_option maxRecDepth 100000
open Go.RX D
def mR (g:Nat->Option GV):Option Nat:=((AL 16).find? λi=>(g (i+1)).isNone).map (· +1)
theorem nZ {g:Nat->Option GV} {v:Nat}:mR g=some v<->(1<=v/\v<=16)/\g v=none/\ ∀u,1<=u->u<v->(g u).isSome:=by
 unfold mR;rw[OC];constructor
 ·rintro⟨i,hi,rfl⟩;rw[LL] at hi;obtain⟨h1,a,b⟩:=hi;rw[DA] at a;refine⟨by omega,by simpa using h1,λu c d=>?_⟩;have:=b (u - 1) (by omega);rw[show u - 1+1=u by omega] at this;simpa using this
 ·rintro⟨h1,a,b⟩;refine⟨v - 1,?_,by omega⟩;rw[LL];refine⟨by rw[show v - 1+1=v by omega,a];rfl,DA.2 (by omega),λj e=>?_⟩;have:=b (j+1) (by omega) (by omega);simpa using this
theorem Im {g:Nat->Option GV}:mR g=none<-> ∀u,1<=u->u<=16->(g u).isSome:=by
 unfold mR;rw[OG,Gr];constructor
 ·intro h u b c;have:=h (u - 1) (DA.2 (by omega));rw[show u - 1+1=u by omega] at this;cases a:g u with
  |none=>rw[a] at this;exact absurd rfl this
  |some x=>rfl
 ·intro h i hi e;have:=h (i+1) (by omega) (by have:=DA.1 hi;omega);rw[Option.isNone_iff_eq_none.1 e] at this;cases this
def pE (h:HS):Int:=match mR h.g with
 |none=>3
 |some v=>rL h.s (v:Int)
def Bc (h:HS):Int:=match mR h.g with
 |none=>0
 |some v=>(v:Int)
def gU (h:HS):HS:=match mR h.g with
 |none=>h
 |some v=>if rL h.s (v:Int)=0 then{h with s:=iQ h.s (v:Int) λ_=>0,g:=bq h.g v (some ⟨eA h.s (v:Int),[]⟩)} else h
theorem n5 (A:Nat->GA) (g:Nat->Option GV):(mB A g).length=17:=by
 unfold mB;rw[Az,List.length_range]
theorem JQ (Q:Sys) (X:HX) (A:Nat->GA) (g:Nat->Option GV):(fh Q X A g).length=21:=by
 unfold fh;rw[FY,n5];rfl
theorem JR {Q:Sys} {X:HX} {A A':Nat->GA} {g g':Nat->Option GV} {v:Nat} (hv:v<17) (h: ∀j,j≠v->A' j=A j/\g' j=g j):(fh Q X A g).set (4+v*1) (ag (kO A' g' v))=fh Q X A' g':=by
 have e:(mB A g).set v (ag (kO A' g' v))=mB A' g':=by
  apply GG;intro i;by_cases hi:i<17
  ·rw[vE hi];by_cases e:v=i
   ·subst e;rw[Do (by rw[n5];exact hi)]
   ·rw[Eo e,vE hi];obtain⟨h1,a⟩:=h i (λe'=>e e'.symm);unfold kO;rw[h1,a]
  ·rw[M4 (by rw[DR,n5];omega),M4 (by rw[n5];omega)]
 unfold fh;rw[H4 _ _ (by show 4<=4+v*1;omega)];rw[<-e];show _++(mB A g).set (4+v*1 - 4) _= _;rw[show 4+v*1 - 4=v by omega]
section
variable {Q:Sys} {X:HX} {D G:List Nat} {w0 w:A1} {h:HS} {L:List (Nat×List AC)} {K:RS->A1->Prop}
theorem ab1 {A:Nat->GA} (W:DN A h) {v:Nat} (hv:1<=v/\v<=16) (f:h.g v=none) {s':WD} {r:Int} {bg bt bm l m:Nat} {n la:List AC} {j:A1}
 (H:SM Q D G w0 j s' ((bg,[ag (af bt),.map (some bm)])::(bt,oY Q (v:Int) r false)::(l,n)::(m,la)::(X.hb,(fh Q X A h.g).set (4+v*1) (ag (af bg)))::(X.gb,mG X.u5 h.gr.length X.c)::(X.u5,flat eG h.gr++X.rest)::(X.pb,Po.gE 4 h.po)::(bh Q A h.g (AL 17)++L)) ((bm,.map #[] 0)::dm A h.g (AL 17))):
 jq Q X D G w0 j {h with s:=s',g:=bq h.g v (some ⟨r,[]⟩)} L:=by
 have d:=BT A h.g v ⟨bg,bt,bm,0,[]⟩ (some ⟨r,[]⟩);have o:kO (oR A v ⟨bg,bt,bm,0,[]⟩) (bq h.g v (some ⟨r,[]⟩)) v=some ⟨bg,0,none⟩:=by
  unfold kO;rw[fP,qC]
 refine⟨oR A v ⟨bg,bt,bm,0,[]⟩,⟨λ{i x} a=>?_,λ{i x} a=>?_,W.gl,W.pt,W.gk⟩,?_⟩
 ·have a:bq h.g v (some ⟨r,[]⟩) i=some x:=a;unfold bq at a;by_cases e:i=v
  ·omega
  ·rw[ao e] at a;exact W.jo a
 ·have a:bq h.g v (some ⟨r,[]⟩) i=some x:=a;unfold bq at a;unfold oR;by_cases e:i=v
  ·rw[av e] at a ⊢;cases a;exact qU.nil
  ·rw[ao e] at a ⊢;exact W.mp a
 ·have k:=JR (Q:=Q) (X:=X) (by omega:v<17) d;rw[o] at k;rw[k] at H;refine((H.sub ((((B4 _ _).trans (B4 _ _)).cons_cons _).cons_cons _)).perm ?_).lq ?_
  ·have p1:(bh Q (oR A v ⟨bg,bt,bm,0,[]⟩) (bq h.g v (some ⟨r,[]⟩)) (AL 17)).Perm ([(bg,[ag (af bt),.map (some bm)]),(bt,oY Q (v:Int) r false)]++bh Q A h.g (AL 17)):=by
    have b:=wW (Q:=Q) (A:=oR A v ⟨bg,bt,bm,0,[]⟩) (by omega:v<17) (fP h.g v (some ⟨r,[]⟩));rw[wX d] at b;have p:=(z8 (Q:=Q) (A:=A) (by omega:v<17) f).symm;have e:gT Q (oR A v ⟨bg,bt,bm,0,[]⟩) v ⟨r,[]⟩=[(bg,[ag (af bt),.map (some bm)]),(bt,oY Q (v:Int) r false)]:=by
     unfold gT;rw[qC]
    rw[e] at b;exact b.trans (p.append_left _)
   refine(((((p1.append_right L).cons _).cons _).cons _).cons _).trans ?_;exact(DZ (l₁:=[_, _, _, _]) (l₂:=[_, _])).append_right (bh Q A h.g (AL 17)++L)
  ·have b:=mi (A:=oR A v ⟨bg,bt,bm,0,[]⟩) (by omega:v<17) (fP h.g v (some ⟨r,[]⟩));rw[pX d,qC] at b;exact b.trans ((z7 (A:=A) (by omega:v<17) f).symm.cons _)
theorem M_ (H:jq Q X D G w0 w h L) (F: ¬ (h.s.1.length:Int)<16*(h.s.2.length:Int)) (v k a b c:Int) (kk: ∀V x,(pE h=0->V=Bc h)->jq Q X D G w0 x (gU h) L->K (V,pE h,()) x):
 aE A2 121 (.el (.agg iR)) [ag (af X.hb),aa v,.agg ⟨gm k a b c⟩] w K:=by
 obtain⟨A,W,H⟩:=H;obtain⟨I,S,J⟩:=H.call;refine aQ (C:=V0) (aR:=oC) (AP (FA _ v k a b c w K) ?_);refine S.al λM x S=>S.al λN w3 S=>?_;refine⟨λn q w'=>(1<=q.1/\q.1<=17/\(n:Int)=17 - q.1)/\(∀u:Nat,1<=u->(u:Int)<q.1->(h.g u).isSome)/\bj Q [] I w w' h.s ((N,[ay 0,aa 0])::(M,gm k a b c)::dZ Q X A h (bh Q A h.g (AL 17)++L)),⟨16,λO P=>⟨by decide,λu l p=>(by dsimp only at p;omega),S.ext P⟩⟩,?_⟩;clear S;rintro n ⟨q,u⟩ O ⟨⟨R,T,U⟩,r,S⟩;dsimp only at R T U r ⊢;obtain⟨i,hi⟩: ∃i:Nat,q=(i:Int):=⟨q.toNat,by omega⟩;subst hi;rw[show((i:Int)).toNat=i from rfl];refine ab (λd=>?_) (λd=>⟨trivial,S.res (j:=0) rfl 0 3 λt S=>?_⟩)
 ·have d:(i:Int)<=16:=by simpa using d
  have hc:=S.pA (X:=X) (A:=A) (g:=h.g) (Ap _ (Ap _ Am)) (v:=(i:Int)) ⟨by omega,d⟩;rw[show((i:Int)).toNat=i from rfl] at hc;refine⟨rfl,rfl,⟨rfl,by omega,by show(i:Int)<((17:Nat):Int);omega⟩,aj.of _ hc ?_⟩;unfold kO;cases z:h.g i with
  |some y=>
   refine aA rfl λt Y=>⟨n - 1,by omega,⟨?_,?_,?_⟩,λu l p=>?_,S.ext Y⟩
   ·rw[aw (by omega) (by omega)];omega
   ·rw[aw (by omega) (by omega)];omega
   ·rw[aw (by omega) (by omega)];omega
   ·rw[aw (by omega) (by omega)] at p;by_cases e:u=i
    ·subst e;rw[z];rfl
    ·exact r u l (by omega)
  |none=>
   have m:mR h.g=some i:=nZ.2 ⟨by omega,z,λu l p=>r u l (by omega)⟩;have cE:pE h=rL h.s (i:Int):=by unfold pE;rw[m]
   have Z:Bc h=(i:Int):=by unfold Bc;rw[m]
   have B:gU h=if rL h.s (i:Int)=0 then{h with s:=iQ h.s (i:Int) λ_=>0,g:=bq h.g i (some ⟨eA h.s (i:Int),[]⟩)} else h:=by unfold gU;rw[m]
   have eu:aD .u64 (i:Int)=(i:Int):=dH ⟨by omega,by omega⟩;rw[cE,Z,B] at kk;refine an rfl ⟨rfl,rfl,aj.of _ (S.fT (X:=X) (A:=A) (g:=h.g) (by simp) (n:=0) rfl) ⟨rfl,rfl,aj.of _ (S.fT (X:=X) (A:=A) (g:=h.g) (by simp) (n:=1) rfl) ?_⟩⟩;refine S.new (i:Int) (λe=>absurd e F) (λ_ f t S=>?_) (λ_ f bt t S=>?_)
   ·rw[ao f] at kk;refine an (by simpa using f) (S.res (j:=0) rfl _ _ λE S=>kk _ E (λe=>absurd e f) ⟨A,W,J ?_⟩);rw[JH f] at S;exact S.tail.tail
   ·rw[av f,f] at kk;refine aA rfl λE h6=>?_;have H:=((J S).ext h6).alloc (o:= .map #[] 0) trivial;obtain⟨bm,W8⟩: ∃bm,bm=E.heap.size:=⟨_,rfl⟩;rw[<-W8] at H ⊢;obtain⟨G2,S,J2⟩:=H.call;refine S.al λbg w7 S=>⟨rfl,rfl,⟨rfl,by omega,by show(i:Int)<((17:Nat):Int);omega⟩,?_⟩;rw[aW];refine S.CP 4 rfl rfl (by rw[Nat.blt_eq,JQ];omega) λw8 S=>S.res (j:=2) rfl _ _ λw9 S=>kk _ w9 (λ_=>eu) (ab1 (bg:=bg) (bt:=bt) (bm:=bm) W (by omega) z (J2 S))
 ·have d: ¬ (i:Int)<=16:=by simpa using d
  have m:mR h.g=none:=Im.2 λu l p=>r u l (by omega);have cE:pE h=3:=by unfold pE;rw[m]
  have B:gU h=h:=by unfold gU;rw[m]
  rw[cE,B] at kk;exact kk _ t (λe=>absurd e (by decide)) ⟨A,W,J S.tail.tail⟩
end
theorem JS (s:WD) (o:Int) (G:Int->Int):(iQ s o G).1.length=s.1.length:=by
 unfold iQ;dsimp only;split
 ·exact gN _ _ _ _
 ·rfl
theorem t_ (s:WD) (o r p:Int):(ft s o r p).1.length=s.1.length:=by
 unfold ft;split
 ·rfl
 ·split
  ·exact yf _ _ _ _ _
  ·exact JS _ _ _
theorem BY: ∀(l:List PT) (s:WD),(jx l s).1.length=s.1.length
 |[],s=>rfl
 |[x],s=>rfl
 |x::y::l,s=>by
  rw[jx];split
  ·rw[BY (y::l)];exact cG _ _ _
  ·rfl
theorem ua (s:WD) (o r:Int) (gone:Bool) (p:Int):(nv s o r gone p).1.length=s.1.length:=by
 unfold nv;split
 ·split
  ·rw[BY];show(cZ _ _ _).length= _;rw[cG,t_]
  ·exact t_ _ _ _ _
 ·rfl
def vX (h:HS) (v:Int):List TK:=match h.g v.toNat with|some x=>x.tk|none=>[]
def yQ (v:Int) (h:HS):HS:=dA h v (AO ((vX h v).map (·.1))) (N2 h v (AO ((vX h v).map (·.1)))).1 (N2 h v (AO ((vX h v).map (·.1)))).2
def fe (v:Int):Nat->HS->HS
 |0,h=>h
 |n+1,h=>fe v n (yQ v h)
def tJ (ds:List DT) (v:Int):Bool:=(gf ds v).any λi=>decide ((oV ds (i:Int)).2.2.1>0)
def vk (v:Int) (x:List DT×Int) (i:Nat):List DT×Int:=if(oV x.1 (i:Int)).1=4 then(dL x.1 (i:Int) (aO 5 v),x.2+1) else x
def CG (ds:List DT) (v:Int):List DT×Int:=(gf ds v).foldl (vk v) (ds,0)
def wo (h:HS) (v:Int):HS where
 s:=((cH h.s (a9 h.g v) false).1,(CG (cH h.s (a9 h.g v) false).2 v).1)
 g:=bq h.g v.toNat none
 gr:=cP h.gr v
 po:=(Po.cH 4 h.po v).2
def Gy (h:HS) (a:Int):Int:=if aV h.g a=true then(if tJ h.s.2 a=true then 9 else 0) else 4
def tB (h:HS) (a:Int):HS:=if aV h.g a=true then(if tJ h.s.2 a=true then h else wo (fe a (vX h a).length h) a) else h
def Zi (h:HS) (a:Int):Int:=if aV h.g a=true then(if tJ h.s.2 a=true then 0 else(CG (cH (fe a (vX h a).length h).s (a9 (fe a (vX h a).length h).g a) false).2 a).2) else 0
theorem Na (gs:List GT) (v:Int):(cP gs v).length=gs.length:=by unfold cP;rw[Az]
theorem sU (h:HS) (v p id f w:Int):aV (dA h v p id f).g w=aV h.g w:=by
 unfold aV dA bq;dsimp only;by_cases e:w.toNat=v.toNat
 ·rw[e,av rfl];cases h.g v.toNat<;>rfl
 ·rw[ao e]
theorem Io (h:HS) (v p id f w:Int):a9 (dA h v p id f).g w=a9 h.g w:=by
 unfold a9;rw[sU];unfold dA bq;dsimp only;by_cases e:w.toNat=v.toNat
 ·rw[e,av rfl];cases h.g v.toNat<;>rfl
 ·rw[ao e]
theorem E6 {h:HS} {v p id f:Int}:vX (dA h v p id f) v=(vX h v).filter λt=> !(t.1==p):=by
 unfold vX dA bq;dsimp only;rw[av rfl];cases h.g v.toNat<;>rfl
section
variable {Q:Sys} {X:HX} {D G:List Nat} {w0 w:A1} {h:HS} {L:List (Nat×List AC)} {K:RS->A1->Prop}
theorem bj.aaX {s:WD} {L0 rows:List (Nat×List AC)} (S:bj Q D G w0 w s L0) {e:El} {x:Option AM×Nat×Nat} {l:List e.T} (a:oq e rows x l) (b: ∀x∈rows,x∈L0):Sl w e x.1 l:=by
 obtain⟨g1,d,f,g,ca,la,H⟩:=S;exact a.sl H λx c=>Ap _ (Ap _ (Ap _ (Ap _ (b x c))))
theorem aan {A:Nat->GA} {v:Nat} {x:GV} (hv:v<17) (a:h.g v=some x) (T:List (Nat×List AC)):
 (gT Q A v x++(T++dZ Q X A h (bh Q A h.g ((AL 17).erase v)++L))).Perm (T++dZ Q X A h (bh Q A h.g (AL 17)++L)):=by
 have p1:=(wW (Q:=Q) (A:=A) hv a).symm;have p2:=((((p1.append_right L).cons (X.pb,Po.gE 4 h.po)).cons (X.u5,flat eG h.gr++X.rest)).cons (X.gb,mG X.u5 h.gr.length X.c)).cons (X.hb,fh Q X A h.g);refine List.Perm.trans ?_ (p2.append_left T);have e:T++dZ Q X A h ((gT Q A v x++bh Q A h.g ((AL 17).erase v))++L)=(T++[(X.hb,fh Q X A h.g),(X.gb,mG X.u5 h.gr.length X.c),(X.u5,flat eG h.gr++X.rest),(X.pb,Po.gE 4 h.po)])++(gT Q A v x++(bh Q A h.g ((AL 17).erase v)++L)):=by simp
 have b:gT Q A v x++(T++dZ Q X A h (bh Q A h.g ((AL 17).erase v)++L))=gT Q A v x++((T++[(X.hb,fh Q X A h.g),(X.gb,mG X.u5 h.gr.length X.c),(X.u5,flat eG h.gr++X.rest),(X.pb,Po.gE 4 h.po)])++(bh Q A h.g ((AL 17).erase v)++L)):=by simp
 show List.Perm _ (T++dZ Q X A h ((gT Q A v x++bh Q A h.g ((AL 17).erase v))++L));rw[e,b];exact M5 _ _ _
end
theorem E7 (ds:List DT) (v:Int):(gf ds v).length<=ds.length:=by grind[gf]
section
variable {Q:Sys} {X:HX} {D G:List Nat} {w0 w:A1} {h:HS} {L:List (Nat×List AC)} {K:RS->A1->Prop}
theorem ab2 {A:Nat->GA} (W:DN A h) {v:Nat} {x:GV} (hv:v<17) (a:h.g v=some x) {s':WD} {Aq:List GT} {N5:List Po.PT} (d:Aq.length=h.gr.length) (n:oh Aq) (o:Po.lM 4 N5) {f:A1} {p q r t:Nat×List AC}
 (H:SM Q D G w0 f s' (p::q::r::t::(X.hb,(fh Q X A h.g).set (4+v*1) (ag none))::(X.gb,mG X.u5 h.gr.length X.c)::(X.u5,flat eG Aq++X.rest)::(X.pb,Po.gE 4 N5)::(bh Q A h.g ((AL 17).erase v)++L)) (dm A h.g (AL 17))):
 jq Q X D G w0 f {s:=s',g:=bq h.g v none,gr:=Aq,po:=N5} L:=by
 have b: ∀j,j≠v->A j=A j/\bq h.g v none j=h.g j:=λj u=>⟨rfl,ao u⟩;have w:kO A (bq h.g v none) v=none:=by
  unfold kO;rw[fP]
 refine⟨A,⟨λ{i x} a=>?_,λ{i x} a=>?_,d.trans W.gl,o,n⟩,?_⟩
 ·have a:bq h.g v none i=some x:=a;unfold bq at a;by_cases e:i=v
  ·grind
  ·rw[ao e] at a;exact W.jo a
 ·have a:bq h.g v _ i=some x:=a;unfold bq at a;by_cases e:i=v
  grind
  ·rw[ao e] at a;exact W.mp a
 ·have k:=JR (Q:=Q) (X:=X) hv b;rw[w] at k;rw[k] at H;have H:=((((H.sub (B4 _ _)).sub (B4 _ _)).sub (B4 _ _)).sub (B4 _ _));have H:=(H.lq (mi hv a).symm).Gl (B4 _ _);have l:=z8 (Q:=Q) (A:=A) hv (fP h.g v _);rw[wX b] at l;have m:=z7 (A:=A) hv (fP h.g v none);rw[pX b] at m;refine(H.perm ?_).lq m;show List.Perm ((X.hb,fh Q X A _)::(X.gb,mG X.u5 Aq.length X.c)::(X.u5,flat eG Aq++X.rest)::(X.pb,Po.gE 4 N5)::(bh Q A _ _++L)) _;rw[d];exact((((l.append_right L).cons _).cons _).cons _).cons _
theorem E8 {l:List Int} (b:l≠[]) (h: ∀x∈l,x<65536):AO l∈l:=by
 obtain⟨d,c,a⟩:=zy l 65536;rcases a with a|a
 ·obtain⟨x,l',rfl⟩:=List.exists_cons_of_ne_nil b;have:=c x
  grind
 ·exact a
theorem Ip (H:jq Q X D G w0 w h L) (v k:Int) {a:Int} (b c:Int) (ha:0<=a) (hF:Ol Q h.s) (NZ:aV h.g a=true->0<=a9 h.g a/\a9 h.g a<4096) (A0: ∀t∈vX h a,t.1<65536)
 (kk: ∀w2,jq Q X D G w0 w2 (tB h a) L->K (Zi h a,Gy h a,()) w2):
 aE A2 122 (.el (.agg iR)) [ag (af X.hb),aa v,.agg ⟨gm k a b c⟩] w K:=by
 obtain⟨A,W,H⟩:=H;obtain⟨G',S,J⟩:=H.call;refine aQ (C:=V0) (aR:=ni) (AP (Dq _ v k a b c w K) ?_);unfold Gy Zi tB at kk;refine S.al λU w2 S=>S.al λV w3 S=>⟨rfl,S.cx 1 rfl rfl ⟨_,EU S (X:=X) (A:=A) (g:=h.g) (by simp) ha,?_⟩⟩;cases O:aV h.g a with
 |false=>
  rw[O,ao (by decide),ao (by decide),ao (by decide)] at kk;exact aA rfl ⟨trivial,S.res (j:=0) rfl 0 4 λw4 S=>kk w4 ⟨A,W,J S.tail.tail⟩⟩
 |true=>
 rw[O,av rfl,av rfl,av rfl] at kk;obtain⟨x,hx,td,hv,vV,rM⟩:=bZ O;have ea:aD .i64 a=a:=bM ⟨ha,by omega⟩;refine an rfl ⟨rfl,S.cx 1 rfl rfl ?_⟩;rw[ea];refine⟨rfl,rfl,aj.of _ (S.fT (X:=X) (A:=A) (g:=h.g) (by simp) (n:=1) rfl) (S.owned a λr rows w4 S E=>?_)⟩;have hlen:(gf h.s.2 a).length<=4096:=I3 (E7 _ _) S.le;obtain⟨xp,xn,xc⟩:=r;have hxl:xn=(gf h.s.2 a).length:=by have:=E.1;rw[Az] at this;exact this
 subst hxl;refine⟨λn q w'=> ∃m:Nat,q.1=(m:Int)/\n+m=(gf h.s.2 a).length/\(∀i,i<m-> ∀f,(gf h.s.2 a)[i]? =some f-> ¬ (oV h.s.2 (f:Int)).2.2.1>0)/\bj Q [] G' w w' h.s (((V,[ay 0,aa 0])::(U,gm k a b c)::dZ Q X A h (bh Q A h.g (AL 17)++L))++rows),⟨(gf h.s.2 a).length,λw5 h5=>⟨0,rfl,rfl,λi hi=>absurd hi (N_ i),S.ext h5⟩⟩,?_⟩;clear S;rintro n ⟨q,u⟩ w5 ⟨m,Z,hnm,uX,S⟩;dsimp only at Z ⊢;subst Z;refine ab (λo=>?_) (λo=>?_)
 ·have P:m<(gf h.s.2 a).length:=by simpa using o
  obtain⟨f,Yt⟩: ∃f,f=(gf h.s.2 a)[m]:=⟨_,rfl⟩;have M:(gf h.s.2 a)[m]? =some f:=by rw[Yt];exact Cf P
  have Ks:((gf h.s.2 a).map λi=>((i:Nat):Int))[m]? =some ((f:Nat):Int):=by rw[Bx,M];rfl
  have xm:=(S.aaX E (λx hx=>AY _ hx)) m _ Ks;refine⟨⟨xm.1,by omega,by omega⟩,aj.of _ xm.2 ⟨rfl,rfl,aj.of _ (S.fT (X:=X) (A:=A) (g:=h.g) (by simp) (n:=1) rfl) ⟨(oV h.s.2 (f:Int),xR h.s.2 (f:Int),()),S.ofq (f:Int),S.al λbd w6 S=>S.fm 0 rfl rfl rfl λw7 S=>⟨rfl,S.cx 0 rfl rfl ?_⟩⟩⟩⟩;refine ab (λF=>⟨trivial,S.res (j:=1) rfl 0 9 λw8 S=>?_⟩) (λF=>λw8 h8=>⟨n - 1,by omega,m+1,?_,by omega,λi hi g I=>?_,(S.ext h8).tail⟩)
  ·have F:(oV h.s.2 (f:Int)).2.2.1>0:=by simpa using F
   have hb:tJ h.s.2 a=true:=by
    unfold tJ;exact GH.2 ⟨f,CF M,by simpa using F⟩
   rw[hb,av rfl,av rfl,av rfl] at kk;exact kk w8 ⟨A,W,J ((S.tail.sub (GI _ _)).tail.tail)⟩
  ·rw[aw (by omega) (by omega)];omega
  ·by_cases e:i=m
   ·subst e;rw[M] at I;cases I;simpa using F
   ·exact uX i (by omega) g I
 have P: ¬ m<(gf h.s.2 a).length:=by simpa using o
 have hb: ¬ tJ h.s.2 a=true:=by
  unfold tJ;rw[GH];rintro⟨f,M,hd⟩;obtain⟨i,hi⟩:=B2 M;have:i<(gf h.s.2 a).length:=(CD.1 hi).1;exact uX i (by omega) f hi (by simpa using hd)
 rw[ao hb,ao hb,ao hb] at kk;have S:=S.sub (GI _ rows);clear uX hnm E o P;obtain⟨g1, _,g3, _⟩:=S.tA (X:=X) (A:=A) (g:=h.g) (by simp) (bW W [_, _]) O;refine⟨rfl,rfl,⟨rfl,by omega,by show a<((17:Nat):Int);omega⟩,aj.of _ g1 ?_⟩;refine⟨λn _ w'=> ∃(B:Nat->GA) (h':HS),fe a n h'=fe a (vX h a).length h/\(vX h' a).length=n/\aV h'.g a=true/\a9 h'.g a=a9 h.g a/\Ol Q h'.s/\(∀t∈vX h' a,t.1<65536)/\(B a.toNat).bg=(A a.toNat).bg/\DN B h'/\SM Q D G w0 w' h'.s ([(V,[ay 0,aa 0]),(U,gm k a b c)]++dZ Q X B h' (bh Q B h'.g (AL 17)++L)) (dm B h'.g (AL 17)),⟨(vX h a).length,λw6 h6=>⟨A,h,rfl,rfl,O,rfl,hF,A0,rfl,W,(J S).ext h6⟩⟩,?_⟩;clear S g1 g3 J H;rintro n u w6 ⟨B,h',I,hn,Al,TI,hF',Zj,aaY,d,H⟩;obtain⟨x',z,Zk,TY, _, _⟩:=bZ Al;have KH:a.toNat<17:=by omega
 have Y:vX h' a=x'.tk:=by unfold vX;rw[z]
 rw[<-aaY];obtain⟨G2,S,J2⟩:=H.call;have mem:(X.hb,fh Q X B h'.g)∈[(V,[ay 0,aa 0]),(U,gm k a b c)]++dZ Q X B h' (bh Q B h'.g (AL 17)++L):=AY _ Am;obtain⟨_, _,g3, _⟩:=S.tA (X:=X) (A:=B) (g:=h'.g) mem (bW d _) Al;have AZ:bF w6 (B a.toNat).bm ⟨(B a.toNat).es⟩ (B a.toNat).ck:=H.get (fQ d _ _ z);refine⟨rfl,rfl,aj.of _ g3 ⟨_,⟨_, _, _,rfl,AZ,rfl⟩,?_⟩⟩;have h_:(⟨(B a.toNat).es⟩:Array B3).size=n:=by
  rw[<-hn,Y];exact(d.mp z).len
 rw[h_];refine ab (λo=>?_) (λo=>?_)
 ·have o:n>0:=by
   have:(n:Int)>0:=by simpa using o
   omega
  have E:((B a.toNat).bg,[ag (some ⟨(B a.toNat).bt,0,none⟩),.map (some (B a.toNat).bm)])∈[(V,[ay 0,aa 0]),(U,gm k a b c)]++dZ Q X B h' (bh Q B h'.g (AL 17)++L):=bW d _ _ _ z _ Am;have dn:x'.tk.map (·.1)≠[]:=λe=>by
   have:=congrArg F7 e;rw[Az, <-Y,hn] at this;simp at this;omega
  have Gv:=E8 dn (λy hy=>by
   obtain⟨t,ht,rfl⟩:=Ar.1 hy;exact Zj t (by rw[Y];exact ht))
  refine M6 H E (fQ d _ _ z) (d.mp z) λw7 H=>?_;obtain⟨p,hp⟩: ∃p,p=AO (x'.tk.map (·.1)):=⟨_,rfl⟩;rw[<-hp] at Gv ⊢;obtain⟨t,ht,htp⟩:=Ar.1 Gv;have sX:cg x'.tk p=some t.2:=(jM (a:=t.2.1) (b:=t.2.2) (d.mp z).2.2.2).2 (by rw[<-htp];exact ht);have hX:N2 h' a p=t.2:=by unfold N2;rw[z];dsimp only;rw[sX];rfl
  have Ud:yQ a h'=dA h' a p t.2.1 t.2.2:=by
   unfold yQ;rw[Y, <-hp,hX]
  refine EZ d (T:=[(V,[ay 0,aa 0]),(U,gm k a b c)]) H Al hF' (by rw[TI];exact NZ O) z sX λB' w8 hb W'' H=>λw9 h9=>⟨n - 1,by omega,B',dA h' a p t.2.1 t.2.2,?_,?_,?_,?_,?_,?_,?_,W'',H.ext h9⟩
  ·rw[<-Ud, <-I];obtain⟨m,rfl⟩: ∃m,n=m+1:=⟨n - 1,by omega⟩;rfl
  ·rw[E6,Y];obtain⟨r,M,FP⟩:=(d.mp z).find p;rw[sX] at FP;obtain⟨i, _,hi,hM⟩:=FP;rw[<-hM.len,Hq,av hi];have:=(d.mp z).len;rw[Y] at hn;omega
  ·rw[sU];exact Al
  ·rw[Io];exact TI
  ·have e:(dA h' a p t.2.1 t.2.2).s.1.length=h'.s.1.length:=ua _ _ _ _ _;exact⟨by rw[e];exact hF'.1,by rw[e];exact hF'.2⟩
  ·intro t' qd;rw[E6] at qd;exact Zj t' (H7.1 qd).1
  ·rw[hb,aaY]
 have T5:n=0:=by
  have: ¬ (n:Int)>0:=by simpa using o
  omega
 subst T5;have I:h'=fe a (vX h a).length h:=I;rw[<-I] at kk;clear I h_ o g3 S J2 mem AZ hb Zj hn hF' A0;have acM:0<=x'.root/\x'.root<4096:=by rw[<-Zk,TI];exact NZ O
 rw[Zk] at kk;have H:=H.perm (aan KH z _);obtain⟨G2,S,J2⟩:=H.call;refine⟨rfl,rfl,aj.of _ (S.fT (X:=X) (A:=B) (g:=h'.g) (CF (i:=4) rfl) (n:=2) rfl) (S.abU 5 6 rfl rfl (by rw[d.gl];decide) (by rw[d.gl];decide) (by decide) a λn2 w8 S=>⟨rfl,rfl,aj.of _ (S.fT (X:=X) (A:=B) (g:=h'.g) (CF (i:=4) rfl) (n:=3) rfl) (S.abY 7 rfl d.pt a λw9 S=>⟨rfl,rfl,?_⟩)⟩)⟩;refine S.cx 0 rfl rfl (S.drop 1 rfl acM λy ab3 l4 S _=>?_);have S:=S.sub (GI _ ab3);refine⟨rfl,rfl,aj.of _ (S.fT (X:=X) (A:=B) (g:=h'.g) (CF (i:=4) rfl) (n:=1) rfl) (S.owned a λr2 O7 og S E=>?_)⟩;obtain⟨s1,Cg⟩: ∃s1,s1=cH h'.s x'.root false:=⟨_,rfl⟩;have hgo:wo h' a={s:=(s1.1,(CG s1.2 a).1),g:=bq h'.g a.toNat none,gr:=cP h'.gr a,po:=(Po.cH 4 h'.po a).2}:=by
  unfold wo;rw[Zk, <-Cg]
 rw[<-Cg] at S kk E;rw[hgo] at kk;obtain⟨xp2,xn2,xc2⟩:=r2;have acN:xn2=(gf s1.2 a).length:=by have:=E.1;rw[Az] at this;exact this
 subst acN;have Eg:(gf s1.2 a).length<=4096:=I3 (E7 _ _) S.le;obtain⟨l,IK⟩: ∃l,l=gf s1.2 a:=⟨_,rfl⟩;have Gg:CG s1.2 a=l.foldl (vk a) (s1.2,0):=by unfold CG;rw[IK]
 rw[<-IK] at E Eg ⊢;obtain⟨R,hR⟩: ∃R,R=CG s1.2 a:=⟨_,rfl⟩;rw[<-hR] at kk;rw[<-hR] at Gg;obtain⟨RL,hRL⟩: ∃RL:List (Nat×List AC),RL=((B a.toNat).bg,[ag (some ⟨(B a.toNat).bt,0,none⟩),.map (some (B a.toNat).bm)])::((B a.toNat).bt,oY Q ((a.toNat:Nat):Int) x'.root true)::(V,[ay 0,aa 0])::(U,gm k a b c)::(X.hb,fh Q X B h'.g)::(X.gb,mG X.u5 h'.gr.length X.c)::(X.u5,flat eG (cP h'.gr a)++X.rest)::(X.pb,Po.gE 4 (Po.cH 4 h'.po a).2)::(bh Q B h'.g ((AL 17).erase a.toNat)++L):=⟨_,rfl⟩;have S:bj Q [] G2 w6 og s1 (RL++O7):=by rw[hRL];exact S
 have aaZ: ∀{T:List (Nat×List AC)},(X.hb,fh Q X B h'.g)∈RL++T:=λ{T}=>CB _ (by rw[hRL];exact CF (i:=4) rfl);refine⟨λn q w'=> ∃(m:Nat) (ds:List DT),q.2.1=(m:Int)/\n+m=l.length/\(0<=q.1/\q.1<=m)/\(l.drop m).foldl (vk a) (ds,q.1)=R/\bj Q [] G2 w6 w' (s1.1,ds) (RL++O7),⟨l.length,λDI T7=>⟨0,s1.2,rfl,rfl,⟨by decide,by decide⟩,Gg.symm,S.ext T7⟩⟩,?_⟩;clear S;rintro n ⟨cnt,q,u⟩ DI ⟨m,ds,Z,hnm,hcm,N,S⟩;dsimp only at Z hcm N ⊢;subst Z;refine ab (λo=>?_) (λo=>?_)
 ·have P:m<l.length:=by simpa using o
  obtain⟨f,Yt⟩: ∃f,f=l[m]:=⟨_,rfl⟩;have M:l[m]? =some f:=by rw[Yt];exact Cf P
  have Ks:(l.map λi=>((i:Nat):Int))[m]? =some ((f:Nat):Int):=by rw[Bx,M];rfl
  have xm:=(S.aaX E (λx hx=>AY _ hx)) m _ Ks;rw[IR P, <-Yt,Gn] at N;refine⟨⟨xm.1,by omega,by omega⟩,aj.of _ xm.2 ⟨rfl,rfl,aj.of _ (S.fT (X:=X) (A:=B) (g:=h'.g) aaZ (n:=1) rfl) ⟨(oV ds (f:Int),xR ds (f:Int),()),S.ofq (f:Int),S.al λbd Oi S=>S.fm 0 rfl rfl rfl λNW S=>⟨rfl,S.cx 0 rfl rfl ?_⟩⟩⟩⟩;refine ab (λF=>⟨rfl,rfl,aj.of _ (S.fT (X:=X) (A:=B) (g:=h'.g) (Ap _ aaZ) (n:=1) rfl) (S.Uw (f:Int) 5 a λw15 S=>λYk Xm=>⟨n - 1,by omega,m+1, _,?_,by omega,?_,?_,(S.ext Xm).tail⟩)⟩) (λF=>λYk Xm=>⟨n - 1,by omega,m+1,ds,?_,by omega,?_,?_,(S.ext Xm).tail⟩)
  ·show aH .i64 (m:Int) 1= _;rw[aw (by omega) (by omega)];omega
  ·show 0<=aH .i64 cnt 1/\aH .i64 cnt 1<=((m+1:Nat):Int);rw[aw (by omega) (by omega)];omega
  ·show(l.drop (m+1)).foldl (vk a) (dL ds (f:Int) (aO 5 a),aH .i64 cnt 1)=R;rw[aw (by omega) (by omega), <-N];have d4:(oV ds (f:Int)).1=4:=by simpa using F
   rw[show vk a (ds,cnt) f=if(oV ds (f:Int)).1=4 then(dL ds (f:Int) (aO 5 a),cnt+1) else(ds,cnt) from rfl,av d4]
  ·show aH .i64 (m:Int) 1= _;rw[aw (by omega) (by omega)];omega
  ·show 0<=cnt/\cnt<=((m+1:Nat):Int);omega
  ·show(l.drop (m+1)).foldl (vk a) (ds,cnt)=R;rw[<-N];have d4: ¬ (oV ds (f:Int)).1=4:=by simpa using F
   rw[show vk a (ds,cnt) f=if(oV ds (f:Int)).1=4 then(dL ds (f:Int) (aO 5 a),cnt+1) else(ds,cnt) from rfl,ao d4]
 have P: ¬ m<l.length:=by simpa using o
 rw[List.drop_of_length_le (by omega)] at N;have N:(ds,cnt)=R:=N;rw[<-N] at kk;have S:=S.sub (GI _ O7);rw[hRL] at S;refine⟨rfl,rfl,⟨rfl,by omega,by show a<((17:Nat):Int);omega⟩,?_⟩;rw[aW];refine S.CP 4 rfl rfl (by rw[Nat.blt_eq,JQ];omega) λOi S=>S.res (j:=2) rfl _ _ λNW S=>?_;rw[dH ⟨by omega,by omega⟩];exact kk NW (ab2 d KH z (Na _ _) (d.gk.drop _) (Po.RG d.pt a) (J2 S))
end
def run (h:HS) (v k a b c:Int):HS×Int×Int:=match k.toNat with
 |1=>(gU h,Bc h,pE h)
 |2=>(tB h a,Zi h a,Gy h a)
 |3=>(jS h v a b,yB h v a b)
 |4=>(qV h v a,CC h v a)
 |5=>(jX h v a b,0,pC h v a b)
 |6=>(h,I7 h v a)
 |7=>(ko h v a b,0,sq h v a)
 |8=>(iF h v a b c,y8 h v a b c)
 |9=>(jz h v a b c,0,nA h v a b c)
 |10=>(g_ h v a,0,pD h v a)
 |11=>(f_ h v a,0,C9 h v a)
 |12=>(l7 h v a,I5 h v a)
 |13=>(l8 h v a b,I6 h v a b)
 |14=>(l6 h v a,0,O3 h v a)
 |15=>(O5 h v,O4 h v,0)
 |16=>(jf h v a,0,G7 h v a)
 | _=>(bD h (dN h.s h.s.2.length).1,((dN h.s h.s.2.length).2:Int),0)
def iZ (h:HS) (v k a b c:Int):Int:=
 if(decide (v<0)||decide (v>16)|| !iE k a b c)=true then 1 else if(!(v==0)==vj k)=true then 7 else if(decide (v>0)&& !aV h.g v)=true then 4 else 0
def rN (h:HS) (v k a b c:Int):Int:=if iZ h v k a b c=0 then(run h v k a b c).2.2 else iZ h v k a b c
def yx (h:HS) (v k a b c:Int):Int:=if iZ h v k a b c=0 then(if(run h v k a b c).2.2=0 then(run h v k a b c).2.1 else 0) else 0
def kZ (h:HS) (v k a b c:Int):HS:=if iZ h v k a b c=0 then(run h v k a b c).1 else h
structure CH (Q:Sys) (h:HS):Prop where
 N6:Ol Q h.s
 sz:16*h.s.2.length<=h.s.1.length
 rr: ∀v,aV h.g v=true->0<=a9 h.g v/\a9 h.g v<4096
 pg: ∀v, ∀t∈vX h v,t.1<65536
 new: ∀v a b c, ∀x,h.g v.toNat=some x->aV h.g v=true->lU h.s (a9 h.g v) false b (lO h a).1 (xy c)=0->cg x.tk b=none
section
variable {Q:Sys} {X:HX} {D G:List Nat} {w0 w:A1} {h:HS} {L T:List (Nat×List AC)}
theorem JT (A:Nat->GA) (h:HS):(dZ Q X A h (bh Q A h.g (AL 17)++(T++L))).Perm (T++dZ Q X A h (bh Q A h.g (AL 17)++L)):=by
 have a:dZ Q X A h (bh Q A h.g (AL 17)++(T++L))=(dZ Q X A h (bh Q A h.g (AL 17)))++(T++L):=by simp
 have b:T++dZ Q X A h (bh Q A h.g (AL 17)++L)=T++(dZ Q X A h (bh Q A h.g (AL 17))++L):=by simp
 rw[a,b];exact M5 _ _ _
theorem jq.of {A:Nat->GA} (W:DN A h) (H:SM Q D G w0 w h.s (T++dZ Q X A h (bh Q A h.g (AL 17)++L)) (dm A h.g (AL 17))):jq Q X D G w0 w h (T++L):=
 ⟨A,W,H.perm (JT A h)⟩
theorem jq.to (H:jq Q X D G w0 w h (T++L)): ∃A,DN A h/\SM Q D G w0 w h.s (T++dZ Q X A h (bh Q A h.g (AL 17)++L)) (dm A h.g (AL 17)):=by
 obtain⟨A,W,H⟩:=H;exact⟨A,W,H.perm (JT A h).symm⟩
def lW (k:Int):Nat:=([121,122,124,125,126,127,128,129,130,131,132,133,134,135,136,137,123]:List Nat).getD (k - 1).toNat 0
theorem dQ (H:jq Q X D G w0 w h L) (R:CH Q h) {v k a b c:Int} (m:1<=k/\k<=17) (i:vj k=false->aV h.g v=true) (f:0<=a/\a<18446744073709551616) (hb:0<=b/\b<18446744073709551616) (hc:0<=c/\c<18446744073709551616) {K:RS->A1->Prop}
 (kk: ∀V d,((run h v k a b c).2.2=0->V=(run h v k a b c).2.1)->jq Q X D G w0 d (run h v k a b c).1 L->K (V,(run h v k a b c).2.2,()) d):
 aE A2 (lW k) (.el (.agg iR)) [ag (af X.hb),aa v,.agg ⟨gm k a b c⟩] w K:=by
 have:k=1\/k=2\/k=3\/k=4\/k=5\/k=6\/k=7\/k=8\/k=9\/k=10\/k=11\/k=12\/k=13\/k=14\/k=15\/k=16\/k=17:=by omega
 rcases this with rfl|rfl|rfl|rfl|rfl|rfl|rfl|rfl|rfl|rfl|rfl|rfl|rfl|rfl|rfl|rfl|rfl
 ·exact M_ H (by have:=R.sz;omega) v 1 a b c λV d j H=>kk V d j H
 ·exact Ip H v 2 b c f.1 R.N6 (R.rr a) (R.pg a) λd H=>kk _ d (λ_=>rfl) H
 ·exact MX H (i rfl) 3 c f.1 hb.1 λd H=>kk _ d (λ_=>rfl) H
 ·exact Ih H (i rfl) R.N6 (R.rr v (i rfl)) 4 b c f.1 λd H=>kk _ d (λ_=>rfl) H
 ·exact Ig H (i rfl) 5 c f.1 hb.1 λd H=>kk _ d (λ_=>rfl) H
 ·exact Wg H v 6 b c f.1 λd H=>kk _ d (λ_=>rfl) H
 ·exact SA H v 7 c f.1 hb λd H=>kk _ d (λ_=>rfl) H
 ·exact Sz H v 8 f.1 hb.1 hc.1 λd H=>kk _ d (λ_=>rfl) H
 ·exact Wi H (i rfl) 9 f.1 hb.1 hc.1 (λx l e=>R.new v a b c x l (i rfl) e) λd H=>kk _ d (λ_=>rfl) H
 ·exact Wh H (i rfl) R.N6 (R.rr v (i rfl)) 10 b c f.1 λd H=>kk _ d (λ_=>rfl) H
 ·exact MQ H v 11 b c f.1 λd H=>kk _ d (λ_=>rfl) H
 ·exact We H v 12 b c f.1 λd H=>kk _ d (λ_=>rfl) H
 ·exact Wf H v 13 c f.1 hb.1 λd H=>kk _ d (λ_=>rfl) H
 ·exact Wc H v 14 b c f.1 λd H=>kk _ d (λ_=>rfl) H
 ·exact Wd H v 15 a b c λd H=>kk _ d (λ_=>rfl) H
 ·exact Sv H v 16 b c f.1 λd H=>kk _ d (λ_=>rfl) H
 ·exact SB H v 17 a b c λd H=>kk _ d (λ_=>rfl) H
end
def o_ (k:Int) (b:Nat):B3:={key:=aa k,val:= .func (.func (lW k)) #[] #[],born:=b}
def cW:Array B3:=⟨[o_ 1 0,o_ 2 1,o_ 17 2,o_ 3 3,o_ 4 4,o_ 5 5,o_ 6 6,o_ 7 7,o_ 8 8,o_ 9 9,o_ 10 10,o_ 11 11,o_ 12 12,o_ 13 13,o_ 14 14,o_ 15 15,o_ 16 16]⟩
section
variable {D G:List Nat} {w0 w:A1} {L:List (Nat×List AC)} {M:List (Nat×Be)}
theorem Nb (H:cB D G w0 w L M) {K:Option Nat->A1->Prop} (k: ∀r a,cB D G w0 a L ((r,.map cW 17)::M)->K (some r) a):az A2 78 (.el (.one .map)) [] w K:=by
 refine λw1 h1=>ai (C:=V0) (aR:=λ_=>[]) (AP (Mz w1 K) ?_);have H:=H.ext h1;intro b c;have H:=(H.ext c).alloc (o:= .map #[] 0) trivial;refine gJ H (by kernel_rfl) λf H=>?_;refine gJ H (by kernel_rfl) λg H=>?_;refine gJ H (by kernel_rfl) λh H=>?_;refine gJ H (by kernel_rfl) λi H=>?_;refine gJ H (by kernel_rfl) λj H=>?_;refine gJ H (by kernel_rfl) λl H=>?_;refine gJ H (by kernel_rfl) λm H=>?_;refine gJ H (by kernel_rfl) λn H=>?_;refine gJ H (by kernel_rfl) λp H=>?_;refine gJ H (by kernel_rfl) λq H=>?_;refine gJ H (by kernel_rfl) λs H=>?_;refine gJ H (by kernel_rfl) λt H=>?_;refine gJ H (by kernel_rfl) λu H=>?_;refine gJ H (by kernel_rfl) λv H=>?_;refine gJ H (by kernel_rfl) λx H=>?_;refine gJ H (by kernel_rfl) λy H=>?_;refine gJ H (by kernel_rfl) λz H=>?_;exact λd e=>k b.heap.size d ((H.ext e).XI (by kernel_rfl))
theorem Dt {k:Int} (a:1<=k/\k<=17):bJ A2 (lW k)=true:=by
 have:k=1\/k=2\/k=3\/k=4\/k=5\/k=6\/k=7\/k=8\/k=9\/k=10\/k=11\/k=12\/k=13\/k=14\/k=15\/k=16\/k=17:=by omega
 rcases this with rfl|rfl|rfl|rfl|rfl|rfl|rfl|rfl|rfl|rfl|rfl|rfl|rfl|rfl|rfl|rfl|rfl
 ·exact(by kernel_rfl:bJ A2 (lW 1)=true)
 ·exact(by kernel_rfl:bJ A2 (lW 2)=true)
 ·exact(by kernel_rfl:bJ A2 (lW 3)=true)
 ·exact(by kernel_rfl:bJ A2 (lW 4)=true)
 ·exact(by kernel_rfl:bJ A2 (lW 5)=true)
 ·exact(by kernel_rfl:bJ A2 (lW 6)=true)
 ·exact(by kernel_rfl:bJ A2 (lW 7)=true)
 ·exact(by kernel_rfl:bJ A2 (lW 8)=true)
 ·exact(by kernel_rfl:bJ A2 (lW 9)=true)
 ·exact(by kernel_rfl:bJ A2 (lW 10)=true)
 ·exact(by kernel_rfl:bJ A2 (lW 11)=true)
 ·exact(by kernel_rfl:bJ A2 (lW 12)=true)
 ·exact(by kernel_rfl:bJ A2 (lW 13)=true)
 ·exact(by kernel_rfl:bJ A2 (lW 14)=true)
 ·exact(by kernel_rfl:bJ A2 (lW 15)=true)
 ·exact(by kernel_rfl:bJ A2 (lW 16)=true)
 ·exact(by kernel_rfl:bJ A2 (lW 17)=true)
theorem wY {r:Nat} (h:bF w r cW 17) {k:Int} (a:1<=k/\k<=17):jU w (some r) .i64 k Value.nilFunc (.func (.func (lW k)) #[] #[]):=by
 have:k=1\/k=2\/k=3\/k=4\/k=5\/k=6\/k=7\/k=8\/k=9\/k=10\/k=11\/k=12\/k=13\/k=14\/k=15\/k=16\/k=17:=by omega
 rcases this with rfl|rfl|rfl|rfl|rfl|rfl|rfl|rfl|rfl|rfl|rfl|rfl|rfl|rfl|rfl|rfl|rfl
 ·exact⟨r,cW,17,rfl,h,rfl⟩
 ·exact⟨r,cW,17,rfl,h,rfl⟩
 ·exact⟨r,cW,17,rfl,h,rfl⟩
 ·exact⟨r,cW,17,rfl,h,rfl⟩
 ·exact⟨r,cW,17,rfl,h,rfl⟩
 ·exact⟨r,cW,17,rfl,h,rfl⟩
 ·exact⟨r,cW,17,rfl,h,rfl⟩
 ·exact⟨r,cW,17,rfl,h,rfl⟩
 ·exact⟨r,cW,17,rfl,h,rfl⟩
 ·exact⟨r,cW,17,rfl,h,rfl⟩
 ·exact⟨r,cW,17,rfl,h,rfl⟩
 ·exact⟨r,cW,17,rfl,h,rfl⟩
 ·exact⟨r,cW,17,rfl,h,rfl⟩
 ·exact⟨r,cW,17,rfl,h,rfl⟩
 ·exact⟨r,cW,17,rfl,h,rfl⟩
 ·exact⟨r,cW,17,rfl,h,rfl⟩
 ·exact⟨r,cW,17,rfl,h,rfl⟩
end
section
variable {Q:Sys} {X:HX} {D G:List Nat} {w0 w:A1} {s:WD} {h:HS} {L L0:List (Nat×List AC)} {M:List (Nat×Be)} {K:RS->A1->Prop}
theorem SM.PW (H:SM Q D G w0 w s L0 M) {K:Option Nat->A1->Prop} (k: ∀r e,SM Q D G w0 e s L0 ((r,.map cW 17)::M)->K (some r) e):az A2 78 (.el (.one .map)) [] w K:=by
 obtain⟨a,b,c,d,ca,la,H⟩:=H;exact Nb H λr e H=>k r e ⟨a,b,c,d,ca,la,H⟩
theorem G9 (S:bj Q D G w0 w s L0) {j j1 b c:Nat} {l:List AC} {g h:AC} (i:L0[j]? =some (b,l)) (m:L0[j1]? =some (c,[g,h])) (n:j≠j1) (o:l.length=2) (V E:Int)
 (kk: ∀a,bj Q D G w0 a s ((L0.set j (b,[ay V,aa E])).set j1 (c,[ay (if E=0 then V else 0),aa E]))->K (if E=0 then V else 0,E,()) a):
 aC w (af b) [ay V,aa E] λ(a:A1)=>true=true/\aj a none (ad (af b) 1) (.one (.int .i64)) λ(x:Int)=>
  aI (x != 0)
   (true=true/\aj a none (ad (af b) 1) (.one (.int .i64)) λ(x:Int)=>True/\
    aC a (af c) [ay 0,aa x] λ(a:A1)=>au a λ(w1:A1)=>aj w1 none (af c) (.agg [.int .u64,.int .i64]) λ(x:Int×Int×Unit)=>K (x.1,x.2.1,()) w1)
   (aj a none (af b) (.agg [.int .u64,.int .i64]) λ(x:Int×Int×Unit)=>
    aC a (af c) [ay x.1,aa x.2.1] λ(a:A1)=>au a λ(w1:A1)=>aj w1 none (af c) (.agg [.int .u64,.int .i64]) λ(x:Int×Int×Unit)=>K (x.1,x.2.1,()) w1):=by
 have p:j<L0.length:=(CD.1 i).1;refine S.fm j i rfl o.symm λa S=>?_;have d:(L0.set j (b,[ay V,aa E]))[j]? =some (b,[ay V,aa E]):=Do p;have k:(L0.set j (b,[ay V,aa E]))[j1]? =some (c,[g,h]):=by rw[Eo n];exact m
 refine⟨rfl,S.cx j d (show _=some E from rfl) ?_⟩;refine ab (λe=>?_) (λe=>?_)
 ·have e: ¬ E=0:=by simpa using e
  rw[ao e] at kk;exact⟨rfl,S.cx j d (show _=some E from rfl) ⟨trivial,S.res k 0 E λf S=>kk f S⟩⟩
 ·have e:E=0:=by simpa using e
  rw[av e] at kk;exact S.ld j d (show _=some (V,E,()) from rfl) (S.res k V E λf S=>kk f S)
theorem aao {a:Nat} {sh:Sh} {args:List AC} {w:A1} {K:sh.T->A1->Prop} (hc:bJ A2 a=true) (b: ∀w1,Ext w w1->aE A2 a sh args w1 K):Ak A2 (.func (.func a) #[] #[]) sh args w K:=by
 unfold Ak;refine λw1 h1=>⟨a, #[], #[],rfl,hc,?_⟩;have e:cY #[] args #[]=args:=by unfold cY;simp
 rw[e];exact b w1 h1
theorem aap (H:jq Q X D G w0 w h L) (R:CH Q h) (v k:Int) {a b c:Int} (U:0<=a/\a<18446744073709551616) (hb:0<=b/\b<18446744073709551616) (hc:0<=c/\c<18446744073709551616)
 (kk: ∀o,jq Q X D G w0 o (kZ h v k a b c) L->K (yx h v k a b c,rN h v k a b c,()) o):
 aE A2 42 (.el (.agg iR)) [ag (af X.hb),aa v,.agg ⟨gm k a b c⟩] w K:=by
 obtain⟨A,W,H⟩:=H;obtain⟨Y,S,J⟩:=H.call;refine aQ (C:=V1) (aR:=λ_=>[]) (AP (aag _ v k a b c w K) ?_);unfold rN yx kZ at kk;refine S.al λZ o S=>S.al λb1 w3 S=>⟨_,m5 S (X:=X) (A:=A) (g:=h.g) (by simp),an rfl ?_⟩;have B: ∀e,e≠0->iZ h v k a b c=e-> ∀{o:A1} {x:List AC},bj Q [] Y w o h.s ((b1,x)::(Z,gm k a b c)::dZ Q X A h (bh Q A h.g (AL 17)++L))->K (0,e,()) o:=λe E h1 o x S=>by
  rw[h1,ao E,ao E,ao E] at kk;exact kk o ⟨A,W,J S.tail.tail⟩
 have l:iZ h v k a b c=if(decide (v<0)||decide (v>16)|| !iE k a b c)=true then 1 else if(!(v==0)==vj k)=true then 7 else if(decide (v>0)&& !aV h.g v)=true then 4 else 0:=rfl;refine S.ld 1 rfl (show _=some (k,a,b,c,()) from rfl) ⟨iE k a b c,λ_=>EI k a b c,?_⟩;refine ab (λd=>⟨trivial,S.res (j:=0) rfl 0 1 λm S=>?_⟩) (λd=>⟨rfl,S.cx 1 rfl rfl ⟨vj k,HP k,?_⟩⟩)
 ·rw[av d] at l;exact B 1 (by decide) l S
 rw[ao (by rw[d];decide)] at l;simp only[E5,decide_eq_false_iff_not,Bool.not_eq_false'] at d;obtain⟨⟨dv0,dv1⟩,F⟩:=d;refine ab (λd=>⟨trivial,S.res (j:=0) rfl 0 7 λm S=>?_⟩) (λd=>⟨aV h.g v,λ_=>nT S (X:=X) (A:=A) (g:=h.g) (by simp) v,?_⟩)
 ·rw[av d] at l;exact B 7 (by decide) l S
 rw[ao (by rw[d];decide)] at l;have I:=d;refine ab (λd=>⟨trivial,S.res (j:=0) rfl 0 4 λm S=>?_⟩) (λd=>⟨rfl,S.cx 1 rfl rfl (S.ld 1 rfl (show _=some (k,a,b,c,()) from rfl) ?_)⟩)
 ·rw[av d] at l;exact B 4 (by decide) l S
 rw[ao (by rw[d];decide)] at l;rw[l,av rfl,av rfl,av rfl] at kk;have y:1<=k/\k<=17:=by
  unfold iE at F;rw[F5,decide_eq_true_eq] at F;have d1:=F.1;unfold jW at d1;by_cases e:1<=k/\k<=17
  ·exact e
  ·rw[ao e] at d1;exact absurd d1 (by decide)
 have hl:vj k=false->aV h.g v=true:=λe=>by
  rw[e] at I;have Ys:v≠0:=by
   intro e0;rw[e0] at I;exact absurd I (by decide)
  have:decide (v>0)=true:=decide_eq_true (by omega);rw[this,Gd] at d;simpa using d
 have call: ∀{T:List (Nat×List AC)} {m:A1} {M:RS->A1->Prop},SM Q D G w0 m h.s (T++dZ Q X A h (bh Q A h.g (AL 17)++L)) (dm A h.g (AL 17))->
  (∀V p f,((run h v k a b c).2.2=0->V=(run h v k a b c).2.1)->DN f (run h v k a b c).1->SM Q D G w0 p (run h v k a b c).1.s (T++dZ Q X f (run h v k a b c).1 (bh Q f (run h v k a b c).1.g (AL 17)++L)) (dm f (run h v k a b c).1.g (AL 17))->M (V,(run h v k a b c).2.2,()) p)->
  Ak A2 (.func (.func (lW k)) #[] #[]) (.el (.agg iR)) [ag (af X.hb),aa v,.agg ⟨gm k a b c⟩] m M:=λ{T m M} H kk2=>by
  refine aao (Dt y) λp h5=>?_;refine dQ (jq.of W (H.ext h5)) R y hl U hb hc λV z n H=>?_;obtain⟨f,q,H⟩:=jq.to H;exact kk2 V z f n q H
 have fin: ∀{V:Int},((run h v k a b c).2.2=0->V=(run h v k a b c).2.1)->(if(run h v k a b c).2.2=0 then V else 0)=if(run h v k a b c).2.2=0 then(run h v k a b c).2.1 else 0:=λ{V} n=>by
  by_cases e:(run h v k a b c).2.2=0
  ·rw[av e,av e,n e]
  ·rw[ao e,ao e]
 refine⟨?_,?_⟩
 ·refine(J S).PW λr m H=>?_;have N:bF m r cW 17:=H.get Am;have H:=H.Gl (B4 _ _);obtain⟨G2,S,O⟩:=H.call;refine⟨dW (S.get (i:=1) rfl) rfl,?_,trivial, _,wY N y,?_,?_⟩
  ·rw[aW];exact dW (S.get (i:=1) rfl) rfl
  ·refine call (T:=[_, _]) H λV p f n q H=>?_;obtain⟨G3,S,t⟩:=H.call;refine S.al λP z S=>G9 S (j:=0) (j1:=1) rfl rfl (by decide) rfl V _ λu S=>?_;rw[fin n];exact kk u ⟨f,q,t S.tail.tail.tail⟩
  ·refine S.al λP p S=>call (T:=[_, _, _]) (O S) λV z f n q H=>?_;obtain⟨G3,S,t⟩:=H.call;refine G9 S (j:=0) (j1:=1) rfl rfl (by decide) rfl V _ λu S=>?_;rw[fin n];exact kk u ⟨f,q,t S.tail.tail.tail⟩
 ·refine S.al λP m S=>(J S).PW λr p H=>?_;have N:bF p r cW 17:=H.get Am;have H:=H.Gl (B4 _ _);obtain⟨G2,S,O⟩:=H.call;refine⟨dW (S.get (i:=2) rfl) rfl,?_,trivial, _,wY N y,?_⟩
  ·rw[aW];exact dW (S.get (i:=2) rfl) rfl
  ·refine call (T:=[_, _, _]) H λV z f n q H=>?_;obtain⟨G3,S,t⟩:=H.call;refine G9 S (j:=0) (j1:=1) rfl rfl (by decide) rfl V _ λu S=>?_;rw[fin n];exact kk u ⟨f,q,t S.tail.tail.tail⟩
end
open Po (tv Kq OY GZ IH x9 sS OZ)
section
variable {w0:A1} {Q:Sys} {X:HX} {A:Nat->GA} {g:Nat->Option GV} {gs:List GT} {po:List Po.PT}
structure HBl (w0:A1) (Q:Sys) (X:HX) (A:Nat->GA) (g:Nat->Option GV) (gs:List GT) (po:List Po.PT):Prop where
 hb:bK w0 X.hb (fh Q X A g)
 gb:bK w0 X.gb (mG X.u5 gs.length X.c)
 gr:bK w0 X.u5 (flat eG gs++X.rest)
 pb:bK w0 X.pb (Po.gE 4 po)
 gl:gs.length=16
 gk:oh gs
 pt:Po.lM 4 po
end
section
variable {Q:Sys} {X:HX} {D G:List Nat} {w0 w:A1} {h:HS} {L:List (Nat×List AC)}
end
end Go.Proofs.YtlcenllcmeebhaaGreat
namespace Go.Proofs.YtlcenllcmeebhaaGreat.Po
set_option maxRecDepth 100000
open Go.RX
def k0:List PT:=B5 512 zP
theorem SH {room:Int} (h1:1<=room) (a:room<=32):lM room k0 where
 len:=DU
 lo:=h1
 hi:=a
 inv g i h:=by
  refine .inl ?_;unfold gp k0;rw[Ee,List.getElem?_replicate];split<;>rfl
theorem Nc (n:Int) (w:A1) (a:Option AM×Int×Unit->A1->Prop):(aK R1 (λ_=>[]) 74 [aa n] w a)=(
 aI (decide (n<1)||decide (n>32)) (au w (a (none,1,()))) (aN w ⟨gE n k0⟩ 221 λb c=>au c (a (some ⟨b,0,none⟩,0,())))):=by kernel_rfl
section
variable {D G:List Nat} {w0 w:A1} {L:List (Nat×List AC)}
theorem SI (H:aM D G w0 w L) (n:Int) {K:Option AM×Int×Unit->A1->Prop} (hb:n<1\/n>32-> ∀w1,aM D G w0 w1 L->K (none,1,()) w1)
 (d:1<=n->n<=32-> ∀bp w1,aM D G w0 w1 ((bp,gE n k0)::L)->K (some ⟨bp,0,none⟩,0,()) w1):
 az A2 74 (.bu [.one .ptr,.one (.int .i64)]) [aa n] w K:=by
 refine az.go H λw1 H=>ai (C:=R1) (aR:=λ_=>[]) (AP (Nc n w1 K) ?_);refine ab (λc=>?_) (λc=>?_)
 ·exact au.go H λa H=>hb (by simp at c;omega) a H
 ·refine aN.go H λb a H=>au.go H λe H=>d (by simp at c;omega) (by simp at c;omega) b e H
end
end Go.Proofs.YtlcenllcmeebhaaGreat.Po
namespace Go.Proofs.YtlcenllcmeebhaaGreat
set_option maxRecDepth 100000
open Go.RX D
def h0 (n:Nat):HS:={s:=fresh (16*n) n,g:=λ_=>none,gr:=B5 16 zG,po:=Po.k0}
section
variable {D G:List Nat} {w0 w:A1} {L:List (Nat×List AC)}
theorem Wl (H:aM D G w0 w L) (n:Int) {K:Option AM×Int×Unit->A1->Prop} (kb:n<4\/n>4096-> ∀w1,aM D G w0 w1 L->K (none,1,()) w1)
 (A:4<=n->n<=4096-> ∀Q X w1,Q.c=16*n.toNat->jq Q X D G w0 w1 (h0 n.toNat) L->K (some ⟨X.hb,0,none⟩,0,()) w1):
 az A2 40 (.bu [.one .ptr,.one (.int .i64)]) [aa n] w K:=by
 refine az.go H λw1 H=>ai (C:=V0) (aR:=λ_=>[]) (AP (V6 n w1 K) ?_);refine ab (λc=>au.go H λp H=>kb (by simpa using c) p H) (λc=>?_);have q:4<=n/\n<=4096:=by
  simp only[E5,decide_eq_false_iff_not] at c;omega
 obtain⟨m,rfl⟩: ∃m:Nat,n=(m:Int):=⟨n.toNat,by omega⟩;have e:iB .i64 16 (m:Int)=((16*m:Nat):Int):=by rw[eK (by omega) (by omega)];omega
 rw[e];refine aN.go H λb p H=>?_;refine xY (n:=16*m) H (by omega) λbm bw B H=>⟨rfl,rfl,?_⟩;generalize r:B5 (16*m) (0:Int)=W at H;refine aC.fS 2 H rfl rfl rfl λE H=>?_;refine C4 H (m:Int) (λhb=>by omega) λ_ _ bp bf F H=>⟨rfl,rfl,?_⟩;rw[show((m:Int)).toNat=m from rfl] at H;generalize s:B5 m zD=DS at H;refine aC.fS 4 H rfl rfl rfl λI H=>?_;refine Vu H 16 (by decide) λgb gr J H=>⟨rfl,rfl,?_⟩;obtain⟨t,u⟩: ∃t,t=B5 16 zG:=⟨_,rfl⟩;rw[<-u] at H;refine aC.fS 6 H rfl rfl rfl λM H=>?_;refine Po.SI H 4 (λhb=>by omega) λ_ _ pb N H=>⟨rfl,rfl,?_⟩;obtain⟨v,y⟩: ∃v,v=Po.k0:=⟨_,rfl⟩;rw[<-y] at H;refine aC.fS 7 H rfl rfl rfl λO H=>au.go H λz H=>?_;refine A q.1 q.2 ⟨bm,bw,bf,bp,16*m,m,[],[]⟩ ⟨b,gb,gr,pb,16,[]⟩ z rfl ⟨λ_=>⟨0,0,0,0,[]⟩,⟨λh=>(by cases h),λh=>(by cases h),rfl,Po.SH (by decide) (by decide),oh.new 16⟩,SM.of ⟨?_,?_,?_,?_,0,0,?_⟩⟩
 ·show 0<(B5 (16*m) (0:Int)).length;rw[DU];omega
 ·show 0<(B5 m zD).length;rw[DU];omega
 ·show(B5 m zD).length<=4096;rw[DU];omega
 ·intro x o;have o:x∈B5 (16*m) (0:Int):=o;rw[List.eq_of_mem_replicate o];decide
 ·unfold Sys.L;show aM D G w0 z ((bm,lZ bw (B5 (16*m) (0:Int)).length (16*m) 0 0)::(bw,flat eW (B5 (16*m) (0:Int))++[])::(bf,flat eD (B5 m zD)++[])::(bp,[.slice (af bf) (B5 m zD).length m])::(b,fh _ _ (λ_=>⟨0,0,0,0,[]⟩) λ_=>none)::(gb,mG gr (B5 16 zG).length 16)::(gr,flat eG (B5 16 zG)++[])::(pb,Po.gE 4 Po.k0)::([]++L));rw[r,s, <-u, <-y,show W.length=16*m by rw[<-r,DU],show DS.length=m by rw[<-s,DU]];refine H.perm ?_;have p1: ∀(x1 a d f g j k l:Nat×List AC),([j,k,g,f,l,a,d,x1]++L).Perm ([x1,a,d,f,g,j,k,l]++L):=λx1 a d f g j k l=>by
   refine GS L ?_;exact(show([5,6,4,3,7,1,2,0]:List Nat).Perm [0,1,2,3,4,5,6,7] by decide).map λi=>([x1,a,d,f,g,j,k,l]:List (Nat×List AC)).getD i x1
  exact p1 _ _ _ _ _ _ _ _
end
section
variable {D G:List Nat} {w0 w w1:A1} {L L0 Ls:List (Nat×List AC)}
theorem cB.XO {M1 M2 M1':List (Nat×Be)} {L':List (Nat×List AC)} (H:cB D G w0 w L (M1++M2)) (K:cB [] (L.map (·.1)++M1.map (·.1)) w w1 L' M1'):cB D G w0 w1 L' (M1'++M2):=by
 have f:=H.nd;rw[DB,FS] at f;have g: ∀x∈L.map (·.1)++M1.map (·.1),w0.heap.size<=x\/x∈G:=λx c=>by
  rcases DL.1 c with c|c
  ·obtain⟨y,d,rfl⟩:=Ar.1 c;exact H.base.own y d
  ·obtain⟨y,d,rfl⟩:=Ar.1 c;exact H.own y (CB _ d)
 have h: ∀x,w.heap.size<=x\/x∈L.map (·.1)++M1.map (·.1)->w0.heap.size<=x\/x∈G:=λx c=>by
  rcases c with c|c
  ·exact .inl (I3 H.base.fr.size c)
  ·exact g x c
 have i: ∀r∈D,r∉L.map (·.1)++M1.map (·.1):=λr j c=>by
  rcases DL.1 c with c|c
  ·obtain⟨y,d,e⟩:=Ar.1 c;exact aM.di (H.base.dj y d) (H.base.qc r j).2 (λ_ _ _ hc=>by cases hc) e
  ·obtain⟨y,d,e⟩:=Ar.1 c;exact H.nD y (CB _ d) (by rw[e];exact j)
 have k: ∀y∈M2,y.1∉L.map (·.1)++M1.map (·.1):=λy d c=>by
  rcases DL.1 c with c|c
  ·obtain⟨x,c,e⟩:=Ar.1 c;exact H.GQ c (AY _ d) e
  ·exact f.2.2 _ c _ (Ar.2 ⟨y,d,rfl⟩) rfl
 have l: ∀y∈M2,y.1<w.heap.size:=λy d=>(O2.1 (H.obj y (AY _ d)).1).1;refine⟨H.base.frame K.base.fr g i K.base.dj (λx c=>h _ (K.base.own x c)) K.base.nd,λx c=>?_,λx c=>?_,?_,λx c=>?_⟩
 ·rcases DL.1 c with c|c
  ·exact K.obj x c
  ·obtain⟨n,o⟩:=H.obj x (AY _ c);exact⟨by rw[K.base.fr.block x.1 (l x c) (k x c)];exact n,o⟩
 ·rcases DL.1 c with c|c
  ·exact h _ (K.own x c)
  ·exact H.own x (AY _ c)
 ·rw[DB,FS];refine⟨K.nd,f.2.1,λa p b hb e=>?_⟩;subst e;obtain⟨x,c,rfl⟩:=Ar.1 p;obtain⟨y,d,e⟩:=Ar.1 hb;rcases K.own x c with q|q
  ·have:=l y d;omega
  ·exact k y d (by rw[e];exact q)
 ·rcases DL.1 c with c|c
  ·intro m;rcases K.own x c with q|q
   ·have:=(O2.1 (H.base.qc _ m).2).1;omega
   ·exact i _ m q
  ·exact H.nD x (AY _ c)
theorem cB.PX {M1 M2:List (Nat×Be)} (H:cB D G w0 w L (M1++M2)):cB [] (L.map (·.1)++M1.map (·.1)) w w L M1:=by
 have b:=H.nd;rw[DB,FS] at b;exact⟨⟨Fr.refl _ w,H.base.dj,λx a=> .inr (CB _ (Ar.2 ⟨x,a,rfl⟩)),H.base.nd,λx a=>(by cases a)⟩,λx a=>H.obj x (CB _ a),λx a=> .inr (AY _ (Ar.2 ⟨x,a,rfl⟩)),b.1,λx a=>List.not_mem_nil⟩
end
end Go.Proofs.YtlcenllcmeebhaaGreat
