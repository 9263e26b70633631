import Derived.Test.YtlcenllcmeebhaaGreatPED
/-! What the statement leans on: texts joined and shortened by a program of mine. -/
set_option linter.unusedVariables false
set_option linter.unusedSimpArgs false
open Go renaming World->A2,Value->AC,Addr->Ak,MapEntry->B6,Obj->BI
open Go.Proofs.Tryz renaming prog->AA
open List renaming range->AN,mem_append_right->Av,mem_cons_self->Ay,mem_cons_of_mem->B1,mem_map->B2,length_map->B3,perm_middle->B4,getElem?_of_mem->B5,sublist_cons_self->B8,replicate->B9,getElem?_map->BQ,mem_append_left->Bs,getElem?_eq_some_iff->Bx,mem_of_getElem?->C7,getElem?_eq_getElem->C8,append_assoc->C9,mem_range->CX,map_append->DA,mem_append->DK,length_cons->Dd,length_set->Df,length_replicate->Dk,perm_append_comm->Dl,flatMap_cons->Dn,getElem?_set_self->Do,length_take->Ds,getD_eq_getElem?_getD->F1,mem_cons->FB,getElem?_set_ne->FM,length->FP,getElem?_inj->FS,filter_eq_self->FY,nodup_append->Fg,getElem?_append_right->Fp,sublist_append_right->Fu,length_append->Fv,perm_cons_erase->G1,filter_map->GD,map_map->GF,ext_getElem?->GG,any_eq_true->GH,sublist_append_left->GI,mem_flatMap->Gj,foldl_cons->H4,mem_singleton->H5,map_cons->H6,find?_eq_none->H7,take_append_drop->HB,set_append_right->Hb,filter_congr->Hr,length_singleton->I1,mem_filter->I2,length_drop->IA,getElem?_append_left->IR,length_eraseIdx->Ia,nodup_nil->J3,find?_some->J7,mem_of_find?_eq_some->JM,findIdx?_eq_some_iff_getElem->JN,drop_eq_getElem_cons->JP,nodup_cons->JR,eraseIdx_eq_take_drop_succ->JS,filter_cons_of_neg->JW,filter_sublist->JX,length_nil->JY,countP_eq_length_filter->JZ,filter_cons->K1,length_filter_le->LL,replicate_succ'->M4,set_append_left->M5,nil_append->N5,length_zipIdx->N7,find?_range_eq_some->N9,getElem?_eq_none->ND,perm_append_comm_assoc->NE
open Eq renaming mpr->Al
open List.Perm renaming cons->DB,refl->Dz,flatMap_right->GJ,append_right->GS,append_left->If
open Int renaming toNat_natCast->DE,le_refl->Ga
open Bool renaming or_eq_false_iff->E4,and_eq_true->FN,true_and->Gd,or_eq_true->NG,not_eq_true'->NU
open Nat renaming le_refl->E5,zero_le->FO,min_eq_left->Ij,le_trans->Ik,not_lt_zero->NV
open List.Sublist renaming append_left->Gi
open Array renaming contains_push->In,eraseIdxIfInBounds->NZ,getElem?_eq_some_iff->No
open Option renaming map_eq_some_iff->Nt,map_eq_none_iff->Nw
namespace Go.Proofs.YtlcenllcmeebhaaGreat
set_option maxRecDepth 100000
open Go.RX D
def Rt (g:Gh):Prop:= ∀f o x,g f=some (o,3,x)->x=0
theorem Rt.dx {g g':Gh} (h:Rt g) (k:mQ g g'):Rt g':=λf o x e=>h f o x ((k _ _ _).1 e)
def upx:Nat->Int->Int
 |0,x=>x
 |n+1,x=>upx n x / 16
theorem Jd {ws:List Int} {l:Nat} {f z:Int}:z∈(AN 16).flatMap (oz ws l f)<-> ∃i:Nat,i<16/\ ∃m,l=m+1/\dK (aK ws (16*f+(i:Int)))=true/\z∈cU ws m (aK ws (16*f+(i:Int))).2.2.2.1:=by
 rw[Gj];constructor
 ·rintro⟨hi,h⟩;cases l with
  |zero
  |succ=>
   unfold oz at h
   grind
 ·rintro⟨i,hi,m,rfl,h⟩;unfold oz
  grind
theorem vd (x:Int): ∀l:List Int,(jG x l).Perm (x::l)
 |[]=> .refl _
 |y::l=>by
  rw[jG];split
  ·exact((vd x l).cons y).trans (.swap _ _ _)
  simp
theorem Bj: ∀(l a:List Int),(l.foldl (λa x=>jG x a) a).Perm (l++a)
 |[],a=> .refl _
 |x::l,a=>by
  exact(Bj l _).trans (by grind[vd])
theorem lL (l:List Int):(mN l).Perm l:=by grind[mN,Bj]
theorem RC (o:Int) (h:1<=o/\o<=16): ¬ (aO 5 0 (5,o,0,0,())).2=0:=by
 have a:dT 5 o 0 0=true:=by unfold dT jN;grind
 show ¬ gQ 5 o 0 0 5 0=0;unfold gQ;rw[ao (by grind),ao (by grind),ao (by decide)]
 grind
theorem Bk {o:Int} (c:1<=o/\o<=16): ∀(l:List Int) (ds:List DT),(∀f∈l,0<=f/\(ds[f.toNat]? =some (3,o,0,0,())\/ds[f.toNat]? =some (5,o,0,0,())))->
 (l.foldl (λds f=>dJ ds f (aO 5 0)) ds).length=ds.length/\ ∀n:Nat,((n:Int)∈l->(l.foldl (λds f=>dJ ds f (aO 5 0)) ds)[n]? =some (5,o,0,0,()))/\((n:Int)∉l->(l.foldl (λds f=>dJ ds f (aO 5 0)) ds)[n]? =ds[n]?)
 |[],ds, _=>⟨rfl,by grind⟩
 |f::l,ds,h=>by
  obtain⟨i,a⟩:=h f Ay;have r:f.toNat<ds.length:=by
   rcases a with h|h<;>exact(Bx.1 h).1
  have j:(dJ ds f (aO 5 0)).length=ds.length/\(dJ ds f (aO 5 0))[f.toNat]? =some (5,o,0,0,())/\ ∀n:Nat,n≠f.toNat->(dJ ds f (aO 5 0))[n]? =ds[n]? :=by
   rw[o_ ⟨i,by omega⟩,F1];rcases a with a|a
   ·rw[a];show((if(aO 5 0 (3,o,0,0,())).2=0 then ds.set f.toNat (aO 5 0 (3,o,0,0,())).1 else ds).length= _)/\(if(aO 5 0 (3,o,0,0,())).2=0 then ds.set f.toNat (aO 5 0 (3,o,0,0,())).1 else ds)[f.toNat]? = _/\ ∀n:Nat,n≠f.toNat->(if(aO 5 0 (3,o,0,0,())).2=0 then ds.set f.toNat (aO 5 0 (3,o,0,0,())).1 else ds)[n]? = _;rw[Ek c,av rfl]
    grind
   ·rw[a];show((if(aO 5 0 (5,o,0,0,())).2=0 then ds.set f.toNat (aO 5 0 (5,o,0,0,())).1 else ds).length= _)/\(if(aO 5 0 (5,o,0,0,())).2=0 then ds.set f.toNat (aO 5 0 (5,o,0,0,())).1 else ds)[f.toNat]? = _/\ ∀n:Nat,n≠f.toNat->(if(aO 5 0 (5,o,0,0,())).2=0 then ds.set f.toNat (aO 5 0 (5,o,0,0,())).1 else ds)[n]? = _;rw[ao (RC o c)]
    grind
  rw[H4];obtain⟨k,m,p⟩:=j;obtain⟨q,d⟩:=Bk c l (dJ ds f (aO 5 0)) (by grind);refine⟨q.trans k,λn=>⟨λb=>?_,λb=>?_⟩⟩
  ·by_cases g:(n:Int)∈l
   ·exact(d n).1 g
   ·rw[(d n).2 g];have:(n:Int)=f:=(FB.1 b).resolve_right g;have e:n=f.toNat:=by omega
    rw[e];exact m
  ·rw[(d n).2 (λh=>b (B1 _ h)),p n (λe=>b (by
   have:(n:Int)=f:=by omega
   rw[this];exact Ay))]
def Ka (g:Gh) (o:Int):Gh:=λf=>match g f with
 |some v=>if v.1=o then none else some v
 |none=>none
theorem da {g:Gh} {o f:Int} {v:Int×Nat×Int}:Ka g o f=some v<->g f=some v/\v.1≠o:=by grind[Ka]
namespace Inv
variable {g:Gh} {s:WD}
theorem RD (I:Inv g s): ∀(l:Nat) {f o x:Int},g f=some (o,l,x)-> ∀z∈cU s.1 l f, ∃l' x' n,l'+n=l/\g z=some (o,l',x')/\upx n x'=x:=by
 intro l
 induction l with
 |zero=>
  intro f o x b z a;rw[cU,H5] at a;subst a;exact⟨0,x,0,rfl,b,rfl⟩
 |succ l c=>
  intro f o x b z a;rw[m8] at a;rcases FB.1 a with rfl|a
  ·exact⟨l+1,x,0,rfl,b,rfl⟩
  ·obtain⟨i,hi,m,p,d,e⟩:=Jd.1 a;have:m=l:=by omega
   subst this;obtain⟨h,h1,j⟩:=I.si b (by omega) (by omega) d;have:h=m:=by omega
   subst this;obtain⟨l',x',n,q,k,r⟩:=c j z e;refine⟨l',x',n+1,by omega,k,?_⟩;show upx n x' / 16=x;omega
theorem Eo (I:Inv g s) (c:Rt g) {r o:Int} (d:g r=some (o,3,0)): ∀(n:Nat) {l:Nat} {f x:Int},l+n=3->g f=some (o,l,x)-> ∀z∈cU s.1 l f,z∈cU s.1 3 r
 |0,l,f,x,h,a,z,b=>by
  have:l=3:=by omega
  subst this;have:=c _ _ _ a;subst this;rw[I.inj a d] at b
  grind
 |n+1,l,f,x,h,a,z,b=>by
  obtain⟨f',h1,i⟩:=I.Fl a (by omega);obtain⟨j,k, _⟩:=I.uJ a;refine I.Eo c d n (by omega) h1 z ?_;refine B1 _ (Jd.2 ⟨(x % 16).toNat,by omega,l,rfl,?_⟩);have e:(x % 16).toNat=x % 16:=by omega
  rw[e,i];exact⟨dH ⟨j,k⟩,b⟩
theorem Ma (I:Inv g s) (a:Rt g) {r o:Int} (b:g r=some (o,3,0)) (z:Int):z∈cU s.1 3 r<-> ∃l x,g z=some (o,l,x):=by
 constructor
 ·obtain:=I.RD
  grind
 ·rintro⟨l,x,h⟩;have c:=(I.kd h).2.2.2.2.2;exact I.Eo a b (3 - l) (by omega) h z (by rw[m8];simp)
theorem dropped (I:Inv g s) (t:Rt g) {r o:Int} (u:g r=some (o,3,0)):
 Inv (Ka g o) (cG s r false)/\Rt (Ka g o)/\(cG s r false).1=s.1/\(cG s r false).2.length=s.2.length/\
  ∀n:Nat,((∃l x,g (n:Int)=some (o,l,x))->(cG s r false).2[n]? =some (5,o,0,0,()))/\((¬ ∃l x,g (n:Int)=some (o,l,x))->(cG s r false).2[n]? =s.2[n]?):=by
 have w: ¬ (false=true):=by decide
 have D:cG s r false=(s.1,(mO s r false).foldl _ s.2):=ao w;have E:mO s r false=mN (cU s.1 3 r):=ao w;have p: ∀z,z∈mO s r false<-> ∃l x,g z=some (o,l,x):=λz=>by
  rw[E,(lL _).mem_iff];exact I.Ma t u z
 have y:=(I.kd u).2.2.2;obtain⟨t1,t2⟩:=Bk ⟨y.1,y.2.1⟩ (mO s r false) s.2 (λf F=>by
  obtain⟨l,x,h⟩:=(p f).1 F;obtain⟨a1,G,A, _⟩:=I.kd h;exact⟨a1,.inl A⟩)
 rw[D];generalize Q:(mO s r false).foldl _ s.2=ds at t1 t2;have B:=λn h=>(t2 n).1 ((p _).2 h);have q: ∀n:Nat,(¬ ∃l x,g (n:Int)=some (o,l,x))->ds[n]? =s.2[n]? :=λn h=>(t2 n).2 (λH=>h ((p _).1 H));refine⟨?_,λf o' x h=>t f o' x (da.1 h).1,rfl,t1,λn=>⟨B n,q n⟩⟩;refine⟨?_,?_,?_,?_,?_,?_,?_,?_,?_,?_⟩
 ·rw[t1];exact I.len
 ·show ds.length<=4096;rw[t1];exact I.le
 ·intro d J h0;obtain⟨n,i⟩:=B5 J;by_cases h: ∃l x,g (n:Int)=some (o,l,x)
  grind
  ·rw[q n h] at i;exact I.fz d (C7 i) h0
 ·intro f o' l x h;obtain⟨h,j⟩:=da.1 h;obtain⟨a1,G,A,R⟩:=I.kd h
  grind
 ·intro a b v K hb;exact I.inj (da.1 K).1 (da.1 hb).1
 ·intro f o' l x k h h0 h1 L;obtain⟨h,j⟩:=da.1 h;obtain⟨m,M,N⟩:=I.si h h0 h1 L;exact⟨m,M,da.2 ⟨N,j⟩⟩
 ·intro f o' l x k h h0 h1;exact I.leaf (da.1 h).1 h0 h1
 ·intro f o' l x h O;obtain⟨h,j⟩:=da.1 h;obtain⟨f',p1,p2⟩:=I.Fl h O;exact⟨f',da.2 ⟨p1,j⟩,p2⟩
 ·intro f o' l x k h h0 h1 P;exact I.wf (da.1 h).1 h0 h1 P
 ·intro n d i C;by_cases h: ∃l x,g (n:Int)=some (o,l,x)
  ·rw[B n h] at i;cases i;cases C
  ·rw[q n h] at i;obtain⟨v,hv⟩:=I.tb i C;refine⟨v,da.2 ⟨hv,λe=>h ?_⟩⟩;obtain⟨a,b,c⟩:=v;have e:a=o:=e;subst e;exact⟨b,c,hv⟩
end Inv
set_option maxRecDepth 100000
open Go.RX D
theorem Vs {s:WD} {o r pg lv:Int} {e:ET} (h: ¬ k8 s r pg lv=0):rD s o r pg lv e=s:=ao h
theorem Je {s:WD} {o r:Int} {gone:Bool} {pg f rt:Int} (h: ¬ kl s r gone pg f rt=0):jE s o r gone pg f rt=s:=by
 unfold kl at h;unfold jE;cases gone with
 |true=>rw[av rfl]
 |false=>
  have a: ¬ (false=true):=by decide
  rw[ao a] at h ⊢;by_cases c:lh pg f rt=0
  ·rw[av c] at h ⊢;exact Vs h
  ·rw[ao c]
theorem Vt {s:WD} {o r pg:Int} (h: ¬ mn s o r pg=0):fm s o r pg=s:=by
 unfold mn at h;unfold fm;by_cases c:(dD s.1 r pg).2.1=0
 ·rw[av c]
 ·rw[ao c] at h ⊢;rw[ao h,Jb h]
theorem Vu {s:WD} {o r:Int} {gone:Bool} {pg rt:Int} (h: ¬ FR s o r gone pg rt=0):rE s o r gone pg rt=s:=by
 unfold FR at h;unfold rE;cases gone with
 |true=>rw[av rfl]
 |false=>
  have a: ¬ (false=true):=by decide
  rw[ao a] at h ⊢;by_cases c:lh pg 0 rt=0
  ·rw[av c] at h ⊢;by_cases d:(cR s.1 r pg).1=true
   ·rw[av d] at h ⊢;by_cases e:((cR s.1 r pg).2.2.1&&(cR s.1 r pg).2.1==rt)=true
    ·rw[av e]
    ·rw[ao e] at h ⊢;rw[ao h,Vt h]
   ·rw[ao d]
  ·rw[ao c]
namespace Inv
variable {g:Gh} {s:WD}
theorem Vv (I:Inv g s) {o r p f rt:Int} (a:g r=some (o,3,0)) (b:0<=p/\p<65536) (k:0<=f/\f<4096) (l:1<=rt/\rt<=7) {f0:Int} {j:Nat} (c:dz g s o p f0 j) (d:(aK s.1 (16*f0+px j p % 16)).1=false) (hc:j<=cd s.2 0):kl s r false p f rt=0:=by
 obtain⟨e,h⟩:=I.mh a b c;have i:lh p f rt=0:=by unfold lh;rw[ao (by omega),ao (by omega)]
 unfold kl;rw[ao (by decide),av i];unfold k8;rw[e,h,d,ao ?_,ao ?_]
 ·show ¬ (cd s.2 0:Int)<(j:Int) - 0;omega
 ·show ¬ (false||decide ((j:Int)<0))=true;simp
theorem Zw (I:Inv g s) {o:Int} (a:1<=o/\o<=16) (hc:0<cd s.2 0):rk s o=0:=by
 obtain⟨n, _, _, _,e, _⟩:=m9 hc I.fz a;exact e
end Inv
set_option maxRecDepth 100000
open Go.RX D
structure SM (Q:Sys) (D G:List Nat) (w0 w:A2) (s:WD) (L0:List (Nat×List AC)) (M:List (Nat×BI)):Prop where
 pos:0<s.1.length
 FU:0<s.2.length
 le:s.2.length<=4096
 Z':okW s.1
 kn: ∃ca la,cC D G w0 w (Q.L ca la s L0) M
section
variable {Q:Sys} {D G:List Nat} {w0 w w1:A2} {s:WD} {L0 L1:List (Nat×List AC)} {M M1:List (Nat×BI)}
namespace SM
theorem ext (H:SM Q D G w0 w s L0 M) (h:Ext w w1):SM Q D G w0 w1 s L0 M:=by
 obtain⟨a,b,c,d,ca,la,k⟩:=H;exact⟨a,b,c,d,ca,la,k.ext h⟩
theorem base (H:SM Q D G w0 w s L0 M):bj Q D G w0 w s L0:=by
 obtain⟨a,b,c,d,ca,la,k⟩:=H;exact⟨a,b,c,d,ca,la,k.base⟩
theorem of (S:bj Q D G w0 w s L0):SM Q D G w0 w s L0 []:=by
 obtain⟨a,b,c,d,ca,la,k⟩:=S;exact⟨a,b,c,d,ca,la,cC.of k⟩
theorem call (H:SM Q D G w0 w s L0 M): ∃f,bj Q [] f w w s L0/\ ∀{e:A2} {s':WD} {L':List (Nat×List AC)},bj Q [] f w e s' L'->SM Q D G w0 e s' L' M:=by
 obtain⟨a,b,c,d,ca,la,k⟩:=H;refine⟨_,⟨a,b,c,d,ca,la,k.base.again⟩,λ{e s' L'} S=>?_⟩;obtain⟨a',g,h,d',i,j,l⟩:=S;exact⟨a',g,h,d',i,j,k.join l⟩
theorem perm (H:SM Q D G w0 w s L0 M) (h:L1.Perm L0):SM Q D G w0 w s L1 M:=by
 obtain⟨a,b,c,d,ca,la,k⟩:=H;exact⟨a,b,c,d,ca,la,k.perm ((((h.cons _).cons _).cons _).cons _)⟩
theorem sub (H:SM Q D G w0 w s L0 M) (h:L1.Sublist L0):SM Q D G w0 w s L1 M:=by
 obtain⟨a,b,c,d,ca,la,k⟩:=H;exact⟨a,b,c,d,ca,la,k.sub ((((h.cons_cons _).cons_cons _).cons_cons _).cons_cons _)⟩
theorem ly (H:SM Q D G w0 w s L0 M) (h:M1.Perm M):SM Q D G w0 w s L0 M1:=by
 obtain⟨a,b,c,d,ca,la,k⟩:=H;exact⟨a,b,c,d,ca,la,k.ly h⟩
theorem FK (H:SM Q D G w0 w s L0 M) (h:M1.Sublist M):SM Q D G w0 w s L0 M1:=by
 obtain⟨a,b,c,d,ca,la,k⟩:=H;exact⟨a,b,c,d,ca,la,k.FK h⟩
theorem get (H:SM Q D G w0 w s L0 M) {r:Nat} {o:BI} (h:(r,o)∈M):w.heap[r]? =some o:=by
 obtain⟨a,b,c,d,ca,la,k⟩:=H;exact(k.obj _ h).1
theorem put (H:SM Q D G w0 w s L0 M) {i r:Nat} {o:BI} (h:M[i]? =some (r,o)) {o':BI} (e:nK o'):SM Q D G w0 (w.putObj r o') s L0 (M.set i (r,o')):=by
 obtain⟨a,b,c,d,ca,la,k⟩:=H;exact⟨a,b,c,d,ca,la,k.put h e⟩
theorem alloc (H:SM Q D G w0 w s L0 M) {o:BI} (e:nK o):SM Q D G w0 (w.alloc o) s L0 ((w.heap.size,o)::M):=by
 obtain⟨a,b,c,d,ca,la,k⟩:=H;exact⟨a,b,c,d,ca,la,k.alloc e⟩
theorem go (H:SM Q D G w0 w s L0 M) {P:Program} {f:FuncId} {sh:Sh} {args:List AC} {K:sh.T->A2->Prop} (k: ∀w1,SM Q D G w0 w1 s L0 M->aC P f sh args w1 K):aA P f sh args w K:=λ_ h=>k _ (H.ext h)
theorem en (H:SM Q D G w0 w s L0 M) {K:A2->Prop} (k: ∀w1,SM Q D G w0 w1 s L0 M->K w1):au w K:=λ_ h=>k _ (H.ext h)
end SM
end
abbrev TK:Type:=Int×Int×Int
def xh (t:TK):AC×AC:=(aa t.1,.agg ⟨[aa t.2.1,aa t.2.2]⟩)
def qA (es:List B6) (ck:Nat) (tk:List TK):Prop:=
 (∃p:List TK,p.Perm tk/\es.map (λe=>(e.key,e.val))=p.map xh)/\(es.map (·.born)).Nodup/\(∀e∈es,e.born<ck)/\(tk.map (·.1)).Nodup
theorem qA.nil:qA [] 0 []:=⟨⟨[],List.Perm.nil,rfl⟩,J3,λe a=>(by cases a),J3⟩
theorem qA.len {es:List B6} {ck:Nat} {tk:List TK} (h:qA es ck tk):es.length=tk.length:=by
 obtain⟨⟨p,h1,a⟩, _⟩:=h;have:=congrArg FP a;rw[B3,B3] at this;rw[this,h1.length_eq]
theorem RE {es:List B6} {p:List TK} (h:es.map (λe=>(e.key,e.val))=p.map xh) (g:Int) (i0:Nat):
 Instr.findNow (.int .i64) (aa g) es i0=some (match p.findIdx? (λt=>t.1==g) with
  |some i=>some (i0+i,(xh (p.getD i (0,0,0))).2)
  |none=>none):=by
 induction es generalizing p i0 with
 |nil=>
  cases p with
  |nil=>rfl
  |cons t p=>simp at h
 |cons e es d=>
  cases p with
  |nil=>simp at h
  |cons t p=>
   simp only[H6,List.cons.injEq] at h;obtain⟨h1,f⟩:=h;have j:e.key=aa t.1:=congrArg (·.1) h1;have hv:e.val=(xh t).2:=congrArg (·.2) h1;unfold Instr.findNow;rw[j];have k:Instr.sameNow (.int .i64) (aa g) (aa t.1)=some (g==t.1):=by
    show(if IntKind.i64=IntKind.i64 then some (g==t.1) else none)= _;rw[av rfl]
   rw[k,List.findIdx?_cons];by_cases a:t.1=g
   ·have b:(g==t.1)=true:=by simp[a]
    have c:(t.1==g)=true:=by simp[a]
    rw[b,av c];dsimp only;rw[hv];rfl
   ·have b:(g==t.1)=false:=by simp;exact λe=>a e.symm
    have c: ¬ (t.1==g)=true:=by simp[a]
    rw[b,ao c];dsimp only;rw[d f (i0+1)];cases p.findIdx? (λt=>t.1==g) with
    |none=>rfl
    |some i=>
     show some (some (i0+1+i, _))=some (some (i0+(i+1), _));rw[show i0+1+i=i0+(i+1) by omega];rfl
def cm (tk:List TK) (g:Int):Option (Int×Int):=(tk.find? λt=>t.1==g).map (·.2)
theorem jQ {tk:List TK} {g a b:Int} (l:(tk.map (·.1)).Nodup):cm tk g=some (a,b)<->(g,a,b)∈tk:=by
 unfold cm;constructor
 ·intro h;obtain⟨t,h1,k⟩:=Nt.1 h;have c:=J7 h1;have d:=JM h1;have:t.1=g:=by simpa using c
  obtain⟨t1,t2⟩:=t;simp only at this k;subst this;subst k;exact d
 ·intro h;cases e:tk.find? λt=>t.1==g with
  |none=>
   have:=H7.1 e _ h;simp at this
  |some t=>
   have c:=J7 e;have d:=JM e;have m:t.1=g:=by simpa using c
   obtain⟨i,hi⟩:=B5 h;obtain⟨j,f⟩:=B5 d;have n:(tk.map (·.1))[i]? =some g:=by rw[BQ,hi];rfl
   have o:(tk.map (·.1))[j]? =some g:=by rw[BQ,f];exact congrArg some m
   have:=(FS (by rw[B3];exact(Bx.1 hi).1) l).1 (n.trans o.symm);subst this;rw[hi] at f;cases f;rfl
theorem qg {tk:List TK} {g:Int}:cm tk g=none<-> ∀t∈tk,t.1≠g:=by
 unfold cm;rw[Nw,H7];simp
theorem qh {α β:Type} (f:α->β): ∀(l:List α) (i:Nat),(l.eraseIdx i).map f=(l.map f).eraseIdx i
 |[],i=>by simp
 |a::l,0=>rfl
 |a::l,i+1=>by
  simp only[List.eraseIdx_cons_succ,H6];rw[qh f l i]
theorem qA.find {es:List B6} {ck:Nat} {tk:List TK} (h:qA es ck tk) (g:Int): ∃r,Instr.findNow (.int .i64) (aa g) es 0=some r/\
 match cm tk g with
 |some x=> ∃i,r=some (i,.agg ⟨[aa x.1,aa x.2]⟩)/\i<es.length/\qA (es.eraseIdx i) ck (tk.filter λt=> !(t.1==g))
 |none=>r=none:=by
 obtain⟨⟨p,h1,f⟩,s,u,j⟩:=h;refine⟨_,RE f g 0,?_⟩;have v:(p.map (·.1)).Nodup:=(h1.map _).nodup_iff.2 j;cases k:p.findIdx? (λt=>t.1==g) with
 |none=>
  have:cm tk g=none:=qg.2 λt d=>by
   have:=List.findIdx?_eq_none_iff.1 k t (h1.mem_iff.2 d);simpa using this
  rw[this]
 |some i=>
  rw[JN] at k;obtain⟨hi,b, _⟩:=k;have l:p[i]? =some p[i]:=C8 hi;have m:p.getD i (0,0,0)=p[i]:=by rw[F1,l];rfl
  obtain⟨t,d⟩: ∃t,t=p[i]:=⟨_,rfl⟩;rw[<-d] at l m b;have b:t.1=g:=by simpa using b
  have w:(g,t.2.1,t.2.2)∈tk:=by
   have:=h1.mem_iff.1 (C7 l);obtain⟨t1,t2,t3⟩:=t;simp only at b;subst b;exact this
  rw[(jQ j).2 w];have B:es.length=p.length:=by
   have:=congrArg FP f;simpa using this
  refine⟨i,by dsimp only;rw[m,Nat.zero_add];rfl,by omega,⟨p.eraseIdx i,?_,?_⟩,?_,?_,?_⟩
  ·have y:p.eraseIdx i=p.filter λt=> !(t.1==g):=by
    have n:p=p.take i++t::p.drop (i+1):=by
     conv=>lhs;rw[<-HB i p]
     rw[JP hi, <-d]
    have o: ∀x∈p.take i++p.drop (i+1),x.1≠g:=by
     intro x c e;have q:=v;rw[n,DA,H6] at q;have z:=(B4 (a:=t.1) (l₁:=(p.take i).map (·.1)) (l₂:=(p.drop (i+1)).map (·.1))).nodup_iff.1 q;have:=(JR.1 z).1;refine this ?_;rw[b, <-e, <-DA];exact B2.2 ⟨x,c,rfl⟩
    rw[JS]
    conv=>rhs;rw[n]
    rw[List.filter_append,JW (by simp[b])];rw[FY.2 (λx c=>by have:=o x (Bs _ c);simpa using this),FY.2 (λx c=>by have:=o x (Av _ c);simpa using this)]
   rw[y];exact h1.filter _
  ·rw[qh,f,qh]
  ·rw[qh];exact s.sublist (List.eraseIdx_sublist _ _)
  ·exact λe A=>u e (List.mem_of_mem_eraseIdx A)
  ·exact j.sublist ((JX).map _)
theorem qA.push {es:List B6} {ck:Nat} {tk:List TK} (h:qA es ck tk) {t:TK} (g:cm tk t.1=none) {b:List TK} (c:b.Perm (t::tk)):qA (es++[{key:=(xh t).1,val:=(xh t).2,born:=ck}]) (ck+1) b:=by
 obtain⟨⟨p,h1,i⟩,j,d,k⟩:=h;refine⟨⟨p++[t],?_,?_⟩,?_,?_,?_⟩
 ·exact(List.perm_append_singleton _ _).trans ((h1.cons _).trans c.symm)
 ·rw[DA,i,DA];rfl
 ·rw[DA];refine Fg.2 ⟨j,by simp,λx a y f e=>?_⟩;obtain⟨e',he,rfl⟩:=B2.1 a;have f:y=ck:=by simpa using f
  have:=d e' he;omega
 ·intro e he;rcases DK.1 he with he|he
  ·have:=d e he;omega
  ·have:e={key:=(xh t).1,val:=(xh t).2,born:=ck}:=by simpa using he
   subst this;exact Nat.lt_succ_self _
 ·refine(c.map _).nodup_iff.2 (JR.2 ⟨λl=>?_,k⟩);obtain⟨x,a,e⟩:=B2.1 l;exact qg.1 g x a e
set_option maxRecDepth 100000
open Go.RX D
structure GV where
 root:Int
 tk:List TK
structure HS where
 s:WD
 g:Nat->Option GV
 gr:List GT
 po:List Po.PT
structure HX where
 hb:Nat
 gb:Nat
 uC:Nat
 pb:Nat
 c:Nat
 rest:List AC
structure GA where
 bg:Nat
 bt:Nat
 bm:Nat
 ck:Nat
 es:List B6
def kQ (A:Nat->GA) (g:Nat->Option GV) (i:Nat):Option Ak:=match g i with
 |some _=>some ⟨(A i).bg,0,none⟩
 |none=>none
def mA (A:Nat->GA) (g:Nat->Option GV):List AC:=(AN 17).map λi=>ag (kQ A g i)
abbrev fV (Q:Sys) (X:HX) (A:Nat->GA) (g:Nat->Option GV):List AC:=[ag (ae Q.bm),ag (ae Q.bp),ag (ae X.gb),ag (ae X.pb)]++mA A g
def gR (Q:Sys) (A:Nat->GA) (i:Nat) (v:GV):List (Nat×List AC):=[((A i).bg,[ag (some ⟨(A i).bt,0,none⟩),.map (some (A i).bm)]),((A i).bt,oH Q i v.root false)]
def bh (Q:Sys) (A:Nat->GA) (g:Nat->Option GV) (l:List Nat):List (Nat×List AC):=l.flatMap λi=>match g i with
 |some v=>gR Q A i v
 |none=>[]
def dg (A:Nat->GA) (g:Nat->Option GV) (l:List Nat):List (Nat×BI):=l.flatMap λi=>match g i with
 |some _=>[((A i).bm,Obj.map ⟨(A i).es⟩ (A i).ck)]
 |none=>[]
abbrev dX (Q:Sys) (X:HX) (A:Nat->GA) (h:HS) (L:List (Nat×List AC)):List (Nat×List AC):=
 (X.hb,fV Q X A h.g)::(X.gb,mE X.uC h.gr.length X.c)::(X.uC,flat eG h.gr++X.rest)::(X.pb,Po.gM 4 h.po)::L
structure Dg (A:Nat->GA) (h:HS):Prop where
 jl: ∀{i v},h.g i=some v->1<=i/\i<=16
 mp: ∀{i v},h.g i=some v->qA (A i).es (A i).ck v.tk
 gl:h.gr.length=16
 pt:Po.lO 4 h.po
 gk:n7 h.gr
def jm (Q:Sys) (X:HX) (D G:List Nat) (w0 w:A2) (h:HS) (L:List (Nat×List AC)):Prop:=
 ∃A,Dg A h/\SM Q D G w0 w h.s (dX Q X A h (bh Q A h.g (AN 17)++L)) (dg A h.g (AN 17))
theorem Bl {Q:Sys} {A:Nat->GA} {g:Nat->Option GV} {l:List Nat} {i:Nat} {v:GV} (hi:i∈l) (hv:g i=some v): ∀x∈gR Q A i v,x∈bh Q A g l:=λx a=>by
 unfold bh;exact Gj.2 ⟨i,hi,by rw[hv];exact a⟩
theorem Mb {A:Nat->GA} {g:Nat->Option GV} {l:List Nat} {i:Nat} {v:GV} (hi:i∈l) (hv:g i=some v):((A i).bm,Obj.map ⟨(A i).es⟩ (A i).ck)∈dg A g l:=by
 unfold dg;exact Gj.2 ⟨i,hi,by rw[hv];exact H5.2 rfl⟩
theorem ve {A:Nat->GA} {g:Nat->Option GV} {i:Nat} (hi:i<17):(mA A g)[i]? =some (ag (kQ A g i)):=by
 unfold mA;rw[BQ,List.getElem?_range hi];rfl
def aR (g:Nat->Option GV) (v:Int):Bool:=decide (v>=1)&&decide (v<=16)&&(g v.toNat).isSome
def aT (g:Nat->Option GV) (v:Int):Int:=if aR g v=true then(match g v.toNat with|some x=>x.root|none=> -1) else -1
def gq (g:Nat->Option GV) (v p:Int):Int×Bool×Unit:=if aR g v=true then(match g v.toNat with
 |some x=>(match cm x.tk p with|some y=>(y.1,true,())|none=>(0,false,()))
 |none=>(0,false,())) else(0,false,())
def c_ (g:Nat->Option GV) (v a:Int):Int:=if a<1\/a>16\/a=v then 1 else if aR g a=true then 0 else 4
theorem cj {g:Nat->Option GV} {v:Int}:aR g v=true<->(1<=v/\v<=16)/\ ∃x,g v.toNat=some x:=by
 unfold aR;simp only[FN,decide_eq_true_eq,Option.isSome_iff_exists]
section
variable {Q:Sys} {X:HX} {D G:List Nat} {w0 w:A2} {s:WD} {L0:List (Nat×List AC)} {M:List (Nat×BI)} {A:Nat->GA} {g:Nat->Option GV}
theorem bj.vF (S:bj Q D G w0 w s L0) (a:(X.hb,fV Q X A g)∈L0) {v:Int} (hv:0<=v/\v<=16):cQ w (ad (ad (ae X.hb) 4) (v.toNat*1)) (.one .ptr) (kQ A g v.toNat):=by
 obtain⟨j,b⟩:=B5 a;rw[aY,aY];refine dU (S.get b) ?_;show(match (fV Q X A g)[0+4+v.toNat*1]? with|some v=>Sc.ptr.proj v|none=>none)= _;have:(fV Q X A g)[0+4+v.toNat*1]? =some (ag (kQ A g v.toNat)):=by
  show([ag (ae Q.bm),ag (ae Q.bp),ag (ae X.gb),ag (ae X.pb)]++mA A g)[0+4+v.toNat*1]? = _;rw[Fp (by simp),Dd,Dd,Dd,Dd,JY];rw[show 0+4+v.toNat*1 - (0+1+1+1+1)=v.toNat by omega];exact ve (by omega)
 rw[this];rfl
theorem bj.fL (S:bj Q D G w0 w s L0) (a:(X.hb,fV Q X A g)∈L0) {n:Nat} {x:Option Ak} (h:[(some ⟨Q.bm,0,none⟩:Option Ak),some ⟨Q.bp,0,none⟩,some ⟨X.gb,0,none⟩,some ⟨X.pb,0,none⟩][n]? =some x):cQ w (ad (ae X.hb) n) (.one .ptr) x:=by
 obtain⟨j,b⟩:=B5 a;rw[aY];refine dU (S.get b) ?_;rcases n with _| _| _| _|n
 ·cases h;rfl
 ·cases h;rfl
 ·cases h;rfl
 ·cases h;rfl
 ·simp at h
theorem mY (S:bj Q D G w0 w s L0) (a:(X.hb,fV Q X A g)∈L0):af AA 53 [ag (ae X.hb)] w (.bool true):=by
 refine af.of (s:= .el (.one .bool)) λw' h'=>ai (C:=V0) (aS:=λ_=>[]) (Al (LQ _ w' _) ?_);exact⟨λ_=>rfl,λ_=>rfl,aj.of _ ((S.ext h').fL a (n:=0) rfl) λw1 h1=>⟨rfl,h1⟩⟩
theorem pY (S:bj Q D G w0 w s L0) (a:(X.hb,fV Q X A g)∈L0) (v:Int):af AA 19 [ag (ae X.hb),aa v] w (.bool (aR g v)):=by
 refine af.of (s:= .el (.one .bool)) λw' h'=>ai (C:=V0) (aS:=λ_=>[]) (Al (Rs _ v w' _) ?_);have S:=S.ext h';refine⟨_,mY S a,λ_=>rfl,λ_=>rfl,λc=>?_,?_⟩
 ·simp only[FN,decide_eq_true_eq] at c;exact⟨rfl,by omega,by show v<((17:Nat):Int);omega⟩
 ·unfold aR;by_cases hv:v>=1/\v<=16
  ·refine aj.of _ (S.vF a ⟨by omega,hv.2⟩) λw1 h1=>⟨?_,h1⟩;unfold kQ;cases g v.toNat<;>simp
  ·have c:(true&&decide (v>=1)&&decide (v<=16))=false:=by
    rw[Bool.and_eq_false_iff,Gd,decide_eq_false_iff_not,decide_eq_false_iff_not];omega
   rw[c];refine⟨none,λh=>(by cases h),λw1 h1=>⟨?_,h1⟩⟩;rw[Gd] at c;rw[c];rfl
theorem bP {a:Int} (h:0<=a/\a<9223372036854775808):aG .i64 a=a:=gz (by omega) h.2
theorem Ep (S:bj Q D G w0 w s L0) (b:(X.hb,fV Q X A g)∈L0) {a:Int} (d:0<=a):af AA 165 [ag (ae X.hb),ay a] w (.bool (aR g a)):=by
 refine af.of (s:= .el (.one .bool)) λw' h'=>ai (C:=V0) (aS:=λ_=>[]) (Al (LR _ a w' _) ?_);have S:=S.ext h';refine⟨aR g a,λc=>?_,λw1 h1=>⟨?_,h1⟩⟩
 ·have c:a<=16:=by simpa using c
  rw[bP ⟨d,by omega⟩];exact pY S b a
 ·by_cases c:a<=16
  ·rw[decide_eq_true c];rfl
  ·rw[decide_eq_false c];unfold aR;rw[decide_eq_false c];simp
theorem za (S:bj Q D G w0 w s L0) (d:(X.hb,fV Q X A g)∈L0) (v:Int) {a:Int} (b:0<=a):af AA 179 [ag (ae X.hb),aa v,ay a] w (aa (c_ g v a)):=by
 refine af.of (s:= .el (.one (.int .i64))) λw' h'=>ai (C:=V0) (aS:=λ_=>[]) (Al (LW _ v a w' _) ?_);have S:=S.ext h';unfold c_;by_cases c:a<1\/a>16\/a=v
 ·rw[av c];refine aB ?_ λw1 h1=>⟨rfl,h1⟩;simp only[NG,decide_eq_true_eq,beq_iff_eq];rcases c with c|c|c
  ·exact .inl (.inl c)
  ·exact .inl (.inr c)
  ·by_cases c2:a>16
   ·exact .inl (.inr c2)
   ·exact .inr (by rw[bP ⟨b,by omega⟩];exact c)
 ·rw[ao c];refine an ?_ ⟨_,Ep S d b,?_⟩
  ·rw[bP ⟨b,by omega⟩];simp only[E4,decide_eq_false_iff_not,beq_eq_false_iff_ne];omega
  ·cases aR g a with
   |true=>exact an rfl λw1 h1=>⟨rfl,h1⟩
   |false=>exact aB rfl λw1 h1=>⟨rfl,h1⟩
theorem Jf (S:bj Q D G w0 w s L0) (b:(X.hb,fV Q X A g)∈L0) (c: ∀i v,g i=some v-> ∀x∈gR Q A i v,x∈L0) (v:Int):af AA 21 [ag (ae X.hb),aa v] w (aa (aT g v)):=by
 refine af.of (s:= .el (.one (.int .i64))) λw' h'=>ai (C:=V0) (aS:=λ_=>[]) (Al (Ru _ v w' _) ?_);have S:=S.ext h';refine⟨_,pY S b v,?_⟩;unfold aT;cases d:aR g v with
 |false=>exact aB rfl λw1 h1=>⟨rfl,h1⟩
 |true=>
  obtain⟨hv,x,a⟩:=cj.1 d;have hc:=S.vF b (v:=v) ⟨by omega,hv.2⟩;have e:kQ A g v.toNat=some ⟨(A v.toNat).bg,0,none⟩:=by unfold kQ;rw[a]
  rw[e] at hc;obtain⟨j1,f⟩:=B5 (c _ _ a _ Ay);obtain⟨h,j⟩:=B5 (c _ _ a _ (B1 _ Ay));refine an rfl ⟨rfl,rfl,⟨rfl,by omega,by show v<((17:Nat):Int);omega⟩,aj.of _ hc ⟨rfl,rfl,S.cH j1 f rfl ⟨_,S.root h j,λw1 h1=>⟨?_,h1⟩⟩⟩⟩;rw[a,av rfl];rfl
theorem pz (H:SM Q D G w0 w s L0 M) (d:(X.hb,fV Q X A g)∈L0) (k: ∀i v,g i=some v-> ∀x∈gR Q A i v,x∈L0) (l: ∀i v,g i=some v->((A i).bm,Obj.map ⟨(A i).es⟩ (A i).ck)∈M) (m: ∀i v,g i=some v->qA (A i).es (A i).ck v.tk) (v p:Int):
 af AA 174 [ag (ae X.hb),aa v,aa p] w ((Sh.bA [.one (.int .i64),.one .bool]).gZ (gq g v p)):=by
 refine af.of (s:= .bA [.one (.int .i64),.one .bool]) λw' h'=>ai (C:=V0) (aS:=λ_=>[]) (Al (LV _ v p w' _) ?_);have H:=H.ext h';have S:=H.base;refine⟨_,pY S d v,?_⟩;unfold gq;cases n:aR g v with
 |false=>exact aB rfl λw1 h1=>⟨rfl,h1⟩
 |true=>
  obtain⟨hv,x,a⟩:=cj.1 n;have hc:=S.vF d (v:=v) ⟨by omega,hv.2⟩;have o:kQ A g v.toNat=some ⟨(A v.toNat).bg,0,none⟩:=by unfold kQ;rw[a]
  rw[o] at hc;obtain⟨j1,q⟩:=B5 (k _ _ a _ Ay);obtain⟨r,f,c⟩:=(m _ _ a).find p;have h:bG w' (A v.toNat).bm ⟨(A v.toNat).es⟩ (A v.toNat).ck:=H.get (l _ _ a);refine an rfl ⟨rfl,rfl,⟨rfl,by omega,by show v<((17:Nat):Int);omega⟩,aj.of _ hc ⟨rfl,rfl,S.cH j1 q rfl ?_⟩⟩;rw[a,av rfl];dsimp only;have at0:Ext w' w':=Ext.refl _;have H0:=At.start [] w';cases j:cm x.tk p with
  |none=>
   rw[j] at c;refine⟨(0,0,()),false,⟨_, _, _,rfl,h,?_⟩,aM.go H0 λb t H0=>az.all 0 H0 rfl rfl rfl λu H0=>⟨rfl,aj.cw 0 H0 rfl rfl (au.go H0 λz H0=>⟨rfl,H0.all⟩)⟩⟩;rw[f,c];exact⟨rfl,rfl⟩
  |some y=>
   rw[j] at c;obtain⟨i,e, _⟩:=c;refine⟨(y.1,y.2,()),true,⟨_, _, _,rfl,h,?_⟩,aM.go H0 λb t H0=>az.all 0 H0 rfl rfl rfl λu H0=>⟨rfl,aj.cw 0 H0 rfl rfl (au.go H0 λz H0=>⟨rfl,H0.all⟩)⟩⟩;rw[f,e];exact⟨rfl,rfl⟩
end
section
variable {G:List Nat} {w0 w:A2}
theorem RF {bm bw n c:Nat} {ca la:Int} {ws:List Int} {rest:List AC} {L0:List (Nat×List AC)} (H:At G w0 w ((bm,l5 bw n c ca la)::(bw,flat eW ws++rest)::L0)) (B:n=ws.length) (h0:0<n) (D:okW ws) (f p t:Int) {K:FT->A2->Prop}
 (k: ∀d w1,At G w0 w1 ((bm,l5 bw n c d la)::(bw,flat eW ws++rest)::L0)->K (mG ws f p t) w1):
 aA AA 223 (.el (.agg sF)) [ag (ae bm),aa f,aa p,aa t] w K:=by
 refine aA.go H λw1 H=>aQ (C:=M1) (aS:=vZ) (Al (UD _ f p t w1 K) ?_);refine aM.go H λb S H=>IY H f p t (λhb E H=>?_) λhb bk E H=>?_
 ·have e:mG ws f p t=(0,0,0,1,()):=av hb;rw[e] at k;exact aB rfl (az.all 0 H rfl rfl rfl λr H=>au.go H λv H=>aj.at 0 H rfl rfl (k ca v (H.sub (B8 _ _))))
 have e:mG ws f p t=(fZ ws f p t 4).2.2:=ao (by rw[hb];decide);rw[e] at k;refine an rfl ⟨λq _ w'=> ∃(i:Nat) (Ls:List (Nat×List AC)) (s:Option Ak×Nat×Nat) (xs:List Int) (d:Int),q+i=4/\i<=3/\(fZ ws f p t i).2.1≠ -1/\xs.length=i/\BO Ls s xs/\
  At G w0 w' ((bk,lT (fZ ws f p t i).1 p t (fZ ws f p t i).2.1 (fZ ws f p t i).2.2 s)::(bm,l5 bw n c d la)::(bw,flat eW ws++rest)::(Ls++((b,[aa 0,aa 0,aa 0,aa 0])::L0))),⟨4,λr F=>⟨0,[],(none,0,0),[],ca,rfl,by decide,(show(3:Int)≠ -1 by decide),rfl,.inl ⟨rfl,rfl,rfl⟩,(H.ext F).perm ?_⟩⟩,?_⟩
 ·exact .cons _ (Dl (l₁:=[(bm,l5 bw n c ca la),(bw,flat eW ws++rest)]) (l₂:=[(b,[aa 0,aa 0,aa 0,aa 0])]) |>.append_right L0)
 clear H;rintro q u r ⟨i,Ls,s,xs,d,T,U,I,J,L,H⟩;dsimp only;refine D9 H L (by omega) B h0 D I λv h s' M H=>?_;have es:bz ws p t ((fZ ws f p t i).1,(fZ ws f p t i).2.1,(fZ ws f p t i).2.2)=fZ ws f p t (i+1):=rfl;rw[es] at H ⊢;by_cases g:(fZ ws f p t (i+1)).2.1= -1
 ·have N:fZ ws f p t 4=fZ ws f p t (i+1):=by
   have:=xC g (4 - (i+1));rw[show i+1+(4 - (i+1))=4 by omega] at this;exact this
  rw[N] at k;generalize fZ ws f p t (i+1)=y at H g k;obtain⟨z,A,⟨j,l,m,o,V⟩⟩:=y;refine an (by rw[g];rfl) ⟨rfl,rfl,aj.cw (x:=(j,l,m,o,())) 0 H rfl rfl ?_⟩;have H:=H.perm (L':=(b,[aa 0,aa 0,aa 0,aa 0])::((bk,lT z p t A (j,l,m,o,()) s')::(bm,l5 bw n c (wM ws (dZ (fZ ws f p t i).1 p (fZ ws f p t i).2.1) d) la)::(bw,flat eW ws++rest)::(h++L0))) (by
   refine(B4 (l₁:=[(bk,lT z p t A (j,l,m,o,()) s'),(bm,l5 bw n c (wM ws (dZ (fZ ws f p t i).1 p (fZ ws f p t i).2.1) d) la),(bw,flat eW ws++rest)]++h) (a:=(b,[aa 0,aa 0,aa 0,aa 0])) (l₂:=L0)).symm)
  refine az.all 0 H rfl rfl rfl λO H=>au.go H λP H=>aj.at 0 H rfl rfl (k (wM ws (dZ (fZ ws f p t i).1 p (fZ ws f p t i).2.1) d) P ?_);have H:=(H.sub (B8 _ _)).sub (B8 _ _);exact H.sub (.cons_cons _ (.cons_cons _ (Fu _ _)))
 ·have Q:=(WR ws f p t (i+1)).resolve_left g;refine aB (by simp[g]) λO R=>⟨q - 1,by omega,i+1,h,s',xs++[(fZ ws f p t i).1], _,by omega,Q.2,g,by rw[Fv,J];rfl,M,H.ext R⟩
theorem Me {bm bw n c:Nat} {ca la:Int} {ws:List Int} {rest:List AC} {L:List (Nat×List AC)} (H:At G w0 w L) (j b:Nat) (d:L[j]? =some (bm,l5 bw n c ca la)) (e:L[b]? =some (bw,flat eW ws++rest)) (g:j≠b) (h:n=ws.length) (h0:0<n) (i:okW ws) (f p t:Int) {K:FT->A2->Prop}
 (k: ∀a w1,At G w0 w1 (L.set j (bm,l5 bw n c a la))->K (mG ws f p t) w1):
 aA AA 223 (.el (.agg sF)) [ag (ae bm),aa f,aa p,aa t] w K:=by
 obtain⟨o,l,m⟩:=Zf d e g;exact RF (H.perm l.symm) h h0 i f p t λa w1 H=>k a w1 (H.perm (m _))
end
section
variable {D G:List Nat} {w0 w w':A2} {L:List (Nat×List AC)}
end
section
variable {Q:Sys} {D G:List Nat} {w0 w:A2} {s:WD} {L0:List (Nat×List AC)}
namespace bj
theorem abk (S:bj Q D G w0 w s L0) {K:Option Ak->A2->Prop}
 (k: ∀a b d e c,bj Q D G w0 c s ((a,[.slice (ae b) s.2.length d])::(b,flat eD s.2++e)::L0)->K (ae a) c):
 aA AA 54 (.el (.one .ptr)) [ag (ae Q.bp)] w K:=by
 refine S.go λw1 S=>?_;obtain⟨h1,f,g,h,ca,la,H⟩:=S;refine U8 H (H.get (i:=3) rfl) (H.get (i:=2) rfl) rfl f g λa b d e c H=>k a b d e c ⟨h1,f,g,h,ca,la,H.perm ?_⟩;exact Dl (l₁:=[_, _, _, _]) (l₂:=[(a, _),(b, _)]) |>.append_right L0
theorem ofq (S:bj Q D G w0 w s L0) (f:Int):af AA 25 [ag (ae Q.bp),aa f] w ((Sh.bA [eD,.one .bool]).gZ (qt s.2 f,BP s.2 f,())):=by
 obtain⟨h1,a,b,c,ca,la,H⟩:=S;exact ab6 H 3 2 rfl rfl rfl f
theorem FX (S:bj Q D G w0 w s L0) (f:Int) {K:Int->A2->Prop} (k: ∀a,bj Q D G w0 a (s.1,dJ s.2 f (aO 0 0)) L0->K (vq s.2 f (aO 0 0)) a):
 aA AA 79 (.el (.one (.int .i64))) [ag (ae Q.bp),aa f] w K:=by
 obtain⟨h1,b,c,d,ca,la,H⟩:=S;refine Vi H 3 2 rfl rfl (by decide) rfl b c f λa H=>k a ⟨h1,?_,?_,d,ca,la,?_⟩
 ·show 0<(dJ s.2 f (aO 0 0)).length;rw[jc];exact b
 ·show(dJ s.2 f (aO 0 0)).length<=4096;rw[jc];exact c
 ·unfold Sys.L;show aJ D G w0 a (_:: _:: _::(Q.bp,[.slice _ (dJ s.2 f (aO 0 0)).length _]):: _);rw[jc];exact H
theorem aas (S:bj Q D G w0 w s L0) (f x:Int) (d: -9223372036854775808<=x/\x<9223372036854775808) {K:Int->A2->Prop} (k: ∀a,bj Q D G w0 a (s.1,dJ s.2 f (g_ x)) L0->K (vq s.2 f (g_ x)) a):
 aA AA 183 (.el (.one (.int .i64))) [ag (ae Q.bp),aa f,aa x] w K:=by
 obtain⟨h1,b,c,e,ca,la,H⟩:=S;refine Vh H 3 2 rfl rfl (by decide) rfl b c f x d λa H=>k a ⟨h1,?_,?_,e,ca,la,?_⟩
 ·show 0<(dJ s.2 f (g_ x)).length;rw[jc];exact b
 ·show(dJ s.2 f (g_ x)).length<=4096;rw[jc];exact c
 ·unfold Sys.L;show aJ D G w0 a (_:: _:: _::(Q.bp,[.slice _ (dJ s.2 f (g_ x)).length _]):: _);rw[jc];exact H
theorem owned (S:bj Q D G w0 w s L0) (v:Int) {K:Option Ak×Nat×Nat->A2->Prop} (k: ∀r rows a,bj Q D G w0 a s (L0++rows)->n_ eI rows r ((fW s.2 v).map λi=>((i:Nat):Int))->K r a):
 aA AA 166 (.el (.one .slice)) [ag (ae Q.bp),aa v] w K:=by
 obtain⟨h1,c,b,d,ca,la,H⟩:=S;exact Rn H 3 2 rfl rfl rfl b v λr rows a H e=>k r rows a ⟨h1,c,b,d,ca,la,H⟩ e
theorem walk (S:bj Q [] G w0 w s L0) (f p t:Int) {K:FT->A2->Prop} (k: ∀w1,bj Q [] G w0 w1 s L0->K (mG s.1 f p t) w1):
 aA AA 223 (.el (.agg sF)) [ag (ae Q.bm),aa f,aa p,aa t] w K:=by
 obtain⟨h1,b,c,a,ca,la,H⟩:=S;exact Me H 0 1 rfl rfl (by decide) rfl h1 a f p t λd w1 H=>k w1 ⟨h1,b,c,a,d,la,H⟩
end bj
end
set_option maxRecDepth 100000
open Go.RX D
def fX (g:Nat->Option GV) (s:WD) (v p:Int):Int×Int×Int×Unit:=if aR g v=true then(match g v.toNat with
 |some x=>bu s x.root false p
 |none=>(0,0,4,())) else(0,0,4,())
def j7 (s:WD) (f:Int):Int:=if BP s.2 f=false then 2 else if(qt s.2 f).1≠5 then 6 else vq s.2 f (aO 0 0)
def iG (s:WD) (f:Int):WD:=if BP s.2 f=true/\(qt s.2 f).1=5 then(s.1,dJ s.2 f (aO 0 0)) else s
section
variable {Q:Sys} {X:HX} {D G:List Nat} {w0 w:A2} {s:WD} {L0:List (Nat×List AC)} {M:List (Nat×BI)} {A:Nat->GA} {g:Nat->Option GV}
theorem vf (S:bj Q D G w0 w s L0) (c:(X.hb,fV Q X A g)∈L0) (e: ∀i v,g i=some v-> ∀x∈gR Q A i v,x∈L0) (v p:Int) {K:Int×Int×Int×Unit->A2->Prop} (k: ∀a,bj Q D G w0 a s L0->K (fX g s v p) a):
 aA AA 81 (.bA [.one (.int .i64),.one (.int .i64),.one (.int .i64)]) [ag (ae X.hb),aa v,aa p] w K:=by
 refine S.go λw1 S=>ai (C:=V0) (aS:=λ_=>[]) (Al (LU _ v p w1 K) ?_);refine⟨_,mY S c,an rfl ⟨_,pY S c v,?_⟩⟩;unfold fX at k;cases d:aR g v with
 |false=>
  rw[d,ao (by decide)] at k;exact aB rfl (S.en λa S=>k a S)
 |true=>
  obtain⟨hv,x,b⟩:=cj.1 d;rw[d,av rfl,b] at k;have hc:=S.vF c (v:=v) ⟨by omega,hv.2⟩;have f:kQ A g v.toNat=some ⟨(A v.toNat).bg,0,none⟩:=by unfold kQ;rw[b]
  rw[f] at hc;obtain⟨j1,h⟩:=B5 (e _ _ b _ Ay);obtain⟨j,l⟩:=B5 (e _ _ b _ (B1 _ Ay));refine an rfl ⟨rfl,rfl,⟨rfl,by omega,by show v<((17:Nat):Int);omega⟩,aj.of _ hc ⟨rfl,rfl,S.cH j1 h rfl (S.query j l p λa S=>S.en λm S=>k m S)⟩⟩
theorem Er (S:bj Q D G w0 w s L0) (j:(X.hb,fV Q X A g)∈L0) (f:Int) {K:Int->A2->Prop} (k: ∀l,bj Q D G w0 l (iG s f) L0->K (j7 s f) l):
 aA AA 43 (.el (.one (.int .i64))) [ag (ae X.hb),aa f] w K:=by
 refine S.go λw1 S=>ai (C:=V0) (aS:=λ_=>[]) (Al (Rv _ f w1 K) ?_);refine⟨_,mY S j,an rfl ⟨rfl,rfl,aj.of _ (S.fL j (n:=1) rfl) ⟨(qt s.2 f,BP s.2 f,()),S.ofq f,S.al λb l S=>S.fg 0 rfl rfl rfl λq S=>?_⟩⟩⟩;have o: ∀x:Nat×List AC,(X.hb,fV Q X A g)∈x::L0:=λx=>B1 _ j;cases e:BP s.2 f with
 |false=>
  have c:iG s f=s:=ao (λh=>by rw[e] at h;cases h.1);have d:j7 s f=2:=av e;rw[c,d] at k;exact aB rfl (S.en λi S=>k i S.tail)
 |true=>
  have m: ¬ BP s.2 f=false:=by rw[e];decide
  refine an rfl ⟨rfl,S.cH 0 rfl rfl ?_⟩;by_cases a:(qt s.2 f).1=5
  ·have c:iG s f=(s.1,dJ s.2 f (aO 0 0)):=av ⟨e,a⟩;have d:j7 s f=vq s.2 f (aO 0 0):=by
    unfold j7;rw[ao m,ao (λh=>h a)]
   rw[c,d] at k;exact an (by simpa using a) ⟨rfl,rfl,aj.of _ (S.fL (o _) (n:=1) rfl) (S.FX f λi S=>S.en λp S=>k p S.tail)⟩
  ·have c:iG s f=s:=ao (λh=>a h.2);have d:j7 s f=6:=by
    unfold j7;rw[ao m,av a]
   rw[c,d] at k;exact aB (by simpa using a) (S.en λi S=>k i S.tail)
theorem zH (S:bj Q D G w0 w s L0) (f:(X.hb,fV Q X A g)∈L0) {K:Option Ak->A2->Prop} (k: ∀h i j l e,bj Q D G w0 e s ((h,[.slice (ae i) s.2.length j])::(i,flat eD s.2++l)::L0)->K (ae h) e):
 aA AA 18 (.el (.one .ptr)) [ag (ae X.hb)] w K:=by
 refine S.go λw1 S=>ai (C:=V0) (aS:=λ_=>[]) (Al (Hm _ w1 K) ?_);exact⟨_,mY S f,an rfl ⟨rfl,rfl,aj.of _ (S.fL f (n:=1) rfl) (S.abk λa b c d e S=>S.en λm S=>k a b c d m S)⟩⟩
theorem zI (S:bj Q D G w0 w s L0) (a:(X.hb,fV Q X A g)∈L0) {K:Option Ak->A2->Prop} (k: ∀b,bj Q D G w0 b s L0->K (ae Q.bm) b):
 aA AA 23 (.el (.one .ptr)) [ag (ae X.hb)] w K:=by
 refine S.go λw1 S=>ai (C:=V0) (aS:=λ_=>[]) (Al (Hn _ w1 K) ?_);exact⟨_,mY S a,an rfl ⟨rfl,rfl,aj.of _ (S.fL a (n:=0) rfl) (S.en λc S=>k c S)⟩⟩
end
structure XJ (A:Nat->GA) (g:Nat->Option GV) (A':Nat->GA) (g':Nat->Option GV):Prop where
 bg: ∀i,(A' i).bg=(A i).bg
 bt: ∀i,(A' i).bt=(A i).bt
 bm: ∀i,(A' i).bm=(A i).bm
 rt: ∀i,(g' i).map GV.root=(g i).map GV.root
section
variable {A A':Nat->GA} {g g':Nat->Option GV} {Q:Sys} {X:HX}
theorem XJ.ptr (h:XJ A g A' g'):kQ A' g'=kQ A g:=by
 funext i;have:=h.rt i;have hb:=h.bg i;unfold kQ;cases h1:g' i<;>cases a:g i<;>rw[h1,a] at this<;>simp at this<;>simp[hb]
theorem XJ.cs (h:XJ A g A' g'):fV Q X A' g'=fV Q X A g:=by
 unfold fV mA;rw[h.ptr]
theorem XJ.rows (h:XJ A g A' g') (l:List Nat):bh Q A' g' l=bh Q A g l:=by
 unfold bh;congr 1;funext i;have:=h.rt i;cases h1:g' i<;>cases a:g i<;>rw[h1,a] at this<;>simp at this
 ·dsimp only;unfold gR;rw[h.bg i,h.bt i,h.bm i,this]
theorem ml {i:Nat} {v:GV} (hi:i<17) (hv:g i=some v):(dg A g (AN 17)).Perm (((A i).bm,Obj.map ⟨(A i).es⟩ (A i).ck)::dg A g ((AN 17).erase i)):=by
 unfold dg;refine(GJ _ (G1 (CX.2 hi))).trans ?_;rw[Dn,hv];exact Dz _
theorem wj {i:Nat} {v:GV} (hi:i<17) (hv:g i=some v):(bh Q A g (AN 17)).Perm (gR Q A i v++bh Q A g ((AN 17).erase i)):=by
 unfold bh;refine(GJ _ (G1 (CX.2 hi))).trans ?_;rw[Dn,hv]
theorem zJ {i:Nat} (hi:i<17) (hv:g i=none):(dg A g (AN 17)).Perm (dg A g ((AN 17).erase i)):=by
 unfold dg;refine(GJ _ (G1 (CX.2 hi))).trans ?_;rw[Dn,hv];exact Dz _
theorem zK {i:Nat} (hi:i<17) (hv:g i=none):(bh Q A g (AN 17)).Perm (bh Q A g ((AN 17).erase i)):=by
 unfold bh;refine(GJ _ (G1 (CX.2 hi))).trans ?_;rw[Dn,hv];exact Dz _
theorem gB {α β:Type} {f f':α->List β}: ∀{l:List α},(∀x∈l,f x=f' x)->l.flatMap f=l.flatMap f'
 |[], _=>rfl
 |x::l,h=>by
  rw[Dn,Dn,h x Ay,gB λy a=>h y (B1 _ a)]
theorem Pc {i j:Nat} (h:j∈(AN 17).erase i):j≠i:=λe=>by
 subst e;exact(List.nodup_range.not_mem_erase) h
theorem pH {i:Nat} (h: ∀j,j≠i->A' j=A j/\g' j=g j):dg A' g' ((AN 17).erase i)=dg A g ((AN 17).erase i):=by
 unfold dg;refine gB λj a=>?_;obtain⟨h1,b⟩:=h j (Pc a);rw[h1,b]
theorem wo {i:Nat} (h: ∀j,j≠i->A' j=A j/\g' j=g j):bh Q A' g' ((AN 17).erase i)=bh Q A g ((AN 17).erase i):=by
 unfold bh;refine gB λj a=>?_;obtain⟨h1,b⟩:=h j (Pc a);rw[b];cases g j with
 |none=>rfl
 |some v=>dsimp only;unfold gR;rw[h1]
end
def oB (A:Nat->GA) (i:Nat) (x:GA):Nat->GA:=λj=>if j=i then x else A j
def bq (g:Nat->Option GV) (i:Nat) (x:Option GV):Nat->Option GV:=λj=>if j=i then x else g j
theorem qi (A:Nat->GA) (i:Nat) (x:GA):oB A i x i=x:=av rfl
theorem fH (g:Nat->Option GV) (i:Nat) (x:Option GV):bq g i x i=x:=av rfl
theorem Bm (A:Nat->GA) (g:Nat->Option GV) (i:Nat) (x:GA) (y:Option GV): ∀j,j≠i->oB A i x j=A j/\bq g i y j=g j:=λ_ h=>⟨ao h,ao h⟩
theorem Jg {A:Nat->GA} {g:Nat->Option GV} {i:Nat} {v:GV} (hv:g i=some v) (es:List B6) (ck:Nat) (tk:List TK):XJ A g (oB A i {A i with es:=es,ck:=ck}) (bq g i (some {v with tk:=tk})):=by
 refine⟨λj=>?_,λj=>?_,λj=>?_,λj=>?_⟩
 ·unfold oB;split
  ·rename_i e;subst e;rfl
  ·rfl
 ·unfold oB;split
  ·rename_i e;subst e;rfl
  ·rfl
 ·unfold oB;split
  ·rename_i e;subst e;rfl
  ·rfl
 ·unfold bq;split
  ·rename_i e;subst e;rw[hv];rfl
  ·rfl
theorem SM.Pd {Q:Sys} {D G:List Nat} {w0 w:A2} {s:WD} {L0:List (Nat×List AC)} {A:Nat->GA} {g:Nat->Option GV} (H:SM Q D G w0 w s L0 (dg A g (AN 17))) {i:Nat} {v:GV} (hi:i<17) (hv:g i=some v) (es:List B6) (ck:Nat) (tk:List TK):
 SM Q D G w0 (w.putObj (A i).bm (.map ⟨es⟩ ck)) s L0 (dg (oB A i {A i with es:=es,ck:=ck}) (bq g i (some {v with tk:=tk})) (AN 17)):=by
 have a:=(H.ly (ml hi hv).symm).put (i:=0) rfl (o':= .map ⟨es⟩ ck) trivial;refine a.ly ((ml hi (v:={v with tk:=tk}) (fH _ _ _)).trans ?_);rw[pH (Bm A g i _ _),qi];exact Dz _
section
variable {Q:Sys} {X:HX} {D G:List Nat} {w0 w:A2} {s:WD} {L0:List (Nat×List AC)} {bg br bp c:Nat} {gs:List GT} {rest:List AC} {room:Int} {ps:List Po.PT}
namespace bj
theorem Vw (S:bj Q D G w0 w s L0) (j b:Nat) (e:L0[j]? =some (bg,mE br gs.length c)) (f:L0[b]? =some (br,flat eG gs++rest)) (h0:0<gs.length) (i o:Int) {K:Int->A2->Prop}
 (k: ∀a,bj Q D G w0 a s (L0.set b (br,flat eG (lz gs i o)++rest))->K (qK gs i o) a):
 aA AA 184 (.el (.one (.int .i64))) [ag (ae bg),aa i,aa o] w K:=by
 obtain⟨h1,g,h,l,ca,la,d⟩:=S;exact G8 d (j+4) (b+4) e f h0 i o λa d=>k a ⟨h1,g,h,l,ca,la,d⟩
theorem abl (S:bj Q D G w0 w s L0) (j d:Nat) (f:L0[j]? =some (bg,mE br gs.length c)) (h:L0[d]? =some (br,flat eG gs++rest)) (h0:0<gs.length) (l: ∀x∈gs,0<=x.2.2.2.2.1/\x.2.2.2.2.1<=1000) (i g:Int) (b:Bool) {K:Int->A2->Prop}
 (k: ∀a,bj Q D G w0 a s (L0.set d (br,flat eG (d_ gs i g b)++rest))->K (gX gs i g b) a):
 aA AA 181 (.el (.one (.int .i64))) [ag (ae bg),aa i,aa g,.bool b] w K:=by
 obtain⟨h1,m,n,o,ca,la,e⟩:=S;exact QN e (j+4) (d+4) f h h0 l i g b λa e=>k a ⟨h1,m,n,o,ca,la,e⟩
theorem WW (S:bj Q D G w0 w s L0) (j b:Nat) (e:L0[j]? =some (bg,mE br gs.length c)) (f:L0[b]? =some (br,flat eG gs++rest)) (h0:0<gs.length) (h: ∀x∈gs,0<=x.2.2.2.2.1/\x.2.2.2.2.1<=1000) (i g:Int) {K:Int->A2->Prop}
 (k: ∀a,bj Q D G w0 a s (L0.set b (br,flat eG (eM gs i g)++rest))->K (mz gs i g) a):
 aA AA 182 (.el (.one (.int .i64))) [ag (ae bg),aa i,aa g] w K:=by
 obtain⟨h1,l,m,n,ca,la,d⟩:=S;exact QO d (j+4) (b+4) e f h0 h i g λa d=>k a ⟨h1,l,m,n,ca,la,d⟩
theorem Zx (S:bj Q D G w0 w s L0) (j d:Nat) (f:L0[j]? =some (bg,mE br gs.length c)) (g:L0[d]? =some (br,flat eG gs++rest)) (h0:0<gs.length) (h:gs.length<=64) (o q t:Int) (b:Bool) {K:Int×Int×Unit->A2->Prop}
 (k: ∀a,bj Q D G w0 a s (L0.set d (br,flat eG (jY gs o q t b)++rest))->K (kz gs o q t,lA gs o q t,()) a):
 aA AA 180 (.bA [.one (.int .i64),.one (.int .i64)]) [ag (ae bg),aa o,aa q,aa t,.bool b] w K:=by
 obtain⟨h1,i,l,m,ca,la,e⟩:=S;exact KX e (j+4) (d+4) f g h0 h o q t b λa e=>k a ⟨h1,i,l,m,ca,la,e⟩
theorem abm (S:bj Q D G w0 w s L0) (j a:Nat) (e:L0[j]? =some (bg,mE br gs.length c)) (f:L0[a]? =some (br,flat eG gs++rest)) (h0:0<gs.length) (h:gs.length<=64) (o:j≠a) (g:Int) {K:Int->A2->Prop}
 (k: ∀n b,bj Q D G w0 b s (L0.set a (br,flat eG (cM gs g)++rest))->K n b):
 aA AA 169 (.el (.one (.int .i64))) [ag (ae bg),aa g] w K:=by
 obtain⟨h1,i,l,m,ca,la,d⟩:=S;exact QP d (j+4) (a+4) e f h0 h (by omega) g λn b d=>k n b ⟨h1,i,l,m,ca,la,d⟩
theorem aat (S:bj Q D G w0 w s L0) (j a:Nat) (b:L0[j]? =some (bg,mE br gs.length c)) (d:L0[a]? =some (br,flat eG gs++rest)) (h0:0<gs.length) (i:Int):
 af AA 176 [ag (ae bg),aa i] w ((Sh.bA [eG,.one .bool]).gZ (wZ gs i,(l6 gs i).isSome,())):=
 af.of (s:= .bA [eG,.one .bool]) λw' h'=>Ze ((S.get b).ext h') ((S.get d).ext h') h0 i
theorem abn (S:bj Q D G w0 w s L0) (j:Nat) (c:L0[j]? =some (bp,Po.gM room ps)) (d:Po.okS room ps) (g r:Int) {K:Int×Int×Unit->A2->Prop}
 (k: ∀a,bj Q D G w0 a s (L0.set j (bp,Po.gM room (Po.iV room ps g r).2))->K ((Po.iV room ps g r).1.1,(Po.iV room ps g r).1.2,()) a):
 aA AA 185 (.bA [.one (.int .i64),.one (.int .i64)]) [ag (ae bp),aa g,aa r] w K:=by
 obtain⟨h1,e,f,h,ca,la,b⟩:=S;exact Po.QQ b (j+4) c d g r λa b=>k a ⟨h1,e,f,h,ca,la,b⟩
theorem pbind (S:bj Q D G w0 w s L0) (j:Nat) (c:L0[j]? =some (bp,Po.gM room ps)) (d:Po.okS room ps) (g r i:Int) {K:Int×Int×Unit->A2->Prop}
 (k: ∀a,bj Q D G w0 a s (L0.set j (bp,Po.gM room (Po.ib room ps g r i).2))->K ((Po.ib room ps g r i).1.1,(Po.ib room ps g r i).1.2,()) a):
 aA AA 186 (.bA [.one (.int .i64),.one (.int .i64)]) [ag (ae bp),aa g,aa r,aa i] w K:=by
 obtain⟨h1,e,f,h,ca,la,b⟩:=S;exact Po.QR b (j+4) c d g r i λa b=>k a ⟨h1,e,f,h,ca,la,b⟩
theorem abo (S:bj Q D G w0 w s L0) (j:Nat) (c:L0[j]? =some (bp,Po.gM room ps)) (d:Po.lO room ps) (g i:Int) {K:Int->A2->Prop}
 (k: ∀a,bj Q D G w0 a s (L0.set j (bp,Po.gM room (Po.lB room ps g i).2))->K (Po.lB room ps g i).1 a):
 aA AA 187 (.el (.one (.int .i64))) [ag (ae bp),aa g,aa i] w K:=by
 obtain⟨h1,e,f,h,ca,la,b⟩:=S;exact Po.QS b (j+4) c d g i λa b=>k a ⟨h1,e,f,h,ca,la,b⟩
theorem Zy (S:bj Q D G w0 w s L0) (j:Nat) (c:L0[j]? =some (bp,Po.gM room ps)) (d:Po.lO room ps) (g i:Int) {K:Int->A2->Prop}
 (k: ∀a,bj Q D G w0 a s (L0.set j (bp,Po.gM room (Po.eO room ps g i).2))->K (Po.eO room ps g i).1 a):
 aA AA 189 (.el (.one (.int .i64))) [ag (ae bp),aa g,aa i] w K:=by
 obtain⟨h1,e,f,h,ca,la,b⟩:=S;exact Po.A8 b (j+4) c d g i λa b=>k a ⟨h1,e,f,h,ca,la,b⟩
theorem abp (S:bj Q D G w0 w s L0) (j:Nat) (c:L0[j]? =some (bp,Po.gM room ps)) (d:Po.okS room ps) (g:Int) {K:Int×Bool×Unit->A2->Prop}
 (k: ∀a,bj Q D G w0 a s (L0.set j (bp,Po.gM room (Po.gP room ps g).2))->K ((Po.gP room ps g).1.1,(Po.gP room ps g).1.2,()) a):
 aA AA 188 (.bA [.one (.int .i64),.one .bool]) [ag (ae bp),aa g] w K:=by
 obtain⟨h1,e,f,h,ca,la,b⟩:=S;exact Po.QV b (j+4) c d g λa b=>k a ⟨h1,e,f,h,ca,la,b⟩
theorem abq (S:bj Q D G w0 w s L0) (j:Nat) (c:L0[j]? =some (bp,Po.gM room ps)) (d:Po.lO room ps) (g:Int) {K:Int->A2->Prop}
 (k: ∀a,bj Q D G w0 a s (L0.set j (bp,Po.gM room (Po.cG room ps g).2))->K (Po.cG room ps g).1 a):
 aA AA 170 (.el (.one (.int .i64))) [ag (ae bp),aa g] w K:=by
 obtain⟨h1,e,f,h,ca,la,b⟩:=S;exact Po.QZ b (j+4) c d g λa b=>k a ⟨h1,e,f,h,ca,la,b⟩
theorem res (S:bj Q D G w0 w s L0) {j b:Nat} {x1 d:AC} (c:L0[j]? =some (b,[x1,d])) (v e:Int) {K:RS->A2->Prop} (k: ∀a,bj Q D G w0 a s (L0.set j (b,[ay v,aa e]))->K (v,e,()) a):
 az w (ae b) [ay v,aa e] λa=>au a λw1=>aj w1 none (ae b) (.agg iN) λx=>K (x.1,x.2.1,()) w1:=by
 have f:j<L0.length:=(Bx.1 c).1;refine S.fg j c rfl rfl λa S=>S.en λg S=>?_;exact S.ld j (Do f) (show _=some (v,e,()) from rfl) (k g S)
end bj
end
def yw (h:HS) (gr:List GT):HS:={h with gr:=gr}
def AJ (h:HS) (po:List Po.PT):HS:={h with po:=po}
def bE (h:HS) (s:WD):HS:={h with s:=s}
abbrev gg (k a b c:Int):List AC:=[aa k,ay a,ay b,ay c]
theorem zb (gs:List GT) (i o:Int):(lz gs i o).length=gs.length:=by
 unfold lz;split
 ·rw[Df]
 ·rfl
def Cz (h:HS) (v a:Int):Int:=if a>=16 then 1 else qK h.gr a v
def fU (h:HS) (v a:Int):HS:=if a>=16 then h else yw h (lz h.gr a v)
section
variable {Q:Sys} {X:HX} {D G:List Nat} {w0 w:A2} {h:HS} {L:List (Nat×List AC)} {K:RS->A2->Prop}
theorem Mf (H:jm Q X D G w0 w h L) (v k:Int) {a:Int} (b c:Int) (m:0<=a) (kk: ∀f,jm Q X D G w0 f (fU h v a) L->K (0,Cz h v a,()) f):
 aC AA 132 (.el (.agg iN)) [ag (ae X.hb),aa v,.agg ⟨gg k a b c⟩] w K:=by
 obtain⟨A,W,H⟩:=H;obtain⟨o,S,J⟩:=H.call;refine aQ (C:=V0) (aS:=λ_=>[]) (Al (E_ _ v k a b c w K) ?_);refine S.al λp f S=>S.al λq r S=>⟨rfl,S.cH 1 rfl rfl ?_⟩;unfold Cz fU at kk;refine ab (λd=>⟨trivial,S.res (j:=0) rfl 0 1 λi S=>?_⟩) (λd=>?_)
 ·rw[av (by simpa using d),av (by simpa using d)] at kk;exact kk i ⟨A,W,J (S.tail.tail)⟩
 ·have d: ¬ a>=16:=by simpa using d
  rw[ao d,ao d] at kk;refine⟨rfl,rfl,aj.of _ (S.fL (X:=X) (A:=A) (g:=h.g) (by simp) (n:=2) rfl) ⟨rfl,S.cH 1 rfl rfl ?_⟩⟩;rw[bP ⟨m,by omega⟩];refine S.Vw 3 4 rfl rfl (by rw[W.gl];decide) a v λi S=>⟨trivial,S.res (j:=0) rfl 0 _ λl S=>kk l ⟨A,⟨W.jl,W.mp,(zb _ _ _).trans W.gl,W.pt,W.gk.rev _ _⟩,J ?_⟩⟩;have S:=S.tail.tail;have e:(lz h.gr a v).length=h.gr.length:=zb _ _ _;show bj Q [] o w l h.s ((X.hb,fV Q X A h.g)::(X.gb,mE X.uC (lz h.gr a v).length X.c):: _);rw[e];exact S
end
set_option maxRecDepth 100000
open Go.RX D
def Ov (h:HS) (v a:Int):Int:=if a>=4 then 1 else(Po.lB 4 h.po v a).1
def l7 (h:HS) (v a:Int):HS:=if a>=4 then h else AJ h (Po.lB 4 h.po v a).2
def Gl (h:HS) (v a:Int):Int:=if a>=4 then 1 else(Po.eO 4 h.po v a).1
def iZ (h:HS) (v a:Int):HS:=if a>=4 then h else AJ h (Po.eO 4 h.po v a).2
def Ow (h:HS) (v:Int):Int:=if(Po.gP 4 h.po v).1.2=true then(Po.gP 4 h.po v).1.1+1 else 0
def Ox (h:HS) (v:Int):HS:=AJ h (Po.gP 4 h.po v).2
def Iw (h:HS) (v a:Int):Int×Int:=if c_ h.g v a=0 then(Po.iV 4 h.po v a).1 else(0,c_ h.g v a)
def l8 (h:HS) (v a:Int):HS:=if c_ h.g v a=0 then AJ h (Po.iV 4 h.po v a).2 else h
def Ix (h:HS) (v a b:Int):Int×Int:=if c_ h.g v a=1\/b>=4 then(0,1) else if c_ h.g v a=0 then(Po.ib 4 h.po v a b).1 else(0,c_ h.g v a)
def l9 (h:HS) (v a b:Int):HS:=if c_ h.g v a=1\/b>=4 then h else if c_ h.g v a=0 then AJ h (Po.ib 4 h.po v a b).2 else h
theorem vg {g:Nat->Option GV} {v a:Int} (h:c_ g v a≠1):1<=a/\a<=16:=by
 unfold c_ at h;split at h
 ·exact absurd rfl h
 ·omega
theorem cY {a:Int} (h:0<=a/\a<18446744073709551616):aG .u64 a=a:=by
 unfold aG;simp only[IntKind.wrap,IntKind.bits,IntKind.signed];simp;omega
theorem RG {ps:List Po.PT} {g:Int} (h:(Po.gP 4 ps g).1.2=true):0<=(Po.gP 4 ps g).1.1/\(Po.gP 4 ps g).1.1<4:=by
 unfold Po.gP at h ⊢;cases a:Po.oU 4 ps g with
 |nil=>rw[a] at h;cases h
 |cons i l=>
  have:=(Po.eV.1 (Po.tB (ps:=ps) (g:=g) (x:=i) (room:=4) (by rw[a];exact Ay)).1).2;exact this
theorem Vx {ps:List Po.PT} {g:Int} {x:Po.PT} (a:Po.gI g=true):0<=(Po.dR 4 ps g x).1.1/\(Po.dR 4 ps g x).1.1<4:=by
 unfold Po.dR;split
 ·exact⟨Ga _,(by decide:(0:Int)<4)⟩
 ·rename_i b;have:=(Po.eV.1 (Po.mW a b).1).2;exact this
theorem RH (ps:List Po.PT) (g r:Int):0<=(Po.iV 4 ps g r).1.1/\(Po.iV 4 ps g r).1.1<4:=by
 unfold Po.iV;split
 ·rename_i a;exact Vx (Po.pV.1 a).1
 ·exact⟨Ga _,(by decide:(0:Int)<4)⟩
section
variable {Q:Sys} {X:HX} {D G:List Nat} {w0 w:A2} {h:HS} {L:List (Nat×List AC)} {K:RS->A2->Prop}
theorem Vy (H:jm Q X D G w0 w h L) (v k:Int) {a:Int} (b c:Int) (i:0<=a) (kk: ∀e,jm Q X D G w0 e (l7 h v a) L->K (0,Ov h v a,()) e):
 aC AA 135 (.el (.agg iN)) [ag (ae X.hb),aa v,.agg ⟨gg k a b c⟩] w K:=by
 obtain⟨A,W,H⟩:=H;obtain⟨m,S,J⟩:=H.call;refine aQ (C:=V0) (aS:=λ_=>[]) (Al (L7 _ v k a b c w K) ?_);refine S.al λo e S=>S.al λp q S=>⟨rfl,S.cH 1 rfl rfl ?_⟩;unfold Ov l7 at kk;refine ab (λd=>⟨trivial,S.res (j:=0) rfl 0 1 λf S=>?_⟩) (λd=>?_)
 ·rw[av (by simpa using d),av (by simpa using d)] at kk;exact kk f ⟨A,W,J (S.tail.tail)⟩
 ·have d: ¬ a>=4:=by simpa using d
  rw[ao d,ao d] at kk;refine⟨rfl,rfl,aj.of _ (S.fL (X:=X) (A:=A) (g:=h.g) (by simp) (n:=3) rfl) ⟨rfl,S.cH 1 rfl rfl ?_⟩⟩;rw[bP ⟨i,by omega⟩];exact S.abo 5 rfl W.pt v a λf S=>⟨trivial,S.res (j:=0) rfl 0 _ λl S=>kk l ⟨A,⟨W.jl,W.mp,W.gl,W.pt.lB v a,W.gk⟩,J (S.tail.tail)⟩⟩
theorem RI (H:jm Q X D G w0 w h L) (v k:Int) {a:Int} (b c:Int) (i:0<=a) (kk: ∀e,jm Q X D G w0 e (iZ h v a) L->K (0,Gl h v a,()) e):
 aC AA 137 (.el (.agg iN)) [ag (ae X.hb),aa v,.agg ⟨gg k a b c⟩] w K:=by
 obtain⟨A,W,H⟩:=H;obtain⟨m,S,J⟩:=H.call;refine aQ (C:=V0) (aS:=λ_=>[]) (Al (Hu _ v k a b c w K) ?_);refine S.al λo e S=>S.al λp q S=>⟨rfl,S.cH 1 rfl rfl ?_⟩;unfold Gl iZ at kk;refine ab (λd=>⟨trivial,S.res (j:=0) rfl 0 1 λf S=>?_⟩) (λd=>?_)
 ·rw[av (by simpa using d),av (by simpa using d)] at kk;exact kk f ⟨A,W,J (S.tail.tail)⟩
 ·have d: ¬ a>=4:=by simpa using d
  rw[ao d,ao d] at kk;refine⟨rfl,rfl,aj.of _ (S.fL (X:=X) (A:=A) (g:=h.g) (by simp) (n:=3) rfl) ⟨rfl,S.cH 1 rfl rfl ?_⟩⟩;rw[bP ⟨i,by omega⟩];exact S.Zy 5 rfl W.pt v a λf S=>⟨trivial,S.res (j:=0) rfl 0 _ λl S=>kk l ⟨A,⟨W.jl,W.mp,W.gl,W.pt.eO v a,W.gk⟩,J (S.tail.tail)⟩⟩
theorem Vz (H:jm Q X D G w0 w h L) (v k a b c:Int) (kk: ∀e,jm Q X D G w0 e (Ox h v) L->K (Ow h v,0,()) e):
 aC AA 136 (.el (.agg iN)) [ag (ae X.hb),aa v,.agg ⟨gg k a b c⟩] w K:=by
 obtain⟨A,W,H⟩:=H;obtain⟨o,S,J⟩:=H.call;refine aQ (C:=V0) (aS:=λ_=>[]) (Al (L8 _ v k a b c w K) ?_);refine S.al λp e S=>S.al λq s S=>⟨rfl,rfl,aj.of _ (S.fL (X:=X) (A:=A) (g:=h.g) (by simp) (n:=3) rfl) ?_⟩;unfold Ow Ox at kk;have l:=λh'=>RG (ps:=h.po) (g:=v) h';refine S.abp 5 rfl W.pt.tookS v λt S=>?_;obtain⟨r,m⟩: ∃r,r=Po.gP 4 h.po v:=⟨_,rfl⟩;have f:=W.pt.gP v;rw[<-m] at l kk S f ⊢;refine ab (λd=>S.res (j:=0) rfl 0 0 λi S=>?_) (λd=>?_)
 ·have d: ¬ r.1.2=true:=by simpa using d
  rw[ao d] at kk;exact kk i ⟨A,⟨W.jl,W.mp,W.gl,f,W.gk⟩,J (S.tail.tail)⟩
 ·have d:r.1.2=true:=by simpa using d
  rw[av d] at kk;have:=l d;rw[ax (by omega) (by omega),cY (by omega)];exact S.res (j:=0) rfl _ 0 λi S=>kk i ⟨A,⟨W.jl,W.mp,W.gl,f,W.gk⟩,J (S.tail.tail)⟩
theorem VA (H:jm Q X D G w0 w h L) (v k:Int) {a:Int} (b c:Int) (i:0<=a) (kk: ∀f,jm Q X D G w0 f (l8 h v a) L->K ((Iw h v a).1,(Iw h v a).2,()) f):
 aC AA 133 (.el (.agg iN)) [ag (ae X.hb),aa v,.agg ⟨gg k a b c⟩] w K:=by
 obtain⟨A,W,H⟩:=H;obtain⟨o,S,J⟩:=H.call;refine aQ (C:=V0) (aS:=λ_=>[]) (Al (L5 _ v k a b c w K) ?_);refine S.al λp f S=>S.al λq r S=>⟨rfl,S.cH 1 rfl rfl ⟨_,za S (X:=X) (A:=A) (g:=h.g) (by simp) v i,?_⟩⟩;unfold Iw l8 at kk;refine ab (λd=>⟨trivial,S.res (j:=0) rfl 0 _ λl S=>?_⟩) (λd=>?_)
 ·have d: ¬ c_ h.g v a=0:=by simpa using d
  rw[ao d,ao d] at kk;exact kk l ⟨A,W,J (S.tail.tail)⟩
 ·have d:c_ h.g v a=0:=by simpa using d
  rw[av d,av d] at kk;have s:=vg (g:=h.g) (v:=v) (a:=a) (by rw[d];decide);refine⟨rfl,rfl,aj.of _ (S.fL (X:=X) (A:=A) (g:=h.g) (by simp) (n:=3) rfl) ⟨rfl,S.cH 1 rfl rfl ?_⟩⟩;rw[bP ⟨i,by omega⟩];have t:=RH h.po v a;refine S.abn 5 rfl W.pt.tookS v a λl S=>?_;have e:aG .u64 (Po.iV 4 h.po v a).1.1=(Po.iV 4 h.po v a).1.1:=cY (by omega);dsimp only;rw[e];exact S.res (j:=0) rfl _ _ λm S=>kk m ⟨A,⟨W.jl,W.mp,W.gl,W.pt.iV v a,W.gk⟩,J (S.tail.tail)⟩
theorem RJ (ps:List Po.PT) (g r i:Int):0<=(Po.ib 4 ps g r i).1.1/\(Po.ib 4 ps g r i).1.1<4:=by
 unfold Po.ib;have z:(0:Int)<=0/\(0:Int)<4:=by decide
 split
 ·rename_i a;split
  ·exact z
  ·split
   ·exact z
   ·split
    ·exact z
    ·split
     ·exact z
     ·rename_i b;have:=(Po.eV.1 (Po.mW (Po.pV.1 a).1 b).1).2;exact this
 ·exact z
theorem VB (H:jm Q X D G w0 w h L) (v k:Int) {a b:Int} (c:Int) (l:0<=a) (hb:0<=b) (kk: ∀i,jm Q X D G w0 i (l9 h v a b) L->K ((Ix h v a b).1,(Ix h v a b).2,()) i):
 aC AA 134 (.el (.agg iN)) [ag (ae X.hb),aa v,.agg ⟨gg k a b c⟩] w K:=by
 obtain⟨A,W,H⟩:=H;obtain⟨o,S,J⟩:=H.call;refine aQ (C:=V0) (aS:=λ_=>[]) (Al (L6 _ v k a b c w K) ?_);refine S.al λp i S=>S.al λq r S=>⟨rfl,S.cH 1 rfl rfl ⟨_,za S (X:=X) (A:=A) (g:=h.g) (by simp) v l,λ_=>rfl,S.cH 1 rfl rfl ?_⟩⟩;unfold Ix l9 at kk;refine ab (λd=>⟨trivial,S.res (j:=0) rfl 0 _ λf S=>?_⟩) (λd=>?_)
 ·have d:c_ h.g v a=1\/b>=4:=by simpa using d
  rw[av d,av d] at kk;exact kk f ⟨A,W,J (S.tail.tail)⟩
 have d: ¬ (c_ h.g v a=1\/b>=4):=by
  intro e;have:(c_ h.g v a==1||decide (b>=4))=true:=by simpa using e
  rw[this] at d;cases d
 rw[ao d,ao d] at kk;refine ab (λd=>⟨trivial,S.res (j:=0) rfl 0 _ λf S=>?_⟩) (λd2=>?_)
 ·have d: ¬ c_ h.g v a=0:=by simpa using d
  rw[ao d,ao d] at kk;exact kk f ⟨A,W,J (S.tail.tail)⟩
 ·have d2:c_ h.g v a=0:=by simpa using d2
  rw[av d2,av d2] at kk;have s:=vg (g:=h.g) (v:=v) (a:=a) (by rw[d2];decide);have t:b<4:=by omega
  refine⟨rfl,rfl,aj.of _ (S.fL (X:=X) (A:=A) (g:=h.g) (by simp) (n:=3) rfl) ⟨rfl,S.cH 1 rfl rfl ⟨rfl,S.cH 1 rfl rfl ?_⟩⟩⟩;rw[bP ⟨l,by omega⟩,bP ⟨hb,by omega⟩];have u:=RJ h.po v a b;refine S.pbind 5 rfl W.pt.tookS v a b λf S=>?_;have e:aG .u64 (Po.ib 4 h.po v a b).1.1=(Po.ib 4 h.po v a b).1.1:=cY (by omega);dsimp only;rw[e];exact S.res (j:=0) rfl _ _ λm S=>kk m ⟨A,⟨W.jl,W.mp,W.gl,W.pt.ib v a b,W.gk⟩,J (S.tail.tail)⟩
end
theorem Es (gs:List GT) (o q t:Int) (b:Bool):(jY gs o q t b).length=gs.length:=by
 unfold jY;split
 ·rw[Df]
 ·rfl
theorem RK {gs:List GT} (b:gs.length=16) (o q t:Int):0<=kz gs o q t/\kz gs o q t<16:=by
 have z:(0:Int)<=0/\(0:Int)<16:=by decide
 unfold kz;split
 ·cases a:de gs e8 gs.length with
  |nil=>exact z
  |cons x l=>
   obtain⟨i,hi, _,e⟩:=qd.1 (by rw[a];exact Ay:x∈de gs e8 gs.length);show 0<=x/\x<16;omega
 ·exact z
def h_ (h:HS) (v p:Int):Bool:=(gq h.g v p).2.1
def rR (h:HS) (v a b c:Int):Int:=
 if a>=65536 then 2 else if c_ h.g v b=1\/c>1 then 1 else if(fX h.g h.s v a).2.2.1≠0\/c_ h.g v b≠0 then 4 else if h_ h v a=true then 7 else 0
def yJ (h:HS) (v a b c:Int):Int×Int:=if rR h v a b c=0 then(kz h.gr v a b,lA h.gr v a b) else(0,rR h v a b c)
def iC (h:HS) (v a b c:Int):HS:=if rR h v a b c=0 then yw h (jY h.gr v a b (c==1)) else h
section
variable {Q:Sys} {X:HX} {D G:List Nat} {w0 w:A2} {h:HS} {L:List (Nat×List AC)} {K:RS->A2->Prop}
theorem bY {A:Nat->GA} (W:Dg A h) (T:List (Nat×List AC)): ∀i v,h.g i=some v-> ∀x∈gR Q A i v,x∈T++dX Q X A h (bh Q A h.g (AN 17)++L):=λi v hv x a=>by
 have:=W.jl hv;exact Av _ (B1 _ (B1 _ (B1 _ (B1 _ (Bs _ (Bl (CX.2 (by omega)) hv x a))))))
theorem fI {A:Nat->GA} (W:Dg A h): ∀i v,h.g i=some v->((A i).bm,Obj.map ⟨(A i).es⟩ (A i).ck)∈dg A h.g (AN 17):=λi v hv=>by
 have:=W.jl hv;exact Mb (CX.2 (by omega)) hv
theorem RM (H:jm Q X D G w0 w h L) (v k:Int) {a b c:Int} (z:0<=a) (hb:0<=b) (hc:0<=c) (kk: ∀l,jm Q X D G w0 l (iC h v a b c) L->K ((yJ h v a b c).1,(yJ h v a b c).2,()) l):
 aC AA 129 (.el (.agg iN)) [ag (ae X.hb),aa v,.agg ⟨gg k a b c⟩] w K:=by
 obtain⟨A,W,H⟩:=H;obtain⟨B,S,J⟩:=H.call;refine aQ (C:=V0) (aS:=λ_=>[]) (Al (Ht _ v k a b c w K) ?_);refine S.al λF l S=>S.al λI M S=>⟨rfl,S.cH 1 rfl rfl ⟨_,za S (X:=X) (A:=A) (g:=h.g) (by simp) v hb,rfl,S.cH 1 rfl rfl ?_⟩⟩;have m:rR h v a b c≠0-> ∀{l},jm Q X D G w0 l h L->K (0,rR h v a b c,()) l:=λr l H=>by
  have o:yJ h v a b c=(0,rR h v a b c):=ao r;have p:iC h v a b c=h:=ao r;rw[o,p] at kk;exact kk l H
 have f:rR h v a b c=if a>=65536 then 2 else if c_ h.g v b=1\/c>1 then 1 else if(fX h.g h.s v a).2.2.1≠0\/c_ h.g v b≠0 then 4 else if h_ h v a=true then 7 else 0:=rfl;refine ab (λd=>⟨trivial,S.res (j:=0) rfl 0 _ λt S=>?_⟩) (λd=>⟨λ_=>rfl,S.cH 1 rfl rfl ?_⟩)
 ·rw[av (by simpa using d)] at f;rw[f] at m;exact m (by decide) ⟨A,W,J S.tail.tail⟩
 have d: ¬ a>=65536:=by simpa using d
 rw[ao d] at f;have q:aG .i64 a=a:=bP ⟨z,by omega⟩;refine ab (λd=>⟨trivial,S.res (j:=0) rfl 0 _ λt S=>?_⟩) (λd2=>⟨rfl,S.cH 1 rfl rfl ?_⟩)
 ·rw[av (by simpa using d)] at f;rw[f] at m;exact m (by decide) ⟨A,W,J S.tail.tail⟩
 have d2: ¬ (c_ h.g v b=1\/c>1):=by
  intro e;have:(c_ h.g v b==1||decide (c>1))=true:=by simpa using e
  rw[this] at d2;cases d2
 rw[ao d2] at f;rw[q];refine vf S (X:=X) (A:=A) (g:=h.g) (by simp) (bY W [_, _]) v a λt S=>?_;refine ab (λd=>⟨trivial,S.res (j:=0) rfl 0 _ λu S=>?_⟩) (λd3=>⟨rfl,S.cH 1 rfl rfl ?_⟩)
 ·rw[av (by simpa using d)] at f;rw[f] at m;exact m (by decide) ⟨A,W,J S.tail.tail⟩
 have d3: ¬ ((fX h.g h.s v a).2.2.1≠0\/c_ h.g v b≠0):=by
  intro e;have:((fX h.g h.s v a).2.2.1 != 0||c_ h.g v b != 0)=true:=by simpa using e
  rw[this] at d3;cases d3
 rw[ao d3] at f;rw[q];refine⟨gq h.g v a,pz (J S) (X:=X) (A:=A) (g:=h.g) (by simp) (bY W [_, _]) (fI W) (λi x E=>W.mp E) v a,?_⟩;refine ab (λd=>⟨trivial,S.res (j:=0) rfl 0 _ λu S=>?_⟩) (λd4=>?_)
 ·rw[av (show h_ h v a=true from d)] at f;rw[f] at m;exact m (by decide) ⟨A,W,J S.tail.tail⟩
 rw[ao (show ¬ h_ h v a=true by unfold h_;rw[d4];decide)] at f;have o:yJ h v a b c=(kz h.gr v a b,lA h.gr v a b):=av f;have p:iC h v a b c=yw h (jY h.gr v a b (c==1)):=av f;rw[o,p] at kk;have N:=vg (g:=h.g) (v:=v) (a:=b) (λe=>d2 (.inl e));refine⟨rfl,rfl,aj.of _ (S.fL (X:=X) (A:=A) (g:=h.g) (by simp) (n:=2) rfl) ⟨rfl,S.cH 1 rfl rfl ⟨rfl,S.cH 1 rfl rfl ⟨rfl,S.cH 1 rfl rfl ?_⟩⟩⟩⟩;rw[q,bP ⟨hb,by omega⟩];have O:=RK W.gl v a b;refine S.Zx 3 4 rfl rfl (by rw[W.gl];decide) (by rw[W.gl];decide) v a b (c==1) λu S=>?_;dsimp only;rw[cY (by omega)];refine S.res (j:=0) rfl _ _ λy S=>kk y ⟨A,⟨W.jl,W.mp,(Es _ _ _ _ _).trans W.gl,W.pt,W.gk.off _ _ _ _⟩,J ?_⟩;have S:=S.tail.tail;have e:(jY h.gr v a b (c==1)).length=h.gr.length:=Es _ _ _ _ _;show bj Q [] B w y h.s ((X.hb,fV Q X A h.g)::(X.gb,mE X.uC (jY h.gr v a b (c==1)).length X.c):: _);rw[e];exact S
end
def iW (h:HS) (v a t:Int):Int×Int:=if a>=1048576 then(0,2) else(aL .i64 (fy .i64 16 (mG h.s.1 (aT h.g v) (a / 16) t).1) (a % 16),(mG h.s.1 (aT h.g v) (a / 16) t).2.2.2.1)
def Iy (h:HS) (v a:Int):Int×Int:=if(iW h v a 1).2≠0 then(0,(iW h v a 1).2) else(dv h.s.1 (iW h v a 1).1,BN h.s.1 (iW h v a 1).1)
def rS (h:HS) (v a:Int):Int:=if(iW h v a 2).2≠0 then(iW h v a 2).2 else BN h.s.1 (iW h v a 2).1
def kr (h:HS) (v a b:Int):HS:=if(iW h v a 2).2≠0 then h else bE h (dO h.s.1 (iW h v a 2).1 b,h.s.2)
def dL (s:WD):Nat->WD×Nat
 |0=>(s,0)
 |n+1=>(iG (dL s n).1 (n:Int),(dL s n).2+if j7 (dL s n).1 (n:Int)=0 then 1 else 0)
theorem Mg (s:WD) (f:Int):(iG s f).1=s.1/\(iG s f).2.length=s.2.length:=by
 unfold iG;split
 ·exact⟨rfl,jc _ _ _⟩
 ·exact⟨rfl,rfl⟩
theorem Bo (s:WD): ∀n,(dL s n).1.1=s.1/\(dL s n).1.2.length=s.2.length
 |0=>⟨rfl,rfl⟩
 |n+1=>by
  have h:=Mg (dL s n).1 (n:Int);have a:=Bo s n;exact⟨h.1.trans a.1,h.2.trans a.2⟩
theorem Bp (s:WD): ∀n,(dL s n).2<=n
 |0=>E5 _
 |n+1=>by
  have:=Bp s n;show(dL s n).2+ _<=n+1;split<;>omega
theorem abr {a:Int} (h:0<=a/\a<1048576):aG .i64 (wT .u64 a 16)=a / 16:=by
 have e:wT .u64 a 16=a / 16:=by
  show aG .u64 (a.tdiv 16)= _;rw[Int.tdiv_eq_ediv_of_nonneg h.1];exact cY (by omega)
 rw[e];exact bP (by omega)
theorem abt {a:Int} (h:0<=a):aG .i64 (f_ a 16)=a % 16:=by
 have e:f_ a 16=a % 16:=by
  unfold f_;exact Int.tmod_eq_emod_of_nonneg h
 rw[e];exact bP (by omega)
section
variable {Q:Sys} {X:HX} {D G:List Nat} {w0 w:A2} {h:HS} {L:List (Nat×List AC)} {K:RS->A2->Prop}
theorem Et {f:List Nat} {j:A2} {A:Nat->GA} {s:WD} {L0:List (Nat×List AC)} (S:bj Q [] f j w s L0) (m:s=h.s) (k:(X.hb,fV Q X A h.g)∈L0) (o: ∀i v,h.g i=some v-> ∀x∈gR Q A i v,x∈L0) (v:Int) {a:Int} (l:0<=a) (t:Int) {K:Int×Int×Unit->A2->Prop}
 (kk: ∀c,bj Q [] f j c s L0->K ((iW h v a t).1,(iW h v a t).2,()) c):
 aA AA 178 (.bA [.one (.int .i64),.one (.int .i64)]) [ag (ae X.hb),aa v,ay a,aa t] w K:=by
 subst m;refine S.go λw1 S=>ai (C:=V0) (aS:=λ_=>[]) (Al (Rw _ v a t w1 K) ?_);unfold iW at kk;refine ab (λd=>S.en λc S=>?_) (λd=>?_)
 ·rw[av (by simpa using d)] at kk;exact kk c S
 ·have d: ¬ a>=1048576:=by simpa using d
  rw[ao d] at kk;rw[abr ⟨l,by omega⟩,abt l];refine⟨rfl,rfl,aj.of _ (S.fL (X:=X) (A:=A) (g:=h.g) k (n:=0) rfl) ⟨_,Jf S k o v,?_,?_⟩⟩
  ·exact S.walk _ _ _ λc S=>S.al λb p S=>S.fg 0 rfl rfl rfl λq S=>⟨rfl,S.cH 0 rfl rfl ⟨rfl,S.cH 0 rfl rfl (S.en λe S=>kk e S.tail)⟩⟩
  ·exact S.al λb p S=>S.walk _ _ _ λc S=>S.fg 0 rfl rfl rfl λq S=>⟨rfl,S.cH 0 rfl rfl ⟨rfl,S.cH 0 rfl rfl (S.en λe S=>kk e S.tail)⟩⟩
theorem VC (H:jm Q X D G w0 w h L) (v k:Int) {a:Int} (b c:Int) (i:0<=a) (kk: ∀e,jm Q X D G w0 e h L->K ((Iy h v a).1,(Iy h v a).2,()) e):
 aC AA 127 (.el (.agg iN)) [ag (ae X.hb),aa v,.agg ⟨gg k a b c⟩] w K:=by
 obtain⟨A,W,H⟩:=H;obtain⟨m,S,J⟩:=H.call;refine aQ (C:=V0) (aS:=λ_=>[]) (Al (LZ _ v k a b c w K) ?_);refine S.al λo e S=>S.al λp q S=>⟨rfl,S.cH 1 rfl rfl (Et (h:=h) (A:=A) S rfl (by simp) (bY W [_, _]) v i 1 λr S=>?_)⟩;unfold Iy at kk;refine ab (λd=>⟨trivial,S.res (j:=0) rfl 0 _ λf S=>?_⟩) (λd=>?_)
 ·rw[av (by simpa using d)] at kk;exact kk f ⟨A,W,J S.tail.tail⟩
 ·rw[ao (by simpa using d)] at kk;exact⟨rfl,rfl,aj.of _ (S.fL (X:=X) (A:=A) (g:=h.g) (by simp) (n:=0) rfl) (S.load _ λf S=>S.res (j:=0) rfl _ _ λl S=>kk l ⟨A,W,J S.tail.tail⟩)⟩
theorem RN (H:jm Q X D G w0 w h L) (v k:Int) {a b:Int} (c:Int) (i:0<=a) (hb:0<=b/\b<18446744073709551616) (kk: ∀e,jm Q X D G w0 e (kr h v a b) L->K (0,rS h v a,()) e):
 aC AA 128 (.el (.agg iN)) [ag (ae X.hb),aa v,.agg ⟨gg k a b c⟩] w K:=by
 obtain⟨A,W,H⟩:=H;obtain⟨m,S,J⟩:=H.call;refine aQ (C:=V0) (aS:=λ_=>[]) (Al (Hs _ v k a b c w K) ?_);refine S.al λo e S=>S.al λp q S=>⟨rfl,S.cH 1 rfl rfl (Et (h:=h) (A:=A) S rfl (by simp) (bY W [_, _]) v i 2 λr S=>?_)⟩;unfold kr rS at kk;refine ab (λd=>⟨trivial,S.res (j:=0) rfl 0 _ λf S=>?_⟩) (λd=>?_)
 ·rw[av (by simpa using d),av (by simpa using d)] at kk;exact kk f ⟨A,W,J S.tail.tail⟩
 ·rw[ao (by simpa using d),ao (by simpa using d)] at kk;exact⟨rfl,rfl,aj.of _ (S.fL (X:=X) (A:=A) (g:=h.g) (by simp) (n:=0) rfl) ⟨rfl,S.cH 1 rfl rfl (S.store _ b hb λf S=>⟨trivial,S.res (j:=0) rfl 0 _ λl S=>kk l ⟨A,⟨W.jl,W.mp,W.gl,W.pt,W.gk⟩,J S.tail.tail⟩⟩)⟩⟩
theorem RO (H:jm Q X D G w0 w h L) (v k a b c:Int) (kk: ∀e,jm Q X D G w0 e (bE h (dL h.s h.s.2.length).1) L->K (((dL h.s h.s.2.length).2:Int),0,()) e):
 aC AA 123 (.el (.agg iN)) [ag (ae X.hb),aa v,.agg ⟨gg k a b c⟩] w K:=by
 obtain⟨A,W,H⟩:=H;obtain⟨r,S,J⟩:=H.call;refine aQ (C:=V0) (aS:=pN) (Al (Ho _ v k a b c w K) ?_);have N:=S.le;refine S.al λt e S=>S.al λz O S=>⟨rfl,rfl,aj.of _ (S.fL (X:=X) (A:=A) (g:=h.g) (by simp) (n:=1) rfl) ⟨_,S.Ys,?_⟩⟩;refine⟨λn u w'=> ∃m:Nat,u.1=((dL h.s m).2:Int)/\u.2.1=(m:Int)/\n+m=h.s.2.length/\bj Q [] r w w' (dL h.s m).1 ((z,[ay 0,aa 0])::(t,gg k a b c)::dX Q X A h (bh Q A h.g (AN 17)++L)),⟨h.s.2.length,λB E=>⟨0,rfl,rfl,rfl,S.ext E⟩⟩,?_⟩;clear S;rintro n ⟨x,y,u⟩ B ⟨m,l,o,P,S⟩;dsimp only at l o ⊢;subst l;subst o;have hc:=Bp h.s m;refine ab (λf=>?_) (λf=>?_)
 ·have p:m<h.s.2.length:=by simpa using f
  refine Er S (X:=X) (A:=A) (g:=h.g) (by simp) (m:Int) λq S=>?_;have F:aL .i64 (m:Int) 1=((m+1:Nat):Int):=by rw[ax (by omega) (by omega)];omega
  have I:aL .i64 ((dL h.s m).2:Int) 1=(((dL h.s m).2+1:Nat):Int):=by rw[ax (by omega) (by omega)];omega
  rw[F,I];refine ab (λd=>λM i=>⟨n - 1,by omega,m+1,?_,rfl,by omega,S.ext i⟩) (λd=>λM i=>⟨n - 1,by omega,m+1,?_,rfl,by omega,S.ext i⟩)
  ·have d:j7 (dL h.s m).1 (m:Int)=0:=by simpa using d
   show _=(((dL h.s m).2+if j7 (dL h.s m).1 (m:Int)=0 then 1 else 0:Nat):Int);rw[av d]
  ·have d: ¬ j7 (dL h.s m).1 (m:Int)=0:=by simpa using d
   show _=(((dL h.s m).2+if j7 (dL h.s m).1 (m:Int)=0 then 1 else 0:Nat):Int);rw[ao d];rfl
 ·have p:m=h.s.2.length:=by
   have: ¬ m<h.s.2.length:=by simpa using f
   omega
  subst p;rw[cY (by omega)];exact S.res (j:=0) rfl _ 0 λq S=>kk q ⟨A,⟨W.jl,W.mp,W.gl,W.pt,W.gk⟩,J S.tail.tail⟩
end
theorem bL {g:Nat->Option GV} {v:Int} (a:aR g v=true): ∃x,g v.toNat=some x/\aT g v=x.root/\((v.toNat:Nat):Int)=v/\1<=v/\v<=16:=by
 obtain⟨hv,x,b⟩:=cj.1 a;refine⟨x,b,?_,by omega,hv.1,hv.2⟩;unfold aT;rw[av a,b]
theorem bj.sZ {Q:Sys} {X:HX} {D G:List Nat} {w0 w:A2} {s:WD} {L0:List (Nat×List AC)} {A:Nat->GA} {g:Nat->Option GV} (S:bj Q D G w0 w s L0) (d:(X.hb,fV Q X A g)∈L0) (b: ∀i v,g i=some v-> ∀x∈gR Q A i v,x∈L0) {v:Int} (e:aR g v=true):
 cQ w (ad (ad (ae X.hb) 4) (v.toNat*1)) (.one .ptr) (some ⟨(A v.toNat).bg,0,none⟩)/\cQ w (ad (some ⟨(A v.toNat).bg,0,none⟩) 0) (.one .ptr) (some ⟨(A v.toNat).bt,0,none⟩)/\cQ w (ad (some ⟨(A v.toNat).bg,0,none⟩) 1) (.one .map) (some (A v.toNat).bm)/\
  ∃j:Nat,L0[j]? =some ((A v.toNat).bt,oH Q v (aT g v) false):=by
 obtain⟨x,a,f,hv,h1,h⟩:=bL e;have hc:=S.vF d (v:=v) ⟨by omega,h⟩;have k:kQ A g v.toNat=some ⟨(A v.toNat).bg,0,none⟩:=by unfold kQ;rw[a]
 rw[k] at hc;obtain⟨j1,c⟩:=B5 (b _ _ a _ Ay);obtain⟨l,m⟩:=B5 (b _ _ a _ (B1 _ Ay));refine⟨hc,?_,?_,l,?_⟩
 ·rw[aY];exact dU (S.get c) rfl
 ·rw[aY];exact dU (S.get c) rfl
 ·rw[f, <-hv];exact m
def oX (h:HS) (v a b:Int):Int:=
 if a>=65536 then 2 else if b<1\/b>7 then 7 else if h_ h v a=true/\wU .u64 b 2>0/\(wZ h.gr (gq h.g v a).1).2.2.2.1=false then 7 else FR h.s v (aT h.g v) false a b
def j8 (h:HS) (v a b:Int):HS:=
 if a>=65536 then h else if b<1\/b>7 then h else if h_ h v a=true/\wU .u64 b 2>0/\(wZ h.gr (gq h.g v a).1).2.2.2.1=false then h else bE h (rE h.s v (aT h.g v) false a b)
section
variable {Q:Sys} {X:HX} {D G:List Nat} {w0 w:A2} {h:HS} {L:List (Nat×List AC)} {K:RS->A2->Prop}
theorem Hx (H:jm Q X D G w0 w h L) {v:Int} (m:aR h.g v=true) (k:Int) {a b:Int} (c:Int) (E:0<=a) (hb:0<=b) (kk: ∀f,jm Q X D G w0 f (j8 h v a b) L->K (0,oX h v a b,()) f):
 aC AA 126 (.el (.agg iN)) [ag (ae X.hb),aa v,.agg ⟨gg k a b c⟩] w K:=by
 obtain⟨A,W,H⟩:=H;obtain⟨F,S,J⟩:=H.call;obtain⟨x,o,O,hv,P,R⟩:=bL m;refine aQ (C:=V0) (aS:=λ_=>[]) (Al (CV _ v k a b c w K) ?_);refine S.al λI f S=>S.al λt U S=>⟨rfl,S.cH 1 rfl rfl ?_⟩;unfold oX j8 at kk;refine ab (λd=>⟨trivial,S.res (j:=0) rfl 0 _ λp S=>?_⟩) (λd=>⟨rfl,S.cH 1 rfl rfl ⟨λ_=>rfl,S.cH 1 rfl rfl ?_⟩⟩)
 ·rw[av (by simpa using d),av (by simpa using d)] at kk;exact kk p ⟨A,W,J S.tail.tail⟩
 have d: ¬ a>=65536:=by simpa using d
 rw[ao d,ao d] at kk;refine ab (λd=>⟨trivial,S.res (j:=0) rfl 0 _ λp S=>?_⟩) (λd2=>?_)
 ·have d:b<1\/b>7:=by simpa using d
  rw[av d,av d] at kk;exact kk p ⟨A,W,J S.tail.tail⟩
 have d2: ¬ (b<1\/b>7):=by
  intro e;have:(decide (b<1)||decide (b>7))=true:=by simpa using e
  rw[this] at d2;cases d2
 rw[ao d2,ao d2] at kk;have u:aG .i64 a=a:=bP ⟨E,by omega⟩;have eb:aG .i64 b=b:=bP ⟨hb,by omega⟩;have fin: ∀{r:A2} {T:List (Nat×List AC)} {q:Nat},bj Q [] F w r h.s (T++((t,[ay 0,aa 0])::(I,gg k a b c)::dX Q X A h (bh Q A h.g (AN 17)++L)))->T.length=q->(¬ (h_ h v a=true/\wU .u64 b 2>0/\(wZ h.gr (gq h.g v a).1).2.2.2.1=false))->
  aA AA 177 (.el (.one (.int .i64))) [ag (some ⟨(A v.toNat).bt,0,none⟩),aa a,aa b] r λ(x:Int) (f:A2)=>True/\az f (ae t) [ay 0,aa x] λ(f:A2)=>au f λ(w1:A2)=>aj w1 none (ae t) (.agg iN) λ(x:Int×Int×Unit)=>K (x.1,x.2.1,()) w1:=by
  intro r T q S V z;rw[ao z,ao z] at kk;obtain⟨_, _, _,j,M⟩:=S.sZ (X:=X) (A:=A) (g:=h.g) (by simp) (λi v hv x o=>Av T (bY W [_, _] i v hv x o)) m;refine S.tj j M a b λB S=>⟨trivial,S.res (j:=T.length) (by rw[Fp (E5 _),Nat.sub_self];rfl) 0 _ λN S=>kk N ⟨A,⟨W.jl,W.mp,W.gl,W.pt,W.gk⟩,J ?_⟩⟩;rw[Hb _ _ (E5 _),Nat.sub_self] at S;have S:=S.sub (Fu T _);exact S.tail.tail
 refine⟨rfl,S.cH 1 rfl rfl ⟨gq h.g v a,by rw[u];exact pz (J S) (X:=X) (A:=A) (g:=h.g) (by simp) (bY W [_, _]) (fI W) (λi x o=>W.mp o) v a,λ_=>rfl,S.cH 1 rfl rfl (ab (λd3=>?_) (λd3=>?_))⟩⟩
 ·have d3:h_ h v a=true/\wU .u64 b 2>0:=by
   have:=d3;rw[FN,decide_eq_true_eq] at this;exact this
  refine⟨rfl,rfl,aj.of _ (S.fL (X:=X) (A:=A) (g:=h.g) (by simp) (n:=2) rfl) ⟨(wZ h.gr (gq h.g v a).1,(l6 h.gr (gq h.g v a).1).isSome,()),S.aat 3 4 rfl rfl (by rw[W.gl];decide) _,S.al λY p S=>S.fg 0 rfl rfl rfl λr S=>⟨rfl,S.cH 0 rfl rfl (ab (λd4=>⟨trivial,S.res (j:=1) rfl 0 _ λB S=>?_⟩) (λd4=>?_))⟩⟩⟩
  ·have d4:(wZ h.gr (gq h.g v a).1).2.2.2.1=false:=by simpa using d4
   rw[av ⟨d3.1,d3.2,d4⟩,av ⟨d3.1,d3.2,d4⟩] at kk;exact kk B ⟨A,W,J S.tail.tail.tail⟩
  ·have d4:(wZ h.gr (gq h.g v a).1).2.2.2.1=true:=by simpa using d4
   obtain⟨g1,y, _, _⟩:=S.sZ (X:=X) (A:=A) (g:=h.g) (by simp) (bY W [_, _, _]) m;exact⟨rfl,rfl,⟨rfl,by omega,by show v<((17:Nat):Int);omega⟩,aj.of _ g1 ⟨rfl,rfl,aj.of _ y ⟨rfl,S.cH 2 rfl rfl ⟨rfl,S.cH 2 rfl rfl (by
    rw[u,eb];exact fin (T:=[_]) S rfl (λl=>by rw[d4] at l;cases l.2.2))⟩⟩⟩⟩
 ·have d3: ¬ (h_ h v a=true/\wU .u64 b 2>0):=by
   intro e;have:((gq h.g v a).2.1&&decide (wU .u64 b 2>0))=true:=by rw[FN,decide_eq_true_eq];exact e
   rw[this] at d3;cases d3
  obtain⟨g1,y, _, _⟩:=S.sZ (X:=X) (A:=A) (g:=h.g) (by simp) (bY W [_, _]) m;exact⟨rfl,rfl,⟨rfl,by omega,by show v<((17:Nat):Int);omega⟩,aj.of _ g1 ⟨rfl,rfl,aj.of _ y ⟨rfl,S.cH 1 rfl rfl ⟨rfl,S.cH 1 rfl rfl (by
   rw[u,eb];exact fin (T:=[]) S rfl (λl=>d3 ⟨l.1,l.2.1⟩))⟩⟩⟩⟩
end
theorem Mh (s:WD) (r:Int) (gone:Bool) (p:Int):0<=(bu s r gone p).1/\(bu s r gone p).1<5000:=by
 have z:(0:Int)<=0/\(0:Int)<5000:=by decide
 unfold bu;split
 ·exact z
 ·split
  ·exact z
  ·split
   ·have h:=I5 (B (dv s.1 (dD s.1 r p).2.2.1)).toNat;have h:0<=(cR s.1 r p).2.2.2.1/\(cR s.1 r p).2.2.2.1<4096:=h;show 0<=qy p (dD s.1 r p) (cR s.1 r p)/\qy p (dD s.1 r p) (cR s.1 r p)<5000;unfold qy;split<;>omega
   ·exact z
theorem Eu (g:Nat->Option GV) (s:WD) (v p:Int):0<=(fX g s v p).1/\(fX g s v p).1<5000:=by
 have z:(0:Int)<=0/\(0:Int)<5000:=by decide
 unfold fX;split
 ·split
  ·exact Mh _ _ _ _
  ·exact z
 ·exact z
def xi (h:HS) (v a:Int):Int:=
 if a>=65536 then 2 else if(fX h.g h.s v a).2.2.1≠0 then(fX h.g h.s v a).2.2.1 else if h_ h v a=true then 7 else if(qt h.s.2 (fX h.g h.s v a).1).2.2.1>0 then 9 else 0
def B7 (h:HS) (v a:Int):Int×Int:=if xi h v a=0 then((fX h.g h.s v a).1,0) else(0,xi h v a)
def qB (h:HS) (v a:Int):HS:=if xi h v a=0 then bE h ((nj h.s v (aT h.g v) false a).1,dJ (nj h.s v (aT h.g v) false a).2 (fX h.g h.s v a).1 (aO 5 v)) else h
section
variable {Q:Sys} {X:HX} {D G:List Nat} {w0 w:A2} {h:HS} {L:List (Nat×List AC)} {K:RS->A2->Prop}
theorem Hy (H:jm Q X D G w0 w h L) {v:Int} (q:aR h.g v=true) (u:NK Q h.s) (y:0<=aT h.g v/\aT h.g v<4096) (k:Int) {a:Int} (b c:Int) (z:0<=a) (kk: ∀f,jm Q X D G w0 f (qB h v a) L->K ((B7 h v a).1,(B7 h v a).2,()) f):
 aC AA 125 (.el (.agg iN)) [ag (ae X.hb),aa v,.agg ⟨gg k a b c⟩] w K:=by
 obtain⟨A,W,H⟩:=H;obtain⟨N,S,J⟩:=H.call;obtain⟨x,r,O,hv,P,R⟩:=bL q;refine aQ (C:=V0) (aS:=λ_=>[]) (Al (CU _ v k a b c w K) ?_);have l:xi h v a≠0-> ∀{f},jm Q X D G w0 f h L->K (0,xi h v a,()) f:=λt f H=>by
  have m:B7 h v a=(0,xi h v a):=ao t;have o:qB h v a=h:=ao t;rw[m,o] at kk;exact kk f H
 have e:xi h v a=if a>=65536 then 2 else if(fX h.g h.s v a).2.2.1≠0 then(fX h.g h.s v a).2.2.1 else if h_ h v a=true then 7 else if(qt h.s.2 (fX h.g h.s v a).1).2.2.1>0 then 9 else 0:=rfl;refine S.al λT f S=>S.al λU V S=>⟨rfl,S.cH 1 rfl rfl ?_⟩;refine ab (λd=>⟨trivial,S.res (j:=0) rfl 0 _ λB S=>?_⟩) (λd=>⟨rfl,S.cH 1 rfl rfl ?_⟩)
 ·rw[av (by simpa using d)] at e;rw[e] at l;exact l (by decide) ⟨A,W,J S.tail.tail⟩
 have d: ¬ a>=65536:=by simpa using d
 rw[ao d] at e;have E:aG .i64 a=a:=bP ⟨z,by omega⟩;rw[E];refine vf S (X:=X) (A:=A) (g:=h.g) (by simp) (bY W [_, _]) v a λB S=>?_;have Y:=Eu h.g h.s v a;refine ab (λd=>⟨trivial,S.res (j:=0) rfl 0 _ λp S=>?_⟩) (λd2=>?_)
 ·have d:(fX h.g h.s v a).2.2.1≠0:=by simpa using d
  rw[av d] at e;rw[e] at l;exact l d ⟨A,W,J S.tail.tail⟩
 rw[ao (by simpa using d2)] at e;refine⟨gq h.g v a,pz (J S) (X:=X) (A:=A) (g:=h.g) (by simp) (bY W [_, _]) (fI W) (λi x r=>W.mp r) v a,?_⟩;refine ab (λd=>⟨trivial,S.res (j:=0) rfl 0 _ λp S=>?_⟩) (λd3=>?_)
 ·rw[av (show h_ h v a=true from d)] at e;rw[e] at l;exact l (by decide) ⟨A,W,J S.tail.tail⟩
 rw[ao (show ¬ h_ h v a=true by unfold h_;rw[d3];decide)] at e;refine⟨rfl,rfl,aj.of _ (S.fL (X:=X) (A:=A) (g:=h.g) (by simp) (n:=1) rfl) ⟨(qt h.s.2 (fX h.g h.s v a).1,BP h.s.2 (fX h.g h.s v a).1,()),S.ofq _,S.al λZ p S=>S.fg 0 rfl rfl rfl λw6 S=>⟨rfl,S.cH 0 rfl rfl ?_⟩⟩⟩;refine ab (λd=>⟨trivial,S.res (j:=1) rfl 0 _ λp S=>?_⟩) (λd4=>?_)
 ·rw[av (by simpa using d)] at e;rw[e] at l;exact l (by decide) ⟨A,W,J S.tail.tail.tail⟩
 rw[ao (by simpa using d4)] at e;have m:B7 h v a=((fX h.g h.s v a).1,0):=av e;have o:qB h v a=bE h _:=av e;rw[m,o] at kk;obtain⟨g1,F, _,j,I⟩:=S.sZ (X:=X) (A:=A) (g:=h.g) (by simp) (bY W [_, _, _]) q;refine⟨rfl,rfl,⟨rfl,by omega,by show v<((17:Nat):Int);omega⟩,aj.of _ g1 ⟨rfl,rfl,aj.of _ F (S.DI u j I y a λw7 S=>⟨rfl,rfl,aj.of _ (S.fL (X:=X) (A:=A) (g:=h.g) (by simp) (n:=1) rfl) (S.TO _ 5 v λw8 S=>?_)⟩)⟩⟩;rw[cY (by omega)];exact S.res (j:=1) rfl _ 0 λM S=>kk M ⟨A,⟨W.jl,W.mp,W.gl,W.pt,W.gk⟩,J S.tail.tail.tail⟩
end
theorem Hz {ds:List DT} (b:ds.length<=4096) (y o:Int):0<=ff ds y o/\ff ds y o<4096:=by
 have z:(0:Int)<=0/\(0:Int)<4096:=by decide
 unfold ff;split
 ·exact z
 ·rename_i n a;unfold iE at a;rw[JN] at a;obtain⟨h1, _⟩:=a;split
  ·exact⟨by omega,by omega⟩
  ·exact z
def iA (h:HS) (v:Int):WD:=(h.s.1,dF h.s.2 4 v)
def iO (h:HS) (v:Int):Int:=ff h.s.2 4 v
def qC (h:HS) (v a b:Int):WD:=jE (iA h v) v (aT h.g v) false a (iO h v) b
def lj (h:HS) (v a b:Int):Int:=
 if a>=65536 then 2 else if b<1\/b>7 then 7 else if dS h.s.2 4 v≠0 then dS h.s.2 4 v else kl (iA h v) (aT h.g v) false a (iO h v) b
def rH (h:HS) (v a b:Int):Int×Int:=if lj h v a b=0 then(iO h v,0) else(0,lj h v a b)
def jq (h:HS) (v a b:Int):HS:=
 if a>=65536 then h else if b<1\/b>7 then h else if dS h.s.2 4 v≠0 then bE h (iA h v)
 else if kl (iA h v) (aT h.g v) false a (iO h v) b≠0 then bE h ((qC h v a b).1,dJ (qC h v a b).2 (iO h v) (aO 0 0))
 else bE h (eZ (qC h v a b).1 (iO h v) (λ_=>0) 16,(qC h v a b).2)
section
variable {Q:Sys} {X:HX} {D G:List Nat} {w0 w:A2} {h:HS} {L:List (Nat×List AC)} {K:RS->A2->Prop}
theorem Mi (H:jm Q X D G w0 w h L) {v:Int} (B:aR h.g v=true) (k:Int) {a b:Int} (c:Int) (V:0<=a) (hb:0<=b) (kk: ∀l,jm Q X D G w0 l (jq h v a b) L->K ((rH h v a b).1,(rH h v a b).2,()) l):
 aC AA 124 (.el (.agg iN)) [ag (ae X.hb),aa v,.agg ⟨gg k a b c⟩] w K:=by
 obtain⟨A,W,H⟩:=H;obtain⟨E,S,J⟩:=H.call;obtain⟨x,hx,n8,hv,uL,rl⟩:=bL B;refine aQ (C:=V0) (aS:=og) (Al (E9 _ v k a b c w K) ?_);have I:=Hz S.le 4 v;have wf: ∀s',Dg A (bE h s'):=λs'=>⟨W.jl,W.mp,W.gl,W.pt,W.gk⟩;have p: ∀e,e≠0->lj h v a b=e->rH h v a b=(0,e):=λe Y h1=>by
  unfold rH;rw[ao (by rw[h1];exact Y),h1]
 refine S.al λM l S=>S.al λN w3 S=>⟨rfl,S.cH 1 rfl rfl ?_⟩;refine ab (λd=>⟨trivial,S.res (j:=0) rfl 0 _ λq S=>?_⟩) (λd=>⟨rfl,S.cH 1 rfl rfl ⟨λ_=>rfl,S.cH 1 rfl rfl ?_⟩⟩)
 ·have d:a>=65536:=by simpa using d
  have f:jq h v a b=h:=av d;rw[p 2 (by decide) (av d),f] at kk;exact kk q ⟨A,W,J S.tail.tail⟩
 have d: ¬ a>=65536:=by simpa using d
 have Z:aG .i64 a=a:=bP ⟨V,by omega⟩;refine ab (λd2=>⟨trivial,S.res (j:=0) rfl 0 _ λq S=>?_⟩) (λd2=>⟨rfl,rfl,?_⟩)
 ·have d2:b<1\/b>7:=by simpa using d2
  have o:lj h v a b=7:=by unfold lj;rw[ao d,av d2]
  have f:jq h v a b=h:=by unfold jq;rw[ao d,av d2]
  rw[p 7 (by decide) o,f] at kk;exact kk q ⟨A,W,J S.tail.tail⟩
 have d2: ¬ (b<1\/b>7):=by
  intro e;have:(decide (b<1)||decide (b>7))=true:=by simpa using e
  rw[this] at d2;cases d2
 have eb:aG .i64 b=b:=bP ⟨hb,by omega⟩;refine aj.of _ (S.fL (X:=X) (A:=A) (g:=h.g) (by simp) (n:=1) rfl) (S.take 4 v λq S=>?_);refine ab (λd3=>⟨trivial,S.res (j:=0) rfl 0 _ λy S=>?_⟩) (λd3=>?_)
 ·have d3:dS h.s.2 4 v≠0:=by simpa using d3
  have o:lj h v a b=dS h.s.2 4 v:=by unfold lj;rw[ao d,ao d2,av d3]
  have f:jq h v a b=bE h (iA h v):=by unfold jq;rw[ao d,ao d2,av d3]
  rw[p _ d3 o,f] at kk;exact kk y ⟨A,wf _,J S.tail.tail⟩
 have d3: ¬ dS h.s.2 4 v≠0:=by
  intro e;have:(dS h.s.2 4 v != 0)=true:=by simpa using e
  rw[this] at d3;cases d3
 obtain⟨g1,O, _,j,P⟩:=S.sZ (X:=X) (A:=A) (g:=h.g) (by simp) (bY W [_, _]) B;refine⟨rfl,rfl,⟨rfl,by omega,by show v<((17:Nat):Int);omega⟩,aj.of _ g1 ⟨rfl,rfl,aj.of _ O ⟨rfl,S.cH 1 rfl rfl ⟨rfl,S.cH 1 rfl rfl ?_⟩⟩⟩⟩;rw[Z,eb];refine S.map j P a (iO h v) b λy S=>?_;have S:bj Q [] E w y (qC h v a b) ((N,[ay 0,aa 0])::(M,gg k a b c)::dX Q X A h (bh Q A h.g (AN 17)++L)):=S;have R:lj h v a b=kl (iA h v) (aT h.g v) false a (iO h v) b:=by unfold lj;rw[ao d,ao d2,ao d3]
 refine ab (λd4=>⟨rfl,rfl,?_⟩) (λd4=>?_)
 ·have d4: ¬ kl (h.s.1,dF h.s.2 4 v) (aT h.g v) false a (iO h v) b=0:=by simpa using d4
  have d4:kl (iA h v) (aT h.g v) false a (iO h v) b≠0:=d4;have f:jq h v a b=bE h ((qC h v a b).1,dJ (qC h v a b).2 (iO h v) (aO 0 0)):=by unfold jq;rw[ao d,ao d2,ao d3,av d4]
  rw[p _ d4 R,f] at kk;exact aj.of _ (S.fL (X:=X) (A:=A) (g:=h.g) (by simp) (n:=1) rfl) (S.FX (iO h v) λT S=>⟨trivial,S.res (j:=0) rfl 0 _ λr S=>kk r ⟨A,wf _,J S.tail.tail⟩⟩)
 have d4: ¬ kl (iA h v) (aT h.g v) false a (iO h v) b≠0:=by
  intro e;have:(kl (iA h v) (aT h.g v) false a (iO h v) b != 0)=true:=by simpa using e
  exact absurd (this.symm.trans d4) (by decide)
 have o:rH h v a b=(iO h v,0):=by
  unfold rH;rw[R,av (by omega)]
 have f:jq h v a b=bE h (eZ (qC h v a b).1 (iO h v) (λ_=>0) 16,(qC h v a b).2):=by unfold jq;rw[ao d,ao d2,ao d3,ao d4]
 rw[o,f] at kk;have I:0<=iO h v/\iO h v<4096:=I;obtain⟨F,t⟩: ∃F:Nat->List Int,F=λi=>eZ (qC h v a b).1 (iO h v) (λ_=>0) i:=⟨_,rfl⟩;have F0:F 0=(qC h v a b).1:=by rw[t];rfl
 have Fs: ∀i,F (i+1)=dO (F i) (16*iO h v+(i:Int)) 0:=λi=>by rw[t];rfl
 have kk: ∀l,jm Q X D G w0 l (bE h (F 16,(qC h v a b).2)) L->K (iO h v,0,()) l:=by rw[t];exact kk
 clear t;refine⟨λn u w'=> ∃m:Nat,u.1=(m:Int)/\n+m=16/\bj Q [] E w w' (F m,(qC h v a b).2) ((N,[ay 0,aa 0])::(M,gg k a b c)::dX Q X A h (bh Q A h.g (AN 17)++L)),⟨16,λT h6=>⟨0,rfl,rfl,by rw[F0];exact S.ext h6⟩⟩,?_⟩;clear S g1 O P;rintro n ⟨u,u2⟩ T ⟨m,e,hn,S⟩;dsimp only at e ⊢;subst e;have efr:(ff h.s.2 4 v)=iO h v:=rfl;rw[efr];refine ab (λz=>?_) (λz=>?_)
 ·have U:m<16:=by
   have:(m:Int)<16:=by simpa using z
   omega
  have e5:aL .i64 (fy .i64 16 (iO h v)) (m:Int)=16*iO h v+(m:Int):=by rw[eH (by omega) (by omega),ax (by omega) (by omega)]
  rw[e5];refine⟨rfl,rfl,aj.of _ (S.fL (X:=X) (A:=A) (g:=h.g) (by simp) (n:=0) rfl) (S.store _ 0 (by decide) λr S=>λw8 h8=>⟨n - 1,by omega,m+1,by rw[ax (by omega) (by omega)];omega,by omega,?_⟩)⟩;rw[Fs];exact S.ext h8
 ·have U:m=16:=by
   have: ¬ (m:Int)<16:=by simpa using z
   omega
  subst U;rw[cY (by omega)];exact S.res (j:=0) rfl _ 0 λr S=>kk r ⟨A,wf _,J S.tail.tail⟩
end
def dA (h:HS) (v p id f:Int):HS where
 s:=((nj h.s v (aT h.g v) false p).1,dJ (nj h.s v (aT h.g v) false p).2 f (g_ (-1)))
 g:=bq h.g v.toNat (match h.g v.toNat with|some x=>some {x with tk:=x.tk.filter λt=> !(t.1==p)}|none=>none)
 gr:=eM h.gr id v
 po:=h.po
theorem qj (gs:List GT) (i o:Int):(eM gs i o).length=gs.length:=by
 unfold eM;split
 ·rw[Df]
 ·rfl
theorem Pe {α:Type} {T L:List α} {k:Nat} {x:α} (h:L[k]? =some x):(T++L)[T.length+k]? =some x:=by
 rw[Fp (by omega),show T.length+k - T.length=k by omega];exact h
section
variable {Q:Sys} {X:HX} {D G:List Nat} {w0 w:A2} {h:HS} {L:List (Nat×List AC)}
theorem Ev {A:Nat->GA} (W:Dg A h) {T:List (Nat×List AC)} (H:SM Q D G w0 w h.s (T++dX Q X A h (bh Q A h.g (AN 17)++L)) (dg A h.g (AN 17))) {v p id f:Int} (o:aR h.g v=true) (U:NK Q h.s) (V:0<=aT h.g v/\aT h.g v<4096)
 {x:GV} (l:h.g v.toNat=some x) (Y:cm x.tk p=some (id,f)) {K:Unit->A2->Prop} (kk: ∀A' y,(∀i,(A' i).bg=(A i).bg)->Dg A' (dA h v p id f)->SM Q D G w0 y (dA h v p id f).s (T++dX Q X A' (dA h v p id f) (bh Q A' (dA h v p id f).g (AN 17)++L)) (dg A' (dA h v p id f).g (AN 17))->K () y):
 aA AA 167 (.bA []) [ag (ae X.hb),aa v,aa p] w K:=by
 obtain⟨x',I,n8,hv,uL,rl⟩:=bL o;rw[l] at I;cases I;refine H.go λw1 H=>ai (C:=V0) (aS:=um) (Al (Rx _ v p w1 K) ?_);obtain⟨G',S,J⟩:=H.call;have mem: ∀{T':List (Nat×List AC)},(X.hb,fV Q X A h.g)∈T'++(T++dX Q X A h (bh Q A h.g (AN 17)++L)):=λ{T'}=>Av _ (Av _ Ay);have z: ∀{T':List (Nat×List AC)}, ∀i v,h.g i=some v-> ∀x∈gR Q A i v,x∈T'++(T++dX Q X A h (bh Q A h.g (AN 17)++L)):=λ{T'} i v hv x l=>Av _ (bY W T i v hv x l);obtain⟨g1,M,B, _⟩:=S.sZ (X:=X) (A:=A) (g:=h.g) (mem (T':=[])) (z (T':=[])) o;obtain⟨r,N,O⟩:=(W.mp l).find p;rw[Y] at O;obtain⟨i,e,hi,Z⟩:=O;have E:bG w1 (A v.toNat).bm ⟨(A v.toNat).es⟩ (A v.toNat).ck:=H.get (fI W _ _ l);refine⟨rfl,rfl,⟨rfl,by omega,by show v<((17:Nat):Int);omega⟩,aj.of _ g1 ⟨rfl,rfl,aj.of _ B ⟨(id,f,()),⟨_, _, _,rfl,E,?_⟩,S.al λb y S=>S.fg 0 rfl rfl rfl λw3 S=>⟨rfl,rfl,?_⟩⟩⟩⟩
 ·rw[N,e]
 obtain⟨_, _,B, _⟩:=S.sZ (X:=X) (A:=A) (g:=h.g) (mem (T':=[_])) (z (T':=[_])) o;refine aj.of _ B λw4 h4=>?_;have H:=(J S).ext h4;have E:bG w4 (A v.toNat).bm ⟨(A v.toNat).es⟩ (A v.toNat).ck:=H.get (fI W _ _ l);refine⟨_, _, _,rfl,E,?_⟩;unfold Ac;rw[N,e];dsimp only;have hea:(NZ (⟨(A v.toNat).es⟩:Array B6) i)=⟨(A v.toNat).es.eraseIdx i⟩:=by
  apply Array.ext';rw[Array.toList_eraseIdxIfInBounds]
 rw[hea];have Kb:v.toNat<17:=by omega
 have H:=H.Pd Kb l ((A v.toNat).es.eraseIdx i) (A v.toNat).ck (x.tk.filter λt=> !(t.1==p));have q:=Jg (A:=A) l ((A v.toNat).es.eraseIdx i) (A v.toNat).ck (x.tk.filter λt=> !(t.1==p));obtain⟨A',P⟩: ∃A',A'=oB A v.toNat {A v.toNat with es:=(A v.toNat).es.eraseIdx i,ck:=(A v.toNat).ck}:=⟨_,rfl⟩;have F:bq h.g v.toNat (some {x with tk:=x.tk.filter λt=> !(t.1==p)})=(dA h v p id f).g:=by
  show _=bq h.g v.toNat (match h.g v.toNat with|some x=> _|none=>none);rw[l]
 have Z6: ∀{a m},(dA h v p id f).g a=some m->qA (A' a).es (A' a).ck m.tk:=λ{a m} d=>by
  rw[<-F] at d;rw[P];unfold bq at d;unfold oB;by_cases u:a=v.toNat
  ·rw[av u] at d ⊢;cases d;exact Z
  ·rw[ao u] at d ⊢;exact W.mp d
 have Tx: ∀{a m},(dA h v p id f).g a=some m->1<=a/\a<=16:=λ{a m} d=>by
  rw[<-F] at d;unfold bq at d;by_cases u:a=v.toNat
  ·omega
  ·rw[ao u] at d;exact W.jl d
 rw[<-P,F] at H q;obtain⟨G2,S,J2⟩:=H.call;obtain⟨_,M, _,j,hj⟩:=S.sZ (X:=X) (A:=A) (g:=h.g) (mem (T':=[_])) (z (T':=[_])) o;refine⟨rfl,rfl,aj.of _ M (S.DI U j hj V p λw5 S=>⟨rfl,rfl,aj.of _ (S.fL (X:=X) (A:=A) (g:=h.g) (mem (T':=[_])) (n:=1) rfl) ⟨rfl,S.cH 0 rfl rfl (S.aas f (-1) (by decide) λw6 S=>⟨rfl,rfl,aj.of _ (S.fL (X:=X) (A:=A) (g:=h.g) (mem (T':=[_])) (n:=2) rfl) ⟨rfl,S.cH 0 rfl rfl ?_⟩⟩)⟩⟩)⟩;refine S.WW (T.length+1+1) (T.length+2+1) (Pe (T:= _::T) (k:=1) rfl) (Pe (T:= _::T) (k:=2) rfl) (by rw[W.gl];decide) W.gk.use id v λw7 S=>S.en λR S=>kk A' R q.bg ⟨Tx,Z6,(qj _ _ _).trans W.gl,W.pt,W.gk.back _ _⟩ (J2 ?_);have e1:dX Q X A' (dA h v p id f) (bh Q A' (dA h v p id f).g (AN 17)++L)=(dX Q X A h (bh Q A h.g (AN 17)++L)).set 2 (X.uC,flat eG (eM h.gr id v)++X.rest):=by
  show(X.hb,fV Q X A' (dA h v p id f).g)::(X.gb,mE X.uC (eM h.gr id v).length X.c)::(X.uC,flat eG (eM h.gr id v)++X.rest)::(X.pb,Po.gM 4 h.po)::(bh Q A' (dA h v p id f).g (AN 17)++L)= _;rw[q.cs,q.rows,qj];rfl
 have S:bj Q [] G2 _ R _ ((T++dX Q X A h (bh Q A h.g (AN 17)++L)).set (T.length+2) (X.uC,flat eG (eM h.gr id v)++X.rest)):=S.tail;rw[Hb _ _ (by omega),show T.length+2 - T.length=2 by omega, <-e1] at S;exact S
end
def Nr (h:HS) (v p:Int):Int×Int:=match h.g v.toNat with
 |some x=>(cm x.tk p).getD (0,0)
 |none=>(0,0)
def oY (h:HS) (v a:Int):Int:=if a>=65536 then 2 else if h_ h v a=true then 0 else 4
def gY (h:HS) (v a:Int):HS:=if a>=65536 then h else if h_ h v a=true then dA h v a (Nr h v a).1 (Nr h v a).2 else h
theorem tF {h:HS} {v p:Int} {x:GV} (a:aR h.g v=true) (b:h.g v.toNat=some x):h_ h v p=true<->cm x.tk p=some (Nr h v p):=by
 unfold h_ gq Nr;rw[av a,b];dsimp only;cases cm x.tk p<;>simp
section
variable {Q:Sys} {X:HX} {D G:List Nat} {w0 w:A2} {h:HS} {L:List (Nat×List AC)} {K:RS->A2->Prop}
theorem VD (H:jm Q X D G w0 w h L) {v:Int} (l:aR h.g v=true) (o:NK Q h.s) (p:0<=aT h.g v/\aT h.g v<4096) (k:Int) {a:Int} (b c:Int) (q:0<=a) (kk: ∀m,jm Q X D G w0 m (gY h v a) L->K (0,oY h v a,()) m):
 aC AA 131 (.el (.agg iN)) [ag (ae X.hb),aa v,.agg ⟨gg k a b c⟩] w K:=by
 obtain⟨A,W,H⟩:=H;obtain⟨y,S,J⟩:=H.call;obtain⟨x,e,z,hv,B,E⟩:=bL l;refine aQ (C:=V0) (aS:=λ_=>[]) (Al (L4 _ v k a b c w K) ?_);unfold oY gY at kk;refine S.al λF m S=>S.al λI M S=>⟨rfl,S.cH 1 rfl rfl ?_⟩;refine ab (λd=>⟨trivial,S.res (j:=0) rfl 0 _ λf S=>?_⟩) (λd=>⟨rfl,S.cH 1 rfl rfl ?_⟩)
 ·rw[av (by simpa using d),av (by simpa using d)] at kk;exact kk f ⟨A,W,J S.tail.tail⟩
 have d: ¬ a>=65536:=by simpa using d
 rw[ao d,ao d] at kk;have n:aG .i64 a=a:=bP ⟨q,by omega⟩;rw[n];refine⟨gq h.g v a,pz (J S) (X:=X) (A:=A) (g:=h.g) (by simp) (bY W [_, _]) (fI W) (λi x e=>W.mp e) v a,?_⟩;refine ab (λd2=>⟨trivial,S.res (j:=0) rfl 0 _ λf S=>?_⟩) (λd2=>⟨rfl,S.cH 1 rfl rfl ?_⟩)
 ·have d2: ¬ h_ h v a=true:=by
   unfold h_;simpa using d2
  rw[ao d2,ao d2] at kk;exact kk f ⟨A,W,J S.tail.tail⟩
 ·have d2:h_ h v a=true:=by
   unfold h_;simpa using d2
  rw[av d2,av d2] at kk;rw[n];refine Ev W (T:=[_, _]) (J S) l o p e ((tF l e).1 d2) λA' f _ r H=>?_;obtain⟨N,S,t⟩:=H.call;exact S.res (j:=0) rfl 0 0 λu S=>kk u ⟨A',r,t S.tail.tail⟩
end
def mI (t:TK):List TK->List TK
 |[]=>[t]
 |u::l=>if u.1<t.1 then u::mI t l else t::u::l
theorem m_ (t:TK): ∀l,(mI t l).Perm (t::l)
 |[]=>Dz _
 |u::l=>by
  rw[mI];split
  ·exact((m_ t l).cons u).trans (.swap _ _ _)
  ·exact Dz _
def lU (h:HS) (a:Int):GT:=wZ h.gr a
def lP (h:HS) (a:Int):Int×Int×Int×Unit:=fX h.g h.s (lU h a).1 (lU h a).2.1
def wN (c:Int):Int:=if c=1 then 3 else 1
def nr (h:HS) (v a b c:Int):Int:=
 if b>=65536 then 2 else if a>=16\/c>1 then 1 else if(l6 h.gr a).isSome=false then 4
 else if(lU h a).2.2.1≠v\/(c=1/\(lU h a).2.2.2.1=false) then 7 else if(lP h a).2.2.1≠0 then 4 else if h_ h (lU h a).1 (lU h a).2.1=true then 7
 else if gX h.gr a v (c==1)≠0 then gX h.gr a v (c==1) else kl h.s (aT h.g v) false b (lP h a).1 (wN c)
def ij (h:HS) (v a b c:Int):HS where
 s:=((jE h.s v (aT h.g v) false b (lP h a).1 (wN c)).1,dJ (jE h.s v (aT h.g v) false b (lP h a).1 (wN c)).2 (lP h a).1 (g_ 1))
 g:=bq h.g v.toNat (match h.g v.toNat with|some x=>some {x with tk:=mI (b,a,(lP h a).1) x.tk}|none=>none)
 gr:=d_ h.gr a v (c==1)
 po:=h.po
def AL (h:HS) (v a b c:Int):HS:={h with s:=jE h.s v (aT h.g v) false b (lP h a).1 (wN c),gr:=eM (d_ h.gr a v (c==1)) a v}
def mB (h:HS) (v a b c:Int):Int:=
 if b>=65536 then 2 else if a>=16\/c>1 then 1 else if(l6 h.gr a).isSome=false then 4
 else if(lU h a).2.2.1≠v\/(c=1/\(lU h a).2.2.2.1=false) then 7 else if(lP h a).2.2.1≠0 then 4 else if h_ h (lU h a).1 (lU h a).2.1=true then 7 else gX h.gr a v (c==1)
def jx (h:HS) (v a b c:Int):HS:=if mB h v a b c≠0 then h else if nr h v a b c=0 then ij h v a b c else AL h v a b c
theorem Mj (gs:List GT) (i g:Int) (b:Bool):(d_ gs i g b).length=gs.length:=by
 unfold d_;split
 ·rw[Df]
 ·rfl
section
variable {Q:Sys} {X:HX} {D G:List Nat} {w0 w:A2} {h:HS} {L:List (Nat×List AC)} {K:RS->A2->Prop}
theorem Zz {A:Nat->GA} (W:Dg A h) {v a b c:Int} {x:GV} (f:h.g v.toNat=some x) (hv:((v.toNat:Nat):Int)=v) (uL:1<=v) (rl:v<=16) (t:cm x.tk b=none) (F:(d_ h.gr a v (c==1)).length=h.gr.length) {h1:HS} (I:h1=yw h (d_ h.gr a v (c==1)))
 {J l M:Nat} {N u la:List AC} (O:u=[ay 0,aa 0]) {m:A2}
 (H:SM Q D G w0 m ((jE h.s v (aT h.g v) false b (lP h a).1 (wN c)).1,dJ (jE h.s v (aT h.g v) false b (lP h a).1 (wN c)).2 (lP h a).1 (g_ 1)) ((J,N)::(l,u)::(M,la)::dX Q X A h1 (bh Q A h.g (AN 17)++L)) (dg A h.g (AN 17)))
 (kk: ∀i,jm Q X D G w0 i (ij h v a b c) L->K (0,0,()) i):
 ∃r es w,some (A v.toNat).bm=some r/\bG m r es w/\gU m r .i64 b (.agg ⟨[aa a,aa (lP h a).1]⟩) es w λi=>
  az i (ae l) [ay 0,aa 0] λi=>au i λw1=>aj w1 none (ae l) (.agg [.int .u64,.int .i64]) λx=>K (x.1,x.2.1,()) w1:=by
 subst O;have P:=H.get (fI W _ _ f);refine⟨_, _, _,rfl,P,?_⟩;obtain⟨r,y,z⟩:=(W.mp f).find b;rw[t] at z;rw[z] at y;unfold gU;have R:=y;rw[R];have T:(⟨(A v.toNat).es⟩:Array B6).push {key:=aa b,val:= .agg ⟨[aa a,aa (lP h a).1]⟩,born:=(A v.toNat).ck}=⟨(A v.toNat).es++[{key:=aa b,val:= .agg ⟨[aa a,aa (lP h a).1]⟩,born:=(A v.toNat).ck}]⟩:=by
  grind
 rw[T];have B:=(W.mp f).push t (m_ (b,a,(lP h a).1) x.tk);have U:v.toNat<17:=by omega
 have V:({key:=(xh (b,a,(lP h a).1)).1,val:=(xh (b,a,(lP h a).1)).2,born:=(A v.toNat).ck}:B6)={key:=aa b,val:= .agg ⟨[aa a,aa (lP h a).1]⟩,born:=(A v.toNat).ck}:=rfl;rw[V] at B;generalize (A v.toNat).es++[{key:=aa b,val:= .agg _,born:=(A v.toNat).ck}]=n at B ⊢;have H:=H.Pd U f n ((A v.toNat).ck+1) (mI (b,a,(lP h a).1) x.tk);have o:=Jg (A:=A) f n ((A v.toNat).ck+1) (mI (b,a,(lP h a).1) x.tk);obtain⟨A',C⟩: ∃A',A'=oB A v.toNat {A v.toNat with es:=n,ck:=(A v.toNat).ck+1}:=⟨_,rfl⟩;have p:bq h.g v.toNat (some {x with tk:=mI (b,a,(lP h a).1) x.tk})=(ij h v a b c).g:=by
  show _=bq h.g v.toNat _;rw[f]
 have Y: ∀{d k},(ij h v a b c).g d=some k->qA (A' d).es (A' d).ck k.tk:=λ{d k} e=>by
  rw[<-p] at e;rw[C];unfold bq at e;unfold oB;by_cases q:d=v.toNat
  grind
  ·rw[ao q] at e ⊢;exact W.mp e
 have Z: ∀{d k},(ij h v a b c).g d=some k->1<=d/\d<=16:=λ{d k} e=>by
  rw[<-p] at e;unfold bq at e;by_cases q:d=v.toNat
  ·omega
  ·rw[ao q] at e;exact W.jl e
 rw[<-C,p] at H o;obtain⟨G2,S,J2⟩:=H.call;refine S.res (j:=1) rfl 0 0 λE S=>kk E ⟨A',⟨Z,Y,F.trans W.gl,W.pt,W.gk.take _ _ _⟩,J2 ?_⟩;have S:=S.tail.tail.tail;rw[I] at S;show bj Q [] G2 _ E _ ((X.hb,fV Q X A' _)::(X.gb,mE X.uC _ X.c)::(X.uC,flat eG _++X.rest)::(X.pb,Po.gM 4 h.po)::(bh Q A' _ _++L));rw[o.cs,o.rows];exact S
theorem Jh {A:Nat->GA} (W:Dg A h) {v a b c:Int} {x:GV} (f:h.g v.toNat=some x) (hv:((v.toNat:Nat):Int)=v) (I:1<=v) (M:v<=16) (u:aR h.g v=true)
 (N: ∀x,h.g v.toNat=some x->kl h.s (aT h.g v) false b (lP h a).1 (wN c)=0->cm x.tk b=none)
 (w:(d_ h.gr a v (c==1)).length=h.gr.length) {h1:HS} (k:h1=yw h (d_ h.gr a v (c==1))) (l:Dg A h1)
 {O e P:Nat} {R la:List AC} {m B:A2} {o:List Nat}
 (J: ∀{d:A2} {s':WD} {L':List (Nat×List AC)},bj Q [] o m d s' L'->SM Q D G w0 d s' L' (dg A h.g (AN 17)))
 (S:bj Q [] o m B h.s ((O,R)::(e,[ay 0,aa 0])::(P,la)::dX Q X A h1 (bh Q A h.g (AN 17)++L)))
 (C:nr h v a b c=kl h.s (aT h.g v) false b (lP h a).1 (wN c)) (hS0:jx h v a b c=if nr h v a b c=0 then ij h v a b c else AL h v a b c)
 (kk: ∀d,jm Q X D G w0 d (jx h v a b c) L->K (0,nr h v a b c,()) d):
 aA AA 173 (.el (.one (.int .i64))) [ag (some ⟨(A v.toNat).bt,0,none⟩),aa b,aa (lP h a).1,aa (wN c)] B λ(y:Int) (d:A2)=>
  aH (y != 0)
   ((some (⟨X.hb,0,none⟩:Ak)).isSome=true/\(some (⟨X.hb,0,none⟩:Ak)).isSome=true/\
    aj d none (ad (ae X.hb) 2) (.one .ptr) λ(z:Option Ak)=>
     aA AA 182 (.el (.one (.int .i64))) [ag z,aa a,aa v] d λ(_:Int) (d:A2)=>
      True/\az d (ae e) [ay 0,aa y] λ(d:A2)=>au d λ(w1:A2)=>aj w1 none (ae e) (.agg [.int .u64,.int .i64]) λ(x:Int×Int×Unit)=>K (x.1,x.2.1,()) w1)
   ((some (⟨X.hb,0,none⟩:Ak)).isSome=true/\(some (⟨X.hb,0,none⟩:Ak)).isSome=true/\
    aj d none (ad (ae X.hb) 1) (.one .ptr) λ(z:Option Ak)=>
     aA AA 183 (.el (.one (.int .i64))) [ag z,aa (lP h a).1,aa 1] d λ(_:Int) (d:A2)=>
      (some (⟨X.hb,0,none⟩:Ak)).isSome=true/\(some (⟨X.hb,0,none⟩:Ak)).isSome=true/\((ad (ae X.hb) 4).isSome=true/\0<=v/\v<((17:Nat):Int))/\
       aj d none (ad (ad (ae X.hb) 4) (v.toNat*1)) (.one .ptr) λ(p:Option Ak)=>
        p.isSome=true/\p.isSome=true/\
         aj d none (ad p 1) (.one .map) λ(U:Option Nat)=>
          ∀(w1:A2),Ext d w1-> ∃(r:Nat), ∃(es:Array B6), ∃(E:Nat),U=some r/\bG w1 r es E/\
           gU w1 r .i64 b (.agg ⟨[aa a,aa (lP h a).1]⟩) es E λ(d:A2)=>
            az d (ae e) [ay 0,aa 0] λ(d:A2)=>au d λ(w1:A2)=>aj w1 none (ae e) (.agg [.int .u64,.int .i64]) λ(x:Int×Int×Unit)=>K (x.1,x.2.1,()) w1):=by
 have mem: ∀{T},(X.hb,fV Q X A h.g)∈T++dX Q X A h1 (bh Q A h.g (AN 17)++L):=λ{T}=>Av T (by rw[k];exact Ay);have F:=λ{T} i v hv x f=>by
  have H:h1.g=h.g:=by rw[k];rfl
  have:=bY (Q:=Q) (X:=X) (L:=L) l T i v (by rw[H];exact hv) x f;rw[H] at this;exact this
 obtain⟨_, _, _,j,V⟩:=S.sZ (X:=X) (A:=A) (g:=h.g) (mem (T:=[_, _, _])) (F (T:=[_, _, _])) u;refine S.map j V b (lP h a).1 (wN c) λw8 S=>?_;refine ab (λd8=>?_) (λd8=>?_)
 ·have d8:kl h.s (aT h.g v) false b (lP h a).1 (wN c)≠0:=by
   grind
  have q:jx h v a b c=AL h v a b c:=by grind
  refine⟨rfl,rfl,aj.of _ (S.fL (X:=X) (A:=A) (g:=h.g) (mem (T:=[_, _, _])) (n:=2) rfl) (S.WW 4 5 rfl rfl (by rw[l.gl];decide) l.gk.use a v λY S=>⟨trivial,S.res (j:=1) rfl 0 _ λt S=>?_⟩)⟩;rw[C,q] at kk;refine kk t ⟨A,⟨W.jl,W.mp,(qj _ _ _).trans (w.trans W.gl),W.pt,(W.gk.take _ _ _).back _ _⟩,J ?_⟩;have S:=S.tail.tail.tail;rw[k] at S;show bj Q [] o m t _ ((X.hb,fV Q X A h.g)::(X.gb,mE X.uC (eM _ a v).length X.c):: _);rw[qj];exact S
 ·have d8:kl h.s (aT h.g v) false b (lP h a).1 (wN c)=0:=by
   grind
  have q:jx h v a b c=ij h v a b c:=by grind
  refine⟨rfl,rfl,aj.of _ (S.fL (X:=X) (A:=A) (g:=h.g) (mem (T:=[_, _, _])) (n:=1) rfl) (S.aas (lP h a).1 1 (by decide) λY S=>⟨rfl,rfl,⟨rfl,by omega⟩,?_⟩)⟩;rw[C,q,d8] at kk;have Z:=N x f d8;obtain⟨g1, _,g3, _⟩:=S.sZ (X:=X) (A:=A) (g:=h.g) (mem (T:=[_, _, _])) (F (T:=[_, _, _])) u;refine aj.of _ g1 ⟨rfl,rfl,aj.of _ g3 λt Fk=>?_⟩;exact Zz W f hv I M Z w k rfl ((J S).ext Fk) kk
theorem VE (H:jm Q X D G w0 w h L) {v:Int} (r:aR h.g v=true) (k:Int) {a b c:Int} (Y:0<=a) (hb:0<=b) (hc:0<=c) (F: ∀x,h.g v.toNat=some x->kl h.s (aT h.g v) false b (lP h a).1 (wN c)=0->cm x.tk b=none)
 (kk: ∀m,jm Q X D G w0 m (jx h v a b c) L->K (0,nr h v a b c,()) m):
 aC AA 130 (.el (.agg iN)) [ag (ae X.hb),aa v,.agg ⟨gg k a b c⟩] w K:=by
 obtain⟨A,W,H⟩:=H;obtain⟨I,S,J⟩:=H.call;obtain⟨x,q,n8,hv,M,N⟩:=bL r;refine aQ (C:=V0) (aS:=λ_=>[]) (Al (L3 _ v k a b c w K) ?_);have p: ∀e,e≠0->mB h v a b c=e->nr h v a b c=e-> ∀{m},jm Q X D G w0 m h L->K (0,e,()) m:=λe Z h1 h2 m H=>by
  have y:jx h v a b c=h:=av (by rw[h1];exact Z);rw[h2,y] at kk;exact kk m H
 have l:mB h v a b c=if b>=65536 then 2 else if a>=16\/c>1 then 1 else if(l6 h.gr a).isSome=false then 4
  else if(lU h a).2.2.1≠v\/(c=1/\(lU h a).2.2.2.1=false) then 7 else if(lP h a).2.2.1≠0 then 4 else if h_ h (lU h a).1 (lU h a).2.1=true then 7 else gX h.gr a v (c==1):=rfl
 have f:nr h v a b c=if b>=65536 then 2 else if a>=16\/c>1 then 1 else if(l6 h.gr a).isSome=false then 4
  else if(lU h a).2.2.1≠v\/(c=1/\(lU h a).2.2.2.1=false) then 7 else if(lP h a).2.2.1≠0 then 4 else if h_ h (lU h a).1 (lU h a).2.1=true then 7
  else if gX h.gr a v (c==1)≠0 then gX h.gr a v (c==1) else kl h.s (aT h.g v) false b (lP h a).1 (wN c):=rfl
 refine S.al λba m S=>S.al λb1 w3 S=>⟨rfl,S.cH 1 rfl rfl ?_⟩;refine ab (λd=>⟨trivial,S.res (j:=0) rfl 0 _ λO S=>?_⟩) (λd=>⟨rfl,S.cH 1 rfl rfl ⟨λ_=>rfl,S.cH 1 rfl rfl ?_⟩⟩)
 ·have d:b>=65536:=by simpa using d
  rw[av d] at l f;exact p 2 (by decide) l f ⟨A,W,J S.tail.tail⟩
 have d: ¬ b>=65536:=by simpa using d
 rw[ao d] at l f;refine ab (λd1=>⟨trivial,S.res (j:=0) rfl 0 _ λO S=>?_⟩) (λd1=>⟨rfl,S.cH 1 rfl rfl ⟨rfl,S.cH 1 rfl rfl ⟨rfl,S.cH 1 rfl rfl ⟨rfl,rfl,?_⟩⟩⟩⟩)
 ·have d1:a>=16\/c>1:=by simpa using d1
  rw[av d1] at l f;exact p 1 (by decide) l f ⟨A,W,J S.tail.tail⟩
 have d1: ¬ (a>=16\/c>1):=by
  grind
 rw[ao d1] at l f;have ea:aG .i64 a=a:=bP ⟨Y,by omega⟩;have eb:aG .i64 b=b:=bP ⟨hb,by omega⟩;rw[ea,eb];refine aj.of _ (S.fL (X:=X) (A:=A) (g:=h.g) (by simp) (n:=2) rfl) ⟨(wZ h.gr a,(l6 h.gr a).isSome,()),S.aat 3 4 rfl rfl (by rw[W.gl];decide) a,S.al λb2 O S=>S.fg 0 rfl rfl rfl λw5 S=>?_⟩;refine ab (λd2=>⟨trivial,S.res (j:=1) rfl 0 _ λP S=>?_⟩) (λd2=>⟨rfl,S.cH 0 rfl rfl ⟨λ_=>rfl,S.cH 0 rfl rfl ?_⟩⟩)
 ·have d2:(l6 h.gr a).isSome=false:=by simpa using d2
  rw[av d2] at l f;exact p 4 (by decide) l f ⟨A,W,J S.tail.tail.tail⟩
 have d2: ¬ (l6 h.gr a).isSome=false:=by
  have d2:(!(l6 h.gr a).isSome)=false:=d2;intro e;rw[e] at d2;cases d2
 rw[ao d2] at l f;refine ab (λd3=>⟨trivial,S.res (j:=1) rfl 0 _ λP S=>?_⟩) (λd3=>⟨rfl,S.cH 0 rfl rfl ⟨rfl,S.cH 0 rfl rfl ?_⟩⟩)
 ·have d3:=by
   have d3:((lU h a).2.2.1 != v||c==1&& !(lU h a).2.2.2.1)=true:=d3;simpa using d3
  rw[av d3] at l f;exact p 7 (by decide) l f ⟨A,W,J S.tail.tail.tail⟩
 have d3: ¬ ((lU h a).2.2.1≠v\/(c=1/\(lU h a).2.2.2.1=false)):=by
  grind[lU]
 rw[ao d3] at l f;refine vf S (X:=X) (A:=A) (g:=h.g) (by simp) (bY W [_, _, _]) (lU h a).1 (lU h a).2.1 λP S=>?_;refine ab (λd4=>⟨trivial,S.res (j:=1) rfl 0 _ λt S=>?_⟩) (λd4=>⟨rfl,S.cH 0 rfl rfl ⟨rfl,S.cH 0 rfl rfl ?_⟩⟩)
 ·have d4:(lP h a).2.2.1≠0:=by
   have d4:((lP h a).2.2.1 != 0)=true:=d4;simpa using d4
  rw[av d4] at l f;exact p 4 (by decide) l f ⟨A,W,J S.tail.tail.tail⟩
 have d4: ¬ (lP h a).2.2.1≠0:=by
  grind[lP]
 rw[ao d4] at l f;refine⟨gq h.g (lU h a).1 (lU h a).2.1,pz (J S) (X:=X) (A:=A) (g:=h.g) (by simp) (bY W [_, _, _]) (fI W) (λi x q=>W.mp q) _ _,?_⟩;refine ab (λd5=>⟨trivial,S.res (j:=1) rfl 0 _ λt S=>?_⟩) (λd5=>⟨rfl,rfl,?_⟩)
 ·have d5:h_ h (lU h a).1 (lU h a).2.1=true:=d5;rw[av d5] at l f;exact p 7 (by decide) l f ⟨A,W,J S.tail.tail.tail⟩
 have d5: ¬ h_ h (lU h a).1 (lU h a).2.1=true:=by
  have d5:h_ h (lU h a).1 (lU h a).2.1=false:=d5;rw[d5];decide
 rw[ao d5] at l f;refine aj.of _ (S.fL (X:=X) (A:=A) (g:=h.g) (by simp) (n:=2) rfl) (S.abl 4 5 rfl rfl (by rw[W.gl];decide) W.gk.use a v (c==1) λt S=>?_);have u:(d_ h.gr a v (c==1)).length=h.gr.length:=Mj _ _ _ _;obtain⟨h1,o⟩: ∃h1,h1=yw h (d_ h.gr a v (c==1)):=⟨_,rfl⟩;have R:h1.g=h.g:=by rw[o];rfl
 have BJ:h1.s=h.s:=by rw[o];rfl
 have z:Dg A h1:=by rw[o];exact⟨W.jl,W.mp,u.trans W.gl,W.pt,W.gk.take _ _ _⟩
 have S:bj Q [] I w t h.s ((b2,[aa (lU h a).1,aa (lU h a).2.1,aa (lU h a).2.2.1,.bool (lU h a).2.2.2.1,aa (lU h a).2.2.2.2.1])::(b1,[ay 0,aa 0])::(ba,gg k a b c)::dX Q X A h1 (bh Q A h.g (AN 17)++L)):=by
  rw[o];show bj Q [] I w t h.s (_:: _:: _::(X.hb,fV Q X A h.g)::(X.gb,mE X.uC (d_ h.gr a v (c==1)).length X.c):: _);rw[u];exact S
 refine ab (λd6=>⟨trivial,S.res (j:=1) rfl 0 _ λw8 S=>?_⟩) (λd6=>?_)
 ·have d6:gX h.gr a v (c==1)≠0:=by simpa using d6
  rw[av d6] at f;have e1:d_ h.gr a v (c==1)=h.gr:=ao d6;have y:h1=h:=by rw[o,e1];rfl
  rw[y] at S;exact p _ d6 l f ⟨A,W,J S.tail.tail.tail⟩
 have d6: ¬ gX h.gr a v (c==1)≠0:=by
  grind
 rw[ao d6] at f;have U:jx h v a b c=if nr h v a b c=0 then ij h v a b c else AL h v a b c:=ao (by rw[l];exact d6);have mem: ∀{T:List (Nat×List AC)},(X.hb,fV Q X A h.g)∈T++dX Q X A h1 (bh Q A h.g (AN 17)++L):=λ{T}=>Av T (by rw[o];exact Ay);have V:=λ{T} i v hv x q=>by
  have:=bY (Q:=Q) (X:=X) (L:=L) z T i v (by rw[R];exact hv) x q;rw[R] at this;exact this
 have hq:=Eu h.g h.s (lU h a).1 (lU h a).2.1;refine ab (λd7=>⟨rfl,rfl,⟨rfl,by omega,by show v<((17:Nat):Int);omega⟩,?_⟩) (λd7=>⟨rfl,rfl,⟨rfl,by omega,by show v<((17:Nat):Int);omega⟩,?_⟩)
 ·have B:(ZQ .i64 1 2)=wN c:=by
   unfold wN;rw[av (by simpa using d7)];decide
  obtain⟨g1,E,g3,j,hj⟩:=S.sZ (X:=X) (A:=A) (g:=h.g) (mem (T:=[_, _, _])) (V (T:=[_, _, _])) r;refine aj.of _ g1 ⟨rfl,rfl,aj.of _ E ?_⟩;have T:=Jh W q hv M N r F u o z J S f U kk;rw[<-B] at T;exact T
 ·have B:(1:Int)=wN c:=by
   unfold wN;rw[ao (by simpa using d7)]
  obtain⟨g1,E,g3,j,hj⟩:=S.sZ (X:=X) (A:=A) (g:=h.g) (mem (T:=[_, _, _])) (V (T:=[_, _, _])) r;refine aj.of _ g1 ⟨rfl,rfl,aj.of _ E ?_⟩;have T:=Jh W q hv M N r F u o z J S f U kk;rw[<-B] at T;exact T
end
def An (l:List Int):Int:=l.foldl (λm x=>kM m x) 65536
theorem xI (a b:Int):kM a b<=a/\kM a b<=b/\(kM a b=a\/kM a b=b):=by
 unfold kM;split<;>omega
theorem zc: ∀(l:List Int) (m:Int),l.foldl (λm x=>kM m x) m<=m/\(∀x∈l,l.foldl (λm x=>kM m x) m<=x)/\(l.foldl (λm x=>kM m x) m=m\/l.foldl (λm x=>kM m x) m∈l)
 |[],m=>⟨Ga _,λx b=>(by cases b),.inl rfl⟩
 |y::l,m=>by
  obtain⟨h1,c,a⟩:=zc l (kM m y);obtain⟨d,e,f⟩:=xI m y;rw[H4];refine⟨Int.le_trans h1 d,λx b=>?_,?_⟩
  ·rcases FB.1 b with rfl|b
   ·exact Int.le_trans h1 e
   ·exact c x b
  ·rcases a with a|a
   ·rcases f with k|k
    ·exact .inl (a.trans k)
    ·exact .inr (FB.2 (.inl (a.trans k)))
   ·exact .inr (B1 _ a)
theorem Ml {l:List Int} {m:Int} (h1:m<=65536) (c: ∀x∈l,m<=x) (b:m=65536\/m∈l):m=An l:=by
 obtain⟨e,d,a⟩:=zc l 65536;unfold An;rcases b with b|b
 ·rcases a with a|a
  ·omega
  ·have:=c _ a;omega
 ·have:=d _ b;rcases a with a|a
  ·omega
  ·have:=c _ a;omega
theorem Bq {es:List B6} {e:B6} (he:e∈es) (seen:Array Nat) (a:seen.contains e.born=false):
 (es.filter λx=> !(seen.push e.born).contains x.born).length<(es.filter λx=> !seen.contains x.born).length:=by
 induction es with
 |nil=>cases he
 |cons y es b=>
  have mono: ∀l:List B6,(l.filter λx=> !(seen.push e.born).contains x.born).length<=(l.filter λx=> !seen.contains x.born).length:=λl=>by
   rw[<-JZ, <-JZ];refine List.countP_mono_left λx _ c=>?_;simp only[In,NU,E4] at c ⊢
   simp_all
  rcases FB.1 he with rfl|he
  ·rw[JW (by simp),List.filter_cons_of_pos (by simpa using a)];have:=mono es;simp only[Dd];omega
  ·have:=b he;rw[K1,K1];by_cases h1:(!(seen.push e.born).contains y.born)=true
   ·have d:(!seen.contains y.born)=true:=by
     simp only[In,NU,E4] at h1 ⊢
     simp_all
    rw[av h1,av d];simp only[Dd];omega
   ·rw[ao h1];split
    ·simp only[Dd];omega
    ·exact this
section
variable {Q:Sys} {X:HX} {D G:List Nat} {w0 w:A2} {s:WD} {L0:List (Nat×List AC)} {M:List (Nat×BI)} {es:List B6} {ck bm bg:Nat} {pt:Option Ak} {tk:List TK}
theorem Mm (H:SM Q D G w0 w s L0 M) (N:(bg,[ag pt,.map (some bm)])∈L0) (v:(bm,Obj.map ⟨es⟩ ck)∈M) (O:qA es ck tk) {K:Int->A2->Prop} (kk: ∀d,SM Q D G w0 d s L0 M->K (An (tk.map (·.1))) d):
 aA AA 168 (.el (.one (.int .i64))) [ag (ae bg)] w K:=by
 obtain⟨⟨p,A,B⟩,E,P, _⟩:=O;have R: ∀e∈es, ∃t∈tk,e.key=aa t.1:=λe a=>by
  have:(e.key,e.val)∈p.map xh:=by rw[<-B];exact B2.2 ⟨e,a,rfl⟩
  obtain⟨t,c,y⟩:=B2.1 this;exact⟨t,A.mem_iff.1 c,(congrArg (·.1) y).symm⟩
 have S: ∀t∈tk, ∃e∈es,e.key=aa t.1:=λt c=>by
  have:xh t∈es.map λe=>(e.key,e.val):=by rw[B];exact B2.2 ⟨t,A.mem_iff.2 c,rfl⟩
  obtain⟨e,a,y⟩:=B2.1 this;exact⟨e,a,congrArg (·.1) y⟩
 refine H.go λw1 H=>ai (C:=V0) (aS:=qX) (Al (LX _ w1 K) ?_);obtain⟨j,f⟩:=B5 N;refine⟨rfl,rfl,H.base.cH j f rfl λd g=>?_⟩;have H:=H.ext g;have T:bG d bm ⟨es⟩ ck:=H.get v;refine⟨_, _, _,rfl,T,?_⟩;have H:=H.alloc (o:= .mapIter (some bm) ck #[] ck) trivial;obtain⟨b,hb⟩: ∃b,b=d.heap.size:=⟨_,rfl⟩;rw[<-hb] at H ⊢;refine⟨λn q w'=> ∃seen:Array Nat,SM Q D G w0 w' s L0 ((b,.mapIter (some bm) ck seen ck)::M)/\n=(es.filter λx=> !seen.contains x.born).length/\q.1<=65536/\(∀e∈es, ∀x,e.key=aa x->seen.contains e.born=true->q.1<=x)/\(q.1=65536\/q.1∈tk.map (·.1)),⟨_,λU k=>⟨#[],H.ext k,rfl,Ga _,λe _ x _ l=>(by simp at l),.inl rfl⟩⟩,?_⟩;clear H;rintro n ⟨q,u⟩ U ⟨seen,H,V,h1,g,k⟩;dsimp only at h1 g k ⊢;intro w4 W;have H:=H.ext W;refine⟨b,bm,ck,seen,ck,⟨es⟩,ck,rfl,H.get Ay,H.get (B1 _ v),E5 _,P,λl X z=>?_,λe a l X z=>?_⟩
 ·refine(H.ext z).en λF H=>?_;have m:q=An (tk.map (·.1)):=Ml h1 (λx r=>by
   obtain⟨t,c,rfl⟩:=B2.1 r;obtain⟨e,I,Y⟩:=S t c;exact g e I _ Y (l e I)) k
  rw[m];exact kk F (H.FK (B8 _ _))
 ·have a:e∈es:=a;obtain⟨t,c,J⟩:=R e a;have H:=(H.ext z).put (i:=0) rfl (o':= .mapIter (some bm) ck (seen.push e.born) ck) trivial;refine⟨t.1,e.val,⟨b,bm,ck,seen,⟨es⟩,ck,e,rfl,H.get Ay,H.get (B1 _ v),a,E,J.symm,rfl⟩,λF Z=>?_⟩;refine⟨_,?_,seen.push e.born,H.ext Z,rfl,?_,?_,?_⟩
  ·rw[V];exact Bq a seen l
  ·have:=xI q t.1;omega
  ·intro e' L x r fh;have hmi:=xI q t.1;by_cases h:seen.contains e'.born=true
   ·have:=g e' L x r h;show kM q t.1<=x;omega
   ·have sg:e'.born=e.born:=by
     rw[In] at fh
     simp_all
    have aca:e'=e:=by
     obtain⟨i,hi⟩:=B5 L;obtain⟨j,f⟩:=B5 a;have xY:(es.map (·.born))[i]? =some e.born:=by rw[BQ,hi];exact congrArg some sg
     have xk:(es.map (·.born))[j]? =some e.born:=by rw[BQ,f];rfl
     have:=(FS (by rw[B3];exact(Bx.1 hi).1) E).1 (xY.trans xk.symm);subst this;rw[hi] at f;cases f;rfl
    subst aca;rw[J] at r;cases r;show kM q t.1<=t.1;exact hmi.2.1
  ·rcases(xI q t.1).2.2 with m|m
   ·show kM q t.1=65536\/ _;rw[m];exact k
   ·show kM q t.1=65536\/kM q t.1∈ _;rw[m];exact .inr (B2.2 ⟨t,c,rfl⟩)
end
end Go.Proofs.YtlcenllcmeebhaaGreat
namespace Go.Proofs.YtlcenllcmeebhaaGreat.Mu
set_option maxRecDepth 100000
open Go.RX
section
variable {D G:List Nat} {w0 w:A2} {L Ls:List (Nat×List AC)} {M:List (Nat×BI)} {es:List B6} {mb ck:Nat} {wl:List (Int×Int)}
theorem Br (H:cC D G w0 w L ((mb,.map ⟨es⟩ ck)::M)) (hv:iz es ck (wl.map Fy)) (hl:(wl.length:Int)<=1000000) {is:Int->Bool} {Q:Int->A2->Bool->Prop}
 (Z: ∀{w' d Mr},cC D G w0 w' (d++L) Mr-> ∀e∈wl,Q e.2 w' (is e.2)) {K:Option Ak×Nat×Nat->A2->Prop}
 (k: ∀r R d c,R.Pairwise (· <= ·)->R.Perm ((wl.filter λe=>is e.2).map (·.1))->du eI r R d->cC D G w0 c (d++L) ((mb,.map ⟨es⟩ ck)::M)->K r c):
 RgP w (some mb) λb c=> ∃I:Nat->(Option Ak×Nat×Nat)×Unit->A2->Prop,(∃n, ∀w1,Ext c w1->I n ((none,0,0),()) w1)/\ ∀(n:Nat) (s:(Option Ak×Nat×Nat)×Unit) (w1:A2),I n s w1->
  NxP w1 (ae b) (λc=>au c λw1=>K (s.1.1,s.1.2.1,s.1.2.2) w1) λ_ _ c=> ∃x y:Int,Ad c (ae b) (aa x) (aa y)/\ ∃O:Bool,Q y c O/\
   aH (!O) (∀g,Ext c g-> ∃h,h<n/\I h ((s.1.1,s.1.2.1,s.1.2.2),()) g)
    (aM c ⟨[aa x]⟩ 3 λb c=> ∀w1,Ext c w1->mD w1 3 1 8 ⟨[aa 0]⟩ (s.1.1,s.1.2.1,s.1.2.2) (some ⟨b,0,none⟩,1,1) λr c=>
     ∃z:Nat->Int×Unit->A2->Prop,(∃n, ∀w1,Ext c w1->z n (((s.1.2.1:Nat):Int),()) w1)/\ ∀(P:Nat) (s:Int×Unit) (w1:A2),z P s w1->
      (decide (s.1>0)=true->r.1.isSome=true/\0<=aZ .i64 s.1 1/\aZ .i64 s.1 1<((r.2.1:Nat):Int))/\aj w1 (some (decide (s.1>0))) (ad r.1 ((aZ .i64 s.1 1).toNat*1)) eI λ(aN:Int)=>
       aH (decide (s.1>0)&&decide (aN>x)) ((r.1.isSome=true/\0<=aZ .i64 s.1 1/\aZ .i64 s.1 1<((r.2.1:Nat):Int))/\aj w1 none (ad r.1 ((aZ .i64 s.1 1).toNat*1)) eI λ(y:Int)=>
        (r.1.isSome=true/\0<=s.1/\s.1<((r.2.1:Nat):Int))/\az w1 (ad r.1 (Int.toNat s.1*1)) [aa y] λc=> ∀g,Ext c g-> ∃h,h<P/\z h (aZ .i64 s.1 1,()) g)
        ((r.1.isSome=true/\0<=s.1/\s.1<((r.2.1:Nat):Int))/\az w1 (ad r.1 (Int.toNat s.1*1)) [aa x] λc=> ∀g,Ext c g-> ∃h,h<n/\I h ((r.1,r.2.1,r.2.2),()) g)):=by
 obtain⟨XI,he2⟩:=hv.ab1;have S:=hv.2.1;have hck:=hv.2.2.1;have hlen:es.length=wl.length:=by
  obtain⟨⟨p,A,B⟩, _⟩:=hv;have C:=congrArg FP B;have E:=A.length_eq;simp only[B3] at C E;omega
 intro w1 h1;have H:=H.ext h1;refine⟨mb,⟨es⟩,ck,rfl,H.get (i:=0) rfl,?_⟩;have H:=H.alloc (o:= .mapIter (some mb) ck #[] ck) trivial;obtain⟨b,hb⟩: ∃b,b=w1.heap.size:=⟨_,rfl⟩;rw[<-hb] at H ⊢;refine⟨λn q w'=> ∃(seen:Array Nat) (d:List (Nat×List AC)) (R:List Int),cC D G w0 w' (d++L) ((b,.mapIter (some mb) ck seen ck)::(mb,.map ⟨es⟩ ck)::M)/\n=(es.filter λx=> !seen.contains x.born).length/\du eI q.1 R d/\R.Pairwise (· <= ·)/\
  R.Perm ((es.filter λx=>seen.contains x.born&&is (kI x.val)).map λx=>kI x.key),⟨_,λg h3=>⟨#[],[],[],H.ext h3,rfl,du.nil eI,List.Pairwise.nil,?_⟩⟩,?_⟩
 ·simp_all
 clear H;rintro n ⟨q,u⟩ g ⟨seen,d,R,H,hn,m,F,J⟩;dsimp only at m ⊢;have hRl:R.length<=es.length:=by
  rw[J.length_eq,B3];exact LL _ _
 intro w4 h4;have H:=H.ext h4;refine⟨b,mb,ck,seen,ck,⟨es⟩,ck,rfl,H.get (i:=0) rfl,H.get (i:=1) rfl,E5 _,hck,λmF w5 N j v=>?_,λe l T w5 N=>?_⟩
 ·refine k q R d j F (J.trans ?_) m (((H.ext N).ext v).FK (B8 _ _));have C:(es.filter λx=>seen.contains x.born&&is (kI x.val))=es.filter λx=>is (kI x.val):=Hr λx hx=>by rw[mF x hx,Gd]
  rw[C];obtain⟨⟨p,A,B⟩, _⟩:=hv;have E:(es.filter λx=>is (kI x.val)).map (λx=>kI x.key)=((es.map λe=>(e.key,e.val)).filter λt=>is (kI t.2)).map λt=>kI t.1:=by
   rw[GD,GF];rfl
  have e3:((p.map kvE).filter λt=>is (kI t.2)).map (λt=>kI t.1)=(p.filter λt=>is (kI t.2)).map (·.1):=by
   rw[GD,GF];rfl
  have e4:(((wl.map Fy).filter λt=>is (kI t.2)).map (·.1):List Int)=(wl.filter λe=>is e.2).map (·.1):=by
   rw[GD,GF];rfl
  rw[E,B,e3, <-e4];exact(A.filter _).map _
 ·have l:e∈es:=l;obtain⟨t,ht,U,V⟩:=XI e l;obtain⟨a,ha,rfl⟩:=B2.1 ht;have H:=(H.ext N).put (i:=0) rfl (o':= .mapIter (some mb) ck (seen.push e.born) ck) trivial;have W:(es.filter λx=> !(seen.push e.born).contains x.born).length<n:=by rw[hn];exact Bq l seen T
  have Wh:=A0 (f:=λx=>is (kI x.val)) T S l;have hke:kI e.key=a.1:=by rw[U];rfl
  have hve:kI e.val=a.2:=by rw[V];rfl
  refine⟨a.1,a.2,⟨b,mb,ck,seen,⟨es⟩,ck,e,rfl,H.get (i:=0) rfl,H.get (i:=1) rfl,l,S,U.symm,V.symm⟩,is a.2,Z H a ha,?_⟩;cases hi:is a.2 with
  |false=>
   refine aB rfl λj v=>⟨_,W,seen.push e.born,d,R,H.ext v,rfl,m,F,?_⟩
   grind
  |true=>
   rw[hve,hi,av rfl] at Wh;refine an rfl λj v w7 h7=>?_;have X:=by
    have Y:=H.ext v;have K6:=Y.join (L':=(j.heap.size,[aa a.1])::(d++L)) (w1:=j.alloc (.cells ⟨[aa a.1]⟩ 3)) (Y.base.again.alloc _ _);exact(K6.perm B4).ext h7
   refine Fq X m rfl (q:=(some ⟨j.heap.size,0,none⟩,1,1)) (ys:=[a.1]) rfl (rP (e:=eI) (x:=a.1) (X.base.dm _ (Av _ Ay))) rfl rfl (by simp only[I1];omega) λr cJ w8 fh H8=>?_;refine P1 H8 fh F (by omega) (by rw[m.1]) λWg R' w9 hR' Tq To H9=>⟨_,W,seen.push e.born,Wg,R',H9.sub (by grind),rfl,To,hR',?_⟩;refine(Tq.trans (DB _ J)).trans ?_
   grind
theorem Mn (H:cC D G w0 w L ((mb,.map ⟨es⟩ ck)::M)) (hv:iz es ck (wl.map Fy)) (d:(wl.length:Int)<=1000000) {now:Int} {s:Option Ak×Nat×Nat} {c eb:Nat} (hc:(c,[ag (ae eb)])∈L) (f:(eb,ow now s mb)∈L) (g: ∀e∈wl,0<=e.2/\e.2<=now) (n:now<4611686018427387904)
 {K:Option Ak×Nat×Nat->A2->Prop} (k: ∀r R a b,R.Pairwise (· <= ·)->R.Perm ((wl.filter λe=>decide (e.2+2<=now)).map (·.1))->du eI r R a->cC D G w0 b (a++L) ((mb,.map ⟨es⟩ ck)::M)->K r b):
 aA AA 115 (.el (.one .slice)) [.map (some mb),.func (.func 236) #[] #[ag (ae c)]] w K:=by
 refine λw1 h1=>ai (C:=U1) (aS:=qM) (Al (Kw _ _ w1 K) ?_);refine Br (H.ext h1) hv d (is:=λy=>decide (y+2<=now)) (λ{w' a o} H e h=>?_) k;refine af.of λb i=>ai (C:=U0) (aS:=λ_=>[]) (Al (Ku _ _ b _) ?_);have H:=(H.ext i).base;have hb:=g e h;obtain⟨j,l⟩:=B5 (Av a hc);refine aj.at j H l (rfl) ⟨rfl,rfl,aj.kO H (Av a f) (rfl) λp m=>⟨?_,m⟩⟩;rw[ax (by omega) (by omega)]
theorem Mp (H:cC D G w0 w L ((mb,.map ⟨es⟩ ck)::M)) (hv:iz es ck (wl.map Fy)) (f:(wl.length:Int)<=1000000)
 {K:Option Ak×Nat×Nat->A2->Prop} (k: ∀r R c d,R.Pairwise (· <= ·)->R.Perm (wl.map (·.1))->du eI r R c->cC D G w0 d (c++L) ((mb,.map ⟨es⟩ ck)::M)->K r d):
 aA AA 115 (.el (.one .slice)) [.map (some mb),.func (.func 116) #[] #[]] w K:=by
 refine λw1 h1=>ai (C:=U1) (aS:=qN) (Al (Ky _ w1 K) ?_);refine Br (H.ext h1) hv f (is:=λ_=>true) (λ{w' c g} H e h=>?_) (λr R c d a b=>k r R c d a (by rw[FY.2 (λ_ _=>rfl)] at b;exact b));exact af.of λd i=>ai (C:=U0) (aS:=λ_=>[]) (by grind[Al,Kv])
theorem RP (H:cC D G w0 w L ((mb,.map ⟨es⟩ ck)::M)) (hv:iz es ck (wl.map Fy)) (h:(wl.length:Int)<=1000000) {now:Int} {s:Option Ak×Nat×Nat} {eb:Nat} (g:(eb,ow now s mb)∈L)
 {K:Option Ak×Nat×Nat->A2->Prop} (k: ∀r R e f,R.Pairwise (· <= ·)->R.Perm (wl.map (·.1))->du eI r R e->cC D G w0 f (e++L) ((mb,.map ⟨es⟩ ck)::M)->K r f):
 aA AA 69 (.el (.one .slice)) [ag (ae eb)] w K:=by
 refine λw1 h1=>ai (Al (PY _ w1 K) ?_);have H:=H.ext h1;refine⟨_,mV H.base g,an rfl ⟨rfl,rfl,aj.kO H.base g rfl ?_⟩⟩;exact Mp H hv h λr R e f a b c d=>λi j=>k r R e i a b c (d.ext j)
theorem RQ (H:cC D G w0 w L ((mb,.map ⟨es⟩ ck)::M)) (hv:iz es ck (wl.map Fy)) (W:(wl.length:Int)<=1000000) {now:Int} {s:Option Ak×Nat×Nat} {eb:Nat} (X:(eb,ow now s mb)∈L) (Y: ∀e∈wl,0<=e.2/\e.2<=now) (Z:now<4611686018427387904)
 {K:Option Ak×Nat×Nat->A2->Prop} (k: ∀r R d a g,R.Pairwise (· <= ·)->R.Perm ((wl.filter λe=>decide (e.2+2<=now)).map (·.1))->du eI r R d->iz a ck ((wl.filter λe=> !decide (e.2+2<=now)).map Fy)->
  cC D G w0 g (d++L) ((mb,.map ⟨a⟩ ck)::M)->K r g):
 aA AA 198 (.el (.one .slice)) [ag (ae eb)] w K:=by
 refine λw1 h1=>ai (C:=U0) (aS:=tZ) (Al (PX _ w1 K) λg q=>?_);have H:=(H.ext h1).ext q;obtain⟨b,hb⟩: ∃b,b=g.heap.size:=⟨_,rfl⟩;have H:=H.join (L':=(b,[ag (ae eb)])::L) (w1:=g.alloc (.cells ⟨[ag (ae eb)]⟩ 98)) (by rw[hb];exact H.base.again.alloc _ _);rw[<-hb];have l:(eb,ow now s mb)∈(b,[ag (ae eb)])::L:=B1 _ X;refine aj.at 0 H.base rfl (show _=some (some (⟨eb,0,none⟩:Ak)) from rfl) ⟨_,mV H.base l,an rfl (aj.at 0 H.base rfl (show _=some (some (⟨eb,0,none⟩:Ak)) from rfl) ⟨rfl,rfl,aj.kO H.base l (show _=some (some mb) from rfl) ?_⟩)⟩;refine Mn H hv W (c:=b) Ay l Y Z λr R d I hR m u H=>?_;have J:=u.1;have N:(wl.map (·.1)).Nodup:=by
  have:=hv.2.2.2;rw[GF] at this;exact this
 have hRl:R.length<=wl.length:=by
  rw[m.length_eq,B3];exact LL _ _
 have hRn:R.Nodup:=by
  refine m.nodup_iff.2 ?_;exact N.sublist (JX.map _)
 have O: ∀f,f∈R<-> ∃e∈wl,e.1=f/\e.2+2<=now:=λf=>by
  rw[m.mem_iff,B2];constructor
  grind
  ·rintro⟨e,h,rfl,c⟩;exact⟨e,I2.2 ⟨h,by simpa using c⟩,rfl⟩
 refine⟨λn st v=> ∃(j:Nat) (a:List B6),j<=R.length/\n=R.length - j/\st.1=(j:Int)/\iz a ck ((wl.filter λe=> !(R.take j).contains e.1).map Fy)/\cC D G w0 v (d++((b,[ag (ae eb)])::L)) ((mb,.map ⟨a⟩ ck)::M),⟨R.length,λv h4=>⟨0,es,FO _,rfl,rfl,?_,H.ext h4⟩⟩,?_⟩
 ·have:(wl.filter λe=> !(R.take 0).contains e.1)=wl:=FY.2 λ_ _=>rfl;rw[this];exact hv
 rintro n ⟨i, _⟩ v ⟨j,a,P,qs,hi,z,H⟩;have hi:i=(j:Int):=hi;subst hi qs;dsimp only;rw[J];have hmb:(b,[ag (some (⟨eb,0,none⟩:Ak))])∈d++((b,[ag (ae eb)])::L):=Av _ Ay;have hme:(eb,ow now s mb)∈d++((b,[ag (some (⟨eb,0,none⟩:Ak))])::L):=Av _ l;obtain⟨jb,hjb⟩:=B5 hmb;refine ab (λc=>?_) (λc=>?_)
 ·have P:j<R.length:=by have:=of_decide_eq_true c;omega
  obtain⟨x,o⟩: ∃x,R[j]? =some x:=⟨_,C8 P⟩;have Q:=u.sl H.base (λy p=>Bs _ p) j x o;refine⟨⟨Q.1,by omega,by omega⟩,aj.of x (by rw[DE];exact Q.2) (aj.at jb H.base hjb (show _=some (some (⟨eb,0,none⟩:Ak)) from rfl) ⟨rfl,rfl,aj.kO H.base hme (show _=some (some mb) from rfl) λS A=>?_⟩)⟩;have H:=H.ext A;obtain⟨e,hew,T,ZW⟩:=(O x).1 (C7 o);have hxn:x∉R.take j:=λhm=>by
   obtain⟨i,hi⟩:=B5 hm;have B:i<(R.take j).length:=(Bx.1 hi).1;rw[Ds] at B;rw[List.getElem?_take_of_lt (by omega)] at hi;have:=(FS (by omega) hRn).1 (hi.trans o.symm);omega
  have lR:(x,aa e.2)∈(wl.filter λe=> !(R.take j).contains e.1).map Fy:=B2.2 ⟨e,I2.2 ⟨hew,by rw[T];simpa using hxn⟩,by rw[<-T]⟩;obtain⟨i,hf,B,U⟩:=z.Fw lR;refine⟨mb,⟨a⟩,ck,rfl,H.get (i:=0) rfl,?_⟩;unfold Ac;rw[hf];have e1:(Array.mk a).eraseIdxIfInBounds i=⟨a.eraseIdx i⟩:=by
   apply Array.ext';simp[NZ,B]
  have H:=H.put (i:=0) rfl (o':= .map ⟨a.eraseIdx i⟩ ck) trivial;show∀I,Ext _ I-> _;rw[e1];refine λw6 h6=>⟨R.length - (j+1),by omega,j+1,a.eraseIdx i,by omega,rfl,?_,?_,H.ext h6⟩
  ·rw[ax (by omega) (by omega)];omega
  ·have E:(((wl.filter λe=> !(R.take j).contains e.1).map Fy).filter λt=> !(t.1==x))=(wl.filter λe=> !(R.take (j+1)).contains e.1).map Fy:=by
    rw[GD,List.filter_filter];congr 1;refine Hr λy _=>?_;rw[List.take_add_one,o]
    grind
   rw[E] at U;exact U
 ·have:j=R.length:=by have:=of_decide_eq_false c;omega
  subst this;refine λS A=>k _ R d a S hR m (by rw[<-J];exact u) ?_ ((H.ext A).sub (Gi (B8 _ _) _));have E:(wl.filter λe=> !(R.take R.length).contains e.1)=wl.filter λe=> !decide (e.2+2<=now):=Hr λy p=>by
   rw[List.take_length];congr 1;rw[Bool.eq_iff_iff,List.contains_iff_mem,decide_eq_true_eq,O];constructor
   ·rintro⟨e,h1,q,h3⟩;have:e=y:=by
     obtain⟨i1,F⟩:=B5 h1;obtain⟨i2,V⟩:=B5 p;have a1:(wl.map (·.1))[i1]? =some y.1:=by rw[BQ,F];exact congrArg some q
     have a2:(wl.map (·.1))[i2]? =some y.1:=by rw[BQ,V];rfl
     have:=(FS (by rw[B3];exact(Bx.1 F).1) N).1 (a1.trans a2.symm);subst this;exact Option.some.inj (F.symm.trans V)
    rw[<-this];exact h3
   ·exact λh=>⟨y,p,rfl,h⟩
  rw[E] at z;exact z
theorem Cu (H:cC D G w0 w L M) (n:Int) {K:Option Ak×Int×Unit->A2->Prop} (kb:n<1\/n>8-> ∀w1,cC D G w0 w1 L M->K (none,1,()) w1)
 (E:1<=n->n<=8-> ∀eb mb s Ls w1,du eI s (B9 n.toNat (-1)) Ls->cC D G w0 w1 ((eb,ow 0 s mb)::(Ls++L)) ((mb,.map ⟨[]⟩ 0)::M)->K (some ⟨eb,0,none⟩,0,()) w1):
 aA AA 84 (.bA [.one .ptr,.one (.int .i64)]) [aa n] w K:=by
 refine λw1 h1=>ai (C:=U0) (aS:=vU) (Al (Cs n w1 K) ?_);have H:=H.ext h1;refine ab (λc=>λf g=>kb (by simpa using c) f (H.ext g)) (λc f g p F=>?_);have t:1<=n/\n<=8:=by
  grind
 obtain⟨m,rfl⟩: ∃m:Nat,n=(m:Int):=⟨n.toNat,by omega⟩;have H:=((H.ext g).alloc (o:= .map #[] 0) trivial).ext F;obtain⟨mb,I⟩: ∃b,b=f.heap.size:=⟨_,rfl⟩;rw[<-I] at H ⊢;obtain⟨eb,u⟩: ∃b,b=p.heap.size:=⟨_,rfl⟩;have H:=H.join (L':=(eb,ow 0 (none,0,0) mb)::L) (w1:=p.alloc (.cells ⟨[aa 0,.slice none 0 0,.map (some mb)]⟩ 210)) (by rw[u];exact H.base.again.alloc _ _);rw[<-u];refine⟨λn st h=> ∃(j:Nat) (s:Option Ak×Nat×Nat) (Ls:List (Nat×List AC)),j<=m/\n=m - j/\st.1=(j:Int)/\du eI s (B9 j (-1)) Ls/\cC D G w0 h (Ls++((eb,ow 0 s mb)::L)) ((mb,.map ⟨[]⟩ 0)::M),⟨m,λh J=>⟨0,(none,0,0),[],FO _,rfl,rfl,du.nil eI,H.ext J⟩⟩,?_⟩;clear H;rintro n ⟨i, _⟩ h ⟨j,s,Ls,N,O,hi,v,H⟩;have hi:i=(j:Int):=hi;subst hi O;dsimp only;have P:(eb,ow 0 s mb)∈Ls++((eb,ow 0 s mb)::L):=Av _ Ay;refine ab (λc=>?_) (λc=>?_)
 ·have N:j<m:=by have:=of_decide_eq_true c;omega
  refine⟨rfl,rfl,aj.kO H.base P (show _=some (s.1,s.2.1,s.2.2) from rfl) λa k V Q=>?_⟩;have y:=by
   have z:=H.ext k;have R:=z.join (w1:=a.alloc (.cells ⟨[aa (-1)]⟩ 3)) (z.base.again.alloc _ _);exact(R.perm B4).ext Q
  refine Fq y v rfl (q:=(some ⟨a.heap.size,0,none⟩,1,1)) (ys:=[(-1:Int)]) rfl (rP (e:=eI) (x:=(-1:Int)) (y.base.dm _ (Av _ Ay))) rfl rfl (by grind) λr l W S d=>⟨rfl,rfl,?_⟩;have d:=(d.sub (Gi (B8 _ _) l)).perm (L':=(eb,ow 0 s mb)::(l++L)) B4.symm;refine λA B=>?_;have key:=az.fK (b:=eb) (o:=0) (n:=1) 0 (d.ext B).base.again rfl (x:= .slice r.1 r.2.1 r.2.2) rfl rfl (λX T=>(d.ext B).join T) A (Ext.refl A);refine⟨key.1,λY U=>⟨m - (j+1),by omega,j+1,r,l,by omega,rfl,?_,?_,(key.2.ext U).perm B4⟩⟩
  ·rw[ax (by omega) (by omega)];omega
  ·rw[M4];exact S
 ·have:j=m:=by have:=of_decide_eq_false c;omega
  subst this;refine λa k=>E t.1 t.2 eb mb s Ls a ?_ ((H.ext k).perm B4.symm);rw[DE];exact v
end
abbrev sO:Type:=Int×Int×Int×Unit
abbrev eC:El:= .one .chan
abbrev Ns (a:sO):AC:= .agg ⟨[aa a.1,aa a.2.1,aa a.2.2.1]⟩
abbrev CR:Type:=Nat×Nat×Nat
abbrev cO (c:CR) (q:List sO):Nat×BI:=(c.1,.chan 16 ⟨q.map Ns⟩ false c.2.1 c.2.2 false)
abbrev qu (cs:List CR) (bx:List (List sO)):List (Nat×BI):=List.zipWith cO cs bx
abbrev dJ (cs:List CR):List (Option Nat):=cs.map λc=>some c.1
abbrev lQ (sb so:Option Ak×Nat×Nat):List AC:=[.slice sb.1 sb.2.1 sb.2.2,.slice so.1 so.2.1 so.2.2]
theorem Ji {cs:List CR} {bx:List (List sO)} {k:Nat} {c:CR} {q:List sO}:(qu cs bx).set k (cO c q)=qu (cs.set k c) (bx.set k q):=by
 induction cs generalizing bx k with
 |nil
 |cons=>
  cases bx with
  |nil
  |cons=>
   cases k with
   |zero
   |succ=>simp_all
theorem xJ {cs:List CR} {bx:List (List sO)} {k:Nat} {c:CR} {q:List sO} (h1:cs[k]? =some c) (a:bx[k]? =some q):(qu cs bx)[k]? =some (cO c q):=by
 grind
theorem _root_.Go.Proofs.YtlcenllcmeebhaaGreat.du.sub {D G:List Nat} {w0 w:A2} {L Ls:List (Nat×List AC)} {e:El} {s:Option Ak×Nat×Nat} {xs:List e.T} (h:du e s xs Ls) (H:aJ D G w0 w L) (a: ∀x∈Ls,x∈L) {lo n:Nat} (j:lo+n<=xs.length):
 Go.RX.oE w (ad s.1 (lo*aD e)) (n*aD e) (flat e ((xs.drop lo).take n)):=by
 obtain⟨h1,k,⟨a1,b⟩|⟨bs,rest,a1,c,b⟩⟩:=h
 ·have:xs=[]:=List.eq_nil_of_length_eq_zero (by omega);subst this;rw[a1,List.drop_nil,List.take_nil];rfl
 ·rw[a1,aY,Nat.zero_add];have d:(flat e ((xs.drop lo).take n)).length=n*aD e:=by rw[aF,Ds,IA,Ij (by omega)]
  refine bN.oE (H.dm _ (a _ (by rw[c];exact H5.2 rfl))) d λi hi=>?_;have f:flat e xs=flat e (xs.take lo)++(flat e ((xs.drop lo).take n)++flat e ((xs.drop lo).drop n)):=by
   rw[<-dN, <-dN,HB,HB]
  have g:(flat e (xs.take lo)).length=lo*aD e:=by rw[aF,Ds,Ij (by omega)]
  rw[f,C9,Fp (by grind),g,Nat.add_sub_cancel_left,C9,IR (by grind)]
section
variable {D G:List Nat} {w0 w:A2} {L Lb Lo:List (Nat×List AC)} {M:List (Nat×BI)} {sb so:Option Ak×Nat×Nat} {cs:List CR} {bx:List (List sO)} {op:List Int} {xb:Nat}
theorem Gm (H:aJ D G w0 w L) (a:(xb,lQ sb so)∈L) (b:sb.2.1=cs.length) (i:Int):af AA 106 [ag (ae xb),aa i] w (.bool (decide (0<=i/\i<(cs.length:Int)))):=by
 refine af.of (s:= .el _) λw' h'=>ai (Al (Uf _ _ w' _) ?_);refine⟨λ_=>rfl,λ_=>rfl,aj.kO (H.ext h') a rfl λw1 h1=>⟨?_,h1⟩⟩
 grind
theorem RR (H:cC D G w0 w (Lb++L) M) (a:(xb,lQ sb so)∈L) (b:du eC sb (dJ cs) Lb) (d: ∀x∈qu cs bx,x∈M) {i:Nat} {c:CR} {q:List sO} (hc:cs[i]? =some c) (e:bx[i]? =some q):
 af AA 82 [ag (ae xb),aa (i:Int)] w (aa (q.length:Int)):=by
 refine af.of (s:= .el (.one (.int .i64))) λw' h'=>ai (C:=U0) (aS:=λ_=>[]) (Al (Kq _ _ w' _) ?_);have H:=H.ext h';have f:sb.2.1=cs.length:=by rw[b.1,B3]
 have hi:i<cs.length:=(Bx.1 hc).1;have g:=b.sl H.base (λy h=>Bs _ h) i (some c.1) (by rw[BQ,hc];rfl);refine⟨_,Gm H.base (Av _ a) f _,an (by rw[decide_eq_true (by omega)];rfl) ⟨rfl,rfl,aj.kO H.base (Av _ a) (rfl) ⟨by grind,aj.of (some c.1) (by dsimp only;rw[DE];exact g.2) ?_⟩⟩⟩;have j:=(H.obj _ (d _ (C7 (xJ hc e)))).1;exact⟨q.length,⟨c.1,16,q.map Ns,c.2.1,c.2.2,rfl,j,by rw[B3]⟩,λl k=>⟨rfl,k⟩⟩
def Oy (op:List Int) (a:Int):Bool:=decide (1<=a/\a<=(op.length:Int))&&op.getD (a - 1).toNat 0==0
theorem VF (H:aJ D G w0 w (Lo++L)) (b:(xb,lQ sb so)∈L) (d:du eI so op Lo) (i:Int) (hb:i<4611686018427387904):
 af AA 161 [ag (ae xb),aa i] w (.bool (Oy op i)):=by
 refine af.of (s:= .el (.one .bool)) λw' h'=>ai (C:=U0) (aS:=λ_=>[]) (Al (PW _ _ w' _) ?_);have H:=H.ext h';have g:=d.1;refine⟨λ_=>rfl,λ_=>rfl,aj.kO H (Av _ b) (rfl) ⟨λ_=>rfl,λ_=>rfl,aj.kO H (Av _ b) (rfl) ?_⟩⟩;dsimp only;rw[g];by_cases c:1<=i/\i<=(op.length:Int)
 ·have j:aZ .i64 i 1=i - 1:=bF (by omega) (by omega);have k:op[(i - 1).toNat]? =some (op.getD (i - 1).toNat 0):=by rw[F1,C8 (by omega)];rfl
  have f:=d.sl H (λy l=>Bs _ l) _ _ k;rw[j];refine⟨λ_=>⟨f.1,by omega,by omega⟩,aj.of _ f.2 λm a=>⟨?_,a⟩⟩;unfold Oy;rw[decide_eq_true c,decide_eq_true c.2,decide_eq_true (show i>=1 from c.1)];rfl
 ·have e:(!(some (⟨xb,0,none⟩:Ak)).isNone&&decide (i>=1)&&decide (i<=(op.length:Int)))=false:=by
   grind
  rw[e];refine⟨λh=>(by cases h),⟨0,λh=>(by cases h),λm a=>⟨?_,a⟩⟩⟩;unfold Oy;rw[decide_eq_false c];rfl
def vG (bx:List (List sO)) (op:List Int) (i:Nat):(sO×Bool×Unit)×List (List sO)×List Int:=match bx[i]? with
 |some (a::q)=>((a,true,()),bx.set i q,op.set (a.1 - 1).toNat (op.getD (a.1 - 1).toNat 0 - 1))
 | _=>(((0,0,0,()),false,()),bx,op)
theorem RU (H:cC D G w0 w ((xb,lQ sb so)::(Lb++(Lo++L))) (qu cs bx++M)) (J:du eC sb (dJ cs) Lb) (m:du eI so op Lo) (hcb:cs.length=bx.length) (i:Nat) (hi:i<cs.length)
 (V: ∀a q,bx[i]? =some (a::q)->(1<=a.1/\a.1<=(op.length:Int))/\ -1000<=op.getD (a.1 - 1).toNat 0/\op.getD (a.1 - 1).toNat 0<=1000) (XL:(op.length:Int)<4611686018427387904) {K:(Int×Int×Int×Unit)×Bool×Unit->A2->Prop}
 (k: ∀u d f,u.length=cs.length->dJ u=dJ cs->du eI so (vG bx op i).2.2 d->cC D G w0 f ((xb,lQ sb so)::(Lb++(d++L))) (qu u (vG bx op i).2.1++M)->K (vG bx op i).1 f):
 aA AA 66 (.bA [.agg [.int .i64,.int .i64,.int .i64],.one .bool]) [ag (ae xb),aa (i:Int)] w K:=by
 refine λw1 h1=>aQ (C:=U0) (aS:=λ_=>[]) (Al (PU _ _ w1 K) λf W=>?_);have H:=(H.ext h1).ext W;obtain⟨b,hb⟩: ∃b,b=f.heap.size:=⟨_,rfl⟩;have H:=H.join (L':=(b,[aa 0,aa 0,aa 0])::(xb,lQ sb so)::(Lb++(Lo++L))) (w1:=f.alloc (.cells ⟨[aa 0,aa 0,aa 0]⟩ 147)) (by rw[hb];exact H.base.again.alloc _ _);rw[<-hb];have X:sb.2.1=cs.length:=by rw[J.1,B3]
 obtain⟨c,hc⟩: ∃c,cs[i]? =some c:=⟨_,C8 hi⟩;obtain⟨q,n⟩: ∃q,bx[i]? =some q:=⟨_,C8 (by omega)⟩;have Y: ∀{x:Nat×List AC},x∈Lb->x∈(b,[aa 0,aa 0,aa 0])::(xb,lQ sb so)::(Lb++(Lo++L)):=λh=>B1 _ (B1 _ (Bs _ h));have N:=J.sl H.base (λy z=>Y z) i (some c.1) (by rw[BQ,hc];rfl);refine⟨_,Gm H.base (B1 _ Ay) X _,an (by rw[decide_eq_true (by omega)];rfl) ⟨rfl,rfl,aj.cw 1 H.base rfl (show _=some (sb.1,sb.2.1,sb.2.2) from rfl) ⟨⟨N.1,by omega,by dsimp only;omega⟩,aj.of (some c.1) (by dsimp only;rw[DE];exact N.2) λw3 Z=>?_⟩⟩⟩;have H:=H.ext Z;have A:=xJ hc n;have O:(qu cs bx++M)[i]? =some (cO c q):=by rw[IR (Bx.1 A).1];exact A
 refine⟨c.1,16,q.map Ns,c.2.1,c.2.2,rfl,H.get O,λB=>?_,λv vs P=>?_⟩
 ·have B:q=[]:=List.map_eq_nil_iff.1 B;subst B;have e:vG bx op i=(((0,0,0,()),false,()),bx,op):=by unfold vG;rw[n]
  rw[e] at k;intro g E;have H:=H.ext E;have key:=az.all 0 H.base.again rfl (vs:=[aa 0,aa 0,aa 0]) rfl rfl (K:=λo=>cC D G w0 o ((b,[aa 0,aa 0,aa 0])::(xb,lQ sb so)::(Lb++(Lo++L))) (qu cs bx++M)) (λo l=>H.join l) g (Ext.refl g);exact⟨key.1,λp r=>aj.at 0 (key.2.ext r).base rfl (show _=some (0,0,0,()) from rfl) (k cs Lo p rfl rfl m ((key.2.ext r).sub (B8 _ _)))⟩
 ·cases q with
  |nil=>cases P
  |cons a q=>
   obtain⟨rfl,rfl⟩:=List.cons.inj P;obtain⟨⟨o1,o2⟩,o3,o4⟩:=V a q n;have e:vG bx op i=((a,true,()),bx.set i q,op.set (a.1 - 1).toNat (op.getD (a.1 - 1).toNat 0 - 1)):=by unfold vG;rw[n]
   rw[e] at k;refine⟨(a.1,a.2.1,a.2.2.1,()),rfl,λg E=>?_⟩;have H:=H.put O (o':= .chan 16 ⟨q.map Ns⟩ false c.2.1 (c.2.2+1) false) trivial;have ez:(qu cs bx++M).set i (c.1,.chan 16 ⟨q.map Ns⟩ false c.2.1 (c.2.2+1) false)=qu (cs.set i (c.1,c.2.1,c.2.2+1)) (bx.set i q)++M:=by
    rw[M5 _ _ (Bx.1 A).1];congr 1;exact Ji (c:=(c.1,c.2.1,c.2.2+1))
   rw[ez] at H;have H:=H.ext E;obtain⟨s,Q⟩: ∃s,s=g.heap.size:=⟨_,rfl⟩;have H:=H.join (L':=(s,[aa 0,aa 0,aa 0])::(b,[aa 0,aa 0,aa 0])::(xb,lQ sb so)::(Lb++(Lo++L))) (w1:=g.alloc (.cells ⟨[aa 0,aa 0,aa 0]⟩ 147)) (by rw[Q];exact H.base.again.alloc _ _);rw[<-Q];intro p r;have H:=H.ext r;have key:=az.all 0 H.base.again rfl (vs:=[aa a.1,aa a.2.1,aa a.2.2.1]) rfl rfl (λo l=>H.join l) p (Ext.refl p);refine⟨key.1,?_⟩;have H:=key.2;have e1:aZ .i64 a.1 1=a.1 - 1:=bF (by omega) (by omega);have hx:op[(a.1 - 1).toNat]? =some (op.getD (a.1 - 1).toNat 0):=by rw[F1,C8 (by omega)];rfl
   have acJ:=m.1;have F:=m.sl H.base (λy z=>B1 _ (B1 _ (B1 _ (Av _ (Bs _ z))))) _ _ hx;refine⟨rfl,rfl,aj.cw 2 H.base rfl (show _=some (so.1,so.2.1,so.2.2) from rfl) ⟨rfl,aj.cw 0 H.base rfl (show _=some a.1 from rfl) ?_⟩⟩;dsimp only;rw[e1];refine⟨⟨F.1,by omega,by omega⟩,aj.of _ F.2 ⟨⟨F.1,by omega,by omega⟩,?_⟩⟩;rw[bF (by omega) (by omega)];have Hp:=H.perm (by
    have I:(Lo++(Lb++L)).Perm (Lb++(Lo++L)):=by rw[<-C9, <-C9];exact GS _ Dl
    exact B4.trans (DB _ (B4.trans (DB _ (B4.trans (DB _ I))))))
   refine stM Hp m (i:=(a.1 - 1).toNat) (by omega) (op.getD (a.1 - 1).toNat 0 - 1) rfl rfl λd w6 xS t=>?_;have t:=t.perm (L':=(s,[aa a.1,aa a.2.1,aa a.2.2.1])::(b,[aa 0,aa 0,aa 0])::(xb,lQ sb so)::(Lb++(d++L))) (by
    have I:(Lb++(d++L)).Perm (d++(Lb++L)):=by rw[<-C9, <-C9];exact GS _ Dl
    refine List.Perm.symm ?_;exact B4.trans (DB _ (B4.trans (DB _ (B4.trans (DB _ I.symm)))))
    )
   refine aj.at 0 t.base rfl (show _=some (a.1,a.2.1,a.2.2.1,()) from rfl) λR h7=>?_;have S:=t.ext h7;have key:=az.all 1 S.base.again rfl (vs:=[aa a.1,aa a.2.1,aa a.2.2.1]) rfl rfl (λo l=>S.join l) R (Ext.refl R);refine⟨key.1,λw8 T=>aj.at 1 (key.2.ext T).base rfl (show _=some (a.1,a.2.1,a.2.2.1,()) from rfl) (k (cs.set i (c.1,c.2.1,c.2.2+1)) d w8 (Df ..) ?_ xS ((key.2.ext T).sub ((B8 _ _).trans (B8 _ _))))⟩;refine GG λj=>?_;rw[BQ,BQ];by_cases U:i=j
   ·subst U;rw[Do hi,hc];rfl
   ·rw[FM U]
end
section
variable {D G:List Nat} {w0 w:A2} {L:List (Nat×List AC)} {M:List (Nat×BI)}
theorem alM (H:cC D G w0 w L M) {cs:List AC} {e:TypeId} {K:Nat->A2->Prop} (k: ∀b w1,cC D G w0 w1 ((b,cs)::L) M->K b w1):aM w ⟨cs⟩ e K:=λw1 h1=>
 k _ _ ((H.ext h1).join ((H.ext h1).base.again.alloc cs e))
theorem Wq (H:cC D G w0 w L M) (i:Nat) {b n:Nat} {l:List AC} {x:AC} {K:A2->Prop} (a:L[i]? =some (b,l)) (c:x.oneCell'=true) (e:Nat.blt n l.length=true) (k: ∀w1,cC D G w0 w1 (L.set i (b,l.set n x)) M->K w1):az w (ad (ae b) n) [x] K:=λw1 h1=>
 az.fK i (H.ext h1).base.again a c (by grind) (λd f=>k d ((H.ext h1).join (by grind))) w1 (Ext.refl w1)
theorem stB (H:cC D G w0 w L M) (i:Nat) {b:Nat} {l vs:List AC} {K:A2->Prop} (a:L[i]? =some (b,l)) (c:vs.all (·.oneCell')=true) (d:vs.length=l.length) (k: ∀w1,cC D G w0 w1 (L.set i (b,vs)) M->K w1):az w (ae b) vs K:=λw1 h1=>
 az.all i (H.ext h1).base.again a c d (λe f=>k e ((H.ext h1).join f)) w1 (Ext.refl w1)
theorem enM (H:cC D G w0 w L M) {K:A2->Prop} (k: ∀w1,cC D G w0 w1 L M->K w1):au w K:=λ_ h=>k _ (H.ext h)
end
section
variable {D G:List Nat} {w0 w:A2} {L Lb Lo:List (Nat×List AC)} {M:List (Nat×BI)} {sb so:Option Ak×Nat×Nat} {cs:List CR} {bx:List (List sO)} {op:List Int} {xb:Nat}
theorem xK {α:Type} (A B C:List α):(A++(B++C)).Perm (B++(A++C)):=by
 grind[GS,Dl]
theorem HA (H:cC D G w0 w (Lb++L) M) (v:(xb,lQ sb so)∈L) (f:du eC sb (dJ cs) Lb) (i:Nat) (hi:i<cs.length) (U:cs.length<=8) {K:Option Ak×Nat×Nat->A2->Prop}
 (k: ∀r g b,du eC r ((dJ cs).eraseIdx i) g->cC D G w0 b (g++(Lb++L)) M->K r b):
 aA AA 202 (.el (.one .slice)) [ag (ae xb),aa (i:Int)] w K:=by
 refine λw1 h1=>ai (C:=U0) (aS:=λ_=>[]) (Al (GX _ _ w1 K) ?_);have H:=H.ext h1;obtain⟨p,n,c⟩:=sb;have V:n=(dJ cs).length:=f.1;have W:(dJ cs).length=cs.length:=B3 _;have hc:(dJ cs).length<=c:=f.2.1;have l:aL .i64 (i:Int) 1=((i+1:Nat):Int):=by rw[ax (by omega) (by omega)];omega
 have m:(xb,lQ (p,n,c) so)∈Lb++L:=Av _ v;refine⟨rfl,rfl,aj.kO H.base m (show _=some (p,n,c) from rfl) ⟨?_,λb A=>?_⟩⟩
 ·dsimp only;omega
 have H:=H.ext A;dsimp only;have X:(Decidable.rec (λ_=>ad p 0) (λ_=>p) (instDecidableEqNat ((c:Int)).toNat 0:Decidable (((c:Int)).toNat=((0:Nat):Int).toNat)):Option Ak)=p:=F9 (show((c:Int)).toNat≠0 by omega)▸by
  rcases p with _|a
  ·rfl
  ·rfl
 have Y:((i:Int)).toNat - 0=i:=by omega
 have B:Go.RX.oE b p (i*aD eC) (flat eC ((dJ cs).take i)):=by
  have:=f.sub H.base (λy h=>Bs _ h) (lo:=0) (n:=i) (by omega);rw[Nat.zero_mul,List.drop_zero] at this;rcases p with _|a
  ·exact this
  ·have e:ad (some a) 0=some a:=by show some (a.add 0)=some a;rfl
   rw[e] at this;exact this
 have key:=Fq (Ls:=[]) H (du.nil eC) (show gW eC=true from rfl) (q:=(p,i,(c:Int).toNat - 0)) (ys:=(dJ cs).take i) (by rw[Ds,Ij (by omega)]) B (t:=202) (size:=1) (bytes:=8) (z:=⟨[Value.chan none]⟩) rfl rfl (by rw[JY,Ds];omega)
  (R:=λr b=>(some (⟨xb,0,none⟩:Ak)).isSome=true/\(some (⟨xb,0,none⟩:Ak)).isSome=true/\aj b none (ad (ae xb) 0) (.one .slice) λx=>(0<=aL .i64 (i:Int) 1/\aL .i64 (i:Int) 1<=((x.2.1:Nat):Int)/\((x.2.1:Nat):Int)<=((x.2.2:Nat):Int)/\((x.2.2:Nat):Int)<=((x.2.2:Nat):Int))/\ ∀w1,Ext b w1->
   mD w1 202 1 8 ⟨[Value.chan none]⟩ (r.1,r.2.1,r.2.2) (Decidable.rec (λ_=>ad x.1 ((aL .i64 (i:Int) 1).toNat*1)) (λ_=>x.1) (instDecidableEqNat ((x.2.2:Nat):Int).toNat (aL .i64 (i:Int) 1).toNat),((x.2.1:Nat):Int).toNat - (aL .i64 (i:Int) 1).toNat,((x.2.2:Nat):Int).toNat - (aL .i64 (i:Int) 1).toNat) λr b=>au b λw1=>K (r.1,r.2.1,r.2.2) w1) λr g Z E o=>?_
 grind
 ·refine⟨rfl,rfl,aj.kO o.base (Av _ m) (show _=some (p,n,c) from rfl) ⟨?_,λF I=>?_⟩⟩
  ·rw[l];dsimp only;omega
  have s:=o.ext I;rw[l];dsimp only;have J:Go.RX.oE F (if((c:Int)).toNat=((i+1:Nat):Int).toNat then p else ad p (((i+1:Nat):Int).toNat*1)) ((((n:Nat):Int).toNat - ((i+1:Nat):Int).toNat)*aD eC) (flat eC ((dJ cs).drop (i+1))):=by
   by_cases d:c=i+1
   ·have:(dJ cs).drop (i+1)=[]:=List.drop_eq_nil_of_le (by omega);rw[this,av (by omega),show((((n:Nat):Int).toNat - ((i+1:Nat):Int).toNat))=0 by omega];rcases p with _|a
    ·rfl
    ·exact⟨rfl,λj N=>by simp at N⟩
   ·rw[ao (by omega)];have:=f.sub s.base (λy h=>Av _ (Bs _ h)) (lo:=i+1) (n:=(dJ cs).length - (i+1)) (by omega);rw[List.take_of_length_le (by rw[IA];exact E5 _)] at this;rw[show((((n:Nat):Int).toNat - ((i+1:Nat):Int).toNat))=(dJ cs).length - (i+1) by omega];exact this
  have O:(Decidable.rec (λ_=>ad p (((i+1:Nat):Int).toNat*1)) (λ_=>p) (instDecidableEqNat ((c:Int)).toNat ((i+1:Nat):Int).toNat):Option Ak)=if((c:Int)).toNat=((i+1:Nat):Int).toNat then p else ad p (((i+1:Nat):Int).toNat*1):=by
   by_cases d:((c:Int)).toNat=((i+1:Nat):Int).toNat
   ·rw[av d,OS d]
   ·rw[ao d,F9 d]
  rw[O];refine Fq s E rfl (ys:=(dJ cs).drop (i+1)) (by grind) J rfl rfl (by
   rw[N5,Ds,IA];omega) λr2 P w5 u Q=>λS T=>k _ P S ?_ (Q.ext T)
  rw[JS];rw[N5] at u;exact u
def vr (i j:Nat):Nat:=if j<i then j else j+1
def Td (i k:Nat):Nat:=if k<i then k else k - 1
def lC (bx:List (List sO)) (i j:Nat) (a:sO):List (List sO):=bx.zipIdx.map λ(q,k)=>if k≠i/\Td i k<j then q++[a] else q
theorem ql {bx:List (List sO)} {i j k:Nat} {a:sO} {q:List sO} (h:bx[k]? =some q):(lC bx i j a)[k]? =some (if k≠i/\Td i k<j then q++[a] else q):=by grind[lC]
theorem HD {bx:List (List sO)} {i j:Nat} {a:sO} {q:List sO} (h:bx[vr i j]? =some q):(lC bx i j a).set (vr i j) (q++[a])=lC bx i (j+1) a:=by
 have c:vr i j≠i/\Td i (vr i j)=j:=by unfold vr Td;grind
 refine GG λk=>?_;by_cases e:vr i j=k
 ·subst e;rw[Do (by grind[lC,B3,N7]),ql h,av (by grind)]
 ·rw[FM e];cases b:bx[k]? with
  |none=>
   grind[lC,B3,N7]
  |some d=>
   rw[ql b,ql b];have:(k≠i/\Td i k<j)<->(k≠i/\Td i k<j+1):=by
    grind[Td,vr]
   grind
def vH (bx:List (List sO)) (op:List Int) (n:Nat) (t p:Int):Int×List (List sO)×List Int:=
 if t<1\/t>16\/p< -1\/p>=65536 then(0,bx,op)
 else if(bx.eraseIdx n).any (λq=>q.length==16)=true then(0,bx,op)
 else((op.length:Int)+1,(bx.zipIdx.map λ(q,i)=>if i=n then q else q++[((op.length:Int)+1,t,p,())]),op++[(bx.length:Int) - 1])
theorem Mq {bx:List (List sO)} {i:Nat} (hi:i<bx.length) (a:sO):lC bx i (bx.length - 1) a=bx.zipIdx.map λ(q,k)=>if k=i then q else q++[a]:=by
 refine List.map_congr_left λx b=>?_;obtain⟨q,k⟩:=x;dsimp;by_cases e:k=i
 grind
 ·rw[ao e,av (by grind[Td])]
theorem HE (bx:List (List sO)) (i:Nat) (a:sO):lC bx i 0 a=bx:=by
 simp[lC]
theorem Ck {α:Type} (l:List α) (i j:Nat):(l.eraseIdx i)[j]? =l[vr i j]? :=by grind[vr]
theorem RV (H:cC D G w0 w ((xb,lQ sb so)::(Lb++(Lo++L))) (qu cs bx++M)) (hs:du eC sb (dJ cs) Lb) (J:du eI so op Lo) (hcb:cs.length=bx.length) (i:Nat) (hi:i<cs.length) (hl:cs.length<=8) (XL:(op.length:Int)<=1000000000) (XM: ∀q∈bx,q.length<=16) (t g:Int) {K:Int×Int×Unit->A2->Prop}
 (k: ∀e f o h z,f.length=cs.length->dJ f=dJ cs->du eI o (vH bx op i t g).2.2 h->cC D G w0 z ((xb,lQ sb o)::(Lb++(h++L))) (qu f (vH bx op i t g).2.1++M)->K ((vH bx op i t g).1,e,()) z):
 aA AA 157 (.bA [.one (.int .i64),.one (.int .i64)]) [ag (ae xb),aa (i:Int),aa t,aa g] w K:=by
 refine λw1 h1=>ai (C:=U0) (aS:=tY) (Al (PV _ _ t g w1 K) ?_);have H:=H.ext h1;have hn:sb.2.1=cs.length:=by rw[hs.1,B3]
 refine⟨λ_=>rfl,λ_=>rfl,aj.cw 0 H.base rfl (show _=some (sb.1,sb.2.1,sb.2.2) from rfl) ?_⟩;dsimp only;rw[hn];refine an (by rw[show((cs.length:Int)==0)=false by rw[beq_eq_false_iff_ne];omega];rfl) ⟨_,Gm H.base Ay hn _,an (by rw[decide_eq_true (by omega)];rfl) ?_⟩;by_cases N:t<1\/t>16\/g< -1\/g>=65536
 ·refine aB ?_ (enM H λz H=>?_)
  ·simp only[NG,decide_eq_true_eq];omega
  ·have e:vH bx op i t g=(0,bx,op):=av N;rw[e] at k;exact k 1 cs so Lo z rfl rfl J H
 refine an ?_ ?_
 ·simp only[E4,decide_eq_false_iff_not];omega
 have Hp:cC D G w0 w1 (Lb++((xb,lQ sb so)::(Lo++L))) (qu cs bx++M):=H.perm B4;refine HA Hp Ay hs i hi hl λr l z O H=>?_;have hrn:r.2.1=cs.length - 1:=by rw[O.1,Ia,B3,av hi]
 have hxm:(xb,lQ sb so)∈l++(Lb++((xb,lQ sb so)::(Lo++L))):=Av _ (Av _ Ay);have aau: ∀j,j<cs.length - 1-> ∃c q,cs[vr i j]? =some c/\bx[vr i j]? =some q/\((dJ cs).eraseIdx i)[j]? =some (some c.1):=λj p=>by
  have h2:vr i j<cs.length:=by unfold vr;split<;>omega
  obtain⟨c,hc⟩: ∃c,cs[vr i j]? =some c:=⟨_,C8 h2⟩;obtain⟨q,m⟩: ∃q,bx[vr i j]? =some q:=⟨_,C8 (by omega)⟩;exact⟨c,q,hc,m,by rw[Ck,BQ,hc];rfl⟩
 refine⟨λn st u=> ∃j:Nat,j<=cs.length - 1/\n=cs.length - 1 - j/\st.1=(j:Int)/\(∀s q,s<j->(bx.eraseIdx i)[s]? =some q->q.length≠16)/\cC D G w0 u (l++(Lb++((xb,lQ sb so)::(Lo++L)))) (qu cs bx++M),⟨cs.length - 1,λu h3=>⟨0,FO _,rfl,rfl,λs q p=>absurd p (NV _),H.ext h3⟩⟩,?_⟩;clear H Hp;rintro n ⟨P, _⟩ u ⟨j,p,Q,v,R,H⟩;have v:P=(j:Int):=v;subst v Q;dsimp only;rw[hrn];refine ab (λc=>?_) (λc=>?_)
 ·have p:j<cs.length - 1:=by have:=of_decide_eq_true c;omega
  obtain⟨c,q,hc,m,S⟩:=aau j p;have E:=O.sl H.base (λy T=>Bs _ T) j _ S;have vl:=(H.obj _ (Bs _ (C7 (xJ hc m)))).1;refine⟨⟨E.1,by omega,by omega⟩,aj.of (some c.1) (by rw[DE];exact E.2) ⟨q.length,⟨c.1,16,q.map Ns,c.2.1,c.2.2,rfl,vl,by rw[B3]⟩,?_⟩⟩;refine ab (λF=>enM H λU H=>?_) (λF U h4=>⟨cs.length - 1 - (j+1),by omega,j+1,by omega,rfl,?_,λs q' V W=>?_,H.ext h4⟩)
  ·have F:q.length=16:=by have:(q.length:Int)=16:=(by simpa using F);omega
   have e:vH bx op i t g=(0,bx,op):=by
    unfold vH;rw[ao N,av (GH.2 ⟨q,C7 (show(bx.eraseIdx i)[j]? =some q by rw[Ck];exact m),by simp[F]⟩)]
   rw[e] at k;refine k 3 cs so Lo U rfl rfl J ((H.sub (Fu _ _)).perm B4.symm)
  ·rw[ax (by omega) (by omega)];omega
  ·by_cases e:s=j
   ·subst e;rw[Ck,m] at W;cases W;have: ¬ (q.length:Int)=16:=by simpa using F
    omega
   ·exact R s q' (by omega) W
 have X:j=cs.length - 1:=by have:=of_decide_eq_false c;omega
 subst X;have uG: ¬ (bx.eraseIdx i).any (λq=>q.length==16)=true:=λc=>by
  obtain⟨q,m,Ws⟩:=GH.1 c;obtain⟨s,V⟩:=B5 m;have wH:s<(bx.eraseIdx i).length:=(Bx.1 V).1;rw[Ia,av (by omega)] at wH;exact R s q (by omega) V (by simpa using Ws)
 have ep:vH bx op i t g=((op.length:Int)+1,lC bx i (bx.length - 1) ((op.length:Int)+1,t,g,()),op++[(bx.length:Int) - 1]):=by
  unfold vH;rw[ao N,ao uG,Mq (by omega)]
 rw[ep] at k;refine⟨rfl,rfl,aj.kO H.base hxm (show _=some (so.1,so.2.1,so.2.2) from rfl) (alM H λb U H w5 h5=>?_)⟩;have H:=H.ext h5;have Hq:cC D G w0 w5 (Lo++((b,[aa ((cs.length - 1:Nat):Int)])::(l++(Lb++((xb,lQ sb so)::L))))) (qu cs bx++M):=H.perm (by
  refine B4.trans (DB _ ?_);have p1:(Lo++(l++(Lb++((xb,lQ sb so)::L)))).Perm (l++(Lo++(Lb++((xb,lQ sb so)::L)))):=xK _ _ _;refine p1.trans (If _ ?_);have p2:(Lo++(Lb++((xb,lQ sb so)::L))).Perm (Lb++(Lo++((xb,lQ sb so)::L))):=xK _ _ _;exact p2.trans (If _ B4))
 refine Fq Hq J rfl (q:=(some ⟨b,0,none⟩,1,1)) (ys:=[((cs.length - 1:Nat):Int)]) rfl (rP (e:=eI) (x:=((cs.length - 1:Nat):Int)) (Hq.base.dm _ (Av _ Ay))) rfl rfl (by simp only[I1];omega) λo h w6 Y H=>?_;have acd:op++[((cs.length - 1:Nat):Int)]=op++[(bx.length:Int) - 1]:=by rw[show((cs.length - 1:Nat):Int)=(bx.length:Int) - 1 by omega]
 rw[acd] at Y;have H:=(H.sub (Gi (B8 _ _) h)).perm (L':=(xb,lQ sb so)::(l++(Lb++(h++L)))) (by
  have p2:(l++(Lb++(h++L))).Perm (h++(l++(Lb++L))):=by
   have a1:(Lb++(h++L)).Perm (h++(Lb++L)):=xK _ _ _;have a2:(l++(h++(Lb++L))).Perm (h++(l++(Lb++L))):=xK _ _ _;exact(If _ a1).trans a2
  refine(DB _ p2).trans ?_;have a3: ∀(A B C:List (Nat×List AC)) (x:Nat×List AC),(x::(A++(B++(C++L)))).Perm (A++(B++(C++(x::L)))):=λA B C x=>by
   rw[<-C9, <-C9, <-C9, <-C9];exact B4.symm
  exact a3 _ _ _ _)
 refine⟨rfl,rfl,Wq H 0 rfl rfl rfl λw7 H=>⟨rfl,rfl,aj.cw 0 H.base rfl (show _=some (o.1,o.2.1,o.2.2) from rfl) ?_⟩⟩;have H:cC D G w0 w7 ((xb,lQ sb o)::(l++(Lb++(h++L)))) (qu cs bx++M):=H;have aac:(o.2.1:Int)=(op.length:Int)+1:=by
  have:=Y.1;rw[Fv,I1] at this;omega
 dsimp only;rw[aac];obtain⟨a,ha⟩: ∃a:sO,a=((op.length:Int)+1,t,g,()):=⟨_,rfl⟩;rw[<-ha] at k;refine⟨λn st u=> ∃(j:Nat) (f:List CR),j<=cs.length - 1/\n=cs.length - 1 - j/\st.1=(j:Int)/\f.length=cs.length/\dJ f=dJ cs/\cC D G w0 u ((xb,lQ sb o)::(l++(Lb++(h++L)))) (qu f (lC bx i j a)++M),⟨cs.length - 1,λw8 h8=>⟨0,cs,FO _,rfl,rfl,rfl,rfl,by rw[HE];exact H.ext h8⟩⟩,?_⟩;clear H Hq;rintro n ⟨P, _⟩ w8 ⟨j,f,p,Q,v,Z,BH,H⟩;have v:P=(j:Int):=v;subst v Q;dsimp only;refine ab (λc=>?_) (λc=>?_)
 ·have p:j<cs.length - 1:=by have:=of_decide_eq_true c;omega
  obtain⟨c,q,hc,m,S⟩:=aau j p;have E:=O.sl H.base (λy T=>B1 _ (Bs _ T)) j _ S;refine⟨⟨E.1,by omega,by omega⟩,aj.of (some c.1) (by rw[DE];exact E.2) λw9 h9=>?_⟩;have H:=H.ext h9;obtain⟨d,I⟩: ∃d,f[vr i j]? =some d:=⟨_,C8 (by rw[Z];exact(Bx.1 hc).1)⟩;have Wt:d.1=c.1:=by
   have h1:(dJ f)[vr i j]? =some (some d.1):=by rw[BQ,I];rfl
   rw[BH,BQ,hc] at h1;exact(Option.some.inj (Option.some.inj h1)).symm
  have dh:vr i j≠i/\Td i (vr i j)=j:=by unfold vr Td;split<;>(first|omega|(constructor<;>(try split)<;>omega))
  have hsq:(lC bx i j a)[vr i j]? =some q:=by rw[ql m,ao λc=>by rw[dh.2] at c;exact Nat.lt_irrefl _ c.2]
  have hz:=xJ I hsq;have hmz:(qu f (lC bx i j a)++M)[vr i j]? =some (cO d q):=by rw[IR (Bx.1 hz).1];exact hz
  have Ws:q.length≠16:=R j q p (by rw[Ck];exact m);have acK:=XM q (C7 m);refine⟨d.1,16,q.map Ns,d.2.1,d.2.2,by rw[Wt],H.get hmz,by rw[B3];omega,?_⟩;have H:=H.put hmz (o':= .chan 16 ⟨(q++[a]).map Ns⟩ false (d.2.1+1) d.2.2 false) trivial;have ez:(qu f (lC bx i j a)++M).set (vr i j) (d.1,.chan 16 ⟨(q++[a]).map Ns⟩ false (d.2.1+1) d.2.2 false)=qu (f.set (vr i j) (d.1,d.2.1+1,d.2.2)) (lC bx i (j+1) a)++M:=by
   rw[M5 _ _ (Bx.1 hz).1, <-HD m];congr 1;exact Ji (c:=(d.1,d.2.1+1,d.2.2))
  rw[ez] at H;have ev:(q.map Ns).append [Value.agg ⟨[aa ((op.length:Int)+1),aa t,aa g]⟩]=(q++[a]).map Ns:=by
   rw[DA,ha];rfl
  show∀u,Ext (w9.putObj d.1 (.chan 16 ⟨(q.map Ns).append _⟩ false (d.2.1+1) d.2.2 false)) u-> _;rw[ev];refine λnh Fk=>⟨cs.length - 1 - (j+1),by omega,j+1,f.set (vr i j) (d.1,d.2.1+1,d.2.2),by omega,rfl,?_,by rw[Df];exact Z,?_,H.ext Fk⟩
  ·rw[ax (by omega) (by omega)];omega
  ·rw[<-BH];refine GG λy=>?_;rw[BQ,BQ];by_cases ej:vr i j=y
   ·subst ej;rw[Do (Bx.1 I).1,I];rfl
   ·rw[FM ej]
 ·have X:j=cs.length - 1:=by have:=of_decide_eq_false c;omega
  subst X;refine enM H λw9 H=>k 0 f o h w9 Z BH Y ?_;rw[<-hcb];exact H.sub (List.Sublist.cons_cons _ (Fu _ _))
theorem VG (H:cC D G w0 w L M) (n:Int) {K:Option Ak×Int×Unit->A2->Prop} (kb:n<1\/n>8-> ∀w1,cC D G w0 w1 L M->K (none,1,()) w1)
 (t:1<=n->n<=8-> ∀xb cs sb Lb w1,cs.length=n.toNat->du eC sb (dJ cs) Lb->cC D G w0 w1 ((xb,lQ sb (none,0,0))::(Lb++L)) (qu cs (B9 n.toNat [])++M)->K (some ⟨xb,0,none⟩,0,()) w1):
 aA AA 85 (.bA [.one .ptr,.one (.int .i64)]) [aa n] w K:=by
 refine λw1 h1=>ai (C:=U0) (aS:=vT) (Al (Ug n w1 K) ?_);have H:=H.ext h1;refine ab (λc=>λk u=>kb (by simpa using c) k (H.ext u)) (λc=>alM H λxb k H=>?_);have l:1<=n/\n<=8:=by
  grind
 obtain⟨m,rfl⟩: ∃m:Nat,n=(m:Int):=⟨n.toNat,by omega⟩;refine⟨λn st d=> ∃(j:Nat) (cs:List CR) (s:Option Ak×Nat×Nat) (Ls:List (Nat×List AC)),j<=m/\n=m - j/\st.1=(j:Int)/\cs.length=j/\du eC s (dJ cs) Ls/\cC D G w0 d (Ls++((xb,lQ s (none,0,0))::L)) (qu cs (B9 j [])++M),⟨m,λd v=>⟨0,[],(none,0,0),[],FO _,rfl,rfl,rfl,du.nil eC,H.ext v⟩⟩,?_⟩;clear H;rintro n ⟨i, _⟩ d ⟨j,cs,s,Ls,y,z,hi,f,p,H⟩;have hi:i=(j:Int):=hi;subst hi z;dsimp only;have A:(xb,lQ s (none,0,0))∈Ls++((xb,lQ s (none,0,0))::L):=Av _ Ay;refine ab (λc=>?_) (λc=>?_)
 ·have y:j<m:=by have:=of_decide_eq_true c;omega
  refine⟨rfl,rfl,aj.kO H.base A (show _=some (s.1,s.2.1,s.2.2) from rfl) λg h=>?_⟩;have H:=(H.ext h).alloc (o:= .chan 16 #[] false 0 0 false) trivial;obtain⟨c1,B⟩: ∃c1,c1=g.heap.size:=⟨_,rfl⟩;rw[<-B] at H ⊢;refine alM H λb J H N E=>?_;have H:=(H.ext E).perm (L':=Ls++((b,[.chan (some c1)])::(xb,lQ s (none,0,0))::L)) B4;refine Fq H p rfl (q:=(some ⟨b,0,none⟩,1,1)) (ys:=[some c1]) rfl (rP (e:=eC) (x:=some c1) (H.base.dm _ (Av _ Ay))) rfl rfl (by grind) λr a O P H=>⟨rfl,rfl,?_⟩;have H:=(H.sub (Gi (B8 _ _) a)).perm (L':=(xb,lQ s (none,0,0))::(a++L)) B4.symm;refine Wq H 0 rfl rfl rfl λQ H R F=>⟨m - (j+1),by omega,j+1,cs++[(c1,0,0)],r,a,by omega,rfl,?_,by rw[Fv,f];rfl,?_,?_⟩
  ·rw[ax (by omega) (by omega)];omega
  grind
  ·have I:qu (cs++[(c1,0,0)]) (B9 (j+1) [])=qu cs (B9 j [])++[cO (c1,0,0) []]:=by
    unfold qu;rw[M4,List.zipWith_append (by rw[f,Dk])];rfl
   rw[I,C9];refine((H.ext F).perm (L':=a++((xb,lQ r (none,0,0))::L)) B4).ly ?_;exact B4
 ·have:j=m:=by have:=of_decide_eq_false c;omega
  subst this;refine λg h=>t l.1 l.2 xb cs s Ls g (by rw[DE];exact f) p ?_;rw[DE];exact(H.ext h).perm B4.symm
end
end Go.Proofs.YtlcenllcmeebhaaGreat.Mu
namespace Go.Proofs.YtlcenllcmeebhaaGreat
set_option maxRecDepth 100000
open Go.RX D
def mR (g:Nat->Option GV):Option Nat:=((AN 16).find? λi=>(g (i+1)).isNone).map (· +1)
theorem nT {g:Nat->Option GV} {v:Nat}:mR g=some v<->(1<=v/\v<=16)/\g v=none/\ ∀u,1<=u->u<v->(g u).isSome:=by
 unfold mR;rw[Nt];constructor
 ·rintro⟨i,hi,rfl⟩;rw[N9] at hi;obtain⟨h1,a,b⟩:=hi;rw[CX] at a;refine⟨by omega,by simpa using h1,λu c d=>?_⟩;have:=b (u - 1) (by omega);rw[show u - 1+1=u by omega] at this;simpa using this
 ·rintro⟨h1,a,b⟩;refine⟨v - 1,?_,by omega⟩;rw[N9];refine⟨by rw[show v - 1+1=v by omega,a];rfl,CX.2 (by omega),λj e=>?_⟩;have:=b (j+1) (by omega) (by omega);simpa using this
theorem HF {g:Nat->Option GV}:mR g=none<-> ∀u,1<=u->u<=16->(g u).isSome:=by
 unfold mR;rw[Nw,H7];constructor
 ·intro h u b c;have:=h (u - 1) (CX.2 (by omega));rw[show u - 1+1=u by omega] at this;cases a:g u with
  |none=>rw[a] at this;exact absurd rfl this
  |some x=>rfl
 ·intro h i hi e;have:=h (i+1) (by omega) (by have:=CX.1 hi;omega);rw[Option.isNone_iff_eq_none.1 e] at this;cases this
def oZ (h:HS):Int:=match mR h.g with
 |none=>3
 |some v=>rk h.s (v:Int)
def AM (h:HS):Int:=match mR h.g with
 |none=>0
 |some v=>(v:Int)
def gS (h:HS):HS:=match mR h.g with
 |none=>h
 |some v=>if rk h.s (v:Int)=0 then{h with s:=iT h.s (v:Int) λ_=>0,g:=bq h.g v (some ⟨eK h.s (v:Int),[]⟩)} else h
theorem nU (A:Nat->GA) (g:Nat->Option GV):(mA A g).length=17:=by
 unfold mA;rw[B3,List.length_range]
theorem Jj (Q:Sys) (X:HX) (A:Nat->GA) (g:Nat->Option GV):(fV Q X A g).length=21:=by
 unfold fV;rw[Fv,nU];rfl
theorem Jk {Q:Sys} {X:HX} {A A':Nat->GA} {g g':Nat->Option GV} {v:Nat} (hv:v<17) (h: ∀j,j≠v->A' j=A j/\g' j=g j):(fV Q X A g).set (4+v*1) (ag (kQ A' g' v))=fV Q X A' g':=by
 have e:(mA A g).set v (ag (kQ A' g' v))=mA A' g':=by
  apply GG;intro i;by_cases hi:i<17
  ·rw[ve hi];by_cases e:v=i
   ·subst e;rw[Do (by rw[nU];exact hi)]
   ·rw[FM e,ve hi];obtain⟨h1,a⟩:=h i (λe'=>e e'.symm);unfold kQ;rw[h1,a]
  ·rw[ND (by rw[Df,nU];omega),ND (by rw[nU];omega)]
 unfold fV;rw[Hb _ _ (by show 4<=4+v*1;omega)];rw[<-e];show _++(mA A g).set (4+v*1 - 4) _= _;rw[show 4+v*1 - 4=v by omega]
section
variable {Q:Sys} {X:HX} {D G:List Nat} {w0 w:A2} {h:HS} {L:List (Nat×List AC)} {K:RS->A2->Prop}
theorem abu {A:Nat->GA} (W:Dg A h) {v:Nat} (hv:1<=v/\v<=16) (f:h.g v=none) {s':WD} {r:Int} {bg bt bm l m:Nat} {n la:List AC} {j:A2}
 (H:SM Q D G w0 j s' ((bg,[ag (ae bt),.map (some bm)])::(bt,oH Q (v:Int) r false)::(l,n)::(m,la)::(X.hb,(fV Q X A h.g).set (4+v*1) (ag (ae bg)))::(X.gb,mE X.uC h.gr.length X.c)::(X.uC,flat eG h.gr++X.rest)::(X.pb,Po.gM 4 h.po)::(bh Q A h.g (AN 17)++L)) ((bm,.map #[] 0)::dg A h.g (AN 17))):
 jm Q X D G w0 j {h with s:=s',g:=bq h.g v (some ⟨r,[]⟩)} L:=by
 have d:=Bm A h.g v ⟨bg,bt,bm,0,[]⟩ (some ⟨r,[]⟩);have o:kQ (oB A v ⟨bg,bt,bm,0,[]⟩) (bq h.g v (some ⟨r,[]⟩)) v=some ⟨bg,0,none⟩:=by
  unfold kQ;rw[fH,qi]
 refine⟨oB A v ⟨bg,bt,bm,0,[]⟩,⟨λ{i x} a=>?_,λ{i x} a=>?_,W.gl,W.pt,W.gk⟩,?_⟩
 ·have a:bq h.g v (some ⟨r,[]⟩) i=some x:=a;unfold bq at a;by_cases e:i=v
  ·omega
  ·rw[ao e] at a;exact W.jl a
 ·have a:bq h.g v (some ⟨r,[]⟩) i=some x:=a;unfold bq at a;unfold oB;by_cases e:i=v
  ·rw[av e] at a ⊢;cases a;exact qA.nil
  ·rw[ao e] at a ⊢;exact W.mp a
 ·have k:=Jk (Q:=Q) (X:=X) (by omega:v<17) d;rw[o] at k;rw[k] at H;refine((H.sub ((((B8 _ _).trans (B8 _ _)).cons_cons _).cons_cons _)).perm ?_).ly ?_
  ·have p1:(bh Q (oB A v ⟨bg,bt,bm,0,[]⟩) (bq h.g v (some ⟨r,[]⟩)) (AN 17)).Perm ([(bg,[ag (ae bt),.map (some bm)]),(bt,oH Q (v:Int) r false)]++bh Q A h.g (AN 17)):=by
    have b:=wj (Q:=Q) (A:=oB A v ⟨bg,bt,bm,0,[]⟩) (by omega:v<17) (fH h.g v (some ⟨r,[]⟩));rw[wo d] at b;have p:=(zK (Q:=Q) (A:=A) (by omega:v<17) f).symm;have e:gR Q (oB A v ⟨bg,bt,bm,0,[]⟩) v ⟨r,[]⟩=[(bg,[ag (ae bt),.map (some bm)]),(bt,oH Q (v:Int) r false)]:=by
     unfold gR;rw[qi]
    rw[e] at b;exact b.trans (p.append_left _)
   refine(((((p1.append_right L).cons _).cons _).cons _).cons _).trans ?_;exact(Dl (l₁:=[_, _, _, _]) (l₂:=[_, _])).append_right (bh Q A h.g (AN 17)++L)
  ·have b:=ml (A:=oB A v ⟨bg,bt,bm,0,[]⟩) (by omega:v<17) (fH h.g v (some ⟨r,[]⟩));rw[pH d,qi] at b;exact b.trans ((zJ (A:=A) (by omega:v<17) f).symm.cons _)
theorem Ms (H:jm Q X D G w0 w h L) (F: ¬ (h.s.1.length:Int)<16*(h.s.2.length:Int)) (v k a b c:Int) (kk: ∀V x,(oZ h=0->V=AM h)->jm Q X D G w0 x (gS h) L->K (V,oZ h,()) x):
 aC AA 121 (.el (.agg iN)) [ag (ae X.hb),aa v,.agg ⟨gg k a b c⟩] w K:=by
 obtain⟨A,W,H⟩:=H;obtain⟨I,S,J⟩:=H.call;refine aQ (C:=V0) (aS:=oe) (Al (E8 _ v k a b c w K) ?_);refine S.al λM x S=>S.al λN w3 S=>?_;refine⟨λn q w'=>(1<=q.1/\q.1<=17/\(n:Int)=17 - q.1)/\(∀u:Nat,1<=u->(u:Int)<q.1->(h.g u).isSome)/\bj Q [] I w w' h.s ((N,[ay 0,aa 0])::(M,gg k a b c)::dX Q X A h (bh Q A h.g (AN 17)++L)),⟨16,λO P=>⟨by decide,λu l p=>(by dsimp only at p;omega),S.ext P⟩⟩,?_⟩;clear S;rintro n ⟨q,u⟩ O ⟨⟨R,T,U⟩,r,S⟩;dsimp only at R T U r ⊢;obtain⟨i,hi⟩: ∃i:Nat,q=(i:Int):=⟨q.toNat,by omega⟩;subst hi;rw[show((i:Int)).toNat=i from rfl];refine ab (λd=>?_) (λd=>⟨trivial,S.res (j:=0) rfl 0 3 λt S=>?_⟩)
 ·have d:(i:Int)<=16:=by simpa using d
  have hc:=S.vF (X:=X) (A:=A) (g:=h.g) (B1 _ (B1 _ Ay)) (v:=(i:Int)) ⟨by omega,d⟩;rw[show((i:Int)).toNat=i from rfl] at hc;refine⟨rfl,rfl,⟨rfl,by omega,by show(i:Int)<((17:Nat):Int);omega⟩,aj.of _ hc ?_⟩;unfold kQ;cases z:h.g i with
  |some y=>
   refine aB rfl λt Y=>⟨n - 1,by omega,⟨?_,?_,?_⟩,λu l p=>?_,S.ext Y⟩
   ·rw[ax (by omega) (by omega)];omega
   ·rw[ax (by omega) (by omega)];omega
   ·rw[ax (by omega) (by omega)];omega
   ·rw[ax (by omega) (by omega)] at p;by_cases e:u=i
    ·subst e;rw[z];rfl
    ·exact r u l (by omega)
  |none=>
   have m:mR h.g=some i:=nT.2 ⟨by omega,z,λu l p=>r u l (by omega)⟩;have cE:oZ h=rk h.s (i:Int):=by unfold oZ;rw[m]
   have Z:AM h=(i:Int):=by unfold AM;rw[m]
   have B:gS h=if rk h.s (i:Int)=0 then{h with s:=iT h.s (i:Int) λ_=>0,g:=bq h.g i (some ⟨eK h.s (i:Int),[]⟩)} else h:=by unfold gS;rw[m]
   have eu:aG .u64 (i:Int)=(i:Int):=cY ⟨by omega,by omega⟩;rw[cE,Z,B] at kk;refine an rfl ⟨rfl,rfl,aj.of _ (S.fL (X:=X) (A:=A) (g:=h.g) (by simp) (n:=0) rfl) ⟨rfl,rfl,aj.of _ (S.fL (X:=X) (A:=A) (g:=h.g) (by simp) (n:=1) rfl) ?_⟩⟩;refine S.new (i:Int) (λe=>absurd e F) (λ_ f t S=>?_) (λ_ f bt t S=>?_)
   ·rw[ao f] at kk;refine an (by simpa using f) (S.res (j:=0) rfl _ _ λE S=>kk _ E (λe=>absurd e f) ⟨A,W,J ?_⟩);rw[Jb f] at S;exact S.tail.tail
   ·rw[av f,f] at kk;refine aB rfl λE h6=>?_;have H:=((J S).ext h6).alloc (o:= .map #[] 0) trivial;obtain⟨bm,Wf⟩: ∃bm,bm=E.heap.size:=⟨_,rfl⟩;rw[<-Wf] at H ⊢;obtain⟨G2,S,J2⟩:=H.call;refine S.al λbg w7 S=>⟨rfl,rfl,⟨rfl,by omega,by show(i:Int)<((17:Nat):Int);omega⟩,?_⟩;rw[aY];refine S.Cj 4 rfl rfl (by rw[Nat.blt_eq,Jj];omega) λw8 S=>S.res (j:=2) rfl _ _ λw9 S=>kk _ w9 (λ_=>eu) (abu (bg:=bg) (bt:=bt) (bm:=bm) W (by omega) z (J2 S))
 ·have d: ¬ (i:Int)<=16:=by simpa using d
  have m:mR h.g=none:=HF.2 λu l p=>r u l (by omega);have cE:oZ h=3:=by unfold oZ;rw[m]
  have B:gS h=h:=by unfold gS;rw[m]
  rw[cE,B] at kk;exact kk _ t (λe=>absurd e (by decide)) ⟨A,W,J S.tail.tail⟩
end
theorem Jl (s:WD) (o:Int) (G:Int->Int):(iT s o G).1.length=s.1.length:=by
 unfold iT;dsimp only;split
 ·exact gK _ _ _ _
 ·rfl
theorem tG (s:WD) (o r p:Int):(fm s o r p).1.length=s.1.length:=by
 unfold fm;split
 ·rfl
 ·split
  ·exact xH _ _ _ _ _
  ·exact Jl _ _ _
theorem Bt: ∀(l:List PT) (s:WD),(jv l s).1.length=s.1.length
 |[],s=>rfl
 |[x],s=>rfl
 |x::y::l,s=>by
  rw[jv];split
  ·rw[Bt (y::l)];exact cF _ _ _
  ·rfl
theorem tH (s:WD) (o r:Int) (gone:Bool) (p:Int):(nj s o r gone p).1.length=s.1.length:=by
 unfold nj;split
 ·split
  ·rw[Bt];show(dO _ _ _).length= _;rw[cF,tG]
  ·exact tG _ _ _ _
 ·rfl
def vt (h:HS) (v:Int):List TK:=match h.g v.toNat with|some x=>x.tk|none=>[]
def yx (v:Int) (h:HS):HS:=dA h v (An ((vt h v).map (·.1))) (Nr h v (An ((vt h v).map (·.1)))).1 (Nr h v (An ((vt h v).map (·.1)))).2
def e9 (v:Int):Nat->HS->HS
 |0,h=>h
 |n+1,h=>e9 v n (yx v h)
def th (ds:List DT) (v:Int):Bool:=(fW ds v).any λi=>decide ((qt ds (i:Int)).2.2.1>0)
def uS (v:Int) (x:List DT×Int) (i:Nat):List DT×Int:=if(qt x.1 (i:Int)).1=4 then(dJ x.1 (i:Int) (aO 5 v),x.2+1) else x
def B_ (ds:List DT) (v:Int):List DT×Int:=(fW ds v).foldl (uS v) (ds,0)
def vI (h:HS) (v:Int):HS where
 s:=((cG h.s (aT h.g v) false).1,(B_ (cG h.s (aT h.g v) false).2 v).1)
 g:=bq h.g v.toNat none
 gr:=cM h.gr v
 po:=(Po.cG 4 h.po v).2
def FZ (h:HS) (a:Int):Int:=if aR h.g a=true then(if th h.s.2 a=true then 9 else 0) else 4
def s7 (h:HS) (a:Int):HS:=if aR h.g a=true then(if th h.s.2 a=true then h else vI (e9 a (vt h a).length h) a) else h
def Yx (h:HS) (a:Int):Int:=if aR h.g a=true then(if th h.s.2 a=true then 0 else(B_ (cG (e9 a (vt h a).length h).s (aT (e9 a (vt h a).length h).g a) false).2 a).2) else 0
theorem Mt (gs:List GT) (v:Int):(cM gs v).length=gs.length:=by unfold cM;rw[B3]
theorem sd (h:HS) (v p id f w:Int):aR (dA h v p id f).g w=aR h.g w:=by
 unfold aR dA bq;dsimp only;by_cases e:w.toNat=v.toNat
 ·rw[e,av rfl];cases h.g v.toNat<;>rfl
 ·rw[ao e]
theorem HG (h:HS) (v p id f w:Int):aT (dA h v p id f).g w=aT h.g w:=by
 unfold aT;rw[sd];unfold dA bq;dsimp only;by_cases e:w.toNat=v.toNat
 ·rw[e,av rfl];cases h.g v.toNat<;>rfl
 ·rw[ao e]
theorem Ew {h:HS} {v p id f:Int}:vt (dA h v p id f) v=(vt h v).filter λt=> !(t.1==p):=by
 unfold vt dA bq;dsimp only;rw[av rfl];cases h.g v.toNat<;>rfl
section
variable {Q:Sys} {X:HX} {D G:List Nat} {w0 w:A2} {h:HS} {L:List (Nat×List AC)} {K:RS->A2->Prop}
theorem bj.aav {s:WD} {L0 rows:List (Nat×List AC)} (S:bj Q D G w0 w s L0) {e:El} {x:Option Ak×Nat×Nat} {l:List e.T} (a:n_ e rows x l) (b: ∀x∈rows,x∈L0):Sl w e x.1 l:=by
 obtain⟨g1,d,f,g,ca,la,H⟩:=S;exact a.sl H λx c=>B1 _ (B1 _ (B1 _ (B1 _ (b x c))))
theorem ZA {A:Nat->GA} {v:Nat} {x:GV} (hv:v<17) (a:h.g v=some x) (T:List (Nat×List AC)):
 (gR Q A v x++(T++dX Q X A h (bh Q A h.g ((AN 17).erase v)++L))).Perm (T++dX Q X A h (bh Q A h.g (AN 17)++L)):=by
 have p1:=(wj (Q:=Q) (A:=A) hv a).symm;have p2:=((((p1.append_right L).cons (X.pb,Po.gM 4 h.po)).cons (X.uC,flat eG h.gr++X.rest)).cons (X.gb,mE X.uC h.gr.length X.c)).cons (X.hb,fV Q X A h.g);refine List.Perm.trans ?_ (p2.append_left T);have e:T++dX Q X A h ((gR Q A v x++bh Q A h.g ((AN 17).erase v))++L)=(T++[(X.hb,fV Q X A h.g),(X.gb,mE X.uC h.gr.length X.c),(X.uC,flat eG h.gr++X.rest),(X.pb,Po.gM 4 h.po)])++(gR Q A v x++(bh Q A h.g ((AN 17).erase v)++L)):=by simp
 have b:gR Q A v x++(T++dX Q X A h (bh Q A h.g ((AN 17).erase v)++L))=gR Q A v x++((T++[(X.hb,fV Q X A h.g),(X.gb,mE X.uC h.gr.length X.c),(X.uC,flat eG h.gr++X.rest),(X.pb,Po.gM 4 h.po)])++(bh Q A h.g ((AN 17).erase v)++L)):=by simp
 show List.Perm _ (T++dX Q X A h ((gR Q A v x++bh Q A h.g ((AN 17).erase v))++L));rw[e,b];exact NE _ _ _
end
theorem Ex (ds:List DT) (v:Int):(fW ds v).length<=ds.length:=by grind[fW]
section
variable {Q:Sys} {X:HX} {D G:List Nat} {w0 w:A2} {h:HS} {L:List (Nat×List AC)} {K:RS->A2->Prop}
theorem abv {A:Nat->GA} (W:Dg A h) {v:Nat} {x:GV} (hv:v<17) (a:h.g v=some x) {s':WD} {z4:List GT} {Nu:List Po.PT} (d:z4.length=h.gr.length) (n:n7 z4) (o:Po.lO 4 Nu) {f:A2} {p q r t:Nat×List AC}
 (H:SM Q D G w0 f s' (p::q::r::t::(X.hb,(fV Q X A h.g).set (4+v*1) (ag none))::(X.gb,mE X.uC h.gr.length X.c)::(X.uC,flat eG z4++X.rest)::(X.pb,Po.gM 4 Nu)::(bh Q A h.g ((AN 17).erase v)++L)) (dg A h.g (AN 17))):
 jm Q X D G w0 f {s:=s',g:=bq h.g v none,gr:=z4,po:=Nu} L:=by
 have b: ∀j,j≠v->A j=A j/\bq h.g v none j=h.g j:=λj u=>⟨rfl,ao u⟩;have w:kQ A (bq h.g v none) v=none:=by
  unfold kQ;rw[fH]
 refine⟨A,⟨λ{i x} a=>?_,λ{i x} a=>?_,d.trans W.gl,o,n⟩,?_⟩
 ·have a:bq h.g v none i=some x:=a;unfold bq at a;by_cases e:i=v
  ·grind
  ·rw[ao e] at a;exact W.jl a
 ·have a:bq h.g v _ i=some x:=a;unfold bq at a;by_cases e:i=v
  grind
  ·rw[ao e] at a;exact W.mp a
 ·have k:=Jk (Q:=Q) (X:=X) hv b;rw[w] at k;rw[k] at H;have H:=((((H.sub (B8 _ _)).sub (B8 _ _)).sub (B8 _ _)).sub (B8 _ _));have H:=(H.ly (ml hv a).symm).FK (B8 _ _);have l:=zK (Q:=Q) (A:=A) hv (fH h.g v _);rw[wo b] at l;have m:=zJ (A:=A) hv (fH h.g v none);rw[pH b] at m;refine(H.perm ?_).ly m;show List.Perm ((X.hb,fV Q X A _)::(X.gb,mE X.uC z4.length X.c)::(X.uC,flat eG z4++X.rest)::(X.pb,Po.gM 4 Nu)::(bh Q A _ _++L)) _;rw[d];exact((((l.append_right L).cons _).cons _).cons _).cons _
theorem Ey {l:List Int} (b:l≠[]) (h: ∀x∈l,x<65536):An l∈l:=by
 obtain⟨d,c,a⟩:=zc l 65536;rcases a with a|a
 ·obtain⟨x,l',rfl⟩:=List.exists_cons_of_ne_nil b;have:=c x
  grind
 ·exact a
theorem HJ (H:jm Q X D G w0 w h L) (v k:Int) {a:Int} (b c:Int) (ha:0<=a) (hF:NK Q h.s) (Nq:aR h.g a=true->0<=aT h.g a/\aT h.g a<4096) (Ax: ∀t∈vt h a,t.1<65536)
 (kk: ∀w2,jm Q X D G w0 w2 (s7 h a) L->K (Yx h a,FZ h a,()) w2):
 aC AA 122 (.el (.agg iN)) [ag (ae X.hb),aa v,.agg ⟨gg k a b c⟩] w K:=by
 obtain⟨A,W,H⟩:=H;obtain⟨G',S,J⟩:=H.call;refine aQ (C:=V0) (aS:=nf) (Al (CS _ v k a b c w K) ?_);unfold FZ Yx s7 at kk;refine S.al λU w2 S=>S.al λV w3 S=>⟨rfl,S.cH 1 rfl rfl ⟨_,Ep S (X:=X) (A:=A) (g:=h.g) (by simp) ha,?_⟩⟩;cases O:aR h.g a with
 |false=>
  rw[O,ao (by decide),ao (by decide),ao (by decide)] at kk;exact aB rfl ⟨trivial,S.res (j:=0) rfl 0 4 λw4 S=>kk w4 ⟨A,W,J S.tail.tail⟩⟩
 |true=>
 rw[O,av rfl,av rfl,av rfl] at kk;obtain⟨x,hx,n8,hv,uL,rl⟩:=bL O;have ea:aG .i64 a=a:=bP ⟨ha,by omega⟩;refine an rfl ⟨rfl,S.cH 1 rfl rfl ?_⟩;rw[ea];refine⟨rfl,rfl,aj.of _ (S.fL (X:=X) (A:=A) (g:=h.g) (by simp) (n:=1) rfl) (S.owned a λr rows w4 S E=>?_)⟩;have hlen:(fW h.s.2 a).length<=4096:=Ik (Ex _ _) S.le;obtain⟨xp,xn,xc⟩:=r;have hxl:xn=(fW h.s.2 a).length:=by have:=E.1;rw[B3] at this;exact this
 subst hxl;refine⟨λn q w'=> ∃m:Nat,q.1=(m:Int)/\n+m=(fW h.s.2 a).length/\(∀i,i<m-> ∀f,(fW h.s.2 a)[i]? =some f-> ¬ (qt h.s.2 (f:Int)).2.2.1>0)/\bj Q [] G' w w' h.s (((V,[ay 0,aa 0])::(U,gg k a b c)::dX Q X A h (bh Q A h.g (AN 17)++L))++rows),⟨(fW h.s.2 a).length,λw5 h5=>⟨0,rfl,rfl,λi hi=>absurd hi (NV i),S.ext h5⟩⟩,?_⟩;clear S;rintro n ⟨q,u⟩ w5 ⟨m,Z,hnm,uG,S⟩;dsimp only at Z ⊢;subst Z;refine ab (λo=>?_) (λo=>?_)
 ·have P:m<(fW h.s.2 a).length:=by simpa using o
  obtain⟨f,XD⟩: ∃f,f=(fW h.s.2 a)[m]:=⟨_,rfl⟩;have M:(fW h.s.2 a)[m]? =some f:=by rw[XD];exact C8 P
  have JV:((fW h.s.2 a).map λi=>((i:Nat):Int))[m]? =some ((f:Nat):Int):=by rw[BQ,M];rfl
  have wI:=(S.aav E (λx hx=>Av _ hx)) m _ JV;refine⟨⟨wI.1,by omega,by omega⟩,aj.of _ wI.2 ⟨rfl,rfl,aj.of _ (S.fL (X:=X) (A:=A) (g:=h.g) (by simp) (n:=1) rfl) ⟨(qt h.s.2 (f:Int),BP h.s.2 (f:Int),()),S.ofq (f:Int),S.al λbd w6 S=>S.fg 0 rfl rfl rfl λw7 S=>⟨rfl,S.cH 0 rfl rfl ?_⟩⟩⟩⟩;refine ab (λF=>⟨trivial,S.res (j:=1) rfl 0 9 λw8 S=>?_⟩) (λF=>λw8 h8=>⟨n - 1,by omega,m+1,?_,by omega,λi hi g I=>?_,(S.ext h8).tail⟩)
  ·have F:(qt h.s.2 (f:Int)).2.2.1>0:=by simpa using F
   have hb:th h.s.2 a=true:=by
    unfold th;exact GH.2 ⟨f,C7 M,by simpa using F⟩
   rw[hb,av rfl,av rfl,av rfl] at kk;exact kk w8 ⟨A,W,J ((S.tail.sub (GI _ _)).tail.tail)⟩
  ·rw[ax (by omega) (by omega)];omega
  ·by_cases e:i=m
   ·subst e;rw[M] at I;cases I;simpa using F
   ·exact uG i (by omega) g I
 have P: ¬ m<(fW h.s.2 a).length:=by simpa using o
 have hb: ¬ th h.s.2 a=true:=by
  unfold th;rw[GH];rintro⟨f,M,hd⟩;obtain⟨i,hi⟩:=B5 M;have:i<(fW h.s.2 a).length:=(Bx.1 hi).1;exact uG i (by omega) f hi (by simpa using hd)
 rw[ao hb,ao hb,ao hb] at kk;have S:=S.sub (GI _ rows);clear uG hnm E o P;obtain⟨g1, _,g3, _⟩:=S.sZ (X:=X) (A:=A) (g:=h.g) (by simp) (bY W [_, _]) O;refine⟨rfl,rfl,⟨rfl,by omega,by show a<((17:Nat):Int);omega⟩,aj.of _ g1 ?_⟩;refine⟨λn _ w'=> ∃(B:Nat->GA) (h':HS),e9 a n h'=e9 a (vt h a).length h/\(vt h' a).length=n/\aR h'.g a=true/\aT h'.g a=aT h.g a/\NK Q h'.s/\(∀t∈vt h' a,t.1<65536)/\(B a.toNat).bg=(A a.toNat).bg/\Dg B h'/\SM Q D G w0 w' h'.s ([(V,[ay 0,aa 0]),(U,gg k a b c)]++dX Q X B h' (bh Q B h'.g (AN 17)++L)) (dg B h'.g (AN 17)),⟨(vt h a).length,λw6 h6=>⟨A,h,rfl,rfl,O,rfl,hF,Ax,rfl,W,(J S).ext h6⟩⟩,?_⟩;clear S g1 g3 J H;rintro n u w6 ⟨B,h',I,hn,wH,S8,ZZ,Yy,aaw,d,H⟩;obtain⟨x',z,Yz,Tl, _, _⟩:=bL wH;have Kb:a.toNat<17:=by omega
 have Y:vt h' a=x'.tk:=by unfold vt;rw[z]
 rw[<-aaw];obtain⟨G2,S,J2⟩:=H.call;have mem:(X.hb,fV Q X B h'.g)∈[(V,[ay 0,aa 0]),(U,gg k a b c)]++dX Q X B h' (bh Q B h'.g (AN 17)++L):=Av _ Ay;obtain⟨_, _,g3, _⟩:=S.sZ (X:=X) (A:=B) (g:=h'.g) mem (bY d _) wH;have Aw:bG w6 (B a.toNat).bm ⟨(B a.toNat).es⟩ (B a.toNat).ck:=H.get (fI d _ _ z);refine⟨rfl,rfl,aj.of _ g3 ⟨_,⟨_, _, _,rfl,Aw,rfl⟩,?_⟩⟩;have iu:(⟨(B a.toNat).es⟩:Array B6).size=n:=by
  rw[<-hn,Y];exact(d.mp z).len
 rw[iu];refine ab (λo=>?_) (λo=>?_)
 ·have o:n>0:=by
   have:(n:Int)>0:=by simpa using o
   omega
  have E:((B a.toNat).bg,[ag (some ⟨(B a.toNat).bt,0,none⟩),.map (some (B a.toNat).bm)])∈[(V,[ay 0,aa 0]),(U,gg k a b c)]++dX Q X B h' (bh Q B h'.g (AN 17)++L):=bY d _ _ _ z _ Ay;have dh:x'.tk.map (·.1)≠[]:=λe=>by
   have:=congrArg FP e;rw[B3, <-Y,hn] at this;simp at this;omega
  have FV:=Ey dh (λy hy=>by
   obtain⟨t,ht,rfl⟩:=B2.1 hy;exact Yy t (by rw[Y];exact ht))
  refine Mm H E (fI d _ _ z) (d.mp z) λw7 H=>?_;obtain⟨p,hp⟩: ∃p,p=An (x'.tk.map (·.1)):=⟨_,rfl⟩;rw[<-hp] at FV ⊢;obtain⟨t,ht,htp⟩:=B2.1 FV;have sj:cm x'.tk p=some t.2:=(jQ (a:=t.2.1) (b:=t.2.2) (d.mp z).2.2.2).2 (by rw[<-htp];exact ht);have hX:Nr h' a p=t.2:=by unfold Nr;rw[z];dsimp only;rw[sj];rfl
  have Ty:yx a h'=dA h' a p t.2.1 t.2.2:=by
   unfold yx;rw[Y, <-hp,hX]
  refine Ev d (T:=[(V,[ay 0,aa 0]),(U,gg k a b c)]) H wH ZZ (by rw[S8];exact Nq O) z sj λB' w8 hb W'' H=>λw9 h9=>⟨n - 1,by omega,B',dA h' a p t.2.1 t.2.2,?_,?_,?_,?_,?_,?_,?_,W'',H.ext h9⟩
  ·rw[<-Ty, <-I];obtain⟨m,rfl⟩: ∃m,n=m+1:=⟨n - 1,by omega⟩;rfl
  ·rw[Ew,Y];obtain⟨r,M,Fm⟩:=(d.mp z).find p;rw[sj] at Fm;obtain⟨i, _,hi,hM⟩:=Fm;rw[<-hM.len,Ia,av hi];have:=(d.mp z).len;rw[Y] at hn;omega
  ·rw[sd];exact wH
  ·rw[HG];exact S8
  ·have e:(dA h' a p t.2.1 t.2.2).s.1.length=h'.s.1.length:=tH _ _ _ _ _;exact⟨by rw[e];exact ZZ.1,by rw[e];exact ZZ.2⟩
  ·intro t' pP;rw[Ew] at pP;exact Yy t' (I2.1 pP).1
  ·rw[hb,aaw]
 have Tp:n=0:=by
  have: ¬ (n:Int)>0:=by simpa using o
  omega
 subst Tp;have I:h'=e9 a (vt h a).length h:=I;rw[<-I] at kk;clear I iu o g3 S J2 mem Aw hb Yy hn ZZ Ax;have ace:0<=x'.root/\x'.root<4096:=by rw[<-Yz,S8];exact Nq O
 rw[Yz] at kk;have H:=H.perm (ZA Kb z _);obtain⟨G2,S,J2⟩:=H.call;refine⟨rfl,rfl,aj.of _ (S.fL (X:=X) (A:=B) (g:=h'.g) (C7 (i:=4) rfl) (n:=2) rfl) (S.abm 5 6 rfl rfl (by rw[d.gl];decide) (by rw[d.gl];decide) (by decide) a λn2 w8 S=>⟨rfl,rfl,aj.of _ (S.fL (X:=X) (A:=B) (g:=h'.g) (C7 (i:=4) rfl) (n:=3) rfl) (S.abq 7 rfl d.pt a λw9 S=>⟨rfl,rfl,?_⟩)⟩)⟩;refine S.cH 0 rfl rfl (S.drop 1 rfl ace λy abw nh S _=>?_);have S:=S.sub (GI _ abw);refine⟨rfl,rfl,aj.of _ (S.fL (X:=X) (A:=B) (g:=h'.g) (C7 (i:=4) rfl) (n:=1) rfl) (S.owned a λr2 Oz oF S E=>?_)⟩;obtain⟨s1,BJ⟩: ∃s1,s1=cG h'.s x'.root false:=⟨_,rfl⟩;have hgo:vI h' a={s:=(s1.1,(B_ s1.2 a).1),g:=bq h'.g a.toNat none,gr:=cM h'.gr a,po:=(Po.cG 4 h'.po a).2}:=by
  unfold vI;rw[Yz, <-BJ]
 rw[<-BJ] at S kk E;rw[hgo] at kk;obtain⟨xp2,xn2,xc2⟩:=r2;have acf:xn2=(fW s1.2 a).length:=by have:=E.1;rw[B3] at this;exact this
 subst acf;have DG:(fW s1.2 a).length<=4096:=Ik (Ex _ _) S.le;obtain⟨l,Ig⟩: ∃l,l=fW s1.2 a:=⟨_,rfl⟩;have FJ:B_ s1.2 a=l.foldl (uS a) (s1.2,0):=by unfold B_;rw[Ig]
 rw[<-Ig] at E DG ⊢;obtain⟨R,hR⟩: ∃R,R=B_ s1.2 a:=⟨_,rfl⟩;rw[<-hR] at kk;rw[<-hR] at FJ;obtain⟨RL,hRL⟩: ∃RL:List (Nat×List AC),RL=((B a.toNat).bg,[ag (some ⟨(B a.toNat).bt,0,none⟩),.map (some (B a.toNat).bm)])::((B a.toNat).bt,oH Q ((a.toNat:Nat):Int) x'.root true)::(V,[ay 0,aa 0])::(U,gg k a b c)::(X.hb,fV Q X B h'.g)::(X.gb,mE X.uC h'.gr.length X.c)::(X.uC,flat eG (cM h'.gr a)++X.rest)::(X.pb,Po.gM 4 (Po.cG 4 h'.po a).2)::(bh Q B h'.g ((AN 17).erase a.toNat)++L):=⟨_,rfl⟩;have S:bj Q [] G2 w6 oF s1 (RL++Oz):=by rw[hRL];exact S
 have aax: ∀{T:List (Nat×List AC)},(X.hb,fV Q X B h'.g)∈RL++T:=λ{T}=>Bs _ (by rw[hRL];exact C7 (i:=4) rfl);refine⟨λn q w'=> ∃(m:Nat) (ds:List DT),q.2.1=(m:Int)/\n+m=l.length/\(0<=q.1/\q.1<=m)/\(l.drop m).foldl (uS a) (ds,q.1)=R/\bj Q [] G2 w6 w' (s1.1,ds) (RL++Oz),⟨l.length,λFj Tr=>⟨0,s1.2,rfl,rfl,⟨by decide,by decide⟩,FJ.symm,S.ext Tr⟩⟩,?_⟩;clear S;rintro n ⟨cnt,q,u⟩ Fj ⟨m,ds,Z,hnm,hcm,N,S⟩;dsimp only at Z hcm N ⊢;subst Z;refine ab (λo=>?_) (λo=>?_)
 ·have P:m<l.length:=by simpa using o
  obtain⟨f,XD⟩: ∃f,f=l[m]:=⟨_,rfl⟩;have M:l[m]? =some f:=by rw[XD];exact C8 P
  have JV:(l.map λi=>((i:Nat):Int))[m]? =some ((f:Nat):Int):=by rw[BQ,M];rfl
  have wI:=(S.aav E (λx hx=>Av _ hx)) m _ JV;rw[JP P, <-XD,H4] at N;refine⟨⟨wI.1,by omega,by omega⟩,aj.of _ wI.2 ⟨rfl,rfl,aj.of _ (S.fL (X:=X) (A:=B) (g:=h'.g) aax (n:=1) rfl) ⟨(qt ds (f:Int),BP ds (f:Int),()),S.ofq (f:Int),S.al λbd Ta S=>S.fg 0 rfl rfl rfl λNn S=>⟨rfl,S.cH 0 rfl rfl ?_⟩⟩⟩⟩;refine ab (λF=>⟨rfl,rfl,aj.of _ (S.fL (X:=X) (A:=B) (g:=h'.g) (B1 _ aax) (n:=1) rfl) (S.TO (f:Int) 5 a λZ8 S=>λXv Ws=>⟨n - 1,by omega,m+1, _,?_,by omega,?_,?_,(S.ext Ws).tail⟩)⟩) (λF=>λXv Ws=>⟨n - 1,by omega,m+1,ds,?_,by omega,?_,?_,(S.ext Ws).tail⟩)
  ·show aL .i64 (m:Int) 1= _;rw[ax (by omega) (by omega)];omega
  ·show 0<=aL .i64 cnt 1/\aL .i64 cnt 1<=((m+1:Nat):Int);rw[ax (by omega) (by omega)];omega
  ·show(l.drop (m+1)).foldl (uS a) (dJ ds (f:Int) (aO 5 a),aL .i64 cnt 1)=R;rw[ax (by omega) (by omega), <-N];have d4:(qt ds (f:Int)).1=4:=by simpa using F
   rw[show uS a (ds,cnt) f=if(qt ds (f:Int)).1=4 then(dJ ds (f:Int) (aO 5 a),cnt+1) else(ds,cnt) from rfl,av d4]
  ·show aL .i64 (m:Int) 1= _;rw[ax (by omega) (by omega)];omega
  ·show 0<=cnt/\cnt<=((m+1:Nat):Int);omega
  ·show(l.drop (m+1)).foldl (uS a) (ds,cnt)=R;rw[<-N];have d4: ¬ (qt ds (f:Int)).1=4:=by simpa using F
   rw[show uS a (ds,cnt) f=if(qt ds (f:Int)).1=4 then(dJ ds (f:Int) (aO 5 a),cnt+1) else(ds,cnt) from rfl,ao d4]
 have P: ¬ m<l.length:=by simpa using o
 rw[List.drop_of_length_le (by omega)] at N;have N:(ds,cnt)=R:=N;rw[<-N] at kk;have S:=S.sub (GI _ Oz);rw[hRL] at S;refine⟨rfl,rfl,⟨rfl,by omega,by show a<((17:Nat):Int);omega⟩,?_⟩;rw[aY];refine S.Cj 4 rfl rfl (by rw[Nat.blt_eq,Jj];omega) λTa S=>S.res (j:=2) rfl _ _ λNn S=>?_;rw[cY ⟨by omega,by omega⟩];exact kk Nn (abv d Kb z (Mt _ _) (d.gk.drop _) (Po.QY d.pt a) (J2 S))
end
def run (h:HS) (v k a b c:Int):HS×Int×Int:=match k.toNat with
 |1=>(gS h,AM h,oZ h)
 |2=>(s7 h a,Yx h a,FZ h a)
 |3=>(jq h v a b,rH h v a b)
 |4=>(qB h v a,B7 h v a)
 |5=>(j8 h v a b,0,oX h v a b)
 |6=>(h,Iy h v a)
 |7=>(kr h v a b,0,rS h v a)
 |8=>(iC h v a b c,yJ h v a b c)
 |9=>(jx h v a b c,0,nr h v a b c)
 |10=>(gY h v a,0,oY h v a)
 |11=>(fU h v a,0,Cz h v a)
 |12=>(l8 h v a,Iw h v a)
 |13=>(l9 h v a b,Ix h v a b)
 |14=>(l7 h v a,0,Ov h v a)
 |15=>(Ox h v,Ow h v,0)
 |16=>(iZ h v a,0,Gl h v a)
 | _=>(bE h (dL h.s h.s.2.length).1,((dL h.s h.s.2.length).2:Int),0)
def ik (h:HS) (v k a b c:Int):Int:=
 if(decide (v<0)||decide (v>16)|| !fN k a b c)=true then 1 else if(!(v==0)==sX k)=true then 7 else if(decide (v>0)&& !aR h.g v)=true then 4 else 0
def qH (h:HS) (v k a b c:Int):Int:=if ik h v k a b c=0 then(run h v k a b c).2.2 else ik h v k a b c
def wP (h:HS) (v k a b c:Int):Int:=if ik h v k a b c=0 then(if(run h v k a b c).2.2=0 then(run h v k a b c).2.1 else 0) else 0
def jB (h:HS) (v k a b c:Int):HS:=if ik h v k a b c=0 then(run h v k a b c).1 else h
structure Ca (Q:Sys) (h:HS):Prop where
 Nv:NK Q h.s
 sz:16*h.s.2.length<=h.s.1.length
 rr: ∀v,aR h.g v=true->0<=aT h.g v/\aT h.g v<4096
 pg: ∀v, ∀t∈vt h v,t.1<65536
 new: ∀v a b c, ∀x,h.g v.toNat=some x->aR h.g v=true->kl h.s (aT h.g v) false b (lP h a).1 (wN c)=0->cm x.tk b=none
section
variable {Q:Sys} {X:HX} {D G:List Nat} {w0 w:A2} {h:HS} {L T:List (Nat×List AC)}
theorem Jm (A:Nat->GA) (h:HS):(dX Q X A h (bh Q A h.g (AN 17)++(T++L))).Perm (T++dX Q X A h (bh Q A h.g (AN 17)++L)):=by
 have a:dX Q X A h (bh Q A h.g (AN 17)++(T++L))=(dX Q X A h (bh Q A h.g (AN 17)))++(T++L):=by simp
 have b:T++dX Q X A h (bh Q A h.g (AN 17)++L)=T++(dX Q X A h (bh Q A h.g (AN 17))++L):=by simp
 rw[a,b];exact NE _ _ _
theorem jm.of {A:Nat->GA} (W:Dg A h) (H:SM Q D G w0 w h.s (T++dX Q X A h (bh Q A h.g (AN 17)++L)) (dg A h.g (AN 17))):jm Q X D G w0 w h (T++L):=
 ⟨A,W,H.perm (Jm A h)⟩
theorem jm.to (H:jm Q X D G w0 w h (T++L)): ∃A,Dg A h/\SM Q D G w0 w h.s (T++dX Q X A h (bh Q A h.g (AN 17)++L)) (dg A h.g (AN 17)):=by
 obtain⟨A,W,H⟩:=H;exact⟨A,W,H.perm (Jm A h).symm⟩
def lZ (k:Int):Nat:=([121,122,124,125,126,127,128,129,130,131,132,133,134,135,136,137,123]:List Nat).getD (k - 1).toNat 0
theorem dP (H:jm Q X D G w0 w h L) (R:Ca Q h) {v k a b c:Int} (m:1<=k/\k<=17) (i:sX k=false->aR h.g v=true) (f:0<=a/\a<18446744073709551616) (hb:0<=b/\b<18446744073709551616) (hc:0<=c/\c<18446744073709551616) {K:RS->A2->Prop}
 (kk: ∀V d,((run h v k a b c).2.2=0->V=(run h v k a b c).2.1)->jm Q X D G w0 d (run h v k a b c).1 L->K (V,(run h v k a b c).2.2,()) d):
 aC AA (lZ k) (.el (.agg iN)) [ag (ae X.hb),aa v,.agg ⟨gg k a b c⟩] w K:=by
 have:k=1\/k=2\/k=3\/k=4\/k=5\/k=6\/k=7\/k=8\/k=9\/k=10\/k=11\/k=12\/k=13\/k=14\/k=15\/k=16\/k=17:=by omega
 rcases this with rfl|rfl|rfl|rfl|rfl|rfl|rfl|rfl|rfl|rfl|rfl|rfl|rfl|rfl|rfl|rfl|rfl
 ·exact Ms H (by have:=R.sz;omega) v 1 a b c λV d j H=>kk V d j H
 ·exact HJ H v 2 b c f.1 R.Nv (R.rr a) (R.pg a) λd H=>kk _ d (λ_=>rfl) H
 ·exact Mi H (i rfl) 3 c f.1 hb.1 λd H=>kk _ d (λ_=>rfl) H
 ·exact Hy H (i rfl) R.Nv (R.rr v (i rfl)) 4 b c f.1 λd H=>kk _ d (λ_=>rfl) H
 ·exact Hx H (i rfl) 5 c f.1 hb.1 λd H=>kk _ d (λ_=>rfl) H
 ·exact VC H v 6 b c f.1 λd H=>kk _ d (λ_=>rfl) H
 ·exact RN H v 7 c f.1 hb λd H=>kk _ d (λ_=>rfl) H
 ·exact RM H v 8 f.1 hb.1 hc.1 λd H=>kk _ d (λ_=>rfl) H
 ·exact VE H (i rfl) 9 f.1 hb.1 hc.1 (λx l e=>R.new v a b c x l (i rfl) e) λd H=>kk _ d (λ_=>rfl) H
 ·exact VD H (i rfl) R.Nv (R.rr v (i rfl)) 10 b c f.1 λd H=>kk _ d (λ_=>rfl) H
 ·exact Mf H v 11 b c f.1 λd H=>kk _ d (λ_=>rfl) H
 ·exact VA H v 12 b c f.1 λd H=>kk _ d (λ_=>rfl) H
 ·exact VB H v 13 c f.1 hb.1 λd H=>kk _ d (λ_=>rfl) H
 ·exact Vy H v 14 b c f.1 λd H=>kk _ d (λ_=>rfl) H
 ·exact Vz H v 15 a b c λd H=>kk _ d (λ_=>rfl) H
 ·exact RI H v 16 b c f.1 λd H=>kk _ d (λ_=>rfl) H
 ·exact RO H v 17 a b c λd H=>kk _ d (λ_=>rfl) H
end
def oN (k:Int) (b:Nat):B6:={key:=aa k,val:= .func (.func (lZ k)) #[] #[],born:=b}
def cW:Array B6:=⟨[oN 1 0,oN 2 1,oN 17 2,oN 3 3,oN 4 4,oN 5 5,oN 6 6,oN 7 7,oN 8 8,oN 9 9,oN 10 10,oN 11 11,oN 12 12,oN 13 13,oN 14 14,oN 15 15,oN 16 16]⟩
section
variable {D G:List Nat} {w0 w:A2} {L:List (Nat×List AC)} {M:List (Nat×BI)}
theorem Mv (H:cC D G w0 w L M) {K:Option Nat->A2->Prop} (k: ∀r a,cC D G w0 a L ((r,.map cW 17)::M)->K (some r) a):aA AA 78 (.el (.one .map)) [] w K:=by
 refine λw1 h1=>ai (C:=V0) (aS:=λ_=>[]) (Al (LY w1 K) ?_);have H:=H.ext h1;intro b c;have H:=(H.ext c).alloc (o:= .map #[] 0) trivial;refine gF H (by kernel_rfl) λf H=>?_;refine gF H (by kernel_rfl) λg H=>?_;refine gF H (by kernel_rfl) λh H=>?_;refine gF H (by kernel_rfl) λi H=>?_;refine gF H (by kernel_rfl) λj H=>?_;refine gF H (by kernel_rfl) λl H=>?_;refine gF H (by kernel_rfl) λm H=>?_;refine gF H (by kernel_rfl) λn H=>?_;refine gF H (by kernel_rfl) λp H=>?_;refine gF H (by kernel_rfl) λq H=>?_;refine gF H (by kernel_rfl) λs H=>?_;refine gF H (by kernel_rfl) λt H=>?_;refine gF H (by kernel_rfl) λu H=>?_;refine gF H (by kernel_rfl) λv H=>?_;refine gF H (by kernel_rfl) λx H=>?_;refine gF H (by kernel_rfl) λy H=>?_;refine gF H (by kernel_rfl) λz H=>?_;exact λd e=>k b.heap.size d ((H.ext e).WQ (by kernel_rfl))
theorem CW {k:Int} (a:1<=k/\k<=17):bK AA (lZ k)=true:=by
 have:k=1\/k=2\/k=3\/k=4\/k=5\/k=6\/k=7\/k=8\/k=9\/k=10\/k=11\/k=12\/k=13\/k=14\/k=15\/k=16\/k=17:=by omega
 rcases this with rfl|rfl|rfl|rfl|rfl|rfl|rfl|rfl|rfl|rfl|rfl|rfl|rfl|rfl|rfl|rfl|rfl
 ·exact(by kernel_rfl:bK AA (lZ 1)=true)
 ·exact(by kernel_rfl:bK AA (lZ 2)=true)
 ·exact(by kernel_rfl:bK AA (lZ 3)=true)
 ·exact(by kernel_rfl:bK AA (lZ 4)=true)
 ·exact(by kernel_rfl:bK AA (lZ 5)=true)
 ·exact(by kernel_rfl:bK AA (lZ 6)=true)
 ·exact(by kernel_rfl:bK AA (lZ 7)=true)
 ·exact(by kernel_rfl:bK AA (lZ 8)=true)
 ·exact(by kernel_rfl:bK AA (lZ 9)=true)
 ·exact(by kernel_rfl:bK AA (lZ 10)=true)
 ·exact(by kernel_rfl:bK AA (lZ 11)=true)
 ·exact(by kernel_rfl:bK AA (lZ 12)=true)
 ·exact(by kernel_rfl:bK AA (lZ 13)=true)
 ·exact(by kernel_rfl:bK AA (lZ 14)=true)
 ·exact(by kernel_rfl:bK AA (lZ 15)=true)
 ·exact(by kernel_rfl:bK AA (lZ 16)=true)
 ·exact(by kernel_rfl:bK AA (lZ 17)=true)
theorem wq {r:Nat} (h:bG w r cW 17) {k:Int} (a:1<=k/\k<=17):jX w (some r) .i64 k Value.nilFunc (.func (.func (lZ k)) #[] #[]):=by
 have:k=1\/k=2\/k=3\/k=4\/k=5\/k=6\/k=7\/k=8\/k=9\/k=10\/k=11\/k=12\/k=13\/k=14\/k=15\/k=16\/k=17:=by omega
 rcases this with rfl|rfl|rfl|rfl|rfl|rfl|rfl|rfl|rfl|rfl|rfl|rfl|rfl|rfl|rfl|rfl|rfl
 ·exact⟨r,cW,17,rfl,h,rfl⟩
 ·exact⟨r,cW,17,rfl,h,rfl⟩
 ·exact⟨r,cW,17,rfl,h,rfl⟩
 ·exact⟨r,cW,17,rfl,h,rfl⟩
 ·exact⟨r,cW,17,rfl,h,rfl⟩
 ·exact⟨r,cW,17,rfl,h,rfl⟩
 ·exact⟨r,cW,17,rfl,h,rfl⟩
 ·exact⟨r,cW,17,rfl,h,rfl⟩
 ·exact⟨r,cW,17,rfl,h,rfl⟩
 ·exact⟨r,cW,17,rfl,h,rfl⟩
 ·exact⟨r,cW,17,rfl,h,rfl⟩
 ·exact⟨r,cW,17,rfl,h,rfl⟩
 ·exact⟨r,cW,17,rfl,h,rfl⟩
 ·exact⟨r,cW,17,rfl,h,rfl⟩
 ·exact⟨r,cW,17,rfl,h,rfl⟩
 ·exact⟨r,cW,17,rfl,h,rfl⟩
 ·exact⟨r,cW,17,rfl,h,rfl⟩
end
section
variable {Q:Sys} {X:HX} {D G:List Nat} {w0 w:A2} {s:WD} {h:HS} {L L0:List (Nat×List AC)} {M:List (Nat×BI)} {K:RS->A2->Prop}
theorem SM.Pf (H:SM Q D G w0 w s L0 M) {K:Option Nat->A2->Prop} (k: ∀r e,SM Q D G w0 e s L0 ((r,.map cW 17)::M)->K (some r) e):aA AA 78 (.el (.one .map)) [] w K:=by
 obtain⟨a,b,c,d,ca,la,H⟩:=H;exact Mv H λr e H=>k r e ⟨a,b,c,d,ca,la,H⟩
theorem Gn (S:bj Q D G w0 w s L0) {j j1 b c:Nat} {l:List AC} {g h:AC} (i:L0[j]? =some (b,l)) (m:L0[j1]? =some (c,[g,h])) (n:j≠j1) (o:l.length=2) (V E:Int)
 (kk: ∀a,bj Q D G w0 a s ((L0.set j (b,[ay V,aa E])).set j1 (c,[ay (if E=0 then V else 0),aa E]))->K (if E=0 then V else 0,E,()) a):
 az w (ae b) [ay V,aa E] λ(a:A2)=>true=true/\aj a none (ad (ae b) 1) (.one (.int .i64)) λ(x:Int)=>
  aH (x != 0)
   (true=true/\aj a none (ad (ae b) 1) (.one (.int .i64)) λ(x:Int)=>True/\
    az a (ae c) [ay 0,aa x] λ(a:A2)=>au a λ(w1:A2)=>aj w1 none (ae c) (.agg [.int .u64,.int .i64]) λ(x:Int×Int×Unit)=>K (x.1,x.2.1,()) w1)
   (aj a none (ae b) (.agg [.int .u64,.int .i64]) λ(x:Int×Int×Unit)=>
    az a (ae c) [ay x.1,aa x.2.1] λ(a:A2)=>au a λ(w1:A2)=>aj w1 none (ae c) (.agg [.int .u64,.int .i64]) λ(x:Int×Int×Unit)=>K (x.1,x.2.1,()) w1):=by
 have p:j<L0.length:=(Bx.1 i).1;refine S.fg j i rfl o.symm λa S=>?_;have d:(L0.set j (b,[ay V,aa E]))[j]? =some (b,[ay V,aa E]):=Do p;have k:(L0.set j (b,[ay V,aa E]))[j1]? =some (c,[g,h]):=by rw[FM n];exact m
 refine⟨rfl,S.cH j d (show _=some E from rfl) ?_⟩;refine ab (λe=>?_) (λe=>?_)
 ·have e: ¬ E=0:=by simpa using e
  rw[ao e] at kk;exact⟨rfl,S.cH j d (show _=some E from rfl) ⟨trivial,S.res k 0 E λf S=>kk f S⟩⟩
 ·have e:E=0:=by simpa using e
  rw[av e] at kk;exact S.ld j d (show _=some (V,E,()) from rfl) (S.res k V E λf S=>kk f S)
theorem ZB {a:Nat} {sh:Sh} {args:List AC} {w:A2} {K:sh.T->A2->Prop} (hc:bK AA a=true) (b: ∀w1,Ext w w1->aC AA a sh args w1 K):zW AA (.func (.func a) #[] #[]) sh args w K:=by
 unfold zW;refine λw1 h1=>⟨a, #[], #[],rfl,hc,?_⟩;have e:cX #[] args #[]=args:=by unfold cX;simp
 rw[e];exact b w1 h1
theorem ZC (H:jm Q X D G w0 w h L) (R:Ca Q h) (v k:Int) {a b c:Int} (U:0<=a/\a<18446744073709551616) (hb:0<=b/\b<18446744073709551616) (hc:0<=c/\c<18446744073709551616)
 (kk: ∀o,jm Q X D G w0 o (jB h v k a b c) L->K (wP h v k a b c,qH h v k a b c,()) o):
 aC AA 42 (.el (.agg iN)) [ag (ae X.hb),aa v,.agg ⟨gg k a b c⟩] w K:=by
 obtain⟨A,W,H⟩:=H;obtain⟨Y,S,J⟩:=H.call;refine aQ (C:=V1) (aS:=λ_=>[]) (Al (Zt _ v k a b c w K) ?_);unfold qH wP jB at kk;refine S.al λZ o S=>S.al λb1 w3 S=>⟨_,mY S (X:=X) (A:=A) (g:=h.g) (by simp),an rfl ?_⟩;have B: ∀e,e≠0->ik h v k a b c=e-> ∀{o:A2} {x:List AC},bj Q [] Y w o h.s ((b1,x)::(Z,gg k a b c)::dX Q X A h (bh Q A h.g (AN 17)++L))->K (0,e,()) o:=λe E h1 o x S=>by
  rw[h1,ao E,ao E,ao E] at kk;exact kk o ⟨A,W,J S.tail.tail⟩
 have l:ik h v k a b c=if(decide (v<0)||decide (v>16)|| !fN k a b c)=true then 1 else if(!(v==0)==sX k)=true then 7 else if(decide (v>0)&& !aR h.g v)=true then 4 else 0:=rfl;refine S.ld 1 rfl (show _=some (k,a,b,c,()) from rfl) ⟨fN k a b c,λ_=>Ec k a b c,?_⟩;refine ab (λd=>⟨trivial,S.res (j:=0) rfl 0 1 λm S=>?_⟩) (λd=>⟨rfl,S.cH 1 rfl rfl ⟨sX k,Hf k,?_⟩⟩)
 ·rw[av d] at l;exact B 1 (by decide) l S
 rw[ao (by rw[d];decide)] at l;simp only[E4,decide_eq_false_iff_not,Bool.not_eq_false'] at d;obtain⟨⟨dv0,dv1⟩,F⟩:=d;refine ab (λd=>⟨trivial,S.res (j:=0) rfl 0 7 λm S=>?_⟩) (λd=>⟨aR h.g v,λ_=>pY S (X:=X) (A:=A) (g:=h.g) (by simp) v,?_⟩)
 ·rw[av d] at l;exact B 7 (by decide) l S
 rw[ao (by rw[d];decide)] at l;have I:=d;refine ab (λd=>⟨trivial,S.res (j:=0) rfl 0 4 λm S=>?_⟩) (λd=>⟨rfl,S.cH 1 rfl rfl (S.ld 1 rfl (show _=some (k,a,b,c,()) from rfl) ?_)⟩)
 ·rw[av d] at l;exact B 4 (by decide) l S
 rw[ao (by rw[d];decide)] at l;rw[l,av rfl,av rfl,av rfl] at kk;have y:1<=k/\k<=17:=by
  unfold fN at F;rw[FN,decide_eq_true_eq] at F;have d1:=F.1;unfold jZ at d1;by_cases e:1<=k/\k<=17
  ·exact e
  ·rw[ao e] at d1;exact absurd d1 (by decide)
 have hl:sX k=false->aR h.g v=true:=λe=>by
  rw[e] at I;have XC:v≠0:=by
   intro e0;rw[e0] at I;exact absurd I (by decide)
  have:decide (v>0)=true:=decide_eq_true (by omega);rw[this,Gd] at d;simpa using d
 have call: ∀{T:List (Nat×List AC)} {m:A2} {M:RS->A2->Prop},SM Q D G w0 m h.s (T++dX Q X A h (bh Q A h.g (AN 17)++L)) (dg A h.g (AN 17))->
  (∀V p f,((run h v k a b c).2.2=0->V=(run h v k a b c).2.1)->Dg f (run h v k a b c).1->SM Q D G w0 p (run h v k a b c).1.s (T++dX Q X f (run h v k a b c).1 (bh Q f (run h v k a b c).1.g (AN 17)++L)) (dg f (run h v k a b c).1.g (AN 17))->M (V,(run h v k a b c).2.2,()) p)->
  zW AA (.func (.func (lZ k)) #[] #[]) (.el (.agg iN)) [ag (ae X.hb),aa v,.agg ⟨gg k a b c⟩] m M:=λ{T m M} H kk2=>by
  refine ZB (CW y) λp h5=>?_;refine dP (jm.of W (H.ext h5)) R y hl U hb hc λV z n H=>?_;obtain⟨f,q,H⟩:=jm.to H;exact kk2 V z f n q H
 have fin: ∀{V:Int},((run h v k a b c).2.2=0->V=(run h v k a b c).2.1)->(if(run h v k a b c).2.2=0 then V else 0)=if(run h v k a b c).2.2=0 then(run h v k a b c).2.1 else 0:=λ{V} n=>by
  by_cases e:(run h v k a b c).2.2=0
  ·rw[av e,av e,n e]
  ·rw[ao e,ao e]
 refine⟨?_,?_⟩
 ·refine(J S).Pf λr m H=>?_;have N:bG m r cW 17:=H.get Ay;have H:=H.FK (B8 _ _);obtain⟨G2,S,O⟩:=H.call;refine⟨dU (S.get (i:=1) rfl) rfl,?_,trivial, _,wq N y,?_,?_⟩
  ·rw[aY];exact dU (S.get (i:=1) rfl) rfl
  ·refine call (T:=[_, _]) H λV p f n q H=>?_;obtain⟨G3,S,t⟩:=H.call;refine S.al λP z S=>Gn S (j:=0) (j1:=1) rfl rfl (by decide) rfl V _ λu S=>?_;rw[fin n];exact kk u ⟨f,q,t S.tail.tail.tail⟩
  ·refine S.al λP p S=>call (T:=[_, _, _]) (O S) λV z f n q H=>?_;obtain⟨G3,S,t⟩:=H.call;refine Gn S (j:=0) (j1:=1) rfl rfl (by decide) rfl V _ λu S=>?_;rw[fin n];exact kk u ⟨f,q,t S.tail.tail.tail⟩
 ·refine S.al λP m S=>(J S).Pf λr p H=>?_;have N:bG p r cW 17:=H.get Ay;have H:=H.FK (B8 _ _);obtain⟨G2,S,O⟩:=H.call;refine⟨dU (S.get (i:=2) rfl) rfl,?_,trivial, _,wq N y,?_⟩
  ·rw[aY];exact dU (S.get (i:=2) rfl) rfl
  ·refine call (T:=[_, _, _]) H λV z f n q H=>?_;obtain⟨G3,S,t⟩:=H.call;refine Gn S (j:=0) (j1:=1) rfl rfl (by decide) rfl V _ λu S=>?_;rw[fin n];exact kk u ⟨f,q,t S.tail.tail.tail⟩
end
open Po (tv JU Oo Ge Ic xB sa Oq)
section
variable {w0:A2} {Q:Sys} {X:HX} {A:Nat->GA} {g:Nat->Option GV} {gs:List GT} {po:List Po.PT}
structure HBl (w0:A2) (Q:Sys) (X:HX) (A:Nat->GA) (g:Nat->Option GV) (gs:List GT) (po:List Po.PT):Prop where
 hb:bN w0 X.hb (fV Q X A g)
 gb:bN w0 X.gb (mE X.uC gs.length X.c)
 gr:bN w0 X.uC (flat eG gs++X.rest)
 pb:bN w0 X.pb (Po.gM 4 po)
 gl:gs.length=16
 gk:n7 gs
 pt:Po.lO 4 po
end
section
variable {Q:Sys} {X:HX} {D G:List Nat} {w0 w:A2} {h:HS} {L:List (Nat×List AC)}
end
end Go.Proofs.YtlcenllcmeebhaaGreat
namespace Go.Proofs.YtlcenllcmeebhaaGreat.Po
set_option maxRecDepth 100000
open Go.RX
def k0:List PT:=B9 512 zP
theorem RW {room:Int} (h1:1<=room) (a:room<=32):lO room k0 where
 len:=Dk
 lo:=h1
 hi:=a
 inv g i h:=by
  refine .inl ?_;unfold gp k0;rw[F1,List.getElem?_replicate];split<;>rfl
theorem Mw (n:Int) (w:A2) (a:Option Ak×Int×Unit->A2->Prop):(aI R1 (λ_=>[]) 74 [aa n] w a)=(
 aH (decide (n<1)||decide (n>32)) (au w (a (none,1,()))) (aM w ⟨gM n k0⟩ 221 λb c=>au c (a (some ⟨b,0,none⟩,0,())))):=by kernel_rfl
section
variable {D G:List Nat} {w0 w:A2} {L:List (Nat×List AC)}
theorem RY (H:aJ D G w0 w L) (n:Int) {K:Option Ak×Int×Unit->A2->Prop} (hb:n<1\/n>32-> ∀w1,aJ D G w0 w1 L->K (none,1,()) w1)
 (d:1<=n->n<=32-> ∀bp w1,aJ D G w0 w1 ((bp,gM n k0)::L)->K (some ⟨bp,0,none⟩,0,()) w1):
 aA AA 74 (.bA [.one .ptr,.one (.int .i64)]) [aa n] w K:=by
 refine aA.go H λw1 H=>ai (C:=R1) (aS:=λ_=>[]) (Al (Mw n w1 K) ?_);refine ab (λc=>?_) (λc=>?_)
 ·exact au.go H λa H=>hb (by simp at c;omega) a H
 ·refine aM.go H λb a H=>au.go H λe H=>d (by simp at c;omega) (by simp at c;omega) b e H
end
end Go.Proofs.YtlcenllcmeebhaaGreat.Po
namespace Go.Proofs.YtlcenllcmeebhaaGreat
set_option maxRecDepth 100000
open Go.RX D
def h0 (n:Nat):HS:={s:=fresh (16*n) n,g:=λ_=>none,gr:=B9 16 zG,po:=Po.k0}
section
variable {D G:List Nat} {w0 w:A2} {L:List (Nat×List AC)}
theorem VH (H:aJ D G w0 w L) (n:Int) {K:Option Ak×Int×Unit->A2->Prop} (kb:n<4\/n>4096-> ∀w1,aJ D G w0 w1 L->K (none,1,()) w1)
 (A:4<=n->n<=4096-> ∀Q X w1,Q.c=16*n.toNat->jm Q X D G w0 w1 (h0 n.toNat) L->K (some ⟨X.hb,0,none⟩,0,()) w1):
 aA AA 40 (.bA [.one .ptr,.one (.int .i64)]) [aa n] w K:=by
 refine aA.go H λw1 H=>ai (C:=V0) (aS:=λ_=>[]) (Al (Vp n w1 K) ?_);refine ab (λc=>au.go H λp H=>kb (by simpa using c) p H) (λc=>?_);have q:4<=n/\n<=4096:=by
  simp only[E4,decide_eq_false_iff_not] at c;omega
 obtain⟨m,rfl⟩: ∃m:Nat,n=(m:Int):=⟨n.toNat,by omega⟩;have e:fy .i64 16 (m:Int)=((16*m:Nat):Int):=by rw[eH (by omega) (by omega)];omega
 rw[e];refine aM.go H λb p H=>?_;refine xz (n:=16*m) H (by omega) λbm bw B H=>⟨rfl,rfl,?_⟩;generalize r:B9 (16*m) (0:Int)=W at H;refine az.fK 2 H rfl rfl rfl λE H=>?_;refine Cu H (m:Int) (λhb=>by omega) λ_ _ bp bf F H=>⟨rfl,rfl,?_⟩;rw[show((m:Int)).toNat=m from rfl] at H;generalize s:B9 m zD=DS at H;refine az.fK 4 H rfl rfl rfl λI H=>?_;refine UJ H 16 (by decide) λgb gr J H=>⟨rfl,rfl,?_⟩;obtain⟨t,u⟩: ∃t,t=B9 16 zG:=⟨_,rfl⟩;rw[<-u] at H;refine az.fK 6 H rfl rfl rfl λM H=>?_;refine Po.RY H 4 (λhb=>by omega) λ_ _ pb N H=>⟨rfl,rfl,?_⟩;obtain⟨v,y⟩: ∃v,v=Po.k0:=⟨_,rfl⟩;rw[<-y] at H;refine az.fK 7 H rfl rfl rfl λO H=>au.go H λz H=>?_;refine A q.1 q.2 ⟨bm,bw,bf,bp,16*m,m,[],[]⟩ ⟨b,gb,gr,pb,16,[]⟩ z rfl ⟨λ_=>⟨0,0,0,0,[]⟩,⟨λh=>(by cases h),λh=>(by cases h),rfl,Po.RW (by decide) (by decide),n7.new 16⟩,SM.of ⟨?_,?_,?_,?_,0,0,?_⟩⟩
 ·show 0<(B9 (16*m) (0:Int)).length;rw[Dk];omega
 ·show 0<(B9 m zD).length;rw[Dk];omega
 ·show(B9 m zD).length<=4096;rw[Dk];omega
 ·intro x o;have o:x∈B9 (16*m) (0:Int):=o;rw[List.eq_of_mem_replicate o];decide
 ·unfold Sys.L;show aJ D G w0 z ((bm,l5 bw (B9 (16*m) (0:Int)).length (16*m) 0 0)::(bw,flat eW (B9 (16*m) (0:Int))++[])::(bf,flat eD (B9 m zD)++[])::(bp,[.slice (ae bf) (B9 m zD).length m])::(b,fV _ _ (λ_=>⟨0,0,0,0,[]⟩) λ_=>none)::(gb,mE gr (B9 16 zG).length 16)::(gr,flat eG (B9 16 zG)++[])::(pb,Po.gM 4 Po.k0)::([]++L));rw[r,s, <-u, <-y,show W.length=16*m by rw[<-r,Dk],show DS.length=m by rw[<-s,Dk]];refine H.perm ?_;have p1: ∀(x1 a d f g j k l:Nat×List AC),([j,k,g,f,l,a,d,x1]++L).Perm ([x1,a,d,f,g,j,k,l]++L):=λx1 a d f g j k l=>by
   refine GS L ?_;exact(show([5,6,4,3,7,1,2,0]:List Nat).Perm [0,1,2,3,4,5,6,7] by decide).map λi=>([x1,a,d,f,g,j,k,l]:List (Nat×List AC)).getD i x1
  exact p1 _ _ _ _ _ _ _ _
end
section
variable {D G:List Nat} {w0 w w1:A2} {L L0 Ls:List (Nat×List AC)}
theorem cC.WX {M1 M2 M1':List (Nat×BI)} {L':List (Nat×List AC)} (H:cC D G w0 w L (M1++M2)) (K:cC [] (L.map (·.1)++M1.map (·.1)) w w1 L' M1'):cC D G w0 w1 L' (M1'++M2):=by
 have f:=H.nd;rw[DA,Fg] at f;have g: ∀x∈L.map (·.1)++M1.map (·.1),w0.heap.size<=x\/x∈G:=λx c=>by
  rcases DK.1 c with c|c
  ·obtain⟨y,d,rfl⟩:=B2.1 c;exact H.base.own y d
  ·obtain⟨y,d,rfl⟩:=B2.1 c;exact H.own y (Bs _ d)
 have h: ∀x,w.heap.size<=x\/x∈L.map (·.1)++M1.map (·.1)->w0.heap.size<=x\/x∈G:=λx c=>by
  rcases c with c|c
  ·exact .inl (Ik H.base.fr.size c)
  ·exact g x c
 have i: ∀r∈D,r∉L.map (·.1)++M1.map (·.1):=λr j c=>by
  rcases DK.1 c with c|c
  ·obtain⟨y,d,e⟩:=B2.1 c;exact aJ.db (H.base.dm y d) (H.base.pO r j).2 (λ_ _ _ hc=>by cases hc) e
  ·obtain⟨y,d,e⟩:=B2.1 c;exact H.nD y (Bs _ d) (by rw[e];exact j)
 have k: ∀y∈M2,y.1∉L.map (·.1)++M1.map (·.1):=λy d c=>by
  rcases DK.1 c with c|c
  ·obtain⟨x,c,e⟩:=B2.1 c;exact H.F8 c (Av _ d) e
  ·exact f.2.2 _ c _ (B2.2 ⟨y,d,rfl⟩) rfl
 have l: ∀y∈M2,y.1<w.heap.size:=λy d=>(No.1 (H.obj y (Av _ d)).1).1;refine⟨H.base.frame K.base.fr g i K.base.dm (λx c=>h _ (K.base.own x c)) K.base.nd,λx c=>?_,λx c=>?_,?_,λx c=>?_⟩
 ·rcases DK.1 c with c|c
  ·exact K.obj x c
  ·obtain⟨n,o⟩:=H.obj x (Av _ c);exact⟨by rw[K.base.fr.block x.1 (l x c) (k x c)];exact n,o⟩
 ·rcases DK.1 c with c|c
  ·exact h _ (K.own x c)
  ·exact H.own x (Av _ c)
 ·rw[DA,Fg];refine⟨K.nd,f.2.1,λa p b hb e=>?_⟩;subst e;obtain⟨x,c,rfl⟩:=B2.1 p;obtain⟨y,d,e⟩:=B2.1 hb;rcases K.own x c with q|q
  ·have:=l y d;omega
  ·exact k y d (by rw[e];exact q)
 ·rcases DK.1 c with c|c
  ·intro m;rcases K.own x c with q|q
   ·have:=(No.1 (H.base.pO _ m).2).1;omega
   ·exact i _ m q
  ·exact H.nD x (Av _ c)
theorem cC.Ph {M1 M2:List (Nat×BI)} (H:cC D G w0 w L (M1++M2)):cC [] (L.map (·.1)++M1.map (·.1)) w w L M1:=by
 have b:=H.nd;rw[DA,Fg] at b;exact⟨⟨Fr.refl _ w,H.base.dm,λx a=> .inr (Bs _ (B2.2 ⟨x,a,rfl⟩)),H.base.nd,λx a=>(by cases a)⟩,λx a=>H.obj x (Bs _ a),λx a=> .inr (Av _ (B2.2 ⟨x,a,rfl⟩)),b.1,λx a=>List.not_mem_nil⟩
end
end Go.Proofs.YtlcenllcmeebhaaGreat
