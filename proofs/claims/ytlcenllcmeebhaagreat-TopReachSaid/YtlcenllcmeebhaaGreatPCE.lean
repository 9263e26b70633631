import Derived.Test.YtlcenllcmeebhaaGreatPCD
/-! What the statement leans on: texts joined and shortened by a program of mine. -/
set_option linter.unusedVariables false
set_option linter.unusedSimpArgs false
open Go renaming World->A2,Value->AC,Addr->Ab,MapEntry->B9,Obj->Bs
open Go.Proofs.Tryz renaming prog->AB
open List renaming range->AR,mem_append_right->Az,mem_cons_self->B1,mem_cons_of_mem->B2,mem_map->B3,perm_middle->B4,getElem?_of_mem->B5,length_map->B_,sublist_cons_self->BN,replicate->BT,getElem?_map->Bx,mem_append_left->C6,getElem?_eq_some_iff->C8,mem_of_getElem?->Ca,getElem?_eq_getElem->DA,append_assoc->DB,mem_range->DG,map_append->DJ,mem_append->DU,length_cons->DY,length_set->Db,length_replicate->Dc,perm_append_comm->Df,flatMap_cons->Dj,getElem?_set_self->Dl,length_take->Dn,getD_eq_getElem?_getD->Dy,mem_cons->E4,getElem?_set_ne->E5,length->FG,getElem?_inj->FS,filter_eq_self->FV,nodup_append->FW,getElem?_append_right->FX,sublist_append_right->FY,length_append->Fo,perm_cons_erase->Ft,filter_map->Fw,map_map->Fy,ext_getElem?->G1,any_eq_true->GS,sublist_append_left->Ga,mem_flatMap->H7,foldl_cons->HB,mem_singleton->HZ,map_cons->Hb,find?_eq_none->Hr,take_append_drop->I1,set_append_right->I2,filter_congr->IR,length_singleton->If,mem_filter->Ij,length_drop->Ik,getElem?_append_left->In,length_eraseIdx->Ix,nodup_nil->JL,find?_some->JN,mem_of_find?_eq_some->JP,findIdx?_eq_some_iff_getElem->JQ,drop_eq_getElem_cons->JV,nodup_cons->JW,eraseIdx_eq_take_drop_succ->K1,filter_cons_of_neg->LL,filter_sublist->M4,length_nil->M5,countP_eq_length_filter->N2,filter_cons->N4,length_filter_le->N5,replicate_succ'->N6,set_append_left->N7,nil_append->NO,length_zipIdx->NP,find?_range_eq_some->NU,getElem?_eq_none->NY,perm_append_comm_assoc->Nl
open Eq renaming mpr->Ax
open List.Perm renaming cons->DM,refl->Do,flatMap_right->Gd,append_right->Gi,append_left->J3
open Int renaming toNat_natCast->Dd,le_refl->H4
open Bool renaming or_eq_false_iff->Ds,and_eq_true->F5,true_and->H5,or_eq_true->Np,not_eq_true'->Nq
open Nat renaming le_refl->Dt,zero_le->FC,min_eq_left->J4,le_trans->J8,not_lt_zero->Ns
open List.Sublist renaming append_left->H6
open Array renaming contains_push->JJ,eraseIdxIfInBounds->Nt,getElem?_eq_some_iff->Nv
open Option renaming map_eq_some_iff->Ny,map_eq_none_iff->O2
namespace Go.Proofs.YtlcenllcmeebhaaGreat
set_option maxRecDepth 100000
open Go.RX D
def Rt (g:Gh):Prop:= ∀f o x,g f=some (o,3,x)->x=0
theorem Rt.du {g g':Gh} (h:Rt g) (k:mI g g'):Rt g':=λf o x e=>h f o x ((k _ _ _).1 e)
def upx:Nat->Int->Int
 |0,x=>x
 |n+1,x=>upx n x / 16
theorem Jd {ws:List Int} {l:Nat} {f z:Int}:z∈(AR 16).flatMap (oO ws l f)<-> ∃i:Nat,i<16/\ ∃m,l=m+1/\dJ (aN ws (16*f+(i:Int)))=true/\z∈cU ws m (aN ws (16*f+(i:Int))).2.2.2.1:=by
 rw[H7];constructor
 ·rintro⟨hi,h⟩;cases l with
  |zero
  |succ=>
   unfold oO at h
   grind
 ·rintro⟨i,hi,m,rfl,h⟩;unfold oO
  grind
theorem ve (x:Int): ∀l:List Int,(jA x l).Perm (x::l)
 |[]=> .refl _
 |y::l=>by
  rw[jA];split
  ·exact((ve x l).cons y).trans (.swap _ _ _)
  simp
theorem Bq: ∀(l a:List Int),(l.foldl (λa x=>jA x a) a).Perm (l++a)
 |[],a=> .refl _
 |x::l,a=>by
  exact(Bq l _).trans (by grind[ve])
theorem jL (l:List Int):(lx l).Perm l:=by grind[lx,Bq]
theorem RH (o:Int) (h:1<=o/\o<=16): ¬ (aP 5 0 (5,o,0,0,())).2=0:=by
 have a:dT 5 o 0 0=true:=by unfold dT jH;grind
 show ¬ fS 5 o 0 0 5 0=0;unfold fS;rw[ao (by grind),ao (by grind),ao (by decide)]
 grind
theorem Br {o:Int} (c:1<=o/\o<=16): ∀(l:List Int) (ds:List DT),(∀f∈l,0<=f/\(ds[f.toNat]? =some (3,o,0,0,())\/ds[f.toNat]? =some (5,o,0,0,())))->
 (l.foldl (λds f=>dI ds f (aP 5 0)) ds).length=ds.length/\ ∀n:Nat,((n:Int)∈l->(l.foldl (λds f=>dI ds f (aP 5 0)) ds)[n]? =some (5,o,0,0,()))/\((n:Int)∉l->(l.foldl (λds f=>dI ds f (aP 5 0)) ds)[n]? =ds[n]?)
 |[],ds, _=>⟨rfl,by grind⟩
 |f::l,ds,h=>by
  obtain⟨i,a⟩:=h f B1;have r:f.toNat<ds.length:=by
   rcases a with h|h<;>exact(C8.1 h).1
  have j:(dI ds f (aP 5 0)).length=ds.length/\(dI ds f (aP 5 0))[f.toNat]? =some (5,o,0,0,())/\ ∀n:Nat,n≠f.toNat->(dI ds f (aP 5 0))[n]? =ds[n]? :=by
   rw[nJ ⟨i,by omega⟩,Dy];rcases a with a|a
   ·rw[a];show((if(aP 5 0 (3,o,0,0,())).2=0 then ds.set f.toNat (aP 5 0 (3,o,0,0,())).1 else ds).length= _)/\(if(aP 5 0 (3,o,0,0,())).2=0 then ds.set f.toNat (aP 5 0 (3,o,0,0,())).1 else ds)[f.toNat]? = _/\ ∀n:Nat,n≠f.toNat->(if(aP 5 0 (3,o,0,0,())).2=0 then ds.set f.toNat (aP 5 0 (3,o,0,0,())).1 else ds)[n]? = _;rw[Eu c,ax rfl]
    grind
   ·rw[a];show((if(aP 5 0 (5,o,0,0,())).2=0 then ds.set f.toNat (aP 5 0 (5,o,0,0,())).1 else ds).length= _)/\(if(aP 5 0 (5,o,0,0,())).2=0 then ds.set f.toNat (aP 5 0 (5,o,0,0,())).1 else ds)[f.toNat]? = _/\ ∀n:Nat,n≠f.toNat->(if(aP 5 0 (5,o,0,0,())).2=0 then ds.set f.toNat (aP 5 0 (5,o,0,0,())).1 else ds)[n]? = _;rw[ao (RH o c)]
    grind
  rw[HB];obtain⟨k,m,p⟩:=j;obtain⟨q,d⟩:=Br c l (dI ds f (aP 5 0)) (by grind);refine⟨q.trans k,λn=>⟨λb=>?_,λb=>?_⟩⟩
  ·by_cases g:(n:Int)∈l
   ·exact(d n).1 g
   ·rw[(d n).2 g];have:(n:Int)=f:=(E4.1 b).resolve_right g;have e:n=f.toNat:=by omega
    rw[e];exact m
  ·rw[(d n).2 (λh=>b (B2 _ h)),p n (λe=>b (by
   have:(n:Int)=f:=by omega
   rw[this];exact B1))]
def J9 (g:Gh) (o:Int):Gh:=λf=>match g f with
 |some v=>if v.1=o then none else some v
 |none=>none
theorem db {g:Gh} {o f:Int} {v:Int×Nat×Int}:J9 g o f=some v<->g f=some v/\v.1≠o:=by grind[J9]
namespace Inv
variable {g:Gh} {s:WD}
theorem RI (I:Inv g s): ∀(l:Nat) {f o x:Int},g f=some (o,l,x)-> ∀z∈cU s.1 l f, ∃l' x' n,l'+n=l/\g z=some (o,l',x')/\upx n x'=x:=by
 intro l
 induction l with
 |zero=>
  intro f o x b z a;rw[cU,HZ] at a;subst a;exact⟨0,x,0,rfl,b,rfl⟩
 |succ l c=>
  intro f o x b z a;rw[m5] at a;rcases E4.1 a with rfl|a
  ·exact⟨l+1,x,0,rfl,b,rfl⟩
  ·obtain⟨i,hi,m,p,d,e⟩:=Jd.1 a;have:m=l:=by omega
   subst this;obtain⟨h,h1,j⟩:=I.sj b (by omega) (by omega) d;have:h=m:=by omega
   subst this;obtain⟨l',x',n,q,k,r⟩:=c j z e;refine⟨l',x',n+1,by omega,k,?_⟩;show upx n x' / 16=x;omega
theorem Ex (I:Inv g s) (c:Rt g) {r o:Int} (d:g r=some (o,3,0)): ∀(n:Nat) {l:Nat} {f x:Int},l+n=3->g f=some (o,l,x)-> ∀z∈cU s.1 l f,z∈cU s.1 3 r
 |0,l,f,x,h,a,z,b=>by
  have:l=3:=by omega
  subst this;have:=c _ _ _ a;subst this;rw[I.inj a d] at b
  grind
 |n+1,l,f,x,h,a,z,b=>by
  obtain⟨f',h1,i⟩:=I.Fu a (by omega);obtain⟨j,k, _⟩:=I.vx a;refine I.Ex c d n (by omega) h1 z ?_;refine B2 _ (Jd.2 ⟨(x % 16).toNat,by omega,l,rfl,?_⟩);have e:(x % 16).toNat=x % 16:=by omega
  rw[e,i];exact⟨dG ⟨j,k⟩,b⟩
theorem L5 (I:Inv g s) (a:Rt g) {r o:Int} (b:g r=some (o,3,0)) (z:Int):z∈cU s.1 3 r<-> ∃l x,g z=some (o,l,x):=by
 constructor
 ·obtain:=I.RI
  grind
 ·rintro⟨l,x,h⟩;have c:=(I.kd h).2.2.2.2.2;exact I.Ex a b (3 - l) (by omega) h z (by rw[m5];simp)
theorem dropped (I:Inv g s) (t:Rt g) {r o:Int} (u:g r=some (o,3,0)):
 Inv (J9 g o) (cG s r false)/\Rt (J9 g o)/\(cG s r false).1=s.1/\(cG s r false).2.length=s.2.length/\
  ∀n:Nat,((∃l x,g (n:Int)=some (o,l,x))->(cG s r false).2[n]? =some (5,o,0,0,()))/\((¬ ∃l x,g (n:Int)=some (o,l,x))->(cG s r false).2[n]? =s.2[n]?):=by
 have w: ¬ (false=true):=by decide
 have D:cG s r false=(s.1,(mG s r false).foldl _ s.2):=ao w;have E:mG s r false=lx (cU s.1 3 r):=ao w;have p: ∀z,z∈mG s r false<-> ∃l x,g z=some (o,l,x):=λz=>by
  rw[E,(jL _).mem_iff];exact I.L5 t u z
 have y:=(I.kd u).2.2.2;obtain⟨t1,t2⟩:=Br ⟨y.1,y.2.1⟩ (mG s r false) s.2 (λf F=>by
  obtain⟨l,x,h⟩:=(p f).1 F;obtain⟨a1,G,A, _⟩:=I.kd h;exact⟨a1,.inl A⟩)
 rw[D];generalize Q:(mG s r false).foldl _ s.2=ds at t1 t2;have B:=λn h=>(t2 n).1 ((p _).2 h);have q: ∀n:Nat,(¬ ∃l x,g (n:Int)=some (o,l,x))->ds[n]? =s.2[n]? :=λn h=>(t2 n).2 (λH=>h ((p _).1 H));refine⟨?_,λf o' x h=>t f o' x (db.1 h).1,rfl,t1,λn=>⟨B n,q n⟩⟩;refine⟨?_,?_,?_,?_,?_,?_,?_,?_,?_,?_⟩
 ·rw[t1];exact I.len
 ·show ds.length<=4096;rw[t1];exact I.le
 ·intro d J h0;obtain⟨n,i⟩:=B5 J;by_cases h: ∃l x,g (n:Int)=some (o,l,x)
  grind
  ·rw[q n h] at i;exact I.fz d (Ca i) h0
 ·intro f o' l x h;obtain⟨h,j⟩:=db.1 h;obtain⟨a1,G,A,R⟩:=I.kd h
  grind
 ·intro a b v K hb;exact I.inj (db.1 K).1 (db.1 hb).1
 ·intro f o' l x k h h0 h1 L;obtain⟨h,j⟩:=db.1 h;obtain⟨m,M,N⟩:=I.sj h h0 h1 L;exact⟨m,M,db.2 ⟨N,j⟩⟩
 ·intro f o' l x k h h0 h1;exact I.leaf (db.1 h).1 h0 h1
 ·intro f o' l x h O;obtain⟨h,j⟩:=db.1 h;obtain⟨f',p1,p2⟩:=I.Fu h O;exact⟨f',db.2 ⟨p1,j⟩,p2⟩
 ·intro f o' l x k h h0 h1 P;exact I.wf (db.1 h).1 h0 h1 P
 ·intro n d i C;by_cases h: ∃l x,g (n:Int)=some (o,l,x)
  ·rw[B n h] at i;cases i;cases C
  ·rw[q n h] at i;obtain⟨v,hv⟩:=I.tb i C;refine⟨v,db.2 ⟨hv,λe=>h ?_⟩⟩;obtain⟨a,b,c⟩:=v;have e:a=o:=e;subst e;exact⟨b,c,hv⟩
end Inv
set_option maxRecDepth 100000
open Go.RX D
theorem Vu {s:WD} {o r pg lv:Int} {e:ET} (h: ¬ lQ s r pg lv=0):rG s o r pg lv e=s:=ao h
theorem Je {s:WD} {o r:Int} {gone:Bool} {pg f rt:Int} (h: ¬ kJ s r gone pg f rt=0):jy s o r gone pg f rt=s:=by
 unfold kJ at h;unfold jy;cases gone with
 |true=>rw[ax rfl]
 |false=>
  have a: ¬ (false=true):=by decide
  rw[ao a] at h ⊢;by_cases c:l9 pg f rt=0
  ·rw[ax c] at h ⊢;exact Vu h
  ·rw[ao c]
theorem Vv {s:WD} {o r pg:Int} (h: ¬ lR s o r pg=0):fl s o r pg=s:=by
 unfold lR at h;unfold fl;by_cases c:(dA s.1 r pg).2.1=0
 ·rw[ax c]
 ·rw[ao c] at h ⊢;rw[ao h,Jb h]
theorem Vw {s:WD} {o r:Int} {gone:Bool} {pg rt:Int} (h: ¬ B8 s o r gone pg rt=0):rH s o r gone pg rt=s:=by
 unfold B8 at h;unfold rH;cases gone with
 |true=>rw[ax rfl]
 |false=>
  have a: ¬ (false=true):=by decide
  rw[ao a] at h ⊢;by_cases c:l9 pg 0 rt=0
  ·rw[ax c] at h ⊢;by_cases d:(da s.1 r pg).1=true
   ·rw[ax d] at h ⊢;by_cases e:((da s.1 r pg).2.2.1&&(da s.1 r pg).2.1==rt)=true
    ·rw[ax e]
    ·rw[ao e] at h ⊢;rw[ao h,Vv h]
   ·rw[ao d]
  ·rw[ao c]
namespace Inv
variable {g:Gh} {s:WD}
theorem ZB (I:Inv g s) {o:Int} (a:1<=o/\o<=16) (hc:0<bu s.2 0):rA s o=0:=by
 obtain⟨n, _, _, _,e, _⟩:=m6 hc I.fz a;exact e
end Inv
set_option maxRecDepth 100000
open Go.RX D
structure SM (Q:Sys) (D G:List Nat) (w0 w:A2) (s:WD) (L0:List (Nat×List AC)) (M:List (Nat×Bs)):Prop where
 pos:0<s.1.length
 F1:0<s.2.length
 le:s.2.length<=4096
 okw:okW s.1
 kn: ∃ca la,cC D G w0 w (Q.L ca la s L0) M
section
variable {Q:Sys} {D G:List Nat} {w0 w w1:A2} {s:WD} {L0 L1:List (Nat×List AC)} {M M1:List (Nat×Bs)}
namespace SM
theorem ext (H:SM Q D G w0 w s L0 M) (h:Ext w w1):SM Q D G w0 w1 s L0 M:=by
 obtain⟨a,b,c,d,ca,la,k⟩:=H;exact⟨a,b,c,d,ca,la,k.ext h⟩
theorem base (H:SM Q D G w0 w s L0 M):bq Q D G w0 w s L0:=by
 obtain⟨a,b,c,d,ca,la,k⟩:=H;exact⟨a,b,c,d,ca,la,k.base⟩
theorem of (S:bq Q D G w0 w s L0):SM Q D G w0 w s L0 []:=by
 obtain⟨a,b,c,d,ca,la,k⟩:=S;exact⟨a,b,c,d,ca,la,cC.of k⟩
theorem call (H:SM Q D G w0 w s L0 M): ∃f,bq Q [] f w w s L0/\ ∀{e:A2} {s':WD} {L':List (Nat×List AC)},bq Q [] f w e s' L'->SM Q D G w0 e s' L' M:=by
 obtain⟨a,b,c,d,ca,la,k⟩:=H;refine⟨_,⟨a,b,c,d,ca,la,k.base.again⟩,λ{e s' L'} S=>?_⟩;obtain⟨a',g,h,d',qO,C_,i⟩:=S;exact⟨a',g,h,d',qO,C_,k.join i⟩
theorem perm (H:SM Q D G w0 w s L0 M) (h:L1.Perm L0):SM Q D G w0 w s L1 M:=by
 obtain⟨a,b,c,d,ca,la,k⟩:=H;exact⟨a,b,c,d,ca,la,k.perm ((((h.cons _).cons _).cons _).cons _)⟩
theorem sub (H:SM Q D G w0 w s L0 M) (h:L1.Sublist L0):SM Q D G w0 w s L1 M:=by
 obtain⟨a,b,c,d,ca,la,k⟩:=H;exact⟨a,b,c,d,ca,la,k.sub ((((h.cons_cons _).cons_cons _).cons_cons _).cons_cons _)⟩
theorem lr (H:SM Q D G w0 w s L0 M) (h:M1.Perm M):SM Q D G w0 w s L0 M1:=by
 obtain⟨a,b,c,d,ca,la,k⟩:=H;exact⟨a,b,c,d,ca,la,k.lr h⟩
theorem FR (H:SM Q D G w0 w s L0 M) (h:M1.Sublist M):SM Q D G w0 w s L0 M1:=by
 obtain⟨a,b,c,d,ca,la,k⟩:=H;exact⟨a,b,c,d,ca,la,k.FR h⟩
theorem get (H:SM Q D G w0 w s L0 M) {r:Nat} {o:Bs} (h:(r,o)∈M):w.heap[r]? =some o:=by
 obtain⟨a,b,c,d,ca,la,k⟩:=H;exact(k.obj _ h).1
theorem put (H:SM Q D G w0 w s L0 M) {i r:Nat} {o:Bs} (h:M[i]? =some (r,o)) {o':Bs} (e:nR o'):SM Q D G w0 (w.putObj r o') s L0 (M.set i (r,o')):=by
 obtain⟨a,b,c,d,ca,la,k⟩:=H;exact⟨a,b,c,d,ca,la,k.put h e⟩
theorem alloc (H:SM Q D G w0 w s L0 M) {o:Bs} (e:nR o):SM Q D G w0 (w.alloc o) s L0 ((w.heap.size,o)::M):=by
 obtain⟨a,b,c,d,ca,la,k⟩:=H;exact⟨a,b,c,d,ca,la,k.alloc e⟩
theorem go (H:SM Q D G w0 w s L0 M) {P:Program} {f:FuncId} {sh:Sh} {args:List AC} {K:sh.T->A2->Prop} (k: ∀w1,SM Q D G w0 w1 s L0 M->aE P f sh args w1 K):aB P f sh args w K:=λ_ h=>k _ (H.ext h)
theorem en (H:SM Q D G w0 w s L0 M) {K:A2->Prop} (k: ∀w1,SM Q D G w0 w1 s L0 M->K w1):au w K:=λ_ h=>k _ (H.ext h)
end SM
end
abbrev TK:Type:=Int×Int×Int
def xg (t:TK):AC×AC:=(aa t.1,.agg ⟨[aa t.2.1,aa t.2.2]⟩)
def qE (es:List B9) (ck:Nat) (tk:List TK):Prop:=
 (∃p:List TK,p.Perm tk/\es.map (λe=>(e.key,e.val))=p.map xg)/\(es.map (·.born)).Nodup/\(∀e∈es,e.born<ck)/\(tk.map (·.1)).Nodup
theorem qE.nil:qE [] 0 []:=⟨⟨[],List.Perm.nil,rfl⟩,JL,λe a=>(by cases a),JL⟩
theorem qE.len {es:List B9} {ck:Nat} {tk:List TK} (h:qE es ck tk):es.length=tk.length:=by
 obtain⟨⟨p,h1,a⟩, _⟩:=h;have:=congrArg FG a;rw[B_,B_] at this;rw[this,h1.length_eq]
theorem RJ {es:List B9} {p:List TK} (h:es.map (λe=>(e.key,e.val))=p.map xg) (g:Int) (i0:Nat):
 Instr.findNow (.int .i64) (aa g) es i0=some (match p.findIdx? (λt=>t.1==g) with
  |some i=>some (i0+i,(xg (p.getD i (0,0,0))).2)
  |none=>none):=by
 induction es generalizing p i0 with
 |nil=>
  cases p with
  |nil=>rfl
  |cons t p=>simp at h
 |cons e es d=>
  cases p with
  |nil=>simp at h
  |cons t p=>
   simp only[Hb,List.cons.injEq] at h;obtain⟨h1,f⟩:=h;have j:e.key=aa t.1:=congrArg (·.1) h1;have hv:e.val=(xg t).2:=congrArg (·.2) h1;unfold Instr.findNow;rw[j];have k:Instr.sameNow (.int .i64) (aa g) (aa t.1)=some (g==t.1):=by
    show(if IntKind.i64=IntKind.i64 then some (g==t.1) else none)= _;rw[ax rfl]
   rw[k,List.findIdx?_cons];by_cases a:t.1=g
   ·have b:(g==t.1)=true:=by simp[a]
    have c:(t.1==g)=true:=by simp[a]
    rw[b,ax c];dsimp only;rw[hv];rfl
   ·have b:(g==t.1)=false:=by simp;exact λe=>a e.symm
    have c: ¬ (t.1==g)=true:=by simp[a]
    rw[b,ao c];dsimp only;rw[d f (i0+1)];cases p.findIdx? (λt=>t.1==g) with
    |none=>rfl
    |some i=>
     show some (some (i0+1+i, _))=some (some (i0+(i+1), _));rw[show i0+1+i=i0+(i+1) by omega];rfl
def cg (tk:List TK) (g:Int):Option (Int×Int):=(tk.find? λt=>t.1==g).map (·.2)
theorem jJ {tk:List TK} {g a b:Int} (l:(tk.map (·.1)).Nodup):cg tk g=some (a,b)<->(g,a,b)∈tk:=by
 unfold cg;constructor
 ·intro h;obtain⟨t,h1,k⟩:=Ny.1 h;have c:=JN h1;have d:=JP h1;have:t.1=g:=by simpa using c
  obtain⟨t1,t2⟩:=t;simp only at this k;subst this;subst k;exact d
 ·intro h;cases e:tk.find? λt=>t.1==g with
  |none=>
   have:=Hr.1 e _ h;simp at this
  |some t=>
   have c:=JN e;have d:=JP e;have m:t.1=g:=by simpa using c
   obtain⟨i,hi⟩:=B5 h;obtain⟨j,f⟩:=B5 d;have n:(tk.map (·.1))[i]? =some g:=by rw[Bx,hi];rfl
   have o:(tk.map (·.1))[j]? =some g:=by rw[Bx,f];exact congrArg some m
   have:=(FS (by rw[B_];exact(C8.1 hi).1) l).1 (n.trans o.symm);subst this;rw[hi] at f;cases f;rfl
theorem qs {tk:List TK} {g:Int}:cg tk g=none<-> ∀t∈tk,t.1≠g:=by
 unfold cg;rw[O2,Hr];simp
theorem qt {α β:Type} (f:α->β): ∀(l:List α) (i:Nat),(l.eraseIdx i).map f=(l.map f).eraseIdx i
 |[],i=>by simp
 |a::l,0=>rfl
 |a::l,i+1=>by
  simp only[List.eraseIdx_cons_succ,Hb];rw[qt f l i]
theorem qE.find {es:List B9} {ck:Nat} {tk:List TK} (h:qE es ck tk) (g:Int): ∃r,Instr.findNow (.int .i64) (aa g) es 0=some r/\
 match cg tk g with
 |some x=> ∃i,r=some (i,.agg ⟨[aa x.1,aa x.2]⟩)/\i<es.length/\qE (es.eraseIdx i) ck (tk.filter λt=> !(t.1==g))
 |none=>r=none:=by
 obtain⟨⟨p,h1,f⟩,s,u,j⟩:=h;refine⟨_,RJ f g 0,?_⟩;have v:(p.map (·.1)).Nodup:=(h1.map _).nodup_iff.2 j;cases k:p.findIdx? (λt=>t.1==g) with
 |none=>
  have:cg tk g=none:=qs.2 λt d=>by
   have:=List.findIdx?_eq_none_iff.1 k t (h1.mem_iff.2 d);simpa using this
  rw[this]
 |some i=>
  rw[JQ] at k;obtain⟨hi,b, _⟩:=k;have l:p[i]? =some p[i]:=DA hi;have m:p.getD i (0,0,0)=p[i]:=by rw[Dy,l];rfl
  obtain⟨t,d⟩: ∃t,t=p[i]:=⟨_,rfl⟩;rw[<-d] at l m b;have b:t.1=g:=by simpa using b
  have w:(g,t.2.1,t.2.2)∈tk:=by
   have:=h1.mem_iff.1 (Ca l);obtain⟨t1,t2,t3⟩:=t;simp only at b;subst b;exact this
  rw[(jJ j).2 w];have B:es.length=p.length:=by
   have:=congrArg FG f;simpa using this
  refine⟨i,by dsimp only;rw[m,Nat.zero_add];rfl,by omega,⟨p.eraseIdx i,?_,?_⟩,?_,?_,?_⟩
  ·have y:p.eraseIdx i=p.filter λt=> !(t.1==g):=by
    have n:p=p.take i++t::p.drop (i+1):=by
     conv=>lhs;rw[<-I1 i p]
     rw[JV hi, <-d]
    have o: ∀x∈p.take i++p.drop (i+1),x.1≠g:=by
     intro x c e;have q:=v;rw[n,DJ,Hb] at q;have z:=(B4 (a:=t.1) (l₁:=(p.take i).map (·.1)) (l₂:=(p.drop (i+1)).map (·.1))).nodup_iff.1 q;have:=(JW.1 z).1;refine this ?_;rw[b, <-e, <-DJ];exact B3.2 ⟨x,c,rfl⟩
    rw[K1]
    conv=>rhs;rw[n]
    rw[List.filter_append,LL (by simp[b])];rw[FV.2 (λx c=>by have:=o x (C6 _ c);simpa using this),FV.2 (λx c=>by have:=o x (Az _ c);simpa using this)]
   rw[y];exact h1.filter _
  ·rw[qt,f,qt]
  ·rw[qt];exact s.sublist (List.eraseIdx_sublist _ _)
  ·exact λe A=>u e (List.mem_of_mem_eraseIdx A)
  ·exact j.sublist ((M4).map _)
theorem qE.push {es:List B9} {ck:Nat} {tk:List TK} (h:qE es ck tk) {t:TK} (g:cg tk t.1=none) {b:List TK} (c:b.Perm (t::tk)):qE (es++[{key:=(xg t).1,val:=(xg t).2,born:=ck}]) (ck+1) b:=by
 obtain⟨⟨p,h1,i⟩,j,d,k⟩:=h;refine⟨⟨p++[t],?_,?_⟩,?_,?_,?_⟩
 ·exact(List.perm_append_singleton _ _).trans ((h1.cons _).trans c.symm)
 ·rw[DJ,i,DJ];rfl
 ·rw[DJ];refine FW.2 ⟨j,by simp,λx a y f e=>?_⟩;obtain⟨e',he,rfl⟩:=B3.1 a;have f:y=ck:=by simpa using f
  have:=d e' he;omega
 ·intro e he;rcases DU.1 he with he|he
  ·have:=d e he;omega
  ·have:e={key:=(xg t).1,val:=(xg t).2,born:=ck}:=by simpa using he
   subst this;exact Nat.lt_succ_self _
 ·refine(c.map _).nodup_iff.2 (JW.2 ⟨λl=>?_,k⟩);obtain⟨x,a,e⟩:=B3.1 l;exact qs.1 g x a e
set_option maxRecDepth 100000
open Go.RX D
structure GV where
 root:Int
 tk:List TK
structure HS where
 s:WD
 g:Nat->Option GV
 gr:List GT
 po:List Po.PT
structure HX where
 hb:Nat
 gb:Nat
 uB:Nat
 pb:Nat
 c:Nat
 rest:List AC
structure GA where
 bg:Nat
 bt:Nat
 bm:Nat
 ck:Nat
 es:List B9
def kL (A:Nat->GA) (g:Nat->Option GV) (i:Nat):Option Ab:=match g i with
 |some _=>some ⟨(A i).bg,0,none⟩
 |none=>none
def mr (A:Nat->GA) (g:Nat->Option GV):List AC:=(AR 17).map λi=>ag (kL A g i)
abbrev fg (Q:Sys) (X:HX) (A:Nat->GA) (g:Nat->Option GV):List AC:=[ag (ae Q.bm),ag (ae Q.bp),ag (ae X.gb),ag (ae X.pb)]++mr A g
def gP (Q:Sys) (A:Nat->GA) (i:Nat) (v:GV):List (Nat×List AC):=[((A i).bg,[ag (some ⟨(A i).bt,0,none⟩),.map (some (A i).bm)]),((A i).bt,oV Q i v.root false)]
def a_ (Q:Sys) (A:Nat->GA) (g:Nat->Option GV) (l:List Nat):List (Nat×List AC):=l.flatMap λi=>match g i with
 |some v=>gP Q A i v
 |none=>[]
def dj (A:Nat->GA) (g:Nat->Option GV) (l:List Nat):List (Nat×Bs):=l.flatMap λi=>match g i with
 |some _=>[((A i).bm,Obj.map ⟨(A i).es⟩ (A i).ck)]
 |none=>[]
abbrev dS (Q:Sys) (X:HX) (A:Nat->GA) (h:HS) (L:List (Nat×List AC)):List (Nat×List AC):=
 (X.hb,fg Q X A h.g)::(X.gb,my X.uB h.gr.length X.c)::(X.uB,flat eG h.gr++X.rest)::(X.pb,Po.gK 4 h.po)::L
structure Dm (A:Nat->GA) (h:HS):Prop where
 jj: ∀{i v},h.g i=some v->1<=i/\i<=16
 mp: ∀{i v},h.g i=some v->qE (A i).es (A i).ck v.tk
 gl:h.gr.length=16
 pt:Po.lJ 4 h.po
 gk:om h.gr
def jk (Q:Sys) (X:HX) (D G:List Nat) (w0 w:A2) (h:HS) (L:List (Nat×List AC)):Prop:=
 ∃A,Dm A h/\SM Q D G w0 w h.s (dS Q X A h (a_ Q A h.g (AR 17)++L)) (dj A h.g (AR 17))
theorem Bt {Q:Sys} {A:Nat->GA} {g:Nat->Option GV} {l:List Nat} {i:Nat} {v:GV} (hi:i∈l) (hv:g i=some v): ∀x∈gP Q A i v,x∈a_ Q A g l:=λx a=>by
 unfold a_;exact H7.2 ⟨i,hi,by rw[hv];exact a⟩
theorem L6 {A:Nat->GA} {g:Nat->Option GV} {l:List Nat} {i:Nat} {v:GV} (hi:i∈l) (hv:g i=some v):((A i).bm,Obj.map ⟨(A i).es⟩ (A i).ck)∈dj A g l:=by
 unfold dj;exact H7.2 ⟨i,hi,by rw[hv];exact HZ.2 rfl⟩
theorem vf {A:Nat->GA} {g:Nat->Option GV} {i:Nat} (hi:i<17):(mr A g)[i]? =some (ag (kL A g i)):=by
 unfold mr;rw[Bx,List.getElem?_range hi];rfl
def aW (g:Nat->Option GV) (v:Int):Bool:=decide (v>=1)&&decide (v<=16)&&(g v.toNat).isSome
def aY (g:Nat->Option GV) (v:Int):Int:=if aW g v=true then(match g v.toNat with|some x=>x.root|none=> -1) else -1
def gi (g:Nat->Option GV) (v p:Int):Int×Bool×Unit:=if aW g v=true then(match g v.toNat with
 |some x=>(match cg x.tk p with|some y=>(y.1,true,())|none=>(0,false,()))
 |none=>(0,false,())) else(0,false,())
def cN (g:Nat->Option GV) (v a:Int):Int:=if a<1\/a>16\/a=v then 1 else if aW g a=true then 0 else 4
theorem cw {g:Nat->Option GV} {v:Int}:aW g v=true<->(1<=v/\v<=16)/\ ∃x,g v.toNat=some x:=by
 unfold aW;simp only[F5,decide_eq_true_eq,Option.isSome_iff_exists]
section
variable {Q:Sys} {X:HX} {D G:List Nat} {w0 w:A2} {s:WD} {L0:List (Nat×List AC)} {M:List (Nat×Bs)} {A:Nat->GA} {g:Nat->Option GV}
theorem bq.pz (S:bq Q D G w0 w s L0) (a:(X.hb,fg Q X A g)∈L0) {v:Int} (hv:0<=v/\v<=16):cH w (ad (ad (ae X.hb) 4) (v.toNat*1)) (.one .ptr) (kL A g v.toNat):=by
 obtain⟨j,b⟩:=B5 a;rw[aX,aX];refine dV (S.get b) ?_;show(match (fg Q X A g)[0+4+v.toNat*1]? with|some v=>Sc.ptr.proj v|none=>none)= _;have:(fg Q X A g)[0+4+v.toNat*1]? =some (ag (kL A g v.toNat)):=by
  show([ag (ae Q.bm),ag (ae Q.bp),ag (ae X.gb),ag (ae X.pb)]++mr A g)[0+4+v.toNat*1]? = _;rw[FX (by simp),DY,DY,DY,DY,M5];rw[show 0+4+v.toNat*1 - (0+1+1+1+1)=v.toNat by omega];exact vf (by omega)
 rw[this];rfl
theorem bq.fL (S:bq Q D G w0 w s L0) (a:(X.hb,fg Q X A g)∈L0) {n:Nat} {x:Option Ab} (h:[(some ⟨Q.bm,0,none⟩:Option Ab),some ⟨Q.bp,0,none⟩,some ⟨X.gb,0,none⟩,some ⟨X.pb,0,none⟩][n]? =some x):cH w (ad (ae X.hb) n) (.one .ptr) x:=by
 obtain⟨j,b⟩:=B5 a;rw[aX];refine dV (S.get b) ?_;rcases n with _| _| _| _|n
 ·cases h;rfl
 ·cases h;rfl
 ·cases h;rfl
 ·cases h;rfl
 ·simp at h
theorem mU (S:bq Q D G w0 w s L0) (a:(X.hb,fg Q X A g)∈L0):af AB 53 [ag (ae X.hb)] w (.bool true):=by
 refine af.of (s:= .el (.one .bool)) λw' h'=>ai (C:=V0) (aS:=λ_=>[]) (Ax (LJ _ w' _) ?_);exact⟨λ_=>rfl,λ_=>rfl,aj.of _ ((S.ext h').fL a (n:=0) rfl) λw1 h1=>⟨rfl,h1⟩⟩
theorem nV (S:bq Q D G w0 w s L0) (a:(X.hb,fg Q X A g)∈L0) (v:Int):af AB 19 [ag (ae X.hb),aa v] w (.bool (aW g v)):=by
 refine af.of (s:= .el (.one .bool)) λw' h'=>ai (C:=V0) (aS:=λ_=>[]) (Ax (Rx _ v w' _) ?_);have S:=S.ext h';refine⟨_,mU S a,λ_=>rfl,λ_=>rfl,λc=>?_,?_⟩
 ·simp only[F5,decide_eq_true_eq] at c;exact⟨rfl,by omega,by show v<((17:Nat):Int);omega⟩
 ·unfold aW;by_cases hv:v>=1/\v<=16
  ·refine aj.of _ (S.pz a ⟨by omega,hv.2⟩) λw1 h1=>⟨?_,h1⟩;unfold kL;cases g v.toNat<;>simp
  ·have c:(true&&decide (v>=1)&&decide (v<=16))=false:=by
    rw[Bool.and_eq_false_iff,H5,decide_eq_false_iff_not,decide_eq_false_iff_not];omega
   rw[c];refine⟨none,λh=>(by cases h),λw1 h1=>⟨?_,h1⟩⟩;rw[H5] at c;rw[c];rfl
theorem bM {a:Int} (h:0<=a/\a<9223372036854775808):aG .i64 a=a:=gw (by omega) h.2
theorem Ey (S:bq Q D G w0 w s L0) (b:(X.hb,fg Q X A g)∈L0) {a:Int} (d:0<=a):af AB 165 [ag (ae X.hb),ay a] w (.bool (aW g a)):=by
 refine af.of (s:= .el (.one .bool)) λw' h'=>ai (C:=V0) (aS:=λ_=>[]) (Ax (LK _ a w' _) ?_);have S:=S.ext h';refine⟨aW g a,λc=>?_,λw1 h1=>⟨?_,h1⟩⟩
 ·have c:a<=16:=by simpa using c
  rw[bM ⟨d,by omega⟩];exact nV S b a
 ·by_cases c:a<=16
  ·rw[decide_eq_true c];rfl
  ·rw[decide_eq_false c];unfold aW;rw[decide_eq_false c];simp
theorem zb (S:bq Q D G w0 w s L0) (d:(X.hb,fg Q X A g)∈L0) (v:Int) {a:Int} (b:0<=a):af AB 179 [ag (ae X.hb),aa v,ay a] w (aa (cN g v a)):=by
 refine af.of (s:= .el (.one (.int .i64))) λw' h'=>ai (C:=V0) (aS:=λ_=>[]) (Ax (LO _ v a w' _) ?_);have S:=S.ext h';unfold cN;by_cases c:a<1\/a>16\/a=v
 ·rw[ax c];refine aD ?_ λw1 h1=>⟨rfl,h1⟩;simp only[Np,decide_eq_true_eq,beq_iff_eq];rcases c with c|c|c
  ·exact .inl (.inl c)
  ·exact .inl (.inr c)
  ·by_cases c2:a>16
   ·exact .inl (.inr c2)
   ·exact .inr (by rw[bM ⟨b,by omega⟩];exact c)
 ·rw[ao c];refine an ?_ ⟨_,Ey S d b,?_⟩
  ·rw[bM ⟨b,by omega⟩];simp only[Ds,decide_eq_false_iff_not,beq_eq_false_iff_ne];omega
  ·cases aW g a with
   |true=>exact an rfl λw1 h1=>⟨rfl,h1⟩
   |false=>exact aD rfl λw1 h1=>⟨rfl,h1⟩
theorem CF (S:bq Q D G w0 w s L0) (b:(X.hb,fg Q X A g)∈L0) (c: ∀i v,g i=some v-> ∀x∈gP Q A i v,x∈L0) (v:Int):af AB 21 [ag (ae X.hb),aa v] w (aa (aY g v)):=by
 refine af.of (s:= .el (.one (.int .i64))) λw' h'=>ai (C:=V0) (aS:=λ_=>[]) (Ax (Ry _ v w' _) ?_);have S:=S.ext h';refine⟨_,nV S b v,?_⟩;unfold aY;cases d:aW g v with
 |false=>exact aD rfl λw1 h1=>⟨rfl,h1⟩
 |true=>
  obtain⟨hv,x,a⟩:=cw.1 d;have hc:=S.pz b (v:=v) ⟨by omega,hv.2⟩;have e:kL A g v.toNat=some ⟨(A v.toNat).bg,0,none⟩:=by unfold kL;rw[a]
  rw[e] at hc;obtain⟨j1,f⟩:=B5 (c _ _ a _ B1);obtain⟨h,j⟩:=B5 (c _ _ a _ (B2 _ B1));refine an rfl ⟨rfl,rfl,⟨rfl,by omega,by show v<((17:Nat):Int);omega⟩,aj.of _ hc ⟨rfl,rfl,S.cm j1 f rfl ⟨_,S.root h j,λw1 h1=>⟨?_,h1⟩⟩⟩⟩;rw[a,ax rfl];rfl
theorem pK (H:SM Q D G w0 w s L0 M) (d:(X.hb,fg Q X A g)∈L0) (k: ∀i v,g i=some v-> ∀x∈gP Q A i v,x∈L0) (l: ∀i v,g i=some v->((A i).bm,Obj.map ⟨(A i).es⟩ (A i).ck)∈M) (m: ∀i v,g i=some v->qE (A i).es (A i).ck v.tk) (v p:Int):
 af AB 174 [ag (ae X.hb),aa v,aa p] w ((Sh.bG [.one (.int .i64),.one .bool]).gz (gi g v p)):=by
 refine af.of (s:= .bG [.one (.int .i64),.one .bool]) λw' h'=>ai (C:=V0) (aS:=λ_=>[]) (Ax (LN _ v p w' _) ?_);have H:=H.ext h';have S:=H.base;refine⟨_,nV S d v,?_⟩;unfold gi;cases n:aW g v with
 |false=>exact aD rfl λw1 h1=>⟨rfl,h1⟩
 |true=>
  obtain⟨hv,x,a⟩:=cw.1 n;have hc:=S.pz d (v:=v) ⟨by omega,hv.2⟩;have o:kL A g v.toNat=some ⟨(A v.toNat).bg,0,none⟩:=by unfold kL;rw[a]
  rw[o] at hc;obtain⟨j1,q⟩:=B5 (k _ _ a _ B1);obtain⟨r,f,c⟩:=(m _ _ a).find p;have h:bH w' (A v.toNat).bm ⟨(A v.toNat).es⟩ (A v.toNat).ck:=H.get (l _ _ a);refine an rfl ⟨rfl,rfl,⟨rfl,by omega,by show v<((17:Nat):Int);omega⟩,aj.of _ hc ⟨rfl,rfl,S.cm j1 q rfl ?_⟩⟩;rw[a,ax rfl];dsimp only;have at0:Ext w' w':=Ext.refl _;have H0:=At.start [] w';cases j:cg x.tk p with
  |none=>
   rw[j] at c;refine⟨(0,0,()),false,⟨_, _, _,rfl,h,?_⟩,aL.go H0 λb t H0=>az.all 0 H0 rfl rfl rfl λu H0=>⟨rfl,aj.cq 0 H0 rfl rfl (au.go H0 λz H0=>⟨rfl,H0.all⟩)⟩⟩;rw[f,c];exact⟨rfl,rfl⟩
  |some y=>
   rw[j] at c;obtain⟨i,e, _⟩:=c;refine⟨(y.1,y.2,()),true,⟨_, _, _,rfl,h,?_⟩,aL.go H0 λb t H0=>az.all 0 H0 rfl rfl rfl λu H0=>⟨rfl,aj.cq 0 H0 rfl rfl (au.go H0 λz H0=>⟨rfl,H0.all⟩)⟩⟩;rw[f,e];exact⟨rfl,rfl⟩
end
section
variable {G:List Nat} {w0 w:A2}
theorem RK {bm bw n c:Nat} {ca la:Int} {ws:List Int} {rest:List AC} {L0:List (Nat×List AC)} (H:At G w0 w ((bm,kY bw n c ca la)::(bw,flat eW ws++rest)::L0)) (A:n=ws.length) (h0:0<n) (B:okW ws) (f p t:Int) {K:FT->A2->Prop}
 (k: ∀qO w1,At G w0 w1 ((bm,kY bw n c qO la)::(bw,flat eW ws++rest)::L0)->K (k_ ws f p t) w1):
 aB AB 223 (.el (.agg sF)) [ag (ae bm),aa f,aa p,aa t] w K:=by
 refine aB.go H λw1 H=>aR (C:=M1) (aS:=v_) (Ax (UH _ f p t w1 K) ?_);refine aL.go H λb R H=>Cw H f p t (λhb D H=>?_) λhb bk D H=>?_
 ·have e:k_ ws f p t=(0,0,0,1,()):=ax hb;rw[e] at k;exact aD rfl (az.all 0 H rfl rfl rfl λo H=>au.go H λr H=>aj.at 0 H rfl rfl (k ca r (H.sub (BN _ _))))
 have e:k_ ws f p t=(fX ws f p t 4).2.2:=ao (by rw[hb];decide);rw[e] at k;refine an rfl ⟨λq _ w'=> ∃(i:Nat) (Ls:List (Nat×List AC)) (s:Option Ab×Nat×Nat) (xs:List Int) (qO:Int),q+i=4/\i<=3/\(fX ws f p t i).2.1≠ -1/\xs.length=i/\xm Ls s xs/\
  At G w0 w' ((bk,jM (fX ws f p t i).1 p t (fX ws f p t i).2.1 (fX ws f p t i).2.2 s)::(bm,kY bw n c qO la)::(bw,flat eW ws++rest)::(Ls++((b,[aa 0,aa 0,aa 0,aa 0])::L0))),⟨4,λo E=>⟨0,[],(none,0,0),[],ca,rfl,by decide,(show(3:Int)≠ -1 by decide),rfl,.inl ⟨rfl,rfl,rfl⟩,(H.ext E).perm ?_⟩⟩,?_⟩
 ·exact .cons _ (Df (l₁:=[(bm,kY bw n c ca la),(bw,flat eW ws++rest)]) (l₂:=[(b,[aa 0,aa 0,aa 0,aa 0])]) |>.append_right L0)
 clear H;rintro q u o ⟨i,Ls,s,xs,qO,S,T,F,I,J,H⟩;dsimp only;refine y6 H J (by omega) A h0 B F λr g s' L H=>?_;have es:bj ws p t ((fX ws f p t i).1,(fX ws f p t i).2.1,(fX ws f p t i).2.2)=fX ws f p t (i+1):=rfl;rw[es] at H ⊢;by_cases d:(fX ws f p t (i+1)).2.1= -1
 ·have M:fX ws f p t 4=fX ws f p t (i+1):=by
   have:=xD d (4 - (i+1));rw[show i+1+(4 - (i+1))=4 by omega] at this;exact this
  rw[M] at k;generalize fX ws f p t (i+1)=y at H d k;obtain⟨v,z,⟨h,j,l,m,U⟩⟩:=y;refine an (by rw[d];rfl) ⟨rfl,rfl,aj.cq (x:=(h,j,l,m,())) 0 H rfl rfl ?_⟩;have H:=H.perm (L':=(b,[aa 0,aa 0,aa 0,aa 0])::((bk,jM v p t z (h,j,l,m,()) s')::(bm,kY bw n c (vu ws (dW (fX ws f p t i).1 p (fX ws f p t i).2.1) qO) la)::(bw,flat eW ws++rest)::(g++L0))) (by
   refine(B4 (l₁:=[(bk,jM v p t z (h,j,l,m,()) s'),(bm,kY bw n c (vu ws (dW (fX ws f p t i).1 p (fX ws f p t i).2.1) qO) la),(bw,flat eW ws++rest)]++g) (a:=(b,[aa 0,aa 0,aa 0,aa 0])) (l₂:=L0)).symm)
  refine az.all 0 H rfl rfl rfl λN H=>au.go H λO H=>aj.at 0 H rfl rfl (k (vu ws (dW (fX ws f p t i).1 p (fX ws f p t i).2.1) qO) O ?_);have H:=(H.sub (BN _ _)).sub (BN _ _);exact H.sub (.cons_cons _ (.cons_cons _ (FY _ _)))
 ·have P:=(WV ws f p t (i+1)).resolve_left d;refine aD (by simp[d]) λN Q=>⟨q - 1,by omega,i+1,g,s',xs++[(fX ws f p t i).1], _,by omega,P.2,d,by rw[Fo,I];rfl,L,H.ext Q⟩
theorem L7 {bm bw n c:Nat} {ca la:Int} {ws:List Int} {rest:List AC} {L:List (Nat×List AC)} (H:At G w0 w L) (j a:Nat) (b:L[j]? =some (bm,kY bw n c ca la)) (d:L[a]? =some (bw,flat eW ws++rest)) (e:j≠a) (g:n=ws.length) (h0:0<n) (h:okW ws) (f p t:Int) {K:FT->A2->Prop}
 (k: ∀qO w1,At G w0 w1 (L.set j (bm,kY bw n c qO la))->K (k_ ws f p t) w1):
 aB AB 223 (.el (.agg sF)) [ag (ae bm),aa f,aa p,aa t] w K:=by
 obtain⟨m,i,l⟩:=Zk b d e;exact RK (H.perm i.symm) g h0 h f p t λqO w1 H=>k qO w1 (H.perm (l _))
end
section
variable {D G:List Nat} {w0 w w':A2} {L:List (Nat×List AC)}
end
section
variable {Q:Sys} {D G:List Nat} {w0 w:A2} {s:WD} {L0:List (Nat×List AC)}
namespace bq
theorem abg (S:bq Q D G w0 w s L0) {K:Option Ab->A2->Prop}
 (k: ∀a b d e c,bq Q D G w0 c s ((a,[.slice (ae b) s.2.length d])::(b,flat eD s.2++e)::L0)->K (ae a) c):
 aB AB 54 (.el (.one .ptr)) [ag (ae Q.bp)] w K:=by
 refine S.go λw1 S=>?_;obtain⟨h1,f,g,h,ca,la,H⟩:=S;refine U' H (H.get (i:=3) rfl) (H.get (i:=2) rfl) rfl f g λa b d e c H=>k a b d e c ⟨h1,f,g,h,ca,la,H.perm ?_⟩;exact Df (l₁:=[_, _, _, _]) (l₂:=[(a, _),(b, _)]) |>.append_right L0
theorem ofq (S:bq Q D G w0 w s L0) (f:Int):af AB 25 [ag (ae Q.bp),aa f] w ((Sh.bG [eD,.one .bool]).gz (mz s.2 f,xq s.2 f,())):=by
 obtain⟨h1,a,b,c,ca,la,H⟩:=S;exact ab9 H 3 2 rfl rfl rfl f
theorem F4 (S:bq Q D G w0 w s L0) (f:Int) {K:Int->A2->Prop} (k: ∀a,bq Q D G w0 a (s.1,dI s.2 f (aP 0 0)) L0->K (uz s.2 f (aP 0 0)) a):
 aB AB 79 (.el (.one (.int .i64))) [ag (ae Q.bp),aa f] w K:=by
 obtain⟨h1,b,c,d,ca,la,H⟩:=S;refine Vl H 3 2 rfl rfl (by decide) rfl b c f λa H=>k a ⟨h1,?_,?_,d,ca,la,?_⟩
 ·show 0<(dI s.2 f (aP 0 0)).length;rw[iB];exact b
 ·show(dI s.2 f (aP 0 0)).length<=4096;rw[iB];exact c
 ·unfold Sys.L;show aK D G w0 a (_:: _:: _::(Q.bp,[.slice _ (dI s.2 f (aP 0 0)).length _]):: _);rw[iB];exact H
theorem aas (S:bq Q D G w0 w s L0) (f x:Int) (d: -9223372036854775808<=x/\x<9223372036854775808) {K:Int->A2->Prop} (k: ∀a,bq Q D G w0 a (s.1,dI s.2 f (ia x)) L0->K (uz s.2 f (ia x)) a):
 aB AB 183 (.el (.one (.int .i64))) [ag (ae Q.bp),aa f,aa x] w K:=by
 obtain⟨h1,b,c,e,ca,la,H⟩:=S;refine Vk H 3 2 rfl rfl (by decide) rfl b c f x d λa H=>k a ⟨h1,?_,?_,e,ca,la,?_⟩
 ·show 0<(dI s.2 f (ia x)).length;rw[iB];exact b
 ·show(dI s.2 f (ia x)).length<=4096;rw[iB];exact c
 ·unfold Sys.L;show aK D G w0 a (_:: _:: _::(Q.bp,[.slice _ (dI s.2 f (ia x)).length _]):: _);rw[iB];exact H
theorem owned (S:bq Q D G w0 w s L0) (v:Int) {K:Option Ab×Nat×Nat->A2->Prop} (k: ∀r rows a,bq Q D G w0 a s (L0++rows)->oq eI rows r ((fW s.2 v).map λi=>((i:Nat):Int))->K r a):
 aB AB 166 (.el (.one .slice)) [ag (ae Q.bp),aa v] w K:=by
 obtain⟨h1,c,b,d,ca,la,H⟩:=S;exact Ru H 3 2 rfl rfl rfl b v λr rows a H e=>k r rows a ⟨h1,c,b,d,ca,la,H⟩ e
theorem walk (S:bq Q [] G w0 w s L0) (f p t:Int) {K:FT->A2->Prop} (k: ∀w1,bq Q [] G w0 w1 s L0->K (k_ s.1 f p t) w1):
 aB AB 223 (.el (.agg sF)) [ag (ae Q.bm),aa f,aa p,aa t] w K:=by
 obtain⟨h1,b,c,a,ca,la,H⟩:=S;exact L7 H 0 1 rfl rfl (by decide) rfl h1 a f p t λqO w1 H=>k w1 ⟨h1,b,c,a,qO,la,H⟩
end bq
end
set_option maxRecDepth 100000
open Go.RX D
def fy (g:Nat->Option GV) (s:WD) (v p:Int):Int×Int×Int×Unit:=if aW g v=true then(match g v.toNat with
 |some x=>bC s x.root false p
 |none=>(0,0,4,())) else(0,0,4,())
def jX (s:WD) (f:Int):Int:=if xq s.2 f=false then 2 else if(mz s.2 f).1≠5 then 6 else uz s.2 f (aP 0 0)
def gQ (s:WD) (f:Int):WD:=if xq s.2 f=true/\(mz s.2 f).1=5 then(s.1,dI s.2 f (aP 0 0)) else s
section
variable {Q:Sys} {X:HX} {D G:List Nat} {w0 w:A2} {s:WD} {L0:List (Nat×List AC)} {M:List (Nat×Bs)} {A:Nat->GA} {g:Nat->Option GV}
theorem vg (S:bq Q D G w0 w s L0) (c:(X.hb,fg Q X A g)∈L0) (e: ∀i v,g i=some v-> ∀x∈gP Q A i v,x∈L0) (v p:Int) {K:Int×Int×Int×Unit->A2->Prop} (k: ∀a,bq Q D G w0 a s L0->K (fy g s v p) a):
 aB AB 81 (.bG [.one (.int .i64),.one (.int .i64),.one (.int .i64)]) [ag (ae X.hb),aa v,aa p] w K:=by
 refine S.go λw1 S=>ai (C:=V0) (aS:=λ_=>[]) (Ax (LM _ v p w1 K) ?_);refine⟨_,mU S c,an rfl ⟨_,nV S c v,?_⟩⟩;unfold fy at k;cases d:aW g v with
 |false=>
  rw[d,ao (by decide)] at k;exact aD rfl (S.en λa S=>k a S)
 |true=>
  obtain⟨hv,x,b⟩:=cw.1 d;rw[d,ax rfl,b] at k;have hc:=S.pz c (v:=v) ⟨by omega,hv.2⟩;have f:kL A g v.toNat=some ⟨(A v.toNat).bg,0,none⟩:=by unfold kL;rw[b]
  rw[f] at hc;obtain⟨j1,h⟩:=B5 (e _ _ b _ B1);obtain⟨j,l⟩:=B5 (e _ _ b _ (B2 _ B1));refine an rfl ⟨rfl,rfl,⟨rfl,by omega,by show v<((17:Nat):Int);omega⟩,aj.of _ hc ⟨rfl,rfl,S.cm j1 h rfl (S.query j l p λa S=>S.en λm S=>k m S)⟩⟩
theorem Ez (S:bq Q D G w0 w s L0) (j:(X.hb,fg Q X A g)∈L0) (f:Int) {K:Int->A2->Prop} (k: ∀l,bq Q D G w0 l (gQ s f) L0->K (jX s f) l):
 aB AB 43 (.el (.one (.int .i64))) [ag (ae X.hb),aa f] w K:=by
 refine S.go λw1 S=>ai (C:=V0) (aS:=λ_=>[]) (Ax (RA _ f w1 K) ?_);refine⟨_,mU S j,an rfl ⟨rfl,rfl,aj.of _ (S.fL j (n:=1) rfl) ⟨(mz s.2 f,xq s.2 f,()),S.ofq f,S.al λb l S=>S.ff 0 rfl rfl rfl λq S=>?_⟩⟩⟩;have o: ∀x:Nat×List AC,(X.hb,fg Q X A g)∈x::L0:=λx=>B2 _ j;cases e:xq s.2 f with
 |false=>
  have c:gQ s f=s:=ao (λh=>by rw[e] at h;cases h.1);have d:jX s f=2:=ax e;rw[c,d] at k;exact aD rfl (S.en λi S=>k i S.tail)
 |true=>
  have m: ¬ xq s.2 f=false:=by rw[e];decide
  refine an rfl ⟨rfl,S.cm 0 rfl rfl ?_⟩;by_cases a:(mz s.2 f).1=5
  ·have c:gQ s f=(s.1,dI s.2 f (aP 0 0)):=ax ⟨e,a⟩;have d:jX s f=uz s.2 f (aP 0 0):=by
    unfold jX;rw[ao m,ao (λh=>h a)]
   rw[c,d] at k;exact an (by simpa using a) ⟨rfl,rfl,aj.of _ (S.fL (o _) (n:=1) rfl) (S.F4 f λi S=>S.en λp S=>k p S.tail)⟩
  ·have c:gQ s f=s:=ao (λh=>a h.2);have d:jX s f=6:=by
    unfold jX;rw[ao m,ax a]
   rw[c,d] at k;exact aD (by simpa using a) (S.en λi S=>k i S.tail)
theorem zI (S:bq Q D G w0 w s L0) (f:(X.hb,fg Q X A g)∈L0) {K:Option Ab->A2->Prop} (k: ∀h i j l e,bq Q D G w0 e s ((h,[.slice (ae i) s.2.length j])::(i,flat eD s.2++l)::L0)->K (ae h) e):
 aB AB 18 (.el (.one .ptr)) [ag (ae X.hb)] w K:=by
 refine S.go λw1 S=>ai (C:=V0) (aS:=λ_=>[]) (Ax (Hj _ w1 K) ?_);exact⟨_,mU S f,an rfl ⟨rfl,rfl,aj.of _ (S.fL f (n:=1) rfl) (S.abg λa b c d e S=>S.en λm S=>k a b c d m S)⟩⟩
theorem zJ (S:bq Q D G w0 w s L0) (a:(X.hb,fg Q X A g)∈L0) {K:Option Ab->A2->Prop} (k: ∀b,bq Q D G w0 b s L0->K (ae Q.bm) b):
 aB AB 23 (.el (.one .ptr)) [ag (ae X.hb)] w K:=by
 refine S.go λw1 S=>ai (C:=V0) (aS:=λ_=>[]) (Ax (Hk _ w1 K) ?_);exact⟨_,mU S a,an rfl ⟨rfl,rfl,aj.of _ (S.fL a (n:=0) rfl) (S.en λc S=>k c S)⟩⟩
end
structure XP (A:Nat->GA) (g:Nat->Option GV) (A':Nat->GA) (g':Nat->Option GV):Prop where
 bg: ∀i,(A' i).bg=(A i).bg
 bt: ∀i,(A' i).bt=(A i).bt
 bm: ∀i,(A' i).bm=(A i).bm
 rt: ∀i,(g' i).map GV.root=(g i).map GV.root
section
variable {A A':Nat->GA} {g g':Nat->Option GV} {Q:Sys} {X:HX}
theorem XP.ptr (h:XP A g A' g'):kL A' g'=kL A g:=by
 funext i;have:=h.rt i;have hb:=h.bg i;unfold kL;cases h1:g' i<;>cases a:g i<;>rw[h1,a] at this<;>simp at this<;>simp[hb]
theorem XP.cs (h:XP A g A' g'):fg Q X A' g'=fg Q X A g:=by
 unfold fg mr;rw[h.ptr]
theorem XP.rows (h:XP A g A' g') (l:List Nat):a_ Q A' g' l=a_ Q A g l:=by
 unfold a_;congr 1;funext i;have:=h.rt i;cases h1:g' i<;>cases a:g i<;>rw[h1,a] at this<;>simp at this
 ·dsimp only;unfold gP;rw[h.bg i,h.bt i,h.bm i,this]
theorem l7 {i:Nat} {v:GV} (hi:i<17) (hv:g i=some v):(dj A g (AR 17)).Perm (((A i).bm,Obj.map ⟨(A i).es⟩ (A i).ck)::dj A g ((AR 17).erase i)):=by
 unfold dj;refine(Gd _ (Ft (DG.2 hi))).trans ?_;rw[Dj,hv];exact Do _
theorem wx {i:Nat} {v:GV} (hi:i<17) (hv:g i=some v):(a_ Q A g (AR 17)).Perm (gP Q A i v++a_ Q A g ((AR 17).erase i)):=by
 unfold a_;refine(Gd _ (Ft (DG.2 hi))).trans ?_;rw[Dj,hv]
theorem zK {i:Nat} (hi:i<17) (hv:g i=none):(dj A g (AR 17)).Perm (dj A g ((AR 17).erase i)):=by
 unfold dj;refine(Gd _ (Ft (DG.2 hi))).trans ?_;rw[Dj,hv];exact Do _
theorem zL {i:Nat} (hi:i<17) (hv:g i=none):(a_ Q A g (AR 17)).Perm (a_ Q A g ((AR 17).erase i)):=by
 unfold a_;refine(Gd _ (Ft (DG.2 hi))).trans ?_;rw[Dj,hv];exact Do _
theorem gy {α β:Type} {f f':α->List β}: ∀{l:List α},(∀x∈l,f x=f' x)->l.flatMap f=l.flatMap f'
 |[], _=>rfl
 |x::l,h=>by
  rw[Dj,Dj,h x B1,gy λy a=>h y (B2 _ a)]
theorem O_ {i j:Nat} (h:j∈(AR 17).erase i):j≠i:=λe=>by
 subst e;exact(List.nodup_range.not_mem_erase) h
theorem pQ {i:Nat} (h: ∀j,j≠i->A' j=A j/\g' j=g j):dj A' g' ((AR 17).erase i)=dj A g ((AR 17).erase i):=by
 unfold dj;refine gy λj a=>?_;obtain⟨h1,b⟩:=h j (O_ a);rw[h1,b]
theorem wy {i:Nat} (h: ∀j,j≠i->A' j=A j/\g' j=g j):a_ Q A' g' ((AR 17).erase i)=a_ Q A g ((AR 17).erase i):=by
 unfold a_;refine gy λj a=>?_;obtain⟨h1,b⟩:=h j (O_ a);rw[b];cases g j with
 |none=>rfl
 |some v=>dsimp only;unfold gP;rw[h1]
end
def oP (A:Nat->GA) (i:Nat) (x:GA):Nat->GA:=λj=>if j=i then x else A j
def bz (g:Nat->Option GV) (i:Nat) (x:Option GV):Nat->Option GV:=λj=>if j=i then x else g j
theorem qu (A:Nat->GA) (i:Nat) (x:GA):oP A i x i=x:=ax rfl
theorem fH (g:Nat->Option GV) (i:Nat) (x:Option GV):bz g i x i=x:=ax rfl
theorem Bu (A:Nat->GA) (g:Nat->Option GV) (i:Nat) (x:GA) (y:Option GV): ∀j,j≠i->oP A i x j=A j/\bz g i y j=g j:=λ_ h=>⟨ao h,ao h⟩
theorem Jf {A:Nat->GA} {g:Nat->Option GV} {i:Nat} {v:GV} (hv:g i=some v) (es:List B9) (ck:Nat) (tk:List TK):XP A g (oP A i {A i with es:=es,ck:=ck}) (bz g i (some {v with tk:=tk})):=by
 refine⟨λj=>?_,λj=>?_,λj=>?_,λj=>?_⟩
 ·unfold oP;split
  ·rename_i e;subst e;rfl
  ·rfl
 ·unfold oP;split
  ·rename_i e;subst e;rfl
  ·rfl
 ·unfold oP;split
  ·rename_i e;subst e;rfl
  ·rfl
 ·unfold bz;split
  ·rename_i e;subst e;rw[hv];rfl
  ·rfl
theorem SM.Pa {Q:Sys} {D G:List Nat} {w0 w:A2} {s:WD} {L0:List (Nat×List AC)} {A:Nat->GA} {g:Nat->Option GV} (H:SM Q D G w0 w s L0 (dj A g (AR 17))) {i:Nat} {v:GV} (hi:i<17) (hv:g i=some v) (es:List B9) (ck:Nat) (tk:List TK):
 SM Q D G w0 (w.putObj (A i).bm (.map ⟨es⟩ ck)) s L0 (dj (oP A i {A i with es:=es,ck:=ck}) (bz g i (some {v with tk:=tk})) (AR 17)):=by
 have a:=(H.lr (l7 hi hv).symm).put (i:=0) rfl (o':= .map ⟨es⟩ ck) trivial;refine a.lr ((l7 hi (v:={v with tk:=tk}) (fH _ _ _)).trans ?_);rw[pQ (Bu A g i _ _),qu];exact Do _
section
variable {Q:Sys} {X:HX} {D G:List Nat} {w0 w:A2} {s:WD} {L0:List (Nat×List AC)} {bg br bp c:Nat} {gs:List GT} {rest:List AC} {room:Int} {ps:List Po.PT}
namespace bq
theorem Vx (S:bq Q D G w0 w s L0) (j b:Nat) (e:L0[j]? =some (bg,my br gs.length c)) (f:L0[b]? =some (br,flat eG gs++rest)) (h0:0<gs.length) (i o:Int) {K:Int->A2->Prop}
 (k: ∀a,bq Q D G w0 a s (L0.set b (br,flat eG (lu gs i o)++rest))->K (pk gs i o) a):
 aB AB 184 (.el (.one (.int .i64))) [ag (ae bg),aa i,aa o] w K:=by
 obtain⟨h1,g,h,l,ca,la,d⟩:=S;exact G5 d (j+4) (b+4) e f h0 i o λa d=>k a ⟨h1,g,h,l,ca,la,d⟩
theorem abh (S:bq Q D G w0 w s L0) (j d:Nat) (f:L0[j]? =some (bg,my br gs.length c)) (h:L0[d]? =some (br,flat eG gs++rest)) (h0:0<gs.length) (l: ∀x∈gs,0<=x.2.2.2.2.1/\x.2.2.2.2.1<=1000) (i g:Int) (b:Bool) {K:Int->A2->Prop}
 (k: ∀a,bq Q D G w0 a s (L0.set d (br,flat eG (dZ gs i g b)++rest))->K (fN gs i g b) a):
 aB AB 181 (.el (.one (.int .i64))) [ag (ae bg),aa i,aa g,.bool b] w K:=by
 obtain⟨h1,m,n,o,ca,la,e⟩:=S;exact QR e (j+4) (d+4) f h h0 l i g b λa e=>k a ⟨h1,m,n,o,ca,la,e⟩
theorem WZ (S:bq Q D G w0 w s L0) (j b:Nat) (e:L0[j]? =some (bg,my br gs.length c)) (f:L0[b]? =some (br,flat eG gs++rest)) (h0:0<gs.length) (h: ∀x∈gs,0<=x.2.2.2.2.1/\x.2.2.2.2.1<=1000) (i g:Int) {K:Int->A2->Prop}
 (k: ∀a,bq Q D G w0 a s (L0.set b (br,flat eG (eM gs i g)++rest))->K (mo gs i g) a):
 aB AB 182 (.el (.one (.int .i64))) [ag (ae bg),aa i,aa g] w K:=by
 obtain⟨h1,l,m,n,ca,la,d⟩:=S;exact QS d (j+4) (b+4) e f h0 h i g λa d=>k a ⟨h1,l,m,n,ca,la,d⟩
theorem ZC (S:bq Q D G w0 w s L0) (j d:Nat) (f:L0[j]? =some (bg,my br gs.length c)) (g:L0[d]? =some (br,flat eG gs++rest)) (h0:0<gs.length) (h:gs.length<=64) (o q t:Int) (b:Bool) {K:Int×Int×Unit->A2->Prop}
 (k: ∀a,bq Q D G w0 a s (L0.set d (br,flat eG (jV gs o q t b)++rest))->K (kr gs o q t,jU gs o q t,()) a):
 aB AB 180 (.bG [.one (.int .i64),.one (.int .i64)]) [ag (ae bg),aa o,aa q,aa t,.bool b] w K:=by
 obtain⟨h1,i,l,m,ca,la,e⟩:=S;exact KQ e (j+4) (d+4) f g h0 h o q t b λa e=>k a ⟨h1,i,l,m,ca,la,e⟩
theorem abi (S:bq Q D G w0 w s L0) (j a:Nat) (e:L0[j]? =some (bg,my br gs.length c)) (f:L0[a]? =some (br,flat eG gs++rest)) (h0:0<gs.length) (h:gs.length<=64) (o:j≠a) (g:Int) {K:Int->A2->Prop}
 (k: ∀n b,bq Q D G w0 b s (L0.set a (br,flat eG (cM gs g)++rest))->K n b):
 aB AB 169 (.el (.one (.int .i64))) [ag (ae bg),aa g] w K:=by
 obtain⟨h1,i,l,m,ca,la,d⟩:=S;exact QT d (j+4) (a+4) e f h0 h (by omega) g λn b d=>k n b ⟨h1,i,l,m,ca,la,d⟩
theorem aat (S:bq Q D G w0 w s L0) (j a:Nat) (b:L0[j]? =some (bg,my br gs.length c)) (d:L0[a]? =some (br,flat eG gs++rest)) (h0:0<gs.length) (i:Int):
 af AB 176 [ag (ae bg),aa i] w ((Sh.bG [eG,.one .bool]).gz (wY gs i,(lT gs i).isSome,())):=
 af.of (s:= .bG [eG,.one .bool]) λw' h'=>Zj ((S.get b).ext h') ((S.get d).ext h') h0 i
theorem abj (S:bq Q D G w0 w s L0) (j:Nat) (c:L0[j]? =some (bp,Po.gK room ps)) (d:Po.okS room ps) (g r:Int) {K:Int×Int×Unit->A2->Prop}
 (k: ∀a,bq Q D G w0 a s (L0.set j (bp,Po.gK room (Po.iK room ps g r).2))->K ((Po.iK room ps g r).1.1,(Po.iK room ps g r).1.2,()) a):
 aB AB 185 (.bG [.one (.int .i64),.one (.int .i64)]) [ag (ae bp),aa g,aa r] w K:=by
 obtain⟨h1,e,f,h,ca,la,b⟩:=S;exact Po.QU b (j+4) c d g r λa b=>k a ⟨h1,e,f,h,ca,la,b⟩
theorem pbind (S:bq Q D G w0 w s L0) (j:Nat) (c:L0[j]? =some (bp,Po.gK room ps)) (d:Po.okS room ps) (g r i:Int) {K:Int×Int×Unit->A2->Prop}
 (k: ∀a,bq Q D G w0 a s (L0.set j (bp,Po.gK room (Po.gN room ps g r i).2))->K ((Po.gN room ps g r i).1.1,(Po.gN room ps g r i).1.2,()) a):
 aB AB 186 (.bG [.one (.int .i64),.one (.int .i64)]) [ag (ae bp),aa g,aa r,aa i] w K:=by
 obtain⟨h1,e,f,h,ca,la,b⟩:=S;exact Po.QV b (j+4) c d g r i λa b=>k a ⟨h1,e,f,h,ca,la,b⟩
theorem abk (S:bq Q D G w0 w s L0) (j:Nat) (c:L0[j]? =some (bp,Po.gK room ps)) (d:Po.lJ room ps) (g i:Int) {K:Int->A2->Prop}
 (k: ∀a,bq Q D G w0 a s (L0.set j (bp,Po.gK room (Po.ku room ps g i).2))->K (Po.ku room ps g i).1 a):
 aB AB 187 (.el (.one (.int .i64))) [ag (ae bp),aa g,aa i] w K:=by
 obtain⟨h1,e,f,h,ca,la,b⟩:=S;exact Po.QW b (j+4) c d g i λa b=>k a ⟨h1,e,f,h,ca,la,b⟩
theorem ZD (S:bq Q D G w0 w s L0) (j:Nat) (c:L0[j]? =some (bp,Po.gK room ps)) (d:Po.lJ room ps) (g i:Int) {K:Int->A2->Prop}
 (k: ∀a,bq Q D G w0 a s (L0.set j (bp,Po.gK room (Po.d_ room ps g i).2))->K (Po.d_ room ps g i).1 a):
 aB AB 189 (.el (.one (.int .i64))) [ag (ae bp),aa g,aa i] w K:=by
 obtain⟨h1,e,f,h,ca,la,b⟩:=S;exact Po.Bb b (j+4) c d g i λa b=>k a ⟨h1,e,f,h,ca,la,b⟩
theorem abl (S:bq Q D G w0 w s L0) (j:Nat) (c:L0[j]? =some (bp,Po.gK room ps)) (d:Po.okS room ps) (g:Int) {K:Int×Bool×Unit->A2->Prop}
 (k: ∀a,bq Q D G w0 a s (L0.set j (bp,Po.gK room (Po.gO room ps g).2))->K ((Po.gO room ps g).1.1,(Po.gO room ps g).1.2,()) a):
 aB AB 188 (.bG [.one (.int .i64),.one .bool]) [ag (ae bp),aa g] w K:=by
 obtain⟨h1,e,f,h,ca,la,b⟩:=S;exact Po.QZ b (j+4) c d g λa b=>k a ⟨h1,e,f,h,ca,la,b⟩
theorem abm (S:bq Q D G w0 w s L0) (j:Nat) (c:L0[j]? =some (bp,Po.gK room ps)) (d:Po.lJ room ps) (g:Int) {K:Int->A2->Prop}
 (k: ∀a,bq Q D G w0 a s (L0.set j (bp,Po.gK room (Po.cG room ps g).2))->K (Po.cG room ps g).1 a):
 aB AB 170 (.el (.one (.int .i64))) [ag (ae bp),aa g] w K:=by
 obtain⟨h1,e,f,h,ca,la,b⟩:=S;exact Po.Q3 b (j+4) c d g λa b=>k a ⟨h1,e,f,h,ca,la,b⟩
theorem res (S:bq Q D G w0 w s L0) {j b:Nat} {x1 d:AC} (c:L0[j]? =some (b,[x1,d])) (v e:Int) {K:RS->A2->Prop} (k: ∀a,bq Q D G w0 a s (L0.set j (b,[ay v,aa e]))->K (v,e,()) a):
 az w (ae b) [ay v,aa e] λa=>au a λw1=>aj w1 none (ae b) (.agg iS) λx=>K (x.1,x.2.1,()) w1:=by
 have f:j<L0.length:=(C8.1 c).1;refine S.ff j c rfl rfl λa S=>S.en λg S=>?_;exact S.ld j (Dl f) (show _=some (v,e,()) from rfl) (k g S)
end bq
end
def yr (h:HS) (gr:List GT):HS:={h with gr:=gr}
def AL (h:HS) (po:List Po.PT):HS:={h with po:=po}
def bF (h:HS) (s:WD):HS:={h with s:=s}
abbrev gf (k a b c:Int):List AC:=[aa k,ay a,ay b,ay c]
theorem zc (gs:List GT) (i o:Int):(lu gs i o).length=gs.length:=by
 unfold lu;split
 ·rw[Db]
 ·rfl
def td (h:HS) (v a:Int):Int:=if a>=16 then 1 else pk h.gr a v
def fV (h:HS) (v a:Int):HS:=if a>=16 then h else yr h (lu h.gr a v)
section
variable {Q:Sys} {X:HX} {D G:List Nat} {w0 w:A2} {h:HS} {L:List (Nat×List AC)} {K:RS->A2->Prop}
theorem L8 (H:jk Q X D G w0 w h L) (v k:Int) {a:Int} (b c:Int) (m:0<=a) (kk: ∀f,jk Q X D G w0 f (fV h v a) L->K (0,td h v a,()) f):
 aE AB 132 (.el (.agg iS)) [ag (ae X.hb),aa v,.agg ⟨gf k a b c⟩] w K:=by
 obtain⟨A,W,H⟩:=H;obtain⟨o,S,J⟩:=H.call;refine aR (C:=V0) (aS:=λ_=>[]) (Ax (Ff _ v k a b c w K) ?_);refine S.al λp f S=>S.al λq r S=>⟨rfl,S.cm 1 rfl rfl ?_⟩;unfold td fV at kk;refine ab (λd=>⟨trivial,S.res (j:=0) rfl 0 1 λi S=>?_⟩) (λd=>?_)
 ·rw[ax (by simpa using d),ax (by simpa using d)] at kk;exact kk i ⟨A,W,J (S.tail.tail)⟩
 ·have d: ¬ a>=16:=by simpa using d
  rw[ao d,ao d] at kk;refine⟨rfl,rfl,aj.of _ (S.fL (X:=X) (A:=A) (g:=h.g) (by simp) (n:=2) rfl) ⟨rfl,S.cm 1 rfl rfl ?_⟩⟩;rw[bM ⟨m,by omega⟩];refine S.Vx 3 4 rfl rfl (by rw[W.gl];decide) a v λi S=>⟨trivial,S.res (j:=0) rfl 0 _ λl S=>kk l ⟨A,⟨W.jj,W.mp,(zc _ _ _).trans W.gl,W.pt,W.gk.rev _ _⟩,J ?_⟩⟩;have S:=S.tail.tail;have e:(lu h.gr a v).length=h.gr.length:=zc _ _ _;show bq Q [] o w l h.s ((X.hb,fg Q X A h.g)::(X.gb,my X.uB (lu h.gr a v).length X.c):: _);rw[e];exact S
end
set_option maxRecDepth 100000
open Go.RX D
def DV (h:HS) (v a:Int):Int:=if a>=4 then 1 else(Po.ku 4 h.po v a).1
def lV (h:HS) (v a:Int):HS:=if a>=4 then h else AL h (Po.ku 4 h.po v a).2
def yI (h:HS) (v a:Int):Int:=if a>=4 then 1 else(Po.d_ 4 h.po v a).1
def i_ (h:HS) (v a:Int):HS:=if a>=4 then h else AL h (Po.d_ 4 h.po v a).2
def Ot (h:HS) (v:Int):Int:=if(Po.gO 4 h.po v).1.2=true then(Po.gO 4 h.po v).1.1+1 else 0
def Ou (h:HS) (v:Int):HS:=AL h (Po.gO 4 h.po v).2
def AM (h:HS) (v a:Int):Int×Int:=if cN h.g v a=0 then(Po.iK 4 h.po v a).1 else(0,cN h.g v a)
def lW (h:HS) (v a:Int):HS:=if cN h.g v a=0 then AL h (Po.iK 4 h.po v a).2 else h
def AN (h:HS) (v a b:Int):Int×Int:=if cN h.g v a=1\/b>=4 then(0,1) else if cN h.g v a=0 then(Po.gN 4 h.po v a b).1 else(0,cN h.g v a)
def lX (h:HS) (v a b:Int):HS:=if cN h.g v a=1\/b>=4 then h else if cN h.g v a=0 then AL h (Po.gN 4 h.po v a b).2 else h
theorem vh {g:Nat->Option GV} {v a:Int} (h:cN g v a≠1):1<=a/\a<=16:=by
 unfold cN at h;split at h
 ·exact absurd rfl h
 ·omega
theorem eJ {a:Int} (h:0<=a/\a<18446744073709551616):aG .u64 a=a:=by
 unfold aG;simp only[IntKind.wrap,IntKind.bits,IntKind.signed];simp;omega
theorem RM {ps:List Po.PT} {g:Int} (h:(Po.gO 4 ps g).1.2=true):0<=(Po.gO 4 ps g).1.1/\(Po.gO 4 ps g).1.1<4:=by
 unfold Po.gO at h ⊢;cases a:Po.pv 4 ps g with
 |nil=>rw[a] at h;cases h
 |cons i l=>
  have:=(Po.eV.1 (Po.tx (ps:=ps) (g:=g) (x:=i) (room:=4) (by rw[a];exact B1)).1).2;exact this
theorem Vy {ps:List Po.PT} {g:Int} {x:Po.PT} (a:Po.gI g=true):0<=(Po.dN 4 ps g x).1.1/\(Po.dN 4 ps g x).1.1<4:=by
 unfold Po.dN;split
 ·exact⟨H4 _,(by decide:(0:Int)<4)⟩
 ·rename_i b;have:=(Po.eV.1 (Po.mS a b).1).2;exact this
theorem RN (ps:List Po.PT) (g r:Int):0<=(Po.iK 4 ps g r).1.1/\(Po.iK 4 ps g r).1.1<4:=by
 unfold Po.iK;split
 ·rename_i a;exact Vy (Po.qd.1 a).1
 ·exact⟨H4 _,(by decide:(0:Int)<4)⟩
section
variable {Q:Sys} {X:HX} {D G:List Nat} {w0 w:A2} {h:HS} {L:List (Nat×List AC)} {K:RS->A2->Prop}
theorem Vz (H:jk Q X D G w0 w h L) (v k:Int) {a:Int} (b c:Int) (i:0<=a) (kk: ∀e,jk Q X D G w0 e (lV h v a) L->K (0,DV h v a,()) e):
 aE AB 135 (.el (.agg iS)) [ag (ae X.hb),aa v,.agg ⟨gf k a b c⟩] w K:=by
 obtain⟨A,W,H⟩:=H;obtain⟨m,S,J⟩:=H.call;refine aR (C:=V0) (aS:=λ_=>[]) (Ax (LY _ v k a b c w K) ?_);refine S.al λo e S=>S.al λp q S=>⟨rfl,S.cm 1 rfl rfl ?_⟩;unfold DV lV at kk;refine ab (λd=>⟨trivial,S.res (j:=0) rfl 0 1 λf S=>?_⟩) (λd=>?_)
 ·rw[ax (by simpa using d),ax (by simpa using d)] at kk;exact kk f ⟨A,W,J (S.tail.tail)⟩
 ·have d: ¬ a>=4:=by simpa using d
  rw[ao d,ao d] at kk;refine⟨rfl,rfl,aj.of _ (S.fL (X:=X) (A:=A) (g:=h.g) (by simp) (n:=3) rfl) ⟨rfl,S.cm 1 rfl rfl ?_⟩⟩;rw[bM ⟨i,by omega⟩];exact S.abk 5 rfl W.pt v a λf S=>⟨trivial,S.res (j:=0) rfl 0 _ λl S=>kk l ⟨A,⟨W.jj,W.mp,W.gl,W.pt.ku v a,W.gk⟩,J (S.tail.tail)⟩⟩
theorem RO (H:jk Q X D G w0 w h L) (v k:Int) {a:Int} (b c:Int) (i:0<=a) (kk: ∀e,jk Q X D G w0 e (i_ h v a) L->K (0,yI h v a,()) e):
 aE AB 137 (.el (.agg iS)) [ag (ae X.hb),aa v,.agg ⟨gf k a b c⟩] w K:=by
 obtain⟨A,W,H⟩:=H;obtain⟨m,S,J⟩:=H.call;refine aR (C:=V0) (aS:=λ_=>[]) (Ax (Ho _ v k a b c w K) ?_);refine S.al λo e S=>S.al λp q S=>⟨rfl,S.cm 1 rfl rfl ?_⟩;unfold yI i_ at kk;refine ab (λd=>⟨trivial,S.res (j:=0) rfl 0 1 λf S=>?_⟩) (λd=>?_)
 ·rw[ax (by simpa using d),ax (by simpa using d)] at kk;exact kk f ⟨A,W,J (S.tail.tail)⟩
 ·have d: ¬ a>=4:=by simpa using d
  rw[ao d,ao d] at kk;refine⟨rfl,rfl,aj.of _ (S.fL (X:=X) (A:=A) (g:=h.g) (by simp) (n:=3) rfl) ⟨rfl,S.cm 1 rfl rfl ?_⟩⟩;rw[bM ⟨i,by omega⟩];exact S.ZD 5 rfl W.pt v a λf S=>⟨trivial,S.res (j:=0) rfl 0 _ λl S=>kk l ⟨A,⟨W.jj,W.mp,W.gl,W.pt.d_ v a,W.gk⟩,J (S.tail.tail)⟩⟩
theorem VA (H:jk Q X D G w0 w h L) (v k a b c:Int) (kk: ∀e,jk Q X D G w0 e (Ou h v) L->K (Ot h v,0,()) e):
 aE AB 136 (.el (.agg iS)) [ag (ae X.hb),aa v,.agg ⟨gf k a b c⟩] w K:=by
 obtain⟨A,W,H⟩:=H;obtain⟨o,S,J⟩:=H.call;refine aR (C:=V0) (aS:=λ_=>[]) (Ax (LZ _ v k a b c w K) ?_);refine S.al λp e S=>S.al λq s S=>⟨rfl,rfl,aj.of _ (S.fL (X:=X) (A:=A) (g:=h.g) (by simp) (n:=3) rfl) ?_⟩;unfold Ot Ou at kk;have l:=λh'=>RM (ps:=h.po) (g:=v) h';refine S.abl 5 rfl W.pt.tookS v λt S=>?_;obtain⟨r,m⟩: ∃r,r=Po.gO 4 h.po v:=⟨_,rfl⟩;have f:=W.pt.gO v;rw[<-m] at l kk S f ⊢;refine ab (λd=>S.res (j:=0) rfl 0 0 λi S=>?_) (λd=>?_)
 ·have d: ¬ r.1.2=true:=by simpa using d
  rw[ao d] at kk;exact kk i ⟨A,⟨W.jj,W.mp,W.gl,f,W.gk⟩,J (S.tail.tail)⟩
 ·have d:r.1.2=true:=by simpa using d
  rw[ax d] at kk;have:=l d;rw[av (by omega) (by omega),eJ (by omega)];exact S.res (j:=0) rfl _ 0 λi S=>kk i ⟨A,⟨W.jj,W.mp,W.gl,f,W.gk⟩,J (S.tail.tail)⟩
theorem VB (H:jk Q X D G w0 w h L) (v k:Int) {a:Int} (b c:Int) (i:0<=a) (kk: ∀f,jk Q X D G w0 f (lW h v a) L->K ((AM h v a).1,(AM h v a).2,()) f):
 aE AB 133 (.el (.agg iS)) [ag (ae X.hb),aa v,.agg ⟨gf k a b c⟩] w K:=by
 obtain⟨A,W,H⟩:=H;obtain⟨o,S,J⟩:=H.call;refine aR (C:=V0) (aS:=λ_=>[]) (Ax (LW _ v k a b c w K) ?_);refine S.al λp f S=>S.al λq r S=>⟨rfl,S.cm 1 rfl rfl ⟨_,zb S (X:=X) (A:=A) (g:=h.g) (by simp) v i,?_⟩⟩;unfold AM lW at kk;refine ab (λd=>⟨trivial,S.res (j:=0) rfl 0 _ λl S=>?_⟩) (λd=>?_)
 ·have d: ¬ cN h.g v a=0:=by simpa using d
  rw[ao d,ao d] at kk;exact kk l ⟨A,W,J (S.tail.tail)⟩
 ·have d:cN h.g v a=0:=by simpa using d
  rw[ax d,ax d] at kk;have s:=vh (g:=h.g) (v:=v) (a:=a) (by rw[d];decide);refine⟨rfl,rfl,aj.of _ (S.fL (X:=X) (A:=A) (g:=h.g) (by simp) (n:=3) rfl) ⟨rfl,S.cm 1 rfl rfl ?_⟩⟩;rw[bM ⟨i,by omega⟩];have t:=RN h.po v a;refine S.abj 5 rfl W.pt.tookS v a λl S=>?_;have e:aG .u64 (Po.iK 4 h.po v a).1.1=(Po.iK 4 h.po v a).1.1:=eJ (by omega);dsimp only;rw[e];exact S.res (j:=0) rfl _ _ λm S=>kk m ⟨A,⟨W.jj,W.mp,W.gl,W.pt.iK v a,W.gk⟩,J (S.tail.tail)⟩
theorem RP (ps:List Po.PT) (g r i:Int):0<=(Po.gN 4 ps g r i).1.1/\(Po.gN 4 ps g r i).1.1<4:=by
 unfold Po.gN;have z:(0:Int)<=0/\(0:Int)<4:=by decide
 split
 ·rename_i a;split
  ·exact z
  ·split
   ·exact z
   ·split
    ·exact z
    ·split
     ·exact z
     ·rename_i b;have:=(Po.eV.1 (Po.mS (Po.qd.1 a).1 b).1).2;exact this
 ·exact z
theorem VC (H:jk Q X D G w0 w h L) (v k:Int) {a b:Int} (c:Int) (l:0<=a) (hb:0<=b) (kk: ∀i,jk Q X D G w0 i (lX h v a b) L->K ((AN h v a b).1,(AN h v a b).2,()) i):
 aE AB 134 (.el (.agg iS)) [ag (ae X.hb),aa v,.agg ⟨gf k a b c⟩] w K:=by
 obtain⟨A,W,H⟩:=H;obtain⟨o,S,J⟩:=H.call;refine aR (C:=V0) (aS:=λ_=>[]) (Ax (LX _ v k a b c w K) ?_);refine S.al λp i S=>S.al λq r S=>⟨rfl,S.cm 1 rfl rfl ⟨_,zb S (X:=X) (A:=A) (g:=h.g) (by simp) v l,λ_=>rfl,S.cm 1 rfl rfl ?_⟩⟩;unfold AN lX at kk;refine ab (λd=>⟨trivial,S.res (j:=0) rfl 0 _ λf S=>?_⟩) (λd=>?_)
 ·have d:cN h.g v a=1\/b>=4:=by simpa using d
  rw[ax d,ax d] at kk;exact kk f ⟨A,W,J (S.tail.tail)⟩
 have d: ¬ (cN h.g v a=1\/b>=4):=by
  intro e;have:(cN h.g v a==1||decide (b>=4))=true:=by simpa using e
  rw[this] at d;cases d
 rw[ao d,ao d] at kk;refine ab (λd=>⟨trivial,S.res (j:=0) rfl 0 _ λf S=>?_⟩) (λd2=>?_)
 ·have d: ¬ cN h.g v a=0:=by simpa using d
  rw[ao d,ao d] at kk;exact kk f ⟨A,W,J (S.tail.tail)⟩
 ·have d2:cN h.g v a=0:=by simpa using d2
  rw[ax d2,ax d2] at kk;have s:=vh (g:=h.g) (v:=v) (a:=a) (by rw[d2];decide);have t:b<4:=by omega
  refine⟨rfl,rfl,aj.of _ (S.fL (X:=X) (A:=A) (g:=h.g) (by simp) (n:=3) rfl) ⟨rfl,S.cm 1 rfl rfl ⟨rfl,S.cm 1 rfl rfl ?_⟩⟩⟩;rw[bM ⟨l,by omega⟩,bM ⟨hb,by omega⟩];have u:=RP h.po v a b;refine S.pbind 5 rfl W.pt.tookS v a b λf S=>?_;have e:aG .u64 (Po.gN 4 h.po v a b).1.1=(Po.gN 4 h.po v a b).1.1:=eJ (by omega);dsimp only;rw[e];exact S.res (j:=0) rfl _ _ λm S=>kk m ⟨A,⟨W.jj,W.mp,W.gl,W.pt.gN v a b,W.gk⟩,J (S.tail.tail)⟩
end
theorem EA (gs:List GT) (o q t:Int) (b:Bool):(jV gs o q t b).length=gs.length:=by
 unfold jV;split
 ·rw[Db]
 ·rfl
theorem RQ {gs:List GT} (b:gs.length=16) (o q t:Int):0<=kr gs o q t/\kr gs o q t<16:=by
 have z:(0:Int)<=0/\(0:Int)<16:=by decide
 unfold kr;split
 ·cases a:dh gs e8 gs.length with
  |nil=>exact z
  |cons x l=>
   obtain⟨i,hi, _,e⟩:=qn.1 (by rw[a];exact B1:x∈dh gs e8 gs.length);show 0<=x/\x<16;omega
 ·exact z
def ib (h:HS) (v p:Int):Bool:=(gi h.g v p).2.1
def nK (h:HS) (v a b c:Int):Int:=
 if a>=65536 then 2 else if cN h.g v b=1\/c>1 then 1 else if(fy h.g h.s v a).2.2.1≠0\/cN h.g v b≠0 then 4 else if ib h v a=true then 7 else 0
def rQ (h:HS) (v a b c:Int):Int×Int:=if nK h v a b c=0 then(kr h.gr v a b,jU h.gr v a b) else(0,nK h v a b c)
def iH (h:HS) (v a b c:Int):HS:=if nK h v a b c=0 then yr h (jV h.gr v a b (c==1)) else h
section
variable {Q:Sys} {X:HX} {D G:List Nat} {w0 w:A2} {h:HS} {L:List (Nat×List AC)} {K:RS->A2->Prop}
theorem bX {A:Nat->GA} (W:Dm A h) (T:List (Nat×List AC)): ∀i v,h.g i=some v-> ∀x∈gP Q A i v,x∈T++dS Q X A h (a_ Q A h.g (AR 17)++L):=λi v hv x a=>by
 have:=W.jj hv;exact Az _ (B2 _ (B2 _ (B2 _ (B2 _ (C6 _ (Bt (DG.2 (by omega)) hv x a))))))
theorem fI {A:Nat->GA} (W:Dm A h): ∀i v,h.g i=some v->((A i).bm,Obj.map ⟨(A i).es⟩ (A i).ck)∈dj A h.g (AR 17):=λi v hv=>by
 have:=W.jj hv;exact L6 (DG.2 (by omega)) hv
theorem RR (H:jk Q X D G w0 w h L) (v k:Int) {a b c:Int} (z:0<=a) (hb:0<=b) (hc:0<=c) (kk: ∀l,jk Q X D G w0 l (iH h v a b c) L->K ((rQ h v a b c).1,(rQ h v a b c).2,()) l):
 aE AB 129 (.el (.agg iS)) [ag (ae X.hb),aa v,.agg ⟨gf k a b c⟩] w K:=by
 obtain⟨A,W,H⟩:=H;obtain⟨B,S,J⟩:=H.call;refine aR (C:=V0) (aS:=λ_=>[]) (Ax (Hn _ v k a b c w K) ?_);refine S.al λF l S=>S.al λI M S=>⟨rfl,S.cm 1 rfl rfl ⟨_,zb S (X:=X) (A:=A) (g:=h.g) (by simp) v hb,rfl,S.cm 1 rfl rfl ?_⟩⟩;have m:nK h v a b c≠0-> ∀{l},jk Q X D G w0 l h L->K (0,nK h v a b c,()) l:=λr l H=>by
  have o:rQ h v a b c=(0,nK h v a b c):=ao r;have p:iH h v a b c=h:=ao r;rw[o,p] at kk;exact kk l H
 have f:nK h v a b c=if a>=65536 then 2 else if cN h.g v b=1\/c>1 then 1 else if(fy h.g h.s v a).2.2.1≠0\/cN h.g v b≠0 then 4 else if ib h v a=true then 7 else 0:=rfl;refine ab (λd=>⟨trivial,S.res (j:=0) rfl 0 _ λt S=>?_⟩) (λd=>⟨λ_=>rfl,S.cm 1 rfl rfl ?_⟩)
 ·rw[ax (by simpa using d)] at f;rw[f] at m;exact m (by decide) ⟨A,W,J S.tail.tail⟩
 have d: ¬ a>=65536:=by simpa using d
 rw[ao d] at f;have q:aG .i64 a=a:=bM ⟨z,by omega⟩;refine ab (λd=>⟨trivial,S.res (j:=0) rfl 0 _ λt S=>?_⟩) (λd2=>⟨rfl,S.cm 1 rfl rfl ?_⟩)
 ·rw[ax (by simpa using d)] at f;rw[f] at m;exact m (by decide) ⟨A,W,J S.tail.tail⟩
 have d2: ¬ (cN h.g v b=1\/c>1):=by
  intro e;have:(cN h.g v b==1||decide (c>1))=true:=by simpa using e
  rw[this] at d2;cases d2
 rw[ao d2] at f;rw[q];refine vg S (X:=X) (A:=A) (g:=h.g) (by simp) (bX W [_, _]) v a λt S=>?_;refine ab (λd=>⟨trivial,S.res (j:=0) rfl 0 _ λu S=>?_⟩) (λd3=>⟨rfl,S.cm 1 rfl rfl ?_⟩)
 ·rw[ax (by simpa using d)] at f;rw[f] at m;exact m (by decide) ⟨A,W,J S.tail.tail⟩
 have d3: ¬ ((fy h.g h.s v a).2.2.1≠0\/cN h.g v b≠0):=by
  intro e;have:((fy h.g h.s v a).2.2.1 != 0||cN h.g v b != 0)=true:=by simpa using e
  rw[this] at d3;cases d3
 rw[ao d3] at f;rw[q];refine⟨gi h.g v a,pK (J S) (X:=X) (A:=A) (g:=h.g) (by simp) (bX W [_, _]) (fI W) (λi x E=>W.mp E) v a,?_⟩;refine ab (λd=>⟨trivial,S.res (j:=0) rfl 0 _ λu S=>?_⟩) (λd4=>?_)
 ·rw[ax (show ib h v a=true from d)] at f;rw[f] at m;exact m (by decide) ⟨A,W,J S.tail.tail⟩
 rw[ao (show ¬ ib h v a=true by unfold ib;rw[d4];decide)] at f;have o:rQ h v a b c=(kr h.gr v a b,jU h.gr v a b):=ax f;have p:iH h v a b c=yr h (jV h.gr v a b (c==1)):=ax f;rw[o,p] at kk;have N:=vh (g:=h.g) (v:=v) (a:=b) (λe=>d2 (.inl e));refine⟨rfl,rfl,aj.of _ (S.fL (X:=X) (A:=A) (g:=h.g) (by simp) (n:=2) rfl) ⟨rfl,S.cm 1 rfl rfl ⟨rfl,S.cm 1 rfl rfl ⟨rfl,S.cm 1 rfl rfl ?_⟩⟩⟩⟩;rw[q,bM ⟨hb,by omega⟩];have O:=RQ W.gl v a b;refine S.ZC 3 4 rfl rfl (by rw[W.gl];decide) (by rw[W.gl];decide) v a b (c==1) λu S=>?_;dsimp only;rw[eJ (by omega)];refine S.res (j:=0) rfl _ _ λy S=>kk y ⟨A,⟨W.jj,W.mp,(EA _ _ _ _ _).trans W.gl,W.pt,W.gk.off _ _ _ _⟩,J ?_⟩;have S:=S.tail.tail;have e:(jV h.gr v a b (c==1)).length=h.gr.length:=EA _ _ _ _ _;show bq Q [] B w y h.s ((X.hb,fg Q X A h.g)::(X.gb,my X.uB (jV h.gr v a b (c==1)).length X.c):: _);rw[e];exact S
end
def il (h:HS) (v a t:Int):Int×Int:=if a>=1048576 then(0,2) else(aI .i64 (iD .i64 16 (k_ h.s.1 (aY h.g v) (a / 16) t).1) (a % 16),(k_ h.s.1 (aY h.g v) (a / 16) t).2.2.2.1)
def AO (h:HS) (v a:Int):Int×Int:=if(il h v a 1).2≠0 then(0,(il h v a 1).2) else(dL h.s.1 (il h v a 1).1,Aa h.s.1 (il h v a 1).1)
def nL (h:HS) (v a:Int):Int:=if(il h v a 2).2≠0 then(il h v a 2).2 else Aa h.s.1 (il h v a 2).1
def km (h:HS) (v a b:Int):HS:=if(il h v a 2).2≠0 then h else bF h (dO h.s.1 (il h v a 2).1 b,h.s.2)
def dK (s:WD):Nat->WD×Nat
 |0=>(s,0)
 |n+1=>(gQ (dK s n).1 (n:Int),(dK s n).2+if jX (dK s n).1 (n:Int)=0 then 1 else 0)
theorem L9 (s:WD) (f:Int):(gQ s f).1=s.1/\(gQ s f).2.length=s.2.length:=by
 unfold gQ;split
 ·exact⟨rfl,iB _ _ _⟩
 ·exact⟨rfl,rfl⟩
theorem Bv (s:WD): ∀n,(dK s n).1.1=s.1/\(dK s n).1.2.length=s.2.length
 |0=>⟨rfl,rfl⟩
 |n+1=>by
  have h:=L9 (dK s n).1 (n:Int);have a:=Bv s n;exact⟨h.1.trans a.1,h.2.trans a.2⟩
theorem Bw (s:WD): ∀n,(dK s n).2<=n
 |0=>Dt _
 |n+1=>by
  have:=Bw s n;show(dK s n).2+ _<=n+1;split<;>omega
theorem abn {a:Int} (h:0<=a/\a<1048576):aG .i64 (wT .u64 a 16)=a / 16:=by
 have e:wT .u64 a 16=a / 16:=by
  show aG .u64 (a.tdiv 16)= _;rw[Int.tdiv_eq_ediv_of_nonneg h.1];exact eJ (by omega)
 rw[e];exact bM (by omega)
theorem abo {a:Int} (h:0<=a):aG .i64 (fb a 16)=a % 16:=by
 have e:fb a 16=a % 16:=by
  unfold fb;exact Int.tmod_eq_emod_of_nonneg h
 rw[e];exact bM (by omega)
section
variable {Q:Sys} {X:HX} {D G:List Nat} {w0 w:A2} {h:HS} {L:List (Nat×List AC)} {K:RS->A2->Prop}
theorem EB {f:List Nat} {j:A2} {A:Nat->GA} {s:WD} {L0:List (Nat×List AC)} (S:bq Q [] f j w s L0) (m:s=h.s) (k:(X.hb,fg Q X A h.g)∈L0) (o: ∀i v,h.g i=some v-> ∀x∈gP Q A i v,x∈L0) (v:Int) {a:Int} (l:0<=a) (t:Int) {K:Int×Int×Unit->A2->Prop}
 (kk: ∀c,bq Q [] f j c s L0->K ((il h v a t).1,(il h v a t).2,()) c):
 aB AB 178 (.bG [.one (.int .i64),.one (.int .i64)]) [ag (ae X.hb),aa v,ay a,aa t] w K:=by
 subst m;refine S.go λw1 S=>ai (C:=V0) (aS:=λ_=>[]) (Ax (RB _ v a t w1 K) ?_);unfold il at kk;refine ab (λd=>S.en λc S=>?_) (λd=>?_)
 ·rw[ax (by simpa using d)] at kk;exact kk c S
 ·have d: ¬ a>=1048576:=by simpa using d
  rw[ao d] at kk;rw[abn ⟨l,by omega⟩,abo l];refine⟨rfl,rfl,aj.of _ (S.fL (X:=X) (A:=A) (g:=h.g) k (n:=0) rfl) ⟨_,CF S k o v,?_,?_⟩⟩
  ·exact S.walk _ _ _ λc S=>S.al λb p S=>S.ff 0 rfl rfl rfl λq S=>⟨rfl,S.cm 0 rfl rfl ⟨rfl,S.cm 0 rfl rfl (S.en λe S=>kk e S.tail)⟩⟩
  ·exact S.al λb p S=>S.walk _ _ _ λc S=>S.ff 0 rfl rfl rfl λq S=>⟨rfl,S.cm 0 rfl rfl ⟨rfl,S.cm 0 rfl rfl (S.en λe S=>kk e S.tail)⟩⟩
theorem VD (H:jk Q X D G w0 w h L) (v k:Int) {a:Int} (b c:Int) (i:0<=a) (kk: ∀e,jk Q X D G w0 e h L->K ((AO h v a).1,(AO h v a).2,()) e):
 aE AB 127 (.el (.agg iS)) [ag (ae X.hb),aa v,.agg ⟨gf k a b c⟩] w K:=by
 obtain⟨A,W,H⟩:=H;obtain⟨m,S,J⟩:=H.call;refine aR (C:=V0) (aS:=λ_=>[]) (Ax (LR _ v k a b c w K) ?_);refine S.al λo e S=>S.al λp q S=>⟨rfl,S.cm 1 rfl rfl (EB (h:=h) (A:=A) S rfl (by simp) (bX W [_, _]) v i 1 λr S=>?_)⟩;unfold AO at kk;refine ab (λd=>⟨trivial,S.res (j:=0) rfl 0 _ λf S=>?_⟩) (λd=>?_)
 ·rw[ax (by simpa using d)] at kk;exact kk f ⟨A,W,J S.tail.tail⟩
 ·rw[ao (by simpa using d)] at kk;exact⟨rfl,rfl,aj.of _ (S.fL (X:=X) (A:=A) (g:=h.g) (by simp) (n:=0) rfl) (S.load _ λf S=>S.res (j:=0) rfl _ _ λl S=>kk l ⟨A,W,J S.tail.tail⟩)⟩
theorem RU (H:jk Q X D G w0 w h L) (v k:Int) {a b:Int} (c:Int) (i:0<=a) (hb:0<=b/\b<18446744073709551616) (kk: ∀e,jk Q X D G w0 e (km h v a b) L->K (0,nL h v a,()) e):
 aE AB 128 (.el (.agg iS)) [ag (ae X.hb),aa v,.agg ⟨gf k a b c⟩] w K:=by
 obtain⟨A,W,H⟩:=H;obtain⟨m,S,J⟩:=H.call;refine aR (C:=V0) (aS:=λ_=>[]) (Ax (Hm _ v k a b c w K) ?_);refine S.al λo e S=>S.al λp q S=>⟨rfl,S.cm 1 rfl rfl (EB (h:=h) (A:=A) S rfl (by simp) (bX W [_, _]) v i 2 λr S=>?_)⟩;unfold km nL at kk;refine ab (λd=>⟨trivial,S.res (j:=0) rfl 0 _ λf S=>?_⟩) (λd=>?_)
 ·rw[ax (by simpa using d),ax (by simpa using d)] at kk;exact kk f ⟨A,W,J S.tail.tail⟩
 ·rw[ao (by simpa using d),ao (by simpa using d)] at kk;exact⟨rfl,rfl,aj.of _ (S.fL (X:=X) (A:=A) (g:=h.g) (by simp) (n:=0) rfl) ⟨rfl,S.cm 1 rfl rfl (S.store _ b hb λf S=>⟨trivial,S.res (j:=0) rfl 0 _ λl S=>kk l ⟨A,⟨W.jj,W.mp,W.gl,W.pt,W.gk⟩,J S.tail.tail⟩⟩)⟩⟩
theorem RV (H:jk Q X D G w0 w h L) (v k a b c:Int) (kk: ∀e,jk Q X D G w0 e (bF h (dK h.s h.s.2.length).1) L->K (((dK h.s h.s.2.length).2:Int),0,()) e):
 aE AB 123 (.el (.agg iS)) [ag (ae X.hb),aa v,.agg ⟨gf k a b c⟩] w K:=by
 obtain⟨A,W,H⟩:=H;obtain⟨r,S,J⟩:=H.call;refine aR (C:=V0) (aS:=pW) (Ax (Hl _ v k a b c w K) ?_);have N:=S.le;refine S.al λt e S=>S.al λz O S=>⟨rfl,rfl,aj.of _ (S.fL (X:=X) (A:=A) (g:=h.g) (by simp) (n:=1) rfl) ⟨_,S.Yw,?_⟩⟩;refine⟨λn u w'=> ∃m:Nat,u.1=((dK h.s m).2:Int)/\u.2.1=(m:Int)/\n+m=h.s.2.length/\bq Q [] r w w' (dK h.s m).1 ((z,[ay 0,aa 0])::(t,gf k a b c)::dS Q X A h (a_ Q A h.g (AR 17)++L)),⟨h.s.2.length,λB E=>⟨0,rfl,rfl,rfl,S.ext E⟩⟩,?_⟩;clear S;rintro n ⟨x,y,u⟩ B ⟨m,l,o,P,S⟩;dsimp only at l o ⊢;subst l;subst o;have hc:=Bw h.s m;refine ab (λf=>?_) (λf=>?_)
 ·have p:m<h.s.2.length:=by simpa using f
  refine Ez S (X:=X) (A:=A) (g:=h.g) (by simp) (m:Int) λq S=>?_;have F:aI .i64 (m:Int) 1=((m+1:Nat):Int):=by rw[av (by omega) (by omega)];omega
  have I:aI .i64 ((dK h.s m).2:Int) 1=(((dK h.s m).2+1:Nat):Int):=by rw[av (by omega) (by omega)];omega
  rw[F,I];refine ab (λd=>λM i=>⟨n - 1,by omega,m+1,?_,rfl,by omega,S.ext i⟩) (λd=>λM i=>⟨n - 1,by omega,m+1,?_,rfl,by omega,S.ext i⟩)
  ·have d:jX (dK h.s m).1 (m:Int)=0:=by simpa using d
   show _=(((dK h.s m).2+if jX (dK h.s m).1 (m:Int)=0 then 1 else 0:Nat):Int);rw[ax d]
  ·have d: ¬ jX (dK h.s m).1 (m:Int)=0:=by simpa using d
   show _=(((dK h.s m).2+if jX (dK h.s m).1 (m:Int)=0 then 1 else 0:Nat):Int);rw[ao d];rfl
 ·have p:m=h.s.2.length:=by
   have: ¬ m<h.s.2.length:=by simpa using f
   omega
  subst p;rw[eJ (by omega)];exact S.res (j:=0) rfl _ 0 λq S=>kk q ⟨A,⟨W.jj,W.mp,W.gl,W.pt,W.gk⟩,J S.tail.tail⟩
end
theorem bR {g:Nat->Option GV} {v:Int} (a:aW g v=true): ∃x,g v.toNat=some x/\aY g v=x.root/\((v.toNat:Nat):Int)=v/\1<=v/\v<=16:=by
 obtain⟨hv,x,b⟩:=cw.1 a;refine⟨x,b,?_,by omega,hv.1,hv.2⟩;unfold aY;rw[ax a,b]
theorem bq.sT {Q:Sys} {X:HX} {D G:List Nat} {w0 w:A2} {s:WD} {L0:List (Nat×List AC)} {A:Nat->GA} {g:Nat->Option GV} (S:bq Q D G w0 w s L0) (d:(X.hb,fg Q X A g)∈L0) (b: ∀i v,g i=some v-> ∀x∈gP Q A i v,x∈L0) {v:Int} (e:aW g v=true):
 cH w (ad (ad (ae X.hb) 4) (v.toNat*1)) (.one .ptr) (some ⟨(A v.toNat).bg,0,none⟩)/\cH w (ad (some ⟨(A v.toNat).bg,0,none⟩) 0) (.one .ptr) (some ⟨(A v.toNat).bt,0,none⟩)/\cH w (ad (some ⟨(A v.toNat).bg,0,none⟩) 1) (.one .map) (some (A v.toNat).bm)/\
  ∃j:Nat,L0[j]? =some ((A v.toNat).bt,oV Q v (aY g v) false):=by
 obtain⟨x,a,f,hv,h1,h⟩:=bR e;have hc:=S.pz d (v:=v) ⟨by omega,h⟩;have k:kL A g v.toNat=some ⟨(A v.toNat).bg,0,none⟩:=by unfold kL;rw[a]
 rw[k] at hc;obtain⟨j1,c⟩:=B5 (b _ _ a _ B1);obtain⟨l,m⟩:=B5 (b _ _ a _ (B2 _ B1));refine⟨hc,?_,?_,l,?_⟩
 ·rw[aX];exact dV (S.get c) rfl
 ·rw[aX];exact dV (S.get c) rfl
 ·rw[f, <-hv];exact m
def mJ (h:HS) (v a b:Int):Int:=
 if a>=65536 then 2 else if b<1\/b>7 then 7 else if ib h v a=true/\wU .u64 b 2>0/\(wY h.gr (gi h.g v a).1).2.2.2.1=false then 7 else B8 h.s v (aY h.g v) false a b
def jY (h:HS) (v a b:Int):HS:=
 if a>=65536 then h else if b<1\/b>7 then h else if ib h v a=true/\wU .u64 b 2>0/\(wY h.gr (gi h.g v a).1).2.2.2.1=false then h else bF h (rH h.s v (aY h.g v) false a b)
section
variable {Q:Sys} {X:HX} {D G:List Nat} {w0 w:A2} {h:HS} {L:List (Nat×List AC)} {K:RS->A2->Prop}
theorem Hu (H:jk Q X D G w0 w h L) {v:Int} (m:aW h.g v=true) (k:Int) {a b:Int} (c:Int) (E:0<=a) (hb:0<=b) (kk: ∀f,jk Q X D G w0 f (jY h v a b) L->K (0,mJ h v a b,()) f):
 aE AB 126 (.el (.agg iS)) [ag (ae X.hb),aa v,.agg ⟨gf k a b c⟩] w K:=by
 obtain⟨A,W,H⟩:=H;obtain⟨F,S,J⟩:=H.call;obtain⟨x,o,O,hv,P,R⟩:=bR m;refine aR (C:=V0) (aS:=λ_=>[]) (Ax (C4 _ v k a b c w K) ?_);refine S.al λI f S=>S.al λt U S=>⟨rfl,S.cm 1 rfl rfl ?_⟩;unfold mJ jY at kk;refine ab (λd=>⟨trivial,S.res (j:=0) rfl 0 _ λp S=>?_⟩) (λd=>⟨rfl,S.cm 1 rfl rfl ⟨λ_=>rfl,S.cm 1 rfl rfl ?_⟩⟩)
 ·rw[ax (by simpa using d),ax (by simpa using d)] at kk;exact kk p ⟨A,W,J S.tail.tail⟩
 have d: ¬ a>=65536:=by simpa using d
 rw[ao d,ao d] at kk;refine ab (λd=>⟨trivial,S.res (j:=0) rfl 0 _ λp S=>?_⟩) (λd2=>?_)
 ·have d:b<1\/b>7:=by simpa using d
  rw[ax d,ax d] at kk;exact kk p ⟨A,W,J S.tail.tail⟩
 have d2: ¬ (b<1\/b>7):=by
  intro e;have:(decide (b<1)||decide (b>7))=true:=by simpa using e
  rw[this] at d2;cases d2
 rw[ao d2,ao d2] at kk;have u:aG .i64 a=a:=bM ⟨E,by omega⟩;have eb:aG .i64 b=b:=bM ⟨hb,by omega⟩;have fin: ∀{r:A2} {T:List (Nat×List AC)} {q:Nat},bq Q [] F w r h.s (T++((t,[ay 0,aa 0])::(I,gf k a b c)::dS Q X A h (a_ Q A h.g (AR 17)++L)))->T.length=q->(¬ (ib h v a=true/\wU .u64 b 2>0/\(wY h.gr (gi h.g v a).1).2.2.2.1=false))->
  aB AB 177 (.el (.one (.int .i64))) [ag (some ⟨(A v.toNat).bt,0,none⟩),aa a,aa b] r λ(x:Int) (f:A2)=>True/\az f (ae t) [ay 0,aa x] λ(f:A2)=>au f λ(w1:A2)=>aj w1 none (ae t) (.agg iS) λ(x:Int×Int×Unit)=>K (x.1,x.2.1,()) w1:=by
  intro r T q S V z;rw[ao z,ao z] at kk;obtain⟨_, _, _,j,M⟩:=S.sT (X:=X) (A:=A) (g:=h.g) (by simp) (λi v hv x o=>Az T (bX W [_, _] i v hv x o)) m;refine S.s9 j M a b λB S=>⟨trivial,S.res (j:=T.length) (by rw[FX (Dt _),Nat.sub_self];rfl) 0 _ λN S=>kk N ⟨A,⟨W.jj,W.mp,W.gl,W.pt,W.gk⟩,J ?_⟩⟩;rw[I2 _ _ (Dt _),Nat.sub_self] at S;have S:=S.sub (FY T _);exact S.tail.tail
 refine⟨rfl,S.cm 1 rfl rfl ⟨gi h.g v a,by rw[u];exact pK (J S) (X:=X) (A:=A) (g:=h.g) (by simp) (bX W [_, _]) (fI W) (λi x o=>W.mp o) v a,λ_=>rfl,S.cm 1 rfl rfl (ab (λd3=>?_) (λd3=>?_))⟩⟩
 ·have d3:ib h v a=true/\wU .u64 b 2>0:=by
   have:=d3;rw[F5,decide_eq_true_eq] at this;exact this
  refine⟨rfl,rfl,aj.of _ (S.fL (X:=X) (A:=A) (g:=h.g) (by simp) (n:=2) rfl) ⟨(wY h.gr (gi h.g v a).1,(lT h.gr (gi h.g v a).1).isSome,()),S.aat 3 4 rfl rfl (by rw[W.gl];decide) _,S.al λY p S=>S.ff 0 rfl rfl rfl λr S=>⟨rfl,S.cm 0 rfl rfl (ab (λd4=>⟨trivial,S.res (j:=1) rfl 0 _ λB S=>?_⟩) (λd4=>?_))⟩⟩⟩
  ·have d4:(wY h.gr (gi h.g v a).1).2.2.2.1=false:=by simpa using d4
   rw[ax ⟨d3.1,d3.2,d4⟩,ax ⟨d3.1,d3.2,d4⟩] at kk;exact kk B ⟨A,W,J S.tail.tail.tail⟩
  ·have d4:(wY h.gr (gi h.g v a).1).2.2.2.1=true:=by simpa using d4
   obtain⟨g1,y, _, _⟩:=S.sT (X:=X) (A:=A) (g:=h.g) (by simp) (bX W [_, _, _]) m;exact⟨rfl,rfl,⟨rfl,by omega,by show v<((17:Nat):Int);omega⟩,aj.of _ g1 ⟨rfl,rfl,aj.of _ y ⟨rfl,S.cm 2 rfl rfl ⟨rfl,S.cm 2 rfl rfl (by
    rw[u,eb];exact fin (T:=[_]) S rfl (λl=>by rw[d4] at l;cases l.2.2))⟩⟩⟩⟩
 ·have d3: ¬ (ib h v a=true/\wU .u64 b 2>0):=by
   intro e;have:((gi h.g v a).2.1&&decide (wU .u64 b 2>0))=true:=by rw[F5,decide_eq_true_eq];exact e
   rw[this] at d3;cases d3
  obtain⟨g1,y, _, _⟩:=S.sT (X:=X) (A:=A) (g:=h.g) (by simp) (bX W [_, _]) m;exact⟨rfl,rfl,⟨rfl,by omega,by show v<((17:Nat):Int);omega⟩,aj.of _ g1 ⟨rfl,rfl,aj.of _ y ⟨rfl,S.cm 1 rfl rfl ⟨rfl,S.cm 1 rfl rfl (by
   rw[u,eb];exact fin (T:=[]) S rfl (λl=>d3 ⟨l.1,l.2.1⟩))⟩⟩⟩⟩
end
theorem L_ (s:WD) (r:Int) (gone:Bool) (p:Int):0<=(bC s r gone p).1/\(bC s r gone p).1<5000:=by
 have z:(0:Int)<=0/\(0:Int)<5000:=by decide
 unfold bC;split
 ·exact z
 ·split
  ·exact z
  ·split
   ·have h:=I4 (B (dL s.1 (dA s.1 r p).2.2.1)).toNat;have h:0<=(da s.1 r p).2.2.2.1/\(da s.1 r p).2.2.2.1<4096:=h;show 0<=qD p (dA s.1 r p) (da s.1 r p)/\qD p (dA s.1 r p) (da s.1 r p)<5000;unfold qD;split<;>omega
   ·exact z
theorem EC (g:Nat->Option GV) (s:WD) (v p:Int):0<=(fy g s v p).1/\(fy g s v p).1<5000:=by
 have z:(0:Int)<=0/\(0:Int)<5000:=by decide
 unfold fy;split
 ·split
  ·exact L_ _ _ _ _
  ·exact z
 ·exact z
def sU (h:HS) (v a:Int):Int:=
 if a>=65536 then 2 else if(fy h.g h.s v a).2.2.1≠0 then(fy h.g h.s v a).2.2.1 else if ib h v a=true then 7 else if(mz h.s.2 (fy h.g h.s v a).1).2.2.1>0 then 9 else 0
def x_ (h:HS) (v a:Int):Int×Int:=if sU h v a=0 then((fy h.g h.s v a).1,0) else(0,sU h v a)
def qF (h:HS) (v a:Int):HS:=if sU h v a=0 then bF h ((nq h.s v (aY h.g v) false a).1,dI (nq h.s v (aY h.g v) false a).2 (fy h.g h.s v a).1 (aP 5 v)) else h
section
variable {Q:Sys} {X:HX} {D G:List Nat} {w0 w:A2} {h:HS} {L:List (Nat×List AC)} {K:RS->A2->Prop}
theorem Hv (H:jk Q X D G w0 w h L) {v:Int} (q:aW h.g v=true) (u:ND Q h.s) (y:0<=aY h.g v/\aY h.g v<4096) (k:Int) {a:Int} (b c:Int) (z:0<=a) (kk: ∀f,jk Q X D G w0 f (qF h v a) L->K ((x_ h v a).1,(x_ h v a).2,()) f):
 aE AB 125 (.el (.agg iS)) [ag (ae X.hb),aa v,.agg ⟨gf k a b c⟩] w K:=by
 obtain⟨A,W,H⟩:=H;obtain⟨N,S,J⟩:=H.call;obtain⟨x,r,O,hv,P,R⟩:=bR q;refine aR (C:=V0) (aS:=λ_=>[]) (Ax (CZ _ v k a b c w K) ?_);have l:sU h v a≠0-> ∀{f},jk Q X D G w0 f h L->K (0,sU h v a,()) f:=λt f H=>by
  have m:x_ h v a=(0,sU h v a):=ao t;have o:qF h v a=h:=ao t;rw[m,o] at kk;exact kk f H
 have e:sU h v a=if a>=65536 then 2 else if(fy h.g h.s v a).2.2.1≠0 then(fy h.g h.s v a).2.2.1 else if ib h v a=true then 7 else if(mz h.s.2 (fy h.g h.s v a).1).2.2.1>0 then 9 else 0:=rfl;refine S.al λT f S=>S.al λU V S=>⟨rfl,S.cm 1 rfl rfl ?_⟩;refine ab (λd=>⟨trivial,S.res (j:=0) rfl 0 _ λB S=>?_⟩) (λd=>⟨rfl,S.cm 1 rfl rfl ?_⟩)
 ·rw[ax (by simpa using d)] at e;rw[e] at l;exact l (by decide) ⟨A,W,J S.tail.tail⟩
 have d: ¬ a>=65536:=by simpa using d
 rw[ao d] at e;have E:aG .i64 a=a:=bM ⟨z,by omega⟩;rw[E];refine vg S (X:=X) (A:=A) (g:=h.g) (by simp) (bX W [_, _]) v a λB S=>?_;have Y:=EC h.g h.s v a;refine ab (λd=>⟨trivial,S.res (j:=0) rfl 0 _ λp S=>?_⟩) (λd2=>?_)
 ·have d:(fy h.g h.s v a).2.2.1≠0:=by simpa using d
  rw[ax d] at e;rw[e] at l;exact l d ⟨A,W,J S.tail.tail⟩
 rw[ao (by simpa using d2)] at e;refine⟨gi h.g v a,pK (J S) (X:=X) (A:=A) (g:=h.g) (by simp) (bX W [_, _]) (fI W) (λi x r=>W.mp r) v a,?_⟩;refine ab (λd=>⟨trivial,S.res (j:=0) rfl 0 _ λp S=>?_⟩) (λd3=>?_)
 ·rw[ax (show ib h v a=true from d)] at e;rw[e] at l;exact l (by decide) ⟨A,W,J S.tail.tail⟩
 rw[ao (show ¬ ib h v a=true by unfold ib;rw[d3];decide)] at e;refine⟨rfl,rfl,aj.of _ (S.fL (X:=X) (A:=A) (g:=h.g) (by simp) (n:=1) rfl) ⟨(mz h.s.2 (fy h.g h.s v a).1,xq h.s.2 (fy h.g h.s v a).1,()),S.ofq _,S.al λZ p S=>S.ff 0 rfl rfl rfl λw6 S=>⟨rfl,S.cm 0 rfl rfl ?_⟩⟩⟩;refine ab (λd=>⟨trivial,S.res (j:=1) rfl 0 _ λp S=>?_⟩) (λd4=>?_)
 ·rw[ax (by simpa using d)] at e;rw[e] at l;exact l (by decide) ⟨A,W,J S.tail.tail.tail⟩
 rw[ao (by simpa using d4)] at e;have m:x_ h v a=((fy h.g h.s v a).1,0):=ax e;have o:qF h v a=bF h _:=ax e;rw[m,o] at kk;obtain⟨g1,F, _,j,I⟩:=S.sT (X:=X) (A:=A) (g:=h.g) (by simp) (bX W [_, _, _]) q;refine⟨rfl,rfl,⟨rfl,by omega,by show v<((17:Nat):Int);omega⟩,aj.of _ g1 ⟨rfl,rfl,aj.of _ F (S.DQ u j I y a λw7 S=>⟨rfl,rfl,aj.of _ (S.fL (X:=X) (A:=A) (g:=h.g) (by simp) (n:=1) rfl) (S.TR _ 5 v λw8 S=>?_)⟩)⟩⟩;rw[eJ (by omega)];exact S.res (j:=1) rfl _ 0 λM S=>kk M ⟨A,⟨W.jj,W.mp,W.gl,W.pt,W.gk⟩,J S.tail.tail.tail⟩
end
theorem Hw {ds:List DT} (b:ds.length<=4096) (y o:Int):0<=fc ds y o/\fc ds y o<4096:=by
 have z:(0:Int)<=0/\(0:Int)<4096:=by decide
 unfold fc;split
 ·exact z
 ·rename_i n a;unfold ik at a;rw[JQ] at a;obtain⟨h1, _⟩:=a;split
  ·exact⟨by omega,by omega⟩
  ·exact z
def kf (h:HS) (v:Int):WD:=(h.s.1,di h.s.2 4 v)
def jo (h:HS) (v:Int):Int:=fc h.s.2 4 v
def qG (h:HS) (v a b:Int):WD:=jy (kf h v) v (aY h.g v) false a (jo h v) b
def oQ (h:HS) (v a b:Int):Int:=
 if a>=65536 then 2 else if b<1\/b>7 then 7 else if dC h.s.2 4 v≠0 then dC h.s.2 4 v else kJ (kf h v) (aY h.g v) false a (jo h v) b
def uS (h:HS) (v a b:Int):Int×Int:=if oQ h v a b=0 then(jo h v,0) else(0,oQ h v a b)
def jS (h:HS) (v a b:Int):HS:=
 if a>=65536 then h else if b<1\/b>7 then h else if dC h.s.2 4 v≠0 then bF h (kf h v)
 else if kJ (kf h v) (aY h.g v) false a (jo h v) b≠0 then bF h ((qG h v a b).1,dI (qG h v a b).2 (jo h v) (aP 0 0))
 else bF h (eZ (qG h v a b).1 (jo h v) (λ_=>0) 16,(qG h v a b).2)
section
variable {Q:Sys} {X:HX} {D G:List Nat} {w0 w:A2} {h:HS} {L:List (Nat×List AC)} {K:RS->A2->Prop}
theorem Ma (H:jk Q X D G w0 w h L) {v:Int} (B:aW h.g v=true) (k:Int) {a b:Int} (c:Int) (V:0<=a) (hb:0<=b) (kk: ∀l,jk Q X D G w0 l (jS h v a b) L->K ((uS h v a b).1,(uS h v a b).2,()) l):
 aE AB 124 (.el (.agg iS)) [ag (ae X.hb),aa v,.agg ⟨gf k a b c⟩] w K:=by
 obtain⟨A,W,H⟩:=H;obtain⟨E,S,J⟩:=H.call;obtain⟨x,hx,qN,hv,vy,sw⟩:=bR B;refine aR (C:=V0) (aS:=oD) (Ax (Fe _ v k a b c w K) ?_);have I:=Hw S.le 4 v;have wf: ∀s',Dm A (bF h s'):=λs'=>⟨W.jj,W.mp,W.gl,W.pt,W.gk⟩;have p: ∀e,e≠0->oQ h v a b=e->uS h v a b=(0,e):=λe Y h1=>by
  unfold uS;rw[ao (by rw[h1];exact Y),h1]
 refine S.al λM l S=>S.al λN w3 S=>⟨rfl,S.cm 1 rfl rfl ?_⟩;refine ab (λd=>⟨trivial,S.res (j:=0) rfl 0 _ λq S=>?_⟩) (λd=>⟨rfl,S.cm 1 rfl rfl ⟨λ_=>rfl,S.cm 1 rfl rfl ?_⟩⟩)
 ·have d:a>=65536:=by simpa using d
  have f:jS h v a b=h:=ax d;rw[p 2 (by decide) (ax d),f] at kk;exact kk q ⟨A,W,J S.tail.tail⟩
 have d: ¬ a>=65536:=by simpa using d
 have Z:aG .i64 a=a:=bM ⟨V,by omega⟩;refine ab (λd2=>⟨trivial,S.res (j:=0) rfl 0 _ λq S=>?_⟩) (λd2=>⟨rfl,rfl,?_⟩)
 ·have d2:b<1\/b>7:=by simpa using d2
  have o:oQ h v a b=7:=by unfold oQ;rw[ao d,ax d2]
  have f:jS h v a b=h:=by unfold jS;rw[ao d,ax d2]
  rw[p 7 (by decide) o,f] at kk;exact kk q ⟨A,W,J S.tail.tail⟩
 have d2: ¬ (b<1\/b>7):=by
  intro e;have:(decide (b<1)||decide (b>7))=true:=by simpa using e
  rw[this] at d2;cases d2
 have eb:aG .i64 b=b:=bM ⟨hb,by omega⟩;refine aj.of _ (S.fL (X:=X) (A:=A) (g:=h.g) (by simp) (n:=1) rfl) (S.take 4 v λq S=>?_);refine ab (λd3=>⟨trivial,S.res (j:=0) rfl 0 _ λy S=>?_⟩) (λd3=>?_)
 ·have d3:dC h.s.2 4 v≠0:=by simpa using d3
  have o:oQ h v a b=dC h.s.2 4 v:=by unfold oQ;rw[ao d,ao d2,ax d3]
  have f:jS h v a b=bF h (kf h v):=by unfold jS;rw[ao d,ao d2,ax d3]
  rw[p _ d3 o,f] at kk;exact kk y ⟨A,wf _,J S.tail.tail⟩
 have d3: ¬ dC h.s.2 4 v≠0:=by
  intro e;have:(dC h.s.2 4 v != 0)=true:=by simpa using e
  rw[this] at d3;cases d3
 obtain⟨g1,O, _,j,P⟩:=S.sT (X:=X) (A:=A) (g:=h.g) (by simp) (bX W [_, _]) B;refine⟨rfl,rfl,⟨rfl,by omega,by show v<((17:Nat):Int);omega⟩,aj.of _ g1 ⟨rfl,rfl,aj.of _ O ⟨rfl,S.cm 1 rfl rfl ⟨rfl,S.cm 1 rfl rfl ?_⟩⟩⟩⟩;rw[Z,eb];refine S.map j P a (jo h v) b λy S=>?_;have S:bq Q [] E w y (qG h v a b) ((N,[ay 0,aa 0])::(M,gf k a b c)::dS Q X A h (a_ Q A h.g (AR 17)++L)):=S;have R:oQ h v a b=kJ (kf h v) (aY h.g v) false a (jo h v) b:=by unfold oQ;rw[ao d,ao d2,ao d3]
 refine ab (λd4=>⟨rfl,rfl,?_⟩) (λd4=>?_)
 ·have d4: ¬ kJ (h.s.1,di h.s.2 4 v) (aY h.g v) false a (jo h v) b=0:=by simpa using d4
  have d4:kJ (kf h v) (aY h.g v) false a (jo h v) b≠0:=d4;have f:jS h v a b=bF h ((qG h v a b).1,dI (qG h v a b).2 (jo h v) (aP 0 0)):=by unfold jS;rw[ao d,ao d2,ao d3,ax d4]
  rw[p _ d4 R,f] at kk;exact aj.of _ (S.fL (X:=X) (A:=A) (g:=h.g) (by simp) (n:=1) rfl) (S.F4 (jo h v) λT S=>⟨trivial,S.res (j:=0) rfl 0 _ λr S=>kk r ⟨A,wf _,J S.tail.tail⟩⟩)
 have d4: ¬ kJ (kf h v) (aY h.g v) false a (jo h v) b≠0:=by
  intro e;have:(kJ (kf h v) (aY h.g v) false a (jo h v) b != 0)=true:=by simpa using e
  exact absurd (this.symm.trans d4) (by decide)
 have o:uS h v a b=(jo h v,0):=by
  unfold uS;rw[R,ax (by omega)]
 have f:jS h v a b=bF h (eZ (qG h v a b).1 (jo h v) (λ_=>0) 16,(qG h v a b).2):=by unfold jS;rw[ao d,ao d2,ao d3,ao d4]
 rw[o,f] at kk;have I:0<=jo h v/\jo h v<4096:=I;obtain⟨F,t⟩: ∃F:Nat->List Int,F=λi=>eZ (qG h v a b).1 (jo h v) (λ_=>0) i:=⟨_,rfl⟩;have F0:F 0=(qG h v a b).1:=by rw[t];rfl
 have Fs: ∀i,F (i+1)=dO (F i) (16*jo h v+(i:Int)) 0:=λi=>by rw[t];rfl
 have kk: ∀l,jk Q X D G w0 l (bF h (F 16,(qG h v a b).2)) L->K (jo h v,0,()) l:=by rw[t];exact kk
 clear t;refine⟨λn u w'=> ∃m:Nat,u.1=(m:Int)/\n+m=16/\bq Q [] E w w' (F m,(qG h v a b).2) ((N,[ay 0,aa 0])::(M,gf k a b c)::dS Q X A h (a_ Q A h.g (AR 17)++L)),⟨16,λT h6=>⟨0,rfl,rfl,by rw[F0];exact S.ext h6⟩⟩,?_⟩;clear S g1 O P;rintro n ⟨u,u2⟩ T ⟨m,e,hn,S⟩;dsimp only at e ⊢;subst e;have efr:(fc h.s.2 4 v)=jo h v:=rfl;rw[efr];refine ab (λz=>?_) (λz=>?_)
 ·have U:m<16:=by
   have:(m:Int)<16:=by simpa using z
   omega
  have e5:aI .i64 (iD .i64 16 (jo h v)) (m:Int)=16*jo h v+(m:Int):=by rw[eH (by omega) (by omega),av (by omega) (by omega)]
  rw[e5];refine⟨rfl,rfl,aj.of _ (S.fL (X:=X) (A:=A) (g:=h.g) (by simp) (n:=0) rfl) (S.store _ 0 (by decide) λr S=>λw8 h8=>⟨n - 1,by omega,m+1,by rw[av (by omega) (by omega)];omega,by omega,?_⟩)⟩;rw[Fs];exact S.ext h8
 ·have U:m=16:=by
   have: ¬ (m:Int)<16:=by simpa using z
   omega
  subst U;rw[eJ (by omega)];exact S.res (j:=0) rfl _ 0 λr S=>kk r ⟨A,wf _,J S.tail.tail⟩
end
def dw (h:HS) (v p id f:Int):HS where
 s:=((nq h.s v (aY h.g v) false p).1,dI (nq h.s v (aY h.g v) false p).2 f (ia (-1)))
 g:=bz h.g v.toNat (match h.g v.toNat with|some x=>some {x with tk:=x.tk.filter λt=> !(t.1==p)}|none=>none)
 gr:=eM h.gr id v
 po:=h.po
theorem qv (gs:List GT) (i o:Int):(eM gs i o).length=gs.length:=by
 unfold eM;split
 ·rw[Db]
 ·rfl
theorem Pb {α:Type} {T L:List α} {k:Nat} {x:α} (h:L[k]? =some x):(T++L)[T.length+k]? =some x:=by
 rw[FX (by omega),show T.length+k - T.length=k by omega];exact h
section
variable {Q:Sys} {X:HX} {D G:List Nat} {w0 w:A2} {h:HS} {L:List (Nat×List AC)}
theorem ED {A:Nat->GA} (W:Dm A h) {T:List (Nat×List AC)} (H:SM Q D G w0 w h.s (T++dS Q X A h (a_ Q A h.g (AR 17)++L)) (dj A h.g (AR 17))) {v p id f:Int} (o:aW h.g v=true) (U:ND Q h.s) (V:0<=aY h.g v/\aY h.g v<4096)
 {x:GV} (l:h.g v.toNat=some x) (Y:cg x.tk p=some (id,f)) {K:Unit->A2->Prop} (kk: ∀A' y,(∀i,(A' i).bg=(A i).bg)->Dm A' (dw h v p id f)->SM Q D G w0 y (dw h v p id f).s (T++dS Q X A' (dw h v p id f) (a_ Q A' (dw h v p id f).g (AR 17)++L)) (dj A' (dw h v p id f).g (AR 17))->K () y):
 aB AB 167 (.bG []) [ag (ae X.hb),aa v,aa p] w K:=by
 obtain⟨x',I,qN,hv,vy,sw⟩:=bR o;rw[l] at I;cases I;refine H.go λw1 H=>ai (C:=V0) (aS:=uj) (Ax (RC _ v p w1 K) ?_);obtain⟨G',S,J⟩:=H.call;have mem: ∀{T':List (Nat×List AC)},(X.hb,fg Q X A h.g)∈T'++(T++dS Q X A h (a_ Q A h.g (AR 17)++L)):=λ{T'}=>Az _ (Az _ B1);have z: ∀{T':List (Nat×List AC)}, ∀i v,h.g i=some v-> ∀x∈gP Q A i v,x∈T'++(T++dS Q X A h (a_ Q A h.g (AR 17)++L)):=λ{T'} i v hv x l=>Az _ (bX W T i v hv x l);obtain⟨g1,M,B, _⟩:=S.sT (X:=X) (A:=A) (g:=h.g) (mem (T':=[])) (z (T':=[])) o;obtain⟨r,N,O⟩:=(W.mp l).find p;rw[Y] at O;obtain⟨i,e,hi,Z⟩:=O;have E:bH w1 (A v.toNat).bm ⟨(A v.toNat).es⟩ (A v.toNat).ck:=H.get (fI W _ _ l);refine⟨rfl,rfl,⟨rfl,by omega,by show v<((17:Nat):Int);omega⟩,aj.of _ g1 ⟨rfl,rfl,aj.of _ B ⟨(id,f,()),⟨_, _, _,rfl,E,?_⟩,S.al λb y S=>S.ff 0 rfl rfl rfl λw3 S=>⟨rfl,rfl,?_⟩⟩⟩⟩
 ·rw[N,e]
 obtain⟨_, _,B, _⟩:=S.sT (X:=X) (A:=A) (g:=h.g) (mem (T':=[_])) (z (T':=[_])) o;refine aj.of _ B λw4 h4=>?_;have H:=(J S).ext h4;have E:bH w4 (A v.toNat).bm ⟨(A v.toNat).es⟩ (A v.toNat).ck:=H.get (fI W _ _ l);refine⟨_, _, _,rfl,E,?_⟩;unfold Ag;rw[N,e];dsimp only;have hea:(Nt (⟨(A v.toNat).es⟩:Array B9) i)=⟨(A v.toNat).es.eraseIdx i⟩:=by
  apply Array.ext';rw[Array.toList_eraseIdxIfInBounds]
 rw[hea];have J_:v.toNat<17:=by omega
 have H:=H.Pa J_ l ((A v.toNat).es.eraseIdx i) (A v.toNat).ck (x.tk.filter λt=> !(t.1==p));have q:=Jf (A:=A) l ((A v.toNat).es.eraseIdx i) (A v.toNat).ck (x.tk.filter λt=> !(t.1==p));obtain⟨A',P⟩: ∃A',A'=oP A v.toNat {A v.toNat with es:=(A v.toNat).es.eraseIdx i,ck:=(A v.toNat).ck}:=⟨_,rfl⟩;have F:bz h.g v.toNat (some {x with tk:=x.tk.filter λt=> !(t.1==p)})=(dw h v p id f).g:=by
  show _=bz h.g v.toNat (match h.g v.toNat with|some x=> _|none=>none);rw[l]
 have hmp: ∀{a m},(dw h v p id f).g a=some m->qE (A' a).es (A' a).ck m.tk:=λ{a m} d=>by
  rw[<-F] at d;rw[P];unfold bz at d;unfold oP;by_cases u:a=v.toNat
  ·rw[ax u] at d ⊢;cases d;exact Z
  ·rw[ao u] at d ⊢;exact W.mp d
 have TA: ∀{a m},(dw h v p id f).g a=some m->1<=a/\a<=16:=λ{a m} d=>by
  rw[<-F] at d;unfold bz at d;by_cases u:a=v.toNat
  ·omega
  ·rw[ao u] at d;exact W.jj d
 rw[<-P,F] at H q;obtain⟨G2,S,J2⟩:=H.call;obtain⟨_,M, _,j,hj⟩:=S.sT (X:=X) (A:=A) (g:=h.g) (mem (T':=[_])) (z (T':=[_])) o;refine⟨rfl,rfl,aj.of _ M (S.DQ U j hj V p λw5 S=>⟨rfl,rfl,aj.of _ (S.fL (X:=X) (A:=A) (g:=h.g) (mem (T':=[_])) (n:=1) rfl) ⟨rfl,S.cm 0 rfl rfl (S.aas f (-1) (by decide) λw6 S=>⟨rfl,rfl,aj.of _ (S.fL (X:=X) (A:=A) (g:=h.g) (mem (T':=[_])) (n:=2) rfl) ⟨rfl,S.cm 0 rfl rfl ?_⟩⟩)⟩⟩)⟩;refine S.WZ (T.length+1+1) (T.length+2+1) (Pb (T:= _::T) (k:=1) rfl) (Pb (T:= _::T) (k:=2) rfl) (by rw[W.gl];decide) W.gk.use id v λw7 S=>S.en λR S=>kk A' R q.bg ⟨TA,hmp,(qv _ _ _).trans W.gl,W.pt,W.gk.back _ _⟩ (J2 ?_);have e1:dS Q X A' (dw h v p id f) (a_ Q A' (dw h v p id f).g (AR 17)++L)=(dS Q X A h (a_ Q A h.g (AR 17)++L)).set 2 (X.uB,flat eG (eM h.gr id v)++X.rest):=by
  show(X.hb,fg Q X A' (dw h v p id f).g)::(X.gb,my X.uB (eM h.gr id v).length X.c)::(X.uB,flat eG (eM h.gr id v)++X.rest)::(X.pb,Po.gK 4 h.po)::(a_ Q A' (dw h v p id f).g (AR 17)++L)= _;rw[q.cs,q.rows,qv];rfl
 have S:bq Q [] G2 _ R _ ((T++dS Q X A h (a_ Q A h.g (AR 17)++L)).set (T.length+2) (X.uB,flat eG (eM h.gr id v)++X.rest)):=S.tail;rw[I2 _ _ (by omega),show T.length+2 - T.length=2 by omega, <-e1] at S;exact S
end
def Nk (h:HS) (v p:Int):Int×Int:=match h.g v.toNat with
 |some x=>(cg x.tk p).getD (0,0)
 |none=>(0,0)
def mK (h:HS) (v a:Int):Int:=if a>=65536 then 2 else if ib h v a=true then 0 else 4
def gZ (h:HS) (v a:Int):HS:=if a>=65536 then h else if ib h v a=true then dw h v a (Nk h v a).1 (Nk h v a).2 else h
theorem tD {h:HS} {v p:Int} {x:GV} (a:aW h.g v=true) (b:h.g v.toNat=some x):ib h v p=true<->cg x.tk p=some (Nk h v p):=by
 unfold ib gi Nk;rw[ax a,b];dsimp only;cases cg x.tk p<;>simp
section
variable {Q:Sys} {X:HX} {D G:List Nat} {w0 w:A2} {h:HS} {L:List (Nat×List AC)} {K:RS->A2->Prop}
theorem VE (H:jk Q X D G w0 w h L) {v:Int} (l:aW h.g v=true) (o:ND Q h.s) (p:0<=aY h.g v/\aY h.g v<4096) (k:Int) {a:Int} (b c:Int) (q:0<=a) (kk: ∀m,jk Q X D G w0 m (gZ h v a) L->K (0,mK h v a,()) m):
 aE AB 131 (.el (.agg iS)) [ag (ae X.hb),aa v,.agg ⟨gf k a b c⟩] w K:=by
 obtain⟨A,W,H⟩:=H;obtain⟨y,S,J⟩:=H.call;obtain⟨x,e,z,hv,B,E⟩:=bR l;refine aR (C:=V0) (aS:=λ_=>[]) (Ax (LV _ v k a b c w K) ?_);unfold mK gZ at kk;refine S.al λF m S=>S.al λI M S=>⟨rfl,S.cm 1 rfl rfl ?_⟩;refine ab (λd=>⟨trivial,S.res (j:=0) rfl 0 _ λf S=>?_⟩) (λd=>⟨rfl,S.cm 1 rfl rfl ?_⟩)
 ·rw[ax (by simpa using d),ax (by simpa using d)] at kk;exact kk f ⟨A,W,J S.tail.tail⟩
 have d: ¬ a>=65536:=by simpa using d
 rw[ao d,ao d] at kk;have n:aG .i64 a=a:=bM ⟨q,by omega⟩;rw[n];refine⟨gi h.g v a,pK (J S) (X:=X) (A:=A) (g:=h.g) (by simp) (bX W [_, _]) (fI W) (λi x e=>W.mp e) v a,?_⟩;refine ab (λd2=>⟨trivial,S.res (j:=0) rfl 0 _ λf S=>?_⟩) (λd2=>⟨rfl,S.cm 1 rfl rfl ?_⟩)
 ·have d2: ¬ ib h v a=true:=by
   unfold ib;simpa using d2
  rw[ao d2,ao d2] at kk;exact kk f ⟨A,W,J S.tail.tail⟩
 ·have d2:ib h v a=true:=by
   unfold ib;simpa using d2
  rw[ax d2,ax d2] at kk;rw[n];refine ED W (T:=[_, _]) (J S) l o p e ((tD l e).1 d2) λA' f _ r H=>?_;obtain⟨N,S,t⟩:=H.call;exact S.res (j:=0) rfl 0 0 λu S=>kk u ⟨A',r,t S.tail.tail⟩
end
def mC (t:TK):List TK->List TK
 |[]=>[t]
 |u::l=>if u.1<t.1 then u::mC t l else t::u::l
theorem m7 (t:TK): ∀l,(mC t l).Perm (t::l)
 |[]=>Do _
 |u::l=>by
  rw[mC];split
  ·exact((m7 t l).cons u).trans (.swap _ _ _)
  ·exact Do _
def lO (h:HS) (a:Int):GT:=wY h.gr a
def lK (h:HS) (a:Int):Int×Int×Int×Unit:=fy h.g h.s (lO h a).1 (lO h a).2.1
def wQ (c:Int):Int:=if c=1 then 3 else 1
def ma (h:HS) (v a b c:Int):Int:=
 if b>=65536 then 2 else if a>=16\/c>1 then 1 else if(lT h.gr a).isSome=false then 4
 else if(lO h a).2.2.1≠v\/(c=1/\(lO h a).2.2.2.1=false) then 7 else if(lK h a).2.2.1≠0 then 4 else if ib h (lO h a).1 (lO h a).2.1=true then 7
 else if fN h.gr a v (c==1)≠0 then fN h.gr a v (c==1) else kJ h.s (aY h.g v) false b (lK h a).1 (wQ c)
def im (h:HS) (v a b c:Int):HS where
 s:=((jy h.s v (aY h.g v) false b (lK h a).1 (wQ c)).1,dI (jy h.s v (aY h.g v) false b (lK h a).1 (wQ c)).2 (lK h a).1 (ia 1))
 g:=bz h.g v.toNat (match h.g v.toNat with|some x=>some {x with tk:=mC (b,a,(lK h a).1) x.tk}|none=>none)
 gr:=dZ h.gr a v (c==1)
 po:=h.po
def AP (h:HS) (v a b c:Int):HS:={h with s:=jy h.s v (aY h.g v) false b (lK h a).1 (wQ c),gr:=eM (dZ h.gr a v (c==1)) a v}
def mw (h:HS) (v a b c:Int):Int:=
 if b>=65536 then 2 else if a>=16\/c>1 then 1 else if(lT h.gr a).isSome=false then 4
 else if(lO h a).2.2.1≠v\/(c=1/\(lO h a).2.2.2.1=false) then 7 else if(lK h a).2.2.1≠0 then 4 else if ib h (lO h a).1 (lO h a).2.1=true then 7 else fN h.gr a v (c==1)
def ju (h:HS) (v a b c:Int):HS:=if mw h v a b c≠0 then h else if ma h v a b c=0 then im h v a b c else AP h v a b c
theorem Mb (gs:List GT) (i g:Int) (b:Bool):(dZ gs i g b).length=gs.length:=by
 unfold dZ;split
 ·rw[Db]
 ·rfl
section
variable {Q:Sys} {X:HX} {D G:List Nat} {w0 w:A2} {h:HS} {L:List (Nat×List AC)} {K:RS->A2->Prop}
theorem ZE {A:Nat->GA} (W:Dm A h) {v a b c:Int} {x:GV} (f:h.g v.toNat=some x) (hv:((v.toNat:Nat):Int)=v) (vy:1<=v) (sw:v<=16) (t:cg x.tk b=none) (F:(dZ h.gr a v (c==1)).length=h.gr.length) {h1:HS} (I:h1=yr h (dZ h.gr a v (c==1)))
 {J l M:Nat} {N u la:List AC} (O:u=[ay 0,aa 0]) {m:A2}
 (H:SM Q D G w0 m ((jy h.s v (aY h.g v) false b (lK h a).1 (wQ c)).1,dI (jy h.s v (aY h.g v) false b (lK h a).1 (wQ c)).2 (lK h a).1 (ia 1)) ((J,N)::(l,u)::(M,la)::dS Q X A h1 (a_ Q A h.g (AR 17)++L)) (dj A h.g (AR 17)))
 (kk: ∀i,jk Q X D G w0 i (im h v a b c) L->K (0,0,()) i):
 ∃r es w,some (A v.toNat).bm=some r/\bH m r es w/\gU m r .i64 b (.agg ⟨[aa a,aa (lK h a).1]⟩) es w λi=>
  az i (ae l) [ay 0,aa 0] λi=>au i λw1=>aj w1 none (ae l) (.agg [.int .u64,.int .i64]) λx=>K (x.1,x.2.1,()) w1:=by
 subst O;have P:=H.get (fI W _ _ f);refine⟨_, _, _,rfl,P,?_⟩;obtain⟨r,y,z⟩:=(W.mp f).find b;rw[t] at z;rw[z] at y;unfold gU;have R:=y;rw[R];have T:(⟨(A v.toNat).es⟩:Array B9).push {key:=aa b,val:= .agg ⟨[aa a,aa (lK h a).1]⟩,born:=(A v.toNat).ck}=⟨(A v.toNat).es++[{key:=aa b,val:= .agg ⟨[aa a,aa (lK h a).1]⟩,born:=(A v.toNat).ck}]⟩:=by
  grind
 rw[T];have B:=(W.mp f).push t (m7 (b,a,(lK h a).1) x.tk);have U:v.toNat<17:=by omega
 have V:({key:=(xg (b,a,(lK h a).1)).1,val:=(xg (b,a,(lK h a).1)).2,born:=(A v.toNat).ck}:B9)={key:=aa b,val:= .agg ⟨[aa a,aa (lK h a).1]⟩,born:=(A v.toNat).ck}:=rfl;rw[V] at B;generalize (A v.toNat).es++[{key:=aa b,val:= .agg _,born:=(A v.toNat).ck}]=n at B ⊢;have H:=H.Pa U f n ((A v.toNat).ck+1) (mC (b,a,(lK h a).1) x.tk);have o:=Jf (A:=A) f n ((A v.toNat).ck+1) (mC (b,a,(lK h a).1) x.tk);obtain⟨A',C⟩: ∃A',A'=oP A v.toNat {A v.toNat with es:=n,ck:=(A v.toNat).ck+1}:=⟨_,rfl⟩;have p:bz h.g v.toNat (some {x with tk:=mC (b,a,(lK h a).1) x.tk})=(im h v a b c).g:=by
  show _=bz h.g v.toNat _;rw[f]
 have Y: ∀{d k},(im h v a b c).g d=some k->qE (A' d).es (A' d).ck k.tk:=λ{d k} e=>by
  rw[<-p] at e;rw[C];unfold bz at e;unfold oP;by_cases q:d=v.toNat
  grind
  ·rw[ao q] at e ⊢;exact W.mp e
 have Z: ∀{d k},(im h v a b c).g d=some k->1<=d/\d<=16:=λ{d k} e=>by
  rw[<-p] at e;unfold bz at e;by_cases q:d=v.toNat
  ·omega
  ·rw[ao q] at e;exact W.jj e
 rw[<-C,p] at H o;obtain⟨G2,S,J2⟩:=H.call;refine S.res (j:=1) rfl 0 0 λE S=>kk E ⟨A',⟨Z,Y,F.trans W.gl,W.pt,W.gk.take _ _ _⟩,J2 ?_⟩;have S:=S.tail.tail.tail;rw[I] at S;show bq Q [] G2 _ E _ ((X.hb,fg Q X A' _)::(X.gb,my X.uB _ X.c)::(X.uB,flat eG _++X.rest)::(X.pb,Po.gK 4 h.po)::(a_ Q A' _ _++L));rw[o.cs,o.rows];exact S
theorem Jg {A:Nat->GA} (W:Dm A h) {v a b c:Int} {x:GV} (f:h.g v.toNat=some x) (hv:((v.toNat:Nat):Int)=v) (I:1<=v) (M:v<=16) (u:aW h.g v=true)
 (N: ∀x,h.g v.toNat=some x->kJ h.s (aY h.g v) false b (lK h a).1 (wQ c)=0->cg x.tk b=none)
 (w:(dZ h.gr a v (c==1)).length=h.gr.length) {h1:HS} (k:h1=yr h (dZ h.gr a v (c==1))) (l:Dm A h1)
 {O e P:Nat} {R la:List AC} {m B:A2} {o:List Nat}
 (J: ∀{d:A2} {s':WD} {L':List (Nat×List AC)},bq Q [] o m d s' L'->SM Q D G w0 d s' L' (dj A h.g (AR 17)))
 (S:bq Q [] o m B h.s ((O,R)::(e,[ay 0,aa 0])::(P,la)::dS Q X A h1 (a_ Q A h.g (AR 17)++L)))
 (C:ma h v a b c=kJ h.s (aY h.g v) false b (lK h a).1 (wQ c)) (hS0:ju h v a b c=if ma h v a b c=0 then im h v a b c else AP h v a b c)
 (kk: ∀d,jk Q X D G w0 d (ju h v a b c) L->K (0,ma h v a b c,()) d):
 aB AB 173 (.el (.one (.int .i64))) [ag (some ⟨(A v.toNat).bt,0,none⟩),aa b,aa (lK h a).1,aa (wQ c)] B λ(y:Int) (d:A2)=>
  aJ (y != 0)
   ((some (⟨X.hb,0,none⟩:Ab)).isSome=true/\(some (⟨X.hb,0,none⟩:Ab)).isSome=true/\
    aj d none (ad (ae X.hb) 2) (.one .ptr) λ(z:Option Ab)=>
     aB AB 182 (.el (.one (.int .i64))) [ag z,aa a,aa v] d λ(_:Int) (d:A2)=>
      True/\az d (ae e) [ay 0,aa y] λ(d:A2)=>au d λ(w1:A2)=>aj w1 none (ae e) (.agg [.int .u64,.int .i64]) λ(x:Int×Int×Unit)=>K (x.1,x.2.1,()) w1)
   ((some (⟨X.hb,0,none⟩:Ab)).isSome=true/\(some (⟨X.hb,0,none⟩:Ab)).isSome=true/\
    aj d none (ad (ae X.hb) 1) (.one .ptr) λ(z:Option Ab)=>
     aB AB 183 (.el (.one (.int .i64))) [ag z,aa (lK h a).1,aa 1] d λ(_:Int) (d:A2)=>
      (some (⟨X.hb,0,none⟩:Ab)).isSome=true/\(some (⟨X.hb,0,none⟩:Ab)).isSome=true/\((ad (ae X.hb) 4).isSome=true/\0<=v/\v<((17:Nat):Int))/\
       aj d none (ad (ad (ae X.hb) 4) (v.toNat*1)) (.one .ptr) λ(p:Option Ab)=>
        p.isSome=true/\p.isSome=true/\
         aj d none (ad p 1) (.one .map) λ(U:Option Nat)=>
          ∀(w1:A2),Ext d w1-> ∃(r:Nat), ∃(es:Array B9), ∃(E:Nat),U=some r/\bH w1 r es E/\
           gU w1 r .i64 b (.agg ⟨[aa a,aa (lK h a).1]⟩) es E λ(d:A2)=>
            az d (ae e) [ay 0,aa 0] λ(d:A2)=>au d λ(w1:A2)=>aj w1 none (ae e) (.agg [.int .u64,.int .i64]) λ(x:Int×Int×Unit)=>K (x.1,x.2.1,()) w1):=by
 have mem: ∀{T},(X.hb,fg Q X A h.g)∈T++dS Q X A h1 (a_ Q A h.g (AR 17)++L):=λ{T}=>Az T (by rw[k];exact B1);have F:=λ{T} i v hv x f=>by
  have H:h1.g=h.g:=by rw[k];rfl
  have:=bX (Q:=Q) (X:=X) (L:=L) l T i v (by rw[H];exact hv) x f;rw[H] at this;exact this
 obtain⟨_, _, _,j,V⟩:=S.sT (X:=X) (A:=A) (g:=h.g) (mem (T:=[_, _, _])) (F (T:=[_, _, _])) u;refine S.map j V b (lK h a).1 (wQ c) λw8 S=>?_;refine ab (λd8=>?_) (λd8=>?_)
 ·have d8:kJ h.s (aY h.g v) false b (lK h a).1 (wQ c)≠0:=by
   grind
  have q:ju h v a b c=AP h v a b c:=by grind
  refine⟨rfl,rfl,aj.of _ (S.fL (X:=X) (A:=A) (g:=h.g) (mem (T:=[_, _, _])) (n:=2) rfl) (S.WZ 4 5 rfl rfl (by rw[l.gl];decide) l.gk.use a v λY S=>⟨trivial,S.res (j:=1) rfl 0 _ λt S=>?_⟩)⟩;rw[C,q] at kk;refine kk t ⟨A,⟨W.jj,W.mp,(qv _ _ _).trans (w.trans W.gl),W.pt,(W.gk.take _ _ _).back _ _⟩,J ?_⟩;have S:=S.tail.tail.tail;rw[k] at S;show bq Q [] o m t _ ((X.hb,fg Q X A h.g)::(X.gb,my X.uB (eM _ a v).length X.c):: _);rw[qv];exact S
 ·have d8:kJ h.s (aY h.g v) false b (lK h a).1 (wQ c)=0:=by
   grind
  have q:ju h v a b c=im h v a b c:=by grind
  refine⟨rfl,rfl,aj.of _ (S.fL (X:=X) (A:=A) (g:=h.g) (mem (T:=[_, _, _])) (n:=1) rfl) (S.aas (lK h a).1 1 (by decide) λY S=>⟨rfl,rfl,⟨rfl,by omega⟩,?_⟩)⟩;rw[C,q,d8] at kk;have Z:=N x f d8;obtain⟨g1, _,g3, _⟩:=S.sT (X:=X) (A:=A) (g:=h.g) (mem (T:=[_, _, _])) (F (T:=[_, _, _])) u;refine aj.of _ g1 ⟨rfl,rfl,aj.of _ g3 λt Ib=>?_⟩;exact ZE W f hv I M Z w k rfl ((J S).ext Ib) kk
theorem VF (H:jk Q X D G w0 w h L) {v:Int} (r:aW h.g v=true) (k:Int) {a b c:Int} (Y:0<=a) (hb:0<=b) (hc:0<=c) (F: ∀x,h.g v.toNat=some x->kJ h.s (aY h.g v) false b (lK h a).1 (wQ c)=0->cg x.tk b=none)
 (kk: ∀m,jk Q X D G w0 m (ju h v a b c) L->K (0,ma h v a b c,()) m):
 aE AB 130 (.el (.agg iS)) [ag (ae X.hb),aa v,.agg ⟨gf k a b c⟩] w K:=by
 obtain⟨A,W,H⟩:=H;obtain⟨I,S,J⟩:=H.call;obtain⟨x,q,qN,hv,M,N⟩:=bR r;refine aR (C:=V0) (aS:=λ_=>[]) (Ax (LU _ v k a b c w K) ?_);have p: ∀e,e≠0->mw h v a b c=e->ma h v a b c=e-> ∀{m},jk Q X D G w0 m h L->K (0,e,()) m:=λe Z h1 h2 m H=>by
  have y:ju h v a b c=h:=ax (by rw[h1];exact Z);rw[h2,y] at kk;exact kk m H
 have l:mw h v a b c=if b>=65536 then 2 else if a>=16\/c>1 then 1 else if(lT h.gr a).isSome=false then 4
  else if(lO h a).2.2.1≠v\/(c=1/\(lO h a).2.2.2.1=false) then 7 else if(lK h a).2.2.1≠0 then 4 else if ib h (lO h a).1 (lO h a).2.1=true then 7 else fN h.gr a v (c==1):=rfl
 have f:ma h v a b c=if b>=65536 then 2 else if a>=16\/c>1 then 1 else if(lT h.gr a).isSome=false then 4
  else if(lO h a).2.2.1≠v\/(c=1/\(lO h a).2.2.2.1=false) then 7 else if(lK h a).2.2.1≠0 then 4 else if ib h (lO h a).1 (lO h a).2.1=true then 7
  else if fN h.gr a v (c==1)≠0 then fN h.gr a v (c==1) else kJ h.s (aY h.g v) false b (lK h a).1 (wQ c):=rfl
 refine S.al λba m S=>S.al λb1 w3 S=>⟨rfl,S.cm 1 rfl rfl ?_⟩;refine ab (λd=>⟨trivial,S.res (j:=0) rfl 0 _ λO S=>?_⟩) (λd=>⟨rfl,S.cm 1 rfl rfl ⟨λ_=>rfl,S.cm 1 rfl rfl ?_⟩⟩)
 ·have d:b>=65536:=by simpa using d
  rw[ax d] at l f;exact p 2 (by decide) l f ⟨A,W,J S.tail.tail⟩
 have d: ¬ b>=65536:=by simpa using d
 rw[ao d] at l f;refine ab (λd1=>⟨trivial,S.res (j:=0) rfl 0 _ λO S=>?_⟩) (λd1=>⟨rfl,S.cm 1 rfl rfl ⟨rfl,S.cm 1 rfl rfl ⟨rfl,S.cm 1 rfl rfl ⟨rfl,rfl,?_⟩⟩⟩⟩)
 ·have d1:a>=16\/c>1:=by simpa using d1
  rw[ax d1] at l f;exact p 1 (by decide) l f ⟨A,W,J S.tail.tail⟩
 have d1: ¬ (a>=16\/c>1):=by
  grind
 rw[ao d1] at l f;have ea:aG .i64 a=a:=bM ⟨Y,by omega⟩;have eb:aG .i64 b=b:=bM ⟨hb,by omega⟩;rw[ea,eb];refine aj.of _ (S.fL (X:=X) (A:=A) (g:=h.g) (by simp) (n:=2) rfl) ⟨(wY h.gr a,(lT h.gr a).isSome,()),S.aat 3 4 rfl rfl (by rw[W.gl];decide) a,S.al λb2 O S=>S.ff 0 rfl rfl rfl λw5 S=>?_⟩;refine ab (λd2=>⟨trivial,S.res (j:=1) rfl 0 _ λP S=>?_⟩) (λd2=>⟨rfl,S.cm 0 rfl rfl ⟨λ_=>rfl,S.cm 0 rfl rfl ?_⟩⟩)
 ·have d2:(lT h.gr a).isSome=false:=by simpa using d2
  rw[ax d2] at l f;exact p 4 (by decide) l f ⟨A,W,J S.tail.tail.tail⟩
 have d2: ¬ (lT h.gr a).isSome=false:=by
  have d2:(!(lT h.gr a).isSome)=false:=d2;intro e;rw[e] at d2;cases d2
 rw[ao d2] at l f;refine ab (λd3=>⟨trivial,S.res (j:=1) rfl 0 _ λP S=>?_⟩) (λd3=>⟨rfl,S.cm 0 rfl rfl ⟨rfl,S.cm 0 rfl rfl ?_⟩⟩)
 ·have d3:=by
   have d3:((lO h a).2.2.1 != v||c==1&& !(lO h a).2.2.2.1)=true:=d3;simpa using d3
  rw[ax d3] at l f;exact p 7 (by decide) l f ⟨A,W,J S.tail.tail.tail⟩
 have d3: ¬ ((lO h a).2.2.1≠v\/(c=1/\(lO h a).2.2.2.1=false)):=by
  grind[lO]
 rw[ao d3] at l f;refine vg S (X:=X) (A:=A) (g:=h.g) (by simp) (bX W [_, _, _]) (lO h a).1 (lO h a).2.1 λP S=>?_;refine ab (λd4=>⟨trivial,S.res (j:=1) rfl 0 _ λt S=>?_⟩) (λd4=>⟨rfl,S.cm 0 rfl rfl ⟨rfl,S.cm 0 rfl rfl ?_⟩⟩)
 ·have d4:(lK h a).2.2.1≠0:=by
   have d4:((lK h a).2.2.1 != 0)=true:=d4;simpa using d4
  rw[ax d4] at l f;exact p 4 (by decide) l f ⟨A,W,J S.tail.tail.tail⟩
 have d4: ¬ (lK h a).2.2.1≠0:=by
  grind[lK]
 rw[ao d4] at l f;refine⟨gi h.g (lO h a).1 (lO h a).2.1,pK (J S) (X:=X) (A:=A) (g:=h.g) (by simp) (bX W [_, _, _]) (fI W) (λi x q=>W.mp q) _ _,?_⟩;refine ab (λd5=>⟨trivial,S.res (j:=1) rfl 0 _ λt S=>?_⟩) (λd5=>⟨rfl,rfl,?_⟩)
 ·have d5:ib h (lO h a).1 (lO h a).2.1=true:=d5;rw[ax d5] at l f;exact p 7 (by decide) l f ⟨A,W,J S.tail.tail.tail⟩
 have d5: ¬ ib h (lO h a).1 (lO h a).2.1=true:=by
  have d5:ib h (lO h a).1 (lO h a).2.1=false:=d5;rw[d5];decide
 rw[ao d5] at l f;refine aj.of _ (S.fL (X:=X) (A:=A) (g:=h.g) (by simp) (n:=2) rfl) (S.abh 4 5 rfl rfl (by rw[W.gl];decide) W.gk.use a v (c==1) λt S=>?_);have u:(dZ h.gr a v (c==1)).length=h.gr.length:=Mb _ _ _ _;obtain⟨h1,o⟩: ∃h1,h1=yr h (dZ h.gr a v (c==1)):=⟨_,rfl⟩;have R:h1.g=h.g:=by rw[o];rfl
 have BO:h1.s=h.s:=by rw[o];rfl
 have z:Dm A h1:=by rw[o];exact⟨W.jj,W.mp,u.trans W.gl,W.pt,W.gk.take _ _ _⟩
 have S:bq Q [] I w t h.s ((b2,[aa (lO h a).1,aa (lO h a).2.1,aa (lO h a).2.2.1,.bool (lO h a).2.2.2.1,aa (lO h a).2.2.2.2.1])::(b1,[ay 0,aa 0])::(ba,gf k a b c)::dS Q X A h1 (a_ Q A h.g (AR 17)++L)):=by
  rw[o];show bq Q [] I w t h.s (_:: _:: _::(X.hb,fg Q X A h.g)::(X.gb,my X.uB (dZ h.gr a v (c==1)).length X.c):: _);rw[u];exact S
 refine ab (λd6=>⟨trivial,S.res (j:=1) rfl 0 _ λw8 S=>?_⟩) (λd6=>?_)
 ·have d6:fN h.gr a v (c==1)≠0:=by simpa using d6
  rw[ax d6] at f;have e1:dZ h.gr a v (c==1)=h.gr:=ao d6;have y:h1=h:=by rw[o,e1];rfl
  rw[y] at S;exact p _ d6 l f ⟨A,W,J S.tail.tail.tail⟩
 have d6: ¬ fN h.gr a v (c==1)≠0:=by
  grind
 rw[ao d6] at f;have U:ju h v a b c=if ma h v a b c=0 then im h v a b c else AP h v a b c:=ao (by rw[l];exact d6);have mem: ∀{T:List (Nat×List AC)},(X.hb,fg Q X A h.g)∈T++dS Q X A h1 (a_ Q A h.g (AR 17)++L):=λ{T}=>Az T (by rw[o];exact B1);have V:=λ{T} i v hv x q=>by
  have:=bX (Q:=Q) (X:=X) (L:=L) z T i v (by rw[R];exact hv) x q;rw[R] at this;exact this
 have hq:=EC h.g h.s (lO h a).1 (lO h a).2.1;refine ab (λd7=>⟨rfl,rfl,⟨rfl,by omega,by show v<((17:Nat):Int);omega⟩,?_⟩) (λd7=>⟨rfl,rfl,⟨rfl,by omega,by show v<((17:Nat):Int);omega⟩,?_⟩)
 ·have B:(ZX .i64 1 2)=wQ c:=by
   unfold wQ;rw[ax (by simpa using d7)];decide
  obtain⟨g1,E,g3,j,hj⟩:=S.sT (X:=X) (A:=A) (g:=h.g) (mem (T:=[_, _, _])) (V (T:=[_, _, _])) r;refine aj.of _ g1 ⟨rfl,rfl,aj.of _ E ?_⟩;have T:=Jg W q hv M N r F u o z J S f U kk;rw[<-B] at T;exact T
 ·have B:(1:Int)=wQ c:=by
   unfold wQ;rw[ao (by simpa using d7)]
  obtain⟨g1,E,g3,j,hj⟩:=S.sT (X:=X) (A:=A) (g:=h.g) (mem (T:=[_, _, _])) (V (T:=[_, _, _])) r;refine aj.of _ g1 ⟨rfl,rfl,aj.of _ E ?_⟩;have T:=Jg W q hv M N r F u o z J S f U kk;rw[<-B] at T;exact T
end
def Ao (l:List Int):Int:=l.foldl (λm x=>kF m x) 65536
theorem xI (a b:Int):kF a b<=a/\kF a b<=b/\(kF a b=a\/kF a b=b):=by
 unfold kF;split<;>omega
theorem zd: ∀(l:List Int) (m:Int),l.foldl (λm x=>kF m x) m<=m/\(∀x∈l,l.foldl (λm x=>kF m x) m<=x)/\(l.foldl (λm x=>kF m x) m=m\/l.foldl (λm x=>kF m x) m∈l)
 |[],m=>⟨H4 _,λx b=>(by cases b),.inl rfl⟩
 |y::l,m=>by
  obtain⟨h1,c,a⟩:=zd l (kF m y);obtain⟨d,e,f⟩:=xI m y;rw[HB];refine⟨Int.le_trans h1 d,λx b=>?_,?_⟩
  ·rcases E4.1 b with rfl|b
   ·exact Int.le_trans h1 e
   ·exact c x b
  ·rcases a with a|a
   ·rcases f with k|k
    ·exact .inl (a.trans k)
    ·exact .inr (E4.2 (.inl (a.trans k)))
   ·exact .inr (B2 _ a)
theorem Me {l:List Int} {m:Int} (h1:m<=65536) (c: ∀x∈l,m<=x) (b:m=65536\/m∈l):m=Ao l:=by
 obtain⟨e,d,a⟩:=zd l 65536;unfold Ao;rcases b with b|b
 ·rcases a with a|a
  ·omega
  ·have:=c _ a;omega
 ·have:=d _ b;rcases a with a|a
  ·omega
  ·have:=c _ a;omega
theorem By {es:List B9} {e:B9} (he:e∈es) (seen:Array Nat) (a:seen.contains e.born=false):
 (es.filter λx=> !(seen.push e.born).contains x.born).length<(es.filter λx=> !seen.contains x.born).length:=by
 induction es with
 |nil=>cases he
 |cons y es b=>
  have mono: ∀l:List B9,(l.filter λx=> !(seen.push e.born).contains x.born).length<=(l.filter λx=> !seen.contains x.born).length:=λl=>by
   rw[<-N2, <-N2];refine List.countP_mono_left λx _ c=>?_;simp only[JJ,Nq,Ds] at c ⊢
   simp_all
  rcases E4.1 he with rfl|he
  ·rw[LL (by simp),List.filter_cons_of_pos (by simpa using a)];have:=mono es;simp only[DY];omega
  ·have:=b he;rw[N4,N4];by_cases h1:(!(seen.push e.born).contains y.born)=true
   ·have d:(!seen.contains y.born)=true:=by
     simp only[JJ,Nq,Ds] at h1 ⊢
     simp_all
    rw[ax h1,ax d];simp only[DY];omega
   ·rw[ao h1];split
    ·simp only[DY];omega
    ·exact this
section
variable {Q:Sys} {X:HX} {D G:List Nat} {w0 w:A2} {s:WD} {L0:List (Nat×List AC)} {M:List (Nat×Bs)} {es:List B9} {ck bm bg:Nat} {pt:Option Ab} {tk:List TK}
theorem Mf (H:SM Q D G w0 w s L0 M) (N:(bg,[ag pt,.map (some bm)])∈L0) (v:(bm,Obj.map ⟨es⟩ ck)∈M) (O:qE es ck tk) {K:Int->A2->Prop} (kk: ∀d,SM Q D G w0 d s L0 M->K (Ao (tk.map (·.1))) d):
 aB AB 168 (.el (.one (.int .i64))) [ag (ae bg)] w K:=by
 obtain⟨⟨p,A,B⟩,E,P, _⟩:=O;have R: ∀e∈es, ∃t∈tk,e.key=aa t.1:=λe a=>by
  have:(e.key,e.val)∈p.map xg:=by rw[<-B];exact B3.2 ⟨e,a,rfl⟩
  obtain⟨t,c,y⟩:=B3.1 this;exact⟨t,A.mem_iff.1 c,(congrArg (·.1) y).symm⟩
 have S: ∀t∈tk, ∃e∈es,e.key=aa t.1:=λt c=>by
  have:xg t∈es.map λe=>(e.key,e.val):=by rw[B];exact B3.2 ⟨t,A.mem_iff.2 c,rfl⟩
  obtain⟨e,a,y⟩:=B3.1 this;exact⟨e,a,congrArg (·.1) y⟩
 refine H.go λw1 H=>ai (C:=V0) (aS:=rk) (Ax (LP _ w1 K) ?_);obtain⟨j,f⟩:=B5 N;refine⟨rfl,rfl,H.base.cm j f rfl λd g=>?_⟩;have H:=H.ext g;have T:bH d bm ⟨es⟩ ck:=H.get v;refine⟨_, _, _,rfl,T,?_⟩;have H:=H.alloc (o:= .mapIter (some bm) ck #[] ck) trivial;obtain⟨b,hb⟩: ∃b,b=d.heap.size:=⟨_,rfl⟩;rw[<-hb] at H ⊢;refine⟨λn q w'=> ∃seen:Array Nat,SM Q D G w0 w' s L0 ((b,.mapIter (some bm) ck seen ck)::M)/\n=(es.filter λx=> !seen.contains x.born).length/\q.1<=65536/\(∀e∈es, ∀x,e.key=aa x->seen.contains e.born=true->q.1<=x)/\(q.1=65536\/q.1∈tk.map (·.1)),⟨_,λU k=>⟨#[],H.ext k,rfl,H4 _,λe _ x _ l=>(by simp at l),.inl rfl⟩⟩,?_⟩;clear H;rintro n ⟨q,u⟩ U ⟨seen,H,V,h1,g,k⟩;dsimp only at h1 g k ⊢;intro w4 W;have H:=H.ext W;refine⟨b,bm,ck,seen,ck,⟨es⟩,ck,rfl,H.get B1,H.get (B2 _ v),Dt _,P,λl X z=>?_,λe a l X z=>?_⟩
 ·refine(H.ext z).en λF H=>?_;have m:q=Ao (tk.map (·.1)):=Me h1 (λx r=>by
   obtain⟨t,c,rfl⟩:=B3.1 r;obtain⟨e,I,Y⟩:=S t c;exact g e I _ Y (l e I)) k
  rw[m];exact kk F (H.FR (BN _ _))
 ·have a:e∈es:=a;obtain⟨t,c,J⟩:=R e a;have H:=(H.ext z).put (i:=0) rfl (o':= .mapIter (some bm) ck (seen.push e.born) ck) trivial;refine⟨t.1,e.val,⟨b,bm,ck,seen,⟨es⟩,ck,e,rfl,H.get B1,H.get (B2 _ v),a,E,J.symm,rfl⟩,λF Z=>?_⟩;refine⟨_,?_,seen.push e.born,H.ext Z,rfl,?_,?_,?_⟩
  ·rw[V];exact By a seen l
  ·have:=xI q t.1;omega
  ·intro e' L x r fh;have hmi:=xI q t.1;by_cases h:seen.contains e'.born=true
   ·have:=g e' L x r h;show kF q t.1<=x;omega
   ·have si:e'.born=e.born:=by
     rw[JJ] at fh
     simp_all
    have ace:e'=e:=by
     obtain⟨i,hi⟩:=B5 L;obtain⟨j,f⟩:=B5 a;have z4:(es.map (·.born))[i]? =some e.born:=by rw[Bx,hi];exact congrArg some si
     have xj:(es.map (·.born))[j]? =some e.born:=by rw[Bx,f];rfl
     have:=(FS (by rw[B_];exact(C8.1 hi).1) E).1 (z4.trans xj.symm);subst this;rw[hi] at f;cases f;rfl
    subst ace;rw[J] at r;cases r;show kF q t.1<=t.1;exact hmi.2.1
  ·rcases(xI q t.1).2.2 with m|m
   ·show kF q t.1=65536\/ _;rw[m];exact k
   ·show kF q t.1=65536\/kF q t.1∈ _;rw[m];exact .inr (B3.2 ⟨t,c,rfl⟩)
end
end Go.Proofs.YtlcenllcmeebhaaGreat
namespace Go.Proofs.YtlcenllcmeebhaaGreat.Mu
set_option maxRecDepth 100000
open Go.RX
section
variable {D G:List Nat} {w0 w:A2} {L Ls:List (Nat×List AC)} {M:List (Nat×Bs)} {es:List B9} {mb ck:Nat} {wl:List (Int×Int)}
theorem Bz (H:cC D G w0 w L ((mb,.map ⟨es⟩ ck)::M)) (hv:iE es ck (wl.map FD)) (hl:(wl.length:Int)<=1000000) {is:Int->Bool} {Q:Int->A2->Bool->Prop}
 (Z: ∀{w' d Mr},cC D G w0 w' (d++L) Mr-> ∀e∈wl,Q e.2 w' (is e.2)) {K:Option Ab×Nat×Nat->A2->Prop}
 (k: ∀r R d c,R.Pairwise (· <= ·)->R.Perm ((wl.filter λe=>is e.2).map (·.1))->dy eI r R d->cC D G w0 c (d++L) ((mb,.map ⟨es⟩ ck)::M)->K r c):
 RgP w (some mb) λb c=> ∃I:Nat->(Option Ab×Nat×Nat)×Unit->A2->Prop,(∃n, ∀w1,Ext c w1->I n ((none,0,0),()) w1)/\ ∀(n:Nat) (s:(Option Ab×Nat×Nat)×Unit) (w1:A2),I n s w1->
  NxP w1 (ae b) (λc=>au c λw1=>K (s.1.1,s.1.2.1,s.1.2.2) w1) λ_ _ c=> ∃x y:Int,Ah c (ae b) (aa x) (aa y)/\ ∃O:Bool,Q y c O/\
   aJ (!O) (∀g,Ext c g-> ∃h,h<n/\I h ((s.1.1,s.1.2.1,s.1.2.2),()) g)
    (aL c ⟨[aa x]⟩ 3 λb c=> ∀w1,Ext c w1->nb w1 3 1 8 ⟨[aa 0]⟩ (s.1.1,s.1.2.1,s.1.2.2) (some ⟨b,0,none⟩,1,1) λr c=>
     ∃z:Nat->Int×Unit->A2->Prop,(∃n, ∀w1,Ext c w1->z n (((s.1.2.1:Nat):Int),()) w1)/\ ∀(P:Nat) (s:Int×Unit) (w1:A2),z P s w1->
      (decide (s.1>0)=true->r.1.isSome=true/\0<=aZ .i64 s.1 1/\aZ .i64 s.1 1<((r.2.1:Nat):Int))/\aj w1 (some (decide (s.1>0))) (ad r.1 ((aZ .i64 s.1 1).toNat*1)) eI λ(aO:Int)=>
       aJ (decide (s.1>0)&&decide (aO>x)) ((r.1.isSome=true/\0<=aZ .i64 s.1 1/\aZ .i64 s.1 1<((r.2.1:Nat):Int))/\aj w1 none (ad r.1 ((aZ .i64 s.1 1).toNat*1)) eI λ(y:Int)=>
        (r.1.isSome=true/\0<=s.1/\s.1<((r.2.1:Nat):Int))/\az w1 (ad r.1 (Int.toNat s.1*1)) [aa y] λc=> ∀g,Ext c g-> ∃h,h<P/\z h (aZ .i64 s.1 1,()) g)
        ((r.1.isSome=true/\0<=s.1/\s.1<((r.2.1:Nat):Int))/\az w1 (ad r.1 (Int.toNat s.1*1)) [aa x] λc=> ∀g,Ext c g-> ∃h,h<n/\I h ((r.1,r.2.1,r.2.2),()) g)):=by
 obtain⟨XO,he2⟩:=hv.ab2;have S:=hv.2.1;have hck:=hv.2.2.1;have hlen:es.length=wl.length:=by
  obtain⟨⟨p,A,B⟩, _⟩:=hv;have C:=congrArg FG B;have E:=A.length_eq;simp only[B_] at C E;omega
 intro w1 h1;have H:=H.ext h1;refine⟨mb,⟨es⟩,ck,rfl,H.get (i:=0) rfl,?_⟩;have H:=H.alloc (o:= .mapIter (some mb) ck #[] ck) trivial;obtain⟨b,hb⟩: ∃b,b=w1.heap.size:=⟨_,rfl⟩;rw[<-hb] at H ⊢;refine⟨λn q w'=> ∃(seen:Array Nat) (d:List (Nat×List AC)) (R:List Int),cC D G w0 w' (d++L) ((b,.mapIter (some mb) ck seen ck)::(mb,.map ⟨es⟩ ck)::M)/\n=(es.filter λx=> !seen.contains x.born).length/\dy eI q.1 R d/\R.Pairwise (· <= ·)/\
  R.Perm ((es.filter λx=>seen.contains x.born&&is (kI x.val)).map λx=>kI x.key),⟨_,λg h3=>⟨#[],[],[],H.ext h3,rfl,dy.nil eI,List.Pairwise.nil,?_⟩⟩,?_⟩
 ·simp_all
 clear H;rintro n ⟨q,u⟩ g ⟨seen,d,R,H,hn,m,F,J⟩;dsimp only at m ⊢;have hRl:R.length<=es.length:=by
  rw[J.length_eq,B_];exact N5 _ _
 intro w4 h4;have H:=H.ext h4;refine⟨b,mb,ck,seen,ck,⟨es⟩,ck,rfl,H.get (i:=0) rfl,H.get (i:=1) rfl,Dt _,hck,λmA w5 N j v=>?_,λe l T w5 N=>?_⟩
 ·refine k q R d j F (J.trans ?_) m (((H.ext N).ext v).FR (BN _ _));have C:(es.filter λx=>seen.contains x.born&&is (kI x.val))=es.filter λx=>is (kI x.val):=IR λx hx=>by rw[mA x hx,H5]
  rw[C];obtain⟨⟨p,A,B⟩, _⟩:=hv;have E:(es.filter λx=>is (kI x.val)).map (λx=>kI x.key)=((es.map λe=>(e.key,e.val)).filter λt=>is (kI t.2)).map λt=>kI t.1:=by
   rw[Fw,Fy];rfl
  have e3:((p.map kvE).filter λt=>is (kI t.2)).map (λt=>kI t.1)=(p.filter λt=>is (kI t.2)).map (·.1):=by
   rw[Fw,Fy];rfl
  have e4:(((wl.map FD).filter λt=>is (kI t.2)).map (·.1):List Int)=(wl.filter λe=>is e.2).map (·.1):=by
   rw[Fw,Fy];rfl
  rw[E,B,e3, <-e4];exact(A.filter _).map _
 ·have l:e∈es:=l;obtain⟨t,ht,U,V⟩:=XO e l;obtain⟨a,ha,rfl⟩:=B3.1 ht;have H:=(H.ext N).put (i:=0) rfl (o':= .mapIter (some mb) ck (seen.push e.born) ck) trivial;have W:(es.filter λx=> !(seen.push e.born).contains x.born).length<n:=by rw[hn];exact By l seen T
  have Wj:=A5 (f:=λx=>is (kI x.val)) T S l;have hke:kI e.key=a.1:=by rw[U];rfl
  have hve:kI e.val=a.2:=by rw[V];rfl
  refine⟨a.1,a.2,⟨b,mb,ck,seen,⟨es⟩,ck,e,rfl,H.get (i:=0) rfl,H.get (i:=1) rfl,l,S,U.symm,V.symm⟩,is a.2,Z H a ha,?_⟩;cases hi:is a.2 with
  |false=>
   refine aD rfl λj v=>⟨_,W,seen.push e.born,d,R,H.ext v,rfl,m,F,?_⟩
   grind
  |true=>
   rw[hve,hi,ax rfl] at Wj;refine an rfl λj v w7 h7=>?_;have X:=by
    have Y:=H.ext v;have K6:=Y.join (L':=(j.heap.size,[aa a.1])::(d++L)) (w1:=j.alloc (.cells ⟨[aa a.1]⟩ 3)) (Y.base.again.alloc _ _);exact(K6.perm B4).ext h7
   refine Fz X m rfl (q:=(some ⟨j.heap.size,0,none⟩,1,1)) (ys:=[a.1]) rfl (rN (e:=eI) (x:=a.1) (X.base.cZ _ (Az _ B1))) rfl rfl (by simp only[If];omega) λr cA w8 fh H8=>?_;refine P5 H8 fh F (by omega) (by rw[m.1]) λWi R' w9 hR' Tu Tr H9=>⟨_,W,seen.push e.born,Wi,R',H9.sub (by grind),rfl,Tr,hR',?_⟩;refine(Tu.trans (DM _ J)).trans ?_
   grind
theorem Mg (H:cC D G w0 w L ((mb,.map ⟨es⟩ ck)::M)) (hv:iE es ck (wl.map FD)) (d:(wl.length:Int)<=1000000) {now:Int} {s:Option Ab×Nat×Nat} {c eb:Nat} (hc:(c,[ag (ae eb)])∈L) (f:(eb,oJ now s mb)∈L) (g: ∀e∈wl,0<=e.2/\e.2<=now) (n:now<4611686018427387904)
 {K:Option Ab×Nat×Nat->A2->Prop} (k: ∀r R a b,R.Pairwise (· <= ·)->R.Perm ((wl.filter λe=>decide (e.2+2<=now)).map (·.1))->dy eI r R a->cC D G w0 b (a++L) ((mb,.map ⟨es⟩ ck)::M)->K r b):
 aB AB 115 (.el (.one .slice)) [.map (some mb),.func (.func 236) #[] #[ag (ae c)]] w K:=by
 refine λw1 h1=>ai (C:=U1) (aS:=qU) (Ax (Kq _ _ w1 K) ?_);refine Bz (H.ext h1) hv d (is:=λy=>decide (y+2<=now)) (λ{w' a o} H e h=>?_) k;refine af.of λb i=>ai (C:=U0) (aS:=λ_=>[]) (Ax (Ko _ _ b _) ?_);have H:=(H.ext i).base;have hb:=g e h;obtain⟨j,l⟩:=B5 (Az a hc);refine aj.at j H l (rfl) ⟨rfl,rfl,aj.k9 H (Az a f) (rfl) λp m=>⟨?_,m⟩⟩;rw[av (by omega) (by omega)]
theorem Mh (H:cC D G w0 w L ((mb,.map ⟨es⟩ ck)::M)) (hv:iE es ck (wl.map FD)) (f:(wl.length:Int)<=1000000)
 {K:Option Ab×Nat×Nat->A2->Prop} (k: ∀r R c d,R.Pairwise (· <= ·)->R.Perm (wl.map (·.1))->dy eI r R c->cC D G w0 d (c++L) ((mb,.map ⟨es⟩ ck)::M)->K r d):
 aB AB 115 (.el (.one .slice)) [.map (some mb),.func (.func 116) #[] #[]] w K:=by
 refine λw1 h1=>ai (C:=U1) (aS:=qV) (Ax (Ks _ w1 K) ?_);refine Bz (H.ext h1) hv f (is:=λ_=>true) (λ{w' c g} H e h=>?_) (λr R c d a b=>k r R c d a (by rw[FV.2 (λ_ _=>rfl)] at b;exact b));exact af.of λd i=>ai (C:=U0) (aS:=λ_=>[]) (by grind[Ax,Kp])
theorem RW (H:cC D G w0 w L ((mb,.map ⟨es⟩ ck)::M)) (hv:iE es ck (wl.map FD)) (h:(wl.length:Int)<=1000000) {now:Int} {s:Option Ab×Nat×Nat} {eb:Nat} (g:(eb,oJ now s mb)∈L)
 {K:Option Ab×Nat×Nat->A2->Prop} (k: ∀r R e f,R.Pairwise (· <= ·)->R.Perm (wl.map (·.1))->dy eI r R e->cC D G w0 f (e++L) ((mb,.map ⟨es⟩ ck)::M)->K r f):
 aB AB 69 (.el (.one .slice)) [ag (ae eb)] w K:=by
 refine λw1 h1=>ai (Ax (P2 _ w1 K) ?_);have H:=H.ext h1;refine⟨_,mR H.base g,an rfl ⟨rfl,rfl,aj.k9 H.base g rfl ?_⟩⟩;exact Mh H hv h λr R e f a b c d=>λi j=>k r R e i a b c (d.ext j)
theorem RY (H:cC D G w0 w L ((mb,.map ⟨es⟩ ck)::M)) (hv:iE es ck (wl.map FD)) (W:(wl.length:Int)<=1000000) {now:Int} {s:Option Ab×Nat×Nat} {eb:Nat} (X:(eb,oJ now s mb)∈L) (Y: ∀e∈wl,0<=e.2/\e.2<=now) (Z:now<4611686018427387904)
 {K:Option Ab×Nat×Nat->A2->Prop} (k: ∀r R d a g,R.Pairwise (· <= ·)->R.Perm ((wl.filter λe=>decide (e.2+2<=now)).map (·.1))->dy eI r R d->iE a ck ((wl.filter λe=> !decide (e.2+2<=now)).map FD)->
  cC D G w0 g (d++L) ((mb,.map ⟨a⟩ ck)::M)->K r g):
 aB AB 198 (.el (.one .slice)) [ag (ae eb)] w K:=by
 refine λw1 h1=>ai (C:=U0) (aS:=tX) (Ax (P1 _ w1 K) λg q=>?_);have H:=(H.ext h1).ext q;obtain⟨b,hb⟩: ∃b,b=g.heap.size:=⟨_,rfl⟩;have H:=H.join (L':=(b,[ag (ae eb)])::L) (w1:=g.alloc (.cells ⟨[ag (ae eb)]⟩ 98)) (by rw[hb];exact H.base.again.alloc _ _);rw[<-hb];have l:(eb,oJ now s mb)∈(b,[ag (ae eb)])::L:=B2 _ X;refine aj.at 0 H.base rfl (show _=some (some (⟨eb,0,none⟩:Ab)) from rfl) ⟨_,mR H.base l,an rfl (aj.at 0 H.base rfl (show _=some (some (⟨eb,0,none⟩:Ab)) from rfl) ⟨rfl,rfl,aj.k9 H.base l (show _=some (some mb) from rfl) ?_⟩)⟩;refine Mg H hv W (c:=b) B1 l Y Z λr R d I hR m u H=>?_;have J:=u.1;have N:(wl.map (·.1)).Nodup:=by
  have:=hv.2.2.2;rw[Fy] at this;exact this
 have hRl:R.length<=wl.length:=by
  rw[m.length_eq,B_];exact N5 _ _
 have hRn:R.Nodup:=by
  refine m.nodup_iff.2 ?_;exact N.sublist (M4.map _)
 have O: ∀f,f∈R<-> ∃e∈wl,e.1=f/\e.2+2<=now:=λf=>by
  rw[m.mem_iff,B3];constructor
  grind
  ·rintro⟨e,h,rfl,c⟩;exact⟨e,Ij.2 ⟨h,by simpa using c⟩,rfl⟩
 refine⟨λn st v=> ∃(j:Nat) (a:List B9),j<=R.length/\n=R.length - j/\st.1=(j:Int)/\iE a ck ((wl.filter λe=> !(R.take j).contains e.1).map FD)/\cC D G w0 v (d++((b,[ag (ae eb)])::L)) ((mb,.map ⟨a⟩ ck)::M),⟨R.length,λv h4=>⟨0,es,FC _,rfl,rfl,?_,H.ext h4⟩⟩,?_⟩
 ·have:(wl.filter λe=> !(R.take 0).contains e.1)=wl:=FV.2 λ_ _=>rfl;rw[this];exact hv
 rintro n ⟨i, _⟩ v ⟨j,a,P,rz,hi,z,H⟩;have hi:i=(j:Int):=hi;subst hi rz;dsimp only;rw[J];have hmb:(b,[ag (some (⟨eb,0,none⟩:Ab))])∈d++((b,[ag (ae eb)])::L):=Az _ B1;have hme:(eb,oJ now s mb)∈d++((b,[ag (some (⟨eb,0,none⟩:Ab))])::L):=Az _ l;obtain⟨jb,hjb⟩:=B5 hmb;refine ab (λc=>?_) (λc=>?_)
 ·have P:j<R.length:=by have:=of_decide_eq_true c;omega
  obtain⟨x,o⟩: ∃x,R[j]? =some x:=⟨_,DA P⟩;have Q:=u.sl H.base (λy p=>C6 _ p) j x o;refine⟨⟨Q.1,by omega,by omega⟩,aj.of x (by rw[Dd];exact Q.2) (aj.at jb H.base hjb (show _=some (some (⟨eb,0,none⟩:Ab)) from rfl) ⟨rfl,rfl,aj.k9 H.base hme (show _=some (some mb) from rfl) λS A=>?_⟩)⟩;have H:=H.ext A;obtain⟨e,hew,T,Z4⟩:=(O x).1 (Ca o);have hxn:x∉R.take j:=λhm=>by
   obtain⟨i,hi⟩:=B5 hm;have B:i<(R.take j).length:=(C8.1 hi).1;rw[Dn] at B;rw[List.getElem?_take_of_lt (by omega)] at hi;have:=(FS (by omega) hRn).1 (hi.trans o.symm);omega
  have lL:(x,aa e.2)∈(wl.filter λe=> !(R.take j).contains e.1).map FD:=B3.2 ⟨e,Ij.2 ⟨hew,by rw[T];simpa using hxn⟩,by rw[<-T]⟩;obtain⟨i,hf,B,U⟩:=z.BS lL;refine⟨mb,⟨a⟩,ck,rfl,H.get (i:=0) rfl,?_⟩;unfold Ag;rw[hf];have e1:(Array.mk a).eraseIdxIfInBounds i=⟨a.eraseIdx i⟩:=by
   apply Array.ext';simp[Nt,B]
  have H:=H.put (i:=0) rfl (o':= .map ⟨a.eraseIdx i⟩ ck) trivial;show∀I,Ext _ I-> _;rw[e1];refine λw6 h6=>⟨R.length - (j+1),by omega,j+1,a.eraseIdx i,by omega,rfl,?_,?_,H.ext h6⟩
  ·rw[av (by omega) (by omega)];omega
  ·have E:(((wl.filter λe=> !(R.take j).contains e.1).map FD).filter λt=> !(t.1==x))=(wl.filter λe=> !(R.take (j+1)).contains e.1).map FD:=by
    rw[Fw,List.filter_filter];congr 1;refine IR λy _=>?_;rw[List.take_add_one,o]
    grind
   rw[E] at U;exact U
 ·have:j=R.length:=by have:=of_decide_eq_false c;omega
  subst this;refine λS A=>k _ R d a S hR m (by rw[<-J];exact u) ?_ ((H.ext A).sub (H6 (BN _ _) _));have E:(wl.filter λe=> !(R.take R.length).contains e.1)=wl.filter λe=> !decide (e.2+2<=now):=IR λy p=>by
   rw[List.take_length];congr 1;rw[Bool.eq_iff_iff,List.contains_iff_mem,decide_eq_true_eq,O];constructor
   ·rintro⟨e,h1,q,h3⟩;have:e=y:=by
     obtain⟨i1,F⟩:=B5 h1;obtain⟨i2,V⟩:=B5 p;have a1:(wl.map (·.1))[i1]? =some y.1:=by rw[Bx,F];exact congrArg some q
     have a2:(wl.map (·.1))[i2]? =some y.1:=by rw[Bx,V];rfl
     have:=(FS (by rw[B_];exact(C8.1 F).1) N).1 (a1.trans a2.symm);subst this;exact Option.some.inj (F.symm.trans V)
    rw[<-this];exact h3
   ·exact λh=>⟨y,p,rfl,h⟩
  rw[E] at z;exact z
theorem Cy (H:cC D G w0 w L M) (n:Int) {K:Option Ab×Int×Unit->A2->Prop} (kb:n<1\/n>8-> ∀w1,cC D G w0 w1 L M->K (none,1,()) w1)
 (E:1<=n->n<=8-> ∀eb mb s Ls w1,dy eI s (BT n.toNat (-1)) Ls->cC D G w0 w1 ((eb,oJ 0 s mb)::(Ls++L)) ((mb,.map ⟨[]⟩ 0)::M)->K (some ⟨eb,0,none⟩,0,()) w1):
 aB AB 84 (.bG [.one .ptr,.one (.int .i64)]) [aa n] w K:=by
 refine λw1 h1=>ai (C:=U0) (aS:=vY) (Ax (Cu n w1 K) ?_);have H:=H.ext h1;refine ab (λc=>λf g=>kb (by simpa using c) f (H.ext g)) (λc f g p F=>?_);have t:1<=n/\n<=8:=by
  grind
 obtain⟨m,rfl⟩: ∃m:Nat,n=(m:Int):=⟨n.toNat,by omega⟩;have H:=((H.ext g).alloc (o:= .map #[] 0) trivial).ext F;obtain⟨mb,I⟩: ∃b,b=f.heap.size:=⟨_,rfl⟩;rw[<-I] at H ⊢;obtain⟨eb,u⟩: ∃b,b=p.heap.size:=⟨_,rfl⟩;have H:=H.join (L':=(eb,oJ 0 (none,0,0) mb)::L) (w1:=p.alloc (.cells ⟨[aa 0,.slice none 0 0,.map (some mb)]⟩ 210)) (by rw[u];exact H.base.again.alloc _ _);rw[<-u];refine⟨λn st h=> ∃(j:Nat) (s:Option Ab×Nat×Nat) (Ls:List (Nat×List AC)),j<=m/\n=m - j/\st.1=(j:Int)/\dy eI s (BT j (-1)) Ls/\cC D G w0 h (Ls++((eb,oJ 0 s mb)::L)) ((mb,.map ⟨[]⟩ 0)::M),⟨m,λh J=>⟨0,(none,0,0),[],FC _,rfl,rfl,dy.nil eI,H.ext J⟩⟩,?_⟩;clear H;rintro n ⟨i, _⟩ h ⟨j,s,Ls,N,O,hi,v,H⟩;have hi:i=(j:Int):=hi;subst hi O;dsimp only;have P:(eb,oJ 0 s mb)∈Ls++((eb,oJ 0 s mb)::L):=Az _ B1;refine ab (λc=>?_) (λc=>?_)
 ·have N:j<m:=by have:=of_decide_eq_true c;omega
  refine⟨rfl,rfl,aj.k9 H.base P (show _=some (s.1,s.2.1,s.2.2) from rfl) λa k V Q=>?_⟩;have y:=by
   have z:=H.ext k;have R:=z.join (w1:=a.alloc (.cells ⟨[aa (-1)]⟩ 3)) (z.base.again.alloc _ _);exact(R.perm B4).ext Q
  refine Fz y v rfl (q:=(some ⟨a.heap.size,0,none⟩,1,1)) (ys:=[(-1:Int)]) rfl (rN (e:=eI) (x:=(-1:Int)) (y.base.cZ _ (Az _ B1))) rfl rfl (by grind) λr l W S d=>⟨rfl,rfl,?_⟩;have d:=(d.sub (H6 (BN _ _) l)).perm (L':=(eb,oJ 0 s mb)::(l++L)) B4.symm;refine λA B=>?_;have key:=az.fK (b:=eb) (o:=0) (n:=1) 0 (d.ext B).base.again rfl (x:= .slice r.1 r.2.1 r.2.2) rfl rfl (λX T=>(d.ext B).join T) A (Ext.refl A);refine⟨key.1,λY U=>⟨m - (j+1),by omega,j+1,r,l,by omega,rfl,?_,?_,(key.2.ext U).perm B4⟩⟩
  ·rw[av (by omega) (by omega)];omega
  ·rw[N6];exact S
 ·have:j=m:=by have:=of_decide_eq_false c;omega
  subst this;refine λa k=>E t.1 t.2 eb mb s Ls a ?_ ((H.ext k).perm B4.symm);rw[Dd];exact v
end
abbrev uC:Type:=Int×Int×Int×Unit
abbrev eC:El:= .one .chan
abbrev NF (a:uC):AC:= .agg ⟨[aa a.1,aa a.2.1,aa a.2.2.1]⟩
abbrev CR:Type:=Nat×Nat×Nat
abbrev cO (c:CR) (q:List uC):Nat×Bs:=(c.1,.chan 16 ⟨q.map NF⟩ false c.2.1 c.2.2 false)
abbrev qP (cs:List CR) (bx:List (List uC)):List (Nat×Bs):=List.zipWith cO cs bx
abbrev dI (cs:List CR):List (Option Nat):=cs.map λc=>some c.1
abbrev lU (sb so:Option Ab×Nat×Nat):List AC:=[.slice sb.1 sb.2.1 sb.2.2,.slice so.1 so.2.1 so.2.2]
theorem Jh {cs:List CR} {bx:List (List uC)} {k:Nat} {c:CR} {q:List uC}:(qP cs bx).set k (cO c q)=qP (cs.set k c) (bx.set k q):=by
 induction cs generalizing bx k with
 |nil
 |cons=>
  cases bx with
  |nil
  |cons=>
   cases k with
   |zero
   |succ=>simp_all
theorem CG {cs:List CR} {bx:List (List uC)} {k:Nat} {c:CR} {q:List uC} (h1:cs[k]? =some c) (a:bx[k]? =some q):(qP cs bx)[k]? =some (cO c q):=by
 grind
theorem _root_.Go.Proofs.YtlcenllcmeebhaaGreat.dy.sub {D G:List Nat} {w0 w:A2} {L Ls:List (Nat×List AC)} {e:El} {s:Option Ab×Nat×Nat} {xs:List e.T} (h:dy e s xs Ls) (H:aK D G w0 w L) (a: ∀x∈Ls,x∈L) {lo n:Nat} (j:lo+n<=xs.length):
 Go.RX.pX w (ad s.1 (lo*aF e)) (n*aF e) (flat e ((xs.drop lo).take n)):=by
 obtain⟨h1,k,⟨a1,b⟩|⟨bs,rest,a1,c,b⟩⟩:=h
 ·have:xs=[]:=List.eq_nil_of_length_eq_zero (by omega);subst this;rw[a1,List.drop_nil,List.take_nil];rfl
 ·rw[a1,aX,Nat.zero_add];have d:(flat e ((xs.drop lo).take n)).length=n*aF e:=by rw[aH,Dn,Ik,J4 (by omega)]
  refine bN.pX (H.cZ _ (a _ (by rw[c];exact HZ.2 rfl))) d λi hi=>?_;have f:flat e xs=flat e (xs.take lo)++(flat e ((xs.drop lo).take n)++flat e ((xs.drop lo).drop n)):=by
   rw[<-dM, <-dM,I1,I1]
  have g:(flat e (xs.take lo)).length=lo*aF e:=by rw[aH,Dn,J4 (by omega)]
  rw[f,DB,FX (by grind),g,Nat.add_sub_cancel_left,DB,In (by grind)]
section
variable {D G:List Nat} {w0 w:A2} {L Lb Lo:List (Nat×List AC)} {M:List (Nat×Bs)} {sb so:Option Ab×Nat×Nat} {cs:List CR} {bx:List (List uC)} {op:List Int} {xb:Nat}
theorem Pc (H:aK D G w0 w L) (a:(xb,lU sb so)∈L) (b:sb.2.1=cs.length) (i:Int):af AB 106 [ag (ae xb),aa i] w (.bool (decide (0<=i/\i<(cs.length:Int)))):=by
 refine af.of (s:= .el _) λw' h'=>ai (Ax (Uj _ _ w' _) ?_);refine⟨λ_=>rfl,λ_=>rfl,aj.k9 (H.ext h') a rfl λw1 h1=>⟨?_,h1⟩⟩
 grind
def Ov (op:List Int) (a:Int):Bool:=decide (1<=a/\a<=(op.length:Int))&&op.getD (a - 1).toNat 0==0
theorem VG (H:aK D G w0 w (Lo++L)) (b:(xb,lU sb so)∈L) (d:dy eI so op Lo) (i:Int) (hb:i<4611686018427387904):
 af AB 161 [ag (ae xb),aa i] w (.bool (Ov op i)):=by
 refine af.of (s:= .el (.one .bool)) λw' h'=>ai (C:=U0) (aS:=λ_=>[]) (Ax (P0 _ _ w' _) ?_);have H:=H.ext h';have g:=d.1;refine⟨λ_=>rfl,λ_=>rfl,aj.k9 H (Az _ b) (rfl) ⟨λ_=>rfl,λ_=>rfl,aj.k9 H (Az _ b) (rfl) ?_⟩⟩;dsimp only;rw[g];by_cases c:1<=i/\i<=(op.length:Int)
 ·have j:aZ .i64 i 1=i - 1:=bD (by omega) (by omega);have k:op[(i - 1).toNat]? =some (op.getD (i - 1).toNat 0):=by rw[Dy,DA (by omega)];rfl
  have f:=d.sl H (λy l=>C6 _ l) _ _ k;rw[j];refine⟨λ_=>⟨f.1,by omega,by omega⟩,aj.of _ f.2 λm a=>⟨?_,a⟩⟩;unfold Ov;rw[decide_eq_true c,decide_eq_true c.2,decide_eq_true (show i>=1 from c.1)];rfl
 ·have e:(!(some (⟨xb,0,none⟩:Ab)).isNone&&decide (i>=1)&&decide (i<=(op.length:Int)))=false:=by
   grind
  rw[e];refine⟨λh=>(by cases h),⟨0,λh=>(by cases h),λm a=>⟨?_,a⟩⟩⟩;unfold Ov;rw[decide_eq_false c];rfl
def vJ (bx:List (List uC)) (op:List Int) (i:Nat):(uC×Bool×Unit)×List (List uC)×List Int:=match bx[i]? with
 |some (a::q)=>((a,true,()),bx.set i q,op.set (a.1 - 1).toNat (op.getD (a.1 - 1).toNat 0 - 1))
 | _=>(((0,0,0,()),false,()),bx,op)
theorem RZ (H:cC D G w0 w ((xb,lU sb so)::(Lb++(Lo++L))) (qP cs bx++M)) (J:dy eC sb (dI cs) Lb) (m:dy eI so op Lo) (hcb:cs.length=bx.length) (i:Nat) (hi:i<cs.length)
 (V: ∀a q,bx[i]? =some (a::q)->(1<=a.1/\a.1<=(op.length:Int))/\ -1000<=op.getD (a.1 - 1).toNat 0/\op.getD (a.1 - 1).toNat 0<=1000) (XR:(op.length:Int)<4611686018427387904) {K:(Int×Int×Int×Unit)×Bool×Unit->A2->Prop}
 (k: ∀u d f,u.length=cs.length->dI u=dI cs->dy eI so (vJ bx op i).2.2 d->cC D G w0 f ((xb,lU sb so)::(Lb++(d++L))) (qP u (vJ bx op i).2.1++M)->K (vJ bx op i).1 f):
 aB AB 66 (.bG [.agg [.int .i64,.int .i64,.int .i64],.one .bool]) [ag (ae xb),aa (i:Int)] w K:=by
 refine λw1 h1=>aR (C:=U0) (aS:=λ_=>[]) (Ax (PY _ _ w1 K) λf W=>?_);have H:=(H.ext h1).ext W;obtain⟨b,hb⟩: ∃b,b=f.heap.size:=⟨_,rfl⟩;have H:=H.join (L':=(b,[aa 0,aa 0,aa 0])::(xb,lU sb so)::(Lb++(Lo++L))) (w1:=f.alloc (.cells ⟨[aa 0,aa 0,aa 0]⟩ 147)) (by rw[hb];exact H.base.again.alloc _ _);rw[<-hb];have X:sb.2.1=cs.length:=by rw[J.1,B_]
 obtain⟨c,hc⟩: ∃c,cs[i]? =some c:=⟨_,DA hi⟩;obtain⟨q,n⟩: ∃q,bx[i]? =some q:=⟨_,DA (by omega)⟩;have Y: ∀{x:Nat×List AC},x∈Lb->x∈(b,[aa 0,aa 0,aa 0])::(xb,lU sb so)::(Lb++(Lo++L)):=λh=>B2 _ (B2 _ (C6 _ h));have N:=J.sl H.base (λy z=>Y z) i (some c.1) (by rw[Bx,hc];rfl);refine⟨_,Pc H.base (B2 _ B1) X _,an (by rw[decide_eq_true (by omega)];rfl) ⟨rfl,rfl,aj.cq 1 H.base rfl (show _=some (sb.1,sb.2.1,sb.2.2) from rfl) ⟨⟨N.1,by omega,by dsimp only;omega⟩,aj.of (some c.1) (by dsimp only;rw[Dd];exact N.2) λw3 Z=>?_⟩⟩⟩;have H:=H.ext Z;have A:=CG hc n;have O:(qP cs bx++M)[i]? =some (cO c q):=by rw[In (C8.1 A).1];exact A
 refine⟨c.1,16,q.map NF,c.2.1,c.2.2,rfl,H.get O,λB=>?_,λv vs P=>?_⟩
 ·have B:q=[]:=List.map_eq_nil_iff.1 B;subst B;have e:vJ bx op i=(((0,0,0,()),false,()),bx,op):=by unfold vJ;rw[n]
  rw[e] at k;intro g E;have H:=H.ext E;have key:=az.all 0 H.base.again rfl (vs:=[aa 0,aa 0,aa 0]) rfl rfl (K:=λo=>cC D G w0 o ((b,[aa 0,aa 0,aa 0])::(xb,lU sb so)::(Lb++(Lo++L))) (qP cs bx++M)) (λo l=>H.join l) g (Ext.refl g);exact⟨key.1,λp r=>aj.at 0 (key.2.ext r).base rfl (show _=some (0,0,0,()) from rfl) (k cs Lo p rfl rfl m ((key.2.ext r).sub (BN _ _)))⟩
 ·cases q with
  |nil=>cases P
  |cons a q=>
   obtain⟨rfl,rfl⟩:=List.cons.inj P;obtain⟨⟨o1,o2⟩,o3,o4⟩:=V a q n;have e:vJ bx op i=((a,true,()),bx.set i q,op.set (a.1 - 1).toNat (op.getD (a.1 - 1).toNat 0 - 1)):=by unfold vJ;rw[n]
   rw[e] at k;refine⟨(a.1,a.2.1,a.2.2.1,()),rfl,λg E=>?_⟩;have H:=H.put O (o':= .chan 16 ⟨q.map NF⟩ false c.2.1 (c.2.2+1) false) trivial;have ez:(qP cs bx++M).set i (c.1,.chan 16 ⟨q.map NF⟩ false c.2.1 (c.2.2+1) false)=qP (cs.set i (c.1,c.2.1,c.2.2+1)) (bx.set i q)++M:=by
    rw[N7 _ _ (C8.1 A).1];congr 1;exact Jh (c:=(c.1,c.2.1,c.2.2+1))
   rw[ez] at H;have H:=H.ext E;obtain⟨s,Q⟩: ∃s,s=g.heap.size:=⟨_,rfl⟩;have H:=H.join (L':=(s,[aa 0,aa 0,aa 0])::(b,[aa 0,aa 0,aa 0])::(xb,lU sb so)::(Lb++(Lo++L))) (w1:=g.alloc (.cells ⟨[aa 0,aa 0,aa 0]⟩ 147)) (by rw[Q];exact H.base.again.alloc _ _);rw[<-Q];intro p r;have H:=H.ext r;have key:=az.all 0 H.base.again rfl (vs:=[aa a.1,aa a.2.1,aa a.2.2.1]) rfl rfl (λo l=>H.join l) p (Ext.refl p);refine⟨key.1,?_⟩;have H:=key.2;have e1:aZ .i64 a.1 1=a.1 - 1:=bD (by omega) (by omega);have hx:op[(a.1 - 1).toNat]? =some (op.getD (a.1 - 1).toNat 0):=by rw[Dy,DA (by omega)];rfl
   have acN:=m.1;have F:=m.sl H.base (λy z=>B2 _ (B2 _ (B2 _ (Az _ (C6 _ z))))) _ _ hx;refine⟨rfl,rfl,aj.cq 2 H.base rfl (show _=some (so.1,so.2.1,so.2.2) from rfl) ⟨rfl,aj.cq 0 H.base rfl (show _=some a.1 from rfl) ?_⟩⟩;dsimp only;rw[e1];refine⟨⟨F.1,by omega,by omega⟩,aj.of _ F.2 ⟨⟨F.1,by omega,by omega⟩,?_⟩⟩;rw[bD (by omega) (by omega)];have Hp:=H.perm (by
    have I:(Lo++(Lb++L)).Perm (Lb++(Lo++L)):=by rw[<-DB, <-DB];exact Gi _ Df
    exact B4.trans (DM _ (B4.trans (DM _ (B4.trans (DM _ I))))))
   refine stM Hp m (i:=(a.1 - 1).toNat) (by omega) (op.getD (a.1 - 1).toNat 0 - 1) rfl rfl λd w6 xS t=>?_;have t:=t.perm (L':=(s,[aa a.1,aa a.2.1,aa a.2.2.1])::(b,[aa 0,aa 0,aa 0])::(xb,lU sb so)::(Lb++(d++L))) (by
    have I:(Lb++(d++L)).Perm (d++(Lb++L)):=by rw[<-DB, <-DB];exact Gi _ Df
    refine List.Perm.symm ?_;exact B4.trans (DM _ (B4.trans (DM _ (B4.trans (DM _ I.symm)))))
    )
   refine aj.at 0 t.base rfl (show _=some (a.1,a.2.1,a.2.2.1,()) from rfl) λR h7=>?_;have S:=t.ext h7;have key:=az.all 1 S.base.again rfl (vs:=[aa a.1,aa a.2.1,aa a.2.2.1]) rfl rfl (λo l=>S.join l) R (Ext.refl R);refine⟨key.1,λw8 T=>aj.at 1 (key.2.ext T).base rfl (show _=some (a.1,a.2.1,a.2.2.1,()) from rfl) (k (cs.set i (c.1,c.2.1,c.2.2+1)) d w8 (Db ..) ?_ xS ((key.2.ext T).sub ((BN _ _).trans (BN _ _))))⟩;refine G1 λj=>?_;rw[Bx,Bx];by_cases U:i=j
   ·subst U;rw[Dl hi,hc];rfl
   ·rw[E5 U]
end
section
variable {D G:List Nat} {w0 w:A2} {L:List (Nat×List AC)} {M:List (Nat×Bs)}
theorem alM (H:cC D G w0 w L M) {cs:List AC} {e:TypeId} {K:Nat->A2->Prop} (k: ∀b w1,cC D G w0 w1 ((b,cs)::L) M->K b w1):aL w ⟨cs⟩ e K:=λw1 h1=>
 k _ _ ((H.ext h1).join ((H.ext h1).base.again.alloc cs e))
theorem Wv (H:cC D G w0 w L M) (i:Nat) {b n:Nat} {l:List AC} {x:AC} {K:A2->Prop} (a:L[i]? =some (b,l)) (c:x.oneCell'=true) (e:Nat.blt n l.length=true) (k: ∀w1,cC D G w0 w1 (L.set i (b,l.set n x)) M->K w1):az w (ad (ae b) n) [x] K:=λw1 h1=>
 az.fK i (H.ext h1).base.again a c (by grind) (λd f=>k d ((H.ext h1).join (by grind))) w1 (Ext.refl w1)
theorem stB (H:cC D G w0 w L M) (i:Nat) {b:Nat} {l vs:List AC} {K:A2->Prop} (a:L[i]? =some (b,l)) (c:vs.all (·.oneCell')=true) (d:vs.length=l.length) (k: ∀w1,cC D G w0 w1 (L.set i (b,vs)) M->K w1):az w (ae b) vs K:=λw1 h1=>
 az.all i (H.ext h1).base.again a c d (λe f=>k e ((H.ext h1).join f)) w1 (Ext.refl w1)
theorem enM (H:cC D G w0 w L M) {K:A2->Prop} (k: ∀w1,cC D G w0 w1 L M->K w1):au w K:=λ_ h=>k _ (H.ext h)
end
section
variable {D G:List Nat} {w0 w:A2} {L Lb Lo:List (Nat×List AC)} {M:List (Nat×Bs)} {sb so:Option Ab×Nat×Nat} {cs:List CR} {bx:List (List uC)} {op:List Int} {xb:Nat}
theorem xJ {α:Type} (A B C:List α):(A++(B++C)).Perm (B++(A++C)):=by
 grind[Gi,Df]
theorem Hx (H:cC D G w0 w (Lb++L) M) (v:(xb,lU sb so)∈L) (f:dy eC sb (dI cs) Lb) (i:Nat) (hi:i<cs.length) (U:cs.length<=8) {K:Option Ab×Nat×Nat->A2->Prop}
 (k: ∀r g b,dy eC r ((dI cs).eraseIdx i) g->cC D G w0 b (g++(Lb++L)) M->K r b):
 aB AB 202 (.el (.one .slice)) [ag (ae xb),aa (i:Int)] w K:=by
 refine λw1 h1=>ai (C:=U0) (aS:=λ_=>[]) (Ax (GQ _ _ w1 K) ?_);have H:=H.ext h1;obtain⟨p,n,c⟩:=sb;have V:n=(dI cs).length:=f.1;have W:(dI cs).length=cs.length:=B_ _;have hc:(dI cs).length<=c:=f.2.1;have l:aI .i64 (i:Int) 1=((i+1:Nat):Int):=by rw[av (by omega) (by omega)];omega
 have m:(xb,lU (p,n,c) so)∈Lb++L:=Az _ v;refine⟨rfl,rfl,aj.k9 H.base m (show _=some (p,n,c) from rfl) ⟨?_,λb A=>?_⟩⟩
 ·dsimp only;omega
 have H:=H.ext A;dsimp only;have X:(Decidable.rec (λ_=>ad p 0) (λ_=>p) (instDecidableEqNat ((c:Int)).toNat 0:Decidable (((c:Int)).toNat=((0:Nat):Int).toNat)):Option Ab)=p:=Gc (show((c:Int)).toNat≠0 by omega)▸by
  rcases p with _|a
  ·rfl
  ·rfl
 have Y:((i:Int)).toNat - 0=i:=by omega
 have B:Go.RX.pX b p (i*aF eC) (flat eC ((dI cs).take i)):=by
  have:=f.sub H.base (λy h=>C6 _ h) (lo:=0) (n:=i) (by omega);rw[Nat.zero_mul,List.drop_zero] at this;rcases p with _|a
  ·exact this
  ·have e:ad (some a) 0=some a:=by show some (a.add 0)=some a;rfl
   rw[e] at this;exact this
 have key:=Fz (Ls:=[]) H (dy.nil eC) (show gY eC=true from rfl) (q:=(p,i,(c:Int).toNat - 0)) (ys:=(dI cs).take i) (by rw[Dn,J4 (by omega)]) B (t:=202) (size:=1) (bytes:=8) (z:=⟨[Value.chan none]⟩) rfl rfl (by rw[M5,Dn];omega)
  (R:=λr b=>(some (⟨xb,0,none⟩:Ab)).isSome=true/\(some (⟨xb,0,none⟩:Ab)).isSome=true/\aj b none (ad (ae xb) 0) (.one .slice) λx=>(0<=aI .i64 (i:Int) 1/\aI .i64 (i:Int) 1<=((x.2.1:Nat):Int)/\((x.2.1:Nat):Int)<=((x.2.2:Nat):Int)/\((x.2.2:Nat):Int)<=((x.2.2:Nat):Int))/\ ∀w1,Ext b w1->
   nb w1 202 1 8 ⟨[Value.chan none]⟩ (r.1,r.2.1,r.2.2) (Decidable.rec (λ_=>ad x.1 ((aI .i64 (i:Int) 1).toNat*1)) (λ_=>x.1) (instDecidableEqNat ((x.2.2:Nat):Int).toNat (aI .i64 (i:Int) 1).toNat),((x.2.1:Nat):Int).toNat - (aI .i64 (i:Int) 1).toNat,((x.2.2:Nat):Int).toNat - (aI .i64 (i:Int) 1).toNat) λr b=>au b λw1=>K (r.1,r.2.1,r.2.2) w1) λr g Z E o=>?_
 grind
 ·refine⟨rfl,rfl,aj.k9 o.base (Az _ m) (show _=some (p,n,c) from rfl) ⟨?_,λF I=>?_⟩⟩
  ·rw[l];dsimp only;omega
  have s:=o.ext I;rw[l];dsimp only;have J:Go.RX.pX F (if((c:Int)).toNat=((i+1:Nat):Int).toNat then p else ad p (((i+1:Nat):Int).toNat*1)) ((((n:Nat):Int).toNat - ((i+1:Nat):Int).toNat)*aF eC) (flat eC ((dI cs).drop (i+1))):=by
   by_cases d:c=i+1
   ·have:(dI cs).drop (i+1)=[]:=List.drop_eq_nil_of_le (by omega);rw[this,ax (by omega),show((((n:Nat):Int).toNat - ((i+1:Nat):Int).toNat))=0 by omega];rcases p with _|a
    ·rfl
    ·exact⟨rfl,λj N=>by simp at N⟩
   ·rw[ao (by omega)];have:=f.sub s.base (λy h=>Az _ (C6 _ h)) (lo:=i+1) (n:=(dI cs).length - (i+1)) (by omega);rw[List.take_of_length_le (by rw[Ik];exact Dt _)] at this;rw[show((((n:Nat):Int).toNat - ((i+1:Nat):Int).toNat))=(dI cs).length - (i+1) by omega];exact this
  have O:(Decidable.rec (λ_=>ad p (((i+1:Nat):Int).toNat*1)) (λ_=>p) (instDecidableEqNat ((c:Int)).toNat ((i+1:Nat):Int).toNat):Option Ab)=if((c:Int)).toNat=((i+1:Nat):Int).toNat then p else ad p (((i+1:Nat):Int).toNat*1):=by
   by_cases d:((c:Int)).toNat=((i+1:Nat):Int).toNat
   ·rw[ax d,OQ d]
   ·rw[ao d,Gc d]
  rw[O];refine Fz s E rfl (ys:=(dI cs).drop (i+1)) (by grind) J rfl rfl (by
   rw[NO,Dn,Ik];omega) λr2 P w5 u Q=>λS T=>k _ P S ?_ (Q.ext T)
  rw[K1];rw[NO] at u;exact u
def vz (i j:Nat):Nat:=if j<i then j else j+1
def Te (i k:Nat):Nat:=if k<i then k else k - 1
def ly (bx:List (List uC)) (i j:Nat) (a:uC):List (List uC):=bx.zipIdx.map λ(q,k)=>if k≠i/\Te i k<j then q++[a] else q
theorem qw {bx:List (List uC)} {i j k:Nat} {a:uC} {q:List uC} (h:bx[k]? =some q):(ly bx i j a)[k]? =some (if k≠i/\Te i k<j then q++[a] else q):=by grind[ly]
theorem Hy {bx:List (List uC)} {i j:Nat} {a:uC} {q:List uC} (h:bx[vz i j]? =some q):(ly bx i j a).set (vz i j) (q++[a])=ly bx i (j+1) a:=by
 have c:vz i j≠i/\Te i (vz i j)=j:=by unfold vz Te;grind
 refine G1 λk=>?_;by_cases e:vz i j=k
 ·subst e;rw[Dl (by grind[ly,B_,NP]),qw h,ax (by grind)]
 ·rw[E5 e];cases b:bx[k]? with
  |none=>
   grind[ly,B_,NP]
  |some d=>
   rw[qw b,qw b];have:(k≠i/\Te i k<j)<->(k≠i/\Te i k<j+1):=by
    grind[Te,vz]
   grind
def vK (bx:List (List uC)) (op:List Int) (n:Nat) (t p:Int):Int×List (List uC)×List Int:=
 if t<1\/t>16\/p< -1\/p>=65536 then(0,bx,op)
 else if(bx.eraseIdx n).any (λq=>q.length==16)=true then(0,bx,op)
 else((op.length:Int)+1,(bx.zipIdx.map λ(q,i)=>if i=n then q else q++[((op.length:Int)+1,t,p,())]),op++[(bx.length:Int) - 1])
theorem Mj {bx:List (List uC)} {i:Nat} (hi:i<bx.length) (a:uC):ly bx i (bx.length - 1) a=bx.zipIdx.map λ(q,k)=>if k=i then q else q++[a]:=by
 refine List.map_congr_left λx b=>?_;obtain⟨q,k⟩:=x;dsimp;by_cases e:k=i
 grind
 ·rw[ao e,ax (by grind[Te])]
theorem Hz (bx:List (List uC)) (i:Nat) (a:uC):ly bx i 0 a=bx:=by
 simp[ly]
theorem Cp {α:Type} (l:List α) (i j:Nat):(l.eraseIdx i)[j]? =l[vz i j]? :=by grind[vz]
theorem R2 (H:cC D G w0 w ((xb,lU sb so)::(Lb++(Lo++L))) (qP cs bx++M)) (hs:dy eC sb (dI cs) Lb) (J:dy eI so op Lo) (hcb:cs.length=bx.length) (i:Nat) (hi:i<cs.length) (hl:cs.length<=8) (XR:(op.length:Int)<=1000000000) (XS: ∀q∈bx,q.length<=16) (t g:Int) {K:Int×Int×Unit->A2->Prop}
 (k: ∀e f o h z,f.length=cs.length->dI f=dI cs->dy eI o (vK bx op i t g).2.2 h->cC D G w0 z ((xb,lU sb o)::(Lb++(h++L))) (qP f (vK bx op i t g).2.1++M)->K ((vK bx op i t g).1,e,()) z):
 aB AB 157 (.bG [.one (.int .i64),.one (.int .i64)]) [ag (ae xb),aa (i:Int),aa t,aa g] w K:=by
 refine λw1 h1=>ai (C:=U0) (aS:=tW) (Ax (PZ _ _ t g w1 K) ?_);have H:=H.ext h1;have hn:sb.2.1=cs.length:=by rw[hs.1,B_]
 refine⟨λ_=>rfl,λ_=>rfl,aj.cq 0 H.base rfl (show _=some (sb.1,sb.2.1,sb.2.2) from rfl) ?_⟩;dsimp only;rw[hn];refine an (by rw[show((cs.length:Int)==0)=false by rw[beq_eq_false_iff_ne];omega];rfl) ⟨_,Pc H.base B1 hn _,an (by rw[decide_eq_true (by omega)];rfl) ?_⟩;by_cases N:t<1\/t>16\/g< -1\/g>=65536
 ·refine aD ?_ (enM H λz H=>?_)
  ·simp only[Np,decide_eq_true_eq];omega
  ·have e:vK bx op i t g=(0,bx,op):=ax N;rw[e] at k;exact k 1 cs so Lo z rfl rfl J H
 refine an ?_ ?_
 ·simp only[Ds,decide_eq_false_iff_not];omega
 have Hp:cC D G w0 w1 (Lb++((xb,lU sb so)::(Lo++L))) (qP cs bx++M):=H.perm B4;refine Hx Hp B1 hs i hi hl λr l z O H=>?_;have hrn:r.2.1=cs.length - 1:=by rw[O.1,Ix,B_,ax hi]
 have hxm:(xb,lU sb so)∈l++(Lb++((xb,lU sb so)::(Lo++L))):=Az _ (Az _ B1);have aau: ∀j,j<cs.length - 1-> ∃c q,cs[vz i j]? =some c/\bx[vz i j]? =some q/\((dI cs).eraseIdx i)[j]? =some (some c.1):=λj p=>by
  have h2:vz i j<cs.length:=by unfold vz;split<;>omega
  obtain⟨c,hc⟩: ∃c,cs[vz i j]? =some c:=⟨_,DA h2⟩;obtain⟨q,m⟩: ∃q,bx[vz i j]? =some q:=⟨_,DA (by omega)⟩;exact⟨c,q,hc,m,by rw[Cp,Bx,hc];rfl⟩
 refine⟨λn st u=> ∃j:Nat,j<=cs.length - 1/\n=cs.length - 1 - j/\st.1=(j:Int)/\(∀s q,s<j->(bx.eraseIdx i)[s]? =some q->q.length≠16)/\cC D G w0 u (l++(Lb++((xb,lU sb so)::(Lo++L)))) (qP cs bx++M),⟨cs.length - 1,λu h3=>⟨0,FC _,rfl,rfl,λs q p=>absurd p (Ns _),H.ext h3⟩⟩,?_⟩;clear H Hp;rintro n ⟨P, _⟩ u ⟨j,p,Q,v,R,H⟩;have v:P=(j:Int):=v;subst v Q;dsimp only;rw[hrn];refine ab (λc=>?_) (λc=>?_)
 ·have p:j<cs.length - 1:=by have:=of_decide_eq_true c;omega
  obtain⟨c,q,hc,m,S⟩:=aau j p;have E:=O.sl H.base (λy T=>C6 _ T) j _ S;have uw:=(H.obj _ (C6 _ (Ca (CG hc m)))).1;refine⟨⟨E.1,by omega,by omega⟩,aj.of (some c.1) (by rw[Dd];exact E.2) ⟨q.length,⟨c.1,16,q.map NF,c.2.1,c.2.2,rfl,uw,by rw[B_]⟩,?_⟩⟩;refine ab (λF=>enM H λU H=>?_) (λF U h4=>⟨cs.length - 1 - (j+1),by omega,j+1,by omega,rfl,?_,λs q' V W=>?_,H.ext h4⟩)
  ·have F:q.length=16:=by have:(q.length:Int)=16:=(by simpa using F);omega
   have e:vK bx op i t g=(0,bx,op):=by
    unfold vK;rw[ao N,ax (GS.2 ⟨q,Ca (show(bx.eraseIdx i)[j]? =some q by rw[Cp];exact m),by simp[F]⟩)]
   rw[e] at k;refine k 3 cs so Lo U rfl rfl J ((H.sub (FY _ _)).perm B4.symm)
  ·rw[av (by omega) (by omega)];omega
  ·by_cases e:s=j
   ·subst e;rw[Cp,m] at W;cases W;have: ¬ (q.length:Int)=16:=by simpa using F
    omega
   ·exact R s q' (by omega) W
 have X:j=cs.length - 1:=by have:=of_decide_eq_false c;omega
 subst X;have wK: ¬ (bx.eraseIdx i).any (λq=>q.length==16)=true:=λc=>by
  obtain⟨q,m,Ww⟩:=GS.1 c;obtain⟨s,V⟩:=B5 m;have zY:s<(bx.eraseIdx i).length:=(C8.1 V).1;rw[Ix,ax (by omega)] at zY;exact R s q (by omega) V (by simpa using Ww)
 have ep:vK bx op i t g=((op.length:Int)+1,ly bx i (bx.length - 1) ((op.length:Int)+1,t,g,()),op++[(bx.length:Int) - 1]):=by
  unfold vK;rw[ao N,ao wK,Mj (by omega)]
 rw[ep] at k;refine⟨rfl,rfl,aj.k9 H.base hxm (show _=some (so.1,so.2.1,so.2.2) from rfl) (alM H λb U H w5 h5=>?_)⟩;have H:=H.ext h5;have Hq:cC D G w0 w5 (Lo++((b,[aa ((cs.length - 1:Nat):Int)])::(l++(Lb++((xb,lU sb so)::L))))) (qP cs bx++M):=H.perm (by
  refine B4.trans (DM _ ?_);have p1:(Lo++(l++(Lb++((xb,lU sb so)::L)))).Perm (l++(Lo++(Lb++((xb,lU sb so)::L)))):=xJ _ _ _;refine p1.trans (J3 _ ?_);have p2:(Lo++(Lb++((xb,lU sb so)::L))).Perm (Lb++(Lo++((xb,lU sb so)::L))):=xJ _ _ _;exact p2.trans (J3 _ B4))
 refine Fz Hq J rfl (q:=(some ⟨b,0,none⟩,1,1)) (ys:=[((cs.length - 1:Nat):Int)]) rfl (rN (e:=eI) (x:=((cs.length - 1:Nat):Int)) (Hq.base.cZ _ (Az _ B1))) rfl rfl (by simp only[If];omega) λo h w6 Y H=>?_;have acg:op++[((cs.length - 1:Nat):Int)]=op++[(bx.length:Int) - 1]:=by rw[show((cs.length - 1:Nat):Int)=(bx.length:Int) - 1 by omega]
 rw[acg] at Y;have H:=(H.sub (H6 (BN _ _) h)).perm (L':=(xb,lU sb so)::(l++(Lb++(h++L)))) (by
  have p2:(l++(Lb++(h++L))).Perm (h++(l++(Lb++L))):=by
   have a1:(Lb++(h++L)).Perm (h++(Lb++L)):=xJ _ _ _;have a2:(l++(h++(Lb++L))).Perm (h++(l++(Lb++L))):=xJ _ _ _;exact(J3 _ a1).trans a2
  refine(DM _ p2).trans ?_;have a3: ∀(A B C:List (Nat×List AC)) (x:Nat×List AC),(x::(A++(B++(C++L)))).Perm (A++(B++(C++(x::L)))):=λA B C x=>by
   rw[<-DB, <-DB, <-DB, <-DB];exact B4.symm
  exact a3 _ _ _ _)
 refine⟨rfl,rfl,Wv H 0 rfl rfl rfl λw7 H=>⟨rfl,rfl,aj.cq 0 H.base rfl (show _=some (o.1,o.2.1,o.2.2) from rfl) ?_⟩⟩;have H:cC D G w0 w7 ((xb,lU sb o)::(l++(Lb++(h++L)))) (qP cs bx++M):=H;have aac:(o.2.1:Int)=(op.length:Int)+1:=by
  have:=Y.1;rw[Fo,If] at this;omega
 dsimp only;rw[aac];obtain⟨a,ha⟩: ∃a:uC,a=((op.length:Int)+1,t,g,()):=⟨_,rfl⟩;rw[<-ha] at k;refine⟨λn st u=> ∃(j:Nat) (f:List CR),j<=cs.length - 1/\n=cs.length - 1 - j/\st.1=(j:Int)/\f.length=cs.length/\dI f=dI cs/\cC D G w0 u ((xb,lU sb o)::(l++(Lb++(h++L)))) (qP f (ly bx i j a)++M),⟨cs.length - 1,λw8 h8=>⟨0,cs,FC _,rfl,rfl,rfl,rfl,by rw[Hz];exact H.ext h8⟩⟩,?_⟩;clear H Hq;rintro n ⟨P, _⟩ w8 ⟨j,f,p,Q,v,Z,BM,H⟩;have v:P=(j:Int):=v;subst v Q;dsimp only;refine ab (λc=>?_) (λc=>?_)
 ·have p:j<cs.length - 1:=by have:=of_decide_eq_true c;omega
  obtain⟨c,q,hc,m,S⟩:=aau j p;have E:=O.sl H.base (λy T=>B2 _ (C6 _ T)) j _ S;refine⟨⟨E.1,by omega,by omega⟩,aj.of (some c.1) (by rw[Dd];exact E.2) λw9 h9=>?_⟩;have H:=H.ext h9;obtain⟨d,I⟩: ∃d,f[vz i j]? =some d:=⟨_,DA (by rw[Z];exact(C8.1 hc).1)⟩;have hcr:d.1=c.1:=by
   have h1:(dI f)[vz i j]? =some (some d.1):=by rw[Bx,I];rfl
   rw[BM,Bx,hc] at h1;exact(Option.some.inj (Option.some.inj h1)).symm
  have dg:vz i j≠i/\Te i (vz i j)=j:=by unfold vz Te;split<;>(first|omega|(constructor<;>(try split)<;>omega))
  have hsq:(ly bx i j a)[vz i j]? =some q:=by rw[qw m,ao λc=>by rw[dg.2] at c;exact Nat.lt_irrefl _ c.2]
  have hz:=CG I hsq;have hmz:(qP f (ly bx i j a)++M)[vz i j]? =some (cO d q):=by rw[In (C8.1 hz).1];exact hz
  have Ww:q.length≠16:=R j q p (by rw[Cp];exact m);have acO:=XS q (Ca m);refine⟨d.1,16,q.map NF,d.2.1,d.2.2,by rw[hcr],H.get hmz,by rw[B_];omega,?_⟩;have H:=H.put hmz (o':= .chan 16 ⟨(q++[a]).map NF⟩ false (d.2.1+1) d.2.2 false) trivial;have ez:(qP f (ly bx i j a)++M).set (vz i j) (d.1,.chan 16 ⟨(q++[a]).map NF⟩ false (d.2.1+1) d.2.2 false)=qP (f.set (vz i j) (d.1,d.2.1+1,d.2.2)) (ly bx i (j+1) a)++M:=by
   rw[N7 _ _ (C8.1 hz).1, <-Hy m];congr 1;exact Jh (c:=(d.1,d.2.1+1,d.2.2))
  rw[ez] at H;have ev:(q.map NF).append [Value.agg ⟨[aa ((op.length:Int)+1),aa t,aa g]⟩]=(q++[a]).map NF:=by
   rw[DJ,ha];rfl
  show∀u,Ext (w9.putObj d.1 (.chan 16 ⟨(q.map NF).append _⟩ false (d.2.1+1) d.2.2 false)) u-> _;rw[ev];refine λoh Ib=>⟨cs.length - 1 - (j+1),by omega,j+1,f.set (vz i j) (d.1,d.2.1+1,d.2.2),by omega,rfl,?_,by rw[Db];exact Z,?_,H.ext Ib⟩
  ·rw[av (by omega) (by omega)];omega
  ·rw[<-BM];refine G1 λy=>?_;rw[Bx,Bx];by_cases ej:vz i j=y
   ·subst ej;rw[Dl (C8.1 I).1,I];rfl
   ·rw[E5 ej]
 ·have X:j=cs.length - 1:=by have:=of_decide_eq_false c;omega
  subst X;refine enM H λw9 H=>k 0 f o h w9 Z BM Y ?_;rw[<-hcb];exact H.sub (List.Sublist.cons_cons _ (FY _ _))
theorem VH (H:cC D G w0 w L M) (n:Int) {K:Option Ab×Int×Unit->A2->Prop} (kb:n<1\/n>8-> ∀w1,cC D G w0 w1 L M->K (none,1,()) w1)
 (t:1<=n->n<=8-> ∀xb cs sb Lb w1,cs.length=n.toNat->dy eC sb (dI cs) Lb->cC D G w0 w1 ((xb,lU sb (none,0,0))::(Lb++L)) (qP cs (BT n.toNat [])++M)->K (some ⟨xb,0,none⟩,0,()) w1):
 aB AB 85 (.bG [.one .ptr,.one (.int .i64)]) [aa n] w K:=by
 refine λw1 h1=>ai (C:=U0) (aS:=vX) (Ax (Uk n w1 K) ?_);have H:=H.ext h1;refine ab (λc=>λk u=>kb (by simpa using c) k (H.ext u)) (λc=>alM H λxb k H=>?_);have l:1<=n/\n<=8:=by
  grind
 obtain⟨m,rfl⟩: ∃m:Nat,n=(m:Int):=⟨n.toNat,by omega⟩;refine⟨λn st d=> ∃(j:Nat) (cs:List CR) (s:Option Ab×Nat×Nat) (Ls:List (Nat×List AC)),j<=m/\n=m - j/\st.1=(j:Int)/\cs.length=j/\dy eC s (dI cs) Ls/\cC D G w0 d (Ls++((xb,lU s (none,0,0))::L)) (qP cs (BT j [])++M),⟨m,λd v=>⟨0,[],(none,0,0),[],FC _,rfl,rfl,rfl,dy.nil eC,H.ext v⟩⟩,?_⟩;clear H;rintro n ⟨i, _⟩ d ⟨j,cs,s,Ls,y,z,hi,f,p,H⟩;have hi:i=(j:Int):=hi;subst hi z;dsimp only;have A:(xb,lU s (none,0,0))∈Ls++((xb,lU s (none,0,0))::L):=Az _ B1;refine ab (λc=>?_) (λc=>?_)
 ·have y:j<m:=by have:=of_decide_eq_true c;omega
  refine⟨rfl,rfl,aj.k9 H.base A (show _=some (s.1,s.2.1,s.2.2) from rfl) λg h=>?_⟩;have H:=(H.ext h).alloc (o:= .chan 16 #[] false 0 0 false) trivial;obtain⟨c1,B⟩: ∃c1,c1=g.heap.size:=⟨_,rfl⟩;rw[<-B] at H ⊢;refine alM H λb J H N E=>?_;have H:=(H.ext E).perm (L':=Ls++((b,[.chan (some c1)])::(xb,lU s (none,0,0))::L)) B4;refine Fz H p rfl (q:=(some ⟨b,0,none⟩,1,1)) (ys:=[some c1]) rfl (rN (e:=eC) (x:=some c1) (H.base.cZ _ (Az _ B1))) rfl rfl (by grind) λr a O P H=>⟨rfl,rfl,?_⟩;have H:=(H.sub (H6 (BN _ _) a)).perm (L':=(xb,lU s (none,0,0))::(a++L)) B4.symm;refine Wv H 0 rfl rfl rfl λQ H R F=>⟨m - (j+1),by omega,j+1,cs++[(c1,0,0)],r,a,by omega,rfl,?_,by rw[Fo,f];rfl,?_,?_⟩
  ·rw[av (by omega) (by omega)];omega
  grind
  ·have I:qP (cs++[(c1,0,0)]) (BT (j+1) [])=qP cs (BT j [])++[cO (c1,0,0) []]:=by
    unfold qP;rw[N6,List.zipWith_append (by rw[f,Dc])];rfl
   rw[I,DB];refine((H.ext F).perm (L':=a++((xb,lU r (none,0,0))::L)) B4).lr ?_;exact B4
 ·have:j=m:=by have:=of_decide_eq_false c;omega
  subst this;refine λg h=>t l.1 l.2 xb cs s Ls g (by rw[Dd];exact f) p ?_;rw[Dd];exact(H.ext h).perm B4.symm
end
end Go.Proofs.YtlcenllcmeebhaaGreat.Mu
namespace Go.Proofs.YtlcenllcmeebhaaGreat
set_option maxRecDepth 100000
open Go.RX D
def mL (g:Nat->Option GV):Option Nat:=((AR 16).find? λi=>(g (i+1)).isNone).map (· +1)
theorem n6 {g:Nat->Option GV} {v:Nat}:mL g=some v<->(1<=v/\v<=16)/\g v=none/\ ∀u,1<=u->u<v->(g u).isSome:=by
 unfold mL;rw[Ny];constructor
 ·rintro⟨i,hi,rfl⟩;rw[NU] at hi;obtain⟨h1,a,b⟩:=hi;rw[DG] at a;refine⟨by omega,by simpa using h1,λu c d=>?_⟩;have:=b (u - 1) (by omega);rw[show u - 1+1=u by omega] at this;simpa using this
 ·rintro⟨h1,a,b⟩;refine⟨v - 1,?_,by omega⟩;rw[NU];refine⟨by rw[show v - 1+1=v by omega,a];rfl,DG.2 (by omega),λj e=>?_⟩;have:=b (j+1) (by omega) (by omega);simpa using this
theorem HA {g:Nat->Option GV}:mL g=none<-> ∀u,1<=u->u<=16->(g u).isSome:=by
 unfold mL;rw[O2,Hr];constructor
 ·intro h u b c;have:=h (u - 1) (DG.2 (by omega));rw[show u - 1+1=u by omega] at this;cases a:g u with
  |none=>rw[a] at this;exact absurd rfl this
  |some x=>rfl
 ·intro h i hi e;have:=h (i+1) (by omega) (by have:=DG.1 hi;omega);rw[Option.isNone_iff_eq_none.1 e] at this;cases this
def mM (h:HS):Int:=match mL h.g with
 |none=>3
 |some v=>rA h.s (v:Int)
def AQ (h:HS):Int:=match mL h.g with
 |none=>0
 |some v=>(v:Int)
def gR (h:HS):HS:=match mL h.g with
 |none=>h
 |some v=>if rA h.s (v:Int)=0 then{h with s:=iW h.s (v:Int) λ_=>0,g:=bz h.g v (some ⟨eK h.s (v:Int),[]⟩)} else h
theorem n7 (A:Nat->GA) (g:Nat->Option GV):(mr A g).length=17:=by
 unfold mr;rw[B_,List.length_range]
theorem Ji (Q:Sys) (X:HX) (A:Nat->GA) (g:Nat->Option GV):(fg Q X A g).length=21:=by
 unfold fg;rw[Fo,n7];rfl
theorem Jj {Q:Sys} {X:HX} {A A':Nat->GA} {g g':Nat->Option GV} {v:Nat} (hv:v<17) (h: ∀j,j≠v->A' j=A j/\g' j=g j):(fg Q X A g).set (4+v*1) (ag (kL A' g' v))=fg Q X A' g':=by
 have e:(mr A g).set v (ag (kL A' g' v))=mr A' g':=by
  apply G1;intro i;by_cases hi:i<17
  ·rw[vf hi];by_cases e:v=i
   ·subst e;rw[Dl (by rw[n7];exact hi)]
   ·rw[E5 e,vf hi];obtain⟨h1,a⟩:=h i (λe'=>e e'.symm);unfold kL;rw[h1,a]
  ·rw[NY (by rw[Db,n7];omega),NY (by rw[n7];omega)]
 unfold fg;rw[I2 _ _ (by show 4<=4+v*1;omega)];rw[<-e];show _++(mr A g).set (4+v*1 - 4) _= _;rw[show 4+v*1 - 4=v by omega]
section
variable {Q:Sys} {X:HX} {D G:List Nat} {w0 w:A2} {h:HS} {L:List (Nat×List AC)} {K:RS->A2->Prop}
theorem abp {A:Nat->GA} (W:Dm A h) {v:Nat} (hv:1<=v/\v<=16) (f:h.g v=none) {s':WD} {r:Int} {bg bt bm l m:Nat} {n la:List AC} {j:A2}
 (H:SM Q D G w0 j s' ((bg,[ag (ae bt),.map (some bm)])::(bt,oV Q (v:Int) r false)::(l,n)::(m,la)::(X.hb,(fg Q X A h.g).set (4+v*1) (ag (ae bg)))::(X.gb,my X.uB h.gr.length X.c)::(X.uB,flat eG h.gr++X.rest)::(X.pb,Po.gK 4 h.po)::(a_ Q A h.g (AR 17)++L)) ((bm,.map #[] 0)::dj A h.g (AR 17))):
 jk Q X D G w0 j {h with s:=s',g:=bz h.g v (some ⟨r,[]⟩)} L:=by
 have d:=Bu A h.g v ⟨bg,bt,bm,0,[]⟩ (some ⟨r,[]⟩);have o:kL (oP A v ⟨bg,bt,bm,0,[]⟩) (bz h.g v (some ⟨r,[]⟩)) v=some ⟨bg,0,none⟩:=by
  unfold kL;rw[fH,qu]
 refine⟨oP A v ⟨bg,bt,bm,0,[]⟩,⟨λ{i x} a=>?_,λ{i x} a=>?_,W.gl,W.pt,W.gk⟩,?_⟩
 ·have a:bz h.g v (some ⟨r,[]⟩) i=some x:=a;unfold bz at a;by_cases e:i=v
  ·omega
  ·rw[ao e] at a;exact W.jj a
 ·have a:bz h.g v (some ⟨r,[]⟩) i=some x:=a;unfold bz at a;unfold oP;by_cases e:i=v
  ·rw[ax e] at a ⊢;cases a;exact qE.nil
  ·rw[ao e] at a ⊢;exact W.mp a
 ·have k:=Jj (Q:=Q) (X:=X) (by omega:v<17) d;rw[o] at k;rw[k] at H;refine((H.sub ((((BN _ _).trans (BN _ _)).cons_cons _).cons_cons _)).perm ?_).lr ?_
  ·have p1:(a_ Q (oP A v ⟨bg,bt,bm,0,[]⟩) (bz h.g v (some ⟨r,[]⟩)) (AR 17)).Perm ([(bg,[ag (ae bt),.map (some bm)]),(bt,oV Q (v:Int) r false)]++a_ Q A h.g (AR 17)):=by
    have b:=wx (Q:=Q) (A:=oP A v ⟨bg,bt,bm,0,[]⟩) (by omega:v<17) (fH h.g v (some ⟨r,[]⟩));rw[wy d] at b;have p:=(zL (Q:=Q) (A:=A) (by omega:v<17) f).symm;have e:gP Q (oP A v ⟨bg,bt,bm,0,[]⟩) v ⟨r,[]⟩=[(bg,[ag (ae bt),.map (some bm)]),(bt,oV Q (v:Int) r false)]:=by
     unfold gP;rw[qu]
    rw[e] at b;exact b.trans (p.append_left _)
   refine(((((p1.append_right L).cons _).cons _).cons _).cons _).trans ?_;exact(Df (l₁:=[_, _, _, _]) (l₂:=[_, _])).append_right (a_ Q A h.g (AR 17)++L)
  ·have b:=l7 (A:=oP A v ⟨bg,bt,bm,0,[]⟩) (by omega:v<17) (fH h.g v (some ⟨r,[]⟩));rw[pQ d,qu] at b;exact b.trans ((zK (A:=A) (by omega:v<17) f).symm.cons _)
theorem Ml (H:jk Q X D G w0 w h L) (F: ¬ (h.s.1.length:Int)<16*(h.s.2.length:Int)) (v k a b c:Int) (kk: ∀V x,(mM h=0->V=AQ h)->jk Q X D G w0 x (gR h) L->K (V,mM h,()) x):
 aE AB 121 (.el (.agg iS)) [ag (ae X.hb),aa v,.agg ⟨gf k a b c⟩] w K:=by
 obtain⟨A,W,H⟩:=H;obtain⟨I,S,J⟩:=H.call;refine aR (C:=V0) (aS:=oC) (Ax (Fc _ v k a b c w K) ?_);refine S.al λM x S=>S.al λN w3 S=>?_;refine⟨λn q w'=>(1<=q.1/\q.1<=17/\(n:Int)=17 - q.1)/\(∀u:Nat,1<=u->(u:Int)<q.1->(h.g u).isSome)/\bq Q [] I w w' h.s ((N,[ay 0,aa 0])::(M,gf k a b c)::dS Q X A h (a_ Q A h.g (AR 17)++L)),⟨16,λO P=>⟨by decide,λu l p=>(by dsimp only at p;omega),S.ext P⟩⟩,?_⟩;clear S;rintro n ⟨q,u⟩ O ⟨⟨R,T,U⟩,r,S⟩;dsimp only at R T U r ⊢;obtain⟨i,hi⟩: ∃i:Nat,q=(i:Int):=⟨q.toNat,by omega⟩;subst hi;rw[show((i:Int)).toNat=i from rfl];refine ab (λd=>?_) (λd=>⟨trivial,S.res (j:=0) rfl 0 3 λt S=>?_⟩)
 ·have d:(i:Int)<=16:=by simpa using d
  have hc:=S.pz (X:=X) (A:=A) (g:=h.g) (B2 _ (B2 _ B1)) (v:=(i:Int)) ⟨by omega,d⟩;rw[show((i:Int)).toNat=i from rfl] at hc;refine⟨rfl,rfl,⟨rfl,by omega,by show(i:Int)<((17:Nat):Int);omega⟩,aj.of _ hc ?_⟩;unfold kL;cases z:h.g i with
  |some y=>
   refine aD rfl λt Y=>⟨n - 1,by omega,⟨?_,?_,?_⟩,λu l p=>?_,S.ext Y⟩
   ·rw[av (by omega) (by omega)];omega
   ·rw[av (by omega) (by omega)];omega
   ·rw[av (by omega) (by omega)];omega
   ·rw[av (by omega) (by omega)] at p;by_cases e:u=i
    ·subst e;rw[z];rfl
    ·exact r u l (by omega)
  |none=>
   have m:mL h.g=some i:=n6.2 ⟨by omega,z,λu l p=>r u l (by omega)⟩;have cE:mM h=rA h.s (i:Int):=by unfold mM;rw[m]
   have Z:AQ h=(i:Int):=by unfold AQ;rw[m]
   have B:gR h=if rA h.s (i:Int)=0 then{h with s:=iW h.s (i:Int) λ_=>0,g:=bz h.g i (some ⟨eK h.s (i:Int),[]⟩)} else h:=by unfold gR;rw[m]
   have eu:aG .u64 (i:Int)=(i:Int):=eJ ⟨by omega,by omega⟩;rw[cE,Z,B] at kk;refine an rfl ⟨rfl,rfl,aj.of _ (S.fL (X:=X) (A:=A) (g:=h.g) (by simp) (n:=0) rfl) ⟨rfl,rfl,aj.of _ (S.fL (X:=X) (A:=A) (g:=h.g) (by simp) (n:=1) rfl) ?_⟩⟩;refine S.new (i:Int) (λe=>absurd e F) (λ_ f t S=>?_) (λ_ f bt t S=>?_)
   ·rw[ao f] at kk;refine an (by simpa using f) (S.res (j:=0) rfl _ _ λE S=>kk _ E (λe=>absurd e f) ⟨A,W,J ?_⟩);rw[Jb f] at S;exact S.tail.tail
   ·rw[ax f,f] at kk;refine aD rfl λE h6=>?_;have H:=((J S).ext h6).alloc (o:= .map #[] 0) trivial;obtain⟨bm,Wg⟩: ∃bm,bm=E.heap.size:=⟨_,rfl⟩;rw[<-Wg] at H ⊢;obtain⟨G2,S,J2⟩:=H.call;refine S.al λbg w7 S=>⟨rfl,rfl,⟨rfl,by omega,by show(i:Int)<((17:Nat):Int);omega⟩,?_⟩;rw[aX];refine S.Co 4 rfl rfl (by rw[Nat.blt_eq,Ji];omega) λw8 S=>S.res (j:=2) rfl _ _ λw9 S=>kk _ w9 (λ_=>eu) (abp (bg:=bg) (bt:=bt) (bm:=bm) W (by omega) z (J2 S))
 ·have d: ¬ (i:Int)<=16:=by simpa using d
  have m:mL h.g=none:=HA.2 λu l p=>r u l (by omega);have cE:mM h=3:=by unfold mM;rw[m]
  have B:gR h=h:=by unfold gR;rw[m]
  rw[cE,B] at kk;exact kk _ t (λe=>absurd e (by decide)) ⟨A,W,J S.tail.tail⟩
end
theorem Jk (s:WD) (o:Int) (G:Int->Int):(iW s o G).1.length=s.1.length:=by
 unfold iW;dsimp only;split
 ·exact gJ _ _ _ _
 ·rfl
theorem tE (s:WD) (o r p:Int):(fl s o r p).1.length=s.1.length:=by
 unfold fl;split
 ·rfl
 ·split
  ·exact xH _ _ _ _ _
  ·exact Jk _ _ _
theorem BA: ∀(l:List PT) (s:WD),(jt l s).1.length=s.1.length
 |[],s=>rfl
 |[x],s=>rfl
 |x::y::l,s=>by
  rw[jt];split
  ·rw[BA (y::l)];exact cF _ _ _
  ·rfl
theorem tF (s:WD) (o r:Int) (gone:Bool) (p:Int):(nq s o r gone p).1.length=s.1.length:=by
 unfold nq;split
 ·split
  ·rw[BA];show(dO _ _ _).length= _;rw[cF,tE]
  ·exact tE _ _ _ _
 ·rfl
def vA (h:HS) (v:Int):List TK:=match h.g v.toNat with|some x=>x.tk|none=>[]
def yw (v:Int) (h:HS):HS:=dw h v (Ao ((vA h v).map (·.1))) (Nk h v (Ao ((vA h v).map (·.1)))).1 (Nk h v (Ao ((vA h v).map (·.1)))).2
def e9 (v:Int):Nat->HS->HS
 |0,h=>h
 |n+1,h=>e9 v n (yw v h)
def s7 (ds:List DT) (v:Int):Bool:=(fW ds v).any λi=>decide ((mz ds (i:Int)).2.2.1>0)
def uT (v:Int) (x:List DT×Int) (i:Nat):List DT×Int:=if(mz x.1 (i:Int)).1=4 then(dI x.1 (i:Int) (aP 5 v),x.2+1) else x
def Cb (ds:List DT) (v:Int):List DT×Int:=(fW ds v).foldl (uT v) (ds,0)
def vL (h:HS) (v:Int):HS where
 s:=((cG h.s (aY h.g v) false).1,(Cb (cG h.s (aY h.g v) false).2 v).1)
 g:=bz h.g v.toNat none
 gr:=cM h.gr v
 po:=(Po.cG 4 h.po v).2
def Cc (h:HS) (a:Int):Int:=if aW h.g a=true then(if s7 h.s.2 a=true then 9 else 0) else 4
def sV (h:HS) (a:Int):HS:=if aW h.g a=true then(if s7 h.s.2 a=true then h else vL (e9 a (vA h a).length h) a) else h
def YB (h:HS) (a:Int):Int:=if aW h.g a=true then(if s7 h.s.2 a=true then 0 else(Cb (cG (e9 a (vA h a).length h).s (aY (e9 a (vA h a).length h).g a) false).2 a).2) else 0
theorem Mm (gs:List GT) (v:Int):(cM gs v).length=gs.length:=by unfold cM;rw[B_]
theorem sd (h:HS) (v p id f w:Int):aW (dw h v p id f).g w=aW h.g w:=by
 unfold aW dw bz;dsimp only;by_cases e:w.toNat=v.toNat
 ·rw[e,ax rfl];cases h.g v.toNat<;>rfl
 ·rw[ao e]
theorem HD (h:HS) (v p id f w:Int):aY (dw h v p id f).g w=aY h.g w:=by
 unfold aY;rw[sd];unfold dw bz;dsimp only;by_cases e:w.toNat=v.toNat
 ·rw[e,ax rfl];cases h.g v.toNat<;>rfl
 ·rw[ao e]
theorem EE {h:HS} {v p id f:Int}:vA (dw h v p id f) v=(vA h v).filter λt=> !(t.1==p):=by
 unfold vA dw bz;dsimp only;rw[ax rfl];cases h.g v.toNat<;>rfl
section
variable {Q:Sys} {X:HX} {D G:List Nat} {w0 w:A2} {h:HS} {L:List (Nat×List AC)} {K:RS->A2->Prop}
theorem bq.aav {s:WD} {L0 rows:List (Nat×List AC)} (S:bq Q D G w0 w s L0) {e:El} {x:Option Ab×Nat×Nat} {l:List e.T} (a:oq e rows x l) (b: ∀x∈rows,x∈L0):Sl w e x.1 l:=by
 obtain⟨g1,d,f,g,ca,la,H⟩:=S;exact a.sl H λx c=>B2 _ (B2 _ (B2 _ (B2 _ (b x c))))
theorem ZF {A:Nat->GA} {v:Nat} {x:GV} (hv:v<17) (a:h.g v=some x) (T:List (Nat×List AC)):
 (gP Q A v x++(T++dS Q X A h (a_ Q A h.g ((AR 17).erase v)++L))).Perm (T++dS Q X A h (a_ Q A h.g (AR 17)++L)):=by
 have p1:=(wx (Q:=Q) (A:=A) hv a).symm;have p2:=((((p1.append_right L).cons (X.pb,Po.gK 4 h.po)).cons (X.uB,flat eG h.gr++X.rest)).cons (X.gb,my X.uB h.gr.length X.c)).cons (X.hb,fg Q X A h.g);refine List.Perm.trans ?_ (p2.append_left T);have e:T++dS Q X A h ((gP Q A v x++a_ Q A h.g ((AR 17).erase v))++L)=(T++[(X.hb,fg Q X A h.g),(X.gb,my X.uB h.gr.length X.c),(X.uB,flat eG h.gr++X.rest),(X.pb,Po.gK 4 h.po)])++(gP Q A v x++(a_ Q A h.g ((AR 17).erase v)++L)):=by simp
 have b:gP Q A v x++(T++dS Q X A h (a_ Q A h.g ((AR 17).erase v)++L))=gP Q A v x++((T++[(X.hb,fg Q X A h.g),(X.gb,my X.uB h.gr.length X.c),(X.uB,flat eG h.gr++X.rest),(X.pb,Po.gK 4 h.po)])++(a_ Q A h.g ((AR 17).erase v)++L)):=by simp
 show List.Perm _ (T++dS Q X A h ((gP Q A v x++a_ Q A h.g ((AR 17).erase v))++L));rw[e,b];exact Nl _ _ _
end
theorem EF (ds:List DT) (v:Int):(fW ds v).length<=ds.length:=by grind[fW]
section
variable {Q:Sys} {X:HX} {D G:List Nat} {w0 w:A2} {h:HS} {L:List (Nat×List AC)} {K:RS->A2->Prop}
theorem abq {A:Nat->GA} (W:Dm A h) {v:Nat} {x:GV} (hv:v<17) (a:h.g v=some x) {s':WD} {z6:List GT} {Nn:List Po.PT} (d:z6.length=h.gr.length) (n:om z6) (o:Po.lJ 4 Nn) {f:A2} {p q r t:Nat×List AC}
 (H:SM Q D G w0 f s' (p::q::r::t::(X.hb,(fg Q X A h.g).set (4+v*1) (ag none))::(X.gb,my X.uB h.gr.length X.c)::(X.uB,flat eG z6++X.rest)::(X.pb,Po.gK 4 Nn)::(a_ Q A h.g ((AR 17).erase v)++L)) (dj A h.g (AR 17))):
 jk Q X D G w0 f {s:=s',g:=bz h.g v none,gr:=z6,po:=Nn} L:=by
 have b: ∀j,j≠v->A j=A j/\bz h.g v none j=h.g j:=λj u=>⟨rfl,ao u⟩;have w:kL A (bz h.g v none) v=none:=by
  unfold kL;rw[fH]
 refine⟨A,⟨λ{i x} a=>?_,λ{i x} a=>?_,d.trans W.gl,o,n⟩,?_⟩
 ·have a:bz h.g v none i=some x:=a;unfold bz at a;by_cases e:i=v
  ·grind
  ·rw[ao e] at a;exact W.jj a
 ·have a:bz h.g v _ i=some x:=a;unfold bz at a;by_cases e:i=v
  grind
  ·rw[ao e] at a;exact W.mp a
 ·have k:=Jj (Q:=Q) (X:=X) hv b;rw[w] at k;rw[k] at H;have H:=((((H.sub (BN _ _)).sub (BN _ _)).sub (BN _ _)).sub (BN _ _));have H:=(H.lr (l7 hv a).symm).FR (BN _ _);have l:=zL (Q:=Q) (A:=A) hv (fH h.g v _);rw[wy b] at l;have m:=zK (A:=A) hv (fH h.g v none);rw[pQ b] at m;refine(H.perm ?_).lr m;show List.Perm ((X.hb,fg Q X A _)::(X.gb,my X.uB z6.length X.c)::(X.uB,flat eG z6++X.rest)::(X.pb,Po.gK 4 Nn)::(a_ Q A _ _++L)) _;rw[d];exact((((l.append_right L).cons _).cons _).cons _).cons _
theorem EG {l:List Int} (b:l≠[]) (h: ∀x∈l,x<65536):Ao l∈l:=by
 obtain⟨d,c,a⟩:=zd l 65536;rcases a with a|a
 ·obtain⟨x,l',rfl⟩:=List.exists_cons_of_ne_nil b;have:=c x
  grind
 ·exact a
theorem HE (H:jk Q X D G w0 w h L) (v k:Int) {a:Int} (b c:Int) (ha:0<=a) (hF:ND Q h.s) (Nj:aW h.g a=true->0<=aY h.g a/\aY h.g a<4096) (z5: ∀t∈vA h a,t.1<65536)
 (kk: ∀w2,jk Q X D G w0 w2 (sV h a) L->K (YB h a,Cc h a,()) w2):
 aE AB 122 (.el (.agg iS)) [ag (ae X.hb),aa v,.agg ⟨gf k a b c⟩] w K:=by
 obtain⟨A,W,H⟩:=H;obtain⟨G',S,J⟩:=H.call;refine aR (C:=V0) (aS:=na) (Ax (CY _ v k a b c w K) ?_);unfold Cc YB sV at kk;refine S.al λU w2 S=>S.al λV w3 S=>⟨rfl,S.cm 1 rfl rfl ⟨_,Ey S (X:=X) (A:=A) (g:=h.g) (by simp) ha,?_⟩⟩;cases O:aW h.g a with
 |false=>
  rw[O,ao (by decide),ao (by decide),ao (by decide)] at kk;exact aD rfl ⟨trivial,S.res (j:=0) rfl 0 4 λw4 S=>kk w4 ⟨A,W,J S.tail.tail⟩⟩
 |true=>
 rw[O,ax rfl,ax rfl,ax rfl] at kk;obtain⟨x,hx,qN,hv,vy,sw⟩:=bR O;have ea:aG .i64 a=a:=bM ⟨ha,by omega⟩;refine an rfl ⟨rfl,S.cm 1 rfl rfl ?_⟩;rw[ea];refine⟨rfl,rfl,aj.of _ (S.fL (X:=X) (A:=A) (g:=h.g) (by simp) (n:=1) rfl) (S.owned a λr rows w4 S E=>?_)⟩;have hlen:(fW h.s.2 a).length<=4096:=J8 (EF _ _) S.le;obtain⟨xp,xn,xc⟩:=r;have hxl:xn=(fW h.s.2 a).length:=by have:=E.1;rw[B_] at this;exact this
 subst hxl;refine⟨λn q w'=> ∃m:Nat,q.1=(m:Int)/\n+m=(fW h.s.2 a).length/\(∀i,i<m-> ∀f,(fW h.s.2 a)[i]? =some f-> ¬ (mz h.s.2 (f:Int)).2.2.1>0)/\bq Q [] G' w w' h.s (((V,[ay 0,aa 0])::(U,gf k a b c)::dS Q X A h (a_ Q A h.g (AR 17)++L))++rows),⟨(fW h.s.2 a).length,λw5 h5=>⟨0,rfl,rfl,λi hi=>absurd hi (Ns i),S.ext h5⟩⟩,?_⟩;clear S;rintro n ⟨q,u⟩ w5 ⟨m,Z,hnm,wK,S⟩;dsimp only at Z ⊢;subst Z;refine ab (λo=>?_) (λo=>?_)
 ·have P:m<(fW h.s.2 a).length:=by simpa using o
  obtain⟨f,NE⟩: ∃f,f=(fW h.s.2 a)[m]:=⟨_,rfl⟩;have M:(fW h.s.2 a)[m]? =some f:=by rw[NE];exact DA P
  have JU:((fW h.s.2 a).map λi=>((i:Nat):Int))[m]? =some ((f:Nat):Int):=by rw[Bx,M];rfl
  have wL:=(S.aav E (λx hx=>Az _ hx)) m _ JU;refine⟨⟨wL.1,by omega,by omega⟩,aj.of _ wL.2 ⟨rfl,rfl,aj.of _ (S.fL (X:=X) (A:=A) (g:=h.g) (by simp) (n:=1) rfl) ⟨(mz h.s.2 (f:Int),xq h.s.2 (f:Int),()),S.ofq (f:Int),S.al λbd w6 S=>S.ff 0 rfl rfl rfl λw7 S=>⟨rfl,S.cm 0 rfl rfl ?_⟩⟩⟩⟩;refine ab (λF=>⟨trivial,S.res (j:=1) rfl 0 9 λw8 S=>?_⟩) (λF=>λw8 h8=>⟨n - 1,by omega,m+1,?_,by omega,λi hi g I=>?_,(S.ext h8).tail⟩)
  ·have F:(mz h.s.2 (f:Int)).2.2.1>0:=by simpa using F
   have hb:s7 h.s.2 a=true:=by
    unfold s7;exact GS.2 ⟨f,Ca M,by simpa using F⟩
   rw[hb,ax rfl,ax rfl,ax rfl] at kk;exact kk w8 ⟨A,W,J ((S.tail.sub (Ga _ _)).tail.tail)⟩
  ·rw[av (by omega) (by omega)];omega
  ·by_cases e:i=m
   ·subst e;rw[M] at I;cases I;simpa using F
   ·exact wK i (by omega) g I
 have P: ¬ m<(fW h.s.2 a).length:=by simpa using o
 have hb: ¬ s7 h.s.2 a=true:=by
  unfold s7;rw[GS];rintro⟨f,M,hd⟩;obtain⟨i,hi⟩:=B5 M;have:i<(fW h.s.2 a).length:=(C8.1 hi).1;exact wK i (by omega) f hi (by simpa using hd)
 rw[ao hb,ao hb,ao hb] at kk;have S:=S.sub (Ga _ rows);clear wK hnm E o P;obtain⟨g1, _,g3, _⟩:=S.sT (X:=X) (A:=A) (g:=h.g) (by simp) (bX W [_, _]) O;refine⟨rfl,rfl,⟨rfl,by omega,by show a<((17:Nat):Int);omega⟩,aj.of _ g1 ?_⟩;refine⟨λn _ w'=> ∃(B:Nat->GA) (h':HS),e9 a n h'=e9 a (vA h a).length h/\(vA h' a).length=n/\aW h'.g a=true/\aY h'.g a=aY h.g a/\ND Q h'.s/\(∀t∈vA h' a,t.1<65536)/\(B a.toNat).bg=(A a.toNat).bg/\Dm B h'/\SM Q D G w0 w' h'.s ([(V,[ay 0,aa 0]),(U,gf k a b c)]++dS Q X B h' (a_ Q B h'.g (AR 17)++L)) (dj B h'.g (AR 17)),⟨(vA h a).length,λw6 h6=>⟨A,h,rfl,rfl,O,rfl,hF,z5,rfl,W,(J S).ext h6⟩⟩,?_⟩;clear S g1 g3 J H;rintro n u w6 ⟨B,h',I,hn,zY,S9,Z7,YC,aaw,d,H⟩;obtain⟨x',z,YD,Tn, _, _⟩:=bR zY;have J_:a.toNat<17:=by omega
 have Y:vA h' a=x'.tk:=by unfold vA;rw[z]
 rw[<-aaw];obtain⟨G2,S,J2⟩:=H.call;have mem:(X.hb,fg Q X B h'.g)∈[(V,[ay 0,aa 0]),(U,gf k a b c)]++dS Q X B h' (a_ Q B h'.g (AR 17)++L):=Az _ B1;obtain⟨_, _,g3, _⟩:=S.sT (X:=X) (A:=B) (g:=h'.g) mem (bX d _) zY;have Ay:bH w6 (B a.toNat).bm ⟨(B a.toNat).es⟩ (B a.toNat).ck:=H.get (fI d _ _ z);refine⟨rfl,rfl,aj.of _ g3 ⟨_,⟨_, _, _,rfl,Ay,rfl⟩,?_⟩⟩;have iz:(⟨(B a.toNat).es⟩:Array B9).size=n:=by
  rw[<-hn,Y];exact(d.mp z).len
 rw[iz];refine ab (λo=>?_) (λo=>?_)
 ·have o:n>0:=by
   have:(n:Int)>0:=by simpa using o
   omega
  have E:((B a.toNat).bg,[ag (some ⟨(B a.toNat).bt,0,none⟩),.map (some (B a.toNat).bm)])∈[(V,[ay 0,aa 0]),(U,gf k a b c)]++dS Q X B h' (a_ Q B h'.g (AR 17)++L):=bX d _ _ _ z _ B1;have dg:x'.tk.map (·.1)≠[]:=λe=>by
   have:=congrArg FG e;rw[B_, <-Y,hn] at this;simp at this;omega
  have F2:=EG dg (λy hy=>by
   obtain⟨t,ht,rfl⟩:=B3.1 hy;exact YC t (by rw[Y];exact ht))
  refine Mf H E (fI d _ _ z) (d.mp z) λw7 H=>?_;obtain⟨p,hp⟩: ∃p,p=Ao (x'.tk.map (·.1)):=⟨_,rfl⟩;rw[<-hp] at F2 ⊢;obtain⟨t,ht,htp⟩:=B3.1 F2;have qK:cg x'.tk p=some t.2:=(jJ (a:=t.2.1) (b:=t.2.2) (d.mp z).2.2.2).2 (by rw[<-htp];exact ht);have hX:Nk h' a p=t.2:=by unfold Nk;rw[z];dsimp only;rw[qK];rfl
  have TB:yw a h'=dw h' a p t.2.1 t.2.2:=by
   unfold yw;rw[Y, <-hp,hX]
  refine ED d (T:=[(V,[ay 0,aa 0]),(U,gf k a b c)]) H zY Z7 (by rw[S9];exact Nj O) z qK λB' w8 hb W'' H=>λw9 h9=>⟨n - 1,by omega,B',dw h' a p t.2.1 t.2.2,?_,?_,?_,?_,?_,?_,?_,W'',H.ext h9⟩
  ·rw[<-TB, <-I];obtain⟨m,rfl⟩: ∃m,n=m+1:=⟨n - 1,by omega⟩;rfl
  ·rw[EE,Y];obtain⟨r,M,Fv⟩:=(d.mp z).find p;rw[qK] at Fv;obtain⟨i, _,hi,hM⟩:=Fv;rw[<-hM.len,Ix,ax hi];have:=(d.mp z).len;rw[Y] at hn;omega
  ·rw[sd];exact zY
  ·rw[HD];exact S9
  ·have e:(dw h' a p t.2.1 t.2.2).s.1.length=h'.s.1.length:=tF _ _ _ _ _;exact⟨by rw[e];exact Z7.1,by rw[e];exact Z7.2⟩
  ·intro t' p8;rw[EE] at p8;exact YC t' (Ij.1 p8).1
  ·rw[hb,aaw]
 have Ts:n=0:=by
  have: ¬ (n:Int)>0:=by simpa using o
  omega
 subst Ts;have I:h'=e9 a (vA h a).length h:=I;rw[<-I] at kk;clear I iz o g3 S J2 mem Ay hb YC hn Z7 z5;have ach:0<=x'.root/\x'.root<4096:=by rw[<-YD,S9];exact Nj O
 rw[YD] at kk;have H:=H.perm (ZF J_ z _);obtain⟨G2,S,J2⟩:=H.call;refine⟨rfl,rfl,aj.of _ (S.fL (X:=X) (A:=B) (g:=h'.g) (Ca (i:=4) rfl) (n:=2) rfl) (S.abi 5 6 rfl rfl (by rw[d.gl];decide) (by rw[d.gl];decide) (by decide) a λn2 w8 S=>⟨rfl,rfl,aj.of _ (S.fL (X:=X) (A:=B) (g:=h'.g) (Ca (i:=4) rfl) (n:=3) rfl) (S.abm 7 rfl d.pt a λw9 S=>⟨rfl,rfl,?_⟩)⟩)⟩;refine S.cm 0 rfl rfl (S.drop 1 rfl ach λy abr oh S _=>?_);have S:=S.sub (Ga _ abr);refine⟨rfl,rfl,aj.of _ (S.fL (X:=X) (A:=B) (g:=h'.g) (Ca (i:=4) rfl) (n:=1) rfl) (S.owned a λr2 Ow nh S E=>?_)⟩;obtain⟨s1,BO⟩: ∃s1,s1=cG h'.s x'.root false:=⟨_,rfl⟩;have hgo:vL h' a={s:=(s1.1,(Cb s1.2 a).1),g:=bz h'.g a.toNat none,gr:=cM h'.gr a,po:=(Po.cG 4 h'.po a).2}:=by
  unfold vL;rw[YD, <-BO]
 rw[<-BO] at S kk E;rw[hgo] at kk;obtain⟨xp2,xn2,xc2⟩:=r2;have aci:xn2=(fW s1.2 a).length:=by have:=E.1;rw[B_] at this;exact this
 subst aci;have DO:(fW s1.2 a).length<=4096:=J8 (EF _ _) S.le;obtain⟨l,Ig⟩: ∃l,l=fW s1.2 a:=⟨_,rfl⟩;have FQ:Cb s1.2 a=l.foldl (uT a) (s1.2,0):=by unfold Cb;rw[Ig]
 rw[<-Ig] at E DO ⊢;obtain⟨R,hR⟩: ∃R,R=Cb s1.2 a:=⟨_,rfl⟩;rw[<-hR] at kk;rw[<-hR] at FQ;obtain⟨RL,hRL⟩: ∃RL:List (Nat×List AC),RL=((B a.toNat).bg,[ag (some ⟨(B a.toNat).bt,0,none⟩),.map (some (B a.toNat).bm)])::((B a.toNat).bt,oV Q ((a.toNat:Nat):Int) x'.root true)::(V,[ay 0,aa 0])::(U,gf k a b c)::(X.hb,fg Q X B h'.g)::(X.gb,my X.uB h'.gr.length X.c)::(X.uB,flat eG (cM h'.gr a)++X.rest)::(X.pb,Po.gK 4 (Po.cG 4 h'.po a).2)::(a_ Q B h'.g ((AR 17).erase a.toNat)++L):=⟨_,rfl⟩;have S:bq Q [] G2 w6 nh s1 (RL++Ow):=by rw[hRL];exact S
 have aax: ∀{T:List (Nat×List AC)},(X.hb,fg Q X B h'.g)∈RL++T:=λ{T}=>C6 _ (by rw[hRL];exact Ca (i:=4) rfl);refine⟨λn q w'=> ∃(m:Nat) (ds:List DT),q.2.1=(m:Int)/\n+m=l.length/\(0<=q.1/\q.1<=m)/\(l.drop m).foldl (uT a) (ds,q.1)=R/\bq Q [] G2 w6 w' (s1.1,ds) (RL++Ow),⟨l.length,λC9 Tv=>⟨0,s1.2,rfl,rfl,⟨by decide,by decide⟩,FQ.symm,S.ext Tv⟩⟩,?_⟩;clear S;rintro n ⟨cnt,q,u⟩ C9 ⟨m,ds,Z,hnm,hcm,N,S⟩;dsimp only at Z hcm N ⊢;subst Z;refine ab (λo=>?_) (λo=>?_)
 ·have P:m<l.length:=by simpa using o
  obtain⟨f,NE⟩: ∃f,f=l[m]:=⟨_,rfl⟩;have M:l[m]? =some f:=by rw[NE];exact DA P
  have JU:(l.map λi=>((i:Nat):Int))[m]? =some ((f:Nat):Int):=by rw[Bx,M];rfl
  have wL:=(S.aav E (λx hx=>Az _ hx)) m _ JU;rw[JV P, <-NE,HB] at N;refine⟨⟨wL.1,by omega,by omega⟩,aj.of _ wL.2 ⟨rfl,rfl,aj.of _ (S.fL (X:=X) (A:=B) (g:=h'.g) aax (n:=1) rfl) ⟨(mz ds (f:Int),xq ds (f:Int),()),S.ofq (f:Int),S.al λbd Nh S=>S.ff 0 rfl rfl rfl λHY S=>⟨rfl,S.cm 0 rfl rfl ?_⟩⟩⟩⟩;refine ab (λF=>⟨rfl,rfl,aj.of _ (S.fL (X:=X) (A:=B) (g:=h'.g) (B2 _ aax) (n:=1) rfl) (S.TR (f:Int) 5 a λXB S=>λTt Ww=>⟨n - 1,by omega,m+1, _,?_,by omega,?_,?_,(S.ext Ww).tail⟩)⟩) (λF=>λTt Ww=>⟨n - 1,by omega,m+1,ds,?_,by omega,?_,?_,(S.ext Ww).tail⟩)
  ·show aI .i64 (m:Int) 1= _;rw[av (by omega) (by omega)];omega
  ·show 0<=aI .i64 cnt 1/\aI .i64 cnt 1<=((m+1:Nat):Int);rw[av (by omega) (by omega)];omega
  ·show(l.drop (m+1)).foldl (uT a) (dI ds (f:Int) (aP 5 a),aI .i64 cnt 1)=R;rw[av (by omega) (by omega), <-N];have d4:(mz ds (f:Int)).1=4:=by simpa using F
   rw[show uT a (ds,cnt) f=if(mz ds (f:Int)).1=4 then(dI ds (f:Int) (aP 5 a),cnt+1) else(ds,cnt) from rfl,ax d4]
  ·show aI .i64 (m:Int) 1= _;rw[av (by omega) (by omega)];omega
  ·show 0<=cnt/\cnt<=((m+1:Nat):Int);omega
  ·show(l.drop (m+1)).foldl (uT a) (ds,cnt)=R;rw[<-N];have d4: ¬ (mz ds (f:Int)).1=4:=by simpa using F
   rw[show uT a (ds,cnt) f=if(mz ds (f:Int)).1=4 then(dI ds (f:Int) (aP 5 a),cnt+1) else(ds,cnt) from rfl,ao d4]
 have P: ¬ m<l.length:=by simpa using o
 rw[List.drop_of_length_le (by omega)] at N;have N:(ds,cnt)=R:=N;rw[<-N] at kk;have S:=S.sub (Ga _ Ow);rw[hRL] at S;refine⟨rfl,rfl,⟨rfl,by omega,by show a<((17:Nat):Int);omega⟩,?_⟩;rw[aX];refine S.Co 4 rfl rfl (by rw[Nat.blt_eq,Ji];omega) λNh S=>S.res (j:=2) rfl _ _ λHY S=>?_;rw[eJ ⟨by omega,by omega⟩];exact kk HY (abq d J_ z (Mm _ _) (d.gk.drop _) (Po.Q2 d.pt a) (J2 S))
end
def run (h:HS) (v k a b c:Int):HS×Int×Int:=match k.toNat with
 |1=>(gR h,AQ h,mM h)
 |2=>(sV h a,YB h a,Cc h a)
 |3=>(jS h v a b,uS h v a b)
 |4=>(qF h v a,x_ h v a)
 |5=>(jY h v a b,0,mJ h v a b)
 |6=>(h,AO h v a)
 |7=>(km h v a b,0,nL h v a)
 |8=>(iH h v a b c,rQ h v a b c)
 |9=>(ju h v a b c,0,ma h v a b c)
 |10=>(gZ h v a,0,mK h v a)
 |11=>(fV h v a,0,td h v a)
 |12=>(lW h v a,AM h v a)
 |13=>(lX h v a b,AN h v a b)
 |14=>(lV h v a,0,DV h v a)
 |15=>(Ou h v,Ot h v,0)
 |16=>(i_ h v a,0,yI h v a)
 | _=>(bF h (dK h.s h.s.2.length).1,((dK h.s h.s.2.length).2:Int),0)
def iN (h:HS) (v k a b c:Int):Int:=
 if(decide (v<0)||decide (v>16)|| !iG k a b c)=true then 1 else if(!(v==0)==uQ k)=true then 7 else if(decide (v>0)&& !aW h.g v)=true then 4 else 0
def oW (h:HS) (v k a b c:Int):Int:=if iN h v k a b c=0 then(run h v k a b c).2.2 else iN h v k a b c
def xX (h:HS) (v k a b c:Int):Int:=if iN h v k a b c=0 then(if(run h v k a b c).2.2=0 then(run h v k a b c).2.1 else 0) else 0
def kO (h:HS) (v k a b c:Int):HS:=if iN h v k a b c=0 then(run h v k a b c).1 else h
structure Cd (Q:Sys) (h:HS):Prop where
 No:ND Q h.s
 sz:16*h.s.2.length<=h.s.1.length
 rr: ∀v,aW h.g v=true->0<=aY h.g v/\aY h.g v<4096
 pg: ∀v, ∀t∈vA h v,t.1<65536
 new: ∀v a b c, ∀x,h.g v.toNat=some x->aW h.g v=true->kJ h.s (aY h.g v) false b (lK h a).1 (wQ c)=0->cg x.tk b=none
section
variable {Q:Sys} {X:HX} {D G:List Nat} {w0 w:A2} {h:HS} {L T:List (Nat×List AC)}
theorem Jl (A:Nat->GA) (h:HS):(dS Q X A h (a_ Q A h.g (AR 17)++(T++L))).Perm (T++dS Q X A h (a_ Q A h.g (AR 17)++L)):=by
 have a:dS Q X A h (a_ Q A h.g (AR 17)++(T++L))=(dS Q X A h (a_ Q A h.g (AR 17)))++(T++L):=by simp
 have b:T++dS Q X A h (a_ Q A h.g (AR 17)++L)=T++(dS Q X A h (a_ Q A h.g (AR 17))++L):=by simp
 rw[a,b];exact Nl _ _ _
theorem jk.of {A:Nat->GA} (W:Dm A h) (H:SM Q D G w0 w h.s (T++dS Q X A h (a_ Q A h.g (AR 17)++L)) (dj A h.g (AR 17))):jk Q X D G w0 w h (T++L):=
 ⟨A,W,H.perm (Jl A h)⟩
theorem jk.to (H:jk Q X D G w0 w h (T++L)): ∃A,Dm A h/\SM Q D G w0 w h.s (T++dS Q X A h (a_ Q A h.g (AR 17)++L)) (dj A h.g (AR 17)):=by
 obtain⟨A,W,H⟩:=H;exact⟨A,W,H.perm (Jl A h).symm⟩
def lS (k:Int):Nat:=([121,122,124,125,126,127,128,129,130,131,132,133,134,135,136,137,123]:List Nat).getD (k - 1).toNat 0
theorem dQ (H:jk Q X D G w0 w h L) (R:Cd Q h) {v k a b c:Int} (m:1<=k/\k<=17) (i:uQ k=false->aW h.g v=true) (f:0<=a/\a<18446744073709551616) (hb:0<=b/\b<18446744073709551616) (hc:0<=c/\c<18446744073709551616) {K:RS->A2->Prop}
 (kk: ∀V d,((run h v k a b c).2.2=0->V=(run h v k a b c).2.1)->jk Q X D G w0 d (run h v k a b c).1 L->K (V,(run h v k a b c).2.2,()) d):
 aE AB (lS k) (.el (.agg iS)) [ag (ae X.hb),aa v,.agg ⟨gf k a b c⟩] w K:=by
 have:k=1\/k=2\/k=3\/k=4\/k=5\/k=6\/k=7\/k=8\/k=9\/k=10\/k=11\/k=12\/k=13\/k=14\/k=15\/k=16\/k=17:=by omega
 rcases this with rfl|rfl|rfl|rfl|rfl|rfl|rfl|rfl|rfl|rfl|rfl|rfl|rfl|rfl|rfl|rfl|rfl
 ·exact Ml H (by have:=R.sz;omega) v 1 a b c λV d j H=>kk V d j H
 ·exact HE H v 2 b c f.1 R.No (R.rr a) (R.pg a) λd H=>kk _ d (λ_=>rfl) H
 ·exact Ma H (i rfl) 3 c f.1 hb.1 λd H=>kk _ d (λ_=>rfl) H
 ·exact Hv H (i rfl) R.No (R.rr v (i rfl)) 4 b c f.1 λd H=>kk _ d (λ_=>rfl) H
 ·exact Hu H (i rfl) 5 c f.1 hb.1 λd H=>kk _ d (λ_=>rfl) H
 ·exact VD H v 6 b c f.1 λd H=>kk _ d (λ_=>rfl) H
 ·exact RU H v 7 c f.1 hb λd H=>kk _ d (λ_=>rfl) H
 ·exact RR H v 8 f.1 hb.1 hc.1 λd H=>kk _ d (λ_=>rfl) H
 ·exact VF H (i rfl) 9 f.1 hb.1 hc.1 (λx l e=>R.new v a b c x l (i rfl) e) λd H=>kk _ d (λ_=>rfl) H
 ·exact VE H (i rfl) R.No (R.rr v (i rfl)) 10 b c f.1 λd H=>kk _ d (λ_=>rfl) H
 ·exact L8 H v 11 b c f.1 λd H=>kk _ d (λ_=>rfl) H
 ·exact VB H v 12 b c f.1 λd H=>kk _ d (λ_=>rfl) H
 ·exact VC H v 13 c f.1 hb.1 λd H=>kk _ d (λ_=>rfl) H
 ·exact Vz H v 14 b c f.1 λd H=>kk _ d (λ_=>rfl) H
 ·exact VA H v 15 a b c λd H=>kk _ d (λ_=>rfl) H
 ·exact RO H v 16 b c f.1 λd H=>kk _ d (λ_=>rfl) H
 ·exact RV H v 17 a b c λd H=>kk _ d (λ_=>rfl) H
end
def o9 (k:Int) (b:Nat):B9:={key:=aa k,val:= .func (.func (lS k)) #[] #[],born:=b}
def cW:Array B9:=⟨[o9 1 0,o9 2 1,o9 17 2,o9 3 3,o9 4 4,o9 5 5,o9 6 6,o9 7 7,o9 8 8,o9 9 9,o9 10 10,o9 11 11,o9 12 12,o9 13 13,o9 14 14,o9 15 15,o9 16 16]⟩
section
variable {D G:List Nat} {w0 w:A2} {L:List (Nat×List AC)} {M:List (Nat×Bs)}
theorem Mn (H:cC D G w0 w L M) {K:Option Nat->A2->Prop} (k: ∀r a,cC D G w0 a L ((r,.map cW 17)::M)->K (some r) a):aB AB 78 (.el (.one .map)) [] w K:=by
 refine λw1 h1=>ai (C:=V0) (aS:=λ_=>[]) (Ax (LQ w1 K) ?_);have H:=H.ext h1;intro b c;have H:=(H.ext c).alloc (o:= .map #[] 0) trivial;refine gD H (by kernel_rfl) λf H=>?_;refine gD H (by kernel_rfl) λg H=>?_;refine gD H (by kernel_rfl) λh H=>?_;refine gD H (by kernel_rfl) λi H=>?_;refine gD H (by kernel_rfl) λj H=>?_;refine gD H (by kernel_rfl) λl H=>?_;refine gD H (by kernel_rfl) λm H=>?_;refine gD H (by kernel_rfl) λn H=>?_;refine gD H (by kernel_rfl) λp H=>?_;refine gD H (by kernel_rfl) λq H=>?_;refine gD H (by kernel_rfl) λs H=>?_;refine gD H (by kernel_rfl) λt H=>?_;refine gD H (by kernel_rfl) λu H=>?_;refine gD H (by kernel_rfl) λv H=>?_;refine gD H (by kernel_rfl) λx H=>?_;refine gD H (by kernel_rfl) λy H=>?_;refine gD H (by kernel_rfl) λz H=>?_;exact λd e=>k b.heap.size d ((H.ext e).WU (by kernel_rfl))
theorem C5 {k:Int} (a:1<=k/\k<=17):bL AB (lS k)=true:=by
 have:k=1\/k=2\/k=3\/k=4\/k=5\/k=6\/k=7\/k=8\/k=9\/k=10\/k=11\/k=12\/k=13\/k=14\/k=15\/k=16\/k=17:=by omega
 rcases this with rfl|rfl|rfl|rfl|rfl|rfl|rfl|rfl|rfl|rfl|rfl|rfl|rfl|rfl|rfl|rfl|rfl
 ·exact(by kernel_rfl:bL AB (lS 1)=true)
 ·exact(by kernel_rfl:bL AB (lS 2)=true)
 ·exact(by kernel_rfl:bL AB (lS 3)=true)
 ·exact(by kernel_rfl:bL AB (lS 4)=true)
 ·exact(by kernel_rfl:bL AB (lS 5)=true)
 ·exact(by kernel_rfl:bL AB (lS 6)=true)
 ·exact(by kernel_rfl:bL AB (lS 7)=true)
 ·exact(by kernel_rfl:bL AB (lS 8)=true)
 ·exact(by kernel_rfl:bL AB (lS 9)=true)
 ·exact(by kernel_rfl:bL AB (lS 10)=true)
 ·exact(by kernel_rfl:bL AB (lS 11)=true)
 ·exact(by kernel_rfl:bL AB (lS 12)=true)
 ·exact(by kernel_rfl:bL AB (lS 13)=true)
 ·exact(by kernel_rfl:bL AB (lS 14)=true)
 ·exact(by kernel_rfl:bL AB (lS 15)=true)
 ·exact(by kernel_rfl:bL AB (lS 16)=true)
 ·exact(by kernel_rfl:bL AB (lS 17)=true)
theorem wz {r:Nat} (h:bH w r cW 17) {k:Int} (a:1<=k/\k<=17):jT w (some r) .i64 k Value.nilFunc (.func (.func (lS k)) #[] #[]):=by
 have:k=1\/k=2\/k=3\/k=4\/k=5\/k=6\/k=7\/k=8\/k=9\/k=10\/k=11\/k=12\/k=13\/k=14\/k=15\/k=16\/k=17:=by omega
 rcases this with rfl|rfl|rfl|rfl|rfl|rfl|rfl|rfl|rfl|rfl|rfl|rfl|rfl|rfl|rfl|rfl|rfl
 ·exact⟨r,cW,17,rfl,h,rfl⟩
 ·exact⟨r,cW,17,rfl,h,rfl⟩
 ·exact⟨r,cW,17,rfl,h,rfl⟩
 ·exact⟨r,cW,17,rfl,h,rfl⟩
 ·exact⟨r,cW,17,rfl,h,rfl⟩
 ·exact⟨r,cW,17,rfl,h,rfl⟩
 ·exact⟨r,cW,17,rfl,h,rfl⟩
 ·exact⟨r,cW,17,rfl,h,rfl⟩
 ·exact⟨r,cW,17,rfl,h,rfl⟩
 ·exact⟨r,cW,17,rfl,h,rfl⟩
 ·exact⟨r,cW,17,rfl,h,rfl⟩
 ·exact⟨r,cW,17,rfl,h,rfl⟩
 ·exact⟨r,cW,17,rfl,h,rfl⟩
 ·exact⟨r,cW,17,rfl,h,rfl⟩
 ·exact⟨r,cW,17,rfl,h,rfl⟩
 ·exact⟨r,cW,17,rfl,h,rfl⟩
 ·exact⟨r,cW,17,rfl,h,rfl⟩
end
section
variable {Q:Sys} {X:HX} {D G:List Nat} {w0 w:A2} {s:WD} {h:HS} {L L0:List (Nat×List AC)} {M:List (Nat×Bs)} {K:RS->A2->Prop}
theorem SM.Pd (H:SM Q D G w0 w s L0 M) {K:Option Nat->A2->Prop} (k: ∀r e,SM Q D G w0 e s L0 ((r,.map cW 17)::M)->K (some r) e):aB AB 78 (.el (.one .map)) [] w K:=by
 obtain⟨a,b,c,d,ca,la,H⟩:=H;exact Mn H λr e H=>k r e ⟨a,b,c,d,ca,la,H⟩
theorem Gq (S:bq Q D G w0 w s L0) {j j1 b c:Nat} {l:List AC} {g h:AC} (i:L0[j]? =some (b,l)) (m:L0[j1]? =some (c,[g,h])) (n:j≠j1) (o:l.length=2) (V E:Int)
 (kk: ∀a,bq Q D G w0 a s ((L0.set j (b,[ay V,aa E])).set j1 (c,[ay (if E=0 then V else 0),aa E]))->K (if E=0 then V else 0,E,()) a):
 az w (ae b) [ay V,aa E] λ(a:A2)=>true=true/\aj a none (ad (ae b) 1) (.one (.int .i64)) λ(x:Int)=>
  aJ (x != 0)
   (true=true/\aj a none (ad (ae b) 1) (.one (.int .i64)) λ(x:Int)=>True/\
    az a (ae c) [ay 0,aa x] λ(a:A2)=>au a λ(w1:A2)=>aj w1 none (ae c) (.agg [.int .u64,.int .i64]) λ(x:Int×Int×Unit)=>K (x.1,x.2.1,()) w1)
   (aj a none (ae b) (.agg [.int .u64,.int .i64]) λ(x:Int×Int×Unit)=>
    az a (ae c) [ay x.1,aa x.2.1] λ(a:A2)=>au a λ(w1:A2)=>aj w1 none (ae c) (.agg [.int .u64,.int .i64]) λ(x:Int×Int×Unit)=>K (x.1,x.2.1,()) w1):=by
 have p:j<L0.length:=(C8.1 i).1;refine S.ff j i rfl o.symm λa S=>?_;have d:(L0.set j (b,[ay V,aa E]))[j]? =some (b,[ay V,aa E]):=Dl p;have k:(L0.set j (b,[ay V,aa E]))[j1]? =some (c,[g,h]):=by rw[E5 n];exact m
 refine⟨rfl,S.cm j d (show _=some E from rfl) ?_⟩;refine ab (λe=>?_) (λe=>?_)
 ·have e: ¬ E=0:=by simpa using e
  rw[ao e] at kk;exact⟨rfl,S.cm j d (show _=some E from rfl) ⟨trivial,S.res k 0 E λf S=>kk f S⟩⟩
 ·have e:E=0:=by simpa using e
  rw[ax e] at kk;exact S.ld j d (show _=some (V,E,()) from rfl) (S.res k V E λf S=>kk f S)
theorem ZG {a:Nat} {sh:Sh} {args:List AC} {w:A2} {K:sh.T->A2->Prop} (hc:bL AB a=true) (b: ∀w1,Ext w w1->aE AB a sh args w1 K):zX AB (.func (.func a) #[] #[]) sh args w K:=by
 unfold zX;refine λw1 h1=>⟨a, #[], #[],rfl,hc,?_⟩;have e:cY #[] args #[]=args:=by unfold cY;simp
 rw[e];exact b w1 h1
theorem ZH (H:jk Q X D G w0 w h L) (R:Cd Q h) (v k:Int) {a b c:Int} (U:0<=a/\a<18446744073709551616) (hb:0<=b/\b<18446744073709551616) (hc:0<=c/\c<18446744073709551616)
 (kk: ∀o,jk Q X D G w0 o (kO h v k a b c) L->K (xX h v k a b c,oW h v k a b c,()) o):
 aE AB 42 (.el (.agg iS)) [ag (ae X.hb),aa v,.agg ⟨gf k a b c⟩] w K:=by
 obtain⟨A,W,H⟩:=H;obtain⟨Y,S,J⟩:=H.call;refine aR (C:=V1) (aS:=λ_=>[]) (Ax (Zy _ v k a b c w K) ?_);unfold oW xX kO at kk;refine S.al λZ o S=>S.al λb1 w3 S=>⟨_,mU S (X:=X) (A:=A) (g:=h.g) (by simp),an rfl ?_⟩;have B: ∀e,e≠0->iN h v k a b c=e-> ∀{o:A2} {x:List AC},bq Q [] Y w o h.s ((b1,x)::(Z,gf k a b c)::dS Q X A h (a_ Q A h.g (AR 17)++L))->K (0,e,()) o:=λe E h1 o x S=>by
  rw[h1,ao E,ao E,ao E] at kk;exact kk o ⟨A,W,J S.tail.tail⟩
 have l:iN h v k a b c=if(decide (v<0)||decide (v>16)|| !iG k a b c)=true then 1 else if(!(v==0)==uQ k)=true then 7 else if(decide (v>0)&& !aW h.g v)=true then 4 else 0:=rfl;refine S.ld 1 rfl (show _=some (k,a,b,c,()) from rfl) ⟨iG k a b c,λ_=>Em k a b c,?_⟩;refine ab (λd=>⟨trivial,S.res (j:=0) rfl 0 1 λm S=>?_⟩) (λd=>⟨rfl,S.cm 1 rfl rfl ⟨uQ k,Hc k,?_⟩⟩)
 ·rw[ax d] at l;exact B 1 (by decide) l S
 rw[ao (by rw[d];decide)] at l;simp only[Ds,decide_eq_false_iff_not,Bool.not_eq_false'] at d;obtain⟨⟨dv0,dv1⟩,F⟩:=d;refine ab (λd=>⟨trivial,S.res (j:=0) rfl 0 7 λm S=>?_⟩) (λd=>⟨aW h.g v,λ_=>nV S (X:=X) (A:=A) (g:=h.g) (by simp) v,?_⟩)
 ·rw[ax d] at l;exact B 7 (by decide) l S
 rw[ao (by rw[d];decide)] at l;have I:=d;refine ab (λd=>⟨trivial,S.res (j:=0) rfl 0 4 λm S=>?_⟩) (λd=>⟨rfl,S.cm 1 rfl rfl (S.ld 1 rfl (show _=some (k,a,b,c,()) from rfl) ?_)⟩)
 ·rw[ax d] at l;exact B 4 (by decide) l S
 rw[ao (by rw[d];decide)] at l;rw[l,ax rfl,ax rfl,ax rfl] at kk;have y:1<=k/\k<=17:=by
  unfold iG at F;rw[F5,decide_eq_true_eq] at F;have d1:=F.1;unfold jW at d1;by_cases e:1<=k/\k<=17
  ·exact e
  ·rw[ao e] at d1;exact absurd d1 (by decide)
 have hl:uQ k=false->aW h.g v=true:=λe=>by
  rw[e] at I;have XJ:v≠0:=by
   intro e0;rw[e0] at I;exact absurd I (by decide)
  have:decide (v>0)=true:=decide_eq_true (by omega);rw[this,H5] at d;simpa using d
 have call: ∀{T:List (Nat×List AC)} {m:A2} {M:RS->A2->Prop},SM Q D G w0 m h.s (T++dS Q X A h (a_ Q A h.g (AR 17)++L)) (dj A h.g (AR 17))->
  (∀V p f,((run h v k a b c).2.2=0->V=(run h v k a b c).2.1)->Dm f (run h v k a b c).1->SM Q D G w0 p (run h v k a b c).1.s (T++dS Q X f (run h v k a b c).1 (a_ Q f (run h v k a b c).1.g (AR 17)++L)) (dj f (run h v k a b c).1.g (AR 17))->M (V,(run h v k a b c).2.2,()) p)->
  zX AB (.func (.func (lS k)) #[] #[]) (.el (.agg iS)) [ag (ae X.hb),aa v,.agg ⟨gf k a b c⟩] m M:=λ{T m M} H kk2=>by
  refine ZG (C5 y) λp h5=>?_;refine dQ (jk.of W (H.ext h5)) R y hl U hb hc λV z n H=>?_;obtain⟨f,q,H⟩:=jk.to H;exact kk2 V z f n q H
 have fin: ∀{V:Int},((run h v k a b c).2.2=0->V=(run h v k a b c).2.1)->(if(run h v k a b c).2.2=0 then V else 0)=if(run h v k a b c).2.2=0 then(run h v k a b c).2.1 else 0:=λ{V} n=>by
  by_cases e:(run h v k a b c).2.2=0
  ·rw[ax e,ax e,n e]
  ·rw[ao e,ao e]
 refine⟨?_,?_⟩
 ·refine(J S).Pd λr m H=>?_;have N:bH m r cW 17:=H.get B1;have H:=H.FR (BN _ _);obtain⟨G2,S,O⟩:=H.call;refine⟨dV (S.get (i:=1) rfl) rfl,?_,trivial, _,wz N y,?_,?_⟩
  ·rw[aX];exact dV (S.get (i:=1) rfl) rfl
  ·refine call (T:=[_, _]) H λV p f n q H=>?_;obtain⟨G3,S,t⟩:=H.call;refine S.al λP z S=>Gq S (j:=0) (j1:=1) rfl rfl (by decide) rfl V _ λu S=>?_;rw[fin n];exact kk u ⟨f,q,t S.tail.tail.tail⟩
  ·refine S.al λP p S=>call (T:=[_, _, _]) (O S) λV z f n q H=>?_;obtain⟨G3,S,t⟩:=H.call;refine Gq S (j:=0) (j1:=1) rfl rfl (by decide) rfl V _ λu S=>?_;rw[fin n];exact kk u ⟨f,q,t S.tail.tail.tail⟩
 ·refine S.al λP m S=>(J S).Pd λr p H=>?_;have N:bH p r cW 17:=H.get B1;have H:=H.FR (BN _ _);obtain⟨G2,S,O⟩:=H.call;refine⟨dV (S.get (i:=2) rfl) rfl,?_,trivial, _,wz N y,?_⟩
  ·rw[aX];exact dV (S.get (i:=2) rfl) rfl
  ·refine call (T:=[_, _, _]) H λV z f n q H=>?_;obtain⟨G3,S,t⟩:=H.call;refine Gq S (j:=0) (j1:=1) rfl rfl (by decide) rfl V _ λu S=>?_;rw[fin n];exact kk u ⟨f,q,t S.tail.tail.tail⟩
end
open Po (tv JT Om Gl Ia xC r_ On)
section
variable {w0:A2} {Q:Sys} {X:HX} {A:Nat->GA} {g:Nat->Option GV} {gs:List GT} {po:List Po.PT}
structure HBl (w0:A2) (Q:Sys) (X:HX) (A:Nat->GA) (g:Nat->Option GV) (gs:List GT) (po:List Po.PT):Prop where
 hb:bN w0 X.hb (fg Q X A g)
 gb:bN w0 X.gb (my X.uB gs.length X.c)
 gr:bN w0 X.uB (flat eG gs++X.rest)
 pb:bN w0 X.pb (Po.gK 4 po)
 gl:gs.length=16
 gk:om gs
 pt:Po.lJ 4 po
end
section
variable {Q:Sys} {X:HX} {D G:List Nat} {w0 w:A2} {h:HS} {L:List (Nat×List AC)}
end
end Go.Proofs.YtlcenllcmeebhaaGreat
namespace Go.Proofs.YtlcenllcmeebhaaGreat.Po
set_option maxRecDepth 100000
open Go.RX
def k0:List PT:=BT 512 zP
theorem R3 {room:Int} (h1:1<=room) (a:room<=32):lJ room k0 where
 len:=Dc
 lo:=h1
 hi:=a
 inv g i h:=by
  refine .inl ?_;unfold gp k0;rw[Dy,List.getElem?_replicate];split<;>rfl
theorem Mp (n:Int) (w:A2) (a:Option Ab×Int×Unit->A2->Prop):(aM R1 (λ_=>[]) 74 [aa n] w a)=(
 aJ (decide (n<1)||decide (n>32)) (au w (a (none,1,()))) (aL w ⟨gK n k0⟩ 221 λb c=>au c (a (some ⟨b,0,none⟩,0,())))):=by kernel_rfl
section
variable {D G:List Nat} {w0 w:A2} {L:List (Nat×List AC)}
theorem R4 (H:aK D G w0 w L) (n:Int) {K:Option Ab×Int×Unit->A2->Prop} (hb:n<1\/n>32-> ∀w1,aK D G w0 w1 L->K (none,1,()) w1)
 (d:1<=n->n<=32-> ∀bp w1,aK D G w0 w1 ((bp,gK n k0)::L)->K (some ⟨bp,0,none⟩,0,()) w1):
 aB AB 74 (.bG [.one .ptr,.one (.int .i64)]) [aa n] w K:=by
 refine aB.go H λw1 H=>ai (C:=R1) (aS:=λ_=>[]) (Ax (Mp n w1 K) ?_);refine ab (λc=>?_) (λc=>?_)
 ·exact au.go H λa H=>hb (by simp at c;omega) a H
 ·refine aL.go H λb a H=>au.go H λe H=>d (by simp at c;omega) (by simp at c;omega) b e H
end
end Go.Proofs.YtlcenllcmeebhaaGreat.Po
namespace Go.Proofs.YtlcenllcmeebhaaGreat
set_option maxRecDepth 100000
open Go.RX D
def h0 (n:Nat):HS:={s:=fresh (16*n) n,g:=λ_=>none,gr:=BT 16 zG,po:=Po.k0}
section
variable {D G:List Nat} {w0 w:A2} {L:List (Nat×List AC)}
theorem VI (H:aK D G w0 w L) (n:Int) {K:Option Ab×Int×Unit->A2->Prop} (kb:n<4\/n>4096-> ∀w1,aK D G w0 w1 L->K (none,1,()) w1)
 (A:4<=n->n<=4096-> ∀Q X w1,Q.c=16*n.toNat->jk Q X D G w0 w1 (h0 n.toNat) L->K (some ⟨X.hb,0,none⟩,0,()) w1):
 aB AB 40 (.bG [.one .ptr,.one (.int .i64)]) [aa n] w K:=by
 refine aB.go H λw1 H=>ai (C:=V0) (aS:=λ_=>[]) (Ax (Vr n w1 K) ?_);refine ab (λc=>au.go H λp H=>kb (by simpa using c) p H) (λc=>?_);have q:4<=n/\n<=4096:=by
  simp only[Ds,decide_eq_false_iff_not] at c;omega
 obtain⟨m,rfl⟩: ∃m:Nat,n=(m:Int):=⟨n.toNat,by omega⟩;have e:iD .i64 16 (m:Int)=((16*m:Nat):Int):=by rw[eH (by omega) (by omega)];omega
 rw[e];refine aL.go H λb p H=>?_;refine Cv (n:=16*m) H (by omega) λbm bw B H=>⟨rfl,rfl,?_⟩;generalize r:BT (16*m) (0:Int)=W at H;refine az.fK 2 H rfl rfl rfl λE H=>?_;refine Cy H (m:Int) (λhb=>by omega) λ_ _ bp bf F H=>⟨rfl,rfl,?_⟩;rw[show((m:Int)).toNat=m from rfl] at H;generalize s:BT m zD=DS at H;refine az.fK 4 H rfl rfl rfl λI H=>?_;refine UM H 16 (by decide) λgb gr J H=>⟨rfl,rfl,?_⟩;obtain⟨t,u⟩: ∃t,t=BT 16 zG:=⟨_,rfl⟩;rw[<-u] at H;refine az.fK 6 H rfl rfl rfl λM H=>?_;refine Po.R4 H 4 (λhb=>by omega) λ_ _ pb N H=>⟨rfl,rfl,?_⟩;obtain⟨v,y⟩: ∃v,v=Po.k0:=⟨_,rfl⟩;rw[<-y] at H;refine az.fK 7 H rfl rfl rfl λO H=>au.go H λz H=>?_;refine A q.1 q.2 ⟨bm,bw,bf,bp,16*m,m,[],[]⟩ ⟨b,gb,gr,pb,16,[]⟩ z rfl ⟨λ_=>⟨0,0,0,0,[]⟩,⟨λh=>(by cases h),λh=>(by cases h),rfl,Po.R3 (by decide) (by decide),om.new 16⟩,SM.of ⟨?_,?_,?_,?_,0,0,?_⟩⟩
 ·show 0<(BT (16*m) (0:Int)).length;rw[Dc];omega
 ·show 0<(BT m zD).length;rw[Dc];omega
 ·show(BT m zD).length<=4096;rw[Dc];omega
 ·intro x o;have o:x∈BT (16*m) (0:Int):=o;rw[List.eq_of_mem_replicate o];decide
 ·unfold Sys.L;show aK D G w0 z ((bm,kY bw (BT (16*m) (0:Int)).length (16*m) 0 0)::(bw,flat eW (BT (16*m) (0:Int))++[])::(bf,flat eD (BT m zD)++[])::(bp,[.slice (ae bf) (BT m zD).length m])::(b,fg _ _ (λ_=>⟨0,0,0,0,[]⟩) λ_=>none)::(gb,my gr (BT 16 zG).length 16)::(gr,flat eG (BT 16 zG)++[])::(pb,Po.gK 4 Po.k0)::([]++L));rw[r,s, <-u, <-y,show W.length=16*m by rw[<-r,Dc],show DS.length=m by rw[<-s,Dc]];refine H.perm ?_;have p1: ∀(x1 a d f g j k l:Nat×List AC),([j,k,g,f,l,a,d,x1]++L).Perm ([x1,a,d,f,g,j,k,l]++L):=λx1 a d f g j k l=>by
   refine Gi L ?_;exact(show([5,6,4,3,7,1,2,0]:List Nat).Perm [0,1,2,3,4,5,6,7] by decide).map λi=>([x1,a,d,f,g,j,k,l]:List (Nat×List AC)).getD i x1
  exact p1 _ _ _ _ _ _ _ _
end
section
variable {D G:List Nat} {w0 w w1:A2} {L L0 Ls:List (Nat×List AC)}
theorem cC.W6 {M1 M2 M1':List (Nat×Bs)} {L':List (Nat×List AC)} (H:cC D G w0 w L (M1++M2)) (K:cC [] (L.map (·.1)++M1.map (·.1)) w w1 L' M1'):cC D G w0 w1 L' (M1'++M2):=by
 have f:=H.nd;rw[DJ,FW] at f;have g: ∀x∈L.map (·.1)++M1.map (·.1),w0.heap.size<=x\/x∈G:=λx c=>by
  rcases DU.1 c with c|c
  ·obtain⟨y,d,rfl⟩:=B3.1 c;exact H.base.own y d
  ·obtain⟨y,d,rfl⟩:=B3.1 c;exact H.own y (C6 _ d)
 have h: ∀x,w.heap.size<=x\/x∈L.map (·.1)++M1.map (·.1)->w0.heap.size<=x\/x∈G:=λx c=>by
  rcases c with c|c
  ·exact .inl (J8 H.base.fr.size c)
  ·exact g x c
 have i: ∀r∈D,r∉L.map (·.1)++M1.map (·.1):=λr j c=>by
  rcases DU.1 c with c|c
  ·obtain⟨y,d,e⟩:=B3.1 c;exact aK.de (H.base.cZ y d) (H.base.pY r j).2 (λ_ _ _ hc=>by cases hc) e
  ·obtain⟨y,d,e⟩:=B3.1 c;exact H.nD y (C6 _ d) (by rw[e];exact j)
 have k: ∀y∈M2,y.1∉L.map (·.1)++M1.map (·.1):=λy d c=>by
  rcases DU.1 c with c|c
  ·obtain⟨x,c,e⟩:=B3.1 c;exact H.Gb c (Az _ d) e
  ·exact f.2.2 _ c _ (B3.2 ⟨y,d,rfl⟩) rfl
 have l: ∀y∈M2,y.1<w.heap.size:=λy d=>(Nv.1 (H.obj y (Az _ d)).1).1;refine⟨H.base.frame K.base.fr g i K.base.cZ (λx c=>h _ (K.base.own x c)) K.base.nd,λx c=>?_,λx c=>?_,?_,λx c=>?_⟩
 ·rcases DU.1 c with c|c
  ·exact K.obj x c
  ·obtain⟨n,o⟩:=H.obj x (Az _ c);exact⟨by rw[K.base.fr.block x.1 (l x c) (k x c)];exact n,o⟩
 ·rcases DU.1 c with c|c
  ·exact h _ (K.own x c)
  ·exact H.own x (Az _ c)
 ·rw[DJ,FW];refine⟨K.nd,f.2.1,λa p b hb e=>?_⟩;subst e;obtain⟨x,c,rfl⟩:=B3.1 p;obtain⟨y,d,e⟩:=B3.1 hb;rcases K.own x c with q|q
  ·have:=l y d;omega
  ·exact k y d (by rw[e];exact q)
 ·rcases DU.1 c with c|c
  ·intro m;rcases K.own x c with q|q
   ·have:=(Nv.1 (H.base.pY _ m).2).1;omega
   ·exact i _ m q
  ·exact H.nD x (Az _ c)
theorem cC.Pe {M1 M2:List (Nat×Bs)} (H:cC D G w0 w L (M1++M2)):cC [] (L.map (·.1)++M1.map (·.1)) w w L M1:=by
 have b:=H.nd;rw[DJ,FW] at b;exact⟨⟨Fr.refl _ w,H.base.cZ,λx a=> .inr (C6 _ (B3.2 ⟨x,a,rfl⟩)),H.base.nd,λx a=>(by cases a)⟩,λx a=>H.obj x (C6 _ a),λx a=> .inr (Az _ (B3.2 ⟨x,a,rfl⟩)),b.1,λx a=>List.not_mem_nil⟩
end
end Go.Proofs.YtlcenllcmeebhaaGreat
