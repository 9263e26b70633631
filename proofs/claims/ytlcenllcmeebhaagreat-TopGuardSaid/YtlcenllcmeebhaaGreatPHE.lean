import Derived.Test.YtlcenllcmeebhaaGreatPHD
/-! What the statement leans on: texts joined and shortened by a program of mine. -/
set_option linter.unusedVariables false
set_option linter.unusedSimpArgs false
open Go renaming World->A2,Value->AC,Addr->Ae,MapEntry->BK,Obj->Bp
open Go.Proofs.Tryz renaming prog->Ab
open List renaming range->Ad,mem_append_right->B1,mem_cons_self->B2,mem_cons_of_mem->B3,mem_map->B4,perm_middle->B5,getElem?_of_mem->BJ,length_map->BL,sublist_cons_self->BN,replicate->BO,getElem?_map->Bs,mem_append_left->Bv,getElem?_eq_some_iff->Bx,mem_of_getElem?->Bz,getElem?_eq_getElem->C6,append_assoc->C7,mem_range->CH,map_append->CN,mem_append->CP,length_cons->CV,length_set->CX,length_replicate->Cb,perm_append_comm->DB,flatMap_cons->Da,getElem?_set_self->Db,length_take->Dc,getD_eq_getElem?_getD->Do,mem_cons->Dv,getElem?_set_ne->E4,length->E9,getElem?_inj->EO,nodup_append->EU,getElem?_append_right->EW,sublist_append_right->EY,length_append->F0,perm_cons_erase->FF,filter_map->FS,map_map->Ff,ext_getElem?->Fs,any_eq_true->Fu,sublist_append_left->Fv,mem_flatMap->Gd,foldl_cons->Gi,mem_singleton->H4,map_cons->H5,find?_eq_none->H6,take_append_drop->H7,filter_eq_self->HB,set_append_right->HE,filter_congr->HG,length_singleton->HM,mem_filter->HZ,length_drop->Hb,getElem?_append_left->Hq,length_eraseIdx->Hr,nodup_nil->IR,find?_some->In,mem_of_find?_eq_some->J3,findIdx?_eq_some_iff_getElem->JC,drop_eq_getElem_cons->JD,nodup_cons->JJ,eraseIdx_eq_take_drop_succ->JL,filter_cons_of_neg->JP,filter_sublist->JS,length_nil->Jn,countP_eq_length_filter->Jo,filter_cons->Jq,length_filter_le->Jt,replicate_succ'->K1,set_append_left->Kg,nil_append->LL,length_zipIdx->M4,find?_range_eq_some->M5,getElem?_eq_none->M7,perm_append_comm_assoc->MO
open Eq renaming mpr->Av
open List.Perm renaming cons->CO,refl->De,flatMap_right->Fw,append_right->Fx,append_left->Ht
open Int renaming toNat_natCast->DA,le_refl->G1
open Bool renaming or_eq_false_iff->Dl,and_eq_true->E5,true_and->GS,or_eq_true->MQ,not_eq_true'->MV
open Nat renaming le_refl->Dn,zero_le->E6,min_eq_left->Hy,le_trans->I1,not_lt_zero->MW
open List.Sublist renaming append_left->Ga
open Array renaming contains_push->I2,eraseIdxIfInBounds->MZ,getElem?_eq_some_iff->NA
open Option renaming map_eq_some_iff->ND,map_eq_none_iff->NE
namespace Go.Proofs.YtlcenllcmeebhaaGreat
set_option maxRecDepth 100000
open Go.RX D
def Rt (g:Gh):Prop:= ∀f o x,g f=some (o,3,x)->x=0
theorem Rt.dq {g g':Gh} (h:Rt g) (k:mI g g'):Rt g':=λf o x e=>h f o x ((k _ _ _).1 e)
def upx:Nat->Int->Int
 |0,x=>x
 |n+1,x=>upx n x / 16
theorem IN {ws:List Int} {l:Nat} {f z:Int}:z∈(Ad 16).flatMap (ow ws l f)<-> ∃i:Nat,i<16/\ ∃m,l=m+1/\dG (aM ws (16*f+(i:Int)))=true/\z∈cW ws m (aM ws (16*f+(i:Int))).2.2.2.1:=by
 rw[Gd];constructor
 ·rintro⟨hi,h⟩;cases l with
  |zero
  |succ=>
   unfold ow at h
   grind
 ·rintro⟨i,hi,m,rfl,h⟩;unfold ow
  grind
theorem uT (x:Int): ∀l:List Int,(jy x l).Perm (x::l)
 |[]=> .refl _
 |y::l=>by
  rw[jy];split
  ·exact((uT x l).cons y).trans (.swap _ _ _)
  simp
theorem A3: ∀(l a:List Int),(l.foldl (λa x=>jy x a) a).Perm (l++a)
 |[],a=> .refl _
 |x::l,a=>by
  exact(A3 l _).trans (by grind[uT])
theorem ly (l:List Int):(n7 l).Perm l:=by grind[n7,A3]
theorem Re (o:Int) (h:1<=o/\o<=16): ¬ (aP 5 0 (5,o,0,0,())).2=0:=by
 have a:dR 5 o 0 0=true:=by unfold dR jD;grind
 show ¬ gN 5 o 0 0 5 0=0;unfold gN;rw[au (by grind),au (by grind),au (by decide)]
 grind
theorem A4 {o:Int} (c:1<=o/\o<=16): ∀(l:List Int) (ds:List DT),(∀f∈l,0<=f/\(ds[f.toNat]? =some (3,o,0,0,())\/ds[f.toNat]? =some (5,o,0,0,())))->
 (l.foldl (λds f=>dF ds f (aP 5 0)) ds).length=ds.length/\ ∀n:Nat,((n:Int)∈l->(l.foldl (λds f=>dF ds f (aP 5 0)) ds)[n]? =some (5,o,0,0,()))/\((n:Int)∉l->(l.foldl (λds f=>dF ds f (aP 5 0)) ds)[n]? =ds[n]?)
 |[],ds, _=>⟨rfl,by grind⟩
 |f::l,ds,h=>by
  obtain⟨i,a⟩:=h f B2;have r:f.toNat<ds.length:=by
   rcases a with h|h<;>exact(Bx.1 h).1
  have j:(dF ds f (aP 5 0)).length=ds.length/\(dF ds f (aP 5 0))[f.toNat]? =some (5,o,0,0,())/\ ∀n:Nat,n≠f.toNat->(dF ds f (aP 5 0))[n]? =ds[n]? :=by
   rw[o_ ⟨i,by omega⟩,Do];rcases a with a|a
   ·rw[a];show((if(aP 5 0 (3,o,0,0,())).2=0 then ds.set f.toNat (aP 5 0 (3,o,0,0,())).1 else ds).length= _)/\(if(aP 5 0 (3,o,0,0,())).2=0 then ds.set f.toNat (aP 5 0 (3,o,0,0,())).1 else ds)[f.toNat]? = _/\ ∀n:Nat,n≠f.toNat->(if(aP 5 0 (3,o,0,0,())).2=0 then ds.set f.toNat (aP 5 0 (3,o,0,0,())).1 else ds)[n]? = _;rw[DY c,az rfl]
    grind
   ·rw[a];show((if(aP 5 0 (5,o,0,0,())).2=0 then ds.set f.toNat (aP 5 0 (5,o,0,0,())).1 else ds).length= _)/\(if(aP 5 0 (5,o,0,0,())).2=0 then ds.set f.toNat (aP 5 0 (5,o,0,0,())).1 else ds)[f.toNat]? = _/\ ∀n:Nat,n≠f.toNat->(if(aP 5 0 (5,o,0,0,())).2=0 then ds.set f.toNat (aP 5 0 (5,o,0,0,())).1 else ds)[n]? = _;rw[au (Re o c)]
    grind
  rw[Gi];obtain⟨k,m,p⟩:=j;obtain⟨q,d⟩:=A4 c l (dF ds f (aP 5 0)) (by grind);refine⟨q.trans k,λn=>⟨λb=>?_,λb=>?_⟩⟩
  ·by_cases g:(n:Int)∈l
   ·exact(d n).1 g
   ·rw[(d n).2 g];have:(n:Int)=f:=(Dv.1 b).resolve_right g;have e:n=f.toNat:=by omega
    rw[e];exact m
  ·rw[(d n).2 (λh=>b (B3 _ h)),p n (λe=>b (by
   have:(n:Int)=f:=by omega
   rw[this];exact B2))]
def JQ (g:Gh) (o:Int):Gh:=λf=>match g f with
 |some v=>if v.1=o then none else some v
 |none=>none
theorem c_ {g:Gh} {o f:Int} {v:Int×Nat×Int}:JQ g o f=some v<->g f=some v/\v.1≠o:=by grind[JQ]
namespace Inv
variable {g:Gh} {s:WD}
theorem Rf (I:Inv g s): ∀(l:Nat) {f o x:Int},g f=some (o,l,x)-> ∀z∈cW s.1 l f, ∃l' x' n,l'+n=l/\g z=some (o,l',x')/\upx n x'=x:=by
 intro l
 induction l with
 |zero=>
  intro f o x b z a;rw[cW,H4] at a;subst a;exact⟨0,x,0,rfl,b,rfl⟩
 |succ l c=>
  intro f o x b z a;rw[mU] at a;rcases Dv.1 a with rfl|a
  ·exact⟨l+1,x,0,rfl,b,rfl⟩
  ·obtain⟨i,hi,m,p,d,e⟩:=IN.1 a;have:m=l:=by omega
   subst this;obtain⟨h,h1,j⟩:=I.rX b (by omega) (by omega) d;have:h=m:=by omega
   subst this;obtain⟨l',x',n,q,k,r⟩:=c j z e;refine⟨l',x',n+1,by omega,k,?_⟩;show upx n x' / 16=x;omega
theorem D5 (I:Inv g s) (c:Rt g) {r o:Int} (d:g r=some (o,3,0)): ∀(n:Nat) {l:Nat} {f x:Int},l+n=3->g f=some (o,l,x)-> ∀z∈cW s.1 l f,z∈cW s.1 3 r
 |0,l,f,x,h,a,z,b=>by
  have:l=3:=by omega
  subst this;have:=c _ _ _ a;subst this;rw[I.inj a d] at b
  grind
 |n+1,l,f,x,h,a,z,b=>by
  obtain⟨f',h1,i⟩:=I.EV a (by omega);obtain⟨j,k, _⟩:=I.vf a;refine I.D5 c d n (by omega) h1 z ?_;refine B3 _ (IN.2 ⟨(x % 16).toNat,by omega,l,rfl,?_⟩);have e:(x % 16).toNat=x % 16:=by omega
  rw[e,i];exact⟨dE ⟨j,k⟩,b⟩
theorem LH (I:Inv g s) (a:Rt g) {r o:Int} (b:g r=some (o,3,0)) (z:Int):z∈cW s.1 3 r<-> ∃l x,g z=some (o,l,x):=by
 constructor
 ·obtain:=I.Rf
  grind
 ·rintro⟨l,x,h⟩;have c:=(I.kd h).2.2.2.2.2;exact I.D5 a b (3 - l) (by omega) h z (by rw[mU];simp)
theorem dropped (I:Inv g s) (t:Rt g) {r o:Int} (u:g r=some (o,3,0)):
 Inv (JQ g o) (cH s r false)/\Rt (JQ g o)/\(cH s r false).1=s.1/\(cH s r false).2.length=s.2.length/\
  ∀n:Nat,((∃l x,g (n:Int)=some (o,l,x))->(cH s r false).2[n]? =some (5,o,0,0,()))/\((¬ ∃l x,g (n:Int)=some (o,l,x))->(cH s r false).2[n]? =s.2[n]?):=by
 have w: ¬ (false=true):=by decide
 have D:cH s r false=(s.1,(mG s r false).foldl _ s.2):=au w;have E:mG s r false=n7 (cW s.1 3 r):=au w;have p: ∀z,z∈mG s r false<-> ∃l x,g z=some (o,l,x):=λz=>by
  rw[E,(ly _).mem_iff];exact I.LH t u z
 have y:=(I.kd u).2.2.2;obtain⟨t1,t2⟩:=A4 ⟨y.1,y.2.1⟩ (mG s r false) s.2 (λf F=>by
  obtain⟨l,x,h⟩:=(p f).1 F;obtain⟨a1,G,A, _⟩:=I.kd h;exact⟨a1,.inl A⟩)
 rw[D];generalize Q:(mG s r false).foldl _ s.2=ds at t1 t2;have B:=λn h=>(t2 n).1 ((p _).2 h);have q: ∀n:Nat,(¬ ∃l x,g (n:Int)=some (o,l,x))->ds[n]? =s.2[n]? :=λn h=>(t2 n).2 (λH=>h ((p _).1 H));refine⟨?_,λf o' x h=>t f o' x (c_.1 h).1,rfl,t1,λn=>⟨B n,q n⟩⟩;refine⟨?_,?_,?_,?_,?_,?_,?_,?_,?_,?_⟩
 ·rw[t1];exact I.len
 ·show ds.length<=4096;rw[t1];exact I.le
 ·intro d J h0;obtain⟨n,i⟩:=BJ J;by_cases h: ∃l x,g (n:Int)=some (o,l,x)
  grind
  ·rw[q n h] at i;exact I.fz d (Bz i) h0
 ·intro f o' l x h;obtain⟨h,j⟩:=c_.1 h;obtain⟨a1,G,A,R⟩:=I.kd h
  grind
 ·intro a b v K hb;exact I.inj (c_.1 K).1 (c_.1 hb).1
 ·intro f o' l x k h h0 h1 L;obtain⟨h,j⟩:=c_.1 h;obtain⟨m,M,N⟩:=I.rX h h0 h1 L;exact⟨m,M,c_.2 ⟨N,j⟩⟩
 ·intro f o' l x k h h0 h1;exact I.leaf (c_.1 h).1 h0 h1
 ·intro f o' l x h O;obtain⟨h,j⟩:=c_.1 h;obtain⟨f',p1,p2⟩:=I.EV h O;exact⟨f',c_.2 ⟨p1,j⟩,p2⟩
 ·intro f o' l x k h h0 h1 P;exact I.wf (c_.1 h).1 h0 h1 P
 ·intro n d i C;by_cases h: ∃l x,g (n:Int)=some (o,l,x)
  ·rw[B n h] at i;cases i;cases C
  ·rw[q n h] at i;obtain⟨v,hv⟩:=I.tb i C;refine⟨v,c_.2 ⟨hv,λe=>h ?_⟩⟩;obtain⟨a,b,c⟩:=v;have e:a=o:=e;subst e;exact⟨b,c,hv⟩
end Inv
set_option maxRecDepth 100000
open Go.RX D
theorem Vf {s:WD} {o r pg lv:Int} {e:ET} (h: ¬ l6 s r pg lv=0):rz s o r pg lv e=s:=au h
theorem IP {s:WD} {o r:Int} {gone:Bool} {pg f rt:Int} (h: ¬ lK s r gone pg f rt=0):jv s o r gone pg f rt=s:=by
 unfold lK at h;unfold jv;cases gone with
 |true=>rw[az rfl]
 |false=>
  have a: ¬ (false=true):=by decide
  rw[au a] at h ⊢;by_cases c:na pg f rt=0
  ·rw[az c] at h ⊢;exact Vf h
  ·rw[au c]
theorem Vg {s:WD} {o r pg:Int} (h: ¬ l8 s o r pg=0):fi s o r pg=s:=by
 unfold l8 at h;unfold fi;by_cases c:(dz s.1 r pg).2.1=0
 ·rw[az c]
 ·rw[au c] at h ⊢;rw[au h,IL h]
theorem Vh {s:WD} {o r:Int} {gone:Bool} {pg rt:Int} (h: ¬ Fz s o r gone pg rt=0):rA s o r gone pg rt=s:=by
 unfold Fz at h;unfold rA;cases gone with
 |true=>rw[az rfl]
 |false=>
  have a: ¬ (false=true):=by decide
  rw[au a] at h ⊢;by_cases c:na pg 0 rt=0
  ·rw[az c] at h ⊢;by_cases d:(cZ s.1 r pg).1=true
   ·rw[az d] at h ⊢;by_cases e:((cZ s.1 r pg).2.2.1&&(cZ s.1 r pg).2.1==rt)=true
    ·rw[az e]
    ·rw[au e] at h ⊢;rw[au h,Vg h]
   ·rw[au d]
  ·rw[au c]
namespace Inv
variable {g:Gh} {s:WD}
theorem Zj (I:Inv g s) {o:Int} (a:1<=o/\o<=16) (hc:0<cA s.2 0):rj s o=0:=by
 obtain⟨n, _, _, _,e, _⟩:=mW hc I.fz a;exact e
end Inv
set_option maxRecDepth 100000
open Go.RX D
structure SM (Q:Sys) (D G:List Nat) (w0 w:A2) (s:WD) (L0:List (Nat×List AC)) (M:List (Nat×Bp)):Prop where
 pos:0<s.1.length
 FA:0<s.2.length
 le:s.2.length<=4096
 ZX:okW s.1
 kn: ∃ca la,cM D G w0 w (Q.L ca la s L0) M
section
variable {Q:Sys} {D G:List Nat} {w0 w w1:A2} {s:WD} {L0 L1:List (Nat×List AC)} {M M1:List (Nat×Bp)}
namespace SM
theorem ext (H:SM Q D G w0 w s L0 M) (h:Ext w w1):SM Q D G w0 w1 s L0 M:=by
 obtain⟨a,b,c,d,ca,la,k⟩:=H;exact⟨a,b,c,d,ca,la,k.ext h⟩
theorem base (H:SM Q D G w0 w s L0 M):a_ Q D G w0 w s L0:=by
 obtain⟨a,b,c,d,ca,la,k⟩:=H;exact⟨a,b,c,d,ca,la,k.base⟩
theorem of (S:a_ Q D G w0 w s L0):SM Q D G w0 w s L0 []:=by
 obtain⟨a,b,c,d,ca,la,k⟩:=S;exact⟨a,b,c,d,ca,la,cM.of k⟩
theorem call (H:SM Q D G w0 w s L0 M): ∃f,a_ Q [] f w w s L0/\ ∀{e:A2} {s':WD} {L':List (Nat×List AC)},a_ Q [] f w e s' L'->SM Q D G w0 e s' L' M:=by
 obtain⟨a,b,c,d,ca,la,k⟩:=H;refine⟨_,⟨a,b,c,d,ca,la,k.base.again⟩,λ{e s' L'} S=>?_⟩;obtain⟨a',g,h,d',pP,Ai,i⟩:=S;exact⟨a',g,h,d',pP,Ai,k.join i⟩
theorem perm (H:SM Q D G w0 w s L0 M) (h:L1.Perm L0):SM Q D G w0 w s L1 M:=by
 obtain⟨a,b,c,d,ca,la,k⟩:=H;exact⟨a,b,c,d,ca,la,k.perm ((((h.cons _).cons _).cons _).cons _)⟩
theorem sub (H:SM Q D G w0 w s L0 M) (h:L1.Sublist L0):SM Q D G w0 w s L1 M:=by
 obtain⟨a,b,c,d,ca,la,k⟩:=H;exact⟨a,b,c,d,ca,la,k.sub ((((h.cons_cons _).cons_cons _).cons_cons _).cons_cons _)⟩
theorem kW (H:SM Q D G w0 w s L0 M) (h:M1.Perm M):SM Q D G w0 w s L0 M1:=by
 obtain⟨a,b,c,d,ca,la,k⟩:=H;exact⟨a,b,c,d,ca,la,k.kW h⟩
theorem Fq (H:SM Q D G w0 w s L0 M) (h:M1.Sublist M):SM Q D G w0 w s L0 M1:=by
 obtain⟨a,b,c,d,ca,la,k⟩:=H;exact⟨a,b,c,d,ca,la,k.Fq h⟩
theorem get (H:SM Q D G w0 w s L0 M) {r:Nat} {o:Bp} (h:(r,o)∈M):w.heap[r]? =some o:=by
 obtain⟨a,b,c,d,ca,la,k⟩:=H;exact(k.obj _ h).1
theorem put (H:SM Q D G w0 w s L0 M) {i r:Nat} {o:Bp} (h:M[i]? =some (r,o)) {o':Bp} (e:nF o'):SM Q D G w0 (w.putObj r o') s L0 (M.set i (r,o')):=by
 obtain⟨a,b,c,d,ca,la,k⟩:=H;exact⟨a,b,c,d,ca,la,k.put h e⟩
theorem alloc (H:SM Q D G w0 w s L0 M) {o:Bp} (e:nF o):SM Q D G w0 (w.alloc o) s L0 ((w.heap.size,o)::M):=by
 obtain⟨a,b,c,d,ca,la,k⟩:=H;exact⟨a,b,c,d,ca,la,k.alloc e⟩
theorem go (H:SM Q D G w0 w s L0 M) {P:Program} {f:FuncId} {sh:Sh} {args:List AC} {K:sh.T->A2->Prop} (k: ∀w1,SM Q D G w0 w1 s L0 M->aE P f sh args w1 K):aD P f sh args w K:=λ_ h=>k _ (H.ext h)
theorem en (H:SM Q D G w0 w s L0 M) {K:A2->Prop} (k: ∀w1,SM Q D G w0 w1 s L0 M->K w1):ao w K:=λ_ h=>k _ (H.ext h)
end SM
end
abbrev TK:Type:=Int×Int×Int
def wM (t:TK):AC×AC:=(aa t.1,.agg ⟨[aa t.2.1,aa t.2.2]⟩)
def qw (es:List BK) (ck:Nat) (tk:List TK):Prop:=
 (∃p:List TK,p.Perm tk/\es.map (λe=>(e.key,e.val))=p.map wM)/\(es.map (·.born)).Nodup/\(∀e∈es,e.born<ck)/\(tk.map (·.1)).Nodup
theorem qw.nil:qw [] 0 []:=⟨⟨[],List.Perm.nil,rfl⟩,IR,λe a=>(by cases a),IR⟩
theorem qw.len {es:List BK} {ck:Nat} {tk:List TK} (h:qw es ck tk):es.length=tk.length:=by
 obtain⟨⟨p,h1,a⟩, _⟩:=h;have:=congrArg E9 a;rw[BL,BL] at this;rw[this,h1.length_eq]
theorem Rh {es:List BK} {p:List TK} (h:es.map (λe=>(e.key,e.val))=p.map wM) (g:Int) (i0:Nat):
 Instr.findNow (.int .i64) (aa g) es i0=some (match p.findIdx? (λt=>t.1==g) with
  |some i=>some (i0+i,(wM (p.getD i (0,0,0))).2)
  |none=>none):=by
 induction es generalizing p i0 with
 |nil=>
  cases p with
  |nil=>rfl
  |cons t p=>simp at h
 |cons e es d=>
  cases p with
  |nil=>simp at h
  |cons t p=>
   simp only[H5,List.cons.injEq] at h;obtain⟨h1,f⟩:=h;have j:e.key=aa t.1:=congrArg (·.1) h1;have hv:e.val=(wM t).2:=congrArg (·.2) h1;unfold Instr.findNow;rw[j];have k:Instr.sameNow (.int .i64) (aa g) (aa t.1)=some (g==t.1):=by
    show(if IntKind.i64=IntKind.i64 then some (g==t.1) else none)= _;rw[az rfl]
   rw[k,List.findIdx?_cons];by_cases a:t.1=g
   ·have b:(g==t.1)=true:=by simp[a]
    have c:(t.1==g)=true:=by simp[a]
    rw[b,az c];dsimp only;rw[hv];rfl
   ·have b:(g==t.1)=false:=by simp;exact λe=>a e.symm
    have c: ¬ (t.1==g)=true:=by simp[a]
    rw[b,au c];dsimp only;rw[d f (i0+1)];cases p.findIdx? (λt=>t.1==g) with
    |none=>rfl
    |some i=>
     show some (some (i0+1+i, _))=some (some (i0+(i+1), _));rw[show i0+1+i=i0+(i+1) by omega];rfl
def b_ (tk:List TK) (g:Int):Option (Int×Int):=(tk.find? λt=>t.1==g).map (·.2)
theorem jF {tk:List TK} {g a b:Int} (l:(tk.map (·.1)).Nodup):b_ tk g=some (a,b)<->(g,a,b)∈tk:=by
 unfold b_;constructor
 ·intro h;obtain⟨t,h1,k⟩:=ND.1 h;have c:=In h1;have d:=J3 h1;have:t.1=g:=by simpa using c
  obtain⟨t1,t2⟩:=t;simp only at this k;subst this;subst k;exact d
 ·intro h;cases e:tk.find? λt=>t.1==g with
  |none=>
   have:=H6.1 e _ h;simp at this
  |some t=>
   have c:=In e;have d:=J3 e;have m:t.1=g:=by simpa using c
   obtain⟨i,hi⟩:=BJ h;obtain⟨j,f⟩:=BJ d;have n:(tk.map (·.1))[i]? =some g:=by rw[Bs,hi];rfl
   have o:(tk.map (·.1))[j]? =some g:=by rw[Bs,f];exact congrArg some m
   have:=(EO (by rw[BL];exact(Bx.1 hi).1) l).1 (n.trans o.symm);subst this;rw[hi] at f;cases f;rfl
theorem qe {tk:List TK} {g:Int}:b_ tk g=none<-> ∀t∈tk,t.1≠g:=by
 unfold b_;rw[NE,H6];simp
theorem qf {α β:Type} (f:α->β): ∀(l:List α) (i:Nat),(l.eraseIdx i).map f=(l.map f).eraseIdx i
 |[],i=>by simp
 |a::l,0=>rfl
 |a::l,i+1=>by
  simp only[List.eraseIdx_cons_succ,H5];rw[qf f l i]
theorem qw.find {es:List BK} {ck:Nat} {tk:List TK} (h:qw es ck tk) (g:Int): ∃r,Instr.findNow (.int .i64) (aa g) es 0=some r/\
 match b_ tk g with
 |some x=> ∃i,r=some (i,.agg ⟨[aa x.1,aa x.2]⟩)/\i<es.length/\qw (es.eraseIdx i) ck (tk.filter λt=> !(t.1==g))
 |none=>r=none:=by
 obtain⟨⟨p,h1,f⟩,s,u,j⟩:=h;refine⟨_,Rh f g 0,?_⟩;have v:(p.map (·.1)).Nodup:=(h1.map _).nodup_iff.2 j;cases k:p.findIdx? (λt=>t.1==g) with
 |none=>
  have:b_ tk g=none:=qe.2 λt d=>by
   have:=List.findIdx?_eq_none_iff.1 k t (h1.mem_iff.2 d);simpa using this
  rw[this]
 |some i=>
  rw[JC] at k;obtain⟨hi,b, _⟩:=k;have l:p[i]? =some p[i]:=C6 hi;have m:p.getD i (0,0,0)=p[i]:=by rw[Do,l];rfl
  obtain⟨t,d⟩: ∃t,t=p[i]:=⟨_,rfl⟩;rw[<-d] at l m b;have b:t.1=g:=by simpa using b
  have w:(g,t.2.1,t.2.2)∈tk:=by
   have:=h1.mem_iff.1 (Bz l);obtain⟨t1,t2,t3⟩:=t;simp only at b;subst b;exact this
  rw[(jF j).2 w];have B:es.length=p.length:=by
   have:=congrArg E9 f;simpa using this
  refine⟨i,by dsimp only;rw[m,Nat.zero_add];rfl,by omega,⟨p.eraseIdx i,?_,?_⟩,?_,?_,?_⟩
  ·have y:p.eraseIdx i=p.filter λt=> !(t.1==g):=by
    have n:p=p.take i++t::p.drop (i+1):=by
     conv=>lhs;rw[<-H7 i p]
     rw[JD hi, <-d]
    have o: ∀x∈p.take i++p.drop (i+1),x.1≠g:=by
     intro x c e;have q:=v;rw[n,CN,H5] at q;have z:=(B5 (a:=t.1) (l₁:=(p.take i).map (·.1)) (l₂:=(p.drop (i+1)).map (·.1))).nodup_iff.1 q;have:=(JJ.1 z).1;refine this ?_;rw[b, <-e, <-CN];exact B4.2 ⟨x,c,rfl⟩
    rw[JL]
    conv=>rhs;rw[n]
    rw[List.filter_append,JP (by simp[b])];rw[HB.2 (λx c=>by have:=o x (Bv _ c);simpa using this),HB.2 (λx c=>by have:=o x (B1 _ c);simpa using this)]
   rw[y];exact h1.filter _
  ·rw[qf,f,qf]
  ·rw[qf];exact s.sublist (List.eraseIdx_sublist _ _)
  ·exact λe A=>u e (List.mem_of_mem_eraseIdx A)
  ·exact j.sublist ((JS).map _)
theorem qw.push {es:List BK} {ck:Nat} {tk:List TK} (h:qw es ck tk) {t:TK} (g:b_ tk t.1=none) {b:List TK} (c:b.Perm (t::tk)):qw (es++[{key:=(wM t).1,val:=(wM t).2,born:=ck}]) (ck+1) b:=by
 obtain⟨⟨p,h1,i⟩,j,d,k⟩:=h;refine⟨⟨p++[t],?_,?_⟩,?_,?_,?_⟩
 ·exact(List.perm_append_singleton _ _).trans ((h1.cons _).trans c.symm)
 ·rw[CN,i,CN];rfl
 ·rw[CN];refine EU.2 ⟨j,by simp,λx a y f e=>?_⟩;obtain⟨e',he,rfl⟩:=B4.1 a;have f:y=ck:=by simpa using f
  have:=d e' he;omega
 ·intro e he;rcases CP.1 he with he|he
  ·have:=d e he;omega
  ·have:e={key:=(wM t).1,val:=(wM t).2,born:=ck}:=by simpa using he
   subst this;exact Nat.lt_succ_self _
 ·refine(c.map _).nodup_iff.2 (JJ.2 ⟨λl=>?_,k⟩);obtain⟨x,a,e⟩:=B4.1 l;exact qe.1 g x a e
set_option maxRecDepth 100000
open Go.RX D
structure GV where
 root:Int
 tk:List TK
structure HS where
 s:WD
 g:Nat->Option GV
 gr:List GT
 po:List Po.PT
structure HX where
 hb:Nat
 gb:Nat
 ub:Nat
 pb:Nat
 c:Nat
 rest:List AC
structure GA where
 bg:Nat
 bt:Nat
 bm:Nat
 ck:Nat
 es:List BK
def kq (A:Nat->GA) (g:Nat->Option GV) (i:Nat):Option Ae:=match g i with
 |some _=>some ⟨(A i).bg,0,none⟩
 |none=>none
def mo (A:Nat->GA) (g:Nat->Option GV):List AC:=(Ad 17).map λi=>ag (kq A g i)
abbrev fq (Q:Sys) (X:HX) (A:Nat->GA) (g:Nat->Option GV):List AC:=[ag (ae Q.bm),ag (ae Q.bp),ag (ae X.gb),ag (ae X.pb)]++mo A g
def gO (Q:Sys) (A:Nat->GA) (i:Nat) (v:GV):List (Nat×List AC):=[((A i).bg,[ag (some ⟨(A i).bt,0,none⟩),.map (some (A i).bm)]),((A i).bt,kF Q i v.root false)]
def a8 (Q:Sys) (A:Nat->GA) (g:Nat->Option GV) (l:List Nat):List (Nat×List AC):=l.flatMap λi=>match g i with
 |some v=>gO Q A i v
 |none=>[]
def de (A:Nat->GA) (g:Nat->Option GV) (l:List Nat):List (Nat×Bp):=l.flatMap λi=>match g i with
 |some _=>[((A i).bm,Obj.map ⟨(A i).es⟩ (A i).ck)]
 |none=>[]
abbrev dV (Q:Sys) (X:HX) (A:Nat->GA) (h:HS) (L:List (Nat×List AC)):List (Nat×List AC):=
 (X.hb,fq Q X A h.g)::(X.gb,mw X.ub h.gr.length X.c)::(X.ub,flat eG h.gr++X.rest)::(X.pb,Po.gJ 4 h.po)::L
structure CY (A:Nat->GA) (h:HS):Prop where
 jg: ∀{i v},h.g i=some v->1<=i/\i<=16
 mp: ∀{i v},h.g i=some v->qw (A i).es (A i).ck v.tk
 gl:h.gr.length=16
 pt:Po.lA 4 h.po
 gk:nY h.gr
def ji (Q:Sys) (X:HX) (D G:List Nat) (w0 w:A2) (h:HS) (L:List (Nat×List AC)):Prop:=
 ∃A,CY A h/\SM Q D G w0 w h.s (dV Q X A h (a8 Q A h.g (Ad 17)++L)) (de A h.g (Ad 17))
theorem A5 {Q:Sys} {A:Nat->GA} {g:Nat->Option GV} {l:List Nat} {i:Nat} {v:GV} (hi:i∈l) (hv:g i=some v): ∀x∈gO Q A i v,x∈a8 Q A g l:=λx a=>by
 unfold a8;exact Gd.2 ⟨i,hi,by rw[hv];exact a⟩
theorem LI {A:Nat->GA} {g:Nat->Option GV} {l:List Nat} {i:Nat} {v:GV} (hi:i∈l) (hv:g i=some v):((A i).bm,Obj.map ⟨(A i).es⟩ (A i).ck)∈de A g l:=by
 unfold de;exact Gd.2 ⟨i,hi,by rw[hv];exact H4.2 rfl⟩
theorem uU {A:Nat->GA} {g:Nat->Option GV} {i:Nat} (hi:i<17):(mo A g)[i]? =some (ag (kq A g i)):=by
 unfold mo;rw[Bs,List.getElem?_range hi];rfl
def aW (g:Nat->Option GV) (v:Int):Bool:=decide (v>=1)&&decide (v<=16)&&(g v.toNat).isSome
def a6 (g:Nat->Option GV) (v:Int):Int:=if aW g v=true then(match g v.toNat with|some x=>x.root|none=> -1) else -1
def fX (g:Nat->Option GV) (v p:Int):Int×Bool×Unit:=if aW g v=true then(match g v.toNat with
 |some x=>(match b_ x.tk p with|some y=>(y.1,true,())|none=>(0,false,()))
 |none=>(0,false,())) else(0,false,())
def c9 (g:Nat->Option GV) (v a:Int):Int:=if a<1\/a>16\/a=v then 1 else if aW g a=true then 0 else 4
theorem cq {g:Nat->Option GV} {v:Int}:aW g v=true<->(1<=v/\v<=16)/\ ∃x,g v.toNat=some x:=by
 unfold aW;simp only[E5,decide_eq_true_eq,Option.isSome_iff_exists]
section
variable {Q:Sys} {X:HX} {D G:List Nat} {w0 w:A2} {s:WD} {L0:List (Nat×List AC)} {M:List (Nat×Bp)} {A:Nat->GA} {g:Nat->Option GV}
theorem a_.mE (S:a_ Q D G w0 w s L0) (a:(X.hb,fq Q X A g)∈L0) {v:Int} (hv:0<=v/\v<=16):cP w (ad (ad (ae X.hb) 4) (v.toNat*1)) (.one .ptr) (kq A g v.toNat):=by
 obtain⟨j,b⟩:=BJ a;rw[aR,aR];refine dI (S.get b) ?_;show(match (fq Q X A g)[0+4+v.toNat*1]? with|some v=>Sc.ptr.proj v|none=>none)= _;have:(fq Q X A g)[0+4+v.toNat*1]? =some (ag (kq A g v.toNat)):=by
  show([ag (ae Q.bm),ag (ae Q.bp),ag (ae X.gb),ag (ae X.pb)]++mo A g)[0+4+v.toNat*1]? = _;rw[EW (by simp),CV,CV,CV,CV,Jn];rw[show 0+4+v.toNat*1 - (0+1+1+1+1)=v.toNat by omega];exact uU (by omega)
 rw[this];rfl
theorem a_.fG (S:a_ Q D G w0 w s L0) (a:(X.hb,fq Q X A g)∈L0) {n:Nat} {x:Option Ae} (h:[(some ⟨Q.bm,0,none⟩:Option Ae),some ⟨Q.bp,0,none⟩,some ⟨X.gb,0,none⟩,some ⟨X.pb,0,none⟩][n]? =some x):cP w (ad (ae X.hb) n) (.one .ptr) x:=by
 obtain⟨j,b⟩:=BJ a;rw[aR];refine dI (S.get b) ?_;rcases n with _| _| _| _|n
 ·cases h;rfl
 ·cases h;rfl
 ·cases h;rfl
 ·cases h;rfl
 ·simp at h
theorem mQ (S:a_ Q D G w0 w s L0) (a:(X.hb,fq Q X A g)∈L0):ah Ab 53 [ag (ae X.hb)] w (.bool true):=by
 refine ah.of (s:= .el (.one .bool)) λw' h'=>ai (C:=V0) (aT:=λ_=>[]) (Av (Lh _ w' _) ?_);exact⟨λ_=>rfl,λ_=>rfl,aj.of _ ((S.ext h').fG a (n:=0) rfl) λw1 h1=>⟨rfl,h1⟩⟩
theorem pX (S:a_ Q D G w0 w s L0) (a:(X.hb,fq Q X A g)∈L0) (v:Int):ah Ab 19 [ag (ae X.hb),aa v] w (.bool (aW g v)):=by
 refine ah.of (s:= .el (.one .bool)) λw' h'=>ai (C:=V0) (aT:=λ_=>[]) (Av (Q4 _ v w' _) ?_);have S:=S.ext h';refine⟨_,mQ S a,λ_=>rfl,λ_=>rfl,λc=>?_,?_⟩
 ·simp only[E5,decide_eq_true_eq] at c;exact⟨rfl,by omega,by show v<((17:Nat):Int);omega⟩
 ·unfold aW;by_cases hv:v>=1/\v<=16
  ·refine aj.of _ (S.mE a ⟨by omega,hv.2⟩) λw1 h1=>⟨?_,h1⟩;unfold kq;cases g v.toNat<;>simp
  ·have c:(true&&decide (v>=1)&&decide (v<=16))=false:=by
    rw[Bool.and_eq_false_iff,GS,decide_eq_false_iff_not,decide_eq_false_iff_not];omega
   rw[c];refine⟨none,λh=>(by cases h),λw1 h1=>⟨?_,h1⟩⟩;rw[GS] at c;rw[c];rfl
theorem bL {a:Int} (h:0<=a/\a<9223372036854775808):aw .i64 a=a:=gm (by omega) h.2
theorem D6 (S:a_ Q D G w0 w s L0) (b:(X.hb,fq Q X A g)∈L0) {a:Int} (d:0<=a):ah Ab 165 [ag (ae X.hb),ay a] w (.bool (aW g a)):=by
 refine ah.of (s:= .el (.one .bool)) λw' h'=>ai (C:=V0) (aT:=λ_=>[]) (Av (Li _ a w' _) ?_);have S:=S.ext h';refine⟨aW g a,λc=>?_,λw1 h1=>⟨?_,h1⟩⟩
 ·have c:a<=16:=by simpa using c
  rw[bL ⟨d,by omega⟩];exact pX S b a
 ·by_cases c:a<=16
  ·rw[decide_eq_true c];rfl
  ·rw[decide_eq_false c];unfold aW;rw[decide_eq_false c];simp
theorem yO (S:a_ Q D G w0 w s L0) (d:(X.hb,fq Q X A g)∈L0) (v:Int) {a:Int} (b:0<=a):ah Ab 179 [ag (ae X.hb),aa v,ay a] w (aa (c9 g v a)):=by
 refine ah.of (s:= .el (.one (.int .i64))) λw' h'=>ai (C:=V0) (aT:=λ_=>[]) (Av (Ln _ v a w' _) ?_);have S:=S.ext h';unfold c9;by_cases c:a<1\/a>16\/a=v
 ·rw[az c];refine aF ?_ λw1 h1=>⟨rfl,h1⟩;simp only[MQ,decide_eq_true_eq,beq_iff_eq];rcases c with c|c|c
  ·exact .inl (.inl c)
  ·exact .inl (.inr c)
  ·by_cases c2:a>16
   ·exact .inl (.inr c2)
   ·exact .inr (by rw[bL ⟨b,by omega⟩];exact c)
 ·rw[au c];refine an ?_ ⟨_,D6 S d b,?_⟩
  ·rw[bL ⟨b,by omega⟩];simp only[Dl,decide_eq_false_iff_not,beq_eq_false_iff_ne];omega
  ·cases aW g a with
   |true=>exact an rfl λw1 h1=>⟨rfl,h1⟩
   |false=>exact aF rfl λw1 h1=>⟨rfl,h1⟩
theorem IQ (S:a_ Q D G w0 w s L0) (b:(X.hb,fq Q X A g)∈L0) (c: ∀i v,g i=some v-> ∀x∈gO Q A i v,x∈L0) (v:Int):ah Ab 21 [ag (ae X.hb),aa v] w (aa (a6 g v)):=by
 refine ah.of (s:= .el (.one (.int .i64))) λw' h'=>ai (C:=V0) (aT:=λ_=>[]) (Av (Q5 _ v w' _) ?_);have S:=S.ext h';refine⟨_,pX S b v,?_⟩;unfold a6;cases d:aW g v with
 |false=>exact aF rfl λw1 h1=>⟨rfl,h1⟩
 |true=>
  obtain⟨hv,x,a⟩:=cq.1 d;have hc:=S.mE b (v:=v) ⟨by omega,hv.2⟩;have e:kq A g v.toNat=some ⟨(A v.toNat).bg,0,none⟩:=by unfold kq;rw[a]
  rw[e] at hc;obtain⟨j1,f⟩:=BJ (c _ _ a _ B2);obtain⟨h,j⟩:=BJ (c _ _ a _ (B3 _ B2));refine an rfl ⟨rfl,rfl,⟨rfl,by omega,by show v<((17:Nat):Int);omega⟩,aj.of _ hc ⟨rfl,rfl,S.cI j1 f rfl ⟨_,S.root h j,λw1 h1=>⟨?_,h1⟩⟩⟩⟩;rw[a,az rfl];rfl
theorem pz (H:SM Q D G w0 w s L0 M) (d:(X.hb,fq Q X A g)∈L0) (k: ∀i v,g i=some v-> ∀x∈gO Q A i v,x∈L0) (l: ∀i v,g i=some v->((A i).bm,Obj.map ⟨(A i).es⟩ (A i).ck)∈M) (m: ∀i v,g i=some v->qw (A i).es (A i).ck v.tk) (v p:Int):
 ah Ab 174 [ag (ae X.hb),aa v,aa p] w ((Sh.bu [.one (.int .i64),.one .bool]).gR (fX g v p)):=by
 refine ah.of (s:= .bu [.one (.int .i64),.one .bool]) λw' h'=>ai (C:=V0) (aT:=λ_=>[]) (Av (Ll _ v p w' _) ?_);have H:=H.ext h';have S:=H.base;refine⟨_,pX S d v,?_⟩;unfold fX;cases n:aW g v with
 |false=>exact aF rfl λw1 h1=>⟨rfl,h1⟩
 |true=>
  obtain⟨hv,x,a⟩:=cq.1 n;have hc:=S.mE d (v:=v) ⟨by omega,hv.2⟩;have o:kq A g v.toNat=some ⟨(A v.toNat).bg,0,none⟩:=by unfold kq;rw[a]
  rw[o] at hc;obtain⟨j1,q⟩:=BJ (k _ _ a _ B2);obtain⟨r,f,c⟩:=(m _ _ a).find p;have h:bE w' (A v.toNat).bm ⟨(A v.toNat).es⟩ (A v.toNat).ck:=H.get (l _ _ a);refine an rfl ⟨rfl,rfl,⟨rfl,by omega,by show v<((17:Nat):Int);omega⟩,aj.of _ hc ⟨rfl,rfl,S.cI j1 q rfl ?_⟩⟩;rw[a,az rfl];dsimp only;have at0:Ext w' w':=Ext.refl _;have H0:=At.start [] w';cases j:b_ x.tk p with
  |none=>
   rw[j] at c;refine⟨(0,0,()),false,⟨_, _, _,rfl,h,?_⟩,aK.go H0 λb t H0=>aC.all 0 H0 rfl rfl rfl λu H0=>⟨rfl,aj.bP 0 H0 rfl rfl (ao.go H0 λz H0=>⟨rfl,H0.all⟩)⟩⟩;rw[f,c];exact⟨rfl,rfl⟩
  |some y=>
   rw[j] at c;obtain⟨i,e, _⟩:=c;refine⟨(y.1,y.2,()),true,⟨_, _, _,rfl,h,?_⟩,aK.go H0 λb t H0=>aC.all 0 H0 rfl rfl rfl λu H0=>⟨rfl,aj.bP 0 H0 rfl rfl (ao.go H0 λz H0=>⟨rfl,H0.all⟩)⟩⟩;rw[f,e];exact⟨rfl,rfl⟩
end
section
variable {G:List Nat} {w0 w:A2}
theorem Ri {bm bw n c:Nat} {ca la:Int} {ws:List Int} {rest:List AC} {L0:List (Nat×List AC)} (H:At G w0 w ((bm,iP bw n c ca la)::(bw,flat eW ws++rest)::L0)) (A:n=ws.length) (h0:0<n) (B:okW ws) (f p t:Int) {K:FT->A2->Prop}
 (k: ∀pP w1,At G w0 w1 ((bm,iP bw n c pP la)::(bw,flat eW ws++rest)::L0)->K (m_ ws f p t) w1):
 aD Ab 223 (.el (.agg sF)) [ag (ae bm),aa f,aa p,aa t] w K:=by
 refine aD.go H λw1 H=>aQ (C:=M1) (aT:=vN) (Av (Uo _ f p t w1 K) ?_);refine aK.go H λb R H=>Ix H f p t (λhb D H=>?_) λhb bk D H=>?_
 ·have e:m_ ws f p t=(0,0,0,1,()):=az hb;rw[e] at k;exact aF rfl (aC.all 0 H rfl rfl rfl λo H=>ao.go H λr H=>aj.at 0 H rfl rfl (k ca r (H.sub (BN _ _))))
 have e:m_ ws f p t=(lG ws f p t 4).2.2:=au (by rw[hb];decide);rw[e] at k;refine an rfl ⟨λq _ w'=> ∃(i:Nat) (Ls:List (Nat×List AC)) (s:Option Ae×Nat×Nat) (xs:List Int) (pP:Int),q+i=4/\i<=3/\(lG ws f p t i).2.1≠ -1/\xs.length=i/\Bw Ls s xs/\
  At G w0 w' ((bk,lF (lG ws f p t i).1 p t (lG ws f p t i).2.1 (lG ws f p t i).2.2 s)::(bm,iP bw n c pP la)::(bw,flat eW ws++rest)::(Ls++((b,[aa 0,aa 0,aa 0,aa 0])::L0))),⟨4,λo E=>⟨0,[],(none,0,0),[],ca,rfl,by decide,(show(3:Int)≠ -1 by decide),rfl,.inl ⟨rfl,rfl,rfl⟩,(H.ext E).perm ?_⟩⟩,?_⟩
 ·exact .cons _ (DB (l₁:=[(bm,iP bw n c ca la),(bw,flat eW ws++rest)]) (l₂:=[(b,[aa 0,aa 0,aa 0,aa 0])]) |>.append_right L0)
 clear H;rintro q u o ⟨i,Ls,s,xs,pP,S,T,F,I,J,H⟩;dsimp only;refine DM H J (by omega) A h0 B F λr g s' L H=>?_;have es:bG ws p t ((lG ws f p t i).1,(lG ws f p t i).2.1,(lG ws f p t i).2.2)=lG ws f p t (i+1):=rfl;rw[es] at H ⊢;by_cases d:(lG ws f p t (i+1)).2.1= -1
 ·have M:lG ws f p t 4=lG ws f p t (i+1):=by
   have:=xd d (4 - (i+1));rw[show i+1+(4 - (i+1))=4 by omega] at this;exact this
  rw[M] at k;generalize lG ws f p t (i+1)=y at H d k;obtain⟨v,z,⟨h,j,l,m,U⟩⟩:=y;refine an (by rw[d];rfl) ⟨rfl,rfl,aj.bP (x:=(h,j,l,m,())) 0 H rfl rfl ?_⟩;have H:=H.perm (L':=(b,[aa 0,aa 0,aa 0,aa 0])::((bk,lF v p t z (h,j,l,m,()) s')::(bm,iP bw n c (qo ws (dY (lG ws f p t i).1 p (lG ws f p t i).2.1) pP) la)::(bw,flat eW ws++rest)::(g++L0))) (by
   refine(B5 (l₁:=[(bk,lF v p t z (h,j,l,m,()) s'),(bm,iP bw n c (qo ws (dY (lG ws f p t i).1 p (lG ws f p t i).2.1) pP) la),(bw,flat eW ws++rest)]++g) (a:=(b,[aa 0,aa 0,aa 0,aa 0])) (l₂:=L0)).symm)
  refine aC.all 0 H rfl rfl rfl λN H=>ao.go H λO H=>aj.at 0 H rfl rfl (k (qo ws (dY (lG ws f p t i).1 p (lG ws f p t i).2.1) pP) O ?_);have H:=(H.sub (BN _ _)).sub (BN _ _);exact H.sub (.cons_cons _ (.cons_cons _ (EY _ _)))
 ·have P:=(WJ ws f p t (i+1)).resolve_left d;refine aF (by simp[d]) λN Q=>⟨q - 1,by omega,i+1,g,s',xs++[(lG ws f p t i).1], _,by omega,P.2,d,by rw[F0,I];rfl,L,H.ext Q⟩
theorem LJ {bm bw n c:Nat} {ca la:Int} {ws:List Int} {rest:List AC} {L:List (Nat×List AC)} (H:At G w0 w L) (j a:Nat) (b:L[j]? =some (bm,iP bw n c ca la)) (d:L[a]? =some (bw,flat eW ws++rest)) (e:j≠a) (g:n=ws.length) (h0:0<n) (h:okW ws) (f p t:Int) {K:FT->A2->Prop}
 (k: ∀pP w1,At G w0 w1 (L.set j (bm,iP bw n c pP la))->K (m_ ws f p t) w1):
 aD Ab 223 (.el (.agg sF)) [ag (ae bm),aa f,aa p,aa t] w K:=by
 obtain⟨m,i,l⟩:=Y5 b d e;exact Ri (H.perm i.symm) g h0 h f p t λpP w1 H=>k pP w1 (H.perm (l _))
end
section
variable {D G:List Nat} {w0 w w':A2} {L:List (Nat×List AC)}
end
section
variable {Q:Sys} {D G:List Nat} {w0 w:A2} {s:WD} {L0:List (Nat×List AC)}
namespace a_
theorem abd (S:a_ Q D G w0 w s L0) {K:Option Ae->A2->Prop}
 (k: ∀a b d e c,a_ Q D G w0 c s ((a,[.slice (ae b) s.2.length d])::(b,flat eD s.2++e)::L0)->K (ae a) c):
 aD Ab 54 (.el (.one .ptr)) [ag (ae Q.bp)] w K:=by
 refine S.go λw1 S=>?_;obtain⟨h1,f,g,h,ca,la,H⟩:=S;refine UM H (H.get (i:=3) rfl) (H.get (i:=2) rfl) rfl f g λa b d e c H=>k a b d e c ⟨h1,f,g,h,ca,la,H.perm ?_⟩;exact DB (l₁:=[_, _, _, _]) (l₂:=[(a, _),(b, _)]) |>.append_right L0
theorem ofq (S:a_ Q D G w0 w s L0) (f:Int):ah Ab 25 [ag (ae Q.bp),aa f] w ((Sh.bu [eD,.one .bool]).gR (qp s.2 f,By s.2 f,())):=by
 obtain⟨h1,a,b,c,ca,la,H⟩:=S;exact abW H 3 2 rfl rfl rfl f
theorem FD (S:a_ Q D G w0 w s L0) (f:Int) {K:Int->A2->Prop} (k: ∀a,a_ Q D G w0 a (s.1,dF s.2 f (aP 0 0)) L0->K (vd s.2 f (aP 0 0)) a):
 aD Ab 79 (.el (.one (.int .i64))) [ag (ae Q.bp),aa f] w K:=by
 obtain⟨h1,b,c,d,ca,la,H⟩:=S;refine UZ H 3 2 rfl rfl (by decide) rfl b c f λa H=>k a ⟨h1,?_,?_,d,ca,la,?_⟩
 ·show 0<(dF s.2 f (aP 0 0)).length;rw[iY];exact b
 ·show(dF s.2 f (aP 0 0)).length<=4096;rw[iY];exact c
 ·unfold Sys.L;show aJ D G w0 a (_:: _:: _::(Q.bp,[.slice _ (dF s.2 f (aP 0 0)).length _]):: _);rw[iY];exact H
theorem aat (S:a_ Q D G w0 w s L0) (f x:Int) (d: -9223372036854775808<=x/\x<9223372036854775808) {K:Int->A2->Prop} (k: ∀a,a_ Q D G w0 a (s.1,dF s.2 f (gX x)) L0->K (vd s.2 f (gX x)) a):
 aD Ab 183 (.el (.one (.int .i64))) [ag (ae Q.bp),aa f,aa x] w K:=by
 obtain⟨h1,b,c,e,ca,la,H⟩:=S;refine UY H 3 2 rfl rfl (by decide) rfl b c f x d λa H=>k a ⟨h1,?_,?_,e,ca,la,?_⟩
 ·show 0<(dF s.2 f (gX x)).length;rw[iY];exact b
 ·show(dF s.2 f (gX x)).length<=4096;rw[iY];exact c
 ·unfold Sys.L;show aJ D G w0 a (_:: _:: _::(Q.bp,[.slice _ (dF s.2 f (gX x)).length _]):: _);rw[iY];exact H
theorem owned (S:a_ Q D G w0 w s L0) (v:Int) {K:Option Ae×Nat×Nat->A2->Prop} (k: ∀r rows a,a_ Q D G w0 a s (L0++rows)->n5 eI rows r ((gB s.2 v).map λi=>((i:Nat):Int))->K r a):
 aD Ab 166 (.el (.one .slice)) [ag (ae Q.bp),aa v] w K:=by
 obtain⟨h1,c,b,d,ca,la,H⟩:=S;exact Q1 H 3 2 rfl rfl rfl b v λr rows a H e=>k r rows a ⟨h1,c,b,d,ca,la,H⟩ e
theorem walk (S:a_ Q [] G w0 w s L0) (f p t:Int) {K:FT->A2->Prop} (k: ∀w1,a_ Q [] G w0 w1 s L0->K (m_ s.1 f p t) w1):
 aD Ab 223 (.el (.agg sF)) [ag (ae Q.bm),aa f,aa p,aa t] w K:=by
 obtain⟨h1,b,c,a,ca,la,H⟩:=S;exact LJ H 0 1 rfl rfl (by decide) rfl h1 a f p t λpP w1 H=>k w1 ⟨h1,b,c,a,pP,la,H⟩
end a_
end
set_option maxRecDepth 100000
open Go.RX D
def fO (g:Nat->Option GV) (s:WD) (v p:Int):Int×Int×Int×Unit:=if aW g v=true then(match g v.toNat with
 |some x=>bA s x.root false p
 |none=>(0,0,4,())) else(0,0,4,())
def jS (s:WD) (f:Int):Int:=if By s.2 f=false then 2 else if(qp s.2 f).1≠5 then 6 else vd s.2 f (aP 0 0)
def iC (s:WD) (f:Int):WD:=if By s.2 f=true/\(qp s.2 f).1=5 then(s.1,dF s.2 f (aP 0 0)) else s
section
variable {Q:Sys} {X:HX} {D G:List Nat} {w0 w:A2} {s:WD} {L0:List (Nat×List AC)} {M:List (Nat×Bp)} {A:Nat->GA} {g:Nat->Option GV}
theorem uV (S:a_ Q D G w0 w s L0) (c:(X.hb,fq Q X A g)∈L0) (e: ∀i v,g i=some v-> ∀x∈gO Q A i v,x∈L0) (v p:Int) {K:Int×Int×Int×Unit->A2->Prop} (k: ∀a,a_ Q D G w0 a s L0->K (fO g s v p) a):
 aD Ab 81 (.bu [.one (.int .i64),.one (.int .i64),.one (.int .i64)]) [ag (ae X.hb),aa v,aa p] w K:=by
 refine S.go λw1 S=>ai (C:=V0) (aT:=λ_=>[]) (Av (Lj _ v p w1 K) ?_);refine⟨_,mQ S c,an rfl ⟨_,pX S c v,?_⟩⟩;unfold fO at k;cases d:aW g v with
 |false=>
  rw[d,au (by decide)] at k;exact aF rfl (S.en λa S=>k a S)
 |true=>
  obtain⟨hv,x,b⟩:=cq.1 d;rw[d,az rfl,b] at k;have hc:=S.mE c (v:=v) ⟨by omega,hv.2⟩;have f:kq A g v.toNat=some ⟨(A v.toNat).bg,0,none⟩:=by unfold kq;rw[b]
  rw[f] at hc;obtain⟨j1,h⟩:=BJ (e _ _ b _ B2);obtain⟨j,l⟩:=BJ (e _ _ b _ (B3 _ B2));refine an rfl ⟨rfl,rfl,⟨rfl,by omega,by show v<((17:Nat):Int);omega⟩,aj.of _ hc ⟨rfl,rfl,S.cI j1 h rfl (S.query j l p λa S=>S.en λm S=>k m S)⟩⟩
theorem D7 (S:a_ Q D G w0 w s L0) (j:(X.hb,fq Q X A g)∈L0) (f:Int) {K:Int->A2->Prop} (k: ∀l,a_ Q D G w0 l (iC s f) L0->K (jS s f) l):
 aD Ab 43 (.el (.one (.int .i64))) [ag (ae X.hb),aa f] w K:=by
 refine S.go λw1 S=>ai (C:=V0) (aT:=λ_=>[]) (Av (Q6 _ f w1 K) ?_);refine⟨_,mQ S j,an rfl ⟨rfl,rfl,aj.of _ (S.fG j (n:=1) rfl) ⟨(qp s.2 f,By s.2 f,()),S.ofq f,S.al λb l S=>S.fe 0 rfl rfl rfl λq S=>?_⟩⟩⟩;have o: ∀x:Nat×List AC,(X.hb,fq Q X A g)∈x::L0:=λx=>B3 _ j;cases e:By s.2 f with
 |false=>
  have c:iC s f=s:=au (λh=>by rw[e] at h;cases h.1);have d:jS s f=2:=az e;rw[c,d] at k;exact aF rfl (S.en λi S=>k i S.tail)
 |true=>
  have m: ¬ By s.2 f=false:=by rw[e];decide
  refine an rfl ⟨rfl,S.cI 0 rfl rfl ?_⟩;by_cases a:(qp s.2 f).1=5
  ·have c:iC s f=(s.1,dF s.2 f (aP 0 0)):=az ⟨e,a⟩;have d:jS s f=vd s.2 f (aP 0 0):=by
    unfold jS;rw[au m,au (λh=>h a)]
   rw[c,d] at k;exact an (by simpa using a) ⟨rfl,rfl,aj.of _ (S.fG (o _) (n:=1) rfl) (S.FD f λi S=>S.en λp S=>k p S.tail)⟩
  ·have c:iC s f=s:=au (λh=>a h.2);have d:jS s f=6:=by
    unfold jS;rw[au m,az a]
   rw[c,d] at k;exact aF (by simpa using a) (S.en λi S=>k i S.tail)
theorem GU (S:a_ Q D G w0 w s L0) (f:(X.hb,fq Q X A g)∈L0) {K:Option Ae->A2->Prop} (k: ∀h i j l e,a_ Q D G w0 e s ((h,[.slice (ae i) s.2.length j])::(i,flat eD s.2++l)::L0)->K (ae h) e):
 aD Ab 18 (.el (.one .ptr)) [ag (ae X.hb)] w K:=by
 refine S.go λw1 S=>ai (C:=V0) (aT:=λ_=>[]) (Av (GK _ w1 K) ?_);exact⟨_,mQ S f,an rfl ⟨rfl,rfl,aj.of _ (S.fG f (n:=1) rfl) (S.abd λa b c d e S=>S.en λm S=>k a b c d m S)⟩⟩
theorem zj (S:a_ Q D G w0 w s L0) (a:(X.hb,fq Q X A g)∈L0) {K:Option Ae->A2->Prop} (k: ∀b,a_ Q D G w0 b s L0->K (ae Q.bm) b):
 aD Ab 23 (.el (.one .ptr)) [ag (ae X.hb)] w K:=by
 refine S.go λw1 S=>ai (C:=V0) (aT:=λ_=>[]) (Av (GL _ w1 K) ?_);exact⟨_,mQ S a,an rfl ⟨rfl,rfl,aj.of _ (S.fG a (n:=0) rfl) (S.en λc S=>k c S)⟩⟩
end
structure Xz (A:Nat->GA) (g:Nat->Option GV) (A':Nat->GA) (g':Nat->Option GV):Prop where
 bg: ∀i,(A' i).bg=(A i).bg
 bt: ∀i,(A' i).bt=(A i).bt
 bm: ∀i,(A' i).bm=(A i).bm
 rt: ∀i,(g' i).map GV.root=(g i).map GV.root
section
variable {A A':Nat->GA} {g g':Nat->Option GV} {Q:Sys} {X:HX}
theorem Xz.ptr (h:Xz A g A' g'):kq A' g'=kq A g:=by
 funext i;have:=h.rt i;have hb:=h.bg i;unfold kq;cases h1:g' i<;>cases a:g i<;>rw[h1,a] at this<;>simp at this<;>simp[hb]
theorem Xz.cs (h:Xz A g A' g'):fq Q X A' g'=fq Q X A g:=by
 unfold fq mo;rw[h.ptr]
theorem Xz.rows (h:Xz A g A' g') (l:List Nat):a8 Q A' g' l=a8 Q A g l:=by
 unfold a8;congr 1;funext i;have:=h.rt i;cases h1:g' i<;>cases a:g i<;>rw[h1,a] at this<;>simp at this
 ·dsimp only;unfold gO;rw[h.bg i,h.bt i,h.bm i,this]
theorem lZ {i:Nat} {v:GV} (hi:i<17) (hv:g i=some v):(de A g (Ad 17)).Perm (((A i).bm,Obj.map ⟨(A i).es⟩ (A i).ck)::de A g ((Ad 17).erase i)):=by
 unfold de;refine(Fw _ (FF (CH.2 hi))).trans ?_;rw[Da,hv];exact De _
theorem vW {i:Nat} {v:GV} (hi:i<17) (hv:g i=some v):(a8 Q A g (Ad 17)).Perm (gO Q A i v++a8 Q A g ((Ad 17).erase i)):=by
 unfold a8;refine(Fw _ (FF (CH.2 hi))).trans ?_;rw[Da,hv]
theorem zk {i:Nat} (hi:i<17) (hv:g i=none):(de A g (Ad 17)).Perm (de A g ((Ad 17).erase i)):=by
 unfold de;refine(Fw _ (FF (CH.2 hi))).trans ?_;rw[Da,hv];exact De _
theorem zl {i:Nat} (hi:i<17) (hv:g i=none):(a8 Q A g (Ad 17)).Perm (a8 Q A g ((Ad 17).erase i)):=by
 unfold a8;refine(Fw _ (FF (CH.2 hi))).trans ?_;rw[Da,hv];exact De _
theorem gw {α β:Type} {f f':α->List β}: ∀{l:List α},(∀x∈l,f x=f' x)->l.flatMap f=l.flatMap f'
 |[], _=>rfl
 |x::l,h=>by
  rw[Da,Da,h x B2,gw λy a=>h y (B3 _ a)]
theorem ON {i j:Nat} (h:j∈(Ad 17).erase i):j≠i:=λe=>by
 subst e;exact(List.nodup_range.not_mem_erase) h
theorem pE {i:Nat} (h: ∀j,j≠i->A' j=A j/\g' j=g j):de A' g' ((Ad 17).erase i)=de A g ((Ad 17).erase i):=by
 unfold de;refine gw λj a=>?_;obtain⟨h1,b⟩:=h j (ON a);rw[h1,b]
theorem vX {i:Nat} (h: ∀j,j≠i->A' j=A j/\g' j=g j):a8 Q A' g' ((Ad 17).erase i)=a8 Q A g ((Ad 17).erase i):=by
 unfold a8;refine gw λj a=>?_;obtain⟨h1,b⟩:=h j (ON a);rw[b];cases g j with
 |none=>rfl
 |some v=>dsimp only;unfold gO;rw[h1]
end
def ox (A:Nat->GA) (i:Nat) (x:GA):Nat->GA:=λj=>if j=i then x else A j
def bq (g:Nat->Option GV) (i:Nat) (x:Option GV):Nat->Option GV:=λj=>if j=i then x else g j
theorem qg (A:Nat->GA) (i:Nat) (x:GA):ox A i x i=x:=az rfl
theorem fy (g:Nat->Option GV) (i:Nat) (x:Option GV):bq g i x i=x:=az rfl
theorem A6 (A:Nat->GA) (g:Nat->Option GV) (i:Nat) (x:GA) (y:Option GV): ∀j,j≠i->ox A i x j=A j/\bq g i y j=g j:=λ_ h=>⟨au h,au h⟩
theorem IS {A:Nat->GA} {g:Nat->Option GV} {i:Nat} {v:GV} (hv:g i=some v) (es:List BK) (ck:Nat) (tk:List TK):Xz A g (ox A i {A i with es:=es,ck:=ck}) (bq g i (some {v with tk:=tk})):=by
 refine⟨λj=>?_,λj=>?_,λj=>?_,λj=>?_⟩
 ·unfold ox;split
  ·rename_i e;subst e;rfl
  ·rfl
 ·unfold ox;split
  ·rename_i e;subst e;rfl
  ·rfl
 ·unfold ox;split
  ·rename_i e;subst e;rfl
  ·rfl
 ·unfold bq;split
  ·rename_i e;subst e;rw[hv];rfl
  ·rfl
theorem SM.OO {Q:Sys} {D G:List Nat} {w0 w:A2} {s:WD} {L0:List (Nat×List AC)} {A:Nat->GA} {g:Nat->Option GV} (H:SM Q D G w0 w s L0 (de A g (Ad 17))) {i:Nat} {v:GV} (hi:i<17) (hv:g i=some v) (es:List BK) (ck:Nat) (tk:List TK):
 SM Q D G w0 (w.putObj (A i).bm (.map ⟨es⟩ ck)) s L0 (de (ox A i {A i with es:=es,ck:=ck}) (bq g i (some {v with tk:=tk})) (Ad 17)):=by
 have a:=(H.kW (lZ hi hv).symm).put (i:=0) rfl (o':= .map ⟨es⟩ ck) trivial;refine a.kW ((lZ hi (v:={v with tk:=tk}) (fy _ _ _)).trans ?_);rw[pE (A6 A g i _ _),qg];exact De _
section
variable {Q:Sys} {X:HX} {D G:List Nat} {w0 w:A2} {s:WD} {L0:List (Nat×List AC)} {bg br bp c:Nat} {gs:List GT} {rest:List AC} {room:Int} {ps:List Po.PT}
namespace a_
theorem Vi (S:a_ Q D G w0 w s L0) (j b:Nat) (e:L0[j]? =some (bg,mw br gs.length c)) (f:L0[b]? =some (br,flat eG gs++rest)) (h0:0<gs.length) (i o:Int) {K:Int->A2->Prop}
 (k: ∀a,a_ Q D G w0 a s (L0.set b (br,flat eG (kX gs i o)++rest))->K (qH gs i o) a):
 aD Ab 184 (.el (.one (.int .i64))) [ag (ae bg),aa i,aa o] w K:=by
 obtain⟨h1,g,h,l,ca,la,d⟩:=S;exact Gu d (j+4) (b+4) e f h0 i o λa d=>k a ⟨h1,g,h,l,ca,la,d⟩
theorem abe (S:a_ Q D G w0 w s L0) (j d:Nat) (f:L0[j]? =some (bg,mw br gs.length c)) (h:L0[d]? =some (br,flat eG gs++rest)) (h0:0<gs.length) (l: ∀x∈gs,0<=x.2.2.2.2.1/\x.2.2.2.2.1<=1000) (i g:Int) (b:Bool) {K:Int->A2->Prop}
 (k: ∀a,a_ Q D G w0 a s (L0.set d (br,flat eG (dX gs i g b)++rest))->K (gV gs i g b) a):
 aD Ab 181 (.el (.one (.int .i64))) [ag (ae bg),aa i,aa g,.bool b] w K:=by
 obtain⟨h1,m,n,o,ca,la,e⟩:=S;exact Qs e (j+4) (d+4) f h h0 l i g b λa e=>k a ⟨h1,m,n,o,ca,la,e⟩
theorem WN (S:a_ Q D G w0 w s L0) (j b:Nat) (e:L0[j]? =some (bg,mw br gs.length c)) (f:L0[b]? =some (br,flat eG gs++rest)) (h0:0<gs.length) (h: ∀x∈gs,0<=x.2.2.2.2.1/\x.2.2.2.2.1<=1000) (i g:Int) {K:Int->A2->Prop}
 (k: ∀a,a_ Q D G w0 a s (L0.set b (br,flat eG (eJ gs i g)++rest))->K (mm gs i g) a):
 aD Ab 182 (.el (.one (.int .i64))) [ag (ae bg),aa i,aa g] w K:=by
 obtain⟨h1,l,m,n,ca,la,d⟩:=S;exact Qt d (j+4) (b+4) e f h0 h i g λa d=>k a ⟨h1,l,m,n,ca,la,d⟩
theorem Zk (S:a_ Q D G w0 w s L0) (j d:Nat) (f:L0[j]? =some (bg,mw br gs.length c)) (g:L0[d]? =some (br,flat eG gs++rest)) (h0:0<gs.length) (h:gs.length<=64) (o q t:Int) (b:Bool) {K:Int×Int×Unit->A2->Prop}
 (k: ∀a,a_ Q D G w0 a s (L0.set d (br,flat eG (jQ gs o q t b)++rest))->K (kh gs o q t,kY gs o q t,()) a):
 aD Ab 180 (.bu [.one (.int .i64),.one (.int .i64)]) [ag (ae bg),aa o,aa q,aa t,.bool b] w K:=by
 obtain⟨h1,i,l,m,ca,la,e⟩:=S;exact Ky e (j+4) (d+4) f g h0 h o q t b λa e=>k a ⟨h1,i,l,m,ca,la,e⟩
theorem abf (S:a_ Q D G w0 w s L0) (j a:Nat) (e:L0[j]? =some (bg,mw br gs.length c)) (f:L0[a]? =some (br,flat eG gs++rest)) (h0:0<gs.length) (h:gs.length<=64) (o:j≠a) (g:Int) {K:Int->A2->Prop}
 (k: ∀n b,a_ Q D G w0 b s (L0.set a (br,flat eG (cQ gs g)++rest))->K n b):
 aD Ab 169 (.el (.one (.int .i64))) [ag (ae bg),aa g] w K:=by
 obtain⟨h1,i,l,m,ca,la,d⟩:=S;exact Qu d (j+4) (a+4) e f h0 h (by omega) g λn b d=>k n b ⟨h1,i,l,m,ca,la,d⟩
theorem aau (S:a_ Q D G w0 w s L0) (j a:Nat) (b:L0[j]? =some (bg,mw br gs.length c)) (d:L0[a]? =some (br,flat eG gs++rest)) (h0:0<gs.length) (i:Int):
 ah Ab 176 [ag (ae bg),aa i] w ((Sh.bu [eG,.one .bool]).gR (wJ gs i,(lN gs i).isSome,())):=
 ah.of (s:= .bu [eG,.one .bool]) λw' h'=>Y4 ((S.get b).ext h') ((S.get d).ext h') h0 i
theorem abg (S:a_ Q D G w0 w s L0) (j:Nat) (c:L0[j]? =some (bp,Po.gJ room ps)) (d:Po.okS room ps) (g r:Int) {K:Int×Int×Unit->A2->Prop}
 (k: ∀a,a_ Q D G w0 a s (L0.set j (bp,Po.gJ room (Po.iS room ps g r).2))->K ((Po.iS room ps g r).1.1,(Po.iS room ps g r).1.2,()) a):
 aD Ab 185 (.bu [.one (.int .i64),.one (.int .i64)]) [ag (ae bp),aa g,aa r] w K:=by
 obtain⟨h1,e,f,h,ca,la,b⟩:=S;exact Po.Qv b (j+4) c d g r λa b=>k a ⟨h1,e,f,h,ca,la,b⟩
theorem pbind (S:a_ Q D G w0 w s L0) (j:Nat) (c:L0[j]? =some (bp,Po.gJ room ps)) (d:Po.okS room ps) (g r i:Int) {K:Int×Int×Unit->A2->Prop}
 (k: ∀a,a_ Q D G w0 a s (L0.set j (bp,Po.gJ room (Po.g_ room ps g r i).2))->K ((Po.g_ room ps g r i).1.1,(Po.g_ room ps g r i).1.2,()) a):
 aD Ab 186 (.bu [.one (.int .i64),.one (.int .i64)]) [ag (ae bp),aa g,aa r,aa i] w K:=by
 obtain⟨h1,e,f,h,ca,la,b⟩:=S;exact Po.Qw b (j+4) c d g r i λa b=>k a ⟨h1,e,f,h,ca,la,b⟩
theorem abh (S:a_ Q D G w0 w s L0) (j:Nat) (c:L0[j]? =some (bp,Po.gJ room ps)) (d:Po.lA room ps) (g i:Int) {K:Int->A2->Prop}
 (k: ∀a,a_ Q D G w0 a s (L0.set j (bp,Po.gJ room (Po.kZ room ps g i).2))->K (Po.kZ room ps g i).1 a):
 aD Ab 187 (.el (.one (.int .i64))) [ag (ae bp),aa g,aa i] w K:=by
 obtain⟨h1,e,f,h,ca,la,b⟩:=S;exact Po.Qx b (j+4) c d g i λa b=>k a ⟨h1,e,f,h,ca,la,b⟩
theorem Zl (S:a_ Q D G w0 w s L0) (j:Nat) (c:L0[j]? =some (bp,Po.gJ room ps)) (d:Po.lA room ps) (g i:Int) {K:Int->A2->Prop}
 (k: ∀a,a_ Q D G w0 a s (L0.set j (bp,Po.gJ room (Po.eK room ps g i).2))->K (Po.eK room ps g i).1 a):
 aD Ab 189 (.el (.one (.int .i64))) [ag (ae bp),aa g,aa i] w K:=by
 obtain⟨h1,e,f,h,ca,la,b⟩:=S;exact Po.AQ b (j+4) c d g i λa b=>k a ⟨h1,e,f,h,ca,la,b⟩
theorem abi (S:a_ Q D G w0 w s L0) (j:Nat) (c:L0[j]? =some (bp,Po.gJ room ps)) (d:Po.okS room ps) (g:Int) {K:Int×Bool×Unit->A2->Prop}
 (k: ∀a,a_ Q D G w0 a s (L0.set j (bp,Po.gJ room (Po.gM room ps g).2))->K ((Po.gM room ps g).1.1,(Po.gM room ps g).1.2,()) a):
 aD Ab 188 (.bu [.one (.int .i64),.one .bool]) [ag (ae bp),aa g] w K:=by
 obtain⟨h1,e,f,h,ca,la,b⟩:=S;exact Po.QA b (j+4) c d g λa b=>k a ⟨h1,e,f,h,ca,la,b⟩
theorem abj (S:a_ Q D G w0 w s L0) (j:Nat) (c:L0[j]? =some (bp,Po.gJ room ps)) (d:Po.lA room ps) (g:Int) {K:Int->A2->Prop}
 (k: ∀a,a_ Q D G w0 a s (L0.set j (bp,Po.gJ room (Po.cH room ps g).2))->K (Po.cH room ps g).1 a):
 aD Ab 170 (.el (.one (.int .i64))) [ag (ae bp),aa g] w K:=by
 obtain⟨h1,e,f,h,ca,la,b⟩:=S;exact Po.QE b (j+4) c d g λa b=>k a ⟨h1,e,f,h,ca,la,b⟩
theorem res (S:a_ Q D G w0 w s L0) {j b:Nat} {x1 d:AC} (c:L0[j]? =some (b,[x1,d])) (v e:Int) {K:RS->A2->Prop} (k: ∀a,a_ Q D G w0 a s (L0.set j (b,[ay v,aa e]))->K (v,e,()) a):
 aC w (ae b) [ay v,aa e] λa=>ao a λw1=>aj w1 none (ae b) (.agg iI) λx=>K (x.1,x.2.1,()) w1:=by
 have f:j<L0.length:=(Bx.1 c).1;refine S.fe j c rfl rfl λa S=>S.en λg S=>?_;exact S.ld j (Db f) (show _=some (v,e,()) from rfl) (k g S)
end a_
end
def x9 (h:HS) (gr:List GT):HS:={h with gr:=gr}
def Ar (h:HS) (po:List Po.PT):HS:={h with po:=po}
def bC (h:HS) (s:WD):HS:={h with s:=s}
abbrev fS (k a b c:Int):List AC:=[aa k,ay a,ay b,ay c]
theorem yP (gs:List GT) (i o:Int):(kX gs i o).length=gs.length:=by
 unfold kX;split
 ·rw[CX]
 ·rfl
def Ck (h:HS) (v a:Int):Int:=if a>=16 then 1 else qH h.gr a v
def fM (h:HS) (v a:Int):HS:=if a>=16 then h else x9 h (kX h.gr a v)
section
variable {Q:Sys} {X:HX} {D G:List Nat} {w0 w:A2} {h:HS} {L:List (Nat×List AC)} {K:RS->A2->Prop}
theorem LK (H:ji Q X D G w0 w h L) (v k:Int) {a:Int} (b c:Int) (m:0<=a) (kk: ∀f,ji Q X D G w0 f (fM h v a) L->K (0,Ck h v a,()) f):
 aE Ab 132 (.el (.agg iI)) [ag (ae X.hb),aa v,.agg ⟨fS k a b c⟩] w K:=by
 obtain⟨A,W,H⟩:=H;obtain⟨o,S,J⟩:=H.call;refine aQ (C:=V0) (aT:=λ_=>[]) (Av (EI _ v k a b c w K) ?_);refine S.al λba f S=>S.al λp q S=>⟨rfl,S.cI 1 rfl rfl ?_⟩;unfold Ck fM at kk;refine ab (λd=>⟨trivial,S.res (j:=0) rfl 0 1 λi S=>?_⟩) (λd=>?_)
 ·rw[az (by simpa using d),az (by simpa using d)] at kk;exact kk i ⟨A,W,J (S.tail.tail)⟩
 ·have d: ¬ a>=16:=by simpa using d
  rw[au d,au d] at kk;refine⟨rfl,rfl,aj.of _ (S.fG (X:=X) (A:=A) (g:=h.g) (by simp) (n:=2) rfl) ⟨rfl,S.cI 1 rfl rfl ?_⟩⟩;rw[bL ⟨m,by omega⟩];refine S.Vi 3 4 rfl rfl (by rw[W.gl];decide) a v λi S=>⟨trivial,S.res (j:=0) rfl 0 _ λl S=>kk l ⟨A,⟨W.jg,W.mp,(yP _ _ _).trans W.gl,W.pt,W.gk.rev _ _⟩,J ?_⟩⟩;have S:=S.tail.tail;have e:(kX h.gr a v).length=h.gr.length:=yP _ _ _;show a_ Q [] o w l h.s ((X.hb,fq Q X A h.g)::(X.gb,mw X.ub (kX h.gr a v).length X.c):: _);rw[e];exact S
end
set_option maxRecDepth 100000
open Go.RX D
def NZ (h:HS) (v a:Int):Int:=if a>=4 then 1 else(Po.kZ 4 h.po v a).1
def lP (h:HS) (v a:Int):HS:=if a>=4 then h else Ar h (Po.kZ 4 h.po v a).2
def FW (h:HS) (v a:Int):Int:=if a>=4 then 1 else(Po.eK 4 h.po v a).1
def iX (h:HS) (v a:Int):HS:=if a>=4 then h else Ar h (Po.eK 4 h.po v a).2
def N2 (h:HS) (v:Int):Int:=if(Po.gM 4 h.po v).1.2=true then(Po.gM 4 h.po v).1.1+1 else 0
def N3 (h:HS) (v:Int):HS:=Ar h (Po.gM 4 h.po v).2
def HV (h:HS) (v a:Int):Int×Int:=if c9 h.g v a=0 then(Po.iS 4 h.po v a).1 else(0,c9 h.g v a)
def lQ (h:HS) (v a:Int):HS:=if c9 h.g v a=0 then Ar h (Po.iS 4 h.po v a).2 else h
def HW (h:HS) (v a b:Int):Int×Int:=if c9 h.g v a=1\/b>=4 then(0,1) else if c9 h.g v a=0 then(Po.g_ 4 h.po v a b).1 else(0,c9 h.g v a)
def lR (h:HS) (v a b:Int):HS:=if c9 h.g v a=1\/b>=4 then h else if c9 h.g v a=0 then Ar h (Po.g_ 4 h.po v a b).2 else h
theorem uW {g:Nat->Option GV} {v a:Int} (h:c9 g v a≠1):1<=a/\a<=16:=by
 unfold c9 at h;split at h
 ·exact absurd rfl h
 ·omega
theorem dS {a:Int} (h:0<=a/\a<18446744073709551616):aw .u64 a=a:=by
 unfold aw;simp only[IntKind.wrap,IntKind.bits,IntKind.signed];simp;omega
theorem Rj {ps:List Po.PT} {g:Int} (h:(Po.gM 4 ps g).1.2=true):0<=(Po.gM 4 ps g).1.1/\(Po.gM 4 ps g).1.1<4:=by
 unfold Po.gM at h ⊢;cases a:Po.oT 4 ps g with
 |nil=>rw[a] at h;cases h
 |cons i l=>
  have:=(Po.eV.1 (Po.s6 (ps:=ps) (g:=g) (x:=i) (room:=4) (by rw[a];exact B2)).1).2;exact this
theorem Vj {ps:List Po.PT} {g:Int} {x:Po.PT} (a:Po.gI g=true):0<=(Po.dP 4 ps g x).1.1/\(Po.dP 4 ps g x).1.1<4:=by
 unfold Po.dP;split
 ·exact⟨G1 _,(by decide:(0:Int)<4)⟩
 ·rename_i b;have:=(Po.eV.1 (Po.mO a b).1).2;exact this
theorem Rk (ps:List Po.PT) (g r:Int):0<=(Po.iS 4 ps g r).1.1/\(Po.iS 4 ps g r).1.1<4:=by
 unfold Po.iS;split
 ·rename_i a;exact Vj (Po.pV.1 a).1
 ·exact⟨G1 _,(by decide:(0:Int)<4)⟩
section
variable {Q:Sys} {X:HX} {D G:List Nat} {w0 w:A2} {h:HS} {L:List (Nat×List AC)} {K:RS->A2->Prop}
theorem Vk (H:ji Q X D G w0 w h L) (v k:Int) {a:Int} (b c:Int) (i:0<=a) (kk: ∀e,ji Q X D G w0 e (lP h v a) L->K (0,NZ h v a,()) e):
 aE Ab 135 (.el (.agg iI)) [ag (ae X.hb),aa v,.agg ⟨fS k a b c⟩] w K:=by
 obtain⟨A,W,H⟩:=H;obtain⟨m,S,J⟩:=H.call;refine aQ (C:=V0) (aT:=λ_=>[]) (Av (LC _ v k a b c w K) ?_);refine S.al λba e S=>S.al λo p S=>⟨rfl,S.cI 1 rfl rfl ?_⟩;unfold NZ lP at kk;refine ab (λd=>⟨trivial,S.res (j:=0) rfl 0 1 λf S=>?_⟩) (λd=>?_)
 ·rw[az (by simpa using d),az (by simpa using d)] at kk;exact kk f ⟨A,W,J (S.tail.tail)⟩
 ·have d: ¬ a>=4:=by simpa using d
  rw[au d,au d] at kk;refine⟨rfl,rfl,aj.of _ (S.fG (X:=X) (A:=A) (g:=h.g) (by simp) (n:=3) rfl) ⟨rfl,S.cI 1 rfl rfl ?_⟩⟩;rw[bL ⟨i,by omega⟩];exact S.abh 5 rfl W.pt v a λf S=>⟨trivial,S.res (j:=0) rfl 0 _ λl S=>kk l ⟨A,⟨W.jg,W.mp,W.gl,W.pt.kZ v a,W.gk⟩,J (S.tail.tail)⟩⟩
theorem Rl (H:ji Q X D G w0 w h L) (v k:Int) {a:Int} (b c:Int) (i:0<=a) (kk: ∀e,ji Q X D G w0 e (iX h v a) L->K (0,FW h v a,()) e):
 aE Ab 137 (.el (.agg iI)) [ag (ae X.hb),aa v,.agg ⟨fS k a b c⟩] w K:=by
 obtain⟨A,W,H⟩:=H;obtain⟨m,S,J⟩:=H.call;refine aQ (C:=V0) (aT:=λ_=>[]) (Av (GP _ v k a b c w K) ?_);refine S.al λba e S=>S.al λo p S=>⟨rfl,S.cI 1 rfl rfl ?_⟩;unfold FW iX at kk;refine ab (λd=>⟨trivial,S.res (j:=0) rfl 0 1 λf S=>?_⟩) (λd=>?_)
 ·rw[az (by simpa using d),az (by simpa using d)] at kk;exact kk f ⟨A,W,J (S.tail.tail)⟩
 ·have d: ¬ a>=4:=by simpa using d
  rw[au d,au d] at kk;refine⟨rfl,rfl,aj.of _ (S.fG (X:=X) (A:=A) (g:=h.g) (by simp) (n:=3) rfl) ⟨rfl,S.cI 1 rfl rfl ?_⟩⟩;rw[bL ⟨i,by omega⟩];exact S.Zl 5 rfl W.pt v a λf S=>⟨trivial,S.res (j:=0) rfl 0 _ λl S=>kk l ⟨A,⟨W.jg,W.mp,W.gl,W.pt.eK v a,W.gk⟩,J (S.tail.tail)⟩⟩
theorem Vl (H:ji Q X D G w0 w h L) (v k a b c:Int) (kk: ∀e,ji Q X D G w0 e (N3 h v) L->K (N2 h v,0,()) e):
 aE Ab 136 (.el (.agg iI)) [ag (ae X.hb),aa v,.agg ⟨fS k a b c⟩] w K:=by
 obtain⟨A,W,H⟩:=H;obtain⟨o,S,J⟩:=H.call;refine aQ (C:=V0) (aT:=λ_=>[]) (Av (LD _ v k a b c w K) ?_);refine S.al λba e S=>S.al λp q S=>⟨rfl,rfl,aj.of _ (S.fG (X:=X) (A:=A) (g:=h.g) (by simp) (n:=3) rfl) ?_⟩;unfold N2 N3 at kk;have l:=λh'=>Rj (ps:=h.po) (g:=v) h';refine S.abi 5 rfl W.pt.tookS v λs S=>?_;obtain⟨r,m⟩: ∃r,r=Po.gM 4 h.po v:=⟨_,rfl⟩;have f:=W.pt.gM v;rw[<-m] at l kk S f ⊢;refine ab (λd=>S.res (j:=0) rfl 0 0 λi S=>?_) (λd=>?_)
 ·have d: ¬ r.1.2=true:=by simpa using d
  rw[au d] at kk;exact kk i ⟨A,⟨W.jg,W.mp,W.gl,f,W.gk⟩,J (S.tail.tail)⟩
 ·have d:r.1.2=true:=by simpa using d
  rw[az d] at kk;have:=l d;rw[ax (by omega) (by omega),dS (by omega)];exact S.res (j:=0) rfl _ 0 λi S=>kk i ⟨A,⟨W.jg,W.mp,W.gl,f,W.gk⟩,J (S.tail.tail)⟩
theorem Vm (H:ji Q X D G w0 w h L) (v k:Int) {a:Int} (b c:Int) (i:0<=a) (kk: ∀f,ji Q X D G w0 f (lQ h v a) L->K ((HV h v a).1,(HV h v a).2,()) f):
 aE Ab 133 (.el (.agg iI)) [ag (ae X.hb),aa v,.agg ⟨fS k a b c⟩] w K:=by
 obtain⟨A,W,H⟩:=H;obtain⟨o,S,J⟩:=H.call;refine aQ (C:=V0) (aT:=λ_=>[]) (Av (LA _ v k a b c w K) ?_);refine S.al λba f S=>S.al λp q S=>⟨rfl,S.cI 1 rfl rfl ⟨_,yO S (X:=X) (A:=A) (g:=h.g) (by simp) v i,?_⟩⟩;unfold HV lQ at kk;refine ab (λd=>⟨trivial,S.res (j:=0) rfl 0 _ λl S=>?_⟩) (λd=>?_)
 ·have d: ¬ c9 h.g v a=0:=by simpa using d
  rw[au d,au d] at kk;exact kk l ⟨A,W,J (S.tail.tail)⟩
 ·have d:c9 h.g v a=0:=by simpa using d
  rw[az d,az d] at kk;have r:=uW (g:=h.g) (v:=v) (a:=a) (by rw[d];decide);refine⟨rfl,rfl,aj.of _ (S.fG (X:=X) (A:=A) (g:=h.g) (by simp) (n:=3) rfl) ⟨rfl,S.cI 1 rfl rfl ?_⟩⟩;rw[bL ⟨i,by omega⟩];have s:=Rk h.po v a;refine S.abg 5 rfl W.pt.tookS v a λl S=>?_;have e:aw .u64 (Po.iS 4 h.po v a).1.1=(Po.iS 4 h.po v a).1.1:=dS (by omega);dsimp only;rw[e];exact S.res (j:=0) rfl _ _ λm S=>kk m ⟨A,⟨W.jg,W.mp,W.gl,W.pt.iS v a,W.gk⟩,J (S.tail.tail)⟩
theorem Rm (ps:List Po.PT) (g r i:Int):0<=(Po.g_ 4 ps g r i).1.1/\(Po.g_ 4 ps g r i).1.1<4:=by
 unfold Po.g_;have z:(0:Int)<=0/\(0:Int)<4:=by decide
 split
 ·rename_i a;split
  ·exact z
  ·split
   ·exact z
   ·split
    ·exact z
    ·split
     ·exact z
     ·rename_i b;have:=(Po.eV.1 (Po.mO (Po.pV.1 a).1 b).1).2;exact this
 ·exact z
theorem Vn (H:ji Q X D G w0 w h L) (v k:Int) {a b:Int} (c:Int) (l:0<=a) (hb:0<=b) (kk: ∀i,ji Q X D G w0 i (lR h v a b) L->K ((HW h v a b).1,(HW h v a b).2,()) i):
 aE Ab 134 (.el (.agg iI)) [ag (ae X.hb),aa v,.agg ⟨fS k a b c⟩] w K:=by
 obtain⟨A,W,H⟩:=H;obtain⟨o,S,J⟩:=H.call;refine aQ (C:=V0) (aT:=λ_=>[]) (Av (LB _ v k a b c w K) ?_);refine S.al λba i S=>S.al λp q S=>⟨rfl,S.cI 1 rfl rfl ⟨_,yO S (X:=X) (A:=A) (g:=h.g) (by simp) v l,λ_=>rfl,S.cI 1 rfl rfl ?_⟩⟩;unfold HW lR at kk;refine ab (λd=>⟨trivial,S.res (j:=0) rfl 0 _ λf S=>?_⟩) (λd=>?_)
 ·have d:c9 h.g v a=1\/b>=4:=by simpa using d
  rw[az d,az d] at kk;exact kk f ⟨A,W,J (S.tail.tail)⟩
 have d: ¬ (c9 h.g v a=1\/b>=4):=by
  intro e;have:(c9 h.g v a==1||decide (b>=4))=true:=by simpa using e
  rw[this] at d;cases d
 rw[au d,au d] at kk;refine ab (λd=>⟨trivial,S.res (j:=0) rfl 0 _ λf S=>?_⟩) (λd2=>?_)
 ·have d: ¬ c9 h.g v a=0:=by simpa using d
  rw[au d,au d] at kk;exact kk f ⟨A,W,J (S.tail.tail)⟩
 ·have d2:c9 h.g v a=0:=by simpa using d2
  rw[az d2,az d2] at kk;have r:=uW (g:=h.g) (v:=v) (a:=a) (by rw[d2];decide);have s:b<4:=by omega
  refine⟨rfl,rfl,aj.of _ (S.fG (X:=X) (A:=A) (g:=h.g) (by simp) (n:=3) rfl) ⟨rfl,S.cI 1 rfl rfl ⟨rfl,S.cI 1 rfl rfl ?_⟩⟩⟩;rw[bL ⟨l,by omega⟩,bL ⟨hb,by omega⟩];have t:=Rm h.po v a b;refine S.pbind 5 rfl W.pt.tookS v a b λf S=>?_;have e:aw .u64 (Po.g_ 4 h.po v a b).1.1=(Po.g_ 4 h.po v a b).1.1:=dS (by omega);dsimp only;rw[e];exact S.res (j:=0) rfl _ _ λm S=>kk m ⟨A,⟨W.jg,W.mp,W.gl,W.pt.g_ v a b,W.gk⟩,J (S.tail.tail)⟩
end
theorem D8 (gs:List GT) (o q t:Int) (b:Bool):(jQ gs o q t b).length=gs.length:=by
 unfold jQ;split
 ·rw[CX]
 ·rfl
theorem Rn {gs:List GT} (b:gs.length=16) (o q t:Int):0<=kh gs o q t/\kh gs o q t<16:=by
 have z:(0:Int)<=0/\(0:Int)<16:=by decide
 unfold kh;split
 ·cases a:db gs e8 gs.length with
  |nil=>exact z
  |cons x l=>
   obtain⟨i,hi, _,e⟩:=qc.1 (by rw[a];exact B2:x∈db gs e8 gs.length);show 0<=x/\x<16;omega
 ·exact z
def gY (h:HS) (v p:Int):Bool:=(fX h.g v p).2.1
def rI (h:HS) (v a b c:Int):Int:=
 if a>=65536 then 2 else if c9 h.g v b=1\/c>1 then 1 else if(fO h.g h.s v a).2.2.1≠0\/c9 h.g v b≠0 then 4 else if gY h v a=true then 7 else 0
def yn (h:HS) (v a b c:Int):Int×Int:=if rI h v a b c=0 then(kh h.gr v a b,kY h.gr v a b) else(0,rI h v a b c)
def iy (h:HS) (v a b c:Int):HS:=if rI h v a b c=0 then x9 h (jQ h.gr v a b (c==1)) else h
section
variable {Q:Sys} {X:HX} {D G:List Nat} {w0 w:A2} {h:HS} {L:List (Nat×List AC)} {K:RS->A2->Prop}
theorem bX {A:Nat->GA} (W:CY A h) (T:List (Nat×List AC)): ∀i v,h.g i=some v-> ∀x∈gO Q A i v,x∈T++dV Q X A h (a8 Q A h.g (Ad 17)++L):=λi v hv x a=>by
 have:=W.jg hv;exact B1 _ (B3 _ (B3 _ (B3 _ (B3 _ (Bv _ (A5 (CH.2 (by omega)) hv x a))))))
theorem fA {A:Nat->GA} (W:CY A h): ∀i v,h.g i=some v->((A i).bm,Obj.map ⟨(A i).es⟩ (A i).ck)∈de A h.g (Ad 17):=λi v hv=>by
 have:=W.jg hv;exact LI (CH.2 (by omega)) hv
theorem Ro (H:ji Q X D G w0 w h L) (v k:Int) {a b c:Int} (z:0<=a) (hb:0<=b) (hc:0<=c) (kk: ∀l,ji Q X D G w0 l (iy h v a b c) L->K ((yn h v a b c).1,(yn h v a b c).2,()) l):
 aE Ab 129 (.el (.agg iI)) [ag (ae X.hb),aa v,.agg ⟨fS k a b c⟩] w K:=by
 obtain⟨A,W,H⟩:=H;obtain⟨B,S,J⟩:=H.call;refine aQ (C:=V0) (aT:=λ_=>[]) (Av (GO _ v k a b c w K) ?_);refine S.al λba l S=>S.al λF I S=>⟨rfl,S.cI 1 rfl rfl ⟨_,yO S (X:=X) (A:=A) (g:=h.g) (by simp) v hb,rfl,S.cI 1 rfl rfl ?_⟩⟩;have m:rI h v a b c≠0-> ∀{l},ji Q X D G w0 l h L->K (0,rI h v a b c,()) l:=λr l H=>by
  have o:yn h v a b c=(0,rI h v a b c):=au r;have p:iy h v a b c=h:=au r;rw[o,p] at kk;exact kk l H
 have f:rI h v a b c=if a>=65536 then 2 else if c9 h.g v b=1\/c>1 then 1 else if(fO h.g h.s v a).2.2.1≠0\/c9 h.g v b≠0 then 4 else if gY h v a=true then 7 else 0:=rfl;refine ab (λd=>⟨trivial,S.res (j:=0) rfl 0 _ λt S=>?_⟩) (λd=>⟨λ_=>rfl,S.cI 1 rfl rfl ?_⟩)
 ·rw[az (by simpa using d)] at f;rw[f] at m;exact m (by decide) ⟨A,W,J S.tail.tail⟩
 have d: ¬ a>=65536:=by simpa using d
 rw[au d] at f;have q:aw .i64 a=a:=bL ⟨z,by omega⟩;refine ab (λd=>⟨trivial,S.res (j:=0) rfl 0 _ λt S=>?_⟩) (λd2=>⟨rfl,S.cI 1 rfl rfl ?_⟩)
 ·rw[az (by simpa using d)] at f;rw[f] at m;exact m (by decide) ⟨A,W,J S.tail.tail⟩
 have d2: ¬ (c9 h.g v b=1\/c>1):=by
  intro e;have:(c9 h.g v b==1||decide (c>1))=true:=by simpa using e
  rw[this] at d2;cases d2
 rw[au d2] at f;rw[q];refine uV S (X:=X) (A:=A) (g:=h.g) (by simp) (bX W [_, _]) v a λt S=>?_;refine ab (λd=>⟨trivial,S.res (j:=0) rfl 0 _ λu S=>?_⟩) (λd3=>⟨rfl,S.cI 1 rfl rfl ?_⟩)
 ·rw[az (by simpa using d)] at f;rw[f] at m;exact m (by decide) ⟨A,W,J S.tail.tail⟩
 have d3: ¬ ((fO h.g h.s v a).2.2.1≠0\/c9 h.g v b≠0):=by
  intro e;have:((fO h.g h.s v a).2.2.1 != 0||c9 h.g v b != 0)=true:=by simpa using e
  rw[this] at d3;cases d3
 rw[au d3] at f;rw[q];refine⟨fX h.g v a,pz (J S) (X:=X) (A:=A) (g:=h.g) (by simp) (bX W [_, _]) (fA W) (λi x E=>W.mp E) v a,?_⟩;refine ab (λd=>⟨trivial,S.res (j:=0) rfl 0 _ λu S=>?_⟩) (λd4=>?_)
 ·rw[az (show gY h v a=true from d)] at f;rw[f] at m;exact m (by decide) ⟨A,W,J S.tail.tail⟩
 rw[au (show ¬ gY h v a=true by unfold gY;rw[d4];decide)] at f;have o:yn h v a b c=(kh h.gr v a b,kY h.gr v a b):=az f;have p:iy h v a b c=x9 h (jQ h.gr v a b (c==1)):=az f;rw[o,p] at kk;have M:=uW (g:=h.g) (v:=v) (a:=b) (λe=>d2 (.inl e));refine⟨rfl,rfl,aj.of _ (S.fG (X:=X) (A:=A) (g:=h.g) (by simp) (n:=2) rfl) ⟨rfl,S.cI 1 rfl rfl ⟨rfl,S.cI 1 rfl rfl ⟨rfl,S.cI 1 rfl rfl ?_⟩⟩⟩⟩;rw[q,bL ⟨hb,by omega⟩];have N:=Rn W.gl v a b;refine S.Zk 3 4 rfl rfl (by rw[W.gl];decide) (by rw[W.gl];decide) v a b (c==1) λu S=>?_;dsimp only;rw[dS (by omega)];refine S.res (j:=0) rfl _ _ λy S=>kk y ⟨A,⟨W.jg,W.mp,(D8 _ _ _ _ _).trans W.gl,W.pt,W.gk.off _ _ _ _⟩,J ?_⟩;have S:=S.tail.tail;have e:(jQ h.gr v a b (c==1)).length=h.gr.length:=D8 _ _ _ _ _;show a_ Q [] B w y h.s ((X.hb,fq Q X A h.g)::(X.gb,mw X.ub (jQ h.gr v a b (c==1)).length X.c):: _);rw[e];exact S
end
def iT (h:HS) (v a t:Int):Int×Int:=if a>=1048576 then(0,2) else(aB .i64 (ir .i64 16 (m_ h.s.1 (a6 h.g v) (a / 16) t).1) (a % 16),(m_ h.s.1 (a6 h.g v) (a / 16) t).2.2.2.1)
def HY (h:HS) (v a:Int):Int×Int:=if(iT h v a 1).2≠0 then(0,(iT h v a 1).2) else(dJ h.s.1 (iT h v a 1).1,zM h.s.1 (iT h v a 1).1)
def rJ (h:HS) (v a:Int):Int:=if(iT h v a 2).2≠0 then(iT h v a 2).2 else zM h.s.1 (iT h v a 2).1
def j_ (h:HS) (v a b:Int):HS:=if(iT h v a 2).2≠0 then h else bC h (dK h.s.1 (iT h v a 2).1 b,h.s.2)
def dH (s:WD):Nat->WD×Nat
 |0=>(s,0)
 |n+1=>(iC (dH s n).1 (n:Int),(dH s n).2+if jS (dH s n).1 (n:Int)=0 then 1 else 0)
theorem LM (s:WD) (f:Int):(iC s f).1=s.1/\(iC s f).2.length=s.2.length:=by
 unfold iC;split
 ·exact⟨rfl,iY _ _ _⟩
 ·exact⟨rfl,rfl⟩
theorem A7 (s:WD): ∀n,(dH s n).1.1=s.1/\(dH s n).1.2.length=s.2.length
 |0=>⟨rfl,rfl⟩
 |n+1=>by
  have h:=LM (dH s n).1 (n:Int);have a:=A7 s n;exact⟨h.1.trans a.1,h.2.trans a.2⟩
theorem A8 (s:WD): ∀n,(dH s n).2<=n
 |0=>Dn _
 |n+1=>by
  have:=A8 s n;show(dH s n).2+ _<=n+1;split<;>omega
theorem abk {a:Int} (h:0<=a/\a<1048576):aw .i64 (wD .u64 a 16)=a / 16:=by
 have e:wD .u64 a 16=a / 16:=by
  show aw .u64 (a.tdiv 16)= _;rw[Int.tdiv_eq_ediv_of_nonneg h.1];exact dS (by omega)
 rw[e];exact bL (by omega)
theorem abl {a:Int} (h:0<=a):aw .i64 (bH a 16)=a % 16:=by
 have e:bH a 16=a % 16:=by
  unfold bH;exact Int.tmod_eq_emod_of_nonneg h
 rw[e];exact bL (by omega)
section
variable {Q:Sys} {X:HX} {D G:List Nat} {w0 w:A2} {h:HS} {L:List (Nat×List AC)} {K:RS->A2->Prop}
theorem D9 {f:List Nat} {j:A2} {A:Nat->GA} {s:WD} {L0:List (Nat×List AC)} (S:a_ Q [] f j w s L0) (m:s=h.s) (k:(X.hb,fq Q X A h.g)∈L0) (o: ∀i v,h.g i=some v-> ∀x∈gO Q A i v,x∈L0) (v:Int) {a:Int} (l:0<=a) (t:Int) {K:Int×Int×Unit->A2->Prop}
 (kk: ∀c,a_ Q [] f j c s L0->K ((iT h v a t).1,(iT h v a t).2,()) c):
 aD Ab 178 (.bu [.one (.int .i64),.one (.int .i64)]) [ag (ae X.hb),aa v,ay a,aa t] w K:=by
 subst m;refine S.go λw1 S=>ai (C:=V0) (aT:=λ_=>[]) (Av (Q7 _ v a t w1 K) ?_);unfold iT at kk;refine ab (λd=>S.en λc S=>?_) (λd=>?_)
 ·rw[az (by simpa using d)] at kk;exact kk c S
 ·have d: ¬ a>=1048576:=by simpa using d
  rw[au d] at kk;rw[abk ⟨l,by omega⟩,abl l];refine⟨rfl,rfl,aj.of _ (S.fG (X:=X) (A:=A) (g:=h.g) k (n:=0) rfl) ⟨_,IQ S k o v,?_,?_⟩⟩
  ·exact S.walk _ _ _ λc S=>S.al λb p S=>S.fe 0 rfl rfl rfl λq S=>⟨rfl,S.cI 0 rfl rfl ⟨rfl,S.cI 0 rfl rfl (S.en λe S=>kk e S.tail)⟩⟩
  ·exact S.al λb p S=>S.walk _ _ _ λc S=>S.fe 0 rfl rfl rfl λq S=>⟨rfl,S.cI 0 rfl rfl ⟨rfl,S.cI 0 rfl rfl (S.en λe S=>kk e S.tail)⟩⟩
theorem Vo (H:ji Q X D G w0 w h L) (v k:Int) {a:Int} (b c:Int) (i:0<=a) (kk: ∀e,ji Q X D G w0 e h L->K ((HY h v a).1,(HY h v a).2,()) e):
 aE Ab 127 (.el (.agg iI)) [ag (ae X.hb),aa v,.agg ⟨fS k a b c⟩] w K:=by
 obtain⟨A,W,H⟩:=H;obtain⟨m,S,J⟩:=H.call;refine aQ (C:=V0) (aT:=λ_=>[]) (Av (Lx _ v k a b c w K) ?_);refine S.al λba e S=>S.al λo p S=>⟨rfl,S.cI 1 rfl rfl (D9 (h:=h) (A:=A) S rfl (by simp) (bX W [_, _]) v i 1 λq S=>?_)⟩;unfold HY at kk;refine ab (λd=>⟨trivial,S.res (j:=0) rfl 0 _ λf S=>?_⟩) (λd=>?_)
 ·rw[az (by simpa using d)] at kk;exact kk f ⟨A,W,J S.tail.tail⟩
 ·rw[au (by simpa using d)] at kk;exact⟨rfl,rfl,aj.of _ (S.fG (X:=X) (A:=A) (g:=h.g) (by simp) (n:=0) rfl) (S.load _ λf S=>S.res (j:=0) rfl _ _ λl S=>kk l ⟨A,W,J S.tail.tail⟩)⟩
theorem Rq (H:ji Q X D G w0 w h L) (v k:Int) {a b:Int} (c:Int) (i:0<=a) (hb:0<=b/\b<18446744073709551616) (kk: ∀e,ji Q X D G w0 e (j_ h v a b) L->K (0,rJ h v a,()) e):
 aE Ab 128 (.el (.agg iI)) [ag (ae X.hb),aa v,.agg ⟨fS k a b c⟩] w K:=by
 obtain⟨A,W,H⟩:=H;obtain⟨m,S,J⟩:=H.call;refine aQ (C:=V0) (aT:=λ_=>[]) (Av (GN _ v k a b c w K) ?_);refine S.al λba e S=>S.al λo p S=>⟨rfl,S.cI 1 rfl rfl (D9 (h:=h) (A:=A) S rfl (by simp) (bX W [_, _]) v i 2 λq S=>?_)⟩;unfold j_ rJ at kk;refine ab (λd=>⟨trivial,S.res (j:=0) rfl 0 _ λf S=>?_⟩) (λd=>?_)
 ·rw[az (by simpa using d),az (by simpa using d)] at kk;exact kk f ⟨A,W,J S.tail.tail⟩
 ·rw[au (by simpa using d),au (by simpa using d)] at kk;exact⟨rfl,rfl,aj.of _ (S.fG (X:=X) (A:=A) (g:=h.g) (by simp) (n:=0) rfl) ⟨rfl,S.cI 1 rfl rfl (S.store _ b hb λf S=>⟨trivial,S.res (j:=0) rfl 0 _ λl S=>kk l ⟨A,⟨W.jg,W.mp,W.gl,W.pt,W.gk⟩,J S.tail.tail⟩⟩)⟩⟩
theorem Rs (H:ji Q X D G w0 w h L) (v k a b c:Int) (kk: ∀e,ji Q X D G w0 e (bC h (dH h.s h.s.2.length).1) L->K (((dH h.s h.s.2.length).2:Int),0,()) e):
 aE Ab 123 (.el (.agg iI)) [ag (ae X.hb),aa v,.agg ⟨fS k a b c⟩] w K:=by
 obtain⟨A,W,H⟩:=H;obtain⟨q,S,J⟩:=H.call;refine aQ (C:=V0) (aT:=pK) (Av (GM _ v k a b c w K) ?_);have I:=S.le;refine S.al λba e S=>S.al λr M S=>⟨rfl,rfl,aj.of _ (S.fG (X:=X) (A:=A) (g:=h.g) (by simp) (n:=1) rfl) ⟨_,S.Yg,?_⟩⟩;refine⟨λn u w'=> ∃m:Nat,u.1=((dH h.s m).2:Int)/\u.2.1=(m:Int)/\n+m=h.s.2.length/\a_ Q [] q w w' (dH h.s m).1 ((r,[ay 0,aa 0])::(ba,fS k a b c)::dV Q X A h (a8 Q A h.g (Ad 17)++L)),⟨h.s.2.length,λt z=>⟨0,rfl,rfl,rfl,S.ext z⟩⟩,?_⟩;clear S;rintro n ⟨x,y,u⟩ t ⟨m,i,l,N,S⟩;dsimp only at i l ⊢;subst i;subst l;have hc:=A8 h.s m;refine ab (λcc=>?_) (λcc=>?_)
 ·have o:m<h.s.2.length:=by simpa using cc
  refine D7 S (X:=X) (A:=A) (g:=h.g) (by simp) (m:Int) λp S=>?_;have B:aB .i64 (m:Int) 1=((m+1:Nat):Int):=by rw[ax (by omega) (by omega)];omega
  have E:aB .i64 ((dH h.s m).2:Int) 1=(((dH h.s m).2+1:Nat):Int):=by rw[ax (by omega) (by omega)];omega
  rw[B,E];refine ab (λd=>λF f=>⟨n - 1,by omega,m+1,?_,rfl,by omega,S.ext f⟩) (λd=>λF f=>⟨n - 1,by omega,m+1,?_,rfl,by omega,S.ext f⟩)
  ·have d:jS (dH h.s m).1 (m:Int)=0:=by simpa using d
   show _=(((dH h.s m).2+if jS (dH h.s m).1 (m:Int)=0 then 1 else 0:Nat):Int);rw[az d]
  ·have d: ¬ jS (dH h.s m).1 (m:Int)=0:=by simpa using d
   show _=(((dH h.s m).2+if jS (dH h.s m).1 (m:Int)=0 then 1 else 0:Nat):Int);rw[au d];rfl
 ·have o:m=h.s.2.length:=by
   have: ¬ m<h.s.2.length:=by simpa using cc
   omega
  subst o;rw[dS (by omega)];exact S.res (j:=0) rfl _ 0 λp S=>kk p ⟨A,⟨W.jg,W.mp,W.gl,W.pt,W.gk⟩,J S.tail.tail⟩
end
theorem cg {g:Nat->Option GV} {v:Int} (a:aW g v=true): ∃x,g v.toNat=some x/\a6 g v=x.root/\((v.toNat:Nat):Int)=v/\1<=v/\v<=16:=by
 obtain⟨hv,x,b⟩:=cq.1 a;refine⟨x,b,?_,by omega,hv.1,hv.2⟩;unfold a6;rw[az a,b]
theorem a_.sC {Q:Sys} {X:HX} {D G:List Nat} {w0 w:A2} {s:WD} {L0:List (Nat×List AC)} {A:Nat->GA} {g:Nat->Option GV} (S:a_ Q D G w0 w s L0) (d:(X.hb,fq Q X A g)∈L0) (b: ∀i v,g i=some v-> ∀x∈gO Q A i v,x∈L0) {v:Int} (e:aW g v=true):
 cP w (ad (ad (ae X.hb) 4) (v.toNat*1)) (.one .ptr) (some ⟨(A v.toNat).bg,0,none⟩)/\cP w (ad (some ⟨(A v.toNat).bg,0,none⟩) 0) (.one .ptr) (some ⟨(A v.toNat).bt,0,none⟩)/\cP w (ad (some ⟨(A v.toNat).bg,0,none⟩) 1) (.one .map) (some (A v.toNat).bm)/\
  ∃j:Nat,L0[j]? =some ((A v.toNat).bt,kF Q v (a6 g v) false):=by
 obtain⟨x,a,f,hv,h1,h⟩:=cg e;have hc:=S.mE d (v:=v) ⟨by omega,h⟩;have k:kq A g v.toNat=some ⟨(A v.toNat).bg,0,none⟩:=by unfold kq;rw[a]
 rw[k] at hc;obtain⟨j1,c⟩:=BJ (b _ _ a _ B2);obtain⟨l,m⟩:=BJ (b _ _ a _ (B3 _ B2));refine⟨hc,?_,?_,l,?_⟩
 ·rw[aR];exact dI (S.get c) rfl
 ·rw[aR];exact dI (S.get c) rfl
 ·rw[f, <-hv];exact m
def oW (h:HS) (v a b:Int):Int:=
 if a>=65536 then 2 else if b<1\/b>7 then 7 else if gY h v a=true/\wE .u64 b 2>0/\(wJ h.gr (fX h.g v a).1).2.2.2.1=false then 7 else Fz h.s v (a6 h.g v) false a b
def jT (h:HS) (v a b:Int):HS:=
 if a>=65536 then h else if b<1\/b>7 then h else if gY h v a=true/\wE .u64 b 2>0/\(wJ h.gr (fX h.g v a).1).2.2.2.1=false then h else bC h (rA h.s v (a6 h.g v) false a b)
section
variable {Q:Sys} {X:HX} {D G:List Nat} {w0 w:A2} {h:HS} {L:List (Nat×List AC)} {K:RS->A2->Prop}
theorem GW (H:ji Q X D G w0 w h L) {v:Int} (m:aW h.g v=true) (k:Int) {a b:Int} (c:Int) (E:0<=a) (hb:0<=b) (kk: ∀f,ji Q X D G w0 f (jT h v a b) L->K (0,oW h v a b,()) f):
 aE Ab 126 (.el (.agg iI)) [ag (ae X.hb),aa v,.agg ⟨fS k a b c⟩] w K:=by
 obtain⟨A,W,H⟩:=H;obtain⟨F,S,J⟩:=H.call;obtain⟨x,o,N,hv,O,P⟩:=cg m;refine aQ (C:=V0) (aT:=λ_=>[]) (Av (CF _ v k a b c w K) ?_);refine S.al λba f S=>S.al λt R S=>⟨rfl,S.cI 1 rfl rfl ?_⟩;unfold oW jT at kk;refine ab (λd=>⟨trivial,S.res (j:=0) rfl 0 _ λp S=>?_⟩) (λd=>⟨rfl,S.cI 1 rfl rfl ⟨λ_=>rfl,S.cI 1 rfl rfl ?_⟩⟩)
 ·rw[az (by simpa using d),az (by simpa using d)] at kk;exact kk p ⟨A,W,J S.tail.tail⟩
 have d: ¬ a>=65536:=by simpa using d
 rw[au d,au d] at kk;refine ab (λd=>⟨trivial,S.res (j:=0) rfl 0 _ λp S=>?_⟩) (λd2=>?_)
 ·have d:b<1\/b>7:=by simpa using d
  rw[az d,az d] at kk;exact kk p ⟨A,W,J S.tail.tail⟩
 have d2: ¬ (b<1\/b>7):=by
  intro e;have:(decide (b<1)||decide (b>7))=true:=by simpa using e
  rw[this] at d2;cases d2
 rw[au d2,au d2] at kk;have u:aw .i64 a=a:=bL ⟨E,by omega⟩;have eb:aw .i64 b=b:=bL ⟨hb,by omega⟩;have fin: ∀{r:A2} {T:List (Nat×List AC)} {q:Nat},a_ Q [] F w r h.s (T++((t,[ay 0,aa 0])::(ba,fS k a b c)::dV Q X A h (a8 Q A h.g (Ad 17)++L)))->T.length=q->(¬ (gY h v a=true/\wE .u64 b 2>0/\(wJ h.gr (fX h.g v a).1).2.2.2.1=false))->
  aD Ab 177 (.el (.one (.int .i64))) [ag (some ⟨(A v.toNat).bt,0,none⟩),aa a,aa b] r λ(x:Int) (f:A2)=>True/\aC f (ae t) [ay 0,aa x] λ(f:A2)=>ao f λ(w1:A2)=>aj w1 none (ae t) (.agg iI) λ(x:Int×Int×Unit)=>K (x.1,x.2.1,()) w1:=by
  intro r T q S U z;rw[au z,au z] at kk;obtain⟨_, _, _,j,I⟩:=S.sC (X:=X) (A:=A) (g:=h.g) (by simp) (λi v hv x o=>B1 T (bX W [_, _] i v hv x o)) m;refine S.sM j I a b λB S=>⟨trivial,S.res (j:=T.length) (by rw[EW (Dn _),Nat.sub_self];rfl) 0 _ λM S=>kk M ⟨A,⟨W.jg,W.mp,W.gl,W.pt,W.gk⟩,J ?_⟩⟩;rw[HE _ _ (Dn _),Nat.sub_self] at S;have S:=S.sub (EY T _);exact S.tail.tail
 refine⟨rfl,S.cI 1 rfl rfl ⟨fX h.g v a,by rw[u];exact pz (J S) (X:=X) (A:=A) (g:=h.g) (by simp) (bX W [_, _]) (fA W) (λi x o=>W.mp o) v a,λ_=>rfl,S.cI 1 rfl rfl (ab (λd3=>?_) (λd3=>?_))⟩⟩
 ·have d3:gY h v a=true/\wE .u64 b 2>0:=by
   have:=d3;rw[E5,decide_eq_true_eq] at this;exact this
  refine⟨rfl,rfl,aj.of _ (S.fG (X:=X) (A:=A) (g:=h.g) (by simp) (n:=2) rfl) ⟨(wJ h.gr (fX h.g v a).1,(lN h.gr (fX h.g v a).1).isSome,()),S.aau 3 4 rfl rfl (by rw[W.gl];decide) _,S.al λV p S=>S.fe 0 rfl rfl rfl λr S=>⟨rfl,S.cI 0 rfl rfl (ab (λd4=>⟨trivial,S.res (j:=1) rfl 0 _ λB S=>?_⟩) (λd4=>?_))⟩⟩⟩
  ·have d4:(wJ h.gr (fX h.g v a).1).2.2.2.1=false:=by simpa using d4
   rw[az ⟨d3.1,d3.2,d4⟩,az ⟨d3.1,d3.2,d4⟩] at kk;exact kk B ⟨A,W,J S.tail.tail.tail⟩
  ·have d4:(wJ h.gr (fX h.g v a).1).2.2.2.1=true:=by simpa using d4
   obtain⟨g1,y, _, _⟩:=S.sC (X:=X) (A:=A) (g:=h.g) (by simp) (bX W [_, _, _]) m;exact⟨rfl,rfl,⟨rfl,by omega,by show v<((17:Nat):Int);omega⟩,aj.of _ g1 ⟨rfl,rfl,aj.of _ y ⟨rfl,S.cI 2 rfl rfl ⟨rfl,S.cI 2 rfl rfl (by
    rw[u,eb];exact fin (T:=[_]) S rfl (λl=>by rw[d4] at l;cases l.2.2))⟩⟩⟩⟩
 ·have d3: ¬ (gY h v a=true/\wE .u64 b 2>0):=by
   intro e;have:((fX h.g v a).2.1&&decide (wE .u64 b 2>0))=true:=by rw[E5,decide_eq_true_eq];exact e
   rw[this] at d3;cases d3
  obtain⟨g1,y, _, _⟩:=S.sC (X:=X) (A:=A) (g:=h.g) (by simp) (bX W [_, _]) m;exact⟨rfl,rfl,⟨rfl,by omega,by show v<((17:Nat):Int);omega⟩,aj.of _ g1 ⟨rfl,rfl,aj.of _ y ⟨rfl,S.cI 1 rfl rfl ⟨rfl,S.cI 1 rfl rfl (by
   rw[u,eb];exact fin (T:=[]) S rfl (λl=>d3 ⟨l.1,l.2.1⟩))⟩⟩⟩⟩
end
theorem LN (s:WD) (r:Int) (gone:Bool) (p:Int):0<=(bA s r gone p).1/\(bA s r gone p).1<5000:=by
 have z:(0:Int)<=0/\(0:Int)<5000:=by decide
 unfold bA;split
 ·exact z
 ·split
  ·exact z
  ·split
   ·have h:=IE (B (dJ s.1 (dz s.1 r p).2.2.1)).toNat;have h:0<=(cZ s.1 r p).2.2.2.1/\(cZ s.1 r p).2.2.2.1<4096:=h;show 0<=qu p (dz s.1 r p) (cZ s.1 r p)/\qu p (dz s.1 r p) (cZ s.1 r p)<5000;unfold qu;split<;>omega
   ·exact z
theorem D_ (g:Nat->Option GV) (s:WD) (v p:Int):0<=(fO g s v p).1/\(fO g s v p).1<5000:=by
 have z:(0:Int)<=0/\(0:Int)<5000:=by decide
 unfold fO;split
 ·split
  ·exact LN _ _ _ _
  ·exact z
 ·exact z
def wN (h:HS) (v a:Int):Int:=
 if a>=65536 then 2 else if(fO h.g h.s v a).2.2.1≠0 then(fO h.g h.s v a).2.2.1 else if gY h v a=true then 7 else if(qp h.s.2 (fO h.g h.s v a).1).2.2.1>0 then 9 else 0
def BM (h:HS) (v a:Int):Int×Int:=if wN h v a=0 then((fO h.g h.s v a).1,0) else(0,wN h v a)
def qx (h:HS) (v a:Int):HS:=if wN h v a=0 then bC h ((nb h.s v (a6 h.g v) false a).1,dF (nb h.s v (a6 h.g v) false a).2 (fO h.g h.s v a).1 (aP 5 v)) else h
section
variable {Q:Sys} {X:HX} {D G:List Nat} {w0 w:A2} {h:HS} {L:List (Nat×List AC)} {K:RS->A2->Prop}
theorem GX (H:ji Q X D G w0 w h L) {v:Int} (q:aW h.g v=true) (u:M_ Q h.s) (y:0<=a6 h.g v/\a6 h.g v<4096) (k:Int) {a:Int} (b c:Int) (z:0<=a) (kk: ∀f,ji Q X D G w0 f (qx h v a) L->K ((BM h v a).1,(BM h v a).2,()) f):
 aE Ab 125 (.el (.agg iI)) [ag (ae X.hb),aa v,.agg ⟨fS k a b c⟩] w K:=by
 obtain⟨A,W,H⟩:=H;obtain⟨N,S,J⟩:=H.call;obtain⟨x,r,O,hv,P,R⟩:=cg q;refine aQ (C:=V0) (aT:=λ_=>[]) (Av (CD _ v k a b c w K) ?_);have l:wN h v a≠0-> ∀{f},ji Q X D G w0 f h L->K (0,wN h v a,()) f:=λt f H=>by
  have m:BM h v a=(0,wN h v a):=au t;have o:qx h v a=h:=au t;rw[m,o] at kk;exact kk f H
 have e:wN h v a=if a>=65536 then 2 else if(fO h.g h.s v a).2.2.1≠0 then(fO h.g h.s v a).2.2.1 else if gY h v a=true then 7 else if(qp h.s.2 (fO h.g h.s v a).1).2.2.1>0 then 9 else 0:=rfl;refine S.al λba f S=>S.al λT U S=>⟨rfl,S.cI 1 rfl rfl ?_⟩;refine ab (λd=>⟨trivial,S.res (j:=0) rfl 0 _ λB S=>?_⟩) (λd=>⟨rfl,S.cI 1 rfl rfl ?_⟩)
 ·rw[az (by simpa using d)] at e;rw[e] at l;exact l (by decide) ⟨A,W,J S.tail.tail⟩
 have d: ¬ a>=65536:=by simpa using d
 rw[au d] at e;have E:aw .i64 a=a:=bL ⟨z,by omega⟩;rw[E];refine uV S (X:=X) (A:=A) (g:=h.g) (by simp) (bX W [_, _]) v a λB S=>?_;have V:=D_ h.g h.s v a;refine ab (λd=>⟨trivial,S.res (j:=0) rfl 0 _ λp S=>?_⟩) (λd2=>?_)
 ·have d:(fO h.g h.s v a).2.2.1≠0:=by simpa using d
  rw[az d] at e;rw[e] at l;exact l d ⟨A,W,J S.tail.tail⟩
 rw[au (by simpa using d2)] at e;refine⟨fX h.g v a,pz (J S) (X:=X) (A:=A) (g:=h.g) (by simp) (bX W [_, _]) (fA W) (λi x r=>W.mp r) v a,?_⟩;refine ab (λd=>⟨trivial,S.res (j:=0) rfl 0 _ λp S=>?_⟩) (λd3=>?_)
 ·rw[az (show gY h v a=true from d)] at e;rw[e] at l;exact l (by decide) ⟨A,W,J S.tail.tail⟩
 rw[au (show ¬ gY h v a=true by unfold gY;rw[d3];decide)] at e;refine⟨rfl,rfl,aj.of _ (S.fG (X:=X) (A:=A) (g:=h.g) (by simp) (n:=1) rfl) ⟨(qp h.s.2 (fO h.g h.s v a).1,By h.s.2 (fO h.g h.s v a).1,()),S.ofq _,S.al λY p S=>S.fe 0 rfl rfl rfl λZ S=>⟨rfl,S.cI 0 rfl rfl ?_⟩⟩⟩;refine ab (λd=>⟨trivial,S.res (j:=1) rfl 0 _ λp S=>?_⟩) (λd4=>?_)
 ·rw[az (by simpa using d)] at e;rw[e] at l;exact l (by decide) ⟨A,W,J S.tail.tail.tail⟩
 rw[au (by simpa using d4)] at e;have m:BM h v a=((fO h.g h.s v a).1,0):=az e;have o:qx h v a=bC h _:=az e;rw[m,o] at kk;obtain⟨g1,F, _,j,I⟩:=S.sC (X:=X) (A:=A) (g:=h.g) (by simp) (bX W [_, _, _]) q;refine⟨rfl,rfl,⟨rfl,by omega,by show v<((17:Nat):Int);omega⟩,aj.of _ g1 ⟨rfl,rfl,aj.of _ F (S.Dt u j I y a λw7 S=>⟨rfl,rfl,aj.of _ (S.fG (X:=X) (A:=A) (g:=h.g) (by simp) (n:=1) rfl) (S.Ty _ 5 v λw8 S=>?_)⟩)⟩⟩;rw[dS (by omega)];exact S.res (j:=1) rfl _ 0 λM S=>kk M ⟨A,⟨W.jg,W.mp,W.gl,W.pt,W.gk⟩,J S.tail.tail.tail⟩
end
theorem GY {ds:List DT} (b:ds.length<=4096) (y o:Int):0<=fc ds y o/\fc ds y o<4096:=by
 have z:(0:Int)<=0/\(0:Int)<4096:=by decide
 unfold fc;split
 ·exact z
 ·rename_i n a;unfold iA at a;rw[JC] at a;obtain⟨h1, _⟩:=a;split
  ·exact⟨by omega,by omega⟩
  ·exact z
def kr (h:HS) (v:Int):WD:=(h.s.1,dB h.s.2 4 v)
def jl (h:HS) (v:Int):Int:=fc h.s.2 4 v
def qy (h:HS) (v a b:Int):WD:=jv (kr h v) v (a6 h.g v) false a (jl h v) b
def qz (h:HS) (v a b:Int):Int:=
 if a>=65536 then 2 else if b<1\/b>7 then 7 else if dQ h.s.2 4 v≠0 then dQ h.s.2 4 v else lK (kr h v) (a6 h.g v) false a (jl h v) b
def xJ (h:HS) (v a b:Int):Int×Int:=if qz h v a b=0 then(jl h v,0) else(0,qz h v a b)
def jO (h:HS) (v a b:Int):HS:=
 if a>=65536 then h else if b<1\/b>7 then h else if dQ h.s.2 4 v≠0 then bC h (kr h v)
 else if lK (kr h v) (a6 h.g v) false a (jl h v) b≠0 then bC h ((qy h v a b).1,dF (qy h v a b).2 (jl h v) (aP 0 0))
 else bC h (eZ (qy h v a b).1 (jl h v) (λ_=>0) 16,(qy h v a b).2)
section
variable {Q:Sys} {X:HX} {D G:List Nat} {w0 w:A2} {h:HS} {L:List (Nat×List AC)} {K:RS->A2->Prop}
theorem LO (H:ji Q X D G w0 w h L) {v:Int} (z:aW h.g v=true) (k:Int) {a b:Int} (c:Int) (T:0<=a) (hb:0<=b) (kk: ∀l,ji Q X D G w0 l (jO h v a b) L->K ((xJ h v a b).1,(xJ h v a b).2,()) l):
 aE Ab 124 (.el (.agg iI)) [ag (ae X.hb),aa v,.agg ⟨fS k a b c⟩] w K:=by
 obtain⟨A,W,H⟩:=H;obtain⟨B,S,J⟩:=H.call;obtain⟨x,hx,ui,hv,wy,sr⟩:=cg z;refine aQ (C:=V0) (aT:=od) (Av (EH _ v k a b c w K) ?_);have E:=GY S.le 4 v;have wf: ∀s',CY A (bC h s'):=λs'=>⟨W.jg,W.mp,W.gl,W.pt,W.gk⟩;have p: ∀e,e≠0->qz h v a b=e->xJ h v a b=(0,e):=λe U h1=>by
  unfold xJ;rw[au (by rw[h1];exact U),h1]
 refine S.al λba l S=>S.al λI w3 S=>⟨rfl,S.cI 1 rfl rfl ?_⟩;refine ab (λd=>⟨trivial,S.res (j:=0) rfl 0 _ λq S=>?_⟩) (λd=>⟨rfl,S.cI 1 rfl rfl ⟨λ_=>rfl,S.cI 1 rfl rfl ?_⟩⟩)
 ·have d:a>=65536:=by simpa using d
  have f:jO h v a b=h:=az d;rw[p 2 (by decide) (az d),f] at kk;exact kk q ⟨A,W,J S.tail.tail⟩
 have d: ¬ a>=65536:=by simpa using d
 have V:aw .i64 a=a:=bL ⟨T,by omega⟩;refine ab (λd2=>⟨trivial,S.res (j:=0) rfl 0 _ λq S=>?_⟩) (λd2=>⟨rfl,rfl,?_⟩)
 ·have d2:b<1\/b>7:=by simpa using d2
  have o:qz h v a b=7:=by unfold qz;rw[au d,az d2]
  have f:jO h v a b=h:=by unfold jO;rw[au d,az d2]
  rw[p 7 (by decide) o,f] at kk;exact kk q ⟨A,W,J S.tail.tail⟩
 have d2: ¬ (b<1\/b>7):=by
  intro e;have:(decide (b<1)||decide (b>7))=true:=by simpa using e
  rw[this] at d2;cases d2
 have eb:aw .i64 b=b:=bL ⟨hb,by omega⟩;refine aj.of _ (S.fG (X:=X) (A:=A) (g:=h.g) (by simp) (n:=1) rfl) (S.take 4 v λq S=>?_);refine ab (λd3=>⟨trivial,S.res (j:=0) rfl 0 _ λy S=>?_⟩) (λd3=>?_)
 ·have d3:dQ h.s.2 4 v≠0:=by simpa using d3
  have o:qz h v a b=dQ h.s.2 4 v:=by unfold qz;rw[au d,au d2,az d3]
  have f:jO h v a b=bC h (kr h v):=by unfold jO;rw[au d,au d2,az d3]
  rw[p _ d3 o,f] at kk;exact kk y ⟨A,wf _,J S.tail.tail⟩
 have d3: ¬ dQ h.s.2 4 v≠0:=by
  intro e;have:(dQ h.s.2 4 v != 0)=true:=by simpa using e
  rw[this] at d3;cases d3
 obtain⟨g1,M, _,j,N⟩:=S.sC (X:=X) (A:=A) (g:=h.g) (by simp) (bX W [_, _]) z;refine⟨rfl,rfl,⟨rfl,by omega,by show v<((17:Nat):Int);omega⟩,aj.of _ g1 ⟨rfl,rfl,aj.of _ M ⟨rfl,S.cI 1 rfl rfl ⟨rfl,S.cI 1 rfl rfl ?_⟩⟩⟩⟩;rw[V,eb];refine S.map j N a (jl h v) b λy S=>?_;have S:a_ Q [] B w y (qy h v a b) ((I,[ay 0,aa 0])::(ba,fS k a b c)::dV Q X A h (a8 Q A h.g (Ad 17)++L)):=S;have O:qz h v a b=lK (kr h v) (a6 h.g v) false a (jl h v) b:=by unfold qz;rw[au d,au d2,au d3]
 refine ab (λd4=>⟨rfl,rfl,?_⟩) (λd4=>?_)
 ·have d4: ¬ lK (h.s.1,dB h.s.2 4 v) (a6 h.g v) false a (jl h v) b=0:=by simpa using d4
  have d4:lK (kr h v) (a6 h.g v) false a (jl h v) b≠0:=d4;have f:jO h v a b=bC h ((qy h v a b).1,dF (qy h v a b).2 (jl h v) (aP 0 0)):=by unfold jO;rw[au d,au d2,au d3,az d4]
  rw[p _ d4 O,f] at kk;exact aj.of _ (S.fG (X:=X) (A:=A) (g:=h.g) (by simp) (n:=1) rfl) (S.FD (jl h v) λP S=>⟨trivial,S.res (j:=0) rfl 0 _ λr S=>kk r ⟨A,wf _,J S.tail.tail⟩⟩)
 have d4: ¬ lK (kr h v) (a6 h.g v) false a (jl h v) b≠0:=by
  intro e;have:(lK (kr h v) (a6 h.g v) false a (jl h v) b != 0)=true:=by simpa using e
  exact absurd (this.symm.trans d4) (by decide)
 have o:xJ h v a b=(jl h v,0):=by
  unfold xJ;rw[O,az (by omega)]
 have f:jO h v a b=bC h (eZ (qy h v a b).1 (jl h v) (λ_=>0) 16,(qy h v a b).2):=by unfold jO;rw[au d,au d2,au d3,au d4]
 rw[o,f] at kk;have E:0<=jl h v/\jl h v<4096:=E;obtain⟨F,t⟩: ∃F:Nat->List Int,F=λi=>eZ (qy h v a b).1 (jl h v) (λ_=>0) i:=⟨_,rfl⟩;have Y:F 0=(qy h v a b).1:=by rw[t];rfl
 have Z: ∀i,F (i+1)=dK (F i) (16*jl h v+(i:Int)) 0:=λi=>by rw[t];rfl
 have kk: ∀l,ji Q X D G w0 l (bC h (F 16,(qy h v a b).2)) L->K (jl h v,0,()) l:=by rw[t];exact kk
 clear t;refine⟨λn u w'=> ∃m:Nat,u.1=(m:Int)/\n+m=16/\a_ Q [] B w w' (F m,(qy h v a b).2) ((I,[ay 0,aa 0])::(ba,fS k a b c)::dV Q X A h (a8 Q A h.g (Ad 17)++L)),⟨16,λP h6=>⟨0,rfl,rfl,by rw[Y];exact S.ext h6⟩⟩,?_⟩;clear S g1 M N;rintro n ⟨u,u2⟩ P ⟨m,e,hn,S⟩;dsimp only at e ⊢;subst e;have efr:(fc h.s.2 4 v)=jl h v:=rfl;rw[efr];refine ab (λcc=>?_) (λcc=>?_)
 ·have R:m<16:=by
   have:(m:Int)<16:=by simpa using cc
   omega
  have e5:aB .i64 (ir .i64 16 (jl h v)) (m:Int)=16*jl h v+(m:Int):=by rw[eo (by omega) (by omega),ax (by omega) (by omega)]
  rw[e5];refine⟨rfl,rfl,aj.of _ (S.fG (X:=X) (A:=A) (g:=h.g) (by simp) (n:=0) rfl) (S.store _ 0 (by decide) λr S=>λw8 h8=>⟨n - 1,by omega,m+1,by rw[ax (by omega) (by omega)];omega,by omega,?_⟩)⟩;rw[Z];exact S.ext h8
 ·have R:m=16:=by
   have: ¬ (m:Int)<16:=by simpa using cc
   omega
  subst R;rw[dS (by omega)];exact S.res (j:=0) rfl _ 0 λr S=>kk r ⟨A,wf _,J S.tail.tail⟩
end
def du (h:HS) (v p id f:Int):HS where
 s:=((nb h.s v (a6 h.g v) false p).1,dF (nb h.s v (a6 h.g v) false p).2 f (gX (-1)))
 g:=bq h.g v.toNat (match h.g v.toNat with|some x=>some {x with tk:=x.tk.filter λt=> !(t.1==p)}|none=>none)
 gr:=eJ h.gr id v
 po:=h.po
theorem qh (gs:List GT) (i o:Int):(eJ gs i o).length=gs.length:=by
 unfold eJ;split
 ·rw[CX]
 ·rfl
theorem OP {α:Type} {T L:List α} {k:Nat} {x:α} (h:L[k]? =some x):(T++L)[T.length+k]? =some x:=by
 rw[EW (by omega),show T.length+k - T.length=k by omega];exact h
section
variable {Q:Sys} {X:HX} {D G:List Nat} {w0 w:A2} {h:HS} {L:List (Nat×List AC)}
theorem Ea {A:Nat->GA} (W:CY A h) {T:List (Nat×List AC)} (H:SM Q D G w0 w h.s (T++dV Q X A h (a8 Q A h.g (Ad 17)++L)) (de A h.g (Ad 17))) {v p id f:Int} (o:aW h.g v=true) (U:M_ Q h.s) (V:0<=a6 h.g v/\a6 h.g v<4096)
 {x:GV} (l:h.g v.toNat=some x) (Y:b_ x.tk p=some (id,f)) {K:Unit->A2->Prop} (kk: ∀A' y,(∀i,(A' i).bg=(A i).bg)->CY A' (du h v p id f)->SM Q D G w0 y (du h v p id f).s (T++dV Q X A' (du h v p id f) (a8 Q A' (du h v p id f).g (Ad 17)++L)) (de A' (du h v p id f).g (Ad 17))->K () y):
 aD Ab 167 (.bu []) [ag (ae X.hb),aa v,aa p] w K:=by
 obtain⟨x',I,ui,hv,wy,sr⟩:=cg o;rw[l] at I;cases I;refine H.go λw1 H=>ai (C:=V0) (aT:=tT) (Av (Q8 _ v p w1 K) ?_);obtain⟨G',S,J⟩:=H.call;have mem: ∀{T':List (Nat×List AC)},(X.hb,fq Q X A h.g)∈T'++(T++dV Q X A h (a8 Q A h.g (Ad 17)++L)):=λ{T'}=>B1 _ (B1 _ B2);have z: ∀{T':List (Nat×List AC)}, ∀i v,h.g i=some v-> ∀x∈gO Q A i v,x∈T'++(T++dV Q X A h (a8 Q A h.g (Ad 17)++L)):=λ{T'} i v hv x l=>B1 _ (bX W T i v hv x l);obtain⟨g1,M,B, _⟩:=S.sC (X:=X) (A:=A) (g:=h.g) (mem (T':=[])) (z (T':=[])) o;obtain⟨r,N,O⟩:=(W.mp l).find p;rw[Y] at O;obtain⟨i,e,hi,Z⟩:=O;have E:bE w1 (A v.toNat).bm ⟨(A v.toNat).es⟩ (A v.toNat).ck:=H.get (fA W _ _ l);refine⟨rfl,rfl,⟨rfl,by omega,by show v<((17:Nat):Int);omega⟩,aj.of _ g1 ⟨rfl,rfl,aj.of _ B ⟨(id,f,()),⟨_, _, _,rfl,E,?_⟩,S.al λb y S=>S.fe 0 rfl rfl rfl λw3 S=>⟨rfl,rfl,?_⟩⟩⟩⟩
 ·rw[N,e]
 obtain⟨_, _,B, _⟩:=S.sC (X:=X) (A:=A) (g:=h.g) (mem (T':=[_])) (z (T':=[_])) o;refine aj.of _ B λw4 h4=>?_;have H:=(J S).ext h4;have E:bE w4 (A v.toNat).bm ⟨(A v.toNat).es⟩ (A v.toNat).ck:=H.get (fA W _ _ l);refine⟨_, _, _,rfl,E,?_⟩;unfold zS;rw[N,e];dsimp only;have hea:(MZ (⟨(A v.toNat).es⟩:Array BK) i)=⟨(A v.toNat).es.eraseIdx i⟩:=by
  apply Array.ext';rw[Array.toList_eraseIdxIfInBounds]
 rw[hea];have JR:v.toNat<17:=by omega
 have H:=H.OO JR l ((A v.toNat).es.eraseIdx i) (A v.toNat).ck (x.tk.filter λt=> !(t.1==p));have q:=IS (A:=A) l ((A v.toNat).es.eraseIdx i) (A v.toNat).ck (x.tk.filter λt=> !(t.1==p));obtain⟨A',P⟩: ∃A',A'=ox A v.toNat {A v.toNat with es:=(A v.toNat).es.eraseIdx i,ck:=(A v.toNat).ck}:=⟨_,rfl⟩;have F:bq h.g v.toNat (some {x with tk:=x.tk.filter λt=> !(t.1==p)})=(du h v p id f).g:=by
  show _=bq h.g v.toNat (match h.g v.toNat with|some x=> _|none=>none);rw[l]
 have ZT: ∀{a m},(du h v p id f).g a=some m->qw (A' a).es (A' a).ck m.tk:=λ{a m} d=>by
  rw[<-F] at d;rw[P];unfold bq at d;unfold ox;by_cases u:a=v.toNat
  ·rw[az u] at d ⊢;cases d;exact Z
  ·rw[au u] at d ⊢;exact W.mp d
 have Tg: ∀{a m},(du h v p id f).g a=some m->1<=a/\a<=16:=λ{a m} d=>by
  rw[<-F] at d;unfold bq at d;by_cases u:a=v.toNat
  ·omega
  ·rw[au u] at d;exact W.jg d
 rw[<-P,F] at H q;obtain⟨G2,S,J2⟩:=H.call;obtain⟨_,M, _,j,hj⟩:=S.sC (X:=X) (A:=A) (g:=h.g) (mem (T':=[_])) (z (T':=[_])) o;refine⟨rfl,rfl,aj.of _ M (S.Dt U j hj V p λw5 S=>⟨rfl,rfl,aj.of _ (S.fG (X:=X) (A:=A) (g:=h.g) (mem (T':=[_])) (n:=1) rfl) ⟨rfl,S.cI 0 rfl rfl (S.aat f (-1) (by decide) λw6 S=>⟨rfl,rfl,aj.of _ (S.fG (X:=X) (A:=A) (g:=h.g) (mem (T':=[_])) (n:=2) rfl) ⟨rfl,S.cI 0 rfl rfl ?_⟩⟩)⟩⟩)⟩;refine S.WN (T.length+1+1) (T.length+2+1) (OP (T:= _::T) (k:=1) rfl) (OP (T:= _::T) (k:=2) rfl) (by rw[W.gl];decide) W.gk.use id v λw7 S=>S.en λR S=>kk A' R q.bg ⟨Tg,ZT,(qh _ _ _).trans W.gl,W.pt,W.gk.back _ _⟩ (J2 ?_);have e1:dV Q X A' (du h v p id f) (a8 Q A' (du h v p id f).g (Ad 17)++L)=(dV Q X A h (a8 Q A h.g (Ad 17)++L)).set 2 (X.ub,flat eG (eJ h.gr id v)++X.rest):=by
  show(X.hb,fq Q X A' (du h v p id f).g)::(X.gb,mw X.ub (eJ h.gr id v).length X.c)::(X.ub,flat eG (eJ h.gr id v)++X.rest)::(X.pb,Po.gJ 4 h.po)::(a8 Q A' (du h v p id f).g (Ad 17)++L)= _;rw[q.cs,q.rows,qh];rfl
 have S:a_ Q [] G2 _ R _ ((T++dV Q X A h (a8 Q A h.g (Ad 17)++L)).set (T.length+2) (X.ub,flat eG (eJ h.gr id v)++X.rest)):=S.tail;rw[HE _ _ (by omega),show T.length+2 - T.length=2 by omega, <-e1] at S;exact S
end
def MN (h:HS) (v p:Int):Int×Int:=match h.g v.toNat with
 |some x=>(b_ x.tk p).getD (0,0)
 |none=>(0,0)
def oX (h:HS) (v a:Int):Int:=if a>=65536 then 2 else if gY h v a=true then 0 else 4
def gW (h:HS) (v a:Int):HS:=if a>=65536 then h else if gY h v a=true then du h v a (MN h v a).1 (MN h v a).2 else h
theorem s_ {h:HS} {v p:Int} {x:GV} (a:aW h.g v=true) (b:h.g v.toNat=some x):gY h v p=true<->b_ x.tk p=some (MN h v p):=by
 unfold gY fX MN;rw[az a,b];dsimp only;cases b_ x.tk p<;>simp
section
variable {Q:Sys} {X:HX} {D G:List Nat} {w0 w:A2} {h:HS} {L:List (Nat×List AC)} {K:RS->A2->Prop}
theorem Vp (H:ji Q X D G w0 w h L) {v:Int} (l:aW h.g v=true) (o:M_ Q h.s) (p:0<=a6 h.g v/\a6 h.g v<4096) (k:Int) {a:Int} (b c:Int) (q:0<=a) (kk: ∀m,ji Q X D G w0 m (gW h v a) L->K (0,oX h v a,()) m):
 aE Ab 131 (.el (.agg iI)) [ag (ae X.hb),aa v,.agg ⟨fS k a b c⟩] w K:=by
 obtain⟨A,W,H⟩:=H;obtain⟨y,S,J⟩:=H.call;obtain⟨x,e,z,hv,B,E⟩:=cg l;refine aQ (C:=V0) (aT:=λ_=>[]) (Av (Lz _ v k a b c w K) ?_);unfold oX gW at kk;refine S.al λba m S=>S.al λF I S=>⟨rfl,S.cI 1 rfl rfl ?_⟩;refine ab (λd=>⟨trivial,S.res (j:=0) rfl 0 _ λf S=>?_⟩) (λd=>⟨rfl,S.cI 1 rfl rfl ?_⟩)
 ·rw[az (by simpa using d),az (by simpa using d)] at kk;exact kk f ⟨A,W,J S.tail.tail⟩
 have d: ¬ a>=65536:=by simpa using d
 rw[au d,au d] at kk;have n:aw .i64 a=a:=bL ⟨q,by omega⟩;rw[n];refine⟨fX h.g v a,pz (J S) (X:=X) (A:=A) (g:=h.g) (by simp) (bX W [_, _]) (fA W) (λi x e=>W.mp e) v a,?_⟩;refine ab (λd2=>⟨trivial,S.res (j:=0) rfl 0 _ λf S=>?_⟩) (λd2=>⟨rfl,S.cI 1 rfl rfl ?_⟩)
 ·have d2: ¬ gY h v a=true:=by
   unfold gY;simpa using d2
  rw[au d2,au d2] at kk;exact kk f ⟨A,W,J S.tail.tail⟩
 ·have d2:gY h v a=true:=by
   unfold gY;simpa using d2
  rw[az d2,az d2] at kk;rw[n];refine Ea W (T:=[_, _]) (J S) l o p e ((s_ l e).1 d2) λA' f _ r H=>?_;obtain⟨M,S,t⟩:=H.call;exact S.res (j:=0) rfl 0 0 λu S=>kk u ⟨A',r,t S.tail.tail⟩
end
def nf (t:TK):List TK->List TK
 |[]=>[t]
 |u::l=>if u.1<t.1 then u::nf t l else t::u::l
theorem mX (t:TK): ∀l,(nf t l).Perm (t::l)
 |[]=>De _
 |u::l=>by
  rw[nf];split
  ·exact((mX t l).cons u).trans (.swap _ _ _)
  ·exact De _
def lH (h:HS) (a:Int):GT:=wJ h.gr a
def lB (h:HS) (a:Int):Int×Int×Int×Unit:=fO h.g h.s (lH h a).1 (lH h a).2.1
def wz (c:Int):Int:=if c=1 then 3 else 1
def ng (h:HS) (v a b c:Int):Int:=
 if b>=65536 then 2 else if a>=16\/c>1 then 1 else if(lN h.gr a).isSome=false then 4
 else if(lH h a).2.2.1≠v\/(c=1/\(lH h a).2.2.2.1=false) then 7 else if(lB h a).2.2.1≠0 then 4 else if gY h (lH h a).1 (lH h a).2.1=true then 7
 else if gV h.gr a v (c==1)≠0 then gV h.gr a v (c==1) else lK h.s (a6 h.g v) false b (lB h a).1 (wz c)
def ia (h:HS) (v a b c:Int):HS where
 s:=((jv h.s v (a6 h.g v) false b (lB h a).1 (wz c)).1,dF (jv h.s v (a6 h.g v) false b (lB h a).1 (wz c)).2 (lB h a).1 (gX 1))
 g:=bq h.g v.toNat (match h.g v.toNat with|some x=>some {x with tk:=nf (b,a,(lB h a).1) x.tk}|none=>none)
 gr:=dX h.gr a v (c==1)
 po:=h.po
def As (h:HS) (v a b c:Int):HS:={h with s:=jv h.s v (a6 h.g v) false b (lB h a).1 (wz c),gr:=eJ (dX h.gr a v (c==1)) a v}
def mq (h:HS) (v a b c:Int):Int:=
 if b>=65536 then 2 else if a>=16\/c>1 then 1 else if(lN h.gr a).isSome=false then 4
 else if(lH h a).2.2.1≠v\/(c=1/\(lH h a).2.2.2.1=false) then 7 else if(lB h a).2.2.1≠0 then 4 else if gY h (lH h a).1 (lH h a).2.1=true then 7 else gV h.gr a v (c==1)
def jo (h:HS) (v a b c:Int):HS:=if mq h v a b c≠0 then h else if ng h v a b c=0 then ia h v a b c else As h v a b c
theorem LP (gs:List GT) (i g:Int) (b:Bool):(dX gs i g b).length=gs.length:=by
 unfold dX;split
 ·rw[CX]
 ·rfl
section
variable {Q:Sys} {X:HX} {D G:List Nat} {w0 w:A2} {h:HS} {L:List (Nat×List AC)} {K:RS->A2->Prop}
theorem Zm {A:Nat->GA} (W:CY A h) {v a b c:Int} {x:GV} (f:h.g v.toNat=some x) (hv:((v.toNat:Nat):Int)=v) (wy:1<=v) (sr:v<=16) (t:b_ x.tk b=none) (F:(dX h.gr a v (c==1)).length=h.gr.length) {h1:HS} (I:h1=x9 h (dX h.gr a v (c==1)))
 {J l ba:Nat} {M u la:List AC} (N:u=[ay 0,aa 0]) {m:A2}
 (H:SM Q D G w0 m ((jv h.s v (a6 h.g v) false b (lB h a).1 (wz c)).1,dF (jv h.s v (a6 h.g v) false b (lB h a).1 (wz c)).2 (lB h a).1 (gX 1)) ((J,M)::(l,u)::(ba,la)::dV Q X A h1 (a8 Q A h.g (Ad 17)++L)) (de A h.g (Ad 17)))
 (kk: ∀i,ji Q X D G w0 i (ia h v a b c) L->K (0,0,()) i):
 ∃r es w,some (A v.toNat).bm=some r/\bE m r es w/\gS m r .i64 b (.agg ⟨[aa a,aa (lB h a).1]⟩) es w λi=>
  aC i (ae l) [ay 0,aa 0] λi=>ao i λw1=>aj w1 none (ae l) (.agg [.int .u64,.int .i64]) λx=>K (x.1,x.2.1,()) w1:=by
 subst N;have O:=H.get (fA W _ _ f);refine⟨_, _, _,rfl,O,?_⟩;obtain⟨r,y,z⟩:=(W.mp f).find b;rw[t] at z;rw[z] at y;unfold gS;have P:=y;rw[P];have R:(⟨(A v.toNat).es⟩:Array BK).push {key:=aa b,val:= .agg ⟨[aa a,aa (lB h a).1]⟩,born:=(A v.toNat).ck}=⟨(A v.toNat).es++[{key:=aa b,val:= .agg ⟨[aa a,aa (lB h a).1]⟩,born:=(A v.toNat).ck}]⟩:=by
  grind
 rw[R];have B:=(W.mp f).push t (mX (b,a,(lB h a).1) x.tk);have T:v.toNat<17:=by omega
 have U:({key:=(wM (b,a,(lB h a).1)).1,val:=(wM (b,a,(lB h a).1)).2,born:=(A v.toNat).ck}:BK)={key:=aa b,val:= .agg ⟨[aa a,aa (lB h a).1]⟩,born:=(A v.toNat).ck}:=rfl;rw[U] at B;generalize (A v.toNat).es++[{key:=aa b,val:= .agg _,born:=(A v.toNat).ck}]=n at B ⊢;have H:=H.OO T f n ((A v.toNat).ck+1) (nf (b,a,(lB h a).1) x.tk);have o:=IS (A:=A) f n ((A v.toNat).ck+1) (nf (b,a,(lB h a).1) x.tk);obtain⟨A',C⟩: ∃A',A'=ox A v.toNat {A v.toNat with es:=n,ck:=(A v.toNat).ck+1}:=⟨_,rfl⟩;have p:bq h.g v.toNat (some {x with tk:=nf (b,a,(lB h a).1) x.tk})=(ia h v a b c).g:=by
  show _=bq h.g v.toNat _;rw[f]
 have V: ∀{d k},(ia h v a b c).g d=some k->qw (A' d).es (A' d).ck k.tk:=λ{d k} e=>by
  rw[<-p] at e;rw[C];unfold bq at e;unfold ox;by_cases q:d=v.toNat
  grind
  ·rw[au q] at e ⊢;exact W.mp e
 have Y: ∀{d k},(ia h v a b c).g d=some k->1<=d/\d<=16:=λ{d k} e=>by
  rw[<-p] at e;unfold bq at e;by_cases q:d=v.toNat
  ·omega
  ·rw[au q] at e;exact W.jg e
 rw[<-C,p] at H o;obtain⟨Z,S,J2⟩:=H.call;refine S.res (j:=1) rfl 0 0 λE S=>kk E ⟨A',⟨Y,V,F.trans W.gl,W.pt,W.gk.take _ _ _⟩,J2 ?_⟩;have S:=S.tail.tail.tail;rw[I] at S;show a_ Q [] Z _ E _ ((X.hb,fq Q X A' _)::(X.gb,mw X.ub _ X.c)::(X.ub,flat eG _++X.rest)::(X.pb,Po.gJ 4 h.po)::(a8 Q A' _ _++L));rw[o.cs,o.rows];exact S
theorem IT {A:Nat->GA} (W:CY A h) {v a b c:Int} {x:GV} (f:h.g v.toNat=some x) (hv:((v.toNat:Nat):Int)=v) (I:1<=v) (M:v<=16) (u:aW h.g v=true)
 (N: ∀x,h.g v.toNat=some x->lK h.s (a6 h.g v) false b (lB h a).1 (wz c)=0->b_ x.tk b=none)
 (w:(dX h.gr a v (c==1)).length=h.gr.length) {h1:HS} (k:h1=x9 h (dX h.gr a v (c==1))) (l:CY A h1)
 {O e ba:Nat} {P la:List AC} {m B:A2} {o:List Nat}
 (J: ∀{d:A2} {s':WD} {L':List (Nat×List AC)},a_ Q [] o m d s' L'->SM Q D G w0 d s' L' (de A h.g (Ad 17)))
 (S:a_ Q [] o m B h.s ((O,P)::(e,[ay 0,aa 0])::(ba,la)::dV Q X A h1 (a8 Q A h.g (Ad 17)++L)))
 (C:ng h v a b c=lK h.s (a6 h.g v) false b (lB h a).1 (wz c)) (hS0:jo h v a b c=if ng h v a b c=0 then ia h v a b c else As h v a b c)
 (kk: ∀d,ji Q X D G w0 d (jo h v a b c) L->K (0,ng h v a b c,()) d):
 aD Ab 173 (.el (.one (.int .i64))) [ag (some ⟨(A v.toNat).bt,0,none⟩),aa b,aa (lB h a).1,aa (wz c)] B λ(y:Int) (d:A2)=>
  aL (y != 0)
   ((some (⟨X.hb,0,none⟩:Ae)).isSome=true/\(some (⟨X.hb,0,none⟩:Ae)).isSome=true/\
    aj d none (ad (ae X.hb) 2) (.one .ptr) λ(z:Option Ae)=>
     aD Ab 182 (.el (.one (.int .i64))) [ag z,aa a,aa v] d λ(_:Int) (d:A2)=>
      True/\aC d (ae e) [ay 0,aa y] λ(d:A2)=>ao d λ(w1:A2)=>aj w1 none (ae e) (.agg [.int .u64,.int .i64]) λ(x:Int×Int×Unit)=>K (x.1,x.2.1,()) w1)
   ((some (⟨X.hb,0,none⟩:Ae)).isSome=true/\(some (⟨X.hb,0,none⟩:Ae)).isSome=true/\
    aj d none (ad (ae X.hb) 1) (.one .ptr) λ(z:Option Ae)=>
     aD Ab 183 (.el (.one (.int .i64))) [ag z,aa (lB h a).1,aa 1] d λ(_:Int) (d:A2)=>
      (some (⟨X.hb,0,none⟩:Ae)).isSome=true/\(some (⟨X.hb,0,none⟩:Ae)).isSome=true/\((ad (ae X.hb) 4).isSome=true/\0<=v/\v<((17:Nat):Int))/\
       aj d none (ad (ad (ae X.hb) 4) (v.toNat*1)) (.one .ptr) λ(p:Option Ae)=>
        p.isSome=true/\p.isSome=true/\
         aj d none (ad p 1) (.one .map) λ(R:Option Nat)=>
          ∀(w1:A2),Ext d w1-> ∃(r:Nat), ∃(es:Array BK), ∃(E:Nat),R=some r/\bE w1 r es E/\
           gS w1 r .i64 b (.agg ⟨[aa a,aa (lB h a).1]⟩) es E λ(d:A2)=>
            aC d (ae e) [ay 0,aa 0] λ(d:A2)=>ao d λ(w1:A2)=>aj w1 none (ae e) (.agg [.int .u64,.int .i64]) λ(x:Int×Int×Unit)=>K (x.1,x.2.1,()) w1):=by
 have mem: ∀{T},(X.hb,fq Q X A h.g)∈T++dV Q X A h1 (a8 Q A h.g (Ad 17)++L):=λ{T}=>B1 T (by rw[k];exact B2);have F:=λ{T} i v hv x f=>by
  have H:h1.g=h.g:=by rw[k];rfl
  have:=bX (Q:=Q) (X:=X) (L:=L) l T i v (by rw[H];exact hv) x f;rw[H] at this;exact this
 obtain⟨_, _, _,j,U⟩:=S.sC (X:=X) (A:=A) (g:=h.g) (mem (T:=[_, _, _])) (F (T:=[_, _, _])) u;refine S.map j U b (lB h a).1 (wz c) λw8 S=>?_;refine ab (λd8=>?_) (λd8=>?_)
 ·have d8:lK h.s (a6 h.g v) false b (lB h a).1 (wz c)≠0:=by
   grind
  have q:jo h v a b c=As h v a b c:=by grind
  refine⟨rfl,rfl,aj.of _ (S.fG (X:=X) (A:=A) (g:=h.g) (mem (T:=[_, _, _])) (n:=2) rfl) (S.WN 4 5 rfl rfl (by rw[l.gl];decide) l.gk.use a v λV S=>⟨trivial,S.res (j:=1) rfl 0 _ λt S=>?_⟩)⟩;rw[C,q] at kk;refine kk t ⟨A,⟨W.jg,W.mp,(qh _ _ _).trans (w.trans W.gl),W.pt,(W.gk.take _ _ _).back _ _⟩,J ?_⟩;have S:=S.tail.tail.tail;rw[k] at S;show a_ Q [] o m t _ ((X.hb,fq Q X A h.g)::(X.gb,mw X.ub (eJ _ a v).length X.c):: _);rw[qh];exact S
 ·have d8:lK h.s (a6 h.g v) false b (lB h a).1 (wz c)=0:=by
   grind
  have q:jo h v a b c=ia h v a b c:=by grind
  refine⟨rfl,rfl,aj.of _ (S.fG (X:=X) (A:=A) (g:=h.g) (mem (T:=[_, _, _])) (n:=1) rfl) (S.aat (lB h a).1 1 (by decide) λV S=>⟨rfl,rfl,⟨rfl,by omega⟩,?_⟩)⟩;rw[C,q,d8] at kk;have Y:=N x f d8;obtain⟨g1, _,Z, _⟩:=S.sC (X:=X) (A:=A) (g:=h.g) (mem (T:=[_, _, _])) (F (T:=[_, _, _])) u;refine aj.of _ g1 ⟨rfl,rfl,aj.of _ Z λt Hw=>?_⟩;exact Zm W f hv I M Y w k rfl ((J S).ext Hw) kk
theorem Vq (H:ji Q X D G w0 w h L) {v:Int} (r:aW h.g v=true) (k:Int) {a b c:Int} (Y:0<=a) (hb:0<=b) (hc:0<=c) (F: ∀x,h.g v.toNat=some x->lK h.s (a6 h.g v) false b (lB h a).1 (wz c)=0->b_ x.tk b=none)
 (kk: ∀m,ji Q X D G w0 m (jo h v a b c) L->K (0,ng h v a b c,()) m):
 aE Ab 130 (.el (.agg iI)) [ag (ae X.hb),aa v,.agg ⟨fS k a b c⟩] w K:=by
 obtain⟨A,W,H⟩:=H;obtain⟨I,S,J⟩:=H.call;obtain⟨x,q,ui,hv,M,N⟩:=cg r;refine aQ (C:=V0) (aT:=λ_=>[]) (Av (Ly _ v k a b c w K) ?_);have p: ∀e,e≠0->mq h v a b c=e->ng h v a b c=e-> ∀{m},ji Q X D G w0 m h L->K (0,e,()) m:=λe Z h1 h2 m H=>by
  have y:jo h v a b c=h:=az (by rw[h1];exact Z);rw[h2,y] at kk;exact kk m H
 have l:mq h v a b c=if b>=65536 then 2 else if a>=16\/c>1 then 1 else if(lN h.gr a).isSome=false then 4
  else if(lH h a).2.2.1≠v\/(c=1/\(lH h a).2.2.2.1=false) then 7 else if(lB h a).2.2.1≠0 then 4 else if gY h (lH h a).1 (lH h a).2.1=true then 7 else gV h.gr a v (c==1):=rfl
 have f:ng h v a b c=if b>=65536 then 2 else if a>=16\/c>1 then 1 else if(lN h.gr a).isSome=false then 4
  else if(lH h a).2.2.1≠v\/(c=1/\(lH h a).2.2.2.1=false) then 7 else if(lB h a).2.2.1≠0 then 4 else if gY h (lH h a).1 (lH h a).2.1=true then 7
  else if gV h.gr a v (c==1)≠0 then gV h.gr a v (c==1) else lK h.s (a6 h.g v) false b (lB h a).1 (wz c):=rfl
 refine S.al λba m S=>S.al λb1 w3 S=>⟨rfl,S.cI 1 rfl rfl ?_⟩;refine ab (λd=>⟨trivial,S.res (j:=0) rfl 0 _ λO S=>?_⟩) (λd=>⟨rfl,S.cI 1 rfl rfl ⟨λ_=>rfl,S.cI 1 rfl rfl ?_⟩⟩)
 ·have d:b>=65536:=by simpa using d
  rw[az d] at l f;exact p 2 (by decide) l f ⟨A,W,J S.tail.tail⟩
 have d: ¬ b>=65536:=by simpa using d
 rw[au d] at l f;refine ab (λd1=>⟨trivial,S.res (j:=0) rfl 0 _ λO S=>?_⟩) (λd1=>⟨rfl,S.cI 1 rfl rfl ⟨rfl,S.cI 1 rfl rfl ⟨rfl,S.cI 1 rfl rfl ⟨rfl,rfl,?_⟩⟩⟩⟩)
 ·have d1:a>=16\/c>1:=by simpa using d1
  rw[az d1] at l f;exact p 1 (by decide) l f ⟨A,W,J S.tail.tail⟩
 have d1: ¬ (a>=16\/c>1):=by
  grind
 rw[au d1] at l f;have ea:aw .i64 a=a:=bL ⟨Y,by omega⟩;have eb:aw .i64 b=b:=bL ⟨hb,by omega⟩;rw[ea,eb];refine aj.of _ (S.fG (X:=X) (A:=A) (g:=h.g) (by simp) (n:=2) rfl) ⟨(wJ h.gr a,(lN h.gr a).isSome,()),S.aau 3 4 rfl rfl (by rw[W.gl];decide) a,S.al λb2 O S=>S.fe 0 rfl rfl rfl λw5 S=>?_⟩;refine ab (λd2=>⟨trivial,S.res (j:=1) rfl 0 _ λP S=>?_⟩) (λd2=>⟨rfl,S.cI 0 rfl rfl ⟨λ_=>rfl,S.cI 0 rfl rfl ?_⟩⟩)
 ·have d2:(lN h.gr a).isSome=false:=by simpa using d2
  rw[az d2] at l f;exact p 4 (by decide) l f ⟨A,W,J S.tail.tail.tail⟩
 have d2: ¬ (lN h.gr a).isSome=false:=by
  have d2:(!(lN h.gr a).isSome)=false:=d2;intro e;rw[e] at d2;cases d2
 rw[au d2] at l f;refine ab (λd3=>⟨trivial,S.res (j:=1) rfl 0 _ λP S=>?_⟩) (λd3=>⟨rfl,S.cI 0 rfl rfl ⟨rfl,S.cI 0 rfl rfl ?_⟩⟩)
 ·have d3:=by
   have d3:((lH h a).2.2.1 != v||c==1&& !(lH h a).2.2.2.1)=true:=d3;simpa using d3
  rw[az d3] at l f;exact p 7 (by decide) l f ⟨A,W,J S.tail.tail.tail⟩
 have d3: ¬ ((lH h a).2.2.1≠v\/(c=1/\(lH h a).2.2.2.1=false)):=by
  grind[lH]
 rw[au d3] at l f;refine uV S (X:=X) (A:=A) (g:=h.g) (by simp) (bX W [_, _, _]) (lH h a).1 (lH h a).2.1 λP S=>?_;refine ab (λd4=>⟨trivial,S.res (j:=1) rfl 0 _ λt S=>?_⟩) (λd4=>⟨rfl,S.cI 0 rfl rfl ⟨rfl,S.cI 0 rfl rfl ?_⟩⟩)
 ·have d4:(lB h a).2.2.1≠0:=by
   have d4:((lB h a).2.2.1 != 0)=true:=d4;simpa using d4
  rw[az d4] at l f;exact p 4 (by decide) l f ⟨A,W,J S.tail.tail.tail⟩
 have d4: ¬ (lB h a).2.2.1≠0:=by
  grind[lB]
 rw[au d4] at l f;refine⟨fX h.g (lH h a).1 (lH h a).2.1,pz (J S) (X:=X) (A:=A) (g:=h.g) (by simp) (bX W [_, _, _]) (fA W) (λi x q=>W.mp q) _ _,?_⟩;refine ab (λd5=>⟨trivial,S.res (j:=1) rfl 0 _ λt S=>?_⟩) (λd5=>⟨rfl,rfl,?_⟩)
 ·have d5:gY h (lH h a).1 (lH h a).2.1=true:=d5;rw[az d5] at l f;exact p 7 (by decide) l f ⟨A,W,J S.tail.tail.tail⟩
 have d5: ¬ gY h (lH h a).1 (lH h a).2.1=true:=by
  have d5:gY h (lH h a).1 (lH h a).2.1=false:=d5;rw[d5];decide
 rw[au d5] at l f;refine aj.of _ (S.fG (X:=X) (A:=A) (g:=h.g) (by simp) (n:=2) rfl) (S.abe 4 5 rfl rfl (by rw[W.gl];decide) W.gk.use a v (c==1) λt S=>?_);have u:(dX h.gr a v (c==1)).length=h.gr.length:=LP _ _ _ _;obtain⟨h1,o⟩: ∃h1,h1=x9 h (dX h.gr a v (c==1)):=⟨_,rfl⟩;have R:h1.g=h.g:=by rw[o];rfl
 have Bq:h1.s=h.s:=by rw[o];rfl
 have z:CY A h1:=by rw[o];exact⟨W.jg,W.mp,u.trans W.gl,W.pt,W.gk.take _ _ _⟩
 have S:a_ Q [] I w t h.s ((b2,[aa (lH h a).1,aa (lH h a).2.1,aa (lH h a).2.2.1,.bool (lH h a).2.2.2.1,aa (lH h a).2.2.2.2.1])::(b1,[ay 0,aa 0])::(ba,fS k a b c)::dV Q X A h1 (a8 Q A h.g (Ad 17)++L)):=by
  rw[o];show a_ Q [] I w t h.s (_:: _:: _::(X.hb,fq Q X A h.g)::(X.gb,mw X.ub (dX h.gr a v (c==1)).length X.c):: _);rw[u];exact S
 refine ab (λd6=>⟨trivial,S.res (j:=1) rfl 0 _ λw8 S=>?_⟩) (λd6=>?_)
 ·have d6:gV h.gr a v (c==1)≠0:=by simpa using d6
  rw[az d6] at f;have e1:dX h.gr a v (c==1)=h.gr:=au d6;have y:h1=h:=by rw[o,e1];rfl
  rw[y] at S;exact p _ d6 l f ⟨A,W,J S.tail.tail.tail⟩
 have d6: ¬ gV h.gr a v (c==1)≠0:=by
  grind
 rw[au d6] at f;have U:jo h v a b c=if ng h v a b c=0 then ia h v a b c else As h v a b c:=au (by rw[l];exact d6);have mem: ∀{T:List (Nat×List AC)},(X.hb,fq Q X A h.g)∈T++dV Q X A h1 (a8 Q A h.g (Ad 17)++L):=λ{T}=>B1 T (by rw[o];exact B2);have V:=λ{T} i v hv x q=>by
  have:=bX (Q:=Q) (X:=X) (L:=L) z T i v (by rw[R];exact hv) x q;rw[R] at this;exact this
 have hq:=D_ h.g h.s (lH h a).1 (lH h a).2.1;refine ab (λd7=>⟨rfl,rfl,⟨rfl,by omega,by show v<((17:Nat):Int);omega⟩,?_⟩) (λd7=>⟨rfl,rfl,⟨rfl,by omega,by show v<((17:Nat):Int);omega⟩,?_⟩)
 ·have B:(ZC .i64 1 2)=wz c:=by
   unfold wz;rw[az (by simpa using d7)];decide
  obtain⟨g1,E,g3,j,hj⟩:=S.sC (X:=X) (A:=A) (g:=h.g) (mem (T:=[_, _, _])) (V (T:=[_, _, _])) r;refine aj.of _ g1 ⟨rfl,rfl,aj.of _ E ?_⟩;have T:=IT W q hv M N r F u o z J S f U kk;rw[<-B] at T;exact T
 ·have B:(1:Int)=wz c:=by
   unfold wz;rw[au (by simpa using d7)]
  obtain⟨g1,E,g3,j,hj⟩:=S.sC (X:=X) (A:=A) (g:=h.g) (mem (T:=[_, _, _])) (V (T:=[_, _, _])) r;refine aj.of _ g1 ⟨rfl,rfl,aj.of _ E ?_⟩;have T:=IT W q hv M N r F u o z J S f U kk;rw[<-B] at T;exact T
end
def z4 (l:List Int):Int:=l.foldl (λm x=>kl m x) 65536
theorem xk (a b:Int):kl a b<=a/\kl a b<=b/\(kl a b=a\/kl a b=b):=by
 unfold kl;split<;>omega
theorem yQ: ∀(l:List Int) (m:Int),l.foldl (λm x=>kl m x) m<=m/\(∀x∈l,l.foldl (λm x=>kl m x) m<=x)/\(l.foldl (λm x=>kl m x) m=m\/l.foldl (λm x=>kl m x) m∈l)
 |[],m=>⟨G1 _,λx b=>(by cases b),.inl rfl⟩
 |y::l,m=>by
  obtain⟨h1,c,a⟩:=yQ l (kl m y);obtain⟨d,e,f⟩:=xk m y;rw[Gi];refine⟨Int.le_trans h1 d,λx b=>?_,?_⟩
  ·rcases Dv.1 b with rfl|b
   ·exact Int.le_trans h1 e
   ·exact c x b
  ·rcases a with a|a
   ·rcases f with k|k
    ·exact .inl (a.trans k)
    ·exact .inr (Dv.2 (.inl (a.trans k)))
   ·exact .inr (B3 _ a)
theorem LQ {l:List Int} {m:Int} (h1:m<=65536) (c: ∀x∈l,m<=x) (b:m=65536\/m∈l):m=z4 l:=by
 obtain⟨e,d,a⟩:=yQ l 65536;unfold z4;rcases b with b|b
 ·rcases a with a|a
  ·omega
  ·have:=c _ a;omega
 ·have:=d _ b;rcases a with a|a
  ·omega
  ·have:=c _ a;omega
theorem A9 {es:List BK} {e:BK} (he:e∈es) (seen:Array Nat) (a:seen.contains e.born=false):
 (es.filter λx=> !(seen.push e.born).contains x.born).length<(es.filter λx=> !seen.contains x.born).length:=by
 induction es with
 |nil=>cases he
 |cons y es b=>
  have mono: ∀l:List BK,(l.filter λx=> !(seen.push e.born).contains x.born).length<=(l.filter λx=> !seen.contains x.born).length:=λl=>by
   rw[<-Jo, <-Jo];refine List.countP_mono_left λx _ c=>?_;simp only[I2,MV,Dl] at c ⊢
   simp_all
  rcases Dv.1 he with rfl|he
  ·rw[JP (by simp),List.filter_cons_of_pos (by simpa using a)];have:=mono es;simp only[CV];omega
  ·have:=b he;rw[Jq,Jq];by_cases h1:(!(seen.push e.born).contains y.born)=true
   ·have d:(!seen.contains y.born)=true:=by
     simp only[I2,MV,Dl] at h1 ⊢
     simp_all
    rw[az h1,az d];simp only[CV];omega
   ·rw[au h1];split
    ·simp only[CV];omega
    ·exact this
section
variable {Q:Sys} {X:HX} {D G:List Nat} {w0 w:A2} {s:WD} {L0:List (Nat×List AC)} {M:List (Nat×Bp)} {es:List BK} {ck bm bg:Nat} {pt:Option Ae} {tk:List TK}
theorem LR (H:SM Q D G w0 w s L0 M) (N:(bg,[ag pt,.map (some bm)])∈L0) (v:(bm,Obj.map ⟨es⟩ ck)∈M) (O:qw es ck tk) {K:Int->A2->Prop} (kk: ∀d,SM Q D G w0 d s L0 M->K (z4 (tk.map (·.1))) d):
 aD Ab 168 (.el (.one (.int .i64))) [ag (ae bg)] w K:=by
 obtain⟨⟨p,A,B⟩,E,P, _⟩:=O;have R: ∀e∈es, ∃t∈tk,e.key=aa t.1:=λe a=>by
  have:(e.key,e.val)∈p.map wM:=by rw[<-B];exact B4.2 ⟨e,a,rfl⟩
  obtain⟨t,c,y⟩:=B4.1 this;exact⟨t,A.mem_iff.1 c,(congrArg (·.1) y).symm⟩
 have S: ∀t∈tk, ∃e∈es,e.key=aa t.1:=λt c=>by
  have:wM t∈es.map λe=>(e.key,e.val):=by rw[B];exact B4.2 ⟨t,A.mem_iff.2 c,rfl⟩
  obtain⟨e,a,y⟩:=B4.1 this;exact⟨e,a,congrArg (·.1) y⟩
 refine H.go λw1 H=>ai (C:=V0) (aT:=qU) (Av (Lu _ w1 K) ?_);obtain⟨j,f⟩:=BJ N;refine⟨rfl,rfl,H.base.cI j f rfl λd g=>?_⟩;have H:=H.ext g;have T:bE d bm ⟨es⟩ ck:=H.get v;refine⟨_, _, _,rfl,T,?_⟩;have H:=H.alloc (o:= .mapIter (some bm) ck #[] ck) trivial;obtain⟨b,hb⟩: ∃b,b=d.heap.size:=⟨_,rfl⟩;rw[<-hb] at H ⊢;refine⟨λn q w'=> ∃seen:Array Nat,SM Q D G w0 w' s L0 ((b,.mapIter (some bm) ck seen ck)::M)/\n=(es.filter λx=> !seen.contains x.born).length/\q.1<=65536/\(∀e∈es, ∀x,e.key=aa x->seen.contains e.born=true->q.1<=x)/\(q.1=65536\/q.1∈tk.map (·.1)),⟨_,λU k=>⟨#[],H.ext k,rfl,G1 _,λe _ x _ l=>(by simp at l),.inl rfl⟩⟩,?_⟩;clear H;rintro n ⟨q,u⟩ U ⟨seen,H,V,h1,g,k⟩;dsimp only at h1 g k ⊢;intro w4 W;have H:=H.ext W;refine⟨b,bm,ck,seen,ck,⟨es⟩,ck,rfl,H.get B2,H.get (B3 _ v),Dn _,P,λl X z=>?_,λe a l X z=>?_⟩
 ·refine(H.ext z).en λF H=>?_;have m:q=z4 (tk.map (·.1)):=LQ h1 (λx r=>by
   obtain⟨t,c,rfl⟩:=B4.1 r;obtain⟨e,I,Y⟩:=S t c;exact g e I _ Y (l e I)) k
  rw[m];exact kk F (H.Fq (BN _ _))
 ·have a:e∈es:=a;obtain⟨t,c,J⟩:=R e a;have H:=(H.ext z).put (i:=0) rfl (o':= .mapIter (some bm) ck (seen.push e.born) ck) trivial;refine⟨t.1,e.val,⟨b,bm,ck,seen,⟨es⟩,ck,e,rfl,H.get B2,H.get (B3 _ v),a,E,J.symm,rfl⟩,λF Z=>?_⟩;refine⟨_,?_,seen.push e.born,H.ext Z,rfl,?_,?_,?_⟩
  ·rw[V];exact A9 a seen l
  ·have:=xk q t.1;omega
  ·intro e' L x r fg;have hmi:=xk q t.1;by_cases h:seen.contains e'.born=true
   ·have:=g e' L x r h;show kl q t.1<=x;omega
   ·have rW:e'.born=e.born:=by
     rw[I2] at fg
     simp_all
    have ab2:e'=e:=by
     obtain⟨i,hi⟩:=BJ L;obtain⟨j,f⟩:=BJ a;have zK:(es.map (·.born))[i]? =some e.born:=by rw[Bs,hi];exact congrArg some rW
     have zL:(es.map (·.born))[j]? =some e.born:=by rw[Bs,f];rfl
     have:=(EO (by rw[BL];exact(Bx.1 hi).1) E).1 (zK.trans zL.symm);subst this;rw[hi] at f;cases f;rfl
    subst ab2;rw[J] at r;cases r;show kl q t.1<=t.1;exact hmi.2.1
  ·rcases(xk q t.1).2.2 with m|m
   ·show kl q t.1=65536\/ _;rw[m];exact k
   ·show kl q t.1=65536\/kl q t.1∈ _;rw[m];exact .inr (B4.2 ⟨t,c,rfl⟩)
end
end Go.Proofs.YtlcenllcmeebhaaGreat
namespace Go.Proofs.YtlcenllcmeebhaaGreat.Mu
set_option maxRecDepth 100000
open Go.RX
section
variable {D G:List Nat} {w0 w:A2} {L Ls:List (Nat×List AC)} {M:List (Nat×Bp)} {es:List BK} {mb ck:Nat} {wl:List (Int×Int)}
theorem LU (H:cM D G w0 w L ((mb,.map ⟨es⟩ ck)::M)) (hv:iQ es ck (wl.map Jv)) (hl:(wl.length:Int)<=1000000) {is:Int->Bool} {Q:Int->A2->Bool->Prop}
 (Z: ∀{w' d Mr},cM D G w0 w' (d++L) Mr-> ∀e∈wl,Q e.2 w' (is e.2)) {K:Option Ae×Nat×Nat->A2->Prop}
 (k: ∀r R d c,R.Pairwise (· <= ·)->R.Perm ((wl.filter λe=>is e.2).map (·.1))->dU eI r R d->cM D G w0 c (d++L) ((mb,.map ⟨es⟩ ck)::M)->K r c):
 RgP w (some mb) λb c=> ∃I:Nat->(Option Ae×Nat×Nat)×Unit->A2->Prop,(∃n, ∀w1,Ext c w1->I n ((none,0,0),()) w1)/\ ∀(n:Nat) (s:(Option Ae×Nat×Nat)×Unit) (w1:A2),I n s w1->
  NxP w1 (ae b) (λc=>ao c λw1=>K (s.1.1,s.1.2.1,s.1.2.2) w1) λ_ _ c=> ∃x y:Int,BB c (ae b) (aa x) (aa y)/\ ∃O:Bool,Q y c O/\
   aL (!O) (∀g,Ext c g-> ∃h,h<n/\I h ((s.1.1,s.1.2.1,s.1.2.2),()) g)
    (aK c ⟨[aa x]⟩ 3 λb c=> ∀w1,Ext c w1->m7 w1 3 1 8 ⟨[aa 0]⟩ (s.1.1,s.1.2.1,s.1.2.2) (some ⟨b,0,none⟩,1,1) λr c=>
     ∃z:Nat->Int×Unit->A2->Prop,(∃n, ∀w1,Ext c w1->z n (((s.1.2.1:Nat):Int),()) w1)/\ ∀(P:Nat) (s:Int×Unit) (w1:A2),z P s w1->
      (decide (s.1>0)=true->r.1.isSome=true/\0<=aY .i64 s.1 1/\aY .i64 s.1 1<((r.2.1:Nat):Int))/\aj w1 (some (decide (s.1>0))) (ad r.1 ((aY .i64 s.1 1).toNat*1)) eI λ(aO:Int)=>
       aL (decide (s.1>0)&&decide (aO>x)) ((r.1.isSome=true/\0<=aY .i64 s.1 1/\aY .i64 s.1 1<((r.2.1:Nat):Int))/\aj w1 none (ad r.1 ((aY .i64 s.1 1).toNat*1)) eI λ(y:Int)=>
        (r.1.isSome=true/\0<=s.1/\s.1<((r.2.1:Nat):Int))/\aC w1 (ad r.1 (Int.toNat s.1*1)) [aa y] λc=> ∀g,Ext c g-> ∃h,h<P/\z h (aY .i64 s.1 1,()) g)
        ((r.1.isSome=true/\0<=s.1/\s.1<((r.2.1:Nat):Int))/\aC w1 (ad r.1 (Int.toNat s.1*1)) [aa x] λc=> ∀g,Ext c g-> ∃h,h<n/\I h ((r.1,r.2.1,r.2.2),()) g)):=by
 obtain⟨Xy,he2⟩:=hv.abQ;have S:=hv.2.1;have hck:=hv.2.2.1;have hlen:es.length=wl.length:=by
  obtain⟨⟨p,A,B⟩, _⟩:=hv;have C:=congrArg E9 B;have E:=A.length_eq;simp only[BL] at C E;omega
 intro w1 h1;have H:=H.ext h1;refine⟨mb,⟨es⟩,ck,rfl,H.get (i:=0) rfl,?_⟩;have H:=H.alloc (o:= .mapIter (some mb) ck #[] ck) trivial;obtain⟨b,hb⟩: ∃b,b=w1.heap.size:=⟨_,rfl⟩;rw[<-hb] at H ⊢;refine⟨λn q w'=> ∃(seen:Array Nat) (d:List (Nat×List AC)) (R:List Int),cM D G w0 w' (d++L) ((b,.mapIter (some mb) ck seen ck)::(mb,.map ⟨es⟩ ck)::M)/\n=(es.filter λx=> !seen.contains x.born).length/\dU eI q.1 R d/\R.Pairwise (· <= ·)/\
  R.Perm ((es.filter λx=>seen.contains x.born&&is (kI x.val)).map λx=>kI x.key),⟨_,λg h3=>⟨#[],[],[],H.ext h3,rfl,dU.nil eI,List.Pairwise.nil,?_⟩⟩,?_⟩
 ·simp_all
 clear H;rintro n ⟨q,u⟩ g ⟨seen,d,R,H,hn,m,F,J⟩;dsimp only at m ⊢;have hRl:R.length<=es.length:=by
  rw[J.length_eq,BL];exact Jt _ _
 intro w4 h4;have H:=H.ext h4;refine⟨b,mb,ck,seen,ck,⟨es⟩,ck,rfl,H.get (i:=0) rfl,H.get (i:=1) rfl,Dn _,hck,λmz w5 N j v=>?_,λe l T w5 N=>?_⟩
 ·refine k q R d j F (J.trans ?_) m (((H.ext N).ext v).Fq (BN _ _));have C:(es.filter λx=>seen.contains x.born&&is (kI x.val))=es.filter λx=>is (kI x.val):=HG λx hx=>by rw[mz x hx,GS]
  rw[C];obtain⟨⟨p,A,B⟩, _⟩:=hv;have E:(es.filter λx=>is (kI x.val)).map (λx=>kI x.key)=((es.map λe=>(e.key,e.val)).filter λt=>is (kI t.2)).map λt=>kI t.1:=by
   rw[FS,Ff];rfl
  have e3:((p.map kvE).filter λt=>is (kI t.2)).map (λt=>kI t.1)=(p.filter λt=>is (kI t.2)).map (·.1):=by
   rw[FS,Ff];rfl
  have e4:(((wl.map Jv).filter λt=>is (kI t.2)).map (·.1):List Int)=(wl.filter λe=>is e.2).map (·.1):=by
   rw[FS,Ff];rfl
  rw[E,B,e3, <-e4];exact(A.filter _).map _
 ·have l:e∈es:=l;obtain⟨t,ht,U,V⟩:=Xy e l;obtain⟨a,ha,rfl⟩:=B4.1 ht;have H:=(H.ext N).put (i:=0) rfl (o':= .mapIter (some mb) ck (seen.push e.born) ck) trivial;have W:(es.filter λx=> !(seen.push e.born).contains x.born).length<n:=by rw[hn];exact A9 l seen T
  have V5:=AI (f:=λx=>is (kI x.val)) T S l;have hke:kI e.key=a.1:=by rw[U];rfl
  have hve:kI e.val=a.2:=by rw[V];rfl
  refine⟨a.1,a.2,⟨b,mb,ck,seen,⟨es⟩,ck,e,rfl,H.get (i:=0) rfl,H.get (i:=1) rfl,l,S,U.symm,V.symm⟩,is a.2,Z H a ha,?_⟩;cases hi:is a.2 with
  |false=>
   refine aF rfl λj v=>⟨_,W,seen.push e.born,d,R,H.ext v,rfl,m,F,?_⟩
   grind
  |true=>
   rw[hve,hi,az rfl] at V5;refine an rfl λj v w7 h7=>?_;have X:=by
    have Y:=H.ext v;have K6:=Y.join (L':=(j.heap.size,[aa a.1])::(d++L)) (w1:=j.alloc (.cells ⟨[aa a.1]⟩ 3)) (Y.base.again.alloc _ _);exact(K6.perm B5).ext h7
   refine Ho X m rfl (q:=(some ⟨j.heap.size,0,none⟩,1,1)) (ys:=[a.1]) rfl (rF (e:=eI) (x:=a.1) (X.base.dp _ (B1 _ B2))) rfl rfl (by simp only[HM];omega) λr cN w8 fg H8=>?_;refine PA H8 fg F (by omega) (by rw[m.1]) λV4 R' w9 hR' Ta S8 H9=>⟨_,W,seen.push e.born,V4,R',H9.sub (by grind),rfl,S8,hR',?_⟩;refine(Ta.trans (CO _ J)).trans ?_
   grind
theorem LV (H:cM D G w0 w L ((mb,.map ⟨es⟩ ck)::M)) (hv:iQ es ck (wl.map Jv)) (d:(wl.length:Int)<=1000000) {now:Int} {s:Option Ae×Nat×Nat} {c eb:Nat} (hc:(c,[ag (ae eb)])∈L) (f:(eb,oB now s mb)∈L) (g: ∀e∈wl,0<=e.2/\e.2<=now) (n:now<4611686018427387904)
 {K:Option Ae×Nat×Nat->A2->Prop} (k: ∀r R a b,R.Pairwise (· <= ·)->R.Perm ((wl.filter λe=>decide (e.2+2<=now)).map (·.1))->dU eI r R a->cM D G w0 b (a++L) ((mb,.map ⟨es⟩ ck)::M)->K r b):
 aD Ab 115 (.el (.one .slice)) [.map (some mb),.func (.func 236) #[] #[ag (ae c)]] w K:=by
 refine λw1 h1=>ai (C:=U1) (aT:=qK) (Av (J' _ _ w1 K) ?_);refine LU (H.ext h1) hv d (is:=λy=>decide (y+2<=now)) (λ{w' a o} H e h=>?_) k;refine ah.of λb i=>ai (C:=U0) (aT:=λ_=>[]) (Av (J_ _ _ b _) ?_);have H:=(H.ext i).base;have hb:=g e h;obtain⟨j,l⟩:=BJ (B1 a hc);refine aj.at j H l (rfl) ⟨rfl,rfl,aj.lJ H (B1 a f) (rfl) λp m=>⟨?_,m⟩⟩;rw[ax (by omega) (by omega)]
theorem Ru (H:cM D G w0 w L ((mb,.map ⟨es⟩ ck)::M)) (hv:iQ es ck (wl.map Jv)) (W:(wl.length:Int)<=1000000) {now:Int} {s:Option Ae×Nat×Nat} {eb:Nat} (X:(eb,oB now s mb)∈L) (Y: ∀e∈wl,0<=e.2/\e.2<=now) (Z:now<4611686018427387904)
 {K:Option Ae×Nat×Nat->A2->Prop} (k: ∀r R d a g,R.Pairwise (· <= ·)->R.Perm ((wl.filter λe=>decide (e.2+2<=now)).map (·.1))->dU eI r R d->iQ a ck ((wl.filter λe=> !decide (e.2+2<=now)).map Jv)->
  cM D G w0 g (d++L) ((mb,.map ⟨a⟩ ck)::M)->K r g):
 aD Ab 198 (.el (.one .slice)) [ag (ae eb)] w K:=by
 refine λw1 h1=>ai (C:=U0) (aT:=tH) (Av (Px _ w1 K) λg q=>?_);have H:=(H.ext h1).ext q;obtain⟨b,hb⟩: ∃b,b=g.heap.size:=⟨_,rfl⟩;have H:=H.join (L':=(b,[ag (ae eb)])::L) (w1:=g.alloc (.cells ⟨[ag (ae eb)]⟩ 98)) (by rw[hb];exact H.base.again.alloc _ _);rw[<-hb];have l:(eb,oB now s mb)∈(b,[ag (ae eb)])::L:=B3 _ X;refine aj.at 0 H.base rfl (show _=some (some (⟨eb,0,none⟩:Ae)) from rfl) ⟨_,pj H.base l,an rfl (aj.at 0 H.base rfl (show _=some (some (⟨eb,0,none⟩:Ae)) from rfl) ⟨rfl,rfl,aj.lJ H.base l (show _=some (some mb) from rfl) ?_⟩)⟩;refine LV H hv W (c:=b) B2 l Y Z λr R d I hR m u H=>?_;have J:=u.1;have N:(wl.map (·.1)).Nodup:=by
  have:=hv.2.2.2;rw[Ff] at this;exact this
 have hRl:R.length<=wl.length:=by
  rw[m.length_eq,BL];exact Jt _ _
 have hRn:R.Nodup:=by
  refine m.nodup_iff.2 ?_;exact N.sublist (JS.map _)
 have O: ∀f,f∈R<-> ∃e∈wl,e.1=f/\e.2+2<=now:=λf=>by
  rw[m.mem_iff,B4];constructor
  grind
  ·rintro⟨e,h,rfl,c⟩;exact⟨e,HZ.2 ⟨h,by simpa using c⟩,rfl⟩
 refine⟨λn st v=> ∃(j:Nat) (a:List BK),j<=R.length/\n=R.length - j/\st.1=(j:Int)/\iQ a ck ((wl.filter λe=> !(R.take j).contains e.1).map Jv)/\cM D G w0 v (d++((b,[ag (ae eb)])::L)) ((mb,.map ⟨a⟩ ck)::M),⟨R.length,λv h4=>⟨0,es,E6 _,rfl,rfl,?_,H.ext h4⟩⟩,?_⟩
 ·have:(wl.filter λe=> !(R.take 0).contains e.1)=wl:=HB.2 λ_ _=>rfl;rw[this];exact hv
 rintro n ⟨i, _⟩ v ⟨j,a,P,uh,hi,z,H⟩;have hi:i=(j:Int):=hi;subst hi uh;dsimp only;rw[J];have hmb:(b,[ag (some (⟨eb,0,none⟩:Ae))])∈d++((b,[ag (ae eb)])::L):=B1 _ B2;have hme:(eb,oB now s mb)∈d++((b,[ag (some (⟨eb,0,none⟩:Ae))])::L):=B1 _ l;obtain⟨jb,hjb⟩:=BJ hmb;refine ab (λc=>?_) (λc=>?_)
 ·have P:j<R.length:=by have:=of_decide_eq_true c;omega
  obtain⟨x,o⟩: ∃x,R[j]? =some x:=⟨_,C6 P⟩;have Q:=u.sl H.base (λy p=>Bv _ p) j x o;refine⟨⟨Q.1,by omega,by omega⟩,aj.of x (by rw[DA];exact Q.2) (aj.at jb H.base hjb (show _=some (some (⟨eb,0,none⟩:Ae)) from rfl) ⟨rfl,rfl,aj.lJ H.base hme (show _=some (some mb) from rfl) λS A=>?_⟩)⟩;have H:=H.ext A;obtain⟨e,hew,T,ZJ⟩:=(O x).1 (Bz o);have hxn:x∉R.take j:=λhm=>by
   obtain⟨i,hi⟩:=BJ hm;have B:i<(R.take j).length:=(Bx.1 hi).1;rw[Dc] at B;rw[List.getElem?_take_of_lt (by omega)] at hi;have:=(EO (by omega) hRn).1 (hi.trans o.symm);omega
  have lC:(x,aa e.2)∈(wl.filter λe=> !(R.take j).contains e.1).map Jv:=B4.2 ⟨e,HZ.2 ⟨hew,by rw[T];simpa using hxn⟩,by rw[<-T]⟩;obtain⟨i,hf,B,U⟩:=z.Fa lC;refine⟨mb,⟨a⟩,ck,rfl,H.get (i:=0) rfl,?_⟩;unfold zS;rw[hf];have e1:(Array.mk a).eraseIdxIfInBounds i=⟨a.eraseIdx i⟩:=by
   apply Array.ext';simp[MZ,B]
  have H:=H.put (i:=0) rfl (o':= .map ⟨a.eraseIdx i⟩ ck) trivial;show∀I,Ext _ I-> _;rw[e1];refine λw6 h6=>⟨R.length - (j+1),by omega,j+1,a.eraseIdx i,by omega,rfl,?_,?_,H.ext h6⟩
  ·rw[ax (by omega) (by omega)];omega
  ·have E:(((wl.filter λe=> !(R.take j).contains e.1).map Jv).filter λt=> !(t.1==x))=(wl.filter λe=> !(R.take (j+1)).contains e.1).map Jv:=by
    rw[FS,List.filter_filter];congr 1;refine HG λy _=>?_;rw[List.take_add_one,o]
    grind
   rw[E] at U;exact U
 ·have:j=R.length:=by have:=of_decide_eq_false c;omega
  subst this;refine λS A=>k _ R d a S hR m (by rw[<-J];exact u) ?_ ((H.ext A).sub (Ga (BN _ _) _));have E:(wl.filter λe=> !(R.take R.length).contains e.1)=wl.filter λe=> !decide (e.2+2<=now):=HG λy p=>by
   rw[List.take_length];congr 1;rw[Bool.eq_iff_iff,List.contains_iff_mem,decide_eq_true_eq,O];constructor
   ·rintro⟨e,h1,q,h3⟩;have:e=y:=by
     obtain⟨i1,F⟩:=BJ h1;obtain⟨i2,V⟩:=BJ p;have a1:(wl.map (·.1))[i1]? =some y.1:=by rw[Bs,F];exact congrArg some q
     have a2:(wl.map (·.1))[i2]? =some y.1:=by rw[Bs,V];rfl
     have:=(EO (by rw[BL];exact(Bx.1 F).1) N).1 (a1.trans a2.symm);subst this;exact Option.some.inj (F.symm.trans V)
    rw[<-this];exact h3
   ·exact λh=>⟨y,p,rfl,h⟩
  rw[E] at z;exact z
theorem Ce (H:cM D G w0 w L M) (n:Int) {K:Option Ae×Int×Unit->A2->Prop} (kb:n<1\/n>8-> ∀w1,cM D G w0 w1 L M->K (none,1,()) w1)
 (E:1<=n->n<=8-> ∀eb mb s Ls w1,dU eI s (BO n.toNat (-1)) Ls->cM D G w0 w1 ((eb,oB 0 s mb)::(Ls++L)) ((mb,.map ⟨[]⟩ 0)::M)->K (some ⟨eb,0,none⟩,0,()) w1):
 aD Ab 84 (.bu [.one .ptr,.one (.int .i64)]) [aa n] w K:=by
 refine λw1 h1=>ai (C:=U0) (aT:=vI) (Av (Cc n w1 K) ?_);have H:=H.ext h1;refine ab (λc=>λf g=>kb (by simpa using c) f (H.ext g)) (λc f g p F=>?_);have t:1<=n/\n<=8:=by
  grind
 obtain⟨m,rfl⟩: ∃m:Nat,n=(m:Int):=⟨n.toNat,by omega⟩;have H:=((H.ext g).alloc (o:= .map #[] 0) trivial).ext F;obtain⟨mb,I⟩: ∃b,b=f.heap.size:=⟨_,rfl⟩;rw[<-I] at H ⊢;obtain⟨eb,u⟩: ∃b,b=p.heap.size:=⟨_,rfl⟩;have H:=H.join (L':=(eb,oB 0 (none,0,0) mb)::L) (w1:=p.alloc (.cells ⟨[aa 0,.slice none 0 0,.map (some mb)]⟩ 210)) (by rw[u];exact H.base.again.alloc _ _);rw[<-u];refine⟨λn st h=> ∃(j:Nat) (s:Option Ae×Nat×Nat) (Ls:List (Nat×List AC)),j<=m/\n=m - j/\st.1=(j:Int)/\dU eI s (BO j (-1)) Ls/\cM D G w0 h (Ls++((eb,oB 0 s mb)::L)) ((mb,.map ⟨[]⟩ 0)::M),⟨m,λh J=>⟨0,(none,0,0),[],E6 _,rfl,rfl,dU.nil eI,H.ext J⟩⟩,?_⟩;clear H;rintro n ⟨i, _⟩ h ⟨j,s,Ls,N,O,hi,v,H⟩;have hi:i=(j:Int):=hi;subst hi O;dsimp only;have P:(eb,oB 0 s mb)∈Ls++((eb,oB 0 s mb)::L):=B1 _ B2;refine ab (λc=>?_) (λc=>?_)
 ·have N:j<m:=by have:=of_decide_eq_true c;omega
  refine⟨rfl,rfl,aj.lJ H.base P (show _=some (s.1,s.2.1,s.2.2) from rfl) λa k V Q=>?_⟩;have y:=by
   have z:=H.ext k;have R:=z.join (w1:=a.alloc (.cells ⟨[aa (-1)]⟩ 3)) (z.base.again.alloc _ _);exact(R.perm B5).ext Q
  refine Ho y v rfl (q:=(some ⟨a.heap.size,0,none⟩,1,1)) (ys:=[(-1:Int)]) rfl (rF (e:=eI) (x:=(-1:Int)) (y.base.dp _ (B1 _ B2))) rfl rfl (by grind) λr l W S d=>⟨rfl,rfl,?_⟩;have d:=(d.sub (Ga (BN _ _) l)).perm (L':=(eb,oB 0 s mb)::(l++L)) B5.symm;refine λA B=>?_;have key:=aC.fb (b:=eb) (o:=0) (n:=1) 0 (d.ext B).base.again rfl (x:= .slice r.1 r.2.1 r.2.2) rfl rfl (λX T=>(d.ext B).join T) A (Ext.refl A);refine⟨key.1,λY U=>⟨m - (j+1),by omega,j+1,r,l,by omega,rfl,?_,?_,(key.2.ext U).perm B5⟩⟩
  ·rw[ax (by omega) (by omega)];omega
  ·rw[K1];exact S
 ·have:j=m:=by have:=of_decide_eq_false c;omega
  subst this;refine λa k=>E t.1 t.2 eb mb s Ls a ?_ ((H.ext k).perm B5.symm);rw[DA];exact v
end
abbrev uc:Type:=Int×Int×Int×Unit
abbrev eC:El:= .one .chan
abbrev Na (a:uc):AC:= .agg ⟨[aa a.1,aa a.2.1,aa a.2.2.1]⟩
abbrev CR:Type:=Nat×Nat×Nat
abbrev cO (c:CR) (q:List uc):Nat×Bp:=(c.1,.chan 16 ⟨q.map Na⟩ false c.2.1 c.2.2 false)
abbrev qE (cs:List CR) (bx:List (List uc)):List (Nat×Bp):=List.zipWith cO cs bx
abbrev dF (cs:List CR):List (Option Nat):=cs.map λc=>some c.1
abbrev lO (sb so:Option Ae×Nat×Nat):List AC:=[.slice sb.1 sb.2.1 sb.2.2,.slice so.1 so.2.1 so.2.2]
theorem IU {cs:List CR} {bx:List (List uc)} {k:Nat} {c:CR} {q:List uc}:(qE cs bx).set k (cO c q)=qE (cs.set k c) (bx.set k q):=by
 induction cs generalizing bx k with
 |nil
 |cons=>
  cases bx with
  |nil
  |cons=>
   cases k with
   |zero
   |succ=>simp_all
theorem Cl {cs:List CR} {bx:List (List uc)} {k:Nat} {c:CR} {q:List uc} (h1:cs[k]? =some c) (a:bx[k]? =some q):(qE cs bx)[k]? =some (cO c q):=by
 grind
theorem _root_.Go.Proofs.YtlcenllcmeebhaaGreat.dU.sub {D G:List Nat} {w0 w:A2} {L Ls:List (Nat×List AC)} {e:El} {s:Option Ae×Nat×Nat} {xs:List e.T} (h:dU e s xs Ls) (H:aJ D G w0 w L) (a: ∀x∈Ls,x∈L) {lo n:Nat} (j:lo+n<=xs.length):
 Go.RX.qn w (ad s.1 (lo*aG e)) (n*aG e) (flat e ((xs.drop lo).take n)):=by
 obtain⟨h1,k,⟨a1,b⟩|⟨bs,rest,a1,c,b⟩⟩:=h
 ·have:xs=[]:=List.eq_nil_of_length_eq_zero (by omega);subst this;rw[a1,List.drop_nil,List.take_nil];rfl
 ·rw[a1,aR,Nat.zero_add];have d:(flat e ((xs.drop lo).take n)).length=n*aG e:=by rw[aI,Dc,Hb,Hy (by omega)]
  refine bM.qn (H.dp _ (a _ (by rw[c];exact H4.2 rfl))) d λi hi=>?_;have f:flat e xs=flat e (xs.take lo)++(flat e ((xs.drop lo).take n)++flat e ((xs.drop lo).drop n)):=by
   rw[<-dM, <-dM,H7,H7]
  have g:(flat e (xs.take lo)).length=lo*aG e:=by rw[aI,Dc,Hy (by omega)]
  rw[f,C7,EW (by grind),g,Nat.add_sub_cancel_left,C7,Hq (by grind)]
section
variable {D G:List Nat} {w0 w:A2} {L Lb Lo:List (Nat×List AC)} {M:List (Nat×Bp)} {sb so:Option Ae×Nat×Nat} {cs:List CR} {bx:List (List uc)} {op:List Int} {xb:Nat}
theorem OQ (H:aJ D G w0 w L) (a:(xb,lO sb so)∈L) (b:sb.2.1=cs.length) (i:Int):ah Ab 106 [ag (ae xb),aa i] w (.bool (decide (0<=i/\i<(cs.length:Int)))):=by
 refine ah.of (s:= .el _) λw' h'=>ai (Av (T1 _ _ w' _) ?_);refine⟨λ_=>rfl,λ_=>rfl,aj.lJ (H.ext h') a rfl λw1 h1=>⟨?_,h1⟩⟩
 grind
def N4 (op:List Int) (a:Int):Bool:=decide (1<=a/\a<=(op.length:Int))&&op.getD (a - 1).toNat 0==0
theorem Vr (H:aJ D G w0 w (Lo++L)) (b:(xb,lO sb so)∈L) (d:dU eI so op Lo) (i:Int) (hb:i<4611686018427387904):
 ah Ab 161 [ag (ae xb),aa i] w (.bool (N4 op i)):=by
 refine ah.of (s:= .el (.one .bool)) λw' h'=>ai (C:=U0) (aT:=λ_=>[]) (Av (Pw _ _ w' _) ?_);have H:=H.ext h';have g:=d.1;refine⟨λ_=>rfl,λ_=>rfl,aj.lJ H (B1 _ b) (rfl) ⟨λ_=>rfl,λ_=>rfl,aj.lJ H (B1 _ b) (rfl) ?_⟩⟩;dsimp only;rw[g];by_cases c:1<=i/\i<=(op.length:Int)
 ·have j:aY .i64 i 1=i - 1:=bD (by omega) (by omega);have k:op[(i - 1).toNat]? =some (op.getD (i - 1).toNat 0):=by rw[Do,C6 (by omega)];rfl
  have f:=d.sl H (λy l=>Bv _ l) _ _ k;rw[j];refine⟨λ_=>⟨f.1,by omega,by omega⟩,aj.of _ f.2 λm a=>⟨?_,a⟩⟩;unfold N4;rw[decide_eq_true c,decide_eq_true c.2,decide_eq_true (show i>=1 from c.1)];rfl
 ·have e:(!(some (⟨xb,0,none⟩:Ae)).isNone&&decide (i>=1)&&decide (i<=(op.length:Int)))=false:=by
   grind
  rw[e];refine⟨λh=>(by cases h),⟨0,λh=>(by cases h),λm a=>⟨?_,a⟩⟩⟩;unfold N4;rw[decide_eq_false c];rfl
def vq (bx:List (List uc)) (op:List Int) (i:Nat):(uc×Bool×Unit)×List (List uc)×List Int:=match bx[i]? with
 |some (a::q)=>((a,true,()),bx.set i q,op.set (a.1 - 1).toNat (op.getD (a.1 - 1).toNat 0 - 1))
 | _=>(((0,0,0,()),false,()),bx,op)
theorem Rv (H:cM D G w0 w ((xb,lO sb so)::(Lb++(Lo++L))) (qE cs bx++M)) (J:dU eC sb (dF cs) Lb) (m:dU eI so op Lo) (hcb:cs.length=bx.length) (i:Nat) (hi:i<cs.length)
 (V: ∀a q,bx[i]? =some (a::q)->(1<=a.1/\a.1<=(op.length:Int))/\ -1000<=op.getD (a.1 - 1).toNat 0/\op.getD (a.1 - 1).toNat 0<=1000) (XB:(op.length:Int)<4611686018427387904) {K:(Int×Int×Int×Unit)×Bool×Unit->A2->Prop}
 (k: ∀u d f,u.length=cs.length->dF u=dF cs->dU eI so (vq bx op i).2.2 d->cM D G w0 f ((xb,lO sb so)::(Lb++(d++L))) (qE u (vq bx op i).2.1++M)->K (vq bx op i).1 f):
 aD Ab 66 (.bu [.agg [.int .i64,.int .i64,.int .i64],.one .bool]) [ag (ae xb),aa (i:Int)] w K:=by
 refine λw1 h1=>aQ (C:=U0) (aT:=λ_=>[]) (Av (Pu _ _ w1 K) λf W=>?_);have H:=(H.ext h1).ext W;obtain⟨b,hb⟩: ∃b,b=f.heap.size:=⟨_,rfl⟩;have H:=H.join (L':=(b,[aa 0,aa 0,aa 0])::(xb,lO sb so)::(Lb++(Lo++L))) (w1:=f.alloc (.cells ⟨[aa 0,aa 0,aa 0]⟩ 147)) (by rw[hb];exact H.base.again.alloc _ _);rw[<-hb];have X:sb.2.1=cs.length:=by rw[J.1,BL]
 obtain⟨c,hc⟩: ∃c,cs[i]? =some c:=⟨_,C6 hi⟩;obtain⟨q,n⟩: ∃q,bx[i]? =some q:=⟨_,C6 (by omega)⟩;have Y: ∀{x:Nat×List AC},x∈Lb->x∈(b,[aa 0,aa 0,aa 0])::(xb,lO sb so)::(Lb++(Lo++L)):=λh=>B3 _ (B3 _ (Bv _ h));have N:=J.sl H.base (λy z=>Y z) i (some c.1) (by rw[Bs,hc];rfl);refine⟨_,OQ H.base (B3 _ B2) X _,an (by rw[decide_eq_true (by omega)];rfl) ⟨rfl,rfl,aj.bP 1 H.base rfl (show _=some (sb.1,sb.2.1,sb.2.2) from rfl) ⟨⟨N.1,by omega,by dsimp only;omega⟩,aj.of (some c.1) (by dsimp only;rw[DA];exact N.2) λw3 Z=>?_⟩⟩⟩;have H:=H.ext Z;have A:=Cl hc n;have O:(qE cs bx++M)[i]? =some (cO c q):=by rw[Hq (Bx.1 A).1];exact A
 refine⟨c.1,16,q.map Na,c.2.1,c.2.2,rfl,H.get O,λB=>?_,λv vs P=>?_⟩
 ·have B:q=[]:=List.map_eq_nil_iff.1 B;subst B;have e:vq bx op i=(((0,0,0,()),false,()),bx,op):=by unfold vq;rw[n]
  rw[e] at k;intro g E;have H:=H.ext E;have key:=aC.all 0 H.base.again rfl (vs:=[aa 0,aa 0,aa 0]) rfl rfl (K:=λo=>cM D G w0 o ((b,[aa 0,aa 0,aa 0])::(xb,lO sb so)::(Lb++(Lo++L))) (qE cs bx++M)) (λo l=>H.join l) g (Ext.refl g);exact⟨key.1,λp r=>aj.at 0 (key.2.ext r).base rfl (show _=some (0,0,0,()) from rfl) (k cs Lo p rfl rfl m ((key.2.ext r).sub (BN _ _)))⟩
 ·cases q with
  |nil=>cases P
  |cons a q=>
   obtain⟨rfl,rfl⟩:=List.cons.inj P;obtain⟨⟨o1,o2⟩,o3,o4⟩:=V a q n;have e:vq bx op i=((a,true,()),bx.set i q,op.set (a.1 - 1).toNat (op.getD (a.1 - 1).toNat 0 - 1)):=by unfold vq;rw[n]
   rw[e] at k;refine⟨(a.1,a.2.1,a.2.2.1,()),rfl,λg E=>?_⟩;have H:=H.put O (o':= .chan 16 ⟨q.map Na⟩ false c.2.1 (c.2.2+1) false) trivial;have ez:(qE cs bx++M).set i (c.1,.chan 16 ⟨q.map Na⟩ false c.2.1 (c.2.2+1) false)=qE (cs.set i (c.1,c.2.1,c.2.2+1)) (bx.set i q)++M:=by
    rw[Kg _ _ (Bx.1 A).1];congr 1;exact IU (c:=(c.1,c.2.1,c.2.2+1))
   rw[ez] at H;have H:=H.ext E;obtain⟨s,Q⟩: ∃s,s=g.heap.size:=⟨_,rfl⟩;have H:=H.join (L':=(s,[aa 0,aa 0,aa 0])::(b,[aa 0,aa 0,aa 0])::(xb,lO sb so)::(Lb++(Lo++L))) (w1:=g.alloc (.cells ⟨[aa 0,aa 0,aa 0]⟩ 147)) (by rw[Q];exact H.base.again.alloc _ _);rw[<-Q];intro p r;have H:=H.ext r;have key:=aC.all 0 H.base.again rfl (vs:=[aa a.1,aa a.2.1,aa a.2.2.1]) rfl rfl (λo l=>H.join l) p (Ext.refl p);refine⟨key.1,?_⟩;have H:=key.2;have e1:aY .i64 a.1 1=a.1 - 1:=bD (by omega) (by omega);have hx:op[(a.1 - 1).toNat]? =some (op.getD (a.1 - 1).toNat 0):=by rw[Do,C6 (by omega)];rfl
   have acv:=m.1;have F:=m.sl H.base (λy z=>B3 _ (B3 _ (B3 _ (B1 _ (Bv _ z))))) _ _ hx;refine⟨rfl,rfl,aj.bP 2 H.base rfl (show _=some (so.1,so.2.1,so.2.2) from rfl) ⟨rfl,aj.bP 0 H.base rfl (show _=some a.1 from rfl) ?_⟩⟩;dsimp only;rw[e1];refine⟨⟨F.1,by omega,by omega⟩,aj.of _ F.2 ⟨⟨F.1,by omega,by omega⟩,?_⟩⟩;rw[bD (by omega) (by omega)];have Hp:=H.perm (by
    have I:(Lo++(Lb++L)).Perm (Lb++(Lo++L)):=by rw[<-C7, <-C7];exact Fx _ DB
    exact B5.trans (CO _ (B5.trans (CO _ (B5.trans (CO _ I))))))
   refine stM Hp m (i:=(a.1 - 1).toNat) (by omega) (op.getD (a.1 - 1).toNat 0 - 1) rfl rfl λd w6 xy t=>?_;have t:=t.perm (L':=(s,[aa a.1,aa a.2.1,aa a.2.2.1])::(b,[aa 0,aa 0,aa 0])::(xb,lO sb so)::(Lb++(d++L))) (by
    have I:(Lb++(d++L)).Perm (d++(Lb++L)):=by rw[<-C7, <-C7];exact Fx _ DB
    refine List.Perm.symm ?_;exact B5.trans (CO _ (B5.trans (CO _ (B5.trans (CO _ I.symm)))))
    )
   refine aj.at 0 t.base rfl (show _=some (a.1,a.2.1,a.2.2.1,()) from rfl) λR h7=>?_;have S:=t.ext h7;have key:=aC.all 1 S.base.again rfl (vs:=[aa a.1,aa a.2.1,aa a.2.2.1]) rfl rfl (λo l=>S.join l) R (Ext.refl R);refine⟨key.1,λw8 T=>aj.at 1 (key.2.ext T).base rfl (show _=some (a.1,a.2.1,a.2.2.1,()) from rfl) (k (cs.set i (c.1,c.2.1,c.2.2+1)) d w8 (CX ..) ?_ xy ((key.2.ext T).sub ((BN _ _).trans (BN _ _))))⟩;refine Fs λj=>?_;rw[Bs,Bs];by_cases U:i=j
   ·subst U;rw[Db hi,hc];rfl
   ·rw[E4 U]
end
section
variable {D G:List Nat} {w0 w:A2} {L:List (Nat×List AC)} {M:List (Nat×Bp)}
theorem alM (H:cM D G w0 w L M) {cs:List AC} {e:TypeId} {K:Nat->A2->Prop} (k: ∀b w1,cM D G w0 w1 ((b,cs)::L) M->K b w1):aK w ⟨cs⟩ e K:=λw1 h1=>
 k _ _ ((H.ext h1).join ((H.ext h1).base.again.alloc cs e))
theorem We (H:cM D G w0 w L M) (i:Nat) {b n:Nat} {l:List AC} {x:AC} {K:A2->Prop} (a:L[i]? =some (b,l)) (c:x.oneCell'=true) (e:Nat.blt n l.length=true) (k: ∀w1,cM D G w0 w1 (L.set i (b,l.set n x)) M->K w1):aC w (ad (ae b) n) [x] K:=λw1 h1=>
 aC.fb i (H.ext h1).base.again a c (by grind) (λd f=>k d ((H.ext h1).join (by grind))) w1 (Ext.refl w1)
theorem stB (H:cM D G w0 w L M) (i:Nat) {b:Nat} {l vs:List AC} {K:A2->Prop} (a:L[i]? =some (b,l)) (c:vs.all (·.oneCell')=true) (d:vs.length=l.length) (k: ∀w1,cM D G w0 w1 (L.set i (b,vs)) M->K w1):aC w (ae b) vs K:=λw1 h1=>
 aC.all i (H.ext h1).base.again a c d (λe f=>k e ((H.ext h1).join f)) w1 (Ext.refl w1)
theorem enM (H:cM D G w0 w L M) {K:A2->Prop} (k: ∀w1,cM D G w0 w1 L M->K w1):ao w K:=λ_ h=>k _ (H.ext h)
end
section
variable {D G:List Nat} {w0 w:A2} {L Lb Lo:List (Nat×List AC)} {M:List (Nat×Bp)} {sb so:Option Ae×Nat×Nat} {cs:List CR} {bx:List (List uc)} {op:List Int} {xb:Nat}
theorem xm {α:Type} (A B C:List α):(A++(B++C)).Perm (B++(A++C)):=by
 grind[Fx,DB]
theorem GZ (H:cM D G w0 w (Lb++L) M) (v:(xb,lO sb so)∈L) (f:dU eC sb (dF cs) Lb) (i:Nat) (hi:i<cs.length) (U:cs.length<=8) {K:Option Ae×Nat×Nat->A2->Prop}
 (k: ∀r g b,dU eC r ((dF cs).eraseIdx i) g->cM D G w0 b (g++(Lb++L)) M->K r b):
 aD Ab 202 (.el (.one .slice)) [ag (ae xb),aa (i:Int)] w K:=by
 refine λw1 h1=>ai (C:=U0) (aT:=λ_=>[]) (Av (Gm _ _ w1 K) ?_);have H:=H.ext h1;obtain⟨p,n,c⟩:=sb;have V:n=(dF cs).length:=f.1;have W:(dF cs).length=cs.length:=BL _;have hc:(dF cs).length<=c:=f.2.1;have l:aB .i64 (i:Int) 1=((i+1:Nat):Int):=by rw[ax (by omega) (by omega)];omega
 have m:(xb,lO (p,n,c) so)∈Lb++L:=B1 _ v;refine⟨rfl,rfl,aj.lJ H.base m (show _=some (p,n,c) from rfl) ⟨?_,λb A=>?_⟩⟩
 ·dsimp only;omega
 have H:=H.ext A;dsimp only;have X:(Decidable.rec (λ_=>ad p 0) (λ_=>p) (instDecidableEqNat ((c:Int)).toNat 0:Decidable (((c:Int)).toNat=((0:Nat):Int).toNat)):Option Ae)=p:=FM (show((c:Int)).toNat≠0 by omega)▸by
  rcases p with _|a
  ·rfl
  ·rfl
 have Y:((i:Int)).toNat - 0=i:=by omega
 have B:Go.RX.qn b p (i*aG eC) (flat eC ((dF cs).take i)):=by
  have:=f.sub H.base (λy h=>Bv _ h) (lo:=0) (n:=i) (by omega);rw[Nat.zero_mul,List.drop_zero] at this;rcases p with _|a
  ·exact this
  ·have e:ad (some a) 0=some a:=by show some (a.add 0)=some a;rfl
   rw[e] at this;exact this
 have key:=Ho (Ls:=[]) H (dU.nil eC) (show gU eC=true from rfl) (q:=(p,i,(c:Int).toNat - 0)) (ys:=(dF cs).take i) (by rw[Dc,Hy (by omega)]) B (t:=202) (size:=1) (bytes:=8) (z:=⟨[Value.chan none]⟩) rfl rfl (by rw[Jn,Dc];omega)
  (R:=λr b=>(some (⟨xb,0,none⟩:Ae)).isSome=true/\(some (⟨xb,0,none⟩:Ae)).isSome=true/\aj b none (ad (ae xb) 0) (.one .slice) λx=>(0<=aB .i64 (i:Int) 1/\aB .i64 (i:Int) 1<=((x.2.1:Nat):Int)/\((x.2.1:Nat):Int)<=((x.2.2:Nat):Int)/\((x.2.2:Nat):Int)<=((x.2.2:Nat):Int))/\ ∀w1,Ext b w1->
   m7 w1 202 1 8 ⟨[Value.chan none]⟩ (r.1,r.2.1,r.2.2) (Decidable.rec (λ_=>ad x.1 ((aB .i64 (i:Int) 1).toNat*1)) (λ_=>x.1) (instDecidableEqNat ((x.2.2:Nat):Int).toNat (aB .i64 (i:Int) 1).toNat),((x.2.1:Nat):Int).toNat - (aB .i64 (i:Int) 1).toNat,((x.2.2:Nat):Int).toNat - (aB .i64 (i:Int) 1).toNat) λr b=>ao b λw1=>K (r.1,r.2.1,r.2.2) w1) λr g Z E o=>?_
 grind
 ·refine⟨rfl,rfl,aj.lJ o.base (B1 _ m) (show _=some (p,n,c) from rfl) ⟨?_,λF I=>?_⟩⟩
  ·rw[l];dsimp only;omega
  have s:=o.ext I;rw[l];dsimp only;have J:Go.RX.qn F (if((c:Int)).toNat=((i+1:Nat):Int).toNat then p else ad p (((i+1:Nat):Int).toNat*1)) ((((n:Nat):Int).toNat - ((i+1:Nat):Int).toNat)*aG eC) (flat eC ((dF cs).drop (i+1))):=by
   by_cases d:c=i+1
   ·have:(dF cs).drop (i+1)=[]:=List.drop_eq_nil_of_le (by omega);rw[this,az (by omega),show((((n:Nat):Int).toNat - ((i+1:Nat):Int).toNat))=0 by omega];rcases p with _|a
    ·rfl
    ·exact⟨rfl,λj N=>by simp at N⟩
   ·rw[au (by omega)];have:=f.sub s.base (λy h=>B1 _ (Bv _ h)) (lo:=i+1) (n:=(dF cs).length - (i+1)) (by omega);rw[List.take_of_length_le (by rw[Hb];exact Dn _)] at this;rw[show((((n:Nat):Int).toNat - ((i+1:Nat):Int).toNat))=(dF cs).length - (i+1) by omega];exact this
  have O:(Decidable.rec (λ_=>ad p (((i+1:Nat):Int).toNat*1)) (λ_=>p) (instDecidableEqNat ((c:Int)).toNat ((i+1:Nat):Int).toNat):Option Ae)=if((c:Int)).toNat=((i+1:Nat):Int).toNat then p else ad p (((i+1:Nat):Int).toNat*1):=by
   by_cases d:((c:Int)).toNat=((i+1:Nat):Int).toNat
   ·rw[az d,Ou d]
   ·rw[au d,FM d]
  rw[O];refine Ho s E rfl (ys:=(dF cs).drop (i+1)) (by grind) J rfl rfl (by
   rw[LL,Dc,Hb];omega) λr2 P w5 u Q=>λS T=>k _ P S ?_ (Q.ext T)
  rw[JL];rw[LL] at u;exact u
def vg (i j:Nat):Nat:=if j<i then j else j+1
def SQ (i k:Nat):Nat:=if k<i then k else k - 1
def k9 (bx:List (List uc)) (i j:Nat) (a:uc):List (List uc):=bx.zipIdx.map λ(q,k)=>if k≠i/\SQ i k<j then q++[a] else q
theorem qi {bx:List (List uc)} {i j k:Nat} {a:uc} {q:List uc} (h:bx[k]? =some q):(k9 bx i j a)[k]? =some (if k≠i/\SQ i k<j then q++[a] else q):=by grind[k9]
theorem G4 {bx:List (List uc)} {i j:Nat} {a:uc} {q:List uc} (h:bx[vg i j]? =some q):(k9 bx i j a).set (vg i j) (q++[a])=k9 bx i (j+1) a:=by
 have c:vg i j≠i/\SQ i (vg i j)=j:=by unfold vg SQ;grind
 refine Fs λk=>?_;by_cases e:vg i j=k
 ·subst e;rw[Db (by grind[k9,BL,M4]),qi h,az (by grind)]
 ·rw[E4 e];cases b:bx[k]? with
  |none=>
   grind[k9,BL,M4]
  |some d=>
   rw[qi b,qi b];have:(k≠i/\SQ i k<j)<->(k≠i/\SQ i k<j+1):=by
    grind[SQ,vg]
   grind
def vr (bx:List (List uc)) (op:List Int) (n:Nat) (t p:Int):Int×List (List uc)×List Int:=
 if t<1\/t>16\/p< -1\/p>=65536 then(0,bx,op)
 else if(bx.eraseIdx n).any (λq=>q.length==16)=true then(0,bx,op)
 else((op.length:Int)+1,(bx.zipIdx.map λ(q,i)=>if i=n then q else q++[((op.length:Int)+1,t,p,())]),op++[(bx.length:Int) - 1])
theorem LW {bx:List (List uc)} {i:Nat} (hi:i<bx.length) (a:uc):k9 bx i (bx.length - 1) a=bx.zipIdx.map λ(q,k)=>if k=i then q else q++[a]:=by
 refine List.map_congr_left λx b=>?_;obtain⟨q,k⟩:=x;dsimp;by_cases e:k=i
 grind
 ·rw[au e,az (by grind[SQ])]
theorem G5 (bx:List (List uc)) (i:Nat) (a:uc):k9 bx i 0 a=bx:=by
 simp[k9]
theorem B6 {α:Type} (l:List α) (i j:Nat):(l.eraseIdx i)[j]? =l[vg i j]? :=by grind[vg]
theorem Rx (H:cM D G w0 w ((xb,lO sb so)::(Lb++(Lo++L))) (qE cs bx++M)) (hs:dU eC sb (dF cs) Lb) (J:dU eI so op Lo) (hcb:cs.length=bx.length) (i:Nat) (hi:i<cs.length) (hl:cs.length<=8) (XB:(op.length:Int)<=1000000000) (XC: ∀q∈bx,q.length<=16) (t g:Int) {K:Int×Int×Unit->A2->Prop}
 (k: ∀e f o h z,f.length=cs.length->dF f=dF cs->dU eI o (vr bx op i t g).2.2 h->cM D G w0 z ((xb,lO sb o)::(Lb++(h++L))) (qE f (vr bx op i t g).2.1++M)->K ((vr bx op i t g).1,e,()) z):
 aD Ab 157 (.bu [.one (.int .i64),.one (.int .i64)]) [ag (ae xb),aa (i:Int),aa t,aa g] w K:=by
 refine λw1 h1=>ai (C:=U0) (aT:=tG) (Av (Pv _ _ t g w1 K) ?_);have H:=H.ext h1;have hn:sb.2.1=cs.length:=by rw[hs.1,BL]
 refine⟨λ_=>rfl,λ_=>rfl,aj.bP 0 H.base rfl (show _=some (sb.1,sb.2.1,sb.2.2) from rfl) ?_⟩;dsimp only;rw[hn];refine an (by rw[show((cs.length:Int)==0)=false by rw[beq_eq_false_iff_ne];omega];rfl) ⟨_,OQ H.base B2 hn _,an (by rw[decide_eq_true (by omega)];rfl) ?_⟩;by_cases N:t<1\/t>16\/g< -1\/g>=65536
 ·refine aF ?_ (enM H λz H=>?_)
  ·simp only[MQ,decide_eq_true_eq];omega
  ·have e:vr bx op i t g=(0,bx,op):=az N;rw[e] at k;exact k 1 cs so Lo z rfl rfl J H
 refine an ?_ ?_
 ·simp only[Dl,decide_eq_false_iff_not];omega
 have Hp:cM D G w0 w1 (Lb++((xb,lO sb so)::(Lo++L))) (qE cs bx++M):=H.perm B5;refine GZ Hp B2 hs i hi hl λr l z O H=>?_;have hrn:r.2.1=cs.length - 1:=by rw[O.1,Hr,BL,az hi]
 have hxm:(xb,lO sb so)∈l++(Lb++((xb,lO sb so)::(Lo++L))):=B1 _ (B1 _ B2);have aav: ∀j,j<cs.length - 1-> ∃c q,cs[vg i j]? =some c/\bx[vg i j]? =some q/\((dF cs).eraseIdx i)[j]? =some (some c.1):=λj p=>by
  have h2:vg i j<cs.length:=by unfold vg;split<;>omega
  obtain⟨c,hc⟩: ∃c,cs[vg i j]? =some c:=⟨_,C6 h2⟩;obtain⟨q,m⟩: ∃q,bx[vg i j]? =some q:=⟨_,C6 (by omega)⟩;exact⟨c,q,hc,m,by rw[B6,Bs,hc];rfl⟩
 refine⟨λn st u=> ∃j:Nat,j<=cs.length - 1/\n=cs.length - 1 - j/\st.1=(j:Int)/\(∀s q,s<j->(bx.eraseIdx i)[s]? =some q->q.length≠16)/\cM D G w0 u (l++(Lb++((xb,lO sb so)::(Lo++L)))) (qE cs bx++M),⟨cs.length - 1,λu h3=>⟨0,E6 _,rfl,rfl,λs q p=>absurd p (MW _),H.ext h3⟩⟩,?_⟩;clear H Hp;rintro n ⟨P, _⟩ u ⟨j,p,Q,v,R,H⟩;have v:P=(j:Int):=v;subst v Q;dsimp only;rw[hrn];refine ab (λc=>?_) (λc=>?_)
 ·have p:j<cs.length - 1:=by have:=of_decide_eq_true c;omega
  obtain⟨c,q,hc,m,S⟩:=aav j p;have E:=O.sl H.base (λy T=>Bv _ T) j _ S;have u6:=(H.obj _ (Bv _ (Bz (Cl hc m)))).1;refine⟨⟨E.1,by omega,by omega⟩,aj.of (some c.1) (by rw[DA];exact E.2) ⟨q.length,⟨c.1,16,q.map Na,c.2.1,c.2.2,rfl,u6,by rw[BL]⟩,?_⟩⟩;refine ab (λF=>enM H λU H=>?_) (λF U h4=>⟨cs.length - 1 - (j+1),by omega,j+1,by omega,rfl,?_,λs q' V W=>?_,H.ext h4⟩)
  ·have F:q.length=16:=by have:(q.length:Int)=16:=(by simpa using F);omega
   have e:vr bx op i t g=(0,bx,op):=by
    unfold vr;rw[au N,az (Fu.2 ⟨q,Bz (show(bx.eraseIdx i)[j]? =some q by rw[B6];exact m),by simp[F]⟩)]
   rw[e] at k;refine k 3 cs so Lo U rfl rfl J ((H.sub (EY _ _)).perm B5.symm)
  ·rw[ax (by omega) (by omega)];omega
  ·by_cases e:s=j
   ·subst e;rw[B6,m] at W;cases W;have: ¬ (q.length:Int)=16:=by simpa using F
    omega
   ·exact R s q' (by omega) W
 have X:j=cs.length - 1:=by have:=of_decide_eq_false c;omega
 subst X;have wo: ¬ (bx.eraseIdx i).any (λq=>q.length==16)=true:=λc=>by
  obtain⟨q,m,Wf⟩:=Fu.1 c;obtain⟨s,V⟩:=BJ m;have wq:s<(bx.eraseIdx i).length:=(Bx.1 V).1;rw[Hr,az (by omega)] at wq;exact R s q (by omega) V (by simpa using Wf)
 have ep:vr bx op i t g=((op.length:Int)+1,k9 bx i (bx.length - 1) ((op.length:Int)+1,t,g,()),op++[(bx.length:Int) - 1]):=by
  unfold vr;rw[au N,au wo,LW (by omega)]
 rw[ep] at k;refine⟨rfl,rfl,aj.lJ H.base hxm (show _=some (so.1,so.2.1,so.2.2) from rfl) (alM H λb U H w5 h5=>?_)⟩;have H:=H.ext h5;have Y:cM D G w0 w5 (Lo++((b,[aa ((cs.length - 1:Nat):Int)])::(l++(Lb++((xb,lO sb so)::L))))) (qE cs bx++M):=H.perm (by
  refine B5.trans (CO _ ?_);have p1:(Lo++(l++(Lb++((xb,lO sb so)::L)))).Perm (l++(Lo++(Lb++((xb,lO sb so)::L)))):=xm _ _ _;refine p1.trans (Ht _ ?_);have p2:(Lo++(Lb++((xb,lO sb so)::L))).Perm (Lb++(Lo++((xb,lO sb so)::L))):=xm _ _ _;exact p2.trans (Ht _ B5))
 refine Ho Y J rfl (q:=(some ⟨b,0,none⟩,1,1)) (ys:=[((cs.length - 1:Nat):Int)]) rfl (rF (e:=eI) (x:=((cs.length - 1:Nat):Int)) (Y.base.dp _ (B1 _ B2))) rfl rfl (by simp only[HM];omega) λo h w6 Z H=>?_;have ab4:op++[((cs.length - 1:Nat):Int)]=op++[(bx.length:Int) - 1]:=by rw[show((cs.length - 1:Nat):Int)=(bx.length:Int) - 1 by omega]
 rw[ab4] at Z;have H:=(H.sub (Ga (BN _ _) h)).perm (L':=(xb,lO sb so)::(l++(Lb++(h++L)))) (by
  have p2:(l++(Lb++(h++L))).Perm (h++(l++(Lb++L))):=by
   have a1:(Lb++(h++L)).Perm (h++(Lb++L)):=xm _ _ _;have a2:(l++(h++(Lb++L))).Perm (h++(l++(Lb++L))):=xm _ _ _;exact(Ht _ a1).trans a2
  refine(CO _ p2).trans ?_;have a3: ∀(A B C:List (Nat×List AC)) (x:Nat×List AC),(x::(A++(B++(C++L)))).Perm (A++(B++(C++(x::L)))):=λA B C x=>by
   rw[<-C7, <-C7, <-C7, <-C7];exact B5.symm
  exact a3 _ _ _ _)
 refine⟨rfl,rfl,We H 0 rfl rfl rfl λw7 H=>⟨rfl,rfl,aj.bP 0 H.base rfl (show _=some (o.1,o.2.1,o.2.2) from rfl) ?_⟩⟩;have H:cM D G w0 w7 ((xb,lO sb o)::(l++(Lb++(h++L)))) (qE cs bx++M):=H;have aac:(o.2.1:Int)=(op.length:Int)+1:=by
  have:=Z.1;rw[F0,HM] at this;omega
 dsimp only;rw[aac];obtain⟨a,ha⟩: ∃a:uc,a=((op.length:Int)+1,t,g,()):=⟨_,rfl⟩;rw[<-ha] at k;refine⟨λn st u=> ∃(j:Nat) (f:List CR),j<=cs.length - 1/\n=cs.length - 1 - j/\st.1=(j:Int)/\f.length=cs.length/\dF f=dF cs/\cM D G w0 u ((xb,lO sb o)::(l++(Lb++(h++L)))) (qE f (k9 bx i j a)++M),⟨cs.length - 1,λw8 h8=>⟨0,cs,E6 _,rfl,rfl,rfl,rfl,by rw[G5];exact H.ext h8⟩⟩,?_⟩;clear H Y;rintro n ⟨P, _⟩ w8 ⟨j,f,p,Q,v,CJ,Bo,H⟩;have v:P=(j:Int):=v;subst v Q;dsimp only;refine ab (λc=>?_) (λc=>?_)
 ·have p:j<cs.length - 1:=by have:=of_decide_eq_true c;omega
  obtain⟨c,q,hc,m,S⟩:=aav j p;have E:=O.sl H.base (λy T=>B3 _ (Bv _ T)) j _ S;refine⟨⟨E.1,by omega,by omega⟩,aj.of (some c.1) (by rw[DA];exact E.2) λw9 h9=>?_⟩;have H:=H.ext h9;obtain⟨d,I⟩: ∃d,f[vg i j]? =some d:=⟨_,C6 (by rw[CJ];exact(Bx.1 hc).1)⟩;have Z2:d.1=c.1:=by
   have h1:(dF f)[vg i j]? =some (some d.1):=by rw[Bs,I];rfl
   rw[Bo,Bs,hc] at h1;exact(Option.some.inj (Option.some.inj h1)).symm
  have cG:vg i j≠i/\SQ i (vg i j)=j:=by unfold vg SQ;split<;>(first|omega|(constructor<;>(try split)<;>omega))
  have hsq:(k9 bx i j a)[vg i j]? =some q:=by rw[qi m,au λc=>by rw[cG.2] at c;exact Nat.lt_irrefl _ c.2]
  have hz:=Cl I hsq;have hmz:(qE f (k9 bx i j a)++M)[vg i j]? =some (cO d q):=by rw[Hq (Bx.1 hz).1];exact hz
  have Wf:q.length≠16:=R j q p (by rw[B6];exact m);have acw:=XC q (Bz m);refine⟨d.1,16,q.map Na,d.2.1,d.2.2,by rw[Z2],H.get hmz,by rw[BL];omega,?_⟩;have H:=H.put hmz (o':= .chan 16 ⟨(q++[a]).map Na⟩ false (d.2.1+1) d.2.2 false) trivial;have ez:(qE f (k9 bx i j a)++M).set (vg i j) (d.1,.chan 16 ⟨(q++[a]).map Na⟩ false (d.2.1+1) d.2.2 false)=qE (f.set (vg i j) (d.1,d.2.1+1,d.2.2)) (k9 bx i (j+1) a)++M:=by
   rw[Kg _ _ (Bx.1 hz).1, <-G4 m];congr 1;exact IU (c:=(d.1,d.2.1+1,d.2.2))
  rw[ez] at H;have ev:(q.map Na).append [Value.agg ⟨[aa ((op.length:Int)+1),aa t,aa g]⟩]=(q++[a]).map Na:=by
   rw[CN,ha];rfl
  show∀u,Ext (w9.putObj d.1 (.chan 16 ⟨(q.map Na).append _⟩ false (d.2.1+1) d.2.2 false)) u-> _;rw[ev];refine λl5 Hw=>⟨cs.length - 1 - (j+1),by omega,j+1,f.set (vg i j) (d.1,d.2.1+1,d.2.2),by omega,rfl,?_,by rw[CX];exact CJ,?_,H.ext Hw⟩
  ·rw[ax (by omega) (by omega)];omega
  ·rw[<-Bo];refine Fs λy=>?_;rw[Bs,Bs];by_cases ej:vg i j=y
   ·subst ej;rw[Db (Bx.1 I).1,I];rfl
   ·rw[E4 ej]
 ·have X:j=cs.length - 1:=by have:=of_decide_eq_false c;omega
  subst X;refine enM H λw9 H=>k 0 f o h w9 CJ Bo Z ?_;rw[<-hcb];exact H.sub (List.Sublist.cons_cons _ (EY _ _))
theorem Vs (H:cM D G w0 w L M) (n:Int) {K:Option Ae×Int×Unit->A2->Prop} (kb:n<1\/n>8-> ∀w1,cM D G w0 w1 L M->K (none,1,()) w1)
 (t:1<=n->n<=8-> ∀xb cs sb Lb w1,cs.length=n.toNat->dU eC sb (dF cs) Lb->cM D G w0 w1 ((xb,lO sb (none,0,0))::(Lb++L)) (qE cs (BO n.toNat [])++M)->K (some ⟨xb,0,none⟩,0,()) w1):
 aD Ab 85 (.bu [.one .ptr,.one (.int .i64)]) [aa n] w K:=by
 refine λw1 h1=>ai (C:=U0) (aT:=vH) (Av (T2 n w1 K) ?_);have H:=H.ext h1;refine ab (λc=>λk u=>kb (by simpa using c) k (H.ext u)) (λc=>alM H λxb k H=>?_);have l:1<=n/\n<=8:=by
  grind
 obtain⟨m,rfl⟩: ∃m:Nat,n=(m:Int):=⟨n.toNat,by omega⟩;refine⟨λn st d=> ∃(j:Nat) (cs:List CR) (s:Option Ae×Nat×Nat) (Ls:List (Nat×List AC)),j<=m/\n=m - j/\st.1=(j:Int)/\cs.length=j/\dU eC s (dF cs) Ls/\cM D G w0 d (Ls++((xb,lO s (none,0,0))::L)) (qE cs (BO j [])++M),⟨m,λd v=>⟨0,[],(none,0,0),[],E6 _,rfl,rfl,rfl,dU.nil eC,H.ext v⟩⟩,?_⟩;clear H;rintro n ⟨i, _⟩ d ⟨j,cs,s,Ls,y,z,hi,f,p,H⟩;have hi:i=(j:Int):=hi;subst hi z;dsimp only;have A:(xb,lO s (none,0,0))∈Ls++((xb,lO s (none,0,0))::L):=B1 _ B2;refine ab (λc=>?_) (λc=>?_)
 ·have y:j<m:=by have:=of_decide_eq_true c;omega
  refine⟨rfl,rfl,aj.lJ H.base A (show _=some (s.1,s.2.1,s.2.2) from rfl) λg h=>?_⟩;have H:=(H.ext h).alloc (o:= .chan 16 #[] false 0 0 false) trivial;obtain⟨c1,B⟩: ∃c1,c1=g.heap.size:=⟨_,rfl⟩;rw[<-B] at H ⊢;refine alM H λb J H N E=>?_;have H:=(H.ext E).perm (L':=Ls++((b,[.chan (some c1)])::(xb,lO s (none,0,0))::L)) B5;refine Ho H p rfl (q:=(some ⟨b,0,none⟩,1,1)) (ys:=[some c1]) rfl (rF (e:=eC) (x:=some c1) (H.base.dp _ (B1 _ B2))) rfl rfl (by grind) λr a O P H=>⟨rfl,rfl,?_⟩;have H:=(H.sub (Ga (BN _ _) a)).perm (L':=(xb,lO s (none,0,0))::(a++L)) B5.symm;refine We H 0 rfl rfl rfl λQ H R F=>⟨m - (j+1),by omega,j+1,cs++[(c1,0,0)],r,a,by omega,rfl,?_,by rw[F0,f];rfl,?_,?_⟩
  ·rw[ax (by omega) (by omega)];omega
  grind
  ·have I:qE (cs++[(c1,0,0)]) (BO (j+1) [])=qE cs (BO j [])++[cO (c1,0,0) []]:=by
    unfold qE;rw[K1,List.zipWith_append (by rw[f,Cb])];rfl
   rw[I,C7];refine((H.ext F).perm (L':=a++((xb,lO r (none,0,0))::L)) B5).kW ?_;exact B5
 ·have:j=m:=by have:=of_decide_eq_false c;omega
  subst this;refine λg h=>t l.1 l.2 xb cs s Ls g (by rw[DA];exact f) p ?_;rw[DA];exact(H.ext h).perm B5.symm
end
end Go.Proofs.YtlcenllcmeebhaaGreat.Mu
namespace Go.Proofs.YtlcenllcmeebhaaGreat
set_option maxRecDepth 100000
open Go.RX D
def mJ (g:Nat->Option GV):Option Nat:=((Ad 16).find? λi=>(g (i+1)).isNone).map (· +1)
theorem nP {g:Nat->Option GV} {v:Nat}:mJ g=some v<->(1<=v/\v<=16)/\g v=none/\ ∀u,1<=u->u<v->(g u).isSome:=by
 unfold mJ;rw[ND];constructor
 ·rintro⟨i,hi,rfl⟩;rw[M5] at hi;obtain⟨h1,a,b⟩:=hi;rw[CH] at a;refine⟨by omega,by simpa using h1,λu c d=>?_⟩;have:=b (u - 1) (by omega);rw[show u - 1+1=u by omega] at this;simpa using this
 ·rintro⟨h1,a,b⟩;refine⟨v - 1,?_,by omega⟩;rw[M5];refine⟨by rw[show v - 1+1=v by omega,a];rfl,CH.2 (by omega),λj e=>?_⟩;have:=b (j+1) (by omega) (by omega);simpa using this
theorem G6 {g:Nat->Option GV}:mJ g=none<-> ∀u,1<=u->u<=16->(g u).isSome:=by
 unfold mJ;rw[NE,H6];constructor
 ·intro h u b c;have:=h (u - 1) (CH.2 (by omega));rw[show u - 1+1=u by omega] at this;cases a:g u with
  |none=>rw[a] at this;exact absurd rfl this
  |some x=>rfl
 ·intro h i hi e;have:=h (i+1) (by omega) (by have:=CH.1 hi;omega);rw[Option.isNone_iff_eq_none.1 e] at this;cases this
def oY (h:HS):Int:=match mJ h.g with
 |none=>3
 |some v=>rj h.s (v:Int)
def Au (h:HS):Int:=match mJ h.g with
 |none=>0
 |some v=>(v:Int)
def gP (h:HS):HS:=match mJ h.g with
 |none=>h
 |some v=>if rj h.s (v:Int)=0 then{h with s:=iN h.s (v:Int) λ_=>0,g:=bq h.g v (some ⟨eA h.s (v:Int),[]⟩)} else h
theorem nQ (A:Nat->GA) (g:Nat->Option GV):(mo A g).length=17:=by
 unfold mo;rw[BL,List.length_range]
theorem IV (Q:Sys) (X:HX) (A:Nat->GA) (g:Nat->Option GV):(fq Q X A g).length=21:=by
 unfold fq;rw[F0,nQ];rfl
theorem IW {Q:Sys} {X:HX} {A A':Nat->GA} {g g':Nat->Option GV} {v:Nat} (hv:v<17) (h: ∀j,j≠v->A' j=A j/\g' j=g j):(fq Q X A g).set (4+v*1) (ag (kq A' g' v))=fq Q X A' g':=by
 have e:(mo A g).set v (ag (kq A' g' v))=mo A' g':=by
  apply Fs;intro i;by_cases hi:i<17
  ·rw[uU hi];by_cases e:v=i
   ·subst e;rw[Db (by rw[nQ];exact hi)]
   ·rw[E4 e,uU hi];obtain⟨h1,a⟩:=h i (λe'=>e e'.symm);unfold kq;rw[h1,a]
  ·rw[M7 (by rw[CX,nQ];omega),M7 (by rw[nQ];omega)]
 unfold fq;rw[HE _ _ (by show 4<=4+v*1;omega)];rw[<-e];show _++(mo A g).set (4+v*1 - 4) _= _;rw[show 4+v*1 - 4=v by omega]
section
variable {Q:Sys} {X:HX} {D G:List Nat} {w0 w:A2} {h:HS} {L:List (Nat×List AC)} {K:RS->A2->Prop}
theorem abm {A:Nat->GA} (W:CY A h) {v:Nat} (hv:1<=v/\v<=16) (f:h.g v=none) {s':WD} {r:Int} {bg bt bm l ba:Nat} {m la:List AC} {j:A2}
 (H:SM Q D G w0 j s' ((bg,[ag (ae bt),.map (some bm)])::(bt,kF Q (v:Int) r false)::(l,m)::(ba,la)::(X.hb,(fq Q X A h.g).set (4+v*1) (ag (ae bg)))::(X.gb,mw X.ub h.gr.length X.c)::(X.ub,flat eG h.gr++X.rest)::(X.pb,Po.gJ 4 h.po)::(a8 Q A h.g (Ad 17)++L)) ((bm,.map #[] 0)::de A h.g (Ad 17))):
 ji Q X D G w0 j {h with s:=s',g:=bq h.g v (some ⟨r,[]⟩)} L:=by
 have d:=A6 A h.g v ⟨bg,bt,bm,0,[]⟩ (some ⟨r,[]⟩);have n:kq (ox A v ⟨bg,bt,bm,0,[]⟩) (bq h.g v (some ⟨r,[]⟩)) v=some ⟨bg,0,none⟩:=by
  unfold kq;rw[fy,qg]
 refine⟨ox A v ⟨bg,bt,bm,0,[]⟩,⟨λ{i x} a=>?_,λ{i x} a=>?_,W.gl,W.pt,W.gk⟩,?_⟩
 ·have a:bq h.g v (some ⟨r,[]⟩) i=some x:=a;unfold bq at a;by_cases e:i=v
  ·omega
  ·rw[au e] at a;exact W.jg a
 ·have a:bq h.g v (some ⟨r,[]⟩) i=some x:=a;unfold bq at a;unfold ox;by_cases e:i=v
  ·rw[az e] at a ⊢;cases a;exact qw.nil
  ·rw[au e] at a ⊢;exact W.mp a
 ·have k:=IW (Q:=Q) (X:=X) (by omega:v<17) d;rw[n] at k;rw[k] at H;refine((H.sub ((((BN _ _).trans (BN _ _)).cons_cons _).cons_cons _)).perm ?_).kW ?_
  ·have p1:(a8 Q (ox A v ⟨bg,bt,bm,0,[]⟩) (bq h.g v (some ⟨r,[]⟩)) (Ad 17)).Perm ([(bg,[ag (ae bt),.map (some bm)]),(bt,kF Q (v:Int) r false)]++a8 Q A h.g (Ad 17)):=by
    have b:=vW (Q:=Q) (A:=ox A v ⟨bg,bt,bm,0,[]⟩) (by omega:v<17) (fy h.g v (some ⟨r,[]⟩));rw[vX d] at b;have o:=(zl (Q:=Q) (A:=A) (by omega:v<17) f).symm;have e:gO Q (ox A v ⟨bg,bt,bm,0,[]⟩) v ⟨r,[]⟩=[(bg,[ag (ae bt),.map (some bm)]),(bt,kF Q (v:Int) r false)]:=by
     unfold gO;rw[qg]
    rw[e] at b;exact b.trans (o.append_left _)
   refine(((((p1.append_right L).cons _).cons _).cons _).cons _).trans ?_;exact(DB (l₁:=[_, _, _, _]) (l₂:=[_, _])).append_right (a8 Q A h.g (Ad 17)++L)
  ·have b:=lZ (A:=ox A v ⟨bg,bt,bm,0,[]⟩) (by omega:v<17) (fy h.g v (some ⟨r,[]⟩));rw[pE d,qg] at b;exact b.trans ((zk (A:=A) (by omega:v<17) f).symm.cons _)
theorem LX (H:ji Q X D G w0 w h L) (F: ¬ (h.s.1.length:Int)<16*(h.s.2.length:Int)) (v k a b c:Int) (kk: ∀V x,(oY h=0->V=Au h)->ji Q X D G w0 x (gP h) L->K (V,oY h,()) x):
 aE Ab 121 (.el (.agg iI)) [ag (ae X.hb),aa v,.agg ⟨fS k a b c⟩] w K:=by
 obtain⟨A,W,H⟩:=H;obtain⟨I,S,J⟩:=H.call;refine aQ (C:=V0) (aT:=oa) (Av (EG _ v k a b c w K) ?_);refine S.al λba x S=>S.al λM w3 S=>?_;refine⟨λn q w'=>(1<=q.1/\q.1<=17/\(n:Int)=17 - q.1)/\(∀u:Nat,1<=u->(u:Int)<q.1->(h.g u).isSome)/\a_ Q [] I w w' h.s ((M,[ay 0,aa 0])::(ba,fS k a b c)::dV Q X A h (a8 Q A h.g (Ad 17)++L)),⟨16,λN O=>⟨by decide,λu l p=>(by dsimp only at p;omega),S.ext O⟩⟩,?_⟩;clear S;rintro n ⟨q,u⟩ N ⟨⟨P,R,T⟩,r,S⟩;dsimp only at P R T r ⊢;obtain⟨i,hi⟩: ∃i:Nat,q=(i:Int):=⟨q.toNat,by omega⟩;subst hi;rw[show((i:Int)).toNat=i from rfl];refine ab (λd=>?_) (λd=>⟨trivial,S.res (j:=0) rfl 0 3 λt S=>?_⟩)
 ·have d:(i:Int)<=16:=by simpa using d
  have hc:=S.mE (X:=X) (A:=A) (g:=h.g) (B3 _ (B3 _ B2)) (v:=(i:Int)) ⟨by omega,d⟩;rw[show((i:Int)).toNat=i from rfl] at hc;refine⟨rfl,rfl,⟨rfl,by omega,by show(i:Int)<((17:Nat):Int);omega⟩,aj.of _ hc ?_⟩;unfold kq;cases z:h.g i with
  |some y=>
   refine aF rfl λt U=>⟨n - 1,by omega,⟨?_,?_,?_⟩,λu l p=>?_,S.ext U⟩
   ·rw[ax (by omega) (by omega)];omega
   ·rw[ax (by omega) (by omega)];omega
   ·rw[ax (by omega) (by omega)];omega
   ·rw[ax (by omega) (by omega)] at p;by_cases e:u=i
    ·subst e;rw[z];rfl
    ·exact r u l (by omega)
  |none=>
   have m:mJ h.g=some i:=nP.2 ⟨by omega,z,λu l p=>r u l (by omega)⟩;have cE:oY h=rj h.s (i:Int):=by unfold oY;rw[m]
   have Y:Au h=(i:Int):=by unfold Au;rw[m]
   have B:gP h=if rj h.s (i:Int)=0 then{h with s:=iN h.s (i:Int) λ_=>0,g:=bq h.g i (some ⟨eA h.s (i:Int),[]⟩)} else h:=by unfold gP;rw[m]
   have Z:aw .u64 (i:Int)=(i:Int):=dS ⟨by omega,by omega⟩;rw[cE,Y,B] at kk;refine an rfl ⟨rfl,rfl,aj.of _ (S.fG (X:=X) (A:=A) (g:=h.g) (by simp) (n:=0) rfl) ⟨rfl,rfl,aj.of _ (S.fG (X:=X) (A:=A) (g:=h.g) (by simp) (n:=1) rfl) ?_⟩⟩;refine S.new (i:Int) (λe=>absurd e F) (λ_ f t S=>?_) (λ_ f bt t S=>?_)
   ·rw[au f] at kk;refine an (by simpa using f) (S.res (j:=0) rfl _ _ λE S=>kk _ E (λe=>absurd e f) ⟨A,W,J ?_⟩);rw[IL f] at S;exact S.tail.tail
   ·rw[az f,f] at kk;refine aF rfl λE h6=>?_;have H:=((J S).ext h6).alloc (o:= .map #[] 0) trivial;obtain⟨bm,V2⟩: ∃bm,bm=E.heap.size:=⟨_,rfl⟩;rw[<-V2] at H ⊢;obtain⟨G2,S,J2⟩:=H.call;refine S.al λbg w7 S=>⟨rfl,rfl,⟨rfl,by omega,by show(i:Int)<((17:Nat):Int);omega⟩,?_⟩;rw[aR];refine S.BZ 4 rfl rfl (by rw[Nat.blt_eq,IV];omega) λw8 S=>S.res (j:=2) rfl _ _ λw9 S=>kk _ w9 (λ_=>Z) (abm (bg:=bg) (bt:=bt) (bm:=bm) W (by omega) z (J2 S))
 ·have d: ¬ (i:Int)<=16:=by simpa using d
  have m:mJ h.g=none:=G6.2 λu l p=>r u l (by omega);have cE:oY h=3:=by unfold oY;rw[m]
  have B:gP h=h:=by unfold gP;rw[m]
  rw[cE,B] at kk;exact kk _ t (λe=>absurd e (by decide)) ⟨A,W,J S.tail.tail⟩
end
theorem IX (s:WD) (o:Int) (G:Int->Int):(iN s o G).1.length=s.1.length:=by
 unfold iN;dsimp only;split
 ·exact gH _ _ _ _
 ·rfl
theorem tc (s:WD) (o r p:Int):(fi s o r p).1.length=s.1.length:=by
 unfold fi;split
 ·rfl
 ·split
  ·exact xj _ _ _ _ _
  ·exact IX _ _ _
theorem A_: ∀(l:List PT) (s:WD),(jn l s).1.length=s.1.length
 |[],s=>rfl
 |[x],s=>rfl
 |x::y::l,s=>by
  rw[jn];split
  ·rw[A_ (y::l)];exact cF _ _ _
  ·rfl
theorem td (s:WD) (o r:Int) (gone:Bool) (p:Int):(nb s o r gone p).1.length=s.1.length:=by
 unfold nb;split
 ·split
  ·rw[A_];show(dK _ _ _).length= _;rw[cF,tc]
  ·exact tc _ _ _ _
 ·rfl
def xE (h:HS) (v:Int):List TK:=match h.g v.toNat with|some x=>x.tk|none=>[]
def x_ (v:Int) (h:HS):HS:=du h v (z4 ((xE h v).map (·.1))) (MN h v (z4 ((xE h v).map (·.1)))).1 (MN h v (z4 ((xE h v).map (·.1)))).2
def fK (v:Int):Nat->HS->HS
 |0,h=>h
 |n+1,h=>fK v n (x_ v h)
def vt (ds:List DT) (v:Int):Bool:=(gB ds v).any λi=>decide ((qp ds (i:Int)).2.2.1>0)
def uz (v:Int) (x:List DT×Int) (i:Nat):List DT×Int:=if(qp x.1 (i:Int)).1=4 then(dF x.1 (i:Int) (aP 5 v),x.2+1) else x
def BP (ds:List DT) (v:Int):List DT×Int:=(gB ds v).foldl (uz v) (ds,0)
def vu (h:HS) (v:Int):HS where
 s:=((cH h.s (a6 h.g v) false).1,(BP (cH h.s (a6 h.g v) false).2 v).1)
 g:=bq h.g v.toNat none
 gr:=cQ h.gr v
 po:=(Po.cH 4 h.po v).2
def FE (h:HS) (a:Int):Int:=if aW h.g a=true then(if vt h.s.2 a=true then 9 else 0) else 4
def sE (h:HS) (a:Int):HS:=if aW h.g a=true then(if vt h.s.2 a=true then h else vu (fK a (xE h a).length h) a) else h
def Ym (h:HS) (a:Int):Int:=if aW h.g a=true then(if vt h.s.2 a=true then 0 else(BP (cH (fK a (xE h a).length h).s (a6 (fK a (xE h a).length h).g a) false).2 a).2) else 0
theorem LY (gs:List GT) (v:Int):(cQ gs v).length=gs.length:=by unfold cQ;rw[BL]
theorem rU (h:HS) (v p id f w:Int):aW (du h v p id f).g w=aW h.g w:=by
 unfold aW du bq;dsimp only;by_cases e:w.toNat=v.toNat
 ·rw[e,az rfl];cases h.g v.toNat<;>rfl
 ·rw[au e]
theorem G7 (h:HS) (v p id f w:Int):a6 (du h v p id f).g w=a6 h.g w:=by
 unfold a6;rw[rU];unfold du bq;dsimp only;by_cases e:w.toNat=v.toNat
 ·rw[e,az rfl];cases h.g v.toNat<;>rfl
 ·rw[au e]
theorem Eb {h:HS} {v p id f:Int}:xE (du h v p id f) v=(xE h v).filter λt=> !(t.1==p):=by
 unfold xE du bq;dsimp only;rw[az rfl];cases h.g v.toNat<;>rfl
section
variable {Q:Sys} {X:HX} {D G:List Nat} {w0 w:A2} {h:HS} {L:List (Nat×List AC)} {K:RS->A2->Prop}
theorem a_.aaw {s:WD} {L0 rows:List (Nat×List AC)} (S:a_ Q D G w0 w s L0) {e:El} {x:Option Ae×Nat×Nat} {l:List e.T} (a:n5 e rows x l) (b: ∀x∈rows,x∈L0):Sl w e x.1 l:=by
 obtain⟨g1,d,f,g,ca,la,H⟩:=S;exact a.sl H λx c=>B3 _ (B3 _ (B3 _ (B3 _ (b x c))))
theorem Zn {A:Nat->GA} {v:Nat} {x:GV} (hv:v<17) (a:h.g v=some x) (T:List (Nat×List AC)):
 (gO Q A v x++(T++dV Q X A h (a8 Q A h.g ((Ad 17).erase v)++L))).Perm (T++dV Q X A h (a8 Q A h.g (Ad 17)++L)):=by
 have p1:=(vW (Q:=Q) (A:=A) hv a).symm;have p2:=((((p1.append_right L).cons (X.pb,Po.gJ 4 h.po)).cons (X.ub,flat eG h.gr++X.rest)).cons (X.gb,mw X.ub h.gr.length X.c)).cons (X.hb,fq Q X A h.g);refine List.Perm.trans ?_ (p2.append_left T);have e:T++dV Q X A h ((gO Q A v x++a8 Q A h.g ((Ad 17).erase v))++L)=(T++[(X.hb,fq Q X A h.g),(X.gb,mw X.ub h.gr.length X.c),(X.ub,flat eG h.gr++X.rest),(X.pb,Po.gJ 4 h.po)])++(gO Q A v x++(a8 Q A h.g ((Ad 17).erase v)++L)):=by simp
 have b:gO Q A v x++(T++dV Q X A h (a8 Q A h.g ((Ad 17).erase v)++L))=gO Q A v x++((T++[(X.hb,fq Q X A h.g),(X.gb,mw X.ub h.gr.length X.c),(X.ub,flat eG h.gr++X.rest),(X.pb,Po.gJ 4 h.po)])++(a8 Q A h.g ((Ad 17).erase v)++L)):=by simp
 show List.Perm _ (T++dV Q X A h ((gO Q A v x++a8 Q A h.g ((Ad 17).erase v))++L));rw[e,b];exact MO _ _ _
end
theorem Ec (ds:List DT) (v:Int):(gB ds v).length<=ds.length:=by grind[gB]
section
variable {Q:Sys} {X:HX} {D G:List Nat} {w0 w:A2} {h:HS} {L:List (Nat×List AC)} {K:RS->A2->Prop}
theorem abn {A:Nat->GA} (W:CY A h) {v:Nat} {x:GV} (hv:v<17) (a:h.g v=some x) {s':WD} {zB:List GT} {MP:List Po.PT} (d:zB.length=h.gr.length) (n:nY zB) (o:Po.lA 4 MP) {f:A2} {p q r t:Nat×List AC}
 (H:SM Q D G w0 f s' (p::q::r::t::(X.hb,(fq Q X A h.g).set (4+v*1) (ag none))::(X.gb,mw X.ub h.gr.length X.c)::(X.ub,flat eG zB++X.rest)::(X.pb,Po.gJ 4 MP)::(a8 Q A h.g ((Ad 17).erase v)++L)) (de A h.g (Ad 17))):
 ji Q X D G w0 f {s:=s',g:=bq h.g v none,gr:=zB,po:=MP} L:=by
 have b: ∀j,j≠v->A j=A j/\bq h.g v none j=h.g j:=λj u=>⟨rfl,au u⟩;have w:kq A (bq h.g v none) v=none:=by
  unfold kq;rw[fy]
 refine⟨A,⟨λ{i x} a=>?_,λ{i x} a=>?_,d.trans W.gl,o,n⟩,?_⟩
 ·have a:bq h.g v none i=some x:=a;unfold bq at a;by_cases e:i=v
  ·grind
  ·rw[au e] at a;exact W.jg a
 ·have a:bq h.g v _ i=some x:=a;unfold bq at a;by_cases e:i=v
  grind
  ·rw[au e] at a;exact W.mp a
 ·have k:=IW (Q:=Q) (X:=X) hv b;rw[w] at k;rw[k] at H;have H:=((((H.sub (BN _ _)).sub (BN _ _)).sub (BN _ _)).sub (BN _ _));have H:=(H.kW (lZ hv a).symm).Fq (BN _ _);have l:=zl (Q:=Q) (A:=A) hv (fy h.g v _);rw[vX b] at l;have m:=zk (A:=A) hv (fy h.g v none);rw[pE b] at m;refine(H.perm ?_).kW m;show List.Perm ((X.hb,fq Q X A _)::(X.gb,mw X.ub zB.length X.c)::(X.ub,flat eG zB++X.rest)::(X.pb,Po.gJ 4 MP)::(a8 Q A _ _++L)) _;rw[d];exact((((l.append_right L).cons _).cons _).cons _).cons _
theorem Ee {l:List Int} (b:l≠[]) (h: ∀x∈l,x<65536):z4 l∈l:=by
 obtain⟨d,c,a⟩:=yQ l 65536;rcases a with a|a
 ·obtain⟨x,l',rfl⟩:=List.exists_cons_of_ne_nil b;have:=c x
  grind
 ·exact a
theorem G8 (H:ji Q X D G w0 w h L) (v k:Int) {a:Int} (b c:Int) (ha:0<=a) (hF:M_ Q h.s) (MM:aW h.g a=true->0<=a6 h.g a/\a6 h.g a<4096) (Ah: ∀t∈xE h a,t.1<65536)
 (kk: ∀w2,ji Q X D G w0 w2 (sE h a) L->K (Ym h a,FE h a,()) w2):
 aE Ab 122 (.el (.agg iI)) [ag (ae X.hb),aa v,.agg ⟨fS k a b c⟩] w K:=by
 obtain⟨A,W,H⟩:=H;obtain⟨G',S,J⟩:=H.call;refine aQ (C:=V0) (aT:=m6) (Av (CC _ v k a b c w K) ?_);unfold FE Ym sE at kk;refine S.al λba w2 S=>S.al λP w3 S=>⟨rfl,S.cI 1 rfl rfl ⟨_,D6 S (X:=X) (A:=A) (g:=h.g) (by simp) ha,?_⟩⟩;cases N:aW h.g a with
 |false=>
  rw[N,au (by decide),au (by decide),au (by decide)] at kk;exact aF rfl ⟨trivial,S.res (j:=0) rfl 0 4 λw4 S=>kk w4 ⟨A,W,J S.tail.tail⟩⟩
 |true=>
 rw[N,az rfl,az rfl,az rfl] at kk;obtain⟨x,hx,ui,hv,wy,sr⟩:=cg N;have ea:aw .i64 a=a:=bL ⟨ha,by omega⟩;refine an rfl ⟨rfl,S.cI 1 rfl rfl ?_⟩;rw[ea];refine⟨rfl,rfl,aj.of _ (S.fG (X:=X) (A:=A) (g:=h.g) (by simp) (n:=1) rfl) (S.owned a λr rows w4 S z=>?_)⟩;have hlen:(gB h.s.2 a).length<=4096:=I1 (Ec _ _) S.le;obtain⟨xp,xn,xc⟩:=r;have Z0:xn=(gB h.s.2 a).length:=by have:=z.1;rw[BL] at this;exact this
 subst Z0;refine⟨λn q w'=> ∃m:Nat,q.1=(m:Int)/\n+m=(gB h.s.2 a).length/\(∀i,i<m-> ∀f,(gB h.s.2 a)[i]? =some f-> ¬ (qp h.s.2 (f:Int)).2.2.1>0)/\a_ Q [] G' w w' h.s (((P,[ay 0,aa 0])::(ba,fS k a b c)::dV Q X A h (a8 Q A h.g (Ad 17)++L))++rows),⟨(gB h.s.2 a).length,λw5 h5=>⟨0,rfl,rfl,λi hi=>absurd hi (MW i),S.ext h5⟩⟩,?_⟩;clear S;rintro n ⟨q,u⟩ w5 ⟨m,V,ZY,wo,S⟩;dsimp only at V ⊢;subst V;refine ab (λcc=>?_) (λcc=>?_)
 ·have O:m<(gB h.s.2 a).length:=by simpa using cc
  obtain⟨f,Xu⟩: ∃f,f=(gB h.s.2 a)[m]:=⟨_,rfl⟩;have I:(gB h.s.2 a)[m]? =some f:=by rw[Xu];exact C6 O
  have JB:((gB h.s.2 a).map λi=>((i:Nat):Int))[m]? =some ((f:Nat):Int):=by rw[Bs,I];rfl
  have Y:=(S.aaw z (λx hx=>B1 _ hx)) m _ JB;refine⟨⟨Y.1,by omega,by omega⟩,aj.of _ Y.2 ⟨rfl,rfl,aj.of _ (S.fG (X:=X) (A:=A) (g:=h.g) (by simp) (n:=1) rfl) ⟨(qp h.s.2 (f:Int),By h.s.2 (f:Int),()),S.ofq (f:Int),S.al λbd Z S=>S.fe 0 rfl rfl rfl λw7 S=>⟨rfl,S.cI 0 rfl rfl ?_⟩⟩⟩⟩;refine ab (λE=>⟨trivial,S.res (j:=1) rfl 0 9 λw8 S=>?_⟩) (λE=>λw8 h8=>⟨n - 1,by omega,m+1,?_,by omega,λi hi g F=>?_,(S.ext h8).tail⟩)
  ·have E:(qp h.s.2 (f:Int)).2.2.1>0:=by simpa using E
   have hb:vt h.s.2 a=true:=by
    unfold vt;exact Fu.2 ⟨f,Bz I,by simpa using E⟩
   rw[hb,az rfl,az rfl,az rfl] at kk;exact kk w8 ⟨A,W,J ((S.tail.sub (Fv _ _)).tail.tail)⟩
  ·rw[ax (by omega) (by omega)];omega
  ·by_cases e:i=m
   ·subst e;rw[I] at F;cases F;simpa using E
   ·exact wo i (by omega) g F
 have O: ¬ m<(gB h.s.2 a).length:=by simpa using cc
 have hb: ¬ vt h.s.2 a=true:=by
  unfold vt;rw[Fu];rintro⟨f,I,hd⟩;obtain⟨i,hi⟩:=BJ I;have:i<(gB h.s.2 a).length:=(Bx.1 hi).1;exact wo i (by omega) f hi (by simpa using hd)
 rw[au hb,au hb,au hb] at kk;have S:=S.sub (Fv _ rows);clear wo ZY z cc O;obtain⟨g1, _,g3, _⟩:=S.sC (X:=X) (A:=A) (g:=h.g) (by simp) (bX W [_, _]) N;refine⟨rfl,rfl,⟨rfl,by omega,by show a<((17:Nat):Int);omega⟩,aj.of _ g1 ?_⟩;refine⟨λn _ w'=> ∃(B:Nat->GA) (h':HS),fK a n h'=fK a (xE h a).length h/\(xE h' a).length=n/\aW h'.g a=true/\a6 h'.g a=a6 h.g a/\M_ Q h'.s/\(∀t∈xE h' a,t.1<65536)/\(B a.toNat).bg=(A a.toNat).bg/\CY B h'/\SM Q D G w0 w' h'.s ([(P,[ay 0,aa 0]),(ba,fS k a b c)]++dV Q X B h' (a8 Q B h'.g (Ad 17)++L)) (de B h'.g (Ad 17)),⟨(xE h a).length,λZ h6=>⟨A,h,rfl,rfl,N,rfl,hF,Ah,rfl,W,(J S).ext h6⟩⟩,?_⟩;clear S g1 g3 J H;rintro n u Z ⟨B,h',F,hn,wq,SG,ZM,Yn,aax,d,H⟩;obtain⟨x',o,Yo,S3, _, _⟩:=cg wq;have JR:a.toNat<17:=by omega
 have U:xE h' a=x'.tk:=by unfold xE;rw[o]
 rw[<-aax];obtain⟨G2,S,J2⟩:=H.call;have mem:(X.hb,fq Q X B h'.g)∈[(P,[ay 0,aa 0]),(ba,fS k a b c)]++dV Q X B h' (a8 Q B h'.g (Ad 17)++L):=B1 _ B2;obtain⟨_, _,g3, _⟩:=S.sC (X:=X) (A:=B) (g:=h'.g) mem (bX d _) wq;have Ag:bE Z (B a.toNat).bm ⟨(B a.toNat).es⟩ (B a.toNat).ck:=H.get (fA d _ _ o);refine⟨rfl,rfl,aj.of _ g3 ⟨_,⟨_, _, _,rfl,Ag,rfl⟩,?_⟩⟩;have gx:(⟨(B a.toNat).es⟩:Array BK).size=n:=by
  rw[<-hn,U];exact(d.mp o).len
 rw[gx];refine ab (λcc=>?_) (λcc=>?_)
 ·have cc:n>0:=by
   have:(n:Int)>0:=by simpa using cc
   omega
  have z:((B a.toNat).bg,[ag (some ⟨(B a.toNat).bt,0,none⟩),.map (some (B a.toNat).bm)])∈[(P,[ay 0,aa 0]),(ba,fS k a b c)]++dV Q X B h' (a8 Q B h'.g (Ad 17)++L):=bX d _ _ _ o _ B2;have cG:x'.tk.map (·.1)≠[]:=λe=>by
   have:=congrArg E9 e;rw[BL, <-U,hn] at this;simp at this;omega
  have FB:=Ee cG (λy hy=>by
   obtain⟨t,ht,rfl⟩:=B4.1 hy;exact Yn t (by rw[U];exact ht))
  refine LR H z (fA d _ _ o) (d.mp o) λw7 H=>?_;obtain⟨p,hp⟩: ∃p,p=z4 (x'.tk.map (·.1)):=⟨_,rfl⟩;rw[<-hp] at FB ⊢;obtain⟨t,ht,htp⟩:=B4.1 FB;have sk:b_ x'.tk p=some t.2:=(jF (a:=t.2.1) (b:=t.2.2) (d.mp o).2.2.2).2 (by rw[<-htp];exact ht);have hX:MN h' a p=t.2:=by unfold MN;rw[o];dsimp only;rw[sk];rfl
  have Th:x_ a h'=du h' a p t.2.1 t.2.2:=by
   unfold x_;rw[U, <-hp,hX]
  refine Ea d (T:=[(P,[ay 0,aa 0]),(ba,fS k a b c)]) H wq ZM (by rw[SG];exact MM N) o sk λB' w8 hb W'' H=>λw9 h9=>⟨n - 1,by omega,B',du h' a p t.2.1 t.2.2,?_,?_,?_,?_,?_,?_,?_,W'',H.ext h9⟩
  ·rw[<-Th, <-F];obtain⟨m,rfl⟩: ∃m,n=m+1:=⟨n - 1,by omega⟩;rfl
  ·rw[Eb,U];obtain⟨r,I,EX⟩:=(d.mp o).find p;rw[sk] at EX;obtain⟨i, _,hi,hM⟩:=EX;rw[<-hM.len,Hr,az hi];have:=(d.mp o).len;rw[U] at hn;omega
  ·rw[rU];exact wq
  ·rw[G7];exact SG
  ·have e:(du h' a p t.2.1 t.2.2).s.1.length=h'.s.1.length:=td _ _ _ _ _;exact⟨by rw[e];exact ZM.1,by rw[e];exact ZM.2⟩
  ·intro t' pO;rw[Eb] at pO;exact Yn t' (HZ.1 pO).1
  ·rw[hb,aax]
 have S9:n=0:=by
  have: ¬ (n:Int)>0:=by simpa using cc
  omega
 subst S9;have F:h'=fK a (xE h a).length h:=F;rw[<-F] at kk;clear F gx cc g3 S J2 mem Ag hb Yn hn ZM Ah;have ab5:0<=x'.root/\x'.root<4096:=by rw[<-Yo,SG];exact MM N
 rw[Yo] at kk;have H:=H.perm (Zn JR o _);obtain⟨G2,S,J2⟩:=H.call;refine⟨rfl,rfl,aj.of _ (S.fG (X:=X) (A:=B) (g:=h'.g) (Bz (i:=4) rfl) (n:=2) rfl) (S.abf 5 6 rfl rfl (by rw[d.gl];decide) (by rw[d.gl];decide) (by decide) a λn2 w8 S=>⟨rfl,rfl,aj.of _ (S.fG (X:=X) (A:=B) (g:=h'.g) (Bz (i:=4) rfl) (n:=3) rfl) (S.abj 7 rfl d.pt a λw9 S=>⟨rfl,rfl,?_⟩)⟩)⟩;refine S.cI 0 rfl rfl (S.drop 1 rfl ab5 λy abo l5 S _=>?_);have S:=S.sub (Fv _ abo);refine⟨rfl,rfl,aj.of _ (S.fG (X:=X) (A:=B) (g:=h'.g) (Bz (i:=4) rfl) (n:=1) rfl) (S.owned a λr2 N5 mv S z=>?_)⟩;obtain⟨s1,Bq⟩: ∃s1,s1=cH h'.s x'.root false:=⟨_,rfl⟩;have hgo:vu h' a={s:=(s1.1,(BP s1.2 a).1),g:=bq h'.g a.toNat none,gr:=cQ h'.gr a,po:=(Po.cH 4 h'.po a).2}:=by
  unfold vu;rw[Yo, <-Bq]
 rw[<-Bq] at S kk z;rw[hgo] at kk;obtain⟨xp2,xn2,xc2⟩:=r2;have ab6:xn2=(gB s1.2 a).length:=by have:=z.1;rw[BL] at this;exact this
 subst ab6;have Dr:(gB s1.2 a).length<=4096:=I1 (Ec _ _) S.le;obtain⟨l,Hz⟩: ∃l,l=gB s1.2 a:=⟨_,rfl⟩;have Fp:BP s1.2 a=l.foldl (uz a) (s1.2,0):=by unfold BP;rw[Hz]
 rw[<-Hz] at z Dr ⊢;obtain⟨R,hR⟩: ∃R,R=BP s1.2 a:=⟨_,rfl⟩;rw[<-hR] at kk;rw[<-hR] at Fp;obtain⟨RL,hRL⟩: ∃RL:List (Nat×List AC),RL=((B a.toNat).bg,[ag (some ⟨(B a.toNat).bt,0,none⟩),.map (some (B a.toNat).bm)])::((B a.toNat).bt,kF Q ((a.toNat:Nat):Int) x'.root true)::(P,[ay 0,aa 0])::(ba,fS k a b c)::(X.hb,fq Q X B h'.g)::(X.gb,mw X.ub h'.gr.length X.c)::(X.ub,flat eG (cQ h'.gr a)++X.rest)::(X.pb,Po.gJ 4 (Po.cH 4 h'.po a).2)::(a8 Q B h'.g ((Ad 17).erase a.toNat)++L):=⟨_,rfl⟩;have S:a_ Q [] G2 Z mv s1 (RL++N5):=by rw[hRL];exact S
 have aay: ∀{T:List (Nat×List AC)},(X.hb,fq Q X B h'.g)∈RL++T:=λ{T}=>Bv _ (by rw[hRL];exact Bz (i:=4) rfl);refine⟨λn q w'=> ∃(m:Nat) (ds:List DT),q.2.1=(m:Int)/\n+m=l.length/\(0<=q.1/\q.1<=m)/\(l.drop m).foldl (uz a) (ds,q.1)=R/\a_ Q [] G2 Z w' (s1.1,ds) (RL++N5),⟨l.length,λva Tb=>⟨0,s1.2,rfl,rfl,⟨by decide,by decide⟩,Fp.symm,S.ext Tb⟩⟩,?_⟩;clear S;rintro n ⟨cnt,q,u⟩ va ⟨m,ds,V,ZY,hcm,M,S⟩;dsimp only at V hcm M ⊢;subst V;refine ab (λcc=>?_) (λcc=>?_)
 ·have O:m<l.length:=by simpa using cc
  obtain⟨f,Xu⟩: ∃f,f=l[m]:=⟨_,rfl⟩;have I:l[m]? =some f:=by rw[Xu];exact C6 O
  have JB:(l.map λi=>((i:Nat):Int))[m]? =some ((f:Nat):Int):=by rw[Bs,I];rfl
  have Y:=(S.aaw z (λx hx=>B1 _ hx)) m _ JB;rw[JD O, <-Xu,Gi] at M;refine⟨⟨Y.1,by omega,by omega⟩,aj.of _ Y.2 ⟨rfl,rfl,aj.of _ (S.fG (X:=X) (A:=B) (g:=h'.g) aay (n:=1) rfl) ⟨(qp ds (f:Int),By ds (f:Int),()),S.ofq (f:Int),S.al λbd Jy S=>S.fe 0 rfl rfl rfl λJz S=>⟨rfl,S.cI 0 rfl rfl ?_⟩⟩⟩⟩;refine ab (λE=>⟨rfl,rfl,aj.of _ (S.fG (X:=X) (A:=B) (g:=h'.g) (B3 _ aay) (n:=1) rfl) (S.Ty (f:Int) 5 a λXl S=>λSL Wf=>⟨n - 1,by omega,m+1, _,?_,by omega,?_,?_,(S.ext Wf).tail⟩)⟩) (λE=>λSL Wf=>⟨n - 1,by omega,m+1,ds,?_,by omega,?_,?_,(S.ext Wf).tail⟩)
  ·show aB .i64 (m:Int) 1= _;rw[ax (by omega) (by omega)];omega
  ·show 0<=aB .i64 cnt 1/\aB .i64 cnt 1<=((m+1:Nat):Int);rw[ax (by omega) (by omega)];omega
  ·show(l.drop (m+1)).foldl (uz a) (dF ds (f:Int) (aP 5 a),aB .i64 cnt 1)=R;rw[ax (by omega) (by omega), <-M];have d4:(qp ds (f:Int)).1=4:=by simpa using E
   rw[show uz a (ds,cnt) f=if(qp ds (f:Int)).1=4 then(dF ds (f:Int) (aP 5 a),cnt+1) else(ds,cnt) from rfl,az d4]
  ·show aB .i64 (m:Int) 1= _;rw[ax (by omega) (by omega)];omega
  ·show 0<=cnt/\cnt<=((m+1:Nat):Int);omega
  ·show(l.drop (m+1)).foldl (uz a) (ds,cnt)=R;rw[<-M];have d4: ¬ (qp ds (f:Int)).1=4:=by simpa using E
   rw[show uz a (ds,cnt) f=if(qp ds (f:Int)).1=4 then(dF ds (f:Int) (aP 5 a),cnt+1) else(ds,cnt) from rfl,au d4]
 have O: ¬ m<l.length:=by simpa using cc
 rw[List.drop_of_length_le (by omega)] at M;have M:(ds,cnt)=R:=M;rw[<-M] at kk;have S:=S.sub (Fv _ N5);rw[hRL] at S;refine⟨rfl,rfl,⟨rfl,by omega,by show a<((17:Nat):Int);omega⟩,?_⟩;rw[aR];refine S.BZ 4 rfl rfl (by rw[Nat.blt_eq,IV];omega) λJy S=>S.res (j:=2) rfl _ _ λJz S=>?_;rw[dS ⟨by omega,by omega⟩];exact kk Jz (abn d JR o (LY _ _) (d.gk.drop _) (Po.QD d.pt a) (J2 S))
end
def run (h:HS) (v k a b c:Int):HS×Int×Int:=match k.toNat with
 |1=>(gP h,Au h,oY h)
 |2=>(sE h a,Ym h a,FE h a)
 |3=>(jO h v a b,xJ h v a b)
 |4=>(qx h v a,BM h v a)
 |5=>(jT h v a b,0,oW h v a b)
 |6=>(h,HY h v a)
 |7=>(j_ h v a b,0,rJ h v a)
 |8=>(iy h v a b c,yn h v a b c)
 |9=>(jo h v a b c,0,ng h v a b c)
 |10=>(gW h v a,0,oX h v a)
 |11=>(fM h v a,0,Ck h v a)
 |12=>(lQ h v a,HV h v a)
 |13=>(lR h v a b,HW h v a b)
 |14=>(lP h v a,0,NZ h v a)
 |15=>(N3 h v,N2 h v,0)
 |16=>(iX h v a,0,FW h v a)
 | _=>(bC h (dH h.s h.s.2.length).1,((dH h.s h.s.2.length).2:Int),0)
def iU (h:HS) (v k a b c:Int):Int:=
 if(decide (v<0)||decide (v>16)|| !iw k a b c)=true then 1 else if(!(v==0)==ux k)=true then 7 else if(decide (v>0)&& !aW h.g v)=true then 4 else 0
def sd (h:HS) (v k a b c:Int):Int:=if iU h v k a b c=0 then(run h v k a b c).2.2 else iU h v k a b c
def xF (h:HS) (v k a b c:Int):Int:=if iU h v k a b c=0 then(if(run h v k a b c).2.2=0 then(run h v k a b c).2.1 else 0) else 0
def kN (h:HS) (v k a b c:Int):HS:=if iU h v k a b c=0 then(run h v k a b c).1 else h
structure BQ (Q:Sys) (h:HS):Prop where
 Nb:M_ Q h.s
 sz:16*h.s.2.length<=h.s.1.length
 rr: ∀v,aW h.g v=true->0<=a6 h.g v/\a6 h.g v<4096
 pg: ∀v, ∀t∈xE h v,t.1<65536
 new: ∀v a b c, ∀x,h.g v.toNat=some x->aW h.g v=true->lK h.s (a6 h.g v) false b (lB h a).1 (wz c)=0->b_ x.tk b=none
section
variable {Q:Sys} {X:HX} {D G:List Nat} {w0 w:A2} {h:HS} {L T:List (Nat×List AC)}
theorem IY (A:Nat->GA) (h:HS):(dV Q X A h (a8 Q A h.g (Ad 17)++(T++L))).Perm (T++dV Q X A h (a8 Q A h.g (Ad 17)++L)):=by
 have a:dV Q X A h (a8 Q A h.g (Ad 17)++(T++L))=(dV Q X A h (a8 Q A h.g (Ad 17)))++(T++L):=by simp
 have b:T++dV Q X A h (a8 Q A h.g (Ad 17)++L)=T++(dV Q X A h (a8 Q A h.g (Ad 17))++L):=by simp
 rw[a,b];exact MO _ _ _
theorem ji.of {A:Nat->GA} (W:CY A h) (H:SM Q D G w0 w h.s (T++dV Q X A h (a8 Q A h.g (Ad 17)++L)) (de A h.g (Ad 17))):ji Q X D G w0 w h (T++L):=
 ⟨A,W,H.perm (IY A h)⟩
theorem ji.to (H:ji Q X D G w0 w h (T++L)): ∃A,CY A h/\SM Q D G w0 w h.s (T++dV Q X A h (a8 Q A h.g (Ad 17)++L)) (de A h.g (Ad 17)):=by
 obtain⟨A,W,H⟩:=H;exact⟨A,W,H.perm (IY A h).symm⟩
def lL (k:Int):Nat:=([121,122,124,125,126,127,128,129,130,131,132,133,134,135,136,137,123]:List Nat).getD (k - 1).toNat 0
theorem dN (H:ji Q X D G w0 w h L) (R:BQ Q h) {v k a b c:Int} (m:1<=k/\k<=17) (i:ux k=false->aW h.g v=true) (f:0<=a/\a<18446744073709551616) (hb:0<=b/\b<18446744073709551616) (hc:0<=c/\c<18446744073709551616) {K:RS->A2->Prop}
 (kk: ∀V d,((run h v k a b c).2.2=0->V=(run h v k a b c).2.1)->ji Q X D G w0 d (run h v k a b c).1 L->K (V,(run h v k a b c).2.2,()) d):
 aE Ab (lL k) (.el (.agg iI)) [ag (ae X.hb),aa v,.agg ⟨fS k a b c⟩] w K:=by
 have:k=1\/k=2\/k=3\/k=4\/k=5\/k=6\/k=7\/k=8\/k=9\/k=10\/k=11\/k=12\/k=13\/k=14\/k=15\/k=16\/k=17:=by omega
 rcases this with rfl|rfl|rfl|rfl|rfl|rfl|rfl|rfl|rfl|rfl|rfl|rfl|rfl|rfl|rfl|rfl|rfl
 ·exact LX H (by have:=R.sz;omega) v 1 a b c λV d j H=>kk V d j H
 ·exact G8 H v 2 b c f.1 R.Nb (R.rr a) (R.pg a) λd H=>kk _ d (λ_=>rfl) H
 ·exact LO H (i rfl) 3 c f.1 hb.1 λd H=>kk _ d (λ_=>rfl) H
 ·exact GX H (i rfl) R.Nb (R.rr v (i rfl)) 4 b c f.1 λd H=>kk _ d (λ_=>rfl) H
 ·exact GW H (i rfl) 5 c f.1 hb.1 λd H=>kk _ d (λ_=>rfl) H
 ·exact Vo H v 6 b c f.1 λd H=>kk _ d (λ_=>rfl) H
 ·exact Rq H v 7 c f.1 hb λd H=>kk _ d (λ_=>rfl) H
 ·exact Ro H v 8 f.1 hb.1 hc.1 λd H=>kk _ d (λ_=>rfl) H
 ·exact Vq H (i rfl) 9 f.1 hb.1 hc.1 (λx l e=>R.new v a b c x l (i rfl) e) λd H=>kk _ d (λ_=>rfl) H
 ·exact Vp H (i rfl) R.Nb (R.rr v (i rfl)) 10 b c f.1 λd H=>kk _ d (λ_=>rfl) H
 ·exact LK H v 11 b c f.1 λd H=>kk _ d (λ_=>rfl) H
 ·exact Vm H v 12 b c f.1 λd H=>kk _ d (λ_=>rfl) H
 ·exact Vn H v 13 c f.1 hb.1 λd H=>kk _ d (λ_=>rfl) H
 ·exact Vk H v 14 b c f.1 λd H=>kk _ d (λ_=>rfl) H
 ·exact Vl H v 15 a b c λd H=>kk _ d (λ_=>rfl) H
 ·exact Rl H v 16 b c f.1 λd H=>kk _ d (λ_=>rfl) H
 ·exact Rs H v 17 a b c λd H=>kk _ d (λ_=>rfl) H
end
def oM (k:Int) (b:Nat):BK:={key:=aa k,val:= .func (.func (lL k)) #[] #[],born:=b}
def cX:Array BK:=⟨[oM 1 0,oM 2 1,oM 17 2,oM 3 3,oM 4 4,oM 5 5,oM 6 6,oM 7 7,oM 8 8,oM 9 9,oM 10 10,oM 11 11,oM 12 12,oM 13 13,oM 14 14,oM 15 15,oM 16 16]⟩
section
variable {D G:List Nat} {w0 w:A2} {L:List (Nat×List AC)} {M:List (Nat×Bp)}
theorem LZ (H:cM D G w0 w L M) {K:Option Nat->A2->Prop} (k: ∀r a,cM D G w0 a L ((r,.map cX 17)::M)->K (some r) a):aD Ab 78 (.el (.one .map)) [] w K:=by
 refine λw1 h1=>ai (C:=V0) (aT:=λ_=>[]) (Av (Lv w1 K) ?_);have H:=H.ext h1;intro b c;have H:=(H.ext c).alloc (o:= .map #[] 0) trivial;refine gz H (by kernel_rfl) λf H=>?_;refine gz H (by kernel_rfl) λg H=>?_;refine gz H (by kernel_rfl) λh H=>?_;refine gz H (by kernel_rfl) λi H=>?_;refine gz H (by kernel_rfl) λj H=>?_;refine gz H (by kernel_rfl) λl H=>?_;refine gz H (by kernel_rfl) λm H=>?_;refine gz H (by kernel_rfl) λn H=>?_;refine gz H (by kernel_rfl) λp H=>?_;refine gz H (by kernel_rfl) λq H=>?_;refine gz H (by kernel_rfl) λs H=>?_;refine gz H (by kernel_rfl) λt H=>?_;refine gz H (by kernel_rfl) λu H=>?_;refine gz H (by kernel_rfl) λv H=>?_;refine gz H (by kernel_rfl) λx H=>?_;refine gz H (by kernel_rfl) λy H=>?_;refine gz H (by kernel_rfl) λz H=>?_;exact λd e=>k b.heap.size d ((H.ext e).WI (by kernel_rfl))
theorem CG {k:Int} (a:1<=k/\k<=17):bK Ab (lL k)=true:=by
 have:k=1\/k=2\/k=3\/k=4\/k=5\/k=6\/k=7\/k=8\/k=9\/k=10\/k=11\/k=12\/k=13\/k=14\/k=15\/k=16\/k=17:=by omega
 rcases this with rfl|rfl|rfl|rfl|rfl|rfl|rfl|rfl|rfl|rfl|rfl|rfl|rfl|rfl|rfl|rfl|rfl
 ·exact(by kernel_rfl:bK Ab (lL 1)=true)
 ·exact(by kernel_rfl:bK Ab (lL 2)=true)
 ·exact(by kernel_rfl:bK Ab (lL 3)=true)
 ·exact(by kernel_rfl:bK Ab (lL 4)=true)
 ·exact(by kernel_rfl:bK Ab (lL 5)=true)
 ·exact(by kernel_rfl:bK Ab (lL 6)=true)
 ·exact(by kernel_rfl:bK Ab (lL 7)=true)
 ·exact(by kernel_rfl:bK Ab (lL 8)=true)
 ·exact(by kernel_rfl:bK Ab (lL 9)=true)
 ·exact(by kernel_rfl:bK Ab (lL 10)=true)
 ·exact(by kernel_rfl:bK Ab (lL 11)=true)
 ·exact(by kernel_rfl:bK Ab (lL 12)=true)
 ·exact(by kernel_rfl:bK Ab (lL 13)=true)
 ·exact(by kernel_rfl:bK Ab (lL 14)=true)
 ·exact(by kernel_rfl:bK Ab (lL 15)=true)
 ·exact(by kernel_rfl:bK Ab (lL 16)=true)
 ·exact(by kernel_rfl:bK Ab (lL 17)=true)
theorem vY {r:Nat} (h:bE w r cX 17) {k:Int} (a:1<=k/\k<=17):jP w (some r) .i64 k Value.nilFunc (.func (.func (lL k)) #[] #[]):=by
 have:k=1\/k=2\/k=3\/k=4\/k=5\/k=6\/k=7\/k=8\/k=9\/k=10\/k=11\/k=12\/k=13\/k=14\/k=15\/k=16\/k=17:=by omega
 rcases this with rfl|rfl|rfl|rfl|rfl|rfl|rfl|rfl|rfl|rfl|rfl|rfl|rfl|rfl|rfl|rfl|rfl
 ·exact⟨r,cX,17,rfl,h,rfl⟩
 ·exact⟨r,cX,17,rfl,h,rfl⟩
 ·exact⟨r,cX,17,rfl,h,rfl⟩
 ·exact⟨r,cX,17,rfl,h,rfl⟩
 ·exact⟨r,cX,17,rfl,h,rfl⟩
 ·exact⟨r,cX,17,rfl,h,rfl⟩
 ·exact⟨r,cX,17,rfl,h,rfl⟩
 ·exact⟨r,cX,17,rfl,h,rfl⟩
 ·exact⟨r,cX,17,rfl,h,rfl⟩
 ·exact⟨r,cX,17,rfl,h,rfl⟩
 ·exact⟨r,cX,17,rfl,h,rfl⟩
 ·exact⟨r,cX,17,rfl,h,rfl⟩
 ·exact⟨r,cX,17,rfl,h,rfl⟩
 ·exact⟨r,cX,17,rfl,h,rfl⟩
 ·exact⟨r,cX,17,rfl,h,rfl⟩
 ·exact⟨r,cX,17,rfl,h,rfl⟩
 ·exact⟨r,cX,17,rfl,h,rfl⟩
end
section
variable {Q:Sys} {X:HX} {D G:List Nat} {w0 w:A2} {s:WD} {h:HS} {L L0:List (Nat×List AC)} {M:List (Nat×Bp)} {K:RS->A2->Prop}
theorem SM.OR (H:SM Q D G w0 w s L0 M) {K:Option Nat->A2->Prop} (k: ∀r e,SM Q D G w0 e s L0 ((r,.map cX 17)::M)->K (some r) e):aD Ab 78 (.el (.one .map)) [] w K:=by
 obtain⟨a,b,c,d,ca,la,H⟩:=H;exact LZ H λr e H=>k r e ⟨a,b,c,d,ca,la,H⟩
theorem FX (S:a_ Q D G w0 w s L0) {j j1 b c:Nat} {l:List AC} {g h:AC} (i:L0[j]? =some (b,l)) (m:L0[j1]? =some (c,[g,h])) (n:j≠j1) (o:l.length=2) (V E:Int)
 (kk: ∀a,a_ Q D G w0 a s ((L0.set j (b,[ay V,aa E])).set j1 (c,[ay (if E=0 then V else 0),aa E]))->K (if E=0 then V else 0,E,()) a):
 aC w (ae b) [ay V,aa E] λ(a:A2)=>true=true/\aj a none (ad (ae b) 1) (.one (.int .i64)) λ(x:Int)=>
  aL (x != 0)
   (true=true/\aj a none (ad (ae b) 1) (.one (.int .i64)) λ(x:Int)=>True/\
    aC a (ae c) [ay 0,aa x] λ(a:A2)=>ao a λ(w1:A2)=>aj w1 none (ae c) (.agg [.int .u64,.int .i64]) λ(x:Int×Int×Unit)=>K (x.1,x.2.1,()) w1)
   (aj a none (ae b) (.agg [.int .u64,.int .i64]) λ(x:Int×Int×Unit)=>
    aC a (ae c) [ay x.1,aa x.2.1] λ(a:A2)=>ao a λ(w1:A2)=>aj w1 none (ae c) (.agg [.int .u64,.int .i64]) λ(x:Int×Int×Unit)=>K (x.1,x.2.1,()) w1):=by
 have p:j<L0.length:=(Bx.1 i).1;refine S.fe j i rfl o.symm λa S=>?_;have d:(L0.set j (b,[ay V,aa E]))[j]? =some (b,[ay V,aa E]):=Db p;have k:(L0.set j (b,[ay V,aa E]))[j1]? =some (c,[g,h]):=by rw[E4 n];exact m
 refine⟨rfl,S.cI j d (show _=some E from rfl) ?_⟩;refine ab (λe=>?_) (λe=>?_)
 ·have e: ¬ E=0:=by simpa using e
  rw[au e] at kk;exact⟨rfl,S.cI j d (show _=some E from rfl) ⟨trivial,S.res k 0 E λf S=>kk f S⟩⟩
 ·have e:E=0:=by simpa using e
  rw[az e] at kk;exact S.ld j d (show _=some (V,E,()) from rfl) (S.res k V E λf S=>kk f S)
theorem Zo {a:Nat} {sh:Sh} {args:List AC} {w:A2} {K:sh.T->A2->Prop} (hc:bK Ab a=true) (b: ∀w1,Ext w w1->aE Ab a sh args w1 K):wR Ab (.func (.func a) #[] #[]) sh args w K:=by
 unfold wR;refine λw1 h1=>⟨a, #[], #[],rfl,hc,?_⟩;have e:cY #[] args #[]=args:=by unfold cY;simp
 rw[e];exact b w1 h1
theorem Zp (H:ji Q X D G w0 w h L) (R:BQ Q h) (v k:Int) {a b c:Int} (U:0<=a/\a<18446744073709551616) (hb:0<=b/\b<18446744073709551616) (hc:0<=c/\c<18446744073709551616)
 (kk: ∀o,ji Q X D G w0 o (kN h v k a b c) L->K (xF h v k a b c,sd h v k a b c,()) o):
 aE Ab 42 (.el (.agg iI)) [ag (ae X.hb),aa v,.agg ⟨fS k a b c⟩] w K:=by
 obtain⟨A,W,H⟩:=H;obtain⟨Y,S,J⟩:=H.call;refine aQ (C:=V1) (aT:=λ_=>[]) (Av (Zg _ v k a b c w K) ?_);unfold sd xF kN at kk;refine S.al λba o S=>S.al λZ w3 S=>⟨_,mQ S (X:=X) (A:=A) (g:=h.g) (by simp),an rfl ?_⟩;have B: ∀e,e≠0->iU h v k a b c=e-> ∀{o:A2} {x:List AC},a_ Q [] Y w o h.s ((Z,x)::(ba,fS k a b c)::dV Q X A h (a8 Q A h.g (Ad 17)++L))->K (0,e,()) o:=λe E h1 o x S=>by
  rw[h1,au E,au E,au E] at kk;exact kk o ⟨A,W,J S.tail.tail⟩
 have l:iU h v k a b c=if(decide (v<0)||decide (v>16)|| !iw k a b c)=true then 1 else if(!(v==0)==ux k)=true then 7 else if(decide (v>0)&& !aW h.g v)=true then 4 else 0:=rfl;refine S.ld 1 rfl (show _=some (k,a,b,c,()) from rfl) ⟨iw k a b c,λ_=>DQ k a b c,?_⟩;refine ab (λd=>⟨trivial,S.res (j:=0) rfl 0 1 λm S=>?_⟩) (λd=>⟨rfl,S.cI 1 rfl rfl ⟨ux k,GC k,?_⟩⟩)
 ·rw[az d] at l;exact B 1 (by decide) l S
 rw[au (by rw[d];decide)] at l;simp only[Dl,decide_eq_false_iff_not,Bool.not_eq_false'] at d;obtain⟨⟨dv0,dv1⟩,F⟩:=d;refine ab (λd=>⟨trivial,S.res (j:=0) rfl 0 7 λm S=>?_⟩) (λd=>⟨aW h.g v,λ_=>pX S (X:=X) (A:=A) (g:=h.g) (by simp) v,?_⟩)
 ·rw[az d] at l;exact B 7 (by decide) l S
 rw[au (by rw[d];decide)] at l;have I:=d;refine ab (λd=>⟨trivial,S.res (j:=0) rfl 0 4 λm S=>?_⟩) (λd=>⟨rfl,S.cI 1 rfl rfl (S.ld 1 rfl (show _=some (k,a,b,c,()) from rfl) ?_)⟩)
 ·rw[az d] at l;exact B 4 (by decide) l S
 rw[au (by rw[d];decide)] at l;rw[l,az rfl,az rfl,az rfl] at kk;have y:1<=k/\k<=17:=by
  unfold iw at F;rw[E5,decide_eq_true_eq] at F;have d1:=F.1;unfold jR at d1;by_cases e:1<=k/\k<=17
  ·exact e
  ·rw[au e] at d1;exact absurd d1 (by decide)
 have hl:ux k=false->aW h.g v=true:=λe=>by
  rw[e] at I;have Xt:v≠0:=by
   intro e0;rw[e0] at I;exact absurd I (by decide)
  have:decide (v>0)=true:=decide_eq_true (by omega);rw[this,GS] at d;simpa using d
 have call: ∀{T:List (Nat×List AC)} {m:A2} {M:RS->A2->Prop},SM Q D G w0 m h.s (T++dV Q X A h (a8 Q A h.g (Ad 17)++L)) (de A h.g (Ad 17))->
  (∀V p f,((run h v k a b c).2.2=0->V=(run h v k a b c).2.1)->CY f (run h v k a b c).1->SM Q D G w0 p (run h v k a b c).1.s (T++dV Q X f (run h v k a b c).1 (a8 Q f (run h v k a b c).1.g (Ad 17)++L)) (de f (run h v k a b c).1.g (Ad 17))->M (V,(run h v k a b c).2.2,()) p)->
  wR Ab (.func (.func (lL k)) #[] #[]) (.el (.agg iI)) [ag (ae X.hb),aa v,.agg ⟨fS k a b c⟩] m M:=λ{T m M} H kk2=>by
  refine Zo (CG y) λp h5=>?_;refine dN (ji.of W (H.ext h5)) R y hl U hb hc λV z n H=>?_;obtain⟨f,q,H⟩:=ji.to H;exact kk2 V z f n q H
 have fin: ∀{V:Int},((run h v k a b c).2.2=0->V=(run h v k a b c).2.1)->(if(run h v k a b c).2.2=0 then V else 0)=if(run h v k a b c).2.2=0 then(run h v k a b c).2.1 else 0:=λ{V} n=>by
  by_cases e:(run h v k a b c).2.2=0
  ·rw[az e,az e,n e]
  ·rw[au e,au e]
 refine⟨?_,?_⟩
 ·refine(J S).OR λr m H=>?_;have N:bE m r cX 17:=H.get B2;have H:=H.Fq (BN _ _);obtain⟨G2,S,O⟩:=H.call;refine⟨dI (S.get (i:=1) rfl) rfl,?_,trivial, _,vY N y,?_,?_⟩
  ·rw[aR];exact dI (S.get (i:=1) rfl) rfl
  ·refine call (T:=[_, _]) H λV p f n q H=>?_;obtain⟨G3,S,t⟩:=H.call;refine S.al λP z S=>FX S (j:=0) (j1:=1) rfl rfl (by decide) rfl V _ λu S=>?_;rw[fin n];exact kk u ⟨f,q,t S.tail.tail.tail⟩
  ·refine S.al λP p S=>call (T:=[_, _, _]) (O S) λV z f n q H=>?_;obtain⟨G3,S,t⟩:=H.call;refine FX S (j:=0) (j1:=1) rfl rfl (by decide) rfl V _ λu S=>?_;rw[fin n];exact kk u ⟨f,q,t S.tail.tail.tail⟩
 ·refine S.al λP m S=>(J S).OR λr p H=>?_;have N:bE p r cX 17:=H.get B2;have H:=H.Fq (BN _ _);obtain⟨G2,S,O⟩:=H.call;refine⟨dI (S.get (i:=2) rfl) rfl,?_,trivial, _,vY N y,?_⟩
  ·rw[aR];exact dI (S.get (i:=2) rfl) rfl
  ·refine call (T:=[_, _, _]) H λV z f n q H=>?_;obtain⟨G3,S,t⟩:=H.call;refine FX S (j:=0) (j1:=1) rfl rfl (by decide) rfl V _ λu S=>?_;rw[fin n];exact kk u ⟨f,q,t S.tail.tail.tail⟩
end
open Po (tv JA NV FR Hv w_ rS NW)
section
variable {w0:A2} {Q:Sys} {X:HX} {A:Nat->GA} {g:Nat->Option GV} {gs:List GT} {po:List Po.PT}
structure HBl (w0:A2) (Q:Sys) (X:HX) (A:Nat->GA) (g:Nat->Option GV) (gs:List GT) (po:List Po.PT):Prop where
 hb:bM w0 X.hb (fq Q X A g)
 gb:bM w0 X.gb (mw X.ub gs.length X.c)
 gr:bM w0 X.ub (flat eG gs++X.rest)
 pb:bM w0 X.pb (Po.gJ 4 po)
 gl:gs.length=16
 gk:nY gs
 pt:Po.lA 4 po
end
section
variable {Q:Sys} {X:HX} {D G:List Nat} {w0 w:A2} {h:HS} {L:List (Nat×List AC)}
end
end Go.Proofs.YtlcenllcmeebhaaGreat
namespace Go.Proofs.YtlcenllcmeebhaaGreat.Po
set_option maxRecDepth 100000
open Go.RX
def k0:List PT:=BO 512 zP
theorem Ry {room:Int} (h1:1<=room) (a:room<=32):lA room k0 where
 len:=Cb
 lo:=h1
 hi:=a
 inv g i h:=by
  refine .inl ?_;unfold gp k0;rw[Do,List.getElem?_replicate];split<;>rfl
theorem L3 (n:Int) (w:A2) (a:Option Ae×Int×Unit->A2->Prop):(aN R1 (λ_=>[]) 74 [aa n] w a)=(
 aL (decide (n<1)||decide (n>32)) (ao w (a (none,1,()))) (aK w ⟨gJ n k0⟩ 221 λb c=>ao c (a (some ⟨b,0,none⟩,0,())))):=by kernel_rfl
section
variable {D G:List Nat} {w0 w:A2} {L:List (Nat×List AC)}
theorem Rz (H:aJ D G w0 w L) (n:Int) {K:Option Ae×Int×Unit->A2->Prop} (hb:n<1\/n>32-> ∀w1,aJ D G w0 w1 L->K (none,1,()) w1)
 (d:1<=n->n<=32-> ∀bp w1,aJ D G w0 w1 ((bp,gJ n k0)::L)->K (some ⟨bp,0,none⟩,0,()) w1):
 aD Ab 74 (.bu [.one .ptr,.one (.int .i64)]) [aa n] w K:=by
 refine aD.go H λw1 H=>ai (C:=R1) (aT:=λ_=>[]) (Av (L3 n w1 K) ?_);refine ab (λc=>?_) (λc=>?_)
 ·exact ao.go H λa H=>hb (by simp at c;omega) a H
 ·refine aK.go H λb a H=>ao.go H λe H=>d (by simp at c;omega) (by simp at c;omega) b e H
end
end Go.Proofs.YtlcenllcmeebhaaGreat.Po
namespace Go.Proofs.YtlcenllcmeebhaaGreat
set_option maxRecDepth 100000
open Go.RX D
def h0 (n:Nat):HS:={s:=fresh (16*n) n,g:=λ_=>none,gr:=BO 16 zG,po:=Po.k0}
section
variable {D G:List Nat} {w0 w:A2} {L:List (Nat×List AC)}
theorem Vt (H:aJ D G w0 w L) (n:Int) {K:Option Ae×Int×Unit->A2->Prop} (kb:n<4\/n>4096-> ∀w1,aJ D G w0 w1 L->K (none,1,()) w1)
 (A:4<=n->n<=4096-> ∀Q X w1,Q.c=16*n.toNat->ji Q X D G w0 w1 (h0 n.toNat) L->K (some ⟨X.hb,0,none⟩,0,()) w1):
 aD Ab 40 (.bu [.one .ptr,.one (.int .i64)]) [aa n] w K:=by
 refine aD.go H λw1 H=>ai (C:=V0) (aT:=λ_=>[]) (Av (Vc n w1 K) ?_);refine ab (λc=>ao.go H λp H=>kb (by simpa using c) p H) (λc=>?_);have q:4<=n/\n<=4096:=by
  simp only[Dl,decide_eq_false_iff_not] at c;omega
 obtain⟨m,rfl⟩: ∃m:Nat,n=(m:Int):=⟨n.toNat,by omega⟩;have e:ir .i64 16 (m:Int)=((16*m:Nat):Int):=by rw[eo (by omega) (by omega)];omega
 rw[e];refine aK.go H λb p H=>?_;refine wY (n:=16*m) H (by omega) λbm bw B H=>⟨rfl,rfl,?_⟩;generalize r:BO (16*m) (0:Int)=W at H;refine aC.fb 2 H rfl rfl rfl λE H=>?_;refine Ce H (m:Int) (λhb=>by omega) λ_ _ bp bf F H=>⟨rfl,rfl,?_⟩;rw[show((m:Int)).toNat=m from rfl] at H;generalize s:BO m zD=DS at H;refine aC.fb 4 H rfl rfl rfl λI H=>?_;refine Uv H 16 (by decide) λgb gr J H=>⟨rfl,rfl,?_⟩;obtain⟨t,u⟩: ∃t,t=BO 16 zG:=⟨_,rfl⟩;rw[<-u] at H;refine aC.fb 6 H rfl rfl rfl λM H=>?_;refine Po.Rz H 4 (λhb=>by omega) λ_ _ pb N H=>⟨rfl,rfl,?_⟩;obtain⟨v,y⟩: ∃v,v=Po.k0:=⟨_,rfl⟩;rw[<-y] at H;refine aC.fb 7 H rfl rfl rfl λO H=>ao.go H λz H=>?_;refine A q.1 q.2 ⟨bm,bw,bf,bp,16*m,m,[],[]⟩ ⟨b,gb,gr,pb,16,[]⟩ z rfl ⟨λ_=>⟨0,0,0,0,[]⟩,⟨λh=>(by cases h),λh=>(by cases h),rfl,Po.Ry (by decide) (by decide),nY.new 16⟩,SM.of ⟨?_,?_,?_,?_,0,0,?_⟩⟩
 ·show 0<(BO (16*m) (0:Int)).length;rw[Cb];omega
 ·show 0<(BO m zD).length;rw[Cb];omega
 ·show(BO m zD).length<=4096;rw[Cb];omega
 ·intro x o;have o:x∈BO (16*m) (0:Int):=o;rw[List.eq_of_mem_replicate o];decide
 ·unfold Sys.L;show aJ D G w0 z ((bm,iP bw (BO (16*m) (0:Int)).length (16*m) 0 0)::(bw,flat eW (BO (16*m) (0:Int))++[])::(bf,flat eD (BO m zD)++[])::(bp,[.slice (ae bf) (BO m zD).length m])::(b,fq _ _ (λ_=>⟨0,0,0,0,[]⟩) λ_=>none)::(gb,mw gr (BO 16 zG).length 16)::(gr,flat eG (BO 16 zG)++[])::(pb,Po.gJ 4 Po.k0)::([]++L));rw[r,s, <-u, <-y,show W.length=16*m by rw[<-r,Cb],show DS.length=m by rw[<-s,Cb]];refine H.perm ?_;have p1: ∀(x1 a d f g j k l:Nat×List AC),([j,k,g,f,l,a,d,x1]++L).Perm ([x1,a,d,f,g,j,k,l]++L):=λx1 a d f g j k l=>by
   refine Fx L ?_;exact(show([5,6,4,3,7,1,2,0]:List Nat).Perm [0,1,2,3,4,5,6,7] by decide).map λi=>([x1,a,d,f,g,j,k,l]:List (Nat×List AC)).getD i x1
  exact p1 _ _ _ _ _ _ _ _
end
section
variable {D G:List Nat} {w0 w w1:A2} {L L0 Ls:List (Nat×List AC)}
theorem cM.WO {M1 M2 M1':List (Nat×Bp)} {L':List (Nat×List AC)} (H:cM D G w0 w L (M1++M2)) (K:cM [] (L.map (·.1)++M1.map (·.1)) w w1 L' M1'):cM D G w0 w1 L' (M1'++M2):=by
 have f:=H.nd;rw[CN,EU] at f;have g: ∀x∈L.map (·.1)++M1.map (·.1),w0.heap.size<=x\/x∈G:=λx c=>by
  rcases CP.1 c with c|c
  ·obtain⟨y,d,rfl⟩:=B4.1 c;exact H.base.own y d
  ·obtain⟨y,d,rfl⟩:=B4.1 c;exact H.own y (Bv _ d)
 have h: ∀x,w.heap.size<=x\/x∈L.map (·.1)++M1.map (·.1)->w0.heap.size<=x\/x∈G:=λx c=>by
  rcases c with c|c
  ·exact .inl (I1 H.base.fr.size c)
  ·exact g x c
 have i: ∀r∈D,r∉L.map (·.1)++M1.map (·.1):=λr j c=>by
  rcases CP.1 c with c|c
  ·obtain⟨y,d,e⟩:=B4.1 c;exact aJ.da (H.base.dp y d) (H.base.pM r j).2 (λ_ _ _ hc=>by cases hc) e
  ·obtain⟨y,d,e⟩:=B4.1 c;exact H.nD y (Bv _ d) (by rw[e];exact j)
 have k: ∀y∈M2,y.1∉L.map (·.1)++M1.map (·.1):=λy d c=>by
  rcases CP.1 c with c|c
  ·obtain⟨x,c,e⟩:=B4.1 c;exact H.FL c (B1 _ d) e
  ·exact f.2.2 _ c _ (B4.2 ⟨y,d,rfl⟩) rfl
 have l: ∀y∈M2,y.1<w.heap.size:=λy d=>(NA.1 (H.obj y (B1 _ d)).1).1;refine⟨H.base.frame K.base.fr g i K.base.dp (λx c=>h _ (K.base.own x c)) K.base.nd,λx c=>?_,λx c=>?_,?_,λx c=>?_⟩
 ·rcases CP.1 c with c|c
  ·exact K.obj x c
  ·obtain⟨n,o⟩:=H.obj x (B1 _ c);exact⟨by rw[K.base.fr.block x.1 (l x c) (k x c)];exact n,o⟩
 ·rcases CP.1 c with c|c
  ·exact h _ (K.own x c)
  ·exact H.own x (B1 _ c)
 ·rw[CN,EU];refine⟨K.nd,f.2.1,λa p b hb e=>?_⟩;subst e;obtain⟨x,c,rfl⟩:=B4.1 p;obtain⟨y,d,e⟩:=B4.1 hb;rcases K.own x c with q|q
  ·have:=l y d;omega
  ·exact k y d (by rw[e];exact q)
 ·rcases CP.1 c with c|c
  ·intro m;rcases K.own x c with q|q
   ·have:=(NA.1 (H.base.pM _ m).2).1;omega
   ·exact i _ m q
  ·exact H.nD x (B1 _ c)
theorem cM.OS {M1 M2:List (Nat×Bp)} (H:cM D G w0 w L (M1++M2)):cM [] (L.map (·.1)++M1.map (·.1)) w w L M1:=by
 have b:=H.nd;rw[CN,EU] at b;exact⟨⟨Fr.refl _ w,H.base.dp,λx a=> .inr (Bv _ (B4.2 ⟨x,a,rfl⟩)),H.base.nd,λx a=>(by cases a)⟩,λx a=>H.obj x (Bv _ a),λx a=> .inr (B1 _ (B4.2 ⟨x,a,rfl⟩)),b.1,λx a=>List.not_mem_nil⟩
end
end Go.Proofs.YtlcenllcmeebhaaGreat
