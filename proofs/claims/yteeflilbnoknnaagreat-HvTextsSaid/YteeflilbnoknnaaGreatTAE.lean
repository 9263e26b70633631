import Derived.Test.YteeflilbnoknnaaGreatTAD
/-! What the statement leans on: texts joined and shortened by a program of mine. -/
set_option linter.unusedVariables false
set_option linter.unusedSimpArgs false
open Go renaming World->A1,Value->A9,Addr->B2,MapEntry->B4
open Go.Proofs.Tryz renaming prog->A2
open List renaming range->A3,mem_cons_self->AC,getElem?_set_ne->AX,getElem?_set_self->B1,mem_cons_of_mem->B3,getElem?_eq_some_iff->B5,replicate->BA,getElem?_of_mem->Bb,mem_map->Bc,mem_range->Bd,sublist_cons_self->Bg,length_set->Bp,mem_of_getElem?->Bq,length_map->Br,mem_append_right->C7,getD_eq_getElem?_getD->DA,getElem?_map->DB,map_append->DS,length_cons->Di,map_cons->E4,flatMap_cons->E5,length_replicate->EA,mem_cons->EE,foldl_cons->EH,getElem?_eq_getElem->Eo,nodup_cons->Es,perm_cons_erase->Et,filter_cons->Ev,sublist_append_left->Ey,mem_flatMap->H2,perm_middle->H4,length->H5,find?_eq_none->H6,filter_eq_self->H7,mem_append_left->H9,getElem?_append_right->HB,perm_append_comm->HH,set_append_right->HL,mem_singleton->Ho,nodup_nil->Hq,find?_some->Hr,mem_of_find?_eq_some->Ht,getElem?_inj->Hu,findIdx?_eq_some_iff_getElem->Hz,drop_eq_getElem_cons->I1,filter_cons_of_neg->I2,filter_sublist->I_,sublist_append_right->IG,length_append->IR,countP_eq_length_filter->Ia,find?_range_eq_some->Ib,length_range->Ic,ext_getElem?->Ih,getElem?_eq_none->In,perm_append_comm_assoc->Ix,exists_cons_of_ne_nil->J3,any_eq_true->K1,mem_filter->K2,getElem?_replicate->L7,sum_append->L9,countP_pos_iff->L_,countP_cons->LL
open Eq renaming mpr->A_
open Int.ofNat renaming inj->Bo
open Bool renaming or_eq_false_iff->Dn,and_eq_true->EB,true_and->FS,and_eq_false_iff->HO,or_eq_true->HP,not_eq_true'->HQ
open Nat renaming le_refl->Do,eq_zero_or_pos->EF,lt_succ_self->HT,le_trans->Hb
open List.Perm renaming refl->ED,flatMap_right->GS
open Go.Instr renaming findNow->Gi
open Option renaming map_eq_some_iff->Hc,map_eq_none_iff->LZ
open Array renaming contains_push->Hf
namespace Go.Proofs.YteeflilbnoknnaaGreat
set_option maxRecDepth 100000
open Go.RX D
def Rt (g:Gh):Prop:= ∀f o x,g f=some (o,3,x)->x=0
theorem Rt.eK {g g':Gh} (h:Rt g) (k:kx g g'):Rt g':=λf o x e=>h f o x ((k _ _ _).1 e)
def WZ:Nat->Int->Int
 |0,x=>x
 |n+1,x=>WZ n x / 16
theorem DV {ws:List Int} {l:Nat} {f z:Int}:z∈(A3 16).flatMap (lR ws l f)<-> ∃i:Nat,i<16/\ ∃m,l=m+1/\dv (az ws (16*f+(i:Int)))=true/\z∈cA ws m (az ws (16*f+(i:Int))).2.2.2.1:=by
 rw[H2];constructor
 ·rintro⟨i,hi,h⟩;rw[Bd] at hi;cases l with
  |zero=>cases h
  |succ m=>
   unfold lR at h;dsimp only at h;split at h
   ·rename_i a;exact⟨i,hi,m,rfl,a,h⟩
   ·cases h
 ·rintro⟨i,hi,m,rfl,a,h⟩;refine⟨i,Bd.2 hi,?_⟩;unfold lR;dsimp only;rw[ax a];exact h
theorem w_ (x:Int): ∀l:List Int,(iS x l).Perm (x::l)
 |[]=> .refl _
 |y::l=>by
  rw[iS];split
  ·exact((w_ x l).cons y).trans (.swap _ _ _)
  ·exact .refl _
theorem xd: ∀(l a:List Int),(l.foldl (λa x=>iS x a) a).Perm (l++a)
 |[],a=> .refl _
 |x::l,a=>by
  rw[EH];exact(xd l (iS x a)).trans (((w_ x a).append_left l).trans H4)
theorem CJ (l:List Int):(pq l).Perm l:=by
 unfold pq;have:=xd l [];rw[List.append_nil] at this;exact(List.reverse_perm _).trans this
theorem Lo (o:Int) (h:1<=o/\o<=16): ¬ (aE 5 0 (5,o,0,0,())).2=0:=by
 have a:cj 5 o 0 0=true:=by unfold cj fb;simp;omega
 show ¬ dM 5 o 0 0 5 0=0;unfold dM;rw[a,ao (by decide),ao (by decide),ao (by decide)];decide
theorem xe {o:Int} (c:1<=o/\o<=16): ∀(l:List Int) (ds:List DT),(∀f∈l,0<=f/\(ds[f.toNat]? =some (3,o,0,0,())\/ds[f.toNat]? =some (5,o,0,0,())))->
 (l.foldl (λds f=>fC ds f (aE 5 0)) ds).length=ds.length/\ ∀n:Nat,((n:Int)∈l->(l.foldl (λds f=>fC ds f (aE 5 0)) ds)[n]? =some (5,o,0,0,()))/\((n:Int)∉l->(l.foldl (λds f=>fC ds f (aE 5 0)) ds)[n]? =ds[n]?)
 |[],ds, _=>⟨rfl,λn=>⟨λh=>(by cases h),λ_=>rfl⟩⟩
 |f::l,ds,h=>by
  obtain⟨m,a⟩:=h f AC;have p:f.toNat<ds.length:=by
   rcases a with h|h<;>exact(B5.1 h).1
  have q:(fC ds f (aE 5 0)).length=ds.length/\(fC ds f (aE 5 0))[f.toNat]? =some (5,o,0,0,())/\ ∀n:Nat,n≠f.toNat->(fC ds f (aE 5 0))[n]? =ds[n]? :=by
   rw[oh ⟨m,by omega⟩,DA];rcases a with a|a
   ·rw[a];show((if(aE 5 0 (3,o,0,0,())).2=0 then ds.set f.toNat (aE 5 0 (3,o,0,0,())).1 else ds).length= _)/\(if(aE 5 0 (3,o,0,0,())).2=0 then ds.set f.toNat (aE 5 0 (3,o,0,0,())).1 else ds)[f.toNat]? = _/\ ∀n:Nat,n≠f.toNat->(if(aE 5 0 (3,o,0,0,())).2=0 then ds.set f.toNat (aE 5 0 (3,o,0,0,())).1 else ds)[n]? = _;rw[Ar c,ax rfl];exact⟨Bp,B1 p,λn i=>AX (λe=>i e.symm)⟩
   ·rw[a];show((if(aE 5 0 (5,o,0,0,())).2=0 then ds.set f.toNat (aE 5 0 (5,o,0,0,())).1 else ds).length= _)/\(if(aE 5 0 (5,o,0,0,())).2=0 then ds.set f.toNat (aE 5 0 (5,o,0,0,())).1 else ds)[f.toNat]? = _/\ ∀n:Nat,n≠f.toNat->(if(aE 5 0 (5,o,0,0,())).2=0 then ds.set f.toNat (aE 5 0 (5,o,0,0,())).1 else ds)[n]? = _;rw[ao (Lo o c)];exact⟨rfl,a,λn i=>rfl⟩
  rw[EH];obtain⟨r,j,k⟩:=q;obtain⟨s,d⟩:=xe c l (fC ds f (aE 5 0)) (λx t=>by
   obtain⟨u,v⟩:=h x (B3 _ t);refine⟨u,?_⟩;by_cases e:x.toNat=f.toNat
   ·rw[e];exact .inr j
   ·rw[k _ e];exact v)
  refine⟨s.trans r,λn=>⟨λb=>?_,λb=>?_⟩⟩
  ·by_cases g:(n:Int)∈l
   ·exact(d n).1 g
   ·rw[(d n).2 g];have:(n:Int)=f:=(EE.1 b).resolve_right g;have e:n=f.toNat:=by omega
    rw[e];exact j
  ·rw[(d n).2 (λh=>b (B3 _ h)),k n (λe=>b (by
   have:(n:Int)=f:=by omega
   rw[this];exact AC))]
def EK (g:Gh) (o:Int):Gh:=λf=>match g f with
 |some v=>if v.1=o then none else some v
 |none=>none
theorem cM {g:Gh} {o f:Int} {v:Int×Nat×Int}:EK g o f=some v<->g f=some v/\v.1≠o:=by
 unfold EK;cases a:g f with
 |none=>simp
 |some u=>
  dsimp only;by_cases e:u.1=o
  ·rw[ax e];constructor
   ·intro h;cases h
   ·rintro⟨h,h2⟩;cases h;exact absurd e h2
  ·rw[ao e];constructor
   ·intro h;cases h;exact⟨rfl,e⟩
   ·rintro⟨h, _⟩;exact h
namespace Inv
variable {g:Gh} {s:WD}
theorem Lq (I:Inv g s): ∀(l:Nat) {f o x:Int},g f=some (o,l,x)-> ∀z∈cA s.1 l f, ∃l' b n,l'+n=l/\g z=some (o,l',b)/\WZ n b=x:=by
 intro l
 induction l with
 |zero=>
  intro f o x c z a;rw[cA,Ho] at a;subst a;exact⟨0,x,0,rfl,c,rfl⟩
 |succ l d=>
  intro f o x c z a;rw[jb] at a;rcases EE.1 a with rfl|a
  ·exact⟨l+1,x,0,rfl,c,rfl⟩
  ·obtain⟨i,hi,m,q,e,h⟩:=DV.1 a;have:m=l:=by omega
   subst this;obtain⟨j,r,h2⟩:=I.oG c (by omega) (by omega) e;have:j=m:=by omega
   subst this;obtain⟨l',b,n,t,k,p⟩:=d h2 z h;refine⟨l',b,n+1,by omega,k,?_⟩;show WZ n b / 16=x;rw[p];omega
theorem Av (I:Inv g s) (c:Rt g) {r o:Int} (d:g r=some (o,3,0)): ∀(n:Nat) {l:Nat} {f x:Int},l+n=3->g f=some (o,l,x)-> ∀z∈cA s.1 l f,z∈cA s.1 3 r
 |0,l,f,x,h,a,z,b=>by
  have:l=3:=by omega
  subst this;have:x=0:=c _ _ _ a;subst this;rw[I.inj a d] at b;exact b
 |n+1,l,f,x,h,a,z,b=>by
  obtain⟨f',i,h2⟩:=I.A4 a (by omega);obtain⟨j,k, _⟩:=I.sS a;refine I.Av c d n (l:=l+1) (by omega) i z ?_;rw[jb];refine B3 _ (DV.2 ⟨(x % 16).toNat,by omega,l,rfl,?_⟩);have e:(((x % 16).toNat:Nat):Int)=x % 16:=by omega
  rw[e,h2];exact⟨dy ⟨j,k⟩,b⟩
theorem Gs (I:Inv g s) (b:Rt g) {r o:Int} (a:g r=some (o,3,0)) (z:Int):z∈cA s.1 3 r<-> ∃l x,g z=some (o,l,x):=by
 constructor
 ·intro h;obtain⟨l',c,n, _,h2, _⟩:=I.Lq 3 a z h;exact⟨l',c,h2⟩
 ·rintro⟨l,x,h⟩;have d:=(I.kd h).2.2.2.2.2;exact I.Av b a (3 - l) (by omega) h z (by rw[jb];exact AC)
theorem dropped (I:Inv g s) (y:Rt g) {r o:Int} (A:g r=some (o,3,0)):
 Inv (EK g o) (bY s r false)/\Rt (EK g o)/\(bY s r false).1=s.1/\(bY s r false).2.length=s.2.length/\
  ∀n:Nat,((∃l x,g (n:Int)=some (o,l,x))->(bY s r false).2[n]? =some (5,o,0,0,()))/\((¬ ∃l x,g (n:Int)=some (o,l,x))->(bY s r false).2[n]? =s.2[n]?):=by
 have B: ¬ (false=true):=by decide
 have F:bY s r false=(s.1,(kv s r false).foldl (λds f=>fC ds f (aE 5 0)) s.2):=ao B;have G:kv s r false=pq (cA s.1 3 r):=ao B;have t: ∀z,z∈kv s r false<-> ∃l x,g z=some (o,l,x):=λz=>by
  rw[G,(CJ _).mem_iff];exact I.Gs y A z
 have C:=(I.kd A).2.2.2;obtain⟨t1,t2⟩:=xe ⟨C.1,C.2.1⟩ (kv s r false) s.2 (λf H=>by
  obtain⟨l,x,h⟩:=(t f).1 H;obtain⟨a1,D,u, _⟩:=I.kd h;exact⟨a1,.inl u⟩)
 rw[F];generalize U:(kv s r false).foldl (λds f=>fC ds f (aE 5 0)) s.2=ds at t1 t2;have w: ∀n:Nat,(∃l x,g (n:Int)=some (o,l,x))->ds[n]? =some (5,o,0,0,()):=λn h=>(t2 n).1 ((t _).2 h);have q: ∀n:Nat,(¬ ∃l x,g (n:Int)=some (o,l,x))->ds[n]? =s.2[n]? :=λn h=>(t2 n).2 (λJ=>h ((t _).1 J));refine⟨?_,λf o' x h=>y f o' x (cM.1 h).1,rfl,t1,λn=>⟨w n,q n⟩⟩;refine⟨?_,?_,?_,?_,?_,?_,?_,?_,?_,?_⟩
 ·show 16*ds.length<=s.1.length;rw[t1];exact I.len
 ·show ds.length<=4096;rw[t1];exact I.le
 ·intro d K h0;obtain⟨n,i⟩:=Bb K;have i:ds[n]? =some d:=i;by_cases h: ∃l x,g (n:Int)=some (o,l,x)
  ·rw[w n h] at i;cases i;cases h0
  ·rw[q n h] at i;exact I.fz d (Bq i) h0
 ·intro f o' l x h;obtain⟨h,j⟩:=cM.1 h;obtain⟨a1,D,u,L⟩:=I.kd h;show _/\f<(ds.length:Int)/\ds[f.toNat]? = _/\ _;rw[t1];refine⟨a1,D,?_,L⟩;rw[q f.toNat ?_]
  ·exact u
  ·rintro⟨l',V,h'⟩;rw[show((f.toNat:Nat):Int)=f from by omega,h] at h';cases h';exact j rfl
 ·intro a b v M hb;exact I.inj (cM.1 M).1 (cM.1 hb).1
 ·intro f o' l x k h h0 p N;obtain⟨h,j⟩:=cM.1 h;obtain⟨m,O,P⟩:=I.oG h h0 p N;exact⟨m,O,cM.2 ⟨P,j⟩⟩
 ·intro f o' l x k h h0 p;exact I.leaf (cM.1 h).1 h0 p
 ·intro f o' l x h Q;obtain⟨h,j⟩:=cM.1 h;obtain⟨f',R,S⟩:=I.A4 h Q;exact⟨f',cM.2 ⟨R,j⟩,S⟩
 ·intro f o' l x k h h0 p T;exact I.wf (cM.1 h).1 h0 p T
 ·intro n d i E;have i:ds[n]? =some d:=i;by_cases h: ∃l x,g (n:Int)=some (o,l,x)
  ·rw[w n h] at i;cases i;cases E
  ·rw[q n h] at i;obtain⟨v,hv⟩:=I.tb i E;refine⟨v,cM.2 ⟨hv,λe=>h ?_⟩⟩;obtain⟨a,b,c⟩:=v;have e:a=o:=e;subst e;exact⟨b,c,hv⟩
end Inv
set_option maxRecDepth 100000
open Go.RX D
theorem Of {s:WD} {o r pg lv:Int} {e:ET} (h: ¬ jV s r pg lv=0):oV s o r pg lv e=s:=ao h
theorem DW {s:WD} {o r:Int} {gone:Bool} {pg f rt:Int} (h: ¬ iw s r gone pg f rt=0):ik s o r gone pg f rt=s:=by
 unfold iw at h;unfold ik;cases gone with
 |true=>rw[ax rfl]
 |false=>
  have a: ¬ (false=true):=by decide
  rw[ao a] at h ⊢;by_cases c:jX pg f rt=0
  ·rw[ax c] at h ⊢;exact Of h
  ·rw[ao c]
theorem Og {s:WD} {o r pg:Int} (h: ¬ jY s o r pg=0):ew s o r pg=s:=by
 unfold jY at h;unfold ew;by_cases c:(dh s.1 r pg).2.1=0
 ·rw[ax c]
 ·rw[ao c] at h ⊢;rw[ao h,DR h]
theorem Oh {s:WD} {o r:Int} {gone:Bool} {pg rt:Int} (h: ¬ Bt s o r gone pg rt=0):n6 s o r gone pg rt=s:=by
 unfold Bt at h;unfold n6;cases gone with
 |true=>rw[ax rfl]
 |false=>
  have a: ¬ (false=true):=by decide
  rw[ao a] at h ⊢;by_cases c:jX pg 0 rt=0
  ·rw[ax c] at h ⊢;by_cases d:(cK s.1 r pg).1=true
   ·rw[ax d] at h ⊢;by_cases e:((cK s.1 r pg).2.2.1&&(cK s.1 r pg).2.1==rt)=true
    ·rw[ax e]
    ·rw[ao e] at h ⊢;rw[ao h,Og h]
   ·rw[ao d]
  ·rw[ao c]
namespace Inv
variable {g:Gh} {s:WD}
end Inv
set_option maxRecDepth 100000
open Go.RX D
structure SM (Q:Sys) (D G:List Nat) (w0 w:A1) (s:WD) (L0:List (Nat×List A9)) (M:List (Nat×Obj)):Prop where
 pos:0<s.1.length
 zw:0<s.2.length
 le:s.2.length<=4096
 P5:okW s.1
 kn: ∃ca la,gW D G w0 w (Q.L ca la s L0) M
section
variable {Q:Sys} {D G:List Nat} {w0 w w1:A1} {s:WD} {L0 L1:List (Nat×List A9)} {M M1:List (Nat×Obj)}
namespace SM
theorem ext (H:SM Q D G w0 w s L0 M) (h:Ext w w1):SM Q D G w0 w1 s L0 M:=by
 obtain⟨a,b,c,d,ca,la,k⟩:=H;exact⟨a,b,c,d,ca,la,k.ext h⟩
theorem base (H:SM Q D G w0 w s L0 M):a7 Q D G w0 w s L0:=by
 obtain⟨a,b,c,d,ca,la,k⟩:=H;exact⟨a,b,c,d,ca,la,k.base⟩
theorem of (S:a7 Q D G w0 w s L0):SM Q D G w0 w s L0 []:=by
 obtain⟨a,b,c,d,ca,la,k⟩:=S;exact⟨a,b,c,d,ca,la,gW.of k⟩
theorem call (H:SM Q D G w0 w s L0 M): ∃f,a7 Q [] f w w s L0/\ ∀{e:A1} {s':WD} {L':List (Nat×List A9)},a7 Q [] f w e s' L'->SM Q D G w0 e s' L' M:=by
 obtain⟨a,b,c,d,ca,la,k⟩:=H;refine⟨_,⟨a,b,c,d,ca,la,k.base.again⟩,λ{e s' L'} S=>?_⟩;obtain⟨g,h,i,d',j,l,m⟩:=S;exact⟨g,h,i,d',j,l,k.join m⟩
theorem perm (H:SM Q D G w0 w s L0 M) (h:L1.Perm L0):SM Q D G w0 w s L1 M:=by
 obtain⟨a,b,c,d,ca,la,k⟩:=H;exact⟨a,b,c,d,ca,la,k.perm ((((h.cons _).cons _).cons _).cons _)⟩
theorem sub (H:SM Q D G w0 w s L0 M) (h:L1.Sublist L0):SM Q D G w0 w s L1 M:=by
 obtain⟨a,b,c,d,ca,la,k⟩:=H;exact⟨a,b,c,d,ca,la,k.sub ((((h.cons_cons _).cons_cons _).cons_cons _).cons_cons _)⟩
theorem pj (H:SM Q D G w0 w s L0 M) (h:M1.Perm M):SM Q D G w0 w s L0 M1:=by
 obtain⟨a,b,c,d,ca,la,k⟩:=H;exact⟨a,b,c,d,ca,la,k.pj h⟩
theorem EI (H:SM Q D G w0 w s L0 M) (h:M1.Sublist M):SM Q D G w0 w s L0 M1:=by
 obtain⟨a,b,c,d,ca,la,k⟩:=H;exact⟨a,b,c,d,ca,la,k.EI h⟩
theorem get (H:SM Q D G w0 w s L0 M) {r:Nat} {o:Obj} (h:(r,o)∈M):w.heap[r]? =some o:=by
 obtain⟨a,b,c,d,ca,la,k⟩:=H;exact(k.obj _ h).1
theorem put (H:SM Q D G w0 w s L0 M) {i r:Nat} {o:Obj} (h:M[i]? =some (r,o)) {o':Obj} (e:lb o'):SM Q D G w0 (w.putObj r o') s L0 (M.set i (r,o')):=by
 obtain⟨a,b,c,d,ca,la,k⟩:=H;exact⟨a,b,c,d,ca,la,k.put h e⟩
theorem alloc (H:SM Q D G w0 w s L0 M) {o:Obj} (e:lb o):SM Q D G w0 (w.alloc o) s L0 ((w.heap.size,o)::M):=by
 obtain⟨a,b,c,d,ca,la,k⟩:=H;exact⟨a,b,c,d,ca,la,k.alloc e⟩
theorem go (H:SM Q D G w0 w s L0 M) {P:Program} {f:FuncId} {sh:Sh} {args:List A9} {K:sh.T->A1->Prop} (k: ∀w1,SM Q D G w0 w1 s L0 M->ar P f sh args w1 K):aB P f sh args w K:=λ_ h=>k _ (H.ext h)
theorem en (H:SM Q D G w0 w s L0 M) {K:A1->Prop} (k: ∀w1,SM Q D G w0 w1 s L0 M->K w1):ak w K:=λ_ h=>k _ (H.ext h)
end SM
end
abbrev TK:Type:=Int×Int×Int
def sK (t:TK):A9×A9:=(aa t.1,.agg ⟨[aa t.2.1,aa t.2.2]⟩)
def nr (es:List B4) (ck:Nat) (tk:List TK):Prop:=
 (∃p:List TK,p.Perm tk/\es.map (λe=>(e.key,e.val))=p.map sK)/\(es.map (·.born)).Nodup/\(∀e∈es,e.born<ck)/\(tk.map (·.1)).Nodup
theorem nr.nil:nr [] 0 []:=⟨⟨[],List.Perm.nil,rfl⟩,Hq,λe a=>(by cases a),Hq⟩
theorem nr.len {es:List B4} {ck:Nat} {tk:List TK} (h:nr es ck tk):es.length=tk.length:=by
 obtain⟨⟨p,a,h2⟩, _⟩:=h;have:=congrArg H5 h2;rw[Br,Br] at this;rw[this,a.length_eq]
theorem Lt {es:List B4} {p:List TK} (h:es.map (λe=>(e.key,e.val))=p.map sK) (g:Int) (i0:Nat):
 Gi (.int .i64) (aa g) es i0=some (match p.findIdx? (λt=>t.1==g) with
  |some i=>some (i0+i,(sK (p.getD i (0,0,0))).2)
  |none=>none):=by
 induction es generalizing p i0 with
 |nil=>
  cases p with
  |nil=>rfl
  |cons t p=>simp at h
 |cons e es f=>
  cases p with
  |nil=>simp at h
  |cons t p=>
   simp only[E4,List.cons.injEq] at h;obtain⟨d,h2⟩:=h;have j:e.key=aa t.1:=congrArg (·.1) d;have hv:e.val=(sK t).2:=congrArg (·.2) d;unfold Gi;rw[j];have k:Instr.sameNow (.int .i64) (aa g) (aa t.1)=some (g==t.1):=by
    show(if IntKind.i64=IntKind.i64 then some (g==t.1) else none)= _;rw[ax rfl]
   rw[k,List.findIdx?_cons];by_cases a:t.1=g
   ·have b:(g==t.1)=true:=by simp[a]
    have c:(t.1==g)=true:=by simp[a]
    rw[b,ax c];dsimp only;rw[hv];rfl
   ·have b:(g==t.1)=false:=by simp;exact λe=>a e.symm
    have c: ¬ (t.1==g)=true:=by simp[a]
    rw[b,ao c];dsimp only;rw[f h2 (i0+1)];cases p.findIdx? (λt=>t.1==g) with
    |none=>rfl
    |some i=>
     show some (some (i0+1+i, _))=some (some (i0+(i+1), _));rw[show i0+1+i=i0+(i+1) by omega];rfl
def bL (tk:List TK) (g:Int):Option (Int×Int):=(tk.find? λt=>t.1==g).map (·.2)
theorem g9 {tk:List TK} {g a b:Int} (l:(tk.map (·.1)).Nodup):bL tk g=some (a,b)<->(g,a,b)∈tk:=by
 unfold bL;constructor
 ·intro h;obtain⟨t,k,h2⟩:=Hc.1 h;have c:=Hr k;have d:=Ht k;have:t.1=g:=by simpa using c
  obtain⟨t1,t2⟩:=t;simp only at this h2;subst this;subst h2;exact d
 ·intro h;cases e:tk.find? λt=>t.1==g with
  |none=>
   have:=H6.1 e _ h;simp at this
  |some t=>
   have c:=Hr e;have d:=Ht e;have m:t.1=g:=by simpa using c
   obtain⟨i,hi⟩:=Bb h;obtain⟨j,f⟩:=Bb d;have n:(tk.map (·.1))[i]? =some g:=by rw[DB,hi];rfl
   have o:(tk.map (·.1))[j]? =some g:=by rw[DB,f];exact congrArg some m
   have:=(Hu (by rw[Br];exact(B5.1 hi).1) l).1 (n.trans o.symm);subst this;rw[hi] at f;cases f;rfl
theorem m8 {tk:List TK} {g:Int}:bL tk g=none<-> ∀t∈tk,t.1≠g:=by
 unfold bL;rw[LZ,H6];simp
theorem m9 {α β:Type} (f:α->β): ∀(l:List α) (i:Nat),(l.eraseIdx i).map f=(l.map f).eraseIdx i
 |[],i=>by simp
 |a::l,0=>rfl
 |a::l,i+1=>by
  simp only[List.eraseIdx_cons_succ,E4];rw[m9 f l i]
theorem nr.find {es:List B4} {ck:Nat} {tk:List TK} (h:nr es ck tk) (g:Int): ∃r,Gi (.int .i64) (aa g) es 0=some r/\
 match bL tk g with
 |some x=> ∃i,r=some (i,.agg ⟨[aa x.1,aa x.2]⟩)/\i<es.length/\nr (es.eraseIdx i) ck (tk.filter λt=> !(t.1==g))
 |none=>r=none:=by
 obtain⟨⟨p,d,h2⟩,s,u,j⟩:=h;refine⟨_,Lt h2 g 0,?_⟩;have v:(p.map (·.1)).Nodup:=(d.map _).nodup_iff.2 j;cases k:p.findIdx? (λt=>t.1==g) with
 |none=>
  have:bL tk g=none:=m8.2 λt f=>by
   have:=List.findIdx?_eq_none_iff.1 k t (d.mem_iff.2 f);simpa using this
  rw[this]
 |some i=>
  rw[Hz] at k;obtain⟨hi,b, _⟩:=k;have l:p[i]? =some p[i]:=Eo hi;have m:p.getD i (0,0,0)=p[i]:=by rw[DA,l];rfl
  obtain⟨t,f⟩: ∃t,t=p[i]:=⟨_,rfl⟩;rw[<-f] at l m b;have b:t.1=g:=by simpa using b
  have w:(g,t.2.1,t.2.2)∈tk:=by
   have:=d.mem_iff.1 (Bq l);obtain⟨t1,t2,t3⟩:=t;simp only at b;subst b;exact this
  rw[(g9 j).2 w];have B:es.length=p.length:=by
   have:=congrArg H5 h2;simpa using this
  refine⟨i,by dsimp only;rw[m,Nat.zero_add];rfl,by omega,⟨p.eraseIdx i,?_,?_⟩,?_,?_,?_⟩
  ·have y:p.eraseIdx i=p.filter λt=> !(t.1==g):=by
    have n:p=p.take i++t::p.drop (i+1):=by
     conv=>lhs;rw[<-List.take_append_drop i p]
     rw[I1 hi, <-f]
    have o: ∀x∈p.take i++p.drop (i+1),x.1≠g:=by
     intro x c e;have q:=v;rw[n,DS,E4] at q;have z:=(H4 (a:=t.1) (l₁:=(p.take i).map (·.1)) (l₂:=(p.drop (i+1)).map (·.1))).nodup_iff.1 q;have:=(Es.1 z).1;refine this ?_;rw[b, <-e, <-DS];exact Bc.2 ⟨x,c,rfl⟩
    rw[List.eraseIdx_eq_take_drop_succ]
    conv=>rhs;rw[n]
    rw[List.filter_append,I2 (by simp[b])];rw[H7.2 (λx c=>by have:=o x (H9 _ c);simpa using this),H7.2 (λx c=>by have:=o x (C7 _ c);simpa using this)]
   rw[y];exact d.filter _
  ·rw[m9,h2,m9]
  ·rw[m9];exact s.sublist (List.eraseIdx_sublist _ _)
  ·exact λe A=>u e (List.mem_of_mem_eraseIdx A)
  ·exact j.sublist ((I_).map _)
theorem nr.push {es:List B4} {ck:Nat} {tk:List TK} (h:nr es ck tk) {t:TK} (g:bL tk t.1=none) {b:List TK} (c:b.Perm (t::tk)):nr (es++[{key:=(sK t).1,val:=(sK t).2,born:=ck}]) (ck+1) b:=by
 obtain⟨⟨p,i,h2⟩,j,d,k⟩:=h;refine⟨⟨p++[t],?_,?_⟩,?_,?_,?_⟩
 ·exact(List.perm_append_singleton _ _).trans ((i.cons _).trans c.symm)
 ·rw[DS,h2,DS];rfl
 ·rw[DS];refine List.nodup_append.2 ⟨j,by simp,λx a y f e=>?_⟩;obtain⟨l,he,rfl⟩:=Bc.1 a;have f:y=ck:=by simpa using f
  have:=d l he;omega
 ·intro e he;rcases List.mem_append.1 he with he|he
  ·have:=d e he;omega
  ·have:e={key:=(sK t).1,val:=(sK t).2,born:=ck}:=by simpa using he
   subst this;exact HT _
 ·refine(c.map _).nodup_iff.2 (Es.2 ⟨λm=>?_,k⟩);obtain⟨x,a,e⟩:=Bc.1 m;exact m8.1 g x a e
set_option maxRecDepth 100000
open Go.RX D
structure GV where
 root:Int
 tk:List TK
structure HS where
 s:WD
 g:Nat->Option GV
 gr:List GT
 po:List Po.PT
structure HX where
 hb:Nat
 gb:Nat
 qs:Nat
 pb:Nat
 c:Nat
 rest:List A9
structure GA where
 bg:Nat
 bt:Nat
 bm:Nat
 ck:Nat
 es:List B4
def iT (A:Nat->GA) (g:Nat->Option GV) (i:Nat):Option B2:=match g i with
 |some _=>some ⟨(A i).bg,0,none⟩
 |none=>none
def ka (A:Nat->GA) (g:Nat->Option GV):List A9:=(A3 17).map λi=>ah (iT A g i)
abbrev gQ (Q:Sys) (X:HX) (A:Nat->GA) (g:Nat->Option GV):List A9:=[ah (ad Q.bm),ah (ad Q.bp),ah (ad X.gb),ah (ad X.pb)]++ka A g
def fO (Q:Sys) (A:Nat->GA) (i:Nat) (v:GV):List (Nat×List A9):=[((A i).bg,[ah (some ⟨(A i).bt,0,none⟩),.map (some (A i).bm)]),((A i).bt,lX Q i v.root false)]
def aW (Q:Sys) (A:Nat->GA) (g:Nat->Option GV) (l:List Nat):List (Nat×List A9):=l.flatMap λi=>match g i with
 |some v=>fO Q A i v
 |none=>[]
def de (A:Nat->GA) (g:Nat->Option GV) (l:List Nat):List (Nat×Obj):=l.flatMap λi=>match g i with
 |some _=>[((A i).bm,Obj.map ⟨(A i).es⟩ (A i).ck)]
 |none=>[]
abbrev dC (Q:Sys) (X:HX) (A:Nat->GA) (h:HS) (L:List (Nat×List A9)):List (Nat×List A9):=
 (X.hb,gQ Q X A h.g)::(X.gb,jU X.qs h.gr.length X.c)::(X.qs,flat eG h.gr++X.rest)::(X.pb,Po.fm 4 h.po)::L
structure wc (A:Nat->GA) (h:HS):Prop where
 ig: ∀{i v},h.g i=some v->1<=i/\i<=16
 mp: ∀{i v},h.g i=some v->nr (A i).es (A i).ck v.tk
 gl:h.gr.length=16
 pt:Po.iY 4 h.po
 gk:ki h.gr
def dA (Q:Sys) (X:HX) (D G:List Nat) (w0 w:A1) (h:HS) (L:List (Nat×List A9)):Prop:=
 ∃A,wc A h/\SM Q D G w0 w h.s (dC Q X A h (aW Q A h.g (A3 17)++L)) (de A h.g (A3 17))
theorem Gt {Q:Sys} {A:Nat->GA} {g:Nat->Option GV} {l:List Nat} {i:Nat} {v:GV} (hi:i∈l) (hv:g i=some v): ∀x∈fO Q A i v,x∈aW Q A g l:=λx a=>by
 unfold aW;exact H2.2 ⟨i,hi,by rw[hv];exact a⟩
theorem Gu {A:Nat->GA} {g:Nat->Option GV} {l:List Nat} {i:Nat} {v:GV} (hi:i∈l) (hv:g i=some v):((A i).bm,Obj.map ⟨(A i).es⟩ (A i).ck)∈de A g l:=by
 unfold de;exact H2.2 ⟨i,hi,by rw[hv];exact Ho.2 rfl⟩
theorem re {A:Nat->GA} {g:Nat->Option GV} {i:Nat} (hi:i<17):(ka A g)[i]? =some (ah (iT A g i)):=by
 unfold ka;rw[DB,List.getElem?_range hi];rfl
def aX (g:Nat->Option GV) (v:Int):Bool:=decide (v>=1)&&decide (v<=16)&&(g v.toNat).isSome
def a6 (g:Nat->Option GV) (v:Int):Int:=if aX g v=true then(match g v.toNat with|some x=>x.root|none=> -1) else -1
def fu (g:Nat->Option GV) (v p:Int):Int×Bool×Unit:=if aX g v=true then(match g v.toNat with
 |some x=>(match bL x.tk p with|some y=>(y.1,true,())|none=>(0,false,()))
 |none=>(0,false,())) else(0,false,())
def cL (g:Nat->Option GV) (v a:Int):Int:=if a<1\/a>16\/a=v then 1 else if aX g a=true then 0 else 4
theorem g_ {g:Nat->Option GV} {v:Int}:aX g v=true<->(1<=v/\v<=16)/\ ∃x,g v.toNat=some x:=by
 unfold aX;simp only[EB,decide_eq_true_eq,Option.isSome_iff_exists]
section
variable {Q:Sys} {X:HX} {D G:List Nat} {w0 w:A1} {s:WD} {L0:List (Nat×List A9)} {M:List (Nat×Obj)} {A:Nat->GA} {g:Nat->Option GV}
theorem a7.pk (S:a7 Q D G w0 w s L0) (a:(X.hb,gQ Q X A g)∈L0) {v:Int} (hv:0<=v/\v<=16):cI w (ae (ae (ad X.hb) 4) (v.toNat*1)) (.one .ptr) (iT A g v.toNat):=by
 obtain⟨j,b⟩:=Bb a;rw[aL,aL];refine bI (S.get b) ?_;show(match (gQ Q X A g)[0+4+v.toNat*1]? with|some v=>Sc.ptr.proj v|none=>none)= _;have:(gQ Q X A g)[0+4+v.toNat*1]? =some (ah (iT A g v.toNat)):=by
  show([ah (ad Q.bm),ah (ad Q.bp),ah (ad X.gb),ah (ad X.pb)]++ka A g)[0+4+v.toNat*1]? = _;rw[HB (by simp),Di,Di,Di,Di,List.length_nil];rw[show 0+4+v.toNat*1 - (0+1+1+1+1)=v.toNat by omega];exact re (by omega)
 rw[this];rfl
theorem a7.e9 (S:a7 Q D G w0 w s L0) (a:(X.hb,gQ Q X A g)∈L0) {n:Nat} {x:Option B2} (h:[(some ⟨Q.bm,0,none⟩:Option B2),some ⟨Q.bp,0,none⟩,some ⟨X.gb,0,none⟩,some ⟨X.pb,0,none⟩][n]? =some x):cI w (ae (ad X.hb) n) (.one .ptr) x:=by
 obtain⟨j,b⟩:=Bb a;rw[aL];refine bI (S.get b) ?_;rcases n with _| _| _| _|n
 ·cases h;rfl
 ·cases h;rfl
 ·cases h;rfl
 ·cases h;rfl
 ·simp at h
theorem jq (S:a7 Q D G w0 w s L0) (a:(X.hb,gQ Q X A g)∈L0):ag A2 61 [ah (ad X.hb)] w (.bool true):=by
 refine ag.of (s:= .el (.one .bool)) λw' h'=>ai (C:=V0) (aM:=λ_=>[]) (A_ (F_ _ w' _) ?_);exact⟨λ_=>rfl,λ_=>rfl,aj.of _ ((S.ext h').e9 a (n:=0) rfl) λw1 b=>⟨rfl,b⟩⟩
theorem mU (S:a7 Q D G w0 w s L0) (b:(X.hb,gQ Q X A g)∈L0) (v:Int):ag A2 18 [ah (ad X.hb),aa v] w (.bool (aX g v)):=by
 refine ag.of (s:= .el (.one .bool)) λw' h'=>ai (C:=V0) (aM:=λ_=>[]) (A_ (Le _ v w' _) ?_);have S:=S.ext h';refine⟨_,jq S b,λ_=>rfl,λ_=>rfl,λc=>?_,?_⟩
 ·simp only[EB,decide_eq_true_eq] at c;exact⟨rfl,by omega,by show v<((17:Nat):Int);omega⟩
 ·unfold aX;by_cases hv:v>=1/\v<=16
  ·refine aj.of _ (S.pk b ⟨by omega,hv.2⟩) λw1 a=>⟨?_,a⟩;unfold iT;cases g v.toNat<;>simp
  ·have c:(true&&decide (v>=1)&&decide (v<=16))=false:=by
    rw[HO,FS,decide_eq_false_iff_not,decide_eq_false_iff_not];omega
   rw[c];refine⟨none,λh=>(by cases h),λw1 a=>⟨?_,a⟩⟩;rw[FS] at c;rw[c];rfl
theorem bQ {a:Int} (h:0<=a/\a<9223372036854775808):aD .i64 a=a:=dZ (by omega) h.2
theorem Aw (S:a7 Q D G w0 w s L0) (b:(X.hb,gQ Q X A g)∈L0) {a:Int} (d:0<=a):ag A2 204 [ah (ad X.hb),aq a] w (.bool (aX g a)):=by
 refine ag.of (s:= .el (.one .bool)) λw' h'=>ai (C:=V0) (aM:=λ_=>[]) (A_ (F' _ a w' _) ?_);have S:=S.ext h';refine⟨aX g a,λc=>?_,λw1 e=>⟨?_,e⟩⟩
 ·have c:a<=16:=by simpa using c
  rw[bQ ⟨d,by omega⟩];exact mU S b a
 ·by_cases c:a<=16
  ·rw[decide_eq_true c];rfl
  ·rw[decide_eq_false c];unfold aX;rw[decide_eq_false c];simp
theorem uK (S:a7 Q D G w0 w s L0) (e:(X.hb,gQ Q X A g)∈L0) (v:Int) {a:Int} (d:0<=a):ag A2 222 [ah (ad X.hb),aa v,aq a] w (aa (cL g v a)):=by
 refine ag.of (s:= .el (.one (.int .i64))) λw' h'=>ai (C:=V0) (aM:=λ_=>[]) (A_ (Gc _ v a w' _) ?_);have S:=S.ext h';unfold cL;by_cases c:a<1\/a>16\/a=v
 ·rw[ax c];refine ay ?_ λw1 b=>⟨rfl,b⟩;simp only[HP,decide_eq_true_eq,beq_iff_eq];rcases c with c|c|c
  ·exact .inl (.inl c)
  ·exact .inl (.inr c)
  ·by_cases f:a>16
   ·exact .inl (.inr f)
   ·exact .inr (by rw[bQ ⟨d,by omega⟩];exact c)
 ·rw[ao c];refine an ?_ ⟨_,Aw S e d,?_⟩
  ·rw[bQ ⟨d,by omega⟩];simp only[Dn,decide_eq_false_iff_not,beq_eq_false_iff_ne];omega
  ·cases aX g a with
   |true=>exact an rfl λw1 b=>⟨rfl,b⟩
   |false=>exact ay rfl λw1 b=>⟨rfl,b⟩
theorem DX (S:a7 Q D G w0 w s L0) (c:(X.hb,gQ Q X A g)∈L0) (d: ∀i v,g i=some v-> ∀x∈fO Q A i v,x∈L0) (v:Int):ag A2 20 [ah (ad X.hb),aa v] w (aa (a6 g v)):=by
 refine ag.of (s:= .el (.one (.int .i64))) λw' h'=>ai (C:=V0) (aM:=λ_=>[]) (A_ (Lf _ v w' _) ?_);have S:=S.ext h';refine⟨_,mU S c v,?_⟩;unfold a6;cases e:aX g v with
 |false=>exact ay rfl λw1 b=>⟨rfl,b⟩
 |true=>
  obtain⟨hv,x,a⟩:=g_.1 e;have hc:=S.pk c (v:=v) ⟨by omega,hv.2⟩;have f:iT A g v.toNat=some ⟨(A v.toNat).bg,0,none⟩:=by unfold iT;rw[a]
  rw[f] at hc;obtain⟨j1,h⟩:=Bb (d _ _ a _ AC);obtain⟨j,k⟩:=Bb (d _ _ a _ (B3 _ AC));refine an rfl ⟨rfl,rfl,⟨rfl,by omega,by show v<((17:Nat):Int);omega⟩,aj.of _ hc ⟨rfl,rfl,S.bW j1 h rfl ⟨_,S.root j k,λw1 b=>⟨?_,b⟩⟩⟩⟩;rw[a,ax rfl];rfl
theorem mw (H:SM Q D G w0 w s L0 M) (d:(X.hb,gQ Q X A g)∈L0) (k: ∀i v,g i=some v-> ∀x∈fO Q A i v,x∈L0) (l: ∀i v,g i=some v->((A i).bm,Obj.map ⟨(A i).es⟩ (A i).ck)∈M) (m: ∀i v,g i=some v->nr (A i).es (A i).ck v.tk) (v p:Int):
 ag A2 24 [ah (ad X.hb),aa v,aa p] w ((Sh.bH [.one (.int .i64),.one .bool]).gj (fu g v p)):=by
 refine ag.of (s:= .bH [.one (.int .i64),.one .bool]) λw' h'=>ai (C:=V0) (aM:=λ_=>[]) (A_ (Gb _ v p w' _) ?_);have H:=H.ext h';have S:=H.base;refine⟨_,mU S d v,?_⟩;unfold fu;cases n:aX g v with
 |false=>exact ay rfl λw1 o=>⟨rfl,o⟩
 |true=>
  obtain⟨hv,x,a⟩:=g_.1 n;have hc:=S.pk d (v:=v) ⟨by omega,hv.2⟩;have q:iT A g v.toNat=some ⟨(A v.toNat).bg,0,none⟩:=by unfold iT;rw[a]
  rw[q] at hc;obtain⟨j1,t⟩:=Bb (k _ _ a _ AC);obtain⟨r,f,c⟩:=(m _ _ a).find p;have h:bE w' (A v.toNat).bm ⟨(A v.toNat).es⟩ (A v.toNat).ck:=H.get (l _ _ a);refine an rfl ⟨rfl,rfl,⟨rfl,by omega,by show v<((17:Nat):Int);omega⟩,aj.of _ hc ⟨rfl,rfl,S.bW j1 t rfl ?_⟩⟩;rw[a,ax rfl];dsimp only;have VC:Ext w' w':=Ext.refl _;have H0:=At.start [] w';cases j:bL x.tk p with
  |none=>
   rw[j] at c;refine⟨(0,0,()),false,⟨_, _, _,rfl,h,?_⟩,aA.go H0 λb u H0=>aw.all 0 H0 rfl rfl rfl λz H0=>⟨rfl,aj.bN 0 H0 rfl rfl (ak.go H0 λB H0=>⟨rfl,H0.all⟩)⟩⟩;rw[f,c];exact⟨rfl,rfl⟩
  |some y=>
   rw[j] at c;obtain⟨i,e, _⟩:=c;refine⟨(y.1,y.2,()),true,⟨_, _, _,rfl,h,?_⟩,aA.go H0 λb u H0=>aw.all 0 H0 rfl rfl rfl λz H0=>⟨rfl,aj.bN 0 H0 rfl rfl (ak.go H0 λB H0=>⟨rfl,H0.all⟩)⟩⟩;rw[f,e];exact⟨rfl,rfl⟩
end
section
variable {G:List Nat} {w0 w:A1}
theorem Lu {bm bw n c:Nat} {ca la:Int} {ws:List Int} {rest:List A9} {L0:List (Nat×List A9)} (H:At G w0 w ((bm,kh bw n c ca la)::(bw,flat eW ws++rest)::L0)) (B:n=ws.length) (h0:0<n) (D:okW ws) (f p t:Int) {K:FT->A1->Prop}
 (k: ∀d w1,At G w0 w1 ((bm,kh bw n c d la)::(bw,flat eW ws++rest)::L0)->K (tG ws f p t) w1):
 aB A2 295 (.el (.agg sF)) [ah (ad bm),aa f,aa p,aa t] w K:=by
 refine aB.go H λw1 H=>aO (C:=M1) (aM:=rZ) (A_ (Nq _ f p t w1 K) ?_);refine aA.go H λb S H=>Ns H f p t (λhb E H=>?_) λhb bk E H=>?_
 ·have e:tG ws f p t=(0,0,0,1,()):=ax hb;rw[e] at k;exact ay rfl (aw.all 0 H rfl rfl rfl λr H=>ak.go H λv H=>aj.at 0 H rfl rfl (k ca v (H.sub (Bg _ _))))
 have e:tG ws f p t=(lA ws f p t 4).2.2:=ao (by rw[hb];decide);rw[e] at k;refine an rfl ⟨λq _ w'=> ∃(i:Nat) (Ls:List (Nat×List A9)) (s:Option B2×Nat×Nat) (xs:List Int) (d:Int),q+i=4/\i<=3/\(lA ws f p t i).2.1≠ -1/\xs.length=i/\A0 Ls s xs/\
  At G w0 w' ((bk,ny (lA ws f p t i).1 p t (lA ws f p t i).2.1 (lA ws f p t i).2.2 s)::(bm,kh bw n c d la)::(bw,flat eW ws++rest)::(Ls++((b,[aa 0,aa 0,aa 0,aa 0])::L0))),⟨4,λr F=>⟨0,[],(none,0,0),[],ca,rfl,by decide,(show(3:Int)≠ -1 by decide),rfl,.inl ⟨rfl,rfl,rfl⟩,(H.ext F).perm ?_⟩⟩,?_⟩
 ·exact .cons _ (HH (l₁:=[(bm,kh bw n c ca la),(bw,flat eW ws++rest)]) (l₂:=[(b,[aa 0,aa 0,aa 0,aa 0])]) |>.append_right L0)
 clear H;rintro q u r ⟨i,Ls,s,xs,d,T,U,I,J,L,H⟩;dsimp only;refine Kh H L (by omega) B h0 D I λv h s' M H=>?_;have es:iI ws p t ((lA ws f p t i).1,(lA ws f p t i).2.1,(lA ws f p t i).2.2)=lA ws f p t (i+1):=rfl;rw[es] at H ⊢;by_cases g:(lA ws f p t (i+1)).2.1= -1
 ·have N:lA ws f p t 4=lA ws f p t (i+1):=by
   have:=yr g (4 - (i+1));rw[show i+1+(4 - (i+1))=4 by omega] at this;exact this
  rw[N] at k;generalize lA ws f p t (i+1)=y at H g k;obtain⟨z,A,⟨j,l,m,o,V⟩⟩:=y;refine an (by rw[g];rfl) ⟨rfl,rfl,aj.bN (x:=(j,l,m,o,())) 0 H rfl rfl ?_⟩;have H:=H.perm (L':=(b,[aa 0,aa 0,aa 0,aa 0])::((bk,ny z p t A (j,l,m,o,()) s')::(bm,kh bw n c (sw ws (dN (lA ws f p t i).1 p (lA ws f p t i).2.1) d) la)::(bw,flat eW ws++rest)::(h++L0))) (by
   refine(H4 (l₁:=[(bk,ny z p t A (j,l,m,o,()) s'),(bm,kh bw n c (sw ws (dN (lA ws f p t i).1 p (lA ws f p t i).2.1) d) la),(bw,flat eW ws++rest)]++h) (a:=(b,[aa 0,aa 0,aa 0,aa 0])) (l₂:=L0)).symm)
  refine aw.all 0 H rfl rfl rfl λO H=>ak.go H λP H=>aj.at 0 H rfl rfl (k (sw ws (dN (lA ws f p t i).1 p (lA ws f p t i).2.1) d) P ?_);have H:=(H.sub (Bg _ _)).sub (Bg _ _);exact H.sub (.cons_cons _ (.cons_cons _ (IG _ _)))
 ·have Q:=(Pj ws f p t (i+1)).resolve_left g;refine ay (by simp[g]) λO R=>⟨q - 1,by omega,i+1,h,s',xs++[(lA ws f p t i).1], _,by omega,Q.2,g,by rw[IR,J];rfl,M,H.ext R⟩
theorem Gv {bm bw n c:Nat} {ca la:Int} {ws:List Int} {rest:List A9} {L:List (Nat×List A9)} (H:At G w0 w L) (j b:Nat) (d:L[j]? =some (bm,kh bw n c ca la)) (e:L[b]? =some (bw,flat eW ws++rest)) (g:j≠b) (h:n=ws.length) (h0:0<n) (i:okW ws) (f p t:Int) {K:FT->A1->Prop}
 (k: ∀a w1,At G w0 w1 (L.set j (bm,kh bw n c a la))->K (tG ws f p t) w1):
 aB A2 295 (.el (.agg sF)) [ah (ad bm),aa f,aa p,aa t] w K:=by
 obtain⟨o,l,m⟩:=RD d e g;exact Lu (H.perm l.symm) h h0 i f p t λa w1 H=>k a w1 (H.perm (m _))
end
section
variable {D G:List Nat} {w0 w w':A1} {L:List (Nat×List A9)}
end
section
variable {Q:Sys} {D G:List Nat} {w0 w:A1} {s:WD} {L0:List (Nat×List A9)}
namespace a7
theorem UT (S:a7 Q D G w0 w s L0) {K:Option B2->A1->Prop}
 (k: ∀a b d e c,a7 Q D G w0 c s ((a,[.slice (ad b) s.2.length d])::(b,flat eD s.2++e)::L0)->K (ad a) c):
 aB A2 79 (.el (.one .ptr)) [ah (ad Q.bp)] w K:=by
 refine S.go λw1 S=>?_;obtain⟨g,h2,f,h,ca,la,H⟩:=S;refine NU H (H.get (i:=3) rfl) (H.get (i:=2) rfl) rfl h2 f λa b d e c H=>k a b d e c ⟨g,h2,f,h,ca,la,H.perm ?_⟩;exact HH (l₁:=[_, _, _, _]) (l₂:=[(a, _),(b, _)]) |>.append_right L0
theorem VN (S:a7 Q D G w0 w s L0) (f:Int):ag A2 32 [ah (ad Q.bp),aa f] w ((Sh.bH [eD,.one .bool]).gj (oK s.2 f,vJ s.2 f,())):=by
 obtain⟨a,h2,b,c,ca,la,H⟩:=S;exact MF H 3 2 rfl rfl rfl f
theorem By (S:a7 Q D G w0 w s L0) (f:Int) {K:Int->A1->Prop} (k: ∀a,a7 Q D G w0 a (s.1,fC s.2 f (aE 0 0)) L0->K (rq s.2 f (aE 0 0)) a):
 aB A2 215 (.el (.one (.int .i64))) [ah (ad Q.bp),aa f] w K:=by
 obtain⟨c,h2,b,d,ca,la,H⟩:=S;refine N8 H 3 2 rfl rfl (by decide) rfl h2 b f λa H=>k a ⟨c,?_,?_,d,ca,la,?_⟩
 ·show 0<(fC s.2 f (aE 0 0)).length;rw[gO];exact h2
 ·show(fC s.2 f (aE 0 0)).length<=4096;rw[gO];exact b
 ·unfold Sys.L;show aH D G w0 a (_:: _:: _::(Q.bp,[.slice _ (fC s.2 f (aE 0 0)).length _]):: _);rw[gO];exact H
theorem TU (S:a7 Q D G w0 w s L0) (f x:Int) (c: -9223372036854775808<=x/\x<9223372036854775808) {K:Int->A1->Prop} (k: ∀a,a7 Q D G w0 a (s.1,fC s.2 f (gE x)) L0->K (rq s.2 f (gE x)) a):
 aB A2 226 (.el (.one (.int .i64))) [ah (ad Q.bp),aa f,aa x] w K:=by
 obtain⟨d,h2,b,e,ca,la,H⟩:=S;refine N7 H 3 2 rfl rfl (by decide) rfl h2 b f x c λa H=>k a ⟨d,?_,?_,e,ca,la,?_⟩
 ·show 0<(fC s.2 f (gE x)).length;rw[gO];exact h2
 ·show(fC s.2 f (gE x)).length<=4096;rw[gO];exact b
 ·unfold Sys.L;show aH D G w0 a (_:: _:: _::(Q.bp,[.slice _ (fC s.2 f (gE x)).length _]):: _);rw[gO];exact H
theorem owned (S:a7 Q D G w0 w s L0) (v:Int) {K:Option B2×Nat×Nat->A1->Prop} (k: ∀r rows a,a7 Q D G w0 a s (L0++rows)->jh eI rows r ((fi s.2 v).map λi=>((i:Nat):Int))->K r a):
 aB A2 205 (.el (.one .slice)) [ah (ad Q.bp),aa v] w K:=by
 obtain⟨c,h2,b,d,ca,la,H⟩:=S;exact La H 3 2 rfl rfl rfl b v λr rows a H e=>k r rows a ⟨c,h2,b,d,ca,la,H⟩ e
theorem walk (S:a7 Q [] G w0 w s L0) (f p t:Int) {K:FT->A1->Prop} (k: ∀w1,a7 Q [] G w0 w1 s L0->K (tG s.1 f p t) w1):
 aB A2 295 (.el (.agg sF)) [ah (ad Q.bm),aa f,aa p,aa t] w K:=by
 obtain⟨a,h2,c,b,ca,la,H⟩:=S;exact Gv H 0 1 rfl rfl (by decide) rfl a b f p t λd w1 H=>k w1 ⟨a,h2,c,b,d,la,H⟩
end a7
end
set_option maxRecDepth 100000
open Go.RX D
def fj (g:Nat->Option GV) (s:WD) (v p:Int):Int×Int×Int×Unit:=if aX g v=true then(match g v.toNat with
 |some x=>a_ s x.root false p
 |none=>(0,0,4,())) else(0,0,4,())
def iK (s:WD) (f:Int):Int:=if vJ s.2 f=false then 2 else if(oK s.2 f).1≠5 then 6 else rq s.2 f (aE 0 0)
def iM (s:WD) (f:Int):WD:=if vJ s.2 f=true/\(oK s.2 f).1=5 then(s.1,fC s.2 f (aE 0 0)) else s
section
variable {Q:Sys} {X:HX} {D G:List Nat} {w0 w:A1} {s:WD} {L0:List (Nat×List A9)} {M:List (Nat×Obj)} {A:Nat->GA} {g:Nat->Option GV}
theorem rh (S:a7 Q D G w0 w s L0) (c:(X.hb,gQ Q X A g)∈L0) (e: ∀i v,g i=some v-> ∀x∈fO Q A i v,x∈L0) (v p:Int) {K:Int×Int×Int×Unit->A1->Prop} (k: ∀a,a7 Q D G w0 a s L0->K (fj g s v p) a):
 aB A2 22 (.bH [.one (.int .i64),.one (.int .i64),.one (.int .i64)]) [ah (ad X.hb),aa v,aa p] w K:=by
 refine S.go λw1 S=>ai (C:=V0) (aM:=λ_=>[]) (A_ (Ga _ v p w1 K) ?_);refine⟨_,jq S c,an rfl ⟨_,mU S c v,?_⟩⟩;unfold fj at k;cases d:aX g v with
 |false=>
  rw[d,ao (by decide)] at k;exact ay rfl (S.en λa S=>k a S)
 |true=>
  obtain⟨hv,x,b⟩:=g_.1 d;rw[d,ax rfl,b] at k;have hc:=S.pk c (v:=v) ⟨by omega,hv.2⟩;have f:iT A g v.toNat=some ⟨(A v.toNat).bg,0,none⟩:=by unfold iT;rw[b]
  rw[f] at hc;obtain⟨j1,h⟩:=Bb (e _ _ b _ AC);obtain⟨j,l⟩:=Bb (e _ _ b _ (B3 _ AC));refine an rfl ⟨rfl,rfl,⟨rfl,by omega,by show v<((17:Nat):Int);omega⟩,aj.of _ hc ⟨rfl,rfl,S.bW j1 h rfl (S.query j l p λa S=>S.en λm S=>k m S)⟩⟩
theorem Lv (S:a7 Q D G w0 w s L0) (j:(X.hb,gQ Q X A g)∈L0) (f:Int) {K:Int->A1->Prop} (k: ∀l,a7 Q D G w0 l (iM s f) L0->K (iK s f) l):
 aB A2 212 (.el (.one (.int .i64))) [ah (ad X.hb),aa f] w K:=by
 refine S.go λw1 S=>ai (C:=V0) (aM:=λ_=>[]) (A_ (Lg _ f w1 K) ?_);refine⟨_,jq S j,an rfl ⟨rfl,rfl,aj.of _ (S.e9 j (n:=1) rfl) ⟨(oK s.2 f,vJ s.2 f,()),S.VN f,S.al λb l S=>S.dx 0 rfl rfl rfl λq S=>?_⟩⟩⟩;have o: ∀x:Nat×List A9,(X.hb,gQ Q X A g)∈x::L0:=λx=>B3 _ j;cases e:vJ s.2 f with
 |false=>
  have c:iM s f=s:=ao (λh=>by rw[e] at h;cases h.1);have d:iK s f=2:=ax e;rw[c,d] at k;exact ay rfl (S.en λi S=>k i S.tail)
 |true=>
  have m: ¬ vJ s.2 f=false:=by rw[e];decide
  refine an rfl ⟨rfl,S.bW 0 rfl rfl ?_⟩;by_cases a:(oK s.2 f).1=5
  ·have c:iM s f=(s.1,fC s.2 f (aE 0 0)):=ax ⟨e,a⟩;have d:iK s f=rq s.2 f (aE 0 0):=by
    unfold iK;rw[ao m,ao (λh=>h a)]
   rw[c,d] at k;exact an (by simpa using a) ⟨rfl,rfl,aj.of _ (S.e9 (o _) (n:=1) rfl) (S.By f λi S=>S.en λp S=>k p S.tail)⟩
  ·have c:iM s f=s:=ao (λh=>a h.2);have d:iK s f=6:=by
    unfold iK;rw[ao m,ax a]
   rw[c,d] at k;exact ay (by simpa using a) (S.en λi S=>k i S.tail)
theorem CK (S:a7 Q D G w0 w s L0) (f:(X.hb,gQ Q X A g)∈L0) {K:Option B2->A1->Prop} (k: ∀h i j l e,a7 Q D G w0 e s ((h,[.slice (ad i) s.2.length j])::(i,flat eD s.2++l)::L0)->K (ad h) e):
 aB A2 14 (.el (.one .ptr)) [ah (ad X.hb)] w K:=by
 refine S.go λw1 S=>ai (C:=V0) (aM:=λ_=>[]) (A_ (CA _ w1 K) ?_);exact⟨_,jq S f,an rfl ⟨rfl,rfl,aj.of _ (S.e9 f (n:=1) rfl) (S.UT λa b c d e S=>S.en λm S=>k a b c d m S)⟩⟩
theorem CL (S:a7 Q D G w0 w s L0) (a:(X.hb,gQ Q X A g)∈L0) {K:Option B2->A1->Prop} (k: ∀b,a7 Q D G w0 b s L0->K (ad Q.bm) b):
 aB A2 12 (.el (.one .ptr)) [ah (ad X.hb)] w K:=by
 refine S.go λw1 S=>ai (C:=V0) (aM:=λ_=>[]) (A_ (CB _ w1 K) ?_);exact⟨_,jq S a,an rfl ⟨rfl,rfl,aj.of _ (S.e9 a (n:=0) rfl) (S.en λc S=>k c S)⟩⟩
end
structure Qf (A:Nat->GA) (g:Nat->Option GV) (A':Nat->GA) (g':Nat->Option GV):Prop where
 bg: ∀i,(A' i).bg=(A i).bg
 bt: ∀i,(A' i).bt=(A i).bt
 bm: ∀i,(A' i).bm=(A i).bm
 rt: ∀i,(g' i).map GV.root=(g i).map GV.root
section
variable {A A':Nat->GA} {g g':Nat->Option GV} {Q:Sys} {X:HX}
theorem Qf.ptr (h:Qf A g A' g'):iT A' g'=iT A g:=by
 funext i;have:=h.rt i;have hb:=h.bg i;unfold iT;cases a:g' i<;>cases h2:g i<;>rw[a,h2] at this<;>simp at this<;>simp[hb]
theorem Qf.cs (h:Qf A g A' g'):gQ Q X A' g'=gQ Q X A g:=by
 unfold gQ ka;rw[h.ptr]
theorem Qf.rows (h:Qf A g A' g') (l:List Nat):aW Q A' g' l=aW Q A g l:=by
 unfold aW;congr 1;funext i;have:=h.rt i;cases a:g' i<;>cases h2:g i<;>rw[a,h2] at this<;>simp at this
 ·dsimp only;unfold fO;rw[h.bg i,h.bt i,h.bm i,this]
theorem jT {i:Nat} {v:GV} (hi:i<17) (hv:g i=some v):(de A g (A3 17)).Perm (((A i).bm,Obj.map ⟨(A i).es⟩ (A i).ck)::de A g ((A3 17).erase i)):=by
 unfold de;refine(GS _ (Et (Bd.2 hi))).trans ?_;rw[E5,hv];exact ED _
theorem si {i:Nat} {v:GV} (hi:i<17) (hv:g i=some v):(aW Q A g (A3 17)).Perm (fO Q A i v++aW Q A g ((A3 17).erase i)):=by
 unfold aW;refine(GS _ (Et (Bd.2 hi))).trans ?_;rw[E5,hv]
theorem ve {i:Nat} (hi:i<17) (hv:g i=none):(de A g (A3 17)).Perm (de A g ((A3 17).erase i)):=by
 unfold de;refine(GS _ (Et (Bd.2 hi))).trans ?_;rw[E5,hv];exact ED _
theorem vf {i:Nat} (hi:i<17) (hv:g i=none):(aW Q A g (A3 17)).Perm (aW Q A g ((A3 17).erase i)):=by
 unfold aW;refine(GS _ (Et (Bd.2 hi))).trans ?_;rw[E5,hv];exact ED _
theorem jx {α β:Type} {f f':α->List β}: ∀{l:List α},(∀x∈l,f x=f' x)->l.flatMap f=l.flatMap f'
 |[], _=>rfl
 |x::l,h=>by
  rw[E5,E5,h x AC,jx λy a=>h y (B3 _ a)]
theorem Ja {i j:Nat} (h:j∈(A3 17).erase i):j≠i:=λe=>by
 subst e;exact(List.nodup_range.not_mem_erase) h
theorem mD {i:Nat} (h: ∀j,j≠i->A' j=A j/\g' j=g j):de A' g' ((A3 17).erase i)=de A g ((A3 17).erase i):=by
 unfold de;refine jx λj a=>?_;obtain⟨b,h2⟩:=h j (Ja a);rw[b,h2]
theorem sj {i:Nat} (h: ∀j,j≠i->A' j=A j/\g' j=g j):aW Q A' g' ((A3 17).erase i)=aW Q A g ((A3 17).erase i):=by
 unfold aW;refine jx λj a=>?_;obtain⟨b,h2⟩:=h j (Ja a);rw[h2];cases g j with
 |none=>rfl
 |some v=>dsimp only;unfold fO;rw[b]
end
def lS (A:Nat->GA) (i:Nat) (x:GA):Nat->GA:=λj=>if j=i then x else A j
def a9 (g:Nat->Option GV) (i:Nat) (x:Option GV):Nat->Option GV:=λj=>if j=i then x else g j
theorem m_ (A:Nat->GA) (i:Nat) (x:GA):lS A i x i=x:=ax rfl
theorem eT (g:Nat->Option GV) (i:Nat) (x:Option GV):a9 g i x i=x:=ax rfl
theorem xg (A:Nat->GA) (g:Nat->Option GV) (i:Nat) (x:GA) (y:Option GV): ∀j,j≠i->lS A i x j=A j/\a9 g i y j=g j:=λ_ h=>⟨ao h,ao h⟩
theorem DY {A:Nat->GA} {g:Nat->Option GV} {i:Nat} {v:GV} (hv:g i=some v) (es:List B4) (ck:Nat) (tk:List TK):Qf A g (lS A i {A i with es:=es,ck:=ck}) (a9 g i (some {v with tk:=tk})):=by
 refine⟨λj=>?_,λj=>?_,λj=>?_,λj=>?_⟩
 ·unfold lS;split
  ·rename_i e;subst e;rfl
  ·rfl
 ·unfold lS;split
  ·rename_i e;subst e;rfl
  ·rfl
 ·unfold lS;split
  ·rename_i e;subst e;rfl
  ·rfl
 ·unfold a9;split
  ·rename_i e;subst e;rw[hv];rfl
  ·rfl
theorem SM.Jb {Q:Sys} {D G:List Nat} {w0 w:A1} {s:WD} {L0:List (Nat×List A9)} {A:Nat->GA} {g:Nat->Option GV} (H:SM Q D G w0 w s L0 (de A g (A3 17))) {i:Nat} {v:GV} (hi:i<17) (hv:g i=some v) (es:List B4) (ck:Nat) (tk:List TK):
 SM Q D G w0 (w.putObj (A i).bm (.map ⟨es⟩ ck)) s L0 (de (lS A i {A i with es:=es,ck:=ck}) (a9 g i (some {v with tk:=tk})) (A3 17)):=by
 have a:=(H.pj (jT hi hv).symm).put (i:=0) rfl (o':= .map ⟨es⟩ ck) trivial;refine a.pj ((jT hi (v:={v with tk:=tk}) (eT _ _ _)).trans ?_);rw[mD (xg A g i _ _),m_];exact ED _
section
variable {Q:Sys} {X:HX} {D G:List Nat} {w0 w:A1} {s:WD} {L0:List (Nat×List A9)} {bg br bp c:Nat} {gs:List GT} {rest:List A9} {room:Int} {ps:List Po.PT}
namespace a7
theorem Oi (S:a7 Q D G w0 w s L0) (j b:Nat) (e:L0[j]? =some (bg,jU br gs.length c)) (f:L0[b]? =some (br,flat eG gs++rest)) (h0:0<gs.length) (i o:Int) {K:Int->A1->Prop}
 (k: ∀a,a7 Q D G w0 a s (L0.set b (br,flat eG (ji gs i o)++rest))->K (nE gs i o) a):
 aB A2 227 (.el (.one (.int .i64))) [ah (ad bg),aa i,aa o] w K:=by
 obtain⟨g,h2,h,l,ca,la,d⟩:=S;exact Ck d (j+4) (b+4) e f h0 i o λa d=>k a ⟨g,h2,h,l,ca,la,d⟩
theorem UU (S:a7 Q D G w0 w s L0) (j d:Nat) (f:L0[j]? =some (bg,jU br gs.length c)) (h:L0[d]? =some (br,flat eG gs++rest)) (h0:0<gs.length) (l: ∀x∈gs,0<=x.2.2.2.2.1/\x.2.2.2.2.1<=1000) (i g:Int) (b:Bool) {K:Int->A1->Prop}
 (k: ∀a,a7 Q D G w0 a s (L0.set d (br,flat eG (db gs i g b)++rest))->K (fq gs i g b) a):
 aB A2 224 (.el (.one (.int .i64))) [ah (ad bg),aa i,aa g,.bool b] w K:=by
 obtain⟨m,h2,n,o,ca,la,e⟩:=S;exact Kw e (j+4) (d+4) f h h0 l i g b λa e=>k a ⟨m,h2,n,o,ca,la,e⟩
theorem Pq (S:a7 Q D G w0 w s L0) (j b:Nat) (e:L0[j]? =some (bg,jU br gs.length c)) (f:L0[b]? =some (br,flat eG gs++rest)) (h0:0<gs.length) (h: ∀x∈gs,0<=x.2.2.2.2.1/\x.2.2.2.2.1<=1000) (i g:Int) {K:Int->A1->Prop}
 (k: ∀a,a7 Q D G w0 a s (L0.set b (br,flat eG (dK gs i g)++rest))->K (j_ gs i g) a):
 aB A2 225 (.el (.one (.int .i64))) [ah (ad bg),aa i,aa g] w K:=by
 obtain⟨l,h2,m,n,ca,la,d⟩:=S;exact Ky d (j+4) (b+4) e f h0 h i g λa d=>k a ⟨l,h2,m,n,ca,la,d⟩
theorem RY (S:a7 Q D G w0 w s L0) (j d:Nat) (f:L0[j]? =some (bg,jU br gs.length c)) (g:L0[d]? =some (br,flat eG gs++rest)) (h0:0<gs.length) (h:gs.length<=64) (o q t:Int) (b:Bool) {K:Int×Int×Unit->A1->Prop}
 (k: ∀a,a7 Q D G w0 a s (L0.set d (br,flat eG (il gs o q t b)++rest))->K (iJ gs o q t,jj gs o q t,()) a):
 aB A2 223 (.bH [.one (.int .i64),.one (.int .i64)]) [ah (ad bg),aa o,aa q,aa t,.bool b] w K:=by
 obtain⟨i,h2,l,m,ca,la,e⟩:=S;exact Fx e (j+4) (d+4) f g h0 h o q t b λa e=>k a ⟨i,h2,l,m,ca,la,e⟩
theorem UW (S:a7 Q D G w0 w s L0) (j a:Nat) (e:L0[j]? =some (bg,jU br gs.length c)) (f:L0[a]? =some (br,flat eG gs++rest)) (h0:0<gs.length) (h:gs.length<=64) (o:j≠a) (g:Int) {K:Int->A1->Prop}
 (k: ∀n b,a7 Q D G w0 b s (L0.set a (br,flat eG (cr gs g)++rest))->K n b):
 aB A2 208 (.el (.one (.int .i64))) [ah (ad bg),aa g] w K:=by
 obtain⟨i,h2,l,m,ca,la,d⟩:=S;exact Kz d (j+4) (a+4) e f h0 h (by omega) g λn b d=>k n b ⟨i,h2,l,m,ca,la,d⟩
theorem TV (S:a7 Q D G w0 w s L0) (j a:Nat) (b:L0[j]? =some (bg,jU br gs.length c)) (d:L0[a]? =some (br,flat eG gs++rest)) (h0:0<gs.length) (i:Int):
 ag A2 218 [ah (ad bg),aa i] w ((Sh.bH [eG,.one .bool]).gj (sH gs i,(jK gs i).isSome,())):=
 ag.of (s:= .bH [eG,.one .bool]) λw' h'=>RC ((S.get b).ext h') ((S.get d).ext h') h0 i
theorem UX (S:a7 Q D G w0 w s L0) (j:Nat) (c:L0[j]? =some (bp,Po.fm room ps)) (d:Po.okS room ps) (g r:Int) {K:Int×Int×Unit->A1->Prop}
 (k: ∀a,a7 Q D G w0 a s (L0.set j (bp,Po.fm room (Po.gH room ps g r).2))->K ((Po.gH room ps g r).1.1,(Po.gH room ps g r).1.2,()) a):
 aB A2 228 (.bH [.one (.int .i64),.one (.int .i64)]) [ah (ad bp),aa g,aa r] w K:=by
 obtain⟨e,h2,f,h,ca,la,b⟩:=S;exact Po.KA b (j+4) c d g r λa b=>k a ⟨e,h2,f,h,ca,la,b⟩
theorem pbind (S:a7 Q D G w0 w s L0) (j:Nat) (c:L0[j]? =some (bp,Po.fm room ps)) (d:Po.okS room ps) (g r i:Int) {K:Int×Int×Unit->A1->Prop}
 (k: ∀a,a7 Q D G w0 a s (L0.set j (bp,Po.fm room (Po.f_ room ps g r i).2))->K ((Po.f_ room ps g r i).1.1,(Po.f_ room ps g r i).1.2,()) a):
 aB A2 229 (.bH [.one (.int .i64),.one (.int .i64)]) [ah (ad bp),aa g,aa r,aa i] w K:=by
 obtain⟨e,h2,f,h,ca,la,b⟩:=S;exact Po.KB b (j+4) c d g r i λa b=>k a ⟨e,h2,f,h,ca,la,b⟩
theorem UY (S:a7 Q D G w0 w s L0) (j:Nat) (c:L0[j]? =some (bp,Po.fm room ps)) (d:Po.iY room ps) (g i:Int) {K:Int->A1->Prop}
 (k: ∀a,a7 Q D G w0 a s (L0.set j (bp,Po.fm room (Po.jk room ps g i).2))->K (Po.jk room ps g i).1 a):
 aB A2 230 (.el (.one (.int .i64))) [ah (ad bp),aa g,aa i] w K:=by
 obtain⟨e,h2,f,h,ca,la,b⟩:=S;exact Po.KC b (j+4) c d g i λa b=>k a ⟨e,h2,f,h,ca,la,b⟩
theorem RZ (S:a7 Q D G w0 w s L0) (j:Nat) (c:L0[j]? =some (bp,Po.fm room ps)) (d:Po.iY room ps) (g i:Int) {K:Int->A1->Prop}
 (k: ∀a,a7 Q D G w0 a s (L0.set j (bp,Po.fm room (Po.dL room ps g i).2))->K (Po.dL room ps g i).1 a):
 aB A2 232 (.el (.one (.int .i64))) [ah (ad bp),aa g,aa i] w K:=by
 obtain⟨e,h2,f,h,ca,la,b⟩:=S;exact Po.wO b (j+4) c d g i λa b=>k a ⟨e,h2,f,h,ca,la,b⟩
theorem UZ (S:a7 Q D G w0 w s L0) (j:Nat) (c:L0[j]? =some (bp,Po.fm room ps)) (d:Po.okS room ps) (g:Int) {K:Int×Bool×Unit->A1->Prop}
 (k: ∀a,a7 Q D G w0 a s (L0.set j (bp,Po.fm room (Po.fN room ps g).2))->K ((Po.fN room ps g).1.1,(Po.fN room ps g).1.2,()) a):
 aB A2 231 (.bH [.one (.int .i64),.one .bool]) [ah (ad bp),aa g] w K:=by
 obtain⟨e,h2,f,h,ca,la,b⟩:=S;exact Po.KG b (j+4) c d g λa b=>k a ⟨e,h2,f,h,ca,la,b⟩
theorem U0 (S:a7 Q D G w0 w s L0) (j:Nat) (c:L0[j]? =some (bp,Po.fm room ps)) (d:Po.iY room ps) (g:Int) {K:Int->A1->Prop}
 (k: ∀a,a7 Q D G w0 a s (L0.set j (bp,Po.fm room (Po.bY room ps g).2))->K (Po.bY room ps g).1 a):
 aB A2 209 (.el (.one (.int .i64))) [ah (ad bp),aa g] w K:=by
 obtain⟨e,h2,f,h,ca,la,b⟩:=S;exact Po.KK b (j+4) c d g λa b=>k a ⟨e,h2,f,h,ca,la,b⟩
theorem res (S:a7 Q D G w0 w s L0) {j b:Nat} {d f:A9} (c:L0[j]? =some (b,[d,f])) (v e:Int) {K:RS->A1->Prop} (k: ∀a,a7 Q D G w0 a s (L0.set j (b,[aq v,aa e]))->K (v,e,()) a):
 aw w (ad b) [aq v,aa e] λa=>ak a λw1=>aj w1 none (ad b) (.agg gY) λx=>K (x.1,x.2.1,()) w1:=by
 have g:j<L0.length:=(B5.1 c).1;refine S.dx j c rfl rfl λa S=>S.en λh S=>?_;exact S.ld j (B1 g) (show _=some (v,e,()) from rfl) (k h S)
end a7
end
def tT (h:HS) (gr:List GT):HS:={h with gr:=gr}
def wv (h:HS) (po:List Po.PT):HS:={h with po:=po}
def bJ (h:HS) (s:WD):HS:={h with s:=s}
abbrev fk (k a b c:Int):List A9:=[aa k,aq a,aq b,aq c]
theorem uL (gs:List GT) (i o:Int):(ji gs i o).length=gs.length:=by
 unfold ji;split
 ·rw[Bp]
 ·rfl
def yE (h:HS) (v a:Int):Int:=if a>=16 then 1 else nE h.gr a v
def lj (h:HS) (v a:Int):HS:=if a>=16 then h else tT h (ji h.gr a v)
section
variable {Q:Sys} {X:HX} {D G:List Nat} {w0 w:A1} {h:HS} {L:List (Nat×List A9)} {K:RS->A1->Prop}
theorem Gw (H:dA Q X D G w0 w h L) (v k:Int) {a:Int} (b c:Int) (m:0<=a) (kk: ∀f,dA Q X D G w0 f (lj h v a) L->K (0,yE h v a,()) f):
 ar A2 135 (.el (.agg gY)) [ah (ad X.hb),aa v,.agg ⟨fk k a b c⟩] w K:=by
 obtain⟨A,W,H⟩:=H;obtain⟨o,S,J⟩:=H.call;refine aO (C:=V0) (aM:=λ_=>[]) (A_ (AU _ v k a b c w K) ?_);refine S.al λp f S=>S.al λq r S=>⟨rfl,S.bW 1 rfl rfl ?_⟩;unfold yE lj at kk;refine ab (λd=>⟨trivial,S.res (j:=0) rfl 0 1 λi S=>?_⟩) (λd=>?_)
 ·rw[ax (by simpa using d),ax (by simpa using d)] at kk;exact kk i ⟨A,W,J (S.tail.tail)⟩
 ·have d: ¬ a>=16:=by simpa using d
  rw[ao d,ao d] at kk;refine⟨rfl,rfl,aj.of _ (S.e9 (X:=X) (A:=A) (g:=h.g) (by simp) (n:=2) rfl) ⟨rfl,S.bW 1 rfl rfl ?_⟩⟩;rw[bQ ⟨m,by omega⟩];refine S.Oi 3 4 rfl rfl (by rw[W.gl];decide) a v λi S=>⟨trivial,S.res (j:=0) rfl 0 _ λl S=>kk l ⟨A,⟨W.ig,W.mp,(uL _ _ _).trans W.gl,W.pt,W.gk.rev _ _⟩,J ?_⟩⟩;have S:=S.tail.tail;have e:(ji h.gr a v).length=h.gr.length:=uL _ _ _;show a7 Q [] o w l h.s ((X.hb,gQ Q X A h.g)::(X.gb,jU X.qs (ji h.gr a v).length X.c):: _);rw[e];exact S
end
set_option maxRecDepth 100000
open Go.RX D
def Is (h:HS) (v a:Int):Int:=if a>=4 then 1 else(Po.jk 4 h.po v a).1
def tU (h:HS) (v a:Int):HS:=if a>=4 then h else wv h (Po.jk 4 h.po v a).2
def BN (h:HS) (v a:Int):Int:=if a>=4 then 1 else(Po.dL 4 h.po v a).1
def om (h:HS) (v a:Int):HS:=if a>=4 then h else wv h (Po.dL 4 h.po v a).2
def Iu (h:HS) (v:Int):Int:=if(Po.fN 4 h.po v).1.2=true then(Po.fN 4 h.po v).1.1+1 else 0
def Iv (h:HS) (v:Int):HS:=wv h (Po.fN 4 h.po v).2
def De (h:HS) (v a:Int):Int×Int:=if cL h.g v a=0 then(Po.gH 4 h.po v a).1 else(0,cL h.g v a)
def tV (h:HS) (v a:Int):HS:=if cL h.g v a=0 then wv h (Po.gH 4 h.po v a).2 else h
def Df (h:HS) (v a b:Int):Int×Int:=if cL h.g v a=1\/b>=4 then(0,1) else if cL h.g v a=0 then(Po.f_ 4 h.po v a b).1 else(0,cL h.g v a)
def tW (h:HS) (v a b:Int):HS:=if cL h.g v a=1\/b>=4 then h else if cL h.g v a=0 then wv h (Po.f_ 4 h.po v a b).2 else h
theorem ri {g:Nat->Option GV} {v a:Int} (h:cL g v a≠1):1<=a/\a<=16:=by
 unfold cL at h;split at h
 ·exact absurd rfl h
 ·omega
theorem fv {a:Int} (h:0<=a/\a<18446744073709551616):aD .u64 a=a:=by
 unfold aD;simp only[IntKind.wrap,IntKind.bits,IntKind.signed];simp;omega
theorem Lw {ps:List Po.PT} {g:Int} (h:(Po.fN 4 ps g).1.2=true):0<=(Po.fN 4 ps g).1.1/\(Po.fN 4 ps g).1.1<4:=by
 unfold Po.fN at h ⊢;cases a:Po.mb 4 ps g with
 |nil=>rw[a] at h;cases h
 |cons i l=>
  have:=(Po.cf.1 (Po.pJ (ps:=ps) (g:=g) (x:=i) (room:=4) (by rw[a];exact AC)).1).2;exact this
theorem Oj {ps:List Po.PT} {g:Int} {x:Po.PT} (a:Po.gI g=true):0<=(Po.du 4 ps g x).1.1/\(Po.du 4 ps g x).1.1<4:=by
 unfold Po.du;split
 ·exact⟨Int.le_refl _,(by decide:(0:Int)<4)⟩
 ·rename_i b;have:=(Po.cf.1 (Po.kE a b).1).2;exact this
theorem Lx (ps:List Po.PT) (g r:Int):0<=(Po.gH 4 ps g r).1.1/\(Po.gH 4 ps g r).1.1<4:=by
 unfold Po.gH;split
 ·rename_i a;exact Oj (Po.mR.1 a).1
 ·exact⟨Int.le_refl _,(by decide:(0:Int)<4)⟩
section
variable {Q:Sys} {X:HX} {D G:List Nat} {w0 w:A1} {h:HS} {L:List (Nat×List A9)} {K:RS->A1->Prop}
theorem Ok (H:dA Q X D G w0 w h L) (v k:Int) {a:Int} (b c:Int) (i:0<=a) (kk: ∀e,dA Q X D G w0 e (tU h v a) L->K (0,Is h v a,()) e):
 ar A2 138 (.el (.agg gY)) [ah (ad X.hb),aa v,.agg ⟨fk k a b c⟩] w K:=by
 obtain⟨A,W,H⟩:=H;obtain⟨m,S,J⟩:=H.call;refine aO (C:=V0) (aM:=λ_=>[]) (A_ (Gn _ v k a b c w K) ?_);refine S.al λo e S=>S.al λp q S=>⟨rfl,S.bW 1 rfl rfl ?_⟩;unfold Is tU at kk;refine ab (λd=>⟨trivial,S.res (j:=0) rfl 0 1 λf S=>?_⟩) (λd=>?_)
 ·rw[ax (by simpa using d),ax (by simpa using d)] at kk;exact kk f ⟨A,W,J (S.tail.tail)⟩
 ·have d: ¬ a>=4:=by simpa using d
  rw[ao d,ao d] at kk;refine⟨rfl,rfl,aj.of _ (S.e9 (X:=X) (A:=A) (g:=h.g) (by simp) (n:=3) rfl) ⟨rfl,S.bW 1 rfl rfl ?_⟩⟩;rw[bQ ⟨i,by omega⟩];exact S.UY 5 rfl W.pt v a λf S=>⟨trivial,S.res (j:=0) rfl 0 _ λl S=>kk l ⟨A,⟨W.ig,W.mp,W.gl,W.pt.jk v a,W.gk⟩,J (S.tail.tail)⟩⟩
theorem Ly (H:dA Q X D G w0 w h L) (v k:Int) {a:Int} (b c:Int) (i:0<=a) (kk: ∀e,dA Q X D G w0 e (om h v a) L->K (0,BN h v a,()) e):
 ar A2 140 (.el (.agg gY)) [ah (ad X.hb),aa v,.agg ⟨fk k a b c⟩] w K:=by
 obtain⟨A,W,H⟩:=H;obtain⟨m,S,J⟩:=H.call;refine aO (C:=V0) (aM:=λ_=>[]) (A_ (CF _ v k a b c w K) ?_);refine S.al λo e S=>S.al λp q S=>⟨rfl,S.bW 1 rfl rfl ?_⟩;unfold BN om at kk;refine ab (λd=>⟨trivial,S.res (j:=0) rfl 0 1 λf S=>?_⟩) (λd=>?_)
 ·rw[ax (by simpa using d),ax (by simpa using d)] at kk;exact kk f ⟨A,W,J (S.tail.tail)⟩
 ·have d: ¬ a>=4:=by simpa using d
  rw[ao d,ao d] at kk;refine⟨rfl,rfl,aj.of _ (S.e9 (X:=X) (A:=A) (g:=h.g) (by simp) (n:=3) rfl) ⟨rfl,S.bW 1 rfl rfl ?_⟩⟩;rw[bQ ⟨i,by omega⟩];exact S.RZ 5 rfl W.pt v a λf S=>⟨trivial,S.res (j:=0) rfl 0 _ λl S=>kk l ⟨A,⟨W.ig,W.mp,W.gl,W.pt.dL v a,W.gk⟩,J (S.tail.tail)⟩⟩
theorem Ol (H:dA Q X D G w0 w h L) (v k a b c:Int) (kk: ∀e,dA Q X D G w0 e (Iv h v) L->K (Iu h v,0,()) e):
 ar A2 139 (.el (.agg gY)) [ah (ad X.hb),aa v,.agg ⟨fk k a b c⟩] w K:=by
 obtain⟨A,W,H⟩:=H;obtain⟨o,S,J⟩:=H.call;refine aO (C:=V0) (aM:=λ_=>[]) (A_ (Gp _ v k a b c w K) ?_);refine S.al λp e S=>S.al λq s S=>⟨rfl,rfl,aj.of _ (S.e9 (X:=X) (A:=A) (g:=h.g) (by simp) (n:=3) rfl) ?_⟩;unfold Iu Iv at kk;have l:=λh'=>Lw (ps:=h.po) (g:=v) h';refine S.UZ 5 rfl W.pt.tookS v λt S=>?_;obtain⟨r,m⟩: ∃r,r=Po.fN 4 h.po v:=⟨_,rfl⟩;have f:=W.pt.fN v;rw[<-m] at l kk S f ⊢;refine ab (λd=>S.res (j:=0) rfl 0 0 λi S=>?_) (λd=>?_)
 ·have d: ¬ r.1.2=true:=by simpa using d
  rw[ao d] at kk;exact kk i ⟨A,⟨W.ig,W.mp,W.gl,f,W.gk⟩,J (S.tail.tail)⟩
 ·have d:r.1.2=true:=by simpa using d
  rw[ax d] at kk;have:=l d;rw[av (by omega) (by omega),fv (by omega)];exact S.res (j:=0) rfl _ 0 λi S=>kk i ⟨A,⟨W.ig,W.mp,W.gl,f,W.gk⟩,J (S.tail.tail)⟩
theorem Om (H:dA Q X D G w0 w h L) (v k:Int) {a:Int} (b c:Int) (i:0<=a) (kk: ∀f,dA Q X D G w0 f (tV h v a) L->K ((De h v a).1,(De h v a).2,()) f):
 ar A2 136 (.el (.agg gY)) [ah (ad X.hb),aa v,.agg ⟨fk k a b c⟩] w K:=by
 obtain⟨A,W,H⟩:=H;obtain⟨o,S,J⟩:=H.call;refine aO (C:=V0) (aM:=λ_=>[]) (A_ (Gl _ v k a b c w K) ?_);refine S.al λp f S=>S.al λq r S=>⟨rfl,S.bW 1 rfl rfl ⟨_,uK S (X:=X) (A:=A) (g:=h.g) (by simp) v i,?_⟩⟩;unfold De tV at kk;refine ab (λd=>⟨trivial,S.res (j:=0) rfl 0 _ λl S=>?_⟩) (λd=>?_)
 ·have d: ¬ cL h.g v a=0:=by simpa using d
  rw[ao d,ao d] at kk;exact kk l ⟨A,W,J (S.tail.tail)⟩
 ·have d:cL h.g v a=0:=by simpa using d
  rw[ax d,ax d] at kk;have s:=ri (g:=h.g) (v:=v) (a:=a) (by rw[d];decide);refine⟨rfl,rfl,aj.of _ (S.e9 (X:=X) (A:=A) (g:=h.g) (by simp) (n:=3) rfl) ⟨rfl,S.bW 1 rfl rfl ?_⟩⟩;rw[bQ ⟨i,by omega⟩];have t:=Lx h.po v a;refine S.UX 5 rfl W.pt.tookS v a λl S=>?_;have e:aD .u64 (Po.gH 4 h.po v a).1.1=(Po.gH 4 h.po v a).1.1:=fv (by omega);dsimp only;rw[e];exact S.res (j:=0) rfl _ _ λm S=>kk m ⟨A,⟨W.ig,W.mp,W.gl,W.pt.gH v a,W.gk⟩,J (S.tail.tail)⟩
theorem Lz (ps:List Po.PT) (g r i:Int):0<=(Po.f_ 4 ps g r i).1.1/\(Po.f_ 4 ps g r i).1.1<4:=by
 unfold Po.f_;have z:(0:Int)<=0/\(0:Int)<4:=by decide
 split
 ·rename_i a;split
  ·exact z
  ·split
   ·exact z
   ·split
    ·exact z
    ·split
     ·exact z
     ·rename_i h2;have:=(Po.cf.1 (Po.kE (Po.mR.1 a).1 h2).1).2;exact this
 ·exact z
theorem On (H:dA Q X D G w0 w h L) (v k:Int) {a b:Int} (c:Int) (l:0<=a) (hb:0<=b) (kk: ∀i,dA Q X D G w0 i (tW h v a b) L->K ((Df h v a b).1,(Df h v a b).2,()) i):
 ar A2 137 (.el (.agg gY)) [ah (ad X.hb),aa v,.agg ⟨fk k a b c⟩] w K:=by
 obtain⟨A,W,H⟩:=H;obtain⟨o,S,J⟩:=H.call;refine aO (C:=V0) (aM:=λ_=>[]) (A_ (Gm _ v k a b c w K) ?_);refine S.al λp i S=>S.al λq r S=>⟨rfl,S.bW 1 rfl rfl ⟨_,uK S (X:=X) (A:=A) (g:=h.g) (by simp) v l,λ_=>rfl,S.bW 1 rfl rfl ?_⟩⟩;unfold Df tW at kk;refine ab (λd=>⟨trivial,S.res (j:=0) rfl 0 _ λf S=>?_⟩) (λd=>?_)
 ·have d:cL h.g v a=1\/b>=4:=by simpa using d
  rw[ax d,ax d] at kk;exact kk f ⟨A,W,J (S.tail.tail)⟩
 have d: ¬ (cL h.g v a=1\/b>=4):=by
  intro e;have:(cL h.g v a==1||decide (b>=4))=true:=by simpa using e
  rw[this] at d;cases d
 rw[ao d,ao d] at kk;refine ab (λd=>⟨trivial,S.res (j:=0) rfl 0 _ λf S=>?_⟩) (λd2=>?_)
 ·have d: ¬ cL h.g v a=0:=by simpa using d
  rw[ao d,ao d] at kk;exact kk f ⟨A,W,J (S.tail.tail)⟩
 ·have d2:cL h.g v a=0:=by simpa using d2
  rw[ax d2,ax d2] at kk;have s:=ri (g:=h.g) (v:=v) (a:=a) (by rw[d2];decide);have t:b<4:=by omega
  refine⟨rfl,rfl,aj.of _ (S.e9 (X:=X) (A:=A) (g:=h.g) (by simp) (n:=3) rfl) ⟨rfl,S.bW 1 rfl rfl ⟨rfl,S.bW 1 rfl rfl ?_⟩⟩⟩;rw[bQ ⟨l,by omega⟩,bQ ⟨hb,by omega⟩];have u:=Lz h.po v a b;refine S.pbind 5 rfl W.pt.tookS v a b λf S=>?_;have e:aD .u64 (Po.f_ 4 h.po v a b).1.1=(Po.f_ 4 h.po v a b).1.1:=fv (by omega);dsimp only;rw[e];exact S.res (j:=0) rfl _ _ λm S=>kk m ⟨A,⟨W.ig,W.mp,W.gl,W.pt.f_ v a b,W.gk⟩,J (S.tail.tail)⟩
end
theorem Ax (gs:List GT) (o q t:Int) (b:Bool):(il gs o q t b).length=gs.length:=by
 unfold il;split
 ·rw[Bp]
 ·rfl
theorem LA {gs:List GT} (b:gs.length=16) (o q t:Int):0<=iJ gs o q t/\iJ gs o q t<16:=by
 have z:(0:Int)<=0/\(0:Int)<16:=by decide
 unfold iJ;split
 ·cases a:cq gs dw gs.length with
  |nil=>exact z
  |cons x l=>
   obtain⟨i,hi, _,e⟩:=m5.1 (by rw[a];exact AC:x∈cq gs dw gs.length);show 0<=x/\x<16;omega
 ·exact z
def fY (h:HS) (v p:Int):Bool:=(fu h.g v p).2.1
def oq (h:HS) (v a b c:Int):Int:=
 if a>=65536 then 2 else if cL h.g v b=1\/c>1 then 1 else if(fj h.g h.s v a).2.2.1≠0\/cL h.g v b≠0 then 4 else if fY h v a=true then 7 else 0
def uj (h:HS) (v a b c:Int):Int×Int:=if oq h v a b c=0 then(iJ h.gr v a b,jj h.gr v a b) else(0,oq h v a b c)
def mn (h:HS) (v a b c:Int):HS:=if oq h v a b c=0 then tT h (il h.gr v a b (c==1)) else h
section
variable {Q:Sys} {X:HX} {D G:List Nat} {w0 w:A1} {h:HS} {L:List (Nat×List A9)} {K:RS->A1->Prop}
theorem bF {A:Nat->GA} (W:wc A h) (T:List (Nat×List A9)): ∀i v,h.g i=some v-> ∀x∈fO Q A i v,x∈T++dC Q X A h (aW Q A h.g (A3 17)++L):=λi v hv x a=>by
 have:=W.ig hv;exact C7 _ (B3 _ (B3 _ (B3 _ (B3 _ (H9 _ (Gt (Bd.2 (by omega)) hv x a))))))
theorem eV {A:Nat->GA} (W:wc A h): ∀i v,h.g i=some v->((A i).bm,Obj.map ⟨(A i).es⟩ (A i).ck)∈de A h.g (A3 17):=λi v hv=>by
 have:=W.ig hv;exact Gu (Bd.2 (by omega)) hv
theorem LB (H:dA Q X D G w0 w h L) (v k:Int) {a b c:Int} (z:0<=a) (hb:0<=b) (hc:0<=c) (kk: ∀l,dA Q X D G w0 l (mn h v a b c) L->K ((uj h v a b c).1,(uj h v a b c).2,()) l):
 ar A2 132 (.el (.agg gY)) [ah (ad X.hb),aa v,.agg ⟨fk k a b c⟩] w K:=by
 obtain⟨A,W,H⟩:=H;obtain⟨B,S,J⟩:=H.call;refine aO (C:=V0) (aM:=λ_=>[]) (A_ (CE _ v k a b c w K) ?_);refine S.al λF l S=>S.al λI M S=>⟨rfl,S.bW 1 rfl rfl ⟨_,uK S (X:=X) (A:=A) (g:=h.g) (by simp) v hb,rfl,S.bW 1 rfl rfl ?_⟩⟩;have m:oq h v a b c≠0-> ∀{l},dA Q X D G w0 l h L->K (0,oq h v a b c,()) l:=λr l H=>by
  have o:uj h v a b c=(0,oq h v a b c):=ao r;have p:mn h v a b c=h:=ao r;rw[o,p] at kk;exact kk l H
 have f:oq h v a b c=if a>=65536 then 2 else if cL h.g v b=1\/c>1 then 1 else if(fj h.g h.s v a).2.2.1≠0\/cL h.g v b≠0 then 4 else if fY h v a=true then 7 else 0:=rfl;refine ab (λd=>⟨trivial,S.res (j:=0) rfl 0 _ λt S=>?_⟩) (λd=>⟨λ_=>rfl,S.bW 1 rfl rfl ?_⟩)
 ·rw[ax (by simpa using d)] at f;rw[f] at m;exact m (by decide) ⟨A,W,J S.tail.tail⟩
 have d: ¬ a>=65536:=by simpa using d
 rw[ao d] at f;have q:aD .i64 a=a:=bQ ⟨z,by omega⟩;refine ab (λd=>⟨trivial,S.res (j:=0) rfl 0 _ λt S=>?_⟩) (λd2=>⟨rfl,S.bW 1 rfl rfl ?_⟩)
 ·rw[ax (by simpa using d)] at f;rw[f] at m;exact m (by decide) ⟨A,W,J S.tail.tail⟩
 have d2: ¬ (cL h.g v b=1\/c>1):=by
  intro e;have:(cL h.g v b==1||decide (c>1))=true:=by simpa using e
  rw[this] at d2;cases d2
 rw[ao d2] at f;rw[q];refine rh S (X:=X) (A:=A) (g:=h.g) (by simp) (bF W [_, _]) v a λt S=>?_;refine ab (λd=>⟨trivial,S.res (j:=0) rfl 0 _ λu S=>?_⟩) (λd3=>⟨rfl,S.bW 1 rfl rfl ?_⟩)
 ·rw[ax (by simpa using d)] at f;rw[f] at m;exact m (by decide) ⟨A,W,J S.tail.tail⟩
 have d3: ¬ ((fj h.g h.s v a).2.2.1≠0\/cL h.g v b≠0):=by
  intro e;have:((fj h.g h.s v a).2.2.1 != 0||cL h.g v b != 0)=true:=by simpa using e
  rw[this] at d3;cases d3
 rw[ao d3] at f;rw[q];refine⟨fu h.g v a,mw (J S) (X:=X) (A:=A) (g:=h.g) (by simp) (bF W [_, _]) (eV W) (λi x E=>W.mp E) v a,?_⟩;refine ab (λd=>⟨trivial,S.res (j:=0) rfl 0 _ λu S=>?_⟩) (λd4=>?_)
 ·rw[ax (show fY h v a=true from d)] at f;rw[f] at m;exact m (by decide) ⟨A,W,J S.tail.tail⟩
 rw[ao (show ¬ fY h v a=true by unfold fY;rw[d4];decide)] at f;have o:uj h v a b c=(iJ h.gr v a b,jj h.gr v a b):=ax f;have p:mn h v a b c=tT h (il h.gr v a b (c==1)):=ax f;rw[o,p] at kk;have N:=ri (g:=h.g) (v:=v) (a:=b) (λe=>d2 (.inl e));refine⟨rfl,rfl,aj.of _ (S.e9 (X:=X) (A:=A) (g:=h.g) (by simp) (n:=2) rfl) ⟨rfl,S.bW 1 rfl rfl ⟨rfl,S.bW 1 rfl rfl ⟨rfl,S.bW 1 rfl rfl ?_⟩⟩⟩⟩;rw[q,bQ ⟨hb,by omega⟩];have O:=LA W.gl v a b;refine S.RY 3 4 rfl rfl (by rw[W.gl];decide) (by rw[W.gl];decide) v a b (c==1) λu S=>?_;dsimp only;rw[fv (by omega)];refine S.res (j:=0) rfl _ _ λy S=>kk y ⟨A,⟨W.ig,W.mp,(Ax _ _ _ _ _).trans W.gl,W.pt,W.gk.off _ _ _ _⟩,J ?_⟩;have S:=S.tail.tail;have e:(il h.gr v a b (c==1)).length=h.gr.length:=Ax _ _ _ _ _;show a7 Q [] B w y h.s ((X.hb,gQ Q X A h.g)::(X.gb,jU X.qs (il h.gr v a b (c==1)).length X.c):: _);rw[e];exact S
end
def gU (h:HS) (v a t:Int):Int×Int:=if a>=1048576 then(0,2) else(aC .i64 (dO .i64 16 (tG h.s.1 (a6 h.g v) (a / 16) t).1) (a % 16),(tG h.s.1 (a6 h.g v) (a / 16) t).2.2.2.1)
def Dg (h:HS) (v a:Int):Int×Int:=if(gU h v a 1).2≠0 then(0,(gU h v a 1).2) else(dB h.s.1 (gU h v a 1).1,yX h.s.1 (gU h v a 1).1)
def BO (h:HS) (v a:Int):Int:=if(gU h v a 2).2≠0 then(gU h v a 2).2 else yX h.s.1 (gU h v a 2).1
def mo (h:HS) (v a b:Int):HS:=if(gU h v a 2).2≠0 then h else bJ h (cW h.s.1 (gU h v a 2).1 b,h.s.2)
def di (s:WD):Nat->WD×Nat
 |0=>(s,0)
 |n+1=>(iM (di s n).1 (n:Int),(di s n).2+if iK (di s n).1 (n:Int)=0 then 1 else 0)
theorem Gx (s:WD) (f:Int):(iM s f).1=s.1/\(iM s f).2.length=s.2.length:=by
 unfold iM;split
 ·exact⟨rfl,gO _ _ _⟩
 ·exact⟨rfl,rfl⟩
theorem xh (s:WD): ∀n,(di s n).1.1=s.1/\(di s n).1.2.length=s.2.length
 |0=>⟨rfl,rfl⟩
 |n+1=>by
  have h:=Gx (di s n).1 (n:Int);have h2:=xh s n;exact⟨h.1.trans h2.1,h.2.trans h2.2⟩
theorem xi (s:WD): ∀n,(di s n).2<=n
 |0=>Do _
 |n+1=>by
  have:=xi s n;show(di s n).2+ _<=n+1;split<;>omega
theorem U3 {a:Int} (h:0<=a/\a<1048576):aD .i64 (nh .u64 a 16)=a / 16:=by
 have e:nh .u64 a 16=a / 16:=by
  show aD .u64 (a.tdiv 16)= _;rw[Int.tdiv_eq_ediv_of_nonneg h.1];exact fv (by omega)
 rw[e];exact bQ (by omega)
theorem U4 {a:Int} (h:0<=a):aD .i64 (gu a 16)=a % 16:=by
 have e:gu a 16=a % 16:=by
  unfold gu;exact Int.tmod_eq_emod_of_nonneg h
 rw[e];exact bQ (by omega)
section
variable {Q:Sys} {X:HX} {D G:List Nat} {w0 w:A1} {h:HS} {L:List (Nat×List A9)} {K:RS->A1->Prop}
theorem Ay {f:List Nat} {j:A1} {A:Nat->GA} {s:WD} {L0:List (Nat×List A9)} (S:a7 Q [] f j w s L0) (m:s=h.s) (k:(X.hb,gQ Q X A h.g)∈L0) (o: ∀i v,h.g i=some v-> ∀x∈fO Q A i v,x∈L0) (v:Int) {a:Int} (l:0<=a) (t:Int) {K:Int×Int×Unit->A1->Prop}
 (kk: ∀c,a7 Q [] f j c s L0->K ((gU h v a t).1,(gU h v a t).2,()) c):
 aB A2 220 (.bH [.one (.int .i64),.one (.int .i64)]) [ah (ad X.hb),aa v,aq a,aa t] w K:=by
 subst m;refine S.go λw1 S=>ai (C:=V0) (aM:=λ_=>[]) (A_ (Lh _ v a t w1 K) ?_);unfold gU at kk;refine ab (λd=>S.en λc S=>?_) (λd=>?_)
 ·rw[ax (by simpa using d)] at kk;exact kk c S
 ·have d: ¬ a>=1048576:=by simpa using d
  rw[ao d] at kk;rw[U3 ⟨l,by omega⟩,U4 l];refine⟨rfl,rfl,aj.of _ (S.e9 (X:=X) (A:=A) (g:=h.g) k (n:=0) rfl) ⟨_,DX S k o v,?_,?_⟩⟩
  ·exact S.walk _ _ _ λc S=>S.al λb p S=>S.dx 0 rfl rfl rfl λq S=>⟨rfl,S.bW 0 rfl rfl ⟨rfl,S.bW 0 rfl rfl (S.en λe S=>kk e S.tail)⟩⟩
  ·exact S.al λb p S=>S.walk _ _ _ λc S=>S.dx 0 rfl rfl rfl λq S=>⟨rfl,S.bW 0 rfl rfl ⟨rfl,S.bW 0 rfl rfl (S.en λe S=>kk e S.tail)⟩⟩
theorem Oo (H:dA Q X D G w0 w h L) (v k:Int) {a:Int} (b c:Int) (i:0<=a) (kk: ∀e,dA Q X D G w0 e h L->K ((Dg h v a).1,(Dg h v a).2,()) e):
 ar A2 130 (.el (.agg gY)) [ah (ad X.hb),aa v,.agg ⟨fk k a b c⟩] w K:=by
 obtain⟨A,W,H⟩:=H;obtain⟨m,S,J⟩:=H.call;refine aO (C:=V0) (aM:=λ_=>[]) (A_ (Gf _ v k a b c w K) ?_);refine S.al λo e S=>S.al λp q S=>⟨rfl,S.bW 1 rfl rfl (Ay (h:=h) (A:=A) S rfl (by simp) (bF W [_, _]) v i 1 λr S=>?_)⟩;unfold Dg at kk;refine ab (λd=>⟨trivial,S.res (j:=0) rfl 0 _ λf S=>?_⟩) (λd=>?_)
 ·rw[ax (by simpa using d)] at kk;exact kk f ⟨A,W,J S.tail.tail⟩
 ·rw[ao (by simpa using d)] at kk;exact⟨rfl,rfl,aj.of _ (S.e9 (X:=X) (A:=A) (g:=h.g) (by simp) (n:=0) rfl) (S.load _ λf S=>S.res (j:=0) rfl _ _ λl S=>kk l ⟨A,W,J S.tail.tail⟩)⟩
theorem LC (H:dA Q X D G w0 w h L) (v k:Int) {a b:Int} (c:Int) (i:0<=a) (hb:0<=b/\b<18446744073709551616) (kk: ∀e,dA Q X D G w0 e (mo h v a b) L->K (0,BO h v a,()) e):
 ar A2 131 (.el (.agg gY)) [ah (ad X.hb),aa v,.agg ⟨fk k a b c⟩] w K:=by
 obtain⟨A,W,H⟩:=H;obtain⟨m,S,J⟩:=H.call;refine aO (C:=V0) (aM:=λ_=>[]) (A_ (CD _ v k a b c w K) ?_);refine S.al λo e S=>S.al λp q S=>⟨rfl,S.bW 1 rfl rfl (Ay (h:=h) (A:=A) S rfl (by simp) (bF W [_, _]) v i 2 λr S=>?_)⟩;unfold mo BO at kk;refine ab (λd=>⟨trivial,S.res (j:=0) rfl 0 _ λf S=>?_⟩) (λd=>?_)
 ·rw[ax (by simpa using d),ax (by simpa using d)] at kk;exact kk f ⟨A,W,J S.tail.tail⟩
 ·rw[ao (by simpa using d),ao (by simpa using d)] at kk;exact⟨rfl,rfl,aj.of _ (S.e9 (X:=X) (A:=A) (g:=h.g) (by simp) (n:=0) rfl) ⟨rfl,S.bW 1 rfl rfl (S.store _ b hb λf S=>⟨trivial,S.res (j:=0) rfl 0 _ λl S=>kk l ⟨A,⟨W.ig,W.mp,W.gl,W.pt,W.gk⟩,J S.tail.tail⟩⟩)⟩⟩
theorem LD (H:dA Q X D G w0 w h L) (v k a b c:Int) (kk: ∀e,dA Q X D G w0 e (bJ h (di h.s h.s.2.length).1) L->K (((di h.s h.s.2.length).2:Int),0,()) e):
 ar A2 126 (.el (.agg gY)) [ah (ad X.hb),aa v,.agg ⟨fk k a b c⟩] w K:=by
 obtain⟨A,W,H⟩:=H;obtain⟨r,S,J⟩:=H.call;refine aO (C:=V0) (aM:=mI) (A_ (CC _ v k a b c w K) ?_);have N:=S.le;refine S.al λt e S=>S.al λz O S=>⟨rfl,rfl,aj.of _ (S.e9 (X:=X) (A:=A) (g:=h.g) (by simp) (n:=1) rfl) ⟨_,S.QI,?_⟩⟩;refine⟨λn u w'=> ∃m:Nat,u.1=((di h.s m).2:Int)/\u.2.1=(m:Int)/\n+m=h.s.2.length/\a7 Q [] r w w' (di h.s m).1 ((z,[aq 0,aa 0])::(t,fk k a b c)::dC Q X A h (aW Q A h.g (A3 17)++L)),⟨h.s.2.length,λB E=>⟨0,rfl,rfl,rfl,S.ext E⟩⟩,?_⟩;clear S;rintro n ⟨x,y,u⟩ B ⟨m,l,o,P,S⟩;dsimp only at l o ⊢;subst l;subst o;have hc:=xi h.s m;refine ab (λf=>?_) (λf=>?_)
 ·have p:m<h.s.2.length:=by simpa using f
  refine Lv S (X:=X) (A:=A) (g:=h.g) (by simp) (m:Int) λq S=>?_;have F:aC .i64 (m:Int) 1=((m+1:Nat):Int):=by rw[av (by omega) (by omega)];omega
  have I:aC .i64 ((di h.s m).2:Int) 1=(((di h.s m).2+1:Nat):Int):=by rw[av (by omega) (by omega)];omega
  rw[F,I];refine ab (λd=>λM i=>⟨n - 1,by omega,m+1,?_,rfl,by omega,S.ext i⟩) (λd=>λM i=>⟨n - 1,by omega,m+1,?_,rfl,by omega,S.ext i⟩)
  ·have d:iK (di h.s m).1 (m:Int)=0:=by simpa using d
   show _=(((di h.s m).2+if iK (di h.s m).1 (m:Int)=0 then 1 else 0:Nat):Int);rw[ax d]
  ·have d: ¬ iK (di h.s m).1 (m:Int)=0:=by simpa using d
   show _=(((di h.s m).2+if iK (di h.s m).1 (m:Int)=0 then 1 else 0:Nat):Int);rw[ao d];rfl
 ·have p:m=h.s.2.length:=by
   have: ¬ m<h.s.2.length:=by simpa using f
   omega
  subst p;rw[fv (by omega)];exact S.res (j:=0) rfl _ 0 λq S=>kk q ⟨A,⟨W.ig,W.mp,W.gl,W.pt,W.gk⟩,J S.tail.tail⟩
end
theorem cd {g:Nat->Option GV} {v:Int} (a:aX g v=true): ∃x,g v.toNat=some x/\a6 g v=x.root/\((v.toNat:Nat):Int)=v/\1<=v/\v<=16:=by
 obtain⟨hv,x,b⟩:=g_.1 a;refine⟨x,b,?_,by omega,hv.1,hv.2⟩;unfold a6;rw[ax a,b]
theorem a7.oX {Q:Sys} {X:HX} {D G:List Nat} {w0 w:A1} {s:WD} {L0:List (Nat×List A9)} {A:Nat->GA} {g:Nat->Option GV} (S:a7 Q D G w0 w s L0) (d:(X.hb,gQ Q X A g)∈L0) (b: ∀i v,g i=some v-> ∀x∈fO Q A i v,x∈L0) {v:Int} (e:aX g v=true):
 cI w (ae (ae (ad X.hb) 4) (v.toNat*1)) (.one .ptr) (some ⟨(A v.toNat).bg,0,none⟩)/\cI w (ae (some ⟨(A v.toNat).bg,0,none⟩) 0) (.one .ptr) (some ⟨(A v.toNat).bt,0,none⟩)/\cI w (ae (some ⟨(A v.toNat).bg,0,none⟩) 1) (.one .map) (some (A v.toNat).bm)/\
  ∃j:Nat,L0[j]? =some ((A v.toNat).bt,lX Q v (a6 g v) false):=by
 obtain⟨x,a,f,hv,m,h2⟩:=cd e;have hc:=S.pk d (v:=v) ⟨by omega,h2⟩;have h:iT A g v.toNat=some ⟨(A v.toNat).bg,0,none⟩:=by unfold iT;rw[a]
 rw[h] at hc;obtain⟨j1,c⟩:=Bb (b _ _ a _ AC);obtain⟨k,l⟩:=Bb (b _ _ a _ (B3 _ AC));refine⟨hc,?_,?_,k,?_⟩
 ·rw[aL];exact bI (S.get c) rfl
 ·rw[aL];exact bI (S.get c) rfl
 ·rw[f, <-hv];exact l
def rJ (h:HS) (v a b:Int):Int:=
 if a>=65536 then 2 else if b<1\/b>7 then 7 else if fY h v a=true/\lY .u64 b 2>0/\(sH h.gr (fu h.g v a).1).2.2.2.1=false then 7 else Bt h.s v (a6 h.g v) false a b
def jM (h:HS) (v a b:Int):HS:=
 if a>=65536 then h else if b<1\/b>7 then h else if fY h v a=true/\lY .u64 b 2>0/\(sH h.gr (fu h.g v a).1).2.2.2.1=false then h else bJ h (n6 h.s v (a6 h.g v) false a b)
section
variable {Q:Sys} {X:HX} {D G:List Nat} {w0 w:A1} {h:HS} {L:List (Nat×List A9)} {K:RS->A1->Prop}
theorem CM (H:dA Q X D G w0 w h L) {v:Int} (m:aX h.g v=true) (k:Int) {a b:Int} (c:Int) (F:0<=a) (hb:0<=b) (kk: ∀f,dA Q X D G w0 f (jM h v a b) L->K (0,rJ h v a b,()) f):
 ar A2 129 (.el (.agg gY)) [ah (ad X.hb),aa v,.agg ⟨fk k a b c⟩] w K:=by
 obtain⟨A,W,H⟩:=H;obtain⟨I,S,J⟩:=H.call;obtain⟨x,o,P,hv,R,U⟩:=cd m;refine aO (C:=V0) (aM:=λ_=>[]) (A_ (yT _ v k a b c w K) ?_);refine S.al λM f S=>S.al λt V S=>⟨rfl,S.bW 1 rfl rfl ?_⟩;unfold rJ jM at kk;refine ab (λd=>⟨trivial,S.res (j:=0) rfl 0 _ λp S=>?_⟩) (λd=>⟨rfl,S.bW 1 rfl rfl ⟨λ_=>rfl,S.bW 1 rfl rfl ?_⟩⟩)
 ·rw[ax (by simpa using d),ax (by simpa using d)] at kk;exact kk p ⟨A,W,J S.tail.tail⟩
 have d: ¬ a>=65536:=by simpa using d
 rw[ao d,ao d] at kk;refine ab (λd=>⟨trivial,S.res (j:=0) rfl 0 _ λp S=>?_⟩) (λd2=>?_)
 ·have d:b<1\/b>7:=by simpa using d
  rw[ax d,ax d] at kk;exact kk p ⟨A,W,J S.tail.tail⟩
 have d2: ¬ (b<1\/b>7):=by
  intro e;have:(decide (b<1)||decide (b>7))=true:=by simpa using e
  rw[this] at d2;cases d2
 rw[ao d2,ao d2] at kk;have u:aD .i64 a=a:=bQ ⟨F,by omega⟩;have z:aD .i64 b=b:=bQ ⟨hb,by omega⟩;have fin: ∀{r:A1} {T:List (Nat×List A9)} {q:Nat},a7 Q [] I w r h.s (T++((t,[aq 0,aa 0])::(M,fk k a b c)::dC Q X A h (aW Q A h.g (A3 17)++L)))->T.length=q->(¬ (fY h v a=true/\lY .u64 b 2>0/\(sH h.gr (fu h.g v a).1).2.2.2.1=false))->
  aB A2 219 (.el (.one (.int .i64))) [ah (some ⟨(A v.toNat).bt,0,none⟩),aa a,aa b] r λ(x:Int) (f:A1)=>True/\aw f (ad t) [aq 0,aa x] λ(f:A1)=>ak f λ(w1:A1)=>aj w1 none (ad t) (.agg gY) λ(x:Int×Int×Unit)=>K (x.1,x.2.1,()) w1:=by
  intro r T q S Y B;rw[ao B,ao B] at kk;obtain⟨_, _, _,j,N⟩:=S.oX (X:=X) (A:=A) (g:=h.g) (by simp) (λi v hv x o=>C7 T (bF W [_, _] i v hv x o)) m;refine S.pz j N a b λE S=>⟨trivial,S.res (j:=T.length) (by rw[HB (Do _),Nat.sub_self];rfl) 0 _ λO S=>kk O ⟨A,⟨W.ig,W.mp,W.gl,W.pt,W.gk⟩,J ?_⟩⟩;rw[HL _ _ (Do _),Nat.sub_self] at S;have S:=S.sub (IG T _);exact S.tail.tail
 refine⟨rfl,S.bW 1 rfl rfl ⟨fu h.g v a,by rw[u];exact mw (J S) (X:=X) (A:=A) (g:=h.g) (by simp) (bF W [_, _]) (eV W) (λi x o=>W.mp o) v a,λ_=>rfl,S.bW 1 rfl rfl (ab (λd3=>?_) (λd3=>?_))⟩⟩
 ·have d3:fY h v a=true/\lY .u64 b 2>0:=by
   have:=d3;rw[EB,decide_eq_true_eq] at this;exact this
  refine⟨rfl,rfl,aj.of _ (S.e9 (X:=X) (A:=A) (g:=h.g) (by simp) (n:=2) rfl) ⟨(sH h.gr (fu h.g v a).1,(jK h.gr (fu h.g v a).1).isSome,()),S.TV 3 4 rfl rfl (by rw[W.gl];decide) _,S.al λZ p S=>S.dx 0 rfl rfl rfl λr S=>⟨rfl,S.bW 0 rfl rfl (ab (λd4=>⟨trivial,S.res (j:=1) rfl 0 _ λE S=>?_⟩) (λd4=>?_))⟩⟩⟩
  ·have d4:(sH h.gr (fu h.g v a).1).2.2.2.1=false:=by simpa using d4
   rw[ax ⟨d3.1,d3.2,d4⟩,ax ⟨d3.1,d3.2,d4⟩] at kk;exact kk E ⟨A,W,J S.tail.tail.tail⟩
  ·have d4:(sH h.gr (fu h.g v a).1).2.2.2.1=true:=by simpa using d4
   obtain⟨g1,y, _, _⟩:=S.oX (X:=X) (A:=A) (g:=h.g) (by simp) (bF W [_, _, _]) m;exact⟨rfl,rfl,⟨rfl,by omega,by show v<((17:Nat):Int);omega⟩,aj.of _ g1 ⟨rfl,rfl,aj.of _ y ⟨rfl,S.bW 2 rfl rfl ⟨rfl,S.bW 2 rfl rfl (by
    rw[u,z];exact fin (T:=[_]) S rfl (λl=>by rw[d4] at l;cases l.2.2))⟩⟩⟩⟩
 ·have d3: ¬ (fY h v a=true/\lY .u64 b 2>0):=by
   intro e;have:((fu h.g v a).2.1&&decide (lY .u64 b 2>0))=true:=by rw[EB,decide_eq_true_eq];exact e
   rw[this] at d3;cases d3
  obtain⟨g1,y, _, _⟩:=S.oX (X:=X) (A:=A) (g:=h.g) (by simp) (bF W [_, _]) m;exact⟨rfl,rfl,⟨rfl,by omega,by show v<((17:Nat):Int);omega⟩,aj.of _ g1 ⟨rfl,rfl,aj.of _ y ⟨rfl,S.bW 1 rfl rfl ⟨rfl,S.bW 1 rfl rfl (by
   rw[u,z];exact fin (T:=[]) S rfl (λl=>d3 ⟨l.1,l.2.1⟩))⟩⟩⟩⟩
end
theorem Gy (s:WD) (r:Int) (gone:Bool) (p:Int):0<=(a_ s r gone p).1/\(a_ s r gone p).1<5000:=by
 have z:(0:Int)<=0/\(0:Int)<5000:=by decide
 unfold a_;split
 ·exact z
 ·split
  ·exact z
  ·split
   ·have h:=DJ (B (dB s.1 (dh s.1 r p).2.2.1)).toNat;have h:0<=(cK s.1 r p).2.2.2.1/\(cK s.1 r p).2.2.2.1<4096:=h;show 0<=np p (dh s.1 r p) (cK s.1 r p)/\np p (dh s.1 r p) (cK s.1 r p)<5000;unfold np;split<;>omega
   ·exact z
theorem Az (g:Nat->Option GV) (s:WD) (v p:Int):0<=(fj g s v p).1/\(fj g s v p).1<5000:=by
 have z:(0:Int)<=0/\(0:Int)<5000:=by decide
 unfold fj;split
 ·split
  ·exact Gy _ _ _ _
  ·exact z
 ·exact z
def vQ (h:HS) (v a:Int):Int:=
 if a>=65536 then 2 else if(fj h.g h.s v a).2.2.1≠0 then(fj h.g h.s v a).2.2.1 else if fY h v a=true then 7 else if(oK h.s.2 (fj h.g h.s v a).1).2.2.1>0 then 9 else 0
def H8 (h:HS) (v a:Int):Int×Int:=if vQ h v a=0 then((fj h.g h.s v a).1,0) else(0,vQ h v a)
def sL (h:HS) (v a:Int):HS:=if vQ h v a=0 then bJ h ((kR h.s v (a6 h.g v) false a).1,fC (kR h.s v (a6 h.g v) false a).2 (fj h.g h.s v a).1 (aE 5 v)) else h
section
variable {Q:Sys} {X:HX} {D G:List Nat} {w0 w:A1} {h:HS} {L:List (Nat×List A9)} {K:RS->A1->Prop}
theorem CN (H:dA Q X D G w0 w h L) {v:Int} (q:aX h.g v=true) (u:EC Q h.s) (y:0<=a6 h.g v/\a6 h.g v<4096) (k:Int) {a:Int} (b c:Int) (z:0<=a) (kk: ∀f,dA Q X D G w0 f (sL h v a) L->K ((H8 h v a).1,(H8 h v a).2,()) f):
 ar A2 128 (.el (.agg gY)) [ah (ad X.hb),aa v,.agg ⟨fk k a b c⟩] w K:=by
 obtain⟨A,W,H⟩:=H;obtain⟨N,S,J⟩:=H.call;obtain⟨x,r,O,hv,P,R⟩:=cd q;refine aO (C:=V0) (aM:=λ_=>[]) (A_ (yS _ v k a b c w K) ?_);have l:vQ h v a≠0-> ∀{f},dA Q X D G w0 f h L->K (0,vQ h v a,()) f:=λt f H=>by
  have m:H8 h v a=(0,vQ h v a):=ao t;have o:sL h v a=h:=ao t;rw[m,o] at kk;exact kk f H
 have e:vQ h v a=if a>=65536 then 2 else if(fj h.g h.s v a).2.2.1≠0 then(fj h.g h.s v a).2.2.1 else if fY h v a=true then 7 else if(oK h.s.2 (fj h.g h.s v a).1).2.2.1>0 then 9 else 0:=rfl;refine S.al λT f S=>S.al λU V S=>⟨rfl,S.bW 1 rfl rfl ?_⟩;refine ab (λd=>⟨trivial,S.res (j:=0) rfl 0 _ λB S=>?_⟩) (λd=>⟨rfl,S.bW 1 rfl rfl ?_⟩)
 ·rw[ax (by simpa using d)] at e;rw[e] at l;exact l (by decide) ⟨A,W,J S.tail.tail⟩
 have d: ¬ a>=65536:=by simpa using d
 rw[ao d] at e;have E:aD .i64 a=a:=bQ ⟨z,by omega⟩;rw[E];refine rh S (X:=X) (A:=A) (g:=h.g) (by simp) (bF W [_, _]) v a λB S=>?_;have Y:=Az h.g h.s v a;refine ab (λd=>⟨trivial,S.res (j:=0) rfl 0 _ λp S=>?_⟩) (λd2=>?_)
 ·have d:(fj h.g h.s v a).2.2.1≠0:=by simpa using d
  rw[ax d] at e;rw[e] at l;exact l d ⟨A,W,J S.tail.tail⟩
 rw[ao (by simpa using d2)] at e;refine⟨fu h.g v a,mw (J S) (X:=X) (A:=A) (g:=h.g) (by simp) (bF W [_, _]) (eV W) (λi x r=>W.mp r) v a,?_⟩;refine ab (λd=>⟨trivial,S.res (j:=0) rfl 0 _ λp S=>?_⟩) (λd3=>?_)
 ·rw[ax (show fY h v a=true from d)] at e;rw[e] at l;exact l (by decide) ⟨A,W,J S.tail.tail⟩
 rw[ao (show ¬ fY h v a=true by unfold fY;rw[d3];decide)] at e;refine⟨rfl,rfl,aj.of _ (S.e9 (X:=X) (A:=A) (g:=h.g) (by simp) (n:=1) rfl) ⟨(oK h.s.2 (fj h.g h.s v a).1,vJ h.s.2 (fj h.g h.s v a).1,()),S.VN _,S.al λZ p S=>S.dx 0 rfl rfl rfl λw6 S=>⟨rfl,S.bW 0 rfl rfl ?_⟩⟩⟩;refine ab (λd=>⟨trivial,S.res (j:=1) rfl 0 _ λp S=>?_⟩) (λd4=>?_)
 ·rw[ax (by simpa using d)] at e;rw[e] at l;exact l (by decide) ⟨A,W,J S.tail.tail.tail⟩
 rw[ao (by simpa using d4)] at e;have m:H8 h v a=((fj h.g h.s v a).1,0):=ax e;have o:sL h v a=bJ h _:=ax e;rw[m,o] at kk;obtain⟨g1,F, _,j,I⟩:=S.oX (X:=X) (A:=A) (g:=h.g) (by simp) (bF W [_, _, _]) q;refine⟨rfl,rfl,⟨rfl,by omega,by show v<((17:Nat):Int);omega⟩,aj.of _ g1 ⟨rfl,rfl,aj.of _ F (S.zN u j I y a λw7 S=>⟨rfl,rfl,aj.of _ (S.e9 (X:=X) (A:=A) (g:=h.g) (by simp) (n:=1) rfl) (S.MG _ 5 v λw8 S=>?_)⟩)⟩⟩;rw[fv (by omega)];exact S.res (j:=1) rfl _ 0 λM S=>kk M ⟨A,⟨W.ig,W.mp,W.gl,W.pt,W.gk⟩,J S.tail.tail.tail⟩
end
theorem CO {ds:List DT} (b:ds.length<=4096) (y o:Int):0<=dY ds y o/\dY ds y o<4096:=by
 have z:(0:Int)<=0/\(0:Int)<4096:=by decide
 unfold dY;split
 ·exact z
 ·rename_i n a;unfold gx at a;rw[Hz] at a;obtain⟨c, _⟩:=a;split
  ·exact⟨by omega,by omega⟩
  ·exact z
def iU (h:HS) (v:Int):WD:=(h.s.1,dD h.s.2 4 v)
def gF (h:HS) (v:Int):Int:=dY h.s.2 4 v
def n7 (h:HS) (v a b:Int):WD:=ik (iU h v) v (a6 h.g v) false a (gF h v) b
def oY (h:HS) (v a b:Int):Int:=
 if a>=65536 then 2 else if b<1\/b>7 then 7 else if dk h.s.2 4 v≠0 then dk h.s.2 4 v else iw (iU h v) (a6 h.g v) false a (gF h v) b
def Bz (h:HS) (v a b:Int):Int×Int:=if oY h v a b=0 then(gF h v,0) else(0,oY h v a b)
def kl (h:HS) (v a b:Int):HS:=
 if a>=65536 then h else if b<1\/b>7 then h else if dk h.s.2 4 v≠0 then bJ h (iU h v)
 else if iw (iU h v) (a6 h.g v) false a (gF h v) b≠0 then bJ h ((n7 h v a b).1,fC (n7 h v a b).2 (gF h v) (aE 0 0))
 else bJ h (dS (n7 h v a b).1 (gF h v) (λ_=>0) 16,(n7 h v a b).2)
section
variable {Q:Sys} {X:HX} {D G:List Nat} {w0 w:A1} {h:HS} {L:List (Nat×List A9)} {K:RS->A1->Prop}
theorem Gz (H:dA Q X D G w0 w h L) {v:Int} (B:aX h.g v=true) (k:Int) {a b:Int} (c:Int) (Y:0<=a) (hb:0<=b) (kk: ∀l,dA Q X D G w0 l (kl h v a b) L->K ((Bz h v a b).1,(Bz h v a b).2,()) l):
 ar A2 127 (.el (.agg gY)) [ah (ad X.hb),aa v,.agg ⟨fk k a b c⟩] w K:=by
 obtain⟨A,W,H⟩:=H;obtain⟨E,S,J⟩:=H.call;obtain⟨x,hx,sT,hv,we,vz⟩:=cd B;refine aO (C:=V0) (aM:=lH) (A_ (AT _ v k a b c w K) ?_);have I:=CO S.le 4 v;have wf: ∀s',wc A (bJ h s'):=λs'=>⟨W.ig,W.mp,W.gl,W.pt,W.gk⟩;have p: ∀e,e≠0->oY h v a b=e->Bz h v a b=(0,e):=λe Z M=>by
  unfold Bz;rw[ao (by rw[M];exact Z),M]
 refine S.al λN l S=>S.al λO w3 S=>⟨rfl,S.bW 1 rfl rfl ?_⟩;refine ab (λd=>⟨trivial,S.res (j:=0) rfl 0 _ λq S=>?_⟩) (λd=>⟨rfl,S.bW 1 rfl rfl ⟨λ_=>rfl,S.bW 1 rfl rfl ?_⟩⟩)
 ·have d:a>=65536:=by simpa using d
  have f:kl h v a b=h:=ax d;rw[p 2 (by decide) (ax d),f] at kk;exact kk q ⟨A,W,J S.tail.tail⟩
 have d: ¬ a>=65536:=by simpa using d
 have ea:aD .i64 a=a:=bQ ⟨Y,by omega⟩;refine ab (λd2=>⟨trivial,S.res (j:=0) rfl 0 _ λq S=>?_⟩) (λd2=>⟨rfl,rfl,?_⟩)
 ·have d2:b<1\/b>7:=by simpa using d2
  have o:oY h v a b=7:=by unfold oY;rw[ao d,ax d2]
  have f:kl h v a b=h:=by unfold kl;rw[ao d,ax d2]
  rw[p 7 (by decide) o,f] at kk;exact kk q ⟨A,W,J S.tail.tail⟩
 have d2: ¬ (b<1\/b>7):=by
  intro e;have:(decide (b<1)||decide (b>7))=true:=by simpa using e
  rw[this] at d2;cases d2
 have eb:aD .i64 b=b:=bQ ⟨hb,by omega⟩;refine aj.of _ (S.e9 (X:=X) (A:=A) (g:=h.g) (by simp) (n:=1) rfl) (S.take 4 v λq S=>?_);refine ab (λd3=>⟨trivial,S.res (j:=0) rfl 0 _ λy S=>?_⟩) (λd3=>?_)
 ·have d3:dk h.s.2 4 v≠0:=by simpa using d3
  have o:oY h v a b=dk h.s.2 4 v:=by unfold oY;rw[ao d,ao d2,ax d3]
  have f:kl h v a b=bJ h (iU h v):=by unfold kl;rw[ao d,ao d2,ax d3]
  rw[p _ d3 o,f] at kk;exact kk y ⟨A,wf _,J S.tail.tail⟩
 have d3: ¬ dk h.s.2 4 v≠0:=by
  intro e;have:(dk h.s.2 4 v != 0)=true:=by simpa using e
  rw[this] at d3;cases d3
 obtain⟨g1,P, _,j,R⟩:=S.oX (X:=X) (A:=A) (g:=h.g) (by simp) (bF W [_, _]) B;refine⟨rfl,rfl,⟨rfl,by omega,by show v<((17:Nat):Int);omega⟩,aj.of _ g1 ⟨rfl,rfl,aj.of _ P ⟨rfl,S.bW 1 rfl rfl ⟨rfl,S.bW 1 rfl rfl ?_⟩⟩⟩⟩;rw[ea,eb];refine S.map j R a (gF h v) b λy S=>?_;have S:a7 Q [] E w y (n7 h v a b) ((O,[aq 0,aa 0])::(N,fk k a b c)::dC Q X A h (aW Q A h.g (A3 17)++L)):=S;have T:oY h v a b=iw (iU h v) (a6 h.g v) false a (gF h v) b:=by unfold oY;rw[ao d,ao d2,ao d3]
 refine ab (λd4=>⟨rfl,rfl,?_⟩) (λd4=>?_)
 ·have d4: ¬ iw (h.s.1,dD h.s.2 4 v) (a6 h.g v) false a (gF h v) b=0:=by simpa using d4
  have d4:iw (iU h v) (a6 h.g v) false a (gF h v) b≠0:=d4;have f:kl h v a b=bJ h ((n7 h v a b).1,fC (n7 h v a b).2 (gF h v) (aE 0 0)):=by unfold kl;rw[ao d,ao d2,ao d3,ax d4]
  rw[p _ d4 T,f] at kk;exact aj.of _ (S.e9 (X:=X) (A:=A) (g:=h.g) (by simp) (n:=1) rfl) (S.By (gF h v) λU S=>⟨trivial,S.res (j:=0) rfl 0 _ λr S=>kk r ⟨A,wf _,J S.tail.tail⟩⟩)
 have d4: ¬ iw (iU h v) (a6 h.g v) false a (gF h v) b≠0:=by
  intro e;have:(iw (iU h v) (a6 h.g v) false a (gF h v) b != 0)=true:=by simpa using e
  exact absurd (this.symm.trans d4) (by decide)
 have o:Bz h v a b=(gF h v,0):=by
  unfold Bz;rw[T,ax (by omega)]
 have f:kl h v a b=bJ h (dS (n7 h v a b).1 (gF h v) (λ_=>0) 16,(n7 h v a b).2):=by unfold kl;rw[ao d,ao d2,ao d3,ao d4]
 rw[o,f] at kk;have I:0<=gF h v/\gF h v<4096:=I;obtain⟨F,t⟩: ∃F:Nat->List Int,F=λi=>dS (n7 h v a b).1 (gF h v) (λ_=>0) i:=⟨_,rfl⟩;have F0:F 0=(n7 h v a b).1:=by rw[t];rfl
 have Fs: ∀i,F (i+1)=cW (F i) (16*gF h v+(i:Int)) 0:=λi=>by rw[t];rfl
 have kk: ∀l,dA Q X D G w0 l (bJ h (F 16,(n7 h v a b).2)) L->K (gF h v,0,()) l:=by rw[t];exact kk
 clear t;refine⟨λn u w'=> ∃m:Nat,u.1=(m:Int)/\n+m=16/\a7 Q [] E w w' (F m,(n7 h v a b).2) ((O,[aq 0,aa 0])::(N,fk k a b c)::dC Q X A h (aW Q A h.g (A3 17)++L)),⟨16,λU h6=>⟨0,rfl,rfl,by rw[F0];exact S.ext h6⟩⟩,?_⟩;clear S g1 P R;rintro n ⟨u,u2⟩ U ⟨m,e,hn,S⟩;dsimp only at e ⊢;subst e;have efr:(dY h.s.2 4 v)=gF h v:=rfl;rw[efr];refine ab (λz=>?_) (λz=>?_)
 ·have V:m<16:=by
   have:(m:Int)<16:=by simpa using z
   omega
  have e5:aC .i64 (dO .i64 16 (gF h v)) (m:Int)=16*gF h v+(m:Int):=by rw[dI (by omega) (by omega),av (by omega) (by omega)]
  rw[e5];refine⟨rfl,rfl,aj.of _ (S.e9 (X:=X) (A:=A) (g:=h.g) (by simp) (n:=0) rfl) (S.store _ 0 (by decide) λr S=>λw8 h8=>⟨n - 1,by omega,m+1,by rw[av (by omega) (by omega)];omega,by omega,?_⟩)⟩;rw[Fs];exact S.ext h8
 ·have V:m=16:=by
   have: ¬ (m:Int)<16:=by simpa using z
   omega
  subst V;rw[fv (by omega)];exact S.res (j:=0) rfl _ 0 λr S=>kk r ⟨A,wf _,J S.tail.tail⟩
end
def cZ (h:HS) (v p id f:Int):HS where
 s:=((kR h.s v (a6 h.g v) false p).1,fC (kR h.s v (a6 h.g v) false p).2 f (gE (-1)))
 g:=a9 h.g v.toNat (match h.g v.toNat with|some x=>some {x with tk:=x.tk.filter λt=> !(t.1==p)}|none=>none)
 gr:=dK h.gr id v
 po:=h.po
theorem na (gs:List GT) (i o:Int):(dK gs i o).length=gs.length:=by
 unfold dK;split
 ·rw[Bp]
 ·rfl
theorem Jc {α:Type} {T L:List α} {k:Nat} {x:α} (h:L[k]? =some x):(T++L)[T.length+k]? =some x:=by
 rw[HB (by omega),show T.length+k - T.length=k by omega];exact h
section
variable {Q:Sys} {X:HX} {D G:List Nat} {w0 w:A1} {h:HS} {L:List (Nat×List A9)}
theorem AA {A:Nat->GA} (W:wc A h) {T:List (Nat×List A9)} (H:SM Q D G w0 w h.s (T++dC Q X A h (aW Q A h.g (A3 17)++L)) (de A h.g (A3 17))) {v p id f:Int} (o:aX h.g v=true) (U:EC Q h.s) (V:0<=a6 h.g v/\a6 h.g v<4096)
 {x:GV} (l:h.g v.toNat=some x) (Y:bL x.tk p=some (id,f)) {K:Unit->A1->Prop} (kk: ∀A' y,(∀i,(A' i).bg=(A i).bg)->wc A' (cZ h v p id f)->SM Q D G w0 y (cZ h v p id f).s (T++dC Q X A' (cZ h v p id f) (aW Q A' (cZ h v p id f).g (A3 17)++L)) (de A' (cZ h v p id f).g (A3 17))->K () y):
 aB A2 206 (.bH []) [ah (ad X.hb),aa v,aa p] w K:=by
 obtain⟨x',I,sT,hv,we,vz⟩:=cd o;rw[l] at I;cases I;refine H.go λw1 H=>ai (C:=V0) (aM:=qn) (A_ (Li _ v p w1 K) ?_);obtain⟨G',S,J⟩:=H.call;have mem: ∀{T':List (Nat×List A9)},(X.hb,gQ Q X A h.g)∈T'++(T++dC Q X A h (aW Q A h.g (A3 17)++L)):=λ{T'}=>C7 _ (C7 _ AC);have z: ∀{T':List (Nat×List A9)}, ∀i v,h.g i=some v-> ∀x∈fO Q A i v,x∈T'++(T++dC Q X A h (aW Q A h.g (A3 17)++L)):=λ{T'} i v hv x l=>C7 _ (bF W T i v hv x l);obtain⟨g1,M,B, _⟩:=S.oX (X:=X) (A:=A) (g:=h.g) (mem (T':=[])) (z (T':=[])) o;obtain⟨r,N,O⟩:=(W.mp l).find p;rw[Y] at O;obtain⟨i,e,hi,Z⟩:=O;have E:bE w1 (A v.toNat).bm ⟨(A v.toNat).es⟩ (A v.toNat).ck:=H.get (eV W _ _ l);refine⟨rfl,rfl,⟨rfl,by omega,by show v<((17:Nat):Int);omega⟩,aj.of _ g1 ⟨rfl,rfl,aj.of _ B ⟨(id,f,()),⟨_, _, _,rfl,E,?_⟩,S.al λb y S=>S.dx 0 rfl rfl rfl λw3 S=>⟨rfl,rfl,?_⟩⟩⟩⟩
 ·rw[N,e]
 obtain⟨_, _,B, _⟩:=S.oX (X:=X) (A:=A) (g:=h.g) (mem (T':=[_])) (z (T':=[_])) o;refine aj.of _ B λw4 h4=>?_;have H:=(J S).ext h4;have E:bE w4 (A v.toNat).bm ⟨(A v.toNat).es⟩ (A v.toNat).ck:=H.get (eV W _ _ l);refine⟨_, _, _,rfl,E,?_⟩;unfold HF;rw[N,e];dsimp only;have W8:(Array.eraseIdxIfInBounds (⟨(A v.toNat).es⟩:Array B4) i)=⟨(A v.toNat).es.eraseIdx i⟩:=by
  apply Array.ext';rw[Array.toList_eraseIdxIfInBounds]
 rw[W8];have EL:v.toNat<17:=by omega
 have H:=H.Jb EL l ((A v.toNat).es.eraseIdx i) (A v.toNat).ck (x.tk.filter λt=> !(t.1==p));have q:=DY (A:=A) l ((A v.toNat).es.eraseIdx i) (A v.toNat).ck (x.tk.filter λt=> !(t.1==p));obtain⟨A',P⟩: ∃A',A'=lS A v.toNat {A v.toNat with es:=(A v.toNat).es.eraseIdx i,ck:=(A v.toNat).ck}:=⟨_,rfl⟩;have F:a9 h.g v.toNat (some {x with tk:=x.tk.filter λt=> !(t.1==p)})=(cZ h v p id f).g:=by
  show _=a9 h.g v.toNat (match h.g v.toNat with|some x=> _|none=>none);rw[l]
 have W9: ∀{a m},(cZ h v p id f).g a=some m->nr (A' a).es (A' a).ck m.tk:=λ{a m} d=>by
  rw[<-F] at d;rw[P];unfold a9 at d;unfold lS;by_cases u:a=v.toNat
  ·rw[ax u] at d ⊢;cases d;exact Z
  ·rw[ao u] at d ⊢;exact W.mp d
 have VO: ∀{a m},(cZ h v p id f).g a=some m->1<=a/\a<=16:=λ{a m} d=>by
  rw[<-F] at d;unfold a9 at d;by_cases u:a=v.toNat
  ·omega
  ·rw[ao u] at d;exact W.ig d
 rw[<-P,F] at H q;obtain⟨G2,S,J2⟩:=H.call;obtain⟨_,M, _,j,hj⟩:=S.oX (X:=X) (A:=A) (g:=h.g) (mem (T':=[_])) (z (T':=[_])) o;refine⟨rfl,rfl,aj.of _ M (S.zN U j hj V p λw5 S=>⟨rfl,rfl,aj.of _ (S.e9 (X:=X) (A:=A) (g:=h.g) (mem (T':=[_])) (n:=1) rfl) ⟨rfl,S.bW 0 rfl rfl (S.TU f (-1) (by decide) λw6 S=>⟨rfl,rfl,aj.of _ (S.e9 (X:=X) (A:=A) (g:=h.g) (mem (T':=[_])) (n:=2) rfl) ⟨rfl,S.bW 0 rfl rfl ?_⟩⟩)⟩⟩)⟩;refine S.Pq (T.length+1+1) (T.length+2+1) (Jc (T:= _::T) (k:=1) rfl) (Jc (T:= _::T) (k:=2) rfl) (by rw[W.gl];decide) W.gk.use id v λw7 S=>S.en λR S=>kk A' R q.bg ⟨VO,W9,(na _ _ _).trans W.gl,W.pt,W.gk.back _ _⟩ (J2 ?_);have e1:dC Q X A' (cZ h v p id f) (aW Q A' (cZ h v p id f).g (A3 17)++L)=(dC Q X A h (aW Q A h.g (A3 17)++L)).set 2 (X.qs,flat eG (dK h.gr id v)++X.rest):=by
  show(X.hb,gQ Q X A' (cZ h v p id f).g)::(X.gb,jU X.qs (dK h.gr id v).length X.c)::(X.qs,flat eG (dK h.gr id v)++X.rest)::(X.pb,Po.fm 4 h.po)::(aW Q A' (cZ h v p id f).g (A3 17)++L)= _;rw[q.cs,q.rows,na];rfl
 have S:a7 Q [] G2 _ R _ ((T++dC Q X A h (aW Q A h.g (A3 17)++L)).set (T.length+2) (X.qs,flat eG (dK h.gr id v)++X.rest)):=S.tail;rw[HL _ _ (by omega),show T.length+2 - T.length=2 by omega, <-e1] at S;exact S
end
def Hl (h:HS) (v p:Int):Int×Int:=match h.g v.toNat with
 |some x=>(bL x.tk p).getD (0,0)
 |none=>(0,0)
def rK (h:HS) (v a:Int):Int:=if a>=65536 then 2 else if fY h v a=true then 0 else 4
def g7 (h:HS) (v a:Int):HS:=if a>=65536 then h else if fY h v a=true then cZ h v a (Hl h v a).1 (Hl h v a).2 else h
theorem pN {h:HS} {v p:Int} {x:GV} (a:aX h.g v=true) (b:h.g v.toNat=some x):fY h v p=true<->bL x.tk p=some (Hl h v p):=by
 unfold fY fu Hl;rw[ax a,b];dsimp only;cases bL x.tk p<;>simp
section
variable {Q:Sys} {X:HX} {D G:List Nat} {w0 w:A1} {h:HS} {L:List (Nat×List A9)} {K:RS->A1->Prop}
theorem Oq (H:dA Q X D G w0 w h L) {v:Int} (l:aX h.g v=true) (o:EC Q h.s) (p:0<=a6 h.g v/\a6 h.g v<4096) (k:Int) {a:Int} (b c:Int) (q:0<=a) (kk: ∀m,dA Q X D G w0 m (g7 h v a) L->K (0,rK h v a,()) m):
 ar A2 134 (.el (.agg gY)) [ah (ad X.hb),aa v,.agg ⟨fk k a b c⟩] w K:=by
 obtain⟨A,W,H⟩:=H;obtain⟨y,S,J⟩:=H.call;obtain⟨x,e,z,hv,B,E⟩:=cd l;refine aO (C:=V0) (aM:=λ_=>[]) (A_ (Gj _ v k a b c w K) ?_);unfold rK g7 at kk;refine S.al λF m S=>S.al λI M S=>⟨rfl,S.bW 1 rfl rfl ?_⟩;refine ab (λd=>⟨trivial,S.res (j:=0) rfl 0 _ λf S=>?_⟩) (λd=>⟨rfl,S.bW 1 rfl rfl ?_⟩)
 ·rw[ax (by simpa using d),ax (by simpa using d)] at kk;exact kk f ⟨A,W,J S.tail.tail⟩
 have d: ¬ a>=65536:=by simpa using d
 rw[ao d,ao d] at kk;have n:aD .i64 a=a:=bQ ⟨q,by omega⟩;rw[n];refine⟨fu h.g v a,mw (J S) (X:=X) (A:=A) (g:=h.g) (by simp) (bF W [_, _]) (eV W) (λi x e=>W.mp e) v a,?_⟩;refine ab (λd2=>⟨trivial,S.res (j:=0) rfl 0 _ λf S=>?_⟩) (λd2=>⟨rfl,S.bW 1 rfl rfl ?_⟩)
 ·have d2: ¬ fY h v a=true:=by
   unfold fY;simpa using d2
  rw[ao d2,ao d2] at kk;exact kk f ⟨A,W,J S.tail.tail⟩
 ·have d2:fY h v a=true:=by
   unfold fY;simpa using d2
  rw[ax d2,ax d2] at kk;rw[n];refine AA W (T:=[_, _]) (J S) l o p e ((pN l e).1 d2) λA' f _ r H=>?_;obtain⟨N,S,t⟩:=H.call;exact S.res (j:=0) rfl 0 0 λu S=>kk u ⟨A',r,t S.tail.tail⟩
end
def km (t:TK):List TK->List TK
 |[]=>[t]
 |u::l=>if u.1<t.1 then u::km t l else t::u::l
theorem kJ (t:TK): ∀l,(km t l).Perm (t::l)
 |[]=>ED _
 |u::l=>by
  rw[km];split
  ·exact((kJ t l).cons u).trans (.swap _ _ _)
  ·exact ED _
def iZ (h:HS) (a:Int):GT:=sH h.gr a
def iu (h:HS) (a:Int):Int×Int×Int×Unit:=fj h.g h.s (iZ h a).1 (iZ h a).2.1
def oR (c:Int):Int:=if c=1 then 3 else 1
def lT (h:HS) (v a b c:Int):Int:=
 if b>=65536 then 2 else if a>=16\/c>1 then 1 else if(jK h.gr a).isSome=false then 4
 else if(iZ h a).2.2.1≠v\/(c=1/\(iZ h a).2.2.2.1=false) then 7 else if(iu h a).2.2.1≠0 then 4 else if fY h (iZ h a).1 (iZ h a).2.1=true then 7
 else if fq h.gr a v (c==1)≠0 then fq h.gr a v (c==1) else iw h.s (a6 h.g v) false b (iu h a).1 (oR c)
def gg (h:HS) (v a b c:Int):HS where
 s:=((ik h.s v (a6 h.g v) false b (iu h a).1 (oR c)).1,fC (ik h.s v (a6 h.g v) false b (iu h a).1 (oR c)).2 (iu h a).1 (gE 1))
 g:=a9 h.g v.toNat (match h.g v.toNat with|some x=>some {x with tk:=km (b,a,(iu h a).1) x.tk}|none=>none)
 gr:=db h.gr a v (c==1)
 po:=h.po
def ww (h:HS) (v a b c:Int):HS:={h with s:=ik h.s v (a6 h.g v) false b (iu h a).1 (oR c),gr:=dK (db h.gr a v (c==1)) a v}
def ke (h:HS) (v a b c:Int):Int:=
 if b>=65536 then 2 else if a>=16\/c>1 then 1 else if(jK h.gr a).isSome=false then 4
 else if(iZ h a).2.2.1≠v\/(c=1/\(iZ h a).2.2.2.1=false) then 7 else if(iu h a).2.2.1≠0 then 4 else if fY h (iZ h a).1 (iZ h a).2.1=true then 7 else fq h.gr a v (c==1)
def jm (h:HS) (v a b c:Int):HS:=if ke h v a b c≠0 then h else if lT h v a b c=0 then gg h v a b c else ww h v a b c
theorem GB (gs:List GT) (i g:Int) (b:Bool):(db gs i g b).length=gs.length:=by
 unfold db;split
 ·rw[Bp]
 ·rfl
section
variable {Q:Sys} {X:HX} {D G:List Nat} {w0 w:A1} {h:HS} {L:List (Nat×List A9)} {K:RS->A1->Prop}
theorem R2 {A:Nat->GA} (W:wc A h) {v a b c:Int} {x:GV} (f:h.g v.toNat=some x) (hv:((v.toNat:Nat):Int)=v) (we:1<=v) (vz:v<=16) (y:bL x.tk b=none) (I:(db h.gr a v (c==1)).length=h.gr.length) {z:HS} (J:z=tT h (db h.gr a v (c==1)))
 {M o N:Nat} {l2 l1 la:List A9} (O:l1=[aq 0,aa 0]) {l:A1}
 (H:SM Q D G w0 l ((ik h.s v (a6 h.g v) false b (iu h a).1 (oR c)).1,fC (ik h.s v (a6 h.g v) false b (iu h a).1 (oR c)).2 (iu h a).1 (gE 1)) ((M,l2)::(o,l1)::(N,la)::dC Q X A z (aW Q A h.g (A3 17)++L)) (de A h.g (A3 17)))
 (kk: ∀i,dA Q X D G w0 i (gg h v a b c) L->K (0,0,()) i):
 ∃r es B,some (A v.toNat).bm=some r/\bE l r es B/\gz l r .i64 b (.agg ⟨[aa a,aa (iu h a).1]⟩) es B λi=>
  aw i (ad o) [aq 0,aa 0] λi=>ak i λw1=>aj w1 none (ad o) (.agg [.int .u64,.int .i64]) λx=>K (x.1,x.2.1,()) w1:=by
 subst O;have P:bE l (A v.toNat).bm ⟨(A v.toNat).es⟩ (A v.toNat).ck:=H.get (eV W _ _ f);refine⟨_, _, _,rfl,P,?_⟩;obtain⟨r,C,m⟩:=(W.mp f).find b;rw[y] at m;have m:r=none:=m;rw[m] at C;unfold gz;have R:Gi (.int .i64) (aa b) ((⟨(A v.toNat).es⟩:Array B4)).toList 0=some none:=C;rw[R];dsimp only;have T:(⟨(A v.toNat).es⟩:Array B4).push {key:=aa b,val:= .agg ⟨[aa a,aa (iu h a).1]⟩,born:=(A v.toNat).ck}=⟨(A v.toNat).es++[{key:=aa b,val:= .agg ⟨[aa a,aa (iu h a).1]⟩,born:=(A v.toNat).ck}]⟩:=by
  apply Array.ext';rw[Array.toList_push]
 rw[T];have p:=(W.mp f).push (t:=(b,a,(iu h a).1)) y (kJ (b,a,(iu h a).1) x.tk);have U:v.toNat<17:=by omega
 have V:({key:=(sK (b,a,(iu h a).1)).1,val:=(sK (b,a,(iu h a).1)).2,born:=(A v.toNat).ck}:B4)={key:=aa b,val:= .agg ⟨[aa a,aa (iu h a).1]⟩,born:=(A v.toNat).ck}:=rfl;rw[V] at p;generalize (A v.toNat).es++[{key:=aa b,val:= .agg ⟨[aa a,aa (iu h a).1]⟩,born:=(A v.toNat).ck}]=q at p ⊢;have H:=H.Jb U f q ((A v.toNat).ck+1) (km (b,a,(iu h a).1) x.tk);have u:=DY (A:=A) f q ((A v.toNat).ck+1) (km (b,a,(iu h a).1) x.tk);obtain⟨A',E⟩: ∃A',A'=lS A v.toNat {A v.toNat with es:=q,ck:=(A v.toNat).ck+1}:=⟨_,rfl⟩;have w:a9 h.g v.toNat (some {x with tk:=km (b,a,(iu h a).1) x.tk})=(gg h v a b c).g:=by
  show _=a9 h.g v.toNat (match h.g v.toNat with|some x=> _|none=>none);rw[f]
 have Y: ∀{d k},(gg h v a b c).g d=some k->nr (A' d).es (A' d).ck k.tk:=λ{d k} e=>by
  rw[<-w] at e;rw[E];unfold a9 at e;unfold lS;by_cases n:d=v.toNat
  ·rw[ax n] at e ⊢;cases e;exact p
  ·rw[ao n] at e ⊢;exact W.mp e
 have Z: ∀{d k},(gg h v a b c).g d=some k->1<=d/\d<=16:=λ{d k} e=>by
  rw[<-w] at e;unfold a9 at e;by_cases n:d=v.toNat
  ·omega
  ·rw[ao n] at e;exact W.ig e
 rw[<-E,w] at H u;obtain⟨G2,S,J2⟩:=H.call;refine S.res (j:=1) rfl 0 0 λF S=>kk F ⟨A',⟨Z,Y,I.trans W.gl,W.pt,W.gk.take _ _ _⟩,J2 ?_⟩;have S:=S.tail.tail.tail;rw[J] at S;show a7 Q [] G2 _ F _ ((X.hb,gQ Q X A' (gg h v a b c).g)::(X.gb,jU X.qs (db h.gr a v (c==1)).length X.c)::(X.qs,flat eG (db h.gr a v (c==1))++X.rest)::(X.pb,Po.fm 4 h.po)::(aW Q A' (gg h v a b c).g (A3 17)++L));rw[u.cs,u.rows];exact S
theorem DZ {A:Nat->GA} (W:wc A h) {v a b c:Int} {x:GV} (l:h.g v.toNat=some x) (hv:((v.toNat:Nat):Int)=v) (O:1<=v) (P:v<=16) (C:aX h.g v=true)
 (R: ∀x,h.g v.toNat=some x->iw h.s (a6 h.g v) false b (iu h a).1 (oR c)=0->bL x.tk b=none)
 (E:(db h.gr a v (c==1)).length=h.gr.length) {f:HS} (m:f=tT h (db h.gr a v (c==1))) (p:wc A f)
 {U k V:Nat} {l2 la:List A9} {q F:A1} {t:List Nat}
 (J: ∀{d:A1} {s':WD} {L':List (Nat×List A9)},a7 Q [] t q d s' L'->SM Q D G w0 d s' L' (de A h.g (A3 17)))
 (S:a7 Q [] t q F h.s ((U,l2)::(k,[aq 0,aa 0])::(V,la)::dC Q X A f (aW Q A h.g (A3 17)++L)))
 (o:lT h v a b c=iw h.s (a6 h.g v) false b (iu h a).1 (oR c)) (H:jm h v a b c=if lT h v a b c=0 then gg h v a b c else ww h v a b c)
 (kk: ∀d,dA Q X D G w0 d (jm h v a b c) L->K (0,lT h v a b c,()) d):
 aB A2 214 (.el (.one (.int .i64))) [ah (some ⟨(A v.toNat).bt,0,none⟩),aa b,aa (iu h a).1,aa (oR c)] F λ(y:Int) (d:A1)=>
  aF (y != 0)
   ((some (⟨X.hb,0,none⟩:B2)).isSome=true/\(some (⟨X.hb,0,none⟩:B2)).isSome=true/\
    aj d none (ae (ad X.hb) 2) (.one .ptr) λ(z:Option B2)=>
     aB A2 225 (.el (.one (.int .i64))) [ah z,aa a,aa v] d λ(_:Int) (d:A1)=>
      True/\aw d (ad k) [aq 0,aa y] λ(d:A1)=>ak d λ(w1:A1)=>aj w1 none (ad k) (.agg [.int .u64,.int .i64]) λ(x:Int×Int×Unit)=>K (x.1,x.2.1,()) w1)
   ((some (⟨X.hb,0,none⟩:B2)).isSome=true/\(some (⟨X.hb,0,none⟩:B2)).isSome=true/\
    aj d none (ae (ad X.hb) 1) (.one .ptr) λ(z:Option B2)=>
     aB A2 226 (.el (.one (.int .i64))) [ah z,aa (iu h a).1,aa 1] d λ(_:Int) (d:A1)=>
      (some (⟨X.hb,0,none⟩:B2)).isSome=true/\(some (⟨X.hb,0,none⟩:B2)).isSome=true/\((ae (ad X.hb) 4).isSome=true/\0<=v/\v<((17:Nat):Int))/\
       aj d none (ae (ae (ad X.hb) 4) (v.toNat*1)) (.one .ptr) λ(u:Option B2)=>
        u.isSome=true/\u.isSome=true/\
         aj d none (ae u 1) (.one .map) λ(Y:Option Nat)=>
          ∀(w1:A1),Ext d w1-> ∃(r:Nat), ∃(es:Array B4), ∃(I:Nat),Y=some r/\bE w1 r es I/\
           gz w1 r .i64 b (.agg ⟨[aa a,aa (iu h a).1]⟩) es I λ(d:A1)=>
            aw d (ad k) [aq 0,aa 0] λ(d:A1)=>ak d λ(w1:A1)=>aj w1 none (ad k) (.agg [.int .u64,.int .i64]) λ(x:Int×Int×Unit)=>K (x.1,x.2.1,()) w1):=by
 have mem: ∀{T:List (Nat×List A9)},(X.hb,gQ Q X A h.g)∈T++dC Q X A f (aW Q A h.g (A3 17)++L):=λ{T}=>C7 T (by rw[m];exact AC);have M: ∀{T:List (Nat×List A9)}, ∀i v,h.g i=some v-> ∀x∈fO Q A i v,x∈T++dC Q X A f (aW Q A h.g (A3 17)++L):=λ{T} i v hv x l=>by
  have N:f.g=h.g:=by rw[m];rfl
  have:=bF (Q:=Q) (X:=X) (L:=L) p T i v (by rw[N];exact hv) x l;rw[N] at this;exact this
 obtain⟨_, _, _,j,Z⟩:=S.oX (X:=X) (A:=A) (g:=h.g) (mem (T:=[_, _, _])) (M (T:=[_, _, _])) C;refine S.map j Z b (iu h a).1 (oR c) λw8 S=>?_;refine ab (λd8=>?_) (λd8=>?_)
 ·have d8:iw h.s (a6 h.g v) false b (iu h a).1 (oR c)≠0:=by
   intro e;have:(iw h.s (a6 h.g v) false b (iu h a).1 (oR c) != 0)=false:=by rw[e];rfl
   exact absurd (d8.symm.trans this) (by decide)
  have w:jm h v a b c=ww h v a b c:=by rw[H,ao (by rw[o];exact d8)]
  refine⟨rfl,rfl,aj.of _ (S.e9 (X:=X) (A:=A) (g:=h.g) (mem (T:=[_, _, _])) (n:=2) rfl) (S.Pq 4 5 rfl rfl (by rw[p.gl];decide) p.gk.use a v λw9 S=>⟨trivial,S.res (j:=1) rfl 0 _ λB S=>?_⟩)⟩;rw[o,w] at kk;refine kk B ⟨A,⟨W.ig,W.mp,(na _ _ _).trans (E.trans W.gl),W.pt,(W.gk.take _ _ _).back _ _⟩,J ?_⟩;have S:=S.tail.tail.tail;rw[m] at S;show a7 Q [] t q B (ik h.s v (a6 h.g v) false b (iu h a).1 (oR c)) ((X.hb,gQ Q X A h.g)::(X.gb,jU X.qs (dK (db h.gr a v (c==1)) a v).length X.c):: _);rw[na];exact S
 ·have d8:iw h.s (a6 h.g v) false b (iu h a).1 (oR c)=0:=by
   by_cases e:iw h.s (a6 h.g v) false b (iu h a).1 (oR c)=0
   ·exact e
   ·have:(iw h.s (a6 h.g v) false b (iu h a).1 (oR c) != 0)=true:=by simpa using e
    exact absurd (this.symm.trans d8) (by decide)
  have w:jm h v a b c=gg h v a b c:=by rw[H,ax (by rw[o];exact d8)]
  refine⟨rfl,rfl,aj.of _ (S.e9 (X:=X) (A:=A) (g:=h.g) (mem (T:=[_, _, _])) (n:=1) rfl) (S.TU (iu h a).1 1 (by decide) λw9 S=>⟨rfl,rfl,⟨rfl,by omega,by show v<((17:Nat):Int);omega⟩,?_⟩)⟩;rw[o,w,d8] at kk;have hn:=R x l d8;obtain⟨g1, _,g3, _⟩:=S.oX (X:=X) (A:=A) (g:=h.g) (mem (T:=[_, _, _])) (M (T:=[_, _, _])) C;refine aj.of _ g1 ⟨rfl,rfl,aj.of _ g3 λB Hg=>?_⟩;exact R2 W l hv O P hn E m rfl ((J S).ext Hg) kk
theorem Ot (H:dA Q X D G w0 w h L) {v:Int} (t:aX h.g v=true) (k:Int) {a b c:Int} (Z:0<=a) (hb:0<=b) (hc:0<=c) (I: ∀x,h.g v.toNat=some x->iw h.s (a6 h.g v) false b (iu h a).1 (oR c)=0->bL x.tk b=none)
 (kk: ∀o,dA Q X D G w0 o (jm h v a b c) L->K (0,lT h v a b c,()) o):
 ar A2 133 (.el (.agg gY)) [ah (ad X.hb),aa v,.agg ⟨fk k a b c⟩] w K:=by
 obtain⟨A,W,H⟩:=H;obtain⟨M,S,J⟩:=H.call;obtain⟨x,r,sT,hv,N,O⟩:=cd t;refine aO (C:=V0) (aM:=λ_=>[]) (A_ (Gg _ v k a b c w K) ?_);have q: ∀e,e≠0->ke h v a b c=e->lT h v a b c=e-> ∀{o},dA Q X D G w0 o h L->K (0,e,()) o:=λe he m h2 o H=>by
  have z:jm h v a b c=h:=ax (by rw[m];exact he);rw[h2,z] at kk;exact kk o H
 have l:ke h v a b c=if b>=65536 then 2 else if a>=16\/c>1 then 1 else if(jK h.gr a).isSome=false then 4
  else if(iZ h a).2.2.1≠v\/(c=1/\(iZ h a).2.2.2.1=false) then 7 else if(iu h a).2.2.1≠0 then 4 else if fY h (iZ h a).1 (iZ h a).2.1=true then 7 else fq h.gr a v (c==1):=rfl
 have f:lT h v a b c=if b>=65536 then 2 else if a>=16\/c>1 then 1 else if(jK h.gr a).isSome=false then 4
  else if(iZ h a).2.2.1≠v\/(c=1/\(iZ h a).2.2.2.1=false) then 7 else if(iu h a).2.2.1≠0 then 4 else if fY h (iZ h a).1 (iZ h a).2.1=true then 7
  else if fq h.gr a v (c==1)≠0 then fq h.gr a v (c==1) else iw h.s (a6 h.g v) false b (iu h a).1 (oR c):=rfl
 refine S.al λba o S=>S.al λb1 w3 S=>⟨rfl,S.bW 1 rfl rfl ?_⟩;refine ab (λd=>⟨trivial,S.res (j:=0) rfl 0 _ λP S=>?_⟩) (λd=>⟨rfl,S.bW 1 rfl rfl ⟨λ_=>rfl,S.bW 1 rfl rfl ?_⟩⟩)
 ·have d:b>=65536:=by simpa using d
  rw[ax d] at l f;exact q 2 (by decide) l f ⟨A,W,J S.tail.tail⟩
 have d: ¬ b>=65536:=by simpa using d
 rw[ao d] at l f;refine ab (λd1=>⟨trivial,S.res (j:=0) rfl 0 _ λP S=>?_⟩) (λd1=>⟨rfl,S.bW 1 rfl rfl ⟨rfl,S.bW 1 rfl rfl ⟨rfl,S.bW 1 rfl rfl ⟨rfl,rfl,?_⟩⟩⟩⟩)
 ·have d1:a>=16\/c>1:=by simpa using d1
  rw[ax d1] at l f;exact q 1 (by decide) l f ⟨A,W,J S.tail.tail⟩
 have d1: ¬ (a>=16\/c>1):=by
  intro e;have:(decide (a>=16)||decide (c>1))=true:=by simpa using e
  rw[this] at d1;cases d1
 rw[ao d1] at l f;have ea:aD .i64 a=a:=bQ ⟨Z,by omega⟩;have eb:aD .i64 b=b:=bQ ⟨hb,by omega⟩;rw[ea,eb];refine aj.of _ (S.e9 (X:=X) (A:=A) (g:=h.g) (by simp) (n:=2) rfl) ⟨(sH h.gr a,(jK h.gr a).isSome,()),S.TV 3 4 rfl rfl (by rw[W.gl];decide) a,S.al λb2 P S=>S.dx 0 rfl rfl rfl λw5 S=>?_⟩;refine ab (λd2=>⟨trivial,S.res (j:=1) rfl 0 _ λR S=>?_⟩) (λd2=>⟨rfl,S.bW 0 rfl rfl ⟨λ_=>rfl,S.bW 0 rfl rfl ?_⟩⟩)
 ·have d2:(jK h.gr a).isSome=false:=by simpa using d2
  rw[ax d2] at l f;exact q 4 (by decide) l f ⟨A,W,J S.tail.tail.tail⟩
 have d2: ¬ (jK h.gr a).isSome=false:=by
  have d2:(!(jK h.gr a).isSome)=false:=d2;intro e;rw[e] at d2;cases d2
 rw[ao d2] at l f;refine ab (λd3=>⟨trivial,S.res (j:=1) rfl 0 _ λR S=>?_⟩) (λd3=>⟨rfl,S.bW 0 rfl rfl ⟨rfl,S.bW 0 rfl rfl ?_⟩⟩)
 ·have d3:(iZ h a).2.2.1≠v\/(c=1/\(iZ h a).2.2.2.1=false):=by
   have d3:((iZ h a).2.2.1 != v||c==1&& !(iZ h a).2.2.2.1)=true:=d3;simpa using d3
  rw[ax d3] at l f;exact q 7 (by decide) l f ⟨A,W,J S.tail.tail.tail⟩
 have d3: ¬ ((iZ h a).2.2.1≠v\/(c=1/\(iZ h a).2.2.2.1=false)):=by
  intro e;have:((iZ h a).2.2.1 != v||c==1&& !(iZ h a).2.2.2.1)=true:=by simpa using e
  exact absurd (this.symm.trans d3) (by decide)
 rw[ao d3] at l f;refine rh S (X:=X) (A:=A) (g:=h.g) (by simp) (bF W [_, _, _]) (iZ h a).1 (iZ h a).2.1 λR S=>?_;refine ab (λd4=>⟨trivial,S.res (j:=1) rfl 0 _ λu S=>?_⟩) (λd4=>⟨rfl,S.bW 0 rfl rfl ⟨rfl,S.bW 0 rfl rfl ?_⟩⟩)
 ·have d4:(iu h a).2.2.1≠0:=by
   have d4:((iu h a).2.2.1 != 0)=true:=d4;simpa using d4
  rw[ax d4] at l f;exact q 4 (by decide) l f ⟨A,W,J S.tail.tail.tail⟩
 have d4: ¬ (iu h a).2.2.1≠0:=by
  intro e;have:((iu h a).2.2.1 != 0)=true:=by simpa using e
  exact absurd (this.symm.trans d4) (by decide)
 rw[ao d4] at l f;refine⟨fu h.g (iZ h a).1 (iZ h a).2.1,mw (J S) (X:=X) (A:=A) (g:=h.g) (by simp) (bF W [_, _, _]) (eV W) (λi x r=>W.mp r) _ _,?_⟩;refine ab (λd5=>⟨trivial,S.res (j:=1) rfl 0 _ λu S=>?_⟩) (λd5=>⟨rfl,rfl,?_⟩)
 ·have d5:fY h (iZ h a).1 (iZ h a).2.1=true:=d5;rw[ax d5] at l f;exact q 7 (by decide) l f ⟨A,W,J S.tail.tail.tail⟩
 have d5: ¬ fY h (iZ h a).1 (iZ h a).2.1=true:=by
  have d5:fY h (iZ h a).1 (iZ h a).2.1=false:=d5;rw[d5];decide
 rw[ao d5] at l f;refine aj.of _ (S.e9 (X:=X) (A:=A) (g:=h.g) (by simp) (n:=2) rfl) (S.UU 4 5 rfl rfl (by rw[W.gl];decide) W.gk.use a v (c==1) λu S=>?_);have y:(db h.gr a v (c==1)).length=h.gr.length:=GB _ _ _ _;obtain⟨m,p⟩: ∃m,m=tT h (db h.gr a v (c==1)):=⟨_,rfl⟩;have U:m.g=h.g:=by rw[p];rfl
 have PD:m.s=h.s:=by rw[p];rfl
 have B:wc A m:=by rw[p];exact⟨W.ig,W.mp,y.trans W.gl,W.pt,W.gk.take _ _ _⟩
 have S:a7 Q [] M w u h.s ((b2,[aa (iZ h a).1,aa (iZ h a).2.1,aa (iZ h a).2.2.1,.bool (iZ h a).2.2.2.1,aa (iZ h a).2.2.2.2.1])::(b1,[aq 0,aa 0])::(ba,fk k a b c)::dC Q X A m (aW Q A h.g (A3 17)++L)):=by
  rw[p];show a7 Q [] M w u h.s (_:: _:: _::(X.hb,gQ Q X A h.g)::(X.gb,jU X.qs (db h.gr a v (c==1)).length X.c):: _);rw[y];exact S
 refine ab (λd6=>⟨trivial,S.res (j:=1) rfl 0 _ λw8 S=>?_⟩) (λd6=>?_)
 ·have d6:fq h.gr a v (c==1)≠0:=by simpa using d6
  rw[ax d6] at f;have e1:db h.gr a v (c==1)=h.gr:=ao d6;have z:m=h:=by rw[p,e1];rfl
  rw[z] at S;exact q _ d6 l f ⟨A,W,J S.tail.tail.tail⟩
 have d6: ¬ fq h.gr a v (c==1)≠0:=by
  intro e;have:(fq h.gr a v (c==1) != 0)=true:=by simpa using e
  exact absurd (this.symm.trans d6) (by decide)
 rw[ao d6] at f;have V:jm h v a b c=if lT h v a b c=0 then gg h v a b c else ww h v a b c:=ao (by rw[l];exact d6);have mem: ∀{T:List (Nat×List A9)},(X.hb,gQ Q X A h.g)∈T++dC Q X A m (aW Q A h.g (A3 17)++L):=λ{T}=>C7 T (by rw[p];exact AC);have Y: ∀{T:List (Nat×List A9)}, ∀i v,h.g i=some v-> ∀x∈fO Q A i v,x∈T++dC Q X A m (aW Q A h.g (A3 17)++L):=λ{T} i v hv x r=>by
  have:=bF (Q:=Q) (X:=X) (L:=L) B T i v (by rw[U];exact hv) x r;rw[U] at this;exact this
 have hq:=Az h.g h.s (iZ h a).1 (iZ h a).2.1;refine ab (λd7=>⟨rfl,rfl,⟨rfl,by omega,by show v<((17:Nat):Int);omega⟩,?_⟩) (λd7=>⟨rfl,rfl,⟨rfl,by omega,by show v<((17:Nat):Int);omega⟩,?_⟩)
 ·have E:(Pz .i64 1 2)=oR c:=by
   unfold oR;rw[ax (by simpa using d7)];decide
  obtain⟨g1,F,g3,j,hj⟩:=S.oX (X:=X) (A:=A) (g:=h.g) (mem (T:=[_, _, _])) (Y (T:=[_, _, _])) t;refine aj.of _ g1 ⟨rfl,rfl,aj.of _ F ?_⟩;have T:=DZ W r hv N O t I y p B J S f V kk;rw[<-E] at T;exact T
 ·have E:(1:Int)=oR c:=by
   unfold oR;rw[ao (by simpa using d7)]
  obtain⟨g1,F,g3,j,hj⟩:=S.oX (X:=X) (A:=A) (g:=h.g) (mem (T:=[_, _, _])) (Y (T:=[_, _, _])) t;refine aj.of _ g1 ⟨rfl,rfl,aj.of _ F ?_⟩;have T:=DZ W r hv N O t I y p B J S f V kk;rw[<-E] at T;exact T
end
def vR (l:List Int):Int:=l.foldl (λm x=>iO m x) 65536
theorem ta (a b:Int):iO a b<=a/\iO a b<=b/\(iO a b=a\/iO a b=b):=by
 unfold iO;split<;>omega
theorem uM: ∀(l:List Int) (m:Int),l.foldl (λm x=>iO m x) m<=m/\(∀x∈l,l.foldl (λm x=>iO m x) m<=x)/\(l.foldl (λm x=>iO m x) m=m\/l.foldl (λm x=>iO m x) m∈l)
 |[],m=>⟨Int.le_refl _,λx b=>(by cases b),.inl rfl⟩
 |y::l,m=>by
  obtain⟨c,h2,a⟩:=uM l (iO m y);obtain⟨d,e,f⟩:=ta m y;rw[EH];refine⟨Int.le_trans c d,λx b=>?_,?_⟩
  ·rcases EE.1 b with rfl|b
   ·exact Int.le_trans c e
   ·exact h2 x b
  ·rcases a with a|a
   ·rcases f with k|k
    ·exact .inl (a.trans k)
    ·exact .inr (EE.2 (.inl (a.trans k)))
   ·exact .inr (B3 _ a)
theorem GC {l:List Int} {m:Int} (d:m<=65536) (h2: ∀x∈l,m<=x) (b:m=65536\/m∈l):m=vR l:=by
 obtain⟨e,c,a⟩:=uM l 65536;unfold vR;rcases b with b|b
 ·rcases a with a|a
  ·omega
  ·have:=h2 _ a;omega
 ·have:=c _ b;rcases a with a|a
  ·omega
  ·have:=h2 _ a;omega
theorem xj {es:List B4} {e:B4} (he:e∈es) (seen:Array Nat) (b:seen.contains e.born=false):
 (es.filter λx=> !(seen.push e.born).contains x.born).length<(es.filter λx=> !seen.contains x.born).length:=by
 induction es with
 |nil=>cases he
 |cons y es c=>
  have mono: ∀l:List B4,(l.filter λx=> !(seen.push e.born).contains x.born).length<=(l.filter λx=> !seen.contains x.born).length:=λl=>by
   rw[<-Ia, <-Ia];refine List.countP_mono_left λx _ d=>?_;simp only[Hf,HQ,Dn] at d ⊢
   simp_all
  rcases EE.1 he with rfl|he
  ·rw[I2 (by simp),List.filter_cons_of_pos (by simpa using b)];have:=mono es;simp only[Di];omega
  ·have:=c he;rw[Ev,Ev];by_cases a:(!(seen.push e.born).contains y.born)=true
   ·have h2:(!seen.contains y.born)=true:=by
     simp only[Hf,HQ,Dn] at a ⊢
     simp_all
    rw[ax a,ax h2];simp only[Di];omega
   ·rw[ao a];split
    ·simp only[Di];omega
    ·exact this
section
variable {Q:Sys} {X:HX} {D G:List Nat} {w0 w:A1} {s:WD} {L0:List (Nat×List A9)} {M:List (Nat×Obj)} {es:List B4} {ck bm bg:Nat} {pt:Option B2} {tk:List TK}
theorem GD (H:SM Q D G w0 w s L0 M) (O:(bg,[ah pt,.map (some bm)])∈L0) (v:(bm,Obj.map ⟨es⟩ ck)∈M) (P:nr es ck tk) {K:Int->A1->Prop} (kk: ∀d,SM Q D G w0 d s L0 M->K (vR (tk.map (·.1))) d):
 aB A2 207 (.el (.one (.int .i64))) [ah (ad bg)] w K:=by
 obtain⟨⟨p,A,B⟩,E,R, _⟩:=P;have S: ∀e∈es, ∃t∈tk,e.key=aa t.1:=λe a=>by
  have:(e.key,e.val)∈p.map sK:=by rw[<-B];exact Bc.2 ⟨e,a,rfl⟩
  obtain⟨t,c,y⟩:=Bc.1 this;exact⟨t,A.mem_iff.1 c,(congrArg (·.1) y).symm⟩
 have T: ∀t∈tk, ∃e∈es,e.key=aa t.1:=λt c=>by
  have:sK t∈es.map λe=>(e.key,e.val):=by rw[B];exact Bc.2 ⟨t,A.mem_iff.2 c,rfl⟩
  obtain⟨e,a,y⟩:=Bc.1 this;exact⟨e,a,congrArg (·.1) y⟩
 refine H.go λw1 H=>ai (C:=V0) (aM:=nQ) (A_ (Gd _ w1 K) ?_);obtain⟨j,f⟩:=Bb O;refine⟨rfl,rfl,H.base.bW j f rfl λd h2=>?_⟩;have H:=H.ext h2;have U:bE d bm ⟨es⟩ ck:=H.get v;refine⟨_, _, _,rfl,U,?_⟩;have H:=H.alloc (o:= .mapIter (some bm) ck #[] ck) trivial;obtain⟨b,hb⟩: ∃b,b=d.heap.size:=⟨_,rfl⟩;rw[<-hb] at H ⊢;refine⟨λn q w'=> ∃seen:Array Nat,SM Q D G w0 w' s L0 ((b,.mapIter (some bm) ck seen ck)::M)/\n=(es.filter λx=> !seen.contains x.born).length/\q.1<=65536/\(∀e∈es, ∀x,e.key=aa x->seen.contains e.born=true->q.1<=x)/\(q.1=65536\/q.1∈tk.map (·.1)),⟨_,λV g=>⟨#[],H.ext g,rfl,Int.le_refl _,λe _ x _ k=>(by simp at k),.inl rfl⟩⟩,?_⟩;clear H;rintro n ⟨q,u⟩ V ⟨seen,H,W,F,h2,g⟩;dsimp only at F h2 g ⊢;intro w4 X;have H:=H.ext X;refine⟨b,bm,ck,seen,ck,⟨es⟩,ck,rfl,H.get AC,H.get (B3 _ v),Do _,R,λk Y z=>?_,λe a k Y z=>?_⟩
 ·refine(H.ext z).en λI H=>?_;have l:q=vR (tk.map (·.1)):=GC F (λx m=>by
   obtain⟨t,c,rfl⟩:=Bc.1 m;obtain⟨e,J,Z⟩:=T t c;exact h2 e J _ Z (k e J)) g
  rw[l];exact kk I (H.EI (Bg _ _))
 ·have a:e∈es:=a;obtain⟨t,c,L⟩:=S e a;have H:=(H.ext z).put (i:=0) rfl (o':= .mapIter (some bm) ck (seen.push e.born) ck) trivial;refine⟨t.1,e.val,⟨b,bm,ck,seen,⟨es⟩,ck,e,rfl,H.get AC,H.get (B3 _ v),a,E,L.symm,rfl⟩,λI h6=>?_⟩;refine⟨_,?_,seen.push e.born,H.ext h6,rfl,?_,?_,?_⟩
  ·rw[W];exact xj a seen k
  ·have:=ta q t.1;omega
  ·intro r N x m PA;have YT:=ta q t.1;by_cases h:seen.contains r.born=true
   ·have:=h2 r N x m h;show iO q t.1<=x;omega
   ·have nU:r.born=e.born:=by
     rw[Hf] at PA
     simp_all
    have X4:r=e:=by
     obtain⟨i,hi⟩:=Bb N;obtain⟨j,f⟩:=Bb a;have xK:(es.map (·.born))[i]? =some e.born:=by rw[DB,hi];exact congrArg some nU
     have vy:(es.map (·.born))[j]? =some e.born:=by rw[DB,f];rfl
     have:=(Hu (by rw[Br];exact(B5.1 hi).1) E).1 (xK.trans vy.symm);subst this;rw[hi] at f;cases f;rfl
    subst X4;rw[L] at m;cases m;show iO q t.1<=t.1;exact YT.2.1
  ·rcases(ta q t.1).2.2 with l|l
   ·show iO q t.1=65536\/ _;rw[l];exact g
   ·show iO q t.1=65536\/iO q t.1∈ _;rw[l];exact .inr (Bc.2 ⟨t,c,rfl⟩)
end
def nG (g:Nat->Option GV):Option Nat:=((A3 16).find? λi=>(g (i+1)).isNone).map (· +1)
theorem vg {g:Nat->Option GV} {v:Nat}:nG g=some v<->(1<=v/\v<=16)/\g v=none/\ ∀u,1<=u->u<v->(g u).isSome:=by
 unfold nG;rw[Hc];constructor
 ·rintro⟨i,hi,rfl⟩;rw[Ib] at hi;obtain⟨b,h2,a⟩:=hi;rw[Bd] at h2;refine⟨by omega,by simpa using b,λu c d=>?_⟩;have:=a (u - 1) (by omega);rw[show u - 1+1=u by omega] at this;simpa using this
 ·rintro⟨b,h2,a⟩;refine⟨v - 1,?_,by omega⟩;rw[Ib];refine⟨by rw[show v - 1+1=v by omega,h2];rfl,Bd.2 (by omega),λj e=>?_⟩;have:=a (j+1) (by omega) (by omega);simpa using this
theorem CP {g:Nat->Option GV}:nG g=none<-> ∀u,1<=u->u<=16->(g u).isSome:=by
 unfold nG;rw[LZ,H6];constructor
 ·intro h u b c;have:=h (u - 1) (Bd.2 (by omega));rw[show u - 1+1=u by omega] at this;cases a:g u with
  |none=>rw[a] at this;exact absurd rfl this
  |some x=>rfl
 ·intro h i hi e;have:=h (i+1) (by omega) (by have:=Bd.1 hi;omega);rw[Option.isNone_iff_eq_none.1 e] at this;cases this
def tX (h:HS):Int:=match nG h.g with
 |none=>3
 |some v=>oO h.s (v:Int)
def Dh (h:HS):Int:=match nG h.g with
 |none=>0
 |some v=>(v:Int)
def lF (h:HS):HS:=match nG h.g with
 |none=>h
 |some v=>if oO h.s (v:Int)=0 then{h with s:=gD h.s (v:Int) λ_=>0,g:=a9 h.g v (some ⟨dJ h.s (v:Int),[]⟩)} else h
theorem ls (A:Nat->GA) (g:Nat->Option GV):(ka A g).length=17:=by
 unfold ka;rw[Br,Ic]
theorem D4 (Q:Sys) (X:HX) (A:Nat->GA) (g:Nat->Option GV):(gQ Q X A g).length=21:=by
 unfold gQ;rw[IR,ls];rfl
theorem D5 {Q:Sys} {X:HX} {A A':Nat->GA} {g g':Nat->Option GV} {v:Nat} (hv:v<17) (h: ∀j,j≠v->A' j=A j/\g' j=g j):(gQ Q X A g).set (4+v*1) (ah (iT A' g' v))=gQ Q X A' g':=by
 have e:(ka A g).set v (ah (iT A' g' v))=ka A' g':=by
  apply Ih;intro i;by_cases hi:i<17
  ·rw[re hi];by_cases e:v=i
   ·subst e;rw[B1 (by rw[ls];exact hi)]
   ·rw[AX e,re hi];obtain⟨a,h2⟩:=h i (λb=>e b.symm);unfold iT;rw[a,h2]
  ·rw[In (by rw[Bp,ls];omega),In (by rw[ls];omega)]
 unfold gQ;rw[HL _ _ (by show 4<=4+v*1;omega)];rw[<-e];show _++(ka A g).set (4+v*1 - 4) _= _;rw[show 4+v*1 - 4=v by omega]
section
variable {Q:Sys} {X:HX} {D G:List Nat} {w0 w:A1} {h:HS} {L:List (Nat×List A9)} {K:RS->A1->Prop}
theorem U5 {A:Nat->GA} (W:wc A h) {v:Nat} (hv:1<=v/\v<=16) (f:h.g v=none) {s':WD} {r:Int} {bg bt bm l m:Nat} {l1 la:List A9} {j:A1}
 (H:SM Q D G w0 j s' ((bg,[ah (ad bt),.map (some bm)])::(bt,lX Q (v:Int) r false)::(l,l1)::(m,la)::(X.hb,(gQ Q X A h.g).set (4+v*1) (ah (ad bg)))::(X.gb,jU X.qs h.gr.length X.c)::(X.qs,flat eG h.gr++X.rest)::(X.pb,Po.fm 4 h.po)::(aW Q A h.g (A3 17)++L)) ((bm,.map #[] 0)::de A h.g (A3 17))):
 dA Q X D G w0 j {h with s:=s',g:=a9 h.g v (some ⟨r,[]⟩)} L:=by
 have d:=xg A h.g v ⟨bg,bt,bm,0,[]⟩ (some ⟨r,[]⟩);have n:iT (lS A v ⟨bg,bt,bm,0,[]⟩) (a9 h.g v (some ⟨r,[]⟩)) v=some ⟨bg,0,none⟩:=by
  unfold iT;rw[eT,m_]
 refine⟨lS A v ⟨bg,bt,bm,0,[]⟩,⟨λ{i x} a=>?_,λ{i x} a=>?_,W.gl,W.pt,W.gk⟩,?_⟩
 ·have a:a9 h.g v (some ⟨r,[]⟩) i=some x:=a;unfold a9 at a;by_cases e:i=v
  ·omega
  ·rw[ao e] at a;exact W.ig a
 ·have a:a9 h.g v (some ⟨r,[]⟩) i=some x:=a;unfold a9 at a;unfold lS;by_cases e:i=v
  ·rw[ax e] at a ⊢;cases a;exact nr.nil
  ·rw[ao e] at a ⊢;exact W.mp a
 ·have k:=D5 (Q:=Q) (X:=X) (by omega:v<17) d;rw[n] at k;rw[k] at H;refine((H.sub ((((Bg _ _).trans (Bg _ _)).cons_cons _).cons_cons _)).perm ?_).pj ?_
  ·have o:(aW Q (lS A v ⟨bg,bt,bm,0,[]⟩) (a9 h.g v (some ⟨r,[]⟩)) (A3 17)).Perm ([(bg,[ah (ad bt),.map (some bm)]),(bt,lX Q (v:Int) r false)]++aW Q A h.g (A3 17)):=by
    have b:=si (Q:=Q) (A:=lS A v ⟨bg,bt,bm,0,[]⟩) (by omega:v<17) (eT h.g v (some ⟨r,[]⟩));rw[sj d] at b;have p:=(vf (Q:=Q) (A:=A) (by omega:v<17) f).symm;have e:fO Q (lS A v ⟨bg,bt,bm,0,[]⟩) v ⟨r,[]⟩=[(bg,[ah (ad bt),.map (some bm)]),(bt,lX Q (v:Int) r false)]:=by
     unfold fO;rw[m_]
    rw[e] at b;exact b.trans (p.append_left _)
   refine(((((o.append_right L).cons _).cons _).cons _).cons _).trans ?_;exact(HH (l₁:=[_, _, _, _]) (l₂:=[_, _])).append_right (aW Q A h.g (A3 17)++L)
  ·have b:=jT (A:=lS A v ⟨bg,bt,bm,0,[]⟩) (by omega:v<17) (eT h.g v (some ⟨r,[]⟩));rw[mD d,m_] at b;exact b.trans ((ve (A:=A) (by omega:v<17) f).symm.cons _)
theorem GF (H:dA Q X D G w0 w h L) (F: ¬ (h.s.1.length:Int)<16*(h.s.2.length:Int)) (v k a b c:Int) (kk: ∀V x,(tX h=0->V=Dh h)->dA Q X D G w0 x (lF h) L->K (V,tX h,()) x):
 ar A2 124 (.el (.agg gY)) [ah (ad X.hb),aa v,.agg ⟨fk k a b c⟩] w K:=by
 obtain⟨A,W,H⟩:=H;obtain⟨I,S,J⟩:=H.call;refine aO (C:=V0) (aM:=lG) (A_ (AS _ v k a b c w K) ?_);refine S.al λM x S=>S.al λN w3 S=>?_;refine⟨λn q w'=>(1<=q.1/\q.1<=17/\(n:Int)=17 - q.1)/\(∀u:Nat,1<=u->(u:Int)<q.1->(h.g u).isSome)/\a7 Q [] I w w' h.s ((N,[aq 0,aa 0])::(M,fk k a b c)::dC Q X A h (aW Q A h.g (A3 17)++L)),⟨16,λO P=>⟨by decide,λu l p=>(by dsimp only at p;omega),S.ext P⟩⟩,?_⟩;clear S;rintro n ⟨q,u⟩ O ⟨⟨R,T,U⟩,r,S⟩;dsimp only at R T U r ⊢;obtain⟨i,hi⟩: ∃i:Nat,q=(i:Int):=⟨q.toNat,by omega⟩;subst hi;rw[show((i:Int)).toNat=i from rfl];refine ab (λd=>?_) (λd=>⟨trivial,S.res (j:=0) rfl 0 3 λt S=>?_⟩)
 ·have d:(i:Int)<=16:=by simpa using d
  have hc:=S.pk (X:=X) (A:=A) (g:=h.g) (B3 _ (B3 _ AC)) (v:=(i:Int)) ⟨by omega,d⟩;rw[show((i:Int)).toNat=i from rfl] at hc;refine⟨rfl,rfl,⟨rfl,by omega,by show(i:Int)<((17:Nat):Int);omega⟩,aj.of _ hc ?_⟩;unfold iT;cases z:h.g i with
  |some y=>
   refine ay rfl λt Y=>⟨n - 1,by omega,⟨?_,?_,?_⟩,λu l p=>?_,S.ext Y⟩
   ·rw[av (by omega) (by omega)];omega
   ·rw[av (by omega) (by omega)];omega
   ·rw[av (by omega) (by omega)];omega
   ·rw[av (by omega) (by omega)] at p;by_cases e:u=i
    ·subst e;rw[z];rfl
    ·exact r u l (by omega)
  |none=>
   have m:nG h.g=some i:=vg.2 ⟨by omega,z,λu l p=>r u l (by omega)⟩;have cE:tX h=oO h.s (i:Int):=by unfold tX;rw[m]
   have Z:Dh h=(i:Int):=by unfold Dh;rw[m]
   have B:lF h=if oO h.s (i:Int)=0 then{h with s:=gD h.s (i:Int) λ_=>0,g:=a9 h.g i (some ⟨dJ h.s (i:Int),[]⟩)} else h:=by unfold lF;rw[m]
   have eu:aD .u64 (i:Int)=(i:Int):=fv ⟨by omega,by omega⟩;rw[cE,Z,B] at kk;refine an rfl ⟨rfl,rfl,aj.of _ (S.e9 (X:=X) (A:=A) (g:=h.g) (by simp) (n:=0) rfl) ⟨rfl,rfl,aj.of _ (S.e9 (X:=X) (A:=A) (g:=h.g) (by simp) (n:=1) rfl) ?_⟩⟩;refine S.new (i:Int) (λe=>absurd e F) (λ_ f t S=>?_) (λ_ f bt t S=>?_)
   ·rw[ao f] at kk;refine an (by simpa using f) (S.res (j:=0) rfl _ _ λE S=>kk _ E (λe=>absurd e f) ⟨A,W,J ?_⟩);rw[DR f] at S;exact S.tail.tail
   ·rw[ax f,f] at kk;refine ay rfl λE h6=>?_;have H:=((J S).ext h6).alloc (o:= .map #[] 0) trivial;obtain⟨bm,OV⟩: ∃bm,bm=E.heap.size:=⟨_,rfl⟩;rw[<-OV] at H ⊢;obtain⟨G2,S,J2⟩:=H.call;refine S.al λbg w7 S=>⟨rfl,rfl,⟨rfl,by omega,by show(i:Int)<((17:Nat):Int);omega⟩,?_⟩;rw[aL];refine S.yk 4 rfl rfl (by rw[Nat.blt_eq,D4];omega) λw8 S=>S.res (j:=2) rfl _ _ λw9 S=>kk _ w9 (λ_=>eu) (U5 (bg:=bg) (bt:=bt) (bm:=bm) W (by omega) z (J2 S))
 ·have d: ¬ (i:Int)<=16:=by simpa using d
  have m:nG h.g=none:=CP.2 λu l p=>r u l (by omega);have cE:tX h=3:=by unfold tX;rw[m]
  have B:lF h=h:=by unfold lF;rw[m]
  rw[cE,B] at kk;exact kk _ t (λe=>absurd e (by decide)) ⟨A,W,J S.tail.tail⟩
end
theorem D6 (s:WD) (o:Int) (G:Int->Int):(gD s o G).1.length=s.1.length:=by
 unfold gD;dsimp only;split
 ·exact fM _ _ _ _
 ·rfl
theorem pO (s:WD) (o r p:Int):(ew s o r p).1.length=s.1.length:=by
 unfold ew;split
 ·rfl
 ·split
  ·exact s_ _ _ _ _ _
  ·exact D6 _ _ _
theorem xm: ∀(l:List PT) (s:WD),(gT l s).1.length=s.1.length
 |[],s=>rfl
 |[x],s=>rfl
 |x::y::l,s=>by
  rw[gT];split
  ·rw[xm (y::l)];exact cu _ _ _
  ·rfl
theorem pP (s:WD) (o r:Int) (gone:Bool) (p:Int):(kR s o r gone p).1.length=s.1.length:=by
 unfold kR;split
 ·split
  ·rw[xm];show(cW _ _ _).length= _;rw[cu,pO]
  ·exact pO _ _ _ _
 ·rfl
def sU (h:HS) (v:Int):List TK:=match h.g v.toNat with|some x=>x.tk|none=>[]
def zR (v:Int) (h:HS):HS:=cZ h v (vR ((sU h v).map (·.1))) (Hl h v (vR ((sU h v).map (·.1)))).1 (Hl h v (vR ((sU h v).map (·.1)))).2
def fg (v:Int):Nat->HS->HS
 |0,h=>h
 |n+1,h=>fg v n (zR v h)
def pv (ds:List DT) (v:Int):Bool:=(fi ds v).any λi=>decide ((oK ds (i:Int)).2.2.1>0)
def qA (v:Int) (x:List DT×Int) (i:Nat):List DT×Int:=if(oK x.1 (i:Int)).1=4 then(fC x.1 (i:Int) (aE 5 v),x.2+1) else x
def yd (ds:List DT) (v:Int):List DT×Int:=(fi ds v).foldl (qA v) (ds,0)
def rL (h:HS) (v:Int):HS where
 s:=((bY h.s (a6 h.g v) false).1,(yd (bY h.s (a6 h.g v) false).2 v).1)
 g:=a9 h.g v.toNat none
 gr:=cr h.gr v
 po:=(Po.bY 4 h.po v).2
def QM (h:HS) (a:Int):Int:=if aX h.g a=true then(if pv h.s.2 a=true then 9 else 0) else 4
def vS (h:HS) (a:Int):HS:=if aX h.g a=true then(if pv h.s.2 a=true then h else rL (fg a (sU h a).length h) a) else h
def QN (h:HS) (a:Int):Int:=if aX h.g a=true then(if pv h.s.2 a=true then 0 else(yd (bY (fg a (sU h a).length h).s (a6 (fg a (sU h a).length h).g a) false).2 a).2) else 0
theorem GG (gs:List GT) (v:Int):(cr gs v).length=gs.length:=by unfold cr;rw[Br]
theorem vh (h:HS) (v p id f w:Int):aX (cZ h v p id f).g w=aX h.g w:=by
 unfold aX cZ a9;dsimp only;by_cases e:w.toNat=v.toNat
 ·rw[e,ax rfl];cases h.g v.toNat<;>rfl
 ·rw[ao e]
theorem CR (h:HS) (v p id f w:Int):a6 (cZ h v p id f).g w=a6 h.g w:=by
 unfold a6;rw[vh];unfold cZ a9;dsimp only;by_cases e:w.toNat=v.toNat
 ·rw[e,ax rfl];cases h.g v.toNat<;>rfl
 ·rw[ao e]
theorem AB {h:HS} {v p id f:Int}:sU (cZ h v p id f) v=(sU h v).filter λt=> !(t.1==p):=by
 unfold sU cZ a9;dsimp only;rw[ax rfl];cases h.g v.toNat<;>rfl
section
variable {Q:Sys} {X:HX} {D G:List Nat} {w0 w:A1} {h:HS} {L:List (Nat×List A9)} {K:RS->A1->Prop}
theorem a7.TW {s:WD} {L0 rows:List (Nat×List A9)} (S:a7 Q D G w0 w s L0) {e:El} {x:Option B2×Nat×Nat} {l:List e.T} (a:jh e rows x l) (b: ∀x∈rows,x∈L0):Sl w e x.1 l:=by
 obtain⟨g1,d,f,g,ca,la,H⟩:=S;exact a.sl H λx c=>B3 _ (B3 _ (B3 _ (B3 _ (b x c))))
theorem R3 {A:Nat->GA} {v:Nat} {x:GV} (hv:v<17) (a:h.g v=some x) (T:List (Nat×List A9)):
 (fO Q A v x++(T++dC Q X A h (aW Q A h.g ((A3 17).erase v)++L))).Perm (T++dC Q X A h (aW Q A h.g (A3 17)++L)):=by
 have b:=(si (Q:=Q) (A:=A) hv a).symm;have d:=((((b.append_right L).cons (X.pb,Po.fm 4 h.po)).cons (X.qs,flat eG h.gr++X.rest)).cons (X.gb,jU X.qs h.gr.length X.c)).cons (X.hb,gQ Q X A h.g);refine List.Perm.trans ?_ (d.append_left T);have e:T++dC Q X A h ((fO Q A v x++aW Q A h.g ((A3 17).erase v))++L)=(T++[(X.hb,gQ Q X A h.g),(X.gb,jU X.qs h.gr.length X.c),(X.qs,flat eG h.gr++X.rest),(X.pb,Po.fm 4 h.po)])++(fO Q A v x++(aW Q A h.g ((A3 17).erase v)++L)):=by simp
 have f:fO Q A v x++(T++dC Q X A h (aW Q A h.g ((A3 17).erase v)++L))=fO Q A v x++((T++[(X.hb,gQ Q X A h.g),(X.gb,jU X.qs h.gr.length X.c),(X.qs,flat eG h.gr++X.rest),(X.pb,Po.fm 4 h.po)])++(aW Q A h.g ((A3 17).erase v)++L)):=by simp
 show List.Perm _ (T++dC Q X A h ((fO Q A v x++aW Q A h.g ((A3 17).erase v))++L));rw[e,f];exact Ix _ _ _
end
theorem AD (ds:List DT) (v:Int):(fi ds v).length<=ds.length:=by
 unfold fi;refine Hb (List.length_filter_le _ _) ?_;rw[Ic];exact Do _
section
variable {Q:Sys} {X:HX} {D G:List Nat} {w0 w:A1} {h:HS} {L:List (Nat×List A9)} {K:RS->A1->Prop}
theorem U6 {A:Nat->GA} (W:wc A h) {v:Nat} {x:GV} (hv:v<17) (a:h.g v=some x) {s':WD} {vA:List GT} {Hm:List Po.PT} (d:vA.length=h.gr.length) (n:ki vA) (o:Po.iY 4 Hm) {f:A1} {p q r t:Nat×List A9}
 (H:SM Q D G w0 f s' (p::q::r::t::(X.hb,(gQ Q X A h.g).set (4+v*1) (ah none))::(X.gb,jU X.qs h.gr.length X.c)::(X.qs,flat eG vA++X.rest)::(X.pb,Po.fm 4 Hm)::(aW Q A h.g ((A3 17).erase v)++L)) (de A h.g (A3 17))):
 dA Q X D G w0 f {s:=s',g:=a9 h.g v none,gr:=vA,po:=Hm} L:=by
 have b: ∀j,j≠v->A j=A j/\a9 h.g v none j=h.g j:=λj u=>⟨rfl,ao u⟩;have w:iT A (a9 h.g v none) v=none:=by
  unfold iT;rw[eT]
 refine⟨A,⟨λ{i x} a=>?_,λ{i x} a=>?_,d.trans W.gl,o,n⟩,?_⟩
 ·have a:a9 h.g v none i=some x:=a;unfold a9 at a;by_cases e:i=v
  ·rw[ax e] at a;cases a
  ·rw[ao e] at a;exact W.ig a
 ·have a:a9 h.g v none i=some x:=a;unfold a9 at a;by_cases e:i=v
  ·rw[ax e] at a;cases a
  ·rw[ao e] at a;exact W.mp a
 ·have k:=D5 (Q:=Q) (X:=X) hv b;rw[w] at k;rw[k] at H;have H:=((((H.sub (Bg _ _)).sub (Bg _ _)).sub (Bg _ _)).sub (Bg _ _));have H:=(H.pj (jT hv a).symm).EI (Bg _ _);have l:=vf (Q:=Q) (A:=A) hv (eT h.g v none);rw[sj b] at l;have m:=ve (A:=A) hv (eT h.g v none);rw[mD b] at m;refine(H.perm ?_).pj m;show List.Perm ((X.hb,gQ Q X A (a9 h.g v none))::(X.gb,jU X.qs vA.length X.c)::(X.qs,flat eG vA++X.rest)::(X.pb,Po.fm 4 Hm)::(aW Q A (a9 h.g v none) (A3 17)++L)) _;rw[d];exact((((l.append_right L).cons _).cons _).cons _).cons _
theorem AE {l:List Int} (b:l≠[]) (h: ∀x∈l,x<65536):vR l∈l:=by
 obtain⟨d,c,a⟩:=uM l 65536;rcases a with a|a
 ·obtain⟨x,l',rfl⟩:=J3 b;have:=c x AC;have:=h x AC;omega
 ·exact a
theorem CS (H:dA Q X D G w0 w h L) (v k:Int) {a:Int} (b c:Int) (ha:0<=a) (hF:EC Q h.s) (Hk:aX h.g a=true->0<=a6 h.g a/\a6 h.g a<4096) (Qa: ∀t∈sU h a,t.1<65536)
 (kk: ∀w2,dA Q X D G w0 w2 (vS h a) L->K (QN h a,QM h a,()) w2):
 ar A2 125 (.el (.agg gY)) [ah (ad X.hb),aa v,.agg ⟨fk k a b c⟩] w K:=by
 obtain⟨A,W,H⟩:=H;obtain⟨G',S,J⟩:=H.call;refine aO (C:=V0) (aM:=kM) (A_ (yR _ v k a b c w K) ?_);unfold QM QN vS at kk;refine S.al λV w2 S=>S.al λY w3 S=>⟨rfl,S.bW 1 rfl rfl ⟨_,Aw S (X:=X) (A:=A) (g:=h.g) (by simp) ha,?_⟩⟩;cases P:aX h.g a with
 |false=>
  rw[P,ao (by decide),ao (by decide),ao (by decide)] at kk;exact ay rfl ⟨trivial,S.res (j:=0) rfl 0 4 λw4 S=>kk w4 ⟨A,W,J S.tail.tail⟩⟩
 |true=>
 rw[P,ax rfl,ax rfl,ax rfl] at kk;obtain⟨x,hx,sT,hv,we,vz⟩:=cd P;have ea:aD .i64 a=a:=bQ ⟨ha,by omega⟩;refine an rfl ⟨rfl,S.bW 1 rfl rfl ?_⟩;rw[ea];refine⟨rfl,rfl,aj.of _ (S.e9 (X:=X) (A:=A) (g:=h.g) (by simp) (n:=1) rfl) (S.owned a λr rows w4 S E=>?_)⟩;have hlen:(fi h.s.2 a).length<=4096:=Hb (AD _ _) S.le;obtain⟨xp,xn,xc⟩:=r;have To:xn=(fi h.s.2 a).length:=by have:=E.1;rw[Br] at this;exact this
 subst To;refine⟨λn q w'=> ∃m:Nat,q.1=(m:Int)/\n+m=(fi h.s.2 a).length/\(∀i,i<m-> ∀f,(fi h.s.2 a)[i]? =some f-> ¬ (oK h.s.2 (f:Int)).2.2.1>0)/\a7 Q [] G' w w' h.s (((Y,[aq 0,aa 0])::(V,fk k a b c)::dC Q X A h (aW Q A h.g (A3 17)++L))++rows),⟨(fi h.s.2 a).length,λw5 h5=>⟨0,rfl,rfl,λi hi=>absurd hi (Nat.not_lt_zero i),S.ext h5⟩⟩,?_⟩;clear S;rintro n ⟨q,u⟩ w5 ⟨m,hq,PL,tg,S⟩;dsimp only at hq ⊢;subst hq;refine ab (λo=>?_) (λo=>?_)
 ·have U:m<(fi h.s.2 a).length:=by simpa using o
  obtain⟨f,Qb⟩: ∃f,f=(fi h.s.2 a)[m]:=⟨_,rfl⟩;have M:(fi h.s.2 a)[m]? =some f:=by rw[Qb];exact Eo U
  have zg:((fi h.s.2 a).map λi=>((i:Nat):Int))[m]? =some ((f:Nat):Int):=by rw[DB,M];rfl
  have su:=(S.TW E (λx hx=>C7 _ hx)) m _ zg;refine⟨⟨su.1,by omega,by omega⟩,aj.of _ su.2 ⟨rfl,rfl,aj.of _ (S.e9 (X:=X) (A:=A) (g:=h.g) (by simp) (n:=1) rfl) ⟨(oK h.s.2 (f:Int),vJ h.s.2 (f:Int),()),S.VN (f:Int),S.al λbd w6 S=>S.dx 0 rfl rfl rfl λw7 S=>⟨rfl,S.bW 0 rfl rfl ?_⟩⟩⟩⟩;refine ab (λF=>⟨trivial,S.res (j:=1) rfl 0 9 λw8 S=>?_⟩) (λF=>λw8 h8=>⟨n - 1,by omega,m+1,?_,by omega,λi hi g I=>?_,(S.ext h8).tail⟩)
  ·have F:(oK h.s.2 (f:Int)).2.2.1>0:=by simpa using F
   have hb:pv h.s.2 a=true:=by
    unfold pv;exact K1.2 ⟨f,Bq M,by simpa using F⟩
   rw[hb,ax rfl,ax rfl,ax rfl] at kk;exact kk w8 ⟨A,W,J ((S.tail.sub (Ey _ _)).tail.tail)⟩
  ·rw[av (by omega) (by omega)];omega
  ·by_cases e:i=m
   ·subst e;rw[M] at I;cases I;simpa using F
   ·exact tg i (by omega) g I
 have U: ¬ m<(fi h.s.2 a).length:=by simpa using o
 have hb: ¬ pv h.s.2 a=true:=by
  unfold pv;rw[K1];rintro⟨f,M,hd⟩;obtain⟨i,hi⟩:=Bb M;have:i<(fi h.s.2 a).length:=(B5.1 hi).1;exact tg i (by omega) f hi (by simpa using hd)
 rw[ao hb,ao hb,ao hb] at kk;have S:=S.sub (Ey _ rows);clear tg PL E o U;obtain⟨g1, _,g3, _⟩:=S.oX (X:=X) (A:=A) (g:=h.g) (by simp) (bF W [_, _]) P;refine⟨rfl,rfl,⟨rfl,by omega,by show a<((17:Nat):Int);omega⟩,aj.of _ g1 ?_⟩;refine⟨λn _ w'=> ∃(B:Nat->GA) (h':HS),fg a n h'=fg a (sU h a).length h/\(sU h' a).length=n/\aX h'.g a=true/\a6 h'.g a=a6 h.g a/\EC Q h'.s/\(∀t∈sU h' a,t.1<65536)/\(B a.toNat).bg=(A a.toNat).bg/\wc B h'/\SM Q D G w0 w' h'.s ([(Y,[aq 0,aa 0]),(V,fk k a b c)]++dC Q X B h' (aW Q B h'.g (A3 17)++L)) (de B h'.g (A3 17)),⟨(sU h a).length,λw6 h6=>⟨A,h,rfl,rfl,P,rfl,hF,Qa,rfl,W,(J S).ext h6⟩⟩,?_⟩;clear S g1 g3 J H;rintro n u w6 ⟨B,h',I,hn,AW,L3,SB,QO,TX,d,H⟩;obtain⟨N,z,QP,S9, _, _⟩:=cd AW;have EL:a.toNat<17:=by omega
 have Z:sU h' a=N.tk:=by unfold sU;rw[z]
 rw[<-TX];obtain⟨G2,S,J2⟩:=H.call;have mem:(X.hb,gQ Q X B h'.g)∈[(Y,[aq 0,aa 0]),(V,fk k a b c)]++dC Q X B h' (aW Q B h'.g (A3 17)++L):=C7 _ AC;obtain⟨_, _,g3, _⟩:=S.oX (X:=X) (A:=B) (g:=h'.g) mem (bF d _) AW;have vx:bE w6 (B a.toNat).bm ⟨(B a.toNat).es⟩ (B a.toNat).ck:=H.get (eV d _ _ z);refine⟨rfl,rfl,aj.of _ g3 ⟨_,⟨_, _, _,rfl,vx,rfl⟩,?_⟩⟩;have kN:(⟨(B a.toNat).es⟩:Array B4).size=n:=by
  rw[<-hn,Z];exact(d.mp z).len
 rw[kN];refine ab (λo=>?_) (λo=>?_)
 ·have o:n>0:=by
   have:(n:Int)>0:=by simpa using o
   omega
  have E:((B a.toNat).bg,[ah (some ⟨(B a.toNat).bt,0,none⟩),.map (some (B a.toNat).bm)])∈[(Y,[aq 0,aa 0]),(V,fk k a b c)]++dC Q X B h' (aW Q B h'.g (A3 17)++L):=bF d _ _ _ z _ AC;have cx:N.tk.map (·.1)≠[]:=λe=>by
   have:=congrArg H5 e;rw[Br, <-Z,hn] at this;simp at this;omega
  have Bu:=AE cx (λy hy=>by
   obtain⟨t,ht,rfl⟩:=Bc.1 hy;exact QO t (by rw[Z];exact ht))
  refine GD H E (eV d _ _ z) (d.mp z) λw7 H=>?_;obtain⟨p,hp⟩: ∃p,p=vR (N.tk.map (·.1)):=⟨_,rfl⟩;rw[<-hp] at Bu ⊢;obtain⟨t,ht,Xb⟩:=Bc.1 Bu;have rp:bL N.tk p=some t.2:=(g9 (a:=t.2.1) (b:=t.2.2) (d.mp z).2.2.2).2 (by rw[<-Xb];exact ht);have hX:Hl h' a p=t.2:=by unfold Hl;rw[z];dsimp only;rw[rp];rfl
  have Mp:zR a h'=cZ h' a p t.2.1 t.2.2:=by
   unfold zR;rw[Z, <-hp,hX]
  refine AA d (T:=[(Y,[aq 0,aa 0]),(V,fk k a b c)]) H AW SB (by rw[L3];exact Hk P) z rp λB' w8 hb W'' H=>λw9 h9=>⟨n - 1,by omega,B',cZ h' a p t.2.1 t.2.2,?_,?_,?_,?_,?_,?_,?_,W'',H.ext h9⟩
  ·rw[<-Mp, <-I];obtain⟨m,rfl⟩: ∃m,n=m+1:=⟨n - 1,by omega⟩;rfl
  ·rw[AB,Z];obtain⟨r,M,xM⟩:=(d.mp z).find p;rw[rp] at xM;obtain⟨i, _,hi,hM⟩:=xM;rw[<-hM.len,List.length_eraseIdx,ax hi];have:=(d.mp z).len;rw[Z] at hn;omega
  ·rw[vh];exact AW
  ·rw[CR];exact L3
  ·have e:(cZ h' a p t.2.1 t.2.2).s.1.length=h'.s.1.length:=pP _ _ _ _ _;exact⟨by rw[e];exact SB.1,by rw[e];exact SB.2⟩
  ·intro t' oP;rw[AB] at oP;exact QO t' (K2.1 oP).1
  ·rw[hb,TX]
 have P9:n=0:=by
  have: ¬ (n:Int)>0:=by simpa using o
  omega
 subst P9;have I:h'=fg a (sU h a).length h:=I;rw[<-I] at kk;clear I kN o g3 S J2 mem vx hb QO hn SB Qa;have X5:0<=N.root/\N.root<4096:=by rw[<-QP,L3];exact Hk P
 rw[QP] at kk;have H:=H.perm (R3 EL z _);obtain⟨G2,S,J2⟩:=H.call;refine⟨rfl,rfl,aj.of _ (S.e9 (X:=X) (A:=B) (g:=h'.g) (Bq (i:=4) rfl) (n:=2) rfl) (S.UW 5 6 rfl rfl (by rw[d.gl];decide) (by rw[d.gl];decide) (by decide) a λn2 w8 S=>⟨rfl,rfl,aj.of _ (S.e9 (X:=X) (A:=B) (g:=h'.g) (Bq (i:=4) rfl) (n:=3) rfl) (S.U0 7 rfl d.pt a λw9 S=>⟨rfl,rfl,?_⟩)⟩)⟩;refine S.bW 0 rfl rfl (S.drop 1 rfl X5 λy U7 lU S _=>?_);have S:=S.sub (Ey _ U7);refine⟨rfl,rfl,aj.of _ (S.e9 (X:=X) (A:=B) (g:=h'.g) (Bq (i:=4) rfl) (n:=1) rfl) (S.owned a λr2 Iw lL S E=>?_)⟩;obtain⟨s1,PD⟩: ∃s1,s1=bY h'.s N.root false:=⟨_,rfl⟩;have VG:rL h' a={s:=(s1.1,(yd s1.2 a).1),g:=a9 h'.g a.toNat none,gr:=cr h'.gr a,po:=(Po.bY 4 h'.po a).2}:=by
  unfold rL;rw[QP, <-PD]
 rw[<-PD] at S kk E;rw[VG] at kk;obtain⟨xp2,xn2,xc2⟩:=r2;have X6:xn2=(fi s1.2 a).length:=by have:=E.1;rw[Br] at this;exact this
 subst X6;have U8:(fi s1.2 a).length<=4096:=Hb (AD _ _) S.le;obtain⟨l,C5⟩: ∃l,l=fi s1.2 a:=⟨_,rfl⟩;have zu:yd s1.2 a=l.foldl (qA a) (s1.2,0):=by unfold yd;rw[C5]
 rw[<-C5] at E U8 ⊢;obtain⟨R,hR⟩: ∃R,R=yd s1.2 a:=⟨_,rfl⟩;rw[<-hR] at kk;rw[<-hR] at zu;obtain⟨RL,Xc⟩: ∃RL:List (Nat×List A9),RL=((B a.toNat).bg,[ah (some ⟨(B a.toNat).bt,0,none⟩),.map (some (B a.toNat).bm)])::((B a.toNat).bt,lX Q ((a.toNat:Nat):Int) N.root true)::(Y,[aq 0,aa 0])::(V,fk k a b c)::(X.hb,gQ Q X B h'.g)::(X.gb,jU X.qs h'.gr.length X.c)::(X.qs,flat eG (cr h'.gr a)++X.rest)::(X.pb,Po.fm 4 (Po.bY 4 h'.po a).2)::(aW Q B h'.g ((A3 17).erase a.toNat)++L):=⟨_,rfl⟩;have S:a7 Q [] G2 w6 lL s1 (RL++Iw):=by rw[Xc];exact S
 have TY: ∀{T:List (Nat×List A9)},(X.hb,gQ Q X B h'.g)∈RL++T:=λ{T}=>H9 _ (by rw[Xc];exact Bq (i:=4) rfl);refine⟨λn q w'=> ∃(m:Nat) (ds:List DT),q.2.1=(m:Int)/\n+m=l.length/\(0<=q.1/\q.1<=m)/\(l.drop m).foldl (qA a) (ds,q.1)=R/\a7 Q [] G2 w6 w' (s1.1,ds) (RL++Iw),⟨l.length,λAZ Hy=>⟨0,s1.2,rfl,rfl,⟨by decide,by decide⟩,zu.symm,S.ext Hy⟩⟩,?_⟩;clear S;rintro n ⟨cnt,q,u⟩ AZ ⟨m,ds,hq,PL,Vs,O,S⟩;dsimp only at hq Vs O ⊢;subst hq;refine ab (λo=>?_) (λo=>?_)
 ·have U:m<l.length:=by simpa using o
  obtain⟨f,Qb⟩: ∃f,f=l[m]:=⟨_,rfl⟩;have M:l[m]? =some f:=by rw[Qb];exact Eo U
  have zg:(l.map λi=>((i:Nat):Int))[m]? =some ((f:Nat):Int):=by rw[DB,M];rfl
  have su:=(S.TW E (λx hx=>C7 _ hx)) m _ zg;rw[I1 U, <-Qb,EH] at O;refine⟨⟨su.1,by omega,by omega⟩,aj.of _ su.2 ⟨rfl,rfl,aj.of _ (S.e9 (X:=X) (A:=B) (g:=h'.g) TY (n:=1) rfl) ⟨(oK ds (f:Int),vJ ds (f:Int),()),S.VN (f:Int),S.al λbd Ml S=>S.dx 0 rfl rfl rfl λHv S=>⟨rfl,S.bW 0 rfl rfl ?_⟩⟩⟩⟩;refine ab (λF=>⟨rfl,rfl,aj.of _ (S.e9 (X:=X) (A:=B) (g:=h'.g) (B3 _ TY) (n:=1) rfl) (S.MG (f:Int) 5 a λWw S=>λTi Xd=>⟨n - 1,by omega,m+1, _,?_,by omega,?_,?_,(S.ext Xd).tail⟩)⟩) (λF=>λTi Xd=>⟨n - 1,by omega,m+1,ds,?_,by omega,?_,?_,(S.ext Xd).tail⟩)
  ·show aC .i64 (m:Int) 1= _;rw[av (by omega) (by omega)];omega
  ·show 0<=aC .i64 cnt 1/\aC .i64 cnt 1<=((m+1:Nat):Int);rw[av (by omega) (by omega)];omega
  ·show(l.drop (m+1)).foldl (qA a) (fC ds (f:Int) (aE 5 a),aC .i64 cnt 1)=R;rw[av (by omega) (by omega), <-O];have d4:(oK ds (f:Int)).1=4:=by simpa using F
   rw[show qA a (ds,cnt) f=if(oK ds (f:Int)).1=4 then(fC ds (f:Int) (aE 5 a),cnt+1) else(ds,cnt) from rfl,ax d4]
  ·show aC .i64 (m:Int) 1= _;rw[av (by omega) (by omega)];omega
  ·show 0<=cnt/\cnt<=((m+1:Nat):Int);omega
  ·show(l.drop (m+1)).foldl (qA a) (ds,cnt)=R;rw[<-O];have d4: ¬ (oK ds (f:Int)).1=4:=by simpa using F
   rw[show qA a (ds,cnt) f=if(oK ds (f:Int)).1=4 then(fC ds (f:Int) (aE 5 a),cnt+1) else(ds,cnt) from rfl,ao d4]
 have U: ¬ m<l.length:=by simpa using o
 rw[List.drop_of_length_le (by omega)] at O;have O:(ds,cnt)=R:=O;rw[<-O] at kk;have S:=S.sub (Ey _ Iw);rw[Xc] at S;refine⟨rfl,rfl,⟨rfl,by omega,by show a<((17:Nat):Int);omega⟩,?_⟩;rw[aL];refine S.yk 4 rfl rfl (by rw[Nat.blt_eq,D4];omega) λMl S=>S.res (j:=2) rfl _ _ λHv S=>?_;rw[fv ⟨by omega,by omega⟩];exact kk Hv (U6 d EL z (GG _ _) (d.gk.drop _) (Po.KJ d.pt a) (J2 S))
end
def run (h:HS) (v k a b c:Int):HS×Int×Int:=match k.toNat with
 |1=>(lF h,Dh h,tX h)
 |2=>(vS h a,QN h a,QM h a)
 |3=>(kl h v a b,Bz h v a b)
 |4=>(sL h v a,H8 h v a)
 |5=>(jM h v a b,0,rJ h v a b)
 |6=>(h,Dg h v a)
 |7=>(mo h v a b,0,BO h v a)
 |8=>(mn h v a b c,uj h v a b c)
 |9=>(jm h v a b c,0,lT h v a b c)
 |10=>(g7 h v a,0,rK h v a)
 |11=>(lj h v a,0,yE h v a)
 |12=>(tV h v a,De h v a)
 |13=>(tW h v a b,Df h v a b)
 |14=>(tU h v a,0,Is h v a)
 |15=>(Iv h v,Iu h v,0)
 |16=>(om h v a,0,BN h v a)
 | _=>(bJ h (di h.s h.s.2.length).1,((di h.s h.s.2.length).2:Int),0)
def py (h:HS) (v k a b c:Int):Int:=
 if(decide (v<0)||decide (v>16)|| !dT k a b c)=true then 1 else if(!(v==0)==xZ k)=true then 7 else if(decide (v>0)&& !aX h.g v)=true then 4 else 0
def Qh (h:HS) (v k a b c:Int):Int:=if py h v k a b c=0 then(run h v k a b c).2.2 else py h v k a b c
def Qi (h:HS) (v k a b c:Int):Int:=if py h v k a b c=0 then(if(run h v k a b c).2.2=0 then(run h v k a b c).2.1 else 0) else 0
def A5 (h:HS) (v k a b c:Int):HS:=if py h v k a b c=0 then(run h v k a b c).1 else h
structure QQ (Q:Sys) (h:HS):Prop where
 Ma:EC Q h.s
 sz:16*h.s.2.length<=h.s.1.length
 rr: ∀v,aX h.g v=true->0<=a6 h.g v/\a6 h.g v<4096
 pg: ∀v, ∀t∈sU h v,t.1<65536
 new: ∀v a b c, ∀x,h.g v.toNat=some x->aX h.g v=true->iw h.s (a6 h.g v) false b (iu h a).1 (oR c)=0->bL x.tk b=none
section
variable {Q:Sys} {X:HX} {D G:List Nat} {w0 w:A1} {h:HS} {L T:List (Nat×List A9)}
theorem D7 (A:Nat->GA) (h:HS):(dC Q X A h (aW Q A h.g (A3 17)++(T++L))).Perm (T++dC Q X A h (aW Q A h.g (A3 17)++L)):=by
 have a:dC Q X A h (aW Q A h.g (A3 17)++(T++L))=(dC Q X A h (aW Q A h.g (A3 17)))++(T++L):=by simp
 have b:T++dC Q X A h (aW Q A h.g (A3 17)++L)=T++(dC Q X A h (aW Q A h.g (A3 17))++L):=by simp
 rw[a,b];exact Ix _ _ _
theorem dA.of {A:Nat->GA} (W:wc A h) (H:SM Q D G w0 w h.s (T++dC Q X A h (aW Q A h.g (A3 17)++L)) (de A h.g (A3 17))):dA Q X D G w0 w h (T++L):=
 ⟨A,W,H.perm (D7 A h)⟩
theorem dA.to (H:dA Q X D G w0 w h (T++L)): ∃A,wc A h/\SM Q D G w0 w h.s (T++dC Q X A h (aW Q A h.g (A3 17)++L)) (de A h.g (A3 17)):=by
 obtain⟨A,W,H⟩:=H;exact⟨A,W,H.perm (D7 A h).symm⟩
theorem dA.ext {w1:A1} (H:dA Q X D G w0 w h L) (e:Ext w w1):dA Q X D G w0 w1 h L:=by
 obtain⟨A,W,H⟩:=H;exact⟨A,W,H.ext e⟩
def jG (k:Int):Nat:=([124,125,127,128,129,130,131,132,133,134,135,136,137,138,139,140,126]:List Nat).getD (k - 1).toNat 0
theorem dp (H:dA Q X D G w0 w h L) (R:QQ Q h) {v k a b c:Int} (m:1<=k/\k<=17) (i:xZ k=false->aX h.g v=true) (f:0<=a/\a<18446744073709551616) (hb:0<=b/\b<18446744073709551616) (hc:0<=c/\c<18446744073709551616) {K:RS->A1->Prop}
 (kk: ∀V d,((run h v k a b c).2.2=0->V=(run h v k a b c).2.1)->dA Q X D G w0 d (run h v k a b c).1 L->K (V,(run h v k a b c).2.2,()) d):
 ar A2 (jG k) (.el (.agg gY)) [ah (ad X.hb),aa v,.agg ⟨fk k a b c⟩] w K:=by
 have:k=1\/k=2\/k=3\/k=4\/k=5\/k=6\/k=7\/k=8\/k=9\/k=10\/k=11\/k=12\/k=13\/k=14\/k=15\/k=16\/k=17:=by omega
 rcases this with rfl|rfl|rfl|rfl|rfl|rfl|rfl|rfl|rfl|rfl|rfl|rfl|rfl|rfl|rfl|rfl|rfl
 ·exact GF H (by have:=R.sz;omega) v 1 a b c λV d j H=>kk V d j H
 ·exact CS H v 2 b c f.1 R.Ma (R.rr a) (R.pg a) λd H=>kk _ d (λ_=>rfl) H
 ·exact Gz H (i rfl) 3 c f.1 hb.1 λd H=>kk _ d (λ_=>rfl) H
 ·exact CN H (i rfl) R.Ma (R.rr v (i rfl)) 4 b c f.1 λd H=>kk _ d (λ_=>rfl) H
 ·exact CM H (i rfl) 5 c f.1 hb.1 λd H=>kk _ d (λ_=>rfl) H
 ·exact Oo H v 6 b c f.1 λd H=>kk _ d (λ_=>rfl) H
 ·exact LC H v 7 c f.1 hb λd H=>kk _ d (λ_=>rfl) H
 ·exact LB H v 8 f.1 hb.1 hc.1 λd H=>kk _ d (λ_=>rfl) H
 ·exact Ot H (i rfl) 9 f.1 hb.1 hc.1 (λx l e=>R.new v a b c x l (i rfl) e) λd H=>kk _ d (λ_=>rfl) H
 ·exact Oq H (i rfl) R.Ma (R.rr v (i rfl)) 10 b c f.1 λd H=>kk _ d (λ_=>rfl) H
 ·exact Gw H v 11 b c f.1 λd H=>kk _ d (λ_=>rfl) H
 ·exact Om H v 12 b c f.1 λd H=>kk _ d (λ_=>rfl) H
 ·exact On H v 13 c f.1 hb.1 λd H=>kk _ d (λ_=>rfl) H
 ·exact Ok H v 14 b c f.1 λd H=>kk _ d (λ_=>rfl) H
 ·exact Ol H v 15 a b c λd H=>kk _ d (λ_=>rfl) H
 ·exact Ly H v 16 b c f.1 λd H=>kk _ d (λ_=>rfl) H
 ·exact LD H v 17 a b c λd H=>kk _ d (λ_=>rfl) H
end
def l7 (k:Int) (b:Nat):B4:={key:=aa k,val:= .func (.func (jG k)) #[] #[],born:=b}
def cC:Array B4:=⟨[l7 1 0,l7 2 1,l7 17 2,l7 3 3,l7 4 4,l7 5 5,l7 6 6,l7 7 7,l7 8 8,l7 9 9,l7 10 10,l7 11 11,l7 12 12,l7 13 13,l7 14 14,l7 15 15,l7 16 16]⟩
section
variable {D G:List Nat} {w0 w:A1} {L:List (Nat×List A9)} {M:List (Nat×Obj)}
theorem GH (H:gW D G w0 w L M) {K:Option Nat->A1->Prop} (k: ∀r a,gW D G w0 a L ((r,.map cC 17)::M)->K (some r) a):aB A2 64 (.el (.one .map)) [] w K:=by
 refine λw1 b=>ai (C:=V0) (aM:=λ_=>[]) (A_ (Ge w1 K) ?_);have H:=H.ext b;intro c d;have H:=(H.ext d).alloc (o:= .map #[] 0) trivial;refine fI H (by kernel_rfl) λg H=>?_;refine fI H (by kernel_rfl) λh H=>?_;refine fI H (by kernel_rfl) λi H=>?_;refine fI H (by kernel_rfl) λj H=>?_;refine fI H (by kernel_rfl) λl H=>?_;refine fI H (by kernel_rfl) λm H=>?_;refine fI H (by kernel_rfl) λn H=>?_;refine fI H (by kernel_rfl) λp H=>?_;refine fI H (by kernel_rfl) λq H=>?_;refine fI H (by kernel_rfl) λs H=>?_;refine fI H (by kernel_rfl) λt H=>?_;refine fI H (by kernel_rfl) λu H=>?_;refine fI H (by kernel_rfl) λv H=>?_;refine fI H (by kernel_rfl) λx H=>?_;refine fI H (by kernel_rfl) λy H=>?_;refine fI H (by kernel_rfl) λz H=>?_;refine fI H (by kernel_rfl) λA H=>?_;exact λe f=>k c.heap.size e ((H.ext f).Ph (by kernel_rfl))
theorem yU {k:Int} (a:1<=k/\k<=17):bA A2 (jG k)=true:=by
 have:k=1\/k=2\/k=3\/k=4\/k=5\/k=6\/k=7\/k=8\/k=9\/k=10\/k=11\/k=12\/k=13\/k=14\/k=15\/k=16\/k=17:=by omega
 rcases this with rfl|rfl|rfl|rfl|rfl|rfl|rfl|rfl|rfl|rfl|rfl|rfl|rfl|rfl|rfl|rfl|rfl
 ·exact(by kernel_rfl:bA A2 (jG 1)=true)
 ·exact(by kernel_rfl:bA A2 (jG 2)=true)
 ·exact(by kernel_rfl:bA A2 (jG 3)=true)
 ·exact(by kernel_rfl:bA A2 (jG 4)=true)
 ·exact(by kernel_rfl:bA A2 (jG 5)=true)
 ·exact(by kernel_rfl:bA A2 (jG 6)=true)
 ·exact(by kernel_rfl:bA A2 (jG 7)=true)
 ·exact(by kernel_rfl:bA A2 (jG 8)=true)
 ·exact(by kernel_rfl:bA A2 (jG 9)=true)
 ·exact(by kernel_rfl:bA A2 (jG 10)=true)
 ·exact(by kernel_rfl:bA A2 (jG 11)=true)
 ·exact(by kernel_rfl:bA A2 (jG 12)=true)
 ·exact(by kernel_rfl:bA A2 (jG 13)=true)
 ·exact(by kernel_rfl:bA A2 (jG 14)=true)
 ·exact(by kernel_rfl:bA A2 (jG 15)=true)
 ·exact(by kernel_rfl:bA A2 (jG 16)=true)
 ·exact(by kernel_rfl:bA A2 (jG 17)=true)
theorem sk {r:Nat} (h:bE w r cC 17) {k:Int} (a:1<=k/\k<=17):jg w (some r) .i64 k Value.nilFunc (.func (.func (jG k)) #[] #[]):=by
 have:k=1\/k=2\/k=3\/k=4\/k=5\/k=6\/k=7\/k=8\/k=9\/k=10\/k=11\/k=12\/k=13\/k=14\/k=15\/k=16\/k=17:=by omega
 rcases this with rfl|rfl|rfl|rfl|rfl|rfl|rfl|rfl|rfl|rfl|rfl|rfl|rfl|rfl|rfl|rfl|rfl
 ·exact⟨r,cC,17,rfl,h,rfl⟩
 ·exact⟨r,cC,17,rfl,h,rfl⟩
 ·exact⟨r,cC,17,rfl,h,rfl⟩
 ·exact⟨r,cC,17,rfl,h,rfl⟩
 ·exact⟨r,cC,17,rfl,h,rfl⟩
 ·exact⟨r,cC,17,rfl,h,rfl⟩
 ·exact⟨r,cC,17,rfl,h,rfl⟩
 ·exact⟨r,cC,17,rfl,h,rfl⟩
 ·exact⟨r,cC,17,rfl,h,rfl⟩
 ·exact⟨r,cC,17,rfl,h,rfl⟩
 ·exact⟨r,cC,17,rfl,h,rfl⟩
 ·exact⟨r,cC,17,rfl,h,rfl⟩
 ·exact⟨r,cC,17,rfl,h,rfl⟩
 ·exact⟨r,cC,17,rfl,h,rfl⟩
 ·exact⟨r,cC,17,rfl,h,rfl⟩
 ·exact⟨r,cC,17,rfl,h,rfl⟩
 ·exact⟨r,cC,17,rfl,h,rfl⟩
end
section
variable {Q:Sys} {X:HX} {D G:List Nat} {w0 w:A1} {s:WD} {h:HS} {L L0:List (Nat×List A9)} {M:List (Nat×Obj)} {K:RS->A1->Prop}
theorem SM.Jd (H:SM Q D G w0 w s L0 M) {K:Option Nat->A1->Prop} (k: ∀r e,SM Q D G w0 e s L0 ((r,.map cC 17)::M)->K (some r) e):aB A2 64 (.el (.one .map)) [] w K:=by
 obtain⟨a,b,c,d,ca,la,H⟩:=H;exact GH H λr e H=>k r e ⟨a,b,c,d,ca,la,H⟩
theorem BP (S:a7 Q D G w0 w s L0) {j j1 b c:Nat} {l:List A9} {g h:A9} (i:L0[j]? =some (b,l)) (m:L0[j1]? =some (c,[g,h])) (n:j≠j1) (o:l.length=2) (V E:Int)
 (kk: ∀a,a7 Q D G w0 a s ((L0.set j (b,[aq V,aa E])).set j1 (c,[aq (if E=0 then V else 0),aa E]))->K (if E=0 then V else 0,E,()) a):
 aw w (ad b) [aq V,aa E] λ(a:A1)=>true=true/\aj a none (ae (ad b) 1) (.one (.int .i64)) λ(x:Int)=>
  aF (x != 0)
   (true=true/\aj a none (ae (ad b) 1) (.one (.int .i64)) λ(x:Int)=>True/\
    aw a (ad c) [aq 0,aa x] λ(a:A1)=>ak a λ(w1:A1)=>aj w1 none (ad c) (.agg [.int .u64,.int .i64]) λ(x:Int×Int×Unit)=>K (x.1,x.2.1,()) w1)
   (aj a none (ad b) (.agg [.int .u64,.int .i64]) λ(x:Int×Int×Unit)=>
    aw a (ad c) [aq x.1,aa x.2.1] λ(a:A1)=>ak a λ(w1:A1)=>aj w1 none (ad c) (.agg [.int .u64,.int .i64]) λ(x:Int×Int×Unit)=>K (x.1,x.2.1,()) w1):=by
 have p:j<L0.length:=(B5.1 i).1;refine S.dx j i rfl o.symm λa S=>?_;have d:(L0.set j (b,[aq V,aa E]))[j]? =some (b,[aq V,aa E]):=B1 p;have k:(L0.set j (b,[aq V,aa E]))[j1]? =some (c,[g,h]):=by rw[AX n];exact m
 refine⟨rfl,S.bW j d (show _=some E from rfl) ?_⟩;refine ab (λe=>?_) (λe=>?_)
 ·have e: ¬ E=0:=by simpa using e
  rw[ao e] at kk;exact⟨rfl,S.bW j d (show _=some E from rfl) ⟨trivial,S.res k 0 E λf S=>kk f S⟩⟩
 ·have e:E=0:=by simpa using e
  rw[ax e] at kk;exact S.ld j d (show _=some (V,E,()) from rfl) (S.res k V E λf S=>kk f S)
theorem R4 {a:Nat} {sh:Sh} {args:List A9} {w:A1} {K:sh.T->A1->Prop} (hc:bA A2 a=true) (b: ∀w1,Ext w w1->ar A2 a sh args w1 K):A7 A2 (.func (.func a) #[] #[]) sh args w K:=by
 unfold A7;refine λw1 c=>⟨a, #[], #[],rfl,hc,?_⟩;have e:dg #[] args #[]=args:=by unfold dg;simp
 rw[e];exact b w1 c
theorem R5 (H:dA Q X D G w0 w h L) (R:QQ Q h) (v k:Int) {a b c:Int} (U:0<=a/\a<18446744073709551616) (hb:0<=b/\b<18446744073709551616) (hc:0<=c/\c<18446744073709551616)
 (kk: ∀o,dA Q X D G w0 o (A5 h v k a b c) L->K (Qi h v k a b c,Qh h v k a b c,()) o):
 ar A2 9 (.el (.agg gY)) [ah (ad X.hb),aa v,.agg ⟨fk k a b c⟩] w K:=by
 obtain⟨A,W,H⟩:=H;obtain⟨Y,S,J⟩:=H.call;refine aO (C:=V1) (aM:=λ_=>[]) (A_ (RU _ v k a b c w K) ?_);unfold Qh Qi A5 at kk;refine S.al λZ o S=>S.al λb1 w3 S=>⟨_,jq S (X:=X) (A:=A) (g:=h.g) (by simp),an rfl ?_⟩;have B: ∀e,e≠0->py h v k a b c=e-> ∀{o:A1} {x:List A9},a7 Q [] Y w o h.s ((b1,x)::(Z,fk k a b c)::dC Q X A h (aW Q A h.g (A3 17)++L))->K (0,e,()) o:=λe E h1 o x S=>by
  rw[h1,ao E,ao E,ao E] at kk;exact kk o ⟨A,W,J S.tail.tail⟩
 have l:py h v k a b c=if(decide (v<0)||decide (v>16)|| !dT k a b c)=true then 1 else if(!(v==0)==xZ k)=true then 7 else if(decide (v>0)&& !aX h.g v)=true then 4 else 0:=rfl;refine S.ld 1 rfl (show _=some (k,a,b,c,()) from rfl) ⟨dT k a b c,λ_=>uF k a b c,?_⟩;refine ab (λd=>⟨trivial,S.res (j:=0) rfl 0 1 λm S=>?_⟩) (λd=>⟨rfl,S.bW 1 rfl rfl ⟨xZ k,Cu k,?_⟩⟩)
 ·rw[ax d] at l;exact B 1 (by decide) l S
 rw[ao (by rw[d];decide)] at l;simp only[Dn,decide_eq_false_iff_not,Bool.not_eq_false'] at d;obtain⟨⟨dv0,dv1⟩,F⟩:=d;refine ab (λd=>⟨trivial,S.res (j:=0) rfl 0 7 λm S=>?_⟩) (λd=>⟨aX h.g v,λ_=>mU S (X:=X) (A:=A) (g:=h.g) (by simp) v,?_⟩)
 ·rw[ax d] at l;exact B 7 (by decide) l S
 rw[ao (by rw[d];decide)] at l;have I:=d;refine ab (λd=>⟨trivial,S.res (j:=0) rfl 0 4 λm S=>?_⟩) (λd=>⟨rfl,S.bW 1 rfl rfl (S.ld 1 rfl (show _=some (k,a,b,c,()) from rfl) ?_)⟩)
 ·rw[ax d] at l;exact B 4 (by decide) l S
 rw[ao (by rw[d];decide)] at l;rw[l,ax rfl,ax rfl,ax rfl] at kk;have y:1<=k/\k<=17:=by
  unfold dT at F;rw[EB,decide_eq_true_eq] at F;have d1:=F.1;unfold cP at d1;by_cases e:1<=k/\k<=17
  ·exact e
  ·rw[ao e] at d1;exact absurd d1 (by decide)
 have hl:xZ k=false->aX h.g v=true:=λe=>by
  rw[e] at I;have P_:v≠0:=by
   intro e0;rw[e0] at I;exact absurd I (by decide)
  have:decide (v>0)=true:=decide_eq_true (by omega);rw[this,FS] at d;simpa using d
 have call: ∀{T:List (Nat×List A9)} {m:A1} {M:RS->A1->Prop},SM Q D G w0 m h.s (T++dC Q X A h (aW Q A h.g (A3 17)++L)) (de A h.g (A3 17))->
  (∀V p f,((run h v k a b c).2.2=0->V=(run h v k a b c).2.1)->wc f (run h v k a b c).1->SM Q D G w0 p (run h v k a b c).1.s (T++dC Q X f (run h v k a b c).1 (aW Q f (run h v k a b c).1.g (A3 17)++L)) (de f (run h v k a b c).1.g (A3 17))->M (V,(run h v k a b c).2.2,()) p)->
  A7 A2 (.func (.func (jG k)) #[] #[]) (.el (.agg gY)) [ah (ad X.hb),aa v,.agg ⟨fk k a b c⟩] m M:=λ{T m M} H kk2=>by
  refine R4 (yU y) λp h5=>?_;refine dp (dA.of W (H.ext h5)) R y hl U hb hc λV z n H=>?_;obtain⟨f,q,H⟩:=dA.to H;exact kk2 V z f n q H
 have fin: ∀{V:Int},((run h v k a b c).2.2=0->V=(run h v k a b c).2.1)->(if(run h v k a b c).2.2=0 then V else 0)=if(run h v k a b c).2.2=0 then(run h v k a b c).2.1 else 0:=λ{V} n=>by
  by_cases e:(run h v k a b c).2.2=0
  ·rw[ax e,ax e,n e]
  ·rw[ao e,ao e]
 refine⟨?_,?_⟩
 ·refine(J S).Jd λr m H=>?_;have N:bE m r cC 17:=H.get AC;have H:=H.EI (Bg _ _);obtain⟨G2,S,O⟩:=H.call;refine⟨bI (S.get (i:=1) rfl) rfl,?_,trivial, _,sk N y,?_,?_⟩
  ·rw[aL];exact bI (S.get (i:=1) rfl) rfl
  ·refine call (T:=[_, _]) H λV p f n q H=>?_;obtain⟨G3,S,t⟩:=H.call;refine S.al λP z S=>BP S (j:=0) (j1:=1) rfl rfl (by decide) rfl V _ λu S=>?_;rw[fin n];exact kk u ⟨f,q,t S.tail.tail.tail⟩
  ·refine S.al λP p S=>call (T:=[_, _, _]) (O S) λV z f n q H=>?_;obtain⟨G3,S,t⟩:=H.call;refine BP S (j:=0) (j1:=1) rfl rfl (by decide) rfl V _ λu S=>?_;rw[fin n];exact kk u ⟨f,q,t S.tail.tail.tail⟩
 ·refine S.al λP m S=>(J S).Jd λr p H=>?_;have N:bE p r cC 17:=H.get AC;have H:=H.EI (Bg _ _);obtain⟨G2,S,O⟩:=H.call;refine⟨bI (S.get (i:=2) rfl) rfl,?_,trivial, _,sk N y,?_⟩
  ·rw[aL];exact bI (S.get (i:=2) rfl) rfl
  ·refine call (T:=[_, _, _]) H λV z f n q H=>?_;obtain⟨G3,S,t⟩:=H.call;refine BP S (j:=0) (j1:=1) rfl rfl (by decide) rfl V _ λu S=>?_;rw[fin n];exact kk u ⟨f,q,t S.tail.tail.tail⟩
end
open Po (tv vZ mg iD mL iW oD rG)
def Hn (gs:List GT) (po:List Po.PT) (u v:Int):Prop:=rH gs u v=true\/Po.rE 4 po u v=true
open Classical in
noncomputable def tY (gs:List GT) (po:List Po.PT) (a b:Int):Bool:=decide (1<=a/\a<=16)&&(decide (1<=b/\b<=16)&&decide (Rc (Hn gs po) a b))
theorem xq {gs:List GT} {po:List Po.PT} {a b:Int}:tY gs po a b=true<->(1<=a/\a<=16)/\(1<=b/\b<=16)/\Rc (Hn gs po) a b:=by
 unfold tY;simp
theorem D8 {gs:List GT} {po:List Po.PT} {u v:Int} (h:Hn gs po u v):(1<=u/\u<=16)/\(1<=v/\v<=16):=by
 rcases h with h|h
 ·obtain⟨a,h2, _⟩:=qX.1 h;exact⟨qL.1 a,qL.1 h2⟩
 ·obtain⟨a,h2, _⟩:=Po.qW.1 h;exact⟨by simpa[Po.gI] using a,by simpa[Po.gI] using h2⟩
section
variable {w0:A1} {Q:Sys} {X:HX} {A:Nat->GA} {g:Nat->Option GV} {gs:List GT} {po:List Po.PT}
structure SO (w0:A1) (Q:Sys) (X:HX) (A:Nat->GA) (g:Nat->Option GV) (gs:List GT) (po:List Po.PT):Prop where
 hb:bh w0 X.hb (gQ Q X A g)
 gb:bh w0 X.gb (jU X.qs gs.length X.c)
 gr:bh w0 X.qs (flat eG gs++X.rest)
 pb:bh w0 X.pb (Po.fm 4 po)
 gl:gs.length=16
 gk:ki gs
 pt:Po.iY 4 po
abbrev wx (be a b:Nat) (X:HX) (bs:List Bool) (L:List (Nat×List A9)):List (Nat×List A9):=
 (be,[.func (.func 86) #[] #[ah (ad a),ah (ad b),ah (ad be)]])::(a,vZ bs)::(b,[ah (ad X.hb)])::L
theorem SO.glq {w:A1} (B:SO w0 Q X A g gs po) (h:Ext w0 w) (a b:Int):ag A2 87 [ah (ad X.gb),aa a,aa b] w (.bool (rH gs a b)):=
 ag.of (s:= .el (.one .bool)) λw' h'=>Cs ((B.gb.ext h).ext h') ((B.gr.ext h).ext h') (by rw[B.gl];decide) (by rw[B.gl];decide) B.gk a b
theorem SO.plq {w:A1} (B:SO w0 Q X A g gs po) (h:Ext w0 w) (a b:Int):ag A2 88 [ah (ad X.pb),aa a,aa b] w (.bool (Po.rE 4 po a b)):=
 ag.of (s:= .el (.one .bool)) λw' h'=>Po.Cr ((B.pb.ext h).ext h') B.pt a b
theorem GI (B:SO w0 Q X A g gs po) {be a c:Nat} {L:List (Nat×List A9)}:
 ∀(q:Nat) (bs:List Bool),mL bs<=q->bs.length=17-> ∀{w:A1} {n:Int},1<=n/\n<=16->tv bs n=false->At [] w0 w (wx be a c X bs L)-> ∀{K:Unit->A1->Prop},(∀v7 o,OX (Hn gs po) n bs v7->At [] w0 o (wx be a c X v7 L)->K () o)->
 aB A2 86 (.bH []) [aa n,ah (ad a),ah (ad c),ah (ad be)] w K:=by
 intro q
 induction q with
 |zero=>
  intro bs J hb w n D p H K k;have r:n.toNat<bs.length:=by omega
  have:=iW (bs:=bs) r;have h:bs.getD n.toNat false=false:=p;rw[h,ax rfl] at this;omega
 |succ q M=>
  intro bs J hb w n D p H K k;refine aB.go H λw1 H=>ai (C:=V2) (aM:=lI) (A_ (AV n _ _ _ w1 K) ?_);have r:n.toNat<bs.length:=by omega
  have N:(some (⟨a,0,none⟩:B2)).isSome=true/\0<=n/\n<((17:Nat):Int):=⟨rfl,by omega,by omega⟩;refine⟨N,rG 1 H rfl r λo H=>?_⟩;have L0:=Lp.init (E:=Hn gs po) hb ⟨by omega,D.2⟩;have O: ∀{cs},Lp (Hn gs po) n bs cs->mL cs<=q:=λ{cs} h=>by
   have:=h.mL;rw[p,ax rfl] at this;omega
  refine⟨λm v w'=>(1<=v.1/\v.1<=17/\(m:Int)=17 - v.1)/\ ∃cs:List Bool,Lp (Hn gs po) n bs cs/\(∀u:Int,1<=u->u<v.1->Hn gs po n u->tv cs u=true)/\At [] w0 w' (wx be a c X cs L),⟨16,λs P=>⟨⟨by decide,by decide,by decide⟩, _,L0,λu h1 h2=>(by dsimp only at h2;omega),H.ext P⟩⟩,?_⟩;clear H;rintro m ⟨v,u⟩ s ⟨⟨F,R,S⟩,cs,f,t,H⟩;dsimp only at F R S t ⊢;refine ab (λi=>?_) (λi=>ak.go H λj H=>k cs j (f.done λy l=>?_) H)
  ·have i:v<=16:=by simpa using i
   have T:v.toNat<cs.length:=by rw[f.len];omega
   have U:aC .i64 v 1=v+1:=av (by omega) (by omega);rw[U];have G: ∀{b:List Bool} {j:A1},Lp (Hn gs po) n bs b->(∀u,0<=u->tv cs u=true->tv b u=true)->(Hn gs po n v->tv b v=true)->At [] w0 j (wx be a c X b L)-> ∀x,Ext j x-> ∃I,I<m/\(1<=v+1/\v+1<=17/\(I:Int)=17 - (v+1))/\ ∃cs:List Bool,Lp (Hn gs po) n bs cs/\(∀u:Int,1<=u->u<v+1->Hn gs po n u->tv cs u=true)/\At [] w0 x (wx be a c X cs L):=by
    intro b j V W Y H x Z;refine⟨m - 1,by omega,⟨by omega,by omega,by omega⟩,b,V,λy y1 y2 l=>?_,H.ext Z⟩;by_cases e:y=v
    ·subst e;exact Y l
    ·exact W y (by omega) (t y y1 (by omega) l)
   have rd2:cI s (ae (ad X.hb) 2) (.one .ptr) (ad X.gb):=by
    rw[aL];exact bI (H.gm B.hb (by simp)) rfl
   have rd3:cI s (ae (ad X.hb) 3) (.one .ptr) (ad X.pb):=by
    rw[aL];exact bI (H.gm B.hb (by simp)) rfl
   refine⟨⟨rfl,by omega,by show v<((17:Nat):Int);omega⟩,aj.bN 1 H rfl (mg T) (aj.at 2 H rfl rfl ⟨λ_=>rfl,λ_=>rfl,aj.of _ rd2 ⟨rH gs n v,λ_=>B.glq H.all n v,aj.at 2 H rfl rfl ⟨λ_=>rfl,λ_=>rfl,aj.of _ rd3 ⟨Po.rE 4 po n v,λ_=>B.plq H.all n v,?_⟩⟩⟩⟩)⟩;refine ab (λd=>?_) (λd=>G f (λ_ _ h=>h) (λhe=>?_) H)
   ·simp only[EB,HQ,HP] at d;obtain⟨d1,d2⟩:=d;refine aj.at 0 H rfl rfl (M cs (O f) f.len ⟨F,i⟩ d1 H λb w6 z H=>?_);exact G (f.call d2 z (by omega)) z.mono (λ_=>z.Ez) H
   ·have he:rH gs n v=true\/Po.rE 4 po n v=true:=he;cases O5:tv cs v with
    |true=>rfl
    |false=>
     rw[O5] at d;simp only[Bool.not_false,FS,Dn] at d;rcases he with he|he
     ·rw[d.1] at he;cases he
     ·rw[d.2] at he;cases he
  ·have i: ¬ v<=16:=by simpa using i
   have:=D8 l;exact t y this.2.1 (by omega) l
theorem CT (B:SO w0 Q X A g gs po) (a b:Int) (i:ag A2 61 [ah (ad X.hb)] w0 (.bool true)):
 ar A2 26 (.el (.one .bool)) [ah (ad X.hb),aa a,aa b] w0 (λx w'=>x=tY gs po a b/\Ext w0 w'):=by
 refine ai (C:=V2) (aM:=λ_=>[]) (A_ (CG _ a b w0 _) ?_);have H:=At.start [] w0;refine aA.go H λj o H=>aj.at 0 H rfl rfl ⟨true,λw' h'=>i w' (H.all.trans h'),ab (λd=>ak.go H λk H=>⟨?_,H.all⟩) (λd=>?_)⟩
 ·unfold tY;simp only[Bool.not_true,Bool.false_or,HP,decide_eq_true_eq] at d;symm;rw[HO,decide_eq_false_iff_not,HO,decide_eq_false_iff_not];by_cases c:1<=a/\a<=16
  ·exact .inr (.inl (by omega))
  ·exact .inl c
 simp only[Bool.not_true,Bool.false_or,Dn,decide_eq_false_iff_not] at d;have c:1<=a/\a<=16:=by omega
 have hb:1<=b/\b<=16:=by omega
 refine aA.go H λl k H=>aA.go H λbe p H=>aw.all 0 H rfl rfl rfl λm H=>aj.at 0 H rfl rfl ?_;have H:At [] w0 m (wx be l j X (BA 17 false) []):=H;refine GI B (mL (BA 17 false)) (BA 17 false) (Do _) (by simp) c ?_ H λv7 q f H=>?_
 ·unfold tv;rw[DA,L7];split<;>rfl
 have n:b.toNat<v7.length:=by rw[f.len];omega
 refine⟨⟨rfl,by omega,by show b<((17:Nat):Int);omega⟩,aj.bN 1 H rfl (mg n) (ak.go H λr H=>⟨?_,H.all⟩)⟩;have:=f.iff (b:=b) (by omega) λu v e=>by have:=D8 e;omega
 rw[Bool.eq_iff_iff,xq,this];exact⟨λh=>⟨c,hb,h⟩,λh=>h.2.2⟩
end
section
variable {Q:Sys} {X:HX} {D G:List Nat} {w0 w:A1} {h:HS} {L:List (Nat×List A9)}
theorem GJ (H:dA Q X D G w0 w h L) (a b:Int):ag A2 26 [ah (ad X.hb),aa a,aa b] w (.bool (tY h.gr h.po a b)):=by
 obtain⟨A,W,H⟩:=H;have S:=H.base;refine ag.of (s:= .el (.one .bool)) λw' h'=>?_;have S:=S.ext h';exact CT (A:=A) (g:=h.g) ⟨S.get (i:=0) rfl,S.get (i:=1) rfl,S.get (i:=2) rfl,S.get (i:=3) rfl,W.gl,W.gk,W.pt⟩ a b (jq S (X:=X) (A:=A) (g:=h.g) (by simp))
end
end Go.Proofs.YteeflilbnoknnaaGreat
namespace Go.Proofs.YteeflilbnoknnaaGreat.Po
set_option maxRecDepth 100000
open Go.RX
def k0:List PT:=BA 512 zP
theorem LF {room:Int} (a:1<=room) (h2:room<=32):iY room k0 where
 len:=EA
 lo:=a
 hi:=h2
 inv g i h:=by
  refine .inl ?_;unfold gp k0;rw[DA,L7];split<;>rfl
theorem GK (n:Int) (w:A1) (a:Option B2×Int×Unit->A1->Prop):(aJ R1 (λ_=>[]) 56 [aa n] w a)=(
 aF (decide (n<1)||decide (n>32)) (ak w (a (none,1,()))) (aA w ⟨fm n k0⟩ 266 λb c=>ak c (a (some ⟨b,0,none⟩,0,())))):=by kernel_rfl
section
variable {D G:List Nat} {w0 w:A1} {L:List (Nat×List A9)}
theorem LG (H:aH D G w0 w L) (n:Int) {K:Option B2×Int×Unit->A1->Prop} (hb:n<1\/n>32-> ∀w1,aH D G w0 w1 L->K (none,1,()) w1)
 (d:1<=n->n<=32-> ∀bp w1,aH D G w0 w1 ((bp,fm n k0)::L)->K (some ⟨bp,0,none⟩,0,()) w1):
 aB A2 56 (.bH [.one .ptr,.one (.int .i64)]) [aa n] w K:=by
 refine aB.go H λw1 H=>ai (C:=R1) (aM:=λ_=>[]) (A_ (GK n w1 K) ?_);refine ab (λc=>?_) (λc=>?_)
 ·exact ak.go H λa H=>hb (by simp at c;omega) a H
 ·refine aA.go H λb a H=>ak.go H λe H=>d (by simp at c;omega) (by simp at c;omega) b e H
end
end Go.Proofs.YteeflilbnoknnaaGreat.Po
namespace Go.Proofs.YteeflilbnoknnaaGreat
set_option maxRecDepth 100000
open Go.RX D
def h0 (n:Nat):HS:={s:=fresh (16*n) n,g:=λ_=>none,gr:=BA 16 zG,po:=Po.k0}
section
variable {D G:List Nat} {w0 w:A1} {L:List (Nat×List A9)}
theorem yF (H:aH D G w0 w L) (n:Int) {K:Option B2×Int×Unit->A1->Prop} (B:n<4\/n>4096-> ∀w1,aH D G w0 w1 L->K (none,1,()) w1)
 (E:4<=n->n<=4096-> ∀Q X w1,Q.c=16*n.toNat->dA Q X D G w0 w1 (h0 n.toNat) L->K (some ⟨X.hb,0,none⟩,0,()) w1):
 aB A2 6 (.bH [.one .ptr,.one (.int .i64)]) [aa n] w K:=by
 refine aB.go H λw1 H=>ai (C:=V0) (aM:=λ_=>[]) (A_ (DQ n w1 K) ?_);refine ab (λc=>ak.go H λq H=>B (by simpa using c) q H) (λc=>?_);have r:4<=n/\n<=4096:=by
  simp only[Dn,decide_eq_false_iff_not] at c;omega
 obtain⟨m,rfl⟩: ∃m:Nat,n=(m:Int):=⟨n.toNat,by omega⟩;have e:dO .i64 16 (m:Int)=((16*m:Nat):Int):=by rw[dI (by omega) (by omega)];omega
 rw[e];refine aA.go H λb q H=>?_;refine Nm (n:=16*m) H (by omega) λbm bw J H=>⟨rfl,rfl,?_⟩;generalize s:BA (16*m) (0:Int)=W at H;refine aw.dF 2 H rfl rfl rfl λM H=>?_;refine NT H (m:Int) (λhb=>by omega) λ_ _ bp bf N H=>⟨rfl,rfl,?_⟩;rw[show((m:Int)).toNat=m from rfl] at H;generalize t:BA m zD=F at H;refine aw.dF 4 H rfl rfl rfl λO H=>?_;refine Nx H 16 (by decide) λgb gr P H=>⟨rfl,rfl,?_⟩;obtain⟨u,v⟩: ∃u,u=BA 16 zG:=⟨_,rfl⟩;rw[<-v] at H;refine aw.dF 6 H rfl rfl rfl λR H=>?_;refine Po.LG H 4 (λhb=>by omega) λ_ _ pb S H=>⟨rfl,rfl,?_⟩;obtain⟨y,z⟩: ∃y,y=Po.k0:=⟨_,rfl⟩;rw[<-z] at H;refine aw.dF 7 H rfl rfl rfl λT H=>ak.go H λA H=>?_;refine E r.1 r.2 ⟨bm,bw,bf,bp,16*m,m,[],[]⟩ ⟨b,gb,gr,pb,16,[]⟩ A rfl ⟨λ_=>⟨0,0,0,0,[]⟩,⟨λh=>(by cases h),λh=>(by cases h),rfl,Po.LF (by decide) (by decide),ki.new 16⟩,SM.of ⟨?_,?_,?_,?_,0,0,?_⟩⟩
 ·show 0<(BA (16*m) (0:Int)).length;rw[EA];omega
 ·show 0<(BA m zD).length;rw[EA];omega
 ·show(BA m zD).length<=4096;rw[EA];omega
 ·intro x p;have p:x∈BA (16*m) (0:Int):=p;rw[List.eq_of_mem_replicate p];decide
 ·unfold Sys.L;show aH D G w0 A ((bm,kh bw (BA (16*m) (0:Int)).length (16*m) 0 0)::(bw,flat eW (BA (16*m) (0:Int))++[])::(bf,flat eD (BA m zD)++[])::(bp,[.slice (ad bf) (BA m zD).length m])::(b,gQ _ _ (λ_=>⟨0,0,0,0,[]⟩) λ_=>none)::(gb,jU gr (BA 16 zG).length 16)::(gr,flat eG (BA 16 zG)++[])::(pb,Po.fm 4 Po.k0)::([]++L));rw[s,t, <-v, <-z,show W.length=16*m by rw[<-s,EA],show F.length=m by rw[<-t,EA]];refine H.perm ?_;have I: ∀(a d f g j k l o:Nat×List A9),([k,l,j,g,o,d,f,a]++L).Perm ([a,d,f,g,j,k,l,o]++L):=λa d f g j k l o=>by
   refine List.Perm.append_right L ?_;exact(show([5,6,4,3,7,1,2,0]:List Nat).Perm [0,1,2,3,4,5,6,7] by decide).map λi=>([a,d,f,g,j,k,l,o]:List (Nat×List A9)).getD i a
  exact I _ _ _ _ _ _ _ _
end
namespace Inv
variable {g:Gh} {s s':WD}
structure fc (g:Gh) (s s':WD):Prop where
 len:s'.1.length=s.1.length/\s'.2.length=s.2.length
 ws: ∀{f o x k:Int} {l:Nat},g f=some (o,l,x)->0<=k->k<16->dB s'.1 (16*f+k)=dB s.1 (16*f+k)
 tb: ∀{n:Nat} {d:DT},s.2[n]? =some d->d.1=3->s'.2[n]? =some d
 bt: ∀{n:Nat} {d:DT},s'.2[n]? =some d->d.1=3->s.2[n]? =some d
 fz: ∀d∈s'.2,d.1=0->d=zD
theorem fc.Qj (B:fc g s s') {f o x k:Int} {l:Nat} (h:g f=some (o,l,x)) (h0:0<=k) (a:k<16):az s'.1 (16*f+k)=az s.1 (16*f+k):=by
 unfold az;rw[B.ws h h0 a]
theorem beside (I:Inv g s) (B:fc g s s'):Inv g s' where
 len:=by rw[B.len.1,B.len.2];exact I.len
 le:=by rw[B.len.2];exact I.le
 fz:=B.fz
 kd:=λ{f o l x} h=>by
  obtain⟨a,b,c,d⟩:=I.kd h;rw[B.len.2];exact⟨a,b,B.tb c rfl,d⟩
 inj:=I.inj
 oG:=λ{f o l x i} h h0 e j=>by
  rw[B.Qj h h0 e] at j ⊢;exact I.oG h h0 e j
 leaf:=λ{f o l x i} h h0 e=>by
  rw[B.Qj h h0 e];exact I.leaf h h0 e
 A4:=λ{f o l x} h p=>by
  obtain⟨f',e,h2⟩:=I.A4 h p;refine⟨f',e,?_⟩;rw[B.Qj e (by omega) (by omega)];exact h2
 wf:=λ{f o l x i} h h0 e k=>by
  rw[B.Qj h h0 e] at k;rw[B.ws h h0 e];exact I.wf h h0 e k
 tb:=λ{n d} h m=>I.tb (B.bt h m) m
theorem CU (B:fc g s s') {o p f:Int} {j:Nat} (h:dm g s o p f j):dm g s' o p f j:=
 ⟨h.1,by rw[B.Qj h.1 (dR p j).1 (dR p j).2];exact h.2⟩
theorem tc {r p:Int} (a: ¬ (0<=p/\p<65536)):a_ s r false p=(0,0,2,()):=by
 unfold a_;rw[ao (by decide),ax (by omega)]
theorem dz (I:Inv g s) (B:fc g s s') {o r:Int} (b:g r=some (o,3,0)) (p:Int):a_ s' r false p=a_ s r false p:=by
 by_cases a:0<=p/\p<65536
 ·obtain⟨f,j, _,c⟩:=I.kZ b a;rw[I.fT b a c,(I.beside B).fT b a (CU B c),B.Qj c.1 (dR p j).1 (dR p j).2]
 ·rw[tc a,tc a]
theorem kK (B:fc g s s') (h:v_ g s):v_ g s':=λf o l x i a h0 b c d=>by
 rw[B.Qj a h0 b] at c d;exact h a h0 b c d
theorem R6 (s:WD) (r:Int) {p:Int} (a:0<=p/\p<65536):(a_ s r false p).2.2.1=0\/a_ s r false p=(0,0,4,()):=by
 unfold a_;rw[ao (by decide),ao (by omega)];split
 ·exact .inl rfl
 ·exact .inr rfl
theorem X7 (I:Inv g s) (nl:v_ g s) {o r p:Int} (b:g r=some (o,3,0)) (c:0<=p/\p<65536) (h:(a_ s r false p).2.2.1=0): ∃f,dm g s o p f 0/\(az s.1 (16*f+px 0 p % 16)).1=true/\(dh s.1 r p).2.1=0:=by
 obtain⟨f,j, _,a⟩:=I.kZ b c;rw[I.fT b c a] at h;have d:=yD h;have e:=nl a.1 (dR p j).1 (dR p j).2 d a.2;subst e;refine⟨f,a,d,?_⟩;rw[(I.lf b c a).1];rfl
theorem X8 (I:Inv g s) (nl:v_ g s) {o r p:Int} (a:g r=some (o,3,0)) (b:0<=p/\p<65536) (h:(a_ s r false p).2.2.1=0):jY s o r p=0:=by
 obtain⟨_, _, _,e⟩:=I.X7 nl a b h;unfold jY;rw[ax e]
theorem TZ (I:Inv g s) (nl:v_ g s) {o r p:Int} (a:g r=some (o,3,0)) (b:0<=p/\p<65536) (h:(a_ s r false p).2.2.1=0):x9 s o r false p=0:=by
 unfold x9;rw[ax h];exact I.X8 nl a b h
theorem Je (I:Inv g s) {o r p:Int} (c:g r=some (o,3,0)) (h:(a_ s r false p).2.2.1=0):(0<=p/\p<65536)/\0<=(a_ s r false p).1:=by
 have a:0<=p/\p<65536:=by
  by_cases a:0<=p/\p<65536
  ·exact a
  ·rw[tc a] at h;exact absurd h (by decide)
 refine⟨a,?_⟩;obtain⟨f,j, _,i⟩:=I.kZ c a;rw[I.fT c a i] at h ⊢;have b:=yD h;have d:=lr s.1 (16*f+px j p % 16);unfold l6;rw[ax b];generalize az s.1 (16*f+px j p % 16)=e at*
 obtain⟨ep,er,el,ef,k⟩:=e;dsimp only at b d;subst b;obtain⟨l,m,n,q,t⟩:=lh.1 d;dsimp only;split<;>omega
end Inv
set_option maxRecDepth 100000
open Go.RX D
def jf {α:Type} (F:Nat->α) (v:Nat) (y:α):Nat->α:=λi=>if i=v then y else F i
theorem jc {α:Type} (F:Nat->α) (v:Nat) (y:α):jf F v y v=y:=ax rfl
theorem lk {α:Type} {F:Nat->α} {v i:Nat} (h:i≠v) (y:α):jf F v y i=F i:=ao h
theorem yG (F:Nat->Nat) (v y:Nat): ∀n,((A3 n).map (jf F v y)).sum+(if v<n then F v else 0)=((A3 n).map F).sum+(if v<n then y else 0)
 |0=>rfl
 |n+1=>by
  have a:=yG F v y n;rw[List.range_succ,DS,DS,L9,L9];simp only[E4,List.map_nil,List.sum_cons,List.sum_nil];by_cases h:v=n
  ·subst h;rw[jc];rw[ao (Nat.lt_irrefl _),ao (Nat.lt_irrefl _)] at a;rw[ax (HT _),ax (HT _)];omega
  ·rw[lk (λe=>h e.symm)];by_cases h2:v<n
   ·rw[ax h2,ax h2] at a;rw[ax (by omega),ax (by omega)];omega
   ·rw[ao h2,ao h2] at a;rw[ao (by omega),ao (by omega)];omega
def kT (tk:Nat->List TK) (q:TK->Bool):Nat:=((A3 17).map λi=>(tk i).countP q).sum
theorem uN (tk:Nat->List TK) (q:TK->Bool) {v:Nat} (hv:v<17) (y:List TK):kT (jf tk v y) q+(tk v).countP q=kT tk q+y.countP q:=by
 have h:=yG (λi=>(tk i).countP q) v (y.countP q) 17;rw[ax hv,ax hv] at h;have e:(λi=>(jf tk v y i).countP q)=jf (λi=>(tk i).countP q) v (y.countP q):=by
  funext i;unfold jf;split<;>rfl
 unfold kT;rw[e];exact h
theorem uO {tk:Nat->List TK} {q:TK->Bool} (h:0<kT tk q): ∃i t,i<17/\t∈tk i/\q t=true:=by
 unfold kT at h;have: ∀l:List Nat,0<(l.map λi=>(tk i).countP q).sum-> ∃i t,i∈l/\t∈tk i/\q t=true:=by
  intro l
  induction l with
  |nil=>intro h;simp at h
  |cons i l b=>
   intro h;rw[E4,List.sum_cons] at h;by_cases c:0<(tk i).countP q
   ·obtain⟨t,a,d⟩:=L_.1 c;exact⟨i,t,AC,a,d⟩
   ·obtain⟨j,t,e,a⟩:=b (by omega);exact⟨j,t,B3 _ e,a⟩
 obtain⟨i,t,hi,a⟩:=this _ h;exact⟨i,t,Bd.1 hi,a⟩
theorem xr {tk:Nat->List TK} {q:TK->Bool} (h: ∀i t,t∈tk i->q t=false):kT tk q=0:=by
 rcases EF (kT tk q) with e|e
 ·exact e
 ·obtain⟨i,t, _,b,a⟩:=uO e;rw[h i t b] at a;cases a
theorem ll {tk:Nat->List TK} {q:TK->Bool} {i:Nat} {t:TK} (hi:i<17) (a:t∈tk i) (b:q t=true):0<kT tk q:=by
 have h:=uN tk q hi [];have h2:0<(tk i).countP q:=L_.2 ⟨t,a,b⟩;simp only[List.countP_nil] at h;omega
def dE (tk:Nat->List TK) (f:Int):Nat:=kT tk λt=>t.2.2==f
def ky (tk:Nat->List TK) (a:Int):Nat:=kT tk λt=>t.2.1==a
abbrev C6:Type:=Nat->Int->Option Int
def kU (fr:C6) (v:Nat) (p:Int) (y:Option Int):C6:=λi q=>if i=v/\q=p then y else fr i q
theorem eY (fr:C6) (v:Nat) (p:Int) (y:Option Int):kU fr v p y v p=y:=ax ⟨rfl,rfl⟩
theorem bq {fr:C6} {v i:Nat} {p q:Int} (h: ¬ (i=v/\q=p)) (y:Option Int):kU fr v p y i q=fr i q:=ao h
def Mq (gr:List GT) (fr:C6) (tk:Nat->List TK) (a:Int) (i o:Nat) (f:Int):Prop:=
 ∃k x,jK gr a=some k/\gr[k]? =some x/\x.1=(o:Int)/\x.2.2.1=(i:Int)/\fr o x.2.1=some f/\bL (tk o) x.2.1=none
structure HC (fr:C6) (tk:Nat->List TK) (ds:List DT) (gr:List GT):Prop where
 ig: ∀{i p f},fr i p=some f->1<=i/\i<=16/\0<=p/\p<65536
 kd: ∀{n:Nat} {d:DT},ds[n]? =some d->(d.1=0\/d.1=3\/d.1=4\/d.1=5)/\d.2.2.2.1=0/\0<=d.2.1/\d.2.1<=16
 Mb: ∀{n:Nat} {d:DT},ds[n]? =some d->d.1=4-> ∃(i:Nat) (p:Int),(i:Int)=d.2.1/\fr i p=some (n:Int)/\bL (tk i) p=none
 own: ∀{i p f},fr i p=some f->bL (tk i) p=none-> ∃(n:Nat) (d:DT),(n:Int)=f/\ds[n]? =some d/\d.1=4/\d.2.1=(i:Int)
 y7: ∀{i p a f},bL (tk i) p=some (a,f)->fr i p=some f/\ ∃o:Nat,o≠i/\Mq gr fr tk a i o f
 nd: ∀i,((tk i).map (·.1)).Nodup
 inj: ∀{i p p' f},fr i p=some f->fr i p'=some f->bL (tk i) p=none->bL (tk i) p'=none->p=p'
 refs: ∀{n:Nat} {d:DT},ds[n]? =some d->d.2.2.1=(dE tk (n:Int):Int)
 qB: ∀{n:Nat} {x:GT},gr[n]? =some x->x.2.2.2.2.1=(ky tk (n:Int):Int)
 gl:gr.length=16
 gk:ki gr
theorem eH {gr:List GT} {a:Int} {k:Nat}:jK gr a=some k<->(k:Int)=a/\k<gr.length/\gr.getD k zG≠zG:=by
 unfold jK;constructor
 ·intro h;split at h
  ·rename_i c;cases h;exact⟨by omega,by omega,c.2.2⟩
  ·cases h
 ·rintro⟨rfl,b,h2⟩;rw[ax ⟨by omega,by omega,h2⟩];rfl
theorem getD_some {gr:List GT} {k:Nat} {x:GT} (h:gr[k]? =some x):gr.getD k zG=x:=by
 rw[DA,h];rfl
namespace HC
variable {fr:C6} {tk:Nat->List TK} {ds:List DT} {gr:List GT}
theorem H_ (H:HC fr tk ds gr) {i:Nat} {t:TK} (h:t∈tk i):bL (tk i) t.1=some t.2:=(g9 (a:=t.2.1) (b:=t.2.2) (H.nd i)).2 h
theorem EM (H:HC fr tk ds gr) {i:Nat} {p a f:Int} (h:bL (tk i) p=some (a,f)):(p,a,f)∈tk i:=(g9 (H.nd i)).1 h
theorem T1 (H:HC fr tk ds gr) {i:Nat} {p a f:Int} (h:bL (tk i) p=some (a,f)): ∃(n:Nat) (d:DT) (o:Nat),(n:Int)=f/\ds[n]? =some d/\d.1=4/\d.2.1=(o:Int)/\o≠i/\Mq gr fr tk a i o f:=by
 obtain⟨_,o,e,g⟩:=H.y7 h;obtain⟨k,x,j,h2,l,m,b,c⟩:=g;obtain⟨n,d,q,r,s,t⟩:=H.own b c;exact⟨n,d,o,q,r,s,t,e,k,x,j,h2,l,m,b,c⟩
theorem Y5 (H:HC fr tk ds gr) {i:Nat} {p f:Int} (h:fr i p=some f): ∃(n:Nat) (d:DT),(n:Int)=f/\ds[n]? =some d/\d.1=4:=by
 cases b:bL (tk i) p with
 |none=>
  obtain⟨n,d,c,h2,e, _⟩:=H.own h b;exact⟨n,d,c,h2,e⟩
 |some y=>
  obtain⟨a,f'⟩:=y;obtain⟨n,d,o,c,h2,e, _⟩:=H.T1 b;have:=(H.y7 b).1;rw[h] at this;cases this;exact⟨n,d,c,h2,e⟩
theorem Dj (H:HC fr tk ds gr) {n:Nat} (h:0<dE tk (n:Int)): ∃d,ds[n]? =some d/\d.1=4:=by
 obtain⟨i,t, _,a,b⟩:=uO h;obtain⟨m,d,o,c,h2,f, _⟩:=H.T1 (H.H_ a);have g:t.2.2=(n:Int):=by simpa using b
 have e:m=n:=Bo (c.trans g);subst e;exact⟨d,h2,f⟩
theorem BQ (H:HC fr tk ds gr) {g:List DT} (k: ∀{n:Nat} {d:DT},ds[n]? =some d->d.1=4->g[n]? =some d) (j: ∀{n:Nat} {d:DT},g[n]? =some d->ds[n]? =some d\/((d.1=0\/d.1=3\/d.1=5)/\d.2.2=(0,0,())/\0<=d.2.1/\d.2.1<=16)):HC fr tk g gr:=by
 have l: ∀{n:Nat} {d:DT},g[n]? =some d->(d.1=0\/d.1=3\/d.1=5)->dE tk (n:Int)=0:=λ{n d} h h2=>by
  rcases EF (dE tk (n:Int)) with e|e
  ·exact e
  ·obtain⟨d',b,c⟩:=H.Dj e;have:=k b c;rw[h] at this;cases this;omega
 refine⟨H.ig,λ{n d} h=>?_,λ{n d} h c=>?_,λ{i p f} h m=>?_,H.y7,H.nd,H.inj,λ{n d} h=>?_,H.qB,H.gl,H.gk⟩
 ·rcases j h with a|⟨a,h2,b⟩
  ·exact H.kd a
  ·exact⟨by omega,by rw[h2],b⟩
 ·rcases j h with a|⟨a,h2⟩
  ·exact H.Mb a c
  ·omega
 ·obtain⟨n,d,a,h2,b,c⟩:=H.own h m;exact⟨n,d,a,k h2 b,b,c⟩
 ·rcases j h with a|⟨a,h2, _⟩
  ·exact H.refs a
  ·rw[l h a,h2];rfl
theorem Jf (H:HC fr tk ds gr) {vA:List GT} (e:vA.length=gr.length) (r:ki vA) (s: ∀{n:Nat} {x y:GT},gr[n]? =some x->vA[n]? =some y->y.2.2.2.2.1=x.2.2.2.2.1) (g: ∀{n:Nat} {x:GT},gr[n]? =some x->x.2.2.2.2.1>0->vA[n]? =some x):HC fr tk ds vA:=by
 refine⟨H.ig,H.kd,H.Mb,H.own,λ{i p a f} h=>?_,H.nd,H.inj,H.refs,λ{n y} h=>?_,e.trans H.gl,r⟩
 ·obtain⟨d,o,h2,k,x,j,b,u⟩:=H.y7 h;refine⟨d,o,h2,k,x,?_,?_,u⟩
  ·obtain⟨c,z,l⟩:=eH.1 j;refine eH.2 ⟨c,by omega,?_⟩;have v:x.2.2.2.2.1>0:=by
    rw[H.qB b];have:=ll (q:=λt=>t.2.1==(k:Int)) (by have:=H.ig d;omega:i<17) (H.EM h) (by simp[c]);unfold ky;omega
   rw[getD_some (g b v)];rw[getD_some b] at l;exact l
  ·refine g b ?_;obtain⟨c, _⟩:=eH.1 j;rw[H.qB b];have:=ll (q:=λt=>t.2.1==(k:Int)) (by have:=H.ig d;omega:i<17) (H.EM h) (by simp[c]);unfold ky;omega
 ·have w:n<gr.length:=by rw[<-e];exact(B5.1 h).1
  have m:gr[n]? =some gr[n]:=Eo w;rw[s m h];exact H.qB m
end HC
set_option maxRecDepth 100000
open Go.RX D
theorem kL (t:TK) (l:List TK) (p:Int):bL (t::l) p=if t.1=p then some t.2 else bL l p:=by
 unfold bL;rw[List.find?_cons];by_cases e:t.1=p
 ·rw[ax e,show(t.1==p)=true by simpa using e];rfl
 ·rw[ao e,show(t.1==p)=false by simpa using e]
theorem GL {l l':List TK} (h:l.Perm l') (nd:(l.map (·.1)).Nodup) (p:Int):bL l p=bL l' p:=by
 have d:(l'.map (·.1)).Nodup:=(h.map _).nodup_iff.1 nd;cases c:bL l p with
 |some x=>
  have:=(g9 (a:=x.1) (b:=x.2) nd).1 c;exact((g9 (a:=x.1) (b:=x.2) d).2 (h.mem_iff.1 this)).symm
 |none=>
  symm;rw[m8] at c ⊢;exact λt e=>c t (h.mem_iff.2 e)
theorem Jg {t:TK} {l:List TK} (a:bL l t.1=none) (nd:(l.map (·.1)).Nodup):((km t l).map (·.1)).Nodup:=by
 refine((kJ t l).map _).nodup_iff.2 (Es.2 ⟨λb=>?_,nd⟩);obtain⟨x,c,e⟩:=Bc.1 b;exact m8.1 a x c e
theorem LH {t:TK} {l:List TK} (a:bL l t.1=none) (nd:(l.map (·.1)).Nodup) (p:Int):bL (km t l) p=if t.1=p then some t.2 else bL l p:=by
 rw[GL (kJ t l) (Jg a nd),kL]
theorem GM (l:List TK) (b p:Int):bL (l.filter λt=> !(t.1==b)) p=if p=b then none else bL l p:=by
 induction l with
 |nil=>unfold bL;simp
 |cons t l c=>
  rw[Ev];by_cases e:t.1=b
  ·rw[ao (by simp[e]),c,kL];by_cases a:p=b
   ·rw[ax a,ax a]
   ·rw[ao a,ao a,ao (λh=>a (h.symm.trans e))]
  ·rw[ax (by simpa using e),kL,kL,c];by_cases a:t.1=p
   ·rw[ax a,ax a,ao (λh=>e (a.trans h))]
   ·rw[ao a,ao a]
theorem xx {l:List TK} {b:Int} {x:Int×Int} (nd:(l.map (·.1)).Nodup) (h:bL l b=some x):l.Perm ((b,x)::l.filter λt=> !(t.1==b)):=by
 induction l with
 |nil=>unfold bL at h;simp at h
 |cons t l a=>
  rw[E4,Es] at nd;rw[kL] at h;rw[Ev];by_cases e:t.1=b
  ·rw[ax e] at h;cases h;rw[ao (by simp[e])];have c:l.filter (λt=> !(t.1==b))=l:=H7.2 λu d=>by
    have:u.1≠b:=λf=>nd.1 (Bc.2 ⟨u,d,f.trans e.symm⟩);simpa using this
   rw[c, <-e]
  ·rw[ao e] at h;rw[ax (by simpa using e)];exact((a nd.2 h).cons t).trans (.swap _ _ _)
theorem Ou (q:TK->Bool) (t:TK) (l:List TK):(km t l).countP q=l.countP q+(if q t=true then 1 else 0):=by
 rw[(kJ t l).countP_eq,LL]
theorem LI {l:List TK} {b:Int} {x:Int×Int} (nd:(l.map (·.1)).Nodup) (h:bL l b=some x) (q:TK->Bool):l.countP q=(l.filter λt=> !(t.1==b)).countP q+(if q (b,x)=true then 1 else 0):=by
 rw[(xx nd h).countP_eq,LL]
theorem Ov {l:List TK} (b:Int) (nd:(l.map (·.1)).Nodup):((l.filter λt=> !(t.1==b)).map (·.1)).Nodup:=(I_.map _).nodup nd
theorem yH {gr:List GT} {k j:Nat} {x y:GT} {a:Int} (f:gr[k]? =some x) (b:y≠zG) (h:jK gr a=some j):jK (gr.set k y) a=some j:=by
 obtain⟨c,h2,d⟩:=eH.1 h;refine eH.2 ⟨c,by rw[Bp];exact h2,?_⟩;rw[DA];by_cases e:k=j
 ·subst e;rw[B1 h2];exact b
 ·rw[AX e, <-DA];exact d
theorem te {gr:List GT} (a:ki gr) {k:Nat} {x:GT} (b:gr[k]? =some x) (c:x≠zG) (n:Int):eo x n≠zG:=λe=>by
 rcases(a x (Bq b)).1 with h|⟨h, _⟩
 ·exact c h
 ·have:(eo x n).1=zG.1:=congrArg (·.1) e;have:x.1=0:=this;omega
namespace HC
variable {fr:C6} {tk:Nat->List TK} {ds:List DT} {gr:List GT}
theorem QR (H:HC fr tk ds gr) {i:Nat} {p:Int} (h:fr i p=none):bL (tk i) p=none:=by
 cases b:bL (tk i) p with
 |none=>rfl
 |some y=>
  have:=(H.y7 (a:=y.1) (f:=y.2) b).1;rw[h] at this;cases this
theorem BR (H:HC fr tk ds gr) {v n:Nat} {a:Int} {d0:DT} (hv:1<=v/\v<=16) (B:0<=a/\a<65536) (w:ds[n]? =some d0) (h0:d0.1=0) (y:fr v a=none):
 HC (kU fr v a (some (n:Int))) tk (ds.set n (4,(v:Int),0,0,())) gr:=by
 have r:n<ds.length:=(B5.1 w).1;have s: ∀{d},ds[n]? =some d->d.1=4->False:=λ{d} h l=>by rw[w] at h;cases h;omega
 have C:dE tk (n:Int)=0:=by
  rcases EF (dE tk (n:Int)) with e|e
  ·exact e
  ·obtain⟨d,g,h2⟩:=H.Dj e;exact(s g h2).elim
 have t: ∀{i p f},fr i p=some f-> ¬ (i=v/\p=a):=λ{i p f} h e=>by rw[e.1,e.2,y] at h;cases h
 have z: ∀{i p},fr i p=some (n:Int)->False:=λ{i p} h=>by
  obtain⟨m,d,g,h2,j⟩:=H.Y5 h;have:m=n:=Bo g;subst this;exact s h2 j
 refine⟨λ{i p f} h=>?_,λ{m d} h=>?_,λ{m d} h l=>?_,λ{i p f} h u=>?_,λ{i p b f} h=>?_,H.nd,λ{i p p' f} h h' u D=>?_,λ{m d} h=>?_,H.qB,H.gl,H.gk⟩
 ·by_cases e:i=v/\p=a
  ·obtain⟨rfl,rfl⟩:=e;exact⟨hv.1,hv.2,B⟩
  ·rw[bq e] at h;exact H.ig h
 ·by_cases e:n=m
  ·subst e;rw[B1 r] at h;cases h;exact⟨.inr (.inr (.inl rfl)),rfl,by show 0<=(v:Int);omega,by show(v:Int)<=16;omega⟩
  ·rw[AX e] at h;exact H.kd h
 ·by_cases e:n=m
  ·subst e;rw[B1 r] at h;cases h;exact⟨v,a,rfl,eY _ _ _ _,H.QR y⟩
  ·rw[AX e] at h;obtain⟨i,p,g,h2,j⟩:=H.Mb h l;exact⟨i,p,g,by rw[bq (t h2)];exact h2,j⟩
 ·by_cases e:i=v/\p=a
  ·obtain⟨rfl,rfl⟩:=e;rw[eY] at h;cases h;exact⟨n, _,rfl,B1 r,rfl,rfl⟩
  ·rw[bq e] at h;obtain⟨m,d,g,h2,j,l⟩:=H.own h u;refine⟨m,d,g,?_,j,l⟩;rw[AX (λe=>by subst e;exact s h2 j)];exact h2
 ·obtain⟨g,o,h2,k,x,j,l,E,F,A,G⟩:=H.y7 h;exact⟨by rw[bq (t g)];exact g,o,h2,k,x,j,l,E,F,by rw[bq (t A)];exact A,G⟩
 ·by_cases e:i=v/\p=a
  ·obtain⟨rfl,rfl⟩:=e;rw[eY] at h;cases h;by_cases q:p'=p
   ·exact q.symm
   ·rw[bq (λc=>q c.2)] at h';exact(z h').elim
  ·rw[bq e] at h;by_cases q:i=v/\p'=a
   ·obtain⟨rfl,rfl⟩:=q;rw[eY] at h';cases h';exact(z h).elim
   ·rw[bq q] at h';exact H.inj h h' u D
 ·by_cases e:n=m
  ·subst e;rw[B1 r] at h;cases h;rw[C];rfl
  ·rw[AX e] at h;exact H.refs h
theorem yI (H:HC fr tk ds gr) {v n:Nat} {a o:Int} (F:0<=o/\o<=16) (s:fr v a=some (n:Int)) (w:bL (tk v) a=none) (B:dE tk (n:Int)=0):
 HC (kU fr v a none) tk (ds.set n (5,o,0,0,())) gr:=by
 obtain⟨g,d0,y,C,N,G⟩:=H.own s w;have y:g=n:=Bo y;subst y;have z:g<ds.length:=(B5.1 C).1;have I: ∀{i p b f},bL (tk i) p=some (b,f)->f≠(g:Int):=λ{i p b f} h e=>by
  have O:=H.ig (H.y7 h).1;have:=ll (q:=λt=>t.2.2==(g:Int)) (by omega:i<17) (H.EM h) (by simp[e]);unfold dE at B;omega
 refine⟨λ{i p f} h=>?_,λ{m d} h=>?_,λ{m d} h k4=>?_,λ{i p f} h u=>?_,λ{i p b f} h=>?_,H.nd,λ{i p p' f} h h' u J=>?_,λ{m d} h=>?_,H.qB,H.gl,H.gk⟩
 ·by_cases e:i=v/\p=a
  ·obtain⟨rfl,rfl⟩:=e;rw[eY] at h;cases h
  ·rw[bq e] at h;exact H.ig h
 ·by_cases e:g=m
  ·subst e;rw[B1 z] at h;cases h;exact⟨.inr (.inr (.inr rfl)),rfl,F⟩
  ·rw[AX e] at h;exact H.kd h
 ·by_cases e:g=m
  ·subst e;rw[B1 z] at h;cases h;exact absurd k4 (show ¬ (5:Int)=4 by decide)
  ·rw[AX e] at h;obtain⟨i,p,j,h2,l⟩:=H.Mb h k4;refine⟨i,p,j,?_,l⟩;rw[bq (λc=>?_)]
   ·exact h2
   ·rw[c.1,c.2,s] at h2;cases h2;exact e rfl
 ·by_cases e:i=v/\p=a
  ·obtain⟨rfl,rfl⟩:=e;rw[eY] at h;cases h
  ·rw[bq e] at h;obtain⟨m,d,j,h2,l,r⟩:=H.own h u;refine⟨m,d,j,?_,l,r⟩;by_cases D:g=m
   ·subst D;rw[C] at h2;cases h2;rw[G] at r;have ev:v=i:=Bo r;subst ev;rw[<-j] at h;exact absurd ⟨rfl,H.inj h s u w⟩ e
   ·rw[AX D];exact h2
 ·obtain⟨j,o',h2,k,x,l,r,K,L,A,M⟩:=H.y7 h;refine⟨?_,o',h2,k,x,l,r,K,L,?_,M⟩
  ·rw[bq (λc=>?_)]
   ·exact j
   ·rw[c.1,c.2,w] at h;cases h
  ·rw[bq (λc=>?_)]
   ·exact A
   ·rw[c.1,c.2,s] at A;cases A;exact I h rfl
 ·by_cases e:i=v/\p=a
  ·obtain⟨rfl,rfl⟩:=e;rw[eY] at h;cases h
  ·rw[bq e] at h;by_cases E:i=v/\p'=a
   ·obtain⟨rfl,rfl⟩:=E;rw[eY] at h';cases h'
   ·rw[bq E] at h';exact H.inj h h' u J
 ·by_cases e:g=m
  ·subst e;rw[B1 z] at h;cases h;rw[B];rfl
  ·rw[AX e] at h;exact H.refs h
end HC
set_option maxRecDepth 100000
open Go.RX D
namespace HC
variable {fr:C6} {tk:Nat->List TK} {ds:List DT} {gr:List GT}
theorem take (H:HC fr tk ds gr) {v o n k:Nat} {b:Int} {x:GT} {d0:DT} (hb:0<=b/\b<65536) (L:fr v b=none) (F:ds[n]? =some d0) (r:gr[k]? =some x) (C:x≠zG) (M:x.1=(o:Int)) (N:x.2.2.1=(v:Int)) (V:fr o x.2.1=some (n:Int)) (W:bL (tk o) x.2.1=none)
 (X:ki (gr.set k (eo x 1))):
 HC (kU fr v b (some (n:Int))) (jf tk v (km (b,(k:Int),(n:Int)) (tk v))) (ds.set n (d0.1,d0.2.1,d0.2.2.1+1,d0.2.2.2.1,())) (gr.set k (eo x 1)):=by
 have O:n<ds.length:=(B5.1 F).1;have D:k<gr.length:=(B5.1 r).1;obtain⟨P,ro,G⟩:(1<=v/\v<=16)/\(1<=o/\o<=16)/\o≠v:=by
  rcases(H.gk x (Bq r)).1 with h|⟨g,h2,l, _⟩
  ·exact absurd h C
  ·rw[M] at g l;rw[N] at h2 l;exact⟨by omega,by omega,λe=>l (by rw[e])⟩
 have A: ∀{i p f},fr i p=some f-> ¬ (i=v/\p=b):=λ{i p f} h e=>by rw[e.1,e.2,L] at h;cases h
 have Q:bL (tk v) b=none:=H.QR L;have s: ∀i p,bL (jf tk v (km (b,(k:Int),(n:Int)) (tk v)) i) p=if i=v/\p=b then some ((k:Int),(n:Int)) else bL (tk i) p:=λi p=>by
  by_cases e:i=v
  ·subst e;rw[jc,LH Q (H.nd _)];by_cases w:p=b
   ·rw[ax w.symm,ax ⟨rfl,w⟩]
   ·rw[ao (λh=>w h.symm),ao (λh=>w h.2)]
  ·rw[lk e,ao (λh=>e h.1)]
 have Y: ∀{m:Nat} {d:DT},ds[m]? =some d-> ∃d':DT,(ds.set n (d0.1,d0.2.1,d0.2.2.1+1,d0.2.2.2.1,()))[m]? =some d'/\d'.1=d.1/\d'.2.1=d.2.1:=λ{m d} h=>by
  by_cases e:n=m
  ·subst e;rw[F] at h;cases h;exact⟨_,B1 O,rfl,rfl⟩
  ·exact⟨d,by rw[AX e];exact h,rfl,rfl⟩
 have I: ∀{m:Nat} {d':DT},(ds.set n (d0.1,d0.2.1,d0.2.2.1+1,d0.2.2.2.1,()))[m]? =some d'-> ∃d:DT,ds[m]? =some d/\d'.1=d.1/\d'.2.1=d.2.1/\d'.2.2.2.1=d.2.2.2.1/\d'.2.2.1=d.2.2.1+(if m=n then 1 else 0):=λ{m d'} h=>by
  by_cases e:n=m
  ·subst e;rw[B1 O] at h;cases h;exact⟨d0,F,rfl,rfl,rfl,by rw[ax rfl]⟩
  ·rw[AX e] at h;exact⟨d',h,rfl,rfl,rfl,by rw[ao (λc=>e c.symm)];omega⟩
 have Z: ∀{a:Int} {i o':Nat} {f:Int},Mq gr fr tk a i o' f->Mq (gr.set k (eo x 1)) (kU fr v b (some (n:Int))) (jf tk v (km (b,(k:Int),(n:Int)) (tk v))) a i o' f:=by
  rintro a i o' f ⟨j,y,g,h2,l,z,t,h6⟩;have R:=yH r (te H.gk r C 1) g;have S:bL (jf tk v (km (b,(k:Int),(n:Int)) (tk v)) o') y.2.1=none:=by
   rw[s,ao (A t)];exact h6
  by_cases e:k=j
  ·subst e;rw[r] at h2;cases h2;exact⟨k,eo x 1,R,B1 D,l,z,by show kU fr v b _ o' x.2.1= _;rw[bq (A t)];exact t,S⟩
  ·exact⟨j,y,R,by rw[AX e];exact h2,l,z,by rw[bq (A t)];exact t,S⟩
 have T: ∀q:TK->Bool,kT (jf tk v (km (b,(k:Int),(n:Int)) (tk v))) q=kT tk q+(if q (b,(k:Int),(n:Int))=true then 1 else 0):=λq=>by
  have g:=uN tk q (by omega:v<17) (km (b,(k:Int),(n:Int)) (tk v));rw[Ou] at g;omega
 refine⟨λ{i p f} h=>?_,λ{m d} h=>?_,λ{m d} h z=>?_,λ{i p f} h u=>?_,λ{i p c f} h=>?_,λi=>?_,λ{i p p' f} h h' u E=>?_,λ{m d} h=>?_,λ{m y} h=>?_,by rw[Bp];exact H.gl,X⟩
 ·by_cases e:i=v/\p=b
  ·obtain⟨rfl,rfl⟩:=e;exact⟨P.1,P.2,hb⟩
  ·rw[bq e] at h;exact H.ig h
 ·obtain⟨d',g,h2,l,t, _⟩:=I h;rw[h2,t,l];exact H.kd g
 ·obtain⟨d',g,h2,l, _⟩:=I h;obtain⟨i,p,J,B,K⟩:=H.Mb g (by rw[<-h2];exact z);exact⟨i,p,by rw[l];exact J,by rw[bq (A B)];exact B,by rw[s,ao (A B)];exact K⟩
 ·by_cases e:i=v/\p=b
  ·rw[s,ax e] at u;cases u
  ·rw[bq e] at h;rw[s,ao e] at u;obtain⟨m,d,g,h2,l,z⟩:=H.own h u;obtain⟨d',J,B,K⟩:=Y h2;exact⟨m,d',g,J,by rw[B];exact l,by rw[K];exact z⟩
 ·rw[s] at h;by_cases e:i=v/\p=b
  ·rw[ax e] at h;cases h;obtain⟨rfl,rfl⟩:=e;refine⟨eY _ _ _ _,o,G,k,eo x 1,?_,B1 D,M,N,?_,?_⟩
   ·exact yH r (te H.gk r C 1) (eH.2 ⟨rfl,D,by rw[getD_some r];exact C⟩)
   ·show kU fr i p _ o x.2.1= _;rw[bq (λc=>G c.1)];exact V
   ·show bL (jf tk i _ o) x.2.1=none;rw[lk G];exact W
  ·rw[ao e] at h;obtain⟨g,o',h2,l⟩:=H.y7 h;exact⟨by rw[bq e];exact g,o',h2,Z l⟩
 ·by_cases e:i=v
  ·subst e;rw[jc];exact Jg Q (H.nd _)
  ·rw[lk e];exact H.nd i
 ·have e: ¬ (i=v/\p=b):=λc=>by rw[s,ax c] at u;cases u
  have U: ¬ (i=v/\p'=b):=λc=>by rw[s,ax c] at E;cases E
  rw[s,ao e] at u;rw[s,ao U] at E;rw[bq e] at h;rw[bq U] at h';exact H.inj h h' u E
 ·obtain⟨d',g, _, _, _,t⟩:=I h;rw[t,H.refs g];unfold dE;rw[T];dsimp only;by_cases e:m=n
  ·subst e;rw[ax rfl,ax (by simp)];omega
  ·rw[ao e,ao (by simp;omega)];omega
 ·have w:ky (jf tk v (km (b,(k:Int),(n:Int)) (tk v))) (m:Int)=ky tk (m:Int)+(if k=m then 1 else 0):=by
   unfold ky;rw[T];dsimp only;by_cases e:k=m
   ·subst e;rw[ax rfl,ax (by simp)]
   ·rw[ao e,ao (by simp;omega)]
  rw[w];by_cases e:k=m
  ·subst e;rw[B1 D] at h;cases h;rw[ax rfl];have:=H.qB r;show x.2.2.2.2.1+1= _;omega
  ·rw[AX e] at h;rw[ao e];have:=H.qB h;omega
theorem By (H:HC fr tk ds gr) {v n k:Nat} {b:Int} {x:GT} {d0:DT} (D:bL (tk v) b=some ((k:Int),(n:Int))) (E:ds[n]? =some d0) (w:gr[k]? =some x) (Q:x≠zG)
 (R:ki (gr.set k (eo x (-1)))):
 HC (kU fr v b none) (jf tk v ((tk v).filter λt=> !(t.1==b))) (ds.set n (d0.1,d0.2.1,d0.2.2.1 - 1,d0.2.2.2.1,())) (gr.set k (eo x (-1))):=by
 have J:n<ds.length:=(B5.1 E).1;have K:k<gr.length:=(B5.1 w).1;have U:=H.ig (H.y7 D).1;have r: ∀i p,bL (jf tk v ((tk v).filter λt=> !(t.1==b)) i) p=if i=v/\p=b then none else bL (tk i) p:=λi p=>by
  by_cases e:i=v
  ·subst e;rw[jc,GM];by_cases o:p=b
   ·rw[ax o,ax ⟨rfl,o⟩]
   ·rw[ao o,ao (λh=>o h.2)]
  ·rw[lk e,ao (λh=>e h.1)]
 have z: ∀{i p},bL (tk i) p=none-> ¬ (i=v/\p=b):=λ{i p} h e=>by rw[e.1,e.2,D] at h;cases h
 have S: ∀{m:Nat} {d:DT},ds[m]? =some d-> ∃d':DT,(ds.set n (d0.1,d0.2.1,d0.2.2.1 - 1,d0.2.2.2.1,()))[m]? =some d'/\d'.1=d.1/\d'.2.1=d.2.1:=λ{m d} h=>by
  by_cases e:n=m
  ·subst e;rw[E] at h;cases h;exact⟨_,B1 J,rfl,rfl⟩
  ·exact⟨d,by rw[AX e];exact h,rfl,rfl⟩
 have F: ∀{m:Nat} {d':DT},(ds.set n (d0.1,d0.2.1,d0.2.2.1 - 1,d0.2.2.2.1,()))[m]? =some d'-> ∃d:DT,ds[m]? =some d/\d'.1=d.1/\d'.2.1=d.2.1/\d'.2.2.2.1=d.2.2.2.1/\d'.2.2.1=d.2.2.1 - (if m=n then 1 else 0):=λ{m d'} h=>by
  by_cases e:n=m
  ·subst e;rw[B1 J] at h;cases h;exact⟨d0,E,rfl,rfl,rfl,by rw[ax rfl]⟩
  ·rw[AX e] at h;exact⟨d',h,rfl,rfl,rfl,by rw[ao (λc=>e c.symm)];omega⟩
 have T: ∀{a:Int} {i o':Nat} {f:Int},Mq gr fr tk a i o' f->Mq (gr.set k (eo x (-1))) (kU fr v b none) (jf tk v ((tk v).filter λt=> !(t.1==b))) a i o' f:=by
  rintro a i o' f ⟨j,y,g,h2,l,s,u,C⟩;have L:=yH w (te H.gk w Q (-1)) g;have M:bL (jf tk v ((tk v).filter λt=> !(t.1==b)) o') y.2.1=none:=by
   rw[r,ao (z C)];exact C
  by_cases e:k=j
  ·subst e;rw[w] at h2;cases h2;exact⟨k,eo x (-1),L,B1 K,l,s,by show kU fr v b _ o' x.2.1= _;rw[bq (z C)];exact u,M⟩
  ·exact⟨j,y,L,by rw[AX e];exact h2,l,s,by rw[bq (z C)];exact u,M⟩
 have N: ∀q:TK->Bool,kT (jf tk v ((tk v).filter λt=> !(t.1==b))) q+(if q (b,(k:Int),(n:Int))=true then 1 else 0)=kT tk q:=λq=>by
  have g:=uN tk q (by omega:v<17) ((tk v).filter λt=> !(t.1==b));have h2:=LI (H.nd v) D q;omega
 refine⟨λ{i p f} h=>?_,λ{m d} h=>?_,λ{m d} h s=>?_,λ{i p f} h A=>?_,λ{i p c f} h=>?_,λi=>?_,λ{i p p' f} h h' A O=>?_,λ{m d} h=>?_,λ{m y} h=>?_,by rw[Bp];exact H.gl,R⟩
 ·by_cases e:i=v/\p=b
  ·rw[show kU fr v b none i p=none from ax e] at h;cases h
  ·rw[bq e] at h;exact H.ig h
 ·obtain⟨d',g,h2,l,u, _⟩:=F h;rw[h2,u,l];exact H.kd g
 ·obtain⟨d',g,h2,l, _⟩:=F h;obtain⟨i,p,G,I,B⟩:=H.Mb g (by rw[<-h2];exact s);exact⟨i,p,by rw[l];exact G,by rw[bq (z B)];exact I,by rw[r,ao (z B)];exact B⟩
 ·by_cases e:i=v/\p=b
  ·rw[show kU fr v b none i p=none from ax e] at h;cases h
  ·rw[bq e] at h;rw[r,ao e] at A;obtain⟨m,d,g,h2,l,s⟩:=H.own h A;obtain⟨d',G,I,B⟩:=S h2;exact⟨m,d',g,G,by rw[I];exact l,by rw[B];exact s⟩
 ·rw[r] at h;by_cases e:i=v/\p=b
  ·rw[ax e] at h;cases h
  ·rw[ao e] at h;obtain⟨g,o',h2,l⟩:=H.y7 h;exact⟨by rw[bq e];exact g,o',h2,T l⟩
 ·by_cases e:i=v
  ·subst e;rw[jc];exact Ov _ (H.nd _)
  ·rw[lk e];exact H.nd i
 ·have e: ¬ (i=v/\p=b):=λc=>by rw[show kU fr v b none i p=none from ax c] at h;cases h
  have P: ¬ (i=v/\p'=b):=λc=>by rw[show kU fr v b none i p'=none from ax c] at h';cases h'
  rw[r,ao e] at A;rw[r,ao P] at O;rw[bq e] at h;rw[bq P] at h';exact H.inj h h' A O
 ·obtain⟨d',g, _, _, _,u⟩:=F h;have:=N λt=>t.2.2==(m:Int);rw[u,H.refs g];unfold dE;dsimp only at this;by_cases e:m=n
  ·subst e;rw[ax (by simp)] at this;rw[ax rfl];omega
  ·rw[ao (by simp;omega)] at this;rw[ao e];omega
 ·have o:ky (jf tk v ((tk v).filter λt=> !(t.1==b))) (m:Int)+(if k=m then 1 else 0)=ky tk (m:Int):=by
   have:=N λt=>t.2.1==(m:Int);dsimp only at this;unfold ky;by_cases e:k=m
   ·subst e;rw[ax (by simp)] at this;rw[ax rfl];exact this
   ·rw[ao (by simp;omega)] at this;rw[ao e];exact this
  by_cases e:k=m
  ·subst e;rw[B1 K] at h;cases h;rw[ax rfl] at o;have:=H.qB w;show x.2.2.2.2.1+ -1= _;omega
  ·rw[AX e] at h;rw[ao e] at o;have:=H.qB h;omega
theorem gone (H:HC fr tk ds gr) {v:Nat} {B:List DT} (hv:1<=v/\v<=16) (T:tk v=[]) (O: ∀{n:Nat} {d:DT},ds[n]? =some d->d.1=4->d.2.1=(v:Int)->d.2.2.1=0)
 (P: ∀{n:Nat} {d:DT},ds[n]? =some d->d.1=4->d.2.1≠(v:Int)->B[n]? =some d)
 (F: ∀{n:Nat} {d:DT},B[n]? =some d->(ds[n]? =some d/\ ¬ (d.1=4/\d.2.1=(v:Int)))\/((d.1=0\/d.1=3\/d.1=5)/\d.2.2=(0,0,())/\0<=d.2.1/\d.2.1<=16))
 (U:ki (cr gr (v:Int))):
 HC (λi p=>if i=v then none else fr i p) tk B (cr gr (v:Int)):=by
 have G: ∀{i p b f},bL (tk i) p=some (b,f)->i≠v:=λ{i p b f} h e=>by
  subst e;rw[T] at h;unfold bL at h;simp at h
 have Q: ∀{a:Int} {i o:Nat} {f p:Int},bL (tk i) p=some (a,f)->Mq gr fr tk a i o f->o≠v:=by
  rintro a i o f p l ⟨k,x,g,h2,j,r,I,J⟩ e;subst e;obtain⟨n,d,z,u,V,W⟩:=H.own I J;have h0:=O u V W;have K:=H.ig (H.y7 l).1;have:=ll (q:=λt=>t.2.2==(n:Int)) (by omega:i<17) (H.EM l) (by simp[z]);have g:=H.refs u;unfold dE at g;omega
 have X: ∀{a:Int} {i o:Nat} {f p:Int},bL (tk i) p=some (a,f)->Mq gr fr tk a i o f->Mq (cr gr (v:Int)) (λi p=>if i=v then none else fr i p) tk a i o f:=by
  intro a i o f p l A;have C:=Q l A;have L:=G l;obtain⟨k,x,g,h2,j,r,I,J⟩:=A;have Y:kj (v:Int) x=false:=by
   unfold kj;rw[j,r];have z:((o:Int)==(v:Int))=false:=by simpa using λe=>C (Bo e)
   have u:((i:Int)==(v:Int))=false:=by simpa using λe=>L (Bo e)
   rw[z,u];simp
  have K:(cr gr (v:Int))[k]? =some x:=by
   unfold cr;rw[DB,h2];show some (if kj (v:Int) x=true then zG else x)=some x;rw[Y];rfl
  obtain⟨s,w,D⟩:=eH.1 g;refine⟨k,x,eH.2 ⟨s,by unfold cr;rw[Br];exact w,?_⟩,K,j,r,?_,J⟩
  ·rw[getD_some K];rw[getD_some h2] at D;exact D
  ·show(if o=v then none else fr o x.2.1)=some f;rw[ao C];exact I
 have Z: ∀{n:Nat} {d:DT},B[n]? =some d->(d.1=0\/d.1=3\/d.1=5)->d.2.2=(0,0,())->dE tk (n:Int)=0:=λ{n d} h h2 j=>by
  rcases EF (dE tk (n:Int)) with e|e
  ·exact e
  ·obtain⟨d',s,w⟩:=H.Dj e;by_cases R:d'.2.1=(v:Int)
   ·have:=H.refs s;have:=O s w R;omega
   ·have:=P s w R;rw[h] at this;cases this;omega
 refine⟨λ{i p f} h=>?_,λ{m d} h=>?_,λ{m d} h r=>?_,λ{i p f} h l=>?_,λ{i p c f} h=>?_,H.nd,λ{i p p' f} h h' l oP=>?_,λ{m d} h=>?_,λ{m y} h=>?_,by unfold cr;rw[Br];exact H.gl,U⟩
 ·by_cases e:i=v
  ·rw[ax e] at h;cases h
  ·rw[ao e] at h;exact H.ig h
 ·rcases F h with ⟨g, _⟩|⟨g,h2,j⟩
  ·exact H.kd g
  ·exact⟨by omega,by rw[h2],j⟩
 ·rcases F h with ⟨g,h2⟩|⟨g, _⟩
  ·obtain⟨i,p,s,w,D⟩:=H.Mb g r;exact⟨i,p,s,by rw[ao (λe=>h2 ⟨r,by rw[<-s,e]⟩)];exact w,D⟩
  ·omega
 ·by_cases e:i=v
  ·rw[ax e] at h;cases h
  ·rw[ao e] at h;obtain⟨m,d,g,h2,j,r⟩:=H.own h l;exact⟨m,d,g,P h2 j (λc=>e (Bo (r.symm.trans c))),j,r⟩
 ·obtain⟨g,o,h2,j⟩:=H.y7 h;exact⟨by rw[ao (G h)];exact g,o,h2,X h j⟩
 ·by_cases e:i=v
  ·rw[ax e] at h;cases h
  ·rw[ao e] at h h';exact H.inj h h' l oP
 ·rcases F h with ⟨g, _⟩|⟨g,h2, _⟩
  ·exact H.refs g
  ·rw[Z h g h2,h2];rfl
 ·unfold cr at h;rw[DB] at h;obtain⟨x,S,E⟩:=Hc.1 h;by_cases e:kj (v:Int) x=true
  ·rw[ax e] at E;subst E;have:ky tk (m:Int)=0:=by
    refine xr λi t l=>?_;cases M:t.2.1==(m:Int) with
    |false=>rfl
    |true=>
     have M:t.2.1=(m:Int):=by simpa using M
     have N:=H.H_ l;obtain⟨_,o, _,A⟩:=H.y7 (a:=t.2.1) (f:=t.2.2) N;have C:=Q (a:=t.2.1) (f:=t.2.2) N A;have L:=G (b:=t.2.1) (f:=t.2.2) N;obtain⟨k,x',g,h2,j,r, _⟩:=A;obtain⟨s, _⟩:=eH.1 g;have ek:k=m:=Bo (s.trans M);subst ek;rw[S] at h2;cases h2;unfold kj at e;rw[j,r] at e;have z:((o:Int)==(v:Int))=false:=by simpa using λe=>C (Bo e)
     have u:((i:Int)==(v:Int))=false:=by simpa using λe=>L (Bo e)
     rw[z,u] at e;simp at e
   rw[this];rfl
  ·rw[ao e] at E;subst E;exact H.qB S
end HC
set_option maxRecDepth 100000
open Go.RX D
def mM (h:HS):C6:=λi p=>match h.g i with
 |some x=>if(a_ h.s x.root false p).2.2.1=0 then some (a_ h.s x.root false p).1 else none
 |none=>none
def jA (h:HS) (i:Nat):List TK:=match h.g i with
 |some x=>x.tk
 |none=>[]
def lN (h:HS) (i:Nat) (p:Int):Int×Int×Int×Unit:=match h.g i with
 |some x=>a_ h.s x.root false p
 |none=>(0,0,4,())
theorem bM {h:HS} {i:Nat} {x:GV} (a:h.g i=some x) (p:Int):lN h i p=a_ h.s x.root false p:=by unfold lN;rw[a]
theorem fw {h:HS} {i:Nat} (a:h.g i=none) (p:Int):lN h i p=(0,0,4,()):=by unfold lN;rw[a]
theorem Jh (h:HS) (i:Nat) (p:Int):mM h i p=if(lN h i p).2.2.1=0 then some (lN h i p).1 else none:=by
 unfold mM lN;cases h.g i with
 |none=>rfl
 |some x=>rfl
structure A6 (h h':HS) (P:Nat->Int->Prop):Prop where
 to: ∀{i:Nat} {q:Int},¬ P i q->lN h' i q=lN h i q
theorem A6.refl (h:HS) (P:Nat->Int->Prop):A6 h h P:=⟨λ_=>rfl⟩
theorem A6.trans {c h2 d:HS} {P:Nat->Int->Prop} (a:A6 c h2 P) (b:A6 h2 d P):A6 c d P:=⟨λe=>(b.to e).trans (a.to e)⟩
structure KD (s s':WD):Prop where
 k4: ∀{n:Nat} {d:DT},s.2[n]? =some d->d.1=4-> ∃d',s'.2[n]? =some d'/\(d'.1=4\/d'.1=5)
 k5: ∀{n:Nat} {d:DT},s.2[n]? =some d->d.1=5-> ∃d',s'.2[n]? =some d'/\d'.1=5
theorem KD.refl {s s':WD} (h:s'.2=s.2):KD s s':=⟨λ{n d} a b=>⟨d,by rw[h];exact a,.inl b⟩,λ{n d} a c=>⟨d,by rw[h];exact a,c⟩⟩
theorem KD.trans {s t u:WD} (a:KD s t) (b:KD t u):KD s u:=by
 refine⟨λe f=>?_,λe g=>?_⟩
 ·obtain⟨d',d,c⟩:=a.k4 e f;rcases c with c|c
  ·exact b.k4 d c
  ·obtain⟨d2,f1,f2⟩:=b.k5 d c;exact⟨d2,f1,.inr f2⟩
 ·obtain⟨d',d,c⟩:=a.k5 e g;exact b.k5 d c
theorem KD.set {s:WD} {W:List Int} {n:Nat} {d0 d1:DT} (h0:s.2[n]? =some d0) (a:d0.1=4->d1.1=4\/d1.1=5) (b:d0.1=5->d1.1=5):KD s (W,s.2.set n d1):=by
 have c:n<s.2.length:=(B5.1 h0).1;have key: ∀{m:Nat} {d:DT},s.2[m]? =some d->(m=n/\d=d0/\(s.2.set n d1)[m]? =some d1)\/(s.2.set n d1)[m]? =some d:=λ{m d} h=>by
  by_cases e:n=m
  ·subst e;rw[h0] at h;cases h;exact .inl ⟨rfl,rfl,B1 c⟩
  ·rw[AX e];exact .inr h
 refine⟨λh k=>?_,λh k=>?_⟩
 ·rcases key h with ⟨_,rfl,e⟩|e
  ·exact⟨_,e,a k⟩
  ·exact⟨_,e,.inl k⟩
 ·rcases key h with ⟨_,rfl,e⟩|e
  ·exact⟨_,e,b k⟩
  ·exact⟨_,e,k⟩
theorem oQ.kd {P:Int->Int->Prop} {o:Int} {g g':Gh} {s s':WD} (C:oQ P o g g' s s'):KD s s':=by
 refine⟨λ{n d} a b=>⟨d,C.kp.ks a b,.inl b⟩,λ{n d} a c=>?_⟩;obtain⟨d',f,h⟩:=C.kk a (.inr c);refine⟨d',f,h.elim id λe=>?_⟩;rw[c] at e;exact absurd e.2 (by decide)
def ru (o:Int) (gh fV:Gh) (s s':WD):Prop:=(∀(f:Int) (v:Int×Nat×Int),gh f=some v->fV f=some v\/jl s' f)/\(∀f,jl s f->jl s' f)/\ ∀(f:Int) (v:Int×Nat×Int),gh f=some v->v.1≠o->fV f=some v
theorem ru.refl {o:Int} (gh:Gh) (s:WD):ru o gh gh s s:=⟨λ_ _ h=> .inl h,λ_ h=>h,λ_ _ h _=>h⟩
theorem ru.trans {o:Int} {a b c:Gh} {s t u:WD} (h:ru o a b s t) (k:ru o b c t u):ru o a c s u:=⟨λf v d=>(h.1 f v d).elim (k.1 f v) λc=> .inr (k.2.1 f c),λf c=>k.2.1 f (h.2.1 f c),λf v d e=>k.2.2 f v (h.2.2 f v d e) e⟩
theorem oQ.Tx {P:Int->Int->Prop} {o:Int} {g g':Gh} {s s':WD} (C:oQ P o g g' s s'):ru o g g' s s':=⟨λ_ _ h=>C.gk h,λ_ c=>c.kept C.kp,λ_ _ h a=>(C.HZ a h).1⟩
theorem jl.kd {s s':WD} {f:Int} (h:jl s f) (K:KD s s') (b: ∀k:Int,0<=k->k<16->dB s'.1 (16*f+k)=dB s.1 (16*f+k)):jl s' f:=by
 obtain⟨h0,d,c,h2,e⟩:=h;obtain⟨d',g,i⟩:=K.k5 c h2;exact⟨h0,d',g,i,λk k0 a=>by rw[b k k0 a];exact e k k0 a⟩
theorem ru.kd {o:Int} {g:Gh} {s s':WD} (K:KD s s') (a: ∀{n:Nat} {d:DT},s.2[n]? =some d->d.1=5-> ∀k:Int,0<=k->k<16->dB s'.1 (16*(n:Int)+k)=dB s.1 (16*(n:Int)+k)):ru o g g s s':=by
 refine⟨λ_ _ h=> .inl h,λf c=>?_,λ_ _ h _=>h⟩;refine c.kd K λk k0 b=>?_;obtain⟨h0,d,e,h2, _⟩:=c;have:=a e h2 k k0 b;rw[show((f.toNat:Nat):Int)=f by omega] at this;exact this
structure sx (h h':HS) (P:Nat->Int->Prop) (f:Int):Prop where
 pg:A6 h h' P
 ws: ∀{m:Nat} {d d':DT},h.s.2[m]? =some d->d.1=4->h'.s.2[m]? =some d'->d'.1=4->(m:Int)≠f-> ∀k:Int,0<=k->k<16->dB h'.s.1 (16*(m:Int)+k)=dB h.s.1 (16*(m:Int)+k)
 kd:KD h.s h'.s
theorem sx.refl (h:HS) (P:Nat->Int->Prop) (f:Int):sx h h P f:=⟨A6.refl h P,λ_ _ _ _ _ _ _ _=>rfl,.refl rfl⟩
theorem sx.mono {h h':HS} {P b:Nat->Int->Prop} {f:Int} (a:sx h h' P f) (d: ∀{i:Nat} {q:Int},P i q->b i q):sx h h' b f:=⟨⟨λe=>a.pg.to λc=>e (d c)⟩,a.ws,a.kd⟩
theorem sx.trans {h h2 i:HS} {P:Nat->Int->Prop} {f:Int} (a:sx h h2 P f) (b:sx h2 i P f):sx h i P f:=by
 refine⟨A6.trans a.pg b.pg,λ{m d d'} j l n e o k k0 p=>?_,a.kd.trans b.kd⟩;obtain⟨d2,g,c⟩:=a.kd.k4 j l;rcases c with c|c
 ·rw[b.ws g c n e o k k0 p,a.ws j l g c o k k0 p]
 ·obtain⟨d3,q,r⟩:=b.kd.k5 g c;rw[n] at q;cases q;rw[r] at e;exact absurd e (by decide)
structure HI (gh:Gh) (h:HS):Prop where
 inv:Inv gh h.s
 rt:Rt gh
 nl:v_ gh h.s
 sz:h.s.1.length=16*h.s.2.length
 ig: ∀{i:Nat} {x:GV},h.g i=some x->1<=i/\i<=16
 root: ∀{i:Nat} {x:GV},h.g i=some x->gh x.root=some ((i:Int),3,0)
 own: ∀{f o y:Int},gh f=some (o,3,y)-> ∃(i:Nat) (x:GV),(i:Int)=o/\h.g i=some x
 hc:HC (mM h) (jA h) h.s.2 h.gr
theorem cH {h:HS} {i:Nat} {x:GV} (a:h.g i=some x) (p:Int):mM h i p=if(a_ h.s x.root false p).2.2.1=0 then some (a_ h.s x.root false p).1 else none:=by
 unfold mM;rw[a]
theorem fx {h:HS} {i:Nat} (a:h.g i=none) (p:Int):mM h i p=none:=by
 unfold mM;rw[a]
theorem fy {h:HS} {i:Nat} {x:GV} (a:h.g i=some x):jA h i=x.tk:=by unfold jA;rw[a]
theorem Pr (h:HS) (v:Int):sU h v=jA h v.toNat:=rfl
section
variable {gh fV:Gh} {h:HS}
namespace HI
theorem rdy (H:HI gh h) {Q:Sys} (m:EC Q h.s):QQ Q h where
 Ma:=m
 sz:=by rw[H.sz];exact Do _
 rr:=λv e=>by
  obtain⟨x,d,g, _⟩:=cd e;rw[g];have:=H.inv.sS (H.root d);exact⟨this.1,this.2.1⟩
 pg:=λv t j=>by
  rw[Pr] at j;have:=H.hc.ig (H.hc.y7 (a:=t.2.1) (f:=t.2.2) (H.hc.H_ j)).1;omega
 new:=λv a b c x d e h0=>by
  obtain⟨n,k,g,hv, _⟩:=cd e;rw[d] at k;cases k;rw[g] at h0;have l:=H.root d;rw[hv] at l;have i:=(H.inv.map l h0).2;obtain⟨_, _, _, _,i, _⟩:=i;have:mM h v.toNat b=none:=by rw[cH d,ao (by rw[i];decide)]
  have:=H.hc.QR this;rw[fy d] at this;exact this
theorem uk (H:HI gh h) {v:Nat} {x:GV} (b:h.g v=some x) {p:Int} {s1 s':WD} (d: ∀{i:Nat} {x:GV},h.g i=some x-> ∀q,a_ s1 x.root false q=a_ h.s x.root false q) (f:Inv gh s1) (C:oQ (lE (v:Int) 0 p) (v:Int) gh fV s1 s') {y:Option Int}
 (j:(if(a_ s' x.root false p).2.2.1=0 then some (a_ s' x.root false p).1 else none)=y) {h':HS} (k:h'.s=s') (l: ∀i,(h'.g i).map GV.root=(h.g i).map GV.root):mM h'=kU (mM h) v p y:=by
 funext i q;have hi:=l i;cases a:h.g i with
 |none=>
  rw[a] at hi;have m:h'.g i=none:=by simpa using hi
  rw[fx m];have n: ¬ (i=v/\q=p):=λc=>by rw[c.1,b] at a;cases a
  rw[bq n,fx a]
 |some z=>
  rw[a] at hi;obtain⟨z',r,t⟩: ∃z',h'.g i=some z'/\z'.root=z.root:=by
   cases hc:h'.g i with
   |none=>rw[hc] at hi;cases hi
   |some z'=>rw[hc] at hi;exact⟨z',rfl,by simpa using hi⟩
  rw[cH r,k,t];by_cases e:i=v/\q=p
  ·obtain⟨rfl,rfl⟩:=e;rw[b] at a;cases a;rw[eY,j]
  ·rw[bq e,cH a];have u:a_ s' z.root false q=a_ h.s z.root false q:=by
    rw[<-d a q];refine f.uI C.inv C.zy C.root (o:=(i:Int)) (H.root a) λc=>e ?_;obtain⟨w,A⟩:=c;exact⟨Bo w,A⟩
   rw[u]
theorem BS (H:HI gh h) {v:Nat} {p:Int} {s1 s':WD} (d: ∀{i:Nat} {x:GV},h.g i=some x-> ∀q,a_ s1 x.root false q=a_ h.s x.root false q) (e:Inv gh s1) (C:oQ (lE (v:Int) 0 p) (v:Int) gh fV s1 s') {h':HS} (f:h'.s=s') (j: ∀i,(h'.g i).map GV.root=(h.g i).map GV.root):A6 h h' (λi q=>i=v/\q=p):=by
 refine⟨λ{i q} b=>?_⟩;have hi:=j i;cases a:h.g i with
 |none=>
  rw[a] at hi;have b:h'.g i=none:=by simpa using hi
  unfold lN;rw[b,a]
 |some z=>
  rw[a] at hi;obtain⟨z',k,l⟩: ∃z',h'.g i=some z'/\z'.root=z.root:=by
   cases hc:h'.g i with
   |none=>rw[hc] at hi;cases hi
   |some z'=>rw[hc] at hi;exact⟨z',rfl,by simpa using hi⟩
  rw[bM k,bM a,f,l, <-d a q];refine e.uI C.inv C.zy C.root (o:=(i:Int)) (H.root a) λc=>b ?_;obtain⟨m,n⟩:=c;exact⟨Bo m,n⟩
theorem base (H:HI gh h) {v:Nat} {p:Int} {s1 s':WD} (C:oQ (lE (v:Int) 0 p) (v:Int) gh fV s1 s') (j:s1.1.length=h.s.1.length/\s1.2.length=h.s.2.length) (nl:v_ gh s1) {h':HS} (c:h'.s=s') (d: ∀i,(h'.g i).map GV.root=(h.g i).map GV.root)
 (hc:HC (mM h') (jA h') s'.2 h'.gr):HI fV h' where
 inv:=by rw[c];exact C.inv
 rt:=H.rt.eK C.root
 nl:=by
  rw[c];exact C.lg (λo q n a b=>a.2.trans b.2.symm) nl
 sz:=by
  rw[c,C.len.1,C.len.2,j.1,j.2];exact H.sz
 ig:=λ{i x} e=>by
  have hi:=d i;rw[e] at hi;cases hc:h.g i with
  |none=>rw[hc] at hi;cases hi
  |some z=>exact H.ig hc
 root:=λ{i x} e=>by
  have hi:=d i;rw[e] at hi;cases hc:h.g i with
  |none=>rw[hc] at hi;cases hi
  |some z=>
   rw[hc] at hi;have k:x.root=z.root:=by simpa using hi
   rw[k];exact C.root.to (H.root hc)
 own:=λ{f o y} l=>by
  obtain⟨i,x,m,h2⟩:=H.own ((C.root o f y).1 l);have hi:=d i;rw[h2] at hi;cases hc:h'.g i with
  |none=>rw[hc] at hi;cases hi
  |some z=>exact⟨i,z,m,hc⟩
 hc:=by rw[c];exact hc
theorem D9 (H:HI gh h) {s':WD} (B:Inv.fc gh h.s s') {h':HS} (b:h'.s=s') (a:h'.g=h.g) (P:Nat->Int->Prop):A6 h h' P:=by
 refine⟨λ{i q} _=>?_⟩;cases hi:h.g i with
 |none=>rw[fw hi,fw (by rw[a];exact hi)]
 |some z=>rw[bM hi,bM (by rw[a];exact hi),b];exact H.inv.dz B (H.root hi) q
theorem side (H:HI gh h) {s':WD} (B:Inv.fc gh h.s s') {vA:List GT} {Hm:List Po.PT} (hc:HC (mM h) (jA h) s'.2 vA):HI gh {s:=s',g:=h.g,gr:=vA,po:=Hm} where
 inv:=H.inv.beside B
 rt:=H.rt
 nl:=Inv.kK B H.nl
 sz:=by
  show s'.1.length=16*s'.2.length;rw[B.len.1,B.len.2];exact H.sz
 ig:=H.ig
 root:=H.root
 own:=H.own
 hc:=by
  have e:mM {s:=s',g:=h.g,gr:=vA,po:=Hm}=mM h:=by
   funext i p;cases a:h.g i with
   |none=>
    rw[fx a];exact fx (h:={s:=s',g:=h.g,gr:=vA,po:=Hm}) a p
   |some x=>
    rw[cH a,cH (h:={s:=s',g:=h.g,gr:=vA,po:=Hm}) a];show(if(a_ s' x.root false p).2.2.1=0 then _ else _)= _;rw[H.inv.dz B (H.root a)]
  rw[e];exact hc
end HI
end
set_option maxRecDepth 100000
open Go.RX D
theorem VP {o r:Int} (a:1<=o/\o<=16) (b:0<=r/\r<=65535):cj 4 o r 0=true:=by unfold cj fb;simp;omega
theorem Y8 {o:Int} (a:0<=o/\o<=16):cj 5 o 0 0=true:=by unfold cj fb;simp;omega
theorem CV {o:Int} (a:1<=o/\o<=16):aE 4 o zD=((4,o,0,0,()),0):=by
 have b:cj 0 0 0 0=true:=by decide
 have e:dM 0 0 0 0 4 o=0:=by
  unfold dM;rw[b,ao (by decide),ao (by decide),ax (by decide),ao (show ¬ (4:Int)=5 by decide),VP a ⟨by decide,by decide⟩,ao (by decide)]
 unfold aE zD gS fZ;dsimp only;rw[e];rfl
theorem GN {o:Int} (a:1<=o/\o<=16):aE 0 0 (4,o,0,0,())=(zD,0):=by
 have e:dM 4 o 0 0 0 0=0:=by
  unfold dM;rw[VP a ⟨by decide,by decide⟩,ao (by decide),ao (by decide),ax (by decide),ao (show ¬ (0:Int)=5 by decide)];decide
 unfold aE gS fZ;dsimp only;rw[e];rfl
theorem xy {o v:Int} (a:1<=o/\o<=16):aE 5 v (4,o,0,0,())=((5,o,0,0,()),0):=by
 have e:dM 4 o 0 0 5 v=0:=by
  unfold dM;rw[VP a ⟨by decide,by decide⟩,ao (by decide),ao (by decide),ax (by decide),ax rfl,Y8 ⟨by omega,a.2⟩,ao (by decide)]
 unfold aE gS fZ;dsimp only;rw[e];rfl
theorem CW {o:Int} (a:0<=o/\o<=16):aE 0 0 (5,o,0,0,())=(zD,0):=by
 have e:dM 5 o 0 0 0 0=0:=by
  unfold dM;rw[Y8 a,ao (by decide),ao (by decide),ax (by decide),ao (show ¬ (0:Int)=5 by decide)];decide
 unfold aE gS fZ;dsimp only;rw[e];rfl
theorem T2 {o r x:Int} (a:1<=o/\o<=16) (b:0<=r/\r<=65535) (c:0<=r+x/\r+x<=65535):gE x (4,o,r,0,())=((4,o,r+x,0,()),0):=by
 have e:kQ 4 o r 0 x=0:=by
  unfold kQ;rw[VP a b,ao (by decide),ax (.inr (.inr rfl)),ao (by omega)]
 unfold gE iR;dsimp only;rw[e];rfl
theorem t_ {ds:List DT} {n:Nat} {d d':DT} {G:DT->DT×Int} (h:ds[n]? =some d) (a:G d=(d',0)):fC ds (n:Int) G=ds.set n d'/\rq ds (n:Int) G=0:=by
 have c:n<ds.length:=(B5.1 h).1;have b:ds.getD n zD=d:=by rw[DA,h];rfl
 constructor
 ·rw[oh (by omega)];show(if(G (ds.getD n zD)).2=0 then ds.set n (G (ds.getD n zD)).1 else ds)= _;rw[b,a,ax rfl]
 ·rw[ui (by omega)];show(G (ds.getD n zD)).2=0;rw[b,a]
theorem vi {ds:List DT} {o:Int} (h:0<cz ds 0) (e: ∀d∈ds,d.1=0->d=zD) (f:1<=o/\o<=16): ∃i:Nat,i<ds.length/\ds[i]? =some zD/\dY ds 4 o=(i:Int)/\dk ds 4 o=0/\dD ds 4 o=ds.set i (4,o,0,0,()):=by
 obtain⟨i,d,a,h2,b,g⟩:=Aq h;have j:d=zD:=e d (Bq b) g;subst j;obtain⟨k,c⟩:=t_ b (CV f);refine⟨i,h2,b,?_,?_,?_⟩
 ·unfold dY;rw[a];dsimp only;rw[ax c]
 ·unfold dk;rw[ao (by omega),a];exact c
 ·unfold dD;rw[a];exact k
theorem rj {ds:List DT} {y o:Int} (h:dk ds y o=0):0<cz ds 0:=by
 rcases EF (cz ds 0) with e|e
 ·unfold dk at h;rw[Pn e] at h;dsimp only at h;split at h<;>exact absurd h (by decide)
 ·exact e
theorem LJ {ds:List DT} {n:Nat} {d d':DT} (h:ds[n]? =some d):(ds.set n d').set n d=ds:=by
 apply Ih;intro i;have a:n<ds.length:=(B5.1 h).1;by_cases e:n=i
 ·subst e;rw[B1 (by rw[Bp];exact a),h]
 ·rw[AX e,AX e]
theorem ot {ds:List DT} {n:Nat} {d:DT} (h:ds[n]? =some d):oK ds (n:Int)=d:=by
 have a:n<ds.length:=(B5.1 h).1;unfold oK;rw[ao (by omega)];show ds.getD n zD=d;rw[DA,h];rfl
theorem Kept.hc {fr:C6} {tk:Nat->List TK} {s s':WD} {gr:List GT} (H:HC fr tk s.2 gr) (K:Kept s s'):HC fr tk s'.2 gr:=
 H.BQ K.ks λ{n d} h=>(K.nw h).elim .inl λe=> .inr ⟨by omega,e.2.1,by omega,e.2.2.2⟩
theorem Ji {ws:List Int} {a:Int} (h:(az ws a).1=true):mK (B (dB ws a)).toNat=true:=by
 unfold az dP vY at h;cases b:mK (B (dB ws a)).toNat with
 |true=>rfl
 |false=>rw[b] at h;simp at h
theorem D_ {ws:List Int} {p t f:Int} {l:Nat} {fd:FT} (hi:vu ws (dN f p (l:Int))=true) (a:mK (B (dB ws (dN f p (l:Int)))).toNat=true):
 iI ws p t (f,(l:Int),fd)=tookS f p t (l:Int) fd (az ws (dN f p (l:Int))).1 (az ws (dN f p (l:Int))).2.1 (az ws (dN f p (l:Int))).2.2.1 (az ws (dN f p (l:Int))).2.2.2.1:=by
 unfold iI;dsimp only;rw[ao (by omega),a,ao ?_]
 ·rfl
 ·unfold yX;rw[ax hi];decide
namespace Inv
variable {g:Gh} {s:WD}
theorem Ea (I:Inv g s) {o r p t:Int} (d:g r=some (o,3,0)) (b:0<=p/\p<65536): ∀(n:Nat) {j:Nat} {f:Int},j+n=3->g f=some (o,j,px (j+1) p)->lA s.1 r p t n=(f,(j:Int),(0,0,0,0,()))
 |0,j,f,h,a=>by
  have:j=3:=by omega
  subst this;rw[Tq b] at a;rw[I.inj a d];rfl
 |n+1,j,f,h,a=>by
  obtain⟨f',e,h2⟩:=I.A4 a (by omega);have i:g f'=some (o,j+1,px (j+1+1) p):=e;obtain⟨k,m,w⟩:=I.sS e;obtain⟨q,u, _⟩:=I.sS a;have v:=I.Ea (t:=t) d b n (j:=j+1) (by omega) i;have c:=nF ⟨k,m⟩ b (l:=j+1) (by omega);have x:=dR p (j+1);rw[lA,v,D_ (by rw[c];exact lc (by omega) (by omega)) (by rw[c];exact Ji (by rw[h2];rfl)),c,h2];unfold tookS bP;dsimp only;rw[ao (by decide),ax ?_]
  ·congr 2;rw[bU (by omega) (by omega)];omega
  ·have:fa true 0 false f=true:=dy ⟨q,u⟩;rw[this];simp
   try omega
end Inv
set_option maxRecDepth 100000
open Go.RX D
theorem Inv.R7 {g:Gh} {s:WD} (I:Inv g s) (nl:v_ g s) {o r p t:Int} (c:g r=some (o,3,0)) (b:0<=p/\p<65536) (R:0<=t/\t<=7):
 if(a_ s r false p).2.2.1=0 then tG s.1 r p t=((a_ s r false p).1,(a_ s r false p).2.1,0,(if gq true (a_ s r false p).2.1 false (a_ s r false p).1 t=true then 0 else 7),()) else(tG s.1 r p t).2.2.2.1=4:=by
 obtain⟨f,j, _,a⟩:=I.kZ c b;rw[I.fT c b a];have v:=I.kd a.1;have w:=v.2.2.2.2.2;obtain⟨y,z,S⟩:=I.sS a.1;obtain⟨A,C,T⟩:=I.sS c;have hi:=dR p j;have d:=nF ⟨y,z⟩ b w;have i:=a.2;have D:=I.wf a.1 hi.1 hi.2;have E:=nl a.1 hi.1 hi.2;have F:=I.leaf a.1 hi.1 hi.2;have G:=lr s.1 (16*f+px j p % 16);have H:HV r p t=false:=by
  unfold HV;have J:dN r p 3=16*r+px 3 p % 16:=nF ⟨A,C⟩ b (l:=3) (by omega);have U:=dR p 3;rw[J,decide_eq_false (by omega),decide_eq_false (by omega),decide_eq_false (by omega)];rfl
 have K:tG s.1 r p t=(lA s.1 r p t 4).2.2:=ao (by rw[H];decide);have L:=I.Ea (t:=t) c b (3 - j) (by omega) a.1;have M:vu s.1 (dN f p (j:Int))=true:=by rw[d];exact lc (by omega) (by omega)
 have N:mK (B (dB s.1 (dN f p (j:Int)))).toNat=true:=by
  rw[d];cases hb:(az s.1 (16*f+px j p % 16)).1 with
  |true=>exact Ji hb
  |false=>rw[D hb];decide+kernel
 have n:lA s.1 r p t (3 - j+1)=tookS f p t (j:Int) (0,0,0,0,()) (az s.1 (16*f+px j p % 16)).1 (az s.1 (16*f+px j p % 16)).2.1 (az s.1 (16*f+px j p % 16)).2.2.1 (az s.1 (16*f+px j p % 16)).2.2.2.1:=by
  rw[lA,L,D_ M N,d]
 generalize az s.1 (16*f+px j p % 16)=e at*
 obtain⟨ep,er,el,ef,V⟩:=e;dsimp only at*
 have q: ∀x:FT,tookS f p t (j:Int) (0,0,0,0,()) ep er el ef=(f,-1,x)->tG s.1 r p t=x:=λx u=>by
  rw[K];have O:(lA s.1 r p t (3 - j+1)).2.1= -1:=by rw[n,u]
  have:=yr O j;rw[show 3 - j+1+j=4 by omega] at this;rw[this,n,u]
 cases ep with
 |false=>
  rw[q (vN (j:Int) 4) (by unfold tookS;rfl)];unfold l6 vN;simp
 |true=>
  have k:fa true er el ef=false:=i;obtain⟨W,X,P,k4,k5⟩:=lh.1 G;have Q:=E rfl i;subst Q;have m:el=false:=by
   rcases F rfl i with ⟨_,m⟩|⟨h, _⟩
   ·exact m
   ·exact absurd h (by decide)
  subst m;have Y:er>0:=by
   refine Classical.byContradiction λhc=>?_;have:er=0:=by omega
   subst this;have:=dy ⟨P,k4⟩;unfold dv bP at this;dsimp only at this;rw[this] at k;cases k
  rw[q (C4 0 t ef true er false ef) (by
   unfold tookS;rw[ao (by decide),k,ao (by decide),ao (by decide),ax (by simp;omega)];rfl)]
  unfold l6 C4;rw[ax rfl,ao (show ¬ ((0:Nat)=1) by decide)];dsimp only;rw[ax rfl,ao (by omega)];split<;>rfl
theorem GO {fr:C6} {v:Nat} {p:Int} {y:Option Int} (h:fr v p=y):kU fr v p y=fr:=by
 funext i q;unfold kU;split
 ·rename_i c;rw[c.1,c.2,h]
 ·rfl
section
variable {gh:Gh} {h:HS}
namespace HI
theorem po (H:HI gh h) (Hm:List Po.PT):HI gh (wv h Hm):=
 ⟨H.inv,H.rt,H.nl,H.sz,H.ig,H.root,H.own,H.hc⟩
theorem Y9 (H:HI gh h) {vA:List GT} (hc:HC (mM h) (jA h) h.s.2 vA):HI gh (tT h vA):=
 ⟨H.inv,H.rt,H.nl,H.sz,H.ig,H.root,H.own,hc⟩
theorem R8 (H:HI gh h) (v a:Int):HI gh (lj h v a):=by
 unfold lj;split
 ·exact H
 ·refine H.Y9 (H.hc.Jf (uL _ _ _) (H.hc.gk.rev _ _) (λ{n x y} b c=>?_) λ{n x} b g=>?_)
  ·unfold ji at c;by_cases e:nE h.gr a v=0
   ·rw[ax e] at c;by_cases en:a.toNat=n
    ·subst en;rw[B1 (B5.1 b).1] at c;cases c;unfold nE at e;cases d:jK h.gr a with
     |none=>rw[d] at e;exact absurd (show(4:Int)=0 from e) (by decide)
     |some k=>
      rw[d] at e;dsimp only at e;obtain⟨i,j,l⟩:=eH.1 d;have f:a.toNat=k:=by omega
      rw[f] at b;rw[getD_some b] at e;have:=(H.hc.gk x (Bq b)).2;split at e
      ·exact absurd e (by decide)
      ·split at e
       ·exact absurd e (by decide)
       ·show(0:Int)= _;omega
    ·rw[AX en,b] at c;cases c;rfl
   ·rw[ao e,b] at c;cases c;rfl
  ·unfold ji;by_cases e:nE h.gr a v=0
   ·rw[ax e];by_cases en:a.toNat=n
    ·subst en;unfold nE at e;cases d:jK h.gr a with
     |none=>rw[d] at e;exact absurd (show(4:Int)=0 from e) (by decide)
     |some k=>
      rw[d] at e;dsimp only at e;obtain⟨i,j,l⟩:=eH.1 d;have f:a.toNat=k:=by omega
      rw[f] at b;rw[getD_some b] at e;rw[ax g] at e;split at e
      ·exact absurd e (by decide)
      ·exact absurd e (by decide)
    ·rw[AX en];exact b
   ·rw[ao e];exact b
theorem offer (H:HI gh h) (v a b c:Int):HI gh (mn h v a b c):=by
 unfold mn;split
 ·have j: ∀{n:Nat} {x:GT},jj h.gr v a b=0->(iJ h.gr v a b).toNat=n->h.gr[n]? =some x->x=zG:=λ{n x} e en d=>by
   unfold iJ at en;rw[ax e] at en;have q:cq h.gr dw h.gr.length≠[]:=λhc=>by
    unfold jj at e;split at e
    ·exact absurd e (by decide)
    ·split at e
     ·exact absurd e (by decide)
     ·exact absurd e (by decide)
   obtain⟨y,l,k⟩:=J3 q;have m:y∈cq h.gr dw h.gr.length:=by rw[k];exact AC
   rw[k] at en;have en:y.toNat=n:=en;unfold cq at m;obtain⟨i,hi,rfl⟩:=Bc.1 m;have o:=(K2.1 hi).2;have r:i=n:=en;subst r;rw[getD_some d] at o;simpa[dw] using o
  have s:(il h.gr v a b (c==1)).length=h.gr.length:=by
   unfold il;split
   ·rw[Bp]
   ·rfl
  refine H.Y9 (H.hc.Jf s (H.hc.gk.off _ _ _ _) (λ{n x y} d f=>?_) λ{n x} d p=>?_)
  ·unfold il at f;by_cases e:jj h.gr v a b=0
   ·rw[ax e] at f;by_cases en:(iJ h.gr v a b).toNat=n
    ·have g:=j e en d;subst en;rw[B1 (B5.1 d).1] at f;cases f;rw[g];rfl
    ·rw[AX en,d] at f;cases f;rfl
   ·rw[ao e,d] at f;cases f;rfl
  ·unfold il;by_cases e:jj h.gr v a b=0
   ·rw[ax e];by_cases en:(iJ h.gr v a b).toNat=n
    ·have g:=j e en d;rw[g] at p;exact absurd p (by decide)
    ·rw[AX en];exact d
   ·rw[ao e];exact d
 ·exact H
theorem Ow (H:HI gh h) {v:Int} (l:aX h.g v=true) {a b:Int} (e:rJ h v a b=0): ∃fV,HI fV (jM h v a b)/\sx h (jM h v a b) (λi q=>i=v.toNat/\q=a) (-1)/\(lN h v.toNat a).2.2.1=0/\lN (jM h v a b) v.toNat a=((lN h v.toNat a).1,b,0,())/\(jM h v a b).g=h.g/\ru v gh fV h.s (jM h v a b).s:=by
 obtain⟨x,c,o,hv, _⟩:=cd l;unfold rJ at e;unfold jM;split at e
 ·exact absurd e (by decide)
 rename_i p;rw[ao p];split at e
 ·exact absurd e (by decide)
 rename_i r;rw[ao r];split at e
 ·exact absurd e (by decide)
 rename_i t;rw[ao t];rw[o] at e ⊢;obtain⟨n,rfl⟩: ∃n:Nat,v=(n:Int):=⟨v.toNat,hv.symm⟩;have c:h.g n=some x:=c;obtain⟨B,g',C,f,j, _⟩:=H.inv.pz (H.root c) e;have u:mM h n a=some (a_ h.s x.root false a).1:=by rw[cH c,ax f]
 have k:=H.uk c (s1:=h.s) (λ_ _=>rfl) H.inv C (y:=some (a_ h.s x.root false a).1) (by rw[j,ax rfl]) (h':=bJ h (n6 h.s (n:Int) x.root false a b)) rfl (λ_=>rfl);rw[GO u] at k;rw[show((n:Int)).toNat=n from rfl];have w:(bJ h (n6 h.s (n:Int) x.root false a b)).g n=some x:=c;refine⟨g',H.base C ⟨rfl,rfl⟩ H.nl rfl (λ_=>rfl) ?_,⟨H.BS (λ_ _=>rfl) H.inv C (h':=bJ h (n6 h.s (n:Int) x.root false a b)) rfl (λ_=>rfl),λ{m d d'} z A _ _ _=>C.kp.ws z A,C.kd⟩,by rw[bM c];exact f,by rw[bM c,bM w];exact j,rfl,C.Tx⟩;rw[k];exact Kept.hc H.hc C.kp
theorem Ox {v a b:Int} (e:rJ h v a b≠0):jM h v a b=h:=by
 unfold rJ at e;unfold jM;split
 ·rfl
 rename_i c;rw[ao c] at e;split
 ·rfl
 rename_i d;rw[ao d] at e;split
 ·rfl
 rename_i f;rw[ao f] at e;rw[Oh e];rfl
theorem pz (H:HI gh h) {v:Int} (c:aX h.g v=true) (a b:Int): ∃fV,HI fV (jM h v a b):=by
 by_cases e:rJ h v a b=0
 ·obtain⟨g',d, _⟩:=H.Ow c e;exact⟨g',d⟩
 ·rw[Ox e];exact⟨gh,H⟩
end HI
end
end Go.Proofs.YteeflilbnoknnaaGreat
