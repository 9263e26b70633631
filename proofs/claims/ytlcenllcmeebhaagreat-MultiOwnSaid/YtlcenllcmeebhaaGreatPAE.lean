import Derived.Test.YtlcenllcmeebhaaGreatPAD
/-! What the statement leans on: texts joined and shortened by a program of mine. -/
set_option linter.unusedVariables false
set_option linter.unusedSimpArgs false
open Go renaming World->A0,Value->AC,Addr->AJ,MapEntry->B4,Obj->Bx
open Go.Proofs.Tryz renaming prog->A2
open List renaming range->AF,mem_append_right->Ae,mem_cons_self->Aq,mem_cons_of_mem->Ar,getElem?_of_mem->B1,mem_map->B2,perm_middle->B3,length_map->B5,sublist_cons_self->BW,replicate->Bs,mem_append_left->Cg,getElem?_eq_some_iff->Ci,getElem?_map->Cj,mem_of_getElem?->Ct,getElem?_eq_getElem->DA,append_assoc->DB,mem_range->DV,length_replicate->Db,perm_append_comm->Dh,length_set->Dk,length_take->Dn,mem_append->Do,getD_eq_getElem?_getD->Ds,mem_cons->Dw,getElem?_set_self->Dx,length->F6,getElem?_inj->F8,filter_eq_self->FB,sublist_append_right->FG,perm_cons_erase->FH,filter_map->FJ,map_map->FS,ext_getElem?->FV,any_eq_true->FW,map_append->FX,sublist_append_left->FY,foldl_cons->G1,take_append_drop->GD,length_append->GF,getElem?_append_right->GG,length_cons->GH,filter_congr->GJ,length_singleton->GS,mem_filter->Ga,length_drop->Gd,getElem?_append_left->Gi,getElem?_set_ne->Gj,length_eraseIdx->H4,nodup_append->H5,mem_singleton->Hq,findIdx?_eq_some_iff_getElem->Hr,drop_eq_getElem_cons->I1,eraseIdx_eq_take_drop_succ->I2,filter_cons_of_neg->IB,filter_sublist->IP,flatMap_cons->IR,set_append_right->In,countP_eq_length_filter->Ip,filter_cons->Iy,length_filter_le->J3,replicate_succ'->J4,set_append_left->J5,nil_append->J7,length_zipIdx->J9,find?_range_eq_some->K1,perm_append_comm_assoc->Kb
open Eq renaming mpr->AM
open List.Perm renaming cons->DE,flatMap_right->Fk,append_right->Ft,append_left->H6,refl->Kd
open Int renaming toNat_natCast->DL
open Nat renaming le_refl->Dq,zero_le->E4,min_eq_left->H7,le_trans->HB,not_lt_zero->Kh
open Bool renaming or_eq_false_iff->E5,and_eq_true->Fy,or_eq_true->Ko,not_eq_true'->Ks
open List.Sublist renaming append_left->Fz
open Array renaming contains_push->Hb,eraseIdxIfInBounds->LL,getElem?_eq_some_iff->M4
namespace Go.Proofs.YtlcenllcmeebhaaGreat
set_option maxRecDepth 100000
open Go.RX D
def Rt (g:Gh):Prop:= ∀f o x,g f=some (o,3,x)->x=0
theorem Rt.c_ {g g':Gh} (h:Rt g) (k:mV g g'):Rt g':=λf o x e=>h f o x ((k _ _ _).1 e)
def upx:Nat->Int->Int
 |0,x=>x
 |n+1,x=>upx n x / 16
theorem Jt {ws:List Int} {l:Nat} {f z:Int}:z∈(AF 16).flatMap (oI ws l f)<-> ∃i:Nat,i<16/\ ∃m,l=m+1/\dI (aK ws (16*f+(i:Int)))=true/\z∈cY ws m (aK ws (16*f+(i:Int))).2.2.2.1:=by
 rw[List.mem_flatMap];constructor
 ·rintro⟨hi,h⟩;cases l with
  |zero
  |succ=>
   unfold oI at h
   grind
 ·rintro⟨i,hi,m,rfl,h⟩;unfold oI
  grind
theorem vk (x:Int): ∀l:List Int,(jI x l).Perm (x::l)
 |[]=> .refl _
 |y::l=>by
  rw[jI];split
  ·exact((vk x l).cons y).trans (.swap _ _ _)
  simp
theorem BA: ∀(l a:List Int),(l.foldl (λa x=>jI x a) a).Perm (l++a)
 |[],a=> .refl _
 |x::l,a=>by
  exact(BA l _).trans (by grind[vk])
theorem jS (l:List Int):(mT l).Perm l:=by grind[mT,BA]
theorem Se (o:Int) (h:1<=o/\o<=16): ¬ (aP 5 0 (5,o,0,0,())).2=0:=by
 have a:dT 5 o 0 0=true:=by unfold dT jO;grind
 show ¬ h_ 5 o 0 0 5 0=0;unfold h_;rw[ao (by grind),ao (by grind),ao (by decide)]
 grind
theorem BB {o:Int} (c:1<=o/\o<=16): ∀(l:List Int) (ds:List DT),(∀f∈l,0<=f/\(ds[f.toNat]? =some (3,o,0,0,())\/ds[f.toNat]? =some (5,o,0,0,())))->
 (l.foldl (λds f=>dH ds f (aP 5 0)) ds).length=ds.length/\ ∀n:Nat,((n:Int)∈l->(l.foldl (λds f=>dH ds f (aP 5 0)) ds)[n]? =some (5,o,0,0,()))/\((n:Int)∉l->(l.foldl (λds f=>dH ds f (aP 5 0)) ds)[n]? =ds[n]?)
 |[],ds, _=>⟨rfl,by grind⟩
 |f::l,ds,h=>by
  obtain⟨i,a⟩:=h f Aq;have r:f.toNat<ds.length:=by
   rcases a with h|h<;>exact(Ci.1 h).1
  have j:(dH ds f (aP 5 0)).length=ds.length/\(dH ds f (aP 5 0))[f.toNat]? =some (5,o,0,0,())/\ ∀n:Nat,n≠f.toNat->(dH ds f (aP 5 0))[n]? =ds[n]? :=by
   rw[pG ⟨i,by omega⟩,Ds];rcases a with a|a
   ·rw[a];show((if(aP 5 0 (3,o,0,0,())).2=0 then ds.set f.toNat (aP 5 0 (3,o,0,0,())).1 else ds).length= _)/\(if(aP 5 0 (3,o,0,0,())).2=0 then ds.set f.toNat (aP 5 0 (3,o,0,0,())).1 else ds)[f.toNat]? = _/\ ∀n:Nat,n≠f.toNat->(if(aP 5 0 (3,o,0,0,())).2=0 then ds.set f.toNat (aP 5 0 (3,o,0,0,())).1 else ds)[n]? = _;rw[Et c,av rfl]
    grind
   ·rw[a];show((if(aP 5 0 (5,o,0,0,())).2=0 then ds.set f.toNat (aP 5 0 (5,o,0,0,())).1 else ds).length= _)/\(if(aP 5 0 (5,o,0,0,())).2=0 then ds.set f.toNat (aP 5 0 (5,o,0,0,())).1 else ds)[f.toNat]? = _/\ ∀n:Nat,n≠f.toNat->(if(aP 5 0 (5,o,0,0,())).2=0 then ds.set f.toNat (aP 5 0 (5,o,0,0,())).1 else ds)[n]? = _;rw[ao (Se o c)]
    grind
  rw[G1];obtain⟨k,m,p⟩:=j;obtain⟨q,d⟩:=BB c l (dH ds f (aP 5 0)) (by grind);refine⟨q.trans k,λn=>⟨λb=>?_,λb=>?_⟩⟩
  ·by_cases g:(n:Int)∈l
   ·exact(d n).1 g
   ·rw[(d n).2 g];have:(n:Int)=f:=(Dw.1 b).resolve_right g;have e:n=f.toNat:=by omega
    rw[e];exact m
  ·rw[(d n).2 (λh=>b (Ar _ h)),p n (λe=>b (by
   have:(n:Int)=f:=by omega
   rw[this];exact Aq))]
def Kt (g:Gh) (o:Int):Gh:=λf=>match g f with
 |some v=>if v.1=o then none else some v
 |none=>none
theorem de {g:Gh} {o f:Int} {v:Int×Nat×Int}:Kt g o f=some v<->g f=some v/\v.1≠o:=by grind[Kt]
namespace Inv
variable {g:Gh} {s:WD}
theorem Sf (I:Inv g s): ∀(l:Nat) {f o x:Int},g f=some (o,l,x)-> ∀z∈cY s.1 l f, ∃l' x' n,l'+n=l/\g z=some (o,l',x')/\upx n x'=x:=by
 intro l
 induction l with
 |zero=>
  intro f o x b z a;rw[cY,Hq] at a;subst a;exact⟨0,x,0,rfl,b,rfl⟩
 |succ l c=>
  intro f o x b z a;rw[nf] at a;rcases Dw.1 a with rfl|a
  ·exact⟨l+1,x,0,rfl,b,rfl⟩
  ·obtain⟨i,hi,m,p,d,e⟩:=Jt.1 a;have:m=l:=by omega
   subst this;obtain⟨h,h1,j⟩:=I.sP b (by omega) (by omega) d;have:h=m:=by omega
   subst this;obtain⟨l',x',n,q,k,r⟩:=c j z e;refine⟨l',x',n+1,by omega,k,?_⟩;show upx n x' / 16=x;omega
theorem Ew (I:Inv g s) (c:Rt g) {r o:Int} (d:g r=some (o,3,0)): ∀(n:Nat) {l:Nat} {f x:Int},l+n=3->g f=some (o,l,x)-> ∀z∈cY s.1 l f,z∈cY s.1 3 r
 |0,l,f,x,h,a,z,b=>by
  have:l=3:=by omega
  subst this;have:=c _ _ _ a;subst this;rw[I.inj a d] at b
  grind
 |n+1,l,f,x,h,a,z,b=>by
  obtain⟨f',h1,i⟩:=I.Fo a (by omega);obtain⟨j,k, _⟩:=I.uR a;refine I.Ew c d n (by omega) h1 z ?_;refine Ar _ (Jt.2 ⟨(x % 16).toNat,by omega,l,rfl,?_⟩);have e:(x % 16).toNat=x % 16:=by omega
  rw[e,i];exact⟨dF ⟨j,k⟩,b⟩
theorem MC (I:Inv g s) (a:Rt g) {r o:Int} (b:g r=some (o,3,0)) (z:Int):z∈cY s.1 3 r<-> ∃l x,g z=some (o,l,x):=by
 constructor
 ·obtain:=I.Sf
  grind
 ·rintro⟨l,x,h⟩;have c:=(I.kd h).2.2.2.2.2;exact I.Ew a b (3 - l) (by omega) h z (by rw[nf];simp)
theorem dropped (I:Inv g s) (t:Rt g) {r o:Int} (u:g r=some (o,3,0)):
 Inv (Kt g o) (cG s r false)/\Rt (Kt g o)/\(cG s r false).1=s.1/\(cG s r false).2.length=s.2.length/\
  ∀n:Nat,((∃l x,g (n:Int)=some (o,l,x))->(cG s r false).2[n]? =some (5,o,0,0,()))/\((¬ ∃l x,g (n:Int)=some (o,l,x))->(cG s r false).2[n]? =s.2[n]?):=by
 have w: ¬ (false=true):=by decide
 have D:cG s r false=(s.1,(mU s r false).foldl _ s.2):=ao w;have E:mU s r false=mT (cY s.1 3 r):=ao w;have p: ∀z,z∈mU s r false<-> ∃l x,g z=some (o,l,x):=λz=>by
  rw[E,(jS _).mem_iff];exact I.MC t u z
 have y:=(I.kd u).2.2.2;obtain⟨t1,t2⟩:=BB ⟨y.1,y.2.1⟩ (mU s r false) s.2 (λf F=>by
  obtain⟨l,x,h⟩:=(p f).1 F;obtain⟨a1,G,A, _⟩:=I.kd h;exact⟨a1,.inl A⟩)
 rw[D];generalize Q:(mU s r false).foldl _ s.2=ds at t1 t2;have B:=λn h=>(t2 n).1 ((p _).2 h);have q: ∀n:Nat,(¬ ∃l x,g (n:Int)=some (o,l,x))->ds[n]? =s.2[n]? :=λn h=>(t2 n).2 (λH=>h ((p _).1 H));refine⟨?_,λf o' x h=>t f o' x (de.1 h).1,rfl,t1,λn=>⟨B n,q n⟩⟩;refine⟨?_,?_,?_,?_,?_,?_,?_,?_,?_,?_⟩
 ·rw[t1];exact I.len
 ·show ds.length<=4096;rw[t1];exact I.le
 ·intro d J h0;obtain⟨n,i⟩:=B1 J;by_cases h: ∃l x,g (n:Int)=some (o,l,x)
  grind
  ·rw[q n h] at i;exact I.fz d (Ct i) h0
 ·intro f o' l x h;obtain⟨h,j⟩:=de.1 h;obtain⟨a1,G,A,R⟩:=I.kd h
  grind
 ·intro a b v K hb;exact I.inj (de.1 K).1 (de.1 hb).1
 ·intro f o' l x k h h0 h1 L;obtain⟨h,j⟩:=de.1 h;obtain⟨m,M,N⟩:=I.sP h h0 h1 L;exact⟨m,M,de.2 ⟨N,j⟩⟩
 ·intro f o' l x k h h0 h1;exact I.leaf (de.1 h).1 h0 h1
 ·intro f o' l x h O;obtain⟨h,j⟩:=de.1 h;obtain⟨f',p1,p2⟩:=I.Fo h O;exact⟨f',de.2 ⟨p1,j⟩,p2⟩
 ·intro f o' l x k h h0 h1 P;exact I.wf (de.1 h).1 h0 h1 P
 ·intro n d i C;by_cases h: ∃l x,g (n:Int)=some (o,l,x)
  ·rw[B n h] at i;cases i;cases C
  ·rw[q n h] at i;obtain⟨v,hv⟩:=I.tb i C;refine⟨v,de.2 ⟨hv,λe=>h ?_⟩⟩;obtain⟨a,b,c⟩:=v;have e:a=o:=e;subst e;exact⟨b,c,hv⟩
end Inv
set_option maxRecDepth 100000
open Go.RX D
theorem VX {s:WD} {o r pg lv:Int} {e:ET} (h: ¬ lu s r pg lv=0):rT s o r pg lv e=s:=ao h
theorem Ju {s:WD} {o r:Int} {gone:Bool} {pg f rt:Int} (h: ¬ kl s r gone pg f rt=0):jG s o r gone pg f rt=s:=by
 unfold kl at h;unfold jG;cases gone with
 |true=>simp
 |false=>
  by_cases c:lA pg f rt=0
  ·rw[av c] at h ⊢;exact VX h
  grind
theorem VY {s:WD} {o r pg:Int} (h: ¬ mz s o r pg=0):fZ s o r pg=s:=by
 unfold mz at h;unfold fZ;by_cases c:(dJ s.1 r pg).2.1=0
 ·grind
 ·rw[ao c] at h ⊢;rw[ao h,Jr h]
theorem VZ {s:WD} {o r:Int} {gone:Bool} {pg rt:Int} (h: ¬ F1 s o r gone pg rt=0):rU s o r gone pg rt=s:=by
 unfold F1 at h;unfold rU;cases gone with
 |true=>simp
 |false=>
  have a: ¬ false=true:=by grind
  rw[ao a] at h ⊢;by_cases c:lA pg 0 rt=0
  ·rw[av c] at h ⊢;by_cases d:(cW s.1 r pg).1=true
   ·rw[av d] at h ⊢;by_cases e:((cW s.1 r pg).2.2.1&&(cW s.1 r pg).2.1==rt)=true
    ·grind
    ·rw[ao e] at h ⊢;rw[ao h,VY h]
   grind
  grind
namespace Inv
variable {g:Gh} {s:WD}
theorem V2 (I:Inv g s) {o r p f rt:Int} (a:g r=some (o,3,0)) (b:0<=p/\p<65536) (k:0<=f/\f<4096) (l:1<=rt/\rt<=7) {f0:Int} {j:Nat} (c:dx g s o p f0 j) (d:(aK s.1 (16*f0+px j p % 16)).1=false) (hc:j<=cg s.2 0):kl s r false p f rt=0:=by
 obtain⟨e,h⟩:=I.mn a b c;have i:lA p f rt=0:=by unfold lA;rw[ao (by omega),ao (by omega)]
 unfold kl;rw[ao (by decide),av i];unfold lu;rw[e,h,d,ao ?_,ao ?_]
 ·show ¬ (cg s.2 0:Int)<(j:Int) - 0;omega
 ·show ¬ (false||decide ((j:Int)<0))=true;simp
theorem aaa (I:Inv g s) {o:Int} (a:1<=o/\o<=16) (hc:0<cg s.2 0):rH s o=0:=by
 obtain⟨n, _, _, _,e, _⟩:=ng hc I.fz a;exact e
end Inv
set_option maxRecDepth 100000
open Go.RX D
structure SM (Q:Sys) (D G:List Nat) (w0 w:A0) (s:WD) (L0:List (Nat×List AC)) (M:List (Nat×Bx)):Prop where
 pos:0<s.1.length
 F2:0<s.2.length
 le:s.2.length<=4096
 okw:okW s.1
 kn: ∃ca la,cD D G w0 w (Q.L ca la s L0) M
section
variable {Q:Sys} {D G:List Nat} {w0 w w1:A0} {s:WD} {L0 L1:List (Nat×List AC)} {M M1:List (Nat×Bx)}
namespace SM
theorem ext (H:SM Q D G w0 w s L0 M) (h:Ext w w1):SM Q D G w0 w1 s L0 M:=by
 obtain⟨a,b,c,d,ca,la,k⟩:=H;exact⟨a,b,c,d,ca,la,k.ext h⟩
theorem base (H:SM Q D G w0 w s L0 M):a9 Q D G w0 w s L0:=by
 obtain⟨a,b,c,d,ca,la,k⟩:=H;exact⟨a,b,c,d,ca,la,k.base⟩
theorem of (S:a9 Q D G w0 w s L0):SM Q D G w0 w s L0 []:=by
 obtain⟨a,b,c,d,ca,la,k⟩:=S;exact⟨a,b,c,d,ca,la,cD.of k⟩
theorem call (H:SM Q D G w0 w s L0 M): ∃e,a9 Q [] e w w s L0/\ ∀{f:A0} {s':WD} {L':List (Nat×List AC)},a9 Q [] e w f s' L'->SM Q D G w0 f s' L' M:=by
 obtain⟨a,b,c,d,ca,la,k⟩:=H;refine⟨_,⟨a,b,c,d,ca,la,k.base.again⟩,λS=>?_⟩;obtain⟨a',g,h,d',i,j,l⟩:=S;exact⟨a',g,h,d',i,j,k.join l⟩
theorem perm (H:SM Q D G w0 w s L0 M) (h:L1.Perm L0):SM Q D G w0 w s L1 M:=by
 obtain⟨a,b,c,d,ca,la,k⟩:=H;exact⟨a,b,c,d,ca,la,k.perm ((((h.cons _).cons _).cons _).cons _)⟩
theorem sub (H:SM Q D G w0 w s L0 M) (h:L1.Sublist L0):SM Q D G w0 w s L1 M:=by
 obtain⟨a,b,c,d,ca,la,k⟩:=H;exact⟨a,b,c,d,ca,la,k.sub ((((h.cons_cons _).cons_cons _).cons_cons _).cons_cons _)⟩
theorem lE (H:SM Q D G w0 w s L0 M) (h:M1.Perm M):SM Q D G w0 w s L0 M1:=by
 obtain⟨a,b,c,d,ca,la,k⟩:=H;exact⟨a,b,c,d,ca,la,k.lE h⟩
theorem FR (H:SM Q D G w0 w s L0 M) (h:M1.Sublist M):SM Q D G w0 w s L0 M1:=by
 obtain⟨a,b,c,d,ca,la,k⟩:=H;exact⟨a,b,c,d,ca,la,k.FR h⟩
theorem get (H:SM Q D G w0 w s L0 M) {r:Nat} {o:Bx} (h:(r,o)∈M):w.heap[r]? =some o:=by
 obtain⟨a,b,c,d,ca,la,k⟩:=H;exact(k.obj _ h).1
theorem put (H:SM Q D G w0 w s L0 M) {i r:Nat} {o:Bx} (h:M[i]? =some (r,o)) {o':Bx} (e:nS o'):SM Q D G w0 (w.putObj r o') s L0 (M.set i (r,o')):=by
 obtain⟨a,b,c,d,ca,la,k⟩:=H;exact⟨a,b,c,d,ca,la,k.put h e⟩
theorem alloc (H:SM Q D G w0 w s L0 M) {o:Bx} (e:nS o):SM Q D G w0 (w.alloc o) s L0 ((w.heap.size,o)::M):=by
 obtain⟨a,b,c,d,ca,la,k⟩:=H;exact⟨a,b,c,d,ca,la,k.alloc e⟩
theorem go (H:SM Q D G w0 w s L0 M) {P:Program} {f:FuncId} {sh:Sh} {args:List AC} {K:sh.T->A0->Prop} (k: ∀w1,SM Q D G w0 w1 s L0 M->aE P f sh args w1 K):aA P f sh args w K:=λ_ h=>k _ (H.ext h)
theorem en (H:SM Q D G w0 w s L0 M) {K:A0->Prop} (k: ∀w1,SM Q D G w0 w1 s L0 M->K w1):au w K:=λ_ h=>k _ (H.ext h)
end SM
end
abbrev TK:Type:=Int×Int×Int
def Au (t:TK):AC×AC:=(aa t.1,.agg ⟨[aa t.2.1,aa t.2.2]⟩)
def qQ (es:List B4) (ck:Nat) (tk:List TK):Prop:=
 (∃p:List TK,p.Perm tk/\es.map (λe=>(e.key,e.val))=p.map Au)/\(es.map (·.born)).Nodup/\(∀e∈es,e.born<ck)/\(tk.map (·.1)).Nodup
theorem qQ.nil:qQ [] 0 []:=⟨by simp,by simp⟩
theorem qQ.len {es:List B4} {ck:Nat} {tk:List TK} (h:qQ es ck tk):es.length=tk.length:=by
 obtain⟨⟨p,h1,a⟩⟩:=h;have:=congrArg F6 a;rw[B5,B5] at this;rw[this,h1.length_eq]
theorem Sg {es:List B4} {p:List TK} (h:es.map (λe=>(e.key,e.val))=p.map Au) (g:Int) (i0:Nat):
 Instr.findNow (.int .i64) (aa g) es i0=some (match p.findIdx? (λt=>t.1==g) with
  |some i=>some (i0+i,(Au (p.getD i (0,0,0))).2)
  |none=>none):=by
 induction es generalizing p i0 with
 |nil=>
  cases p with
  |nil=>rfl
  |cons t=>simp at h
 |cons e es b=>
  cases p with
  |nil=>simp at h
  |cons t p=>
   simp only[List.map_cons,List.cons.injEq] at h;obtain⟨h1,c⟩:=h;have a:e.key=aa t.1:=congrArg (·.1) h1;have hv:e.val=(Au t).2:=congrArg (·.2) h1;unfold Instr.findNow;rw[a];have hs:Instr.sameNow (.int .i64) (aa g) (aa t.1)=some (g==t.1):=by
    show(if IntKind.i64=IntKind.i64 then some (g==t.1) else none)= _;rw[av rfl]
   rw[hs,List.findIdx?_cons]
   grind
def cq (tk:List TK) (g:Int):Option (Int×Int):=(tk.find? λt=>t.1==g).map (·.2)
theorem lh {tk:List TK} {g a b:Int} (c:(tk.map (·.1)).Nodup):cq tk g=some (a,b)<->(g,a,b)∈tk:=by
 unfold cq;constructor
 ·intro h;obtain:=Option.map_eq_some_iff.1 h
  grind
 ·intro h;cases d:tk.find? _ with
  |none=>
   grind
  |some t=>
   have e:=List.mem_of_find?_eq_some d;obtain⟨i⟩:=B1 h;obtain⟨j⟩:=B1 e;have f:(tk.map (·.1))[i]? =some g:=by grind
   have k:(tk.map (·.1))[j]? =some g:=by grind
   have:=(F8 (by grind) c).1 (f.trans k.symm)
   grind
theorem qy {tk:List TK} {g:Int}:cq tk g=none<-> ∀t∈tk,t.1≠g:=by simp[cq]
theorem qz {α β:Type} (f:α->β): ∀(l:List α) (i:Nat),(l.eraseIdx i).map f=(l.map f).eraseIdx i
 |[],i=>by simp
 |a::l,0=>rfl
 |a::l,i+1=>by
  simp;rw[qz]
theorem qQ.find {es:List B4} {ck:Nat} {tk:List TK} (h:qQ es ck tk) (g:Int): ∃r,Instr.findNow (.int .i64) (aa g) es 0=some r/\
 match cq tk g with
 |some x=> ∃i,r=some (i,.agg ⟨[aa x.1,aa x.2]⟩)/\i<es.length/\qQ (es.eraseIdx i) ck (tk.filter λt=> !(t.1==g))
 |none=>r=none:=by
 obtain⟨⟨p,h1,b⟩,l,m,f⟩:=h;refine⟨_,Sg b g 0,?_⟩;cases c:p.findIdx? (λt=>t.1==g) with
 |none=>
  have:cq tk g=none:=qy.2 λt a=>by
   have:=List.findIdx?_eq_none_iff.1 c t (h1.mem_iff.2 a);simpa using this
  rw[this]
 |some i=>
  rw[Hr] at c;obtain⟨hi,hg, _⟩:=c;have d:p[i]? =some p[i]:=DA hi;have j:p.getD i (0,0,0)=p[i]:=by rw[Ds,d];rfl
  obtain⟨t,a⟩: ∃t,t=p[i]:=⟨_,rfl⟩;rw[<-a] at d j hg;have hg:t.1=g:=by simpa using hg
  have n:(g,t.2.1,t.2.2)∈tk:=by
   have:=h1.mem_iff.1 (Ct d);subst hg;exact this
  rw[(lh f).2 n];have u:es.length=p.length:=by
   have:=congrArg F6 b;simpa using this
  refine⟨i,by dsimp only;rw[j,Nat.zero_add];rfl,by omega,⟨p.eraseIdx i,?_,?_⟩,?_,?_,?_⟩
  ·have o:p.eraseIdx i=p.filter λt=> !(t.1==g):=by
    have q:p=p.take i++t::p.drop (i+1):=by
     conv=>lhs;rw[<-GD i p]
     rw[I1 hi, <-a]
    have k: ∀x∈p.take i++p.drop (i+1),x.1≠g:=by
     grind
    rw[I2]
    conv=>rhs;rw[q]
    rw[List.filter_append,IB (by simp[hg])];rw[FB.2 (λx hx=>by have:=k x (Cg _ hx);simpa using this),FB.2 (λx hx=>by have:=k x (Ae _ hx);simpa using this)]
   rw[o];exact h1.filter _
  ·rw[qz,b,qz]
  ·rw[qz];exact l.sublist (List.eraseIdx_sublist _ _)
  ·exact λe s=>m e (List.mem_of_mem_eraseIdx s)
  ·exact f.sublist ((IP).map _)
theorem qQ.push {es:List B4} {ck:Nat} {tk:List TK} (h:qQ es ck tk) {t:TK} (c:cq tk t.1=none) {a:List TK} (b:a.Perm (t::tk)):qQ (es++[{key:=(Au t).1,val:=(Au t).2,born:=ck}]) (ck+1) a:=by
 obtain⟨⟨p,h1,g⟩,i,j,d⟩:=h;refine⟨⟨p++[t],?_,?_⟩,?_,?_,?_⟩
 ·exact(List.perm_append_singleton _ _).trans ((h1.cons _).trans b.symm)
 ·grind
 grind
 grind
 ·refine(b.map _).nodup_iff.2 (List.nodup_cons.2 ⟨λf=>?_,d⟩);obtain⟨x,hx,e⟩:=B2.1 f;exact qy.1 c x hx e
set_option maxRecDepth 100000
open Go.RX D
structure GV where
 root:Int
 tk:List TK
structure HS where
 s:WD
 g:Nat->Option GV
 gr:List GT
 po:List Po.PT
structure HX where
 hb:Nat
 gb:Nat
 uI:Nat
 pb:Nat
 c:Nat
 rest:List AC
structure GA where
 bg:Nat
 bt:Nat
 bm:Nat
 ck:Nat
 es:List B4
def kW (A:Nat->GA) (g:Nat->Option GV) (i:Nat):Option AJ:=match g i with
 |some _=>some ⟨(A i).bg,0,none⟩
 |none=>none
def sg (A:Nat->GA) (g:Nat->Option GV):List AC:=(AF 17).map λi=>ah (kW A g i)
abbrev fe (Q:Sys) (X:HX) (A:Nat->GA) (g:Nat->Option GV):List AC:=[ah (ae Q.bm),ah (ae Q.bp),ah (ae X.gb),ah (ae X.pb)]++sg A g
def ia (Q:Sys) (A:Nat->GA) (i:Nat) (v:GV):List (Nat×List AC):=[((A i).bg,[ah (some ⟨(A i).bt,0,none⟩),.map (some (A i).bm)]),((A i).bt,p_ Q i v.root false)]
def bj (Q:Sys) (A:Nat->GA) (g:Nat->Option GV) (l:List Nat):List (Nat×List AC):=l.flatMap λi=>match g i with
 |some v=>ia Q A i v
 |none=>[]
def dy (A:Nat->GA) (g:Nat->Option GV) (l:List Nat):List (Nat×Bx):=l.flatMap λi=>match g i with
 |some _=>[((A i).bm,Obj.map ⟨(A i).es⟩ (A i).ck)]
 |none=>[]
abbrev eo (Q:Sys) (X:HX) (A:Nat->GA) (h:HS) (L:List (Nat×List AC)):List (Nat×List AC):=
 (X.hb,fe Q X A h.g)::(X.gb,mK X.uI h.gr.length X.c)::(X.uI,flat eG h.gr++X.rest)::(X.pb,Po.gW 4 h.po)::L
structure Dt (A:Nat->GA) (h:HS):Prop where
 jy: ∀{i v},h.g i=some v->1<=i/\i<=16
 mp: ∀{i v},h.g i=some v->qQ (A i).es (A i).ck v.tk
 gl:h.gr.length=16
 pt:Po.ma 4 h.po
 gk:og h.gr
def jz (Q:Sys) (X:HX) (D G:List Nat) (w0 w:A0) (h:HS) (L:List (Nat×List AC)):Prop:=
 ∃A,Dt A h/\SM Q D G w0 w h.s (eo Q X A h (bj Q A h.g (AF 17)++L)) (dy A h.g (AF 17))
theorem BC {Q:Sys} {A:Nat->GA} {g:Nat->Option GV} {l:List Nat} {i:Nat} {v:GV} (hi:i∈l) (hv:g i=some v): ∀x∈ia Q A i v,x∈bj Q A g l:=by grind[bj]
theorem MD {A:Nat->GA} {g:Nat->Option GV} {l:List Nat} {i:Nat} {v:GV} (hi:i∈l) (hv:g i=some v):((A i).bm,Obj.map ⟨(A i).es⟩ (A i).ck)∈dy A g l:=by grind[dy]
theorem BD {A:Nat->GA} {g:Nat->Option GV} {i:Nat} (hi:i<17):(sg A g)[i]? =some (ah (kW A g i)):=by grind[sg]
def aQ (g:Nat->Option GV) (v:Int):Bool:=decide (v>=1)&&decide (v<=16)&&(g v.toNat).isSome
def aR (g:Nat->Option GV) (v:Int):Int:=if aQ g v=true then(match g v.toNat with|some x=>x.root|none=> -1) else -1
def gy (g:Nat->Option GV) (v p:Int):Int×Bool×Unit:=if aQ g v=true then(match g v.toNat with
 |some x=>(match cq x.tk p with|some y=>(y.1,true,())|none=>(0,false,()))
 |none=>(0,false,())) else(0,false,())
def dp (g:Nat->Option GV) (v a:Int):Int:=if a<1\/a>16\/a=v then 1 else if aQ g a=true then 0 else 4
theorem cm {g:Nat->Option GV} {v:Int}:aQ g v=true<->(1<=v/\v<=16)/\ ∃x,g v.toNat=some x:=by simp[aQ,Option.isSome_iff_exists]
section
variable {Q:Sys} {X:HX} {D G:List Nat} {w0 w:A0} {s:WD} {L0:List (Nat×List AC)} {M:List (Nat×Bx)} {A:Nat->GA} {g:Nat->Option GV}
theorem a9.pv (S:a9 Q D G w0 w s L0) (a:(X.hb,fe Q X A g)∈L0) {v:Int} (hv:0<=v/\v<=16):cU w (ad (ad (ae X.hb) 4) (v.toNat*1)) (.one .ptr) (kW A g v.toNat):=by
 obtain⟨j,b⟩:=B1 a;rw[aY,aY];refine dV (S.get b) ?_;show(match (fe Q X A g)[0+4+v.toNat*1]? with|some v=>Sc.ptr.proj v|none=>none)= _;have:(fe Q X A g)[0+4+v.toNat*1]? =some (ah (kW A g v.toNat)):=by
  grind[BD]
 rw[this];rfl
theorem a9.fK (S:a9 Q D G w0 w s L0) (a:(X.hb,fe Q X A g)∈L0) {n:Nat} {x:Option AJ} (h:[(some ⟨Q.bm,0,none⟩:Option AJ),some ⟨Q.bp,0,none⟩,some ⟨X.gb,0,none⟩,some ⟨X.pb,0,none⟩][n]? =some x):cU w (ad (ae X.hb) n) (.one .ptr) x:=by
 obtain⟨j,b⟩:=B1 a;rw[aY];refine dV (S.get b) ?_;rcases n with _| _| _| _|n
 ·cases h;rfl
 ·cases h;rfl
 ·cases h;rfl
 ·cases h;rfl
 simp_all
theorem m9 (S:a9 Q D G w0 w s L0) (a:(X.hb,fe Q X A g)∈L0):af A2 53 [ah (ae X.hb)] w (.bool true):=by
 refine af.of λw' h'=>ai (C:=V0) (AM (Mg _ w' _) ?_);exact⟨λ_=>rfl,λ_=>rfl,aj.of _ ((S.ext h').fK a (n:=0) rfl) (by grind)⟩
theorem qj (S:a9 Q D G w0 w s L0) (a:(X.hb,fe Q X A g)∈L0) (v:Int):af A2 19 [ah (ae X.hb),aa v] w (.bool (aQ g v)):=by
 refine af.of (s:= .el (.one .bool)) λw' h'=>ai (C:=V0) (aW:=λ_=>[]) (AM (R4 _ v w' _) ?_);have S:=S.ext h';refine⟨_,m9 S a,λ_=>rfl,λ_=>rfl,λc=>?_,?_⟩
 ·simp only[Fy,decide_eq_true_eq] at c;exact⟨rfl,by omega⟩
 ·unfold aQ;by_cases hv:v>=1/\v<=16
  ·refine aj.of _ (S.pv a ⟨by omega,hv.2⟩) λw1 h1=>⟨?_,h1⟩;unfold kW;cases g v.toNat<;>simp
  ·have c:(true&&decide (v>=1)&&decide (v<=16))=false:=by
    grind
   rw[c];refine⟨none,λh=>(by cases h),λw1 h1=>⟨?_,h1⟩⟩
   grind
theorem bP {a:Int} (h:0<=a/\a<9223372036854775808):aJ .i64 a=a:=gJ (by omega) h.2
theorem Ex (S:a9 Q D G w0 w s L0) (b:(X.hb,fe Q X A g)∈L0) {a:Int} (d:0<=a):af A2 165 [ah (ae X.hb),ax a] w (.bool (aQ g a)):=by
 refine af.of (s:= .el (.one .bool)) λw' h'=>ai (C:=V0) (aW:=λ_=>[]) (AM (Mh _ a w' _) ?_);have S:=S.ext h';refine⟨aQ g a,λc=>?_,λw1 h1=>⟨?_,h1⟩⟩
 ·have c:a<=16:=by simpa using c
  rw[bP ⟨d,by omega⟩];exact qj S b a
 ·grind[decide_eq_true,aQ]
theorem ze (S:a9 Q D G w0 w s L0) (d:(X.hb,fe Q X A g)∈L0) (v:Int) {a:Int} (b:0<=a):af A2 179 [ah (ae X.hb),aa v,ax a] w (aa (dp g v a)):=by
 refine af.of (s:= .el (.one (.int .i64))) λw' h'=>ai (C:=V0) (aW:=λ_=>[]) (AM (Ml _ v a w' _) ?_);have S:=S.ext h';unfold dp;by_cases c:a<1\/a>16\/a=v
 ·rw[av c];refine aB ?_ λw1 h1=>⟨rfl,h1⟩;simp only[Ko,decide_eq_true_eq,beq_iff_eq];rcases c with c|c|c
  ·exact .inl (.inl c)
  ·exact .inl (.inr c)
  ·by_cases c2:a>16
   ·exact .inl (.inr c2)
   ·exact .inr (by rw[bP ⟨b,by omega⟩];exact c)
 ·rw[ao c];refine an ?_ ⟨_,Ex S d b,?_⟩
  ·rw[bP ⟨b,by omega⟩]
   grind
  ·cases aQ g a with
   |true=>exact an rfl λw1 h1=>⟨rfl,h1⟩
   |false=>exact aB rfl λw1 h1=>⟨rfl,h1⟩
theorem Jv (S:a9 Q D G w0 w s L0) (a:(X.hb,fe Q X A g)∈L0) (hg: ∀i v,g i=some v-> ∀x∈ia Q A i v,x∈L0) (v:Int):af A2 21 [ah (ae X.hb),aa v] w (aa (aR g v)):=by
 refine af.of λw' h'=>ai (C:=V0) (aW:=λ_=>[]) (AM (R5 _ v w' _) ?_);have S:=S.ext h';refine⟨_,qj S a v,?_⟩;unfold aR;cases b:aQ g v with
 |false=>exact aB rfl λw1 h1=>⟨rfl,h1⟩
 |true=>
  obtain⟨hv,x,hx⟩:=cm.1 b;have hc:=S.pv a (v:=v) ⟨by omega,hv.2⟩;have c:kW A g v.toNat=some ⟨(A v.toNat).bg,0,none⟩:=by unfold kW;rw[hx]
  rw[c] at hc;obtain⟨j1,d⟩:=B1 (hg _ _ hx _ Aq);obtain⟨e,f⟩:=B1 (hg _ _ hx _ (Ar _ Aq));refine an rfl ⟨rfl,rfl,⟨rfl,by omega⟩,aj.of _ hc ⟨rfl,rfl,S.cz j1 d rfl ⟨_,S.root e f,λw1 h1=>⟨?_,h1⟩⟩⟩⟩;rw[hx,av rfl];rfl
theorem pN (H:SM Q D G w0 w s L0 M) (c:(X.hb,fe Q X A g)∈L0) (hg: ∀i v,g i=some v-> ∀x∈ia Q A i v,x∈L0) (j: ∀i v,g i=some v->((A i).bm,Obj.map ⟨(A i).es⟩ (A i).ck)∈M) (k: ∀i v,g i=some v->qQ (A i).es (A i).ck v.tk) (v p:Int):
 af A2 174 [ah (ae X.hb),aa v,aa p] w ((Sh.bA [.one (.int .i64),.one .bool]).iu (gy g v p)):=by
 refine af.of (s:= .bA [.one (.int .i64),.one .bool]) λw' h'=>ai (C:=V0) (aW:=λ_=>[]) (AM (Mj _ v p w' _) ?_);have H:=H.ext h';have S:=H.base;refine⟨_,qj S c v,?_⟩;unfold gy;cases l:aQ g v with
 |false=>exact aB rfl λw1 h1=>⟨rfl,h1⟩
 |true=>
  obtain⟨hv,x,hx⟩:=cm.1 l;have hc:=S.pv c (v:=v) ⟨by omega,hv.2⟩;have m:kW A g v.toNat=some ⟨(A v.toNat).bg,0,none⟩:=by unfold kW;rw[hx]
  rw[m] at hc;obtain⟨j1,n⟩:=B1 (hg _ _ hx _ Aq);obtain⟨r,d,a⟩:=(k _ _ hx).find p;have f:=H.get (j _ _ hx);refine an rfl ⟨rfl,rfl,⟨rfl,by omega⟩,aj.of _ hc ⟨rfl,rfl,S.cz j1 n rfl ?_⟩⟩;rw[hx,av rfl];dsimp only;have at0:Ext w' w':=Ext.refl _;have H0:=At.start [] w';cases h:cq x.tk p with
  |none=>
   rw[h] at a;refine⟨(0,0,()),false,⟨_, _, _,rfl,f,?_⟩,aN.go H0 λb o H0=>aC.all 0 H0 rfl rfl rfl λq H0=>⟨rfl,aj.cw 0 H0 rfl rfl (au.go H0 λt H0=>⟨rfl,H0.all⟩)⟩⟩;rw[d,a];exact⟨rfl,rfl⟩
  |some y=>
   rw[h] at a;obtain⟨i,e, _⟩:=a;refine⟨(y.1,y.2,()),true,⟨_, _, _,rfl,f,?_⟩,aN.go H0 λb o H0=>aC.all 0 H0 rfl rfl rfl λq H0=>⟨rfl,aj.cw 0 H0 rfl rfl (au.go H0 λt H0=>⟨rfl,H0.all⟩)⟩⟩;rw[d,e];exact⟨rfl,rfl⟩
end
section
variable {G:List Nat} {w0 w:A0}
theorem Si {bm bw n c:Nat} {ca la:Int} {ws:List Int} {rest:List AC} {L0:List (Nat×List AC)} (H:At G w0 w ((bm,mv bw n c ca la)::(bw,flat eW ws++rest)::L0)) (B:n=ws.length) (h0:0<n) (D:okW ws) (f p t:Int) {K:FT->A0->Prop}
 (k: ∀d w1,At G w0 w1 ((bm,mv bw n c d la)::(bw,flat eW ws++rest)::L0)->K (mM ws f p t) w1):
 aA A2 223 (.el (.agg sF)) [ah (ae bm),aa f,aa p,aa t] w K:=by
 refine aA.go H λw1 H=>aS (C:=M1) (aW:=wc) (AM (Ve _ f p t w1 K) ?_);refine aN.go H λb S H=>Je H f p t (λhb E H=>?_) λhb bk E H=>?_
 ·have e:mM ws f p t=(0,0,0,1,()):=av hb;rw[e] at k;exact aB rfl (aC.all 0 H rfl rfl rfl λr H=>au.go H λv H=>aj.at 0 H rfl rfl (k ca v (H.sub (BW _ _))))
 have e:mM ws f p t=(fO ws f p t 4).2.2:=ao (by rw[hb];decide);rw[e] at k;refine an rfl ⟨λq _ w'=> ∃(i:Nat) (Ls:List (Nat×List AC)) (s:Option AJ×Nat×Nat) (xs:List Int) (d:Int),q+i=4/\i<=3/\(fO ws f p t i).2.1≠ -1/\xs.length=i/\B7 Ls s xs/\
  At G w0 w' ((bk,l9 (fO ws f p t i).1 p t (fO ws f p t i).2.1 (fO ws f p t i).2.2 s)::(bm,mv bw n c d la)::(bw,flat eW ws++rest)::(Ls++((b,[aa 0,aa 0,aa 0,aa 0])::L0))),⟨4,λr F=>⟨0,[],(none,0,0),[],ca,rfl,by decide,(show(3:Int)≠ -1 by decide),rfl,.inl ⟨rfl,rfl,rfl⟩,(H.ext F).perm ?_⟩⟩,?_⟩
 ·exact .cons _ (Dh (l₁:=[(bm,mv bw n c ca la),(bw,flat eW ws++rest)]) (l₂:=[(b,[aa 0,aa 0,aa 0,aa 0])]) |>.append_right L0)
 clear H;rintro q u r ⟨i,Ls,s,xs,d,T,U,I,J,L,H⟩;dsimp only;refine Eg H L (by omega) B h0 D I λv h s' M H=>?_;have es:bD ws p t ((fO ws f p t i).1,(fO ws f p t i).2.1,(fO ws f p t i).2.2)=fO ws f p t (i+1):=rfl;rw[es] at H ⊢;by_cases g:(fO ws f p t (i+1)).2.1= -1
 ·have N:fO ws f p t 4=fO ws f p t (i+1):=by
   have:=xE g (4 - (i+1));rw[show i+1+(4 - (i+1))=4 by omega] at this;exact this
  rw[N] at k;generalize fO ws f p t (i+1)=y at H g k;obtain⟨z,A,⟨j,l,m,o,V⟩⟩:=y;refine an (by rw[g];rfl) ⟨rfl,rfl,aj.cw (x:=(j,l,m,o,())) 0 H rfl rfl ?_⟩;have H:=H.perm (L':=(b,[aa 0,aa 0,aa 0,aa 0])::((bk,l9 z p t A (j,l,m,o,()) s')::(bm,mv bw n c (xr ws (ee (fO ws f p t i).1 p (fO ws f p t i).2.1) d) la)::(bw,flat eW ws++rest)::(h++L0))) (by
   refine(B3 (l₁:=[(bk,l9 z p t A (j,l,m,o,()) s'),(bm,mv bw n c (xr ws (ee (fO ws f p t i).1 p (fO ws f p t i).2.1) d) la),(bw,flat eW ws++rest)]++h) (a:=(b,[aa 0,aa 0,aa 0,aa 0])) (l₂:=L0)).symm)
  refine aC.all 0 H rfl rfl rfl λO H=>au.go H λP H=>aj.at 0 H rfl rfl (k (xr ws (ee (fO ws f p t i).1 p (fO ws f p t i).2.1) d) P ?_);have H:=(H.sub (BW _ _)).sub (BW _ _);exact H.sub (.cons_cons _ (.cons_cons _ (FG _ _)))
 ·have Q:=(Xz ws f p t (i+1)).resolve_left g;refine aB (by simp[g]) λO R=>⟨q - 1,by omega,i+1,h,s',xs++[(fO ws f p t i).1], _,by omega,Q.2,g,by rw[GF,J];rfl,M,H.ext R⟩
theorem ME {bm bw n c:Nat} {ca la:Int} {ws:List Int} {rest:List AC} {L:List (Nat×List AC)} (H:At G w0 w L) (j b:Nat) (d:L[j]? =some (bm,mv bw n c ca la)) (e:L[b]? =some (bw,flat eW ws++rest)) (g:j≠b) (h:n=ws.length) (h0:0<n) (i:okW ws) (f p t:Int) {K:FT->A0->Prop}
 (k: ∀a w1,At G w0 w1 (L.set j (bm,mv bw n c a la))->K (mM ws f p t) w1):
 aA A2 223 (.el (.agg sF)) [ah (ae bm),aa f,aa p,aa t] w K:=by
 obtain⟨o,l,m⟩:=ZW d e g;exact Si (H.perm l.symm) h h0 i f p t λa w1 H=>k a w1 (H.perm (m _))
end
section
variable {D G:List Nat} {w0 w w':A0} {L:List (Nat×List AC)}
end
section
variable {Q:Sys} {D G:List Nat} {w0 w:A0} {s:WD} {L0:List (Nat×List AC)}
namespace a9
theorem abH (S:a9 Q D G w0 w s L0) {K:Option AJ->A0->Prop}
 (k: ∀a b d e c,a9 Q D G w0 c s ((a,[.slice (ae b) s.2.length d])::(b,flat eD s.2++e)::L0)->K (ae a) c):
 aA A2 54 (.el (.one .ptr)) [ah (ae Q.bp)] w K:=by
 refine S.go λw1 S=>?_;obtain⟨h1,f,g,h,ca,la,H⟩:=S;refine VB H (H.get (i:=3) rfl) (H.get (i:=2) rfl) rfl f g λa b d e c H=>k a b d e c ⟨h1,f,g,h,ca,la,H.perm ?_⟩;exact Dh (l₁:=[_, _, _, _]) (l₂:=[(a, _),(b, _)]) |>.append_right L0
theorem ofq (S:a9 Q D G w0 w s L0) (f:Int):af A2 25 [ah (ae Q.bp),aa f] w ((Sh.bA [eD,.one .bool]).iu (qI s.2 f,Ag s.2 f,())):=by
 obtain⟨h1,a,b,c,ca,la,H⟩:=S;exact acp H 3 2 rfl rfl rfl f
theorem F5 (S:a9 Q D G w0 w s L0) (f:Int) {K:Int->A0->Prop} (k: ∀a,a9 Q D G w0 a (s.1,dH s.2 f (aP 0 0)) L0->K (vB s.2 f (aP 0 0)) a):
 aA A2 79 (.el (.one (.int .i64))) [ah (ae Q.bp),aa f] w K:=by
 obtain⟨h1,b,c,d,ca,la,H⟩:=S;refine VN H 3 2 rfl rfl (by decide) rfl b c f λa H=>k a ⟨h1,?_,?_,d,ca,la,?_⟩
 ·show 0<(dH s.2 f (aP 0 0)).length;rw[jq];exact b
 ·show(dH s.2 f (aP 0 0)).length<=4096;rw[jq];exact c
 ·unfold Sys.L;show aM D G w0 a (_:: _:: _::(Q.bp,[.slice _ (dH s.2 f (aP 0 0)).length _]):: _);rw[jq];exact H
theorem aaQ (S:a9 Q D G w0 w s L0) (f x:Int) (hx: -9223372036854775808<=x/\x<9223372036854775808) {K:Int->A0->Prop} (k: ∀a,a9 Q D G w0 a (s.1,dH s.2 f (iv x)) L0->K (vB s.2 f (iv x)) a):
 aA A2 183 (.el (.one (.int .i64))) [ah (ae Q.bp),aa f,aa x] w K:=by
 obtain⟨h1,b,c,d,ca,la,H⟩:=S;refine VM H 3 2 rfl rfl (by decide) rfl b c f x hx λa H=>k a ⟨h1,?_,?_,d,ca,la,?_⟩
 ·show 0<(dH s.2 f (iv x)).length;rw[jq];exact b
 ·show(dH s.2 f (iv x)).length<=4096;rw[jq];exact c
 ·unfold Sys.L;show aM D G w0 a (_:: _:: _::(Q.bp,[.slice _ (dH s.2 f (iv x)).length _]):: _);rw[jq];exact H
theorem owned (S:a9 Q D G w0 w s L0) (v:Int) {K:Option AJ×Nat×Nat->A0->Prop} (k: ∀r rows a,a9 Q D G w0 a s (L0++rows)->oq eI rows r ((fY s.2 v).map λi=>((i:Nat):Int))->K r a):
 aA A2 166 (.el (.one .slice)) [ah (ae Q.bp),aa v] w K:=by
 obtain⟨h1,c,b,d,ca,la,H⟩:=S;exact RZ H 3 2 rfl rfl rfl b v λr rows a H e=>k r rows a ⟨h1,c,b,d,ca,la,H⟩ e
theorem walk (S:a9 Q [] G w0 w s L0) (f p t:Int) {K:FT->A0->Prop} (k: ∀w1,a9 Q [] G w0 w1 s L0->K (mM s.1 f p t) w1):
 aA A2 223 (.el (.agg sF)) [ah (ae Q.bm),aa f,aa p,aa t] w K:=by
 obtain⟨h1,b,c,a,ca,la,H⟩:=S;exact ME H 0 1 rfl rfl (by decide) rfl h1 a f p t λd w1 H=>k w1 ⟨h1,b,c,a,d,la,H⟩
end a9
end
set_option maxRecDepth 100000
open Go.RX D
def f_ (g:Nat->Option GV) (s:WD) (v p:Int):Int×Int×Int×Unit:=if aQ g v=true then(match g v.toNat with
 |some x=>bz s x.root false p
 |none=>(0,0,4,())) else(0,0,4,())
def jB (s:WD) (f:Int):Int:=if Ag s.2 f=false then 2 else if(qI s.2 f).1≠5 then 6 else vB s.2 f (aP 0 0)
def fQ (s:WD) (f:Int):WD:=if Ag s.2 f=true/\(qI s.2 f).1=5 then(s.1,dH s.2 f (aP 0 0)) else s
section
variable {Q:Sys} {X:HX} {D G:List Nat} {w0 w:A0} {s:WD} {L0:List (Nat×List AC)} {M:List (Nat×Bx)} {A:Nat->GA} {g:Nat->Option GV}
theorem vl (S:a9 Q D G w0 w s L0) (b:(X.hb,fe Q X A g)∈L0) (hg: ∀i v,g i=some v-> ∀x∈ia Q A i v,x∈L0) (v p:Int) {K:Int×Int×Int×Unit->A0->Prop} (k: ∀a,a9 Q D G w0 a s L0->K (f_ g s v p) a):
 aA A2 81 (.bA [.one (.int .i64),.one (.int .i64),.one (.int .i64)]) [ah (ae X.hb),aa v,aa p] w K:=by
 refine S.go λw1 S=>ai (C:=V0) (aW:=λ_=>[]) (AM (Mi _ v p w1 K) ?_);refine⟨_,m9 S b,an rfl ⟨_,qj S b v,?_⟩⟩;unfold f_ at k;cases c:aQ g v with
 |false=>
  rw[c,ao (by decide)] at k;exact aB rfl (S.en λa S=>k a S)
 |true=>
  obtain⟨hv,x,hx⟩:=cm.1 c;rw[c,av rfl,hx] at k;have hc:=S.pv b (v:=v) ⟨by omega,hv.2⟩;have d:kW A g v.toNat=some ⟨(A v.toNat).bg,0,none⟩:=by unfold kW;rw[hx]
  rw[d] at hc;obtain⟨j1,e⟩:=B1 (hg _ _ hx _ Aq);obtain⟨f,h⟩:=B1 (hg _ _ hx _ (Ar _ Aq));refine an rfl ⟨rfl,rfl,⟨rfl,by omega⟩,aj.of _ hc ⟨rfl,rfl,S.cz j1 e rfl (S.query f h p λa S=>S.en λj S=>k j S)⟩⟩
theorem Ey (S:a9 Q D G w0 w s L0) (j:(X.hb,fe Q X A g)∈L0) (f:Int) {K:Int->A0->Prop} (k: ∀l,a9 Q D G w0 l (fQ s f) L0->K (jB s f) l):
 aA A2 43 (.el (.one (.int .i64))) [ah (ae X.hb),aa f] w K:=by
 refine S.go λw1 S=>ai (C:=V0) (aW:=λ_=>[]) (AM (R6 _ f w1 K) ?_);refine⟨_,m9 S j,an rfl ⟨rfl,rfl,aj.of _ (S.fK j (n:=1) rfl) ⟨(qI s.2 f,Ag s.2 f,()),S.ofq f,S.al λb l S=>S.fh 0 rfl rfl rfl λq S=>?_⟩⟩⟩;have m: ∀x:Nat×List AC,(X.hb,fe Q X A g)∈x::L0:=λx=>Ar _ j;cases e:Ag s.2 f with
 |false=>
  have a:fQ s f=s:=ao (λh=>by rw[e] at h;cases h.1);have c:jB s f=2:=av e;rw[a,c] at k;exact aB rfl (S.en λi S=>k i S.tail)
 |true=>
  have o: ¬ Ag s.2 f=false:=by rw[e];decide
  refine an rfl ⟨rfl,S.cz 0 rfl rfl ?_⟩;by_cases d:(qI s.2 f).1=5
  ·have a:fQ s f=(s.1,dH s.2 f (aP 0 0)):=av ⟨e,d⟩;have c:jB s f=vB s.2 f (aP 0 0):=by
    unfold jB;grind
   rw[a,c] at k;exact an (by simpa using d) ⟨rfl,rfl,aj.of _ (S.fK (m _) (n:=1) rfl) (S.F5 f λi S=>S.en λp S=>k p S.tail)⟩
  ·have a:fQ s f=s:=ao (λh=>d h.2);have c:jB s f=6:=by
    unfold jB;rw[ao o,av d]
   rw[a,c] at k;exact aB (by simpa using d) (S.en λi S=>k i S.tail)
theorem zL (S:a9 Q D G w0 w s L0) (f:(X.hb,fe Q X A g)∈L0) {K:Option AJ->A0->Prop} (k: ∀h i j l e,a9 Q D G w0 e s ((h,[.slice (ae i) s.2.length j])::(i,flat eD s.2++l)::L0)->K (ae h) e):
 aA A2 18 (.el (.one .ptr)) [ah (ae X.hb)] w K:=by
 refine S.go λw1 S=>ai (AM (HA _ w1 K) ?_);exact⟨_,m9 S f,an rfl ⟨rfl,rfl,aj.of _ (S.fK f rfl) (S.abH λa b c d e S=>S.en (by grind))⟩⟩
theorem zM (S:a9 Q D G w0 w s L0) (a:(X.hb,fe Q X A g)∈L0) {K:Option AJ->A0->Prop} (k: ∀b,a9 Q D G w0 b s L0->K (ae Q.bm) b):
 aA A2 23 (.el (.one .ptr)) [ah (ae X.hb)] w K:=by
 refine S.go λw1 S=>ai (AM (HD _ w1 K) ?_);exact⟨_,m9 S a,an rfl ⟨rfl,rfl,aj.of _ (S.fK a rfl) (S.en λc S=>k c S)⟩⟩
end
structure Yr (A:Nat->GA) (g:Nat->Option GV) (A':Nat->GA) (g':Nat->Option GV):Prop where
 bg: ∀i,(A' i).bg=(A i).bg
 bt: ∀i,(A' i).bt=(A i).bt
 bm: ∀i,(A' i).bm=(A i).bm
 rt: ∀i,(g' i).map GV.root=(g i).map GV.root
section
variable {A A':Nat->GA} {g g':Nat->Option GV} {Q:Sys} {X:HX}
theorem Yr.ptr (h:Yr A g A' g'):kW A' g'=kW A g:=by
 funext i;have:=h.rt;have hb:=h.bg;unfold kW
 grind
theorem Yr.cs (h:Yr A g A' g'):fe Q X A' g'=fe Q X A g:=by
 unfold fe sg;rw[h.ptr]
theorem Yr.rows (h:Yr A g A' g') (l:List Nat):bj Q A' g' l=bj Q A g l:=by
 unfold bj;congr;funext i;have:=h.rt i;cases h1:g' i<;>cases a:g i<;>rw[h1,a] at this<;>simp at this
 ·dsimp;unfold ia;rw[h.bg,h.bt,h.bm,this]
theorem mr {i:Nat} {v:GV} (hi:i<17) (hv:g i=some v):(dy A g (AF 17)).Perm (((A i).bm,Obj.map ⟨(A i).es⟩ (A i).ck)::dy A g ((AF 17).erase i)):=by
 unfold dy;refine(Fk _ (FH (DV.2 hi))).trans ?_
 simp_all
theorem wy {i:Nat} {v:GV} (hi:i<17) (hv:g i=some v):(bj Q A g (AF 17)).Perm (ia Q A i v++bj Q A g ((AF 17).erase i)):=by
 unfold bj;refine(Fk _ (FH (DV.2 hi))).trans ?_
 simp_all
theorem zN {i:Nat} (hi:i<17) (hv:g i=none):(dy A g (AF 17)).Perm (dy A g ((AF 17).erase i)):=by
 unfold dy;refine(Fk _ (FH (DV.2 hi))).trans ?_
 simp_all
theorem zO {i:Nat} (hi:i<17) (hv:g i=none):(bj Q A g (AF 17)).Perm (bj Q A g ((AF 17).erase i)):=by
 unfold bj;refine(Fk _ (FH (DV.2 hi))).trans ?_
 simp_all
theorem gL {α β:Type} {f f':α->List β}: ∀{l:List α},(∀x∈l,f x=f' x)->l.flatMap f=l.flatMap f'
 |[], _=>rfl
 |x::l,h=>by
  rw[IR,IR,h x (by grind),gL λy a=>h y (by grind)]
theorem PK {i j:Nat} (h:j∈(AF 17).erase i):j≠i:=λe=>by
 subst e;exact List.nodup_range.not_mem_erase h
theorem pU {i:Nat} (h: ∀j,j≠i->A' j=A j/\g' j=g j):dy A' g' ((AF 17).erase i)=dy A g ((AF 17).erase i):=by grind[dy,gL,PK]
theorem wz {i:Nat} (h: ∀j,j≠i->A' j=A j/\g' j=g j):bj Q A' g' ((AF 17).erase i)=bj Q A g ((AF 17).erase i):=by grind[bj,gL,PK,ia]
end
def oV (A:Nat->GA) (i:Nat) (x:GA):Nat->GA:=λj=>if j=i then x else A j
def a_ (g:Nat->Option GV) (i:Nat) (x:Option GV):Nat->Option GV:=λj=>if j=i then x else g j
theorem qA (A:Nat->GA) (i:Nat) (x:GA):oV A i x i=x:=av rfl
theorem fH (g:Nat->Option GV) (i:Nat) (x:Option GV):a_ g i x i=x:=av rfl
theorem BE (A:Nat->GA) (g:Nat->Option GV) (i:Nat) (x:GA) (y:Option GV): ∀j,j≠i->oV A i x j=A j/\a_ g i y j=g j:=λ_ h=>⟨ao h,ao h⟩
theorem Jw {A:Nat->GA} {g:Nat->Option GV} {i:Nat} {v:GV} (hv:g i=some v) (es:List B4) (ck:Nat) (tk:List TK):Yr A g (oV A i {A i with es:=es,ck:=ck}) (a_ g i (some {v with tk:=tk})):=by
 refine⟨λj=>?_,λj=>?_,λj=>?_,λj=>?_⟩
 ·unfold oV;grind
 ·unfold oV;grind
 ·unfold oV;grind
 ·unfold a_;grind
theorem SM.PL {Q:Sys} {D G:List Nat} {w0 w:A0} {s:WD} {L0:List (Nat×List AC)} {A:Nat->GA} {g:Nat->Option GV} (H:SM Q D G w0 w s L0 (dy A g (AF 17))) {i:Nat} {v:GV} (hi:i<17) (hv:g i=some v) (es:List B4) (ck:Nat) (tk:List TK):
 SM Q D G w0 (w.putObj (A i).bm (.map ⟨es⟩ ck)) s L0 (dy (oV A i {A i with es:=es,ck:=ck}) (a_ g i (some {v with tk:=tk})) (AF 17)):=by
 have a:=(H.lE (mr hi hv).symm).put (i:=0) rfl (o':= .map ⟨es⟩ ck) trivial;refine a.lE ((mr hi (fH _ _ _)).trans ?_);rw[pU (BE A g i _ _),qA];simp
section
variable {Q:Sys} {X:HX} {D G:List Nat} {w0 w:A0} {s:WD} {L0:List (Nat×List AC)} {bg br bp c:Nat} {gs:List GT} {rest:List AC} {room:Int} {ps:List Po.PT}
namespace a9
theorem V3 (S:a9 Q D G w0 w s L0) (j b:Nat) (e:L0[j]? =some (bg,mK br gs.length c)) (f:L0[b]? =some (br,flat eG gs++rest)) (h0:0<gs.length) (i o:Int) {K:Int->A0->Prop}
 (k: ∀a,a9 Q D G w0 a s (L0.set b (br,flat eG (j9 gs i o)++rest))->K (qY gs i o) a):
 aA A2 184 (.el (.one (.int .i64))) [ah (ae bg),aa i,aa o] w K:=by
 obtain⟨h1,g,h,l,ca,la,d⟩:=S;exact Hj d (j+4) (b+4) e f h0 i o λa d=>k a ⟨h1,g,h,l,ca,la,d⟩
theorem abI (S:a9 Q D G w0 w s L0) (j d:Nat) (f:L0[j]? =some (bg,mK br gs.length c)) (h:L0[d]? =some (br,flat eG gs++rest)) (h0:0<gs.length) (l: ∀x∈gs,0<=x.2.2.2.2.1/\x.2.2.2.2.1<=1000) (i g:Int) (b:Bool) {K:Int->A0->Prop}
 (k: ∀a,a9 Q D G w0 a s (L0.set d (br,flat eG (dK gs i g b)++rest))->K (iq gs i g b) a):
 aA A2 181 (.el (.one (.int .i64))) [ah (ae bg),aa i,aa g,.bool b] w K:=by
 obtain⟨h1,m,n,o,ca,la,e⟩:=S;exact Rj e (j+4) (d+4) f h h0 l i g b λa e=>k a ⟨h1,m,n,o,ca,la,e⟩
theorem XD (S:a9 Q D G w0 w s L0) (j b:Nat) (e:L0[j]? =some (bg,mK br gs.length c)) (f:L0[b]? =some (br,flat eG gs++rest)) (h0:0<gs.length) (h: ∀x∈gs,0<=x.2.2.2.2.1/\x.2.2.2.2.1<=1000) (i g:Int) {K:Int->A0->Prop}
 (k: ∀a,a9 Q D G w0 a s (L0.set b (br,flat eG (dS gs i g)++rest))->K (mH gs i g) a):
 aA A2 182 (.el (.one (.int .i64))) [ah (ae bg),aa i,aa g] w K:=by
 obtain⟨h1,l,m,n,ca,la,d⟩:=S;exact Rk d (j+4) (b+4) e f h0 h i g λa d=>k a ⟨h1,l,m,n,ca,la,d⟩
theorem aab (S:a9 Q D G w0 w s L0) (j d:Nat) (f:L0[j]? =some (bg,mK br gs.length c)) (g:L0[d]? =some (br,flat eG gs++rest)) (h0:0<gs.length) (h:gs.length<=64) (o q t:Int) (b:Bool) {K:Int×Int×Unit->A0->Prop}
 (k: ∀a,a9 Q D G w0 a s (L0.set d (br,flat eG (jh gs o q t b)++rest))->K (kK gs o q t,lF gs o q t,()) a):
 aA A2 180 (.bA [.one (.int .i64),.one (.int .i64)]) [ah (ae bg),aa o,aa q,aa t,.bool b] w K:=by
 obtain⟨h1,i,l,m,ca,la,e⟩:=S;exact LA e (j+4) (d+4) f g h0 h o q t b λa e=>k a ⟨h1,i,l,m,ca,la,e⟩
theorem abJ (S:a9 Q D G w0 w s L0) (j a:Nat) (e:L0[j]? =some (bg,mK br gs.length c)) (f:L0[a]? =some (br,flat eG gs++rest)) (h0:0<gs.length) (h:gs.length<=64) (o:j≠a) (g:Int) {K:Int->A0->Prop}
 (k: ∀n b,a9 Q D G w0 b s (L0.set a (br,flat eG (cP gs g)++rest))->K n b):
 aA A2 169 (.el (.one (.int .i64))) [ah (ae bg),aa g] w K:=by
 obtain⟨h1,i,l,m,ca,la,d⟩:=S;exact Rm d (j+4) (a+4) e f h0 h (by omega) g λn b d=>k n b ⟨h1,i,l,m,ca,la,d⟩
theorem aaR (S:a9 Q D G w0 w s L0) (j a:Nat) (b:L0[j]? =some (bg,mK br gs.length c)) (d:L0[a]? =some (br,flat eG gs++rest)) (h0:0<gs.length) (i:Int):
 af A2 176 [ah (ae bg),aa i] w ((Sh.bA [eG,.one .bool]).iu (wZ gs i,(l_ gs i).isSome,())):=
 af.of λw' h'=>ZV ((S.get b).ext h') ((S.get d).ext h') h0 i
theorem abK (S:a9 Q D G w0 w s L0) (j:Nat) (c:L0[j]? =some (bp,Po.gW room ps)) (hs:Po.okS room ps) (g r:Int) {K:Int×Int×Unit->A0->Prop}
 (k: ∀a,a9 Q D G w0 a s (L0.set j (bp,Po.gW room (Po.ji room ps g r).2))->K ((Po.ji room ps g r).1.1,(Po.ji room ps g r).1.2,()) a):
 aA A2 185 (.bA [.one (.int .i64),.one (.int .i64)]) [ah (ae bp),aa g,aa r] w K:=by
 obtain⟨h1,d,e,f,ca,la,b⟩:=S;exact Po.Rn b (j+4) c hs g r λa b=>k a ⟨h1,d,e,f,ca,la,b⟩
theorem pbind (S:a9 Q D G w0 w s L0) (j:Nat) (c:L0[j]? =some (bp,Po.gW room ps)) (hs:Po.okS room ps) (g r i:Int) {K:Int×Int×Unit->A0->Prop}
 (k: ∀a,a9 Q D G w0 a s (L0.set j (bp,Po.gW room (Po.iB room ps g r i).2))->K ((Po.iB room ps g r i).1.1,(Po.iB room ps g r i).1.2,()) a):
 aA A2 186 (.bA [.one (.int .i64),.one (.int .i64)]) [ah (ae bp),aa g,aa r,aa i] w K:=by
 obtain⟨h1,d,e,f,ca,la,b⟩:=S;exact Po.Ro b (j+4) c hs g r i λa b=>k a ⟨h1,d,e,f,ca,la,b⟩
theorem abL (S:a9 Q D G w0 w s L0) (j:Nat) (c:L0[j]? =some (bp,Po.gW room ps)) (d:Po.ma room ps) (g i:Int) {K:Int->A0->Prop}
 (k: ∀a,a9 Q D G w0 a s (L0.set j (bp,Po.gW room (Po.lG room ps g i).2))->K (Po.lG room ps g i).1 a):
 aA A2 187 (.el (.one (.int .i64))) [ah (ae bp),aa g,aa i] w K:=by
 obtain⟨h1,e,f,h,ca,la,b⟩:=S;exact Po.Rq b (j+4) c d g i λa b=>k a ⟨h1,e,f,h,ca,la,b⟩
theorem aac (S:a9 Q D G w0 w s L0) (j:Nat) (c:L0[j]? =some (bp,Po.gW room ps)) (d:Po.ma room ps) (g i:Int) {K:Int->A0->Prop}
 (k: ∀a,a9 Q D G w0 a s (L0.set j (bp,Po.gW room (Po.eM room ps g i).2))->K (Po.eM room ps g i).1 a):
 aA A2 189 (.el (.one (.int .i64))) [ah (ae bp),aa g,aa i] w K:=by
 obtain⟨h1,e,f,h,ca,la,b⟩:=S;exact Po.Bm b (j+4) c d g i λa b=>k a ⟨h1,e,f,h,ca,la,b⟩
theorem abM (S:a9 Q D G w0 w s L0) (j:Nat) (c:L0[j]? =some (bp,Po.gW room ps)) (hs:Po.okS room ps) (g:Int) {K:Int×Bool×Unit->A0->Prop}
 (k: ∀a,a9 Q D G w0 a s (L0.set j (bp,Po.gW room (Po.g_ room ps g).2))->K ((Po.g_ room ps g).1.1,(Po.g_ room ps g).1.2,()) a):
 aA A2 188 (.bA [.one (.int .i64),.one .bool]) [ah (ae bp),aa g] w K:=by
 obtain⟨h1,d,e,f,ca,la,b⟩:=S;exact Po.Rv b (j+4) c hs g λa b=>k a ⟨h1,d,e,f,ca,la,b⟩
theorem abN (S:a9 Q D G w0 w s L0) (j:Nat) (c:L0[j]? =some (bp,Po.gW room ps)) (d:Po.ma room ps) (g:Int) {K:Int->A0->Prop}
 (k: ∀a,a9 Q D G w0 a s (L0.set j (bp,Po.gW room (Po.cG room ps g).2))->K (Po.cG room ps g).1 a):
 aA A2 170 (.el (.one (.int .i64))) [ah (ae bp),aa g] w K:=by
 obtain⟨h1,e,f,h,ca,la,b⟩:=S;exact Po.Rz b (j+4) c d g λa b=>k a ⟨h1,e,f,h,ca,la,b⟩
theorem res (S:a9 Q D G w0 w s L0) {j b:Nat} {d f:AC} (c:L0[j]? =some (b,[d,f])) (v e:Int) {K:RS->A0->Prop} (k: ∀a,a9 Q D G w0 a s (L0.set j (b,[ax v,aa e]))->K (v,e,()) a):
 aC w (ae b) [ax v,aa e] λa=>au a λw1=>aj w1 none (ae b) (.agg iW) λx=>K (x.1,x.2.1,()) w1:=by
 have g:=(Ci.1 c).1;refine S.fh j c rfl rfl λa S=>S.en λh S=>?_;exact S.ld j (Dx g) rfl (k h S)
end a9
end
def yx (h:HS) (gr:List GT):HS:={h with gr:=gr}
def AX (h:HS) (po:List Po.PT):HS:={h with po:=po}
def bq (h:HS) (s:WD):HS:={h with s:=s}
abbrev ik (k a b c:Int):List AC:=[aa k,ax a,ax b,ax c]
theorem zf (gs:List GT) (i o:Int):(j9 gs i o).length=gs.length:=by grind[j9]
def CM (h:HS) (v a:Int):Int:=if a>=16 then 1 else qY h.gr a v
def eY (h:HS) (v a:Int):HS:=if a>=16 then h else yx h (j9 h.gr a v)
section
variable {Q:Sys} {X:HX} {D G:List Nat} {w0 w:A0} {h:HS} {L:List (Nat×List AC)} {K:RS->A0->Prop}
theorem MF (H:jz Q X D G w0 w h L) (v k:Int) {a:Int} (b c:Int) (m:0<=a) (kk: ∀f,jz Q X D G w0 f (eY h v a) L->K (0,CM h v a,()) f):
 aE A2 132 (.el (.agg iW)) [ah (ae X.hb),aa v,.agg ⟨ik k a b c⟩] w K:=by
 obtain⟨A,W,H⟩:=H;obtain⟨o,S,J⟩:=H.call;refine aS (C:=V0) (aW:=λ_=>[]) (AM (Fc _ v k a b c w K) ?_);refine S.al λp f S=>S.al λq r S=>⟨rfl,S.cz 1 rfl rfl ?_⟩;unfold CM eY at kk;refine ab (λd=>⟨trivial,S.res (j:=0) rfl 0 1 λi S=>?_⟩) (λd=>?_)
 ·rw[av (by simpa using d),av (by simpa using d)] at kk;exact kk i ⟨A,W,J (S.tail.tail)⟩
 ·have d: ¬ a>=16:=by simpa using d
  rw[ao d,ao d] at kk;refine⟨rfl,rfl,aj.of _ (S.fK (X:=X) (A:=A) (g:=h.g) (by simp) (n:=2) rfl) ⟨rfl,S.cz 1 rfl rfl ?_⟩⟩;rw[bP ⟨m,by omega⟩];refine S.V3 3 4 rfl rfl (by rw[W.gl];decide) a v λi S=>⟨trivial,S.res (j:=0) rfl 0 _ λl S=>kk l ⟨A,⟨W.jy,W.mp,(zf _ _ _).trans W.gl,W.pt,W.gk.rev _ _⟩,J ?_⟩⟩;have S:=S.tail.tail;have e:(j9 h.gr a v).length=h.gr.length:=zf _ _ _;show a9 Q [] o w l h.s ((X.hb,fe Q X A h.g)::(X.gb,mK X.uI (j9 h.gr a v).length X.c):: _);rw[e];exact S
end
set_option maxRecDepth 100000
open Go.RX D
def OY (h:HS) (v a:Int):Int:=if a>=4 then 1 else(Po.lG 4 h.po v a).1
def kN (h:HS) (v a:Int):HS:=if a>=4 then h else AX h (Po.lG 4 h.po v a).2
def Gu (h:HS) (v a:Int):Int:=if a>=4 then 1 else(Po.eM 4 h.po v a).1
def ir (h:HS) (v a:Int):HS:=if a>=4 then h else AX h (Po.eM 4 h.po v a).2
def OZ (h:HS) (v:Int):Int:=if(Po.g_ 4 h.po v).1.2=true then(Po.g_ 4 h.po v).1.1+1 else 0
def O0 (h:HS) (v:Int):HS:=AX h (Po.g_ 4 h.po v).2
def IL (h:HS) (v a:Int):Int×Int:=if dp h.g v a=0 then(Po.ji 4 h.po v a).1 else(0,dp h.g v a)
def kO (h:HS) (v a:Int):HS:=if dp h.g v a=0 then AX h (Po.ji 4 h.po v a).2 else h
def IM (h:HS) (v a b:Int):Int×Int:=if dp h.g v a=1\/b>=4 then(0,1) else if dp h.g v a=0 then(Po.iB 4 h.po v a b).1 else(0,dp h.g v a)
def kQ (h:HS) (v a b:Int):HS:=if dp h.g v a=1\/b>=4 then h else if dp h.g v a=0 then AX h (Po.iB 4 h.po v a b).2 else h
theorem vn {g:Nat->Option GV} {v a:Int} (h:dp g v a≠1):1<=a/\a<=16:=by grind[dp]
theorem dU {a:Int} (h:0<=a/\a<18446744073709551616):aJ .u64 a=a:=by
 unfold aJ;simp only[IntKind.wrap,IntKind.bits,IntKind.signed]
 grind
theorem Sj {ps:List Po.PT} {g:Int} (h:(Po.g_ 4 ps g).1.2=true):0<=(Po.g_ 4 ps g).1.1/\(Po.g_ 4 ps g).1.1<4:=by
 grind[Po.g_,Po.pk,Aq]
theorem V4 {ps:List Po.PT} {g:Int} {x:Po.PT} (hg:Po.gI g=true):0<=(Po.dR 4 ps g x).1.1/\(Po.dR 4 ps g x).1.1<4:=by
 unfold Po.dR;split
 grind
 ·rename_i a;have:=(Po.fo.1 (Po.m7 hg a).1).2
  grind
theorem Sk (ps:List Po.PT) (g r:Int):0<=(Po.ji 4 ps g r).1.1/\(Po.ji 4 ps g r).1.1<4:=by
 unfold Po.ji;split
 ·rename_i a;exact V4 (Po.qh.1 a).1
 simp
section
variable {Q:Sys} {X:HX} {D G:List Nat} {w0 w:A0} {h:HS} {L:List (Nat×List AC)} {K:RS->A0->Prop}
theorem V5 (H:jz Q X D G w0 w h L) (v k:Int) {a:Int} (b c:Int) (i:0<=a) (kk: ∀e,jz Q X D G w0 e (kN h v a) L->K (0,OY h v a,()) e):
 aE A2 135 (.el (.agg iW)) [ah (ae X.hb),aa v,.agg ⟨ik k a b c⟩] w K:=by
 obtain⟨A,W,H⟩:=H;obtain⟨m,S,J⟩:=H.call;refine aS (C:=V0) (aW:=λ_=>[]) (AM (Mw _ v k a b c w K) ?_);refine S.al λo e S=>S.al λp q S=>⟨rfl,S.cz 1 rfl rfl ?_⟩;unfold OY kN at kk;refine ab (λd=>⟨trivial,S.res (j:=0) rfl 0 1 λf S=>?_⟩) (λd=>?_)
 ·rw[av (by simpa using d),av (by simpa using d)] at kk;exact kk f ⟨A,W,J (S.tail.tail)⟩
 ·have d: ¬ a>=4:=by simpa using d
  rw[ao d,ao d] at kk;refine⟨rfl,rfl,aj.of _ (S.fK (X:=X) (A:=A) (g:=h.g) (by simp) (n:=3) rfl) ⟨rfl,S.cz 1 rfl rfl ?_⟩⟩;rw[bP ⟨i,by omega⟩];exact S.abL 5 rfl W.pt v a λf S=>⟨trivial,S.res (j:=0) rfl 0 _ λl S=>kk l ⟨A,⟨W.jy,W.mp,W.gl,W.pt.lG v a,W.gk⟩,J (S.tail.tail)⟩⟩
theorem Sm (H:jz Q X D G w0 w h L) (v k:Int) {a:Int} (b c:Int) (i:0<=a) (kk: ∀e,jz Q X D G w0 e (ir h v a) L->K (0,Gu h v a,()) e):
 aE A2 137 (.el (.agg iW)) [ah (ae X.hb),aa v,.agg ⟨ik k a b c⟩] w K:=by
 obtain⟨A,W,H⟩:=H;obtain⟨m,S,J⟩:=H.call;refine aS (C:=V0) (aW:=λ_=>[]) (AM (HJ _ v k a b c w K) ?_);refine S.al λo e S=>S.al λp q S=>⟨rfl,S.cz 1 rfl rfl ?_⟩;unfold Gu ir at kk;refine ab (λd=>⟨trivial,S.res (j:=0) rfl 0 1 λf S=>?_⟩) (λd=>?_)
 ·rw[av (by simpa using d),av (by simpa using d)] at kk;exact kk f ⟨A,W,J (S.tail.tail)⟩
 ·have d: ¬ a>=4:=by simpa using d
  rw[ao d,ao d] at kk;refine⟨rfl,rfl,aj.of _ (S.fK (X:=X) (A:=A) (g:=h.g) (by simp) (n:=3) rfl) ⟨rfl,S.cz 1 rfl rfl ?_⟩⟩;rw[bP ⟨i,by omega⟩];exact S.aac 5 rfl W.pt v a λf S=>⟨trivial,S.res (j:=0) rfl 0 _ λl S=>kk l ⟨A,⟨W.jy,W.mp,W.gl,W.pt.eM v a,W.gk⟩,J (S.tail.tail)⟩⟩
theorem V6 (H:jz Q X D G w0 w h L) (v k a b c:Int) (kk: ∀e,jz Q X D G w0 e (O0 h v) L->K (OZ h v,0,()) e):
 aE A2 136 (.el (.agg iW)) [ah (ae X.hb),aa v,.agg ⟨ik k a b c⟩] w K:=by
 obtain⟨A,W,H⟩:=H;obtain⟨o,S,J⟩:=H.call;refine aS (C:=V0) (aW:=λ_=>[]) (AM (Mx _ v k a b c w K) ?_);refine S.al λp e S=>S.al λq s S=>⟨rfl,rfl,aj.of _ (S.fK (X:=X) (A:=A) (g:=h.g) (by simp) (n:=3) rfl) ?_⟩;unfold OZ O0 at kk;have l:=λh'=>Sj (ps:=h.po) (g:=v) h';refine S.abM 5 rfl W.pt.tookS v λt S=>?_;obtain⟨r,m⟩: ∃r,r=Po.g_ 4 h.po v:=⟨_,rfl⟩;have f:=W.pt.g_ v;rw[<-m] at l kk S f ⊢;refine ab (λd=>S.res (j:=0) rfl 0 0 λi S=>?_) (λd=>?_)
 ·have d: ¬ r.1.2=true:=by simpa using d
  rw[ao d] at kk;exact kk i ⟨A,⟨W.jy,W.mp,W.gl,f,W.gk⟩,J (S.tail.tail)⟩
 ·have d:r.1.2=true:=by simpa using d
  rw[av d] at kk;have:=l d;rw[ay (by omega) (by omega),dU (by omega)];exact S.res (j:=0) rfl _ 0 λi S=>kk i ⟨A,⟨W.jy,W.mp,W.gl,f,W.gk⟩,J (S.tail.tail)⟩
theorem V7 (H:jz Q X D G w0 w h L) (v k:Int) {a:Int} (b c:Int) (i:0<=a) (kk: ∀f,jz Q X D G w0 f (kO h v a) L->K ((IL h v a).1,(IL h v a).2,()) f):
 aE A2 133 (.el (.agg iW)) [ah (ae X.hb),aa v,.agg ⟨ik k a b c⟩] w K:=by
 obtain⟨A,W,H⟩:=H;obtain⟨o,S,J⟩:=H.call;refine aS (C:=V0) (aW:=λ_=>[]) (AM (Mt _ v k a b c w K) ?_);refine S.al λp f S=>S.al λq r S=>⟨rfl,S.cz 1 rfl rfl ⟨_,ze S (X:=X) (A:=A) (g:=h.g) (by simp) v i,?_⟩⟩;unfold IL kO at kk;refine ab (λd=>⟨trivial,S.res (j:=0) rfl 0 _ λl S=>?_⟩) (λd=>?_)
 ·have d: ¬ dp h.g v a=0:=by simpa using d
  rw[ao d,ao d] at kk;exact kk l ⟨A,W,J (S.tail.tail)⟩
 ·have d:dp h.g v a=0:=by simpa using d
  rw[av d,av d] at kk;have s:=vn (g:=h.g) (v:=v) (a:=a) (by rw[d];decide);refine⟨rfl,rfl,aj.of _ (S.fK (X:=X) (A:=A) (g:=h.g) (by simp) (n:=3) rfl) ⟨rfl,S.cz 1 rfl rfl ?_⟩⟩;rw[bP ⟨i,by omega⟩];have t:=Sk h.po v a;refine S.abK 5 rfl W.pt.tookS v a λl S=>?_;have e:aJ .u64 (Po.ji 4 h.po v a).1.1=(Po.ji 4 h.po v a).1.1:=dU (by omega);dsimp only;rw[e];exact S.res (j:=0) rfl _ _ λm S=>kk m ⟨A,⟨W.jy,W.mp,W.gl,W.pt.ji v a,W.gk⟩,J (S.tail.tail)⟩
theorem Sn (ps:List Po.PT) (g r i:Int):0<=(Po.iB 4 ps g r i).1.1/\(Po.iB 4 ps g r i).1.1<4:=by
 unfold Po.iB;have z:(0:Int)<=0/\(0:Int)<4:=by decide
 split
 ·rename_i a;split
  ·exact z
  ·split
   ·exact z
   ·split
    ·exact z
    ·split
     ·exact z
     ·rename_i b;have:=(Po.fo.1 (Po.m7 (Po.qh.1 a).1 b).1).2;exact this
 grind
theorem V8 (H:jz Q X D G w0 w h L) (v k:Int) {a b:Int} (c:Int) (l:0<=a) (hb:0<=b) (kk: ∀i,jz Q X D G w0 i (kQ h v a b) L->K ((IM h v a b).1,(IM h v a b).2,()) i):
 aE A2 134 (.el (.agg iW)) [ah (ae X.hb),aa v,.agg ⟨ik k a b c⟩] w K:=by
 obtain⟨A,W,H⟩:=H;obtain⟨o,S,J⟩:=H.call;refine aS (C:=V0) (aW:=λ_=>[]) (AM (Mv _ v k a b c w K) ?_);refine S.al λp i S=>S.al λq r S=>⟨rfl,S.cz 1 rfl rfl ⟨_,ze S (X:=X) (A:=A) (g:=h.g) (by simp) v l,λ_=>rfl,S.cz 1 rfl rfl ?_⟩⟩;unfold IM kQ at kk;refine ab (λd=>⟨trivial,S.res (j:=0) rfl 0 _ λf S=>?_⟩) (λd=>?_)
 ·have d:dp h.g v a=1\/b>=4:=by simpa using d
  rw[av d,av d] at kk;exact kk f ⟨A,W,J (S.tail.tail)⟩
 have d: ¬ (dp h.g v a=1\/b>=4):=by
  grind
 rw[ao d,ao d] at kk;refine ab (λd=>⟨trivial,S.res (j:=0) rfl 0 _ λf S=>?_⟩) (λd2=>?_)
 ·have d: ¬ dp h.g v a=0:=by simpa using d
  rw[ao d,ao d] at kk;exact kk f ⟨A,W,J (S.tail.tail)⟩
 ·have d2:dp h.g v a=0:=by simpa using d2
  rw[av d2,av d2] at kk;have s:=vn (g:=h.g) (v:=v) (a:=a) (by rw[d2];decide);have t:b<4:=by omega
  refine⟨rfl,rfl,aj.of _ (S.fK (X:=X) (A:=A) (g:=h.g) (by simp) (n:=3) rfl) ⟨rfl,S.cz 1 rfl rfl ⟨rfl,S.cz 1 rfl rfl ?_⟩⟩⟩;rw[bP ⟨l,by omega⟩,bP ⟨hb,by omega⟩];have u:=Sn h.po v a b;refine S.pbind 5 rfl W.pt.tookS v a b λf S=>?_;have e:aJ .u64 (Po.iB 4 h.po v a b).1.1=(Po.iB 4 h.po v a b).1.1:=dU (by omega);dsimp only;rw[e];exact S.res (j:=0) rfl _ _ λm S=>kk m ⟨A,⟨W.jy,W.mp,W.gl,W.pt.iB v a b,W.gk⟩,J (S.tail.tail)⟩
end
theorem Ez (gs:List GT) (o q t:Int) (b:Bool):(jh gs o q t b).length=gs.length:=by
 unfold jh;split
 ·rw[Dk]
 ·rfl
theorem So {gs:List GT} (a:gs.length=16) (o q t:Int):0<=kK gs o q t/\kK gs o q t<16:=by
 have z:(0:Int)<=0/\(0:Int)<16:=by decide
 unfold kK;split
 ·cases hs:dh gs e9 gs.length with
  |nil=>exact z
  |cons x l=>
   obtain⟨i,hi, _,e⟩:=qv.1 (by rw[hs];exact Aq:x∈dh gs e9 gs.length);show 0<=x/\x<16;omega
 ·exact z
def iw (h:HS) (v p:Int):Bool:=(gy h.g v p).2.1
def si (h:HS) (v a b c:Int):Int:=
 if a>=65536 then 2 else if dp h.g v b=1\/c>1 then 1 else if(f_ h.g h.s v a).2.2.1≠0\/dp h.g v b≠0 then 4 else if iw h v a=true then 7 else 0
def yK (h:HS) (v a b c:Int):Int×Int:=if si h v a b c=0 then(kK h.gr v a b,lF h.gr v a b) else(0,si h v a b c)
def gz (h:HS) (v a b c:Int):HS:=if si h v a b c=0 then yx h (jh h.gr v a b (c==1)) else h
section
variable {Q:Sys} {X:HX} {D G:List Nat} {w0 w:A0} {h:HS} {L:List (Nat×List AC)} {K:RS->A0->Prop}
theorem b_ {A:Nat->GA} (W:Dt A h) (T:List (Nat×List AC)): ∀i v,h.g i=some v-> ∀x∈ia Q A i v,x∈T++eo Q X A h (bj Q A h.g (AF 17)++L):=λi v hv x hx=>by
 have:=W.jy hv;exact Ae _ (Ar _ (Ar _ (Ar _ (Ar _ (Cg _ (BC (DV.2 (by omega)) hv x hx))))))
theorem fI {A:Nat->GA} (W:Dt A h): ∀i v,h.g i=some v->((A i).bm,Obj.map ⟨(A i).es⟩ (A i).ck)∈dy A h.g (AF 17):=λi v hv=>by
 have:=W.jy hv;exact MD (DV.2 (by omega)) hv
theorem Sp (H:jz Q X D G w0 w h L) (v k:Int) {a b c:Int} (z:0<=a) (hb:0<=b) (hc:0<=c) (kk: ∀l,jz Q X D G w0 l (gz h v a b c) L->K ((yK h v a b c).1,(yK h v a b c).2,()) l):
 aE A2 129 (.el (.agg iW)) [ah (ae X.hb),aa v,.agg ⟨ik k a b c⟩] w K:=by
 obtain⟨A,W,H⟩:=H;obtain⟨B,S,J⟩:=H.call;refine aS (C:=V0) (aW:=λ_=>[]) (AM (HG _ v k a b c w K) ?_);refine S.al λE l S=>S.al λF I S=>⟨rfl,S.cz 1 rfl rfl ⟨_,ze S (X:=X) (A:=A) (g:=h.g) (by simp) v hb,rfl,S.cz 1 rfl rfl ?_⟩⟩;have m:si h v a b c≠0-> ∀{l},jz Q X D G w0 l h L->K (0,si h v a b c,()) l:=λr l H=>by
  have o:yK h v a b c=(0,si h v a b c):=ao r;have p:gz h v a b c=h:=ao r;rw[o,p] at kk;exact kk l H
 have f:si h v a b c=if a>=65536 then 2 else if dp h.g v b=1\/c>1 then 1 else if(f_ h.g h.s v a).2.2.1≠0\/dp h.g v b≠0 then 4 else if iw h v a=true then 7 else 0:=rfl;refine ab (λd=>⟨trivial,S.res (j:=0) rfl 0 _ λt S=>?_⟩) (λd=>⟨λ_=>rfl,S.cz 1 rfl rfl ?_⟩)
 ·rw[av (by simpa using d)] at f;rw[f] at m;exact m (by decide) ⟨A,W,J S.tail.tail⟩
 have d: ¬ a>=65536:=by simpa using d
 rw[ao d] at f;have q:aJ .i64 a=a:=bP ⟨z,by omega⟩;refine ab (λd=>⟨trivial,S.res (j:=0) rfl 0 _ λt S=>?_⟩) (λd2=>⟨rfl,S.cz 1 rfl rfl ?_⟩)
 ·rw[av (by simpa using d)] at f;rw[f] at m;exact m (by decide) ⟨A,W,J S.tail.tail⟩
 have d2: ¬ (dp h.g v b=1\/c>1):=by
  intro e;have:(dp h.g v b==1||decide (c>1))=true:=by simpa using e
  rw[this] at d2;cases d2
 rw[ao d2] at f;rw[q];refine vl S (X:=X) (A:=A) (g:=h.g) (by simp) (b_ W [_, _]) v a λt S=>?_;refine ab (λd=>⟨trivial,S.res (j:=0) rfl 0 _ λu S=>?_⟩) (λd3=>⟨rfl,S.cz 1 rfl rfl ?_⟩)
 ·rw[av (by simpa using d)] at f;rw[f] at m;exact m (by decide) ⟨A,W,J S.tail.tail⟩
 have d3: ¬ ((f_ h.g h.s v a).2.2.1≠0\/dp h.g v b≠0):=by
  intro e;have:((f_ h.g h.s v a).2.2.1 != 0||dp h.g v b != 0)=true:=by simpa using e
  rw[this] at d3;cases d3
 rw[ao d3] at f;rw[q];refine⟨gy h.g v a,pN (J S) (X:=X) (A:=A) (g:=h.g) (by simp) (b_ W [_, _]) (fI W) (λi x hx=>W.mp hx) v a,?_⟩;refine ab (λd=>⟨trivial,S.res (j:=0) rfl 0 _ λu S=>?_⟩) (λd4=>?_)
 ·rw[av (show iw h v a=true from d)] at f;rw[f] at m;exact m (by decide) ⟨A,W,J S.tail.tail⟩
 rw[ao (show ¬ iw h v a=true by unfold iw;rw[d4];decide)] at f;have o:yK h v a b c=(kK h.gr v a b,lF h.gr v a b):=av f;have p:gz h v a b c=yx h (jh h.gr v a b (c==1)):=av f;rw[o,p] at kk;have M:=vn (g:=h.g) (v:=v) (a:=b) (λe=>d2 (.inl e));refine⟨rfl,rfl,aj.of _ (S.fK (X:=X) (A:=A) (g:=h.g) (by simp) (n:=2) rfl) ⟨rfl,S.cz 1 rfl rfl ⟨rfl,S.cz 1 rfl rfl ⟨rfl,S.cz 1 rfl rfl ?_⟩⟩⟩⟩;rw[q,bP ⟨hb,by omega⟩];have N:=So W.gl v a b;refine S.aab 3 4 rfl rfl (by rw[W.gl];decide) (by rw[W.gl];decide) v a b (c==1) λu S=>?_;dsimp only;rw[dU (by omega)];refine S.res (j:=0) rfl _ _ λy S=>kk y ⟨A,⟨W.jy,W.mp,(Ez _ _ _ _ _).trans W.gl,W.pt,W.gk.off _ _ _ _⟩,J ?_⟩;have S:=S.tail.tail;have e:(jh h.gr v a b (c==1)).length=h.gr.length:=Ez _ _ _ _ _;show a9 Q [] B w y h.s ((X.hb,fe Q X A h.g)::(X.gb,mK X.uI (jh h.gr v a b (c==1)).length X.c):: _);rw[e];exact S
end
def iD (h:HS) (v a t:Int):Int×Int:=if a>=1048576 then(0,2) else(aH .i64 (fX .i64 16 (mM h.s.1 (aR h.g v) (a / 16) t).1) (a % 16),(mM h.s.1 (aR h.g v) (a / 16) t).2.2.2.1)
def IN (h:HS) (v a:Int):Int×Int:=if(iD h v a 1).2≠0 then(0,(iD h v a 1).2) else(cL h.s.1 (iD h v a 1).1,B6 h.s.1 (iD h v a 1).1)
def nL (h:HS) (v a:Int):Int:=if(iD h v a 2).2≠0 then(iD h v a 2).2 else B6 h.s.1 (iD h v a 2).1
def jn (h:HS) (v a b:Int):HS:=if(iD h v a 2).2≠0 then h else bq h (dC h.s.1 (iD h v a 2).1 b,h.s.2)
def dL (s:WD):Nat->WD×Nat
 |0=>(s,0)
 |n+1=>(fQ (dL s n).1 (n:Int),(dL s n).2+if jB (dL s n).1 (n:Int)=0 then 1 else 0)
theorem MH (s:WD) (f:Int):(fQ s f).1=s.1/\(fQ s f).2.length=s.2.length:=by
 unfold fQ;split
 ·exact⟨rfl,jq _ _ _⟩
 ·exact⟨rfl,rfl⟩
theorem BF (s:WD): ∀n,(dL s n).1.1=s.1/\(dL s n).1.2.length=s.2.length
 |0=>⟨rfl,rfl⟩
 |n+1=>by
  have h:=MH (dL s n).1 (n:Int);have a:=BF s n;exact⟨h.1.trans a.1,h.2.trans a.2⟩
theorem BG (s:WD): ∀n,(dL s n).2<=n
 |0=>Dq _
 |n+1=>by
  have:=BG s n;show(dL s n).2+ _<=n+1;split<;>omega
theorem abO {a:Int} (h:0<=a/\a<1048576):aJ .i64 (wV .u64 a 16)=a / 16:=by
 have e:wV .u64 a 16=a / 16:=by
  show aJ .u64 (a.tdiv 16)= _;rw[Int.tdiv_eq_ediv_of_nonneg h.1];exact dU (by omega)
 rw[e];exact bP (by omega)
theorem abP {a:Int} (h:0<=a):aJ .i64 (jY a 16)=a % 16:=by
 have e:jY a 16=a % 16:=by
  unfold jY;exact Int.tmod_eq_emod_of_nonneg h
 rw[e];exact bP (by omega)
section
variable {Q:Sys} {X:HX} {D G:List Nat} {w0 w:A0} {h:HS} {L:List (Nat×List AC)} {K:RS->A0->Prop}
theorem EA {f:List Nat} {j:A0} {A:Nat->GA} {s:WD} {L0:List (Nat×List AC)} (S:a9 Q [] f j w s L0) (hs:s=h.s) (k:(X.hb,fe Q X A h.g)∈L0) (hg: ∀i v,h.g i=some v-> ∀x∈ia Q A i v,x∈L0) (v:Int) {a:Int} (l:0<=a) (t:Int) {K:Int×Int×Unit->A0->Prop}
 (kk: ∀c,a9 Q [] f j c s L0->K ((iD h v a t).1,(iD h v a t).2,()) c):
 aA A2 178 (.bA [.one (.int .i64),.one (.int .i64)]) [ah (ae X.hb),aa v,ax a,aa t] w K:=by
 subst hs;refine S.go λw1 S=>ai (C:=V0) (aW:=λ_=>[]) (AM (R7 _ v a t w1 K) ?_);unfold iD at kk;refine ab (λd=>S.en λc S=>?_) (λd=>?_)
 ·rw[av (by simpa using d)] at kk;exact kk c S
 ·have d: ¬ a>=1048576:=by simpa using d
  rw[ao d] at kk;rw[abO ⟨l,by omega⟩,abP l];refine⟨rfl,rfl,aj.of _ (S.fK (X:=X) (A:=A) (g:=h.g) k (n:=0) rfl) ⟨_,Jv S k hg v,?_,?_⟩⟩
  ·exact S.walk _ _ _ λc S=>S.al λb m S=>S.fh 0 rfl rfl rfl λo S=>⟨rfl,S.cz 0 rfl rfl ⟨rfl,S.cz 0 rfl rfl (S.en λe S=>kk e S.tail)⟩⟩
  ·exact S.al λb m S=>S.walk _ _ _ λc S=>S.fh 0 rfl rfl rfl λo S=>⟨rfl,S.cz 0 rfl rfl ⟨rfl,S.cz 0 rfl rfl (S.en λe S=>kk e S.tail)⟩⟩
theorem V9 (H:jz Q X D G w0 w h L) (v k:Int) {a:Int} (b c:Int) (i:0<=a) (kk: ∀e,jz Q X D G w0 e h L->K ((IN h v a).1,(IN h v a).2,()) e):
 aE A2 127 (.el (.agg iW)) [ah (ae X.hb),aa v,.agg ⟨ik k a b c⟩] w K:=by
 obtain⟨A,W,H⟩:=H;obtain⟨m,S,J⟩:=H.call;refine aS (C:=V0) (aW:=λ_=>[]) (AM (Mp _ v k a b c w K) ?_);refine S.al λo e S=>S.al λp q S=>⟨rfl,S.cz 1 rfl rfl (EA (h:=h) (A:=A) S rfl (by simp) (b_ W [_, _]) v i 1 λr S=>?_)⟩;unfold IN at kk;refine ab (λd=>⟨trivial,S.res (j:=0) rfl 0 _ λf S=>?_⟩) (λd=>?_)
 ·rw[av (by simpa using d)] at kk;exact kk f ⟨A,W,J S.tail.tail⟩
 ·rw[ao (by simpa using d)] at kk;exact⟨rfl,rfl,aj.of _ (S.fK (X:=X) (A:=A) (g:=h.g) (by simp) (n:=0) rfl) (S.load _ λf S=>S.res (j:=0) rfl _ _ λl S=>kk l ⟨A,W,J S.tail.tail⟩)⟩
theorem Sq (H:jz Q X D G w0 w h L) (v k:Int) {a b:Int} (c:Int) (i:0<=a) (hb:0<=b/\b<18446744073709551616) (kk: ∀e,jz Q X D G w0 e (jn h v a b) L->K (0,nL h v a,()) e):
 aE A2 128 (.el (.agg iW)) [ah (ae X.hb),aa v,.agg ⟨ik k a b c⟩] w K:=by
 obtain⟨A,W,H⟩:=H;obtain⟨m,S,J⟩:=H.call;refine aS (C:=V0) (aW:=λ_=>[]) (AM (HF _ v k a b c w K) ?_);refine S.al λo e S=>S.al λp q S=>⟨rfl,S.cz 1 rfl rfl (EA (h:=h) (A:=A) S rfl (by simp) (b_ W [_, _]) v i 2 λr S=>?_)⟩;unfold jn nL at kk;refine ab (λd=>⟨trivial,S.res (j:=0) rfl 0 _ λf S=>?_⟩) (λd=>?_)
 ·rw[av (by simpa using d),av (by simpa using d)] at kk;exact kk f ⟨A,W,J S.tail.tail⟩
 ·rw[ao (by simpa using d),ao (by simpa using d)] at kk;exact⟨rfl,rfl,aj.of _ (S.fK (X:=X) (A:=A) (g:=h.g) (by simp) (n:=0) rfl) ⟨rfl,S.cz 1 rfl rfl (S.store _ b hb λf S=>⟨trivial,S.res (j:=0) rfl 0 _ λl S=>kk l ⟨A,⟨W.jy,W.mp,W.gl,W.pt,W.gk⟩,J S.tail.tail⟩⟩)⟩⟩
theorem Sr (H:jz Q X D G w0 w h L) (v k a b c:Int) (kk: ∀e,jz Q X D G w0 e (bq h (dL h.s h.s.2.length).1) L->K (((dL h.s h.s.2.length).2:Int),0,()) e):
 aE A2 123 (.el (.agg iW)) [ah (ae X.hb),aa v,.agg ⟨ik k a b c⟩] w K:=by
 obtain⟨A,W,H⟩:=H;obtain⟨r,S,J⟩:=H.call;refine aS (C:=V0) (aW:=p8) (AM (HE _ v k a b c w K) ?_);have N:=S.le;refine S.al λt e S=>S.al λz O S=>⟨rfl,rfl,aj.of _ (S.fK (X:=X) (A:=A) (g:=h.g) (by simp) (n:=1) rfl) ⟨_,S.Y6,?_⟩⟩;refine⟨λn u w'=> ∃m:Nat,u.1=((dL h.s m).2:Int)/\u.2.1=(m:Int)/\n+m=h.s.2.length/\a9 Q [] r w w' (dL h.s m).1 ((z,[ax 0,aa 0])::(t,ik k a b c)::eo Q X A h (bj Q A h.g (AF 17)++L)),⟨h.s.2.length,λB E=>⟨0,rfl,rfl,rfl,S.ext E⟩⟩,?_⟩;clear S;rintro n ⟨x,y,u⟩ B ⟨m,l,o,P,S⟩;dsimp only at l o ⊢;subst l;subst o;have hc:=BG h.s m;refine ab (λf=>?_) (λf=>?_)
 ·have p:m<h.s.2.length:=by simpa using f
  refine Ey S (X:=X) (A:=A) (g:=h.g) (by simp) (m:Int) λq S=>?_;have F:aH .i64 (m:Int) 1=((m+1:Nat):Int):=by rw[ay (by omega) (by omega)];omega
  have I:aH .i64 ((dL h.s m).2:Int) 1=(((dL h.s m).2+1:Nat):Int):=by rw[ay (by omega) (by omega)];omega
  rw[F,I];refine ab (λd=>λM i=>⟨n - 1,by omega,m+1,?_,rfl,by omega,S.ext i⟩) (λd=>λM i=>⟨n - 1,by omega,m+1,?_,rfl,by omega,S.ext i⟩)
  ·have d:jB (dL h.s m).1 (m:Int)=0:=by simpa using d
   show _=(((dL h.s m).2+if jB (dL h.s m).1 (m:Int)=0 then 1 else 0:Nat):Int);rw[av d]
  ·have d: ¬ jB (dL h.s m).1 (m:Int)=0:=by simpa using d
   show _=(((dL h.s m).2+if jB (dL h.s m).1 (m:Int)=0 then 1 else 0:Nat):Int);rw[ao d];rfl
 ·have p:m=h.s.2.length:=by
   have: ¬ m<h.s.2.length:=by simpa using f
   omega
  subst p;rw[dU (by omega)];exact S.res (j:=0) rfl _ 0 λq S=>kk q ⟨A,⟨W.jy,W.mp,W.gl,W.pt,W.gk⟩,J S.tail.tail⟩
end
theorem bM {g:Nat->Option GV} {v:Int} (a:aQ g v=true): ∃x,g v.toNat=some x/\aR g v=x.root/\((v.toNat:Nat):Int)=v/\1<=v/\v<=16:=by
 obtain⟨hv,x,hx⟩:=cm.1 a;refine⟨x,hx,?_,by omega,hv.1,hv.2⟩;unfold aR;rw[av a,hx]
theorem a9.tg {Q:Sys} {X:HX} {D G:List Nat} {w0 w:A0} {s:WD} {L0:List (Nat×List AC)} {A:Nat->GA} {g:Nat->Option GV} (S:a9 Q D G w0 w s L0) (b:(X.hb,fe Q X A g)∈L0) (hg: ∀i v,g i=some v-> ∀x∈ia Q A i v,x∈L0) {v:Int} (c:aQ g v=true):
 cU w (ad (ad (ae X.hb) 4) (v.toNat*1)) (.one .ptr) (some ⟨(A v.toNat).bg,0,none⟩)/\cU w (ad (some ⟨(A v.toNat).bg,0,none⟩) 0) (.one .ptr) (some ⟨(A v.toNat).bt,0,none⟩)/\cU w (ad (some ⟨(A v.toNat).bg,0,none⟩) 1) (.one .map) (some (A v.toNat).bm)/\
  ∃j:Nat,L0[j]? =some ((A v.toNat).bt,p_ Q v (aR g v) false):=by
 obtain⟨x,hx,d,hv,h1,e⟩:=bM c;have hc:=S.pv b (v:=v) ⟨by omega,e⟩;have f:kW A g v.toNat=some ⟨(A v.toNat).bg,0,none⟩:=by unfold kW;rw[hx]
 rw[f] at hc;obtain⟨j1,a⟩:=B1 (hg _ _ hx _ Aq);obtain⟨h,k⟩:=B1 (hg _ _ hx _ (Ar _ Aq));refine⟨hc,?_,?_,h,?_⟩
 ·rw[aY];exact dV (S.get a) rfl
 ·rw[aY];exact dV (S.get a) rfl
 ·rw[d, <-hv];exact k
def pz (h:HS) (v a b:Int):Int:=
 if a>=65536 then 2 else if b<1\/b>7 then 7 else if iw h v a=true/\mw .u64 b 2>0/\(wZ h.gr (gy h.g v a).1).2.2.2.1=false then 7 else F1 h.s v (aR h.g v) false a b
def iE (h:HS) (v a b:Int):HS:=
 if a>=65536 then h else if b<1\/b>7 then h else if iw h v a=true/\mw .u64 b 2>0/\(wZ h.gr (gy h.g v a).1).2.2.2.1=false then h else bq h (rU h.s v (aR h.g v) false a b)
section
variable {Q:Sys} {X:HX} {D G:List Nat} {w0 w:A0} {h:HS} {L:List (Nat×List AC)} {K:RS->A0->Prop}
theorem HM (H:jz Q X D G w0 w h L) {v:Int} (m:aQ h.g v=true) (k:Int) {a b:Int} (c:Int) (B:0<=a) (hb:0<=b) (kk: ∀f,jz Q X D G w0 f (iE h v a b) L->K (0,pz h v a b,()) f):
 aE A2 126 (.el (.agg iW)) [ah (ae X.hb),aa v,.agg ⟨ik k a b c⟩] w K:=by
 obtain⟨A,W,H⟩:=H;obtain⟨E,S,J⟩:=H.call;obtain⟨x,hx,N,hv,O,P⟩:=bM m;refine aS (C:=V0) (aW:=λ_=>[]) (AM (C9 _ v k a b c w K) ?_);refine S.al λF f S=>S.al λr R S=>⟨rfl,S.cz 1 rfl rfl ?_⟩;unfold pz iE at kk;refine ab (λd=>⟨trivial,S.res (j:=0) rfl 0 _ λo S=>?_⟩) (λd=>⟨rfl,S.cz 1 rfl rfl ⟨λ_=>rfl,S.cz 1 rfl rfl ?_⟩⟩)
 ·rw[av (by simpa using d),av (by simpa using d)] at kk;exact kk o ⟨A,W,J S.tail.tail⟩
 have d: ¬ a>=65536:=by simpa using d
 rw[ao d,ao d] at kk;refine ab (λd=>⟨trivial,S.res (j:=0) rfl 0 _ λo S=>?_⟩) (λd2=>?_)
 ·have d:b<1\/b>7:=by simpa using d
  rw[av d,av d] at kk;exact kk o ⟨A,W,J S.tail.tail⟩
 have d2: ¬ (b<1\/b>7):=by
  intro e;have:(decide (b<1)||decide (b>7))=true:=by simpa using e
  rw[this] at d2;cases d2
 rw[ao d2,ao d2] at kk;have t:aJ .i64 a=a:=bP ⟨B,by omega⟩;have eb:aJ .i64 b=b:=bP ⟨hb,by omega⟩;have fin: ∀{p:A0} {T:List (Nat×List AC)} {q:Nat},a9 Q [] E w p h.s (T++((r,[ax 0,aa 0])::(F,ik k a b c)::eo Q X A h (bj Q A h.g (AF 17)++L)))->T.length=q->(¬ (iw h v a=true/\mw .u64 b 2>0/\(wZ h.gr (gy h.g v a).1).2.2.2.1=false))->
  aA A2 177 (.el (.one (.int .i64))) [ah (some ⟨(A v.toNat).bt,0,none⟩),aa a,aa b] p λ(x:Int) (f:A0)=>True/\aC f (ae r) [ax 0,aa x] λ(f:A0)=>au f λ(w1:A0)=>aj w1 none (ae r) (.agg iW) λ(x:Int×Int×Unit)=>K (x.1,x.2.1,()) w1:=by
  intro p T q S U y;rw[ao y,ao y] at kk;obtain⟨_, _, _,j,I⟩:=S.tg (X:=X) (A:=A) (g:=h.g) (by simp) (λi v hv x hx=>Ae T (b_ W [_, _] i v hv x hx)) m;refine S.tw j I a b λz S=>⟨trivial,S.res (j:=T.length) (by rw[GG (Dq _),Nat.sub_self];rfl) 0 _ λM S=>kk M ⟨A,⟨W.jy,W.mp,W.gl,W.pt,W.gk⟩,J ?_⟩⟩;rw[In _ _ (Dq _),Nat.sub_self] at S;have S:=S.sub (FG T _);exact S.tail.tail
 refine⟨rfl,S.cz 1 rfl rfl ⟨gy h.g v a,by rw[t];exact pN (J S) (X:=X) (A:=A) (g:=h.g) (by simp) (b_ W [_, _]) (fI W) (λi x hx=>W.mp hx) v a,λ_=>rfl,S.cz 1 rfl rfl (ab (λd3=>?_) (λd3=>?_))⟩⟩
 ·have d3:iw h v a=true/\mw .u64 b 2>0:=by
   have:=d3;rw[Fy,decide_eq_true_eq] at this;exact this
  refine⟨rfl,rfl,aj.of _ (S.fK (X:=X) (A:=A) (g:=h.g) (by simp) (n:=2) rfl) ⟨(wZ h.gr (gy h.g v a).1,(l_ h.gr (gy h.g v a).1).isSome,()),S.aaR 3 4 rfl rfl (by rw[W.gl];decide) _,S.al λV o S=>S.fh 0 rfl rfl rfl λp S=>⟨rfl,S.cz 0 rfl rfl (ab (λd4=>⟨trivial,S.res (j:=1) rfl 0 _ λz S=>?_⟩) (λd4=>?_))⟩⟩⟩
  ·have d4:(wZ h.gr (gy h.g v a).1).2.2.2.1=false:=by simpa using d4
   rw[av ⟨d3.1,d3.2,d4⟩,av ⟨d3.1,d3.2,d4⟩] at kk;exact kk z ⟨A,W,J S.tail.tail.tail⟩
  ·have d4:(wZ h.gr (gy h.g v a).1).2.2.2.1=true:=by simpa using d4
   obtain⟨g1,u, _, _⟩:=S.tg (X:=X) (A:=A) (g:=h.g) (by simp) (b_ W [_, _, _]) m;exact⟨rfl,rfl,⟨rfl,by omega,by show v<((17:Nat):Int);omega⟩,aj.of _ g1 ⟨rfl,rfl,aj.of _ u ⟨rfl,S.cz 2 rfl rfl ⟨rfl,S.cz 2 rfl rfl (by
    rw[t,eb];exact fin (T:=[_]) S rfl (λl=>by rw[d4] at l;cases l.2.2))⟩⟩⟩⟩
 ·have d3: ¬ (iw h v a=true/\mw .u64 b 2>0):=by
   intro e;have:((gy h.g v a).2.1&&decide (mw .u64 b 2>0))=true:=by rw[Fy,decide_eq_true_eq];exact e
   rw[this] at d3;cases d3
  obtain⟨g1,u, _, _⟩:=S.tg (X:=X) (A:=A) (g:=h.g) (by simp) (b_ W [_, _]) m;exact⟨rfl,rfl,⟨rfl,by omega,by show v<((17:Nat):Int);omega⟩,aj.of _ g1 ⟨rfl,rfl,aj.of _ u ⟨rfl,S.cz 1 rfl rfl ⟨rfl,S.cz 1 rfl rfl (by
   rw[t,eb];exact fin (T:=[]) S rfl (λl=>d3 ⟨l.1,l.2.1⟩))⟩⟩⟩⟩
end
theorem MJ (s:WD) (r:Int) (gone:Bool) (p:Int):0<=(bz s r gone p).1/\(bz s r gone p).1<5000:=by
 have z:(0:Int)<=0/\(0:Int)<5000:=by decide
 unfold bz;split
 ·exact z
 ·split
  ·exact z
  ·split
   ·have h:=Jk (B (cL s.1 (dJ s.1 r p).2.2.1)).toNat;have h:0<=(cW s.1 r p).2.2.2.1/\(cW s.1 r p).2.2.2.1<4096:=h;show 0<=qO p (dJ s.1 r p) (cW s.1 r p)/\qO p (dJ s.1 r p) (cW s.1 r p)<5000;unfold qO;split<;>omega
   ·exact z
theorem EB (g:Nat->Option GV) (s:WD) (v p:Int):0<=(f_ g s v p).1/\(f_ g s v p).1<5000:=by
 have z:(0:Int)<=0/\(0:Int)<5000:=by decide
 unfold f_;split
 ·split
  ·exact MJ _ _ _ _
  ·exact z
 ·exact z
def uX (h:HS) (v a:Int):Int:=
 if a>=65536 then 2 else if(f_ h.g h.s v a).2.2.1≠0 then(f_ h.g h.s v a).2.2.1 else if iw h v a=true then 7 else if(qI h.s.2 (f_ h.g h.s v a).1).2.2.1>0 then 9 else 0
def ye (h:HS) (v a:Int):Int×Int:=if uX h v a=0 then((f_ h.g h.s v a).1,0) else(0,uX h v a)
def mO (h:HS) (v a:Int):HS:=if uX h v a=0 then bq h ((nC h.s v (aR h.g v) false a).1,dH (nC h.s v (aR h.g v) false a).2 (f_ h.g h.s v a).1 (aP 5 v)) else h
section
variable {Q:Sys} {X:HX} {D G:List Nat} {w0 w:A0} {h:HS} {L:List (Nat×List AC)} {K:RS->A0->Prop}
theorem HN (H:jz Q X D G w0 w h L) {v:Int} (q:aQ h.g v=true) (t:N_ Q h.s) (u:0<=aR h.g v/\aR h.g v<4096) (k:Int) {a:Int} (b c:Int) (y:0<=a) (kk: ∀f,jz Q X D G w0 f (mO h v a) L->K ((ye h v a).1,(ye h v a).2,()) f):
 aE A2 125 (.el (.agg iW)) [ah (ae X.hb),aa v,.agg ⟨ik k a b c⟩] w K:=by
 obtain⟨A,W,H⟩:=H;obtain⟨M,S,J⟩:=H.call;obtain⟨x,hx,N,hv,O,P⟩:=bM q;refine aS (C:=V0) (aW:=λ_=>[]) (AM (C8 _ v k a b c w K) ?_);have l:uX h v a≠0-> ∀{f},jz Q X D G w0 f h L->K (0,uX h v a,()) f:=λr f H=>by
  have m:ye h v a=(0,uX h v a):=ao r;have o:mO h v a=h:=ao r;rw[m,o] at kk;exact kk f H
 have e:uX h v a=if a>=65536 then 2 else if(f_ h.g h.s v a).2.2.1≠0 then(f_ h.g h.s v a).2.2.1 else if iw h v a=true then 7 else if(qI h.s.2 (f_ h.g h.s v a).1).2.2.1>0 then 9 else 0:=rfl;refine S.al λR f S=>S.al λT U S=>⟨rfl,S.cz 1 rfl rfl ?_⟩;refine ab (λd=>⟨trivial,S.res (j:=0) rfl 0 _ λz S=>?_⟩) (λd=>⟨rfl,S.cz 1 rfl rfl ?_⟩)
 ·rw[av (by simpa using d)] at e;rw[e] at l;exact l (by decide) ⟨A,W,J S.tail.tail⟩
 have d: ¬ a>=65536:=by simpa using d
 rw[ao d] at e;have B:aJ .i64 a=a:=bP ⟨y,by omega⟩;rw[B];refine vl S (X:=X) (A:=A) (g:=h.g) (by simp) (b_ W [_, _]) v a λz S=>?_;have V:=EB h.g h.s v a;refine ab (λd=>⟨trivial,S.res (j:=0) rfl 0 _ λp S=>?_⟩) (λd2=>?_)
 ·have d:(f_ h.g h.s v a).2.2.1≠0:=by simpa using d
  rw[av d] at e;rw[e] at l;exact l d ⟨A,W,J S.tail.tail⟩
 rw[ao (by simpa using d2)] at e;refine⟨gy h.g v a,pN (J S) (X:=X) (A:=A) (g:=h.g) (by simp) (b_ W [_, _]) (fI W) (λi x hx=>W.mp hx) v a,?_⟩;refine ab (λd=>⟨trivial,S.res (j:=0) rfl 0 _ λp S=>?_⟩) (λd3=>?_)
 ·rw[av (show iw h v a=true from d)] at e;rw[e] at l;exact l (by decide) ⟨A,W,J S.tail.tail⟩
 rw[ao (show ¬ iw h v a=true by unfold iw;rw[d3];decide)] at e;refine⟨rfl,rfl,aj.of _ (S.fK (X:=X) (A:=A) (g:=h.g) (by simp) (n:=1) rfl) ⟨(qI h.s.2 (f_ h.g h.s v a).1,Ag h.s.2 (f_ h.g h.s v a).1,()),S.ofq _,S.al λY p S=>S.fh 0 rfl rfl rfl λZ S=>⟨rfl,S.cz 0 rfl rfl ?_⟩⟩⟩;refine ab (λd=>⟨trivial,S.res (j:=1) rfl 0 _ λp S=>?_⟩) (λd4=>?_)
 ·rw[av (by simpa using d)] at e;rw[e] at l;exact l (by decide) ⟨A,W,J S.tail.tail.tail⟩
 rw[ao (by simpa using d4)] at e;have m:ye h v a=((f_ h.g h.s v a).1,0):=av e;have o:mO h v a=bq h _:=av e;rw[m,o] at kk;obtain⟨g1,E, _,j,F⟩:=S.tg (X:=X) (A:=A) (g:=h.g) (by simp) (b_ W [_, _, _]) q;refine⟨rfl,rfl,⟨rfl,by omega,by show v<((17:Nat):Int);omega⟩,aj.of _ g1 ⟨rfl,rfl,aj.of _ E (S.DR t j F u a λw7 S=>⟨rfl,rfl,aj.of _ (S.fK (X:=X) (A:=A) (g:=h.g) (by simp) (n:=1) rfl) (S.Ul _ 5 v λw8 S=>?_)⟩)⟩⟩;rw[dU (by omega)];exact S.res (j:=1) rfl _ 0 λI S=>kk I ⟨A,⟨W.jy,W.mp,W.gl,W.pt,W.gk⟩,J S.tail.tail.tail⟩
end
theorem HO {ds:List DT} (b:ds.length<=4096) (y o:Int):0<=fg ds y o/\fg ds y o<4096:=by
 have z:(0:Int)<=0/\(0:Int)<4096:=by decide
 unfold fg;split
 ·exact z
 ·rename_i n a;unfold iR at a;rw[Hr] at a;obtain⟨h1, _⟩:=a;split
  ·exact⟨by omega,by omega⟩
  ·exact z
def iy (h:HS) (v:Int):WD:=(h.s.1,dE h.s.2 4 v)
def iO (h:HS) (v:Int):Int:=fg h.s.2 4 v
def qR (h:HS) (v a b:Int):WD:=jG (iy h v) v (aR h.g v) false a (iO h v) b
def kX (h:HS) (v a b:Int):Int:=
 if a>=65536 then 2 else if b<1\/b>7 then 7 else if dN h.s.2 4 v≠0 then dN h.s.2 4 v else kl (iy h v) (aR h.g v) false a (iO h v) b
def oW (h:HS) (v a b:Int):Int×Int:=if kX h v a b=0 then(iO h v,0) else(0,kX h v a b)
def il (h:HS) (v a b:Int):HS:=
 if a>=65536 then h else if b<1\/b>7 then h else if dN h.s.2 4 v≠0 then bq h (iy h v)
 else if kl (iy h v) (aR h.g v) false a (iO h v) b≠0 then bq h ((qR h v a b).1,dH (qR h v a b).2 (iO h v) (aP 0 0))
 else bq h (e8 (qR h v a b).1 (iO h v) (λ_=>0) 16,(qR h v a b).2)
section
variable {Q:Sys} {X:HX} {D G:List Nat} {w0 w:A0} {h:HS} {L:List (Nat×List AC)} {K:RS->A0->Prop}
theorem MK (H:jz Q X D G w0 w h L) {v:Int} (B:aQ h.g v=true) (k:Int) {a b:Int} (c:Int) (V:0<=a) (hb:0<=b) (kk: ∀l,jz Q X D G w0 l (il h v a b) L->K ((oW h v a b).1,(oW h v a b).2,()) l):
 aE A2 124 (.el (.agg iW)) [ah (ae X.hb),aa v,.agg ⟨ik k a b c⟩] w K:=by
 obtain⟨A,W,H⟩:=H;obtain⟨E,S,J⟩:=H.call;obtain⟨x,hx,oh,hv,uJ,qV⟩:=bM B;refine aS (C:=V0) (aW:=oy) (AM (Fb _ v k a b c w K) ?_);have I:=HO S.le 4 v;have wf: ∀s',Dt A (bq h s'):=λs'=>⟨W.jy,W.mp,W.gl,W.pt,W.gk⟩;have p: ∀e,e≠0->kX h v a b=e->oW h v a b=(0,e):=λe Y h1=>by
  unfold oW;rw[ao (by rw[h1];exact Y),h1]
 refine S.al λM l S=>S.al λN w3 S=>⟨rfl,S.cz 1 rfl rfl ?_⟩;refine ab (λd=>⟨trivial,S.res (j:=0) rfl 0 _ λq S=>?_⟩) (λd=>⟨rfl,S.cz 1 rfl rfl ⟨λ_=>rfl,S.cz 1 rfl rfl ?_⟩⟩)
 ·have d:a>=65536:=by simpa using d
  have f:il h v a b=h:=av d;rw[p 2 (by decide) (av d),f] at kk;exact kk q ⟨A,W,J S.tail.tail⟩
 have d: ¬ a>=65536:=by simpa using d
 have Z:aJ .i64 a=a:=bP ⟨V,by omega⟩;refine ab (λd2=>⟨trivial,S.res (j:=0) rfl 0 _ λq S=>?_⟩) (λd2=>⟨rfl,rfl,?_⟩)
 ·have d2:b<1\/b>7:=by simpa using d2
  have o:kX h v a b=7:=by unfold kX;rw[ao d,av d2]
  have f:il h v a b=h:=by unfold il;rw[ao d,av d2]
  rw[p 7 (by decide) o,f] at kk;exact kk q ⟨A,W,J S.tail.tail⟩
 have d2: ¬ (b<1\/b>7):=by
  intro e;have:(decide (b<1)||decide (b>7))=true:=by simpa using e
  rw[this] at d2;cases d2
 have eb:aJ .i64 b=b:=bP ⟨hb,by omega⟩;refine aj.of _ (S.fK (X:=X) (A:=A) (g:=h.g) (by simp) (n:=1) rfl) (S.take 4 v λq S=>?_);refine ab (λd3=>⟨trivial,S.res (j:=0) rfl 0 _ λy S=>?_⟩) (λd3=>?_)
 ·have d3:dN h.s.2 4 v≠0:=by simpa using d3
  have o:kX h v a b=dN h.s.2 4 v:=by unfold kX;rw[ao d,ao d2,av d3]
  have f:il h v a b=bq h (iy h v):=by unfold il;rw[ao d,ao d2,av d3]
  rw[p _ d3 o,f] at kk;exact kk y ⟨A,wf _,J S.tail.tail⟩
 have d3: ¬ dN h.s.2 4 v≠0:=by
  intro e;have:(dN h.s.2 4 v != 0)=true:=by simpa using e
  rw[this] at d3;cases d3
 obtain⟨g1,O, _,j,P⟩:=S.tg (X:=X) (A:=A) (g:=h.g) (by simp) (b_ W [_, _]) B;refine⟨rfl,rfl,⟨rfl,by omega,by show v<((17:Nat):Int);omega⟩,aj.of _ g1 ⟨rfl,rfl,aj.of _ O ⟨rfl,S.cz 1 rfl rfl ⟨rfl,S.cz 1 rfl rfl ?_⟩⟩⟩⟩;rw[Z,eb];refine S.map j P a (iO h v) b λy S=>?_;have S:a9 Q [] E w y (qR h v a b) ((N,[ax 0,aa 0])::(M,ik k a b c)::eo Q X A h (bj Q A h.g (AF 17)++L)):=S;have R:kX h v a b=kl (iy h v) (aR h.g v) false a (iO h v) b:=by unfold kX;rw[ao d,ao d2,ao d3]
 refine ab (λd4=>⟨rfl,rfl,?_⟩) (λd4=>?_)
 ·have d4: ¬ kl (h.s.1,dE h.s.2 4 v) (aR h.g v) false a (iO h v) b=0:=by simpa using d4
  have d4:kl (iy h v) (aR h.g v) false a (iO h v) b≠0:=d4;have f:il h v a b=bq h ((qR h v a b).1,dH (qR h v a b).2 (iO h v) (aP 0 0)):=by unfold il;rw[ao d,ao d2,ao d3,av d4]
  rw[p _ d4 R,f] at kk;exact aj.of _ (S.fK (X:=X) (A:=A) (g:=h.g) (by simp) (n:=1) rfl) (S.F5 (iO h v) λT S=>⟨trivial,S.res (j:=0) rfl 0 _ λr S=>kk r ⟨A,wf _,J S.tail.tail⟩⟩)
 have d4: ¬ kl (iy h v) (aR h.g v) false a (iO h v) b≠0:=by
  intro e;have:(kl (iy h v) (aR h.g v) false a (iO h v) b != 0)=true:=by simpa using e
  exact absurd (this.symm.trans d4) (by decide)
 have o:oW h v a b=(iO h v,0):=by
  unfold oW;rw[R,av (by omega)]
 have f:il h v a b=bq h (e8 (qR h v a b).1 (iO h v) (λ_=>0) 16,(qR h v a b).2):=by unfold il;rw[ao d,ao d2,ao d3,ao d4]
 rw[o,f] at kk;have I:0<=iO h v/\iO h v<4096:=I;obtain⟨F,t⟩: ∃F:Nat->List Int,F=λi=>e8 (qR h v a b).1 (iO h v) (λ_=>0) i:=⟨_,rfl⟩;have F0:F 0=(qR h v a b).1:=by rw[t];rfl
 have Fs: ∀i,F (i+1)=dC (F i) (16*iO h v+(i:Int)) 0:=λi=>by rw[t];rfl
 have kk: ∀l,jz Q X D G w0 l (bq h (F 16,(qR h v a b).2)) L->K (iO h v,0,()) l:=by rw[t];exact kk
 clear t;refine⟨λn u w'=> ∃m:Nat,u.1=(m:Int)/\n+m=16/\a9 Q [] E w w' (F m,(qR h v a b).2) ((N,[ax 0,aa 0])::(M,ik k a b c)::eo Q X A h (bj Q A h.g (AF 17)++L)),⟨16,λT h6=>⟨0,rfl,rfl,by rw[F0];exact S.ext h6⟩⟩,?_⟩;clear S g1 O P;rintro n ⟨u,u2⟩ T ⟨m,e,hn,S⟩;dsimp only at e ⊢;subst e;have efr:(fg h.s.2 4 v)=iO h v:=rfl;rw[efr];refine ab (λz=>?_) (λz=>?_)
 ·have U:m<16:=by
   have:(m:Int)<16:=by simpa using z
   omega
  have e5:aH .i64 (fX .i64 16 (iO h v)) (m:Int)=16*iO h v+(m:Int):=by rw[eJ (by omega) (by omega),ay (by omega) (by omega)]
  rw[e5];refine⟨rfl,rfl,aj.of _ (S.fK (X:=X) (A:=A) (g:=h.g) (by simp) (n:=0) rfl) (S.store _ 0 (by decide) λr S=>λw8 h8=>⟨n - 1,by omega,m+1,by rw[ay (by omega) (by omega)];omega,by omega,?_⟩)⟩;rw[Fs];exact S.ext h8
 ·have U:m=16:=by
   have: ¬ (m:Int)<16:=by simpa using z
   omega
  subst U;rw[dU (by omega)];exact S.res (j:=0) rfl _ 0 λr S=>kk r ⟨A,wf _,J S.tail.tail⟩
end
def dn (h:HS) (v p id f:Int):HS where
 s:=((nC h.s v (aR h.g v) false p).1,dH (nC h.s v (aR h.g v) false p).2 f (iv (-1)))
 g:=a_ h.g v.toNat (match h.g v.toNat with|some x=>some {x with tk:=x.tk.filter λt=> !(t.1==p)}|none=>none)
 gr:=dS h.gr id v
 po:=h.po
theorem qB (gs:List GT) (i o:Int):(dS gs i o).length=gs.length:=by
 unfold dS;split
 ·rw[Dk]
 ·rfl
theorem PM {α:Type} {T L:List α} {k:Nat} {x:α} (h:L[k]? =some x):(T++L)[T.length+k]? =some x:=by
 rw[GG (by omega),show T.length+k - T.length=k by omega];exact h
section
variable {Q:Sys} {X:HX} {D G:List Nat} {w0 w:A0} {h:HS} {L:List (Nat×List AC)}
theorem EC {A:Nat->GA} (W:Dt A h) {T:List (Nat×List AC)} (H:SM Q D G w0 w h.s (T++eo Q X A h (bj Q A h.g (AF 17)++L)) (dy A h.g (AF 17))) {v p id f:Int} (m:aQ h.g v=true) (R:N_ Q h.s) (U:0<=aR h.g v/\aR h.g v<4096)
 {x:GV} (hx:h.g v.toNat=some x) (V:cq x.tk p=some (id,f)) {K:Unit->A0->Prop} (kk: ∀A' u,(∀i,(A' i).bg=(A i).bg)->Dt A' (dn h v p id f)->SM Q D G w0 u (dn h v p id f).s (T++eo Q X A' (dn h v p id f) (bj Q A' (dn h v p id f).g (AF 17)++L)) (dy A' (dn h v p id f).g (AF 17))->K () u):
 aA A2 167 (.bA []) [ah (ae X.hb),aa v,aa p] w K:=by
 obtain⟨x',F,oh,hv,uJ,qV⟩:=bM m;rw[hx] at F;cases F;refine H.go λw1 H=>ai (C:=V0) (aW:=ux) (AM (R8 _ v p w1 K) ?_);obtain⟨G',S,J⟩:=H.call;have mem: ∀{T':List (Nat×List AC)},(X.hb,fe Q X A h.g)∈T'++(T++eo Q X A h (bj Q A h.g (AF 17)++L)):=λ{T'}=>Ae _ (Ae _ Aq);have y: ∀{T':List (Nat×List AC)}, ∀i v,h.g i=some v-> ∀x∈ia Q A i v,x∈T'++(T++eo Q X A h (bj Q A h.g (AF 17)++L)):=λ{T'} i v hv x hx=>Ae _ (b_ W T i v hv x hx);obtain⟨g1,I,z, _⟩:=S.tg (X:=X) (A:=A) (g:=h.g) (mem (T':=[])) (y (T':=[])) m;obtain⟨r,M,N⟩:=(W.mp hx).find p;rw[V] at N;obtain⟨i,e,hi,Y⟩:=N;have B:bI w1 (A v.toNat).bm ⟨(A v.toNat).es⟩ (A v.toNat).ck:=H.get (fI W _ _ hx);refine⟨rfl,rfl,⟨rfl,by omega,by show v<((17:Nat):Int);omega⟩,aj.of _ g1 ⟨rfl,rfl,aj.of _ z ⟨(id,f,()),⟨_, _, _,rfl,B,?_⟩,S.al λb u S=>S.fh 0 rfl rfl rfl λw3 S=>⟨rfl,rfl,?_⟩⟩⟩⟩
 ·rw[M,e]
 obtain⟨_, _,z, _⟩:=S.tg (X:=X) (A:=A) (g:=h.g) (mem (T':=[_])) (y (T':=[_])) m;refine aj.of _ z λZ h4=>?_;have H:=(J S).ext h4;have B:bI Z (A v.toNat).bm ⟨(A v.toNat).es⟩ (A v.toNat).ck:=H.get (fI W _ _ hx);refine⟨_, _, _,rfl,B,?_⟩;unfold Ai;rw[M,e];dsimp only;have hea:(LL (⟨(A v.toNat).es⟩:Array B4) i)=⟨(A v.toNat).es.eraseIdx i⟩:=by
  apply Array.ext';rw[Array.toList_eraseIdxIfInBounds]
 rw[hea];have Ku:v.toNat<17:=by omega
 have H:=H.PL Ku hx ((A v.toNat).es.eraseIdx i) (A v.toNat).ck (x.tk.filter λt=> !(t.1==p));have o:=Jw (A:=A) hx ((A v.toNat).es.eraseIdx i) (A v.toNat).ck (x.tk.filter λt=> !(t.1==p));obtain⟨A',O⟩: ∃A',A'=oV A v.toNat {A v.toNat with es:=(A v.toNat).es.eraseIdx i,ck:=(A v.toNat).ck}:=⟨_,rfl⟩;have E:a_ h.g v.toNat (some {x with tk:=x.tk.filter λt=> !(t.1==p)})=(dn h v p id f).g:=by
  show _=a_ h.g v.toNat (match h.g v.toNat with|some x=> _|none=>none);rw[hx]
 have hmp: ∀{a l},(dn h v p id f).g a=some l->qQ (A' a).es (A' a).ck l.tk:=λ{a l} d=>by
  rw[<-E] at d;rw[O];unfold a_ at d;unfold oV;by_cases q:a=v.toNat
  ·rw[av q] at d ⊢;cases d;exact Y
  ·rw[ao q] at d ⊢;exact W.mp d
 have T7: ∀{a l},(dn h v p id f).g a=some l->1<=a/\a<=16:=λ{a l} d=>by
  rw[<-E] at d;unfold a_ at d;by_cases q:a=v.toNat
  ·omega
  ·rw[ao q] at d;exact W.jy d
 rw[<-O,E] at H o;obtain⟨G2,S,J2⟩:=H.call;obtain⟨_,I, _,j,hj⟩:=S.tg (X:=X) (A:=A) (g:=h.g) (mem (T':=[_])) (y (T':=[_])) m;refine⟨rfl,rfl,aj.of _ I (S.DR R j hj U p λw5 S=>⟨rfl,rfl,aj.of _ (S.fK (X:=X) (A:=A) (g:=h.g) (mem (T':=[_])) (n:=1) rfl) ⟨rfl,S.cz 0 rfl rfl (S.aaQ f (-1) (by decide) λw6 S=>⟨rfl,rfl,aj.of _ (S.fK (X:=X) (A:=A) (g:=h.g) (mem (T':=[_])) (n:=2) rfl) ⟨rfl,S.cz 0 rfl rfl ?_⟩⟩)⟩⟩)⟩;refine S.XD (T.length+1+1) (T.length+2+1) (PM (T:= _::T) (k:=1) rfl) (PM (T:= _::T) (k:=2) rfl) (by rw[W.gl];decide) W.gk.use id v λw7 S=>S.en λP S=>kk A' P o.bg ⟨T7,hmp,(qB _ _ _).trans W.gl,W.pt,W.gk.back _ _⟩ (J2 ?_);have e1:eo Q X A' (dn h v p id f) (bj Q A' (dn h v p id f).g (AF 17)++L)=(eo Q X A h (bj Q A h.g (AF 17)++L)).set 2 (X.uI,flat eG (dS h.gr id v)++X.rest):=by
  show(X.hb,fe Q X A' (dn h v p id f).g)::(X.gb,mK X.uI (dS h.gr id v).length X.c)::(X.uI,flat eG (dS h.gr id v)++X.rest)::(X.pb,Po.gW 4 h.po)::(bj Q A' (dn h v p id f).g (AF 17)++L)= _;rw[o.cs,o.rows,qB];rfl
 have S:a9 Q [] G2 _ P _ ((T++eo Q X A h (bj Q A h.g (AF 17)++L)).set (T.length+2) (X.uI,flat eG (dS h.gr id v)++X.rest)):=S.tail;rw[In _ _ (by omega),show T.length+2 - T.length=2 by omega, <-e1] at S;exact S
end
def NO (h:HS) (v p:Int):Int×Int:=match h.g v.toNat with
 |some x=>(cq x.tk p).getD (0,0)
 |none=>(0,0)
def pA (h:HS) (v a:Int):Int:=if a>=65536 then 2 else if iw h v a=true then 0 else 4
def eR (h:HS) (v a:Int):HS:=if a>=65536 then h else if iw h v a=true then dn h v a (NO h v a).1 (NO h v a).2 else h
theorem tL {h:HS} {v p:Int} {x:GV} (a:aQ h.g v=true) (hx:h.g v.toNat=some x):iw h v p=true<->cq x.tk p=some (NO h v p):=by
 unfold iw gy NO;rw[av a,hx];dsimp only;cases cq x.tk p<;>simp
section
variable {Q:Sys} {X:HX} {D G:List Nat} {w0 w:A0} {h:HS} {L:List (Nat×List AC)} {K:RS->A0->Prop}
theorem V_ (H:jz Q X D G w0 w h L) {v:Int} (f:aQ h.g v=true) (n:N_ Q h.s) (o:0<=aR h.g v/\aR h.g v<4096) (k:Int) {a:Int} (b c:Int) (p:0<=a) (kk: ∀l,jz Q X D G w0 l (eR h v a) L->K (0,pA h v a,()) l):
 aE A2 131 (.el (.agg iW)) [ah (ae X.hb),aa v,.agg ⟨ik k a b c⟩] w K:=by
 obtain⟨A,W,H⟩:=H;obtain⟨u,S,J⟩:=H.call;obtain⟨x,hx,y,hv,z,B⟩:=bM f;refine aS (C:=V0) (aW:=λ_=>[]) (AM (Ms _ v k a b c w K) ?_);unfold pA eR at kk;refine S.al λE l S=>S.al λF I S=>⟨rfl,S.cz 1 rfl rfl ?_⟩;refine ab (λd=>⟨trivial,S.res (j:=0) rfl 0 _ λe S=>?_⟩) (λd=>⟨rfl,S.cz 1 rfl rfl ?_⟩)
 ·rw[av (by simpa using d),av (by simpa using d)] at kk;exact kk e ⟨A,W,J S.tail.tail⟩
 have d: ¬ a>=65536:=by simpa using d
 rw[ao d,ao d] at kk;have m:aJ .i64 a=a:=bP ⟨p,by omega⟩;rw[m];refine⟨gy h.g v a,pN (J S) (X:=X) (A:=A) (g:=h.g) (by simp) (b_ W [_, _]) (fI W) (λi x hx=>W.mp hx) v a,?_⟩;refine ab (λd2=>⟨trivial,S.res (j:=0) rfl 0 _ λe S=>?_⟩) (λd2=>⟨rfl,S.cz 1 rfl rfl ?_⟩)
 ·have d2: ¬ iw h v a=true:=by
   unfold iw;simpa using d2
  rw[ao d2,ao d2] at kk;exact kk e ⟨A,W,J S.tail.tail⟩
 ·have d2:iw h v a=true:=by
   unfold iw;simpa using d2
  rw[av d2,av d2] at kk;rw[m];refine EC W (T:=[_, _]) (J S) f n o hx ((tL f hx).1 d2) λA' e _ q H=>?_;obtain⟨M,S,r⟩:=H.call;exact S.res (j:=0) rfl 0 0 λt S=>kk t ⟨A',q,r S.tail.tail⟩
end
def mP (t:TK):List TK->List TK
 |[]=>[t]
 |u::l=>if u.1<t.1 then u::mP t l else t::u::l
theorem nh (t:TK): ∀l,(mP t l).Perm (t::l)
 |[]=>Kd _
 |u::l=>by
  rw[mP];split
  ·exact((nh t l).cons u).trans (.swap _ _ _)
  ·exact Kd _
def lX (h:HS) (a:Int):GT:=wZ h.gr a
def lV (h:HS) (a:Int):Int×Int×Int×Unit:=f_ h.g h.s (lX h a).1 (lX h a).2.1
def wR (c:Int):Int:=if c=1 then 3 else 1
def nF (h:HS) (v a b c:Int):Int:=
 if b>=65536 then 2 else if a>=16\/c>1 then 1 else if(l_ h.gr a).isSome=false then 4
 else if(lX h a).2.2.1≠v\/(c=1/\(lX h a).2.2.2.1=false) then 7 else if(lV h a).2.2.1≠0 then 4 else if iw h (lX h a).1 (lX h a).2.1=true then 7
 else if iq h.gr a v (c==1)≠0 then iq h.gr a v (c==1) else kl h.s (aR h.g v) false b (lV h a).1 (wR c)
def fR (h:HS) (v a b c:Int):HS where
 s:=((jG h.s v (aR h.g v) false b (lV h a).1 (wR c)).1,dH (jG h.s v (aR h.g v) false b (lV h a).1 (wR c)).2 (lV h a).1 (iv 1))
 g:=a_ h.g v.toNat (match h.g v.toNat with|some x=>some {x with tk:=mP (b,a,(lV h a).1) x.tk}|none=>none)
 gr:=dK h.gr a v (c==1)
 po:=h.po
def AY (h:HS) (v a b c:Int):HS:={h with s:=jG h.s v (aR h.g v) false b (lV h a).1 (wR c),gr:=dS (dK h.gr a v (c==1)) a v}
def mI (h:HS) (v a b c:Int):Int:=
 if b>=65536 then 2 else if a>=16\/c>1 then 1 else if(l_ h.gr a).isSome=false then 4
 else if(lX h a).2.2.1≠v\/(c=1/\(lX h a).2.2.2.1=false) then 7 else if(lV h a).2.2.1≠0 then 4 else if iw h (lX h a).1 (lX h a).2.1=true then 7 else iq h.gr a v (c==1)
def iT (h:HS) (v a b c:Int):HS:=if mI h v a b c≠0 then h else if nF h v a b c=0 then fR h v a b c else AY h v a b c
theorem ML (gs:List GT) (i g:Int) (b:Bool):(dK gs i g b).length=gs.length:=by
 unfold dK;split
 ·rw[Dk]
 ·rfl
section
variable {Q:Sys} {X:HX} {D G:List Nat} {w0 w:A0} {h:HS} {L:List (Nat×List AC)} {K:RS->A0->Prop}
theorem aad {A:Nat->GA} (W:Dt A h) {v a b c:Int} {x:GV} (hx:h.g v.toNat=some x) (hv:((v.toNat:Nat):Int)=v) (uJ:1<=v) (qV:v<=16) (q:cq x.tk b=none) (E:(dK h.gr a v (c==1)).length=h.gr.length) {h1:HS} (F:h1=yx h (dK h.gr a v (c==1)))
 {I k J:Nat} {M t la:List AC} (N:t=[ax 0,aa 0]) {l:A0}
 (H:SM Q D G w0 l ((jG h.s v (aR h.g v) false b (lV h a).1 (wR c)).1,dH (jG h.s v (aR h.g v) false b (lV h a).1 (wR c)).2 (lV h a).1 (iv 1)) ((I,M)::(k,t)::(J,la)::eo Q X A h1 (bj Q A h.g (AF 17)++L)) (dy A h.g (AF 17)))
 (kk: ∀f,jz Q X D G w0 f (fR h v a b c) L->K (0,0,()) f):
 ∃r es u,some (A v.toNat).bm=some r/\bI l r es u/\ib l r .i64 b (.agg ⟨[aa a,aa (lV h a).1]⟩) es u λf=>
  aC f (ae k) [ax 0,aa 0] λf=>au f λw1=>aj w1 none (ae k) (.agg [.int .u64,.int .i64]) λx=>K (x.1,x.2.1,()) w1:=by
 subst N;have O:=H.get (fI W _ _ hx);refine⟨_, _, _,rfl,O,?_⟩;obtain⟨r,w,y⟩:=(W.mp hx).find b;rw[q] at y;rw[y] at w;unfold ib;have P:=w;rw[P];have R:(⟨(A v.toNat).es⟩:Array B4).push {key:=aa b,val:= .agg ⟨[aa a,aa (lV h a).1]⟩,born:=(A v.toNat).ck}=⟨(A v.toNat).es++[{key:=aa b,val:= .agg ⟨[aa a,aa (lV h a).1]⟩,born:=(A v.toNat).ck}]⟩:=by
  grind
 rw[R];have z:=(W.mp hx).push q (nh (b,a,(lV h a).1) x.tk);have T:v.toNat<17:=by omega
 have U:({key:=(Au (b,a,(lV h a).1)).1,val:=(Au (b,a,(lV h a).1)).2,born:=(A v.toNat).ck}:B4)={key:=aa b,val:= .agg ⟨[aa a,aa (lV h a).1]⟩,born:=(A v.toNat).ck}:=rfl;rw[U] at z;generalize (A v.toNat).es++[{key:=aa b,val:= .agg _,born:=(A v.toNat).ck}]=m at z ⊢;have H:=H.PL T hx m ((A v.toNat).ck+1) (mP (b,a,(lV h a).1) x.tk);have n:=Jw (A:=A) hx m ((A v.toNat).ck+1) (mP (b,a,(lV h a).1) x.tk);obtain⟨A',B⟩: ∃A',A'=oV A v.toNat {A v.toNat with es:=m,ck:=(A v.toNat).ck+1}:=⟨_,rfl⟩;have o:a_ h.g v.toNat (some {x with tk:=mP (b,a,(lV h a).1) x.tk})=(fR h v a b c).g:=by
  show _=a_ h.g v.toNat _;rw[hx]
 have V: ∀{d i},(fR h v a b c).g d=some i->qQ (A' d).es (A' d).ck i.tk:=λ{d i} e=>by
  rw[<-o] at e;rw[B];unfold a_ at e;unfold oV;by_cases p:d=v.toNat
  grind
  ·rw[ao p] at e ⊢;exact W.mp e
 have Y: ∀{d i},(fR h v a b c).g d=some i->1<=d/\d<=16:=λ{d i} e=>by
  rw[<-o] at e;unfold a_ at e;by_cases p:d=v.toNat
  ·omega
  ·rw[ao p] at e;exact W.jy e
 rw[<-B,o] at H n;obtain⟨Z,S,J2⟩:=H.call;refine S.res (j:=1) rfl 0 0 λC S=>kk C ⟨A',⟨Y,V,E.trans W.gl,W.pt,W.gk.take _ _ _⟩,J2 ?_⟩;have S:=S.tail.tail.tail;rw[F] at S;show a9 Q [] Z _ C _ ((X.hb,fe Q X A' _)::(X.gb,mK X.uI _ X.c)::(X.uI,flat eG _++X.rest)::(X.pb,Po.gW 4 h.po)::(bj Q A' _ _++L));rw[n.cs,n.rows];exact S
theorem Jx {A:Nat->GA} (W:Dt A h) {v a b c:Int} {x:GV} (hx:h.g v.toNat=some x) (hv:((v.toNat:Nat):Int)=v) (H:1<=v) (I:v<=16) (t:aQ h.g v=true)
 (M: ∀x,h.g v.toNat=some x->kl h.s (aR h.g v) false b (lV h a).1 (wR c)=0->cq x.tk b=none)
 (u:(dK h.gr a v (c==1)).length=h.gr.length) {h1:HS} (f:h1=yx h (dK h.gr a v (c==1))) (k:Dt A h1)
 {N e O:Nat} {P la:List AC} {l w:A0} {m:List Nat}
 (J: ∀{d:A0} {s':WD} {L':List (Nat×List AC)},a9 Q [] m l d s' L'->SM Q D G w0 d s' L' (dy A h.g (AF 17)))
 (S:a9 Q [] m l w h.s ((N,P)::(e,[ax 0,aa 0])::(O,la)::eo Q X A h1 (bj Q A h.g (AF 17)++L)))
 (B:nF h v a b c=kl h.s (aR h.g v) false b (lV h a).1 (wR c)) (hS0:iT h v a b c=if nF h v a b c=0 then fR h v a b c else AY h v a b c)
 (kk: ∀d,jz Q X D G w0 d (iT h v a b c) L->K (0,nF h v a b c,()) d):
 aA A2 173 (.el (.one (.int .i64))) [ah (some ⟨(A v.toNat).bt,0,none⟩),aa b,aa (lV h a).1,aa (wR c)] w λ(y:Int) (d:A0)=>
  aG (y != 0)
   ((some (⟨X.hb,0,none⟩:AJ)).isSome=true/\(some (⟨X.hb,0,none⟩:AJ)).isSome=true/\
    aj d none (ad (ae X.hb) 2) (.one .ptr) λ(z:Option AJ)=>
     aA A2 182 (.el (.one (.int .i64))) [ah z,aa a,aa v] d λ(_:Int) (d:A0)=>
      True/\aC d (ae e) [ax 0,aa y] λ(d:A0)=>au d λ(w1:A0)=>aj w1 none (ae e) (.agg [.int .u64,.int .i64]) λ(x:Int×Int×Unit)=>K (x.1,x.2.1,()) w1)
   ((some (⟨X.hb,0,none⟩:AJ)).isSome=true/\(some (⟨X.hb,0,none⟩:AJ)).isSome=true/\
    aj d none (ad (ae X.hb) 1) (.one .ptr) λ(z:Option AJ)=>
     aA A2 183 (.el (.one (.int .i64))) [ah z,aa (lV h a).1,aa 1] d λ(_:Int) (d:A0)=>
      (some (⟨X.hb,0,none⟩:AJ)).isSome=true/\(some (⟨X.hb,0,none⟩:AJ)).isSome=true/\((ad (ae X.hb) 4).isSome=true/\0<=v/\v<((17:Nat):Int))/\
       aj d none (ad (ad (ae X.hb) 4) (v.toNat*1)) (.one .ptr) λ(o:Option AJ)=>
        o.isSome=true/\o.isSome=true/\
         aj d none (ad o 1) (.one .map) λ(R:Option Nat)=>
          ∀(w1:A0),Ext d w1-> ∃(r:Nat), ∃(es:Array B4), ∃(C:Nat),R=some r/\bI w1 r es C/\
           ib w1 r .i64 b (.agg ⟨[aa a,aa (lV h a).1]⟩) es C λ(d:A0)=>
            aC d (ae e) [ax 0,aa 0] λ(d:A0)=>au d λ(w1:A0)=>aj w1 none (ae e) (.agg [.int .u64,.int .i64]) λ(x:Int×Int×Unit)=>K (x.1,x.2.1,()) w1):=by
 have mem: ∀{T},(X.hb,fe Q X A h.g)∈T++eo Q X A h1 (bj Q A h.g (AF 17)++L):=λ{T}=>Ae T (by rw[f];exact Aq);have E:=λ{T} i v hv x hx=>by
  have F:h1.g=h.g:=by rw[f];rfl
  have:=b_ (Q:=Q) (X:=X) (L:=L) k T i v (by rw[F];exact hv) x hx;rw[F] at this;exact this
 obtain⟨_, _, _,j,U⟩:=S.tg (X:=X) (A:=A) (g:=h.g) (mem (T:=[_, _, _])) (E (T:=[_, _, _])) t;refine S.map j U b (lV h a).1 (wR c) λw8 S=>?_;refine ab (λd8=>?_) (λd8=>?_)
 ·have d8:kl h.s (aR h.g v) false b (lV h a).1 (wR c)≠0:=by
   grind
  have p:iT h v a b c=AY h v a b c:=by grind
  refine⟨rfl,rfl,aj.of _ (S.fK (X:=X) (A:=A) (g:=h.g) (mem (T:=[_, _, _])) (n:=2) rfl) (S.XD 4 5 rfl rfl (by rw[k.gl];decide) k.gk.use a v λV S=>⟨trivial,S.res (j:=1) rfl 0 _ λq S=>?_⟩)⟩;rw[B,p] at kk;refine kk q ⟨A,⟨W.jy,W.mp,(qB _ _ _).trans (u.trans W.gl),W.pt,(W.gk.take _ _ _).back _ _⟩,J ?_⟩;have S:=S.tail.tail.tail;rw[f] at S;show a9 Q [] m l q _ ((X.hb,fe Q X A h.g)::(X.gb,mK X.uI (dS _ a v).length X.c):: _);rw[qB];exact S
 ·have d8:kl h.s (aR h.g v) false b (lV h a).1 (wR c)=0:=by
   grind
  have p:iT h v a b c=fR h v a b c:=by grind
  refine⟨rfl,rfl,aj.of _ (S.fK (X:=X) (A:=A) (g:=h.g) (mem (T:=[_, _, _])) (n:=1) rfl) (S.aaQ (lV h a).1 1 (by decide) λV S=>⟨rfl,rfl,⟨rfl,by omega⟩,?_⟩)⟩;rw[B,p,d8] at kk;have Y:=M x hx d8;obtain⟨g1, _,Z, _⟩:=S.tg (X:=X) (A:=A) (g:=h.g) (mem (T:=[_, _, _])) (E (T:=[_, _, _])) t;refine aj.of _ g1 ⟨rfl,rfl,aj.of _ Z λq Is=>?_⟩;exact aad W hx hv H I Y u f rfl ((J S).ext Is) kk
theorem V' (H:jz Q X D G w0 w h L) {v:Int} (q:aQ h.g v=true) (k:Int) {a b c:Int} (V:0<=a) (hb:0<=b) (hc:0<=c) (E: ∀x,h.g v.toNat=some x->kl h.s (aR h.g v) false b (lV h a).1 (wR c)=0->cq x.tk b=none)
 (kk: ∀m,jz Q X D G w0 m (iT h v a b c) L->K (0,nF h v a b c,()) m):
 aE A2 130 (.el (.agg iW)) [ah (ae X.hb),aa v,.agg ⟨ik k a b c⟩] w K:=by
 obtain⟨A,W,H⟩:=H;obtain⟨F,S,J⟩:=H.call;obtain⟨x,hx,oh,hv,I,M⟩:=bM q;refine aS (C:=V0) (aW:=λ_=>[]) (AM (Mq _ v k a b c w K) ?_);have p: ∀e,e≠0->mI h v a b c=e->nF h v a b c=e-> ∀{m},jz Q X D G w0 m h L->K (0,e,()) m:=λe Y h1 Z m H=>by
  have u:iT h v a b c=h:=av (by rw[h1];exact Y);rw[Z,u] at kk;exact kk m H
 have l:mI h v a b c=if b>=65536 then 2 else if a>=16\/c>1 then 1 else if(l_ h.gr a).isSome=false then 4
  else if(lX h a).2.2.1≠v\/(c=1/\(lX h a).2.2.2.1=false) then 7 else if(lV h a).2.2.1≠0 then 4 else if iw h (lX h a).1 (lX h a).2.1=true then 7 else iq h.gr a v (c==1):=rfl
 have f:nF h v a b c=if b>=65536 then 2 else if a>=16\/c>1 then 1 else if(l_ h.gr a).isSome=false then 4
  else if(lX h a).2.2.1≠v\/(c=1/\(lX h a).2.2.2.1=false) then 7 else if(lV h a).2.2.1≠0 then 4 else if iw h (lX h a).1 (lX h a).2.1=true then 7
  else if iq h.gr a v (c==1)≠0 then iq h.gr a v (c==1) else kl h.s (aR h.g v) false b (lV h a).1 (wR c):=rfl
 refine S.al λba m S=>S.al λb1 w3 S=>⟨rfl,S.cz 1 rfl rfl ?_⟩;refine ab (λd=>⟨trivial,S.res (j:=0) rfl 0 _ λN S=>?_⟩) (λd=>⟨rfl,S.cz 1 rfl rfl ⟨λ_=>rfl,S.cz 1 rfl rfl ?_⟩⟩)
 ·have d:b>=65536:=by simpa using d
  rw[av d] at l f;exact p 2 (by decide) l f ⟨A,W,J S.tail.tail⟩
 have d: ¬ b>=65536:=by simpa using d
 rw[ao d] at l f;refine ab (λd1=>⟨trivial,S.res (j:=0) rfl 0 _ λN S=>?_⟩) (λd1=>⟨rfl,S.cz 1 rfl rfl ⟨rfl,S.cz 1 rfl rfl ⟨rfl,S.cz 1 rfl rfl ⟨rfl,rfl,?_⟩⟩⟩⟩)
 ·have d1:a>=16\/c>1:=by simpa using d1
  rw[av d1] at l f;exact p 1 (by decide) l f ⟨A,W,J S.tail.tail⟩
 have d1: ¬ (a>=16\/c>1):=by
  grind
 rw[ao d1] at l f;have ea:aJ .i64 a=a:=bP ⟨V,by omega⟩;have eb:aJ .i64 b=b:=bP ⟨hb,by omega⟩;rw[ea,eb];refine aj.of _ (S.fK (X:=X) (A:=A) (g:=h.g) (by simp) (n:=2) rfl) ⟨(wZ h.gr a,(l_ h.gr a).isSome,()),S.aaR 3 4 rfl rfl (by rw[W.gl];decide) a,S.al λb2 N S=>S.fh 0 rfl rfl rfl λw5 S=>?_⟩;refine ab (λd2=>⟨trivial,S.res (j:=1) rfl 0 _ λO S=>?_⟩) (λd2=>⟨rfl,S.cz 0 rfl rfl ⟨λ_=>rfl,S.cz 0 rfl rfl ?_⟩⟩)
 ·have d2:(l_ h.gr a).isSome=false:=by simpa using d2
  rw[av d2] at l f;exact p 4 (by decide) l f ⟨A,W,J S.tail.tail.tail⟩
 have d2: ¬ (l_ h.gr a).isSome=false:=by
  have d2:(!(l_ h.gr a).isSome)=false:=d2;intro e;rw[e] at d2;cases d2
 rw[ao d2] at l f;refine ab (λd3=>⟨trivial,S.res (j:=1) rfl 0 _ λO S=>?_⟩) (λd3=>⟨rfl,S.cz 0 rfl rfl ⟨rfl,S.cz 0 rfl rfl ?_⟩⟩)
 ·have d3:=by
   have d3:((lX h a).2.2.1 != v||c==1&& !(lX h a).2.2.2.1)=true:=d3;simpa using d3
  rw[av d3] at l f;exact p 7 (by decide) l f ⟨A,W,J S.tail.tail.tail⟩
 have d3: ¬ ((lX h a).2.2.1≠v\/(c=1/\(lX h a).2.2.2.1=false)):=by
  grind[lX]
 rw[ao d3] at l f;refine vl S (X:=X) (A:=A) (g:=h.g) (by simp) (b_ W [_, _, _]) (lX h a).1 (lX h a).2.1 λO S=>?_;refine ab (λd4=>⟨trivial,S.res (j:=1) rfl 0 _ λr S=>?_⟩) (λd4=>⟨rfl,S.cz 0 rfl rfl ⟨rfl,S.cz 0 rfl rfl ?_⟩⟩)
 ·have d4:(lV h a).2.2.1≠0:=by
   have d4:((lV h a).2.2.1 != 0)=true:=d4;simpa using d4
  rw[av d4] at l f;exact p 4 (by decide) l f ⟨A,W,J S.tail.tail.tail⟩
 have d4: ¬ (lV h a).2.2.1≠0:=by
  grind[lV]
 rw[ao d4] at l f;refine⟨gy h.g (lX h a).1 (lX h a).2.1,pN (J S) (X:=X) (A:=A) (g:=h.g) (by simp) (b_ W [_, _, _]) (fI W) (λi x hx=>W.mp hx) _ _,?_⟩;refine ab (λd5=>⟨trivial,S.res (j:=1) rfl 0 _ λr S=>?_⟩) (λd5=>⟨rfl,rfl,?_⟩)
 ·have d5:iw h (lX h a).1 (lX h a).2.1=true:=d5;rw[av d5] at l f;exact p 7 (by decide) l f ⟨A,W,J S.tail.tail.tail⟩
 have d5: ¬ iw h (lX h a).1 (lX h a).2.1=true:=by
  have d5:iw h (lX h a).1 (lX h a).2.1=false:=d5;rw[d5];decide
 rw[ao d5] at l f;refine aj.of _ (S.fK (X:=X) (A:=A) (g:=h.g) (by simp) (n:=2) rfl) (S.abI 4 5 rfl rfl (by rw[W.gl];decide) W.gk.use a v (c==1) λr S=>?_);have t:(dK h.gr a v (c==1)).length=h.gr.length:=ML _ _ _ _;obtain⟨h1,o⟩: ∃h1,h1=yx h (dK h.gr a v (c==1)):=⟨_,rfl⟩;have P:h1.g=h.g:=by rw[o];rfl
 have BX:h1.s=h.s:=by rw[o];rfl
 have y:Dt A h1:=by rw[o];exact⟨W.jy,W.mp,t.trans W.gl,W.pt,W.gk.take _ _ _⟩
 have S:a9 Q [] F w r h.s ((b2,[aa (lX h a).1,aa (lX h a).2.1,aa (lX h a).2.2.1,.bool (lX h a).2.2.2.1,aa (lX h a).2.2.2.2.1])::(b1,[ax 0,aa 0])::(ba,ik k a b c)::eo Q X A h1 (bj Q A h.g (AF 17)++L)):=by
  rw[o];show a9 Q [] F w r h.s (_:: _:: _::(X.hb,fe Q X A h.g)::(X.gb,mK X.uI (dK h.gr a v (c==1)).length X.c):: _);rw[t];exact S
 refine ab (λd6=>⟨trivial,S.res (j:=1) rfl 0 _ λw8 S=>?_⟩) (λd6=>?_)
 ·have d6:iq h.gr a v (c==1)≠0:=by simpa using d6
  rw[av d6] at f;have e1:dK h.gr a v (c==1)=h.gr:=ao d6;have u:h1=h:=by rw[o,e1];rfl
  rw[u] at S;exact p _ d6 l f ⟨A,W,J S.tail.tail.tail⟩
 have d6: ¬ iq h.gr a v (c==1)≠0:=by
  grind
 rw[ao d6] at f;have R:iT h v a b c=if nF h v a b c=0 then fR h v a b c else AY h v a b c:=ao (by rw[l];exact d6);have mem: ∀{T:List (Nat×List AC)},(X.hb,fe Q X A h.g)∈T++eo Q X A h1 (bj Q A h.g (AF 17)++L):=λ{T}=>Ae T (by rw[o];exact Aq);have U:=λ{T} i v hv x hx=>by
  have:=b_ (Q:=Q) (X:=X) (L:=L) y T i v (by rw[P];exact hv) x hx;rw[P] at this;exact this
 have hq:=EB h.g h.s (lX h a).1 (lX h a).2.1;refine ab (λd7=>⟨rfl,rfl,⟨rfl,by omega,by show v<((17:Nat):Int);omega⟩,?_⟩) (λd7=>⟨rfl,rfl,⟨rfl,by omega,by show v<((17:Nat):Int);omega⟩,?_⟩)
 ·have z:(orI .i64 1 2)=wR c:=by
   unfold wR;rw[av (by simpa using d7)];decide
  obtain⟨g1,B,g3,j,hj⟩:=S.tg (X:=X) (A:=A) (g:=h.g) (mem (T:=[_, _, _])) (U (T:=[_, _, _])) q;refine aj.of _ g1 ⟨rfl,rfl,aj.of _ B ?_⟩;have T:=Jx W hx hv I M q E t o y J S f R kk;rw[<-z] at T;exact T
 ·have z:(1:Int)=wR c:=by
   unfold wR;rw[ao (by simpa using d7)]
  obtain⟨g1,B,g3,j,hj⟩:=S.tg (X:=X) (A:=A) (g:=h.g) (mem (T:=[_, _, _])) (U (T:=[_, _, _])) q;refine aj.of _ g1 ⟨rfl,rfl,aj.of _ B ?_⟩;have T:=Jx W hx hv I M q E t o y J S f R kk;rw[<-z] at T;exact T
end
def Av (l:List Int):Int:=l.foldl (λm x=>kT m x) 65536
theorem xK (a b:Int):kT a b<=a/\kT a b<=b/\(kT a b=a\/kT a b=b):=by
 unfold kT;split<;>omega
theorem zg: ∀(l:List Int) (m:Int),l.foldl (λm x=>kT m x) m<=m/\(∀x∈l,l.foldl (λm x=>kT m x) m<=x)/\(l.foldl (λm x=>kT m x) m=m\/l.foldl (λm x=>kT m x) m∈l)
 |[],m=>⟨Int.le_refl _,λx hx=>(by cases hx),.inl rfl⟩
 |y::l,m=>by
  obtain⟨h1,b,a⟩:=zg l (kT m y);obtain⟨c,d,e⟩:=xK m y;rw[G1];refine⟨Int.le_trans h1 c,λx hx=>?_,?_⟩
  ·rcases Dw.1 hx with rfl|hx
   ·exact Int.le_trans h1 d
   ·exact b x hx
  ·rcases a with a|a
   ·rcases e with k|k
    ·exact .inl (a.trans k)
    ·exact .inr (Dw.2 (.inl (a.trans k)))
   ·exact .inr (Ar _ a)
theorem MM {l:List Int} {m:Int} (h1:m<=65536) (c: ∀x∈l,m<=x) (b:m=65536\/m∈l):m=Av l:=by
 obtain⟨e,d,a⟩:=zg l 65536;unfold Av;rcases b with b|b
 ·rcases a with a|a
  ·omega
  ·have:=c _ a;omega
 ·have:=d _ b;rcases a with a|a
  ·omega
  ·have:=c _ a;omega
theorem BH {es:List B4} {e:B4} (he:e∈es) (seen:Array Nat) (hs:seen.contains e.born=false):
 (es.filter λx=> !(seen.push e.born).contains x.born).length<(es.filter λx=> !seen.contains x.born).length:=by
 induction es with
 |nil=>cases he
 |cons y es a=>
  have mono: ∀l:List B4,(l.filter λx=> !(seen.push e.born).contains x.born).length<=(l.filter λx=> !seen.contains x.born).length:=λl=>by
   rw[<-Ip, <-Ip];refine List.countP_mono_left λx _ hx=>?_;simp only[Hb,Ks,E5] at hx ⊢
   simp_all
  rcases Dw.1 he with rfl|he
  ·rw[IB (by simp),List.filter_cons_of_pos (by simpa using hs)];have:=mono es;simp only[GH];omega
  ·have:=a he;rw[Iy,Iy];by_cases h1:(!(seen.push e.born).contains y.born)=true
   ·have b:(!seen.contains y.born)=true:=by
     simp only[Hb,Ks,E5] at h1 ⊢
     simp_all
    rw[av h1,av b];simp only[GH];omega
   ·rw[ao h1];split
    ·simp only[GH];omega
    ·exact this
section
variable {Q:Sys} {X:HX} {D G:List Nat} {w0 w:A0} {s:WD} {L0:List (Nat×List AC)} {M:List (Nat×Bx)} {es:List B4} {ck bm bg:Nat} {pt:Option AJ} {tk:List TK}
theorem MN (H:SM Q D G w0 w s L0 M) (J:(bg,[ah pt,.map (some bm)])∈L0) (m:(bm,Obj.map ⟨es⟩ ck)∈M) (L:qQ es ck tk) {K:Int->A0->Prop} (kk: ∀d,SM Q D G w0 d s L0 M->K (Av (tk.map (·.1))) d):
 aA A2 168 (.el (.one (.int .i64))) [ah (ae bg)] w K:=by
 obtain⟨⟨p,y,z⟩,A,N, _⟩:=L;have O: ∀e∈es, ∃t∈tk,e.key=aa t.1:=λe a=>by
  have:(e.key,e.val)∈p.map Au:=by rw[<-z];exact B2.2 ⟨e,a,rfl⟩
  obtain⟨t,c,r⟩:=B2.1 this;exact⟨t,y.mem_iff.1 c,(congrArg (·.1) r).symm⟩
 have P: ∀t∈tk, ∃e∈es,e.key=aa t.1:=λt c=>by
  have:Au t∈es.map λe=>(e.key,e.val):=by rw[z];exact B2.2 ⟨t,y.mem_iff.2 c,rfl⟩
  obtain⟨e,a,r⟩:=B2.1 this;exact⟨e,a,congrArg (·.1) r⟩
 refine H.go λw1 H=>ai (C:=V0) (aW:=rA) (AM (Mm _ w1 K) ?_);obtain⟨j,f⟩:=B1 J;refine⟨rfl,rfl,H.base.cz j f rfl λd g=>?_⟩;have H:=H.ext g;have R:bI d bm ⟨es⟩ ck:=H.get m;refine⟨_, _, _,rfl,R,?_⟩;have H:=H.alloc (o:= .mapIter (some bm) ck #[] ck) trivial;obtain⟨b,hb⟩: ∃b,b=d.heap.size:=⟨_,rfl⟩;rw[<-hb] at H ⊢;refine⟨λn q w'=> ∃seen:Array Nat,SM Q D G w0 w' s L0 ((b,.mapIter (some bm) ck seen ck)::M)/\n=(es.filter λx=> !seen.contains x.born).length/\q.1<=65536/\(∀e∈es, ∀x,e.key=aa x->seen.contains e.born=true->q.1<=x)/\(q.1=65536\/q.1∈tk.map (·.1)),⟨_,λS k=>⟨#[],H.ext k,rfl,Int.le_refl _,λe _ x _ hs=>(by simp at hs),.inl rfl⟩⟩,?_⟩;clear H;rintro n ⟨q,u⟩ S ⟨seen,H,T,h1,g,k⟩;dsimp only at h1 g k ⊢;intro w4 U;have H:=H.ext U;refine⟨b,bm,ck,seen,ck,⟨es⟩,ck,rfl,H.get Aq,H.get (Ar _ m),Dq _,N,λhs V v=>?_,λe a hs V v=>?_⟩
 ·refine(H.ext v).en λB H=>?_;have l:q=Av (tk.map (·.1)):=MM h1 (λx hx=>by
   obtain⟨t,c,rfl⟩:=B2.1 hx;obtain⟨e,E,W⟩:=P t c;exact g e E _ W (hs e E)) k
  rw[l];exact kk B (H.FR (BW _ _))
 ·have a:e∈es:=a;obtain⟨t,c,F⟩:=O e a;have H:=(H.ext v).put (i:=0) rfl (o':= .mapIter (some bm) ck (seen.push e.born) ck) trivial;refine⟨t.1,e.val,⟨b,bm,ck,seen,⟨es⟩,ck,e,rfl,H.get Aq,H.get (Ar _ m),a,A,F.symm,rfl⟩,λB X=>?_⟩;refine⟨_,?_,seen.push e.born,H.ext X,rfl,?_,?_,?_⟩
  ·rw[T];exact BH a seen hs
  ·have:=xK q t.1;omega
  ·intro e' I x hx Y;have Z:=xK q t.1;by_cases h:seen.contains e'.born=true
   ·have:=g e' I x hx h;show kT q t.1<=x;omega
   ·have qF:e'.born=e.born:=by
     rw[Hb] at Y
     simp_all
    have acw:e'=e:=by
     obtain⟨i,hi⟩:=B1 I;obtain⟨j,f⟩:=B1 a;have z8:(es.map (·.born))[i]? =some e.born:=by rw[Cj,hi];exact congrArg some qF
     have AG:(es.map (·.born))[j]? =some e.born:=by rw[Cj,f];rfl
     have:=(F8 (by rw[B5];exact(Ci.1 hi).1) A).1 (z8.trans AG.symm);subst this;rw[hi] at f;cases f;rfl
    subst acw;rw[F] at hx;cases hx;show kT q t.1<=t.1;exact Z.2.1
  ·rcases(xK q t.1).2.2 with l|l
   ·show kT q t.1=65536\/ _;rw[l];exact k
   ·show kT q t.1=65536\/kT q t.1∈ _;rw[l];exact .inr (B2.2 ⟨t,c,rfl⟩)
end
end Go.Proofs.YtlcenllcmeebhaaGreat
namespace Go.Proofs.YtlcenllcmeebhaaGreat.Mu
set_option maxRecDepth 100000
open Go.RX
section
variable {D G:List Nat} {w0 w:A0} {L Ls:List (Nat×List AC)} {M:List (Nat×Bx)} {es:List B4} {mb ck:Nat} {wl:List (Int×Int)}
theorem BI (H:cD D G w0 w L ((mb,.map ⟨es⟩ ck)::M)) (hv:iN es ck (wl.map FD)) (hl:(wl.length:Int)<=1000000) {is:Int->Bool} {Q:Int->A0->Bool->Prop}
 (Y: ∀{w' d Z},cD D G w0 w' (d++L) Z-> ∀e∈wl,Q e.2 w' (is e.2)) {K:Option AJ×Nat×Nat->A0->Prop}
 (k: ∀r R d c,R.Pairwise (· <= ·)->R.Perm ((wl.filter λe=>is e.2).map (·.1))->dv eI r R d->cD D G w0 c (d++L) ((mb,.map ⟨es⟩ ck)::M)->K r c):
 RgP w (some mb) λb c=> ∃I:Nat->(Option AJ×Nat×Nat)×Unit->A0->Prop,(∃n, ∀w1,Ext c w1->I n ((none,0,0),()) w1)/\ ∀(n:Nat) (s:(Option AJ×Nat×Nat)×Unit) (w1:A0),I n s w1->
  NxP w1 (ae b) (λc=>au c λw1=>K (s.1.1,s.1.2.1,s.1.2.2) w1) λ_ _ c=> ∃x y:Int,Aj c (ae b) (aa x) (aa y)/\ ∃N:Bool,Q y c N/\
   aG (!N) (∀g,Ext c g-> ∃h,h<n/\I h ((s.1.1,s.1.2.1,s.1.2.2),()) g)
    (aN c ⟨[aa x]⟩ 3 λb c=> ∀w1,Ext c w1->mJ w1 3 1 8 ⟨[aa 0]⟩ (s.1.1,s.1.2.1,s.1.2.2) (some ⟨b,0,none⟩,1,1) λr c=>
     ∃v:Nat->Int×Unit->A0->Prop,(∃n, ∀w1,Ext c w1->v n (((s.1.2.1:Nat):Int),()) w1)/\ ∀(O:Nat) (s:Int×Unit) (w1:A0),v O s w1->
      (decide (s.1>0)=true->r.1.isSome=true/\0<=a6 .i64 s.1 1/\a6 .i64 s.1 1<((r.2.1:Nat):Int))/\aj w1 (some (decide (s.1>0))) (ad r.1 ((a6 .i64 s.1 1).toNat*1)) eI λ(aO:Int)=>
       aG (decide (s.1>0)&&decide (aO>x)) ((r.1.isSome=true/\0<=a6 .i64 s.1 1/\a6 .i64 s.1 1<((r.2.1:Nat):Int))/\aj w1 none (ad r.1 ((a6 .i64 s.1 1).toNat*1)) eI λ(y:Int)=>
        (r.1.isSome=true/\0<=s.1/\s.1<((r.2.1:Nat):Int))/\aC w1 (ad r.1 (Int.toNat s.1*1)) [aa y] λc=> ∀g,Ext c g-> ∃h,h<O/\v h (a6 .i64 s.1 1,()) g)
        ((r.1.isSome=true/\0<=s.1/\s.1<((r.2.1:Nat):Int))/\aC w1 (ad r.1 (Int.toNat s.1*1)) [aa x] λc=> ∀g,Ext c g-> ∃h,h<n/\I h ((r.1,r.2.1,r.2.2),()) g)):=by
 obtain⟨Yq,he2⟩:=hv.aci;have P:=hv.2.1;have hck:=hv.2.2.1;have hlen:es.length=wl.length:=by
  obtain⟨⟨p,z,A⟩, _⟩:=hv;have B:=congrArg F6 A;have C:=z.length_eq;simp only[B5] at B C;omega
 intro w1 h1;have H:=H.ext h1;refine⟨mb,⟨es⟩,ck,rfl,H.get (i:=0) rfl,?_⟩;have H:=H.alloc (o:= .mapIter (some mb) ck #[] ck) trivial;obtain⟨b,hb⟩: ∃b,b=w1.heap.size:=⟨_,rfl⟩;rw[<-hb] at H ⊢;refine⟨λn q w'=> ∃(seen:Array Nat) (d:List (Nat×List AC)) (R:List Int),cD D G w0 w' (d++L) ((b,.mapIter (some mb) ck seen ck)::(mb,.map ⟨es⟩ ck)::M)/\n=(es.filter λx=> !seen.contains x.born).length/\dv eI q.1 R d/\R.Pairwise (· <= ·)/\
  R.Perm ((es.filter λx=>seen.contains x.born&&is (kI x.val)).map λx=>kI x.key),⟨_,λg h3=>⟨#[],[],[],H.ext h3,rfl,dv.nil eI,List.Pairwise.nil,?_⟩⟩,?_⟩
 ·simp_all
 clear H;rintro n ⟨q,u⟩ g ⟨seen,d,R,H,hn,hs,E,F⟩;dsimp only at hs ⊢;have hRl:R.length<=es.length:=by
  rw[F.length_eq,B5];exact J3 _ _
 intro w4 h4;have H:=H.ext h4;refine⟨b,mb,ck,seen,ck,⟨es⟩,ck,rfl,H.get (i:=0) rfl,H.get (i:=1) rfl,Dq _,hck,λmL w5 J j m=>?_,λe l S w5 J=>?_⟩
 ·refine k q R d j E (F.trans ?_) hs (((H.ext J).ext m).FR (BW _ _));have B:(es.filter λx=>seen.contains x.born&&is (kI x.val))=es.filter λx=>is (kI x.val):=GJ λx hx=>by rw[mL x hx,Bool.true_and]
  rw[B];obtain⟨⟨p,z,A⟩, _⟩:=hv;have C:(es.filter λx=>is (kI x.val)).map (λx=>kI x.key)=((es.map λe=>(e.key,e.val)).filter λt=>is (kI t.2)).map λt=>kI t.1:=by
   rw[FJ,FS];rfl
  have e3:((p.map kvE).filter λt=>is (kI t.2)).map (λt=>kI t.1)=(p.filter λt=>is (kI t.2)).map (·.1):=by
   rw[FJ,FS];rfl
  have e4:(((wl.map FD).filter λt=>is (kI t.2)).map (·.1):List Int)=(wl.filter λe=>is e.2).map (·.1):=by
   rw[FJ,FS];rfl
  rw[C,A,e3, <-e4];exact(z.filter _).map _
 ·have l:e∈es:=l;obtain⟨t,ht,T,U⟩:=Yq e l;obtain⟨a,ha,rfl⟩:=B2.1 ht;have H:=(H.ext J).put (i:=0) rfl (o':= .mapIter (some mb) ck (seen.push e.born) ck) trivial;have V:(es.filter λx=> !(seen.push e.born).contains x.born).length<n:=by rw[hn];exact BH l seen S
  have WW:=Be (f:=λx=>is (kI x.val)) S P l;have hke:kI e.key=a.1:=by rw[T];rfl
  have hve:kI e.val=a.2:=by rw[U];rfl
  refine⟨a.1,a.2,⟨b,mb,ck,seen,⟨es⟩,ck,e,rfl,H.get (i:=0) rfl,H.get (i:=1) rfl,l,P,T.symm,U.symm⟩,is a.2,Y H a ha,?_⟩;cases hi:is a.2 with
  |false=>
   refine aB rfl λj m=>⟨_,V,seen.push e.born,d,R,H.ext m,rfl,hs,E,?_⟩
   grind
  |true=>
   rw[hve,hi,av rfl] at WW;refine an rfl λj m w7 h7=>?_;have W:=by
    have X:=H.ext m;have K6:=X.join (L':=(j.heap.size,[aa a.1])::(d++L)) (w1:=j.alloc (.cells ⟨[aa a.1]⟩ 3)) (X.base.again.alloc _ _);exact(K6.perm B3).ext h7
   refine Fw W hs rfl (q:=(some ⟨j.heap.size,0,none⟩,1,1)) (ys:=[a.1]) rfl (sd (e:=eI) (x:=a.1) (W.base.dj _ (Ae _ Aq))) rfl rfl (by simp only[GS];omega) λr cK w8 fD H8=>?_;refine Qt H8 fD E (by omega) (by rw[hs.1]) λYc R' w9 hR' TY TX H9=>⟨_,V,seen.push e.born,Yc,R',H9.sub (by grind),rfl,TX,hR',?_⟩;refine(TY.trans (DE _ F)).trans ?_
   grind
theorem MO (H:cD D G w0 w L ((mb,.map ⟨es⟩ ck)::M)) (hv:iN es ck (wl.map FD)) (d:(wl.length:Int)<=1000000) {now:Int} {s:Option AJ×Nat×Nat} {c eb:Nat} (hc:(c,[ah (ae eb)])∈L) (f:(eb,oN now s mb)∈L) (g: ∀e∈wl,0<=e.2/\e.2<=now) (n:now<4611686018427387904)
 {K:Option AJ×Nat×Nat->A0->Prop} (k: ∀r R a b,R.Pairwise (· <= ·)->R.Perm ((wl.filter λe=>decide (e.2+2<=now)).map (·.1))->dv eI r R a->cD D G w0 b (a++L) ((mb,.map ⟨es⟩ ck)::M)->K r b):
 aA A2 115 (.el (.one .slice)) [.map (some mb),.func (.func 236) #[] #[ah (ae c)]] w K:=by
 refine λw1 h1=>ai (C:=U1) (aW:=rb) (AM (KR _ _ w1 K) ?_);refine BI (H.ext h1) hv d (is:=λy=>decide (y+2<=now)) (λ{w' a o} H e h=>?_) k;refine af.of λb i=>ai (C:=U0) (aW:=λ_=>[]) (AM (KP _ _ b _) ?_);have H:=(H.ext i).base;have hb:=g e h;obtain⟨j,l⟩:=B1 (Ae a hc);refine aj.at j H l (rfl) ⟨rfl,rfl,aj.kV H (Ae a f) (rfl) λp m=>⟨?_,m⟩⟩;rw[ay (by omega) (by omega)]
theorem MP (H:cD D G w0 w L ((mb,.map ⟨es⟩ ck)::M)) (hv:iN es ck (wl.map FD)) (f:(wl.length:Int)<=1000000)
 {K:Option AJ×Nat×Nat->A0->Prop} (k: ∀r R c d,R.Pairwise (· <= ·)->R.Perm (wl.map (·.1))->dv eI r R c->cD D G w0 d (c++L) ((mb,.map ⟨es⟩ ck)::M)->K r d):
 aA A2 115 (.el (.one .slice)) [.map (some mb),.func (.func 116) #[] #[]] w K:=by
 refine λw1 h1=>ai (C:=U1) (aW:=rh) (AM (KS _ w1 K) ?_);refine BI (H.ext h1) hv f (is:=λ_=>true) (λ{w' c g} H e h=>?_) (λr R c d a b=>k r R c d a (by rw[FB.2 (λ_ _=>rfl)] at b;exact b));exact af.of λd i=>ai (C:=U0) (aW:=λ_=>[]) (by grind[AM,KQ])
theorem Ss (H:cD D G w0 w L ((mb,.map ⟨es⟩ ck)::M)) (hv:iN es ck (wl.map FD)) (h:(wl.length:Int)<=1000000) {now:Int} {s:Option AJ×Nat×Nat} {eb:Nat} (g:(eb,oN now s mb)∈L)
 {K:Option AJ×Nat×Nat->A0->Prop} (k: ∀r R e f,R.Pairwise (· <= ·)->R.Perm (wl.map (·.1))->dv eI r R e->cD D G w0 f (e++L) ((mb,.map ⟨es⟩ ck)::M)->K r f):
 aA A2 69 (.el (.one .slice)) [ah (ae eb)] w K:=by
 refine λw1 h1=>ai (AM (Qq _ w1 K) ?_);have H:=H.ext h1;refine⟨_,m6 H.base g,an rfl ⟨rfl,rfl,aj.kV H.base g rfl ?_⟩⟩;exact MP H hv h λr R e f a b c d=>λi j=>k r R e i a b c (d.ext j)
theorem Su (H:cD D G w0 w L ((mb,.map ⟨es⟩ ck)::M)) (hv:iN es ck (wl.map FD)) (U:(wl.length:Int)<=1000000) {now:Int} {s:Option AJ×Nat×Nat} {eb:Nat} (V:(eb,oN now s mb)∈L) (W: ∀e∈wl,0<=e.2/\e.2<=now) (X:now<4611686018427387904)
 {K:Option AJ×Nat×Nat->A0->Prop} (k: ∀r R d a g,R.Pairwise (· <= ·)->R.Perm ((wl.filter λe=>decide (e.2+2<=now)).map (·.1))->dv eI r R d->iN a ck ((wl.filter λe=> !decide (e.2+2<=now)).map FD)->
  cD D G w0 g (d++L) ((mb,.map ⟨a⟩ ck)::M)->K r g):
 aA A2 198 (.el (.one .slice)) [ah (ae eb)] w K:=by
 refine λw1 h1=>ai (C:=U0) (aW:=ug) (AM (Qo _ w1 K) λg p=>?_);have H:=(H.ext h1).ext p;obtain⟨b,hb⟩: ∃b,b=g.heap.size:=⟨_,rfl⟩;have H:=H.join (L':=(b,[ah (ae eb)])::L) (w1:=g.alloc (.cells ⟨[ah (ae eb)]⟩ 98)) (by rw[hb];exact H.base.again.alloc _ _);rw[<-hb];have l:(eb,oN now s mb)∈(b,[ah (ae eb)])::L:=Ar _ V;refine aj.at 0 H.base rfl (show _=some (some (⟨eb,0,none⟩:AJ)) from rfl) ⟨_,m6 H.base l,an rfl (aj.at 0 H.base rfl (show _=some (some (⟨eb,0,none⟩:AJ)) from rfl) ⟨rfl,rfl,aj.kV H.base l (show _=some (some mb) from rfl) ?_⟩)⟩;refine MO H hv U (c:=b) Aq l W X λr R d E Y m hs H=>?_;have F:=hs.1;have I:(wl.map (·.1)).Nodup:=by
  have:=hv.2.2.2;rw[FS] at this;exact this
 have hRl:R.length<=wl.length:=by
  rw[m.length_eq,B5];exact J3 _ _
 have Z:R.Nodup:=by
  refine m.nodup_iff.2 ?_;exact I.sublist (IP.map _)
 have J: ∀f,f∈R<-> ∃e∈wl,e.1=f/\e.2+2<=now:=λf=>by
  rw[m.mem_iff,B2];constructor
  grind
  ·rintro⟨e,h,rfl,c⟩;exact⟨e,Ga.2 ⟨h,by simpa using c⟩,rfl⟩
 refine⟨λn st q=> ∃(j:Nat) (a:List B4),j<=R.length/\n=R.length - j/\st.1=(j:Int)/\iN a ck ((wl.filter λe=> !(R.take j).contains e.1).map FD)/\cD D G w0 q (d++((b,[ah (ae eb)])::L)) ((mb,.map ⟨a⟩ ck)::M),⟨R.length,λq h4=>⟨0,es,E4 _,rfl,rfl,?_,H.ext h4⟩⟩,?_⟩
 ·have:(wl.filter λe=> !(R.take 0).contains e.1)=wl:=FB.2 λ_ _=>rfl;rw[this];exact hv
 rintro n ⟨i, _⟩ q ⟨j,a,N,qH,hi,u,H⟩;have hi:i=(j:Int):=hi;subst hi qH;dsimp only;rw[F];have hmb:(b,[ah (some (⟨eb,0,none⟩:AJ))])∈d++((b,[ah (ae eb)])::L):=Ae _ Aq;have hme:(eb,oN now s mb)∈d++((b,[ah (some (⟨eb,0,none⟩:AJ))])::L):=Ae _ l;obtain⟨jb,hjb⟩:=B1 hmb;refine ab (λc=>?_) (λc=>?_)
 ·have N:j<R.length:=by have:=of_decide_eq_true c;omega
  obtain⟨x,hx⟩: ∃x,R[j]? =some x:=⟨_,DA N⟩;have O:=hs.sl H.base (λy o=>Cg _ o) j x hx;refine⟨⟨O.1,by omega,by omega⟩,aj.of x (by rw[DL];exact O.2) (aj.at jb H.base hjb (show _=some (some (⟨eb,0,none⟩:AJ)) from rfl) ⟨rfl,rfl,aj.kV H.base hme (show _=some (some mb) from rfl) λP v=>?_⟩)⟩;have H:=H.ext v;obtain⟨e,hew,Q,hed⟩:=(J x).1 (Ct hx);have hxn:x∉R.take j:=λhm=>by
   obtain⟨i,hi⟩:=B1 hm;have z:i<(R.take j).length:=(Ci.1 hi).1;rw[Dn] at z;rw[List.getElem?_take_of_lt (by omega)] at hi;have:=(F8 (by omega) Z).1 (hi.trans hx.symm);omega
  have lU:(x,aa e.2)∈(wl.filter λe=> !(R.take j).contains e.1).map FD:=B2.2 ⟨e,Ga.2 ⟨hew,by rw[Q];simpa using hxn⟩,by rw[<-Q]⟩;obtain⟨i,hf,z,S⟩:=u.FA lU;refine⟨mb,⟨a⟩,ck,rfl,H.get (i:=0) rfl,?_⟩;unfold Ai;rw[hf];have e1:(Array.mk a).eraseIdxIfInBounds i=⟨a.eraseIdx i⟩:=by
   apply Array.ext';simp[LL,z]
  have H:=H.put (i:=0) rfl (o':= .map ⟨a.eraseIdx i⟩ ck) trivial;show∀E,Ext _ E-> _;rw[e1];refine λw6 h6=>⟨R.length - (j+1),by omega,j+1,a.eraseIdx i,by omega,rfl,?_,?_,H.ext h6⟩
  ·rw[ay (by omega) (by omega)];omega
  ·have A:(((wl.filter λe=> !(R.take j).contains e.1).map FD).filter λt=> !(t.1==x))=(wl.filter λe=> !(R.take (j+1)).contains e.1).map FD:=by
    rw[FJ,List.filter_filter];congr 1;refine GJ λy _=>?_;rw[List.take_add_one,hx]
    grind
   rw[A] at S;exact S
 ·have:j=R.length:=by have:=of_decide_eq_false c;omega
  subst this;refine λP v=>k _ R d a P Y m (by rw[<-F];exact hs) ?_ ((H.ext v).sub (Fz (BW _ _) _));have A:(wl.filter λe=> !(R.take R.length).contains e.1)=wl.filter λe=> !decide (e.2+2<=now):=GJ λy o=>by
   rw[List.take_length];congr 1;rw[Bool.eq_iff_iff,List.contains_iff_mem,decide_eq_true_eq,J];constructor
   ·rintro⟨e,h1,p,h3⟩;have:e=y:=by
     obtain⟨i1,B⟩:=B1 h1;obtain⟨i2,T⟩:=B1 o;have a1:(wl.map (·.1))[i1]? =some y.1:=by rw[Cj,B];exact congrArg some p
     have a2:(wl.map (·.1))[i2]? =some y.1:=by rw[Cj,T];rfl
     have:=(F8 (by rw[B5];exact(Ci.1 B).1) I).1 (a1.trans a2.symm);subst this;exact Option.some.inj (B.symm.trans T)
    rw[<-this];exact h3
   ·exact λh=>⟨y,o,rfl,h⟩
  rw[A] at u;exact u
theorem CH (H:cD D G w0 w L M) (n:Int) {K:Option AJ×Int×Unit->A0->Prop} (kb:n<1\/n>8-> ∀w1,cD D G w0 w1 L M->K (none,1,()) w1)
 (B:1<=n->n<=8-> ∀eb mb s Ls w1,dv eI s (Bs n.toNat (-1)) Ls->cD D G w0 w1 ((eb,oN 0 s mb)::(Ls++L)) ((mb,.map ⟨[]⟩ 0)::M)->K (some ⟨eb,0,none⟩,0,()) w1):
 aA A2 84 (.bA [.one .ptr,.one (.int .i64)]) [aa n] w K:=by
 refine λw1 h1=>ai (C:=U0) (aW:=vZ) (AM (CF n w1 K) ?_);have H:=H.ext h1;refine ab (λc=>λf g=>kb (by simpa using c) f (H.ext g)) (λc f g p E=>?_);have t:1<=n/\n<=8:=by
  grind
 obtain⟨m,rfl⟩: ∃m:Nat,n=(m:Int):=⟨n.toNat,by omega⟩;have H:=((H.ext g).alloc (o:= .map #[] 0) trivial).ext E;obtain⟨mb,F⟩: ∃b,b=f.heap.size:=⟨_,rfl⟩;rw[<-F] at H ⊢;obtain⟨eb,u⟩: ∃b,b=p.heap.size:=⟨_,rfl⟩;have H:=H.join (L':=(eb,oN 0 (none,0,0) mb)::L) (w1:=p.alloc (.cells ⟨[aa 0,.slice none 0 0,.map (some mb)]⟩ 210)) (by rw[u];exact H.base.again.alloc _ _);rw[<-u];refine⟨λn st h=> ∃(j:Nat) (s:Option AJ×Nat×Nat) (Ls:List (Nat×List AC)),j<=m/\n=m - j/\st.1=(j:Int)/\dv eI s (Bs j (-1)) Ls/\cD D G w0 h (Ls++((eb,oN 0 s mb)::L)) ((mb,.map ⟨[]⟩ 0)::M),⟨m,λh I=>⟨0,(none,0,0),[],E4 _,rfl,rfl,dv.nil eI,H.ext I⟩⟩,?_⟩;clear H;rintro n ⟨i, _⟩ h ⟨j,s,Ls,J,N,hi,hs,H⟩;have hi:i=(j:Int):=hi;subst hi N;dsimp only;have O:(eb,oN 0 s mb)∈Ls++((eb,oN 0 s mb)::L):=Ae _ Aq;refine ab (λc=>?_) (λc=>?_)
 ·have J:j<m:=by have:=of_decide_eq_true c;omega
  refine⟨rfl,rfl,aj.kV H.base O (show _=some (s.1,s.2.1,s.2.2) from rfl) λa k U P=>?_⟩;have v:=by
   have y:=H.ext k;have Q:=y.join (w1:=a.alloc (.cells ⟨[aa (-1)]⟩ 3)) (y.base.again.alloc _ _);exact(Q.perm B3).ext P
  refine Fw v hs rfl (q:=(some ⟨a.heap.size,0,none⟩,1,1)) (ys:=[(-1:Int)]) rfl (sd (e:=eI) (x:=(-1:Int)) (v.base.dj _ (Ae _ Aq))) rfl rfl (by grind) λr l V R d=>⟨rfl,rfl,?_⟩;have d:=(d.sub (Fz (BW _ _) l)).perm (L':=(eb,oN 0 s mb)::(l++L)) B3.symm;refine λz A=>?_;have key:=aC.gP (b:=eb) (o:=0) (n:=1) 0 (d.ext A).base.again rfl (x:= .slice r.1 r.2.1 r.2.2) rfl rfl (λW S=>(d.ext A).join S) z (Ext.refl z);refine⟨key.1,λX T=>⟨m - (j+1),by omega,j+1,r,l,by omega,rfl,?_,?_,(key.2.ext T).perm B3⟩⟩
  ·rw[ay (by omega) (by omega)];omega
  ·rw[J4];exact R
 ·have:j=m:=by have:=of_decide_eq_false c;omega
  subst this;refine λa k=>B t.1 t.2 eb mb s Ls a ?_ ((H.ext k).perm B3.symm);rw[DL];exact hs
end
abbrev s7:Type:=Int×Int×Int×Unit
abbrev eC:El:= .one .chan
abbrev NP (a:s7):AC:= .agg ⟨[aa a.1,aa a.2.1,aa a.2.2.1]⟩
abbrev CR:Type:=Nat×Nat×Nat
abbrev cO (c:CR) (q:List s7):Nat×Bx:=(c.1,.chan 16 ⟨q.map NP⟩ false c.2.1 c.2.2 false)
abbrev rI (cs:List CR) (bx:List (List s7)):List (Nat×Bx):=List.zipWith cO cs bx
abbrev dH (cs:List CR):List (Option Nat):=cs.map λc=>some c.1
abbrev lY (sb so:Option AJ×Nat×Nat):List AC:=[.slice sb.1 sb.2.1 sb.2.2,.slice so.1 so.2.1 so.2.2]
theorem Jy {cs:List CR} {bx:List (List s7)} {k:Nat} {c:CR} {q:List s7}:(rI cs bx).set k (cO c q)=rI (cs.set k c) (bx.set k q):=by
 induction cs generalizing bx k with
 |nil
 |cons=>
  cases bx with
  |nil
  |cons=>
   cases k with
   |zero
   |succ=>simp_all
theorem xL {cs:List CR} {bx:List (List s7)} {k:Nat} {c:CR} {q:List s7} (h1:cs[k]? =some c) (a:bx[k]? =some q):(rI cs bx)[k]? =some (cO c q):=by
 grind
theorem _root_.Go.Proofs.YtlcenllcmeebhaaGreat.dv.sub {D G:List Nat} {w0 w:A0} {L Ls:List (Nat×List AC)} {e:El} {s:Option AJ×Nat×Nat} {xs:List e.T} (h:dv e s xs Ls) (H:aM D G w0 w L) (a: ∀x∈Ls,x∈L) {lo n:Nat} (j:lo+n<=xs.length):
 Go.RX.oP w (ad s.1 (lo*aD e)) (n*aD e) (flat e ((xs.drop lo).take n)):=by
 obtain⟨h1,k,⟨a1,b⟩|⟨bs,rest,a1,c,b⟩⟩:=h
 ·have:xs=[]:=List.eq_nil_of_length_eq_zero (by omega);subst this;rw[a1,List.drop_nil,List.take_nil];rfl
 ·rw[a1,aY,Nat.zero_add];have d:(flat e ((xs.drop lo).take n)).length=n*aD e:=by rw[aF,Dn,Gd,H7 (by omega)]
  refine bO.oP (H.dj _ (a _ (by rw[c];exact Hq.2 rfl))) d λi hi=>?_;have f:flat e xs=flat e (xs.take lo)++(flat e ((xs.drop lo).take n)++flat e ((xs.drop lo).drop n)):=by
   rw[<-dO, <-dO,GD,GD]
  have g:(flat e (xs.take lo)).length=lo*aD e:=by rw[aF,Dn,H7 (by omega)]
  rw[f,DB,GG (by grind),g,Nat.add_sub_cancel_left,DB,Gi (by grind)]
section
variable {D G:List Nat} {w0 w:A0} {L Lb Lo:List (Nat×List AC)} {M:List (Nat×Bx)} {sb so:Option AJ×Nat×Nat} {cs:List CR} {bx:List (List s7)} {op:List Int} {xb:Nat}
theorem Gv (H:aM D G w0 w L) (a:(xb,lY sb so)∈L) (b:sb.2.1=cs.length) (i:Int):af A2 106 [ah (ae xb),aa i] w (.bool (decide (0<=i/\i<(cs.length:Int)))):=by
 refine af.of (s:= .el _) λw' h'=>ai (AM (UL _ _ w' _) ?_);refine⟨λ_=>rfl,λ_=>rfl,aj.kV (H.ext h') a rfl λw1 h1=>⟨?_,h1⟩⟩
 grind
theorem Sv (H:cD D G w0 w (Lb++L) M) (a:(xb,lY sb so)∈L) (hs:dv eC sb (dH cs) Lb) (b: ∀x∈rI cs bx,x∈M) {i:Nat} {c:CR} {q:List s7} (hc:cs[i]? =some c) (d:bx[i]? =some q):
 af A2 82 [ah (ae xb),aa (i:Int)] w (aa (q.length:Int)):=by
 refine af.of (s:= .el (.one (.int .i64))) λw' h'=>ai (C:=U0) (aW:=λ_=>[]) (AM (KM _ _ w' _) ?_);have H:=H.ext h';have e:sb.2.1=cs.length:=by rw[hs.1,B5]
 have hi:i<cs.length:=(Ci.1 hc).1;have f:=hs.sl H.base (λy g=>Cg _ g) i (some c.1) (by rw[Cj,hc];rfl);refine⟨_,Gv H.base (Ae _ a) e _,an (by rw[decide_eq_true (by omega)];rfl) ⟨rfl,rfl,aj.kV H.base (Ae _ a) (rfl) ⟨by grind,aj.of (some c.1) (by dsimp only;rw[DL];exact f.2) ?_⟩⟩⟩;have h:=(H.obj _ (b _ (Ct (xL hc d)))).1;exact⟨q.length,⟨c.1,16,q.map NP,c.2.1,c.2.2,rfl,h,by rw[B5]⟩,λk j=>⟨rfl,j⟩⟩
def O1 (op:List Int) (a:Int):Bool:=decide (1<=a/\a<=(op.length:Int))&&op.getD (a - 1).toNat 0==0
theorem Wa (H:aM D G w0 w (Lo++L)) (b:(xb,lY sb so)∈L) (hs:dv eI so op Lo) (i:Int) (hb:i<4611686018427387904):
 af A2 161 [ah (ae xb),aa i] w (.bool (O1 op i)):=by
 refine af.of (s:= .el (.one .bool)) λw' h'=>ai (C:=U0) (aW:=λ_=>[]) (AM (Qn _ _ w' _) ?_);have H:=H.ext h';have f:=hs.1;refine⟨λ_=>rfl,λ_=>rfl,aj.kV H (Ae _ b) (rfl) ⟨λ_=>rfl,λ_=>rfl,aj.kV H (Ae _ b) (rfl) ?_⟩⟩;dsimp only;rw[f];by_cases c:1<=i/\i<=(op.length:Int)
 ·have g:a6 .i64 i 1=i - 1:=bF (by omega) (by omega);have hx:op[(i - 1).toNat]? =some (op.getD (i - 1).toNat 0):=by rw[Ds,DA (by omega)];rfl
  have d:=hs.sl H (λy j=>Cg _ j) _ _ hx;rw[g];refine⟨λ_=>⟨d.1,by omega,by omega⟩,aj.of _ d.2 λk a=>⟨?_,a⟩⟩;unfold O1;rw[decide_eq_true c,decide_eq_true c.2,decide_eq_true (show i>=1 from c.1)];rfl
 ·have e:(!(some (⟨xb,0,none⟩:AJ)).isNone&&decide (i>=1)&&decide (i<=(op.length:Int)))=false:=by
   grind
  rw[e];refine⟨λh=>(by cases h),⟨0,λh=>(by cases h),λk a=>⟨?_,a⟩⟩⟩;unfold O1;rw[decide_eq_false c];rfl
def vN (bx:List (List s7)) (op:List Int) (i:Nat):(s7×Bool×Unit)×List (List s7)×List Int:=match bx[i]? with
 |some (a::q)=>((a,true,()),bx.set i q,op.set (a.1 - 1).toNat (op.getD (a.1 - 1).toNat 0 - 1))
 | _=>(((0,0,0,()),false,()),bx,op)
theorem Sw (H:cD D G w0 w ((xb,lY sb so)::(Lb++(Lo++L))) (rI cs bx++M)) (hs:dv eC sb (dH cs) Lb) (m:dv eI so op Lo) (hcb:cs.length=bx.length) (i:Nat) (hi:i<cs.length)
 (U: ∀a q,bx[i]? =some (a::q)->(1<=a.1/\a.1<=(op.length:Int))/\ -1000<=op.getD (a.1 - 1).toNat 0/\op.getD (a.1 - 1).toNat 0<=1000) (Ys:(op.length:Int)<4611686018427387904) {K:(Int×Int×Int×Unit)×Bool×Unit->A0->Prop}
 (k: ∀u d f,u.length=cs.length->dH u=dH cs->dv eI so (vN bx op i).2.2 d->cD D G w0 f ((xb,lY sb so)::(Lb++(d++L))) (rI u (vN bx op i).2.1++M)->K (vN bx op i).1 f):
 aA A2 66 (.bA [.agg [.int .i64,.int .i64,.int .i64],.one .bool]) [ah (ae xb),aa (i:Int)] w K:=by
 refine λw1 h1=>aS (C:=U0) (aW:=λ_=>[]) (AM (Ql _ _ w1 K) λf V=>?_);have H:=(H.ext h1).ext V;obtain⟨b,hb⟩: ∃b,b=f.heap.size:=⟨_,rfl⟩;have H:=H.join (L':=(b,[aa 0,aa 0,aa 0])::(xb,lY sb so)::(Lb++(Lo++L))) (w1:=f.alloc (.cells ⟨[aa 0,aa 0,aa 0]⟩ 147)) (by rw[hb];exact H.base.again.alloc _ _);rw[<-hb];have W:sb.2.1=cs.length:=by rw[hs.1,B5]
 obtain⟨c,hc⟩: ∃c,cs[i]? =some c:=⟨_,DA hi⟩;obtain⟨q,n⟩: ∃q,bx[i]? =some q:=⟨_,DA (by omega)⟩;have X: ∀{x:Nat×List AC},x∈Lb->x∈(b,[aa 0,aa 0,aa 0])::(xb,lY sb so)::(Lb++(Lo++L)):=λh=>Ar _ (Ar _ (Cg _ h));have J:=hs.sl H.base (λy z=>X z) i (some c.1) (by rw[Cj,hc];rfl);refine⟨_,Gv H.base (Ar _ Aq) W _,an (by rw[decide_eq_true (by omega)];rfl) ⟨rfl,rfl,aj.cw 1 H.base rfl (show _=some (sb.1,sb.2.1,sb.2.2) from rfl) ⟨⟨J.1,by omega,by dsimp only;omega⟩,aj.of (some c.1) (by dsimp only;rw[DL];exact J.2) λw3 Y=>?_⟩⟩⟩;have H:=H.ext Y;have A:=xL hc n;have N:(rI cs bx++M)[i]? =some (cO c q):=by rw[Gi (Ci.1 A).1];exact A
 refine⟨c.1,16,q.map NP,c.2.1,c.2.2,rfl,H.get N,λB=>?_,λv vs O=>?_⟩
 ·have B:q=[]:=List.map_eq_nil_iff.1 B;subst B;have e:vN bx op i=(((0,0,0,()),false,()),bx,op):=by unfold vN;rw[n]
  rw[e] at k;intro g E;have H:=H.ext E;have key:=aC.all 0 H.base.again rfl (vs:=[aa 0,aa 0,aa 0]) rfl rfl (K:=λo=>cD D G w0 o ((b,[aa 0,aa 0,aa 0])::(xb,lY sb so)::(Lb++(Lo++L))) (rI cs bx++M)) (λo l=>H.join l) g (Ext.refl g);exact⟨key.1,λp r=>aj.at 0 (key.2.ext r).base rfl (show _=some (0,0,0,()) from rfl) (k cs Lo p rfl rfl m ((key.2.ext r).sub (BW _ _)))⟩
 ·cases q with
  |nil=>cases O
  |cons a q=>
   obtain⟨rfl,rfl⟩:=List.cons.inj O;obtain⟨⟨o1,o2⟩,o3,o4⟩:=U a q n;have e:vN bx op i=((a,true,()),bx.set i q,op.set (a.1 - 1).toNat (op.getD (a.1 - 1).toNat 0 - 1)):=by unfold vN;rw[n]
   rw[e] at k;refine⟨(a.1,a.2.1,a.2.2.1,()),rfl,λg E=>?_⟩;have H:=H.put N (o':= .chan 16 ⟨q.map NP⟩ false c.2.1 (c.2.2+1) false) trivial;have Z:(rI cs bx++M).set i (c.1,.chan 16 ⟨q.map NP⟩ false c.2.1 (c.2.2+1) false)=rI (cs.set i (c.1,c.2.1,c.2.2+1)) (bx.set i q)++M:=by
    rw[J5 _ _ (Ci.1 A).1];congr 1;exact Jy (c:=(c.1,c.2.1,c.2.2+1))
   rw[Z] at H;have H:=H.ext E;obtain⟨s,P⟩: ∃s,s=g.heap.size:=⟨_,rfl⟩;have H:=H.join (L':=(s,[aa 0,aa 0,aa 0])::(b,[aa 0,aa 0,aa 0])::(xb,lY sb so)::(Lb++(Lo++L))) (w1:=g.alloc (.cells ⟨[aa 0,aa 0,aa 0]⟩ 147)) (by rw[P];exact H.base.again.alloc _ _);rw[<-P];intro p r;have H:=H.ext r;have key:=aC.all 0 H.base.again rfl (vs:=[aa a.1,aa a.2.1,aa a.2.2.1]) rfl rfl (λo l=>H.join l) p (Ext.refl p);refine⟨key.1,?_⟩;have H:=key.2;have e1:a6 .i64 a.1 1=a.1 - 1:=bF (by omega) (by omega);have hx:op[(a.1 - 1).toNat]? =some (op.getD (a.1 - 1).toNat 0):=by rw[Ds,DA (by omega)];rfl
   have ac5:=m.1;have F:=m.sl H.base (λy z=>Ar _ (Ar _ (Ar _ (Ae _ (Cg _ z))))) _ _ hx;refine⟨rfl,rfl,aj.cw 2 H.base rfl (show _=some (so.1,so.2.1,so.2.2) from rfl) ⟨rfl,aj.cw 0 H.base rfl (show _=some a.1 from rfl) ?_⟩⟩;dsimp only;rw[e1];refine⟨⟨F.1,by omega,by omega⟩,aj.of _ F.2 ⟨⟨F.1,by omega,by omega⟩,?_⟩⟩;rw[bF (by omega) (by omega)];have Hp:=H.perm (by
    have I:(Lo++(Lb++L)).Perm (Lb++(Lo++L)):=by rw[<-DB, <-DB];exact Ft _ Dh
    exact B3.trans (DE _ (B3.trans (DE _ (B3.trans (DE _ I))))))
   refine stM Hp m (i:=(a.1 - 1).toNat) (by omega) (op.getD (a.1 - 1).toNat 0 - 1) rfl rfl λd w6 xV t=>?_;have t:=t.perm (L':=(s,[aa a.1,aa a.2.1,aa a.2.2.1])::(b,[aa 0,aa 0,aa 0])::(xb,lY sb so)::(Lb++(d++L))) (by
    have I:(Lb++(d++L)).Perm (d++(Lb++L)):=by rw[<-DB, <-DB];exact Ft _ Dh
    refine List.Perm.symm ?_;exact B3.trans (DE _ (B3.trans (DE _ (B3.trans (DE _ I.symm)))))
    )
   refine aj.at 0 t.base rfl (show _=some (a.1,a.2.1,a.2.2.1,()) from rfl) λQ h7=>?_;have R:=t.ext h7;have key:=aC.all 1 R.base.again rfl (vs:=[aa a.1,aa a.2.1,aa a.2.2.1]) rfl rfl (λo l=>R.join l) Q (Ext.refl Q);refine⟨key.1,λw8 S=>aj.at 1 (key.2.ext S).base rfl (show _=some (a.1,a.2.1,a.2.2.1,()) from rfl) (k (cs.set i (c.1,c.2.1,c.2.2+1)) d w8 (Dk ..) ?_ xV ((key.2.ext S).sub ((BW _ _).trans (BW _ _))))⟩;refine FV λj=>?_;rw[Cj,Cj];by_cases T:i=j
   ·subst T;rw[Dx hi,hc];rfl
   ·rw[Gj T]
end
section
variable {D G:List Nat} {w0 w:A0} {L:List (Nat×List AC)} {M:List (Nat×Bx)}
theorem alM (H:cD D G w0 w L M) {cs:List AC} {e:TypeId} {K:Nat->A0->Prop} (k: ∀b w1,cD D G w0 w1 ((b,cs)::L) M->K b w1):aN w ⟨cs⟩ e K:=λw1 h1=>
 k _ _ ((H.ext h1).join ((H.ext h1).base.again.alloc cs e))
theorem NQ (H:cD D G w0 w L M) (i:Nat) {b n:Nat} {l:List AC} {x:AC} {K:A0->Prop} (a:L[i]? =some (b,l)) (c:x.oneCell'=true) (e:Nat.blt n l.length=true) (k: ∀w1,cD D G w0 w1 (L.set i (b,l.set n x)) M->K w1):aC w (ad (ae b) n) [x] K:=λw1 h1=>
 aC.gP i (H.ext h1).base.again a c (by grind) (λd f=>k d ((H.ext h1).join (by grind))) w1 (Ext.refl w1)
theorem stB (H:cD D G w0 w L M) (i:Nat) {b:Nat} {l vs:List AC} {K:A0->Prop} (a:L[i]? =some (b,l)) (c:vs.all (·.oneCell')=true) (d:vs.length=l.length) (k: ∀w1,cD D G w0 w1 (L.set i (b,vs)) M->K w1):aC w (ae b) vs K:=λw1 h1=>
 aC.all i (H.ext h1).base.again a c d (λe f=>k e ((H.ext h1).join f)) w1 (Ext.refl w1)
theorem enM (H:cD D G w0 w L M) {K:A0->Prop} (k: ∀w1,cD D G w0 w1 L M->K w1):au w K:=λ_ h=>k _ (H.ext h)
end
section
variable {D G:List Nat} {w0 w:A0} {L Lb Lo:List (Nat×List AC)} {M:List (Nat×Bx)} {sb so:Option AJ×Nat×Nat} {cs:List CR} {bx:List (List s7)} {op:List Int} {xb:Nat}
theorem xM {α:Type} (A B C:List α):(A++(B++C)).Perm (B++(A++C)):=by
 grind[Ft,Dh]
theorem HP (H:cD D G w0 w (Lb++L) M) (u:(xb,lY sb so)∈L) (hs:dv eC sb (dH cs) Lb) (i:Nat) (hi:i<cs.length) (T:cs.length<=8) {K:Option AJ×Nat×Nat->A0->Prop}
 (k: ∀r f b,dv eC r ((dH cs).eraseIdx i) f->cD D G w0 b (f++(Lb++L)) M->K r b):
 aA A2 202 (.el (.one .slice)) [ah (ae xb),aa (i:Int)] w K:=by
 refine λw1 h1=>ai (C:=U0) (aW:=λ_=>[]) (AM (Hc _ _ w1 K) ?_);have H:=H.ext h1;obtain⟨p,n,c⟩:=sb;have U:n=(dH cs).length:=hs.1;have V:(dH cs).length=cs.length:=B5 _;have hc:(dH cs).length<=c:=hs.2.1;have h:aH .i64 (i:Int) 1=((i+1:Nat):Int):=by rw[ay (by omega) (by omega)];omega
 have l:(xb,lY (p,n,c) so)∈Lb++L:=Ae _ u;refine⟨rfl,rfl,aj.kV H.base l (show _=some (p,n,c) from rfl) ⟨?_,λb v=>?_⟩⟩
 ·dsimp only;omega
 have H:=H.ext v;dsimp only;have W:(Decidable.rec (λ_=>ad p 0) (λ_=>p) (instDecidableEqNat ((c:Int)).toNat 0:Decidable (((c:Int)).toNat=((0:Nat):Int).toNat)):Option AJ)=p:=Gl (show((c:Int)).toNat≠0 by omega)▸by
  rcases p with _|a
  ·rfl
  ·rfl
 have X:((i:Int)).toNat - 0=i:=by omega
 have A:Go.RX.oP b p (i*aD eC) (flat eC ((dH cs).take i)):=by
  have:=hs.sub H.base (λy g=>Cg _ g) (lo:=0) (n:=i) (by omega);rw[Nat.zero_mul,List.drop_zero] at this;rcases p with _|a
  ·exact this
  ·have e:ad (some a) 0=some a:=by show some (a.add 0)=some a;rfl
   rw[e] at this;exact this
 have key:=Fw (Ls:=[]) H (dv.nil eC) (show im eC=true from rfl) (q:=(p,i,(c:Int).toNat - 0)) (ys:=(dH cs).take i) (by rw[Dn,H7 (by omega)]) A (t:=202) (size:=1) (bytes:=8) (z:=⟨[Value.chan none]⟩) rfl rfl (by rw[List.length_nil,Dn];omega)
  (R:=λr b=>(some (⟨xb,0,none⟩:AJ)).isSome=true/\(some (⟨xb,0,none⟩:AJ)).isSome=true/\aj b none (ad (ae xb) 0) (.one .slice) λx=>(0<=aH .i64 (i:Int) 1/\aH .i64 (i:Int) 1<=((x.2.1:Nat):Int)/\((x.2.1:Nat):Int)<=((x.2.2:Nat):Int)/\((x.2.2:Nat):Int)<=((x.2.2:Nat):Int))/\ ∀w1,Ext b w1->
   mJ w1 202 1 8 ⟨[Value.chan none]⟩ (r.1,r.2.1,r.2.2) (Decidable.rec (λ_=>ad x.1 ((aH .i64 (i:Int) 1).toNat*1)) (λ_=>x.1) (instDecidableEqNat ((x.2.2:Nat):Int).toNat (aH .i64 (i:Int) 1).toNat),((x.2.1:Nat):Int).toNat - (aH .i64 (i:Int) 1).toNat,((x.2.2:Nat):Int).toNat - (aH .i64 (i:Int) 1).toNat) λr b=>au b λw1=>K (r.1,r.2.1,r.2.2) w1) λr f Y B m=>?_
 grind
 ·refine⟨rfl,rfl,aj.kV m.base (Ae _ l) (show _=some (p,n,c) from rfl) ⟨?_,λE F=>?_⟩⟩
  ·rw[h];dsimp only;omega
  have o:=m.ext F;rw[h];dsimp only;have I:Go.RX.oP E (if((c:Int)).toNat=((i+1:Nat):Int).toNat then p else ad p (((i+1:Nat):Int).toNat*1)) ((((n:Nat):Int).toNat - ((i+1:Nat):Int).toNat)*aD eC) (flat eC ((dH cs).drop (i+1))):=by
   by_cases d:c=i+1
   ·have:(dH cs).drop (i+1)=[]:=List.drop_eq_nil_of_le (by omega);rw[this,av (by omega),show((((n:Nat):Int).toNat - ((i+1:Nat):Int).toNat))=0 by omega];rcases p with _|a
    ·rfl
    ·exact⟨rfl,λj J=>by simp at J⟩
   ·rw[ao (by omega)];have:=hs.sub o.base (λy g=>Ae _ (Cg _ g)) (lo:=i+1) (n:=(dH cs).length - (i+1)) (by omega);rw[List.take_of_length_le (by rw[Gd];exact Dq _)] at this;rw[show((((n:Nat):Int).toNat - ((i+1:Nat):Int).toNat))=(dH cs).length - (i+1) by omega];exact this
  have N:(Decidable.rec (λ_=>ad p (((i+1:Nat):Int).toNat*1)) (λ_=>p) (instDecidableEqNat ((c:Int)).toNat ((i+1:Nat):Int).toNat):Option AJ)=if((c:Int)).toNat=((i+1:Nat):Int).toNat then p else ad p (((i+1:Nat):Int).toNat*1):=by
   by_cases d:((c:Int)).toNat=((i+1:Nat):Int).toNat
   ·rw[av d,Pn d]
   ·rw[ao d,Gl d]
  rw[N];refine Fw o B rfl (ys:=(dH cs).drop (i+1)) (by grind) I rfl rfl (by
   rw[J7,Dn,Gd];omega) λZ O w5 s P=>λQ S=>k _ O Q ?_ (P.ext S)
  rw[I2];rw[J7] at s;exact s
def vD (i j:Nat):Nat:=if j<i then j else j+1
def TL (i k:Nat):Nat:=if k<i then k else k - 1
def lH (bx:List (List s7)) (i j:Nat) (a:s7):List (List s7):=bx.zipIdx.map λ(q,k)=>if k≠i/\TL i k<j then q++[a] else q
theorem qC {bx:List (List s7)} {i j k:Nat} {a:s7} {q:List s7} (h:bx[k]? =some q):(lH bx i j a)[k]? =some (if k≠i/\TL i k<j then q++[a] else q):=by grind[lH]
theorem HQ {bx:List (List s7)} {i j:Nat} {a:s7} {q:List s7} (h:bx[vD i j]? =some q):(lH bx i j a).set (vD i j) (q++[a])=lH bx i (j+1) a:=by
 have c:vD i j≠i/\TL i (vD i j)=j:=by unfold vD TL;grind
 refine FV λk=>?_;by_cases e:vD i j=k
 ·subst e;rw[Dx (by grind[lH,B5,J9]),qC h,av (by grind)]
 ·rw[Gj e];cases b:bx[k]? with
  |none=>
   grind[lH,B5,J9]
  |some d=>
   rw[qC b,qC b];have:(k≠i/\TL i k<j)<->(k≠i/\TL i k<j+1):=by
    grind[TL,vD]
   grind
def vO (bx:List (List s7)) (op:List Int) (n:Nat) (t p:Int):Int×List (List s7)×List Int:=
 if t<1\/t>16\/p< -1\/p>=65536 then(0,bx,op)
 else if(bx.eraseIdx n).any (λq=>q.length==16)=true then(0,bx,op)
 else((op.length:Int)+1,(bx.zipIdx.map λ(q,i)=>if i=n then q else q++[((op.length:Int)+1,t,p,())]),op++[(bx.length:Int) - 1])
theorem MQ {bx:List (List s7)} {i:Nat} (hi:i<bx.length) (a:s7):lH bx i (bx.length - 1) a=bx.zipIdx.map λ(q,k)=>if k=i then q else q++[a]:=by
 refine List.map_congr_left λx hx=>?_;obtain⟨q,k⟩:=x;dsimp;by_cases e:k=i
 grind
 ·rw[ao e,av (by grind[TL])]
theorem HR (bx:List (List s7)) (i:Nat) (a:s7):lH bx i 0 a=bx:=by
 simp[lH]
theorem Cw {α:Type} (l:List α) (i j:Nat):(l.eraseIdx i)[j]? =l[vD i j]? :=by grind[vD]
theorem Sy (H:cD D G w0 w ((xb,lY sb so)::(Lb++(Lo++L))) (rI cs bx++M)) (hs:dv eC sb (dH cs) Lb) (J:dv eI so op Lo) (hcb:cs.length=bx.length) (i:Nat) (hi:i<cs.length) (hl:cs.length<=8) (Ys:(op.length:Int)<=1000000000) (Fq: ∀q∈bx,q.length<=16) (t g:Int) {K:Int×Int×Unit->A0->Prop}
 (k: ∀e f o h z,f.length=cs.length->dH f=dH cs->dv eI o (vO bx op i t g).2.2 h->cD D G w0 z ((xb,lY sb o)::(Lb++(h++L))) (rI f (vO bx op i t g).2.1++M)->K ((vO bx op i t g).1,e,()) z):
 aA A2 157 (.bA [.one (.int .i64),.one (.int .i64)]) [ah (ae xb),aa (i:Int),aa t,aa g] w K:=by
 refine λw1 h1=>ai (C:=U0) (aW:=uf) (AM (Qm _ _ t g w1 K) ?_);have H:=H.ext h1;have hn:sb.2.1=cs.length:=by rw[hs.1,B5]
 refine⟨λ_=>rfl,λ_=>rfl,aj.cw 0 H.base rfl (show _=some (sb.1,sb.2.1,sb.2.2) from rfl) ?_⟩;dsimp only;rw[hn];refine an (by rw[show((cs.length:Int)==0)=false by rw[beq_eq_false_iff_ne];omega];rfl) ⟨_,Gv H.base Aq hn _,an (by rw[decide_eq_true (by omega)];rfl) ?_⟩;by_cases N:t<1\/t>16\/g< -1\/g>=65536
 ·refine aB ?_ (enM H λz H=>?_)
  ·simp only[Ko,decide_eq_true_eq];omega
  ·have e:vO bx op i t g=(0,bx,op):=av N;rw[e] at k;exact k 1 cs so Lo z rfl rfl J H
 refine an ?_ ?_
 ·simp only[E5,decide_eq_false_iff_not];omega
 have Hp:cD D G w0 w1 (Lb++((xb,lY sb so)::(Lo++L))) (rI cs bx++M):=H.perm B3;refine HP Hp Aq hs i hi hl λr l z O H=>?_;have hrn:r.2.1=cs.length - 1:=by rw[O.1,H4,B5,av hi]
 have hxm:(xb,lY sb so)∈l++(Lb++((xb,lY sb so)::(Lo++L))):=Ae _ (Ae _ Aq);have aaS: ∀j,j<cs.length - 1-> ∃c q,cs[vD i j]? =some c/\bx[vD i j]? =some q/\((dH cs).eraseIdx i)[j]? =some (some c.1):=λj p=>by
  have h2:vD i j<cs.length:=by unfold vD;split<;>omega
  obtain⟨c,hc⟩: ∃c,cs[vD i j]? =some c:=⟨_,DA h2⟩;obtain⟨q,m⟩: ∃q,bx[vD i j]? =some q:=⟨_,DA (by omega)⟩;exact⟨c,q,hc,m,by rw[Cw,Cj,hc];rfl⟩
 refine⟨λn st u=> ∃j:Nat,j<=cs.length - 1/\n=cs.length - 1 - j/\st.1=(j:Int)/\(∀s q,s<j->(bx.eraseIdx i)[s]? =some q->q.length≠16)/\cD D G w0 u (l++(Lb++((xb,lY sb so)::(Lo++L)))) (rI cs bx++M),⟨cs.length - 1,λu h3=>⟨0,E4 _,rfl,rfl,λs q p=>absurd p (Kh _),H.ext h3⟩⟩,?_⟩;clear H Hp;rintro n ⟨P, _⟩ u ⟨j,p,Q,v,R,H⟩;have v:P=(j:Int):=v;subst v Q;dsimp only;rw[hrn];refine ab (λc=>?_) (λc=>?_)
 ·have p:j<cs.length - 1:=by have:=of_decide_eq_true c;omega
  obtain⟨c,q,hc,m,S⟩:=aaS j p;have E:=O.sl H.base (λy T=>Cg _ T) j _ S;have vt:=(H.obj _ (Cg _ (Ct (xL hc m)))).1;refine⟨⟨E.1,by omega,by omega⟩,aj.of (some c.1) (by rw[DL];exact E.2) ⟨q.length,⟨c.1,16,q.map NP,c.2.1,c.2.2,rfl,vt,by rw[B5]⟩,?_⟩⟩;refine ab (λF=>enM H λU H=>?_) (λF U h4=>⟨cs.length - 1 - (j+1),by omega,j+1,by omega,rfl,?_,λs q' V W=>?_,H.ext h4⟩)
  ·have F:q.length=16:=by have:(q.length:Int)=16:=(by simpa using F);omega
   have e:vO bx op i t g=(0,bx,op):=by
    unfold vO;rw[ao N,av (FW.2 ⟨q,Ct (show(bx.eraseIdx i)[j]? =some q by rw[Cw];exact m),by simp[F]⟩)]
   rw[e] at k;refine k 3 cs so Lo U rfl rfl J ((H.sub (FG _ _)).perm B3.symm)
  ·rw[ay (by omega) (by omega)];omega
  ·by_cases e:s=j
   ·subst e;rw[Cw,m] at W;cases W;have: ¬ (q.length:Int)=16:=by simpa using F
    omega
   ·exact R s q' (by omega) W
 have X:j=cs.length - 1:=by have:=of_decide_eq_false c;omega
 subst X;have wN: ¬ (bx.eraseIdx i).any (λq=>q.length==16)=true:=λc=>by
  obtain⟨q,m,Xc⟩:=FW.1 c;obtain⟨s,V⟩:=B1 m;have z5:s<(bx.eraseIdx i).length:=(Ci.1 V).1;rw[H4,av (by omega)] at z5;exact R s q (by omega) V (by simpa using Xc)
 have ep:vO bx op i t g=((op.length:Int)+1,lH bx i (bx.length - 1) ((op.length:Int)+1,t,g,()),op++[(bx.length:Int) - 1]):=by
  unfold vO;rw[ao N,ao wN,MQ (by omega)]
 rw[ep] at k;refine⟨rfl,rfl,aj.kV H.base hxm (show _=some (so.1,so.2.1,so.2.2) from rfl) (alM H λb U H w5 h5=>?_)⟩;have H:=H.ext h5;have Y:cD D G w0 w5 (Lo++((b,[aa ((cs.length - 1:Nat):Int)])::(l++(Lb++((xb,lY sb so)::L))))) (rI cs bx++M):=H.perm (by
  refine B3.trans (DE _ ?_);have p1:(Lo++(l++(Lb++((xb,lY sb so)::L)))).Perm (l++(Lo++(Lb++((xb,lY sb so)::L)))):=xM _ _ _;refine p1.trans (H6 _ ?_);have p2:(Lo++(Lb++((xb,lY sb so)::L))).Perm (Lb++(Lo++((xb,lY sb so)::L))):=xM _ _ _;exact p2.trans (H6 _ B3))
 refine Fw Y J rfl (q:=(some ⟨b,0,none⟩,1,1)) (ys:=[((cs.length - 1:Nat):Int)]) rfl (sd (e:=eI) (x:=((cs.length - 1:Nat):Int)) (Y.base.dj _ (Ae _ Aq))) rfl rfl (by simp only[GS];omega) λo h w6 Z H=>?_;have acy:op++[((cs.length - 1:Nat):Int)]=op++[(bx.length:Int) - 1]:=by rw[show((cs.length - 1:Nat):Int)=(bx.length:Int) - 1 by omega]
 rw[acy] at Z;have H:=(H.sub (Fz (BW _ _) h)).perm (L':=(xb,lY sb so)::(l++(Lb++(h++L)))) (by
  have p2:(l++(Lb++(h++L))).Perm (h++(l++(Lb++L))):=by
   have a1:(Lb++(h++L)).Perm (h++(Lb++L)):=xM _ _ _;have a2:(l++(h++(Lb++L))).Perm (h++(l++(Lb++L))):=xM _ _ _;exact(H6 _ a1).trans a2
  refine(DE _ p2).trans ?_;have a3: ∀(A B C:List (Nat×List AC)) (x:Nat×List AC),(x::(A++(B++(C++L)))).Perm (A++(B++(C++(x::L)))):=λA B C x=>by
   rw[<-DB, <-DB, <-DB, <-DB];exact B3.symm
  exact a3 _ _ _ _)
 refine⟨rfl,rfl,NQ H 0 rfl rfl rfl λw7 H=>⟨rfl,rfl,aj.cw 0 H.base rfl (show _=some (o.1,o.2.1,o.2.2) from rfl) ?_⟩⟩;have H:cD D G w0 w7 ((xb,lY sb o)::(l++(Lb++(h++L)))) (rI cs bx++M):=H;have aaA:(o.2.1:Int)=(op.length:Int)+1:=by
  have:=Z.1;rw[GF,GS] at this;omega
 dsimp only;rw[aaA];obtain⟨a,ha⟩: ∃a:s7,a=((op.length:Int)+1,t,g,()):=⟨_,rfl⟩;rw[<-ha] at k;refine⟨λn st u=> ∃(j:Nat) (f:List CR),j<=cs.length - 1/\n=cs.length - 1 - j/\st.1=(j:Int)/\f.length=cs.length/\dH f=dH cs/\cD D G w0 u ((xb,lY sb o)::(l++(Lb++(h++L)))) (rI f (lH bx i j a)++M),⟨cs.length - 1,λw8 h8=>⟨0,cs,E4 _,rfl,rfl,rfl,rfl,by rw[HR];exact H.ext h8⟩⟩,?_⟩;clear H Y;rintro n ⟨P, _⟩ w8 ⟨j,f,p,Q,v,Di,BV,H⟩;have v:P=(j:Int):=v;subst v Q;dsimp only;refine ab (λc=>?_) (λc=>?_)
 ·have p:j<cs.length - 1:=by have:=of_decide_eq_true c;omega
  obtain⟨c,q,hc,m,S⟩:=aaS j p;have E:=O.sl H.base (λy T=>Ar _ (Cg _ T)) j _ S;refine⟨⟨E.1,by omega,by omega⟩,aj.of (some c.1) (by rw[DL];exact E.2) λw9 h9=>?_⟩;have H:=H.ext h9;obtain⟨d,I⟩: ∃d,f[vD i j]? =some d:=⟨_,DA (by rw[Di];exact(Ci.1 hc).1)⟩;have Xd:d.1=c.1:=by
   have h1:(dH f)[vD i j]? =some (some d.1):=by rw[Cj,I];rfl
   rw[BV,Cj,hc] at h1;exact(Option.some.inj (Option.some.inj h1)).symm
  have dk:vD i j≠i/\TL i (vD i j)=j:=by unfold vD TL;split<;>(first|omega|(constructor<;>(try split)<;>omega))
  have hsq:(lH bx i j a)[vD i j]? =some q:=by rw[qC m,ao λc=>by rw[dk.2] at c;exact Nat.lt_irrefl _ c.2]
  have hz:=xL I hsq;have hmz:(rI f (lH bx i j a)++M)[vD i j]? =some (cO d q):=by rw[Gi (Ci.1 hz).1];exact hz
  have Xc:q.length≠16:=R j q p (by rw[Cw];exact m);have ac6:=Fq q (Ct m);refine⟨d.1,16,q.map NP,d.2.1,d.2.2,by rw[Xd],H.get hmz,by rw[B5];omega,?_⟩;have H:=H.put hmz (o':= .chan 16 ⟨(q++[a]).map NP⟩ false (d.2.1+1) d.2.2 false) trivial;have ez:(rI f (lH bx i j a)++M).set (vD i j) (d.1,.chan 16 ⟨(q++[a]).map NP⟩ false (d.2.1+1) d.2.2 false)=rI (f.set (vD i j) (d.1,d.2.1+1,d.2.2)) (lH bx i (j+1) a)++M:=by
   rw[J5 _ _ (Ci.1 hz).1, <-HQ m];congr 1;exact Jy (c:=(d.1,d.2.1+1,d.2.2))
  rw[ez] at H;have ev:(q.map NP).append [Value.agg ⟨[aa ((op.length:Int)+1),aa t,aa g]⟩]=(q++[a]).map NP:=by
   rw[FX,ha];rfl
  show∀u,Ext (w9.putObj d.1 (.chan 16 ⟨(q.map NP).append _⟩ false (d.2.1+1) d.2.2 false)) u-> _;rw[ev];refine λny Is=>⟨cs.length - 1 - (j+1),by omega,j+1,f.set (vD i j) (d.1,d.2.1+1,d.2.2),by omega,rfl,?_,by rw[Dk];exact Di,?_,H.ext Is⟩
  ·rw[ay (by omega) (by omega)];omega
  ·rw[<-BV];refine FV λy=>?_;rw[Cj,Cj];by_cases ej:vD i j=y
   ·subst ej;rw[Dx (Ci.1 I).1,I];rfl
   ·rw[Gj ej]
 ·have X:j=cs.length - 1:=by have:=of_decide_eq_false c;omega
  subst X;refine enM H λw9 H=>k 0 f o h w9 Di BV Z ?_;rw[<-hcb];exact H.sub (List.Sublist.cons_cons _ (FG _ _))
theorem Wb (H:cD D G w0 w L M) (n:Int) {K:Option AJ×Int×Unit->A0->Prop} (kb:n<1\/n>8-> ∀w1,cD D G w0 w1 L M->K (none,1,()) w1)
 (p:1<=n->n<=8-> ∀xb cs sb Lb w1,cs.length=n.toNat->dv eC sb (dH cs) Lb->cD D G w0 w1 ((xb,lY sb (none,0,0))::(Lb++L)) (rI cs (Bs n.toNat [])++M)->K (some ⟨xb,0,none⟩,0,()) w1):
 aA A2 85 (.bA [.one .ptr,.one (.int .i64)]) [aa n] w K:=by
 refine λw1 h1=>ai (C:=U0) (aW:=vY) (AM (UM n w1 K) ?_);have H:=H.ext h1;refine ab (λc=>λk t=>kb (by simpa using c) k (H.ext t)) (λc=>alM H λxb k H=>?_);have l:1<=n/\n<=8:=by
  grind
 obtain⟨m,rfl⟩: ∃m:Nat,n=(m:Int):=⟨n.toNat,by omega⟩;refine⟨λn st d=> ∃(j:Nat) (cs:List CR) (s:Option AJ×Nat×Nat) (Ls:List (Nat×List AC)),j<=m/\n=m - j/\st.1=(j:Int)/\cs.length=j/\dv eC s (dH cs) Ls/\cD D G w0 d (Ls++((xb,lY s (none,0,0))::L)) (rI cs (Bs j [])++M),⟨m,λd u=>⟨0,[],(none,0,0),[],E4 _,rfl,rfl,rfl,dv.nil eC,H.ext u⟩⟩,?_⟩;clear H;rintro n ⟨i, _⟩ d ⟨j,cs,s,Ls,v,y,hi,f,hs,H⟩;have hi:i=(j:Int):=hi;subst hi y;dsimp only;have z:(xb,lY s (none,0,0))∈Ls++((xb,lY s (none,0,0))::L):=Ae _ Aq;refine ab (λc=>?_) (λc=>?_)
 ·have v:j<m:=by have:=of_decide_eq_true c;omega
  refine⟨rfl,rfl,aj.kV H.base z (show _=some (s.1,s.2.1,s.2.2) from rfl) λg h=>?_⟩;have H:=(H.ext h).alloc (o:= .chan 16 #[] false 0 0 false) trivial;obtain⟨c1,A⟩: ∃c1,c1=g.heap.size:=⟨_,rfl⟩;rw[<-A] at H ⊢;refine alM H λb I H J B=>?_;have H:=(H.ext B).perm (L':=Ls++((b,[.chan (some c1)])::(xb,lY s (none,0,0))::L)) B3;refine Fw H hs rfl (q:=(some ⟨b,0,none⟩,1,1)) (ys:=[some c1]) rfl (sd (e:=eC) (x:=some c1) (H.base.dj _ (Ae _ Aq))) rfl rfl (by grind) λr a N O H=>⟨rfl,rfl,?_⟩;have H:=(H.sub (Fz (BW _ _) a)).perm (L':=(xb,lY s (none,0,0))::(a++L)) B3.symm;refine NQ H 0 rfl rfl rfl λP H Q E=>⟨m - (j+1),by omega,j+1,cs++[(c1,0,0)],r,a,by omega,rfl,?_,by rw[GF,f];rfl,?_,?_⟩
  ·rw[ay (by omega) (by omega)];omega
  grind
  ·have F:rI (cs++[(c1,0,0)]) (Bs (j+1) [])=rI cs (Bs j [])++[cO (c1,0,0) []]:=by
    unfold rI;rw[J4,List.zipWith_append (by rw[f,Db])];rfl
   rw[F,DB];refine((H.ext E).perm (L':=a++((xb,lY r (none,0,0))::L)) B3).lE ?_;exact B3
 ·have:j=m:=by have:=of_decide_eq_false c;omega
  subst this;refine λg h=>p l.1 l.2 xb cs s Ls g (by rw[DL];exact f) hs ?_;rw[DL];exact(H.ext h).perm B3.symm
end
end Go.Proofs.YtlcenllcmeebhaaGreat.Mu
namespace Go.Proofs.YtlcenllcmeebhaaGreat
set_option maxRecDepth 100000
open Go.RX D
def mW (g:Nat->Option GV):Option Nat:=((AF 16).find? λi=>(g (i+1)).isNone).map (· +1)
theorem n6 {g:Nat->Option GV} {v:Nat}:mW g=some v<->(1<=v/\v<=16)/\g v=none/\ ∀u,1<=u->u<v->(g u).isSome:=by
 unfold mW;rw[Option.map_eq_some_iff];constructor
 ·rintro⟨i,hi,rfl⟩;rw[K1] at hi;obtain⟨h1,a,b⟩:=hi;rw[DV] at a;refine⟨by omega,by simp_all,λu c=>?_⟩;have:=b (u - 1)
  grind
 ·rintro⟨h1⟩;refine⟨v - 1,?_⟩;rw[K1]
  grind
theorem HT {g:Nat->Option GV}:mW g=none<-> ∀u,1<=u->u<=16->(g u).isSome:=by
 unfold mW;rw[Option.map_eq_none_iff,List.find?_eq_none];constructor
 ·intro h u a b;have:=h (u - 1);cases hg:g u with
  |none=>grind
  |some=>rfl
 ·intro h i hi e;have:=h (i+1) (by omega) (by grind)
  simp_all
def pB (h:HS):Int:=match mW h.g with
 |none=>3
 |some v=>rH h.s (v:Int)
def AZ (h:HS):Int:=match mW h.g with
 |none=>0
 |some v=>(v:Int)
def fS (h:HS):HS:=match mW h.g with
 |none=>h
 |some v=>if rH h.s (v:Int)=0 then{h with s:=jc h.s (v:Int) λ_=>0,g:=a_ h.g v (some ⟨eK h.s (v:Int),[]⟩)} else h
theorem zQ (A:Nat->GA) (g:Nat->Option GV):(sg A g).length=17:=rfl
theorem Jz (Q:Sys) (X:HX) (A:Nat->GA) (g:Nat->Option GV):(fe Q X A g).length=21:=rfl
theorem JA {Q:Sys} {X:HX} {A A':Nat->GA} {g g':Nat->Option GV} {v:Nat} (hv:v<17) (h: ∀j,j≠v->A' j=A j/\g' j=g j):(fe Q X A g).set (4+v*1) (ah (kW A' g' v))=fe Q X A' g':=by
 have e:(sg A g).set v (ah (kW A' g' v))=sg A' g':=by
  apply FV;intro i;by_cases hi:i<17
  ·grind[BD,zQ,kW]
  ·grind[Dk,zQ]
 unfold fe
 grind
section
variable {Q:Sys} {X:HX} {D G:List Nat} {w0 w:A0} {h:HS} {L:List (Nat×List AC)} {K:RS->A0->Prop}
theorem abQ {A:Nat->GA} (W:Dt A h) {v:Nat} (hv:1<=v/\v<=16) (d:h.g v=none) {s':WD} {r:Int} {bg bt bm k l:Nat} {m la:List AC} {f:A0}
 (H:SM Q D G w0 f s' ((bg,[ah (ae bt),.map (some bm)])::(bt,p_ Q (v:Int) r false)::(k,m)::(l,la)::(X.hb,(fe Q X A h.g).set (4+v*1) (ah (ae bg)))::(X.gb,mK X.uI h.gr.length X.c)::(X.uI,flat eG h.gr++X.rest)::(X.pb,Po.gW 4 h.po)::(bj Q A h.g (AF 17)++L)) ((bm,.map #[] 0)::dy A h.g (AF 17))):
 jz Q X D G w0 f {h with s:=s',g:=a_ h.g v (some ⟨r,[]⟩)} L:=by
 have b:=BE A h.g v ⟨bg,bt,bm,0,[]⟩ (some ⟨r,[]⟩);have n:kW (oV A v ⟨bg,bt,bm,0,[]⟩) (a_ h.g v (some ⟨r,[]⟩)) v=some ⟨bg,0,none⟩:=by
  unfold kW;rw[fH,qA]
 refine⟨oV A v ⟨bg,bt,bm,0,[]⟩,⟨λ{i x} hx=>?_,λ{i x} hx=>?_,W.gl,W.pt,W.gk⟩,?_⟩
 ·have hx:a_ h.g v _ i=some x:=hx;unfold a_ at hx;by_cases e:i=v
  ·omega
  ·rw[ao e] at hx;exact W.jy hx
 ·have hx:a_ h.g v _ i=some x:=hx;unfold a_ at hx;unfold oV;by_cases e:i=v
  ·rw[av e] at hx ⊢;cases hx;exact qQ.nil
  ·rw[ao e] at hx ⊢;exact W.mp hx
 ·have j:=JA (Q:=Q) (X:=X) (by omega:v<17) b;rw[n] at j;rw[j] at H;refine((H.sub ((((BW _ _).trans (BW _ _)).cons_cons _).cons_cons _)).perm ?_).lE ?_
  ·have p1:=by
    have a:=wy (Q:=Q) (A:=oV A v ⟨bg,bt,bm,0,[]⟩) (by omega:v<17) (fH h.g v (some ⟨r,[]⟩));rw[wz b] at a;have o:=(zO (Q:=Q) (A:=A) (by omega:v<17) d).symm;have e:ia Q (oV A v ⟨bg,bt,bm,0,[]⟩) v ⟨r,[]⟩=[(bg,[ah (ae bt),.map (some bm)]),(bt,p_ Q (v:Int) r false)]:=by
     unfold ia;rw[qA]
    rw[e] at a;exact a.trans (o.append_left _)
   refine(((((p1.append_right L).cons _).cons _).cons _).cons _).trans ?_;exact(Dh (l₁:=[_, _, _, _]) (l₂:=[_, _])).append_right _
  ·have a:=mr (A:=oV A v ⟨bg,bt,bm,0,[]⟩) (by omega:v<17) (fH h.g v (some ⟨r,[]⟩));rw[pU b,qA] at a;exact a.trans ((zN (A:=A) (by omega:v<17) d).symm.cons _)
theorem MV (H:jz Q X D G w0 w h L) (E: ¬ (h.s.1.length:Int)<16*(h.s.2.length:Int)) (v k a b c:Int) (kk: ∀V x,(pB h=0->V=AZ h)->jz Q X D G w0 x (fS h) L->K (V,pB h,()) x):
 aE A2 121 (.el (.agg iW)) [ah (ae X.hb),aa v,.agg ⟨ik k a b c⟩] w K:=by
 obtain⟨A,W,H⟩:=H;obtain⟨F,S,J⟩:=H.call;refine aS (C:=V0) (aW:=ox) (AM (Fa _ v k a b c w K) ?_);refine S.al λba x S=>S.al λb1 w3 S=>?_;refine⟨λn q w'=>(1<=q.1/\q.1<=17/\(n:Int)=17 - q.1)/\(∀u:Nat,1<=u->(u:Int)<q.1->(h.g u).isSome)/\a9 Q [] F w w' h.s _,⟨16,λI M=>⟨by decide,λu l p=>(by dsimp only at p;omega),S.ext M⟩⟩,?_⟩;clear S;rintro n ⟨q,u⟩ I ⟨⟨N,O,P⟩,r,S⟩;dsimp only at N O P r ⊢;obtain⟨i,hi⟩: ∃i:Nat,q=(i:Int):=⟨q.toNat,by omega⟩;subst hi;rw[show((i:Int)).toNat=i from rfl];refine ab (λd=>?_) (λd=>⟨trivial,S.res (j:=0) rfl 0 3 λt S=>?_⟩)
 ·have d:(i:Int)<=16:=by simpa using d
  have hc:=S.pv (X:=X) (A:=A) (g:=h.g) (Ar _ (Ar _ Aq)) (v:=(i:Int)) ⟨by omega,d⟩;rw[show((i:Int)).toNat=i from rfl] at hc;refine⟨rfl,rfl,⟨rfl,by omega,by show(i:Int)<((17:Nat):Int);omega⟩,aj.of _ hc ?_⟩;unfold kW;cases hg:h.g i with
  |some y=>
   refine aB rfl λt R=>⟨n - 1,by omega,⟨?_,?_,?_⟩,λu l p=>?_,S.ext R⟩
   ·rw[ay (by omega) (by omega)];omega
   ·rw[ay (by omega) (by omega)];omega
   ·rw[ay (by omega) (by omega)];omega
   ·rw[ay (by omega) (by omega)] at p;by_cases e:u=i
    ·subst e;rw[hg];rfl
    ·exact r u l (by omega)
  |none=>
   have m:mW h.g=some i:=n6.2 ⟨by omega,hg,λu l p=>r u l (by omega)⟩;have cE:pB h=rH h.s (i:Int):=by unfold pB;rw[m]
   have T:AZ h=(i:Int):=by unfold AZ;rw[m]
   have z:fS h=if rH h.s (i:Int)=0 then{h with s:=jc h.s (i:Int) λ_=>0,g:=a_ h.g i (some ⟨eK h.s (i:Int),[]⟩)} else h:=by unfold fS;rw[m]
   have U:aJ .u64 (i:Int)=(i:Int):=dU ⟨by omega,by omega⟩;rw[cE,T,z] at kk;refine an rfl ⟨rfl,rfl,aj.of _ (S.fK (X:=X) (A:=A) (g:=h.g) (by simp) (n:=0) rfl) ⟨rfl,rfl,aj.of _ (S.fK (X:=X) (A:=A) (g:=h.g) (by simp) (n:=1) rfl) ?_⟩⟩;refine S.new (i:Int) (λe=>absurd e E) (λ_ f t S=>?_) (λ_ f bt t S=>?_)
   ·rw[ao f] at kk;refine an (by simpa using f) (S.res (j:=0) rfl _ _ λB S=>kk _ B (λe=>absurd e f) ⟨A,W,J ?_⟩);rw[Jr f] at S;exact S.tail.tail
   ·rw[av f,f] at kk;refine aB rfl λB Y=>?_;have H:=((J S).ext Y).alloc (o:= .map #[] 0) trivial;obtain⟨bm,Z⟩: ∃bm,bm=B.heap.size:=⟨_,rfl⟩;rw[<-Z] at H ⊢;obtain⟨G2,S,J2⟩:=H.call;refine S.al λbg w7 S=>⟨rfl,rfl,⟨rfl,by omega,by show(i:Int)<((17:Nat):Int);omega⟩,?_⟩;rw[aY];refine S.Cv 4 rfl rfl (by rw[Nat.blt_eq,Jz];omega) λw8 S=>S.res (j:=2) rfl _ _ λw9 S=>kk _ w9 (λ_=>U) (abQ (bg:=bg) (bt:=bt) (bm:=bm) W (by omega) hg (J2 S))
 ·have d: ¬ (i:Int)<=16:=by simpa using d
  have m:mW h.g=none:=HT.2 λu l p=>r u l (by omega);have cE:pB h=3:=by unfold pB;rw[m]
  have z:fS h=h:=by unfold fS;rw[m]
  rw[cE,z] at kk;exact kk _ t (λe=>absurd e (by decide)) ⟨A,W,J S.tail.tail⟩
end
theorem JB (s:WD) (o:Int) (G:Int->Int):(jc s o G).1.length=s.1.length:=by
 unfold jc;dsimp only;split
 ·exact gT _ _ _ _
 ·rfl
theorem tM (s:WD) (o r p:Int):(fZ s o r p).1.length=s.1.length:=by
 unfold fZ;split
 ·rfl
 ·split
  ·exact xJ _ _ _ _ _
  ·exact JB _ _ _
theorem BJ: ∀(l:List PT) (s:WD),(jA l s).1.length=s.1.length
 |[],s=>rfl
 |[x],s=>rfl
 |x::y::l,s=>by
  rw[jA];split
  ·rw[BJ (y::l)];exact cF _ _ _
  ·rfl
theorem tN (s:WD) (o r:Int) (gone:Bool) (p:Int):(nC s o r gone p).1.length=s.1.length:=by
 unfold nC;split
 ·split
  ·rw[BJ];show(dC _ _ _).length= _;rw[cF,tM]
  ·exact tM _ _ _ _
 ·rfl
def vE (h:HS) (v:Int):List TK:=match h.g v.toNat with|some x=>x.tk|none=>[]
def yy (v:Int) (h:HS):HS:=dn h v (Av ((vE h v).map (·.1))) (NO h v (Av ((vE h v).map (·.1)))).1 (NO h v (Av ((vE h v).map (·.1)))).2
def e_ (v:Int):Nat->HS->HS
 |0,h=>h
 |n+1,h=>e_ v n (yy v h)
def tr (ds:List DT) (v:Int):Bool:=(fY ds v).any λi=>decide ((qI ds (i:Int)).2.2.1>0)
def uY (v:Int) (x:List DT×Int) (i:Nat):List DT×Int:=if(qI x.1 (i:Int)).1=4 then(dH x.1 (i:Int) (aP 5 v),x.2+1) else x
def Ck (ds:List DT) (v:Int):List DT×Int:=(fY ds v).foldl (uY v) (ds,0)
def vP (h:HS) (v:Int):HS where
 s:=((cG h.s (aR h.g v) false).1,(Ck (cG h.s (aR h.g v) false).2 v).1)
 g:=a_ h.g v.toNat none
 gr:=cP h.gr v
 po:=(Po.cG 4 h.po v).2
def F7 (h:HS) (a:Int):Int:=if aQ h.g a=true then(if tr h.s.2 a=true then 9 else 0) else 4
def th (h:HS) (a:Int):HS:=if aQ h.g a=true then(if tr h.s.2 a=true then h else vP (e_ a (vE h a).length h) a) else h
def Y' (h:HS) (a:Int):Int:=if aQ h.g a=true then(if tr h.s.2 a=true then 0 else(Ck (cG (e_ a (vE h a).length h).s (aR (e_ a (vE h a).length h).g a) false).2 a).2) else 0
theorem MW (gs:List GT) (v:Int):(cP gs v).length=gs.length:=by unfold cP;rw[B5]
theorem sN (h:HS) (v p id f w:Int):aQ (dn h v p id f).g w=aQ h.g w:=by
 unfold aQ dn a_;dsimp only;by_cases e:w.toNat=v.toNat
 ·rw[e,av rfl];cases h.g v.toNat<;>rfl
 ·rw[ao e]
theorem HU (h:HS) (v p id f w:Int):aR (dn h v p id f).g w=aR h.g w:=by
 unfold aR;rw[sN];unfold dn a_;dsimp only;by_cases e:w.toNat=v.toNat
 ·rw[e,av rfl];cases h.g v.toNat<;>rfl
 ·rw[ao e]
theorem ED {h:HS} {v p id f:Int}:vE (dn h v p id f) v=(vE h v).filter λt=> !(t.1==p):=by
 unfold vE dn a_;dsimp only;rw[av rfl];cases h.g v.toNat<;>rfl
section
variable {Q:Sys} {X:HX} {D G:List Nat} {w0 w:A0} {h:HS} {L:List (Nat×List AC)} {K:RS->A0->Prop}
theorem a9.aaT {s:WD} {L0 rows:List (Nat×List AC)} (S:a9 Q D G w0 w s L0) {e:El} {x:Option AJ×Nat×Nat} {l:List e.T} (a:oq e rows x l) (b: ∀x∈rows,x∈L0):Sl w e x.1 l:=by
 obtain⟨g1,c,d,f,ca,la,H⟩:=S;exact a.sl H λx hx=>Ar _ (Ar _ (Ar _ (Ar _ (b x hx))))
theorem aae {A:Nat->GA} {v:Nat} {x:GV} (hv:v<17) (hx:h.g v=some x) (T:List (Nat×List AC)):
 (ia Q A v x++(T++eo Q X A h (bj Q A h.g ((AF 17).erase v)++L))).Perm (T++eo Q X A h (bj Q A h.g (AF 17)++L)):=by
 have p1:=(wy (Q:=Q) (A:=A) hv hx).symm;have p2:=((((p1.append_right L).cons (X.pb,Po.gW 4 h.po)).cons (X.uI,flat eG h.gr++X.rest)).cons (X.gb,mK X.uI h.gr.length X.c)).cons (X.hb,fe Q X A h.g);refine List.Perm.trans ?_ (p2.append_left T);have e:T++eo Q X A h ((ia Q A v x++bj Q A h.g ((AF 17).erase v))++L)=(T++[(X.hb,fe Q X A h.g),(X.gb,mK X.uI h.gr.length X.c),(X.uI,flat eG h.gr++X.rest),(X.pb,Po.gW 4 h.po)])++(ia Q A v x++(bj Q A h.g ((AF 17).erase v)++L)):=by simp
 have a:ia Q A v x++(T++eo Q X A h (bj Q A h.g ((AF 17).erase v)++L))=ia Q A v x++((T++[(X.hb,fe Q X A h.g),(X.gb,mK X.uI h.gr.length X.c),(X.uI,flat eG h.gr++X.rest),(X.pb,Po.gW 4 h.po)])++(bj Q A h.g ((AF 17).erase v)++L)):=by simp
 show List.Perm _ (T++eo Q X A h ((ia Q A v x++bj Q A h.g ((AF 17).erase v))++L));rw[e,a];exact Kb _ _ _
end
theorem EE (ds:List DT) (v:Int):(fY ds v).length<=ds.length:=by grind[fY]
section
variable {Q:Sys} {X:HX} {D G:List Nat} {w0 w:A0} {h:HS} {L:List (Nat×List AC)} {K:RS->A0->Prop}
theorem abR {A:Nat->GA} (W:Dt A h) {v:Nat} {x:GV} (hv:v<17) (hx:h.g v=some x) {s':WD} {z_:List GT} {NS:List Po.PT} (b:z_.length=h.gr.length) (m:og z_) (n:Po.ma 4 NS) {d:A0} {o p q r:Nat×List AC}
 (H:SM Q D G w0 d s' (o::p::q::r::(X.hb,(fe Q X A h.g).set (4+v*1) (ah none))::(X.gb,mK X.uI h.gr.length X.c)::(X.uI,flat eG z_++X.rest)::(X.pb,Po.gW 4 NS)::(bj Q A h.g ((AF 17).erase v)++L)) (dy A h.g (AF 17))):
 jz Q X D G w0 d {s:=s',g:=a_ h.g v none,gr:=z_,po:=NS} L:=by
 have a: ∀j,j≠v->A j=A j/\a_ h.g v none j=h.g j:=λj t=>⟨rfl,ao t⟩;have u:kW A (a_ h.g v none) v=none:=by
  unfold kW;rw[fH]
 refine⟨A,⟨λ{i x} hx=>?_,λ{i x} hx=>?_,b.trans W.gl,n,m⟩,?_⟩
 ·have hx:a_ h.g v none i=some x:=hx;unfold a_ at hx;by_cases e:i=v
  ·grind
  ·rw[ao e] at hx;exact W.jy hx
 ·have hx:a_ h.g v _ i=some x:=hx;unfold a_ at hx;by_cases e:i=v
  grind
  ·rw[ao e] at hx;exact W.mp hx
 ·have f:=JA (Q:=Q) (X:=X) hv a;rw[u] at f;rw[f] at H;have H:=((((H.sub (BW _ _)).sub (BW _ _)).sub (BW _ _)).sub (BW _ _));have H:=(H.lE (mr hv hx).symm).FR (BW _ _);have k:=zO (Q:=Q) (A:=A) hv (fH h.g v _);rw[wz a] at k;have l:=zN (A:=A) hv (fH h.g v none);rw[pU a] at l;refine(H.perm ?_).lE l;show List.Perm ((X.hb,fe Q X A _)::(X.gb,mK X.uI z_.length X.c)::(X.uI,flat eG z_++X.rest)::(X.pb,Po.gW 4 NS)::(bj Q A _ _++L)) _;rw[b];exact((((k.append_right L).cons _).cons _).cons _).cons _
theorem EF {l:List Int} (b:l≠[]) (h: ∀x∈l,x<65536):Av l∈l:=by
 obtain⟨d,c,a⟩:=zg l 65536;rcases a with a|a
 ·obtain⟨x,l',rfl⟩:=List.exists_cons_of_ne_nil b;have:=c x
  grind
 ·exact a
theorem HV (H:jz Q X D G w0 w h L) (v k:Int) {a:Int} (b c:Int) (ha:0<=a) (hF:N_ Q h.s) (NL:aQ h.g a=true->0<=aR h.g a/\aR h.g a<4096) (AI: ∀t∈vE h a,t.1<65536)
 (kk: ∀w2,jz Q X D G w0 w2 (th h a) L->K (Y' h a,F7 h a,()) w2):
 aE A2 122 (.el (.agg iW)) [ah (ae X.hb),aa v,.agg ⟨ik k a b c⟩] w K:=by
 obtain⟨A,W,H⟩:=H;obtain⟨G',S,J⟩:=H.call;refine aS (C:=V0) (aW:=nv) (AM (C7 _ v k a b c w K) ?_);unfold F7 Y' th at kk;refine S.al λP w2 S=>S.al λU w3 S=>⟨rfl,S.cz 1 rfl rfl ⟨_,Ex S (X:=X) (A:=A) (g:=h.g) (by simp) ha,?_⟩⟩;cases N:aQ h.g a with
 |false=>
  rw[N,ao (by decide),ao (by decide),ao (by decide)] at kk;exact aB rfl ⟨trivial,S.res (j:=0) rfl 0 4 λw4 S=>kk w4 ⟨A,W,J S.tail.tail⟩⟩
 |true=>
 rw[N,av rfl,av rfl,av rfl] at kk;obtain⟨x,hx,oh,hv,uJ,qV⟩:=bM N;have ea:aJ .i64 a=a:=bP ⟨ha,by omega⟩;refine an rfl ⟨rfl,S.cz 1 rfl rfl ?_⟩;rw[ea];refine⟨rfl,rfl,aj.of _ (S.fK (X:=X) (A:=A) (g:=h.g) (by simp) (n:=1) rfl) (S.owned a λr rows w4 S E=>?_)⟩;have hlen:(fY h.s.2 a).length<=4096:=HB (EE _ _) S.le;obtain⟨xp,xn,xc⟩:=r;have hxl:xn=(fY h.s.2 a).length:=by have:=E.1;rw[B5] at this;exact this
 subst hxl;refine⟨λn q w'=> ∃m:Nat,q.1=(m:Int)/\n+m=(fY h.s.2 a).length/\(∀i,i<m-> ∀f,(fY h.s.2 a)[i]? =some f-> ¬ (qI h.s.2 (f:Int)).2.2.1>0)/\a9 Q [] G' w w' h.s (((U,[ax 0,aa 0])::(P,ik k a b c)::eo Q X A h (bj Q A h.g (AF 17)++L))++rows),⟨(fY h.s.2 a).length,λw5 h5=>⟨0,rfl,rfl,λi hi=>absurd hi (Kh i),S.ext h5⟩⟩,?_⟩;clear S;rintro n ⟨q,u⟩ w5 ⟨m,Y,hnm,wN,S⟩;dsimp only at Y ⊢;subst Y;refine ab (λo=>?_) (λo=>?_)
 ·have O:m<(fY h.s.2 a).length:=by simpa using o
  obtain⟨f,Ym⟩: ∃f,f=(fY h.s.2 a)[m]:=⟨_,rfl⟩;have I:(fY h.s.2 a)[m]? =some f:=by rw[Ym];exact DA O
  have Kc:((fY h.s.2 a).map λi=>((i:Nat):Int))[m]? =some ((f:Nat):Int):=by rw[Cj,I];rfl
  have Z:=(S.aaT E (λx hx=>Ae _ hx)) m _ Kc;refine⟨⟨Z.1,by omega,by omega⟩,aj.of _ Z.2 ⟨rfl,rfl,aj.of _ (S.fK (X:=X) (A:=A) (g:=h.g) (by simp) (n:=1) rfl) ⟨(qI h.s.2 (f:Int),Ag h.s.2 (f:Int),()),S.ofq (f:Int),S.al λbd w6 S=>S.fh 0 rfl rfl rfl λw7 S=>⟨rfl,S.cz 0 rfl rfl ?_⟩⟩⟩⟩;refine ab (λF=>⟨trivial,S.res (j:=1) rfl 0 9 λw8 S=>?_⟩) (λF=>λw8 h8=>⟨n - 1,by omega,m+1,?_,by omega,λi hi g hg=>?_,(S.ext h8).tail⟩)
  ·have F:(qI h.s.2 (f:Int)).2.2.1>0:=by simpa using F
   have hb:tr h.s.2 a=true:=by
    unfold tr;exact FW.2 ⟨f,Ct I,by simpa using F⟩
   rw[hb,av rfl,av rfl,av rfl] at kk;exact kk w8 ⟨A,W,J ((S.tail.sub (FY _ _)).tail.tail)⟩
  ·rw[ay (by omega) (by omega)];omega
  ·by_cases e:i=m
   ·subst e;rw[I] at hg;cases hg;simpa using F
   ·exact wN i (by omega) g hg
 have O: ¬ m<(fY h.s.2 a).length:=by simpa using o
 have hb: ¬ tr h.s.2 a=true:=by
  unfold tr;rw[FW];rintro⟨f,I,hd⟩;obtain⟨i,hi⟩:=B1 I;have:i<(fY h.s.2 a).length:=(Ci.1 hi).1;exact wN i (by omega) f hi (by simpa using hd)
 rw[ao hb,ao hb,ao hb] at kk;have S:=S.sub (FY _ rows);clear wN hnm E o O;obtain⟨g1, _,g3, _⟩:=S.tg (X:=X) (A:=A) (g:=h.g) (by simp) (b_ W [_, _]) N;refine⟨rfl,rfl,⟨rfl,by omega,by show a<((17:Nat):Int);omega⟩,aj.of _ g1 ?_⟩;refine⟨λn _ w'=> ∃(B:Nat->GA) (h':HS),e_ a n h'=e_ a (vE h a).length h/\(vE h' a).length=n/\aQ h'.g a=true/\aR h'.g a=aR h.g a/\N_ Q h'.s/\(∀t∈vE h' a,t.1<65536)/\(B a.toNat).bg=(A a.toNat).bg/\Dt B h'/\SM Q D G w0 w' h'.s ([(U,[ax 0,aa 0]),(P,ik k a b c)]++eo Q X B h' (bj Q B h'.g (AF 17)++L)) (dy B h'.g (AF 17)),⟨(vE h a).length,λw6 h6=>⟨A,h,rfl,rfl,N,rfl,hF,AI,rfl,W,(J S).ext h6⟩⟩,?_⟩;clear S g1 g3 J H;rintro n u w6 ⟨B,h',hg,hn,z5,TE,hF',Za,aaU,d,H⟩;obtain⟨x',z,Zb,TT, _, _⟩:=bM z5;have Ku:a.toNat<17:=by omega
 have V:vE h' a=x'.tk:=by unfold vE;rw[z]
 rw[<-aaU];obtain⟨G2,S,J2⟩:=H.call;have mem:(X.hb,fe Q X B h'.g)∈[(U,[ax 0,aa 0]),(P,ik k a b c)]++eo Q X B h' (bj Q B h'.g (AF 17)++L):=Ae _ Aq;obtain⟨_, _,g3, _⟩:=S.tg (X:=X) (A:=B) (g:=h'.g) mem (b_ d _) z5;have AH:bI w6 (B a.toNat).bm ⟨(B a.toNat).es⟩ (B a.toNat).ck:=H.get (fI d _ _ z);refine⟨rfl,rfl,aj.of _ g3 ⟨_,⟨_, _, _,rfl,AH,rfl⟩,?_⟩⟩;have iI:(⟨(B a.toNat).es⟩:Array B4).size=n:=by
  rw[<-hn,V];exact(d.mp z).len
 rw[iI];refine ab (λo=>?_) (λo=>?_)
 ·have o:n>0:=by
   have:(n:Int)>0:=by simpa using o
   omega
  have E:((B a.toNat).bg,[ah (some ⟨(B a.toNat).bt,0,none⟩),.map (some (B a.toNat).bm)])∈[(U,[ax 0,aa 0]),(P,ik k a b c)]++eo Q X B h' (bj Q B h'.g (AF 17)++L):=b_ d _ _ _ z _ Aq;have dk:x'.tk.map (·.1)≠[]:=λe=>by
   have:=congrArg F6 e;rw[B5, <-V,hn] at this;simp at this;omega
  have F3:=EF dk (λy hy=>by
   obtain⟨t,ht,rfl⟩:=B2.1 hy;exact Za t (by rw[V];exact ht))
  refine MN H E (fI d _ _ z) (d.mp z) λw7 H=>?_;obtain⟨p,hp⟩: ∃p,p=Av (x'.tk.map (·.1)):=⟨_,rfl⟩;rw[<-hp] at F3 ⊢;obtain⟨t,ht,htp⟩:=B2.1 F3;have sS:cq x'.tk p=some t.2:=(lh (a:=t.2.1) (b:=t.2.2) (d.mp z).2.2.2).2 (by rw[<-htp];exact ht);have hX:NO h' a p=t.2:=by unfold NO;rw[z];dsimp only;rw[sS];rfl
  have FI:yy a h'=dn h' a p t.2.1 t.2.2:=by
   unfold yy;rw[V, <-hp,hX]
  refine EC d (T:=[(U,[ax 0,aa 0]),(P,ik k a b c)]) H z5 hF' (by rw[TE];exact NL N) z sS λB' w8 hb W'' H=>λw9 h9=>⟨n - 1,by omega,B',dn h' a p t.2.1 t.2.2,?_,?_,?_,?_,?_,?_,?_,W'',H.ext h9⟩
  ·rw[<-FI, <-hg];obtain⟨m,rfl⟩: ∃m,n=m+1:=⟨n - 1,by omega⟩;rfl
  ·rw[ED,V];obtain⟨r,I,Fp⟩:=(d.mp z).find p;rw[sS] at Fp;obtain⟨i, _,hi,hM⟩:=Fp;rw[<-hM.len,H4,av hi];have:=(d.mp z).len;rw[V] at hn;omega
  ·rw[sN];exact z5
  ·rw[HU];exact TE
  ·have e:(dn h' a p t.2.1 t.2.2).s.1.length=h'.s.1.length:=tN _ _ _ _ _;exact⟨by rw[e];exact hF'.1,by rw[e];exact hF'.2⟩
  ·intro t' qa;rw[ED] at qa;exact Za t' (Ga.1 qa).1
  ·rw[hb,aaU]
 have N7:n=0:=by
  have: ¬ (n:Int)>0:=by simpa using o
  omega
 subst N7;have hg:h'=e_ a (vE h a).length h:=hg;rw[<-hg] at kk;clear hg iI o g3 S J2 mem AH hb Za hn hF' AI;have acz:0<=x'.root/\x'.root<4096:=by rw[<-Zb,TE];exact NL N
 rw[Zb] at kk;have H:=H.perm (aae Ku z _);obtain⟨G2,S,J2⟩:=H.call;refine⟨rfl,rfl,aj.of _ (S.fK (X:=X) (A:=B) (g:=h'.g) (Ct (i:=4) rfl) (n:=2) rfl) (S.abJ 5 6 rfl rfl (by rw[d.gl];decide) (by rw[d.gl];decide) (by decide) a λn2 w8 S=>⟨rfl,rfl,aj.of _ (S.fK (X:=X) (A:=B) (g:=h'.g) (Ct (i:=4) rfl) (n:=3) rfl) (S.abN 7 rfl d.pt a λw9 S=>⟨rfl,rfl,?_⟩)⟩)⟩;refine S.cz 0 rfl rfl (S.drop 1 rfl acz λy abS ny S _=>?_);have S:=S.sub (FY _ abS);refine⟨rfl,rfl,aj.of _ (S.fK (X:=X) (A:=B) (g:=h'.g) (Ct (i:=4) rfl) (n:=1) rfl) (S.owned a λr2 O3 oO S E=>?_)⟩;obtain⟨s1,BX⟩: ∃s1,s1=cG h'.s x'.root false:=⟨_,rfl⟩;have hgo:vP h' a={s:=(s1.1,(Ck s1.2 a).1),g:=a_ h'.g a.toNat none,gr:=cP h'.gr a,po:=(Po.cG 4 h'.po a).2}:=by
  unfold vP;rw[Zb, <-BX]
 rw[<-BX] at S kk E;rw[hgo] at kk;obtain⟨xp2,xn2,xc2⟩:=r2;have acA:xn2=(fY s1.2 a).length:=by have:=E.1;rw[B5] at this;exact this
 subst acA;have DP:(fY s1.2 a).length<=4096:=HB (EE _ _) S.le;obtain⟨l,Iv⟩: ∃l,l=fY s1.2 a:=⟨_,rfl⟩;have FQ:Ck s1.2 a=l.foldl (uY a) (s1.2,0):=by unfold Ck;rw[Iv]
 rw[<-Iv] at E DP ⊢;obtain⟨R,hR⟩: ∃R,R=Ck s1.2 a:=⟨_,rfl⟩;rw[<-hR] at kk;rw[<-hR] at FQ;obtain⟨RL,hRL⟩: ∃RL:List (Nat×List AC),RL=((B a.toNat).bg,[ah (some ⟨(B a.toNat).bt,0,none⟩),.map (some (B a.toNat).bm)])::((B a.toNat).bt,p_ Q ((a.toNat:Nat):Int) x'.root true)::(U,[ax 0,aa 0])::(P,ik k a b c)::(X.hb,fe Q X B h'.g)::(X.gb,mK X.uI h'.gr.length X.c)::(X.uI,flat eG (cP h'.gr a)++X.rest)::(X.pb,Po.gW 4 (Po.cG 4 h'.po a).2)::(bj Q B h'.g ((AF 17).erase a.toNat)++L):=⟨_,rfl⟩;have S:a9 Q [] G2 w6 oO s1 (RL++O3):=by rw[hRL];exact S
 have aaV: ∀{T:List (Nat×List AC)},(X.hb,fe Q X B h'.g)∈RL++T:=λ{T}=>Cg _ (by rw[hRL];exact Ct (i:=4) rfl);refine⟨λn q w'=> ∃(m:Nat) (ds:List DT),q.2.1=(m:Int)/\n+m=l.length/\(0<=q.1/\q.1<=m)/\(l.drop m).foldl (uY a) (ds,q.1)=R/\a9 Q [] G2 w6 w' (s1.1,ds) (RL++O3),⟨l.length,λDp Iu=>⟨0,s1.2,rfl,rfl,⟨by decide,by decide⟩,FQ.symm,S.ext Iu⟩⟩,?_⟩;clear S;rintro n ⟨cnt,q,u⟩ Dp ⟨m,ds,Y,hnm,hcm,M,S⟩;dsimp only at Y hcm M ⊢;subst Y;refine ab (λo=>?_) (λo=>?_)
 ·have O:m<l.length:=by simpa using o
  obtain⟨f,Ym⟩: ∃f,f=l[m]:=⟨_,rfl⟩;have I:l[m]? =some f:=by rw[Ym];exact DA O
  have Kc:(l.map λi=>((i:Nat):Int))[m]? =some ((f:Nat):Int):=by rw[Cj,I];rfl
  have Z:=(S.aaT E (λx hx=>Ae _ hx)) m _ Kc;rw[I1 O, <-Ym,G1] at M;refine⟨⟨Z.1,by omega,by omega⟩,aj.of _ Z.2 ⟨rfl,rfl,aj.of _ (S.fK (X:=X) (A:=B) (g:=h'.g) aaV (n:=1) rfl) ⟨(qI ds (f:Int),Ag ds (f:Int),()),S.ofq (f:Int),S.al λbd N8 S=>S.fh 0 rfl rfl rfl λIo S=>⟨rfl,S.cz 0 rfl rfl ?_⟩⟩⟩⟩;refine ab (λF=>⟨rfl,rfl,aj.of _ (S.fK (X:=X) (A:=B) (g:=h'.g) (Ar _ aaV) (n:=1) rfl) (S.Ul (f:Int) 5 a λw15 S=>λYe Xc=>⟨n - 1,by omega,m+1, _,?_,by omega,?_,?_,(S.ext Xc).tail⟩)⟩) (λF=>λYe Xc=>⟨n - 1,by omega,m+1,ds,?_,by omega,?_,?_,(S.ext Xc).tail⟩)
  ·show aH .i64 (m:Int) 1= _;rw[ay (by omega) (by omega)];omega
  ·show 0<=aH .i64 cnt 1/\aH .i64 cnt 1<=((m+1:Nat):Int);rw[ay (by omega) (by omega)];omega
  ·show(l.drop (m+1)).foldl (uY a) (dH ds (f:Int) (aP 5 a),aH .i64 cnt 1)=R;rw[ay (by omega) (by omega), <-M];have d4:(qI ds (f:Int)).1=4:=by simpa using F
   rw[show uY a (ds,cnt) f=if(qI ds (f:Int)).1=4 then(dH ds (f:Int) (aP 5 a),cnt+1) else(ds,cnt) from rfl,av d4]
  ·show aH .i64 (m:Int) 1= _;rw[ay (by omega) (by omega)];omega
  ·show 0<=cnt/\cnt<=((m+1:Nat):Int);omega
  ·show(l.drop (m+1)).foldl (uY a) (ds,cnt)=R;rw[<-M];have d4: ¬ (qI ds (f:Int)).1=4:=by simpa using F
   rw[show uY a (ds,cnt) f=if(qI ds (f:Int)).1=4 then(dH ds (f:Int) (aP 5 a),cnt+1) else(ds,cnt) from rfl,ao d4]
 have O: ¬ m<l.length:=by simpa using o
 rw[List.drop_of_length_le (by omega)] at M;have M:(ds,cnt)=R:=M;rw[<-M] at kk;have S:=S.sub (FY _ O3);rw[hRL] at S;refine⟨rfl,rfl,⟨rfl,by omega,by show a<((17:Nat):Int);omega⟩,?_⟩;rw[aY];refine S.Cv 4 rfl rfl (by rw[Nat.blt_eq,Jz];omega) λN8 S=>S.res (j:=2) rfl _ _ λIo S=>?_;rw[dU ⟨by omega,by omega⟩];exact kk Io (abR d Ku z (MW _ _) (d.gk.drop _) (Po.Ry d.pt a) (J2 S))
end
def run (h:HS) (v k a b c:Int):HS×Int×Int:=match k.toNat with
 |1=>(fS h,AZ h,pB h)
 |2=>(th h a,Y' h a,F7 h a)
 |3=>(il h v a b,oW h v a b)
 |4=>(mO h v a,ye h v a)
 |5=>(iE h v a b,0,pz h v a b)
 |6=>(h,IN h v a)
 |7=>(jn h v a b,0,nL h v a)
 |8=>(gz h v a b c,yK h v a b c)
 |9=>(iT h v a b c,0,nF h v a b c)
 |10=>(eR h v a,0,pA h v a)
 |11=>(eY h v a,0,CM h v a)
 |12=>(kO h v a,IL h v a)
 |13=>(kQ h v a b,IM h v a b)
 |14=>(kN h v a,0,OY h v a)
 |15=>(O0 h v,OZ h v,0)
 |16=>(ir h v a,0,Gu h v a)
 | _=>(bq h (dL h.s h.s.2.length).1,((dL h.s h.s.2.length).2:Int),0)
def fT (h:HS) (v k a b c:Int):Int:=
 if(decide (v<0)||decide (v>16)|| !gu k a b c)=true then 1 else if(!(v==0)==qM k)=true then 7 else if(decide (v>0)&& !aQ h.g v)=true then 4 else 0
def qb (h:HS) (v k a b c:Int):Int:=if fT h v k a b c=0 then(run h v k a b c).2.2 else fT h v k a b c
def wS (h:HS) (v k a b c:Int):Int:=if fT h v k a b c=0 then(if(run h v k a b c).2.2=0 then(run h v k a b c).2.1 else 0) else 0
def ij (h:HS) (v k a b c:Int):HS:=if fT h v k a b c=0 then(run h v k a b c).1 else h
structure Cl (Q:Sys) (h:HS):Prop where
 NT:N_ Q h.s
 sz:16*h.s.2.length<=h.s.1.length
 rr: ∀v,aQ h.g v=true->0<=aR h.g v/\aR h.g v<4096
 pg: ∀v, ∀t∈vE h v,t.1<65536
 new: ∀v a b c, ∀x,h.g v.toNat=some x->aQ h.g v=true->kl h.s (aR h.g v) false b (lV h a).1 (wR c)=0->cq x.tk b=none
section
variable {Q:Sys} {X:HX} {D G:List Nat} {w0 w:A0} {h:HS} {L T:List (Nat×List AC)}
theorem JC (A:Nat->GA) (h:HS):(eo Q X A h (bj Q A h.g (AF 17)++(T++L))).Perm (T++eo Q X A h (bj Q A h.g (AF 17)++L)):=by
 have a:eo Q X A h (bj Q A h.g (AF 17)++(T++L))=(eo Q X A h (bj Q A h.g (AF 17)))++(T++L):=by simp
 have b:T++eo Q X A h (bj Q A h.g (AF 17)++L)=T++(eo Q X A h (bj Q A h.g (AF 17))++L):=by simp
 rw[a,b];exact Kb _ _ _
theorem jz.of {A:Nat->GA} (W:Dt A h) (H:SM Q D G w0 w h.s (T++eo Q X A h (bj Q A h.g (AF 17)++L)) (dy A h.g (AF 17))):jz Q X D G w0 w h (T++L):=
 ⟨A,W,H.perm (JC A h)⟩
theorem jz.to (H:jz Q X D G w0 w h (T++L)): ∃A,Dt A h/\SM Q D G w0 w h.s (T++eo Q X A h (bj Q A h.g (AF 17)++L)) (dy A h.g (AF 17)):=by
 obtain⟨A,W,H⟩:=H;exact⟨A,W,H.perm (JC A h).symm⟩
def l6 (k:Int):Nat:=([121,122,124,125,126,127,128,129,130,131,132,133,134,135,136,137,123]:List Nat).getD (k - 1).toNat 0
theorem dP (H:jz Q X D G w0 w h L) (R:Cl Q h) {v k a b c:Int} (l:1<=k/\k<=17) (i:qM k=false->aQ h.g v=true) (f:0<=a/\a<18446744073709551616) (hb:0<=b/\b<18446744073709551616) (hc:0<=c/\c<18446744073709551616) {K:RS->A0->Prop}
 (kk: ∀V d,((run h v k a b c).2.2=0->V=(run h v k a b c).2.1)->jz Q X D G w0 d (run h v k a b c).1 L->K (V,(run h v k a b c).2.2,()) d):
 aE A2 (l6 k) (.el (.agg iW)) [ah (ae X.hb),aa v,.agg ⟨ik k a b c⟩] w K:=by
 have:k=1\/k=2\/k=3\/k=4\/k=5\/k=6\/k=7\/k=8\/k=9\/k=10\/k=11\/k=12\/k=13\/k=14\/k=15\/k=16\/k=17:=by omega
 rcases this with rfl|rfl|rfl|rfl|rfl|rfl|rfl|rfl|rfl|rfl|rfl|rfl|rfl|rfl|rfl|rfl|rfl
 ·exact MV H (by have:=R.sz;omega) v 1 a b c λV d j H=>kk V d j H
 ·exact HV H v 2 b c f.1 R.NT (R.rr a) (R.pg a) λd H=>kk _ d (λ_=>rfl) H
 ·exact MK H (i rfl) 3 c f.1 hb.1 λd H=>kk _ d (λ_=>rfl) H
 ·exact HN H (i rfl) R.NT (R.rr v (i rfl)) 4 b c f.1 λd H=>kk _ d (λ_=>rfl) H
 ·exact HM H (i rfl) 5 c f.1 hb.1 λd H=>kk _ d (λ_=>rfl) H
 ·exact V9 H v 6 b c f.1 λd H=>kk _ d (λ_=>rfl) H
 ·exact Sq H v 7 c f.1 hb λd H=>kk _ d (λ_=>rfl) H
 ·exact Sp H v 8 f.1 hb.1 hc.1 λd H=>kk _ d (λ_=>rfl) H
 ·exact V' H (i rfl) 9 f.1 hb.1 hc.1 (λx hx e=>R.new v a b c x hx (i rfl) e) λd H=>kk _ d (λ_=>rfl) H
 ·exact V_ H (i rfl) R.NT (R.rr v (i rfl)) 10 b c f.1 λd H=>kk _ d (λ_=>rfl) H
 ·exact MF H v 11 b c f.1 λd H=>kk _ d (λ_=>rfl) H
 ·exact V7 H v 12 b c f.1 λd H=>kk _ d (λ_=>rfl) H
 ·exact V8 H v 13 c f.1 hb.1 λd H=>kk _ d (λ_=>rfl) H
 ·exact V5 H v 14 b c f.1 λd H=>kk _ d (λ_=>rfl) H
 ·exact V6 H v 15 a b c λd H=>kk _ d (λ_=>rfl) H
 ·exact Sm H v 16 b c f.1 λd H=>kk _ d (λ_=>rfl) H
 ·exact Sr H v 17 a b c λd H=>kk _ d (λ_=>rfl) H
end
def oX (k:Int) (b:Nat):B4:={key:=aa k,val:= .func (.func (l6 k)) #[] #[],born:=b}
def cZ:Array B4:=⟨[oX 1 0,oX 2 1,oX 17 2,oX 3 3,oX 4 4,oX 5 5,oX 6 6,oX 7 7,oX 8 8,oX 9 9,oX 10 10,oX 11 11,oX 12 12,oX 13 13,oX 14 14,oX 15 15,oX 16 16]⟩
section
variable {D G:List Nat} {w0 w:A0} {L:List (Nat×List AC)} {M:List (Nat×Bx)}
theorem MX (H:cD D G w0 w L M) {K:Option Nat->A0->Prop} (k: ∀r a,cD D G w0 a L ((r,.map cZ 17)::M)->K (some r) a):aA A2 78 (.el (.one .map)) [] w K:=by
 refine λw1 h1=>ai (C:=V0) (aW:=λ_=>[]) (AM (Mn w1 K) ?_);have H:=H.ext h1;intro b c;have H:=(H.ext c).alloc (o:= .map #[] 0) trivial;refine gQ H (by kernel_rfl) λf H=>?_;refine gQ H (by kernel_rfl) λg H=>?_;refine gQ H (by kernel_rfl) λh H=>?_;refine gQ H (by kernel_rfl) λi H=>?_;refine gQ H (by kernel_rfl) λj H=>?_;refine gQ H (by kernel_rfl) λl H=>?_;refine gQ H (by kernel_rfl) λm H=>?_;refine gQ H (by kernel_rfl) λn H=>?_;refine gQ H (by kernel_rfl) λp H=>?_;refine gQ H (by kernel_rfl) λq H=>?_;refine gQ H (by kernel_rfl) λs H=>?_;refine gQ H (by kernel_rfl) λt H=>?_;refine gQ H (by kernel_rfl) λu H=>?_;refine gQ H (by kernel_rfl) λv H=>?_;refine gQ H (by kernel_rfl) λx H=>?_;refine gQ H (by kernel_rfl) λy H=>?_;refine gQ H (by kernel_rfl) λz H=>?_;exact λd e=>k b.heap.size d ((H.ext e).Xy (by kernel_rfl))
theorem C_ {k:Int} (a:1<=k/\k<=17):bL A2 (l6 k)=true:=by
 have:k=1\/k=2\/k=3\/k=4\/k=5\/k=6\/k=7\/k=8\/k=9\/k=10\/k=11\/k=12\/k=13\/k=14\/k=15\/k=16\/k=17:=by omega
 rcases this with rfl|rfl|rfl|rfl|rfl|rfl|rfl|rfl|rfl|rfl|rfl|rfl|rfl|rfl|rfl|rfl|rfl
 ·exact(by kernel_rfl:bL A2 (l6 1)=true)
 ·exact(by kernel_rfl:bL A2 (l6 2)=true)
 ·exact(by kernel_rfl:bL A2 (l6 3)=true)
 ·exact(by kernel_rfl:bL A2 (l6 4)=true)
 ·exact(by kernel_rfl:bL A2 (l6 5)=true)
 ·exact(by kernel_rfl:bL A2 (l6 6)=true)
 ·exact(by kernel_rfl:bL A2 (l6 7)=true)
 ·exact(by kernel_rfl:bL A2 (l6 8)=true)
 ·exact(by kernel_rfl:bL A2 (l6 9)=true)
 ·exact(by kernel_rfl:bL A2 (l6 10)=true)
 ·exact(by kernel_rfl:bL A2 (l6 11)=true)
 ·exact(by kernel_rfl:bL A2 (l6 12)=true)
 ·exact(by kernel_rfl:bL A2 (l6 13)=true)
 ·exact(by kernel_rfl:bL A2 (l6 14)=true)
 ·exact(by kernel_rfl:bL A2 (l6 15)=true)
 ·exact(by kernel_rfl:bL A2 (l6 16)=true)
 ·exact(by kernel_rfl:bL A2 (l6 17)=true)
theorem wC {r:Nat} (h:bI w r cZ 17) {k:Int} (a:1<=k/\k<=17):j8 w (some r) .i64 k Value.nilFunc (.func (.func (l6 k)) #[] #[]):=by
 have:k=1\/k=2\/k=3\/k=4\/k=5\/k=6\/k=7\/k=8\/k=9\/k=10\/k=11\/k=12\/k=13\/k=14\/k=15\/k=16\/k=17:=by omega
 rcases this with rfl|rfl|rfl|rfl|rfl|rfl|rfl|rfl|rfl|rfl|rfl|rfl|rfl|rfl|rfl|rfl|rfl
 ·exact⟨r,cZ,17,rfl,h,rfl⟩
 ·exact⟨r,cZ,17,rfl,h,rfl⟩
 ·exact⟨r,cZ,17,rfl,h,rfl⟩
 ·exact⟨r,cZ,17,rfl,h,rfl⟩
 ·exact⟨r,cZ,17,rfl,h,rfl⟩
 ·exact⟨r,cZ,17,rfl,h,rfl⟩
 ·exact⟨r,cZ,17,rfl,h,rfl⟩
 ·exact⟨r,cZ,17,rfl,h,rfl⟩
 ·exact⟨r,cZ,17,rfl,h,rfl⟩
 ·exact⟨r,cZ,17,rfl,h,rfl⟩
 ·exact⟨r,cZ,17,rfl,h,rfl⟩
 ·exact⟨r,cZ,17,rfl,h,rfl⟩
 ·exact⟨r,cZ,17,rfl,h,rfl⟩
 ·exact⟨r,cZ,17,rfl,h,rfl⟩
 ·exact⟨r,cZ,17,rfl,h,rfl⟩
 ·exact⟨r,cZ,17,rfl,h,rfl⟩
 ·exact⟨r,cZ,17,rfl,h,rfl⟩
end
section
variable {Q:Sys} {X:HX} {D G:List Nat} {w0 w:A0} {s:WD} {h:HS} {L L0:List (Nat×List AC)} {M:List (Nat×Bx)} {K:RS->A0->Prop}
theorem SM.PN (H:SM Q D G w0 w s L0 M) {K:Option Nat->A0->Prop} (k: ∀r e,SM Q D G w0 e s L0 ((r,.map cZ 17)::M)->K (some r) e):aA A2 78 (.el (.one .map)) [] w K:=by
 obtain⟨a,b,c,d,ca,la,H⟩:=H;exact MX H λr e H=>k r e ⟨a,b,c,d,ca,la,H⟩
theorem Gw (S:a9 Q D G w0 w s L0) {j j1 b c:Nat} {l:List AC} {g h:AC} (i:L0[j]? =some (b,l)) (o:L0[j1]? =some (c,[g,h])) (p:j≠j1) (m:l.length=2) (V E:Int)
 (kk: ∀a,a9 Q D G w0 a s ((L0.set j (b,[ax V,aa E])).set j1 (c,[ax (if E=0 then V else 0),aa E]))->K (if E=0 then V else 0,E,()) a):
 aC w (ae b) [ax V,aa E] λ(a:A0)=>true=true/\aj a none (ad (ae b) 1) (.one (.int .i64)) λ(x:Int)=>
  aG (x != 0)
   (true=true/\aj a none (ad (ae b) 1) (.one (.int .i64)) λ(x:Int)=>True/\
    aC a (ae c) [ax 0,aa x] λ(a:A0)=>au a λ(w1:A0)=>aj w1 none (ae c) (.agg [.int .u64,.int .i64]) λ(x:Int×Int×Unit)=>K (x.1,x.2.1,()) w1)
   (aj a none (ae b) (.agg [.int .u64,.int .i64]) λ(x:Int×Int×Unit)=>
    aC a (ae c) [ax x.1,aa x.2.1] λ(a:A0)=>au a λ(w1:A0)=>aj w1 none (ae c) (.agg [.int .u64,.int .i64]) λ(x:Int×Int×Unit)=>K (x.1,x.2.1,()) w1):=by
 have n:j<L0.length:=(Ci.1 i).1;refine S.fh j i rfl m.symm λa S=>?_;have d:(L0.set j _)[j]? =some (b,[ax V,aa E]):=Dx n;have k:(L0.set j (b,[ax V,aa E]))[j1]? =some (c,[g,h]):=by grind
 refine⟨rfl,S.cz j d (rfl) ?_⟩;refine ab (λe=>?_) (λe=>?_)
 ·have e: ¬ E=0:=by simpa using e
  rw[ao e] at kk;exact⟨rfl,S.cz j d (show _=some E from rfl) ⟨trivial,S.res k 0 E λf S=>kk f S⟩⟩
 ·have e:E=0:=by simpa using e
  rw[av e] at kk;exact S.ld j d (rfl) (S.res k V E λf S=>kk f S)
theorem aaf {a:Nat} {sh:Sh} {args:List AC} {w:A0} {K:sh.T->A0->Prop} (hc:bL A2 a=true) (b: ∀w1,Ext w w1->aE A2 a sh args w1 K):z4 A2 (.func (.func a) #[] #[]) sh args w K:=by grind[z4,dt]
theorem aag (H:jz Q X D G w0 w h L) (R:Cl Q h) (v k:Int) {a b c:Int} (P:0<=a/\a<18446744073709551616) (hb:0<=b/\b<18446744073709551616) (hc:0<=c/\c<18446744073709551616)
 (kk: ∀n,jz Q X D G w0 n (ij h v k a b c) L->K (wS h v k a b c,qb h v k a b c,()) n):
 aE A2 42 (.el (.agg iW)) [ah (ae X.hb),aa v,.agg ⟨ik k a b c⟩] w K:=by
 obtain⟨A,W,H⟩:=H;obtain⟨U,S,J⟩:=H.call;refine aS (C:=V1) (aW:=λ_=>[]) (AM (Z9 _ v k a b c w K) ?_);unfold qb wS ij at kk;refine S.al λY n S=>S.al λZ w3 S=>⟨_,m9 S (X:=X) (A:=A) (g:=h.g) (by simp),an rfl ?_⟩;have B: ∀e,e≠0->fT h v k a b c=e-> ∀{n:A0} {x:List AC},a9 Q [] U w n h.s ((Z,x)::(Y,ik k a b c)::eo Q X A h (bj Q A h.g (AF 17)++L))->K (0,e,()) n:=λe E h1 n x S=>by
  rw[h1,ao E,ao E,ao E] at kk;exact kk n ⟨A,W,J S.tail.tail⟩
 have f:fT h v k a b c=if(decide (v<0)||decide (v>16)|| !gu k a b c)=true then 1 else if(!(v==0)==qM k)=true then 7 else if(decide (v>0)&& !aQ h.g v)=true then 4 else 0:=rfl;refine S.ld 1 rfl (show _=some (k,a,b,c,()) from rfl) ⟨gu k a b c,λ_=>Ek k a b c,?_⟩;refine ab (λd=>⟨trivial,S.res (j:=0) rfl 0 1 λm S=>?_⟩) (λd=>⟨rfl,S.cz 1 rfl rfl ⟨qM k,Ht k,?_⟩⟩)
 ·rw[av d] at f;exact B 1 (by decide) f S
 rw[ao (by rw[d];decide)] at f;simp only[E5,decide_eq_false_iff_not,Bool.not_eq_false'] at d;obtain⟨⟨dv0,dv1⟩,F⟩:=d;refine ab (λd=>⟨trivial,S.res (j:=0) rfl 0 7 λm S=>?_⟩) (λd=>⟨aQ h.g v,λ_=>qj S (X:=X) (A:=A) (g:=h.g) (by simp) v,?_⟩)
 ·rw[av d] at f;exact B 7 (by decide) f S
 rw[ao (by rw[d];decide)] at f;have dc:=d;refine ab (λd=>⟨trivial,S.res (j:=0) rfl 0 4 λm S=>?_⟩) (λd=>⟨rfl,S.cz 1 rfl rfl (S.ld 1 rfl (show _=some (k,a,b,c,()) from rfl) ?_)⟩)
 ·rw[av d] at f;exact B 4 (by decide) f S
 rw[ao (by rw[d];decide)] at f;rw[f,av rfl,av rfl,av rfl] at kk;have y:1<=k/\k<=17:=by
  unfold gu at F;rw[Fy,decide_eq_true_eq] at F;have d1:=F.1;unfold j_ at d1
  grind
 have hl:qM k=false->aQ h.g v=true:=λe=>by
  grind
 have call: ∀{T:List (Nat×List AC)} {m:A0} {I:RS->A0->Prop},SM Q D G w0 m h.s (T++eo Q X A h (bj Q A h.g (AF 17)++L)) (dy A h.g (AF 17))->
  (∀V p l,((run h v k a b c).2.2=0->V=(run h v k a b c).2.1)->Dt l (run h v k a b c).1->SM Q D G w0 p (run h v k a b c).1.s _ (dy l (run h v k a b c).1.g (AF 17))->I (V,(run h v k a b c).2.2,()) p)->
  z4 A2 (.func (.func (l6 k)) #[] #[]) (.el (.agg iW)) _ m I:=λ{T m I} H kk2=>by
  refine aaf (C_ y) λp h5=>?_;refine dP (jz.of W (H.ext h5)) R y hl P hb hc λV z o H=>?_;obtain⟨l,q,H⟩:=jz.to H;exact kk2 V z l o q H
 have fin: ∀{V:Int},((run h v k a b c).2.2=0->V=(run h v k a b c).2.1)->(if(run h v k a b c).2.2=0 then V else 0)=if(run h v k a b c).2.2=0 then(run h v k a b c).2.1 else 0:=λ{V} o=>by
  grind
 refine⟨?_,?_⟩
 ·refine(J S).PN λr m H=>?_;have M:bI m r cZ 17:=H.get Aq;have H:=H.FR (BW _ _);obtain⟨G2,S,N⟩:=H.call;refine⟨dV (S.get (i:=1) rfl) rfl,?_,trivial, _,wC M y,?_,?_⟩
  ·rw[aY];exact dV (S.get (i:=1) rfl) rfl
  ·refine call (T:=[_, _]) H λV p l o q H=>?_;obtain⟨G3,S,t⟩:=H.call;refine S.al λO z S=>Gw S (j:=0) (j1:=1) rfl rfl (by decide) rfl V _ λu S=>?_;rw[fin o];exact kk u ⟨l,q,t S.tail.tail.tail⟩
  ·refine S.al λO p S=>call (T:=[_, _, _]) (N S) λV z l o q H=>?_;obtain⟨G3,S,t⟩:=H.call;refine Gw S (j:=0) (j1:=1) rfl rfl (by decide) rfl V _ λu S=>?_;rw[fin o];exact kk u ⟨l,q,t S.tail.tail.tail⟩
 ·refine S.al λO m S=>(J S).PN λr p H=>?_;have M:bI p r cZ 17:=H.get Aq;have H:=H.FR (BW _ _);obtain⟨G2,S,N⟩:=H.call;refine⟨dV (S.get (i:=2) rfl) rfl,?_,trivial, _,wC M y,?_⟩
  ·rw[aY];exact dV (S.get (i:=2) rfl) rfl
  ·refine call (T:=[_, _, _]) H λV z l o q H=>?_;obtain⟨G3,S,t⟩:=H.call;refine Gw S (j:=0) (j1:=1) rfl rfl (by decide) rfl V _ λu S=>?_;rw[fin o];exact kk u ⟨l,q,t S.tail.tail.tail⟩
end
open Po (tv Ka OT Gr Ir xD sL OU)
section
variable {w0:A0} {Q:Sys} {X:HX} {A:Nat->GA} {g:Nat->Option GV} {gs:List GT} {po:List Po.PT}
structure HBl (w0:A0) (Q:Sys) (X:HX) (A:Nat->GA) (g:Nat->Option GV) (gs:List GT) (po:List Po.PT):Prop where
 hb:bO w0 X.hb (fe Q X A g)
 gb:bO w0 X.gb (mK X.uI gs.length X.c)
 gr:bO w0 X.uI (flat eG gs++X.rest)
 pb:bO w0 X.pb (Po.gW 4 po)
 gl:gs.length=16
 gk:og gs
 pt:Po.ma 4 po
end
section
variable {Q:Sys} {X:HX} {D G:List Nat} {w0 w:A0} {h:HS} {L:List (Nat×List AC)}
end
end Go.Proofs.YtlcenllcmeebhaaGreat
namespace Go.Proofs.YtlcenllcmeebhaaGreat.Po
set_option maxRecDepth 100000
open Go.RX
def k0:List PT:=Bs 512 zP
theorem Sz {room:Int} (h1:1<=room) (a:room<=32):ma room k0 where
 len:=Db
 lo:=h1
 hi:=a
 inv g i h:=by
  refine .inl ?_;unfold gp k0;rw[Ds,List.getElem?_replicate];split<;>rfl
theorem MY (n:Int) (w:A0) (a:Option AJ×Int×Unit->A0->Prop):(aI R1 (λ_=>[]) 74 [aa n] w a)=(
 aG (decide (n<1)||decide (n>32)) (au w (a (none,1,()))) (aN w ⟨gW n k0⟩ 221 λb c=>au c (a (some ⟨b,0,none⟩,0,())))):=by kernel_rfl
section
variable {D G:List Nat} {w0 w:A0} {L:List (Nat×List AC)}
theorem SA (H:aM D G w0 w L) (n:Int) {K:Option AJ×Int×Unit->A0->Prop} (hb:n<1\/n>32-> ∀w1,aM D G w0 w1 L->K (none,1,()) w1)
 (hg:1<=n->n<=32-> ∀bp w1,aM D G w0 w1 ((bp,gW n k0)::L)->K (some ⟨bp,0,none⟩,0,()) w1):
 aA A2 74 (.bA [.one .ptr,.one (.int .i64)]) [aa n] w K:=by
 refine aA.go H λw1 H=>ai (C:=R1) (aW:=λ_=>[]) (AM (MY n w1 K) ?_);refine ab (λc=>?_) (λc=>?_)
 ·exact au.go H λa H=>hb (by simp at c;omega) a H
 ·refine aN.go H λb a H=>au.go H λd H=>hg (by simp at c;omega) (by simp at c;omega) b d H
end
end Go.Proofs.YtlcenllcmeebhaaGreat.Po
namespace Go.Proofs.YtlcenllcmeebhaaGreat
set_option maxRecDepth 100000
open Go.RX D
def h0 (n:Nat):HS:={s:=fresh (16*n) n,g:=λ_=>none,gr:=Bs 16 zG,po:=Po.k0}
section
variable {D G:List Nat} {w0 w:A0} {L:List (Nat×List AC)}
theorem Wc (H:aM D G w0 w L) (n:Int) {K:Option AJ×Int×Unit->A0->Prop} (kb:n<4\/n>4096-> ∀w1,aM D G w0 w1 L->K (none,1,()) w1)
 (A:4<=n->n<=4096-> ∀Q X w1,Q.c=16*n.toNat->jz Q X D G w0 w1 (h0 n.toNat) L->K (some ⟨X.hb,0,none⟩,0,()) w1):
 aA A2 40 (.bA [.one .ptr,.one (.int .i64)]) [aa n] w K:=by
 refine aA.go H λw1 H=>ai (C:=V0) (aW:=λ_=>[]) (AM (VU n w1 K) ?_);refine ab (λc=>au.go H λp H=>kb (by simpa using c) p H) (λc=>?_);have q:4<=n/\n<=4096:=by
  simp only[E5,decide_eq_false_iff_not] at c;omega
 obtain⟨m,rfl⟩: ∃m:Nat,n=(m:Int):=⟨n.toNat,by omega⟩;have e:fX .i64 16 (m:Int)=((16*m:Nat):Int):=by rw[eJ (by omega) (by omega)];omega
 rw[e];refine aN.go H λb p H=>?_;refine xB (n:=16*m) H (by omega) λbm bw B H=>⟨rfl,rfl,?_⟩;generalize r:Bs (16*m) (0:Int)=W at H;refine aC.gP 2 H rfl rfl rfl λE H=>?_;refine CH H (m:Int) (λhb=>by omega) λ_ _ bp bf F H=>⟨rfl,rfl,?_⟩;rw[show((m:Int)).toNat=m from rfl] at H;generalize s:Bs m zD=DS at H;refine aC.gP 4 H rfl rfl rfl λI H=>?_;refine Vk H 16 (by decide) λgb gr J H=>⟨rfl,rfl,?_⟩;obtain⟨t,u⟩: ∃t,t=Bs 16 zG:=⟨_,rfl⟩;rw[<-u] at H;refine aC.gP 6 H rfl rfl rfl λM H=>?_;refine Po.SA H 4 (λhb=>by omega) λ_ _ pb N H=>⟨rfl,rfl,?_⟩;obtain⟨v,y⟩: ∃v,v=Po.k0:=⟨_,rfl⟩;rw[<-y] at H;refine aC.gP 7 H rfl rfl rfl λO H=>au.go H λz H=>?_;refine A q.1 q.2 ⟨bm,bw,bf,bp,16*m,m,[],[]⟩ ⟨b,gb,gr,pb,16,[]⟩ z rfl ⟨λ_=>⟨0,0,0,0,[]⟩,⟨λh=>(by cases h),λh=>(by cases h),rfl,Po.Sz (by decide) (by decide),og.new 16⟩,SM.of ⟨?_,?_,?_,?_,0,0,?_⟩⟩
 ·show 0<(Bs (16*m) (0:Int)).length;rw[Db];omega
 ·show 0<(Bs m zD).length;rw[Db];omega
 ·show(Bs m zD).length<=4096;rw[Db];omega
 ·intro x hx;have hx:x∈Bs (16*m) (0:Int):=hx;rw[List.eq_of_mem_replicate hx];decide
 ·unfold Sys.L;show aM D G w0 z ((bm,mv bw (Bs (16*m) (0:Int)).length (16*m) 0 0)::(bw,flat eW (Bs (16*m) (0:Int))++[])::(bf,flat eD (Bs m zD)++[])::(bp,[.slice (ae bf) (Bs m zD).length m])::(b,fe _ _ (λ_=>⟨0,0,0,0,[]⟩) λ_=>none)::(gb,mK gr (Bs 16 zG).length 16)::(gr,flat eG (Bs 16 zG)++[])::(pb,Po.gW 4 Po.k0)::([]++L));rw[r,s, <-u, <-y,show W.length=16*m by rw[<-r,Db],show DS.length=m by rw[<-s,Db]];refine H.perm ?_;have p1: ∀(a d f g j k l o:Nat×List AC),([k,l,j,g,o,d,f,a]++L).Perm ([a,d,f,g,j,k,l,o]++L):=λa d f g j k l o=>by
   refine Ft L ?_;exact(show([5,6,4,3,7,1,2,0]:List Nat).Perm [0,1,2,3,4,5,6,7] by decide).map λi=>([a,d,f,g,j,k,l,o]:List (Nat×List AC)).getD i a
  exact p1 _ _ _ _ _ _ _ _
end
section
variable {D G:List Nat} {w0 w w1:A0} {L L0 Ls:List (Nat×List AC)}
theorem cD.XE {M1 M2 M1':List (Nat×Bx)} {L':List (Nat×List AC)} (H:cD D G w0 w L (M1++M2)) (K:cD [] (L.map (·.1)++M1.map (·.1)) w w1 L' M1'):cD D G w0 w1 L' (M1'++M2):=by
 have d:=H.nd;rw[FX,H5] at d;have f: ∀x∈L.map (·.1)++M1.map (·.1),w0.heap.size<=x\/x∈G:=λx hx=>by
  rcases Do.1 hx with hx|hx
  ·obtain⟨y,c,rfl⟩:=B2.1 hx;exact H.base.own y c
  ·obtain⟨y,c,rfl⟩:=B2.1 hx;exact H.own y (Cg _ c)
 have g: ∀x,w.heap.size<=x\/x∈L.map (·.1)++M1.map (·.1)->w0.heap.size<=x\/x∈G:=λx hx=>by
  rcases hx with hx|hx
  ·exact .inl (HB H.base.fr.size hx)
  ·exact f x hx
 have h: ∀r∈D,r∉L.map (·.1)++M1.map (·.1):=λr i hx=>by
  rcases Do.1 hx with hx|hx
  ·obtain⟨y,c,e⟩:=B2.1 hx;exact aM.dg (H.base.dj y c) (H.base.p9 r i).2 (λ_ _ _ hc=>by cases hc) e
  ·obtain⟨y,c,e⟩:=B2.1 hx;exact H.nD y (Cg _ c) (by rw[e];exact i)
 have j: ∀y∈M2,y.1∉L.map (·.1)++M1.map (·.1):=λy c hx=>by
  rcases Do.1 hx with hx|hx
  ·obtain⟨x,hx,e⟩:=B2.1 hx;exact H.Gg hx (Ae _ c) e
  ·exact d.2.2 _ hx _ (B2.2 ⟨y,c,rfl⟩) rfl
 have k: ∀y∈M2,y.1<w.heap.size:=λy c=>(M4.1 (H.obj y (Ae _ c)).1).1;refine⟨H.base.frame K.base.fr f h K.base.dj (λx hx=>g _ (K.base.own x hx)) K.base.nd,λx hx=>?_,λx hx=>?_,?_,λx hx=>?_⟩
 ·rcases Do.1 hx with hx|hx
  ·exact K.obj x hx
  ·obtain⟨m,n⟩:=H.obj x (Ae _ hx);exact⟨by rw[K.base.fr.block x.1 (k x hx) (j x hx)];exact m,n⟩
 ·rcases Do.1 hx with hx|hx
  ·exact g _ (K.own x hx)
  ·exact H.own x (Ae _ hx)
 ·rw[FX,H5];refine⟨K.nd,d.2.1,λa o b hb e=>?_⟩;subst e;obtain⟨x,hx,rfl⟩:=B2.1 o;obtain⟨y,c,e⟩:=B2.1 hb;rcases K.own x hx with q|q
  ·have:=k y c;omega
  ·exact j y c (by rw[e];exact q)
 ·rcases Do.1 hx with hx|hx
  ·intro l;rcases K.own x hx with q|q
   ·have:=(M4.1 (H.base.p9 _ l).2).1;omega
   ·exact h _ l q
  ·exact H.nD x (Ae _ hx)
theorem cD.PO {M1 M2:List (Nat×Bx)} (H:cD D G w0 w L (M1++M2)):cD [] (L.map (·.1)++M1.map (·.1)) w w L M1:=by
 have a:=H.nd;rw[FX,H5] at a;exact⟨⟨Fr.refl _ w,H.base.dj,λx hx=> .inr (Cg _ (B2.2 ⟨x,hx,rfl⟩)),H.base.nd,λx hx=>(by cases hx)⟩,λx hx=>H.obj x (Cg _ hx),λx hx=> .inr (Ae _ (B2.2 ⟨x,hx,rfl⟩)),a.1,λx hx=>List.not_mem_nil⟩
end
end Go.Proofs.YtlcenllcmeebhaaGreat
