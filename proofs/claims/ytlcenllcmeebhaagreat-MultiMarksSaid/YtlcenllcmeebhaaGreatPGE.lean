import Derived.Test.YtlcenllcmeebhaaGreatPGD
/-! What the statement leans on: texts joined and shortened by a program of mine. -/
set_option linter.unusedVariables false
set_option linter.unusedSimpArgs false
open Go renaming World->A2,Value->AI,Addr->Aq,MapEntry->BP,Obj->CW
open Go.Proofs.Tryz renaming prog->AC
open List renaming range->Ag,mem_append_right->B2,mem_cons_self->B3,mem_cons_of_mem->B4,mem_map->B5,length_map->B6,perm_middle->B7,getElem?_of_mem->BJ,sublist_cons_self->BY,replicate->Bx,getElem?_map->DA,mem_append_left->DB,getElem?_eq_some_iff->DH,mem_of_getElem?->DQ,getElem?_eq_getElem->Dc,append_assoc->Dg,mem_range->Dj,map_append->Dk,mem_append->Dq,length_cons->Dr,length_set->Dx,length_replicate->E4,perm_append_comm->E5,flatMap_cons->F2,getElem?_set_self->FE,length_take->FP,getD_eq_getElem?_getD->FU,mem_cons->Fg,getElem?_set_ne->Fi,length->Ft,getElem?_inj->Fw,filter_eq_self->Fx,nodup_append->G1,getElem?_append_right->GD,sublist_append_right->GF,length_append->GG,perm_cons_erase->GH,filter_map->GI,map_map->GJ,ext_getElem?->GS,any_eq_true->Ga,sublist_append_left->Gd,mem_flatMap->H7,foldl_cons->HB,mem_singleton->HZ,map_cons->Hb,find?_eq_none->Hh,take_append_drop->Hq,set_append_right->Hr,filter_congr->I1,length_singleton->I2,mem_filter->ID,length_drop->IR,getElem?_append_left->If,length_eraseIdx->Ih,nodup_nil->J5,find?_some->J6,mem_of_find?_eq_some->J7,findIdx?_eq_some_iff_getElem->JR,drop_eq_getElem_cons->JS,nodup_cons->JU,eraseIdx_eq_take_drop_succ->JW,filter_cons_of_neg->JX,filter_sublist->K1,length_nil->Kb,countP_eq_length_filter->Kf,filter_cons->Ki,length_filter_le->LL,replicate_succ'->M4,set_append_left->M5,nil_append->N6,length_zipIdx->N7,find?_range_eq_some->NG,getElem?_eq_none->NI,perm_append_comm_assoc->NK
open Eq renaming mpr->B1
open List.Perm renaming cons->Dn,refl->FQ,flatMap_right->Gi,append_right->Gj,append_left->Ik
open Int renaming toNat_natCast->Do,le_refl->H4
open Bool renaming or_eq_false_iff->FR,and_eq_true->Fm,true_and->H5,or_eq_true->NL,not_eq_true'->NP
open Nat renaming le_refl->FS,zero_le->Fo,min_eq_left->In,le_trans->Io,not_lt_zero->NR
open List.Sublist renaming append_left->H6
open Array renaming contains_push->J3,eraseIdxIfInBounds->O2,getElem?_eq_some_iff->OW
open Option renaming map_eq_some_iff->Oa,map_eq_none_iff->Of
namespace Go.Proofs.YtlcenllcmeebhaaGreat
set_option maxRecDepth 100000
open Go.RX D
def Rt (g:Gh):Prop:= ∀f o x,g f=some (o,3,x)->x=0
theorem Rt.dn {g g':Gh} (h:Rt g) (k:mK g g'):Rt g':=λf o x e=>h f o x ((k _ _ _).1 e)
def upx:Nat->Int->Int
 |0,x=>x
 |n+1,x=>upx n x / 16
theorem Ji {ws:List Int} {l:Nat} {f z:Int}:z∈(Ag 16).flatMap (ow ws l f)<-> ∃i:Nat,i<16/\ ∃m,l=m+1/\dH (aL ws (16*f+(i:Int)))=true/\z∈cR ws m (aL ws (16*f+(i:Int))).2.2.2.1:=by
 rw[H7];constructor
 ·rintro⟨hi,h⟩;cases l with
  |zero
  |succ=>
   unfold ow at h
   grind
 ·rintro⟨i,hi,m,rfl,h⟩;unfold ow
  grind
theorem u_ (x:Int): ∀l:List Int,(ju x l).Perm (x::l)
 |[]=> .refl _
 |y::l=>by
  rw[ju];split
  ·exact((u_ x l).cons y).trans (.swap _ _ _)
  simp
theorem Bh: ∀(l a:List Int),(l.foldl (λa x=>ju x a) a).Perm (l++a)
 |[],a=> .refl _
 |x::l,a=>by
  exact(Bh l _).trans (by grind[u_])
theorem lE (l:List Int):(mH l).Perm l:=by grind[mH,Bh]
theorem RW (o:Int) (h:1<=o/\o<=16): ¬ (aO 5 0 (5,o,0,0,())).2=0:=by
 have a:dP 5 o 0 0=true:=by unfold dP jB;grind
 show ¬ gN 5 o 0 0 5 0=0;unfold gN;rw[au (by grind),au (by grind),au (by decide)]
 grind
theorem Bi {o:Int} (c:1<=o/\o<=16): ∀(l:List Int) (ds:List DT),(∀f∈l,0<=f/\(ds[f.toNat]? =some (3,o,0,0,())\/ds[f.toNat]? =some (5,o,0,0,())))->
 (l.foldl (λds f=>dF ds f (aO 5 0)) ds).length=ds.length/\ ∀n:Nat,((n:Int)∈l->(l.foldl (λds f=>dF ds f (aO 5 0)) ds)[n]? =some (5,o,0,0,()))/\((n:Int)∉l->(l.foldl (λds f=>dF ds f (aO 5 0)) ds)[n]? =ds[n]?)
 |[],ds, _=>⟨rfl,by grind⟩
 |f::l,ds,h=>by
  obtain⟨i,a⟩:=h f B3;have r:f.toNat<ds.length:=by
   rcases a with h|h<;>exact(DH.1 h).1
  have j:(dF ds f (aO 5 0)).length=ds.length/\(dF ds f (aO 5 0))[f.toNat]? =some (5,o,0,0,())/\ ∀n:Nat,n≠f.toNat->(dF ds f (aO 5 0))[n]? =ds[n]? :=by
   rw[o9 ⟨i,by omega⟩,FU];rcases a with a|a
   ·rw[a];show((if(aO 5 0 (3,o,0,0,())).2=0 then ds.set f.toNat (aO 5 0 (3,o,0,0,())).1 else ds).length= _)/\(if(aO 5 0 (3,o,0,0,())).2=0 then ds.set f.toNat (aO 5 0 (3,o,0,0,())).1 else ds)[f.toNat]? = _/\ ∀n:Nat,n≠f.toNat->(if(aO 5 0 (3,o,0,0,())).2=0 then ds.set f.toNat (aO 5 0 (3,o,0,0,())).1 else ds)[n]? = _;rw[Ep c,ay rfl]
    grind
   ·rw[a];show((if(aO 5 0 (5,o,0,0,())).2=0 then ds.set f.toNat (aO 5 0 (5,o,0,0,())).1 else ds).length= _)/\(if(aO 5 0 (5,o,0,0,())).2=0 then ds.set f.toNat (aO 5 0 (5,o,0,0,())).1 else ds)[f.toNat]? = _/\ ∀n:Nat,n≠f.toNat->(if(aO 5 0 (5,o,0,0,())).2=0 then ds.set f.toNat (aO 5 0 (5,o,0,0,())).1 else ds)[n]? = _;rw[au (RW o c)]
    grind
  rw[HB];obtain⟨k,m,p⟩:=j;obtain⟨q,d⟩:=Bi c l (dF ds f (aO 5 0)) (by grind);refine⟨q.trans k,λn=>⟨λb=>?_,λb=>?_⟩⟩
  ·by_cases g:(n:Int)∈l
   ·exact(d n).1 g
   ·rw[(d n).2 g];have:(n:Int)=f:=(Fg.1 b).resolve_right g;have e:n=f.toNat:=by omega
    rw[e];exact m
  ·rw[(d n).2 (λh=>b (B4 _ h)),p n (λe=>b (by
   have:(n:Int)=f:=by omega
   rw[this];exact B3))]
def Kg (g:Gh) (o:Int):Gh:=λf=>match g f with
 |some v=>if v.1=o then none else some v
 |none=>none
theorem c_ {g:Gh} {o f:Int} {v:Int×Nat×Int}:Kg g o f=some v<->g f=some v/\v.1≠o:=by grind[Kg]
namespace Inv
variable {g:Gh} {s:WD}
theorem RY (I:Inv g s): ∀(l:Nat) {f o x:Int},g f=some (o,l,x)-> ∀z∈cR s.1 l f, ∃l' x' n,l'+n=l/\g z=some (o,l',x')/\upx n x'=x:=by
 intro l
 induction l with
 |zero=>
  intro f o x b z a;rw[cR,HZ] at a;subst a;exact⟨0,x,0,rfl,b,rfl⟩
 |succ l c=>
  intro f o x b z a;rw[mX] at a;rcases Fg.1 a with rfl|a
  ·exact⟨l+1,x,0,rfl,b,rfl⟩
  ·obtain⟨i,hi,m,p,d,e⟩:=Ji.1 a;have:m=l:=by omega
   subst this;obtain⟨h,h1,j⟩:=I.si b (by omega) (by omega) d;have:h=m:=by omega
   subst this;obtain⟨l',x',n,q,k,r⟩:=c j z e;refine⟨l',x',n+1,by omega,k,?_⟩;show upx n x' / 16=x;omega
theorem Et (I:Inv g s) (c:Rt g) {r o:Int} (d:g r=some (o,3,0)): ∀(n:Nat) {l:Nat} {f x:Int},l+n=3->g f=some (o,l,x)-> ∀z∈cR s.1 l f,z∈cR s.1 3 r
 |0,l,f,x,h,a,z,b=>by
  have:l=3:=by omega
  subst this;have:=c _ _ _ a;subst this;rw[I.inj a d] at b
  grind
 |n+1,l,f,x,h,a,z,b=>by
  obtain⟨f',h1,i⟩:=I.Fl a (by omega);obtain⟨j,k, _⟩:=I.vo a;refine I.Et c d n (by omega) h1 z ?_;refine B4 _ (Ji.2 ⟨(x % 16).toNat,by omega,l,rfl,?_⟩);have e:(x % 16).toNat=x % 16:=by omega
  rw[e,i];exact⟨dC ⟨j,k⟩,b⟩
theorem Mn (I:Inv g s) (a:Rt g) {r o:Int} (b:g r=some (o,3,0)) (z:Int):z∈cR s.1 3 r<-> ∃l x,g z=some (o,l,x):=by
 constructor
 ·obtain:=I.RY
  grind
 ·rintro⟨l,x,h⟩;have c:=(I.kd h).2.2.2.2.2;exact I.Et a b (3 - l) (by omega) h z (by rw[mX];simp)
theorem dropped (I:Inv g s) (t:Rt g) {r o:Int} (u:g r=some (o,3,0)):
 Inv (Kg g o) (cG s r false)/\Rt (Kg g o)/\(cG s r false).1=s.1/\(cG s r false).2.length=s.2.length/\
  ∀n:Nat,((∃l x,g (n:Int)=some (o,l,x))->(cG s r false).2[n]? =some (5,o,0,0,()))/\((¬ ∃l x,g (n:Int)=some (o,l,x))->(cG s r false).2[n]? =s.2[n]?):=by
 have w: ¬ (false=true):=by decide
 have D:cG s r false=(s.1,(mI s r false).foldl _ s.2):=au w;have E:mI s r false=mH (cR s.1 3 r):=au w;have p: ∀z,z∈mI s r false<-> ∃l x,g z=some (o,l,x):=λz=>by
  rw[E,(lE _).mem_iff];exact I.Mn t u z
 have y:=(I.kd u).2.2.2;obtain⟨t1,t2⟩:=Bi ⟨y.1,y.2.1⟩ (mI s r false) s.2 (λf F=>by
  obtain⟨l,x,h⟩:=(p f).1 F;obtain⟨a1,G,A, _⟩:=I.kd h;exact⟨a1,.inl A⟩)
 rw[D];generalize Q:(mI s r false).foldl _ s.2=ds at t1 t2;have B:=λn h=>(t2 n).1 ((p _).2 h);have q: ∀n:Nat,(¬ ∃l x,g (n:Int)=some (o,l,x))->ds[n]? =s.2[n]? :=λn h=>(t2 n).2 (λH=>h ((p _).1 H));refine⟨?_,λf o' x h=>t f o' x (c_.1 h).1,rfl,t1,λn=>⟨B n,q n⟩⟩;refine⟨?_,?_,?_,?_,?_,?_,?_,?_,?_,?_⟩
 ·rw[t1];exact I.len
 ·show ds.length<=4096;rw[t1];exact I.le
 ·intro d J h0;obtain⟨n,i⟩:=BJ J;by_cases h: ∃l x,g (n:Int)=some (o,l,x)
  grind
  ·rw[q n h] at i;exact I.fz d (DQ i) h0
 ·intro f o' l x h;obtain⟨h,j⟩:=c_.1 h;obtain⟨a1,G,A,R⟩:=I.kd h
  grind
 ·intro a b v K hb;exact I.inj (c_.1 K).1 (c_.1 hb).1
 ·intro f o' l x k h h0 h1 L;obtain⟨h,j⟩:=c_.1 h;obtain⟨m,M,N⟩:=I.si h h0 h1 L;exact⟨m,M,c_.2 ⟨N,j⟩⟩
 ·intro f o' l x k h h0 h1;exact I.leaf (c_.1 h).1 h0 h1
 ·intro f o' l x h O;obtain⟨h,j⟩:=c_.1 h;obtain⟨f',p1,p2⟩:=I.Fl h O;exact⟨f',c_.2 ⟨p1,j⟩,p2⟩
 ·intro f o' l x k h h0 h1 P;exact I.wf (c_.1 h).1 h0 h1 P
 ·intro n d i C;by_cases h: ∃l x,g (n:Int)=some (o,l,x)
  ·rw[B n h] at i;cases i;cases C
  ·rw[q n h] at i;obtain⟨v,hv⟩:=I.tb i C;refine⟨v,c_.2 ⟨hv,λe=>h ?_⟩⟩;obtain⟨a,b,c⟩:=v;have e:a=o:=e;subst e;exact⟨b,c,hv⟩
end Inv
set_option maxRecDepth 100000
open Go.RX D
theorem VK {s:WD} {o r pg lv:Int} {e:ET} (h: ¬ l_ s r pg lv=0):rB s o r pg lv e=s:=au h
theorem Jj {s:WD} {o r:Int} {gone:Bool} {pg f rt:Int} (h: ¬ lQ s r gone pg f rt=0):jt s o r gone pg f rt=s:=by
 unfold lQ at h;unfold jt;cases gone with
 |true=>rw[ay rfl]
 |false=>
  have a: ¬ (false=true):=by decide
  rw[au a] at h ⊢;by_cases c:nc pg f rt=0
  ·rw[ay c] at h ⊢;exact VK h
  ·rw[au c]
theorem VL {s:WD} {o r pg:Int} (h: ¬ mg s o r pg=0):fh s o r pg=s:=by
 unfold mg at h;unfold fh;by_cases c:(dw s.1 r pg).2.1=0
 ·rw[ay c]
 ·rw[au c] at h ⊢;rw[au h,Jg h]
theorem VM {s:WD} {o r:Int} {gone:Bool} {pg rt:Int} (h: ¬ FW s o r gone pg rt=0):rC s o r gone pg rt=s:=by
 unfold FW at h;unfold rC;cases gone with
 |true=>rw[ay rfl]
 |false=>
  have a: ¬ (false=true):=by decide
  rw[au a] at h ⊢;by_cases c:nc pg 0 rt=0
  ·rw[ay c] at h ⊢;by_cases d:(cY s.1 r pg).1=true
   ·rw[ay d] at h ⊢;by_cases e:((cY s.1 r pg).2.2.1&&(cY s.1 r pg).2.1==rt)=true
    ·rw[ay e]
    ·rw[au e] at h ⊢;rw[au h,VL h]
   ·rw[au d]
  ·rw[au c]
namespace Inv
variable {g:Gh} {s:WD}
theorem ZU (I:Inv g s) {o:Int} (a:1<=o/\o<=16) (hc:0<cj s.2 0):rj s o=0:=by
 obtain⟨n, _, _, _,e, _⟩:=mY hc I.fz a;exact e
end Inv
set_option maxRecDepth 100000
open Go.RX D
structure SM (Q:Sys) (D G:List Nat) (w0 w:A2) (s:WD) (L0:List (Nat×List AI)) (M:List (Nat×CW)):Prop where
 pos:0<s.1.length
 Dv:0<s.2.length
 le:s.2.length<=4096
 XV:okW s.1
 kn: ∃ca la,cv D G w0 w (Q.L ca la s L0) M
section
variable {Q:Sys} {D G:List Nat} {w0 w w1:A2} {s:WD} {L0 L1:List (Nat×List AI)} {M M1:List (Nat×CW)}
namespace SM
theorem ext (H:SM Q D G w0 w s L0 M) (h:Ext w w1):SM Q D G w0 w1 s L0 M:=by
 obtain⟨a,b,c,d,ca,la,k⟩:=H;exact⟨a,b,c,d,ca,la,k.ext h⟩
theorem base (H:SM Q D G w0 w s L0 M):bh Q D G w0 w s L0:=by
 obtain⟨a,b,c,d,ca,la,k⟩:=H;exact⟨a,b,c,d,ca,la,k.base⟩
theorem of (S:bh Q D G w0 w s L0):SM Q D G w0 w s L0 []:=by
 obtain⟨a,b,c,d,ca,la,k⟩:=S;exact⟨a,b,c,d,ca,la,cv.of k⟩
theorem call (H:SM Q D G w0 w s L0 M): ∃f,bh Q [] f w w s L0/\ ∀{e:A2} {s':WD} {L':List (Nat×List AI)},bh Q [] f w e s' L'->SM Q D G w0 e s' L' M:=by
 obtain⟨a,b,c,d,ca,la,k⟩:=H;refine⟨_,⟨a,b,c,d,ca,la,k.base.again⟩,λ{e s' L'} S=>?_⟩;obtain⟨a',g,h,d',i,j,l⟩:=S;exact⟨a',g,h,d',i,j,k.join l⟩
theorem perm (H:SM Q D G w0 w s L0 M) (h:L1.Perm L0):SM Q D G w0 w s L1 M:=by
 obtain⟨a,b,c,d,ca,la,k⟩:=H;exact⟨a,b,c,d,ca,la,k.perm ((((h.cons _).cons _).cons _).cons _)⟩
theorem sub (H:SM Q D G w0 w s L0 M) (h:L1.Sublist L0):SM Q D G w0 w s L1 M:=by
 obtain⟨a,b,c,d,ca,la,k⟩:=H;exact⟨a,b,c,d,ca,la,k.sub ((((h.cons_cons _).cons_cons _).cons_cons _).cons_cons _)⟩
theorem iP (H:SM Q D G w0 w s L0 M) (h:M1.Perm M):SM Q D G w0 w s L0 M1:=by
 obtain⟨a,b,c,d,ca,la,k⟩:=H;exact⟨a,b,c,d,ca,la,k.iP h⟩
theorem FN (H:SM Q D G w0 w s L0 M) (h:M1.Sublist M):SM Q D G w0 w s L0 M1:=by
 obtain⟨a,b,c,d,ca,la,k⟩:=H;exact⟨a,b,c,d,ca,la,k.FN h⟩
theorem get (H:SM Q D G w0 w s L0 M) {r:Nat} {o:CW} (h:(r,o)∈M):w.heap[r]? =some o:=by
 obtain⟨a,b,c,d,ca,la,k⟩:=H;exact(k.obj _ h).1
theorem put (H:SM Q D G w0 w s L0 M) {i r:Nat} {o:CW} (h:M[i]? =some (r,o)) {o':CW} (e:nH o'):SM Q D G w0 (w.putObj r o') s L0 (M.set i (r,o')):=by
 obtain⟨a,b,c,d,ca,la,k⟩:=H;exact⟨a,b,c,d,ca,la,k.put h e⟩
theorem alloc (H:SM Q D G w0 w s L0 M) {o:CW} (e:nH o):SM Q D G w0 (w.alloc o) s L0 ((w.heap.size,o)::M):=by
 obtain⟨a,b,c,d,ca,la,k⟩:=H;exact⟨a,b,c,d,ca,la,k.alloc e⟩
theorem go (H:SM Q D G w0 w s L0 M) {P:Program} {f:FuncId} {sh:Sh} {args:List AI} {K:sh.T->A2->Prop} (k: ∀w1,SM Q D G w0 w1 s L0 M->aD P f sh args w1 K):az P f sh args w K:=λ_ h=>k _ (H.ext h)
theorem en (H:SM Q D G w0 w s L0 M) {K:A2->Prop} (k: ∀w1,SM Q D G w0 w1 s L0 M->K w1):ao w K:=λ_ h=>k _ (H.ext h)
end SM
end
abbrev TK:Type:=Int×Int×Int
def wY (t:TK):AI×AI:=(aa t.1,.agg ⟨[aa t.2.1,aa t.2.2]⟩)
def qw (es:List BP) (ck:Nat) (tk:List TK):Prop:=
 (∃p:List TK,p.Perm tk/\es.map (λe=>(e.key,e.val))=p.map wY)/\(es.map (·.born)).Nodup/\(∀e∈es,e.born<ck)/\(tk.map (·.1)).Nodup
theorem qw.nil:qw [] 0 []:=⟨⟨[],List.Perm.nil,rfl⟩,J5,λe a=>(by cases a),J5⟩
theorem qw.len {es:List BP} {ck:Nat} {tk:List TK} (h:qw es ck tk):es.length=tk.length:=by
 obtain⟨⟨p,h1,a⟩, _⟩:=h;have:=congrArg Ft a;rw[B6,B6] at this;rw[this,h1.length_eq]
theorem RZ {es:List BP} {p:List TK} (h:es.map (λe=>(e.key,e.val))=p.map wY) (g:Int) (i0:Nat):
 Instr.findNow (.int .i64) (aa g) es i0=some (match p.findIdx? (λt=>t.1==g) with
  |some i=>some (i0+i,(wY (p.getD i (0,0,0))).2)
  |none=>none):=by
 induction es generalizing p i0 with
 |nil=>
  cases p with
  |nil=>rfl
  |cons t p=>simp at h
 |cons e es d=>
  cases p with
  |nil=>simp at h
  |cons t p=>
   simp only[Hb,List.cons.injEq] at h;obtain⟨h1,f⟩:=h;have j:e.key=aa t.1:=congrArg (·.1) h1;have hv:e.val=(wY t).2:=congrArg (·.2) h1;unfold Instr.findNow;rw[j];have k:Instr.sameNow (.int .i64) (aa g) (aa t.1)=some (g==t.1):=by
    show(if IntKind.i64=IntKind.i64 then some (g==t.1) else none)= _;rw[ay rfl]
   rw[k,List.findIdx?_cons];by_cases a:t.1=g
   ·have b:(g==t.1)=true:=by simp[a]
    have c:(t.1==g)=true:=by simp[a]
    rw[b,ay c];dsimp only;rw[hv];rfl
   ·have b:(g==t.1)=false:=by simp;exact λe=>a e.symm
    have c: ¬ (t.1==g)=true:=by simp[a]
    rw[b,au c];dsimp only;rw[d f (i0+1)];cases p.findIdx? (λt=>t.1==g) with
    |none=>rfl
    |some i=>
     show some (some (i0+1+i, _))=some (some (i0+(i+1), _));rw[show i0+1+i=i0+(i+1) by omega];rfl
def bZ (tk:List TK) (g:Int):Option (Int×Int):=(tk.find? λt=>t.1==g).map (·.2)
theorem jE {tk:List TK} {g a b:Int} (l:(tk.map (·.1)).Nodup):bZ tk g=some (a,b)<->(g,a,b)∈tk:=by
 unfold bZ;constructor
 ·intro h;obtain⟨t,h1,k⟩:=Oa.1 h;have c:=J6 h1;have d:=J7 h1;have:t.1=g:=by simpa using c
  obtain⟨t1,t2⟩:=t;simp only at this k;subst this;subst k;exact d
 ·intro h;cases e:tk.find? λt=>t.1==g with
  |none=>
   have:=Hh.1 e _ h;simp at this
  |some t=>
   have c:=J6 e;have d:=J7 e;have m:t.1=g:=by simpa using c
   obtain⟨i,hi⟩:=BJ h;obtain⟨j,f⟩:=BJ d;have n:(tk.map (·.1))[i]? =some g:=by rw[DA,hi];rfl
   have o:(tk.map (·.1))[j]? =some g:=by rw[DA,f];exact congrArg some m
   have:=(Fw (by rw[B6];exact(DH.1 hi).1) l).1 (n.trans o.symm);subst this;rw[hi] at f;cases f;rfl
theorem qd {tk:List TK} {g:Int}:bZ tk g=none<-> ∀t∈tk,t.1≠g:=by
 unfold bZ;rw[Of,Hh];simp
theorem qe {α β:Type} (f:α->β): ∀(l:List α) (i:Nat),(l.eraseIdx i).map f=(l.map f).eraseIdx i
 |[],i=>by simp
 |a::l,0=>rfl
 |a::l,i+1=>by
  simp only[List.eraseIdx_cons_succ,Hb];rw[qe f l i]
theorem qw.find {es:List BP} {ck:Nat} {tk:List TK} (h:qw es ck tk) (g:Int): ∃r,Instr.findNow (.int .i64) (aa g) es 0=some r/\
 match bZ tk g with
 |some x=> ∃i,r=some (i,.agg ⟨[aa x.1,aa x.2]⟩)/\i<es.length/\qw (es.eraseIdx i) ck (tk.filter λt=> !(t.1==g))
 |none=>r=none:=by
 obtain⟨⟨p,h1,f⟩,s,u,j⟩:=h;refine⟨_,RZ f g 0,?_⟩;have v:(p.map (·.1)).Nodup:=(h1.map _).nodup_iff.2 j;cases k:p.findIdx? (λt=>t.1==g) with
 |none=>
  have:bZ tk g=none:=qd.2 λt d=>by
   have:=List.findIdx?_eq_none_iff.1 k t (h1.mem_iff.2 d);simpa using this
  rw[this]
 |some i=>
  rw[JR] at k;obtain⟨hi,b, _⟩:=k;have l:p[i]? =some p[i]:=Dc hi;have m:p.getD i (0,0,0)=p[i]:=by rw[FU,l];rfl
  obtain⟨t,d⟩: ∃t,t=p[i]:=⟨_,rfl⟩;rw[<-d] at l m b;have b:t.1=g:=by simpa using b
  have w:(g,t.2.1,t.2.2)∈tk:=by
   have:=h1.mem_iff.1 (DQ l);obtain⟨t1,t2,t3⟩:=t;simp only at b;subst b;exact this
  rw[(jE j).2 w];have B:es.length=p.length:=by
   have:=congrArg Ft f;simpa using this
  refine⟨i,by dsimp only;rw[m,Nat.zero_add];rfl,by omega,⟨p.eraseIdx i,?_,?_⟩,?_,?_,?_⟩
  ·have y:p.eraseIdx i=p.filter λt=> !(t.1==g):=by
    have n:p=p.take i++t::p.drop (i+1):=by
     conv=>lhs;rw[<-Hq i p]
     rw[JS hi, <-d]
    have o: ∀x∈p.take i++p.drop (i+1),x.1≠g:=by
     intro x c e;have q:=v;rw[n,Dk,Hb] at q;have z:=(B7 (a:=t.1) (l₁:=(p.take i).map (·.1)) (l₂:=(p.drop (i+1)).map (·.1))).nodup_iff.1 q;have:=(JU.1 z).1;refine this ?_;rw[b, <-e, <-Dk];exact B5.2 ⟨x,c,rfl⟩
    rw[JW]
    conv=>rhs;rw[n]
    rw[List.filter_append,JX (by simp[b])];rw[Fx.2 (λx c=>by have:=o x (DB _ c);simpa using this),Fx.2 (λx c=>by have:=o x (B2 _ c);simpa using this)]
   rw[y];exact h1.filter _
  ·rw[qe,f,qe]
  ·rw[qe];exact s.sublist (List.eraseIdx_sublist _ _)
  ·exact λe A=>u e (List.mem_of_mem_eraseIdx A)
  ·exact j.sublist ((K1).map _)
theorem qw.push {es:List BP} {ck:Nat} {tk:List TK} (h:qw es ck tk) {t:TK} (g:bZ tk t.1=none) {b:List TK} (c:b.Perm (t::tk)):qw (es++[{key:=(wY t).1,val:=(wY t).2,born:=ck}]) (ck+1) b:=by
 obtain⟨⟨p,h1,i⟩,j,d,k⟩:=h;refine⟨⟨p++[t],?_,?_⟩,?_,?_,?_⟩
 ·exact(List.perm_append_singleton _ _).trans ((h1.cons _).trans c.symm)
 ·rw[Dk,i,Dk];rfl
 ·rw[Dk];refine G1.2 ⟨j,by simp,λx a y f e=>?_⟩;obtain⟨e',he,rfl⟩:=B5.1 a;have f:y=ck:=by simpa using f
  have:=d e' he;omega
 ·intro e he;rcases Dq.1 he with he|he
  ·have:=d e he;omega
  ·have:e={key:=(wY t).1,val:=(wY t).2,born:=ck}:=by simpa using he
   subst this;exact Nat.lt_succ_self _
 ·refine(c.map _).nodup_iff.2 (JU.2 ⟨λl=>?_,k⟩);obtain⟨x,a,e⟩:=B5.1 l;exact qd.1 g x a e
set_option maxRecDepth 100000
open Go.RX D
structure GV where
 root:Int
 tk:List TK
structure HS where
 s:WD
 g:Nat->Option GV
 gr:List GT
 po:List Po.PT
structure HX where
 hb:Nat
 gb:Nat
 uz:Nat
 pb:Nat
 c:Nat
 rest:List AI
structure GA where
 bg:Nat
 bt:Nat
 bm:Nat
 ck:Nat
 es:List BP
def kK (A:Nat->GA) (g:Nat->Option GV) (i:Nat):Option Aq:=match g i with
 |some _=>some ⟨(A i).bg,0,none⟩
 |none=>none
def mw (A:Nat->GA) (g:Nat->Option GV):List AI:=(Ag 17).map λi=>ag (kK A g i)
abbrev e9 (Q:Sys) (X:HX) (A:Nat->GA) (g:Nat->Option GV):List AI:=[ag (ae Q.bm),ag (ae Q.bp),ag (ae X.gb),ag (ae X.pb)]++mw A g
def gO (Q:Sys) (A:Nat->GA) (i:Nat) (v:GV):List (Nat×List AI):=[((A i).bg,[ag (some ⟨(A i).bt,0,none⟩),.map (some (A i).bm)]),((A i).bt,oF Q i v.root false)]
def a6 (Q:Sys) (A:Nat->GA) (g:Nat->Option GV) (l:List Nat):List (Nat×List AI):=l.flatMap λi=>match g i with
 |some v=>gO Q A i v
 |none=>[]
def cK (A:Nat->GA) (g:Nat->Option GV) (l:List Nat):List (Nat×CW):=l.flatMap λi=>match g i with
 |some _=>[((A i).bm,Obj.map ⟨(A i).es⟩ (A i).ck)]
 |none=>[]
abbrev dL (Q:Sys) (X:HX) (A:Nat->GA) (h:HS) (L:List (Nat×List AI)):List (Nat×List AI):=
 (X.hb,e9 Q X A h.g)::(X.gb,mA X.uz h.gr.length X.c)::(X.uz,flat eG h.gr++X.rest)::(X.pb,Po.gJ 4 h.po)::L
structure C6 (A:Nat->GA) (h:HS):Prop where
 iM: ∀{i v},h.g i=some v->1<=i/\i<=16
 mp: ∀{i v},h.g i=some v->qw (A i).es (A i).ck v.tk
 gl:h.gr.length=16
 pt:Po.lI 4 h.po
 gk:n5 h.gr
def iB (Q:Sys) (X:HX) (D G:List Nat) (w0 w:A2) (h:HS) (L:List (Nat×List AI)):Prop:=
 ∃A,C6 A h/\SM Q D G w0 w h.s (dL Q X A h (a6 Q A h.g (Ag 17)++L)) (cK A h.g (Ag 17))
theorem Bj {Q:Sys} {A:Nat->GA} {g:Nat->Option GV} {l:List Nat} {i:Nat} {v:GV} (hi:i∈l) (hv:g i=some v): ∀x∈gO Q A i v,x∈a6 Q A g l:=λx a=>by
 unfold a6;exact H7.2 ⟨i,hi,by rw[hv];exact a⟩
theorem Mp {A:Nat->GA} {g:Nat->Option GV} {l:List Nat} {i:Nat} {v:GV} (hi:i∈l) (hv:g i=some v):((A i).bm,Obj.map ⟨(A i).es⟩ (A i).ck)∈cK A g l:=by
 unfold cK;exact H7.2 ⟨i,hi,by rw[hv];exact HZ.2 rfl⟩
theorem u' {A:Nat->GA} {g:Nat->Option GV} {i:Nat} (hi:i<17):(mw A g)[i]? =some (ag (kK A g i)):=by
 unfold mw;rw[DA,List.getElem?_range hi];rfl
def aU (g:Nat->Option GV) (v:Int):Bool:=decide (v>=1)&&decide (v<=16)&&(g v.toNat).isSome
def aZ (g:Nat->Option GV) (v:Int):Int:=if aU g v=true then(match g v.toNat with|some x=>x.root|none=> -1) else -1
def fX (g:Nat->Option GV) (v p:Int):Int×Bool×Unit:=if aU g v=true then(match g v.toNat with
 |some x=>(match bZ x.tk p with|some y=>(y.1,true,())|none=>(0,false,()))
 |none=>(0,false,())) else(0,false,())
def cZ (g:Nat->Option GV) (v a:Int):Int:=if a<1\/a>16\/a=v then 1 else if aU g a=true then 0 else 4
theorem cm {g:Nat->Option GV} {v:Int}:aU g v=true<->(1<=v/\v<=16)/\ ∃x,g v.toNat=some x:=by
 unfold aU;simp only[Fm,decide_eq_true_eq,Option.isSome_iff_exists]
section
variable {Q:Sys} {X:HX} {D G:List Nat} {w0 w:A2} {s:WD} {L0:List (Nat×List AI)} {M:List (Nat×CW)} {A:Nat->GA} {g:Nat->Option GV}
theorem bh.oU (S:bh Q D G w0 w s L0) (a:(X.hb,e9 Q X A g)∈L0) {v:Int} (hv:0<=v/\v<=16):cC w (ad (ad (ae X.hb) 4) (v.toNat*1)) (.one .ptr) (kK A g v.toNat):=by
 obtain⟨j,b⟩:=BJ a;rw[aV,aV];refine dR (S.get b) ?_;show(match (e9 Q X A g)[0+4+v.toNat*1]? with|some v=>Sc.ptr.proj v|none=>none)= _;have:(e9 Q X A g)[0+4+v.toNat*1]? =some (ag (kK A g v.toNat)):=by
  show([ag (ae Q.bm),ag (ae Q.bp),ag (ae X.gb),ag (ae X.pb)]++mw A g)[0+4+v.toNat*1]? = _;rw[GD (by simp),Dr,Dr,Dr,Dr,Kb];rw[show 0+4+v.toNat*1 - (0+1+1+1+1)=v.toNat by omega];exact u' (by omega)
 rw[this];rfl
theorem bh.fD (S:bh Q D G w0 w s L0) (a:(X.hb,e9 Q X A g)∈L0) {n:Nat} {x:Option Aq} (h:[(some ⟨Q.bm,0,none⟩:Option Aq),some ⟨Q.bp,0,none⟩,some ⟨X.gb,0,none⟩,some ⟨X.pb,0,none⟩][n]? =some x):cC w (ad (ae X.hb) n) (.one .ptr) x:=by
 obtain⟨j,b⟩:=BJ a;rw[aV];refine dR (S.get b) ?_;rcases n with _| _| _| _|n
 ·cases h;rfl
 ·cases h;rfl
 ·cases h;rfl
 ·cases h;rfl
 ·simp at h
theorem mT (S:bh Q D G w0 w s L0) (a:(X.hb,e9 Q X A g)∈L0):af AC 53 [ag (ae X.hb)] w (.bool true):=by
 refine af.of (s:= .el (.one .bool)) λw' h'=>ai (C:=V0) (aQ:=λ_=>[]) (B1 (L4 _ w' _) ?_);exact⟨λ_=>rfl,λ_=>rfl,aj.of _ ((S.ext h').fD a (n:=0) rfl) λw1 h1=>⟨rfl,h1⟩⟩
theorem pU (S:bh Q D G w0 w s L0) (a:(X.hb,e9 Q X A g)∈L0) (v:Int):af AC 19 [ag (ae X.hb),aa v] w (.bool (aU g v)):=by
 refine af.of (s:= .el (.one .bool)) λw' h'=>ai (C:=V0) (aQ:=λ_=>[]) (B1 (RK _ v w' _) ?_);have S:=S.ext h';refine⟨_,mT S a,λ_=>rfl,λ_=>rfl,λc=>?_,?_⟩
 ·simp only[Fm,decide_eq_true_eq] at c;exact⟨rfl,by omega,by show v<((17:Nat):Int);omega⟩
 ·unfold aU;by_cases hv:v>=1/\v<=16
  ·refine aj.of _ (S.oU a ⟨by omega,hv.2⟩) λw1 h1=>⟨?_,h1⟩;unfold kK;cases g v.toNat<;>simp
  ·have c:(true&&decide (v>=1)&&decide (v<=16))=false:=by
    rw[Bool.and_eq_false_iff,H5,decide_eq_false_iff_not,decide_eq_false_iff_not];omega
   rw[c];refine⟨none,λh=>(by cases h),λw1 h1=>⟨?_,h1⟩⟩;rw[H5] at c;rw[c];rfl
theorem bK {a:Int} (h:0<=a/\a<9223372036854775808):aG .i64 a=a:=gg (by omega) h.2
theorem Eu (S:bh Q D G w0 w s L0) (b:(X.hb,e9 Q X A g)∈L0) {a:Int} (d:0<=a):af AC 165 [ag (ae X.hb),ax a] w (.bool (aU g a)):=by
 refine af.of (s:= .el (.one .bool)) λw' h'=>ai (C:=V0) (aQ:=λ_=>[]) (B1 (L5 _ a w' _) ?_);have S:=S.ext h';refine⟨aU g a,λc=>?_,λw1 h1=>⟨?_,h1⟩⟩
 ·have c:a<=16:=by simpa using c
  rw[bK ⟨d,by omega⟩];exact pU S b a
 ·by_cases c:a<=16
  ·rw[decide_eq_true c];rfl
  ·rw[decide_eq_false c];unfold aU;rw[decide_eq_false c];simp
theorem yY (S:bh Q D G w0 w s L0) (d:(X.hb,e9 Q X A g)∈L0) (v:Int) {a:Int} (b:0<=a):af AC 179 [ag (ae X.hb),aa v,ax a] w (aa (cZ g v a)):=by
 refine af.of (s:= .el (.one (.int .i64))) λw' h'=>ai (C:=V0) (aQ:=λ_=>[]) (B1 (L8 _ v a w' _) ?_);have S:=S.ext h';unfold cZ;by_cases c:a<1\/a>16\/a=v
 ·rw[ay c];refine aB ?_ λw1 h1=>⟨rfl,h1⟩;simp only[NL,decide_eq_true_eq,beq_iff_eq];rcases c with c|c|c
  ·exact .inl (.inl c)
  ·exact .inl (.inr c)
  ·by_cases c2:a>16
   ·exact .inl (.inr c2)
   ·exact .inr (by rw[bK ⟨b,by omega⟩];exact c)
 ·rw[au c];refine an ?_ ⟨_,Eu S d b,?_⟩
  ·rw[bK ⟨b,by omega⟩];simp only[FR,decide_eq_false_iff_not,beq_eq_false_iff_ne];omega
  ·cases aU g a with
   |true=>exact an rfl λw1 h1=>⟨rfl,h1⟩
   |false=>exact aB rfl λw1 h1=>⟨rfl,h1⟩
theorem Jk (S:bh Q D G w0 w s L0) (b:(X.hb,e9 Q X A g)∈L0) (c: ∀i v,g i=some v-> ∀x∈gO Q A i v,x∈L0) (v:Int):af AC 21 [ag (ae X.hb),aa v] w (aa (aZ g v)):=by
 refine af.of (s:= .el (.one (.int .i64))) λw' h'=>ai (C:=V0) (aQ:=λ_=>[]) (B1 (RM _ v w' _) ?_);have S:=S.ext h';refine⟨_,pU S b v,?_⟩;unfold aZ;cases d:aU g v with
 |false=>exact aB rfl λw1 h1=>⟨rfl,h1⟩
 |true=>
  obtain⟨hv,x,a⟩:=cm.1 d;have hc:=S.oU b (v:=v) ⟨by omega,hv.2⟩;have e:kK A g v.toNat=some ⟨(A v.toNat).bg,0,none⟩:=by unfold kK;rw[a]
  rw[e] at hc;obtain⟨j1,f⟩:=BJ (c _ _ a _ B3);obtain⟨h,j⟩:=BJ (c _ _ a _ (B4 _ B3));refine an rfl ⟨rfl,rfl,⟨rfl,by omega,by show v<((17:Nat):Int);omega⟩,aj.of _ hc ⟨rfl,rfl,S.cg j1 f rfl ⟨_,S.root h j,λw1 h1=>⟨?_,h1⟩⟩⟩⟩;rw[a,ay rfl];rfl
theorem py (H:SM Q D G w0 w s L0 M) (d:(X.hb,e9 Q X A g)∈L0) (k: ∀i v,g i=some v-> ∀x∈gO Q A i v,x∈L0) (l: ∀i v,g i=some v->((A i).bm,Obj.map ⟨(A i).es⟩ (A i).ck)∈M) (m: ∀i v,g i=some v->qw (A i).es (A i).ck v.tk) (v p:Int):
 af AC 174 [ag (ae X.hb),aa v,aa p] w ((Sh.bu [.one (.int .i64),.one .bool]).gR (fX g v p)):=by
 refine af.of (s:= .bu [.one (.int .i64),.one .bool]) λw' h'=>ai (C:=V0) (aQ:=λ_=>[]) (B1 (L7 _ v p w' _) ?_);have H:=H.ext h';have S:=H.base;refine⟨_,pU S d v,?_⟩;unfold fX;cases n:aU g v with
 |false=>exact aB rfl λw1 h1=>⟨rfl,h1⟩
 |true=>
  obtain⟨hv,x,a⟩:=cm.1 n;have hc:=S.oU d (v:=v) ⟨by omega,hv.2⟩;have o:kK A g v.toNat=some ⟨(A v.toNat).bg,0,none⟩:=by unfold kK;rw[a]
  rw[o] at hc;obtain⟨j1,q⟩:=BJ (k _ _ a _ B3);obtain⟨r,f,c⟩:=(m _ _ a).find p;have h:bD w' (A v.toNat).bm ⟨(A v.toNat).es⟩ (A v.toNat).ck:=H.get (l _ _ a);refine an rfl ⟨rfl,rfl,⟨rfl,by omega,by show v<((17:Nat):Int);omega⟩,aj.of _ hc ⟨rfl,rfl,S.cg j1 q rfl ?_⟩⟩;rw[a,ay rfl];dsimp only;have at0:Ext w' w':=Ext.refl _;have H0:=At.start [] w';cases j:bZ x.tk p with
  |none=>
   rw[j] at c;refine⟨(0,0,()),false,⟨_, _, _,rfl,h,?_⟩,aM.go H0 λb t H0=>aA.all 0 H0 rfl rfl rfl λu H0=>⟨rfl,aj.cq 0 H0 rfl rfl (ao.go H0 λz H0=>⟨rfl,H0.all⟩)⟩⟩;rw[f,c];exact⟨rfl,rfl⟩
  |some y=>
   rw[j] at c;obtain⟨i,e, _⟩:=c;refine⟨(y.1,y.2,()),true,⟨_, _, _,rfl,h,?_⟩,aM.go H0 λb t H0=>aA.all 0 H0 rfl rfl rfl λu H0=>⟨rfl,aj.cq 0 H0 rfl rfl (ao.go H0 λz H0=>⟨rfl,H0.all⟩)⟩⟩;rw[f,e];exact⟨rfl,rfl⟩
end
section
variable {G:List Nat} {w0 w:A2}
theorem R2 {bm bw n c:Nat} {ca la:Int} {ws:List Int} {rest:List AI} {L0:List (Nat×List AI)} (H:At G w0 w ((bm,lU bw n c ca la)::(bw,flat eW ws++rest)::L0)) (B:n=ws.length) (h0:0<n) (D:okW ws) (f p t:Int) {K:FT->A2->Prop}
 (k: ∀d w1,At G w0 w1 ((bm,lU bw n c d la)::(bw,flat eW ws++rest)::L0)->K (nb ws f p t) w1):
 az AC 223 (.el (.agg sF)) [ag (ae bm),aa f,aa p,aa t] w K:=by
 refine az.go H λw1 H=>aP (C:=M1) (aQ:=vU) (B1 (UW _ f p t w1 K) ?_);refine aM.go H λb S H=>I4 H f p t (λhb E H=>?_) λhb bk E H=>?_
 ·have e:nb ws f p t=(0,0,0,1,()):=ay hb;rw[e] at k;exact aB rfl (aA.all 0 H rfl rfl rfl λr H=>ao.go H λv H=>aj.at 0 H rfl rfl (k ca v (H.sub (BY _ _))))
 have e:nb ws f p t=(lO ws f p t 4).2.2:=au (by rw[hb];decide);rw[e] at k;refine an rfl ⟨λq _ w'=> ∃(i:Nat) (Ls:List (Nat×List AI)) (s:Option Aq×Nat×Nat) (xs:List Int) (d:Int),q+i=4/\i<=3/\(lO ws f p t i).2.1≠ -1/\xs.length=i/\BO Ls s xs/\
  At G w0 w' ((bk,lN (lO ws f p t i).1 p t (lO ws f p t i).2.1 (lO ws f p t i).2.2 s)::(bm,lU bw n c d la)::(bw,flat eW ws++rest)::(Ls++((b,[aa 0,aa 0,aa 0,aa 0])::L0))),⟨4,λr F=>⟨0,[],(none,0,0),[],ca,rfl,by decide,(show(3:Int)≠ -1 by decide),rfl,.inl ⟨rfl,rfl,rfl⟩,(H.ext F).perm ?_⟩⟩,?_⟩
 ·exact .cons _ (E5 (l₁:=[(bm,lU bw n c ca la),(bw,flat eW ws++rest)]) (l₂:=[(b,[aa 0,aa 0,aa 0,aa 0])]) |>.append_right L0)
 clear H;rintro q u r ⟨i,Ls,s,xs,d,T,U,I,J,L,H⟩;dsimp only;refine Ec H L (by omega) B h0 D I λv h s' M H=>?_;have es:bF ws p t ((lO ws f p t i).1,(lO ws f p t i).2.1,(lO ws f p t i).2.2)=lO ws f p t (i+1):=rfl;rw[es] at H ⊢;by_cases g:(lO ws f p t (i+1)).2.1= -1
 ·have N:lO ws f p t 4=lO ws f p t (i+1):=by
   have:=xy g (4 - (i+1));rw[show i+1+(4 - (i+1))=4 by omega] at this;exact this
  rw[N] at k;generalize lO ws f p t (i+1)=y at H g k;obtain⟨z,A,⟨j,l,m,o,V⟩⟩:=y;refine an (by rw[g];rfl) ⟨rfl,rfl,aj.cq (x:=(j,l,m,o,())) 0 H rfl rfl ?_⟩;have H:=H.perm (L':=(b,[aa 0,aa 0,aa 0,aa 0])::((bk,lN z p t A (j,l,m,o,()) s')::(bm,lU bw n c (wI ws (dX (lO ws f p t i).1 p (lO ws f p t i).2.1) d) la)::(bw,flat eW ws++rest)::(h++L0))) (by
   refine(B7 (l₁:=[(bk,lN z p t A (j,l,m,o,()) s'),(bm,lU bw n c (wI ws (dX (lO ws f p t i).1 p (lO ws f p t i).2.1) d) la),(bw,flat eW ws++rest)]++h) (a:=(b,[aa 0,aa 0,aa 0,aa 0])) (l₂:=L0)).symm)
  refine aA.all 0 H rfl rfl rfl λO H=>ao.go H λP H=>aj.at 0 H rfl rfl (k (wI ws (dX (lO ws f p t i).1 p (lO ws f p t i).2.1) d) P ?_);have H:=(H.sub (BY _ _)).sub (BY _ _);exact H.sub (.cons_cons _ (.cons_cons _ (GF _ _)))
 ·have Q:=(Xk ws f p t (i+1)).resolve_left g;refine aB (by simp[g]) λO R=>⟨q - 1,by omega,i+1,h,s',xs++[(lO ws f p t i).1], _,by omega,Q.2,g,by rw[GG,J];rfl,M,H.ext R⟩
theorem Mq {bm bw n c:Nat} {ca la:Int} {ws:List Int} {rest:List AI} {L:List (Nat×List AI)} (H:At G w0 w L) (j b:Nat) (d:L[j]? =some (bm,lU bw n c ca la)) (e:L[b]? =some (bw,flat eW ws++rest)) (g:j≠b) (h:n=ws.length) (h0:0<n) (i:okW ws) (f p t:Int) {K:FT->A2->Prop}
 (k: ∀a w1,At G w0 w1 (L.set j (bm,lU bw n c a la))->K (nb ws f p t) w1):
 az AC 223 (.el (.agg sF)) [ag (ae bm),aa f,aa p,aa t] w K:=by
 obtain⟨o,l,m⟩:=ZE d e g;exact R2 (H.perm l.symm) h h0 i f p t λa w1 H=>k a w1 (H.perm (m _))
end
section
variable {D G:List Nat} {w0 w w':A2} {L:List (Nat×List AI)}
end
theorem VN (ws:List Int) (h:0<ws.length):gY ws 0 (ws.length:Int)=ws:=by
 unfold gY;rw[au (by omega)];simp
section
variable {Q:Sys} {D G:List Nat} {w0 w:A2} {s:WD} {L0:List (Nat×List AI)}
namespace bh
theorem abo (S:bh Q D G w0 w s L0) {K:Option Aq->A2->Prop}
 (k: ∀a b d e c,bh Q D G w0 c s ((a,[.slice (ae b) s.2.length d])::(b,flat eD s.2++e)::L0)->K (ae a) c):
 az AC 54 (.el (.one .ptr)) [ag (ae Q.bp)] w K:=by
 refine S.go λw1 S=>?_;obtain⟨h1,f,g,h,ca,la,H⟩:=S;refine Vo H (H.get (i:=3) rfl) (H.get (i:=2) rfl) rfl f g λa b d e c H=>k a b d e c ⟨h1,f,g,h,ca,la,H.perm ?_⟩;exact E5 (l₁:=[_, _, _, _]) (l₂:=[(a, _),(b, _)]) |>.append_right L0
theorem ofq (S:bh Q D G w0 w s L0) (f:Int):af AC 25 [ag (ae Q.bp),aa f] w ((Sh.bu [eD,.one .bool]).gR (oE s.2 f,As s.2 f,())):=by
 obtain⟨h1,a,b,c,ca,la,H⟩:=S;exact aca H 3 2 rfl rfl rfl f
theorem FZ (S:bh Q D G w0 w s L0) (f:Int) {K:Int->A2->Prop} (k: ∀a,bh Q D G w0 a (s.1,dF s.2 f (aO 0 0)) L0->K (vn s.2 f (aO 0 0)) a):
 az AC 79 (.el (.one (.int .i64))) [ag (ae Q.bp),aa f] w K:=by
 obtain⟨h1,b,c,d,ca,la,H⟩:=S;refine VA H 3 2 rfl rfl (by decide) rfl b c f λa H=>k a ⟨h1,?_,?_,d,ca,la,?_⟩
 ·show 0<(dF s.2 f (aO 0 0)).length;rw[im];exact b
 ·show(dF s.2 f (aO 0 0)).length<=4096;rw[im];exact c
 ·unfold Sys.L;show aK D G w0 a (_:: _:: _::(Q.bp,[.slice _ (dF s.2 f (aO 0 0)).length _]):: _);rw[im];exact H
theorem aaw (S:bh Q D G w0 w s L0) (f x:Int) (d: -9223372036854775808<=x/\x<9223372036854775808) {K:Int->A2->Prop} (k: ∀a,bh Q D G w0 a (s.1,dF s.2 f (gX x)) L0->K (vn s.2 f (gX x)) a):
 az AC 183 (.el (.one (.int .i64))) [ag (ae Q.bp),aa f,aa x] w K:=by
 obtain⟨h1,b,c,e,ca,la,H⟩:=S;refine Vz H 3 2 rfl rfl (by decide) rfl b c f x d λa H=>k a ⟨h1,?_,?_,e,ca,la,?_⟩
 ·show 0<(dF s.2 f (gX x)).length;rw[im];exact b
 ·show(dF s.2 f (gX x)).length<=4096;rw[im];exact c
 ·unfold Sys.L;show aK D G w0 a (_:: _:: _::(Q.bp,[.slice _ (dF s.2 f (gX x)).length _]):: _);rw[im];exact H
theorem owned (S:bh Q D G w0 w s L0) (v:Int) {K:Option Aq×Nat×Nat->A2->Prop} (k: ∀r rows a,bh Q D G w0 a s (L0++rows)->kh eI rows r ((gA s.2 v).map λi=>((i:Nat):Int))->K r a):
 az AC 166 (.el (.one .slice)) [ag (ae Q.bp),aa v] w K:=by
 obtain⟨h1,c,b,d,ca,la,H⟩:=S;exact RH H 3 2 rfl rfl rfl b v λr rows a H e=>k r rows a ⟨h1,c,b,d,ca,la,H⟩ e
theorem walk (S:bh Q [] G w0 w s L0) (f p t:Int) {K:FT->A2->Prop} (k: ∀w1,bh Q [] G w0 w1 s L0->K (nb s.1 f p t) w1):
 az AC 223 (.el (.agg sF)) [ag (ae Q.bm),aa f,aa p,aa t] w K:=by
 obtain⟨h1,b,c,a,ca,la,H⟩:=S;exact Mq H 0 1 rfl rfl (by decide) rfl h1 a f p t λd w1 H=>k w1 ⟨h1,b,c,a,d,la,H⟩
end bh
end
set_option maxRecDepth 100000
open Go.RX D
def fQ (g:Nat->Option GV) (s:WD) (v p:Int):Int×Int×Int×Unit:=if aU g v=true then(match g v.toNat with
 |some x=>bA s x.root false p
 |none=>(0,0,4,())) else(0,0,4,())
def iR (s:WD) (f:Int):Int:=if As s.2 f=false then 2 else if(oE s.2 f).1≠5 then 6 else vn s.2 f (aO 0 0)
def fb (s:WD) (f:Int):WD:=if As s.2 f=true/\(oE s.2 f).1=5 then(s.1,dF s.2 f (aO 0 0)) else s
section
variable {Q:Sys} {X:HX} {D G:List Nat} {w0 w:A2} {s:WD} {L0:List (Nat×List AI)} {M:List (Nat×CW)} {A:Nat->GA} {g:Nat->Option GV}
theorem va (S:bh Q D G w0 w s L0) (c:(X.hb,e9 Q X A g)∈L0) (e: ∀i v,g i=some v-> ∀x∈gO Q A i v,x∈L0) (v p:Int) {K:Int×Int×Int×Unit->A2->Prop} (k: ∀a,bh Q D G w0 a s L0->K (fQ g s v p) a):
 az AC 81 (.bu [.one (.int .i64),.one (.int .i64),.one (.int .i64)]) [ag (ae X.hb),aa v,aa p] w K:=by
 refine S.go λw1 S=>ai (C:=V0) (aQ:=λ_=>[]) (B1 (L6 _ v p w1 K) ?_);refine⟨_,mT S c,an rfl ⟨_,pU S c v,?_⟩⟩;unfold fQ at k;cases d:aU g v with
 |false=>
  rw[d,au (by decide)] at k;exact aB rfl (S.en λa S=>k a S)
 |true=>
  obtain⟨hv,x,b⟩:=cm.1 d;rw[d,ay rfl,b] at k;have hc:=S.oU c (v:=v) ⟨by omega,hv.2⟩;have f:kK A g v.toNat=some ⟨(A v.toNat).bg,0,none⟩:=by unfold kK;rw[b]
  rw[f] at hc;obtain⟨j1,h⟩:=BJ (e _ _ b _ B3);obtain⟨j,l⟩:=BJ (e _ _ b _ (B4 _ B3));refine an rfl ⟨rfl,rfl,⟨rfl,by omega,by show v<((17:Nat):Int);omega⟩,aj.of _ hc ⟨rfl,rfl,S.cg j1 h rfl (S.query j l p λa S=>S.en λm S=>k m S)⟩⟩
theorem yZ (S:bh Q D G w0 w s L0) (j:(X.hb,e9 Q X A g)∈L0) (f:Int) {K:Int->A2->Prop} (k: ∀l,bh Q D G w0 l (fb s f) L0->K (iR s f) l):
 az AC 43 (.el (.one (.int .i64))) [ag (ae X.hb),aa f] w K:=by
 refine S.go λw1 S=>ai (C:=V0) (aQ:=λ_=>[]) (B1 (RN _ f w1 K) ?_);refine⟨_,mT S j,an rfl ⟨rfl,rfl,aj.of _ (S.fD j (n:=1) rfl) ⟨(oE s.2 f,As s.2 f,()),S.ofq f,S.al λb l S=>S.fa 0 rfl rfl rfl λq S=>?_⟩⟩⟩;have o: ∀x:Nat×List AI,(X.hb,e9 Q X A g)∈x::L0:=λx=>B4 _ j;cases e:As s.2 f with
 |false=>
  have c:fb s f=s:=au (λh=>by rw[e] at h;cases h.1);have d:iR s f=2:=ay e;rw[c,d] at k;exact aB rfl (S.en λi S=>k i S.tail)
 |true=>
  have m: ¬ As s.2 f=false:=by rw[e];decide
  refine an rfl ⟨rfl,S.cg 0 rfl rfl ?_⟩;by_cases a:(oE s.2 f).1=5
  ·have c:fb s f=(s.1,dF s.2 f (aO 0 0)):=ay ⟨e,a⟩;have d:iR s f=vn s.2 f (aO 0 0):=by
    unfold iR;rw[au m,au (λh=>h a)]
   rw[c,d] at k;exact an (by simpa using a) ⟨rfl,rfl,aj.of _ (S.fD (o _) (n:=1) rfl) (S.FZ f λi S=>S.en λp S=>k p S.tail)⟩
  ·have c:fb s f=s:=au (λh=>a h.2);have d:iR s f=6:=by
    unfold iR;rw[au m,ay a]
   rw[c,d] at k;exact aB (by simpa using a) (S.en λi S=>k i S.tail)
theorem r_ (S:bh Q D G w0 w s L0) (f:(X.hb,e9 Q X A g)∈L0) {K:Option Aq->A2->Prop} (k: ∀h i j l e,bh Q D G w0 e s ((h,[.slice (ae i) s.2.length j])::(i,flat eD s.2++l)::L0)->K (ae h) e):
 az AC 18 (.el (.one .ptr)) [ag (ae X.hb)] w K:=by
 refine S.go λw1 S=>ai (C:=V0) (aQ:=λ_=>[]) (B1 (Ho _ w1 K) ?_);exact⟨_,mT S f,an rfl ⟨rfl,rfl,aj.of _ (S.fD f (n:=1) rfl) (S.abo λa b c d e S=>S.en λm S=>k a b c d m S)⟩⟩
theorem sa (S:bh Q D G w0 w s L0) (a:(X.hb,e9 Q X A g)∈L0) {K:Option Aq->A2->Prop} (k: ∀b,bh Q D G w0 b s L0->K (ae Q.bm) b):
 az AC 23 (.el (.one .ptr)) [ag (ae X.hb)] w K:=by
 refine S.go λw1 S=>ai (C:=V0) (aQ:=λ_=>[]) (B1 (Hs _ w1 K) ?_);exact⟨_,mT S a,an rfl ⟨rfl,rfl,aj.of _ (S.fD a (n:=0) rfl) (S.en λc S=>k c S)⟩⟩
end
structure X8 (A:Nat->GA) (g:Nat->Option GV) (A':Nat->GA) (g':Nat->Option GV):Prop where
 bg: ∀i,(A' i).bg=(A i).bg
 bt: ∀i,(A' i).bt=(A i).bt
 bm: ∀i,(A' i).bm=(A i).bm
 rt: ∀i,(g' i).map GV.root=(g i).map GV.root
section
variable {A A':Nat->GA} {g g':Nat->Option GV} {Q:Sys} {X:HX}
theorem X8.ptr (h:X8 A g A' g'):kK A' g'=kK A g:=by
 funext i;have:=h.rt i;have hb:=h.bg i;unfold kK;cases h1:g' i<;>cases a:g i<;>rw[h1,a] at this<;>simp at this<;>simp[hb]
theorem X8.cs (h:X8 A g A' g'):e9 Q X A' g'=e9 Q X A g:=by
 unfold e9 mw;rw[h.ptr]
theorem X8.rows (h:X8 A g A' g') (l:List Nat):a6 Q A' g' l=a6 Q A g l:=by
 unfold a6;congr 1;funext i;have:=h.rt i;cases h1:g' i<;>cases a:g i<;>rw[h1,a] at this<;>simp at this
 ·dsimp only;unfold gO;rw[h.bg i,h.bt i,h.bm i,this]
theorem l9 {i:Nat} {v:GV} (hi:i<17) (hv:g i=some v):(cK A g (Ag 17)).Perm (((A i).bm,Obj.map ⟨(A i).es⟩ (A i).ck)::cK A g ((Ag 17).erase i)):=by
 unfold cK;refine(Gi _ (GH (Dj.2 hi))).trans ?_;rw[F2,hv];exact FQ _
theorem v_ {i:Nat} {v:GV} (hi:i<17) (hv:g i=some v):(a6 Q A g (Ag 17)).Perm (gO Q A i v++a6 Q A g ((Ag 17).erase i)):=by
 unfold a6;refine(Gi _ (GH (Dj.2 hi))).trans ?_;rw[F2,hv]
theorem zy {i:Nat} (hi:i<17) (hv:g i=none):(cK A g (Ag 17)).Perm (cK A g ((Ag 17).erase i)):=by
 unfold cK;refine(Gi _ (GH (Dj.2 hi))).trans ?_;rw[F2,hv];exact FQ _
theorem zz {i:Nat} (hi:i<17) (hv:g i=none):(a6 Q A g (Ag 17)).Perm (a6 Q A g ((Ag 17).erase i)):=by
 unfold a6;refine(Gi _ (GH (Dj.2 hi))).trans ?_;rw[F2,hv];exact FQ _
theorem gm {α β:Type} {f f':α->List β}: ∀{l:List α},(∀x∈l,f x=f' x)->l.flatMap f=l.flatMap f'
 |[], _=>rfl
 |x::l,h=>by
  rw[F2,F2,h x B3,gm λy a=>h y (B4 _ a)]
theorem Ps {i j:Nat} (h:j∈(Ag 17).erase i):j≠i:=λe=>by
 subst e;exact(List.nodup_range.not_mem_erase) h
theorem pE {i:Nat} (h: ∀j,j≠i->A' j=A j/\g' j=g j):cK A' g' ((Ag 17).erase i)=cK A g ((Ag 17).erase i):=by
 unfold cK;refine gm λj a=>?_;obtain⟨h1,b⟩:=h j (Ps a);rw[h1,b]
theorem wc {i:Nat} (h: ∀j,j≠i->A' j=A j/\g' j=g j):a6 Q A' g' ((Ag 17).erase i)=a6 Q A g ((Ag 17).erase i):=by
 unfold a6;refine gm λj a=>?_;obtain⟨h1,b⟩:=h j (Ps a);rw[b];cases g j with
 |none=>rfl
 |some v=>dsimp only;unfold gO;rw[h1]
end
def oy (A:Nat->GA) (i:Nat) (x:GA):Nat->GA:=λj=>if j=i then x else A j
def bj (g:Nat->Option GV) (i:Nat) (x:Option GV):Nat->Option GV:=λj=>if j=i then x else g j
theorem qf (A:Nat->GA) (i:Nat) (x:GA):oy A i x i=x:=ay rfl
theorem fy (g:Nat->Option GV) (i:Nat) (x:Option GV):bj g i x i=x:=ay rfl
theorem Bk (A:Nat->GA) (g:Nat->Option GV) (i:Nat) (x:GA) (y:Option GV): ∀j,j≠i->oy A i x j=A j/\bj g i y j=g j:=λ_ h=>⟨au h,au h⟩
theorem Jl {A:Nat->GA} {g:Nat->Option GV} {i:Nat} {v:GV} (hv:g i=some v) (es:List BP) (ck:Nat) (tk:List TK):X8 A g (oy A i {A i with es:=es,ck:=ck}) (bj g i (some {v with tk:=tk})):=by
 refine⟨λj=>?_,λj=>?_,λj=>?_,λj=>?_⟩
 ·unfold oy;split
  ·rename_i e;subst e;rfl
  ·rfl
 ·unfold oy;split
  ·rename_i e;subst e;rfl
  ·rfl
 ·unfold oy;split
  ·rename_i e;subst e;rfl
  ·rfl
 ·unfold bj;split
  ·rename_i e;subst e;rw[hv];rfl
  ·rfl
theorem SM.Pt {Q:Sys} {D G:List Nat} {w0 w:A2} {s:WD} {L0:List (Nat×List AI)} {A:Nat->GA} {g:Nat->Option GV} (H:SM Q D G w0 w s L0 (cK A g (Ag 17))) {i:Nat} {v:GV} (hi:i<17) (hv:g i=some v) (es:List BP) (ck:Nat) (tk:List TK):
 SM Q D G w0 (w.putObj (A i).bm (.map ⟨es⟩ ck)) s L0 (cK (oy A i {A i with es:=es,ck:=ck}) (bj g i (some {v with tk:=tk})) (Ag 17)):=by
 have a:=(H.iP (l9 hi hv).symm).put (i:=0) rfl (o':= .map ⟨es⟩ ck) trivial;refine a.iP ((l9 hi (v:={v with tk:=tk}) (fy _ _ _)).trans ?_);rw[pE (Bk A g i _ _),qf];exact FQ _
section
variable {Q:Sys} {X:HX} {D G:List Nat} {w0 w:A2} {s:WD} {L0:List (Nat×List AI)} {bg br bp c:Nat} {gs:List GT} {rest:List AI} {room:Int} {ps:List Po.PT}
namespace bh
theorem VO (S:bh Q D G w0 w s L0) (j b:Nat) (e:L0[j]? =some (bg,mA br gs.length c)) (f:L0[b]? =some (br,flat eG gs++rest)) (h0:0<gs.length) (i o:Int) {K:Int->A2->Prop}
 (k: ∀a,bh Q D G w0 a s (L0.set b (br,flat eG (lh gs i o)++rest))->K (qG gs i o) a):
 az AC 184 (.el (.one (.int .i64))) [ag (ae bg),aa i,aa o] w K:=by
 obtain⟨h1,g,h,l,ca,la,d⟩:=S;exact G9 d (j+4) (b+4) e f h0 i o λa d=>k a ⟨h1,g,h,l,ca,la,d⟩
theorem abp (S:bh Q D G w0 w s L0) (j d:Nat) (f:L0[j]? =some (bg,mA br gs.length c)) (h:L0[d]? =some (br,flat eG gs++rest)) (h0:0<gs.length) (l: ∀x∈gs,0<=x.2.2.2.2.1/\x.2.2.2.2.1<=1000) (i g:Int) (b:Bool) {K:Int->A2->Prop}
 (k: ∀a,bh Q D G w0 a s (L0.set d (br,flat eG (dW gs i g b)++rest))->K (gU gs i g b) a):
 az AC 181 (.el (.one (.int .i64))) [ag (ae bg),aa i,aa g,.bool b] w K:=by
 obtain⟨h1,m,n,o,ca,la,e⟩:=S;exact Q4 e (j+4) (d+4) f h h0 l i g b λa e=>k a ⟨h1,m,n,o,ca,la,e⟩
theorem Xn (S:bh Q D G w0 w s L0) (j b:Nat) (e:L0[j]? =some (bg,mA br gs.length c)) (f:L0[b]? =some (br,flat eG gs++rest)) (h0:0<gs.length) (h: ∀x∈gs,0<=x.2.2.2.2.1/\x.2.2.2.2.1<=1000) (i g:Int) {K:Int->A2->Prop}
 (k: ∀a,bh Q D G w0 a s (L0.set b (br,flat eG (eA gs i g)++rest))->K (mr gs i g) a):
 az AC 182 (.el (.one (.int .i64))) [ag (ae bg),aa i,aa g] w K:=by
 obtain⟨h1,l,m,n,ca,la,d⟩:=S;exact Q5 d (j+4) (b+4) e f h0 h i g λa d=>k a ⟨h1,l,m,n,ca,la,d⟩
theorem ZV (S:bh Q D G w0 w s L0) (j d:Nat) (f:L0[j]? =some (bg,mA br gs.length c)) (g:L0[d]? =some (br,flat eG gs++rest)) (h0:0<gs.length) (h:gs.length<=64) (o q t:Int) (b:Bool) {K:Int×Int×Unit->A2->Prop}
 (k: ∀a,bh Q D G w0 a s (L0.set d (br,flat eG (jN gs o q t b)++rest))->K (ki gs o q t,lj gs o q t,()) a):
 az AC 180 (.bu [.one (.int .i64),.one (.int .i64)]) [ag (ae bg),aa o,aa q,aa t,.bool b] w K:=by
 obtain⟨h1,i,l,m,ca,la,e⟩:=S;exact Le e (j+4) (d+4) f g h0 h o q t b λa e=>k a ⟨h1,i,l,m,ca,la,e⟩
theorem abq (S:bh Q D G w0 w s L0) (j a:Nat) (e:L0[j]? =some (bg,mA br gs.length c)) (f:L0[a]? =some (br,flat eG gs++rest)) (h0:0<gs.length) (h:gs.length<=64) (o:j≠a) (g:Int) {K:Int->A2->Prop}
 (k: ∀n b,bh Q D G w0 b s (L0.set a (br,flat eG (cM gs g)++rest))->K n b):
 az AC 169 (.el (.one (.int .i64))) [ag (ae bg),aa g] w K:=by
 obtain⟨h1,i,l,m,ca,la,d⟩:=S;exact Q6 d (j+4) (a+4) e f h0 h (by omega) g λn b d=>k n b ⟨h1,i,l,m,ca,la,d⟩
theorem aax (S:bh Q D G w0 w s L0) (j a:Nat) (b:L0[j]? =some (bg,mA br gs.length c)) (d:L0[a]? =some (br,flat eG gs++rest)) (h0:0<gs.length) (i:Int):
 af AC 176 [ag (ae bg),aa i] w ((Sh.bu [eG,.one .bool]).gR (wT gs i,(lV gs i).isSome,())):=
 af.of (s:= .bu [eG,.one .bool]) λw' h'=>ZD ((S.get b).ext h') ((S.get d).ext h') h0 i
theorem abr (S:bh Q D G w0 w s L0) (j:Nat) (c:L0[j]? =some (bp,Po.gJ room ps)) (d:Po.okS room ps) (g r:Int) {K:Int×Int×Unit->A2->Prop}
 (k: ∀a,bh Q D G w0 a s (L0.set j (bp,Po.gJ room (Po.iQ room ps g r).2))->K ((Po.iQ room ps g r).1.1,(Po.iQ room ps g r).1.2,()) a):
 az AC 185 (.bu [.one (.int .i64),.one (.int .i64)]) [ag (ae bp),aa g,aa r] w K:=by
 obtain⟨h1,e,f,h,ca,la,b⟩:=S;exact Po.Q7 b (j+4) c d g r λa b=>k a ⟨h1,e,f,h,ca,la,b⟩
theorem pbind (S:bh Q D G w0 w s L0) (j:Nat) (c:L0[j]? =some (bp,Po.gJ room ps)) (d:Po.okS room ps) (g r i:Int) {K:Int×Int×Unit->A2->Prop}
 (k: ∀a,bh Q D G w0 a s (L0.set j (bp,Po.gJ room (Po.g_ room ps g r i).2))->K ((Po.g_ room ps g r i).1.1,(Po.g_ room ps g r i).1.2,()) a):
 az AC 186 (.bu [.one (.int .i64),.one (.int .i64)]) [ag (ae bp),aa g,aa r,aa i] w K:=by
 obtain⟨h1,e,f,h,ca,la,b⟩:=S;exact Po.Q8 b (j+4) c d g r i λa b=>k a ⟨h1,e,f,h,ca,la,b⟩
theorem abt (S:bh Q D G w0 w s L0) (j:Nat) (c:L0[j]? =some (bp,Po.gJ room ps)) (d:Po.lI room ps) (g i:Int) {K:Int->A2->Prop}
 (k: ∀a,bh Q D G w0 a s (L0.set j (bp,Po.gJ room (Po.ll room ps g i).2))->K (Po.ll room ps g i).1 a):
 az AC 187 (.el (.one (.int .i64))) [ag (ae bp),aa g,aa i] w K:=by
 obtain⟨h1,e,f,h,ca,la,b⟩:=S;exact Po.Q9 b (j+4) c d g i λa b=>k a ⟨h1,e,f,h,ca,la,b⟩
theorem ZW (S:bh Q D G w0 w s L0) (j:Nat) (c:L0[j]? =some (bp,Po.gJ room ps)) (d:Po.lI room ps) (g i:Int) {K:Int->A2->Prop}
 (k: ∀a,bh Q D G w0 a s (L0.set j (bp,Po.gJ room (Po.eB room ps g i).2))->K (Po.eB room ps g i).1 a):
 az AC 189 (.el (.one (.int .i64))) [ag (ae bp),aa g,aa i] w K:=by
 obtain⟨h1,e,f,h,ca,la,b⟩:=S;exact Po.A4 b (j+4) c d g i λa b=>k a ⟨h1,e,f,h,ca,la,b⟩
theorem abu (S:bh Q D G w0 w s L0) (j:Nat) (c:L0[j]? =some (bp,Po.gJ room ps)) (d:Po.okS room ps) (g:Int) {K:Int×Bool×Unit->A2->Prop}
 (k: ∀a,bh Q D G w0 a s (L0.set j (bp,Po.gJ room (Po.gM room ps g).2))->K ((Po.gM room ps g).1.1,(Po.gM room ps g).1.2,()) a):
 az AC 188 (.bu [.one (.int .i64),.one .bool]) [ag (ae bp),aa g] w K:=by
 obtain⟨h1,e,f,h,ca,la,b⟩:=S;exact Po.Rb b (j+4) c d g λa b=>k a ⟨h1,e,f,h,ca,la,b⟩
theorem abv (S:bh Q D G w0 w s L0) (j:Nat) (c:L0[j]? =some (bp,Po.gJ room ps)) (d:Po.lI room ps) (g:Int) {K:Int->A2->Prop}
 (k: ∀a,bh Q D G w0 a s (L0.set j (bp,Po.gJ room (Po.cG room ps g).2))->K (Po.cG room ps g).1 a):
 az AC 170 (.el (.one (.int .i64))) [ag (ae bp),aa g] w K:=by
 obtain⟨h1,e,f,h,ca,la,b⟩:=S;exact Po.Ri b (j+4) c d g λa b=>k a ⟨h1,e,f,h,ca,la,b⟩
theorem res (S:bh Q D G w0 w s L0) {j b:Nat} {x1 d:AI} (c:L0[j]? =some (b,[x1,d])) (v e:Int) {K:RS->A2->Prop} (k: ∀a,bh Q D G w0 a s (L0.set j (b,[ax v,aa e]))->K (v,e,()) a):
 aA w (ae b) [ax v,aa e] λa=>ao a λw1=>aj w1 none (ae b) (.agg iv) λx=>K (x.1,x.2.1,()) w1:=by
 have f:j<L0.length:=(DH.1 c).1;refine S.fa j c rfl rfl λa S=>S.en λg S=>?_;exact S.ld j (FE f) (show _=some (v,e,()) from rfl) (k g S)
end bh
end
def yk (h:HS) (gr:List GT):HS:={h with gr:=gr}
def AF (h:HS) (po:List Po.PT):HS:={h with po:=po}
def bq (h:HS) (s:WD):HS:={h with s:=s}
abbrev fR (k a b c:Int):List AI:=[aa k,ax a,ax b,ax c]
theorem y6 (gs:List GT) (i o:Int):(lh gs i o).length=gs.length:=by
 unfold lh;split
 ·rw[Dx]
 ·rfl
def Cz (h:HS) (v a:Int):Int:=if a>=16 then 1 else qG h.gr a v
def fO (h:HS) (v a:Int):HS:=if a>=16 then h else yk h (lh h.gr a v)
section
variable {Q:Sys} {X:HX} {D G:List Nat} {w0 w:A2} {h:HS} {L:List (Nat×List AI)} {K:RS->A2->Prop}
theorem Ms (H:iB Q X D G w0 w h L) (v k:Int) {a:Int} (b c:Int) (m:0<=a) (kk: ∀f,iB Q X D G w0 f (fO h v a) L->K (0,Cz h v a,()) f):
 aD AC 132 (.el (.agg iv)) [ag (ae X.hb),aa v,.agg ⟨fR k a b c⟩] w K:=by
 obtain⟨A,W,H⟩:=H;obtain⟨o,S,J⟩:=H.call;refine aP (C:=V0) (aQ:=λ_=>[]) (B1 (E' _ v k a b c w K) ?_);refine S.al λp f S=>S.al λq r S=>⟨rfl,S.cg 1 rfl rfl ?_⟩;unfold Cz fO at kk;refine ab (λd=>⟨trivial,S.res (j:=0) rfl 0 1 λi S=>?_⟩) (λd=>?_)
 ·rw[ay (by simpa using d),ay (by simpa using d)] at kk;exact kk i ⟨A,W,J (S.tail.tail)⟩
 ·have d: ¬ a>=16:=by simpa using d
  rw[au d,au d] at kk;refine⟨rfl,rfl,aj.of _ (S.fD (X:=X) (A:=A) (g:=h.g) (by simp) (n:=2) rfl) ⟨rfl,S.cg 1 rfl rfl ?_⟩⟩;rw[bK ⟨m,by omega⟩];refine S.VO 3 4 rfl rfl (by rw[W.gl];decide) a v λi S=>⟨trivial,S.res (j:=0) rfl 0 _ λl S=>kk l ⟨A,⟨W.iM,W.mp,(y6 _ _ _).trans W.gl,W.pt,W.gk.rev _ _⟩,J ?_⟩⟩;have S:=S.tail.tail;have e:(lh h.gr a v).length=h.gr.length:=y6 _ _ _;show bh Q [] o w l h.s ((X.hb,e9 Q X A h.g)::(X.gb,mA X.uz (lh h.gr a v).length X.c):: _);rw[e];exact S
end
set_option maxRecDepth 100000
open Go.RX D
def OG (h:HS) (v a:Int):Int:=if a>=4 then 1 else(Po.ll 4 h.po v a).1
def lW (h:HS) (v a:Int):HS:=if a>=4 then h else AF h (Po.ll 4 h.po v a).2
def Gn (h:HS) (v a:Int):Int:=if a>=4 then 1 else(Po.eB 4 h.po v a).1
def iW (h:HS) (v a:Int):HS:=if a>=4 then h else AF h (Po.eB 4 h.po v a).2
def OH (h:HS) (v:Int):Int:=if(Po.gM 4 h.po v).1.2=true then(Po.gM 4 h.po v).1.1+1 else 0
def OI (h:HS) (v:Int):HS:=AF h (Po.gM 4 h.po v).2
def IA (h:HS) (v a:Int):Int×Int:=if cZ h.g v a=0 then(Po.iQ 4 h.po v a).1 else(0,cZ h.g v a)
def lX (h:HS) (v a:Int):HS:=if cZ h.g v a=0 then AF h (Po.iQ 4 h.po v a).2 else h
def IB (h:HS) (v a b:Int):Int×Int:=if cZ h.g v a=1\/b>=4 then(0,1) else if cZ h.g v a=0 then(Po.g_ 4 h.po v a b).1 else(0,cZ h.g v a)
def lY (h:HS) (v a b:Int):HS:=if cZ h.g v a=1\/b>=4 then h else if cZ h.g v a=0 then AF h (Po.g_ 4 h.po v a b).2 else h
theorem vb {g:Nat->Option GV} {v a:Int} (h:cZ g v a≠1):1<=a/\a<=16:=by
 unfold cZ at h;split at h
 ·exact absurd rfl h
 ·omega
theorem ee {a:Int} (h:0<=a/\a<18446744073709551616):aG .u64 a=a:=by
 unfold aG;simp only[IntKind.wrap,IntKind.bits,IntKind.signed];simp;omega
theorem R3 {ps:List Po.PT} {g:Int} (h:(Po.gM 4 ps g).1.2=true):0<=(Po.gM 4 ps g).1.1/\(Po.gM 4 ps g).1.1<4:=by
 unfold Po.gM at h ⊢;cases a:Po.oS 4 ps g with
 |nil=>rw[a] at h;cases h
 |cons i l=>
  have:=(Po.eO.1 (Po.tx (ps:=ps) (g:=g) (x:=i) (room:=4) (by rw[a];exact B3)).1).2;exact this
theorem VP {ps:List Po.PT} {g:Int} {x:Po.PT} (a:Po.gI g=true):0<=(Po.dN 4 ps g x).1.1/\(Po.dN 4 ps g x).1.1<4:=by
 unfold Po.dN;split
 ·exact⟨H4 _,(by decide:(0:Int)<4)⟩
 ·rename_i b;have:=(Po.eO.1 (Po.mR a b).1).2;exact this
theorem R4 (ps:List Po.PT) (g r:Int):0<=(Po.iQ 4 ps g r).1.1/\(Po.iQ 4 ps g r).1.1<4:=by
 unfold Po.iQ;split
 ·rename_i a;exact VP (Po.pS.1 a).1
 ·exact⟨H4 _,(by decide:(0:Int)<4)⟩
section
variable {Q:Sys} {X:HX} {D G:List Nat} {w0 w:A2} {h:HS} {L:List (Nat×List AI)} {K:RS->A2->Prop}
theorem VQ (H:iB Q X D G w0 w h L) (v k:Int) {a:Int} (b c:Int) (i:0<=a) (kk: ∀e,iB Q X D G w0 e (lW h v a) L->K (0,OG h v a,()) e):
 aD AC 135 (.el (.agg iv)) [ag (ae X.hb),aa v,.agg ⟨fR k a b c⟩] w K:=by
 obtain⟨A,W,H⟩:=H;obtain⟨m,S,J⟩:=H.call;refine aP (C:=V0) (aQ:=λ_=>[]) (B1 (Mh _ v k a b c w K) ?_);refine S.al λo e S=>S.al λp q S=>⟨rfl,S.cg 1 rfl rfl ?_⟩;unfold OG lW at kk;refine ab (λd=>⟨trivial,S.res (j:=0) rfl 0 1 λf S=>?_⟩) (λd=>?_)
 ·rw[ay (by simpa using d),ay (by simpa using d)] at kk;exact kk f ⟨A,W,J (S.tail.tail)⟩
 ·have d: ¬ a>=4:=by simpa using d
  rw[au d,au d] at kk;refine⟨rfl,rfl,aj.of _ (S.fD (X:=X) (A:=A) (g:=h.g) (by simp) (n:=3) rfl) ⟨rfl,S.cg 1 rfl rfl ?_⟩⟩;rw[bK ⟨i,by omega⟩];exact S.abt 5 rfl W.pt v a λf S=>⟨trivial,S.res (j:=0) rfl 0 _ λl S=>kk l ⟨A,⟨W.iM,W.mp,W.gl,W.pt.ll v a,W.gk⟩,J (S.tail.tail)⟩⟩
theorem R5 (H:iB Q X D G w0 w h L) (v k:Int) {a:Int} (b c:Int) (i:0<=a) (kk: ∀e,iB Q X D G w0 e (iW h v a) L->K (0,Gn h v a,()) e):
 aD AC 137 (.el (.agg iv)) [ag (ae X.hb),aa v,.agg ⟨fR k a b c⟩] w K:=by
 obtain⟨A,W,H⟩:=H;obtain⟨m,S,J⟩:=H.call;refine aP (C:=V0) (aQ:=λ_=>[]) (B1 (Hw _ v k a b c w K) ?_);refine S.al λo e S=>S.al λp q S=>⟨rfl,S.cg 1 rfl rfl ?_⟩;unfold Gn iW at kk;refine ab (λd=>⟨trivial,S.res (j:=0) rfl 0 1 λf S=>?_⟩) (λd=>?_)
 ·rw[ay (by simpa using d),ay (by simpa using d)] at kk;exact kk f ⟨A,W,J (S.tail.tail)⟩
 ·have d: ¬ a>=4:=by simpa using d
  rw[au d,au d] at kk;refine⟨rfl,rfl,aj.of _ (S.fD (X:=X) (A:=A) (g:=h.g) (by simp) (n:=3) rfl) ⟨rfl,S.cg 1 rfl rfl ?_⟩⟩;rw[bK ⟨i,by omega⟩];exact S.ZW 5 rfl W.pt v a λf S=>⟨trivial,S.res (j:=0) rfl 0 _ λl S=>kk l ⟨A,⟨W.iM,W.mp,W.gl,W.pt.eB v a,W.gk⟩,J (S.tail.tail)⟩⟩
theorem VR (H:iB Q X D G w0 w h L) (v k a b c:Int) (kk: ∀e,iB Q X D G w0 e (OI h v) L->K (OH h v,0,()) e):
 aD AC 136 (.el (.agg iv)) [ag (ae X.hb),aa v,.agg ⟨fR k a b c⟩] w K:=by
 obtain⟨A,W,H⟩:=H;obtain⟨o,S,J⟩:=H.call;refine aP (C:=V0) (aQ:=λ_=>[]) (B1 (Mj _ v k a b c w K) ?_);refine S.al λp e S=>S.al λq s S=>⟨rfl,rfl,aj.of _ (S.fD (X:=X) (A:=A) (g:=h.g) (by simp) (n:=3) rfl) ?_⟩;unfold OH OI at kk;have l:=λh'=>R3 (ps:=h.po) (g:=v) h';refine S.abu 5 rfl W.pt.tookS v λt S=>?_;obtain⟨r,m⟩: ∃r,r=Po.gM 4 h.po v:=⟨_,rfl⟩;have f:=W.pt.gM v;rw[<-m] at l kk S f ⊢;refine ab (λd=>S.res (j:=0) rfl 0 0 λi S=>?_) (λd=>?_)
 ·have d: ¬ r.1.2=true:=by simpa using d
  rw[au d] at kk;exact kk i ⟨A,⟨W.iM,W.mp,W.gl,f,W.gk⟩,J (S.tail.tail)⟩
 ·have d:r.1.2=true:=by simpa using d
  rw[ay d] at kk;have:=l d;rw[aw (by omega) (by omega),ee (by omega)];exact S.res (j:=0) rfl _ 0 λi S=>kk i ⟨A,⟨W.iM,W.mp,W.gl,f,W.gk⟩,J (S.tail.tail)⟩
theorem VS (H:iB Q X D G w0 w h L) (v k:Int) {a:Int} (b c:Int) (i:0<=a) (kk: ∀f,iB Q X D G w0 f (lX h v a) L->K ((IA h v a).1,(IA h v a).2,()) f):
 aD AC 133 (.el (.agg iv)) [ag (ae X.hb),aa v,.agg ⟨fR k a b c⟩] w K:=by
 obtain⟨A,W,H⟩:=H;obtain⟨o,S,J⟩:=H.call;refine aP (C:=V0) (aQ:=λ_=>[]) (B1 (Mf _ v k a b c w K) ?_);refine S.al λp f S=>S.al λq r S=>⟨rfl,S.cg 1 rfl rfl ⟨_,yY S (X:=X) (A:=A) (g:=h.g) (by simp) v i,?_⟩⟩;unfold IA lX at kk;refine ab (λd=>⟨trivial,S.res (j:=0) rfl 0 _ λl S=>?_⟩) (λd=>?_)
 ·have d: ¬ cZ h.g v a=0:=by simpa using d
  rw[au d,au d] at kk;exact kk l ⟨A,W,J (S.tail.tail)⟩
 ·have d:cZ h.g v a=0:=by simpa using d
  rw[ay d,ay d] at kk;have s:=vb (g:=h.g) (v:=v) (a:=a) (by rw[d];decide);refine⟨rfl,rfl,aj.of _ (S.fD (X:=X) (A:=A) (g:=h.g) (by simp) (n:=3) rfl) ⟨rfl,S.cg 1 rfl rfl ?_⟩⟩;rw[bK ⟨i,by omega⟩];have t:=R4 h.po v a;refine S.abr 5 rfl W.pt.tookS v a λl S=>?_;have e:aG .u64 (Po.iQ 4 h.po v a).1.1=(Po.iQ 4 h.po v a).1.1:=ee (by omega);dsimp only;rw[e];exact S.res (j:=0) rfl _ _ λm S=>kk m ⟨A,⟨W.iM,W.mp,W.gl,W.pt.iQ v a,W.gk⟩,J (S.tail.tail)⟩
theorem R6 (ps:List Po.PT) (g r i:Int):0<=(Po.g_ 4 ps g r i).1.1/\(Po.g_ 4 ps g r i).1.1<4:=by
 unfold Po.g_;have z:(0:Int)<=0/\(0:Int)<4:=by decide
 split
 ·rename_i a;split
  ·exact z
  ·split
   ·exact z
   ·split
    ·exact z
    ·split
     ·exact z
     ·rename_i b;have:=(Po.eO.1 (Po.mR (Po.pS.1 a).1 b).1).2;exact this
 ·exact z
theorem VT (H:iB Q X D G w0 w h L) (v k:Int) {a b:Int} (c:Int) (l:0<=a) (hb:0<=b) (kk: ∀i,iB Q X D G w0 i (lY h v a b) L->K ((IB h v a b).1,(IB h v a b).2,()) i):
 aD AC 134 (.el (.agg iv)) [ag (ae X.hb),aa v,.agg ⟨fR k a b c⟩] w K:=by
 obtain⟨A,W,H⟩:=H;obtain⟨o,S,J⟩:=H.call;refine aP (C:=V0) (aQ:=λ_=>[]) (B1 (Mg _ v k a b c w K) ?_);refine S.al λp i S=>S.al λq r S=>⟨rfl,S.cg 1 rfl rfl ⟨_,yY S (X:=X) (A:=A) (g:=h.g) (by simp) v l,λ_=>rfl,S.cg 1 rfl rfl ?_⟩⟩;unfold IB lY at kk;refine ab (λd=>⟨trivial,S.res (j:=0) rfl 0 _ λf S=>?_⟩) (λd=>?_)
 ·have d:cZ h.g v a=1\/b>=4:=by simpa using d
  rw[ay d,ay d] at kk;exact kk f ⟨A,W,J (S.tail.tail)⟩
 have d: ¬ (cZ h.g v a=1\/b>=4):=by
  intro e;have:(cZ h.g v a==1||decide (b>=4))=true:=by simpa using e
  rw[this] at d;cases d
 rw[au d,au d] at kk;refine ab (λd=>⟨trivial,S.res (j:=0) rfl 0 _ λf S=>?_⟩) (λd2=>?_)
 ·have d: ¬ cZ h.g v a=0:=by simpa using d
  rw[au d,au d] at kk;exact kk f ⟨A,W,J (S.tail.tail)⟩
 ·have d2:cZ h.g v a=0:=by simpa using d2
  rw[ay d2,ay d2] at kk;have s:=vb (g:=h.g) (v:=v) (a:=a) (by rw[d2];decide);have t:b<4:=by omega
  refine⟨rfl,rfl,aj.of _ (S.fD (X:=X) (A:=A) (g:=h.g) (by simp) (n:=3) rfl) ⟨rfl,S.cg 1 rfl rfl ⟨rfl,S.cg 1 rfl rfl ?_⟩⟩⟩;rw[bK ⟨l,by omega⟩,bK ⟨hb,by omega⟩];have u:=R6 h.po v a b;refine S.pbind 5 rfl W.pt.tookS v a b λf S=>?_;have e:aG .u64 (Po.g_ 4 h.po v a b).1.1=(Po.g_ 4 h.po v a b).1.1:=ee (by omega);dsimp only;rw[e];exact S.res (j:=0) rfl _ _ λm S=>kk m ⟨A,⟨W.iM,W.mp,W.gl,W.pt.g_ v a b,W.gk⟩,J (S.tail.tail)⟩
end
theorem Ev (gs:List GT) (o q t:Int) (b:Bool):(jN gs o q t b).length=gs.length:=by
 unfold jN;split
 ·rw[Dx]
 ·rfl
theorem R7 {gs:List GT} (b:gs.length=16) (o q t:Int):0<=ki gs o q t/\ki gs o q t<16:=by
 have z:(0:Int)<=0/\(0:Int)<16:=by decide
 unfold ki;split
 ·cases a:de gs eV gs.length with
  |nil=>exact z
  |cons x l=>
   obtain⟨i,hi, _,e⟩:=qa.1 (by rw[a];exact B3:x∈de gs eV gs.length);show 0<=x/\x<16;omega
 ·exact z
def gZ (h:HS) (v p:Int):Bool:=(fX h.g v p).2.1
def rN (h:HS) (v a b c:Int):Int:=
 if a>=65536 then 2 else if cZ h.g v b=1\/c>1 then 1 else if(fQ h.g h.s v a).2.2.1≠0\/cZ h.g v b≠0 then 4 else if gZ h v a=true then 7 else 0
def yC (h:HS) (v a b c:Int):Int×Int:=if rN h v a b c=0 then(ki h.gr v a b,lj h.gr v a b) else(0,rN h v a b c)
def iz (h:HS) (v a b c:Int):HS:=if rN h v a b c=0 then yk h (jN h.gr v a b (c==1)) else h
section
variable {Q:Sys} {X:HX} {D G:List Nat} {w0 w:A2} {h:HS} {L:List (Nat×List AI)} {K:RS->A2->Prop}
theorem bV {A:Nat->GA} (W:C6 A h) (T:List (Nat×List AI)): ∀i v,h.g i=some v-> ∀x∈gO Q A i v,x∈T++dL Q X A h (a6 Q A h.g (Ag 17)++L):=λi v hv x a=>by
 have:=W.iM hv;exact B2 _ (B4 _ (B4 _ (B4 _ (B4 _ (DB _ (Bj (Dj.2 (by omega)) hv x a))))))
theorem fA {A:Nat->GA} (W:C6 A h): ∀i v,h.g i=some v->((A i).bm,Obj.map ⟨(A i).es⟩ (A i).ck)∈cK A h.g (Ag 17):=λi v hv=>by
 have:=W.iM hv;exact Mp (Dj.2 (by omega)) hv
theorem R8 (H:iB Q X D G w0 w h L) (v k:Int) {a b c:Int} (z:0<=a) (hb:0<=b) (hc:0<=c) (kk: ∀l,iB Q X D G w0 l (iz h v a b c) L->K ((yC h v a b c).1,(yC h v a b c).2,()) l):
 aD AC 129 (.el (.agg iv)) [ag (ae X.hb),aa v,.agg ⟨fR k a b c⟩] w K:=by
 obtain⟨A,W,H⟩:=H;obtain⟨B,S,J⟩:=H.call;refine aP (C:=V0) (aQ:=λ_=>[]) (B1 (Hv _ v k a b c w K) ?_);refine S.al λF l S=>S.al λI M S=>⟨rfl,S.cg 1 rfl rfl ⟨_,yY S (X:=X) (A:=A) (g:=h.g) (by simp) v hb,rfl,S.cg 1 rfl rfl ?_⟩⟩;have m:rN h v a b c≠0-> ∀{l},iB Q X D G w0 l h L->K (0,rN h v a b c,()) l:=λr l H=>by
  have o:yC h v a b c=(0,rN h v a b c):=au r;have p:iz h v a b c=h:=au r;rw[o,p] at kk;exact kk l H
 have f:rN h v a b c=if a>=65536 then 2 else if cZ h.g v b=1\/c>1 then 1 else if(fQ h.g h.s v a).2.2.1≠0\/cZ h.g v b≠0 then 4 else if gZ h v a=true then 7 else 0:=rfl;refine ab (λd=>⟨trivial,S.res (j:=0) rfl 0 _ λt S=>?_⟩) (λd=>⟨λ_=>rfl,S.cg 1 rfl rfl ?_⟩)
 ·rw[ay (by simpa using d)] at f;rw[f] at m;exact m (by decide) ⟨A,W,J S.tail.tail⟩
 have d: ¬ a>=65536:=by simpa using d
 rw[au d] at f;have q:aG .i64 a=a:=bK ⟨z,by omega⟩;refine ab (λd=>⟨trivial,S.res (j:=0) rfl 0 _ λt S=>?_⟩) (λd2=>⟨rfl,S.cg 1 rfl rfl ?_⟩)
 ·rw[ay (by simpa using d)] at f;rw[f] at m;exact m (by decide) ⟨A,W,J S.tail.tail⟩
 have d2: ¬ (cZ h.g v b=1\/c>1):=by
  intro e;have:(cZ h.g v b==1||decide (c>1))=true:=by simpa using e
  rw[this] at d2;cases d2
 rw[au d2] at f;rw[q];refine va S (X:=X) (A:=A) (g:=h.g) (by simp) (bV W [_, _]) v a λt S=>?_;refine ab (λd=>⟨trivial,S.res (j:=0) rfl 0 _ λu S=>?_⟩) (λd3=>⟨rfl,S.cg 1 rfl rfl ?_⟩)
 ·rw[ay (by simpa using d)] at f;rw[f] at m;exact m (by decide) ⟨A,W,J S.tail.tail⟩
 have d3: ¬ ((fQ h.g h.s v a).2.2.1≠0\/cZ h.g v b≠0):=by
  intro e;have:((fQ h.g h.s v a).2.2.1 != 0||cZ h.g v b != 0)=true:=by simpa using e
  rw[this] at d3;cases d3
 rw[au d3] at f;rw[q];refine⟨fX h.g v a,py (J S) (X:=X) (A:=A) (g:=h.g) (by simp) (bV W [_, _]) (fA W) (λi x E=>W.mp E) v a,?_⟩;refine ab (λd=>⟨trivial,S.res (j:=0) rfl 0 _ λu S=>?_⟩) (λd4=>?_)
 ·rw[ay (show gZ h v a=true from d)] at f;rw[f] at m;exact m (by decide) ⟨A,W,J S.tail.tail⟩
 rw[au (show ¬ gZ h v a=true by unfold gZ;rw[d4];decide)] at f;have o:yC h v a b c=(ki h.gr v a b,lj h.gr v a b):=ay f;have p:iz h v a b c=yk h (jN h.gr v a b (c==1)):=ay f;rw[o,p] at kk;have N:=vb (g:=h.g) (v:=v) (a:=b) (λe=>d2 (.inl e));refine⟨rfl,rfl,aj.of _ (S.fD (X:=X) (A:=A) (g:=h.g) (by simp) (n:=2) rfl) ⟨rfl,S.cg 1 rfl rfl ⟨rfl,S.cg 1 rfl rfl ⟨rfl,S.cg 1 rfl rfl ?_⟩⟩⟩⟩;rw[q,bK ⟨hb,by omega⟩];have O:=R7 W.gl v a b;refine S.ZV 3 4 rfl rfl (by rw[W.gl];decide) (by rw[W.gl];decide) v a b (c==1) λu S=>?_;dsimp only;rw[ee (by omega)];refine S.res (j:=0) rfl _ _ λy S=>kk y ⟨A,⟨W.iM,W.mp,(Ev _ _ _ _ _).trans W.gl,W.pt,W.gk.off _ _ _ _⟩,J ?_⟩;have S:=S.tail.tail;have e:(jN h.gr v a b (c==1)).length=h.gr.length:=Ev _ _ _ _ _;show bh Q [] B w y h.s ((X.hb,e9 Q X A h.g)::(X.gb,mA X.uz (jN h.gr v a b (c==1)).length X.c):: _);rw[e];exact S
end
def iS (h:HS) (v a t:Int):Int×Int:=if a>=1048576 then(0,2) else(aI .i64 (gq .i64 16 (nb h.s.1 (aZ h.g v) (a / 16) t).1) (a % 16),(nb h.s.1 (aZ h.g v) (a / 16) t).2.2.2.1)
def IC (h:HS) (v a:Int):Int×Int:=if(iS h v a 1).2≠0 then(0,(iS h v a 1).2) else(dE h.s.1 (iS h v a 1).1,wH h.s.1 (iS h v a 1).1)
def rO (h:HS) (v a:Int):Int:=if(iS h v a 2).2≠0 then(iS h v a 2).2 else wH h.s.1 (iS h v a 2).1
def jZ (h:HS) (v a b:Int):HS:=if(iS h v a 2).2≠0 then h else bq h (dJ h.s.1 (iS h v a 2).1 b,h.s.2)
def dI (s:WD):Nat->WD×Nat
 |0=>(s,0)
 |n+1=>(fb (dI s n).1 (n:Int),(dI s n).2+if iR (dI s n).1 (n:Int)=0 then 1 else 0)
theorem Mt (s:WD) (f:Int):(fb s f).1=s.1/\(fb s f).2.length=s.2.length:=by
 unfold fb;split
 ·exact⟨rfl,im _ _ _⟩
 ·exact⟨rfl,rfl⟩
theorem Bl (s:WD): ∀n,(dI s n).1.1=s.1/\(dI s n).1.2.length=s.2.length
 |0=>⟨rfl,rfl⟩
 |n+1=>by
  have h:=Mt (dI s n).1 (n:Int);have a:=Bl s n;exact⟨h.1.trans a.1,h.2.trans a.2⟩
theorem Bm (s:WD): ∀n,(dI s n).2<=n
 |0=>FS _
 |n+1=>by
  have:=Bm s n;show(dI s n).2+ _<=n+1;split<;>omega
theorem abw {a:Int} (h:0<=a/\a<1048576):aG .i64 (wO .u64 a 16)=a / 16:=by
 have e:wO .u64 a 16=a / 16:=by
  show aG .u64 (a.tdiv 16)= _;rw[Int.tdiv_eq_ediv_of_nonneg h.1];exact ee (by omega)
 rw[e];exact bK (by omega)
theorem abx {a:Int} (h:0<=a):aG .i64 (ff a 16)=a % 16:=by
 have e:ff a 16=a % 16:=by
  unfold ff;exact Int.tmod_eq_emod_of_nonneg h
 rw[e];exact bK (by omega)
section
variable {Q:Sys} {X:HX} {D G:List Nat} {w0 w:A2} {h:HS} {L:List (Nat×List AI)} {K:RS->A2->Prop}
theorem Ew {f:List Nat} {j:A2} {A:Nat->GA} {s:WD} {L0:List (Nat×List AI)} (S:bh Q [] f j w s L0) (m:s=h.s) (k:(X.hb,e9 Q X A h.g)∈L0) (o: ∀i v,h.g i=some v-> ∀x∈gO Q A i v,x∈L0) (v:Int) {a:Int} (l:0<=a) (t:Int) {K:Int×Int×Unit->A2->Prop}
 (kk: ∀c,bh Q [] f j c s L0->K ((iS h v a t).1,(iS h v a t).2,()) c):
 az AC 178 (.bu [.one (.int .i64),.one (.int .i64)]) [ag (ae X.hb),aa v,ax a,aa t] w K:=by
 subst m;refine S.go λw1 S=>ai (C:=V0) (aQ:=λ_=>[]) (B1 (RO _ v a t w1 K) ?_);unfold iS at kk;refine ab (λd=>S.en λc S=>?_) (λd=>?_)
 ·rw[ay (by simpa using d)] at kk;exact kk c S
 ·have d: ¬ a>=1048576:=by simpa using d
  rw[au d] at kk;rw[abw ⟨l,by omega⟩,abx l];refine⟨rfl,rfl,aj.of _ (S.fD (X:=X) (A:=A) (g:=h.g) k (n:=0) rfl) ⟨_,Jk S k o v,?_,?_⟩⟩
  ·exact S.walk _ _ _ λc S=>S.al λb p S=>S.fa 0 rfl rfl rfl λq S=>⟨rfl,S.cg 0 rfl rfl ⟨rfl,S.cg 0 rfl rfl (S.en λe S=>kk e S.tail)⟩⟩
  ·exact S.al λb p S=>S.walk _ _ _ λc S=>S.fa 0 rfl rfl rfl λq S=>⟨rfl,S.cg 0 rfl rfl ⟨rfl,S.cg 0 rfl rfl (S.en λe S=>kk e S.tail)⟩⟩
theorem VU (H:iB Q X D G w0 w h L) (v k:Int) {a:Int} (b c:Int) (i:0<=a) (kk: ∀e,iB Q X D G w0 e h L->K ((IC h v a).1,(IC h v a).2,()) e):
 aD AC 127 (.el (.agg iv)) [ag (ae X.hb),aa v,.agg ⟨fR k a b c⟩] w K:=by
 obtain⟨A,W,H⟩:=H;obtain⟨m,S,J⟩:=H.call;refine aP (C:=V0) (aQ:=λ_=>[]) (B1 (Ma _ v k a b c w K) ?_);refine S.al λo e S=>S.al λp q S=>⟨rfl,S.cg 1 rfl rfl (Ew (h:=h) (A:=A) S rfl (by simp) (bV W [_, _]) v i 1 λr S=>?_)⟩;unfold IC at kk;refine ab (λd=>⟨trivial,S.res (j:=0) rfl 0 _ λf S=>?_⟩) (λd=>?_)
 ·rw[ay (by simpa using d)] at kk;exact kk f ⟨A,W,J S.tail.tail⟩
 ·rw[au (by simpa using d)] at kk;exact⟨rfl,rfl,aj.of _ (S.fD (X:=X) (A:=A) (g:=h.g) (by simp) (n:=0) rfl) (S.load _ λf S=>S.res (j:=0) rfl _ _ λl S=>kk l ⟨A,W,J S.tail.tail⟩)⟩
theorem R9 (H:iB Q X D G w0 w h L) (v k:Int) {a b:Int} (c:Int) (i:0<=a) (hb:0<=b/\b<18446744073709551616) (kk: ∀e,iB Q X D G w0 e (jZ h v a b) L->K (0,rO h v a,()) e):
 aD AC 128 (.el (.agg iv)) [ag (ae X.hb),aa v,.agg ⟨fR k a b c⟩] w K:=by
 obtain⟨A,W,H⟩:=H;obtain⟨m,S,J⟩:=H.call;refine aP (C:=V0) (aQ:=λ_=>[]) (B1 (Hu _ v k a b c w K) ?_);refine S.al λo e S=>S.al λp q S=>⟨rfl,S.cg 1 rfl rfl (Ew (h:=h) (A:=A) S rfl (by simp) (bV W [_, _]) v i 2 λr S=>?_)⟩;unfold jZ rO at kk;refine ab (λd=>⟨trivial,S.res (j:=0) rfl 0 _ λf S=>?_⟩) (λd=>?_)
 ·rw[ay (by simpa using d),ay (by simpa using d)] at kk;exact kk f ⟨A,W,J S.tail.tail⟩
 ·rw[au (by simpa using d),au (by simpa using d)] at kk;exact⟨rfl,rfl,aj.of _ (S.fD (X:=X) (A:=A) (g:=h.g) (by simp) (n:=0) rfl) ⟨rfl,S.cg 1 rfl rfl (S.store _ b hb λf S=>⟨trivial,S.res (j:=0) rfl 0 _ λl S=>kk l ⟨A,⟨W.iM,W.mp,W.gl,W.pt,W.gk⟩,J S.tail.tail⟩⟩)⟩⟩
theorem R_ (H:iB Q X D G w0 w h L) (v k a b c:Int) (kk: ∀e,iB Q X D G w0 e (bq h (dI h.s h.s.2.length).1) L->K (((dI h.s h.s.2.length).2:Int),0,()) e):
 aD AC 123 (.el (.agg iv)) [ag (ae X.hb),aa v,.agg ⟨fR k a b c⟩] w K:=by
 obtain⟨A,W,H⟩:=H;obtain⟨r,S,J⟩:=H.call;refine aP (C:=V0) (aQ:=pK) (B1 (Ht _ v k a b c w K) ?_);have N:=S.le;refine S.al λt e S=>S.al λz O S=>⟨rfl,rfl,aj.of _ (S.fD (X:=X) (A:=A) (g:=h.g) (by simp) (n:=1) rfl) ⟨_,S.YM,?_⟩⟩;refine⟨λn u w'=> ∃m:Nat,u.1=((dI h.s m).2:Int)/\u.2.1=(m:Int)/\n+m=h.s.2.length/\bh Q [] r w w' (dI h.s m).1 ((z,[ax 0,aa 0])::(t,fR k a b c)::dL Q X A h (a6 Q A h.g (Ag 17)++L)),⟨h.s.2.length,λB E=>⟨0,rfl,rfl,rfl,S.ext E⟩⟩,?_⟩;clear S;rintro n ⟨x,y,u⟩ B ⟨m,l,o,P,S⟩;dsimp only at l o ⊢;subst l;subst o;have hc:=Bm h.s m;refine ab (λf=>?_) (λf=>?_)
 ·have p:m<h.s.2.length:=by simpa using f
  refine yZ S (X:=X) (A:=A) (g:=h.g) (by simp) (m:Int) λq S=>?_;have F:aI .i64 (m:Int) 1=((m+1:Nat):Int):=by rw[aw (by omega) (by omega)];omega
  have I:aI .i64 ((dI h.s m).2:Int) 1=(((dI h.s m).2+1:Nat):Int):=by rw[aw (by omega) (by omega)];omega
  rw[F,I];refine ab (λd=>λM i=>⟨n - 1,by omega,m+1,?_,rfl,by omega,S.ext i⟩) (λd=>λM i=>⟨n - 1,by omega,m+1,?_,rfl,by omega,S.ext i⟩)
  ·have d:iR (dI h.s m).1 (m:Int)=0:=by simpa using d
   show _=(((dI h.s m).2+if iR (dI h.s m).1 (m:Int)=0 then 1 else 0:Nat):Int);rw[ay d]
  ·have d: ¬ iR (dI h.s m).1 (m:Int)=0:=by simpa using d
   show _=(((dI h.s m).2+if iR (dI h.s m).1 (m:Int)=0 then 1 else 0:Nat):Int);rw[au d];rfl
 ·have p:m=h.s.2.length:=by
   have: ¬ m<h.s.2.length:=by simpa using f
   omega
  subst p;rw[ee (by omega)];exact S.res (j:=0) rfl _ 0 λq S=>kk q ⟨A,⟨W.iM,W.mp,W.gl,W.pt,W.gk⟩,J S.tail.tail⟩
end
theorem b_ {g:Nat->Option GV} {v:Int} (a:aU g v=true): ∃x,g v.toNat=some x/\aZ g v=x.root/\((v.toNat:Nat):Int)=v/\1<=v/\v<=16:=by
 obtain⟨hv,x,b⟩:=cm.1 a;refine⟨x,b,?_,by omega,hv.1,hv.2⟩;unfold aZ;rw[ay a,b]
theorem bh.sZ {Q:Sys} {X:HX} {D G:List Nat} {w0 w:A2} {s:WD} {L0:List (Nat×List AI)} {A:Nat->GA} {g:Nat->Option GV} (S:bh Q D G w0 w s L0) (d:(X.hb,e9 Q X A g)∈L0) (b: ∀i v,g i=some v-> ∀x∈gO Q A i v,x∈L0) {v:Int} (e:aU g v=true):
 cC w (ad (ad (ae X.hb) 4) (v.toNat*1)) (.one .ptr) (some ⟨(A v.toNat).bg,0,none⟩)/\cC w (ad (some ⟨(A v.toNat).bg,0,none⟩) 0) (.one .ptr) (some ⟨(A v.toNat).bt,0,none⟩)/\cC w (ad (some ⟨(A v.toNat).bg,0,none⟩) 1) (.one .map) (some (A v.toNat).bm)/\
  ∃j:Nat,L0[j]? =some ((A v.toNat).bt,oF Q v (aZ g v) false):=by
 obtain⟨x,a,f,hv,h1,h⟩:=b_ e;have hc:=S.oU d (v:=v) ⟨by omega,h⟩;have k:kK A g v.toNat=some ⟨(A v.toNat).bg,0,none⟩:=by unfold kK;rw[a]
 rw[k] at hc;obtain⟨j1,c⟩:=BJ (b _ _ a _ B3);obtain⟨l,m⟩:=BJ (b _ _ a _ (B4 _ B3));refine⟨hc,?_,?_,l,?_⟩
 ·rw[aV];exact dR (S.get c) rfl
 ·rw[aV];exact dR (S.get c) rfl
 ·rw[f, <-hv];exact m
def oW (h:HS) (v a b:Int):Int:=
 if a>=65536 then 2 else if b<1\/b>7 then 7 else if gZ h v a=true/\wP .u64 b 2>0/\(wT h.gr (fX h.g v a).1).2.2.2.1=false then 7 else FW h.s v (aZ h.g v) false a b
def jP (h:HS) (v a b:Int):HS:=
 if a>=65536 then h else if b<1\/b>7 then h else if gZ h v a=true/\wP .u64 b 2>0/\(wT h.gr (fX h.g v a).1).2.2.2.1=false then h else bq h (rC h.s v (aZ h.g v) false a b)
section
variable {Q:Sys} {X:HX} {D G:List Nat} {w0 w:A2} {h:HS} {L:List (Nat×List AI)} {K:RS->A2->Prop}
theorem Hz (H:iB Q X D G w0 w h L) {v:Int} (m:aU h.g v=true) (k:Int) {a b:Int} (c:Int) (E:0<=a) (hb:0<=b) (kk: ∀f,iB Q X D G w0 f (jP h v a b) L->K (0,oW h v a b,()) f):
 aD AC 126 (.el (.agg iv)) [ag (ae X.hb),aa v,.agg ⟨fR k a b c⟩] w K:=by
 obtain⟨A,W,H⟩:=H;obtain⟨F,S,J⟩:=H.call;obtain⟨x,o,O,hv,P,R⟩:=b_ m;refine aP (C:=V0) (aQ:=λ_=>[]) (B1 (CU _ v k a b c w K) ?_);refine S.al λI f S=>S.al λt U S=>⟨rfl,S.cg 1 rfl rfl ?_⟩;unfold oW jP at kk;refine ab (λd=>⟨trivial,S.res (j:=0) rfl 0 _ λp S=>?_⟩) (λd=>⟨rfl,S.cg 1 rfl rfl ⟨λ_=>rfl,S.cg 1 rfl rfl ?_⟩⟩)
 ·rw[ay (by simpa using d),ay (by simpa using d)] at kk;exact kk p ⟨A,W,J S.tail.tail⟩
 have d: ¬ a>=65536:=by simpa using d
 rw[au d,au d] at kk;refine ab (λd=>⟨trivial,S.res (j:=0) rfl 0 _ λp S=>?_⟩) (λd2=>?_)
 ·have d:b<1\/b>7:=by simpa using d
  rw[ay d,ay d] at kk;exact kk p ⟨A,W,J S.tail.tail⟩
 have d2: ¬ (b<1\/b>7):=by
  intro e;have:(decide (b<1)||decide (b>7))=true:=by simpa using e
  rw[this] at d2;cases d2
 rw[au d2,au d2] at kk;have u:aG .i64 a=a:=bK ⟨E,by omega⟩;have eb:aG .i64 b=b:=bK ⟨hb,by omega⟩;have fin: ∀{r:A2} {T:List (Nat×List AI)} {q:Nat},bh Q [] F w r h.s (T++((t,[ax 0,aa 0])::(I,fR k a b c)::dL Q X A h (a6 Q A h.g (Ag 17)++L)))->T.length=q->(¬ (gZ h v a=true/\wP .u64 b 2>0/\(wT h.gr (fX h.g v a).1).2.2.2.1=false))->
  az AC 177 (.el (.one (.int .i64))) [ag (some ⟨(A v.toNat).bt,0,none⟩),aa a,aa b] r λ(x:Int) (f:A2)=>True/\aA f (ae t) [ax 0,aa x] λ(f:A2)=>ao f λ(w1:A2)=>aj w1 none (ae t) (.agg iv) λ(x:Int×Int×Unit)=>K (x.1,x.2.1,()) w1:=by
  intro r T q S V z;rw[au z,au z] at kk;obtain⟨_, _, _,j,M⟩:=S.sZ (X:=X) (A:=A) (g:=h.g) (by simp) (λi v hv x o=>B2 T (bV W [_, _] i v hv x o)) m;refine S.te j M a b λB S=>⟨trivial,S.res (j:=T.length) (by rw[GD (FS _),Nat.sub_self];rfl) 0 _ λN S=>kk N ⟨A,⟨W.iM,W.mp,W.gl,W.pt,W.gk⟩,J ?_⟩⟩;rw[Hr _ _ (FS _),Nat.sub_self] at S;have S:=S.sub (GF T _);exact S.tail.tail
 refine⟨rfl,S.cg 1 rfl rfl ⟨fX h.g v a,by rw[u];exact py (J S) (X:=X) (A:=A) (g:=h.g) (by simp) (bV W [_, _]) (fA W) (λi x o=>W.mp o) v a,λ_=>rfl,S.cg 1 rfl rfl (ab (λd3=>?_) (λd3=>?_))⟩⟩
 ·have d3:gZ h v a=true/\wP .u64 b 2>0:=by
   have:=d3;rw[Fm,decide_eq_true_eq] at this;exact this
  refine⟨rfl,rfl,aj.of _ (S.fD (X:=X) (A:=A) (g:=h.g) (by simp) (n:=2) rfl) ⟨(wT h.gr (fX h.g v a).1,(lV h.gr (fX h.g v a).1).isSome,()),S.aax 3 4 rfl rfl (by rw[W.gl];decide) _,S.al λY p S=>S.fa 0 rfl rfl rfl λr S=>⟨rfl,S.cg 0 rfl rfl (ab (λd4=>⟨trivial,S.res (j:=1) rfl 0 _ λB S=>?_⟩) (λd4=>?_))⟩⟩⟩
  ·have d4:(wT h.gr (fX h.g v a).1).2.2.2.1=false:=by simpa using d4
   rw[ay ⟨d3.1,d3.2,d4⟩,ay ⟨d3.1,d3.2,d4⟩] at kk;exact kk B ⟨A,W,J S.tail.tail.tail⟩
  ·have d4:(wT h.gr (fX h.g v a).1).2.2.2.1=true:=by simpa using d4
   obtain⟨g1,y, _, _⟩:=S.sZ (X:=X) (A:=A) (g:=h.g) (by simp) (bV W [_, _, _]) m;exact⟨rfl,rfl,⟨rfl,by omega,by show v<((17:Nat):Int);omega⟩,aj.of _ g1 ⟨rfl,rfl,aj.of _ y ⟨rfl,S.cg 2 rfl rfl ⟨rfl,S.cg 2 rfl rfl (by
    rw[u,eb];exact fin (T:=[_]) S rfl (λl=>by rw[d4] at l;cases l.2.2))⟩⟩⟩⟩
 ·have d3: ¬ (gZ h v a=true/\wP .u64 b 2>0):=by
   intro e;have:((fX h.g v a).2.1&&decide (wP .u64 b 2>0))=true:=by rw[Fm,decide_eq_true_eq];exact e
   rw[this] at d3;cases d3
  obtain⟨g1,y, _, _⟩:=S.sZ (X:=X) (A:=A) (g:=h.g) (by simp) (bV W [_, _]) m;exact⟨rfl,rfl,⟨rfl,by omega,by show v<((17:Nat):Int);omega⟩,aj.of _ g1 ⟨rfl,rfl,aj.of _ y ⟨rfl,S.cg 1 rfl rfl ⟨rfl,S.cg 1 rfl rfl (by
   rw[u,eb];exact fin (T:=[]) S rfl (λl=>d3 ⟨l.1,l.2.1⟩))⟩⟩⟩⟩
end
theorem Mv (s:WD) (r:Int) (gone:Bool) (p:Int):0<=(bA s r gone p).1/\(bA s r gone p).1<5000:=by
 have z:(0:Int)<=0/\(0:Int)<5000:=by decide
 unfold bA;split
 ·exact z
 ·split
  ·exact z
  ·split
   ·have h:=I_ (B (dE s.1 (dw s.1 r p).2.2.1)).toNat;have h:0<=(cY s.1 r p).2.2.2.1/\(cY s.1 r p).2.2.2.1<4096:=h;show 0<=qt p (dw s.1 r p) (cY s.1 r p)/\qt p (dw s.1 r p) (cY s.1 r p)<5000;unfold qt;split<;>omega
   ·exact z
theorem Ex (g:Nat->Option GV) (s:WD) (v p:Int):0<=(fQ g s v p).1/\(fQ g s v p).1<5000:=by
 have z:(0:Int)<=0/\(0:Int)<5000:=by decide
 unfold fQ;split
 ·split
  ·exact Mv _ _ _ _
  ·exact z
 ·exact z
def wZ (h:HS) (v a:Int):Int:=
 if a>=65536 then 2 else if(fQ h.g h.s v a).2.2.1≠0 then(fQ h.g h.s v a).2.2.1 else if gZ h v a=true then 7 else if(oE h.s.2 (fQ h.g h.s v a).1).2.2.1>0 then 9 else 0
def BZ (h:HS) (v a:Int):Int×Int:=if wZ h v a=0 then((fQ h.g h.s v a).1,0) else(0,wZ h v a)
def qx (h:HS) (v a:Int):HS:=if wZ h v a=0 then bq h ((nf h.s v (aZ h.g v) false a).1,dF (nf h.s v (aZ h.g v) false a).2 (fQ h.g h.s v a).1 (aO 5 v)) else h
section
variable {Q:Sys} {X:HX} {D G:List Nat} {w0 w:A2} {h:HS} {L:List (Nat×List AI)} {K:RS->A2->Prop}
theorem HA (H:iB Q X D G w0 w h L) {v:Int} (q:aU h.g v=true) (u:Dh Q h.s) (y:0<=aZ h.g v/\aZ h.g v<4096) (k:Int) {a:Int} (b c:Int) (z:0<=a) (kk: ∀f,iB Q X D G w0 f (qx h v a) L->K ((BZ h v a).1,(BZ h v a).2,()) f):
 aD AC 125 (.el (.agg iv)) [ag (ae X.hb),aa v,.agg ⟨fR k a b c⟩] w K:=by
 obtain⟨A,W,H⟩:=H;obtain⟨N,S,J⟩:=H.call;obtain⟨x,r,O,hv,P,R⟩:=b_ q;refine aP (C:=V0) (aQ:=λ_=>[]) (B1 (CS _ v k a b c w K) ?_);have l:wZ h v a≠0-> ∀{f},iB Q X D G w0 f h L->K (0,wZ h v a,()) f:=λt f H=>by
  have m:BZ h v a=(0,wZ h v a):=au t;have o:qx h v a=h:=au t;rw[m,o] at kk;exact kk f H
 have e:wZ h v a=if a>=65536 then 2 else if(fQ h.g h.s v a).2.2.1≠0 then(fQ h.g h.s v a).2.2.1 else if gZ h v a=true then 7 else if(oE h.s.2 (fQ h.g h.s v a).1).2.2.1>0 then 9 else 0:=rfl;refine S.al λT f S=>S.al λU V S=>⟨rfl,S.cg 1 rfl rfl ?_⟩;refine ab (λd=>⟨trivial,S.res (j:=0) rfl 0 _ λB S=>?_⟩) (λd=>⟨rfl,S.cg 1 rfl rfl ?_⟩)
 ·rw[ay (by simpa using d)] at e;rw[e] at l;exact l (by decide) ⟨A,W,J S.tail.tail⟩
 have d: ¬ a>=65536:=by simpa using d
 rw[au d] at e;have E:aG .i64 a=a:=bK ⟨z,by omega⟩;rw[E];refine va S (X:=X) (A:=A) (g:=h.g) (by simp) (bV W [_, _]) v a λB S=>?_;have Y:=Ex h.g h.s v a;refine ab (λd=>⟨trivial,S.res (j:=0) rfl 0 _ λp S=>?_⟩) (λd2=>?_)
 ·have d:(fQ h.g h.s v a).2.2.1≠0:=by simpa using d
  rw[ay d] at e;rw[e] at l;exact l d ⟨A,W,J S.tail.tail⟩
 rw[au (by simpa using d2)] at e;refine⟨fX h.g v a,py (J S) (X:=X) (A:=A) (g:=h.g) (by simp) (bV W [_, _]) (fA W) (λi x r=>W.mp r) v a,?_⟩;refine ab (λd=>⟨trivial,S.res (j:=0) rfl 0 _ λp S=>?_⟩) (λd3=>?_)
 ·rw[ay (show gZ h v a=true from d)] at e;rw[e] at l;exact l (by decide) ⟨A,W,J S.tail.tail⟩
 rw[au (show ¬ gZ h v a=true by unfold gZ;rw[d3];decide)] at e;refine⟨rfl,rfl,aj.of _ (S.fD (X:=X) (A:=A) (g:=h.g) (by simp) (n:=1) rfl) ⟨(oE h.s.2 (fQ h.g h.s v a).1,As h.s.2 (fQ h.g h.s v a).1,()),S.ofq _,S.al λZ p S=>S.fa 0 rfl rfl rfl λw6 S=>⟨rfl,S.cg 0 rfl rfl ?_⟩⟩⟩;refine ab (λd=>⟨trivial,S.res (j:=1) rfl 0 _ λp S=>?_⟩) (λd4=>?_)
 ·rw[ay (by simpa using d)] at e;rw[e] at l;exact l (by decide) ⟨A,W,J S.tail.tail.tail⟩
 rw[au (by simpa using d4)] at e;have m:BZ h v a=((fQ h.g h.s v a).1,0):=ay e;have o:qx h v a=bq h _:=ay e;rw[m,o] at kk;obtain⟨g1,F, _,j,I⟩:=S.sZ (X:=X) (A:=A) (g:=h.g) (by simp) (bV W [_, _, _]) q;refine⟨rfl,rfl,⟨rfl,by omega,by show v<((17:Nat):Int);omega⟩,aj.of _ g1 ⟨rfl,rfl,aj.of _ F (S.DO u j I y a λw7 S=>⟨rfl,rfl,aj.of _ (S.fD (X:=X) (A:=A) (g:=h.g) (by simp) (n:=1) rfl) (S.T8 _ 5 v λw8 S=>?_)⟩)⟩⟩;rw[ee (by omega)];exact S.res (j:=1) rfl _ 0 λM S=>kk M ⟨A,⟨W.iM,W.mp,W.gl,W.pt,W.gk⟩,J S.tail.tail.tail⟩
end
theorem HD {ds:List DT} (b:ds.length<=4096) (y o:Int):0<=e_ ds y o/\e_ ds y o<4096:=by
 have z:(0:Int)<=0/\(0:Int)<4096:=by decide
 unfold e_;split
 ·exact z
 ·rename_i n a;unfold iC at a;rw[JR] at a;obtain⟨h1, _⟩:=a;split
  ·exact⟨by omega,by omega⟩
  ·exact z
def kL (h:HS) (v:Int):WD:=(h.s.1,dy h.s.2 4 v)
def ji (h:HS) (v:Int):Int:=e_ h.s.2 4 v
def qy (h:HS) (v a b:Int):WD:=jt (kL h v) v (aZ h.g v) false a (ji h v) b
def qz (h:HS) (v a b:Int):Int:=
 if a>=65536 then 2 else if b<1\/b>7 then 7 else if dO h.s.2 4 v≠0 then dO h.s.2 4 v else lQ (kL h v) (aZ h.g v) false a (ji h v) b
def xW (h:HS) (v a b:Int):Int×Int:=if qz h v a b=0 then(ji h v,0) else(0,qz h v a b)
def jK (h:HS) (v a b:Int):HS:=
 if a>=65536 then h else if b<1\/b>7 then h else if dO h.s.2 4 v≠0 then bq h (kL h v)
 else if lQ (kL h v) (aZ h.g v) false a (ji h v) b≠0 then bq h ((qy h v a b).1,dF (qy h v a b).2 (ji h v) (aO 0 0))
 else bq h (eT (qy h v a b).1 (ji h v) (λ_=>0) 16,(qy h v a b).2)
section
variable {Q:Sys} {X:HX} {D G:List Nat} {w0 w:A2} {h:HS} {L:List (Nat×List AI)} {K:RS->A2->Prop}
theorem Mw (H:iB Q X D G w0 w h L) {v:Int} (B:aU h.g v=true) (k:Int) {a b:Int} (c:Int) (V:0<=a) (hb:0<=b) (kk: ∀l,iB Q X D G w0 l (jK h v a b) L->K ((xW h v a b).1,(xW h v a b).2,()) l):
 aD AC 124 (.el (.agg iv)) [ag (ae X.hb),aa v,.agg ⟨fR k a b c⟩] w K:=by
 obtain⟨A,W,H⟩:=H;obtain⟨E,S,J⟩:=H.call;obtain⟨x,hx,uG,hv,wJ,sN⟩:=b_ B;refine aP (C:=V0) (aQ:=n_) (B1 (E_ _ v k a b c w K) ?_);have I:=HD S.le 4 v;have wf: ∀s',C6 A (bq h s'):=λs'=>⟨W.iM,W.mp,W.gl,W.pt,W.gk⟩;have p: ∀e,e≠0->qz h v a b=e->xW h v a b=(0,e):=λe Y h1=>by
  unfold xW;rw[au (by rw[h1];exact Y),h1]
 refine S.al λM l S=>S.al λN w3 S=>⟨rfl,S.cg 1 rfl rfl ?_⟩;refine ab (λd=>⟨trivial,S.res (j:=0) rfl 0 _ λq S=>?_⟩) (λd=>⟨rfl,S.cg 1 rfl rfl ⟨λ_=>rfl,S.cg 1 rfl rfl ?_⟩⟩)
 ·have d:a>=65536:=by simpa using d
  have f:jK h v a b=h:=ay d;rw[p 2 (by decide) (ay d),f] at kk;exact kk q ⟨A,W,J S.tail.tail⟩
 have d: ¬ a>=65536:=by simpa using d
 have Z:aG .i64 a=a:=bK ⟨V,by omega⟩;refine ab (λd2=>⟨trivial,S.res (j:=0) rfl 0 _ λq S=>?_⟩) (λd2=>⟨rfl,rfl,?_⟩)
 ·have d2:b<1\/b>7:=by simpa using d2
  have o:qz h v a b=7:=by unfold qz;rw[au d,ay d2]
  have f:jK h v a b=h:=by unfold jK;rw[au d,ay d2]
  rw[p 7 (by decide) o,f] at kk;exact kk q ⟨A,W,J S.tail.tail⟩
 have d2: ¬ (b<1\/b>7):=by
  intro e;have:(decide (b<1)||decide (b>7))=true:=by simpa using e
  rw[this] at d2;cases d2
 have eb:aG .i64 b=b:=bK ⟨hb,by omega⟩;refine aj.of _ (S.fD (X:=X) (A:=A) (g:=h.g) (by simp) (n:=1) rfl) (S.take 4 v λq S=>?_);refine ab (λd3=>⟨trivial,S.res (j:=0) rfl 0 _ λy S=>?_⟩) (λd3=>?_)
 ·have d3:dO h.s.2 4 v≠0:=by simpa using d3
  have o:qz h v a b=dO h.s.2 4 v:=by unfold qz;rw[au d,au d2,ay d3]
  have f:jK h v a b=bq h (kL h v):=by unfold jK;rw[au d,au d2,ay d3]
  rw[p _ d3 o,f] at kk;exact kk y ⟨A,wf _,J S.tail.tail⟩
 have d3: ¬ dO h.s.2 4 v≠0:=by
  intro e;have:(dO h.s.2 4 v != 0)=true:=by simpa using e
  rw[this] at d3;cases d3
 obtain⟨g1,O, _,j,P⟩:=S.sZ (X:=X) (A:=A) (g:=h.g) (by simp) (bV W [_, _]) B;refine⟨rfl,rfl,⟨rfl,by omega,by show v<((17:Nat):Int);omega⟩,aj.of _ g1 ⟨rfl,rfl,aj.of _ O ⟨rfl,S.cg 1 rfl rfl ⟨rfl,S.cg 1 rfl rfl ?_⟩⟩⟩⟩;rw[Z,eb];refine S.map j P a (ji h v) b λy S=>?_;have S:bh Q [] E w y (qy h v a b) ((N,[ax 0,aa 0])::(M,fR k a b c)::dL Q X A h (a6 Q A h.g (Ag 17)++L)):=S;have R:qz h v a b=lQ (kL h v) (aZ h.g v) false a (ji h v) b:=by unfold qz;rw[au d,au d2,au d3]
 refine ab (λd4=>⟨rfl,rfl,?_⟩) (λd4=>?_)
 ·have d4: ¬ lQ (h.s.1,dy h.s.2 4 v) (aZ h.g v) false a (ji h v) b=0:=by simpa using d4
  have d4:lQ (kL h v) (aZ h.g v) false a (ji h v) b≠0:=d4;have f:jK h v a b=bq h ((qy h v a b).1,dF (qy h v a b).2 (ji h v) (aO 0 0)):=by unfold jK;rw[au d,au d2,au d3,ay d4]
  rw[p _ d4 R,f] at kk;exact aj.of _ (S.fD (X:=X) (A:=A) (g:=h.g) (by simp) (n:=1) rfl) (S.FZ (ji h v) λT S=>⟨trivial,S.res (j:=0) rfl 0 _ λr S=>kk r ⟨A,wf _,J S.tail.tail⟩⟩)
 have d4: ¬ lQ (kL h v) (aZ h.g v) false a (ji h v) b≠0:=by
  intro e;have:(lQ (kL h v) (aZ h.g v) false a (ji h v) b != 0)=true:=by simpa using e
  exact absurd (this.symm.trans d4) (by decide)
 have o:xW h v a b=(ji h v,0):=by
  unfold xW;rw[R,ay (by omega)]
 have f:jK h v a b=bq h (eT (qy h v a b).1 (ji h v) (λ_=>0) 16,(qy h v a b).2):=by unfold jK;rw[au d,au d2,au d3,au d4]
 rw[o,f] at kk;have I:0<=ji h v/\ji h v<4096:=I;obtain⟨F,t⟩: ∃F:Nat->List Int,F=λi=>eT (qy h v a b).1 (ji h v) (λ_=>0) i:=⟨_,rfl⟩;have F0:F 0=(qy h v a b).1:=by rw[t];rfl
 have Fs: ∀i,F (i+1)=dJ (F i) (16*ji h v+(i:Int)) 0:=λi=>by rw[t];rfl
 have kk: ∀l,iB Q X D G w0 l (bq h (F 16,(qy h v a b).2)) L->K (ji h v,0,()) l:=by rw[t];exact kk
 clear t;refine⟨λn u w'=> ∃m:Nat,u.1=(m:Int)/\n+m=16/\bh Q [] E w w' (F m,(qy h v a b).2) ((N,[ax 0,aa 0])::(M,fR k a b c)::dL Q X A h (a6 Q A h.g (Ag 17)++L)),⟨16,λT h6=>⟨0,rfl,rfl,by rw[F0];exact S.ext h6⟩⟩,?_⟩;clear S g1 O P;rintro n ⟨u,u2⟩ T ⟨m,e,hn,S⟩;dsimp only at e ⊢;subst e;have efr:(e_ h.s.2 4 v)=ji h v:=rfl;rw[efr];refine ab (λz=>?_) (λz=>?_)
 ·have U:m<16:=by
   have:(m:Int)<16:=by simpa using z
   omega
  have e5:aI .i64 (gq .i64 16 (ji h v)) (m:Int)=16*ji h v+(m:Int):=by rw[d_ (by omega) (by omega),aw (by omega) (by omega)]
  rw[e5];refine⟨rfl,rfl,aj.of _ (S.fD (X:=X) (A:=A) (g:=h.g) (by simp) (n:=0) rfl) (S.store _ 0 (by decide) λr S=>λw8 h8=>⟨n - 1,by omega,m+1,by rw[aw (by omega) (by omega)];omega,by omega,?_⟩)⟩;rw[Fs];exact S.ext h8
 ·have U:m=16:=by
   have: ¬ (m:Int)<16:=by simpa using z
   omega
  subst U;rw[ee (by omega)];exact S.res (j:=0) rfl _ 0 λr S=>kk r ⟨A,wf _,J S.tail.tail⟩
end
def dt (h:HS) (v p id f:Int):HS where
 s:=((nf h.s v (aZ h.g v) false p).1,dF (nf h.s v (aZ h.g v) false p).2 f (gX (-1)))
 g:=bj h.g v.toNat (match h.g v.toNat with|some x=>some {x with tk:=x.tk.filter λt=> !(t.1==p)}|none=>none)
 gr:=eA h.gr id v
 po:=h.po
theorem qg (gs:List GT) (i o:Int):(eA gs i o).length=gs.length:=by
 unfold eA;split
 ·rw[Dx]
 ·rfl
theorem Pu {α:Type} {T L:List α} {k:Nat} {x:α} (h:L[k]? =some x):(T++L)[T.length+k]? =some x:=by
 rw[GD (by omega),show T.length+k - T.length=k by omega];exact h
section
variable {Q:Sys} {X:HX} {D G:List Nat} {w0 w:A2} {h:HS} {L:List (Nat×List AI)}
theorem Ey {A:Nat->GA} (W:C6 A h) {T:List (Nat×List AI)} (H:SM Q D G w0 w h.s (T++dL Q X A h (a6 Q A h.g (Ag 17)++L)) (cK A h.g (Ag 17))) {v p id f:Int} (o:aU h.g v=true) (U:Dh Q h.s) (V:0<=aZ h.g v/\aZ h.g v<4096)
 {x:GV} (l:h.g v.toNat=some x) (Y:bZ x.tk p=some (id,f)) {K:Unit->A2->Prop} (kk: ∀A' y,(∀i,(A' i).bg=(A i).bg)->C6 A' (dt h v p id f)->SM Q D G w0 y (dt h v p id f).s (T++dL Q X A' (dt h v p id f) (a6 Q A' (dt h v p id f).g (Ag 17)++L)) (cK A' (dt h v p id f).g (Ag 17))->K () y):
 az AC 167 (.bu []) [ag (ae X.hb),aa v,aa p] w K:=by
 obtain⟨x',I,uG,hv,wJ,sN⟩:=b_ o;rw[l] at I;cases I;refine H.go λw1 H=>ai (C:=V0) (aQ:=uk) (B1 (RP _ v p w1 K) ?_);obtain⟨G',S,J⟩:=H.call;have mem: ∀{T':List (Nat×List AI)},(X.hb,e9 Q X A h.g)∈T'++(T++dL Q X A h (a6 Q A h.g (Ag 17)++L)):=λ{T'}=>B2 _ (B2 _ B3);have z: ∀{T':List (Nat×List AI)}, ∀i v,h.g i=some v-> ∀x∈gO Q A i v,x∈T'++(T++dL Q X A h (a6 Q A h.g (Ag 17)++L)):=λ{T'} i v hv x l=>B2 _ (bV W T i v hv x l);obtain⟨g1,M,B, _⟩:=S.sZ (X:=X) (A:=A) (g:=h.g) (mem (T':=[])) (z (T':=[])) o;obtain⟨r,N,O⟩:=(W.mp l).find p;rw[Y] at O;obtain⟨i,e,hi,Z⟩:=O;have E:bD w1 (A v.toNat).bm ⟨(A v.toNat).es⟩ (A v.toNat).ck:=H.get (fA W _ _ l);refine⟨rfl,rfl,⟨rfl,by omega,by show v<((17:Nat):Int);omega⟩,aj.of _ g1 ⟨rfl,rfl,aj.of _ B ⟨(id,f,()),⟨_, _, _,rfl,E,?_⟩,S.al λb y S=>S.fa 0 rfl rfl rfl λw3 S=>⟨rfl,rfl,?_⟩⟩⟩⟩
 ·rw[N,e]
 obtain⟨_, _,B, _⟩:=S.sZ (X:=X) (A:=A) (g:=h.g) (mem (T':=[_])) (z (T':=[_])) o;refine aj.of _ B λw4 h4=>?_;have H:=(J S).ext h4;have E:bD w4 (A v.toNat).bm ⟨(A v.toNat).es⟩ (A v.toNat).ck:=H.get (fA W _ _ l);refine⟨_, _, _,rfl,E,?_⟩;unfold z9;rw[N,e];dsimp only;have hea:(O2 (⟨(A v.toNat).es⟩:Array BP) i)=⟨(A v.toNat).es.eraseIdx i⟩:=by
  apply Array.ext';rw[Array.toList_eraseIdxIfInBounds]
 rw[hea];have Kh:v.toNat<17:=by omega
 have H:=H.Pt Kh l ((A v.toNat).es.eraseIdx i) (A v.toNat).ck (x.tk.filter λt=> !(t.1==p));have q:=Jl (A:=A) l ((A v.toNat).es.eraseIdx i) (A v.toNat).ck (x.tk.filter λt=> !(t.1==p));obtain⟨A',P⟩: ∃A',A'=oy A v.toNat {A v.toNat with es:=(A v.toNat).es.eraseIdx i,ck:=(A v.toNat).ck}:=⟨_,rfl⟩;have F:bj h.g v.toNat (some {x with tk:=x.tk.filter λt=> !(t.1==p)})=(dt h v p id f).g:=by
  show _=bj h.g v.toNat (match h.g v.toNat with|some x=> _|none=>none);rw[l]
 have hmp: ∀{a m},(dt h v p id f).g a=some m->qw (A' a).es (A' a).ck m.tk:=λ{a m} d=>by
  rw[<-F] at d;rw[P];unfold bj at d;unfold oy;by_cases u:a=v.toNat
  ·rw[ay u] at d ⊢;cases d;exact Z
  ·rw[au u] at d ⊢;exact W.mp d
 have TO: ∀{a m},(dt h v p id f).g a=some m->1<=a/\a<=16:=λ{a m} d=>by
  rw[<-F] at d;unfold bj at d;by_cases u:a=v.toNat
  ·omega
  ·rw[au u] at d;exact W.iM d
 rw[<-P,F] at H q;obtain⟨G2,S,J2⟩:=H.call;obtain⟨_,M, _,j,hj⟩:=S.sZ (X:=X) (A:=A) (g:=h.g) (mem (T':=[_])) (z (T':=[_])) o;refine⟨rfl,rfl,aj.of _ M (S.DO U j hj V p λw5 S=>⟨rfl,rfl,aj.of _ (S.fD (X:=X) (A:=A) (g:=h.g) (mem (T':=[_])) (n:=1) rfl) ⟨rfl,S.cg 0 rfl rfl (S.aaw f (-1) (by decide) λw6 S=>⟨rfl,rfl,aj.of _ (S.fD (X:=X) (A:=A) (g:=h.g) (mem (T':=[_])) (n:=2) rfl) ⟨rfl,S.cg 0 rfl rfl ?_⟩⟩)⟩⟩)⟩;refine S.Xn (T.length+1+1) (T.length+2+1) (Pu (T:= _::T) (k:=1) rfl) (Pu (T:= _::T) (k:=2) rfl) (by rw[W.gl];decide) W.gk.use id v λw7 S=>S.en λR S=>kk A' R q.bg ⟨TO,hmp,(qg _ _ _).trans W.gl,W.pt,W.gk.back _ _⟩ (J2 ?_);have e1:dL Q X A' (dt h v p id f) (a6 Q A' (dt h v p id f).g (Ag 17)++L)=(dL Q X A h (a6 Q A h.g (Ag 17)++L)).set 2 (X.uz,flat eG (eA h.gr id v)++X.rest):=by
  show(X.hb,e9 Q X A' (dt h v p id f).g)::(X.gb,mA X.uz (eA h.gr id v).length X.c)::(X.uz,flat eG (eA h.gr id v)++X.rest)::(X.pb,Po.gJ 4 h.po)::(a6 Q A' (dt h v p id f).g (Ag 17)++L)= _;rw[q.cs,q.rows,qg];rfl
 have S:bh Q [] G2 _ R _ ((T++dL Q X A h (a6 Q A h.g (Ag 17)++L)).set (T.length+2) (X.uz,flat eG (eA h.gr id v)++X.rest)):=S.tail;rw[Hr _ _ (by omega),show T.length+2 - T.length=2 by omega, <-e1] at S;exact S
end
def NE (h:HS) (v p:Int):Int×Int:=match h.g v.toNat with
 |some x=>(bZ x.tk p).getD (0,0)
 |none=>(0,0)
def oX (h:HS) (v a:Int):Int:=if a>=65536 then 2 else if gZ h v a=true then 0 else 4
def gV (h:HS) (v a:Int):HS:=if a>=65536 then h else if gZ h v a=true then dt h v a (NE h v a).1 (NE h v a).2 else h
theorem tD {h:HS} {v p:Int} {x:GV} (a:aU h.g v=true) (b:h.g v.toNat=some x):gZ h v p=true<->bZ x.tk p=some (NE h v p):=by
 unfold gZ fX NE;rw[ay a,b];dsimp only;cases bZ x.tk p<;>simp
section
variable {Q:Sys} {X:HX} {D G:List Nat} {w0 w:A2} {h:HS} {L:List (Nat×List AI)} {K:RS->A2->Prop}
theorem VV (H:iB Q X D G w0 w h L) {v:Int} (l:aU h.g v=true) (o:Dh Q h.s) (p:0<=aZ h.g v/\aZ h.g v<4096) (k:Int) {a:Int} (b c:Int) (q:0<=a) (kk: ∀m,iB Q X D G w0 m (gV h v a) L->K (0,oX h v a,()) m):
 aD AC 131 (.el (.agg iv)) [ag (ae X.hb),aa v,.agg ⟨fR k a b c⟩] w K:=by
 obtain⟨A,W,H⟩:=H;obtain⟨y,S,J⟩:=H.call;obtain⟨x,e,z,hv,B,E⟩:=b_ l;refine aP (C:=V0) (aQ:=λ_=>[]) (B1 (Me _ v k a b c w K) ?_);unfold oX gV at kk;refine S.al λF m S=>S.al λI M S=>⟨rfl,S.cg 1 rfl rfl ?_⟩;refine ab (λd=>⟨trivial,S.res (j:=0) rfl 0 _ λf S=>?_⟩) (λd=>⟨rfl,S.cg 1 rfl rfl ?_⟩)
 ·rw[ay (by simpa using d),ay (by simpa using d)] at kk;exact kk f ⟨A,W,J S.tail.tail⟩
 have d: ¬ a>=65536:=by simpa using d
 rw[au d,au d] at kk;have n:aG .i64 a=a:=bK ⟨q,by omega⟩;rw[n];refine⟨fX h.g v a,py (J S) (X:=X) (A:=A) (g:=h.g) (by simp) (bV W [_, _]) (fA W) (λi x e=>W.mp e) v a,?_⟩;refine ab (λd2=>⟨trivial,S.res (j:=0) rfl 0 _ λf S=>?_⟩) (λd2=>⟨rfl,S.cg 1 rfl rfl ?_⟩)
 ·have d2: ¬ gZ h v a=true:=by
   unfold gZ;simpa using d2
  rw[au d2,au d2] at kk;exact kk f ⟨A,W,J S.tail.tail⟩
 ·have d2:gZ h v a=true:=by
   unfold gZ;simpa using d2
  rw[ay d2,ay d2] at kk;rw[n];refine Ey W (T:=[_, _]) (J S) l o p e ((tD l e).1 d2) λA' f _ r H=>?_;obtain⟨N,S,t⟩:=H.call;exact S.res (j:=0) rfl 0 0 λu S=>kk u ⟨A',r,t S.tail.tail⟩
end
def nh (t:TK):List TK->List TK
 |[]=>[t]
 |u::l=>if u.1<t.1 then u::nh t l else t::u::l
theorem m5 (t:TK): ∀l,(nh t l).Perm (t::l)
 |[]=>FQ _
 |u::l=>by
  rw[nh];split
  ·exact((m5 t l).cons u).trans (.swap _ _ _)
  ·exact FQ _
def lP (h:HS) (a:Int):GT:=wT h.gr a
def lJ (h:HS) (a:Int):Int×Int×Int×Unit:=fQ h.g h.s (lP h a).1 (lP h a).2.1
def wK (c:Int):Int:=if c=1 then 3 else 1
def ni (h:HS) (v a b c:Int):Int:=
 if b>=65536 then 2 else if a>=16\/c>1 then 1 else if(lV h.gr a).isSome=false then 4
 else if(lP h a).2.2.1≠v\/(c=1/\(lP h a).2.2.2.1=false) then 7 else if(lJ h a).2.2.1≠0 then 4 else if gZ h (lP h a).1 (lP h a).2.1=true then 7
 else if gU h.gr a v (c==1)≠0 then gU h.gr a v (c==1) else lQ h.s (aZ h.g v) false b (lJ h a).1 (wK c)
def ia (h:HS) (v a b c:Int):HS where
 s:=((jt h.s v (aZ h.g v) false b (lJ h a).1 (wK c)).1,dF (jt h.s v (aZ h.g v) false b (lJ h a).1 (wK c)).2 (lJ h a).1 (gX 1))
 g:=bj h.g v.toNat (match h.g v.toNat with|some x=>some {x with tk:=nh (b,a,(lJ h a).1) x.tk}|none=>none)
 gr:=dW h.gr a v (c==1)
 po:=h.po
def AG (h:HS) (v a b c:Int):HS:={h with s:=jt h.s v (aZ h.g v) false b (lJ h a).1 (wK c),gr:=eA (dW h.gr a v (c==1)) a v}
def my (h:HS) (v a b c:Int):Int:=
 if b>=65536 then 2 else if a>=16\/c>1 then 1 else if(lV h.gr a).isSome=false then 4
 else if(lP h a).2.2.1≠v\/(c=1/\(lP h a).2.2.2.1=false) then 7 else if(lJ h a).2.2.1≠0 then 4 else if gZ h (lP h a).1 (lP h a).2.1=true then 7 else gU h.gr a v (c==1)
def jl (h:HS) (v a b c:Int):HS:=if my h v a b c≠0 then h else if ni h v a b c=0 then ia h v a b c else AG h v a b c
theorem Mx (gs:List GT) (i g:Int) (b:Bool):(dW gs i g b).length=gs.length:=by
 unfold dW;split
 ·rw[Dx]
 ·rfl
section
variable {Q:Sys} {X:HX} {D G:List Nat} {w0 w:A2} {h:HS} {L:List (Nat×List AI)} {K:RS->A2->Prop}
theorem ZX {A:Nat->GA} (W:C6 A h) {v a b c:Int} {x:GV} (f:h.g v.toNat=some x) (hv:((v.toNat:Nat):Int)=v) (wJ:1<=v) (sN:v<=16) (t:bZ x.tk b=none) (F:(dW h.gr a v (c==1)).length=h.gr.length) {h1:HS} (I:h1=yk h (dW h.gr a v (c==1)))
 {J l M:Nat} {N u la:List AI} (O:u=[ax 0,aa 0]) {m:A2}
 (H:SM Q D G w0 m ((jt h.s v (aZ h.g v) false b (lJ h a).1 (wK c)).1,dF (jt h.s v (aZ h.g v) false b (lJ h a).1 (wK c)).2 (lJ h a).1 (gX 1)) ((J,N)::(l,u)::(M,la)::dL Q X A h1 (a6 Q A h.g (Ag 17)++L)) (cK A h.g (Ag 17)))
 (kk: ∀i,iB Q X D G w0 i (ia h v a b c) L->K (0,0,()) i):
 ∃r es w,some (A v.toNat).bm=some r/\bD m r es w/\gS m r .i64 b (.agg ⟨[aa a,aa (lJ h a).1]⟩) es w λi=>
  aA i (ae l) [ax 0,aa 0] λi=>ao i λw1=>aj w1 none (ae l) (.agg [.int .u64,.int .i64]) λx=>K (x.1,x.2.1,()) w1:=by
 subst O;have P:=H.get (fA W _ _ f);refine⟨_, _, _,rfl,P,?_⟩;obtain⟨r,y,z⟩:=(W.mp f).find b;rw[t] at z;rw[z] at y;unfold gS;have R:=y;rw[R];have T:(⟨(A v.toNat).es⟩:Array BP).push {key:=aa b,val:= .agg ⟨[aa a,aa (lJ h a).1]⟩,born:=(A v.toNat).ck}=⟨(A v.toNat).es++[{key:=aa b,val:= .agg ⟨[aa a,aa (lJ h a).1]⟩,born:=(A v.toNat).ck}]⟩:=by
  grind
 rw[T];have B:=(W.mp f).push t (m5 (b,a,(lJ h a).1) x.tk);have U:v.toNat<17:=by omega
 have V:({key:=(wY (b,a,(lJ h a).1)).1,val:=(wY (b,a,(lJ h a).1)).2,born:=(A v.toNat).ck}:BP)={key:=aa b,val:= .agg ⟨[aa a,aa (lJ h a).1]⟩,born:=(A v.toNat).ck}:=rfl;rw[V] at B;generalize (A v.toNat).es++[{key:=aa b,val:= .agg _,born:=(A v.toNat).ck}]=n at B ⊢;have H:=H.Pt U f n ((A v.toNat).ck+1) (nh (b,a,(lJ h a).1) x.tk);have o:=Jl (A:=A) f n ((A v.toNat).ck+1) (nh (b,a,(lJ h a).1) x.tk);obtain⟨A',C⟩: ∃A',A'=oy A v.toNat {A v.toNat with es:=n,ck:=(A v.toNat).ck+1}:=⟨_,rfl⟩;have p:bj h.g v.toNat (some {x with tk:=nh (b,a,(lJ h a).1) x.tk})=(ia h v a b c).g:=by
  show _=bj h.g v.toNat _;rw[f]
 have Y: ∀{d k},(ia h v a b c).g d=some k->qw (A' d).es (A' d).ck k.tk:=λ{d k} e=>by
  rw[<-p] at e;rw[C];unfold bj at e;unfold oy;by_cases q:d=v.toNat
  grind
  ·rw[au q] at e ⊢;exact W.mp e
 have Z: ∀{d k},(ia h v a b c).g d=some k->1<=d/\d<=16:=λ{d k} e=>by
  rw[<-p] at e;unfold bj at e;by_cases q:d=v.toNat
  ·omega
  ·rw[au q] at e;exact W.iM e
 rw[<-C,p] at H o;obtain⟨G2,S,J2⟩:=H.call;refine S.res (j:=1) rfl 0 0 λE S=>kk E ⟨A',⟨Z,Y,F.trans W.gl,W.pt,W.gk.take _ _ _⟩,J2 ?_⟩;have S:=S.tail.tail.tail;rw[I] at S;show bh Q [] G2 _ E _ ((X.hb,e9 Q X A' _)::(X.gb,mA X.uz _ X.c)::(X.uz,flat eG _++X.rest)::(X.pb,Po.gJ 4 h.po)::(a6 Q A' _ _++L));rw[o.cs,o.rows];exact S
theorem Jm {A:Nat->GA} (W:C6 A h) {v a b c:Int} {x:GV} (f:h.g v.toNat=some x) (hv:((v.toNat:Nat):Int)=v) (I:1<=v) (M:v<=16) (u:aU h.g v=true)
 (N: ∀x,h.g v.toNat=some x->lQ h.s (aZ h.g v) false b (lJ h a).1 (wK c)=0->bZ x.tk b=none)
 (w:(dW h.gr a v (c==1)).length=h.gr.length) {h1:HS} (k:h1=yk h (dW h.gr a v (c==1))) (l:C6 A h1)
 {O e P:Nat} {R la:List AI} {m B:A2} {o:List Nat}
 (J: ∀{d:A2} {s':WD} {L':List (Nat×List AI)},bh Q [] o m d s' L'->SM Q D G w0 d s' L' (cK A h.g (Ag 17)))
 (S:bh Q [] o m B h.s ((O,R)::(e,[ax 0,aa 0])::(P,la)::dL Q X A h1 (a6 Q A h.g (Ag 17)++L)))
 (C:ni h v a b c=lQ h.s (aZ h.g v) false b (lJ h a).1 (wK c)) (hS0:jl h v a b c=if ni h v a b c=0 then ia h v a b c else AG h v a b c)
 (kk: ∀d,iB Q X D G w0 d (jl h v a b c) L->K (0,ni h v a b c,()) d):
 az AC 173 (.el (.one (.int .i64))) [ag (some ⟨(A v.toNat).bt,0,none⟩),aa b,aa (lJ h a).1,aa (wK c)] B λ(y:Int) (d:A2)=>
  aH (y != 0)
   ((some (⟨X.hb,0,none⟩:Aq)).isSome=true/\(some (⟨X.hb,0,none⟩:Aq)).isSome=true/\
    aj d none (ad (ae X.hb) 2) (.one .ptr) λ(z:Option Aq)=>
     az AC 182 (.el (.one (.int .i64))) [ag z,aa a,aa v] d λ(_:Int) (d:A2)=>
      True/\aA d (ae e) [ax 0,aa y] λ(d:A2)=>ao d λ(w1:A2)=>aj w1 none (ae e) (.agg [.int .u64,.int .i64]) λ(x:Int×Int×Unit)=>K (x.1,x.2.1,()) w1)
   ((some (⟨X.hb,0,none⟩:Aq)).isSome=true/\(some (⟨X.hb,0,none⟩:Aq)).isSome=true/\
    aj d none (ad (ae X.hb) 1) (.one .ptr) λ(z:Option Aq)=>
     az AC 183 (.el (.one (.int .i64))) [ag z,aa (lJ h a).1,aa 1] d λ(_:Int) (d:A2)=>
      (some (⟨X.hb,0,none⟩:Aq)).isSome=true/\(some (⟨X.hb,0,none⟩:Aq)).isSome=true/\((ad (ae X.hb) 4).isSome=true/\0<=v/\v<((17:Nat):Int))/\
       aj d none (ad (ad (ae X.hb) 4) (v.toNat*1)) (.one .ptr) λ(p:Option Aq)=>
        p.isSome=true/\p.isSome=true/\
         aj d none (ad p 1) (.one .map) λ(U:Option Nat)=>
          ∀(w1:A2),Ext d w1-> ∃(r:Nat), ∃(es:Array BP), ∃(E:Nat),U=some r/\bD w1 r es E/\
           gS w1 r .i64 b (.agg ⟨[aa a,aa (lJ h a).1]⟩) es E λ(d:A2)=>
            aA d (ae e) [ax 0,aa 0] λ(d:A2)=>ao d λ(w1:A2)=>aj w1 none (ae e) (.agg [.int .u64,.int .i64]) λ(x:Int×Int×Unit)=>K (x.1,x.2.1,()) w1):=by
 have mem: ∀{T},(X.hb,e9 Q X A h.g)∈T++dL Q X A h1 (a6 Q A h.g (Ag 17)++L):=λ{T}=>B2 T (by rw[k];exact B3);have F:=λ{T} i v hv x f=>by
  have H:h1.g=h.g:=by rw[k];rfl
  have:=bV (Q:=Q) (X:=X) (L:=L) l T i v (by rw[H];exact hv) x f;rw[H] at this;exact this
 obtain⟨_, _, _,j,V⟩:=S.sZ (X:=X) (A:=A) (g:=h.g) (mem (T:=[_, _, _])) (F (T:=[_, _, _])) u;refine S.map j V b (lJ h a).1 (wK c) λw8 S=>?_;refine ab (λd8=>?_) (λd8=>?_)
 ·have d8:lQ h.s (aZ h.g v) false b (lJ h a).1 (wK c)≠0:=by
   grind
  have q:jl h v a b c=AG h v a b c:=by grind
  refine⟨rfl,rfl,aj.of _ (S.fD (X:=X) (A:=A) (g:=h.g) (mem (T:=[_, _, _])) (n:=2) rfl) (S.Xn 4 5 rfl rfl (by rw[l.gl];decide) l.gk.use a v λY S=>⟨trivial,S.res (j:=1) rfl 0 _ λt S=>?_⟩)⟩;rw[C,q] at kk;refine kk t ⟨A,⟨W.iM,W.mp,(qg _ _ _).trans (w.trans W.gl),W.pt,(W.gk.take _ _ _).back _ _⟩,J ?_⟩;have S:=S.tail.tail.tail;rw[k] at S;show bh Q [] o m t _ ((X.hb,e9 Q X A h.g)::(X.gb,mA X.uz (eA _ a v).length X.c):: _);rw[qg];exact S
 ·have d8:lQ h.s (aZ h.g v) false b (lJ h a).1 (wK c)=0:=by
   grind
  have q:jl h v a b c=ia h v a b c:=by grind
  refine⟨rfl,rfl,aj.of _ (S.fD (X:=X) (A:=A) (g:=h.g) (mem (T:=[_, _, _])) (n:=1) rfl) (S.aaw (lJ h a).1 1 (by decide) λY S=>⟨rfl,rfl,⟨rfl,by omega⟩,?_⟩)⟩;rw[C,q,d8] at kk;have Z:=N x f d8;obtain⟨g1, _,g3, _⟩:=S.sZ (X:=X) (A:=A) (g:=h.g) (mem (T:=[_, _, _])) (F (T:=[_, _, _])) u;refine aj.of _ g1 ⟨rfl,rfl,aj.of _ g3 λt C4=>?_⟩;exact ZX W f hv I M Z w k rfl ((J S).ext C4) kk
theorem VW (H:iB Q X D G w0 w h L) {v:Int} (r:aU h.g v=true) (k:Int) {a b c:Int} (Y:0<=a) (hb:0<=b) (hc:0<=c) (F: ∀x,h.g v.toNat=some x->lQ h.s (aZ h.g v) false b (lJ h a).1 (wK c)=0->bZ x.tk b=none)
 (kk: ∀m,iB Q X D G w0 m (jl h v a b c) L->K (0,ni h v a b c,()) m):
 aD AC 130 (.el (.agg iv)) [ag (ae X.hb),aa v,.agg ⟨fR k a b c⟩] w K:=by
 obtain⟨A,W,H⟩:=H;obtain⟨I,S,J⟩:=H.call;obtain⟨x,q,uG,hv,M,N⟩:=b_ r;refine aP (C:=V0) (aQ:=λ_=>[]) (B1 (Mb _ v k a b c w K) ?_);have p: ∀e,e≠0->my h v a b c=e->ni h v a b c=e-> ∀{m},iB Q X D G w0 m h L->K (0,e,()) m:=λe Z h1 h2 m H=>by
  have y:jl h v a b c=h:=ay (by rw[h1];exact Z);rw[h2,y] at kk;exact kk m H
 have l:my h v a b c=if b>=65536 then 2 else if a>=16\/c>1 then 1 else if(lV h.gr a).isSome=false then 4
  else if(lP h a).2.2.1≠v\/(c=1/\(lP h a).2.2.2.1=false) then 7 else if(lJ h a).2.2.1≠0 then 4 else if gZ h (lP h a).1 (lP h a).2.1=true then 7 else gU h.gr a v (c==1):=rfl
 have f:ni h v a b c=if b>=65536 then 2 else if a>=16\/c>1 then 1 else if(lV h.gr a).isSome=false then 4
  else if(lP h a).2.2.1≠v\/(c=1/\(lP h a).2.2.2.1=false) then 7 else if(lJ h a).2.2.1≠0 then 4 else if gZ h (lP h a).1 (lP h a).2.1=true then 7
  else if gU h.gr a v (c==1)≠0 then gU h.gr a v (c==1) else lQ h.s (aZ h.g v) false b (lJ h a).1 (wK c):=rfl
 refine S.al λba m S=>S.al λb1 w3 S=>⟨rfl,S.cg 1 rfl rfl ?_⟩;refine ab (λd=>⟨trivial,S.res (j:=0) rfl 0 _ λO S=>?_⟩) (λd=>⟨rfl,S.cg 1 rfl rfl ⟨λ_=>rfl,S.cg 1 rfl rfl ?_⟩⟩)
 ·have d:b>=65536:=by simpa using d
  rw[ay d] at l f;exact p 2 (by decide) l f ⟨A,W,J S.tail.tail⟩
 have d: ¬ b>=65536:=by simpa using d
 rw[au d] at l f;refine ab (λd1=>⟨trivial,S.res (j:=0) rfl 0 _ λO S=>?_⟩) (λd1=>⟨rfl,S.cg 1 rfl rfl ⟨rfl,S.cg 1 rfl rfl ⟨rfl,S.cg 1 rfl rfl ⟨rfl,rfl,?_⟩⟩⟩⟩)
 ·have d1:a>=16\/c>1:=by simpa using d1
  rw[ay d1] at l f;exact p 1 (by decide) l f ⟨A,W,J S.tail.tail⟩
 have d1: ¬ (a>=16\/c>1):=by
  grind
 rw[au d1] at l f;have ea:aG .i64 a=a:=bK ⟨Y,by omega⟩;have eb:aG .i64 b=b:=bK ⟨hb,by omega⟩;rw[ea,eb];refine aj.of _ (S.fD (X:=X) (A:=A) (g:=h.g) (by simp) (n:=2) rfl) ⟨(wT h.gr a,(lV h.gr a).isSome,()),S.aax 3 4 rfl rfl (by rw[W.gl];decide) a,S.al λb2 O S=>S.fa 0 rfl rfl rfl λw5 S=>?_⟩;refine ab (λd2=>⟨trivial,S.res (j:=1) rfl 0 _ λP S=>?_⟩) (λd2=>⟨rfl,S.cg 0 rfl rfl ⟨λ_=>rfl,S.cg 0 rfl rfl ?_⟩⟩)
 ·have d2:(lV h.gr a).isSome=false:=by simpa using d2
  rw[ay d2] at l f;exact p 4 (by decide) l f ⟨A,W,J S.tail.tail.tail⟩
 have d2: ¬ (lV h.gr a).isSome=false:=by
  have d2:(!(lV h.gr a).isSome)=false:=d2;intro e;rw[e] at d2;cases d2
 rw[au d2] at l f;refine ab (λd3=>⟨trivial,S.res (j:=1) rfl 0 _ λP S=>?_⟩) (λd3=>⟨rfl,S.cg 0 rfl rfl ⟨rfl,S.cg 0 rfl rfl ?_⟩⟩)
 ·have d3:=by
   have d3:((lP h a).2.2.1 != v||c==1&& !(lP h a).2.2.2.1)=true:=d3;simpa using d3
  rw[ay d3] at l f;exact p 7 (by decide) l f ⟨A,W,J S.tail.tail.tail⟩
 have d3: ¬ ((lP h a).2.2.1≠v\/(c=1/\(lP h a).2.2.2.1=false)):=by
  grind[lP]
 rw[au d3] at l f;refine va S (X:=X) (A:=A) (g:=h.g) (by simp) (bV W [_, _, _]) (lP h a).1 (lP h a).2.1 λP S=>?_;refine ab (λd4=>⟨trivial,S.res (j:=1) rfl 0 _ λt S=>?_⟩) (λd4=>⟨rfl,S.cg 0 rfl rfl ⟨rfl,S.cg 0 rfl rfl ?_⟩⟩)
 ·have d4:(lJ h a).2.2.1≠0:=by
   have d4:((lJ h a).2.2.1 != 0)=true:=d4;simpa using d4
  rw[ay d4] at l f;exact p 4 (by decide) l f ⟨A,W,J S.tail.tail.tail⟩
 have d4: ¬ (lJ h a).2.2.1≠0:=by
  grind[lJ]
 rw[au d4] at l f;refine⟨fX h.g (lP h a).1 (lP h a).2.1,py (J S) (X:=X) (A:=A) (g:=h.g) (by simp) (bV W [_, _, _]) (fA W) (λi x q=>W.mp q) _ _,?_⟩;refine ab (λd5=>⟨trivial,S.res (j:=1) rfl 0 _ λt S=>?_⟩) (λd5=>⟨rfl,rfl,?_⟩)
 ·have d5:gZ h (lP h a).1 (lP h a).2.1=true:=d5;rw[ay d5] at l f;exact p 7 (by decide) l f ⟨A,W,J S.tail.tail.tail⟩
 have d5: ¬ gZ h (lP h a).1 (lP h a).2.1=true:=by
  have d5:gZ h (lP h a).1 (lP h a).2.1=false:=d5;rw[d5];decide
 rw[au d5] at l f;refine aj.of _ (S.fD (X:=X) (A:=A) (g:=h.g) (by simp) (n:=2) rfl) (S.abp 4 5 rfl rfl (by rw[W.gl];decide) W.gk.use a v (c==1) λt S=>?_);have u:(dW h.gr a v (c==1)).length=h.gr.length:=Mx _ _ _ _;obtain⟨h1,o⟩: ∃h1,h1=yk h (dW h.gr a v (c==1)):=⟨_,rfl⟩;have R:h1.g=h.g:=by rw[o];rfl
 have BK:h1.s=h.s:=by rw[o];rfl
 have z:C6 A h1:=by rw[o];exact⟨W.iM,W.mp,u.trans W.gl,W.pt,W.gk.take _ _ _⟩
 have S:bh Q [] I w t h.s ((b2,[aa (lP h a).1,aa (lP h a).2.1,aa (lP h a).2.2.1,.bool (lP h a).2.2.2.1,aa (lP h a).2.2.2.2.1])::(b1,[ax 0,aa 0])::(ba,fR k a b c)::dL Q X A h1 (a6 Q A h.g (Ag 17)++L)):=by
  rw[o];show bh Q [] I w t h.s (_:: _:: _::(X.hb,e9 Q X A h.g)::(X.gb,mA X.uz (dW h.gr a v (c==1)).length X.c):: _);rw[u];exact S
 refine ab (λd6=>⟨trivial,S.res (j:=1) rfl 0 _ λw8 S=>?_⟩) (λd6=>?_)
 ·have d6:gU h.gr a v (c==1)≠0:=by simpa using d6
  rw[ay d6] at f;have e1:dW h.gr a v (c==1)=h.gr:=au d6;have y:h1=h:=by rw[o,e1];rfl
  rw[y] at S;exact p _ d6 l f ⟨A,W,J S.tail.tail.tail⟩
 have d6: ¬ gU h.gr a v (c==1)≠0:=by
  grind
 rw[au d6] at f;have U:jl h v a b c=if ni h v a b c=0 then ia h v a b c else AG h v a b c:=au (by rw[l];exact d6);have mem: ∀{T:List (Nat×List AI)},(X.hb,e9 Q X A h.g)∈T++dL Q X A h1 (a6 Q A h.g (Ag 17)++L):=λ{T}=>B2 T (by rw[o];exact B3);have V:=λ{T} i v hv x q=>by
  have:=bV (Q:=Q) (X:=X) (L:=L) z T i v (by rw[R];exact hv) x q;rw[R] at this;exact this
 have hq:=Ex h.g h.s (lP h a).1 (lP h a).2.1;refine ab (λd7=>⟨rfl,rfl,⟨rfl,by omega,by show v<((17:Nat):Int);omega⟩,?_⟩) (λd7=>⟨rfl,rfl,⟨rfl,by omega,by show v<((17:Nat):Int);omega⟩,?_⟩)
 ·have B:(orI .i64 1 2)=wK c:=by
   unfold wK;rw[ay (by simpa using d7)];decide
  obtain⟨g1,E,g3,j,hj⟩:=S.sZ (X:=X) (A:=A) (g:=h.g) (mem (T:=[_, _, _])) (V (T:=[_, _, _])) r;refine aj.of _ g1 ⟨rfl,rfl,aj.of _ E ?_⟩;have T:=Jm W q hv M N r F u o z J S f U kk;rw[<-B] at T;exact T
 ·have B:(1:Int)=wK c:=by
   unfold wK;rw[au (by simpa using d7)]
  obtain⟨g1,E,g3,j,hj⟩:=S.sZ (X:=X) (A:=A) (g:=h.g) (mem (T:=[_, _, _])) (V (T:=[_, _, _])) r;refine aj.of _ g1 ⟨rfl,rfl,aj.of _ E ?_⟩;have T:=Jm W q hv M N r F u o z J S f U kk;rw[<-B] at T;exact T
end
def Ai (l:List Int):Int:=l.foldl (λm x=>ko m x) 65536
theorem xE (a b:Int):ko a b<=a/\ko a b<=b/\(ko a b=a\/ko a b=b):=by
 unfold ko;split<;>omega
theorem y7: ∀(l:List Int) (m:Int),l.foldl (λm x=>ko m x) m<=m/\(∀x∈l,l.foldl (λm x=>ko m x) m<=x)/\(l.foldl (λm x=>ko m x) m=m\/l.foldl (λm x=>ko m x) m∈l)
 |[],m=>⟨H4 _,λx b=>(by cases b),.inl rfl⟩
 |y::l,m=>by
  obtain⟨h1,c,a⟩:=y7 l (ko m y);obtain⟨d,e,f⟩:=xE m y;rw[HB];refine⟨Int.le_trans h1 d,λx b=>?_,?_⟩
  ·rcases Fg.1 b with rfl|b
   ·exact Int.le_trans h1 e
   ·exact c x b
  ·rcases a with a|a
   ·rcases f with k|k
    ·exact .inl (a.trans k)
    ·exact .inr (Fg.2 (.inl (a.trans k)))
   ·exact .inr (B4 _ a)
theorem My {l:List Int} {m:Int} (h1:m<=65536) (c: ∀x∈l,m<=x) (b:m=65536\/m∈l):m=Ai l:=by
 obtain⟨e,d,a⟩:=y7 l 65536;unfold Ai;rcases b with b|b
 ·rcases a with a|a
  ·omega
  ·have:=c _ a;omega
 ·have:=d _ b;rcases a with a|a
  ·omega
  ·have:=c _ a;omega
theorem Bo {es:List BP} {e:BP} (he:e∈es) (seen:Array Nat) (a:seen.contains e.born=false):
 (es.filter λx=> !(seen.push e.born).contains x.born).length<(es.filter λx=> !seen.contains x.born).length:=by
 induction es with
 |nil=>cases he
 |cons y es b=>
  have mono: ∀l:List BP,(l.filter λx=> !(seen.push e.born).contains x.born).length<=(l.filter λx=> !seen.contains x.born).length:=λl=>by
   rw[<-Kf, <-Kf];refine List.countP_mono_left λx _ c=>?_;simp only[J3,NP,FR] at c ⊢
   simp_all
  rcases Fg.1 he with rfl|he
  ·rw[JX (by simp),List.filter_cons_of_pos (by simpa using a)];have:=mono es;simp only[Dr];omega
  ·have:=b he;rw[Ki,Ki];by_cases h1:(!(seen.push e.born).contains y.born)=true
   ·have d:(!seen.contains y.born)=true:=by
     simp only[J3,NP,FR] at h1 ⊢
     simp_all
    rw[ay h1,ay d];simp only[Dr];omega
   ·rw[au h1];split
    ·simp only[Dr];omega
    ·exact this
section
variable {Q:Sys} {X:HX} {D G:List Nat} {w0 w:A2} {s:WD} {L0:List (Nat×List AI)} {M:List (Nat×CW)} {es:List BP} {ck bm bg:Nat} {pt:Option Aq} {tk:List TK}
theorem Mz (H:SM Q D G w0 w s L0 M) (N:(bg,[ag pt,.map (some bm)])∈L0) (v:(bm,Obj.map ⟨es⟩ ck)∈M) (O:qw es ck tk) {K:Int->A2->Prop} (kk: ∀d,SM Q D G w0 d s L0 M->K (Ai (tk.map (·.1))) d):
 az AC 168 (.el (.one (.int .i64))) [ag (ae bg)] w K:=by
 obtain⟨⟨p,A,B⟩,E,P, _⟩:=O;have R: ∀e∈es, ∃t∈tk,e.key=aa t.1:=λe a=>by
  have:(e.key,e.val)∈p.map wY:=by rw[<-B];exact B5.2 ⟨e,a,rfl⟩
  obtain⟨t,c,y⟩:=B5.1 this;exact⟨t,A.mem_iff.1 c,(congrArg (·.1) y).symm⟩
 have S: ∀t∈tk, ∃e∈es,e.key=aa t.1:=λt c=>by
  have:wY t∈es.map λe=>(e.key,e.val):=by rw[B];exact B5.2 ⟨t,A.mem_iff.2 c,rfl⟩
  obtain⟨e,a,y⟩:=B5.1 this;exact⟨e,a,congrArg (·.1) y⟩
 refine H.go λw1 H=>ai (C:=V0) (aQ:=qV) (B1 (L9 _ w1 K) ?_);obtain⟨j,f⟩:=BJ N;refine⟨rfl,rfl,H.base.cg j f rfl λd g=>?_⟩;have H:=H.ext g;have T:bD d bm ⟨es⟩ ck:=H.get v;refine⟨_, _, _,rfl,T,?_⟩;have H:=H.alloc (o:= .mapIter (some bm) ck #[] ck) trivial;obtain⟨b,hb⟩: ∃b,b=d.heap.size:=⟨_,rfl⟩;rw[<-hb] at H ⊢;refine⟨λn q w'=> ∃seen:Array Nat,SM Q D G w0 w' s L0 ((b,.mapIter (some bm) ck seen ck)::M)/\n=(es.filter λx=> !seen.contains x.born).length/\q.1<=65536/\(∀e∈es, ∀x,e.key=aa x->seen.contains e.born=true->q.1<=x)/\(q.1=65536\/q.1∈tk.map (·.1)),⟨_,λU k=>⟨#[],H.ext k,rfl,H4 _,λe _ x _ l=>(by simp at l),.inl rfl⟩⟩,?_⟩;clear H;rintro n ⟨q,u⟩ U ⟨seen,H,V,h1,g,k⟩;dsimp only at h1 g k ⊢;intro w4 W;have H:=H.ext W;refine⟨b,bm,ck,seen,ck,⟨es⟩,ck,rfl,H.get B3,H.get (B4 _ v),FS _,P,λl X z=>?_,λe a l X z=>?_⟩
 ·refine(H.ext z).en λF H=>?_;have m:q=Ai (tk.map (·.1)):=My h1 (λx r=>by
   obtain⟨t,c,rfl⟩:=B5.1 r;obtain⟨e,I,Y⟩:=S t c;exact g e I _ Y (l e I)) k
  rw[m];exact kk F (H.FN (BY _ _))
 ·have a:e∈es:=a;obtain⟨t,c,J⟩:=R e a;have H:=(H.ext z).put (i:=0) rfl (o':= .mapIter (some bm) ck (seen.push e.born) ck) trivial;refine⟨t.1,e.val,⟨b,bm,ck,seen,⟨es⟩,ck,e,rfl,H.get B3,H.get (B4 _ v),a,E,J.symm,rfl⟩,λF Z=>?_⟩;refine⟨_,?_,seen.push e.born,H.ext Z,rfl,?_,?_,?_⟩
  ·rw[V];exact Bo a seen l
  ·have:=xE q t.1;omega
  ·intro e' L x r fe;have hmi:=xE q t.1;by_cases h:seen.contains e'.born=true
   ·have:=g e' L x r h;show ko q t.1<=x;omega
   ·have sg:e'.born=e.born:=by
     rw[J3] at fe
     simp_all
    have ach:e'=e:=by
     obtain⟨i,hi⟩:=BJ L;obtain⟨j,f⟩:=BJ a;have zT:(es.map (·.born))[i]? =some e.born:=by rw[DA,hi];exact congrArg some sg
     have z4:(es.map (·.born))[j]? =some e.born:=by rw[DA,f];rfl
     have:=(Fw (by rw[B6];exact(DH.1 hi).1) E).1 (zT.trans z4.symm);subst this;rw[hi] at f;cases f;rfl
    subst ach;rw[J] at r;cases r;show ko q t.1<=t.1;exact hmi.2.1
  ·rcases(xE q t.1).2.2 with m|m
   ·show ko q t.1=65536\/ _;rw[m];exact k
   ·show ko q t.1=65536\/ko q t.1∈ _;rw[m];exact .inr (B5.2 ⟨t,c,rfl⟩)
end
end Go.Proofs.YtlcenllcmeebhaaGreat
namespace Go.Proofs.YtlcenllcmeebhaaGreat.Mu
set_option maxRecDepth 100000
open Go.RX
section
variable {D G:List Nat} {w0 w:A2} {L Ls:List (Nat×List AI)} {M:List (Nat×CW)} {es:List BP} {mb ck:Nat} {wl:List (Int×Int)}
theorem Bp (H:cv D G w0 w L ((mb,.map ⟨es⟩ ck)::M)) (hv:iu es ck (wl.map Fz)) (hl:(wl.length:Int)<=1000000) {is:Int->Bool} {Q:Int->A2->Bool->Prop}
 (Z: ∀{w' d Mr},cv D G w0 w' (d++L) Mr-> ∀e∈wl,Q e.2 w' (is e.2)) {K:Option Aq×Nat×Nat->A2->Prop}
 (k: ∀r R d c,R.Pairwise (· <= ·)->R.Perm ((wl.filter λe=>is e.2).map (·.1))->dm eI r R d->cv D G w0 c (d++L) ((mb,.map ⟨es⟩ ck)::M)->K r c):
 RgP w (some mb) λb c=> ∃I:Nat->(Option Aq×Nat×Nat)×Unit->A2->Prop,(∃n, ∀w1,Ext c w1->I n ((none,0,0),()) w1)/\ ∀(n:Nat) (s:(Option Aq×Nat×Nat)×Unit) (w1:A2),I n s w1->
  NxP w1 (ae b) (λc=>ao c λw1=>K (s.1.1,s.1.2.1,s.1.2.2) w1) λ_ _ c=> ∃x y:Int,z_ c (ae b) (aa x) (aa y)/\ ∃O:Bool,Q y c O/\
   aH (!O) (∀g,Ext c g-> ∃h,h<n/\I h ((s.1.1,s.1.2.1,s.1.2.2),()) g)
    (aM c ⟨[aa x]⟩ 3 λb c=> ∀w1,Ext c w1->mz w1 3 1 8 ⟨[aa 0]⟩ (s.1.1,s.1.2.1,s.1.2.2) (some ⟨b,0,none⟩,1,1) λr c=>
     ∃z:Nat->Int×Unit->A2->Prop,(∃n, ∀w1,Ext c w1->z n (((s.1.2.1:Nat):Int),()) w1)/\ ∀(P:Nat) (s:Int×Unit) (w1:A2),z P s w1->
      (decide (s.1>0)=true->r.1.isSome=true/\0<=aX .i64 s.1 1/\aX .i64 s.1 1<((r.2.1:Nat):Int))/\aj w1 (some (decide (s.1>0))) (ad r.1 ((aX .i64 s.1 1).toNat*1)) eI λ(aN:Int)=>
       aH (decide (s.1>0)&&decide (aN>x)) ((r.1.isSome=true/\0<=aX .i64 s.1 1/\aX .i64 s.1 1<((r.2.1:Nat):Int))/\aj w1 none (ad r.1 ((aX .i64 s.1 1).toNat*1)) eI λ(y:Int)=>
        (r.1.isSome=true/\0<=s.1/\s.1<((r.2.1:Nat):Int))/\aA w1 (ad r.1 (Int.toNat s.1*1)) [aa y] λc=> ∀g,Ext c g-> ∃h,h<P/\z h (aX .i64 s.1 1,()) g)
        ((r.1.isSome=true/\0<=s.1/\s.1<((r.2.1:Nat):Int))/\aA w1 (ad r.1 (Int.toNat s.1*1)) [aa x] λc=> ∀g,Ext c g-> ∃h,h<n/\I h ((r.1,r.2.1,r.2.2),()) g)):=by
 obtain⟨X7,he2⟩:=hv.ab5;have S:=hv.2.1;have hck:=hv.2.2.1;have hlen:es.length=wl.length:=by
  obtain⟨⟨p,A,B⟩, _⟩:=hv;have C:=congrArg Ft B;have E:=A.length_eq;simp only[B6] at C E;omega
 intro w1 h1;have H:=H.ext h1;refine⟨mb,⟨es⟩,ck,rfl,H.get (i:=0) rfl,?_⟩;have H:=H.alloc (o:= .mapIter (some mb) ck #[] ck) trivial;obtain⟨b,hb⟩: ∃b,b=w1.heap.size:=⟨_,rfl⟩;rw[<-hb] at H ⊢;refine⟨λn q w'=> ∃(seen:Array Nat) (d:List (Nat×List AI)) (R:List Int),cv D G w0 w' (d++L) ((b,.mapIter (some mb) ck seen ck)::(mb,.map ⟨es⟩ ck)::M)/\n=(es.filter λx=> !seen.contains x.born).length/\dm eI q.1 R d/\R.Pairwise (· <= ·)/\
  R.Perm ((es.filter λx=>seen.contains x.born&&is (kI x.val)).map λx=>kI x.key),⟨_,λg h3=>⟨#[],[],[],H.ext h3,rfl,dm.nil eI,List.Pairwise.nil,?_⟩⟩,?_⟩
 ·simp_all
 clear H;rintro n ⟨q,u⟩ g ⟨seen,d,R,H,hn,m,F,J⟩;dsimp only at m ⊢;have hRl:R.length<=es.length:=by
  rw[J.length_eq,B6];exact LL _ _
 intro w4 h4;have H:=H.ext h4;refine⟨b,mb,ck,seen,ck,⟨es⟩,ck,rfl,H.get (i:=0) rfl,H.get (i:=1) rfl,FS _,hck,λmC w5 N j v=>?_,λe l T w5 N=>?_⟩
 ·refine k q R d j F (J.trans ?_) m (((H.ext N).ext v).FN (BY _ _));have C:(es.filter λx=>seen.contains x.born&&is (kI x.val))=es.filter λx=>is (kI x.val):=I1 λx hx=>by rw[mC x hx,H5]
  rw[C];obtain⟨⟨p,A,B⟩, _⟩:=hv;have E:(es.filter λx=>is (kI x.val)).map (λx=>kI x.key)=((es.map λe=>(e.key,e.val)).filter λt=>is (kI t.2)).map λt=>kI t.1:=by
   rw[GI,GJ];rfl
  have e3:((p.map kvE).filter λt=>is (kI t.2)).map (λt=>kI t.1)=(p.filter λt=>is (kI t.2)).map (·.1):=by
   rw[GI,GJ];rfl
  have e4:(((wl.map Fz).filter λt=>is (kI t.2)).map (·.1):List Int)=(wl.filter λe=>is e.2).map (·.1):=by
   rw[GI,GJ];rfl
  rw[E,B,e3, <-e4];exact(A.filter _).map _
 ·have l:e∈es:=l;obtain⟨t,ht,U,V⟩:=X7 e l;obtain⟨a,ha,rfl⟩:=B5.1 ht;have H:=(H.ext N).put (i:=0) rfl (o':= .mapIter (some mb) ck (seen.push e.born) ck) trivial;have W:(es.filter λx=> !(seen.push e.born).contains x.born).length<n:=by rw[hn];exact Bo l seen T
  have WC:=AW (f:=λx=>is (kI x.val)) T S l;have hke:kI e.key=a.1:=by rw[U];rfl
  have hve:kI e.val=a.2:=by rw[V];rfl
  refine⟨a.1,a.2,⟨b,mb,ck,seen,⟨es⟩,ck,e,rfl,H.get (i:=0) rfl,H.get (i:=1) rfl,l,S,U.symm,V.symm⟩,is a.2,Z H a ha,?_⟩;cases hi:is a.2 with
  |false=>
   refine aB rfl λj v=>⟨_,W,seen.push e.born,d,R,H.ext v,rfl,m,F,?_⟩
   grind
  |true=>
   rw[hve,hi,ay rfl] at WC;refine an rfl λj v w7 h7=>?_;have X:=by
    have Y:=H.ext v;have K6:=Y.join (L':=(j.heap.size,[aa a.1])::(d++L)) (w1:=j.alloc (.cells ⟨[aa a.1]⟩ 3)) (Y.base.again.alloc _ _);exact(K6.perm B7).ext h7
   refine Fu X m rfl (q:=(some ⟨j.heap.size,0,none⟩,1,1)) (ys:=[a.1]) rfl (rK (e:=eI) (x:=a.1) (X.base.db _ (B2 _ B3))) rfl rfl (by simp only[I2];omega) λr cJ w8 fe H8=>?_;refine Qg H8 fe F (by omega) (by rw[m.1]) λWB R' w9 hR' TH TF H9=>⟨_,W,seen.push e.born,WB,R',H9.sub (by grind),rfl,TF,hR',?_⟩;refine(TH.trans (Dn _ J)).trans ?_
   grind
theorem MC (H:cv D G w0 w L ((mb,.map ⟨es⟩ ck)::M)) (hv:iu es ck (wl.map Fz)) (d:(wl.length:Int)<=1000000) {now:Int} {s:Option Aq×Nat×Nat} {c eb:Nat} (hc:(c,[ag (ae eb)])∈L) (f:(eb,oo now s mb)∈L) (g: ∀e∈wl,0<=e.2/\e.2<=now) (n:now<4611686018427387904)
 {K:Option Aq×Nat×Nat->A2->Prop} (k: ∀r R a b,R.Pairwise (· <= ·)->R.Perm ((wl.filter λe=>decide (e.2+2<=now)).map (·.1))->dm eI r R a->cv D G w0 b (a++L) ((mb,.map ⟨es⟩ ck)::M)->K r b):
 az AC 115 (.el (.one .slice)) [.map (some mb),.func (.func 236) #[] #[ag (ae c)]] w K:=by
 refine λw1 h1=>ai (C:=U1) (aQ:=qK) (B1 (KG _ _ w1 K) ?_);refine Bp (H.ext h1) hv d (is:=λy=>decide (y+2<=now)) (λ{w' a o} H e h=>?_) k;refine af.of λb i=>ai (C:=U0) (aQ:=λ_=>[]) (B1 (KE _ _ b _) ?_);have H:=(H.ext i).base;have hb:=g e h;obtain⟨j,l⟩:=BJ (B2 a hc);refine aj.at j H l (rfl) ⟨rfl,rfl,aj.ku H (B2 a f) (rfl) λp m=>⟨?_,m⟩⟩;rw[aw (by omega) (by omega)]
theorem MD (H:cv D G w0 w L ((mb,.map ⟨es⟩ ck)::M)) (hv:iu es ck (wl.map Fz)) (f:(wl.length:Int)<=1000000)
 {K:Option Aq×Nat×Nat->A2->Prop} (k: ∀r R c d,R.Pairwise (· <= ·)->R.Perm (wl.map (·.1))->dm eI r R c->cv D G w0 d (c++L) ((mb,.map ⟨es⟩ ck)::M)->K r d):
 az AC 115 (.el (.one .slice)) [.map (some mb),.func (.func 116) #[] #[]] w K:=by
 refine λw1 h1=>ai (C:=U1) (aQ:=qL) (B1 (KH _ w1 K) ?_);refine Bp (H.ext h1) hv f (is:=λ_=>true) (λ{w' c g} H e h=>?_) (λr R c d a b=>k r R c d a (by rw[Fx.2 (λ_ _=>rfl)] at b;exact b));exact af.of λd i=>ai (C:=U0) (aQ:=λ_=>[]) (by grind[B1,KF])
theorem Sa (H:cv D G w0 w L ((mb,.map ⟨es⟩ ck)::M)) (hv:iu es ck (wl.map Fz)) (h:(wl.length:Int)<=1000000) {now:Int} {s:Option Aq×Nat×Nat} {eb:Nat} (g:(eb,oo now s mb)∈L)
 {K:Option Aq×Nat×Nat->A2->Prop} (k: ∀r R e f,R.Pairwise (· <= ·)->R.Perm (wl.map (·.1))->dm eI r R e->cv D G w0 f (e++L) ((mb,.map ⟨es⟩ ck)::M)->K r f):
 az AC 69 (.el (.one .slice)) [ag (ae eb)] w K:=by
 refine λw1 h1=>ai (B1 (Qd _ w1 K) ?_);have H:=H.ext h1;refine⟨_,mQ H.base g,an rfl ⟨rfl,rfl,aj.ku H.base g rfl ?_⟩⟩;exact MD H hv h λr R e f a b c d=>λi j=>k r R e i a b c (d.ext j)
theorem Sb (H:cv D G w0 w L ((mb,.map ⟨es⟩ ck)::M)) (hv:iu es ck (wl.map Fz)) (W:(wl.length:Int)<=1000000) {now:Int} {s:Option Aq×Nat×Nat} {eb:Nat} (X:(eb,oo now s mb)∈L) (Y: ∀e∈wl,0<=e.2/\e.2<=now) (Z:now<4611686018427387904)
 {K:Option Aq×Nat×Nat->A2->Prop} (k: ∀r R d a g,R.Pairwise (· <= ·)->R.Perm ((wl.filter λe=>decide (e.2+2<=now)).map (·.1))->dm eI r R d->iu a ck ((wl.filter λe=> !decide (e.2+2<=now)).map Fz)->
  cv D G w0 g (d++L) ((mb,.map ⟨a⟩ ck)::M)->K r g):
 az AC 198 (.el (.one .slice)) [ag (ae eb)] w K:=by
 refine λw1 h1=>ai (C:=U0) (aQ:=tY) (B1 (Qc _ w1 K) λg q=>?_);have H:=(H.ext h1).ext q;obtain⟨b,hb⟩: ∃b,b=g.heap.size:=⟨_,rfl⟩;have H:=H.join (L':=(b,[ag (ae eb)])::L) (w1:=g.alloc (.cells ⟨[ag (ae eb)]⟩ 98)) (by rw[hb];exact H.base.again.alloc _ _);rw[<-hb];have l:(eb,oo now s mb)∈(b,[ag (ae eb)])::L:=B4 _ X;refine aj.at 0 H.base rfl (show _=some (some (⟨eb,0,none⟩:Aq)) from rfl) ⟨_,mQ H.base l,an rfl (aj.at 0 H.base rfl (show _=some (some (⟨eb,0,none⟩:Aq)) from rfl) ⟨rfl,rfl,aj.ku H.base l (show _=some (some mb) from rfl) ?_⟩)⟩;refine MC H hv W (c:=b) B3 l Y Z λr R d I hR m u H=>?_;have J:=u.1;have N:(wl.map (·.1)).Nodup:=by
  have:=hv.2.2.2;rw[GJ] at this;exact this
 have hRl:R.length<=wl.length:=by
  rw[m.length_eq,B6];exact LL _ _
 have hRn:R.Nodup:=by
  refine m.nodup_iff.2 ?_;exact N.sublist (K1.map _)
 have O: ∀f,f∈R<-> ∃e∈wl,e.1=f/\e.2+2<=now:=λf=>by
  rw[m.mem_iff,B5];constructor
  grind
  ·rintro⟨e,h,rfl,c⟩;exact⟨e,ID.2 ⟨h,by simpa using c⟩,rfl⟩
 refine⟨λn st v=> ∃(j:Nat) (a:List BP),j<=R.length/\n=R.length - j/\st.1=(j:Int)/\iu a ck ((wl.filter λe=> !(R.take j).contains e.1).map Fz)/\cv D G w0 v (d++((b,[ag (ae eb)])::L)) ((mb,.map ⟨a⟩ ck)::M),⟨R.length,λv h4=>⟨0,es,Fo _,rfl,rfl,?_,H.ext h4⟩⟩,?_⟩
 ·have:(wl.filter λe=> !(R.take 0).contains e.1)=wl:=Fx.2 λ_ _=>rfl;rw[this];exact hv
 rintro n ⟨i, _⟩ v ⟨j,a,P,rh,hi,z,H⟩;have hi:i=(j:Int):=hi;subst hi rh;dsimp only;rw[J];have hmb:(b,[ag (some (⟨eb,0,none⟩:Aq))])∈d++((b,[ag (ae eb)])::L):=B2 _ B3;have hme:(eb,oo now s mb)∈d++((b,[ag (some (⟨eb,0,none⟩:Aq))])::L):=B2 _ l;obtain⟨jb,hjb⟩:=BJ hmb;refine ab (λc=>?_) (λc=>?_)
 ·have P:j<R.length:=by have:=of_decide_eq_true c;omega
  obtain⟨x,o⟩: ∃x,R[j]? =some x:=⟨_,Dc P⟩;have Q:=u.sl H.base (λy p=>DB _ p) j x o;refine⟨⟨Q.1,by omega,by omega⟩,aj.of x (by rw[Do];exact Q.2) (aj.at jb H.base hjb (show _=some (some (⟨eb,0,none⟩:Aq)) from rfl) ⟨rfl,rfl,aj.ku H.base hme (show _=some (some mb) from rfl) λS A=>?_⟩)⟩;have H:=H.ext A;obtain⟨e,hew,T,hed⟩:=(O x).1 (DQ o);have hxn:x∉R.take j:=λhm=>by
   obtain⟨i,hi⟩:=BJ hm;have B:i<(R.take j).length:=(DH.1 hi).1;rw[FP] at B;rw[List.getElem?_take_of_lt (by omega)] at hi;have:=(Fw (by omega) hRn).1 (hi.trans o.symm);omega
  have lL:(x,aa e.2)∈(wl.filter λe=> !(R.take j).contains e.1).map Fz:=B5.2 ⟨e,ID.2 ⟨hew,by rw[T];simpa using hxn⟩,by rw[<-T]⟩;obtain⟨i,hf,B,U⟩:=z.Fy lL;refine⟨mb,⟨a⟩,ck,rfl,H.get (i:=0) rfl,?_⟩;unfold z9;rw[hf];have e1:(Array.mk a).eraseIdxIfInBounds i=⟨a.eraseIdx i⟩:=by
   apply Array.ext';simp[O2,B]
  have H:=H.put (i:=0) rfl (o':= .map ⟨a.eraseIdx i⟩ ck) trivial;show∀I,Ext _ I-> _;rw[e1];refine λw6 h6=>⟨R.length - (j+1),by omega,j+1,a.eraseIdx i,by omega,rfl,?_,?_,H.ext h6⟩
  ·rw[aw (by omega) (by omega)];omega
  ·have E:(((wl.filter λe=> !(R.take j).contains e.1).map Fz).filter λt=> !(t.1==x))=(wl.filter λe=> !(R.take (j+1)).contains e.1).map Fz:=by
    rw[GI,List.filter_filter];congr 1;refine I1 λy _=>?_;rw[List.take_add_one,o]
    grind
   rw[E] at U;exact U
 ·have:j=R.length:=by have:=of_decide_eq_false c;omega
  subst this;refine λS A=>k _ R d a S hR m (by rw[<-J];exact u) ?_ ((H.ext A).sub (H6 (BY _ _) _));have E:(wl.filter λe=> !(R.take R.length).contains e.1)=wl.filter λe=> !decide (e.2+2<=now):=I1 λy p=>by
   rw[List.take_length];congr 1;rw[Bool.eq_iff_iff,List.contains_iff_mem,decide_eq_true_eq,O];constructor
   ·rintro⟨e,h1,q,h3⟩;have:e=y:=by
     obtain⟨i1,F⟩:=BJ h1;obtain⟨i2,V⟩:=BJ p;have a1:(wl.map (·.1))[i1]? =some y.1:=by rw[DA,F];exact congrArg some q
     have a2:(wl.map (·.1))[i2]? =some y.1:=by rw[DA,V];rfl
     have:=(Fw (by rw[B6];exact(DH.1 F).1) N).1 (a1.trans a2.symm);subst this;exact Option.some.inj (F.symm.trans V)
    rw[<-this];exact h3
   ·exact λh=>⟨y,p,rfl,h⟩
  rw[E] at z;exact z
theorem Cu (H:cv D G w0 w L M) (n:Int) {K:Option Aq×Int×Unit->A2->Prop} (kb:n<1\/n>8-> ∀w1,cv D G w0 w1 L M->K (none,1,()) w1)
 (E:1<=n->n<=8-> ∀eb mb s Ls w1,dm eI s (Bx n.toNat (-1)) Ls->cv D G w0 w1 ((eb,oo 0 s mb)::(Ls++L)) ((mb,.map ⟨[]⟩ 0)::M)->K (some ⟨eb,0,none⟩,0,()) w1):
 az AC 84 (.bu [.one .ptr,.one (.int .i64)]) [aa n] w K:=by
 refine λw1 h1=>ai (C:=U0) (aQ:=vP) (B1 (Cs n w1 K) ?_);have H:=H.ext h1;refine ab (λc=>λf g=>kb (by simpa using c) f (H.ext g)) (λc f g p F=>?_);have t:1<=n/\n<=8:=by
  grind
 obtain⟨m,rfl⟩: ∃m:Nat,n=(m:Int):=⟨n.toNat,by omega⟩;have H:=((H.ext g).alloc (o:= .map #[] 0) trivial).ext F;obtain⟨mb,I⟩: ∃b,b=f.heap.size:=⟨_,rfl⟩;rw[<-I] at H ⊢;obtain⟨eb,u⟩: ∃b,b=p.heap.size:=⟨_,rfl⟩;have H:=H.join (L':=(eb,oo 0 (none,0,0) mb)::L) (w1:=p.alloc (.cells ⟨[aa 0,.slice none 0 0,.map (some mb)]⟩ 210)) (by rw[u];exact H.base.again.alloc _ _);rw[<-u];refine⟨λn st h=> ∃(j:Nat) (s:Option Aq×Nat×Nat) (Ls:List (Nat×List AI)),j<=m/\n=m - j/\st.1=(j:Int)/\dm eI s (Bx j (-1)) Ls/\cv D G w0 h (Ls++((eb,oo 0 s mb)::L)) ((mb,.map ⟨[]⟩ 0)::M),⟨m,λh J=>⟨0,(none,0,0),[],Fo _,rfl,rfl,dm.nil eI,H.ext J⟩⟩,?_⟩;clear H;rintro n ⟨i, _⟩ h ⟨j,s,Ls,N,O,hi,v,H⟩;have hi:i=(j:Int):=hi;subst hi O;dsimp only;have P:(eb,oo 0 s mb)∈Ls++((eb,oo 0 s mb)::L):=B2 _ B3;refine ab (λc=>?_) (λc=>?_)
 ·have N:j<m:=by have:=of_decide_eq_true c;omega
  refine⟨rfl,rfl,aj.ku H.base P (show _=some (s.1,s.2.1,s.2.2) from rfl) λa k V Q=>?_⟩;have y:=by
   have z:=H.ext k;have R:=z.join (w1:=a.alloc (.cells ⟨[aa (-1)]⟩ 3)) (z.base.again.alloc _ _);exact(R.perm B7).ext Q
  refine Fu y v rfl (q:=(some ⟨a.heap.size,0,none⟩,1,1)) (ys:=[(-1:Int)]) rfl (rK (e:=eI) (x:=(-1:Int)) (y.base.db _ (B2 _ B3))) rfl rfl (by grind) λr l W S d=>⟨rfl,rfl,?_⟩;have d:=(d.sub (H6 (BY _ _) l)).perm (L':=(eb,oo 0 s mb)::(l++L)) B7.symm;refine λA B=>?_;have key:=aA.gx (b:=eb) (o:=0) (n:=1) 0 (d.ext B).base.again rfl (x:= .slice r.1 r.2.1 r.2.2) rfl rfl (λX T=>(d.ext B).join T) A (Ext.refl A);refine⟨key.1,λY U=>⟨m - (j+1),by omega,j+1,r,l,by omega,rfl,?_,?_,(key.2.ext U).perm B7⟩⟩
  ·rw[aw (by omega) (by omega)];omega
  ·rw[M4];exact S
 ·have:j=m:=by have:=of_decide_eq_false c;omega
  subst this;refine λa k=>E t.1 t.2 eb mb s Ls a ?_ ((H.ext k).perm B7.symm);rw[Do];exact v
end
abbrev sO:Type:=Int×Int×Int×Unit
abbrev eC:El:= .one .chan
abbrev NF (a:sO):AI:= .agg ⟨[aa a.1,aa a.2.1,aa a.2.2.1]⟩
abbrev CR:Type:=Nat×Nat×Nat
abbrev cO (c:CR) (q:List sO):Nat×CW:=(c.1,.chan 16 ⟨q.map NF⟩ false c.2.1 c.2.2 false)
abbrev qn (cs:List CR) (bx:List (List sO)):List (Nat×CW):=List.zipWith cO cs bx
abbrev dF (cs:List CR):List (Option Nat):=cs.map λc=>some c.1
abbrev lK (sb so:Option Aq×Nat×Nat):List AI:=[.slice sb.1 sb.2.1 sb.2.2,.slice so.1 so.2.1 so.2.2]
theorem Jn {cs:List CR} {bx:List (List sO)} {k:Nat} {c:CR} {q:List sO}:(qn cs bx).set k (cO c q)=qn (cs.set k c) (bx.set k q):=by
 induction cs generalizing bx k with
 |nil
 |cons=>
  cases bx with
  |nil
  |cons=>
   cases k with
   |zero
   |succ=>simp_all
theorem xF {cs:List CR} {bx:List (List sO)} {k:Nat} {c:CR} {q:List sO} (h1:cs[k]? =some c) (a:bx[k]? =some q):(qn cs bx)[k]? =some (cO c q):=by
 grind
theorem _root_.Go.Proofs.YtlcenllcmeebhaaGreat.dm.sub {D G:List Nat} {w0 w:A2} {L Ls:List (Nat×List AI)} {e:El} {s:Option Aq×Nat×Nat} {xs:List e.T} (h:dm e s xs Ls) (H:aK D G w0 w L) (a: ∀x∈Ls,x∈L) {lo n:Nat} (j:lo+n<=xs.length):
 Go.RX.oB w (ad s.1 (lo*aE e)) (n*aE e) (flat e ((xs.drop lo).take n)):=by
 obtain⟨h1,k,⟨a1,b⟩|⟨bs,rest,a1,c,b⟩⟩:=h
 ·have:xs=[]:=List.eq_nil_of_length_eq_zero (by omega);subst this;rw[a1,List.drop_nil,List.take_nil];rfl
 ·rw[a1,aV,Nat.zero_add];have d:(flat e ((xs.drop lo).take n)).length=n*aE e:=by rw[aF,FP,IR,In (by omega)]
  refine bL.oB (H.db _ (a _ (by rw[c];exact HZ.2 rfl))) d λi hi=>?_;have f:flat e xs=flat e (xs.take lo)++(flat e ((xs.drop lo).take n)++flat e ((xs.drop lo).drop n)):=by
   rw[<-dK, <-dK,Hq,Hq]
  have g:(flat e (xs.take lo)).length=lo*aE e:=by rw[aF,FP,In (by omega)]
  rw[f,Dg,GD (by grind),g,Nat.add_sub_cancel_left,Dg,If (by grind)]
section
variable {D G:List Nat} {w0 w:A2} {L Lb Lo:List (Nat×List AI)} {M:List (Nat×CW)} {sb so:Option Aq×Nat×Nat} {cs:List CR} {bx:List (List sO)} {op:List Int} {xb:Nat}
theorem Gp (H:aK D G w0 w L) (a:(xb,lK sb so)∈L) (b:sb.2.1=cs.length) (i:Int):af AC 106 [ag (ae xb),aa i] w (.bool (decide (0<=i/\i<(cs.length:Int)))):=by
 refine af.of (s:= .el _) λw' h'=>ai (B1 (Uy _ _ w' _) ?_);refine⟨λ_=>rfl,λ_=>rfl,aj.ku (H.ext h') a rfl λw1 h1=>⟨?_,h1⟩⟩
 grind
theorem Se (H:cv D G w0 w (Lb++L) M) (a:(xb,lK sb so)∈L) (b:dm eC sb (dF cs) Lb) (d: ∀x∈qn cs bx,x∈M) {i:Nat} {c:CR} {q:List sO} (hc:cs[i]? =some c) (e:bx[i]? =some q):
 af AC 82 [ag (ae xb),aa (i:Int)] w (aa (q.length:Int)):=by
 refine af.of (s:= .el (.one (.int .i64))) λw' h'=>ai (C:=U0) (aQ:=λ_=>[]) (B1 (KA _ _ w' _) ?_);have H:=H.ext h';have f:sb.2.1=cs.length:=by rw[b.1,B6]
 have hi:i<cs.length:=(DH.1 hc).1;have g:=b.sl H.base (λy h=>DB _ h) i (some c.1) (by rw[DA,hc];rfl);refine⟨_,Gp H.base (B2 _ a) f _,an (by rw[decide_eq_true (by omega)];rfl) ⟨rfl,rfl,aj.ku H.base (B2 _ a) (rfl) ⟨by grind,aj.of (some c.1) (by dsimp only;rw[Do];exact g.2) ?_⟩⟩⟩;have j:=(H.obj _ (d _ (DQ (xF hc e)))).1;exact⟨q.length,⟨c.1,16,q.map NF,c.2.1,c.2.2,rfl,j,by rw[B6]⟩,λl k=>⟨rfl,k⟩⟩
def OJ (op:List Int) (a:Int):Bool:=decide (1<=a/\a<=(op.length:Int))&&op.getD (a - 1).toNat 0==0
theorem VX (H:aK D G w0 w (Lo++L)) (b:(xb,lK sb so)∈L) (d:dm eI so op Lo) (i:Int) (hb:i<4611686018427387904):
 af AC 161 [ag (ae xb),aa i] w (.bool (OJ op i)):=by
 refine af.of (s:= .el (.one .bool)) λw' h'=>ai (C:=U0) (aQ:=λ_=>[]) (B1 (Qb _ _ w' _) ?_);have H:=H.ext h';have g:=d.1;refine⟨λ_=>rfl,λ_=>rfl,aj.ku H (B2 _ b) (rfl) ⟨λ_=>rfl,λ_=>rfl,aj.ku H (B2 _ b) (rfl) ?_⟩⟩;dsimp only;rw[g];by_cases c:1<=i/\i<=(op.length:Int)
 ·have j:aX .i64 i 1=i - 1:=bC (by omega) (by omega);have k:op[(i - 1).toNat]? =some (op.getD (i - 1).toNat 0):=by rw[FU,Dc (by omega)];rfl
  have f:=d.sl H (λy l=>DB _ l) _ _ k;rw[j];refine⟨λ_=>⟨f.1,by omega,by omega⟩,aj.of _ f.2 λm a=>⟨?_,a⟩⟩;unfold OJ;rw[decide_eq_true c,decide_eq_true c.2,decide_eq_true (show i>=1 from c.1)];rfl
 ·have e:(!(some (⟨xb,0,none⟩:Aq)).isNone&&decide (i>=1)&&decide (i<=(op.length:Int)))=false:=by
   grind
  rw[e];refine⟨λh=>(by cases h),⟨0,λh=>(by cases h),λm a=>⟨?_,a⟩⟩⟩;unfold OJ;rw[decide_eq_false c];rfl
def vA (bx:List (List sO)) (op:List Int) (i:Nat):(sO×Bool×Unit)×List (List sO)×List Int:=match bx[i]? with
 |some (a::q)=>((a,true,()),bx.set i q,op.set (a.1 - 1).toNat (op.getD (a.1 - 1).toNat 0 - 1))
 | _=>(((0,0,0,()),false,()),bx,op)
theorem Sf (H:cv D G w0 w ((xb,lK sb so)::(Lb++(Lo++L))) (qn cs bx++M)) (J:dm eC sb (dF cs) Lb) (m:dm eI so op Lo) (hcb:cs.length=bx.length) (i:Nat) (hi:i<cs.length)
 (V: ∀a q,bx[i]? =some (a::q)->(1<=a.1/\a.1<=(op.length:Int))/\ -1000<=op.getD (a.1 - 1).toNat 0/\op.getD (a.1 - 1).toNat 0<=1000) (X_:(op.length:Int)<4611686018427387904) {K:(Int×Int×Int×Unit)×Bool×Unit->A2->Prop}
 (k: ∀u d f,u.length=cs.length->dF u=dF cs->dm eI so (vA bx op i).2.2 d->cv D G w0 f ((xb,lK sb so)::(Lb++(d++L))) (qn u (vA bx op i).2.1++M)->K (vA bx op i).1 f):
 az AC 66 (.bu [.agg [.int .i64,.int .i64,.int .i64],.one .bool]) [ag (ae xb),aa (i:Int)] w K:=by
 refine λw1 h1=>aP (C:=U0) (aQ:=λ_=>[]) (B1 (P_ _ _ w1 K) λf W=>?_);have H:=(H.ext h1).ext W;obtain⟨b,hb⟩: ∃b,b=f.heap.size:=⟨_,rfl⟩;have H:=H.join (L':=(b,[aa 0,aa 0,aa 0])::(xb,lK sb so)::(Lb++(Lo++L))) (w1:=f.alloc (.cells ⟨[aa 0,aa 0,aa 0]⟩ 147)) (by rw[hb];exact H.base.again.alloc _ _);rw[<-hb];have X:sb.2.1=cs.length:=by rw[J.1,B6]
 obtain⟨c,hc⟩: ∃c,cs[i]? =some c:=⟨_,Dc hi⟩;obtain⟨q,n⟩: ∃q,bx[i]? =some q:=⟨_,Dc (by omega)⟩;have Y: ∀{x:Nat×List AI},x∈Lb->x∈(b,[aa 0,aa 0,aa 0])::(xb,lK sb so)::(Lb++(Lo++L)):=λh=>B4 _ (B4 _ (DB _ h));have N:=J.sl H.base (λy z=>Y z) i (some c.1) (by rw[DA,hc];rfl);refine⟨_,Gp H.base (B4 _ B3) X _,an (by rw[decide_eq_true (by omega)];rfl) ⟨rfl,rfl,aj.cq 1 H.base rfl (show _=some (sb.1,sb.2.1,sb.2.2) from rfl) ⟨⟨N.1,by omega,by dsimp only;omega⟩,aj.of (some c.1) (by dsimp only;rw[Do];exact N.2) λw3 Z=>?_⟩⟩⟩;have H:=H.ext Z;have A:=xF hc n;have O:(qn cs bx++M)[i]? =some (cO c q):=by rw[If (DH.1 A).1];exact A
 refine⟨c.1,16,q.map NF,c.2.1,c.2.2,rfl,H.get O,λB=>?_,λv vs P=>?_⟩
 ·have B:q=[]:=List.map_eq_nil_iff.1 B;subst B;have e:vA bx op i=(((0,0,0,()),false,()),bx,op):=by unfold vA;rw[n]
  rw[e] at k;intro g E;have H:=H.ext E;have key:=aA.all 0 H.base.again rfl (vs:=[aa 0,aa 0,aa 0]) rfl rfl (K:=λo=>cv D G w0 o ((b,[aa 0,aa 0,aa 0])::(xb,lK sb so)::(Lb++(Lo++L))) (qn cs bx++M)) (λo l=>H.join l) g (Ext.refl g);exact⟨key.1,λp r=>aj.at 0 (key.2.ext r).base rfl (show _=some (0,0,0,()) from rfl) (k cs Lo p rfl rfl m ((key.2.ext r).sub (BY _ _)))⟩
 ·cases q with
  |nil=>cases P
  |cons a q=>
   obtain⟨rfl,rfl⟩:=List.cons.inj P;obtain⟨⟨o1,o2⟩,o3,o4⟩:=V a q n;have e:vA bx op i=((a,true,()),bx.set i q,op.set (a.1 - 1).toNat (op.getD (a.1 - 1).toNat 0 - 1)):=by unfold vA;rw[n]
   rw[e] at k;refine⟨(a.1,a.2.1,a.2.2.1,()),rfl,λg E=>?_⟩;have H:=H.put O (o':= .chan 16 ⟨q.map NF⟩ false c.2.1 (c.2.2+1) false) trivial;have ez:(qn cs bx++M).set i (c.1,.chan 16 ⟨q.map NF⟩ false c.2.1 (c.2.2+1) false)=qn (cs.set i (c.1,c.2.1,c.2.2+1)) (bx.set i q)++M:=by
    rw[M5 _ _ (DH.1 A).1];congr 1;exact Jn (c:=(c.1,c.2.1,c.2.2+1))
   rw[ez] at H;have H:=H.ext E;obtain⟨s,Q⟩: ∃s,s=g.heap.size:=⟨_,rfl⟩;have H:=H.join (L':=(s,[aa 0,aa 0,aa 0])::(b,[aa 0,aa 0,aa 0])::(xb,lK sb so)::(Lb++(Lo++L))) (w1:=g.alloc (.cells ⟨[aa 0,aa 0,aa 0]⟩ 147)) (by rw[Q];exact H.base.again.alloc _ _);rw[<-Q];intro p r;have H:=H.ext r;have key:=aA.all 0 H.base.again rfl (vs:=[aa a.1,aa a.2.1,aa a.2.2.1]) rfl rfl (λo l=>H.join l) p (Ext.refl p);refine⟨key.1,?_⟩;have H:=key.2;have e1:aX .i64 a.1 1=a.1 - 1:=bC (by omega) (by omega);have hx:op[(a.1 - 1).toNat]? =some (op.getD (a.1 - 1).toNat 0):=by rw[FU,Dc (by omega)];rfl
   have acQ:=m.1;have F:=m.sl H.base (λy z=>B4 _ (B4 _ (B4 _ (B2 _ (DB _ z))))) _ _ hx;refine⟨rfl,rfl,aj.cq 2 H.base rfl (show _=some (so.1,so.2.1,so.2.2) from rfl) ⟨rfl,aj.cq 0 H.base rfl (show _=some a.1 from rfl) ?_⟩⟩;dsimp only;rw[e1];refine⟨⟨F.1,by omega,by omega⟩,aj.of _ F.2 ⟨⟨F.1,by omega,by omega⟩,?_⟩⟩;rw[bC (by omega) (by omega)];have Hp:=H.perm (by
    have I:(Lo++(Lb++L)).Perm (Lb++(Lo++L)):=by rw[<-Dg, <-Dg];exact Gj _ E5
    exact B7.trans (Dn _ (B7.trans (Dn _ (B7.trans (Dn _ I))))))
   refine stM Hp m (i:=(a.1 - 1).toNat) (by omega) (op.getD (a.1 - 1).toNat 0 - 1) rfl rfl λd w6 xM t=>?_;have t:=t.perm (L':=(s,[aa a.1,aa a.2.1,aa a.2.2.1])::(b,[aa 0,aa 0,aa 0])::(xb,lK sb so)::(Lb++(d++L))) (by
    have I:(Lb++(d++L)).Perm (d++(Lb++L)):=by rw[<-Dg, <-Dg];exact Gj _ E5
    refine List.Perm.symm ?_;exact B7.trans (Dn _ (B7.trans (Dn _ (B7.trans (Dn _ I.symm)))))
    )
   refine aj.at 0 t.base rfl (show _=some (a.1,a.2.1,a.2.2.1,()) from rfl) λR h7=>?_;have S:=t.ext h7;have key:=aA.all 1 S.base.again rfl (vs:=[aa a.1,aa a.2.1,aa a.2.2.1]) rfl rfl (λo l=>S.join l) R (Ext.refl R);refine⟨key.1,λw8 T=>aj.at 1 (key.2.ext T).base rfl (show _=some (a.1,a.2.1,a.2.2.1,()) from rfl) (k (cs.set i (c.1,c.2.1,c.2.2+1)) d w8 (Dx ..) ?_ xM ((key.2.ext T).sub ((BY _ _).trans (BY _ _))))⟩;refine GS λj=>?_;rw[DA,DA];by_cases U:i=j
   ·subst U;rw[FE hi,hc];rfl
   ·rw[Fi U]
end
section
variable {D G:List Nat} {w0 w:A2} {L:List (Nat×List AI)} {M:List (Nat×CW)}
theorem alM (H:cv D G w0 w L M) {cs:List AI} {e:TypeId} {K:Nat->A2->Prop} (k: ∀b w1,cv D G w0 w1 ((b,cs)::L) M->K b w1):aM w ⟨cs⟩ e K:=λw1 h1=>
 k _ _ ((H.ext h1).join ((H.ext h1).base.again.alloc cs e))
theorem WR (H:cv D G w0 w L M) (i:Nat) {b n:Nat} {l:List AI} {x:AI} {K:A2->Prop} (a:L[i]? =some (b,l)) (c:x.oneCell'=true) (e:Nat.blt n l.length=true) (k: ∀w1,cv D G w0 w1 (L.set i (b,l.set n x)) M->K w1):aA w (ad (ae b) n) [x] K:=λw1 h1=>
 aA.gx i (H.ext h1).base.again a c (by grind) (λd f=>k d ((H.ext h1).join (by grind))) w1 (Ext.refl w1)
theorem stB (H:cv D G w0 w L M) (i:Nat) {b:Nat} {l vs:List AI} {K:A2->Prop} (a:L[i]? =some (b,l)) (c:vs.all (·.oneCell')=true) (d:vs.length=l.length) (k: ∀w1,cv D G w0 w1 (L.set i (b,vs)) M->K w1):aA w (ae b) vs K:=λw1 h1=>
 aA.all i (H.ext h1).base.again a c d (λe f=>k e ((H.ext h1).join f)) w1 (Ext.refl w1)
theorem enM (H:cv D G w0 w L M) {K:A2->Prop} (k: ∀w1,cv D G w0 w1 L M->K w1):ao w K:=λ_ h=>k _ (H.ext h)
end
section
variable {D G:List Nat} {w0 w:A2} {L Lb Lo:List (Nat×List AI)} {M:List (Nat×CW)} {sb so:Option Aq×Nat×Nat} {cs:List CR} {bx:List (List sO)} {op:List Int} {xb:Nat}
theorem xG {α:Type} (A B C:List α):(A++(B++C)).Perm (B++(A++C)):=by
 grind[Gj,E5]
theorem HE (H:cv D G w0 w (Lb++L) M) (v:(xb,lK sb so)∈L) (f:dm eC sb (dF cs) Lb) (i:Nat) (hi:i<cs.length) (U:cs.length<=8) {K:Option Aq×Nat×Nat->A2->Prop}
 (k: ∀r g b,dm eC r ((dF cs).eraseIdx i) g->cv D G w0 b (g++(Lb++L)) M->K r b):
 az AC 202 (.el (.one .slice)) [ag (ae xb),aa (i:Int)] w K:=by
 refine λw1 h1=>ai (C:=U0) (aQ:=λ_=>[]) (B1 (GY _ _ w1 K) ?_);have H:=H.ext h1;obtain⟨p,n,c⟩:=sb;have V:n=(dF cs).length:=f.1;have W:(dF cs).length=cs.length:=B6 _;have hc:(dF cs).length<=c:=f.2.1;have l:aI .i64 (i:Int) 1=((i+1:Nat):Int):=by rw[aw (by omega) (by omega)];omega
 have m:(xb,lK (p,n,c) so)∈Lb++L:=B2 _ v;refine⟨rfl,rfl,aj.ku H.base m (show _=some (p,n,c) from rfl) ⟨?_,λb A=>?_⟩⟩
 ·dsimp only;omega
 have H:=H.ext A;dsimp only;have X:(Decidable.rec (λ_=>ad p 0) (λ_=>p) (instDecidableEqNat ((c:Int)).toNat 0:Decidable (((c:Int)).toNat=((0:Nat):Int).toNat)):Option Aq)=p:=F_ (show((c:Int)).toNat≠0 by omega)▸by
  rcases p with _|a
  ·rfl
  ·rfl
 have Y:((i:Int)).toNat - 0=i:=by omega
 have B:Go.RX.oB b p (i*aE eC) (flat eC ((dF cs).take i)):=by
  have:=f.sub H.base (λy h=>DB _ h) (lo:=0) (n:=i) (by omega);rw[Nat.zero_mul,List.drop_zero] at this;rcases p with _|a
  ·exact this
  ·have e:ad (some a) 0=some a:=by show some (a.add 0)=some a;rfl
   rw[e] at this;exact this
 have key:=Fu (Ls:=[]) H (dm.nil eC) (show gT eC=true from rfl) (q:=(p,i,(c:Int).toNat - 0)) (ys:=(dF cs).take i) (by rw[FP,In (by omega)]) B (t:=202) (size:=1) (bytes:=8) (z:=⟨[Value.chan none]⟩) rfl rfl (by rw[Kb,FP];omega)
  (R:=λr b=>(some (⟨xb,0,none⟩:Aq)).isSome=true/\(some (⟨xb,0,none⟩:Aq)).isSome=true/\aj b none (ad (ae xb) 0) (.one .slice) λx=>(0<=aI .i64 (i:Int) 1/\aI .i64 (i:Int) 1<=((x.2.1:Nat):Int)/\((x.2.1:Nat):Int)<=((x.2.2:Nat):Int)/\((x.2.2:Nat):Int)<=((x.2.2:Nat):Int))/\ ∀w1,Ext b w1->
   mz w1 202 1 8 ⟨[Value.chan none]⟩ (r.1,r.2.1,r.2.2) (Decidable.rec (λ_=>ad x.1 ((aI .i64 (i:Int) 1).toNat*1)) (λ_=>x.1) (instDecidableEqNat ((x.2.2:Nat):Int).toNat (aI .i64 (i:Int) 1).toNat),((x.2.1:Nat):Int).toNat - (aI .i64 (i:Int) 1).toNat,((x.2.2:Nat):Int).toNat - (aI .i64 (i:Int) 1).toNat) λr b=>ao b λw1=>K (r.1,r.2.1,r.2.2) w1) λr g Z E o=>?_
 grind
 ·refine⟨rfl,rfl,aj.ku o.base (B2 _ m) (show _=some (p,n,c) from rfl) ⟨?_,λF I=>?_⟩⟩
  ·rw[l];dsimp only;omega
  have s:=o.ext I;rw[l];dsimp only;have J:Go.RX.oB F (if((c:Int)).toNat=((i+1:Nat):Int).toNat then p else ad p (((i+1:Nat):Int).toNat*1)) ((((n:Nat):Int).toNat - ((i+1:Nat):Int).toNat)*aE eC) (flat eC ((dF cs).drop (i+1))):=by
   by_cases d:c=i+1
   ·have:(dF cs).drop (i+1)=[]:=List.drop_eq_nil_of_le (by omega);rw[this,ay (by omega),show((((n:Nat):Int).toNat - ((i+1:Nat):Int).toNat))=0 by omega];rcases p with _|a
    ·rfl
    ·exact⟨rfl,λj N=>by simp at N⟩
   ·rw[au (by omega)];have:=f.sub s.base (λy h=>B2 _ (DB _ h)) (lo:=i+1) (n:=(dF cs).length - (i+1)) (by omega);rw[List.take_of_length_le (by rw[IR];exact FS _)] at this;rw[show((((n:Nat):Int).toNat - ((i+1:Nat):Int).toNat))=(dF cs).length - (i+1) by omega];exact this
  have O:(Decidable.rec (λ_=>ad p (((i+1:Nat):Int).toNat*1)) (λ_=>p) (instDecidableEqNat ((c:Int)).toNat ((i+1:Nat):Int).toNat):Option Aq)=if((c:Int)).toNat=((i+1:Nat):Int).toNat then p else ad p (((i+1:Nat):Int).toNat*1):=by
   by_cases d:((c:Int)).toNat=((i+1:Nat):Int).toNat
   ·rw[ay d,O4 d]
   ·rw[au d,F_ d]
  rw[O];refine Fu s E rfl (ys:=(dF cs).drop (i+1)) (by grind) J rfl rfl (by
   rw[N6,FP,IR];omega) λr2 P w5 u Q=>λS T=>k _ P S ?_ (Q.ext T)
  rw[JW];rw[N6] at u;exact u
def vp (i j:Nat):Nat:=if j<i then j else j+1
def Tr (i k:Nat):Nat:=if k<i then k else k - 1
def lr (bx:List (List sO)) (i j:Nat) (a:sO):List (List sO):=bx.zipIdx.map λ(q,k)=>if k≠i/\Tr i k<j then q++[a] else q
theorem qh {bx:List (List sO)} {i j k:Nat} {a:sO} {q:List sO} (h:bx[k]? =some q):(lr bx i j a)[k]? =some (if k≠i/\Tr i k<j then q++[a] else q):=by grind[lr]
theorem HF {bx:List (List sO)} {i j:Nat} {a:sO} {q:List sO} (h:bx[vp i j]? =some q):(lr bx i j a).set (vp i j) (q++[a])=lr bx i (j+1) a:=by
 have c:vp i j≠i/\Tr i (vp i j)=j:=by unfold vp Tr;grind
 refine GS λk=>?_;by_cases e:vp i j=k
 ·subst e;rw[FE (by grind[lr,B6,N7]),qh h,ay (by grind)]
 ·rw[Fi e];cases b:bx[k]? with
  |none=>
   grind[lr,B6,N7]
  |some d=>
   rw[qh b,qh b];have:(k≠i/\Tr i k<j)<->(k≠i/\Tr i k<j+1):=by
    grind[Tr,vp]
   grind
def vB (bx:List (List sO)) (op:List Int) (n:Nat) (t p:Int):Int×List (List sO)×List Int:=
 if t<1\/t>16\/p< -1\/p>=65536 then(0,bx,op)
 else if(bx.eraseIdx n).any (λq=>q.length==16)=true then(0,bx,op)
 else((op.length:Int)+1,(bx.zipIdx.map λ(q,i)=>if i=n then q else q++[((op.length:Int)+1,t,p,())]),op++[(bx.length:Int) - 1])
theorem ME {bx:List (List sO)} {i:Nat} (hi:i<bx.length) (a:sO):lr bx i (bx.length - 1) a=bx.zipIdx.map λ(q,k)=>if k=i then q else q++[a]:=by
 refine List.map_congr_left λx b=>?_;obtain⟨q,k⟩:=x;dsimp;by_cases e:k=i
 grind
 ·rw[au e,ay (by grind[Tr])]
theorem HG (bx:List (List sO)) (i:Nat) (a:sO):lr bx i 0 a=bx:=by
 simp[lr]
theorem Cj {α:Type} (l:List α) (i j:Nat):(l.eraseIdx i)[j]? =l[vp i j]? :=by grind[vp]
theorem Sg (H:cv D G w0 w ((xb,lK sb so)::(Lb++(Lo++L))) (qn cs bx++M)) (hs:dm eC sb (dF cs) Lb) (J:dm eI so op Lo) (hcb:cs.length=bx.length) (i:Nat) (hi:i<cs.length) (hl:cs.length<=8) (X_:(op.length:Int)<=1000000000) (Ya: ∀q∈bx,q.length<=16) (t g:Int) {K:Int×Int×Unit->A2->Prop}
 (k: ∀e f o h z,f.length=cs.length->dF f=dF cs->dm eI o (vB bx op i t g).2.2 h->cv D G w0 z ((xb,lK sb o)::(Lb++(h++L))) (qn f (vB bx op i t g).2.1++M)->K ((vB bx op i t g).1,e,()) z):
 az AC 157 (.bu [.one (.int .i64),.one (.int .i64)]) [ag (ae xb),aa (i:Int),aa t,aa g] w K:=by
 refine λw1 h1=>ai (C:=U0) (aQ:=tX) (B1 (Qa _ _ t g w1 K) ?_);have H:=H.ext h1;have hn:sb.2.1=cs.length:=by rw[hs.1,B6]
 refine⟨λ_=>rfl,λ_=>rfl,aj.cq 0 H.base rfl (show _=some (sb.1,sb.2.1,sb.2.2) from rfl) ?_⟩;dsimp only;rw[hn];refine an (by rw[show((cs.length:Int)==0)=false by rw[beq_eq_false_iff_ne];omega];rfl) ⟨_,Gp H.base B3 hn _,an (by rw[decide_eq_true (by omega)];rfl) ?_⟩;by_cases N:t<1\/t>16\/g< -1\/g>=65536
 ·refine aB ?_ (enM H λz H=>?_)
  ·simp only[NL,decide_eq_true_eq];omega
  ·have e:vB bx op i t g=(0,bx,op):=ay N;rw[e] at k;exact k 1 cs so Lo z rfl rfl J H
 refine an ?_ ?_
 ·simp only[FR,decide_eq_false_iff_not];omega
 have Hp:cv D G w0 w1 (Lb++((xb,lK sb so)::(Lo++L))) (qn cs bx++M):=H.perm B7;refine HE Hp B3 hs i hi hl λr l z O H=>?_;have hrn:r.2.1=cs.length - 1:=by rw[O.1,Ih,B6,ay hi]
 have hxm:(xb,lK sb so)∈l++(Lb++((xb,lK sb so)::(Lo++L))):=B2 _ (B2 _ B3);have aay: ∀j,j<cs.length - 1-> ∃c q,cs[vp i j]? =some c/\bx[vp i j]? =some q/\((dF cs).eraseIdx i)[j]? =some (some c.1):=λj p=>by
  have h2:vp i j<cs.length:=by unfold vp;split<;>omega
  obtain⟨c,hc⟩: ∃c,cs[vp i j]? =some c:=⟨_,Dc h2⟩;obtain⟨q,m⟩: ∃q,bx[vp i j]? =some q:=⟨_,Dc (by omega)⟩;exact⟨c,q,hc,m,by rw[Cj,DA,hc];rfl⟩
 refine⟨λn st u=> ∃j:Nat,j<=cs.length - 1/\n=cs.length - 1 - j/\st.1=(j:Int)/\(∀s q,s<j->(bx.eraseIdx i)[s]? =some q->q.length≠16)/\cv D G w0 u (l++(Lb++((xb,lK sb so)::(Lo++L)))) (qn cs bx++M),⟨cs.length - 1,λu h3=>⟨0,Fo _,rfl,rfl,λs q p=>absurd p (NR _),H.ext h3⟩⟩,?_⟩;clear H Hp;rintro n ⟨P, _⟩ u ⟨j,p,Q,v,R,H⟩;have v:P=(j:Int):=v;subst v Q;dsimp only;rw[hrn];refine ab (λc=>?_) (λc=>?_)
 ·have p:j<cs.length - 1:=by have:=of_decide_eq_true c;omega
  obtain⟨c,q,hc,m,S⟩:=aay j p;have E:=O.sl H.base (λy T=>DB _ T) j _ S;have vh:=(H.obj _ (DB _ (DQ (xF hc m)))).1;refine⟨⟨E.1,by omega,by omega⟩,aj.of (some c.1) (by rw[Do];exact E.2) ⟨q.length,⟨c.1,16,q.map NF,c.2.1,c.2.2,rfl,vh,by rw[B6]⟩,?_⟩⟩;refine ab (λF=>enM H λU H=>?_) (λF U h4=>⟨cs.length - 1 - (j+1),by omega,j+1,by omega,rfl,?_,λs q' V W=>?_,H.ext h4⟩)
  ·have F:q.length=16:=by have:(q.length:Int)=16:=(by simpa using F);omega
   have e:vB bx op i t g=(0,bx,op):=by
    unfold vB;rw[au N,ay (Ga.2 ⟨q,DQ (show(bx.eraseIdx i)[j]? =some q by rw[Cj];exact m),by simp[F]⟩)]
   rw[e] at k;refine k 3 cs so Lo U rfl rfl J ((H.sub (GF _ _)).perm B7.symm)
  ·rw[aw (by omega) (by omega)];omega
  ·by_cases e:s=j
   ·subst e;rw[Cj,m] at W;cases W;have: ¬ (q.length:Int)=16:=by simpa using F
    omega
   ·exact R s q' (by omega) W
 have X:j=cs.length - 1:=by have:=of_decide_eq_false c;omega
 subst X;have wC: ¬ (bx.eraseIdx i).any (λq=>q.length==16)=true:=λc=>by
  obtain⟨q,m,WT⟩:=Ga.1 c;obtain⟨s,V⟩:=BJ m;have zR:s<(bx.eraseIdx i).length:=(DH.1 V).1;rw[Ih,ay (by omega)] at zR;exact R s q (by omega) V (by simpa using WT)
 have ep:vB bx op i t g=((op.length:Int)+1,lr bx i (bx.length - 1) ((op.length:Int)+1,t,g,()),op++[(bx.length:Int) - 1]):=by
  unfold vB;rw[au N,au wC,ME (by omega)]
 rw[ep] at k;refine⟨rfl,rfl,aj.ku H.base hxm (show _=some (so.1,so.2.1,so.2.2) from rfl) (alM H λb U H w5 h5=>?_)⟩;have H:=H.ext h5;have Y:cv D G w0 w5 (Lo++((b,[aa ((cs.length - 1:Nat):Int)])::(l++(Lb++((xb,lK sb so)::L))))) (qn cs bx++M):=H.perm (by
  refine B7.trans (Dn _ ?_);have p1:(Lo++(l++(Lb++((xb,lK sb so)::L)))).Perm (l++(Lo++(Lb++((xb,lK sb so)::L)))):=xG _ _ _;refine p1.trans (Ik _ ?_);have p2:(Lo++(Lb++((xb,lK sb so)::L))).Perm (Lb++(Lo++((xb,lK sb so)::L))):=xG _ _ _;exact p2.trans (Ik _ B7))
 refine Fu Y J rfl (q:=(some ⟨b,0,none⟩,1,1)) (ys:=[((cs.length - 1:Nat):Int)]) rfl (rK (e:=eI) (x:=((cs.length - 1:Nat):Int)) (Y.base.db _ (B2 _ B3))) rfl rfl (by simp only[I2];omega) λo h w6 Z H=>?_;have acj:op++[((cs.length - 1:Nat):Int)]=op++[(bx.length:Int) - 1]:=by rw[show((cs.length - 1:Nat):Int)=(bx.length:Int) - 1 by omega]
 rw[acj] at Z;have H:=(H.sub (H6 (BY _ _) h)).perm (L':=(xb,lK sb so)::(l++(Lb++(h++L)))) (by
  have p2:(l++(Lb++(h++L))).Perm (h++(l++(Lb++L))):=by
   have a1:(Lb++(h++L)).Perm (h++(Lb++L)):=xG _ _ _;have a2:(l++(h++(Lb++L))).Perm (h++(l++(Lb++L))):=xG _ _ _;exact(Ik _ a1).trans a2
  refine(Dn _ p2).trans ?_;have a3: ∀(A B C:List (Nat×List AI)) (x:Nat×List AI),(x::(A++(B++(C++L)))).Perm (A++(B++(C++(x::L)))):=λA B C x=>by
   rw[<-Dg, <-Dg, <-Dg, <-Dg];exact B7.symm
  exact a3 _ _ _ _)
 refine⟨rfl,rfl,WR H 0 rfl rfl rfl λw7 H=>⟨rfl,rfl,aj.cq 0 H.base rfl (show _=some (o.1,o.2.1,o.2.2) from rfl) ?_⟩⟩;have H:cv D G w0 w7 ((xb,lK sb o)::(l++(Lb++(h++L)))) (qn cs bx++M):=H;have aag:(o.2.1:Int)=(op.length:Int)+1:=by
  have:=Z.1;rw[GG,I2] at this;omega
 dsimp only;rw[aag];obtain⟨a,ha⟩: ∃a:sO,a=((op.length:Int)+1,t,g,()):=⟨_,rfl⟩;rw[<-ha] at k;refine⟨λn st u=> ∃(j:Nat) (f:List CR),j<=cs.length - 1/\n=cs.length - 1 - j/\st.1=(j:Int)/\f.length=cs.length/\dF f=dF cs/\cv D G w0 u ((xb,lK sb o)::(l++(Lb++(h++L)))) (qn f (lr bx i j a)++M),⟨cs.length - 1,λw8 h8=>⟨0,cs,Fo _,rfl,rfl,rfl,rfl,by rw[HG];exact H.ext h8⟩⟩,?_⟩;clear H Y;rintro n ⟨P, _⟩ w8 ⟨j,f,p,Q,v,Da,BI,H⟩;have v:P=(j:Int):=v;subst v Q;dsimp only;refine ab (λc=>?_) (λc=>?_)
 ·have p:j<cs.length - 1:=by have:=of_decide_eq_true c;omega
  obtain⟨c,q,hc,m,S⟩:=aay j p;have E:=O.sl H.base (λy T=>B4 _ (DB _ T)) j _ S;refine⟨⟨E.1,by omega,by omega⟩,aj.of (some c.1) (by rw[Do];exact E.2) λw9 h9=>?_⟩;have H:=H.ext h9;obtain⟨d,I⟩: ∃d,f[vp i j]? =some d:=⟨_,Dc (by rw[Da];exact(DH.1 hc).1)⟩;have WU:d.1=c.1:=by
   have h1:(dF f)[vp i j]? =some (some d.1):=by rw[DA,I];rfl
   rw[BI,DA,hc] at h1;exact(Option.some.inj (Option.some.inj h1)).symm
  have cW:vp i j≠i/\Tr i (vp i j)=j:=by unfold vp Tr;split<;>(first|omega|(constructor<;>(try split)<;>omega))
  have hsq:(lr bx i j a)[vp i j]? =some q:=by rw[qh m,au λc=>by rw[cW.2] at c;exact Nat.lt_irrefl _ c.2]
  have hz:=xF I hsq;have hmz:(qn f (lr bx i j a)++M)[vp i j]? =some (cO d q):=by rw[If (DH.1 hz).1];exact hz
  have WT:q.length≠16:=R j q p (by rw[Cj];exact m);have acR:=Ya q (DQ m);refine⟨d.1,16,q.map NF,d.2.1,d.2.2,by rw[WU],H.get hmz,by rw[B6];omega,?_⟩;have H:=H.put hmz (o':= .chan 16 ⟨(q++[a]).map NF⟩ false (d.2.1+1) d.2.2 false) trivial;have ez:(qn f (lr bx i j a)++M).set (vp i j) (d.1,.chan 16 ⟨(q++[a]).map NF⟩ false (d.2.1+1) d.2.2 false)=qn (f.set (vp i j) (d.1,d.2.1+1,d.2.2)) (lr bx i (j+1) a)++M:=by
   rw[M5 _ _ (DH.1 hz).1, <-HF m];congr 1;exact Jn (c:=(d.1,d.2.1+1,d.2.2))
  rw[ez] at H;have ev:(q.map NF).append [Value.agg ⟨[aa ((op.length:Int)+1),aa t,aa g]⟩]=(q++[a]).map NF:=by
   rw[Dk,ha];rfl
  show∀u,Ext (w9.putObj d.1 (.chan 16 ⟨(q.map NF).append _⟩ false (d.2.1+1) d.2.2 false)) u-> _;rw[ev];refine λj_ C4=>⟨cs.length - 1 - (j+1),by omega,j+1,f.set (vp i j) (d.1,d.2.1+1,d.2.2),by omega,rfl,?_,by rw[Dx];exact Da,?_,H.ext C4⟩
  ·rw[aw (by omega) (by omega)];omega
  ·rw[<-BI];refine GS λy=>?_;rw[DA,DA];by_cases ej:vp i j=y
   ·subst ej;rw[FE (DH.1 I).1,I];rfl
   ·rw[Fi ej]
 ·have X:j=cs.length - 1:=by have:=of_decide_eq_false c;omega
  subst X;refine enM H λw9 H=>k 0 f o h w9 Da BI Z ?_;rw[<-hcb];exact H.sub (List.Sublist.cons_cons _ (GF _ _))
theorem VY (H:cv D G w0 w L M) (n:Int) {K:Option Aq×Int×Unit->A2->Prop} (kb:n<1\/n>8-> ∀w1,cv D G w0 w1 L M->K (none,1,()) w1)
 (t:1<=n->n<=8-> ∀xb cs sb Lb w1,cs.length=n.toNat->dm eC sb (dF cs) Lb->cv D G w0 w1 ((xb,lK sb (none,0,0))::(Lb++L)) (qn cs (Bx n.toNat [])++M)->K (some ⟨xb,0,none⟩,0,()) w1):
 az AC 85 (.bu [.one .ptr,.one (.int .i64)]) [aa n] w K:=by
 refine λw1 h1=>ai (C:=U0) (aQ:=vO) (B1 (Uz n w1 K) ?_);have H:=H.ext h1;refine ab (λc=>λk u=>kb (by simpa using c) k (H.ext u)) (λc=>alM H λxb k H=>?_);have l:1<=n/\n<=8:=by
  grind
 obtain⟨m,rfl⟩: ∃m:Nat,n=(m:Int):=⟨n.toNat,by omega⟩;refine⟨λn st d=> ∃(j:Nat) (cs:List CR) (s:Option Aq×Nat×Nat) (Ls:List (Nat×List AI)),j<=m/\n=m - j/\st.1=(j:Int)/\cs.length=j/\dm eC s (dF cs) Ls/\cv D G w0 d (Ls++((xb,lK s (none,0,0))::L)) (qn cs (Bx j [])++M),⟨m,λd v=>⟨0,[],(none,0,0),[],Fo _,rfl,rfl,rfl,dm.nil eC,H.ext v⟩⟩,?_⟩;clear H;rintro n ⟨i, _⟩ d ⟨j,cs,s,Ls,y,z,hi,f,p,H⟩;have hi:i=(j:Int):=hi;subst hi z;dsimp only;have A:(xb,lK s (none,0,0))∈Ls++((xb,lK s (none,0,0))::L):=B2 _ B3;refine ab (λc=>?_) (λc=>?_)
 ·have y:j<m:=by have:=of_decide_eq_true c;omega
  refine⟨rfl,rfl,aj.ku H.base A (show _=some (s.1,s.2.1,s.2.2) from rfl) λg h=>?_⟩;have H:=(H.ext h).alloc (o:= .chan 16 #[] false 0 0 false) trivial;obtain⟨c1,B⟩: ∃c1,c1=g.heap.size:=⟨_,rfl⟩;rw[<-B] at H ⊢;refine alM H λb J H N E=>?_;have H:=(H.ext E).perm (L':=Ls++((b,[.chan (some c1)])::(xb,lK s (none,0,0))::L)) B7;refine Fu H p rfl (q:=(some ⟨b,0,none⟩,1,1)) (ys:=[some c1]) rfl (rK (e:=eC) (x:=some c1) (H.base.db _ (B2 _ B3))) rfl rfl (by grind) λr a O P H=>⟨rfl,rfl,?_⟩;have H:=(H.sub (H6 (BY _ _) a)).perm (L':=(xb,lK s (none,0,0))::(a++L)) B7.symm;refine WR H 0 rfl rfl rfl λQ H R F=>⟨m - (j+1),by omega,j+1,cs++[(c1,0,0)],r,a,by omega,rfl,?_,by rw[GG,f];rfl,?_,?_⟩
  ·rw[aw (by omega) (by omega)];omega
  grind
  ·have I:qn (cs++[(c1,0,0)]) (Bx (j+1) [])=qn cs (Bx j [])++[cO (c1,0,0) []]:=by
    unfold qn;rw[M4,List.zipWith_append (by rw[f,E4])];rfl
   rw[I,Dg];refine((H.ext F).perm (L':=a++((xb,lK r (none,0,0))::L)) B7).iP ?_;exact B7
 ·have:j=m:=by have:=of_decide_eq_false c;omega
  subst this;refine λg h=>t l.1 l.2 xb cs s Ls g (by rw[Do];exact f) p ?_;rw[Do];exact(H.ext h).perm B7.symm
end
end Go.Proofs.YtlcenllcmeebhaaGreat.Mu
namespace Go.Proofs.YtlcenllcmeebhaaGreat
set_option maxRecDepth 100000
open Go.RX D
def mL (g:Nat->Option GV):Option Nat:=((Ag 16).find? λi=>(g (i+1)).isNone).map (· +1)
theorem nQ {g:Nat->Option GV} {v:Nat}:mL g=some v<->(1<=v/\v<=16)/\g v=none/\ ∀u,1<=u->u<v->(g u).isSome:=by
 unfold mL;rw[Oa];constructor
 ·rintro⟨i,hi,rfl⟩;rw[NG] at hi;obtain⟨h1,a,b⟩:=hi;rw[Dj] at a;refine⟨by omega,by simpa using h1,λu c d=>?_⟩;have:=b (u - 1) (by omega);rw[show u - 1+1=u by omega] at this;simpa using this
 ·rintro⟨h1,a,b⟩;refine⟨v - 1,?_,by omega⟩;rw[NG];refine⟨by rw[show v - 1+1=v by omega,a];rfl,Dj.2 (by omega),λj e=>?_⟩;have:=b (j+1) (by omega) (by omega);simpa using this
theorem HJ {g:Nat->Option GV}:mL g=none<-> ∀u,1<=u->u<=16->(g u).isSome:=by
 unfold mL;rw[Of,Hh];constructor
 ·intro h u b c;have:=h (u - 1) (Dj.2 (by omega));rw[show u - 1+1=u by omega] at this;cases a:g u with
  |none=>rw[a] at this;exact absurd rfl this
  |some x=>rfl
 ·intro h i hi e;have:=h (i+1) (by omega) (by have:=Dj.1 hi;omega);rw[Option.isNone_iff_eq_none.1 e] at this;cases this
def oY (h:HS):Int:=match mL h.g with
 |none=>3
 |some v=>rj h.s (v:Int)
def AH (h:HS):Int:=match mL h.g with
 |none=>0
 |some v=>(v:Int)
def gP (h:HS):HS:=match mL h.g with
 |none=>h
 |some v=>if rj h.s (v:Int)=0 then{h with s:=iK h.s (v:Int) λ_=>0,g:=bj h.g v (some ⟨eh h.s (v:Int),[]⟩)} else h
theorem nR (A:Nat->GA) (g:Nat->Option GV):(mw A g).length=17:=by
 unfold mw;rw[B6,List.length_range]
theorem Jo (Q:Sys) (X:HX) (A:Nat->GA) (g:Nat->Option GV):(e9 Q X A g).length=21:=by
 unfold e9;rw[GG,nR];rfl
theorem Jp {Q:Sys} {X:HX} {A A':Nat->GA} {g g':Nat->Option GV} {v:Nat} (hv:v<17) (h: ∀j,j≠v->A' j=A j/\g' j=g j):(e9 Q X A g).set (4+v*1) (ag (kK A' g' v))=e9 Q X A' g':=by
 have e:(mw A g).set v (ag (kK A' g' v))=mw A' g':=by
  apply GS;intro i;by_cases hi:i<17
  ·rw[u' hi];by_cases e:v=i
   ·subst e;rw[FE (by rw[nR];exact hi)]
   ·rw[Fi e,u' hi];obtain⟨h1,a⟩:=h i (λe'=>e e'.symm);unfold kK;rw[h1,a]
  ·rw[NI (by rw[Dx,nR];omega),NI (by rw[nR];omega)]
 unfold e9;rw[Hr _ _ (by show 4<=4+v*1;omega)];rw[<-e];show _++(mw A g).set (4+v*1 - 4) _= _;rw[show 4+v*1 - 4=v by omega]
section
variable {Q:Sys} {X:HX} {D G:List Nat} {w0 w:A2} {h:HS} {L:List (Nat×List AI)} {K:RS->A2->Prop}
theorem aby {A:Nat->GA} (W:C6 A h) {v:Nat} (hv:1<=v/\v<=16) (f:h.g v=none) {s':WD} {r:Int} {bg bt bm l m:Nat} {n la:List AI} {j:A2}
 (H:SM Q D G w0 j s' ((bg,[ag (ae bt),.map (some bm)])::(bt,oF Q (v:Int) r false)::(l,n)::(m,la)::(X.hb,(e9 Q X A h.g).set (4+v*1) (ag (ae bg)))::(X.gb,mA X.uz h.gr.length X.c)::(X.uz,flat eG h.gr++X.rest)::(X.pb,Po.gJ 4 h.po)::(a6 Q A h.g (Ag 17)++L)) ((bm,.map #[] 0)::cK A h.g (Ag 17))):
 iB Q X D G w0 j {h with s:=s',g:=bj h.g v (some ⟨r,[]⟩)} L:=by
 have d:=Bk A h.g v ⟨bg,bt,bm,0,[]⟩ (some ⟨r,[]⟩);have o:kK (oy A v ⟨bg,bt,bm,0,[]⟩) (bj h.g v (some ⟨r,[]⟩)) v=some ⟨bg,0,none⟩:=by
  unfold kK;rw[fy,qf]
 refine⟨oy A v ⟨bg,bt,bm,0,[]⟩,⟨λ{i x} a=>?_,λ{i x} a=>?_,W.gl,W.pt,W.gk⟩,?_⟩
 ·have a:bj h.g v (some ⟨r,[]⟩) i=some x:=a;unfold bj at a;by_cases e:i=v
  ·omega
  ·rw[au e] at a;exact W.iM a
 ·have a:bj h.g v (some ⟨r,[]⟩) i=some x:=a;unfold bj at a;unfold oy;by_cases e:i=v
  ·rw[ay e] at a ⊢;cases a;exact qw.nil
  ·rw[au e] at a ⊢;exact W.mp a
 ·have k:=Jp (Q:=Q) (X:=X) (by omega:v<17) d;rw[o] at k;rw[k] at H;refine((H.sub ((((BY _ _).trans (BY _ _)).cons_cons _).cons_cons _)).perm ?_).iP ?_
  ·have p1:(a6 Q (oy A v ⟨bg,bt,bm,0,[]⟩) (bj h.g v (some ⟨r,[]⟩)) (Ag 17)).Perm ([(bg,[ag (ae bt),.map (some bm)]),(bt,oF Q (v:Int) r false)]++a6 Q A h.g (Ag 17)):=by
    have b:=v_ (Q:=Q) (A:=oy A v ⟨bg,bt,bm,0,[]⟩) (by omega:v<17) (fy h.g v (some ⟨r,[]⟩));rw[wc d] at b;have p:=(zz (Q:=Q) (A:=A) (by omega:v<17) f).symm;have e:gO Q (oy A v ⟨bg,bt,bm,0,[]⟩) v ⟨r,[]⟩=[(bg,[ag (ae bt),.map (some bm)]),(bt,oF Q (v:Int) r false)]:=by
     unfold gO;rw[qf]
    rw[e] at b;exact b.trans (p.append_left _)
   refine(((((p1.append_right L).cons _).cons _).cons _).cons _).trans ?_;exact(E5 (l₁:=[_, _, _, _]) (l₂:=[_, _])).append_right (a6 Q A h.g (Ag 17)++L)
  ·have b:=l9 (A:=oy A v ⟨bg,bt,bm,0,[]⟩) (by omega:v<17) (fy h.g v (some ⟨r,[]⟩));rw[pE d,qf] at b;exact b.trans ((zy (A:=A) (by omega:v<17) f).symm.cons _)
theorem MF (H:iB Q X D G w0 w h L) (F: ¬ (h.s.1.length:Int)<16*(h.s.2.length:Int)) (v k a b c:Int) (kk: ∀V x,(oY h=0->V=AH h)->iB Q X D G w0 x (gP h) L->K (V,oY h,()) x):
 aD AC 121 (.el (.agg iv)) [ag (ae X.hb),aa v,.agg ⟨fR k a b c⟩] w K:=by
 obtain⟨A,W,H⟩:=H;obtain⟨I,S,J⟩:=H.call;refine aP (C:=V0) (aQ:=n9) (B1 (E9 _ v k a b c w K) ?_);refine S.al λM x S=>S.al λN w3 S=>?_;refine⟨λn q w'=>(1<=q.1/\q.1<=17/\(n:Int)=17 - q.1)/\(∀u:Nat,1<=u->(u:Int)<q.1->(h.g u).isSome)/\bh Q [] I w w' h.s ((N,[ax 0,aa 0])::(M,fR k a b c)::dL Q X A h (a6 Q A h.g (Ag 17)++L)),⟨16,λO P=>⟨by decide,λu l p=>(by dsimp only at p;omega),S.ext P⟩⟩,?_⟩;clear S;rintro n ⟨q,u⟩ O ⟨⟨R,T,U⟩,r,S⟩;dsimp only at R T U r ⊢;obtain⟨i,hi⟩: ∃i:Nat,q=(i:Int):=⟨q.toNat,by omega⟩;subst hi;rw[show((i:Int)).toNat=i from rfl];refine ab (λd=>?_) (λd=>⟨trivial,S.res (j:=0) rfl 0 3 λt S=>?_⟩)
 ·have d:(i:Int)<=16:=by simpa using d
  have hc:=S.oU (X:=X) (A:=A) (g:=h.g) (B4 _ (B4 _ B3)) (v:=(i:Int)) ⟨by omega,d⟩;rw[show((i:Int)).toNat=i from rfl] at hc;refine⟨rfl,rfl,⟨rfl,by omega,by show(i:Int)<((17:Nat):Int);omega⟩,aj.of _ hc ?_⟩;unfold kK;cases z:h.g i with
  |some y=>
   refine aB rfl λt Y=>⟨n - 1,by omega,⟨?_,?_,?_⟩,λu l p=>?_,S.ext Y⟩
   ·rw[aw (by omega) (by omega)];omega
   ·rw[aw (by omega) (by omega)];omega
   ·rw[aw (by omega) (by omega)];omega
   ·rw[aw (by omega) (by omega)] at p;by_cases e:u=i
    ·subst e;rw[z];rfl
    ·exact r u l (by omega)
  |none=>
   have m:mL h.g=some i:=nQ.2 ⟨by omega,z,λu l p=>r u l (by omega)⟩;have cE:oY h=rj h.s (i:Int):=by unfold oY;rw[m]
   have Z:AH h=(i:Int):=by unfold AH;rw[m]
   have B:gP h=if rj h.s (i:Int)=0 then{h with s:=iK h.s (i:Int) λ_=>0,g:=bj h.g i (some ⟨eh h.s (i:Int),[]⟩)} else h:=by unfold gP;rw[m]
   have eu:aG .u64 (i:Int)=(i:Int):=ee ⟨by omega,by omega⟩;rw[cE,Z,B] at kk;refine an rfl ⟨rfl,rfl,aj.of _ (S.fD (X:=X) (A:=A) (g:=h.g) (by simp) (n:=0) rfl) ⟨rfl,rfl,aj.of _ (S.fD (X:=X) (A:=A) (g:=h.g) (by simp) (n:=1) rfl) ?_⟩⟩;refine S.new (i:Int) (λe=>absurd e F) (λ_ f t S=>?_) (λ_ f bt t S=>?_)
   ·rw[au f] at kk;refine an (by simpa using f) (S.res (j:=0) rfl _ _ λE S=>kk _ E (λe=>absurd e f) ⟨A,W,J ?_⟩);rw[Jg f] at S;exact S.tail.tail
   ·rw[ay f,f] at kk;refine aB rfl λE h6=>?_;have H:=((J S).ext h6).alloc (o:= .map #[] 0) trivial;obtain⟨bm,Wz⟩: ∃bm,bm=E.heap.size:=⟨_,rfl⟩;rw[<-Wz] at H ⊢;obtain⟨G2,S,J2⟩:=H.call;refine S.al λbg w7 S=>⟨rfl,rfl,⟨rfl,by omega,by show(i:Int)<((17:Nat):Int);omega⟩,?_⟩;rw[aV];refine S.Ci 4 rfl rfl (by rw[Nat.blt_eq,Jo];omega) λw8 S=>S.res (j:=2) rfl _ _ λw9 S=>kk _ w9 (λ_=>eu) (aby (bg:=bg) (bt:=bt) (bm:=bm) W (by omega) z (J2 S))
 ·have d: ¬ (i:Int)<=16:=by simpa using d
  have m:mL h.g=none:=HJ.2 λu l p=>r u l (by omega);have cE:oY h=3:=by unfold oY;rw[m]
  have B:gP h=h:=by unfold gP;rw[m]
  rw[cE,B] at kk;exact kk _ t (λe=>absurd e (by decide)) ⟨A,W,J S.tail.tail⟩
end
theorem Jq (s:WD) (o:Int) (G:Int->Int):(iK s o G).1.length=s.1.length:=by
 unfold iK;dsimp only;split
 ·exact gF _ _ _ _
 ·rfl
theorem tE (s:WD) (o r p:Int):(fh s o r p).1.length=s.1.length:=by
 unfold fh;split
 ·rfl
 ·split
  ·exact xD _ _ _ _ _
  ·exact Jq _ _ _
theorem Bq: ∀(l:List PT) (s:WD),(jk l s).1.length=s.1.length
 |[],s=>rfl
 |[x],s=>rfl
 |x::y::l,s=>by
  rw[jk];split
  ·rw[Bq (y::l)];exact cA _ _ _
  ·rfl
theorem tF (s:WD) (o r:Int) (gone:Bool) (p:Int):(nf s o r gone p).1.length=s.1.length:=by
 unfold nf;split
 ·split
  ·rw[Bq];show(dJ _ _ _).length= _;rw[cA,tE]
  ·exact tE _ _ _ _
 ·rfl
def xR (h:HS) (v:Int):List TK:=match h.g v.toNat with|some x=>x.tk|none=>[]
def yl (v:Int) (h:HS):HS:=dt h v (Ai ((xR h v).map (·.1))) (NE h v (Ai ((xR h v).map (·.1)))).1 (NE h v (Ai ((xR h v).map (·.1)))).2
def fK (v:Int):Nat->HS->HS
 |0,h=>h
 |n+1,h=>fK v n (yl v h)
def vC (ds:List DT) (v:Int):Bool:=(gA ds v).any λi=>decide ((oE ds (i:Int)).2.2.1>0)
def uO (v:Int) (x:List DT×Int) (i:Nat):List DT×Int:=if(oE x.1 (i:Int)).1=4 then(dF x.1 (i:Int) (aO 5 v),x.2+1) else x
def B8 (ds:List DT) (v:Int):List DT×Int:=(gA ds v).foldl (uO v) (ds,0)
def vD (h:HS) (v:Int):HS where
 s:=((cG h.s (aZ h.g v) false).1,(B8 (cG h.s (aZ h.g v) false).2 v).1)
 g:=bj h.g v.toNat none
 gr:=cM h.gr v
 po:=(Po.cG 4 h.po v).2
def F1 (h:HS) (a:Int):Int:=if aU h.g a=true then(if vC h.s.2 a=true then 9 else 0) else 4
def s6 (h:HS) (a:Int):HS:=if aU h.g a=true then(if vC h.s.2 a=true then h else vD (fK a (xR h a).length h) a) else h
def YR (h:HS) (a:Int):Int:=if aU h.g a=true then(if vC h.s.2 a=true then 0 else(B8 (cG (fK a (xR h a).length h).s (aZ (fK a (xR h a).length h).g a) false).2 a).2) else 0
theorem MJ (gs:List GT) (v:Int):(cM gs v).length=gs.length:=by unfold cM;rw[B6]
theorem sd (h:HS) (v p id f w:Int):aU (dt h v p id f).g w=aU h.g w:=by
 unfold aU dt bj;dsimp only;by_cases e:w.toNat=v.toNat
 ·rw[e,ay rfl];cases h.g v.toNat<;>rfl
 ·rw[au e]
theorem HK (h:HS) (v p id f w:Int):aZ (dt h v p id f).g w=aZ h.g w:=by
 unfold aZ;rw[sd];unfold dt bj;dsimp only;by_cases e:w.toNat=v.toNat
 ·rw[e,ay rfl];cases h.g v.toNat<;>rfl
 ·rw[au e]
theorem Ez {h:HS} {v p id f:Int}:xR (dt h v p id f) v=(xR h v).filter λt=> !(t.1==p):=by
 unfold xR dt bj;dsimp only;rw[ay rfl];cases h.g v.toNat<;>rfl
section
variable {Q:Sys} {X:HX} {D G:List Nat} {w0 w:A2} {h:HS} {L:List (Nat×List AI)} {K:RS->A2->Prop}
theorem bh.aaz {s:WD} {L0 rows:List (Nat×List AI)} (S:bh Q D G w0 w s L0) {e:El} {x:Option Aq×Nat×Nat} {l:List e.T} (a:kh e rows x l) (b: ∀x∈rows,x∈L0):Sl w e x.1 l:=by
 obtain⟨g1,d,f,g,ca,la,H⟩:=S;exact a.sl H λx c=>B4 _ (B4 _ (B4 _ (B4 _ (b x c))))
theorem ZY {A:Nat->GA} {v:Nat} {x:GV} (hv:v<17) (a:h.g v=some x) (T:List (Nat×List AI)):
 (gO Q A v x++(T++dL Q X A h (a6 Q A h.g ((Ag 17).erase v)++L))).Perm (T++dL Q X A h (a6 Q A h.g (Ag 17)++L)):=by
 have p1:=(v_ (Q:=Q) (A:=A) hv a).symm;have p2:=((((p1.append_right L).cons (X.pb,Po.gJ 4 h.po)).cons (X.uz,flat eG h.gr++X.rest)).cons (X.gb,mA X.uz h.gr.length X.c)).cons (X.hb,e9 Q X A h.g);refine List.Perm.trans ?_ (p2.append_left T);have e:T++dL Q X A h ((gO Q A v x++a6 Q A h.g ((Ag 17).erase v))++L)=(T++[(X.hb,e9 Q X A h.g),(X.gb,mA X.uz h.gr.length X.c),(X.uz,flat eG h.gr++X.rest),(X.pb,Po.gJ 4 h.po)])++(gO Q A v x++(a6 Q A h.g ((Ag 17).erase v)++L)):=by simp
 have b:gO Q A v x++(T++dL Q X A h (a6 Q A h.g ((Ag 17).erase v)++L))=gO Q A v x++((T++[(X.hb,e9 Q X A h.g),(X.gb,mA X.uz h.gr.length X.c),(X.uz,flat eG h.gr++X.rest),(X.pb,Po.gJ 4 h.po)])++(a6 Q A h.g ((Ag 17).erase v)++L)):=by simp
 show List.Perm _ (T++dL Q X A h ((gO Q A v x++a6 Q A h.g ((Ag 17).erase v))++L));rw[e,b];exact NK _ _ _
end
theorem EA (ds:List DT) (v:Int):(gA ds v).length<=ds.length:=by grind[gA]
section
variable {Q:Sys} {X:HX} {D G:List Nat} {w0 w:A2} {h:HS} {L:List (Nat×List AI)} {K:RS->A2->Prop}
theorem abz {A:Nat->GA} (W:C6 A h) {v:Nat} {x:GV} (hv:v<17) (a:h.g v=some x) {s':WD} {zU:List GT} {NH:List Po.PT} (d:zU.length=h.gr.length) (n:n5 zU) (o:Po.lI 4 NH) {f:A2} {p q r t:Nat×List AI}
 (H:SM Q D G w0 f s' (p::q::r::t::(X.hb,(e9 Q X A h.g).set (4+v*1) (ag none))::(X.gb,mA X.uz h.gr.length X.c)::(X.uz,flat eG zU++X.rest)::(X.pb,Po.gJ 4 NH)::(a6 Q A h.g ((Ag 17).erase v)++L)) (cK A h.g (Ag 17))):
 iB Q X D G w0 f {s:=s',g:=bj h.g v none,gr:=zU,po:=NH} L:=by
 have b: ∀j,j≠v->A j=A j/\bj h.g v none j=h.g j:=λj u=>⟨rfl,au u⟩;have w:kK A (bj h.g v none) v=none:=by
  unfold kK;rw[fy]
 refine⟨A,⟨λ{i x} a=>?_,λ{i x} a=>?_,d.trans W.gl,o,n⟩,?_⟩
 ·have a:bj h.g v none i=some x:=a;unfold bj at a;by_cases e:i=v
  ·grind
  ·rw[au e] at a;exact W.iM a
 ·have a:bj h.g v _ i=some x:=a;unfold bj at a;by_cases e:i=v
  grind
  ·rw[au e] at a;exact W.mp a
 ·have k:=Jp (Q:=Q) (X:=X) hv b;rw[w] at k;rw[k] at H;have H:=((((H.sub (BY _ _)).sub (BY _ _)).sub (BY _ _)).sub (BY _ _));have H:=(H.iP (l9 hv a).symm).FN (BY _ _);have l:=zz (Q:=Q) (A:=A) hv (fy h.g v _);rw[wc b] at l;have m:=zy (A:=A) hv (fy h.g v none);rw[pE b] at m;refine(H.perm ?_).iP m;show List.Perm ((X.hb,e9 Q X A _)::(X.gb,mA X.uz zU.length X.c)::(X.uz,flat eG zU++X.rest)::(X.pb,Po.gJ 4 NH)::(a6 Q A _ _++L)) _;rw[d];exact((((l.append_right L).cons _).cons _).cons _).cons _
theorem EB {l:List Int} (b:l≠[]) (h: ∀x∈l,x<65536):Ai l∈l:=by
 obtain⟨d,c,a⟩:=y7 l 65536;rcases a with a|a
 ·obtain⟨x,l',rfl⟩:=List.exists_cons_of_ne_nil b;have:=c x
  grind
 ·exact a
theorem HL (H:iB Q X D G w0 w h L) (v k:Int) {a:Int} (b c:Int) (ha:0<=a) (hF:Dh Q h.s) (ND:aU h.g a=true->0<=aZ h.g a/\aZ h.g a<4096) (Au: ∀t∈xR h a,t.1<65536)
 (kk: ∀w2,iB Q X D G w0 w2 (s6 h a) L->K (YR h a,F1 h a,()) w2):
 aD AC 122 (.el (.agg iv)) [ag (ae X.hb),aa v,.agg ⟨fR k a b c⟩] w K:=by
 obtain⟨A,W,H⟩:=H;obtain⟨G',S,J⟩:=H.call;refine aP (C:=V0) (aQ:=m8) (B1 (CQ _ v k a b c w K) ?_);unfold F1 YR s6 at kk;refine S.al λU w2 S=>S.al λV w3 S=>⟨rfl,S.cg 1 rfl rfl ⟨_,Eu S (X:=X) (A:=A) (g:=h.g) (by simp) ha,?_⟩⟩;cases O:aU h.g a with
 |false=>
  rw[O,au (by decide),au (by decide),au (by decide)] at kk;exact aB rfl ⟨trivial,S.res (j:=0) rfl 0 4 λw4 S=>kk w4 ⟨A,W,J S.tail.tail⟩⟩
 |true=>
 rw[O,ay rfl,ay rfl,ay rfl] at kk;obtain⟨x,hx,uG,hv,wJ,sN⟩:=b_ O;have ea:aG .i64 a=a:=bK ⟨ha,by omega⟩;refine an rfl ⟨rfl,S.cg 1 rfl rfl ?_⟩;rw[ea];refine⟨rfl,rfl,aj.of _ (S.fD (X:=X) (A:=A) (g:=h.g) (by simp) (n:=1) rfl) (S.owned a λr rows w4 S E=>?_)⟩;have hlen:(gA h.s.2 a).length<=4096:=Io (EA _ _) S.le;obtain⟨xp,xn,xc⟩:=r;have hxl:xn=(gA h.s.2 a).length:=by have:=E.1;rw[B6] at this;exact this
 subst hxl;refine⟨λn q w'=> ∃m:Nat,q.1=(m:Int)/\n+m=(gA h.s.2 a).length/\(∀i,i<m-> ∀f,(gA h.s.2 a)[i]? =some f-> ¬ (oE h.s.2 (f:Int)).2.2.1>0)/\bh Q [] G' w w' h.s (((V,[ax 0,aa 0])::(U,fR k a b c)::dL Q X A h (a6 Q A h.g (Ag 17)++L))++rows),⟨(gA h.s.2 a).length,λw5 h5=>⟨0,rfl,rfl,λi hi=>absurd hi (NR i),S.ext h5⟩⟩,?_⟩;clear S;rintro n ⟨q,u⟩ w5 ⟨m,Z,XM,wC,S⟩;dsimp only at Z ⊢;subst Z;refine ab (λo=>?_) (λo=>?_)
 ·have P:m<(gA h.s.2 a).length:=by simpa using o
  obtain⟨f,X3⟩: ∃f,f=(gA h.s.2 a)[m]:=⟨_,rfl⟩;have M:(gA h.s.2 a)[m]? =some f:=by rw[X3];exact Dc P
  have FD:((gA h.s.2 a).map λi=>((i:Nat):Int))[m]? =some ((f:Nat):Int):=by rw[DA,M];rfl
  have wD:=(S.aaz E (λx hx=>B2 _ hx)) m _ FD;refine⟨⟨wD.1,by omega,by omega⟩,aj.of _ wD.2 ⟨rfl,rfl,aj.of _ (S.fD (X:=X) (A:=A) (g:=h.g) (by simp) (n:=1) rfl) ⟨(oE h.s.2 (f:Int),As h.s.2 (f:Int),()),S.ofq (f:Int),S.al λbd w6 S=>S.fa 0 rfl rfl rfl λw7 S=>⟨rfl,S.cg 0 rfl rfl ?_⟩⟩⟩⟩;refine ab (λF=>⟨trivial,S.res (j:=1) rfl 0 9 λw8 S=>?_⟩) (λF=>λw8 h8=>⟨n - 1,by omega,m+1,?_,by omega,λi hi g I=>?_,(S.ext h8).tail⟩)
  ·have F:(oE h.s.2 (f:Int)).2.2.1>0:=by simpa using F
   have hb:vC h.s.2 a=true:=by
    unfold vC;exact Ga.2 ⟨f,DQ M,by simpa using F⟩
   rw[hb,ay rfl,ay rfl,ay rfl] at kk;exact kk w8 ⟨A,W,J ((S.tail.sub (Gd _ _)).tail.tail)⟩
  ·rw[aw (by omega) (by omega)];omega
  ·by_cases e:i=m
   ·subst e;rw[M] at I;cases I;simpa using F
   ·exact wC i (by omega) g I
 have P: ¬ m<(gA h.s.2 a).length:=by simpa using o
 have hb: ¬ vC h.s.2 a=true:=by
  unfold vC;rw[Ga];rintro⟨f,M,hd⟩;obtain⟨i,hi⟩:=BJ M;have:i<(gA h.s.2 a).length:=(DH.1 hi).1;exact wC i (by omega) f hi (by simpa using hd)
 rw[au hb,au hb,au hb] at kk;have S:=S.sub (Gd _ rows);clear wC XM E o P;obtain⟨g1, _,g3, _⟩:=S.sZ (X:=X) (A:=A) (g:=h.g) (by simp) (bV W [_, _]) O;refine⟨rfl,rfl,⟨rfl,by omega,by show a<((17:Nat):Int);omega⟩,aj.of _ g1 ?_⟩;refine⟨λn _ w'=> ∃(B:Nat->GA) (h':HS),fK a n h'=fK a (xR h a).length h/\(xR h' a).length=n/\aU h'.g a=true/\aZ h'.g a=aZ h.g a/\Dh Q h'.s/\(∀t∈xR h' a,t.1<65536)/\(B a.toNat).bg=(A a.toNat).bg/\C6 B h'/\SM Q D G w0 w' h'.s ([(V,[ax 0,aa 0]),(U,fR k a b c)]++dL Q X B h' (a6 Q B h'.g (Ag 17)++L)) (cK B h'.g (Ag 17)),⟨(xR h a).length,λw6 h6=>⟨A,h,rfl,rfl,O,rfl,hF,Au,rfl,W,(J S).ext h6⟩⟩,?_⟩;clear S g1 g3 J H;rintro n u w6 ⟨B,h',I,hn,zR,Tm,hF',YS,aaA,d,H⟩;obtain⟨x',z,YT,TB, _, _⟩:=b_ zR;have Kh:a.toNat<17:=by omega
 have Y:xR h' a=x'.tk:=by unfold xR;rw[z]
 rw[<-aaA];obtain⟨G2,S,J2⟩:=H.call;have mem:(X.hb,e9 Q X B h'.g)∈[(V,[ax 0,aa 0]),(U,fR k a b c)]++dL Q X B h' (a6 Q B h'.g (Ag 17)++L):=B2 _ B3;obtain⟨_, _,g3, _⟩:=S.sZ (X:=X) (A:=B) (g:=h'.g) mem (bV d _) zR;have Ar:bD w6 (B a.toNat).bm ⟨(B a.toNat).es⟩ (B a.toNat).ck:=H.get (fA d _ _ z);refine⟨rfl,rfl,aj.of _ g3 ⟨_,⟨_, _, _,rfl,Ar,rfl⟩,?_⟩⟩;have gW:(⟨(B a.toNat).es⟩:Array BP).size=n:=by
  rw[<-hn,Y];exact(d.mp z).len
 rw[gW];refine ab (λo=>?_) (λo=>?_)
 ·have o:n>0:=by
   have:(n:Int)>0:=by simpa using o
   omega
  have E:((B a.toNat).bg,[ag (some ⟨(B a.toNat).bt,0,none⟩),.map (some (B a.toNat).bm)])∈[(V,[ax 0,aa 0]),(U,fR k a b c)]++dL Q X B h' (a6 Q B h'.g (Ag 17)++L):=bV d _ _ _ z _ B3;have cW:x'.tk.map (·.1)≠[]:=λe=>by
   have:=congrArg Ft e;rw[B6, <-Y,hn] at this;simp at this;omega
  have FX:=EB cW (λy hy=>by
   obtain⟨t,ht,rfl⟩:=B5.1 hy;exact YS t (by rw[Y];exact ht))
  refine Mz H E (fA d _ _ z) (d.mp z) λw7 H=>?_;obtain⟨p,hp⟩: ∃p,p=Ai (x'.tk.map (·.1)):=⟨_,rfl⟩;rw[<-hp] at FX ⊢;obtain⟨t,ht,htp⟩:=B5.1 FX;have sL:bZ x'.tk p=some t.2:=(jE (a:=t.2.1) (b:=t.2.2) (d.mp z).2.2.2).2 (by rw[<-htp];exact ht);have hX:NE h' a p=t.2:=by unfold NE;rw[z];dsimp only;rw[sL];rfl
  have TP:yl a h'=dt h' a p t.2.1 t.2.2:=by
   unfold yl;rw[Y, <-hp,hX]
  refine Ey d (T:=[(V,[ax 0,aa 0]),(U,fR k a b c)]) H zR hF' (by rw[Tm];exact ND O) z sL λB' w8 hb W'' H=>λw9 h9=>⟨n - 1,by omega,B',dt h' a p t.2.1 t.2.2,?_,?_,?_,?_,?_,?_,?_,W'',H.ext h9⟩
  ·rw[<-TP, <-I];obtain⟨m,rfl⟩: ∃m,n=m+1:=⟨n - 1,by omega⟩;rfl
  ·rw[Ez,Y];obtain⟨r,M,Av⟩:=(d.mp z).find p;rw[sL] at Av;obtain⟨i, _,hi,hM⟩:=Av;rw[<-hM.len,Ih,ay hi];have:=(d.mp z).len;rw[Y] at hn;omega
  ·rw[sd];exact zR
  ·rw[HK];exact Tm
  ·have e:(dt h' a p t.2.1 t.2.2).s.1.length=h'.s.1.length:=tF _ _ _ _ _;exact⟨by rw[e];exact hF'.1,by rw[e];exact hF'.2⟩
  ·intro t' pM;rw[Ez] at pM;exact YS t' (ID.1 pM).1
  ·rw[hb,aaA]
 have TG:n=0:=by
  have: ¬ (n:Int)>0:=by simpa using o
  omega
 subst TG;have I:h'=fK a (xR h a).length h:=I;rw[<-I] at kk;clear I gW o g3 S J2 mem Ar hb YS hn hF' Au;have ack:0<=x'.root/\x'.root<4096:=by rw[<-YT,Tm];exact ND O
 rw[YT] at kk;have H:=H.perm (ZY Kh z _);obtain⟨G2,S,J2⟩:=H.call;refine⟨rfl,rfl,aj.of _ (S.fD (X:=X) (A:=B) (g:=h'.g) (DQ (i:=4) rfl) (n:=2) rfl) (S.abq 5 6 rfl rfl (by rw[d.gl];decide) (by rw[d.gl];decide) (by decide) a λn2 w8 S=>⟨rfl,rfl,aj.of _ (S.fD (X:=X) (A:=B) (g:=h'.g) (DQ (i:=4) rfl) (n:=3) rfl) (S.abv 7 rfl d.pt a λw9 S=>⟨rfl,rfl,?_⟩)⟩)⟩;refine S.cg 0 rfl rfl (S.drop 1 rfl ack λy abA j_ S _=>?_);have S:=S.sub (Gd _ abA);refine⟨rfl,rfl,aj.of _ (S.fD (X:=X) (A:=B) (g:=h'.g) (DQ (i:=4) rfl) (n:=1) rfl) (S.owned a λr2 OK m9 S E=>?_)⟩;obtain⟨s1,BK⟩: ∃s1,s1=cG h'.s x'.root false:=⟨_,rfl⟩;have hgo:vD h' a={s:=(s1.1,(B8 s1.2 a).1),g:=bj h'.g a.toNat none,gr:=cM h'.gr a,po:=(Po.cG 4 h'.po a).2}:=by
  unfold vD;rw[YT, <-BK]
 rw[<-BK] at S kk E;rw[hgo] at kk;obtain⟨xp2,xn2,xc2⟩:=r2;have acm:xn2=(gA s1.2 a).length:=by have:=E.1;rw[B6] at this;exact this
 subst acm;have DL:(gA s1.2 a).length<=4096:=Io (EA _ _) S.le;obtain⟨l,Ii⟩: ∃l,l=gA s1.2 a:=⟨_,rfl⟩;have FM:B8 s1.2 a=l.foldl (uO a) (s1.2,0):=by unfold B8;rw[Ii]
 rw[<-Ii] at E DL ⊢;obtain⟨R,hR⟩: ∃R,R=B8 s1.2 a:=⟨_,rfl⟩;rw[<-hR] at kk;rw[<-hR] at FM;obtain⟨RL,hRL⟩: ∃RL:List (Nat×List AI),RL=((B a.toNat).bg,[ag (some ⟨(B a.toNat).bt,0,none⟩),.map (some (B a.toNat).bm)])::((B a.toNat).bt,oF Q ((a.toNat:Nat):Int) x'.root true)::(V,[ax 0,aa 0])::(U,fR k a b c)::(X.hb,e9 Q X B h'.g)::(X.gb,mA X.uz h'.gr.length X.c)::(X.uz,flat eG (cM h'.gr a)++X.rest)::(X.pb,Po.gJ 4 (Po.cG 4 h'.po a).2)::(a6 Q B h'.g ((Ag 17).erase a.toNat)++L):=⟨_,rfl⟩;have S:bh Q [] G2 w6 m9 s1 (RL++OK):=by rw[hRL];exact S
 have aaB: ∀{T:List (Nat×List AI)},(X.hb,e9 Q X B h'.g)∈RL++T:=λ{T}=>DB _ (by rw[hRL];exact DQ (i:=4) rfl);refine⟨λn q w'=> ∃(m:Nat) (ds:List DT),q.2.1=(m:Int)/\n+m=l.length/\(0<=q.1/\q.1<=m)/\(l.drop m).foldl (uO a) (ds,q.1)=R/\bh Q [] G2 w6 w' (s1.1,ds) (RL++OK),⟨l.length,λCY TI=>⟨0,s1.2,rfl,rfl,⟨by decide,by decide⟩,FM.symm,S.ext TI⟩⟩,?_⟩;clear S;rintro n ⟨cnt,q,u⟩ CY ⟨m,ds,Z,XM,hcm,N,S⟩;dsimp only at Z hcm N ⊢;subst Z;refine ab (λo=>?_) (λo=>?_)
 ·have P:m<l.length:=by simpa using o
  obtain⟨f,X3⟩: ∃f,f=l[m]:=⟨_,rfl⟩;have M:l[m]? =some f:=by rw[X3];exact Dc P
  have FD:(l.map λi=>((i:Nat):Int))[m]? =some ((f:Nat):Int):=by rw[DA,M];rfl
  have wD:=(S.aaz E (λx hx=>B2 _ hx)) m _ FD;rw[JS P, <-X3,HB] at N;refine⟨⟨wD.1,by omega,by omega⟩,aj.of _ wD.2 ⟨rfl,rfl,aj.of _ (S.fD (X:=X) (A:=B) (g:=h'.g) aaB (n:=1) rfl) ⟨(oE ds (f:Int),As ds (f:Int),()),S.ofq (f:Int),S.al λbd Nz S=>S.fa 0 rfl rfl rfl λIe S=>⟨rfl,S.cg 0 rfl rfl ?_⟩⟩⟩⟩;refine ab (λF=>⟨rfl,rfl,aj.of _ (S.fD (X:=X) (A:=B) (g:=h'.g) (B4 _ aaB) (n:=1) rfl) (S.T8 (f:Int) 5 a λWE S=>λWG WT=>⟨n - 1,by omega,m+1, _,?_,by omega,?_,?_,(S.ext WT).tail⟩)⟩) (λF=>λWG WT=>⟨n - 1,by omega,m+1,ds,?_,by omega,?_,?_,(S.ext WT).tail⟩)
  ·show aI .i64 (m:Int) 1= _;rw[aw (by omega) (by omega)];omega
  ·show 0<=aI .i64 cnt 1/\aI .i64 cnt 1<=((m+1:Nat):Int);rw[aw (by omega) (by omega)];omega
  ·show(l.drop (m+1)).foldl (uO a) (dF ds (f:Int) (aO 5 a),aI .i64 cnt 1)=R;rw[aw (by omega) (by omega), <-N];have d4:(oE ds (f:Int)).1=4:=by simpa using F
   rw[show uO a (ds,cnt) f=if(oE ds (f:Int)).1=4 then(dF ds (f:Int) (aO 5 a),cnt+1) else(ds,cnt) from rfl,ay d4]
  ·show aI .i64 (m:Int) 1= _;rw[aw (by omega) (by omega)];omega
  ·show 0<=cnt/\cnt<=((m+1:Nat):Int);omega
  ·show(l.drop (m+1)).foldl (uO a) (ds,cnt)=R;rw[<-N];have d4: ¬ (oE ds (f:Int)).1=4:=by simpa using F
   rw[show uO a (ds,cnt) f=if(oE ds (f:Int)).1=4 then(dF ds (f:Int) (aO 5 a),cnt+1) else(ds,cnt) from rfl,au d4]
 have P: ¬ m<l.length:=by simpa using o
 rw[List.drop_of_length_le (by omega)] at N;have N:(ds,cnt)=R:=N;rw[<-N] at kk;have S:=S.sub (Gd _ OK);rw[hRL] at S;refine⟨rfl,rfl,⟨rfl,by omega,by show a<((17:Nat):Int);omega⟩,?_⟩;rw[aV];refine S.Ci 4 rfl rfl (by rw[Nat.blt_eq,Jo];omega) λNz S=>S.res (j:=2) rfl _ _ λIe S=>?_;rw[ee ⟨by omega,by omega⟩];exact kk Ie (abz d Kh z (MJ _ _) (d.gk.drop _) (Po.Rh d.pt a) (J2 S))
end
def run (h:HS) (v k a b c:Int):HS×Int×Int:=match k.toNat with
 |1=>(gP h,AH h,oY h)
 |2=>(s6 h a,YR h a,F1 h a)
 |3=>(jK h v a b,xW h v a b)
 |4=>(qx h v a,BZ h v a)
 |5=>(jP h v a b,0,oW h v a b)
 |6=>(h,IC h v a)
 |7=>(jZ h v a b,0,rO h v a)
 |8=>(iz h v a b c,yC h v a b c)
 |9=>(jl h v a b c,0,ni h v a b c)
 |10=>(gV h v a,0,oX h v a)
 |11=>(fO h v a,0,Cz h v a)
 |12=>(lX h v a,IA h v a)
 |13=>(lY h v a b,IB h v a b)
 |14=>(lW h v a,0,OG h v a)
 |15=>(OI h v,OH h v,0)
 |16=>(iW h v a,0,Gn h v a)
 | _=>(bq h (dI h.s h.s.2.length).1,((dI h.s h.s.2.length).2:Int),0)
def iT (h:HS) (v k a b c:Int):Int:=
 if(decide (v<0)||decide (v>16)|| !iy k a b c)=true then 1 else if(!(v==0)==uN k)=true then 7 else if(decide (v>0)&& !aU h.g v)=true then 4 else 0
def qD (h:HS) (v k a b c:Int):Int:=if iT h v k a b c=0 then(run h v k a b c).2.2 else iT h v k a b c
def wL (h:HS) (v k a b c:Int):Int:=if iT h v k a b c=0 then(if(run h v k a b c).2.2=0 then(run h v k a b c).2.1 else 0) else 0
def kf (h:HS) (v k a b c:Int):HS:=if iT h v k a b c=0 then(run h v k a b c).1 else h
structure B9 (Q:Sys) (h:HS):Prop where
 J4:Dh Q h.s
 sz:16*h.s.2.length<=h.s.1.length
 rr: ∀v,aU h.g v=true->0<=aZ h.g v/\aZ h.g v<4096
 pg: ∀v, ∀t∈xR h v,t.1<65536
 new: ∀v a b c, ∀x,h.g v.toNat=some x->aU h.g v=true->lQ h.s (aZ h.g v) false b (lJ h a).1 (wK c)=0->bZ x.tk b=none
section
variable {Q:Sys} {X:HX} {D G:List Nat} {w0 w:A2} {h:HS} {L T:List (Nat×List AI)}
theorem Jr (A:Nat->GA) (h:HS):(dL Q X A h (a6 Q A h.g (Ag 17)++(T++L))).Perm (T++dL Q X A h (a6 Q A h.g (Ag 17)++L)):=by
 have a:dL Q X A h (a6 Q A h.g (Ag 17)++(T++L))=(dL Q X A h (a6 Q A h.g (Ag 17)))++(T++L):=by simp
 have b:T++dL Q X A h (a6 Q A h.g (Ag 17)++L)=T++(dL Q X A h (a6 Q A h.g (Ag 17))++L):=by simp
 rw[a,b];exact NK _ _ _
theorem iB.of {A:Nat->GA} (W:C6 A h) (H:SM Q D G w0 w h.s (T++dL Q X A h (a6 Q A h.g (Ag 17)++L)) (cK A h.g (Ag 17))):iB Q X D G w0 w h (T++L):=
 ⟨A,W,H.perm (Jr A h)⟩
theorem iB.to (H:iB Q X D G w0 w h (T++L)): ∃A,C6 A h/\SM Q D G w0 w h.s (T++dL Q X A h (a6 Q A h.g (Ag 17)++L)) (cK A h.g (Ag 17)):=by
 obtain⟨A,W,H⟩:=H;exact⟨A,W,H.perm (Jr A h).symm⟩
def lS (k:Int):Nat:=([121,122,124,125,126,127,128,129,130,131,132,133,134,135,136,137,123]:List Nat).getD (k - 1).toNat 0
theorem dM (H:iB Q X D G w0 w h L) (R:B9 Q h) {v k a b c:Int} (m:1<=k/\k<=17) (i:uN k=false->aU h.g v=true) (f:0<=a/\a<18446744073709551616) (hb:0<=b/\b<18446744073709551616) (hc:0<=c/\c<18446744073709551616) {K:RS->A2->Prop}
 (kk: ∀V d,((run h v k a b c).2.2=0->V=(run h v k a b c).2.1)->iB Q X D G w0 d (run h v k a b c).1 L->K (V,(run h v k a b c).2.2,()) d):
 aD AC (lS k) (.el (.agg iv)) [ag (ae X.hb),aa v,.agg ⟨fR k a b c⟩] w K:=by
 have:k=1\/k=2\/k=3\/k=4\/k=5\/k=6\/k=7\/k=8\/k=9\/k=10\/k=11\/k=12\/k=13\/k=14\/k=15\/k=16\/k=17:=by omega
 rcases this with rfl|rfl|rfl|rfl|rfl|rfl|rfl|rfl|rfl|rfl|rfl|rfl|rfl|rfl|rfl|rfl|rfl
 ·exact MF H (by have:=R.sz;omega) v 1 a b c λV d j H=>kk V d j H
 ·exact HL H v 2 b c f.1 R.J4 (R.rr a) (R.pg a) λd H=>kk _ d (λ_=>rfl) H
 ·exact Mw H (i rfl) 3 c f.1 hb.1 λd H=>kk _ d (λ_=>rfl) H
 ·exact HA H (i rfl) R.J4 (R.rr v (i rfl)) 4 b c f.1 λd H=>kk _ d (λ_=>rfl) H
 ·exact Hz H (i rfl) 5 c f.1 hb.1 λd H=>kk _ d (λ_=>rfl) H
 ·exact VU H v 6 b c f.1 λd H=>kk _ d (λ_=>rfl) H
 ·exact R9 H v 7 c f.1 hb λd H=>kk _ d (λ_=>rfl) H
 ·exact R8 H v 8 f.1 hb.1 hc.1 λd H=>kk _ d (λ_=>rfl) H
 ·exact VW H (i rfl) 9 f.1 hb.1 hc.1 (λx l e=>R.new v a b c x l (i rfl) e) λd H=>kk _ d (λ_=>rfl) H
 ·exact VV H (i rfl) R.J4 (R.rr v (i rfl)) 10 b c f.1 λd H=>kk _ d (λ_=>rfl) H
 ·exact Ms H v 11 b c f.1 λd H=>kk _ d (λ_=>rfl) H
 ·exact VS H v 12 b c f.1 λd H=>kk _ d (λ_=>rfl) H
 ·exact VT H v 13 c f.1 hb.1 λd H=>kk _ d (λ_=>rfl) H
 ·exact VQ H v 14 b c f.1 λd H=>kk _ d (λ_=>rfl) H
 ·exact VR H v 15 a b c λd H=>kk _ d (λ_=>rfl) H
 ·exact R5 H v 16 b c f.1 λd H=>kk _ d (λ_=>rfl) H
 ·exact R_ H v 17 a b c λd H=>kk _ d (λ_=>rfl) H
end
def oK (k:Int) (b:Nat):BP:={key:=aa k,val:= .func (.func (lS k)) #[] #[],born:=b}
def cT:Array BP:=⟨[oK 1 0,oK 2 1,oK 17 2,oK 3 3,oK 4 4,oK 5 5,oK 6 6,oK 7 7,oK 8 8,oK 9 9,oK 10 10,oK 11 11,oK 12 12,oK 13 13,oK 14 14,oK 15 15,oK 16 16]⟩
section
variable {D G:List Nat} {w0 w:A2} {L:List (Nat×List AI)} {M:List (Nat×CW)}
theorem MK (H:cv D G w0 w L M) {K:Option Nat->A2->Prop} (k: ∀r a,cv D G w0 a L ((r,.map cT 17)::M)->K (some r) a):az AC 78 (.el (.one .map)) [] w K:=by
 refine λw1 h1=>ai (C:=V0) (aQ:=λ_=>[]) (B1 (L_ w1 K) ?_);have H:=H.ext h1;intro b c;have H:=(H.ext c).alloc (o:= .map #[] 0) trivial;refine gy H (by kernel_rfl) λf H=>?_;refine gy H (by kernel_rfl) λg H=>?_;refine gy H (by kernel_rfl) λh H=>?_;refine gy H (by kernel_rfl) λi H=>?_;refine gy H (by kernel_rfl) λj H=>?_;refine gy H (by kernel_rfl) λl H=>?_;refine gy H (by kernel_rfl) λm H=>?_;refine gy H (by kernel_rfl) λn H=>?_;refine gy H (by kernel_rfl) λp H=>?_;refine gy H (by kernel_rfl) λq H=>?_;refine gy H (by kernel_rfl) λs H=>?_;refine gy H (by kernel_rfl) λt H=>?_;refine gy H (by kernel_rfl) λu H=>?_;refine gy H (by kernel_rfl) λv H=>?_;refine gy H (by kernel_rfl) λx H=>?_;refine gy H (by kernel_rfl) λy H=>?_;refine gy H (by kernel_rfl) λz H=>?_;exact λd e=>k b.heap.size d ((H.ext e).Xj (by kernel_rfl))
theorem CV {k:Int} (a:1<=k/\k<=17):bJ AC (lS k)=true:=by
 have:k=1\/k=2\/k=3\/k=4\/k=5\/k=6\/k=7\/k=8\/k=9\/k=10\/k=11\/k=12\/k=13\/k=14\/k=15\/k=16\/k=17:=by omega
 rcases this with rfl|rfl|rfl|rfl|rfl|rfl|rfl|rfl|rfl|rfl|rfl|rfl|rfl|rfl|rfl|rfl|rfl
 ·exact(by kernel_rfl:bJ AC (lS 1)=true)
 ·exact(by kernel_rfl:bJ AC (lS 2)=true)
 ·exact(by kernel_rfl:bJ AC (lS 3)=true)
 ·exact(by kernel_rfl:bJ AC (lS 4)=true)
 ·exact(by kernel_rfl:bJ AC (lS 5)=true)
 ·exact(by kernel_rfl:bJ AC (lS 6)=true)
 ·exact(by kernel_rfl:bJ AC (lS 7)=true)
 ·exact(by kernel_rfl:bJ AC (lS 8)=true)
 ·exact(by kernel_rfl:bJ AC (lS 9)=true)
 ·exact(by kernel_rfl:bJ AC (lS 10)=true)
 ·exact(by kernel_rfl:bJ AC (lS 11)=true)
 ·exact(by kernel_rfl:bJ AC (lS 12)=true)
 ·exact(by kernel_rfl:bJ AC (lS 13)=true)
 ·exact(by kernel_rfl:bJ AC (lS 14)=true)
 ·exact(by kernel_rfl:bJ AC (lS 15)=true)
 ·exact(by kernel_rfl:bJ AC (lS 16)=true)
 ·exact(by kernel_rfl:bJ AC (lS 17)=true)
theorem wg {r:Nat} (h:bD w r cT 17) {k:Int} (a:1<=k/\k<=17):jM w (some r) .i64 k Value.nilFunc (.func (.func (lS k)) #[] #[]):=by
 have:k=1\/k=2\/k=3\/k=4\/k=5\/k=6\/k=7\/k=8\/k=9\/k=10\/k=11\/k=12\/k=13\/k=14\/k=15\/k=16\/k=17:=by omega
 rcases this with rfl|rfl|rfl|rfl|rfl|rfl|rfl|rfl|rfl|rfl|rfl|rfl|rfl|rfl|rfl|rfl|rfl
 ·exact⟨r,cT,17,rfl,h,rfl⟩
 ·exact⟨r,cT,17,rfl,h,rfl⟩
 ·exact⟨r,cT,17,rfl,h,rfl⟩
 ·exact⟨r,cT,17,rfl,h,rfl⟩
 ·exact⟨r,cT,17,rfl,h,rfl⟩
 ·exact⟨r,cT,17,rfl,h,rfl⟩
 ·exact⟨r,cT,17,rfl,h,rfl⟩
 ·exact⟨r,cT,17,rfl,h,rfl⟩
 ·exact⟨r,cT,17,rfl,h,rfl⟩
 ·exact⟨r,cT,17,rfl,h,rfl⟩
 ·exact⟨r,cT,17,rfl,h,rfl⟩
 ·exact⟨r,cT,17,rfl,h,rfl⟩
 ·exact⟨r,cT,17,rfl,h,rfl⟩
 ·exact⟨r,cT,17,rfl,h,rfl⟩
 ·exact⟨r,cT,17,rfl,h,rfl⟩
 ·exact⟨r,cT,17,rfl,h,rfl⟩
 ·exact⟨r,cT,17,rfl,h,rfl⟩
end
section
variable {Q:Sys} {X:HX} {D G:List Nat} {w0 w:A2} {s:WD} {h:HS} {L L0:List (Nat×List AI)} {M:List (Nat×CW)} {K:RS->A2->Prop}
theorem SM.Pv (H:SM Q D G w0 w s L0 M) {K:Option Nat->A2->Prop} (k: ∀r e,SM Q D G w0 e s L0 ((r,.map cT 17)::M)->K (some r) e):az AC 78 (.el (.one .map)) [] w K:=by
 obtain⟨a,b,c,d,ca,la,H⟩:=H;exact MK H λr e H=>k r e ⟨a,b,c,d,ca,la,H⟩
theorem Gq (S:bh Q D G w0 w s L0) {j j1 b c:Nat} {l:List AI} {g h:AI} (i:L0[j]? =some (b,l)) (m:L0[j1]? =some (c,[g,h])) (n:j≠j1) (o:l.length=2) (V E:Int)
 (kk: ∀a,bh Q D G w0 a s ((L0.set j (b,[ax V,aa E])).set j1 (c,[ax (if E=0 then V else 0),aa E]))->K (if E=0 then V else 0,E,()) a):
 aA w (ae b) [ax V,aa E] λ(a:A2)=>true=true/\aj a none (ad (ae b) 1) (.one (.int .i64)) λ(x:Int)=>
  aH (x != 0)
   (true=true/\aj a none (ad (ae b) 1) (.one (.int .i64)) λ(x:Int)=>True/\
    aA a (ae c) [ax 0,aa x] λ(a:A2)=>ao a λ(w1:A2)=>aj w1 none (ae c) (.agg [.int .u64,.int .i64]) λ(x:Int×Int×Unit)=>K (x.1,x.2.1,()) w1)
   (aj a none (ae b) (.agg [.int .u64,.int .i64]) λ(x:Int×Int×Unit)=>
    aA a (ae c) [ax x.1,aa x.2.1] λ(a:A2)=>ao a λ(w1:A2)=>aj w1 none (ae c) (.agg [.int .u64,.int .i64]) λ(x:Int×Int×Unit)=>K (x.1,x.2.1,()) w1):=by
 have p:j<L0.length:=(DH.1 i).1;refine S.fa j i rfl o.symm λa S=>?_;have d:(L0.set j (b,[ax V,aa E]))[j]? =some (b,[ax V,aa E]):=FE p;have k:(L0.set j (b,[ax V,aa E]))[j1]? =some (c,[g,h]):=by rw[Fi n];exact m
 refine⟨rfl,S.cg j d (show _=some E from rfl) ?_⟩;refine ab (λe=>?_) (λe=>?_)
 ·have e: ¬ E=0:=by simpa using e
  rw[au e] at kk;exact⟨rfl,S.cg j d (show _=some E from rfl) ⟨trivial,S.res k 0 E λf S=>kk f S⟩⟩
 ·have e:E=0:=by simpa using e
  rw[ay e] at kk;exact S.ld j d (show _=some (V,E,()) from rfl) (S.res k V E λf S=>kk f S)
theorem ZZ {a:Nat} {sh:Sh} {args:List AI} {w:A2} {K:sh.T->A2->Prop} (hc:bJ AC a=true) (b: ∀w1,Ext w w1->aD AC a sh args w1 K):zO AC (.func (.func a) #[] #[]) sh args w K:=by
 unfold zO;refine λw1 h1=>⟨a, #[], #[],rfl,hc,?_⟩;have e:cU #[] args #[]=args:=by unfold cU;simp
 rw[e];exact b w1 h1
theorem Pw (H:iB Q X D G w0 w h L) (R:B9 Q h) (v k:Int) {a b c:Int} (U:0<=a/\a<18446744073709551616) (hb:0<=b/\b<18446744073709551616) (hc:0<=c/\c<18446744073709551616)
 (kk: ∀o,iB Q X D G w0 o (kf h v k a b c) L->K (wL h v k a b c,qD h v k a b c,()) o):
 aD AC 42 (.el (.agg iv)) [ag (ae X.hb),aa v,.agg ⟨fR k a b c⟩] w K:=by
 obtain⟨A,W,H⟩:=H;obtain⟨Y,S,J⟩:=H.call;refine aP (C:=V1) (aQ:=λ_=>[]) (B1 (ZR _ v k a b c w K) ?_);unfold qD wL kf at kk;refine S.al λZ o S=>S.al λb1 w3 S=>⟨_,mT S (X:=X) (A:=A) (g:=h.g) (by simp),an rfl ?_⟩;have B: ∀e,e≠0->iT h v k a b c=e-> ∀{o:A2} {x:List AI},bh Q [] Y w o h.s ((b1,x)::(Z,fR k a b c)::dL Q X A h (a6 Q A h.g (Ag 17)++L))->K (0,e,()) o:=λe E h1 o x S=>by
  rw[h1,au E,au E,au E] at kk;exact kk o ⟨A,W,J S.tail.tail⟩
 have l:iT h v k a b c=if(decide (v<0)||decide (v>16)|| !iy k a b c)=true then 1 else if(!(v==0)==uN k)=true then 7 else if(decide (v>0)&& !aU h.g v)=true then 4 else 0:=rfl;refine S.ld 1 rfl (show _=some (k,a,b,c,()) from rfl) ⟨iy k a b c,λ_=>Eh k a b c,?_⟩;refine ab (λd=>⟨trivial,S.res (j:=0) rfl 0 1 λm S=>?_⟩) (λd=>⟨rfl,S.cg 1 rfl rfl ⟨uN k,Hg k,?_⟩⟩)
 ·rw[ay d] at l;exact B 1 (by decide) l S
 rw[au (by rw[d];decide)] at l;simp only[FR,decide_eq_false_iff_not,Bool.not_eq_false'] at d;obtain⟨⟨dv0,dv1⟩,F⟩:=d;refine ab (λd=>⟨trivial,S.res (j:=0) rfl 0 7 λm S=>?_⟩) (λd=>⟨aU h.g v,λ_=>pU S (X:=X) (A:=A) (g:=h.g) (by simp) v,?_⟩)
 ·rw[ay d] at l;exact B 7 (by decide) l S
 rw[au (by rw[d];decide)] at l;have I:=d;refine ab (λd=>⟨trivial,S.res (j:=0) rfl 0 4 λm S=>?_⟩) (λd=>⟨rfl,S.cg 1 rfl rfl (S.ld 1 rfl (show _=some (k,a,b,c,()) from rfl) ?_)⟩)
 ·rw[ay d] at l;exact B 4 (by decide) l S
 rw[au (by rw[d];decide)] at l;rw[l,ay rfl,ay rfl,ay rfl] at kk;have y:1<=k/\k<=17:=by
  unfold iy at F;rw[Fm,decide_eq_true_eq] at F;have d1:=F.1;unfold jO at d1;by_cases e:1<=k/\k<=17
  ·exact e
  ·rw[au e] at d1;exact absurd d1 (by decide)
 have hl:uN k=false->aU h.g v=true:=λe=>by
  rw[e] at I;have XZ:v≠0:=by
   intro e0;rw[e0] at I;exact absurd I (by decide)
  have:decide (v>0)=true:=decide_eq_true (by omega);rw[this,H5] at d;simpa using d
 have call: ∀{T:List (Nat×List AI)} {m:A2} {M:RS->A2->Prop},SM Q D G w0 m h.s (T++dL Q X A h (a6 Q A h.g (Ag 17)++L)) (cK A h.g (Ag 17))->
  (∀V p f,((run h v k a b c).2.2=0->V=(run h v k a b c).2.1)->C6 f (run h v k a b c).1->SM Q D G w0 p (run h v k a b c).1.s (T++dL Q X f (run h v k a b c).1 (a6 Q f (run h v k a b c).1.g (Ag 17)++L)) (cK f (run h v k a b c).1.g (Ag 17))->M (V,(run h v k a b c).2.2,()) p)->
  zO AC (.func (.func (lS k)) #[] #[]) (.el (.agg iv)) [ag (ae X.hb),aa v,.agg ⟨fR k a b c⟩] m M:=λ{T m M} H kk2=>by
  refine ZZ (CV y) λp h5=>?_;refine dM (iB.of W (H.ext h5)) R y hl U hb hc λV z n H=>?_;obtain⟨f,q,H⟩:=iB.to H;exact kk2 V z f n q H
 have fin: ∀{V:Int},((run h v k a b c).2.2=0->V=(run h v k a b c).2.1)->(if(run h v k a b c).2.2=0 then V else 0)=if(run h v k a b c).2.2=0 then(run h v k a b c).2.1 else 0:=λ{V} n=>by
  by_cases e:(run h v k a b c).2.2=0
  ·rw[ay e,ay e,n e]
  ·rw[au e,au e]
 refine⟨?_,?_⟩
 ·refine(J S).Pv λr m H=>?_;have N:bD m r cT 17:=H.get B3;have H:=H.FN (BY _ _);obtain⟨G2,S,O⟩:=H.call;refine⟨dR (S.get (i:=1) rfl) rfl,?_,trivial, _,wg N y,?_,?_⟩
  ·rw[aV];exact dR (S.get (i:=1) rfl) rfl
  ·refine call (T:=[_, _]) H λV p f n q H=>?_;obtain⟨G3,S,t⟩:=H.call;refine S.al λP z S=>Gq S (j:=0) (j1:=1) rfl rfl (by decide) rfl V _ λu S=>?_;rw[fin n];exact kk u ⟨f,q,t S.tail.tail.tail⟩
  ·refine S.al λP p S=>call (T:=[_, _, _]) (O S) λV z f n q H=>?_;obtain⟨G3,S,t⟩:=H.call;refine Gq S (j:=0) (j1:=1) rfl rfl (by decide) rfl V _ λu S=>?_;rw[fin n];exact kk u ⟨f,q,t S.tail.tail.tail⟩
 ·refine S.al λP m S=>(J S).Pv λr p H=>?_;have N:bD p r cT 17:=H.get B3;have H:=H.FN (BY _ _);obtain⟨G2,S,O⟩:=H.call;refine⟨dR (S.get (i:=2) rfl) rfl,?_,trivial, _,wg N y,?_⟩
  ·rw[aV];exact dR (S.get (i:=2) rfl) rfl
  ·refine call (T:=[_, _, _]) H λV z f n q H=>?_;obtain⟨G3,S,t⟩:=H.call;refine Gq S (j:=0) (j1:=1) rfl rfl (by decide) rfl V _ λu S=>?_;rw[fin n];exact kk u ⟨f,q,t S.tail.tail.tail⟩
end
open Po (tv J0 OC Gf Ig xx rY OD)
section
variable {w0:A2} {Q:Sys} {X:HX} {A:Nat->GA} {g:Nat->Option GV} {gs:List GT} {po:List Po.PT}
structure HBl (w0:A2) (Q:Sys) (X:HX) (A:Nat->GA) (g:Nat->Option GV) (gs:List GT) (po:List Po.PT):Prop where
 hb:bL w0 X.hb (e9 Q X A g)
 gb:bL w0 X.gb (mA X.uz gs.length X.c)
 gr:bL w0 X.uz (flat eG gs++X.rest)
 pb:bL w0 X.pb (Po.gJ 4 po)
 gl:gs.length=16
 gk:n5 gs
 pt:Po.lI 4 po
end
section
variable {Q:Sys} {X:HX} {D G:List Nat} {w0 w:A2} {h:HS} {L:List (Nat×List AI)}
end
end Go.Proofs.YtlcenllcmeebhaaGreat
namespace Go.Proofs.YtlcenllcmeebhaaGreat.Po
set_option maxRecDepth 100000
open Go.RX
def k0:List PT:=Bx 512 zP
theorem Si {room:Int} (h1:1<=room) (a:room<=32):lI room k0 where
 len:=E4
 lo:=h1
 hi:=a
 inv g i h:=by
  refine .inl ?_;unfold gp k0;rw[FU,List.getElem?_replicate];split<;>rfl
theorem ML (n:Int) (w:A2) (a:Option Aq×Int×Unit->A2->Prop):(aJ R1 (λ_=>[]) 74 [aa n] w a)=(
 aH (decide (n<1)||decide (n>32)) (ao w (a (none,1,()))) (aM w ⟨gJ n k0⟩ 221 λb c=>ao c (a (some ⟨b,0,none⟩,0,())))):=by kernel_rfl
section
variable {D G:List Nat} {w0 w:A2} {L:List (Nat×List AI)}
theorem Sj (H:aK D G w0 w L) (n:Int) {K:Option Aq×Int×Unit->A2->Prop} (hb:n<1\/n>32-> ∀w1,aK D G w0 w1 L->K (none,1,()) w1)
 (d:1<=n->n<=32-> ∀bp w1,aK D G w0 w1 ((bp,gJ n k0)::L)->K (some ⟨bp,0,none⟩,0,()) w1):
 az AC 74 (.bu [.one .ptr,.one (.int .i64)]) [aa n] w K:=by
 refine az.go H λw1 H=>ai (C:=R1) (aQ:=λ_=>[]) (B1 (ML n w1 K) ?_);refine ab (λc=>?_) (λc=>?_)
 ·exact ao.go H λa H=>hb (by simp at c;omega) a H
 ·refine aM.go H λb a H=>ao.go H λe H=>d (by simp at c;omega) (by simp at c;omega) b e H
end
end Go.Proofs.YtlcenllcmeebhaaGreat.Po
namespace Go.Proofs.YtlcenllcmeebhaaGreat
set_option maxRecDepth 100000
open Go.RX D
def h0 (n:Nat):HS:={s:=fresh (16*n) n,g:=λ_=>none,gr:=Bx 16 zG,po:=Po.k0}
section
variable {D G:List Nat} {w0 w:A2} {L:List (Nat×List AI)}
theorem Js (H:aK D G w0 w L) (n:Int) {K:Option Aq×Int×Unit->A2->Prop} (kb:n<4\/n>4096-> ∀w1,aK D G w0 w1 L->K (none,1,()) w1)
 (A:4<=n->n<=4096-> ∀Q X w1,Q.c=16*n.toNat->iB Q X D G w0 w1 (h0 n.toNat) L->K (some ⟨X.hb,0,none⟩,0,()) w1):
 az AC 40 (.bu [.one .ptr,.one (.int .i64)]) [aa n] w K:=by
 refine az.go H λw1 H=>ai (C:=V0) (aQ:=λ_=>[]) (B1 (VH n w1 K) ?_);refine ab (λc=>ao.go H λp H=>kb (by simpa using c) p H) (λc=>?_);have q:4<=n/\n<=4096:=by
  simp only[FR,decide_eq_false_iff_not] at c;omega
 obtain⟨m,rfl⟩: ∃m:Nat,n=(m:Int):=⟨n.toNat,by omega⟩;have e:gq .i64 16 (m:Int)=((16*m:Nat):Int):=by rw[d_ (by omega) (by omega)];omega
 rw[e];refine aM.go H λb p H=>?_;refine xr (n:=16*m) H (by omega) λbm bw B H=>⟨rfl,rfl,?_⟩;generalize r:Bx (16*m) (0:Int)=W at H;refine aA.gx 2 H rfl rfl rfl λE H=>?_;refine Cu H (m:Int) (λhb=>by omega) λ_ _ bp bf F H=>⟨rfl,rfl,?_⟩;rw[show((m:Int)).toNat=m from rfl] at H;generalize s:Bx m zD=DS at H;refine aA.gx 4 H rfl rfl rfl λI H=>?_;refine U9 H 16 (by decide) λgb gr J H=>⟨rfl,rfl,?_⟩;obtain⟨t,u⟩: ∃t,t=Bx 16 zG:=⟨_,rfl⟩;rw[<-u] at H;refine aA.gx 6 H rfl rfl rfl λM H=>?_;refine Po.Sj H 4 (λhb=>by omega) λ_ _ pb N H=>⟨rfl,rfl,?_⟩;obtain⟨v,y⟩: ∃v,v=Po.k0:=⟨_,rfl⟩;rw[<-y] at H;refine aA.gx 7 H rfl rfl rfl λO H=>ao.go H λz H=>?_;refine A q.1 q.2 ⟨bm,bw,bf,bp,16*m,m,[],[]⟩ ⟨b,gb,gr,pb,16,[]⟩ z rfl ⟨λ_=>⟨0,0,0,0,[]⟩,⟨λh=>(by cases h),λh=>(by cases h),rfl,Po.Si (by decide) (by decide),n5.new 16⟩,SM.of ⟨?_,?_,?_,?_,0,0,?_⟩⟩
 ·show 0<(Bx (16*m) (0:Int)).length;rw[E4];omega
 ·show 0<(Bx m zD).length;rw[E4];omega
 ·show(Bx m zD).length<=4096;rw[E4];omega
 ·intro x o;have o:x∈Bx (16*m) (0:Int):=o;rw[List.eq_of_mem_replicate o];decide
 ·unfold Sys.L;show aK D G w0 z ((bm,lU bw (Bx (16*m) (0:Int)).length (16*m) 0 0)::(bw,flat eW (Bx (16*m) (0:Int))++[])::(bf,flat eD (Bx m zD)++[])::(bp,[.slice (ae bf) (Bx m zD).length m])::(b,e9 _ _ (λ_=>⟨0,0,0,0,[]⟩) λ_=>none)::(gb,mA gr (Bx 16 zG).length 16)::(gr,flat eG (Bx 16 zG)++[])::(pb,Po.gJ 4 Po.k0)::([]++L));rw[r,s, <-u, <-y,show W.length=16*m by rw[<-r,E4],show DS.length=m by rw[<-s,E4]];refine H.perm ?_;have p1: ∀(x1 a d f g j k l:Nat×List AI),([j,k,g,f,l,a,d,x1]++L).Perm ([x1,a,d,f,g,j,k,l]++L):=λx1 a d f g j k l=>by
   refine Gj L ?_;exact(show([5,6,4,3,7,1,2,0]:List Nat).Perm [0,1,2,3,4,5,6,7] by decide).map λi=>([x1,a,d,f,g,j,k,l]:List (Nat×List AI)).getD i x1
  exact p1 _ _ _ _ _ _ _ _
end
section
variable {D G:List Nat} {w0 w w1:A2} {L L0 Ls:List (Nat×List AI)}
theorem cv.IE {M1 M2 M1':List (Nat×CW)} {L':List (Nat×List AI)} (H:cv D G w0 w L (M1++M2)) (K:cv [] (L.map (·.1)++M1.map (·.1)) w w1 L' M1'):cv D G w0 w1 L' (M1'++M2):=by
 have f:=H.nd;rw[Dk,G1] at f;have g: ∀x∈L.map (·.1)++M1.map (·.1),w0.heap.size<=x\/x∈G:=λx c=>by
  rcases Dq.1 c with c|c
  ·obtain⟨y,d,rfl⟩:=B5.1 c;exact H.base.own y d
  ·obtain⟨y,d,rfl⟩:=B5.1 c;exact H.own y (DB _ d)
 have h: ∀x,w.heap.size<=x\/x∈L.map (·.1)++M1.map (·.1)->w0.heap.size<=x\/x∈G:=λx c=>by
  rcases c with c|c
  ·exact .inl (Io H.base.fr.size c)
  ·exact g x c
 have i: ∀r∈D,r∉L.map (·.1)++M1.map (·.1):=λr j c=>by
  rcases Dq.1 c with c|c
  ·obtain⟨y,d,e⟩:=B5.1 c;exact aK.da (H.base.db y d) (H.base.pL r j).2 (λ_ _ _ hc=>by cases hc) e
  ·obtain⟨y,d,e⟩:=B5.1 c;exact H.nD y (DB _ d) (by rw[e];exact j)
 have k: ∀y∈M2,y.1∉L.map (·.1)++M1.map (·.1):=λy d c=>by
  rcases Dq.1 c with c|c
  ·obtain⟨x,c,e⟩:=B5.1 c;exact H.F9 c (B2 _ d) e
  ·exact f.2.2 _ c _ (B5.2 ⟨y,d,rfl⟩) rfl
 have l: ∀y∈M2,y.1<w.heap.size:=λy d=>(OW.1 (H.obj y (B2 _ d)).1).1;refine⟨H.base.frame K.base.fr g i K.base.db (λx c=>h _ (K.base.own x c)) K.base.nd,λx c=>?_,λx c=>?_,?_,λx c=>?_⟩
 ·rcases Dq.1 c with c|c
  ·exact K.obj x c
  ·obtain⟨n,o⟩:=H.obj x (B2 _ c);exact⟨by rw[K.base.fr.block x.1 (l x c) (k x c)];exact n,o⟩
 ·rcases Dq.1 c with c|c
  ·exact h _ (K.own x c)
  ·exact H.own x (B2 _ c)
 ·rw[Dk,G1];refine⟨K.nd,f.2.1,λa p b hb e=>?_⟩;subst e;obtain⟨x,c,rfl⟩:=B5.1 p;obtain⟨y,d,e⟩:=B5.1 hb;rcases K.own x c with q|q
  ·have:=l y d;omega
  ·exact k y d (by rw[e];exact q)
 ·rcases Dq.1 c with c|c
  ·intro m;rcases K.own x c with q|q
   ·have:=(OW.1 (H.base.pL _ m).2).1;omega
   ·exact i _ m q
  ·exact H.nD x (B2 _ c)
theorem cv.Ck {M1 M2:List (Nat×CW)} (H:cv D G w0 w L (M1++M2)):cv [] (L.map (·.1)++M1.map (·.1)) w w L M1:=by
 have b:=H.nd;rw[Dk,G1] at b;exact⟨⟨Fr.refl _ w,H.base.db,λx a=> .inr (DB _ (B5.2 ⟨x,a,rfl⟩)),H.base.nd,λx a=>(by cases a)⟩,λx a=>H.obj x (DB _ a),λx a=> .inr (B2 _ (B5.2 ⟨x,a,rfl⟩)),b.1,λx a=>List.not_mem_nil⟩
end
end Go.Proofs.YtlcenllcmeebhaaGreat
