import Derived.Test.YtlcenllcmeebhaaGreatPAD
/-! What the statement leans on: texts joined and shortened by a program of mine. -/
set_option linter.unusedVariables false
set_option linter.unusedSimpArgs false
open Go renaming World->A2,Value->AC,Addr->AG,MapEntry->B5,Obj->BO
open Go.Proofs.Tryz renaming prog->AB
open List renaming range->AF,mem_cons_self->AT,mem_append_right->Ae,mem_cons_of_mem->Ap,replicate->Aq,perm_middle->B1,length_map->B2,getElem?_of_mem->B3,sublist_cons_self->B4,getElem?_map->BX,getElem?_eq_some_iff->Bs,mem_map->Bx,mem_of_getElem?->C5,mem_append_left->Ca,mem_range->Cc,length_set->Cd,getElem?_eq_getElem->DA,append_assoc->DB,getElem?_set_self->DH,getElem?_set_ne->DN,length_replicate->DQ,length_cons->Dh,map_append->Do,perm_append_comm->Dr,flatMap_cons->Dw,length_take->E4,getD_eq_getElem?_getD->F4,mem_cons->FC,foldl_cons->FS,length->FU,map_cons->FV,getElem?_inj->Fh,filter_eq_self->Ft,getElem?_append_right->Fw,sublist_append_right->Fx,length_append->G1,perm_cons_erase->GD,filter_map->GF,map_map->GG,length_singleton->GH,mem_filter->GI,ext_getElem?->GJ,any_eq_true->GS,sublist_append_left->Ga,eq_of_mem_replicate->H5,mem_flatMap->H7,mem_singleton->HB,find?_eq_none->Hb,take_append_drop->Hq,set_append_right->Hr,length_filter_le->I1,filter_congr->I2,length_drop->IE,getElem?_append_left->IR,length_eraseIdx->Ij,nodup_nil->J3,find?_some->J4,mem_of_find?_eq_some->J5,findIdx?_eq_some_iff_getElem->J_,drop_eq_getElem_cons->JP,nodup_cons->JQ,eraseIdx_eq_take_drop_succ->JS,filter_cons_of_neg->JU,filter_sublist->JW,length_nil->K1,countP_eq_length_filter->Kc,filter_cons->LL,replicate_succ'->M4,set_append_left->M5,nil_append->N7,length_zipIdx->N8,find?_range_eq_some->NA,length_range->NF,getElem?_eq_none->NI,perm_append_comm_assoc->NK
open Eq renaming mpr->AH
open List.Perm renaming cons->DE,refl->Dl,flatMap_right->Gd,append_right->Gi,append_left->Im
open Nat renaming le_refl->Db,zero_le->FQ,min_eq_left->In,le_trans->Io,not_lt_zero->NL
open Int renaming toNat_natCast->Dd,le_refl->Gj
open Bool renaming or_eq_false_iff->Dn,and_eq_true->E5,true_and->H4,and_eq_false_iff->J0,or_eq_true->NO,not_eq_true'->NR,eq_iff_iff->NS
open List.Sublist renaming append_left->FR
open Array renaming contains_push->J1,eraseIdxIfInBounds->Nv
open Option renaming map_eq_some_iff->O2,map_eq_none_iff->OX
namespace Go.Proofs.YtlcenllcmeebhaaGreat
set_option maxRecDepth 100000
open Go.RX D
namespace Inv
variable {g:Gh} {s:WD}
theorem ab9 (I:Inv g s) {o r p f0:Int} (v:g r=some (o,3,0)) (a:0<=p/\p<65536) (E:dH g s o p f0 0):
 ∃F:Nat->Int,F 0=f0/\Up g s o p F 0/\(de s.1 p 3 r).reverse=Wz F p 0 3:=by
 obtain⟨f1,a1,j⟩:=I.Fl E.1 (by decide);obtain⟨f2,e,k⟩:=I.Fl a1 (by decide);obtain⟨f3,f,m⟩:=I.Fl e (by decide);have w:f3=r:=by
  refine I.inj f ?_;rw[v];have:=px4 a;simp only[px] at this ⊢;rw[this]
 subst w;have b:=I.vA E.1;have c:=I.vA a1;have d:=I.vA e;have n:=I.vA f;refine⟨λi=>match i with|0=>f0|1=>f1|2=>f2| _=>f3,rfl,⟨λi _ h=>?_,λi _ h=>?_⟩,?_⟩
 ·rcases i with _| _| _| _|i
  ·exact E.1
  ·exact a1
  ·exact e
  ·exact f
  ·omega
 ·rcases i with _| _| _|i
  ·exact j
  ·exact k
  ·exact m
  ·omega
 ·have q:=lq ⟨n.1,n.2.1⟩ a (l:=3) (by omega);have t:=lq ⟨d.1,d.2.1⟩ a (l:=2) (by omega);have u:=lq ⟨c.1,c.2.1⟩ a (l:=1) (by omega);have x:=lq ⟨b.1,b.2.1⟩ a (l:=0) (by omega);have t2:=dI ⟨d.1,d.2.1⟩;have t1:=dI ⟨c.1,c.2.1⟩;have t0:=dI ⟨b.1,b.2.1⟩;have c3:aH s.1 (dQ f3 p ((2+1:Nat):Int))=b_ f2:=by rw[q];exact m
  have c2:aH s.1 (dQ f2 p ((1+1:Nat):Int))=b_ f1:=by rw[t];exact k
  have c1:aH s.1 (dQ f1 p ((0+1:Nat):Int))=b_ f0:=by rw[u];exact j
  have w0:de s.1 p 0 f0=[(f0,0,dQ f0 p 0,())]:=rfl;have w1:de s.1 p 1 f1=[(f1,((0+1:Nat):Int),dQ f1 p ((0+1:Nat):Int),()),(f0,0,dQ f0 p 0,())]:=by rw[de,c1,av t0];rfl
  have y:de s.1 p 2 f2=[(f2,((1+1:Nat):Int),dQ f2 p ((1+1:Nat):Int),()),(f1,((0+1:Nat):Int),dQ f1 p ((0+1:Nat):Int),()),(f0,0,dQ f0 p 0,())]:=by
   rw[de,c2,av t1];show _::de s.1 p 1 f1= _;rw[w1]
  have z:de s.1 p 3 f3=[(f3,((2+1:Nat):Int),dQ f3 p ((2+1:Nat):Int),()),(f2,((1+1:Nat):Int),dQ f2 p ((1+1:Nat):Int),()),(f1,((0+1:Nat):Int),dQ f1 p ((0+1:Nat):Int),()),(f0,0,dQ f0 p 0,())]:=by
   rw[de,c3,av t2];show _::de s.1 p 2 f2= _;rw[y]
  have A:dQ f0 p 0=16*f0+px 0 p % 16:=x;have B:dQ f1 p ((0+1:Nat):Int)=16*f1+px 1 p % 16:=u;have C:dQ f2 p ((1+1:Nat):Int)=16*f2+px 2 p % 16:=t;have D:dQ f3 p ((2+1:Nat):Int)=16*f3+px 3 p % 16:=q;rw[z,A,B,C,D];rfl
theorem Jh {s:WD} {n:Nat} {d:DT} (h:s.2[n]? =some d) (k:d.1=3\/d.1=5): ∃d':DT,s.2[n]? =some d'/\(d'.1=5\/(d'.1=3/\d.1=3)):=⟨d,h,k.elim (λe=> .inr ⟨e,e⟩) .inl⟩
theorem DL (I:Inv g s) {o r p:Int} (l:g r=some (o,3,0)) (c:0<=p/\p<65536) (h0:B_ s o r false p=0):
 ∃g',sT (n_ o 0 p) o g g' s (nf s o r false p)/\bz (nf s o r false p) r false p=(0,0,4,())/\(bz s r false p).2.2.1=0/\
  (∃f j,j<=1/\dH g s o p f j/\(aH s.1 (16*f+px j p % 16)).1=true/\cq (nf s o r false p).2 0+j=cq s.2 0)/\(Dk g s none->Dk g' (nf s o r false p) none):=by
 have m:(bz s r false p).2.2.1=0:=by
  unfold B_ at h0;by_cases h:(bz s r false p).2.2.1=0
  ·exact h
  ·rw[ao h] at h0;exact h0
 have w:ma s o r p=0:=by unfold B_ at h0;rw[av m] at h0;exact h0
 obtain⟨f,j,S,d⟩:=I.mv l c;have x:=m;rw[I.fP l c d] at x;have n:=CF x;have B:j<=1:=by
  rcases I.leaf d.1 (dZ p j).1 (dZ p j).2 n d.2 with h|h<;>omega
 obtain⟨g1,f0,C1,E1,c1,C⟩:=I.split l c d n w;have D:nf s o r false p=jt (de (fp s o r p).1 p 3 r).reverse (cW (fp s o r p).1 (dE (fp s o r p).1 r p).2.2.1 0,(fp s o r p).2):=by
  unfold nf;rw[av m,av w]
 have q:=C1.root.to l;have E:=(C1.inv.nK q c E1).1;rw[D,E];generalize fp s o r p=t at*
 have hi:=dZ p 0;obtain⟨y,G,H,J,K⟩:=C1.inv.zb (v:=0) E1.1 hi.1 hi.2 E1.2 (by rw[oX];exact Kb) (by rw[oX];exact DM _) (λ_=>rfl) E1 rfl;obtain⟨F,z,U,L⟩:=C1.inv.ab9 q c E1;rw[L];dsimp only;have U2:Up g1 (cW t.1 (16*f0+px 0 p % 16) 0,t.2) o p F 0:=by
  refine⟨U.gh,λi h1 u=>?_⟩;have M:=U.ne (a:=i+1) (b:=0) (by omega) (by omega) (by omega) (by omega) (by omega);have T:=dZ p (i+1);rw[z] at M;show aH (cW _ _ _) _= _;rw[gf (by omega)];exact U.ld i h1 u
 obtain⟨N,C3,c3,O⟩:=thin c 3 rfl y U2;have C2:sT (n_ o 0 p) o g1 g1 t (cW t.1 (16*f0+px 0 p % 16) 0,t.2):=⟨y,.refl _,G,H,λh k=>Jh h k,⟨cG _ _ _,rfl⟩,C1.inv.CD E1.1 hi.1 hi.2 _,λ_ nl=>nl.upd E1.1 hi.1 hi.2 (λb hb=>gf (λe=>hb e.symm)) λ_ _=>rfl,λh=> .inl h⟩;refine⟨N,((C1.mono λ_ _ h=>h.elim).trans C2).trans (C3.mono λ_ _ h=>h.elim),?_,m,⟨f,j,B,d,n,?_⟩,λh=>?_⟩
 ·obtain⟨f',V,h1,u⟩:=C3.Dv (λh=>h) (J p rfl).1;rw[C3.inv.fP (C3.root.to q) c h1,u];show ka p 0 (aH (cW t.1 _ _) _)= _;rw[K,oX];rfl
 ·show cq _ 0+j= _;rw[c3];exact c1
 ·refine O λf1 o1 W x1 h1 P A=>?_;rw[z] at A;have X:f1≠f0:=λe=>A (by rw[e]);obtain⟨k,k0,Q,R⟩:=C h h1 P (by simp);exact⟨k,k0,Q,by show(aH (cW _ _ _) _).1=true;rw[gf (by omega)];exact R⟩
theorem tx (I:Inv g s) {o r p rt:Int} (i:g r=some (o,3,0)) (h0:FX s o r false p rt=0):
 (0<=p/\p<65536)/\ ∃g',sT (n_ o 0 p) o g g' s (rI s o r false p rt)/\(bz s r false p).2.2.1=0/\bz (rI s o r false p rt) r false p=((bz s r false p).1,rt,0,())/\
  cq s.2 0<=cq (rI s o r false p rt).2 0+1:=by
 have n: ¬ (false=true):=by decide
 unfold FX at h0;rw[ao n] at h0;have a:l_ p 0 rt=0:=by
  by_cases h:l_ p 0 rt=0
  ·exact h
  ·rw[ao h] at h0;exact h0
 rw[av a] at h0;have z:(0<=p/\p<65536)/\1<=rt/\rt<=7:=by
  unfold l_ at a;by_cases h1:p<0\/p>=65536\/(0:Int)<0\/(0:Int)>=4096
  ·rw[av h1] at a;exact absurd a (by decide)
  ·rw[ao h1] at a;by_cases A:rt<1\/rt>7
   ·rw[av A] at a;exact absurd a (by decide)
   ·omega
 obtain⟨c,M⟩:=z;refine⟨c,?_⟩;obtain⟨f,j,N,d⟩:=I.mv i c;obtain⟨B,eP⟩:=I.nK i c d;have O:=I.fP i c d;by_cases c1:(dg s.1 r p).1=true
 ·rw[av c1] at h0;have C:rI s o r false p rt=(if((dg s.1 r p).2.2.1&&(dg s.1 r p).2.1==rt)=true then s
   else if ma s o r p=0 then dK (fp s o r p) (dE (fp s o r p).1 r p).2.2.1 (true,rt,false,qD p (dE s.1 r p) (dg s.1 r p),()) else fp s o r p):=by
   unfold rI;rw[ao n,av a,av c1]
  rw[C];have l:(aH s.1 (16*f+px j p % 16)).1=true:=by rw[<-eP];exact c1
  have m:bz s r false p=(qD p (dE s.1 r p) (dg s.1 r p),(dg s.1 r p).2.1,0,()):=by
   unfold bz;rw[ao n,ao (by omega),av c1]
  by_cases c2:((dg s.1 r p).2.2.1&&(dg s.1 r p).2.1==rt)=true
  ·rw[av c2];refine⟨g,.refl I _ _,by rw[m],?_,by omega⟩;rw[m];simp only[E5,beq_iff_eq] at c2;rw[c2.2]
  ·rw[ao c2] at h0;rw[ao c2,av h0];obtain⟨g1,f0,C1,E1,d1,P⟩:=I.split i c d l h0;have q:=C1.root.to i;have D:=(C1.inv.nK q c E1).1;rw[D];have u:0<=qD p (dE s.1 r p) (dg s.1 r p)/\qD p (dE s.1 r p) (dg s.1 r p)<4096:=by
    have w:=lE s.1 (16*f+px j p % 16);have x:=I.leaf d.1 (dZ p j).1 (dZ p j).2 l d.2;rw[eP,B];generalize aH s.1 (16*f+px j p % 16)=e at*
    obtain⟨ep,er,el,ef,Q⟩:=e;dsimp only at l w x;subst l;obtain⟨R,S,E,F,T⟩:=l6.1 w;unfold qD;dsimp only;rcases x with ⟨rfl, _⟩|⟨rfl, _,U⟩
    ·rw[ao (by decide)];exact⟨E,F⟩
    ·rw[av (by decide)];omega
   have V:j<=1:=by
    rcases I.leaf d.1 (dZ p j).1 (dZ p j).2 l d.2 with h|h<;>omega
   have G:(bz s r false p).1=qD p (dE s.1 r p) (dg s.1 r p):=by rw[m]
   rw[G];generalize qD p (dE s.1 r p) (dg s.1 r p)=fr at*
   generalize fp s o r p=t at*
   have hv:e9 (Nz (true,rt,false,fr,()))=(true,rt,false,fr,()):=by
    show e9 (Fz true rt false fr)= _;exact xF (l6.2 ⟨by omega,by omega,u.1,u.2,.inr rfl⟩)
   have hi:=dZ p 0;obtain⟨y,H,J,K,L⟩:=C1.inv.zb (v:=Nz (true,rt,false,fr,())) E1.1 hi.1 hi.2 E1.2 (by rw[hv];exact OG (by omega)) (by rw[hv];exact λ_ _=> .inl ⟨rfl,rfl⟩) (λh=>by rw[hv] at h;cases h) E1 rfl;have C2:sT (n_ o 0 p) o g1 g1 t (cW t.1 (16*f0+px 0 p % 16) (Nz (true,rt,false,fr,())),t.2):=⟨y,.refl _,H,J,λh k=>Jh h k,⟨cG _ _ _,rfl⟩,C1.inv.CD E1.1 hi.1 hi.2 _,λ_ nl=>nl.upd E1.1 hi.1 hi.2 (λb hb=>gf (λe=>hb e.symm)) λ_ _=>rfl,λh=> .inl h⟩;refine⟨g1,(C1.mono λ_ _ h=>h.elim).trans C2,by rw[m],?_,?_⟩
   ·show bz (cW t.1 (16*f0+px 0 p % 16) _,t.2) r false p= _;rw[y.fP q c (K p rfl).1];show ka p 0 (aH (cW t.1 _ _) _)= _;rw[L,hv];rfl
   ·show _<=cq t.2 0+1;omega
 ·rw[ao c1] at h0;exact absurd h0 (by decide)
theorem map (I:Inv g s) {o r p f rt:Int} (c:g r=some (o,3,0)) (h0:lQ s r false p f rt=0):
 (0<=p/\p<65536)/\ ∃g',sT (n_ o 0 p) o g g' s (jB s o r false p f rt)/\bz (jB s o r false p f rt) r false p=(f,rt,0,())/\1<=rt/\(bz s r false p).2.2.1=4/\
  (∃f0,dH g' (jB s o r false p f rt) o p f0 0)/\
  (∃f0 j,dH g s o p f0 j/\cq (jB s o r false p f rt).2 0+j=cq s.2 0)/\(Dk g s none->Dk g' (jB s o r false p f rt) none):=by
 have d: ¬ (false=true):=by decide
 unfold lQ at h0;rw[ao d] at h0;have a:l_ p f rt=0:=by
  by_cases h:l_ p f rt=0
  ·exact h
  ·rw[ao h] at h0;exact h0
 rw[av a] at h0;have l:(0<=p/\p<65536)/\(0<=f/\f<4096)/\1<=rt/\rt<=7:=by
  unfold l_ at a;by_cases h1:p<0\/p>=65536\/f<0\/f>=4096
  ·rw[av h1] at a;exact absurd a (by decide)
  ·rw[ao h1] at a;by_cases m:rt<1\/rt>7
   ·rw[av m] at a;exact absurd a (by decide)
   ·omega
 obtain⟨b,i,n⟩:=l;have q:jB s o r false p f rt=rH s o r p 0 (true,rt,false,f,()):=by unfold jB;rw[ao d,av a]
 rw[q];have t:bR true rt false f=true:=l6.2 ⟨by omega,by omega,i.1,i.2,.inr rfl⟩;obtain⟨g',C,A,⟨f1,j,x,k,u,hc⟩,v⟩:=I.put c b (lv:=0) (e:=(true,rt,false,f,())) rfl t (OG (by omega)) (λ_ _=> .inl ⟨rfl,rfl⟩) h0;obtain⟨f2,E2,w⟩:=A p rfl;refine⟨b,g',C,?_,n.1,?_,⟨f2,E2⟩,⟨f1,j,k,hc⟩,v⟩
 ·have h:=C.inv.fP (C.root.to c) b E2;rw[w] at h;exact h
 ·rw[I.fP c b k,F1 _ _ u]
end Inv
set_option maxRecDepth 100000
open Go.RX D
def fresh (n m:Nat):WD:=(Aq n 0,Aq m zD)
abbrev noG:Gh:=λ_=>none
theorem VC (m:Nat) (v:Int):cq (Aq m zD) v=if v=0 then m else 0:=by
 unfold cq;rw[List.countP_replicate];by_cases h:v=0
 ·subst h;rfl
 ·rw[ao h,ao];show ¬ (((0:Int)==v)=true);simp;omega
theorem Mg {n m:Nat} (h:16*m<=n) (b:m<=4096):Inv noG (fresh n m) where
 len:=by
  show 16*(Aq m zD).length<=(Aq n (0:Int)).length;simpa using h
 le:=by
  show(Aq m zD).length<=4096;simpa using b
 fz:=λd a _=>H5 a
 kd:=by intro f o l x h;cases h
 inj:=by intro f o l h;cases h
 sr:=by intro f o l x i h;cases h
 leaf:=by intro f o l x i h;cases h
 Fl:=by intro f o l x h;cases h
 wf:=by intro f o l x i h;cases h
 tb:=by
  intro k d a c;have:d=zD:=H5 (C5 a);subst this;cases c
namespace Inv
variable {g:Gh} {s:WD}
theorem born (I:Inv g s) {o:Int} (w:1<=o/\o<=16) (A: ∀f,g f≠some (o,3,0)) (hc:0<cq s.2 0):
 rz s o=0/\g (dX s o)=none/\0<=dX s o/\dX s o<s.2.length/\(iF s o λ_=>0).2=s.2.set (dX s o).toNat (3,o,0,0,())/\s.2[(dX s o).toNat]? =some zD/\
 (∀b,(b<16*dX s o\/16*dX s o+16<=b)->dC (iF s o λ_=>0).1 b=dC s.1 b)/\
 (∀k,0<=k->k<16->dC (iF s o λ_=>0).1 (16*dX s o+k)=0)/\(iF s o λ_=>0).1.length=s.1.length/\
 Inv (mh g (dX s o) (some (o,3,0))) (iF s o λ_=>0):=by
 obtain⟨n,K,B,L,M,N⟩:=m5 hc I.fz w;have C:dX s o=(n:Int):=L;have D:rz s o=0:=M;have O:=I.len;have P:=I.le;have Q:16*(n:Int)+16<=s.1.length:=by omega
 obtain⟨W,r⟩: ∃W,W=e_ s.1 (n:Int) (λ_=>0) 16:=⟨_,rfl⟩;have E:W.length=s.1.length:=by rw[r,gJ]
 have F: ∀b,dC W b=if 16*(n:Int)<=b/\b<16*(n:Int)+16 then 0 else dC s.1 b:=λb=>by
  rw[r];exact tA (by omega) Q 16 (Db _) b
 have R:iF s o (λ_=>0)=(W,s.2.set n (3,o,0,0,())):=by unfold iF;rw[av D,C,N,r]
 clear r;have gn:g (n:Int)=none:=by
  cases S:g (n:Int) with
  |none=>rfl
  |some v=>
   obtain⟨a,b,c⟩:=v;have:=(I.kd S).2.2.1;rw[show((n:Int)).toNat=n from rfl,B] at this;cases this
 have t: ∀{f':Int} {v},g f'=some v->f'≠(n:Int):=λh e=>by rw[e,gn] at h;cases h
 rw[R,C];have x: ∀b,(b<16*(n:Int)\/16*(n:Int)+16<=b)->dC W b=dC s.1 b:=λb h=>by rw[F b,ao (by omega)]
 have y: ∀k,0<=k->k<16->dC W (16*(n:Int)+k)=0:=λk h0 h1=>by rw[F,av (by omega)]
 have w1: ∀b,(b<16*(n:Int)\/16*(n:Int)+16<=b)->aH W b=aH s.1 b:=λb h=>by unfold aH;rw[x b h]
 have G: ∀k,0<=k->k<16->aH W (16*(n:Int)+k)=zE:=λk h0 h1=>by unfold aH;rw[y k h0 h1];exact oX
 have fQ: ∀{f0 l p k:Int} {i:Nat},g f0=some (l,i,p)->0<=k->k<16->aH W (16*f0+k)=aH s.1 (16*f0+k):=λ{f0 l p k i} h h0 h1=>by
  have:=t h;exact w1 _ (by omega)
 refine⟨D,gn,by omega,by omega,rfl,by rw[show((n:Int)).toNat=n from rfl];exact B,x,y,E,?_⟩;refine⟨?_,?_,?_,?_,?_,?_,?_,?_,?_,?_⟩
 ·show 16*(s.2.set n _).length<=W.length;rw[E,Cd];exact O
 ·show(s.2.set n _).length<=4096;rw[Cd];exact P
 ·intro d z h0;rcases List.mem_or_eq_of_mem_set z with z|rfl
  ·exact I.fz d z h0
  ·cases h0
 ·intro f0 l i p h;show _/\ _<((s.2.set n (3,o,0,0,())).length:Int)/\(s.2.set n (3,o,0,0,()))[f0.toNat]? = _/\ _;rw[Cd];by_cases e:f0=(n:Int)
  ·subst e;rw[bI] at h;cases h;refine⟨by omega,by omega,?_,w.1,w.2,by omega⟩;rw[show((n:Int)).toNat=n from rfl,DH K]
  ·rw[aX e] at h;obtain⟨a1,T,U,V⟩:=I.kd h;refine⟨a1,T,?_,V⟩;rw[DN (by omega)];exact U
 ·intro a b v q hb;by_cases e:a=(n:Int)<;>by_cases e':b=(n:Int)
  ·rw[e,e']
  ·subst e;rw[bI] at q;rw[aX e'] at hb;cases q;exact absurd hb (A b)
  ·subst e';rw[bI] at hb;rw[aX e] at q;cases hb;exact absurd q (A a)
  ·rw[aX e] at q;rw[aX e'] at hb;exact I.inj q hb
 ·intro f0 l i p k h h0 h1 j;by_cases e:f0=(n:Int)
  ·subst e;have j:dp (aH W (16*(n:Int)+k))=true:=j;rw[G k h0 h1,Kb] at j;cases j
  ·rw[aX e] at h;have j:dp (aH W (16*f0+k))=true:=j;show∃m,i=m+1/\mh g n _ (aH W (16*f0+k)).2.2.2.1= _;rw[fQ h h0 h1] at j ⊢;obtain⟨X,Y,H⟩:=I.sr h h0 h1 j;exact⟨X,Y,by rw[aX (t H)];exact H⟩
 ·intro f0 l i p k h h0 h1;show ly i (aH W (16*f0+k));by_cases e:f0=(n:Int)
  ·subst e;rw[G k h0 h1];exact DM _
  ·rw[aX e] at h;rw[fQ h h0 h1];exact I.leaf h h0 h1
 ·intro f0 l i p h Z;by_cases e:f0=(n:Int)
  ·subst e;rw[bI] at h;cases h;omega
  ·rw[aX e] at h;obtain⟨f',p1,p2⟩:=I.Fl h Z;refine⟨f',by rw[aX (t p1)];exact p1,?_⟩;show aH W _= _;rw[fQ p1 (by omega) (by omega)];exact p2
 ·intro f0 l i p k h h0 h1 u;show dC W (16*f0+k)=0;by_cases e:f0=(n:Int)
  ·subst e;exact y k h0 h1
  ·rw[aX e] at h;have u:(aH W (16*f0+k)).1=false:=u;rw[fQ h h0 h1] at u;have:=t h;rw[x _ (by omega)];exact I.wf h h0 h1 u
 ·intro J d qy h3;by_cases e:J=n
  ·subst e;exact⟨_,bI _ _ _⟩
  ·have h':(s.2.set n (3,o,0,0,()))[J]? =some d:=qy;rw[DN (by omega)] at h';obtain⟨v,hv⟩:=I.tb h' h3;exact⟨v,by rw[aX (by omega)];exact hv⟩
end Inv
set_option maxRecDepth 100000
open Go.RX D
def Rt (g:Gh):Prop:= ∀f o x,g f=some (o,3,x)->x=0
theorem Rt.dv {g g':Gh} (h:Rt g) (k:mM g g'):Rt g':=λf o x e=>h f o x ((k _ _ _).1 e)
def upx:Nat->Int->Int
 |0,x=>x
 |n+1,x=>upx n x / 16
theorem Ji {ws:List Int} {l:Nat} {f z:Int}:z∈(AF 16).flatMap (oB ws l f)<-> ∃i:Nat,i<16/\ ∃m,l=m+1/\dp (aH ws (16*f+(i:Int)))=true/\z∈cU ws m (aH ws (16*f+(i:Int))).2.2.2.1:=by
 rw[H7];constructor
 ·rintro⟨i,hi,h⟩;rw[Cc] at hi;cases l with
  |zero=>cases h
  |succ m=>
   unfold oB at h;dsimp only at h;split at h
   ·rename_i a;exact⟨i,hi,m,rfl,a,h⟩
   ·cases h
 ·rintro⟨i,hi,m,rfl,a,h⟩;refine⟨i,Cc.2 hi,?_⟩;unfold oB;dsimp only;rw[av a];exact h
theorem vj (x:Int): ∀l:List Int,(jq x l).Perm (x::l)
 |[]=> .refl _
 |y::l=>by
  rw[jq];split
  ·exact((vj x l).cons y).trans (.swap _ _ _)
  ·exact .refl _
theorem Bt: ∀(l a:List Int),(l.foldl (λa x=>jq x a) a).Perm (l++a)
 |[],a=> .refl _
 |x::l,a=>by
  rw[FS];exact(Bt l (jq x a)).trans (((vj x a).append_left l).trans B1)
theorem lF (l:List Int):(mJ l).Perm l:=by
 unfold mJ;have:=Bt l [];rw[List.append_nil] at this;exact(List.reverse_perm _).trans this
theorem RU (o:Int) (h:1<=o/\o<=16): ¬ (aO 5 0 (5,o,0,0,())).2=0:=by
 have a:dT 5 o 0 0=true:=by unfold dT jK;simp;omega
 show ¬ gN 5 o 0 0 5 0=0;unfold gN;rw[a,ao (by decide),ao (by decide),ao (by decide)];decide
theorem Bu {o:Int} (c:1<=o/\o<=16): ∀(l:List Int) (ds:List DT),(∀f∈l,0<=f/\(ds[f.toNat]? =some (3,o,0,0,())\/ds[f.toNat]? =some (5,o,0,0,())))->
 (l.foldl (λds f=>dD ds f (aO 5 0)) ds).length=ds.length/\ ∀n:Nat,((n:Int)∈l->(l.foldl (λds f=>dD ds f (aO 5 0)) ds)[n]? =some (5,o,0,0,()))/\((n:Int)∉l->(l.foldl (λds f=>dD ds f (aO 5 0)) ds)[n]? =ds[n]?)
 |[],ds, _=>⟨rfl,λn=>⟨λh=>(by cases h),λ_=>rfl⟩⟩
 |f::l,ds,h=>by
  obtain⟨m,a⟩:=h f AT;have p:f.toNat<ds.length:=by
   rcases a with h|h<;>exact(Bs.1 h).1
  have q:(dD ds f (aO 5 0)).length=ds.length/\(dD ds f (aO 5 0))[f.toNat]? =some (5,o,0,0,())/\ ∀n:Nat,n≠f.toNat->(dD ds f (aO 5 0))[n]? =ds[n]? :=by
   rw[pf ⟨m,by omega⟩,F4];rcases a with a|a
   ·rw[a];show((if(aO 5 0 (3,o,0,0,())).2=0 then ds.set f.toNat (aO 5 0 (3,o,0,0,())).1 else ds).length= _)/\(if(aO 5 0 (3,o,0,0,())).2=0 then ds.set f.toNat (aO 5 0 (3,o,0,0,())).1 else ds)[f.toNat]? = _/\ ∀n:Nat,n≠f.toNat->(if(aO 5 0 (3,o,0,0,())).2=0 then ds.set f.toNat (aO 5 0 (3,o,0,0,())).1 else ds)[n]? = _;rw[En c,av rfl];exact⟨Cd,DH p,λn i=>DN (λe=>i e.symm)⟩
   ·rw[a];show((if(aO 5 0 (5,o,0,0,())).2=0 then ds.set f.toNat (aO 5 0 (5,o,0,0,())).1 else ds).length= _)/\(if(aO 5 0 (5,o,0,0,())).2=0 then ds.set f.toNat (aO 5 0 (5,o,0,0,())).1 else ds)[f.toNat]? = _/\ ∀n:Nat,n≠f.toNat->(if(aO 5 0 (5,o,0,0,())).2=0 then ds.set f.toNat (aO 5 0 (5,o,0,0,())).1 else ds)[n]? = _;rw[ao (RU o c)];exact⟨rfl,a,λn i=>rfl⟩
  rw[FS];obtain⟨r,j,k⟩:=q;obtain⟨s,d⟩:=Bu c l (dD ds f (aO 5 0)) (λx t=>by
   obtain⟨u,v⟩:=h x (Ap _ t);refine⟨u,?_⟩;by_cases e:x.toNat=f.toNat
   ·rw[e];exact .inr j
   ·rw[k _ e];exact v)
  refine⟨s.trans r,λn=>⟨λb=>?_,λb=>?_⟩⟩
  ·by_cases g:(n:Int)∈l
   ·exact(d n).1 g
   ·rw[(d n).2 g];have:(n:Int)=f:=(FC.1 b).resolve_right g;have e:n=f.toNat:=by omega
    rw[e];exact j
  ·rw[(d n).2 (λh=>b (Ap _ h)),k n (λe=>b (by
   have:(n:Int)=f:=by omega
   rw[this];exact AT))]
def Kd (g:Gh) (o:Int):Gh:=λf=>match g f with
 |some v=>if v.1=o then none else some v
 |none=>none
theorem di {g:Gh} {o f:Int} {v:Int×Nat×Int}:Kd g o f=some v<->g f=some v/\v.1≠o:=by
 unfold Kd;cases b:g f with
 |none=>simp
 |some u=>
  dsimp only;by_cases e:u.1=o
  ·rw[av e];constructor
   ·intro h;cases h
   ·rintro⟨h,a⟩;cases h;exact absurd e a
  ·rw[ao e];constructor
   ·intro h;cases h;exact⟨rfl,e⟩
   ·rintro⟨h, _⟩;exact h
namespace Inv
variable {g:Gh} {s:WD}
theorem RV (I:Inv g s): ∀(l:Nat) {f o x:Int},g f=some (o,l,x)-> ∀z∈cU s.1 l f, ∃l' x' n,l'+n=l/\g z=some (o,l',x')/\upx n x'=x:=by
 intro l
 induction l with
 |zero=>
  intro f o x b z a;rw[cU,HB] at a;subst a;exact⟨0,x,0,rfl,b,rfl⟩
 |succ l c=>
  intro f o x b z a;rw[kO] at a;rcases FC.1 a with rfl|a
  ·exact⟨l+1,x,0,rfl,b,rfl⟩
  ·obtain⟨i,hi,m,q,d,e⟩:=Ji.1 a;have:m=l:=by omega
   subst this;obtain⟨h,h1,j⟩:=I.sr b (by omega) (by omega) d;have:h=m:=by omega
   subst this;obtain⟨l',x',n,r,k,p⟩:=c j z e;refine⟨l',x',n+1,by omega,k,?_⟩;show upx n x' / 16=x;rw[p];omega
theorem Er (I:Inv g s) (c:Rt g) {r o:Int} (d:g r=some (o,3,0)): ∀(n:Nat) {l:Nat} {f x:Int},l+n=3->g f=some (o,l,x)-> ∀z∈cU s.1 l f,z∈cU s.1 3 r
 |0,l,f,x,h,a,z,b=>by
  have:l=3:=by omega
  subst this;have:x=0:=c _ _ _ a;subst this;rw[I.inj a d] at b;exact b
 |n+1,l,f,x,h,a,z,b=>by
  obtain⟨f',h1,i⟩:=I.Fl a (by omega);obtain⟨j,k, _⟩:=I.vA a;refine I.Er c d n (l:=l+1) (by omega) h1 z ?_;rw[kO];refine Ap _ (Ji.2 ⟨(x % 16).toNat,by omega,l,rfl,?_⟩);have e:(((x % 16).toNat:Nat):Int)=x % 16:=by omega
  rw[e,i];exact⟨dI ⟨j,k⟩,b⟩
theorem Mh (I:Inv g s) (b:Rt g) {r o:Int} (a:g r=some (o,3,0)) (z:Int):z∈cU s.1 3 r<-> ∃l x,g z=some (o,l,x):=by
 constructor
 ·intro h;obtain⟨l',x',n, _,c, _⟩:=I.RV 3 a z h;exact⟨l',x',c⟩
 ·rintro⟨l,x,h⟩;have d:=(I.kd h).2.2.2.2.2;exact I.Er b a (3 - l) (by omega) h z (by rw[kO];exact AT)
theorem dropped (I:Inv g s) (w:Rt g) {r o:Int} (y:g r=some (o,3,0)):
 Inv (Kd g o) (cH s r false)/\Rt (Kd g o)/\(cH s r false).1=s.1/\(cH s r false).2.length=s.2.length/\
  ∀n:Nat,((∃l x,g (n:Int)=some (o,l,x))->(cH s r false).2[n]? =some (5,o,0,0,()))/\((¬ ∃l x,g (n:Int)=some (o,l,x))->(cH s r false).2[n]? =s.2[n]?):=by
 have A: ¬ (false=true):=by decide
 have E:cH s r false=(s.1,(mK s r false).foldl (λds f=>dD ds f (aO 5 0)) s.2):=ao A;have F:mK s r false=mJ (cU s.1 3 r):=ao A;have q: ∀z,z∈mK s r false<-> ∃l x,g z=some (o,l,x):=λz=>by
  rw[F,(lF _).mem_iff];exact I.Mh w y z
 have B:=(I.kd y).2.2.2;obtain⟨t1,t2⟩:=Bu ⟨B.1,B.2.1⟩ (mK s r false) s.2 (λf G=>by
  obtain⟨l,x,h⟩:=(q f).1 G;obtain⟨a1,C,t, _⟩:=I.kd h;exact⟨a1,.inl t⟩)
 rw[E];generalize R:(mK s r false).foldl (λds f=>dD ds f (aO 5 0)) s.2=ds at t1 t2;have u: ∀n:Nat,(∃l x,g (n:Int)=some (o,l,x))->ds[n]? =some (5,o,0,0,()):=λn h=>(t2 n).1 ((q _).2 h);have p: ∀n:Nat,(¬ ∃l x,g (n:Int)=some (o,l,x))->ds[n]? =s.2[n]? :=λn h=>(t2 n).2 (λH=>h ((q _).1 H));refine⟨?_,λf o' x h=>w f o' x (di.1 h).1,rfl,t1,λn=>⟨u n,p n⟩⟩;refine⟨?_,?_,?_,?_,?_,?_,?_,?_,?_,?_⟩
 ·show 16*ds.length<=s.1.length;rw[t1];exact I.len
 ·show ds.length<=4096;rw[t1];exact I.le
 ·intro d J h0;obtain⟨n,i⟩:=B3 J;have i:ds[n]? =some d:=i;by_cases h: ∃l x,g (n:Int)=some (o,l,x)
  ·rw[u n h] at i;cases i;cases h0
  ·rw[p n h] at i;exact I.fz d (C5 i) h0
 ·intro f o' l x h;obtain⟨h,j⟩:=di.1 h;obtain⟨a1,C,t,K⟩:=I.kd h;show _/\f<(ds.length:Int)/\ds[f.toNat]? = _/\ _;rw[t1];refine⟨a1,C,?_,K⟩;rw[p f.toNat ?_]
  ·exact t
  ·rintro⟨l',x',h'⟩;rw[show((f.toNat:Nat):Int)=f from by omega,h] at h';cases h';exact j rfl
 ·intro a b v L hb;exact I.inj (di.1 L).1 (di.1 hb).1
 ·intro f o' l x k h h0 h1 M;obtain⟨h,j⟩:=di.1 h;obtain⟨m,N,O⟩:=I.sr h h0 h1 M;exact⟨m,N,di.2 ⟨O,j⟩⟩
 ·intro f o' l x k h h0 h1;exact I.leaf (di.1 h).1 h0 h1
 ·intro f o' l x h P;obtain⟨h,j⟩:=di.1 h;obtain⟨f',p1,p2⟩:=I.Fl h P;exact⟨f',di.2 ⟨p1,j⟩,p2⟩
 ·intro f o' l x k h h0 h1 Q;exact I.wf (di.1 h).1 h0 h1 Q
 ·intro n d i D;have i:ds[n]? =some d:=i;by_cases h: ∃l x,g (n:Int)=some (o,l,x)
  ·rw[u n h] at i;cases i;cases D
  ·rw[p n h] at i;obtain⟨v,hv⟩:=I.tb i D;refine⟨v,di.2 ⟨hv,λe=>h ?_⟩⟩;obtain⟨a,b,c⟩:=v;have e:a=o:=e;subst e;exact⟨b,c,hv⟩
end Inv
set_option maxRecDepth 100000
open Go.RX D
theorem VD {s:WD} {o r pg lv:Int} {e:ET} (h: ¬ l9 s r pg lv=0):rH s o r pg lv e=s:=ao h
theorem Jj {s:WD} {o r:Int} {gone:Bool} {pg f rt:Int} (h: ¬ lQ s r gone pg f rt=0):jB s o r gone pg f rt=s:=by
 unfold lQ at h;unfold jB;cases gone with
 |true=>rw[av rfl]
 |false=>
  have a: ¬ (false=true):=by decide
  rw[ao a] at h ⊢;by_cases c:l_ pg f rt=0
  ·rw[av c] at h ⊢;exact VD h
  ·rw[ao c]
theorem VE {s:WD} {o r pg:Int} (h: ¬ ma s o r pg=0):fp s o r pg=s:=by
 unfold ma at h;unfold fp;by_cases c:(dE s.1 r pg).2.1=0
 ·rw[av c]
 ·rw[ao c] at h ⊢;rw[ao h,Jg h]
theorem VF {s:WD} {o r:Int} {gone:Bool} {pg rt:Int} (h: ¬ FX s o r gone pg rt=0):rI s o r gone pg rt=s:=by
 unfold FX at h;unfold rI;cases gone with
 |true=>rw[av rfl]
 |false=>
  have a: ¬ (false=true):=by decide
  rw[ao a] at h ⊢;by_cases c:l_ pg 0 rt=0
  ·rw[av c] at h ⊢;by_cases d:(dg s.1 r pg).1=true
   ·rw[av d] at h ⊢;by_cases e:((dg s.1 r pg).2.2.1&&(dg s.1 r pg).2.1==rt)=true
    ·rw[av e]
    ·rw[ao e] at h ⊢;rw[ao h,VE h]
   ·rw[ao d]
  ·rw[ao c]
namespace Inv
variable {g:Gh} {s:WD}
theorem ZL (I:Inv g s) {o:Int} (a:1<=o/\o<=16) (hc:0<cq s.2 0):rz s o=0:=by
 obtain⟨n, _, _, _,e, _⟩:=m5 hc I.fz a;exact e
end Inv
set_option maxRecDepth 100000
open Go.RX D
structure SM (Q:Sys) (D G:List Nat) (w0 w:A2) (s:WD) (L0:List (Nat×List AC)) (M:List (Nat×BO)):Prop where
 pos:0<s.1.length
 FY:0<s.2.length
 le:s.2.length<=4096
 okw:okW s.1
 kn: ∃ca la,cw D G w0 w (Q.L ca la s L0) M
section
variable {Q:Sys} {D G:List Nat} {w0 w w1:A2} {s:WD} {L0 L1:List (Nat×List AC)} {M M1:List (Nat×BO)}
namespace SM
theorem ext (H:SM Q D G w0 w s L0 M) (h:Ext w w1):SM Q D G w0 w1 s L0 M:=by
 obtain⟨a,b,c,d,ca,la,k⟩:=H;exact⟨a,b,c,d,ca,la,k.ext h⟩
theorem base (H:SM Q D G w0 w s L0 M):bq Q D G w0 w s L0:=by
 obtain⟨a,b,c,d,ca,la,k⟩:=H;exact⟨a,b,c,d,ca,la,k.base⟩
theorem of (S:bq Q D G w0 w s L0):SM Q D G w0 w s L0 []:=by
 obtain⟨a,b,c,d,ca,la,k⟩:=S;exact⟨a,b,c,d,ca,la,cw.of k⟩
theorem call (H:SM Q D G w0 w s L0 M): ∃f,bq Q [] f w w s L0/\ ∀{e:A2} {s':WD} {L':List (Nat×List AC)},bq Q [] f w e s' L'->SM Q D G w0 e s' L' M:=by
 obtain⟨a,b,c,d,ca,la,k⟩:=H;refine⟨_,⟨a,b,c,d,ca,la,k.base.again⟩,λ{e s' L'} S=>?_⟩;obtain⟨a',g,h,d',i,j,l⟩:=S;exact⟨a',g,h,d',i,j,k.join l⟩
theorem perm (H:SM Q D G w0 w s L0 M) (h:L1.Perm L0):SM Q D G w0 w s L1 M:=by
 obtain⟨a,b,c,d,ca,la,k⟩:=H;exact⟨a,b,c,d,ca,la,k.perm ((((h.cons _).cons _).cons _).cons _)⟩
theorem sub (H:SM Q D G w0 w s L0 M) (h:L1.Sublist L0):SM Q D G w0 w s L1 M:=by
 obtain⟨a,b,c,d,ca,la,k⟩:=H;exact⟨a,b,c,d,ca,la,k.sub ((((h.cons_cons _).cons_cons _).cons_cons _).cons_cons _)⟩
theorem lf (H:SM Q D G w0 w s L0 M) (h:M1.Perm M):SM Q D G w0 w s L0 M1:=by
 obtain⟨a,b,c,d,ca,la,k⟩:=H;exact⟨a,b,c,d,ca,la,k.lf h⟩
theorem FO (H:SM Q D G w0 w s L0 M) (h:M1.Sublist M):SM Q D G w0 w s L0 M1:=by
 obtain⟨a,b,c,d,ca,la,k⟩:=H;exact⟨a,b,c,d,ca,la,k.FO h⟩
theorem get (H:SM Q D G w0 w s L0 M) {r:Nat} {o:BO} (h:(r,o)∈M):w.heap[r]? =some o:=by
 obtain⟨a,b,c,d,ca,la,k⟩:=H;exact(k.obj _ h).1
theorem put (H:SM Q D G w0 w s L0 M) {i r:Nat} {o:BO} (h:M[i]? =some (r,o)) {o':BO} (e:nH o'):SM Q D G w0 (w.putObj r o') s L0 (M.set i (r,o')):=by
 obtain⟨a,b,c,d,ca,la,k⟩:=H;exact⟨a,b,c,d,ca,la,k.put h e⟩
theorem alloc (H:SM Q D G w0 w s L0 M) {o:BO} (e:nH o):SM Q D G w0 (w.alloc o) s L0 ((w.heap.size,o)::M):=by
 obtain⟨a,b,c,d,ca,la,k⟩:=H;exact⟨a,b,c,d,ca,la,k.alloc e⟩
theorem go (H:SM Q D G w0 w s L0 M) {P:Program} {f:FuncId} {sh:Sh} {args:List AC} {K:sh.T->A2->Prop} (k: ∀w1,SM Q D G w0 w1 s L0 M->aC P f sh args w1 K):aA P f sh args w K:=λ_ h=>k _ (H.ext h)
theorem en (H:SM Q D G w0 w s L0 M) {K:A2->Prop} (k: ∀w1,SM Q D G w0 w1 s L0 M->K w1):au w K:=λ_ h=>k _ (H.ext h)
end SM
end
abbrev TK:Type:=Int×Int×Int
def xd (t:TK):AC×AC:=(aa t.1,.agg ⟨[aa t.2.1,aa t.2.2]⟩)
def qF (es:List B5) (ck:Nat) (tk:List TK):Prop:=
 (∃p:List TK,p.Perm tk/\es.map (λe=>(e.key,e.val))=p.map xd)/\(es.map (·.born)).Nodup/\(∀e∈es,e.born<ck)/\(tk.map (·.1)).Nodup
theorem qF.nil:qF [] 0 []:=⟨⟨[],List.Perm.nil,rfl⟩,J3,λe a=>(by cases a),J3⟩
theorem qF.len {es:List B5} {ck:Nat} {tk:List TK} (h:qF es ck tk):es.length=tk.length:=by
 obtain⟨⟨p,h1,a⟩, _⟩:=h;have:=congrArg FU a;rw[B2,B2] at this;rw[this,h1.length_eq]
theorem RW {es:List B5} {p:List TK} (h:es.map (λe=>(e.key,e.val))=p.map xd) (g:Int) (i0:Nat):
 Instr.findNow (.int .i64) (aa g) es i0=some (match p.findIdx? (λt=>t.1==g) with
  |some i=>some (i0+i,(xd (p.getD i (0,0,0))).2)
  |none=>none):=by
 induction es generalizing p i0 with
 |nil=>
  cases p with
  |nil=>rfl
  |cons t p=>simp at h
 |cons e es d=>
  cases p with
  |nil=>simp at h
  |cons t p=>
   simp only[FV,List.cons.injEq] at h;obtain⟨h1,f⟩:=h;have j:e.key=aa t.1:=congrArg (·.1) h1;have hv:e.val=(xd t).2:=congrArg (·.2) h1;unfold Instr.findNow;rw[j];have k:Instr.sameNow (.int .i64) (aa g) (aa t.1)=some (g==t.1):=by
    show(if IntKind.i64=IntKind.i64 then some (g==t.1) else none)= _;rw[av rfl]
   rw[k,List.findIdx?_cons];by_cases a:t.1=g
   ·have b:(g==t.1)=true:=by simp[a]
    have c:(t.1==g)=true:=by simp[a]
    rw[b,av c];dsimp only;rw[hv];rfl
   ·have b:(g==t.1)=false:=by simp;exact λe=>a e.symm
    have c: ¬ (t.1==g)=true:=by simp[a]
    rw[b,ao c];dsimp only;rw[d f (i0+1)];cases p.findIdx? (λt=>t.1==g) with
    |none=>rfl
    |some i=>
     show some (some (i0+1+i, _))=some (some (i0+(i+1), _));rw[show i0+1+i=i0+(i+1) by omega];rfl
def cg (tk:List TK) (g:Int):Option (Int×Int):=(tk.find? λt=>t.1==g).map (·.2)
theorem jN {tk:List TK} {g a b:Int} (l:(tk.map (·.1)).Nodup):cg tk g=some (a,b)<->(g,a,b)∈tk:=by
 unfold cg;constructor
 ·intro h;obtain⟨t,h1,k⟩:=O2.1 h;have c:=J4 h1;have d:=J5 h1;have:t.1=g:=by simpa using c
  obtain⟨t1,t2⟩:=t;simp only at this k;subst this;subst k;exact d
 ·intro h;cases e:tk.find? λt=>t.1==g with
  |none=>
   have:=Hb.1 e _ h;simp at this
  |some t=>
   have c:=J4 e;have d:=J5 e;have m:t.1=g:=by simpa using c
   obtain⟨i,hi⟩:=B3 h;obtain⟨j,f⟩:=B3 d;have n:(tk.map (·.1))[i]? =some g:=by rw[BX,hi];rfl
   have o:(tk.map (·.1))[j]? =some g:=by rw[BX,f];exact congrArg some m
   have:=(Fh (by rw[B2];exact(Bs.1 hi).1) l).1 (n.trans o.symm);subst this;rw[hi] at f;cases f;rfl
theorem ql {tk:List TK} {g:Int}:cg tk g=none<-> ∀t∈tk,t.1≠g:=by
 unfold cg;rw[OX,Hb];simp
theorem qm {α β:Type} (f:α->β): ∀(l:List α) (i:Nat),(l.eraseIdx i).map f=(l.map f).eraseIdx i
 |[],i=>by simp
 |a::l,0=>rfl
 |a::l,i+1=>by
  simp only[List.eraseIdx_cons_succ,FV];rw[qm f l i]
theorem qF.find {es:List B5} {ck:Nat} {tk:List TK} (h:qF es ck tk) (g:Int): ∃r,Instr.findNow (.int .i64) (aa g) es 0=some r/\
 match cg tk g with
 |some x=> ∃i,r=some (i,.agg ⟨[aa x.1,aa x.2]⟩)/\i<es.length/\qF (es.eraseIdx i) ck (tk.filter λt=> !(t.1==g))
 |none=>r=none:=by
 obtain⟨⟨p,h1,f⟩,s,u,j⟩:=h;refine⟨_,RW f g 0,?_⟩;have v:(p.map (·.1)).Nodup:=(h1.map _).nodup_iff.2 j;cases k:p.findIdx? (λt=>t.1==g) with
 |none=>
  have:cg tk g=none:=ql.2 λt d=>by
   have:=List.findIdx?_eq_none_iff.1 k t (h1.mem_iff.2 d);simpa using this
  rw[this]
 |some i=>
  rw[J_] at k;obtain⟨hi,b, _⟩:=k;have l:p[i]? =some p[i]:=DA hi;have m:p.getD i (0,0,0)=p[i]:=by rw[F4,l];rfl
  obtain⟨t,d⟩: ∃t,t=p[i]:=⟨_,rfl⟩;rw[<-d] at l m b;have b:t.1=g:=by simpa using b
  have w:(g,t.2.1,t.2.2)∈tk:=by
   have:=h1.mem_iff.1 (C5 l);obtain⟨t1,t2,t3⟩:=t;simp only at b;subst b;exact this
  rw[(jN j).2 w];have B:es.length=p.length:=by
   have:=congrArg FU f;simpa using this
  refine⟨i,by dsimp only;rw[m,Nat.zero_add];rfl,by omega,⟨p.eraseIdx i,?_,?_⟩,?_,?_,?_⟩
  ·have y:p.eraseIdx i=p.filter λt=> !(t.1==g):=by
    have n:p=p.take i++t::p.drop (i+1):=by
     conv=>lhs;rw[<-Hq i p]
     rw[JP hi, <-d]
    have o: ∀x∈p.take i++p.drop (i+1),x.1≠g:=by
     intro x c e;have q:=v;rw[n,Do,FV] at q;have z:=(B1 (a:=t.1) (l₁:=(p.take i).map (·.1)) (l₂:=(p.drop (i+1)).map (·.1))).nodup_iff.1 q;have:=(JQ.1 z).1;refine this ?_;rw[b, <-e, <-Do];exact Bx.2 ⟨x,c,rfl⟩
    rw[JS]
    conv=>rhs;rw[n]
    rw[List.filter_append,JU (by simp[b])];rw[Ft.2 (λx c=>by have:=o x (Ca _ c);simpa using this),Ft.2 (λx c=>by have:=o x (Ae _ c);simpa using this)]
   rw[y];exact h1.filter _
  ·rw[qm,f,qm]
  ·rw[qm];exact s.sublist (List.eraseIdx_sublist _ _)
  ·exact λe A=>u e (List.mem_of_mem_eraseIdx A)
  ·exact j.sublist ((JW).map _)
theorem qF.push {es:List B5} {ck:Nat} {tk:List TK} (h:qF es ck tk) {t:TK} (g:cg tk t.1=none) {b:List TK} (c:b.Perm (t::tk)):qF (es++[{key:=(xd t).1,val:=(xd t).2,born:=ck}]) (ck+1) b:=by
 obtain⟨⟨p,h1,i⟩,j,d,k⟩:=h;refine⟨⟨p++[t],?_,?_⟩,?_,?_,?_⟩
 ·exact(List.perm_append_singleton _ _).trans ((h1.cons _).trans c.symm)
 ·rw[Do,i,Do];rfl
 ·rw[Do];refine List.nodup_append.2 ⟨j,by simp,λx a y f e=>?_⟩;obtain⟨e',he,rfl⟩:=Bx.1 a;have f:y=ck:=by simpa using f
  have:=d e' he;omega
 ·intro e he;rcases List.mem_append.1 he with he|he
  ·have:=d e he;omega
  ·have:e={key:=(xd t).1,val:=(xd t).2,born:=ck}:=by simpa using he
   subst this;exact Nat.lt_succ_self _
 ·refine(c.map _).nodup_iff.2 (JQ.2 ⟨λl=>?_,k⟩);obtain⟨x,a,e⟩:=Bx.1 l;exact ql.1 g x a e
set_option maxRecDepth 100000
open Go.RX D
structure GV where
 root:Int
 tk:List TK
structure HS where
 s:WD
 g:Nat->Option GV
 gr:List GT
 po:List Po.PT
structure HX where
 hb:Nat
 gb:Nat
 uJ:Nat
 pb:Nat
 c:Nat
 rest:List AC
structure GA where
 bg:Nat
 bt:Nat
 bm:Nat
 ck:Nat
 es:List B5
def kz (A:Nat->GA) (g:Nat->Option GV) (i:Nat):Option AG:=match g i with
 |some _=>some ⟨(A i).bg,0,none⟩
 |none=>none
def mw (A:Nat->GA) (g:Nat->Option GV):List AC:=(AF 17).map λi=>ag (kz A g i)
abbrev fj (Q:Sys) (X:HX) (A:Nat->GA) (g:Nat->Option GV):List AC:=[ag (af Q.bm),ag (af Q.bp),ag (af X.gb),ag (af X.pb)]++mw A g
def gO (Q:Sys) (A:Nat->GA) (i:Nat) (v:GV):List (Nat×List AC):=[((A i).bg,[ag (some ⟨(A i).bt,0,none⟩),.map (some (A i).bm)]),((A i).bt,oK Q i v.root false)]
def a_ (Q:Sys) (A:Nat->GA) (g:Nat->Option GV) (l:List Nat):List (Nat×List AC):=l.flatMap λi=>match g i with
 |some v=>gO Q A i v
 |none=>[]
def dm (A:Nat->GA) (g:Nat->Option GV) (l:List Nat):List (Nat×BO):=l.flatMap λi=>match g i with
 |some _=>[((A i).bm,Obj.map ⟨(A i).es⟩ (A i).ck)]
 |none=>[]
abbrev d_ (Q:Sys) (X:HX) (A:Nat->GA) (h:HS) (L:List (Nat×List AC)):List (Nat×List AC):=
 (X.hb,fj Q X A h.g)::(X.gb,mB X.uJ h.gr.length X.c)::(X.uJ,flat eG h.gr++X.rest)::(X.pb,Po.gy 4 h.po)::L
structure Dm (A:Nat->GA) (h:HS):Prop where
 jm: ∀{i v},h.g i=some v->1<=i/\i<=16
 mp: ∀{i v},h.g i=some v->qF (A i).es (A i).ck v.tk
 gl:h.gr.length=16
 pt:Po.lJ 4 h.po
 gk:n6 h.gr
def jn (Q:Sys) (X:HX) (D G:List Nat) (w0 w:A2) (h:HS) (L:List (Nat×List AC)):Prop:=
 ∃A,Dm A h/\SM Q D G w0 w h.s (d_ Q X A h (a_ Q A h.g (AF 17)++L)) (dm A h.g (AF 17))
theorem Bv {Q:Sys} {A:Nat->GA} {g:Nat->Option GV} {l:List Nat} {i:Nat} {v:GV} (hi:i∈l) (hv:g i=some v): ∀x∈gO Q A i v,x∈a_ Q A g l:=λx a=>by
 unfold a_;exact H7.2 ⟨i,hi,by rw[hv];exact a⟩
theorem Mi {A:Nat->GA} {g:Nat->Option GV} {l:List Nat} {i:Nat} {v:GV} (hi:i∈l) (hv:g i=some v):((A i).bm,Obj.map ⟨(A i).es⟩ (A i).ck)∈dm A g l:=by
 unfold dm;exact H7.2 ⟨i,hi,by rw[hv];exact HB.2 rfl⟩
theorem vk {A:Nat->GA} {g:Nat->Option GV} {i:Nat} (hi:i<17):(mw A g)[i]? =some (ag (kz A g i)):=by
 unfold mw;rw[BX,List.getElem?_range hi];rfl
def aV (g:Nat->Option GV) (v:Int):Bool:=decide (v>=1)&&decide (v<=16)&&(g v.toNat).isSome
def a6 (g:Nat->Option GV) (v:Int):Int:=if aV g v=true then(match g v.toNat with|some x=>x.root|none=> -1) else -1
def gg (g:Nat->Option GV) (v p:Int):Int×Bool×Unit:=if aV g v=true then(match g v.toNat with
 |some x=>(match cg x.tk p with|some y=>(y.1,true,())|none=>(0,false,()))
 |none=>(0,false,())) else(0,false,())
def dh (g:Nat->Option GV) (v a:Int):Int:=if a<1\/a>16\/a=v then 1 else if aV g a=true then 0 else 4
theorem cd {g:Nat->Option GV} {v:Int}:aV g v=true<->(1<=v/\v<=16)/\ ∃x,g v.toNat=some x:=by
 unfold aV;simp only[E5,decide_eq_true_eq,Option.isSome_iff_exists]
section
variable {Q:Sys} {X:HX} {D G:List Nat} {w0 w:A2} {s:WD} {L0:List (Nat×List AC)} {M:List (Nat×BO)} {A:Nat->GA} {g:Nat->Option GV}
theorem bq.oW (S:bq Q D G w0 w s L0) (a:(X.hb,fj Q X A g)∈L0) {v:Int} (hv:0<=v/\v<=16):cI w (ad (ad (af X.hb) 4) (v.toNat*1)) (.one .ptr) (kz A g v.toNat):=by
 obtain⟨j,b⟩:=B3 a;rw[aW,aW];refine dV (S.get b) ?_;show(match (fj Q X A g)[0+4+v.toNat*1]? with|some v=>Sc.ptr.proj v|none=>none)= _;have:(fj Q X A g)[0+4+v.toNat*1]? =some (ag (kz A g v.toNat)):=by
  show([ag (af Q.bm),ag (af Q.bp),ag (af X.gb),ag (af X.pb)]++mw A g)[0+4+v.toNat*1]? = _;rw[Fw (by simp),Dh,Dh,Dh,Dh,K1];rw[show 0+4+v.toNat*1 - (0+1+1+1+1)=v.toNat by omega];exact vk (by omega)
 rw[this];rfl
theorem bq.fN (S:bq Q D G w0 w s L0) (a:(X.hb,fj Q X A g)∈L0) {n:Nat} {x:Option AG} (h:[(some ⟨Q.bm,0,none⟩:Option AG),some ⟨Q.bp,0,none⟩,some ⟨X.gb,0,none⟩,some ⟨X.pb,0,none⟩][n]? =some x):cI w (ad (af X.hb) n) (.one .ptr) x:=by
 obtain⟨j,b⟩:=B3 a;rw[aW];refine dV (S.get b) ?_;rcases n with _| _| _| _|n
 ·cases h;rfl
 ·cases h;rfl
 ·cases h;rfl
 ·cases h;rfl
 ·simp at h
theorem mV (S:bq Q D G w0 w s L0) (a:(X.hb,fj Q X A g)∈L0):ae AB 53 [ag (af X.hb)] w (.bool true):=by
 refine ae.of (s:= .el (.one .bool)) λw' h'=>ai (C:=V0) (aQ:=λ_=>[]) (AH (LX _ w' _) ?_);exact⟨λ_=>rfl,λ_=>rfl,aj.of _ ((S.ext h').fN a (n:=0) rfl) λw1 h1=>⟨rfl,h1⟩⟩
theorem pZ (S:bq Q D G w0 w s L0) (a:(X.hb,fj Q X A g)∈L0) (v:Int):ae AB 19 [ag (af X.hb),aa v] w (.bool (aV g v)):=by
 refine ae.of (s:= .el (.one .bool)) λw' h'=>ai (C:=V0) (aQ:=λ_=>[]) (AH (RI _ v w' _) ?_);have S:=S.ext h';refine⟨_,mV S a,λ_=>rfl,λ_=>rfl,λc=>?_,?_⟩
 ·simp only[E5,decide_eq_true_eq] at c;exact⟨rfl,by omega,by show v<((17:Nat):Int);omega⟩
 ·unfold aV;by_cases hv:v>=1/\v<=16
  ·refine aj.of _ (S.oW a ⟨by omega,hv.2⟩) λw1 h1=>⟨?_,h1⟩;unfold kz;cases g v.toNat<;>simp
  ·have c:(true&&decide (v>=1)&&decide (v<=16))=false:=by
    rw[J0,H4,decide_eq_false_iff_not,decide_eq_false_iff_not];omega
   rw[c];refine⟨none,λh=>(by cases h),λw1 h1=>⟨?_,h1⟩⟩;rw[H4] at c;rw[c];rfl
theorem bL {a:Int} (h:0<=a/\a<9223372036854775808):aF .i64 a=a:=gu (by omega) h.2
theorem Es (S:bq Q D G w0 w s L0) (b:(X.hb,fj Q X A g)∈L0) {a:Int} (d:0<=a):ae AB 165 [ag (af X.hb),ay a] w (.bool (aV g a)):=by
 refine ae.of (s:= .el (.one .bool)) λw' h'=>ai (C:=V0) (aQ:=λ_=>[]) (AH (LY _ a w' _) ?_);have S:=S.ext h';refine⟨aV g a,λc=>?_,λw1 h1=>⟨?_,h1⟩⟩
 ·have c:a<=16:=by simpa using c
  rw[bL ⟨d,by omega⟩];exact pZ S b a
 ·by_cases c:a<=16
  ·rw[decide_eq_true c];rfl
  ·rw[decide_eq_false c];unfold aV;rw[decide_eq_false c];simp
theorem zc (S:bq Q D G w0 w s L0) (d:(X.hb,fj Q X A g)∈L0) (v:Int) {a:Int} (b:0<=a):ae AB 179 [ag (af X.hb),aa v,ay a] w (aa (dh g v a)):=by
 refine ae.of (s:= .el (.one (.int .i64))) λw' h'=>ai (C:=V0) (aQ:=λ_=>[]) (AH (L4 _ v a w' _) ?_);have S:=S.ext h';unfold dh;by_cases c:a<1\/a>16\/a=v
 ·rw[av c];refine aB ?_ λw1 h1=>⟨rfl,h1⟩;simp only[NO,decide_eq_true_eq,beq_iff_eq];rcases c with c|c|c
  ·exact .inl (.inl c)
  ·exact .inl (.inr c)
  ·by_cases c2:a>16
   ·exact .inl (.inr c2)
   ·exact .inr (by rw[bL ⟨b,by omega⟩];exact c)
 ·rw[ao c];refine an ?_ ⟨_,Es S d b,?_⟩
  ·rw[bL ⟨b,by omega⟩];simp only[Dn,decide_eq_false_iff_not,beq_eq_false_iff_ne];omega
  ·cases aV g a with
   |true=>exact an rfl λw1 h1=>⟨rfl,h1⟩
   |false=>exact aB rfl λw1 h1=>⟨rfl,h1⟩
theorem Jk (S:bq Q D G w0 w s L0) (b:(X.hb,fj Q X A g)∈L0) (c: ∀i v,g i=some v-> ∀x∈gO Q A i v,x∈L0) (v:Int):ae AB 21 [ag (af X.hb),aa v] w (aa (a6 g v)):=by
 refine ae.of (s:= .el (.one (.int .i64))) λw' h'=>ai (C:=V0) (aQ:=λ_=>[]) (AH (RJ _ v w' _) ?_);have S:=S.ext h';refine⟨_,pZ S b v,?_⟩;unfold a6;cases d:aV g v with
 |false=>exact aB rfl λw1 h1=>⟨rfl,h1⟩
 |true=>
  obtain⟨hv,x,a⟩:=cd.1 d;have hc:=S.oW b (v:=v) ⟨by omega,hv.2⟩;have e:kz A g v.toNat=some ⟨(A v.toNat).bg,0,none⟩:=by unfold kz;rw[a]
  rw[e] at hc;obtain⟨j1,f⟩:=B3 (c _ _ a _ AT);obtain⟨h,j⟩:=B3 (c _ _ a _ (Ap _ AT));refine an rfl ⟨rfl,rfl,⟨rfl,by omega,by show v<((17:Nat):Int);omega⟩,aj.of _ hc ⟨rfl,rfl,S.cA j1 f rfl ⟨_,S.root h j,λw1 h1=>⟨?_,h1⟩⟩⟩⟩;rw[a,av rfl];rfl
theorem pC (H:SM Q D G w0 w s L0 M) (d:(X.hb,fj Q X A g)∈L0) (k: ∀i v,g i=some v-> ∀x∈gO Q A i v,x∈L0) (l: ∀i v,g i=some v->((A i).bm,Obj.map ⟨(A i).es⟩ (A i).ck)∈M) (m: ∀i v,g i=some v->qF (A i).es (A i).ck v.tk) (v p:Int):
 ae AB 174 [ag (af X.hb),aa v,aa p] w ((Sh.bu [.one (.int .i64),.one .bool]).gK (gg g v p)):=by
 refine ae.of (s:= .bu [.one (.int .i64),.one .bool]) λw' h'=>ai (C:=V0) (aQ:=λ_=>[]) (AH (L3 _ v p w' _) ?_);have H:=H.ext h';have S:=H.base;refine⟨_,pZ S d v,?_⟩;unfold gg;cases n:aV g v with
 |false=>exact aB rfl λw1 h1=>⟨rfl,h1⟩
 |true=>
  obtain⟨hv,x,a⟩:=cd.1 n;have hc:=S.oW d (v:=v) ⟨by omega,hv.2⟩;have o:kz A g v.toNat=some ⟨(A v.toNat).bg,0,none⟩:=by unfold kz;rw[a]
  rw[o] at hc;obtain⟨j1,q⟩:=B3 (k _ _ a _ AT);obtain⟨r,f,c⟩:=(m _ _ a).find p;have h:bF w' (A v.toNat).bm ⟨(A v.toNat).es⟩ (A v.toNat).ck:=H.get (l _ _ a);refine an rfl ⟨rfl,rfl,⟨rfl,by omega,by show v<((17:Nat):Int);omega⟩,aj.of _ hc ⟨rfl,rfl,S.cA j1 q rfl ?_⟩⟩;rw[a,av rfl];dsimp only;have at0:Ext w' w':=Ext.refl _;have H0:=At.start [] w';cases j:cg x.tk p with
  |none=>
   rw[j] at c;refine⟨(0,0,()),false,⟨_, _, _,rfl,h,?_⟩,aN.go H0 λb t H0=>az.all 0 H0 rfl rfl rfl λu H0=>⟨rfl,aj.cv 0 H0 rfl rfl (au.go H0 λz H0=>⟨rfl,H0.all⟩)⟩⟩;rw[f,c];exact⟨rfl,rfl⟩
  |some y=>
   rw[j] at c;obtain⟨i,e, _⟩:=c;refine⟨(y.1,y.2,()),true,⟨_, _, _,rfl,h,?_⟩,aN.go H0 λb t H0=>az.all 0 H0 rfl rfl rfl λu H0=>⟨rfl,aj.cv 0 H0 rfl rfl (au.go H0 λz H0=>⟨rfl,H0.all⟩)⟩⟩;rw[f,e];exact⟨rfl,rfl⟩
end
section
variable {G:List Nat} {w0 w:A2}
theorem RY {bm bw n c:Nat} {ca la:Int} {ws:List Int} {rest:List AC} {L0:List (Nat×List AC)} (H:At G w0 w ((bm,lT bw n c ca la)::(bw,flat eW ws++rest)::L0)) (B:n=ws.length) (h0:0<n) (D:okW ws) (f p t:Int) {K:FT->A2->Prop}
 (k: ∀d w1,At G w0 w1 ((bm,lT bw n c d la)::(bw,flat eW ws++rest)::L0)->K (nc ws f p t) w1):
 aA AB 223 (.el (.agg sF)) [ag (af bm),aa f,aa p,aa t] w K:=by
 refine aA.go H λw1 H=>aR (C:=M1) (aQ:=v8) (AH (UP _ f p t w1 K) ?_);refine aN.go H λb S H=>I4 H f p t (λhb E H=>?_) λhb bk E H=>?_
 ·have e:nc ws f p t=(0,0,0,1,()):=av hb;rw[e] at k;exact aB rfl (az.all 0 H rfl rfl rfl λr H=>au.go H λv H=>aj.at 0 H rfl rfl (k ca v (H.sub (B4 _ _))))
 have e:nc ws f p t=(lK ws f p t 4).2.2:=ao (by rw[hb];decide);rw[e] at k;refine an rfl ⟨λq _ w'=> ∃(i:Nat) (Ls:List (Nat×List AC)) (s:Option AG×Nat×Nat) (xs:List Int) (d:Int),q+i=4/\i<=3/\(lK ws f p t i).2.1≠ -1/\xs.length=i/\BU Ls s xs/\
  At G w0 w' ((bk,lO (lK ws f p t i).1 p t (lK ws f p t i).2.1 (lK ws f p t i).2.2 s)::(bm,lT bw n c d la)::(bw,flat eW ws++rest)::(Ls++((b,[aa 0,aa 0,aa 0,aa 0])::L0))),⟨4,λr F=>⟨0,[],(none,0,0),[],ca,rfl,by decide,(show(3:Int)≠ -1 by decide),rfl,.inl ⟨rfl,rfl,rfl⟩,(H.ext F).perm ?_⟩⟩,?_⟩
 ·exact .cons _ (Dr (l₁:=[(bm,lT bw n c ca la),(bw,flat eW ws++rest)]) (l₂:=[(b,[aa 0,aa 0,aa 0,aa 0])]) |>.append_right L0)
 clear H;rintro q u r ⟨i,Ls,s,xs,d,T,U,I,J,L,H⟩;dsimp only;refine Ea H L (by omega) B h0 D I λv h s' M H=>?_;have es:bE ws p t ((lK ws f p t i).1,(lK ws f p t i).2.1,(lK ws f p t i).2.2)=lK ws f p t (i+1):=rfl;rw[es] at H ⊢;by_cases g:(lK ws f p t (i+1)).2.1= -1
 ·have N:lK ws f p t 4=lK ws f p t (i+1):=by
   have:=xC g (4 - (i+1));rw[show i+1+(4 - (i+1))=4 by omega] at this;exact this
  rw[N] at k;generalize lK ws f p t (i+1)=y at H g k;obtain⟨z,A,⟨j,l,m,o,V⟩⟩:=y;refine an (by rw[g];rfl) ⟨rfl,rfl,aj.cv (x:=(j,l,m,o,())) 0 H rfl rfl ?_⟩;have H:=H.perm (L':=(b,[aa 0,aa 0,aa 0,aa 0])::((bk,lO z p t A (j,l,m,o,()) s')::(bm,lT bw n c (wO ws (dQ (lK ws f p t i).1 p (lK ws f p t i).2.1) d) la)::(bw,flat eW ws++rest)::(h++L0))) (by
   refine(B1 (l₁:=[(bk,lO z p t A (j,l,m,o,()) s'),(bm,lT bw n c (wO ws (dQ (lK ws f p t i).1 p (lK ws f p t i).2.1) d) la),(bw,flat eW ws++rest)]++h) (a:=(b,[aa 0,aa 0,aa 0,aa 0])) (l₂:=L0)).symm)
  refine az.all 0 H rfl rfl rfl λO H=>au.go H λP H=>aj.at 0 H rfl rfl (k (wO ws (dQ (lK ws f p t i).1 p (lK ws f p t i).2.1) d) P ?_);have H:=(H.sub (B4 _ _)).sub (B4 _ _);exact H.sub (.cons_cons _ (.cons_cons _ (Fx _ _)))
 ·have Q:=(Xb ws f p t (i+1)).resolve_left g;refine aB (by simp[g]) λO R=>⟨q - 1,by omega,i+1,h,s',xs++[(lK ws f p t i).1], _,by omega,Q.2,g,by rw[G1,J];rfl,M,H.ext R⟩
theorem Mj {bm bw n c:Nat} {ca la:Int} {ws:List Int} {rest:List AC} {L:List (Nat×List AC)} (H:At G w0 w L) (j b:Nat) (d:L[j]? =some (bm,lT bw n c ca la)) (e:L[b]? =some (bw,flat eW ws++rest)) (g:j≠b) (h:n=ws.length) (h0:0<n) (i:okW ws) (f p t:Int) {K:FT->A2->Prop}
 (k: ∀a w1,At G w0 w1 (L.set j (bm,lT bw n c a la))->K (nc ws f p t) w1):
 aA AB 223 (.el (.agg sF)) [ag (af bm),aa f,aa p,aa t] w K:=by
 obtain⟨o,l,m⟩:=Zv d e g;exact RY (H.perm l.symm) h h0 i f p t λa w1 H=>k a w1 (H.perm (m _))
end
section
variable {D G:List Nat} {w0 w w':A2} {L:List (Nat×List AC)}
end
section
variable {Q:Sys} {D G:List Nat} {w0 w:A2} {s:WD} {L0:List (Nat×List AC)}
namespace bq
theorem abk (S:bq Q D G w0 w s L0) {K:Option AG->A2->Prop}
 (k: ∀a b d e c,bq Q D G w0 c s ((a,[.slice (af b) s.2.length d])::(b,flat eD s.2++e)::L0)->K (af a) c):
 aA AB 54 (.el (.one .ptr)) [ag (af Q.bp)] w K:=by
 refine S.go λw1 S=>?_;obtain⟨h1,f,g,h,ca,la,H⟩:=S;refine Vh H (H.get (i:=3) rfl) (H.get (i:=2) rfl) rfl f g λa b d e c H=>k a b d e c ⟨h1,f,g,h,ca,la,H.perm ?_⟩;exact Dr (l₁:=[_, _, _, _]) (l₂:=[(a, _),(b, _)]) |>.append_right L0
theorem ofq (S:bq Q D G w0 w s L0) (f:Int):ae AB 25 [ag (af Q.bp),aa f] w ((Sh.bu [eD,.one .bool]).gK (oH s.2 f,xk s.2 f,())):=by
 obtain⟨h1,a,b,c,ca,la,H⟩:=S;exact ab4 H 3 2 rfl rfl rfl f
theorem F2 (S:bq Q D G w0 w s L0) (f:Int) {K:Int->A2->Prop} (k: ∀a,bq Q D G w0 a (s.1,dD s.2 f (aO 0 0)) L0->K (vz s.2 f (aO 0 0)) a):
 aA AB 79 (.el (.one (.int .i64))) [ag (af Q.bp),aa f] w K:=by
 obtain⟨h1,b,c,d,ca,la,H⟩:=S;refine Vt H 3 2 rfl rfl (by decide) rfl b c f λa H=>k a ⟨h1,?_,?_,d,ca,la,?_⟩
 ·show 0<(dD s.2 f (aO 0 0)).length;rw[jg];exact b
 ·show(dD s.2 f (aO 0 0)).length<=4096;rw[jg];exact c
 ·unfold Sys.L;show aL D G w0 a (_:: _:: _::(Q.bp,[.slice _ (dD s.2 f (aO 0 0)).length _]):: _);rw[jg];exact H
theorem aas (S:bq Q D G w0 w s L0) (f x:Int) (d: -9223372036854775808<=x/\x<9223372036854775808) {K:Int->A2->Prop} (k: ∀a,bq Q D G w0 a (s.1,dD s.2 f (g_ x)) L0->K (vz s.2 f (g_ x)) a):
 aA AB 183 (.el (.one (.int .i64))) [ag (af Q.bp),aa f,aa x] w K:=by
 obtain⟨h1,b,c,e,ca,la,H⟩:=S;refine Vs H 3 2 rfl rfl (by decide) rfl b c f x d λa H=>k a ⟨h1,?_,?_,e,ca,la,?_⟩
 ·show 0<(dD s.2 f (g_ x)).length;rw[jg];exact b
 ·show(dD s.2 f (g_ x)).length<=4096;rw[jg];exact c
 ·unfold Sys.L;show aL D G w0 a (_:: _:: _::(Q.bp,[.slice _ (dD s.2 f (g_ x)).length _]):: _);rw[jg];exact H
theorem owned (S:bq Q D G w0 w s L0) (v:Int) {K:Option AG×Nat×Nat->A2->Prop} (k: ∀r rows a,bq Q D G w0 a s (L0++rows)->n9 eI rows r ((fX s.2 v).map λi=>((i:Nat):Int))->K r a):
 aA AB 166 (.el (.one .slice)) [ag (af Q.bp),aa v] w K:=by
 obtain⟨h1,c,b,d,ca,la,H⟩:=S;exact RF H 3 2 rfl rfl rfl b v λr rows a H e=>k r rows a ⟨h1,c,b,d,ca,la,H⟩ e
theorem walk (S:bq Q [] G w0 w s L0) (f p t:Int) {K:FT->A2->Prop} (k: ∀w1,bq Q [] G w0 w1 s L0->K (nc s.1 f p t) w1):
 aA AB 223 (.el (.agg sF)) [ag (af Q.bm),aa f,aa p,aa t] w K:=by
 obtain⟨h1,b,c,a,ca,la,H⟩:=S;exact Mj H 0 1 rfl rfl (by decide) rfl h1 a f p t λd w1 H=>k w1 ⟨h1,b,c,a,d,la,H⟩
end bq
end
set_option maxRecDepth 100000
open Go.RX D
def fq (g:Nat->Option GV) (s:WD) (v p:Int):Int×Int×Int×Unit:=if aV g v=true then(match g v.toNat with
 |some x=>bz s x.root false p
 |none=>(0,0,4,())) else(0,0,4,())
def ju (s:WD) (f:Int):Int:=if xk s.2 f=false then 2 else if(oH s.2 f).1≠5 then 6 else vz s.2 f (aO 0 0)
def ig (s:WD) (f:Int):WD:=if xk s.2 f=true/\(oH s.2 f).1=5 then(s.1,dD s.2 f (aO 0 0)) else s
section
variable {Q:Sys} {X:HX} {D G:List Nat} {w0 w:A2} {s:WD} {L0:List (Nat×List AC)} {M:List (Nat×BO)} {A:Nat->GA} {g:Nat->Option GV}
theorem qn (S:bq Q D G w0 w s L0) (c:(X.hb,fj Q X A g)∈L0) (e: ∀i v,g i=some v-> ∀x∈gO Q A i v,x∈L0) (v p:Int) {K:Int×Int×Int×Unit->A2->Prop} (k: ∀a,bq Q D G w0 a s L0->K (fq g s v p) a):
 aA AB 81 (.bu [.one (.int .i64),.one (.int .i64),.one (.int .i64)]) [ag (af X.hb),aa v,aa p] w K:=by
 refine S.go λw1 S=>ai (C:=V0) (aQ:=λ_=>[]) (AH (LZ _ v p w1 K) ?_);refine⟨_,mV S c,an rfl ⟨_,pZ S c v,?_⟩⟩;unfold fq at k;cases d:aV g v with
 |false=>
  rw[d,ao (by decide)] at k;exact aB rfl (S.en λa S=>k a S)
 |true=>
  obtain⟨hv,x,b⟩:=cd.1 d;rw[d,av rfl,b] at k;have hc:=S.oW c (v:=v) ⟨by omega,hv.2⟩;have f:kz A g v.toNat=some ⟨(A v.toNat).bg,0,none⟩:=by unfold kz;rw[b]
  rw[f] at hc;obtain⟨j1,h⟩:=B3 (e _ _ b _ AT);obtain⟨j,l⟩:=B3 (e _ _ b _ (Ap _ AT));refine an rfl ⟨rfl,rfl,⟨rfl,by omega,by show v<((17:Nat):Int);omega⟩,aj.of _ hc ⟨rfl,rfl,S.cA j1 h rfl (S.query j l p λa S=>S.en λm S=>k m S)⟩⟩
theorem Et (S:bq Q D G w0 w s L0) (j:(X.hb,fj Q X A g)∈L0) (f:Int) {K:Int->A2->Prop} (k: ∀l,bq Q D G w0 l (ig s f) L0->K (ju s f) l):
 aA AB 43 (.el (.one (.int .i64))) [ag (af X.hb),aa f] w K:=by
 refine S.go λw1 S=>ai (C:=V0) (aQ:=λ_=>[]) (AH (RK _ f w1 K) ?_);refine⟨_,mV S j,an rfl ⟨rfl,rfl,aj.of _ (S.fN j (n:=1) rfl) ⟨(oH s.2 f,xk s.2 f,()),S.ofq f,S.al λb l S=>S.fi 0 rfl rfl rfl λq S=>?_⟩⟩⟩;have o: ∀x:Nat×List AC,(X.hb,fj Q X A g)∈x::L0:=λx=>Ap _ j;cases e:xk s.2 f with
 |false=>
  have c:ig s f=s:=ao (λh=>by rw[e] at h;cases h.1);have d:ju s f=2:=av e;rw[c,d] at k;exact aB rfl (S.en λi S=>k i S.tail)
 |true=>
  have m: ¬ xk s.2 f=false:=by rw[e];decide
  refine an rfl ⟨rfl,S.cA 0 rfl rfl ?_⟩;by_cases a:(oH s.2 f).1=5
  ·have c:ig s f=(s.1,dD s.2 f (aO 0 0)):=av ⟨e,a⟩;have d:ju s f=vz s.2 f (aO 0 0):=by
    unfold ju;rw[ao m,ao (λh=>h a)]
   rw[c,d] at k;exact an (by simpa using a) ⟨rfl,rfl,aj.of _ (S.fN (o _) (n:=1) rfl) (S.F2 f λi S=>S.en λp S=>k p S.tail)⟩
  ·have c:ig s f=s:=ao (λh=>a h.2);have d:ju s f=6:=by
    unfold ju;rw[ao m,av a]
   rw[c,d] at k;exact aB (by simpa using a) (S.en λi S=>k i S.tail)
theorem zI (S:bq Q D G w0 w s L0) (f:(X.hb,fj Q X A g)∈L0) {K:Option AG->A2->Prop} (k: ∀h i j l e,bq Q D G w0 e s ((h,[.slice (af i) s.2.length j])::(i,flat eD s.2++l)::L0)->K (af h) e):
 aA AB 18 (.el (.one .ptr)) [ag (af X.hb)] w K:=by
 refine S.go λw1 S=>ai (C:=V0) (aQ:=λ_=>[]) (AH (Ht _ w1 K) ?_);exact⟨_,mV S f,an rfl ⟨rfl,rfl,aj.of _ (S.fN f (n:=1) rfl) (S.abk λa b c d e S=>S.en λm S=>k a b c d m S)⟩⟩
theorem zJ (S:bq Q D G w0 w s L0) (a:(X.hb,fj Q X A g)∈L0) {K:Option AG->A2->Prop} (k: ∀b,bq Q D G w0 b s L0->K (af Q.bm) b):
 aA AB 23 (.el (.one .ptr)) [ag (af X.hb)] w K:=by
 refine S.go λw1 S=>ai (C:=V0) (aQ:=λ_=>[]) (AH (Hu _ w1 K) ?_);exact⟨_,mV S a,an rfl ⟨rfl,rfl,aj.of _ (S.fN a (n:=0) rfl) (S.en λc S=>k c S)⟩⟩
end
structure XY (A:Nat->GA) (g:Nat->Option GV) (A':Nat->GA) (g':Nat->Option GV):Prop where
 bg: ∀i,(A' i).bg=(A i).bg
 bt: ∀i,(A' i).bt=(A i).bt
 bm: ∀i,(A' i).bm=(A i).bm
 rt: ∀i,(g' i).map GV.root=(g i).map GV.root
section
variable {A A':Nat->GA} {g g':Nat->Option GV} {Q:Sys} {X:HX}
theorem XY.ptr (h:XY A g A' g'):kz A' g'=kz A g:=by
 funext i;have:=h.rt i;have hb:=h.bg i;unfold kz;cases h1:g' i<;>cases a:g i<;>rw[h1,a] at this<;>simp at this<;>simp[hb]
theorem XY.cs (h:XY A g A' g'):fj Q X A' g'=fj Q X A g:=by
 unfold fj mw;rw[h.ptr]
theorem XY.rows (h:XY A g A' g') (l:List Nat):a_ Q A' g' l=a_ Q A g l:=by
 unfold a_;congr 1;funext i;have:=h.rt i;cases h1:g' i<;>cases a:g i<;>rw[h1,a] at this<;>simp at this
 ·dsimp only;unfold gO;rw[h.bg i,h.bt i,h.bm i,this]
theorem l8 {i:Nat} {v:GV} (hi:i<17) (hv:g i=some v):(dm A g (AF 17)).Perm (((A i).bm,Obj.map ⟨(A i).es⟩ (A i).ck)::dm A g ((AF 17).erase i)):=by
 unfold dm;refine(Gd _ (GD (Cc.2 hi))).trans ?_;rw[Dw,hv];exact Dl _
theorem wq {i:Nat} {v:GV} (hi:i<17) (hv:g i=some v):(a_ Q A g (AF 17)).Perm (gO Q A i v++a_ Q A g ((AF 17).erase i)):=by
 unfold a_;refine(Gd _ (GD (Cc.2 hi))).trans ?_;rw[Dw,hv]
theorem zK {i:Nat} (hi:i<17) (hv:g i=none):(dm A g (AF 17)).Perm (dm A g ((AF 17).erase i)):=by
 unfold dm;refine(Gd _ (GD (Cc.2 hi))).trans ?_;rw[Dw,hv];exact Dl _
theorem zL {i:Nat} (hi:i<17) (hv:g i=none):(a_ Q A g (AF 17)).Perm (a_ Q A g ((AF 17).erase i)):=by
 unfold a_;refine(Gd _ (GD (Cc.2 hi))).trans ?_;rw[Dw,hv];exact Dl _
theorem gx {α β:Type} {f f':α->List β}: ∀{l:List α},(∀x∈l,f x=f' x)->l.flatMap f=l.flatMap f'
 |[], _=>rfl
 |x::l,h=>by
  rw[Dw,Dw,h x AT,gx λy a=>h y (Ap _ a)]
theorem Ps {i j:Nat} (h:j∈(AF 17).erase i):j≠i:=λe=>by
 subst e;exact(List.nodup_range.not_mem_erase) h
theorem pJ {i:Nat} (h: ∀j,j≠i->A' j=A j/\g' j=g j):dm A' g' ((AF 17).erase i)=dm A g ((AF 17).erase i):=by
 unfold dm;refine gx λj a=>?_;obtain⟨h1,b⟩:=h j (Ps a);rw[h1,b]
theorem ww {i:Nat} (h: ∀j,j≠i->A' j=A j/\g' j=g j):a_ Q A' g' ((AF 17).erase i)=a_ Q A g ((AF 17).erase i):=by
 unfold a_;refine gx λj a=>?_;obtain⟨h1,b⟩:=h j (Ps a);rw[b];cases g j with
 |none=>rfl
 |some v=>dsimp only;unfold gO;rw[h1]
end
def oD (A:Nat->GA) (i:Nat) (x:GA):Nat->GA:=λj=>if j=i then x else A j
def bj (g:Nat->Option GV) (i:Nat) (x:Option GV):Nat->Option GV:=λj=>if j=i then x else g j
theorem qo (A:Nat->GA) (i:Nat) (x:GA):oD A i x i=x:=av rfl
theorem fK (g:Nat->Option GV) (i:Nat) (x:Option GV):bj g i x i=x:=av rfl
theorem Bw (A:Nat->GA) (g:Nat->Option GV) (i:Nat) (x:GA) (y:Option GV): ∀j,j≠i->oD A i x j=A j/\bj g i y j=g j:=λ_ h=>⟨ao h,ao h⟩
theorem Jl {A:Nat->GA} {g:Nat->Option GV} {i:Nat} {v:GV} (hv:g i=some v) (es:List B5) (ck:Nat) (tk:List TK):XY A g (oD A i {A i with es:=es,ck:=ck}) (bj g i (some {v with tk:=tk})):=by
 refine⟨λj=>?_,λj=>?_,λj=>?_,λj=>?_⟩
 ·unfold oD;split
  ·rename_i e;subst e;rfl
  ·rfl
 ·unfold oD;split
  ·rename_i e;subst e;rfl
  ·rfl
 ·unfold oD;split
  ·rename_i e;subst e;rfl
  ·rfl
 ·unfold bj;split
  ·rename_i e;subst e;rw[hv];rfl
  ·rfl
theorem SM.Pt {Q:Sys} {D G:List Nat} {w0 w:A2} {s:WD} {L0:List (Nat×List AC)} {A:Nat->GA} {g:Nat->Option GV} (H:SM Q D G w0 w s L0 (dm A g (AF 17))) {i:Nat} {v:GV} (hi:i<17) (hv:g i=some v) (es:List B5) (ck:Nat) (tk:List TK):
 SM Q D G w0 (w.putObj (A i).bm (.map ⟨es⟩ ck)) s L0 (dm (oD A i {A i with es:=es,ck:=ck}) (bj g i (some {v with tk:=tk})) (AF 17)):=by
 have a:=(H.lf (l8 hi hv).symm).put (i:=0) rfl (o':= .map ⟨es⟩ ck) trivial;refine a.lf ((l8 hi (v:={v with tk:=tk}) (fK _ _ _)).trans ?_);rw[pJ (Bw A g i _ _),qo];exact Dl _
section
variable {Q:Sys} {X:HX} {D G:List Nat} {w0 w:A2} {s:WD} {L0:List (Nat×List AC)} {bg br bp c:Nat} {gs:List GT} {rest:List AC} {room:Int} {ps:List Po.PT}
namespace bq
theorem VG (S:bq Q D G w0 w s L0) (j b:Nat) (e:L0[j]? =some (bg,mB br gs.length c)) (f:L0[b]? =some (br,flat eG gs++rest)) (h0:0<gs.length) (i o:Int) {K:Int->A2->Prop}
 (k: ∀a,bq Q D G w0 a s (L0.set b (br,flat eG (lh gs i o)++rest))->K (qP gs i o) a):
 aA AB 184 (.el (.one (.int .i64))) [ag (af bg),aa i,aa o] w K:=by
 obtain⟨h1,g,h,l,ca,la,d⟩:=S;exact Hd d (j+4) (b+4) e f h0 i o λa d=>k a ⟨h1,g,h,l,ca,la,d⟩
theorem abl (S:bq Q D G w0 w s L0) (j d:Nat) (f:L0[j]? =some (bg,mB br gs.length c)) (h:L0[d]? =some (br,flat eG gs++rest)) (h0:0<gs.length) (l: ∀x∈gs,0<=x.2.2.2.2.1/\x.2.2.2.2.1<=1000) (i g:Int) (b:Bool) {K:Int->A2->Prop}
 (k: ∀a,bq Q D G w0 a s (L0.set d (br,flat eG (eo gs i g b)++rest))->K (gU gs i g b) a):
 aA AB 181 (.el (.one (.int .i64))) [ag (af bg),aa i,aa g,.bool b] w K:=by
 obtain⟨h1,m,n,o,ca,la,e⟩:=S;exact Q2 e (j+4) (d+4) f h h0 l i g b λa e=>k a ⟨h1,m,n,o,ca,la,e⟩
theorem Xf (S:bq Q D G w0 w s L0) (j b:Nat) (e:L0[j]? =some (bg,mB br gs.length c)) (f:L0[b]? =some (br,flat eG gs++rest)) (h0:0<gs.length) (h: ∀x∈gs,0<=x.2.2.2.2.1/\x.2.2.2.2.1<=1000) (i g:Int) {K:Int->A2->Prop}
 (k: ∀a,bq Q D G w0 a s (L0.set b (br,flat eG (eO gs i g)++rest))->K (mq gs i g) a):
 aA AB 182 (.el (.one (.int .i64))) [ag (af bg),aa i,aa g] w K:=by
 obtain⟨h1,l,m,n,ca,la,d⟩:=S;exact Q3 d (j+4) (b+4) e f h0 h i g λa d=>k a ⟨h1,l,m,n,ca,la,d⟩
theorem ZM (S:bq Q D G w0 w s L0) (j d:Nat) (f:L0[j]? =some (bg,mB br gs.length c)) (g:L0[d]? =some (br,flat eG gs++rest)) (h0:0<gs.length) (h:gs.length<=64) (o q t:Int) (b:Bool) {K:Int×Int×Unit->A2->Prop}
 (k: ∀a,bq Q D G w0 a s (L0.set d (br,flat eG (jT gs o q t b)++rest))->K (km gs o q t,lj gs o q t,()) a):
 aA AB 180 (.bu [.one (.int .i64),.one (.int .i64)]) [ag (af bg),aa o,aa q,aa t,.bool b] w K:=by
 obtain⟨h1,i,l,m,ca,la,e⟩:=S;exact K_ e (j+4) (d+4) f g h0 h o q t b λa e=>k a ⟨h1,i,l,m,ca,la,e⟩
theorem abm (S:bq Q D G w0 w s L0) (j a:Nat) (e:L0[j]? =some (bg,mB br gs.length c)) (f:L0[a]? =some (br,flat eG gs++rest)) (h0:0<gs.length) (h:gs.length<=64) (o:j≠a) (g:Int) {K:Int->A2->Prop}
 (k: ∀n b,bq Q D G w0 b s (L0.set a (br,flat eG (cP gs g)++rest))->K n b):
 aA AB 169 (.el (.one (.int .i64))) [ag (af bg),aa g] w K:=by
 obtain⟨h1,i,l,m,ca,la,d⟩:=S;exact Q4 d (j+4) (a+4) e f h0 h (by omega) g λn b d=>k n b ⟨h1,i,l,m,ca,la,d⟩
theorem aat (S:bq Q D G w0 w s L0) (j a:Nat) (b:L0[j]? =some (bg,mB br gs.length c)) (d:L0[a]? =some (br,flat eG gs++rest)) (h0:0<gs.length) (i:Int):
 ae AB 176 [ag (af bg),aa i] w ((Sh.bu [eG,.one .bool]).gK (wX gs i,(lU gs i).isSome,())):=
 ae.of (s:= .bu [eG,.one .bool]) λw' h'=>Zu ((S.get b).ext h') ((S.get d).ext h') h0 i
theorem abn (S:bq Q D G w0 w s L0) (j:Nat) (c:L0[j]? =some (bp,Po.gy room ps)) (d:Po.okS room ps) (g r:Int) {K:Int×Int×Unit->A2->Prop}
 (k: ∀a,bq Q D G w0 a s (L0.set j (bp,Po.gy room (Po.iW room ps g r).2))->K ((Po.iW room ps g r).1.1,(Po.iW room ps g r).1.2,()) a):
 aA AB 185 (.bu [.one (.int .i64),.one (.int .i64)]) [ag (af bp),aa g,aa r] w K:=by
 obtain⟨h1,e,f,h,ca,la,b⟩:=S;exact Po.Q5 b (j+4) c d g r λa b=>k a ⟨h1,e,f,h,ca,la,b⟩
theorem pbind (S:bq Q D G w0 w s L0) (j:Nat) (c:L0[j]? =some (bp,Po.gy room ps)) (d:Po.okS room ps) (g r i:Int) {K:Int×Int×Unit->A2->Prop}
 (k: ∀a,bq Q D G w0 a s (L0.set j (bp,Po.gy room (Po.ia room ps g r i).2))->K ((Po.ia room ps g r i).1.1,(Po.ia room ps g r i).1.2,()) a):
 aA AB 186 (.bu [.one (.int .i64),.one (.int .i64)]) [ag (af bp),aa g,aa r,aa i] w K:=by
 obtain⟨h1,e,f,h,ca,la,b⟩:=S;exact Po.Q6 b (j+4) c d g r i λa b=>k a ⟨h1,e,f,h,ca,la,b⟩
theorem abo (S:bq Q D G w0 w s L0) (j:Nat) (c:L0[j]? =some (bp,Po.gy room ps)) (d:Po.lJ room ps) (g i:Int) {K:Int->A2->Prop}
 (k: ∀a,bq Q D G w0 a s (L0.set j (bp,Po.gy room (Po.ll room ps g i).2))->K (Po.ll room ps g i).1 a):
 aA AB 187 (.el (.one (.int .i64))) [ag (af bp),aa g,aa i] w K:=by
 obtain⟨h1,e,f,h,ca,la,b⟩:=S;exact Po.Q7 b (j+4) c d g i λa b=>k a ⟨h1,e,f,h,ca,la,b⟩
theorem ZN (S:bq Q D G w0 w s L0) (j:Nat) (c:L0[j]? =some (bp,Po.gy room ps)) (d:Po.lJ room ps) (g i:Int) {K:Int->A2->Prop}
 (k: ∀a,bq Q D G w0 a s (L0.set j (bp,Po.gy room (Po.eR room ps g i).2))->K (Po.eR room ps g i).1 a):
 aA AB 189 (.el (.one (.int .i64))) [ag (af bp),aa g,aa i] w K:=by
 obtain⟨h1,e,f,h,ca,la,b⟩:=S;exact Po.Be b (j+4) c d g i λa b=>k a ⟨h1,e,f,h,ca,la,b⟩
theorem abp (S:bq Q D G w0 w s L0) (j:Nat) (c:L0[j]? =some (bp,Po.gy room ps)) (d:Po.okS room ps) (g:Int) {K:Int×Bool×Unit->A2->Prop}
 (k: ∀a,bq Q D G w0 a s (L0.set j (bp,Po.gy room (Po.gM room ps g).2))->K ((Po.gM room ps g).1.1,(Po.gM room ps g).1.2,()) a):
 aA AB 188 (.bu [.one (.int .i64),.one .bool]) [ag (af bp),aa g] w K:=by
 obtain⟨h1,e,f,h,ca,la,b⟩:=S;exact Po.Q_ b (j+4) c d g λa b=>k a ⟨h1,e,f,h,ca,la,b⟩
theorem abq (S:bq Q D G w0 w s L0) (j:Nat) (c:L0[j]? =some (bp,Po.gy room ps)) (d:Po.lJ room ps) (g:Int) {K:Int->A2->Prop}
 (k: ∀a,bq Q D G w0 a s (L0.set j (bp,Po.gy room (Po.cH room ps g).2))->K (Po.cH room ps g).1 a):
 aA AB 170 (.el (.one (.int .i64))) [ag (af bp),aa g] w K:=by
 obtain⟨h1,e,f,h,ca,la,b⟩:=S;exact Po.Rf b (j+4) c d g λa b=>k a ⟨h1,e,f,h,ca,la,b⟩
theorem res (S:bq Q D G w0 w s L0) {j b:Nat} {x1 d:AC} (c:L0[j]? =some (b,[x1,d])) (v e:Int) {K:RS->A2->Prop} (k: ∀a,bq Q D G w0 a s (L0.set j (b,[ay v,aa e]))->K (v,e,()) a):
 az w (af b) [ay v,aa e] λa=>au a λw1=>aj w1 none (af b) (.agg iP) λx=>K (x.1,x.2.1,()) w1:=by
 have f:j<L0.length:=(Bs.1 c).1;refine S.fi j c rfl rfl λa S=>S.en λg S=>?_;exact S.ld j (DH f) (show _=some (v,e,()) from rfl) (k g S)
end bq
end
def yx (h:HS) (gr:List GT):HS:={h with gr:=gr}
def AQ (h:HS) (po:List Po.PT):HS:={h with po:=po}
def bA (h:HS) (s:WD):HS:={h with s:=s}
abbrev f_ (k a b c:Int):List AC:=[aa k,ay a,ay b,ay c]
theorem zd (gs:List GT) (i o:Int):(lh gs i o).length=gs.length:=by
 unfold lh;split
 ·rw[Cd]
 ·rfl
def CG (h:HS) (v a:Int):Int:=if a>=16 then 1 else qP h.gr a v
def fW (h:HS) (v a:Int):HS:=if a>=16 then h else yx h (lh h.gr a v)
section
variable {Q:Sys} {X:HX} {D G:List Nat} {w0 w:A2} {h:HS} {L:List (Nat×List AC)} {K:RS->A2->Prop}
theorem Ml (H:jn Q X D G w0 w h L) (v k:Int) {a:Int} (b c:Int) (m:0<=a) (kk: ∀f,jn Q X D G w0 f (fW h v a) L->K (0,CG h v a,()) f):
 aC AB 132 (.el (.agg iP)) [ag (af X.hb),aa v,.agg ⟨f_ k a b c⟩] w K:=by
 obtain⟨A,W,H⟩:=H;obtain⟨o,S,J⟩:=H.call;refine aR (C:=V0) (aQ:=λ_=>[]) (AH (E' _ v k a b c w K) ?_);refine S.al λp f S=>S.al λq r S=>⟨rfl,S.cA 1 rfl rfl ?_⟩;unfold CG fW at kk;refine ab (λd=>⟨trivial,S.res (j:=0) rfl 0 1 λi S=>?_⟩) (λd=>?_)
 ·rw[av (by simpa using d),av (by simpa using d)] at kk;exact kk i ⟨A,W,J (S.tail.tail)⟩
 ·have d: ¬ a>=16:=by simpa using d
  rw[ao d,ao d] at kk;refine⟨rfl,rfl,aj.of _ (S.fN (X:=X) (A:=A) (g:=h.g) (by simp) (n:=2) rfl) ⟨rfl,S.cA 1 rfl rfl ?_⟩⟩;rw[bL ⟨m,by omega⟩];refine S.VG 3 4 rfl rfl (by rw[W.gl];decide) a v λi S=>⟨trivial,S.res (j:=0) rfl 0 _ λl S=>kk l ⟨A,⟨W.jm,W.mp,(zd _ _ _).trans W.gl,W.pt,W.gk.rev _ _⟩,J ?_⟩⟩;have S:=S.tail.tail;have e:(lh h.gr a v).length=h.gr.length:=zd _ _ _;show bq Q [] o w l h.s ((X.hb,fj Q X A h.g)::(X.gb,mB X.uJ (lh h.gr a v).length X.c):: _);rw[e];exact S
end
set_option maxRecDepth 100000
open Go.RX D
def OH (h:HS) (v a:Int):Int:=if a>=4 then 1 else(Po.ll 4 h.po v a).1
def lV (h:HS) (v a:Int):HS:=if a>=4 then h else AQ h (Po.ll 4 h.po v a).2
def Gs (h:HS) (v a:Int):Int:=if a>=4 then 1 else(Po.eR 4 h.po v a).1
def jc (h:HS) (v a:Int):HS:=if a>=4 then h else AQ h (Po.eR 4 h.po v a).2
def OI (h:HS) (v:Int):Int:=if(Po.gM 4 h.po v).1.2=true then(Po.gM 4 h.po v).1.1+1 else 0
def OJ (h:HS) (v:Int):HS:=AQ h (Po.gM 4 h.po v).2
def IB (h:HS) (v a:Int):Int×Int:=if dh h.g v a=0 then(Po.iW 4 h.po v a).1 else(0,dh h.g v a)
def lW (h:HS) (v a:Int):HS:=if dh h.g v a=0 then AQ h (Po.iW 4 h.po v a).2 else h
def IC (h:HS) (v a b:Int):Int×Int:=if dh h.g v a=1\/b>=4 then(0,1) else if dh h.g v a=0 then(Po.ia 4 h.po v a b).1 else(0,dh h.g v a)
def lX (h:HS) (v a b:Int):HS:=if dh h.g v a=1\/b>=4 then h else if dh h.g v a=0 then AQ h (Po.ia 4 h.po v a b).2 else h
theorem vl {g:Nat->Option GV} {v a:Int} (h:dh g v a≠1):1<=a/\a<=16:=by
 unfold dh at h;split at h
 ·exact absurd rfl h
 ·omega
theorem eK {a:Int} (h:0<=a/\a<18446744073709551616):aF .u64 a=a:=by
 unfold aF;simp only[IntKind.wrap,IntKind.bits,IntKind.signed];simp;omega
theorem RZ {ps:List Po.PT} {g:Int} (h:(Po.gM 4 ps g).1.2=true):0<=(Po.gM 4 ps g).1.1/\(Po.gM 4 ps g).1.1<4:=by
 unfold Po.gM at h ⊢;cases a:Po.oU 4 ps g with
 |nil=>rw[a] at h;cases h
 |cons i l=>
  have:=(Po.dW.1 (Po.tH (ps:=ps) (g:=g) (x:=i) (room:=4) (by rw[a];exact AT)).1).2;exact this
theorem VH {ps:List Po.PT} {g:Int} {x:Po.PT} (a:Po.gI g=true):0<=(Po.dK 4 ps g x).1.1/\(Po.dK 4 ps g x).1.1<4:=by
 unfold Po.dK;split
 ·exact⟨Gj _,(by decide:(0:Int)<4)⟩
 ·rename_i b;have:=(Po.dW.1 (Po.mT a b).1).2;exact this
theorem R2 (ps:List Po.PT) (g r:Int):0<=(Po.iW 4 ps g r).1.1/\(Po.iW 4 ps g r).1.1<4:=by
 unfold Po.iW;split
 ·rename_i a;exact VH (Po.pX.1 a).1
 ·exact⟨Gj _,(by decide:(0:Int)<4)⟩
section
variable {Q:Sys} {X:HX} {D G:List Nat} {w0 w:A2} {h:HS} {L:List (Nat×List AC)} {K:RS->A2->Prop}
theorem VI (H:jn Q X D G w0 w h L) (v k:Int) {a:Int} (b c:Int) (i:0<=a) (kk: ∀e,jn Q X D G w0 e (lV h v a) L->K (0,OH h v a,()) e):
 aC AB 135 (.el (.agg iP)) [ag (af X.hb),aa v,.agg ⟨f_ k a b c⟩] w K:=by
 obtain⟨A,W,H⟩:=H;obtain⟨m,S,J⟩:=H.call;refine aR (C:=V0) (aQ:=λ_=>[]) (AH (Mb _ v k a b c w K) ?_);refine S.al λo e S=>S.al λp q S=>⟨rfl,S.cA 1 rfl rfl ?_⟩;unfold OH lV at kk;refine ab (λd=>⟨trivial,S.res (j:=0) rfl 0 1 λf S=>?_⟩) (λd=>?_)
 ·rw[av (by simpa using d),av (by simpa using d)] at kk;exact kk f ⟨A,W,J (S.tail.tail)⟩
 ·have d: ¬ a>=4:=by simpa using d
  rw[ao d,ao d] at kk;refine⟨rfl,rfl,aj.of _ (S.fN (X:=X) (A:=A) (g:=h.g) (by simp) (n:=3) rfl) ⟨rfl,S.cA 1 rfl rfl ?_⟩⟩;rw[bL ⟨i,by omega⟩];exact S.abo 5 rfl W.pt v a λf S=>⟨trivial,S.res (j:=0) rfl 0 _ λl S=>kk l ⟨A,⟨W.jm,W.mp,W.gl,W.pt.ll v a,W.gk⟩,J (S.tail.tail)⟩⟩
theorem R3 (H:jn Q X D G w0 w h L) (v k:Int) {a:Int} (b c:Int) (i:0<=a) (kk: ∀e,jn Q X D G w0 e (jc h v a) L->K (0,Gs h v a,()) e):
 aC AB 137 (.el (.agg iP)) [ag (af X.hb),aa v,.agg ⟨f_ k a b c⟩] w K:=by
 obtain⟨A,W,H⟩:=H;obtain⟨m,S,J⟩:=H.call;refine aR (C:=V0) (aQ:=λ_=>[]) (AH (Hy _ v k a b c w K) ?_);refine S.al λo e S=>S.al λp q S=>⟨rfl,S.cA 1 rfl rfl ?_⟩;unfold Gs jc at kk;refine ab (λd=>⟨trivial,S.res (j:=0) rfl 0 1 λf S=>?_⟩) (λd=>?_)
 ·rw[av (by simpa using d),av (by simpa using d)] at kk;exact kk f ⟨A,W,J (S.tail.tail)⟩
 ·have d: ¬ a>=4:=by simpa using d
  rw[ao d,ao d] at kk;refine⟨rfl,rfl,aj.of _ (S.fN (X:=X) (A:=A) (g:=h.g) (by simp) (n:=3) rfl) ⟨rfl,S.cA 1 rfl rfl ?_⟩⟩;rw[bL ⟨i,by omega⟩];exact S.ZN 5 rfl W.pt v a λf S=>⟨trivial,S.res (j:=0) rfl 0 _ λl S=>kk l ⟨A,⟨W.jm,W.mp,W.gl,W.pt.eR v a,W.gk⟩,J (S.tail.tail)⟩⟩
theorem VJ (H:jn Q X D G w0 w h L) (v k a b c:Int) (kk: ∀e,jn Q X D G w0 e (OJ h v) L->K (OI h v,0,()) e):
 aC AB 136 (.el (.agg iP)) [ag (af X.hb),aa v,.agg ⟨f_ k a b c⟩] w K:=by
 obtain⟨A,W,H⟩:=H;obtain⟨o,S,J⟩:=H.call;refine aR (C:=V0) (aQ:=λ_=>[]) (AH (Me _ v k a b c w K) ?_);refine S.al λp e S=>S.al λq s S=>⟨rfl,rfl,aj.of _ (S.fN (X:=X) (A:=A) (g:=h.g) (by simp) (n:=3) rfl) ?_⟩;unfold OI OJ at kk;have l:=λh'=>RZ (ps:=h.po) (g:=v) h';refine S.abp 5 rfl W.pt.tookS v λt S=>?_;obtain⟨r,m⟩: ∃r,r=Po.gM 4 h.po v:=⟨_,rfl⟩;have f:=W.pt.gM v;rw[<-m] at l kk S f ⊢;refine ab (λd=>S.res (j:=0) rfl 0 0 λi S=>?_) (λd=>?_)
 ·have d: ¬ r.1.2=true:=by simpa using d
  rw[ao d] at kk;exact kk i ⟨A,⟨W.jm,W.mp,W.gl,f,W.gk⟩,J (S.tail.tail)⟩
 ·have d:r.1.2=true:=by simpa using d
  rw[av d] at kk;have:=l d;rw[ax (by omega) (by omega),eK (by omega)];exact S.res (j:=0) rfl _ 0 λi S=>kk i ⟨A,⟨W.jm,W.mp,W.gl,f,W.gk⟩,J (S.tail.tail)⟩
theorem VK (H:jn Q X D G w0 w h L) (v k:Int) {a:Int} (b c:Int) (i:0<=a) (kk: ∀f,jn Q X D G w0 f (lW h v a) L->K ((IB h v a).1,(IB h v a).2,()) f):
 aC AB 133 (.el (.agg iP)) [ag (af X.hb),aa v,.agg ⟨f_ k a b c⟩] w K:=by
 obtain⟨A,W,H⟩:=H;obtain⟨o,S,J⟩:=H.call;refine aR (C:=V0) (aQ:=λ_=>[]) (AH (L_ _ v k a b c w K) ?_);refine S.al λp f S=>S.al λq r S=>⟨rfl,S.cA 1 rfl rfl ⟨_,zc S (X:=X) (A:=A) (g:=h.g) (by simp) v i,?_⟩⟩;unfold IB lW at kk;refine ab (λd=>⟨trivial,S.res (j:=0) rfl 0 _ λl S=>?_⟩) (λd=>?_)
 ·have d: ¬ dh h.g v a=0:=by simpa using d
  rw[ao d,ao d] at kk;exact kk l ⟨A,W,J (S.tail.tail)⟩
 ·have d:dh h.g v a=0:=by simpa using d
  rw[av d,av d] at kk;have s:=vl (g:=h.g) (v:=v) (a:=a) (by rw[d];decide);refine⟨rfl,rfl,aj.of _ (S.fN (X:=X) (A:=A) (g:=h.g) (by simp) (n:=3) rfl) ⟨rfl,S.cA 1 rfl rfl ?_⟩⟩;rw[bL ⟨i,by omega⟩];have t:=R2 h.po v a;refine S.abn 5 rfl W.pt.tookS v a λl S=>?_;have e:aF .u64 (Po.iW 4 h.po v a).1.1=(Po.iW 4 h.po v a).1.1:=eK (by omega);dsimp only;rw[e];exact S.res (j:=0) rfl _ _ λm S=>kk m ⟨A,⟨W.jm,W.mp,W.gl,W.pt.iW v a,W.gk⟩,J (S.tail.tail)⟩
theorem R4 (ps:List Po.PT) (g r i:Int):0<=(Po.ia 4 ps g r i).1.1/\(Po.ia 4 ps g r i).1.1<4:=by
 unfold Po.ia;have z:(0:Int)<=0/\(0:Int)<4:=by decide
 split
 ·rename_i a;split
  ·exact z
  ·split
   ·exact z
   ·split
    ·exact z
    ·split
     ·exact z
     ·rename_i b;have:=(Po.dW.1 (Po.mT (Po.pX.1 a).1 b).1).2;exact this
 ·exact z
theorem VL (H:jn Q X D G w0 w h L) (v k:Int) {a b:Int} (c:Int) (l:0<=a) (hb:0<=b) (kk: ∀i,jn Q X D G w0 i (lX h v a b) L->K ((IC h v a b).1,(IC h v a b).2,()) i):
 aC AB 134 (.el (.agg iP)) [ag (af X.hb),aa v,.agg ⟨f_ k a b c⟩] w K:=by
 obtain⟨A,W,H⟩:=H;obtain⟨o,S,J⟩:=H.call;refine aR (C:=V0) (aQ:=λ_=>[]) (AH (Ma _ v k a b c w K) ?_);refine S.al λp i S=>S.al λq r S=>⟨rfl,S.cA 1 rfl rfl ⟨_,zc S (X:=X) (A:=A) (g:=h.g) (by simp) v l,λ_=>rfl,S.cA 1 rfl rfl ?_⟩⟩;unfold IC lX at kk;refine ab (λd=>⟨trivial,S.res (j:=0) rfl 0 _ λf S=>?_⟩) (λd=>?_)
 ·have d:dh h.g v a=1\/b>=4:=by simpa using d
  rw[av d,av d] at kk;exact kk f ⟨A,W,J (S.tail.tail)⟩
 have d: ¬ (dh h.g v a=1\/b>=4):=by
  intro e;have:(dh h.g v a==1||decide (b>=4))=true:=by simpa using e
  rw[this] at d;cases d
 rw[ao d,ao d] at kk;refine ab (λd=>⟨trivial,S.res (j:=0) rfl 0 _ λf S=>?_⟩) (λd2=>?_)
 ·have d: ¬ dh h.g v a=0:=by simpa using d
  rw[ao d,ao d] at kk;exact kk f ⟨A,W,J (S.tail.tail)⟩
 ·have d2:dh h.g v a=0:=by simpa using d2
  rw[av d2,av d2] at kk;have s:=vl (g:=h.g) (v:=v) (a:=a) (by rw[d2];decide);have t:b<4:=by omega
  refine⟨rfl,rfl,aj.of _ (S.fN (X:=X) (A:=A) (g:=h.g) (by simp) (n:=3) rfl) ⟨rfl,S.cA 1 rfl rfl ⟨rfl,S.cA 1 rfl rfl ?_⟩⟩⟩;rw[bL ⟨l,by omega⟩,bL ⟨hb,by omega⟩];have u:=R4 h.po v a b;refine S.pbind 5 rfl W.pt.tookS v a b λf S=>?_;have e:aF .u64 (Po.ia 4 h.po v a b).1.1=(Po.ia 4 h.po v a b).1.1:=eK (by omega);dsimp only;rw[e];exact S.res (j:=0) rfl _ _ λm S=>kk m ⟨A,⟨W.jm,W.mp,W.gl,W.pt.ia v a b,W.gk⟩,J (S.tail.tail)⟩
end
theorem Eu (gs:List GT) (o q t:Int) (b:Bool):(jT gs o q t b).length=gs.length:=by
 unfold jT;split
 ·rw[Cd]
 ·rfl
theorem R5 {gs:List GT} (b:gs.length=16) (o q t:Int):0<=km gs o q t/\km gs o q t<16:=by
 have z:(0:Int)<=0/\(0:Int)<16:=by decide
 unfold km;split
 ·cases a:cN gs eA gs.length with
  |nil=>exact z
  |cons x l=>
   obtain⟨i,hi, _,e⟩:=qh.1 (by rw[a];exact AT:x∈cN gs eA gs.length);show 0<=x/\x<16;omega
 ·exact z
def h_ (h:HS) (v p:Int):Bool:=(gg h.g v p).2.1
def rU (h:HS) (v a b c:Int):Int:=
 if a>=65536 then 2 else if dh h.g v b=1\/c>1 then 1 else if(fq h.g h.s v a).2.2.1≠0\/dh h.g v b≠0 then 4 else if h_ h v a=true then 7 else 0
def yL (h:HS) (v a b c:Int):Int×Int:=if rU h v a b c=0 then(km h.gr v a b,lj h.gr v a b) else(0,rU h v a b c)
def iD (h:HS) (v a b c:Int):HS:=if rU h v a b c=0 then yx h (jT h.gr v a b (c==1)) else h
section
variable {Q:Sys} {X:HX} {D G:List Nat} {w0 w:A2} {h:HS} {L:List (Nat×List AC)} {K:RS->A2->Prop}
theorem bV {A:Nat->GA} (W:Dm A h) (T:List (Nat×List AC)): ∀i v,h.g i=some v-> ∀x∈gO Q A i v,x∈T++d_ Q X A h (a_ Q A h.g (AF 17)++L):=λi v hv x a=>by
 have:=W.jm hv;exact Ae _ (Ap _ (Ap _ (Ap _ (Ap _ (Ca _ (Bv (Cc.2 (by omega)) hv x a))))))
theorem fL {A:Nat->GA} (W:Dm A h): ∀i v,h.g i=some v->((A i).bm,Obj.map ⟨(A i).es⟩ (A i).ck)∈dm A h.g (AF 17):=λi v hv=>by
 have:=W.jm hv;exact Mi (Cc.2 (by omega)) hv
theorem R6 (H:jn Q X D G w0 w h L) (v k:Int) {a b c:Int} (z:0<=a) (hb:0<=b) (hc:0<=c) (kk: ∀l,jn Q X D G w0 l (iD h v a b c) L->K ((yL h v a b c).1,(yL h v a b c).2,()) l):
 aC AB 129 (.el (.agg iP)) [ag (af X.hb),aa v,.agg ⟨f_ k a b c⟩] w K:=by
 obtain⟨A,W,H⟩:=H;obtain⟨B,S,J⟩:=H.call;refine aR (C:=V0) (aQ:=λ_=>[]) (AH (Hx _ v k a b c w K) ?_);refine S.al λF l S=>S.al λI M S=>⟨rfl,S.cA 1 rfl rfl ⟨_,zc S (X:=X) (A:=A) (g:=h.g) (by simp) v hb,rfl,S.cA 1 rfl rfl ?_⟩⟩;have m:rU h v a b c≠0-> ∀{l},jn Q X D G w0 l h L->K (0,rU h v a b c,()) l:=λr l H=>by
  have o:yL h v a b c=(0,rU h v a b c):=ao r;have p:iD h v a b c=h:=ao r;rw[o,p] at kk;exact kk l H
 have f:rU h v a b c=if a>=65536 then 2 else if dh h.g v b=1\/c>1 then 1 else if(fq h.g h.s v a).2.2.1≠0\/dh h.g v b≠0 then 4 else if h_ h v a=true then 7 else 0:=rfl;refine ab (λd=>⟨trivial,S.res (j:=0) rfl 0 _ λt S=>?_⟩) (λd=>⟨λ_=>rfl,S.cA 1 rfl rfl ?_⟩)
 ·rw[av (by simpa using d)] at f;rw[f] at m;exact m (by decide) ⟨A,W,J S.tail.tail⟩
 have d: ¬ a>=65536:=by simpa using d
 rw[ao d] at f;have q:aF .i64 a=a:=bL ⟨z,by omega⟩;refine ab (λd=>⟨trivial,S.res (j:=0) rfl 0 _ λt S=>?_⟩) (λd2=>⟨rfl,S.cA 1 rfl rfl ?_⟩)
 ·rw[av (by simpa using d)] at f;rw[f] at m;exact m (by decide) ⟨A,W,J S.tail.tail⟩
 have d2: ¬ (dh h.g v b=1\/c>1):=by
  intro e;have:(dh h.g v b==1||decide (c>1))=true:=by simpa using e
  rw[this] at d2;cases d2
 rw[ao d2] at f;rw[q];refine qn S (X:=X) (A:=A) (g:=h.g) (by simp) (bV W [_, _]) v a λt S=>?_;refine ab (λd=>⟨trivial,S.res (j:=0) rfl 0 _ λu S=>?_⟩) (λd3=>⟨rfl,S.cA 1 rfl rfl ?_⟩)
 ·rw[av (by simpa using d)] at f;rw[f] at m;exact m (by decide) ⟨A,W,J S.tail.tail⟩
 have d3: ¬ ((fq h.g h.s v a).2.2.1≠0\/dh h.g v b≠0):=by
  intro e;have:((fq h.g h.s v a).2.2.1 != 0||dh h.g v b != 0)=true:=by simpa using e
  rw[this] at d3;cases d3
 rw[ao d3] at f;rw[q];refine⟨gg h.g v a,pC (J S) (X:=X) (A:=A) (g:=h.g) (by simp) (bV W [_, _]) (fL W) (λi x E=>W.mp E) v a,?_⟩;refine ab (λd=>⟨trivial,S.res (j:=0) rfl 0 _ λu S=>?_⟩) (λd4=>?_)
 ·rw[av (show h_ h v a=true from d)] at f;rw[f] at m;exact m (by decide) ⟨A,W,J S.tail.tail⟩
 rw[ao (show ¬ h_ h v a=true by unfold h_;rw[d4];decide)] at f;have o:yL h v a b c=(km h.gr v a b,lj h.gr v a b):=av f;have p:iD h v a b c=yx h (jT h.gr v a b (c==1)):=av f;rw[o,p] at kk;have N:=vl (g:=h.g) (v:=v) (a:=b) (λe=>d2 (.inl e));refine⟨rfl,rfl,aj.of _ (S.fN (X:=X) (A:=A) (g:=h.g) (by simp) (n:=2) rfl) ⟨rfl,S.cA 1 rfl rfl ⟨rfl,S.cA 1 rfl rfl ⟨rfl,S.cA 1 rfl rfl ?_⟩⟩⟩⟩;rw[q,bL ⟨hb,by omega⟩];have O:=R5 W.gl v a b;refine S.ZM 3 4 rfl rfl (by rw[W.gl];decide) (by rw[W.gl];decide) v a b (c==1) λu S=>?_;dsimp only;rw[eK (by omega)];refine S.res (j:=0) rfl _ _ λy S=>kk y ⟨A,⟨W.jm,W.mp,(Eu _ _ _ _ _).trans W.gl,W.pt,W.gk.off _ _ _ _⟩,J ?_⟩;have S:=S.tail.tail;have e:(jT h.gr v a b (c==1)).length=h.gr.length:=Eu _ _ _ _ _;show bq Q [] B w y h.s ((X.hb,fj Q X A h.g)::(X.gb,mB X.uJ (jT h.gr v a b (c==1)).length X.c):: _);rw[e];exact S
end
def iI (h:HS) (v a t:Int):Int×Int:=if a>=1048576 then(0,2) else(aJ .i64 (iy .i64 16 (nc h.s.1 (a6 h.g v) (a / 16) t).1) (a % 16),(nc h.s.1 (a6 h.g v) (a / 16) t).2.2.2.1)
def ID (h:HS) (v a:Int):Int×Int:=if(iI h v a 1).2≠0 then(0,(iI h v a 1).2) else(dC h.s.1 (iI h v a 1).1,BT h.s.1 (iI h v a 1).1)
def rV (h:HS) (v a:Int):Int:=if(iI h v a 2).2≠0 then(iI h v a 2).2 else BT h.s.1 (iI h v a 2).1
def kj (h:HS) (v a b:Int):HS:=if(iI h v a 2).2≠0 then h else bA h (cW h.s.1 (iI h v a 2).1 b,h.s.2)
def dL (s:WD):Nat->WD×Nat
 |0=>(s,0)
 |n+1=>(ig (dL s n).1 (n:Int),(dL s n).2+if ju (dL s n).1 (n:Int)=0 then 1 else 0)
theorem Mm (s:WD) (f:Int):(ig s f).1=s.1/\(ig s f).2.length=s.2.length:=by
 unfold ig;split
 ·exact⟨rfl,jg _ _ _⟩
 ·exact⟨rfl,rfl⟩
theorem By (s:WD): ∀n,(dL s n).1.1=s.1/\(dL s n).1.2.length=s.2.length
 |0=>⟨rfl,rfl⟩
 |n+1=>by
  have h:=Mm (dL s n).1 (n:Int);have a:=By s n;exact⟨h.1.trans a.1,h.2.trans a.2⟩
theorem Bz (s:WD): ∀n,(dL s n).2<=n
 |0=>Db _
 |n+1=>by
  have:=Bz s n;show(dL s n).2+ _<=n+1;split<;>omega
theorem abr {a:Int} (h:0<=a/\a<1048576):aF .i64 (wS .u64 a 16)=a / 16:=by
 have e:wS .u64 a 16=a / 16:=by
  show aF .u64 (a.tdiv 16)= _;rw[Int.tdiv_eq_ediv_of_nonneg h.1];exact eK (by omega)
 rw[e];exact bL (by omega)
theorem abt {a:Int} (h:0<=a):aF .i64 (eZ a 16)=a % 16:=by
 have e:eZ a 16=a % 16:=by
  unfold eZ;exact Int.tmod_eq_emod_of_nonneg h
 rw[e];exact bL (by omega)
section
variable {Q:Sys} {X:HX} {D G:List Nat} {w0 w:A2} {h:HS} {L:List (Nat×List AC)} {K:RS->A2->Prop}
theorem Ev {f:List Nat} {j:A2} {A:Nat->GA} {s:WD} {L0:List (Nat×List AC)} (S:bq Q [] f j w s L0) (m:s=h.s) (k:(X.hb,fj Q X A h.g)∈L0) (o: ∀i v,h.g i=some v-> ∀x∈gO Q A i v,x∈L0) (v:Int) {a:Int} (l:0<=a) (t:Int) {K:Int×Int×Unit->A2->Prop}
 (kk: ∀c,bq Q [] f j c s L0->K ((iI h v a t).1,(iI h v a t).2,()) c):
 aA AB 178 (.bu [.one (.int .i64),.one (.int .i64)]) [ag (af X.hb),aa v,ay a,aa t] w K:=by
 subst m;refine S.go λw1 S=>ai (C:=V0) (aQ:=λ_=>[]) (AH (RM _ v a t w1 K) ?_);unfold iI at kk;refine ab (λd=>S.en λc S=>?_) (λd=>?_)
 ·rw[av (by simpa using d)] at kk;exact kk c S
 ·have d: ¬ a>=1048576:=by simpa using d
  rw[ao d] at kk;rw[abr ⟨l,by omega⟩,abt l];refine⟨rfl,rfl,aj.of _ (S.fN (X:=X) (A:=A) (g:=h.g) k (n:=0) rfl) ⟨_,Jk S k o v,?_,?_⟩⟩
  ·exact S.walk _ _ _ λc S=>S.al λb p S=>S.fi 0 rfl rfl rfl λq S=>⟨rfl,S.cA 0 rfl rfl ⟨rfl,S.cA 0 rfl rfl (S.en λe S=>kk e S.tail)⟩⟩
  ·exact S.al λb p S=>S.walk _ _ _ λc S=>S.fi 0 rfl rfl rfl λq S=>⟨rfl,S.cA 0 rfl rfl ⟨rfl,S.cA 0 rfl rfl (S.en λe S=>kk e S.tail)⟩⟩
theorem VM (H:jn Q X D G w0 w h L) (v k:Int) {a:Int} (b c:Int) (i:0<=a) (kk: ∀e,jn Q X D G w0 e h L->K ((ID h v a).1,(ID h v a).2,()) e):
 aC AB 127 (.el (.agg iP)) [ag (af X.hb),aa v,.agg ⟨f_ k a b c⟩] w K:=by
 obtain⟨A,W,H⟩:=H;obtain⟨m,S,J⟩:=H.call;refine aR (C:=V0) (aQ:=λ_=>[]) (AH (L7 _ v k a b c w K) ?_);refine S.al λo e S=>S.al λp q S=>⟨rfl,S.cA 1 rfl rfl (Ev (h:=h) (A:=A) S rfl (by simp) (bV W [_, _]) v i 1 λr S=>?_)⟩;unfold ID at kk;refine ab (λd=>⟨trivial,S.res (j:=0) rfl 0 _ λf S=>?_⟩) (λd=>?_)
 ·rw[av (by simpa using d)] at kk;exact kk f ⟨A,W,J S.tail.tail⟩
 ·rw[ao (by simpa using d)] at kk;exact⟨rfl,rfl,aj.of _ (S.fN (X:=X) (A:=A) (g:=h.g) (by simp) (n:=0) rfl) (S.load _ λf S=>S.res (j:=0) rfl _ _ λl S=>kk l ⟨A,W,J S.tail.tail⟩)⟩
theorem R7 (H:jn Q X D G w0 w h L) (v k:Int) {a b:Int} (c:Int) (i:0<=a) (hb:0<=b/\b<18446744073709551616) (kk: ∀e,jn Q X D G w0 e (kj h v a b) L->K (0,rV h v a,()) e):
 aC AB 128 (.el (.agg iP)) [ag (af X.hb),aa v,.agg ⟨f_ k a b c⟩] w K:=by
 obtain⟨A,W,H⟩:=H;obtain⟨m,S,J⟩:=H.call;refine aR (C:=V0) (aQ:=λ_=>[]) (AH (Hw _ v k a b c w K) ?_);refine S.al λo e S=>S.al λp q S=>⟨rfl,S.cA 1 rfl rfl (Ev (h:=h) (A:=A) S rfl (by simp) (bV W [_, _]) v i 2 λr S=>?_)⟩;unfold kj rV at kk;refine ab (λd=>⟨trivial,S.res (j:=0) rfl 0 _ λf S=>?_⟩) (λd=>?_)
 ·rw[av (by simpa using d),av (by simpa using d)] at kk;exact kk f ⟨A,W,J S.tail.tail⟩
 ·rw[ao (by simpa using d),ao (by simpa using d)] at kk;exact⟨rfl,rfl,aj.of _ (S.fN (X:=X) (A:=A) (g:=h.g) (by simp) (n:=0) rfl) ⟨rfl,S.cA 1 rfl rfl (S.store _ b hb λf S=>⟨trivial,S.res (j:=0) rfl 0 _ λl S=>kk l ⟨A,⟨W.jm,W.mp,W.gl,W.pt,W.gk⟩,J S.tail.tail⟩⟩)⟩⟩
theorem R8 (H:jn Q X D G w0 w h L) (v k a b c:Int) (kk: ∀e,jn Q X D G w0 e (bA h (dL h.s h.s.2.length).1) L->K (((dL h.s h.s.2.length).2:Int),0,()) e):
 aC AB 123 (.el (.agg iP)) [ag (af X.hb),aa v,.agg ⟨f_ k a b c⟩] w K:=by
 obtain⟨A,W,H⟩:=H;obtain⟨r,S,J⟩:=H.call;refine aR (C:=V0) (aQ:=pP) (AH (Hv _ v k a b c w K) ?_);have N:=S.le;refine S.al λt e S=>S.al λz O S=>⟨rfl,rfl,aj.of _ (S.fN (X:=X) (A:=A) (g:=h.g) (by simp) (n:=1) rfl) ⟨_,S.YG,?_⟩⟩;refine⟨λn u w'=> ∃m:Nat,u.1=((dL h.s m).2:Int)/\u.2.1=(m:Int)/\n+m=h.s.2.length/\bq Q [] r w w' (dL h.s m).1 ((z,[ay 0,aa 0])::(t,f_ k a b c)::d_ Q X A h (a_ Q A h.g (AF 17)++L)),⟨h.s.2.length,λB E=>⟨0,rfl,rfl,rfl,S.ext E⟩⟩,?_⟩;clear S;rintro n ⟨x,y,u⟩ B ⟨m,l,o,P,S⟩;dsimp only at l o ⊢;subst l;subst o;have hc:=Bz h.s m;refine ab (λf=>?_) (λf=>?_)
 ·have p:m<h.s.2.length:=by simpa using f
  refine Et S (X:=X) (A:=A) (g:=h.g) (by simp) (m:Int) λq S=>?_;have F:aJ .i64 (m:Int) 1=((m+1:Nat):Int):=by rw[ax (by omega) (by omega)];omega
  have I:aJ .i64 ((dL h.s m).2:Int) 1=(((dL h.s m).2+1:Nat):Int):=by rw[ax (by omega) (by omega)];omega
  rw[F,I];refine ab (λd=>λM i=>⟨n - 1,by omega,m+1,?_,rfl,by omega,S.ext i⟩) (λd=>λM i=>⟨n - 1,by omega,m+1,?_,rfl,by omega,S.ext i⟩)
  ·have d:ju (dL h.s m).1 (m:Int)=0:=by simpa using d
   show _=(((dL h.s m).2+if ju (dL h.s m).1 (m:Int)=0 then 1 else 0:Nat):Int);rw[av d]
  ·have d: ¬ ju (dL h.s m).1 (m:Int)=0:=by simpa using d
   show _=(((dL h.s m).2+if ju (dL h.s m).1 (m:Int)=0 then 1 else 0:Nat):Int);rw[ao d];rfl
 ·have p:m=h.s.2.length:=by
   have: ¬ m<h.s.2.length:=by simpa using f
   omega
  subst p;rw[eK (by omega)];exact S.res (j:=0) rfl _ 0 λq S=>kk q ⟨A,⟨W.jm,W.mp,W.gl,W.pt,W.gk⟩,J S.tail.tail⟩
end
theorem bZ {g:Nat->Option GV} {v:Int} (a:aV g v=true): ∃x,g v.toNat=some x/\a6 g v=x.root/\((v.toNat:Nat):Int)=v/\1<=v/\v<=16:=by
 obtain⟨hv,x,b⟩:=cd.1 a;refine⟨x,b,?_,by omega,hv.1,hv.2⟩;unfold a6;rw[av a,b]
theorem bq.td {Q:Sys} {X:HX} {D G:List Nat} {w0 w:A2} {s:WD} {L0:List (Nat×List AC)} {A:Nat->GA} {g:Nat->Option GV} (S:bq Q D G w0 w s L0) (d:(X.hb,fj Q X A g)∈L0) (b: ∀i v,g i=some v-> ∀x∈gO Q A i v,x∈L0) {v:Int} (e:aV g v=true):
 cI w (ad (ad (af X.hb) 4) (v.toNat*1)) (.one .ptr) (some ⟨(A v.toNat).bg,0,none⟩)/\cI w (ad (some ⟨(A v.toNat).bg,0,none⟩) 0) (.one .ptr) (some ⟨(A v.toNat).bt,0,none⟩)/\cI w (ad (some ⟨(A v.toNat).bg,0,none⟩) 1) (.one .map) (some (A v.toNat).bm)/\
  ∃j:Nat,L0[j]? =some ((A v.toNat).bt,oK Q v (a6 g v) false):=by
 obtain⟨x,a,f,hv,h1,h⟩:=bZ e;have hc:=S.oW d (v:=v) ⟨by omega,h⟩;have k:kz A g v.toNat=some ⟨(A v.toNat).bg,0,none⟩:=by unfold kz;rw[a]
 rw[k] at hc;obtain⟨j1,c⟩:=B3 (b _ _ a _ AT);obtain⟨l,m⟩:=B3 (b _ _ a _ (Ap _ AT));refine⟨hc,?_,?_,l,?_⟩
 ·rw[aW];exact dV (S.get c) rfl
 ·rw[aW];exact dV (S.get c) rfl
 ·rw[f, <-hv];exact m
def oY (h:HS) (v a b:Int):Int:=
 if a>=65536 then 2 else if b<1\/b>7 then 7 else if h_ h v a=true/\wT .u64 b 2>0/\(wX h.gr (gg h.g v a).1).2.2.2.1=false then 7 else FX h.s v (a6 h.g v) false a b
def jW (h:HS) (v a b:Int):HS:=
 if a>=65536 then h else if b<1\/b>7 then h else if h_ h v a=true/\wT .u64 b 2>0/\(wX h.gr (gg h.g v a).1).2.2.2.1=false then h else bA h (rI h.s v (a6 h.g v) false a b)
section
variable {Q:Sys} {X:HX} {D G:List Nat} {w0 w:A2} {h:HS} {L:List (Nat×List AC)} {K:RS->A2->Prop}
theorem HD (H:jn Q X D G w0 w h L) {v:Int} (m:aV h.g v=true) (k:Int) {a b:Int} (c:Int) (E:0<=a) (hb:0<=b) (kk: ∀f,jn Q X D G w0 f (jW h v a b) L->K (0,oY h v a b,()) f):
 aC AB 126 (.el (.agg iP)) [ag (af X.hb),aa v,.agg ⟨f_ k a b c⟩] w K:=by
 obtain⟨A,W,H⟩:=H;obtain⟨F,S,J⟩:=H.call;obtain⟨x,o,O,hv,P,R⟩:=bZ m;refine aR (C:=V0) (aQ:=λ_=>[]) (AH (CZ _ v k a b c w K) ?_);refine S.al λI f S=>S.al λt U S=>⟨rfl,S.cA 1 rfl rfl ?_⟩;unfold oY jW at kk;refine ab (λd=>⟨trivial,S.res (j:=0) rfl 0 _ λp S=>?_⟩) (λd=>⟨rfl,S.cA 1 rfl rfl ⟨λ_=>rfl,S.cA 1 rfl rfl ?_⟩⟩)
 ·rw[av (by simpa using d),av (by simpa using d)] at kk;exact kk p ⟨A,W,J S.tail.tail⟩
 have d: ¬ a>=65536:=by simpa using d
 rw[ao d,ao d] at kk;refine ab (λd=>⟨trivial,S.res (j:=0) rfl 0 _ λp S=>?_⟩) (λd2=>?_)
 ·have d:b<1\/b>7:=by simpa using d
  rw[av d,av d] at kk;exact kk p ⟨A,W,J S.tail.tail⟩
 have d2: ¬ (b<1\/b>7):=by
  intro e;have:(decide (b<1)||decide (b>7))=true:=by simpa using e
  rw[this] at d2;cases d2
 rw[ao d2,ao d2] at kk;have u:aF .i64 a=a:=bL ⟨E,by omega⟩;have eb:aF .i64 b=b:=bL ⟨hb,by omega⟩;have fin: ∀{r:A2} {T:List (Nat×List AC)} {q:Nat},bq Q [] F w r h.s (T++((t,[ay 0,aa 0])::(I,f_ k a b c)::d_ Q X A h (a_ Q A h.g (AF 17)++L)))->T.length=q->(¬ (h_ h v a=true/\wT .u64 b 2>0/\(wX h.gr (gg h.g v a).1).2.2.2.1=false))->
  aA AB 177 (.el (.one (.int .i64))) [ag (some ⟨(A v.toNat).bt,0,none⟩),aa a,aa b] r λ(x:Int) (f:A2)=>True/\az f (af t) [ay 0,aa x] λ(f:A2)=>au f λ(w1:A2)=>aj w1 none (af t) (.agg iP) λ(x:Int×Int×Unit)=>K (x.1,x.2.1,()) w1:=by
  intro r T q S V z;rw[ao z,ao z] at kk;obtain⟨_, _, _,j,M⟩:=S.td (X:=X) (A:=A) (g:=h.g) (by simp) (λi v hv x o=>Ae T (bV W [_, _] i v hv x o)) m;refine S.tx j M a b λB S=>⟨trivial,S.res (j:=T.length) (by rw[Fw (Db _),Nat.sub_self];rfl) 0 _ λN S=>kk N ⟨A,⟨W.jm,W.mp,W.gl,W.pt,W.gk⟩,J ?_⟩⟩;rw[Hr _ _ (Db _),Nat.sub_self] at S;have S:=S.sub (Fx T _);exact S.tail.tail
 refine⟨rfl,S.cA 1 rfl rfl ⟨gg h.g v a,by rw[u];exact pC (J S) (X:=X) (A:=A) (g:=h.g) (by simp) (bV W [_, _]) (fL W) (λi x o=>W.mp o) v a,λ_=>rfl,S.cA 1 rfl rfl (ab (λd3=>?_) (λd3=>?_))⟩⟩
 ·have d3:h_ h v a=true/\wT .u64 b 2>0:=by
   have:=d3;rw[E5,decide_eq_true_eq] at this;exact this
  refine⟨rfl,rfl,aj.of _ (S.fN (X:=X) (A:=A) (g:=h.g) (by simp) (n:=2) rfl) ⟨(wX h.gr (gg h.g v a).1,(lU h.gr (gg h.g v a).1).isSome,()),S.aat 3 4 rfl rfl (by rw[W.gl];decide) _,S.al λY p S=>S.fi 0 rfl rfl rfl λr S=>⟨rfl,S.cA 0 rfl rfl (ab (λd4=>⟨trivial,S.res (j:=1) rfl 0 _ λB S=>?_⟩) (λd4=>?_))⟩⟩⟩
  ·have d4:(wX h.gr (gg h.g v a).1).2.2.2.1=false:=by simpa using d4
   rw[av ⟨d3.1,d3.2,d4⟩,av ⟨d3.1,d3.2,d4⟩] at kk;exact kk B ⟨A,W,J S.tail.tail.tail⟩
  ·have d4:(wX h.gr (gg h.g v a).1).2.2.2.1=true:=by simpa using d4
   obtain⟨g1,y, _, _⟩:=S.td (X:=X) (A:=A) (g:=h.g) (by simp) (bV W [_, _, _]) m;exact⟨rfl,rfl,⟨rfl,by omega,by show v<((17:Nat):Int);omega⟩,aj.of _ g1 ⟨rfl,rfl,aj.of _ y ⟨rfl,S.cA 2 rfl rfl ⟨rfl,S.cA 2 rfl rfl (by
    rw[u,eb];exact fin (T:=[_]) S rfl (λl=>by rw[d4] at l;cases l.2.2))⟩⟩⟩⟩
 ·have d3: ¬ (h_ h v a=true/\wT .u64 b 2>0):=by
   intro e;have:((gg h.g v a).2.1&&decide (wT .u64 b 2>0))=true:=by rw[E5,decide_eq_true_eq];exact e
   rw[this] at d3;cases d3
  obtain⟨g1,y, _, _⟩:=S.td (X:=X) (A:=A) (g:=h.g) (by simp) (bV W [_, _]) m;exact⟨rfl,rfl,⟨rfl,by omega,by show v<((17:Nat):Int);omega⟩,aj.of _ g1 ⟨rfl,rfl,aj.of _ y ⟨rfl,S.cA 1 rfl rfl ⟨rfl,S.cA 1 rfl rfl (by
   rw[u,eb];exact fin (T:=[]) S rfl (λl=>d3 ⟨l.1,l.2.1⟩))⟩⟩⟩⟩
end
theorem Mn (s:WD) (r:Int) (gone:Bool) (p:Int):0<=(bz s r gone p).1/\(bz s r gone p).1<5000:=by
 have z:(0:Int)<=0/\(0:Int)<5000:=by decide
 unfold bz;split
 ·exact z
 ·split
  ·exact z
  ·split
   ·have h:=I_ (B (dC s.1 (dE s.1 r p).2.2.1)).toNat;have h:0<=(dg s.1 r p).2.2.2.1/\(dg s.1 r p).2.2.2.1<4096:=h;show 0<=qD p (dE s.1 r p) (dg s.1 r p)/\qD p (dE s.1 r p) (dg s.1 r p)<5000;unfold qD;split<;>omega
   ·exact z
theorem Ew (g:Nat->Option GV) (s:WD) (v p:Int):0<=(fq g s v p).1/\(fq g s v p).1<5000:=by
 have z:(0:Int)<=0/\(0:Int)<5000:=by decide
 unfold fq;split
 ·split
  ·exact Mn _ _ _ _
  ·exact z
 ·exact z
def xe (h:HS) (v a:Int):Int:=
 if a>=65536 then 2 else if(fq h.g h.s v a).2.2.1≠0 then(fq h.g h.s v a).2.2.1 else if h_ h v a=true then 7 else if(oH h.s.2 (fq h.g h.s v a).1).2.2.1>0 then 9 else 0
def Cb (h:HS) (v a:Int):Int×Int:=if xe h v a=0 then((fq h.g h.s v a).1,0) else(0,xe h v a)
def qG (h:HS) (v a:Int):HS:=if xe h v a=0 then bA h ((nf h.s v (a6 h.g v) false a).1,dD (nf h.s v (a6 h.g v) false a).2 (fq h.g h.s v a).1 (aO 5 v)) else h
section
variable {Q:Sys} {X:HX} {D G:List Nat} {w0 w:A2} {h:HS} {L:List (Nat×List AC)} {K:RS->A2->Prop}
theorem HE (H:jn Q X D G w0 w h L) {v:Int} (q:aV h.g v=true) (u:NX Q h.s) (y:0<=a6 h.g v/\a6 h.g v<4096) (k:Int) {a:Int} (b c:Int) (z:0<=a) (kk: ∀f,jn Q X D G w0 f (qG h v a) L->K ((Cb h v a).1,(Cb h v a).2,()) f):
 aC AB 125 (.el (.agg iP)) [ag (af X.hb),aa v,.agg ⟨f_ k a b c⟩] w K:=by
 obtain⟨A,W,H⟩:=H;obtain⟨N,S,J⟩:=H.call;obtain⟨x,r,O,hv,P,R⟩:=bZ q;refine aR (C:=V0) (aQ:=λ_=>[]) (AH (CY _ v k a b c w K) ?_);have l:xe h v a≠0-> ∀{f},jn Q X D G w0 f h L->K (0,xe h v a,()) f:=λt f H=>by
  have m:Cb h v a=(0,xe h v a):=ao t;have o:qG h v a=h:=ao t;rw[m,o] at kk;exact kk f H
 have e:xe h v a=if a>=65536 then 2 else if(fq h.g h.s v a).2.2.1≠0 then(fq h.g h.s v a).2.2.1 else if h_ h v a=true then 7 else if(oH h.s.2 (fq h.g h.s v a).1).2.2.1>0 then 9 else 0:=rfl;refine S.al λT f S=>S.al λU V S=>⟨rfl,S.cA 1 rfl rfl ?_⟩;refine ab (λd=>⟨trivial,S.res (j:=0) rfl 0 _ λB S=>?_⟩) (λd=>⟨rfl,S.cA 1 rfl rfl ?_⟩)
 ·rw[av (by simpa using d)] at e;rw[e] at l;exact l (by decide) ⟨A,W,J S.tail.tail⟩
 have d: ¬ a>=65536:=by simpa using d
 rw[ao d] at e;have E:aF .i64 a=a:=bL ⟨z,by omega⟩;rw[E];refine qn S (X:=X) (A:=A) (g:=h.g) (by simp) (bV W [_, _]) v a λB S=>?_;have Y:=Ew h.g h.s v a;refine ab (λd=>⟨trivial,S.res (j:=0) rfl 0 _ λp S=>?_⟩) (λd2=>?_)
 ·have d:(fq h.g h.s v a).2.2.1≠0:=by simpa using d
  rw[av d] at e;rw[e] at l;exact l d ⟨A,W,J S.tail.tail⟩
 rw[ao (by simpa using d2)] at e;refine⟨gg h.g v a,pC (J S) (X:=X) (A:=A) (g:=h.g) (by simp) (bV W [_, _]) (fL W) (λi x r=>W.mp r) v a,?_⟩;refine ab (λd=>⟨trivial,S.res (j:=0) rfl 0 _ λp S=>?_⟩) (λd3=>?_)
 ·rw[av (show h_ h v a=true from d)] at e;rw[e] at l;exact l (by decide) ⟨A,W,J S.tail.tail⟩
 rw[ao (show ¬ h_ h v a=true by unfold h_;rw[d3];decide)] at e;refine⟨rfl,rfl,aj.of _ (S.fN (X:=X) (A:=A) (g:=h.g) (by simp) (n:=1) rfl) ⟨(oH h.s.2 (fq h.g h.s v a).1,xk h.s.2 (fq h.g h.s v a).1,()),S.ofq _,S.al λZ p S=>S.fi 0 rfl rfl rfl λw6 S=>⟨rfl,S.cA 0 rfl rfl ?_⟩⟩⟩;refine ab (λd=>⟨trivial,S.res (j:=1) rfl 0 _ λp S=>?_⟩) (λd4=>?_)
 ·rw[av (by simpa using d)] at e;rw[e] at l;exact l (by decide) ⟨A,W,J S.tail.tail.tail⟩
 rw[ao (by simpa using d4)] at e;have m:Cb h v a=((fq h.g h.s v a).1,0):=av e;have o:qG h v a=bA h _:=av e;rw[m,o] at kk;obtain⟨g1,F, _,j,I⟩:=S.td (X:=X) (A:=A) (g:=h.g) (by simp) (bV W [_, _, _]) q;refine⟨rfl,rfl,⟨rfl,by omega,by show v<((17:Nat):Int);omega⟩,aj.of _ g1 ⟨rfl,rfl,aj.of _ F (S.DL u j I y a λw7 S=>⟨rfl,rfl,aj.of _ (S.fN (X:=X) (A:=A) (g:=h.g) (by simp) (n:=1) rfl) (S.T2 _ 5 v λw8 S=>?_)⟩)⟩⟩;rw[eK (by omega)];exact S.res (j:=1) rfl _ 0 λM S=>kk M ⟨A,⟨W.jm,W.mp,W.gl,W.pt,W.gk⟩,J S.tail.tail.tail⟩
end
theorem HF {ds:List DT} (b:ds.length<=4096) (y o:Int):0<=fh ds y o/\fh ds y o<4096:=by
 have z:(0:Int)<=0/\(0:Int)<4096:=by decide
 unfold fh;split
 ·exact z
 ·rename_i n a;unfold iG at a;rw[J_] at a;obtain⟨h1, _⟩:=a;split
  ·exact⟨by omega,by omega⟩
  ·exact z
def kf (h:HS) (v:Int):WD:=(h.s.1,dG h.s.2 4 v)
def iU (h:HS) (v:Int):Int:=fh h.s.2 4 v
def qH (h:HS) (v a b:Int):WD:=jB (kf h v) v (a6 h.g v) false a (iU h v) b
def qI (h:HS) (v a b:Int):Int:=
 if a>=65536 then 2 else if b<1\/b>7 then 7 else if dN h.s.2 4 v≠0 then dN h.s.2 4 v else lQ (kf h v) (a6 h.g v) false a (iU h v) b
def yc (h:HS) (v a b:Int):Int×Int:=if qI h v a b=0 then(iU h v,0) else(0,qI h v a b)
def jR (h:HS) (v a b:Int):HS:=
 if a>=65536 then h else if b<1\/b>7 then h else if dN h.s.2 4 v≠0 then bA h (kf h v)
 else if lQ (kf h v) (a6 h.g v) false a (iU h v) b≠0 then bA h ((qH h v a b).1,dD (qH h v a b).2 (iU h v) (aO 0 0))
 else bA h (e_ (qH h v a b).1 (iU h v) (λ_=>0) 16,(qH h v a b).2)
section
variable {Q:Sys} {X:HX} {D G:List Nat} {w0 w:A2} {h:HS} {L:List (Nat×List AC)} {K:RS->A2->Prop}
theorem Mp (H:jn Q X D G w0 w h L) {v:Int} (B:aV h.g v=true) (k:Int) {a b:Int} (c:Int) (V:0<=a) (hb:0<=b) (kk: ∀l,jn Q X D G w0 l (jR h v a b) L->K ((yc h v a b).1,(yc h v a b).2,()) l):
 aC AB 124 (.el (.agg iP)) [ag (af X.hb),aa v,.agg ⟨f_ k a b c⟩] w K:=by
 obtain⟨A,W,H⟩:=H;obtain⟨E,S,J⟩:=H.call;obtain⟨x,hx,sU,hv,wP,sL⟩:=bZ B;refine aR (C:=V0) (aQ:=og) (AH (E_ _ v k a b c w K) ?_);have I:=HF S.le 4 v;have wf: ∀s',Dm A (bA h s'):=λs'=>⟨W.jm,W.mp,W.gl,W.pt,W.gk⟩;have p: ∀e,e≠0->qI h v a b=e->yc h v a b=(0,e):=λe Y h1=>by
  unfold yc;rw[ao (by rw[h1];exact Y),h1]
 refine S.al λM l S=>S.al λN w3 S=>⟨rfl,S.cA 1 rfl rfl ?_⟩;refine ab (λd=>⟨trivial,S.res (j:=0) rfl 0 _ λq S=>?_⟩) (λd=>⟨rfl,S.cA 1 rfl rfl ⟨λ_=>rfl,S.cA 1 rfl rfl ?_⟩⟩)
 ·have d:a>=65536:=by simpa using d
  have f:jR h v a b=h:=av d;rw[p 2 (by decide) (av d),f] at kk;exact kk q ⟨A,W,J S.tail.tail⟩
 have d: ¬ a>=65536:=by simpa using d
 have Z:aF .i64 a=a:=bL ⟨V,by omega⟩;refine ab (λd2=>⟨trivial,S.res (j:=0) rfl 0 _ λq S=>?_⟩) (λd2=>⟨rfl,rfl,?_⟩)
 ·have d2:b<1\/b>7:=by simpa using d2
  have o:qI h v a b=7:=by unfold qI;rw[ao d,av d2]
  have f:jR h v a b=h:=by unfold jR;rw[ao d,av d2]
  rw[p 7 (by decide) o,f] at kk;exact kk q ⟨A,W,J S.tail.tail⟩
 have d2: ¬ (b<1\/b>7):=by
  intro e;have:(decide (b<1)||decide (b>7))=true:=by simpa using e
  rw[this] at d2;cases d2
 have eb:aF .i64 b=b:=bL ⟨hb,by omega⟩;refine aj.of _ (S.fN (X:=X) (A:=A) (g:=h.g) (by simp) (n:=1) rfl) (S.take 4 v λq S=>?_);refine ab (λd3=>⟨trivial,S.res (j:=0) rfl 0 _ λy S=>?_⟩) (λd3=>?_)
 ·have d3:dN h.s.2 4 v≠0:=by simpa using d3
  have o:qI h v a b=dN h.s.2 4 v:=by unfold qI;rw[ao d,ao d2,av d3]
  have f:jR h v a b=bA h (kf h v):=by unfold jR;rw[ao d,ao d2,av d3]
  rw[p _ d3 o,f] at kk;exact kk y ⟨A,wf _,J S.tail.tail⟩
 have d3: ¬ dN h.s.2 4 v≠0:=by
  intro e;have:(dN h.s.2 4 v != 0)=true:=by simpa using e
  rw[this] at d3;cases d3
 obtain⟨g1,O, _,j,P⟩:=S.td (X:=X) (A:=A) (g:=h.g) (by simp) (bV W [_, _]) B;refine⟨rfl,rfl,⟨rfl,by omega,by show v<((17:Nat):Int);omega⟩,aj.of _ g1 ⟨rfl,rfl,aj.of _ O ⟨rfl,S.cA 1 rfl rfl ⟨rfl,S.cA 1 rfl rfl ?_⟩⟩⟩⟩;rw[Z,eb];refine S.map j P a (iU h v) b λy S=>?_;have S:bq Q [] E w y (qH h v a b) ((N,[ay 0,aa 0])::(M,f_ k a b c)::d_ Q X A h (a_ Q A h.g (AF 17)++L)):=S;have R:qI h v a b=lQ (kf h v) (a6 h.g v) false a (iU h v) b:=by unfold qI;rw[ao d,ao d2,ao d3]
 refine ab (λd4=>⟨rfl,rfl,?_⟩) (λd4=>?_)
 ·have d4: ¬ lQ (h.s.1,dG h.s.2 4 v) (a6 h.g v) false a (iU h v) b=0:=by simpa using d4
  have d4:lQ (kf h v) (a6 h.g v) false a (iU h v) b≠0:=d4;have f:jR h v a b=bA h ((qH h v a b).1,dD (qH h v a b).2 (iU h v) (aO 0 0)):=by unfold jR;rw[ao d,ao d2,ao d3,av d4]
  rw[p _ d4 R,f] at kk;exact aj.of _ (S.fN (X:=X) (A:=A) (g:=h.g) (by simp) (n:=1) rfl) (S.F2 (iU h v) λT S=>⟨trivial,S.res (j:=0) rfl 0 _ λr S=>kk r ⟨A,wf _,J S.tail.tail⟩⟩)
 have d4: ¬ lQ (kf h v) (a6 h.g v) false a (iU h v) b≠0:=by
  intro e;have:(lQ (kf h v) (a6 h.g v) false a (iU h v) b != 0)=true:=by simpa using e
  exact absurd (this.symm.trans d4) (by decide)
 have o:yc h v a b=(iU h v,0):=by
  unfold yc;rw[R,av (by omega)]
 have f:jR h v a b=bA h (e_ (qH h v a b).1 (iU h v) (λ_=>0) 16,(qH h v a b).2):=by unfold jR;rw[ao d,ao d2,ao d3,ao d4]
 rw[o,f] at kk;have I:0<=iU h v/\iU h v<4096:=I;obtain⟨F,t⟩: ∃F:Nat->List Int,F=λi=>e_ (qH h v a b).1 (iU h v) (λ_=>0) i:=⟨_,rfl⟩;have F0:F 0=(qH h v a b).1:=by rw[t];rfl
 have Fs: ∀i,F (i+1)=cW (F i) (16*iU h v+(i:Int)) 0:=λi=>by rw[t];rfl
 have kk: ∀l,jn Q X D G w0 l (bA h (F 16,(qH h v a b).2)) L->K (iU h v,0,()) l:=by rw[t];exact kk
 clear t;refine⟨λn u w'=> ∃m:Nat,u.1=(m:Int)/\n+m=16/\bq Q [] E w w' (F m,(qH h v a b).2) ((N,[ay 0,aa 0])::(M,f_ k a b c)::d_ Q X A h (a_ Q A h.g (AF 17)++L)),⟨16,λT h6=>⟨0,rfl,rfl,by rw[F0];exact S.ext h6⟩⟩,?_⟩;clear S g1 O P;rintro n ⟨u,u2⟩ T ⟨m,e,hn,S⟩;dsimp only at e ⊢;subst e;have efr:(fh h.s.2 4 v)=iU h v:=rfl;rw[efr];refine ab (λz=>?_) (λz=>?_)
 ·have U:m<16:=by
   have:(m:Int)<16:=by simpa using z
   omega
  have e5:aJ .i64 (iy .i64 16 (iU h v)) (m:Int)=16*iU h v+(m:Int):=by rw[eJ (by omega) (by omega),ax (by omega) (by omega)]
  rw[e5];refine⟨rfl,rfl,aj.of _ (S.fN (X:=X) (A:=A) (g:=h.g) (by simp) (n:=0) rfl) (S.store _ 0 (by decide) λr S=>λw8 h8=>⟨n - 1,by omega,m+1,by rw[ax (by omega) (by omega)];omega,by omega,?_⟩)⟩;rw[Fs];exact S.ext h8
 ·have U:m=16:=by
   have: ¬ (m:Int)<16:=by simpa using z
   omega
  subst U;rw[eK (by omega)];exact S.res (j:=0) rfl _ 0 λr S=>kk r ⟨A,wf _,J S.tail.tail⟩
end
def dx (h:HS) (v p id f:Int):HS where
 s:=((nf h.s v (a6 h.g v) false p).1,dD (nf h.s v (a6 h.g v) false p).2 f (g_ (-1)))
 g:=bj h.g v.toNat (match h.g v.toNat with|some x=>some {x with tk:=x.tk.filter λt=> !(t.1==p)}|none=>none)
 gr:=eO h.gr id v
 po:=h.po
theorem qp (gs:List GT) (i o:Int):(eO gs i o).length=gs.length:=by
 unfold eO;split
 ·rw[Cd]
 ·rfl
theorem Pu {α:Type} {T L:List α} {k:Nat} {x:α} (h:L[k]? =some x):(T++L)[T.length+k]? =some x:=by
 rw[Fw (by omega),show T.length+k - T.length=k by omega];exact h
section
variable {Q:Sys} {X:HX} {D G:List Nat} {w0 w:A2} {h:HS} {L:List (Nat×List AC)}
theorem Ex {A:Nat->GA} (W:Dm A h) {T:List (Nat×List AC)} (H:SM Q D G w0 w h.s (T++d_ Q X A h (a_ Q A h.g (AF 17)++L)) (dm A h.g (AF 17))) {v p id f:Int} (o:aV h.g v=true) (U:NX Q h.s) (V:0<=a6 h.g v/\a6 h.g v<4096)
 {x:GV} (l:h.g v.toNat=some x) (Y:cg x.tk p=some (id,f)) {K:Unit->A2->Prop} (kk: ∀A' y,(∀i,(A' i).bg=(A i).bg)->Dm A' (dx h v p id f)->SM Q D G w0 y (dx h v p id f).s (T++d_ Q X A' (dx h v p id f) (a_ Q A' (dx h v p id f).g (AF 17)++L)) (dm A' (dx h v p id f).g (AF 17))->K () y):
 aA AB 167 (.bu []) [ag (af X.hb),aa v,aa p] w K:=by
 obtain⟨x',I,sU,hv,wP,sL⟩:=bZ o;rw[l] at I;cases I;refine H.go λw1 H=>ai (C:=V0) (aQ:=ux) (AH (RN _ v p w1 K) ?_);obtain⟨G',S,J⟩:=H.call;have mem: ∀{T':List (Nat×List AC)},(X.hb,fj Q X A h.g)∈T'++(T++d_ Q X A h (a_ Q A h.g (AF 17)++L)):=λ{T'}=>Ae _ (Ae _ AT);have z: ∀{T':List (Nat×List AC)}, ∀i v,h.g i=some v-> ∀x∈gO Q A i v,x∈T'++(T++d_ Q X A h (a_ Q A h.g (AF 17)++L)):=λ{T'} i v hv x l=>Ae _ (bV W T i v hv x l);obtain⟨g1,M,B, _⟩:=S.td (X:=X) (A:=A) (g:=h.g) (mem (T':=[])) (z (T':=[])) o;obtain⟨r,N,O⟩:=(W.mp l).find p;rw[Y] at O;obtain⟨i,e,hi,Z⟩:=O;have E:bF w1 (A v.toNat).bm ⟨(A v.toNat).es⟩ (A v.toNat).ck:=H.get (fL W _ _ l);refine⟨rfl,rfl,⟨rfl,by omega,by show v<((17:Nat):Int);omega⟩,aj.of _ g1 ⟨rfl,rfl,aj.of _ B ⟨(id,f,()),⟨_, _, _,rfl,E,?_⟩,S.al λb y S=>S.fi 0 rfl rfl rfl λw3 S=>⟨rfl,rfl,?_⟩⟩⟩⟩
 ·rw[N,e]
 obtain⟨_, _,B, _⟩:=S.td (X:=X) (A:=A) (g:=h.g) (mem (T':=[_])) (z (T':=[_])) o;refine aj.of _ B λw4 h4=>?_;have H:=(J S).ext h4;have E:bF w4 (A v.toNat).bm ⟨(A v.toNat).es⟩ (A v.toNat).ck:=H.get (fL W _ _ l);refine⟨_, _, _,rfl,E,?_⟩;unfold Aj;rw[N,e];dsimp only;have hea:(Nv (⟨(A v.toNat).es⟩:Array B5) i)=⟨(A v.toNat).es.eraseIdx i⟩:=by
  apply Array.ext';rw[Array.toList_eraseIdxIfInBounds]
 rw[hea];have Ke:v.toNat<17:=by omega
 have H:=H.Pt Ke l ((A v.toNat).es.eraseIdx i) (A v.toNat).ck (x.tk.filter λt=> !(t.1==p));have q:=Jl (A:=A) l ((A v.toNat).es.eraseIdx i) (A v.toNat).ck (x.tk.filter λt=> !(t.1==p));obtain⟨A',P⟩: ∃A',A'=oD A v.toNat {A v.toNat with es:=(A v.toNat).es.eraseIdx i,ck:=(A v.toNat).ck}:=⟨_,rfl⟩;have F:bj h.g v.toNat (some {x with tk:=x.tk.filter λt=> !(t.1==p)})=(dx h v p id f).g:=by
  show _=bj h.g v.toNat (match h.g v.toNat with|some x=> _|none=>none);rw[l]
 have hmp: ∀{a m},(dx h v p id f).g a=some m->qF (A' a).es (A' a).ck m.tk:=λ{a m} d=>by
  rw[<-F] at d;rw[P];unfold bj at d;unfold oD;by_cases u:a=v.toNat
  ·rw[av u] at d ⊢;cases d;exact Z
  ·rw[ao u] at d ⊢;exact W.mp d
 have TL: ∀{a m},(dx h v p id f).g a=some m->1<=a/\a<=16:=λ{a m} d=>by
  rw[<-F] at d;unfold bj at d;by_cases u:a=v.toNat
  ·omega
  ·rw[ao u] at d;exact W.jm d
 rw[<-P,F] at H q;obtain⟨G2,S,J2⟩:=H.call;obtain⟨_,M, _,j,hj⟩:=S.td (X:=X) (A:=A) (g:=h.g) (mem (T':=[_])) (z (T':=[_])) o;refine⟨rfl,rfl,aj.of _ M (S.DL U j hj V p λw5 S=>⟨rfl,rfl,aj.of _ (S.fN (X:=X) (A:=A) (g:=h.g) (mem (T':=[_])) (n:=1) rfl) ⟨rfl,S.cA 0 rfl rfl (S.aas f (-1) (by decide) λw6 S=>⟨rfl,rfl,aj.of _ (S.fN (X:=X) (A:=A) (g:=h.g) (mem (T':=[_])) (n:=2) rfl) ⟨rfl,S.cA 0 rfl rfl ?_⟩⟩)⟩⟩)⟩;refine S.Xf (T.length+1+1) (T.length+2+1) (Pu (T:= _::T) (k:=1) rfl) (Pu (T:= _::T) (k:=2) rfl) (by rw[W.gl];decide) W.gk.use id v λw7 S=>S.en λR S=>kk A' R q.bg ⟨TL,hmp,(qp _ _ _).trans W.gl,W.pt,W.gk.back _ _⟩ (J2 ?_);have e1:d_ Q X A' (dx h v p id f) (a_ Q A' (dx h v p id f).g (AF 17)++L)=(d_ Q X A h (a_ Q A h.g (AF 17)++L)).set 2 (X.uJ,flat eG (eO h.gr id v)++X.rest):=by
  show(X.hb,fj Q X A' (dx h v p id f).g)::(X.gb,mB X.uJ (eO h.gr id v).length X.c)::(X.uJ,flat eG (eO h.gr id v)++X.rest)::(X.pb,Po.gy 4 h.po)::(a_ Q A' (dx h v p id f).g (AF 17)++L)= _;rw[q.cs,q.rows,qp];rfl
 have S:bq Q [] G2 _ R _ ((T++d_ Q X A h (a_ Q A h.g (AF 17)++L)).set (T.length+2) (X.uJ,flat eG (eO h.gr id v)++X.rest)):=S.tail;rw[Hr _ _ (by omega),show T.length+2 - T.length=2 by omega, <-e1] at S;exact S
end
def ND (h:HS) (v p:Int):Int×Int:=match h.g v.toNat with
 |some x=>(cg x.tk p).getD (0,0)
 |none=>(0,0)
def oZ (h:HS) (v a:Int):Int:=if a>=65536 then 2 else if h_ h v a=true then 0 else 4
def gV (h:HS) (v a:Int):HS:=if a>=65536 then h else if h_ h v a=true then dx h v a (ND h v a).1 (ND h v a).2 else h
theorem tL {h:HS} {v p:Int} {x:GV} (a:aV h.g v=true) (b:h.g v.toNat=some x):h_ h v p=true<->cg x.tk p=some (ND h v p):=by
 unfold h_ gg ND;rw[av a,b];dsimp only;cases cg x.tk p<;>simp
section
variable {Q:Sys} {X:HX} {D G:List Nat} {w0 w:A2} {h:HS} {L:List (Nat×List AC)} {K:RS->A2->Prop}
theorem VN (H:jn Q X D G w0 w h L) {v:Int} (l:aV h.g v=true) (o:NX Q h.s) (p:0<=a6 h.g v/\a6 h.g v<4096) (k:Int) {a:Int} (b c:Int) (q:0<=a) (kk: ∀m,jn Q X D G w0 m (gV h v a) L->K (0,oZ h v a,()) m):
 aC AB 131 (.el (.agg iP)) [ag (af X.hb),aa v,.agg ⟨f_ k a b c⟩] w K:=by
 obtain⟨A,W,H⟩:=H;obtain⟨y,S,J⟩:=H.call;obtain⟨x,e,z,hv,B,E⟩:=bZ l;refine aR (C:=V0) (aQ:=λ_=>[]) (AH (L9 _ v k a b c w K) ?_);unfold oZ gV at kk;refine S.al λF m S=>S.al λI M S=>⟨rfl,S.cA 1 rfl rfl ?_⟩;refine ab (λd=>⟨trivial,S.res (j:=0) rfl 0 _ λf S=>?_⟩) (λd=>⟨rfl,S.cA 1 rfl rfl ?_⟩)
 ·rw[av (by simpa using d),av (by simpa using d)] at kk;exact kk f ⟨A,W,J S.tail.tail⟩
 have d: ¬ a>=65536:=by simpa using d
 rw[ao d,ao d] at kk;have n:aF .i64 a=a:=bL ⟨q,by omega⟩;rw[n];refine⟨gg h.g v a,pC (J S) (X:=X) (A:=A) (g:=h.g) (by simp) (bV W [_, _]) (fL W) (λi x e=>W.mp e) v a,?_⟩;refine ab (λd2=>⟨trivial,S.res (j:=0) rfl 0 _ λf S=>?_⟩) (λd2=>⟨rfl,S.cA 1 rfl rfl ?_⟩)
 ·have d2: ¬ h_ h v a=true:=by
   unfold h_;simpa using d2
  rw[ao d2,ao d2] at kk;exact kk f ⟨A,W,J S.tail.tail⟩
 ·have d2:h_ h v a=true:=by
   unfold h_;simpa using d2
  rw[av d2,av d2] at kk;rw[n];refine Ex W (T:=[_, _]) (J S) l o p e ((tL l e).1 d2) λA' f _ r H=>?_;obtain⟨N,S,t⟩:=H.call;exact S.res (j:=0) rfl 0 0 λu S=>kk u ⟨A',r,t S.tail.tail⟩
end
def mF (t:TK):List TK->List TK
 |[]=>[t]
 |u::l=>if u.1<t.1 then u::mF t l else t::u::l
theorem m6 (t:TK): ∀l,(mF t l).Perm (t::l)
 |[]=>Dl _
 |u::l=>by
  rw[mF];split
  ·exact((m6 t l).cons u).trans (.swap _ _ _)
  ·exact Dl _
def lP (h:HS) (a:Int):GT:=wX h.gr a
def lL (h:HS) (a:Int):Int×Int×Int×Unit:=fq h.g h.s (lP h a).1 (lP h a).2.1
def wQ (c:Int):Int:=if c=1 then 3 else 1
def nh (h:HS) (v a b c:Int):Int:=
 if b>=65536 then 2 else if a>=16\/c>1 then 1 else if(lU h.gr a).isSome=false then 4
 else if(lP h a).2.2.1≠v\/(c=1/\(lP h a).2.2.2.1=false) then 7 else if(lL h a).2.2.1≠0 then 4 else if h_ h (lP h a).1 (lP h a).2.1=true then 7
 else if gU h.gr a v (c==1)≠0 then gU h.gr a v (c==1) else lQ h.s (a6 h.g v) false b (lL h a).1 (wQ c)
def ij (h:HS) (v a b c:Int):HS where
 s:=((jB h.s v (a6 h.g v) false b (lL h a).1 (wQ c)).1,dD (jB h.s v (a6 h.g v) false b (lL h a).1 (wQ c)).2 (lL h a).1 (g_ 1))
 g:=bj h.g v.toNat (match h.g v.toNat with|some x=>some {x with tk:=mF (b,a,(lL h a).1) x.tk}|none=>none)
 gr:=eo h.gr a v (c==1)
 po:=h.po
def AR (h:HS) (v a b c:Int):HS:={h with s:=jB h.s v (a6 h.g v) false b (lL h a).1 (wQ c),gr:=eO (eo h.gr a v (c==1)) a v}
def my (h:HS) (v a b c:Int):Int:=
 if b>=65536 then 2 else if a>=16\/c>1 then 1 else if(lU h.gr a).isSome=false then 4
 else if(lP h a).2.2.1≠v\/(c=1/\(lP h a).2.2.2.1=false) then 7 else if(lL h a).2.2.1≠0 then 4 else if h_ h (lP h a).1 (lP h a).2.1=true then 7 else gU h.gr a v (c==1)
def jv (h:HS) (v a b c:Int):HS:=if my h v a b c≠0 then h else if nh h v a b c=0 then ij h v a b c else AR h v a b c
theorem Mq (gs:List GT) (i g:Int) (b:Bool):(eo gs i g b).length=gs.length:=by
 unfold eo;split
 ·rw[Cd]
 ·rfl
section
variable {Q:Sys} {X:HX} {D G:List Nat} {w0 w:A2} {h:HS} {L:List (Nat×List AC)} {K:RS->A2->Prop}
theorem ZO {A:Nat->GA} (W:Dm A h) {v a b c:Int} {x:GV} (f:h.g v.toNat=some x) (hv:((v.toNat:Nat):Int)=v) (wP:1<=v) (sL:v<=16) (t:cg x.tk b=none) (F:(eo h.gr a v (c==1)).length=h.gr.length) {h1:HS} (I:h1=yx h (eo h.gr a v (c==1)))
 {J l M:Nat} {N u la:List AC} (O:u=[ay 0,aa 0]) {m:A2}
 (H:SM Q D G w0 m ((jB h.s v (a6 h.g v) false b (lL h a).1 (wQ c)).1,dD (jB h.s v (a6 h.g v) false b (lL h a).1 (wQ c)).2 (lL h a).1 (g_ 1)) ((J,N)::(l,u)::(M,la)::d_ Q X A h1 (a_ Q A h.g (AF 17)++L)) (dm A h.g (AF 17)))
 (kk: ∀i,jn Q X D G w0 i (ij h v a b c) L->K (0,0,()) i):
 ∃r es w,some (A v.toNat).bm=some r/\bF m r es w/\gR m r .i64 b (.agg ⟨[aa a,aa (lL h a).1]⟩) es w λi=>
  az i (af l) [ay 0,aa 0] λi=>au i λw1=>aj w1 none (af l) (.agg [.int .u64,.int .i64]) λx=>K (x.1,x.2.1,()) w1:=by
 subst O;have P:=H.get (fL W _ _ f);refine⟨_, _, _,rfl,P,?_⟩;obtain⟨r,y,z⟩:=(W.mp f).find b;rw[t] at z;rw[z] at y;unfold gR;have R:=y;rw[R];have T:(⟨(A v.toNat).es⟩:Array B5).push {key:=aa b,val:= .agg ⟨[aa a,aa (lL h a).1]⟩,born:=(A v.toNat).ck}=⟨(A v.toNat).es++[{key:=aa b,val:= .agg ⟨[aa a,aa (lL h a).1]⟩,born:=(A v.toNat).ck}]⟩:=by
  grind
 rw[T];have B:=(W.mp f).push t (m6 (b,a,(lL h a).1) x.tk);have U:v.toNat<17:=by omega
 have V:({key:=(xd (b,a,(lL h a).1)).1,val:=(xd (b,a,(lL h a).1)).2,born:=(A v.toNat).ck}:B5)={key:=aa b,val:= .agg ⟨[aa a,aa (lL h a).1]⟩,born:=(A v.toNat).ck}:=rfl;rw[V] at B;generalize (A v.toNat).es++[{key:=aa b,val:= .agg _,born:=(A v.toNat).ck}]=n at B ⊢;have H:=H.Pt U f n ((A v.toNat).ck+1) (mF (b,a,(lL h a).1) x.tk);have o:=Jl (A:=A) f n ((A v.toNat).ck+1) (mF (b,a,(lL h a).1) x.tk);obtain⟨A',C⟩: ∃A',A'=oD A v.toNat {A v.toNat with es:=n,ck:=(A v.toNat).ck+1}:=⟨_,rfl⟩;have p:bj h.g v.toNat (some {x with tk:=mF (b,a,(lL h a).1) x.tk})=(ij h v a b c).g:=by
  show _=bj h.g v.toNat _;rw[f]
 have Y: ∀{d k},(ij h v a b c).g d=some k->qF (A' d).es (A' d).ck k.tk:=λ{d k} e=>by
  rw[<-p] at e;rw[C];unfold bj at e;unfold oD;by_cases q:d=v.toNat
  grind
  ·rw[ao q] at e ⊢;exact W.mp e
 have Z: ∀{d k},(ij h v a b c).g d=some k->1<=d/\d<=16:=λ{d k} e=>by
  rw[<-p] at e;unfold bj at e;by_cases q:d=v.toNat
  ·omega
  ·rw[ao q] at e;exact W.jm e
 rw[<-C,p] at H o;obtain⟨G2,S,J2⟩:=H.call;refine S.res (j:=1) rfl 0 0 λE S=>kk E ⟨A',⟨Z,Y,F.trans W.gl,W.pt,W.gk.take _ _ _⟩,J2 ?_⟩;have S:=S.tail.tail.tail;rw[I] at S;show bq Q [] G2 _ E _ ((X.hb,fj Q X A' _)::(X.gb,mB X.uJ _ X.c)::(X.uJ,flat eG _++X.rest)::(X.pb,Po.gy 4 h.po)::(a_ Q A' _ _++L));rw[o.cs,o.rows];exact S
theorem Jm {A:Nat->GA} (W:Dm A h) {v a b c:Int} {x:GV} (f:h.g v.toNat=some x) (hv:((v.toNat:Nat):Int)=v) (I:1<=v) (M:v<=16) (u:aV h.g v=true)
 (N: ∀x,h.g v.toNat=some x->lQ h.s (a6 h.g v) false b (lL h a).1 (wQ c)=0->cg x.tk b=none)
 (w:(eo h.gr a v (c==1)).length=h.gr.length) {h1:HS} (k:h1=yx h (eo h.gr a v (c==1))) (l:Dm A h1)
 {O e P:Nat} {R la:List AC} {m B:A2} {o:List Nat}
 (J: ∀{d:A2} {s':WD} {L':List (Nat×List AC)},bq Q [] o m d s' L'->SM Q D G w0 d s' L' (dm A h.g (AF 17)))
 (S:bq Q [] o m B h.s ((O,R)::(e,[ay 0,aa 0])::(P,la)::d_ Q X A h1 (a_ Q A h.g (AF 17)++L)))
 (C:nh h v a b c=lQ h.s (a6 h.g v) false b (lL h a).1 (wQ c)) (hS0:jv h v a b c=if nh h v a b c=0 then ij h v a b c else AR h v a b c)
 (kk: ∀d,jn Q X D G w0 d (jv h v a b c) L->K (0,nh h v a b c,()) d):
 aA AB 173 (.el (.one (.int .i64))) [ag (some ⟨(A v.toNat).bt,0,none⟩),aa b,aa (lL h a).1,aa (wQ c)] B λ(y:Int) (d:A2)=>
  aI (y != 0)
   ((some (⟨X.hb,0,none⟩:AG)).isSome=true/\(some (⟨X.hb,0,none⟩:AG)).isSome=true/\
    aj d none (ad (af X.hb) 2) (.one .ptr) λ(z:Option AG)=>
     aA AB 182 (.el (.one (.int .i64))) [ag z,aa a,aa v] d λ(_:Int) (d:A2)=>
      True/\az d (af e) [ay 0,aa y] λ(d:A2)=>au d λ(w1:A2)=>aj w1 none (af e) (.agg [.int .u64,.int .i64]) λ(x:Int×Int×Unit)=>K (x.1,x.2.1,()) w1)
   ((some (⟨X.hb,0,none⟩:AG)).isSome=true/\(some (⟨X.hb,0,none⟩:AG)).isSome=true/\
    aj d none (ad (af X.hb) 1) (.one .ptr) λ(z:Option AG)=>
     aA AB 183 (.el (.one (.int .i64))) [ag z,aa (lL h a).1,aa 1] d λ(_:Int) (d:A2)=>
      (some (⟨X.hb,0,none⟩:AG)).isSome=true/\(some (⟨X.hb,0,none⟩:AG)).isSome=true/\((ad (af X.hb) 4).isSome=true/\0<=v/\v<((17:Nat):Int))/\
       aj d none (ad (ad (af X.hb) 4) (v.toNat*1)) (.one .ptr) λ(p:Option AG)=>
        p.isSome=true/\p.isSome=true/\
         aj d none (ad p 1) (.one .map) λ(U:Option Nat)=>
          ∀(w1:A2),Ext d w1-> ∃(r:Nat), ∃(es:Array B5), ∃(E:Nat),U=some r/\bF w1 r es E/\
           gR w1 r .i64 b (.agg ⟨[aa a,aa (lL h a).1]⟩) es E λ(d:A2)=>
            az d (af e) [ay 0,aa 0] λ(d:A2)=>au d λ(w1:A2)=>aj w1 none (af e) (.agg [.int .u64,.int .i64]) λ(x:Int×Int×Unit)=>K (x.1,x.2.1,()) w1):=by
 have mem: ∀{T},(X.hb,fj Q X A h.g)∈T++d_ Q X A h1 (a_ Q A h.g (AF 17)++L):=λ{T}=>Ae T (by rw[k];exact AT);have F:=λ{T} i v hv x f=>by
  have H:h1.g=h.g:=by rw[k];rfl
  have:=bV (Q:=Q) (X:=X) (L:=L) l T i v (by rw[H];exact hv) x f;rw[H] at this;exact this
 obtain⟨_, _, _,j,V⟩:=S.td (X:=X) (A:=A) (g:=h.g) (mem (T:=[_, _, _])) (F (T:=[_, _, _])) u;refine S.map j V b (lL h a).1 (wQ c) λw8 S=>?_;refine ab (λd8=>?_) (λd8=>?_)
 ·have d8:lQ h.s (a6 h.g v) false b (lL h a).1 (wQ c)≠0:=by
   grind
  have q:jv h v a b c=AR h v a b c:=by grind
  refine⟨rfl,rfl,aj.of _ (S.fN (X:=X) (A:=A) (g:=h.g) (mem (T:=[_, _, _])) (n:=2) rfl) (S.Xf 4 5 rfl rfl (by rw[l.gl];decide) l.gk.use a v λY S=>⟨trivial,S.res (j:=1) rfl 0 _ λt S=>?_⟩)⟩;rw[C,q] at kk;refine kk t ⟨A,⟨W.jm,W.mp,(qp _ _ _).trans (w.trans W.gl),W.pt,(W.gk.take _ _ _).back _ _⟩,J ?_⟩;have S:=S.tail.tail.tail;rw[k] at S;show bq Q [] o m t _ ((X.hb,fj Q X A h.g)::(X.gb,mB X.uJ (eO _ a v).length X.c):: _);rw[qp];exact S
 ·have d8:lQ h.s (a6 h.g v) false b (lL h a).1 (wQ c)=0:=by
   grind
  have q:jv h v a b c=ij h v a b c:=by grind
  refine⟨rfl,rfl,aj.of _ (S.fN (X:=X) (A:=A) (g:=h.g) (mem (T:=[_, _, _])) (n:=1) rfl) (S.aas (lL h a).1 1 (by decide) λY S=>⟨rfl,rfl,⟨rfl,by omega⟩,?_⟩)⟩;rw[C,q,d8] at kk;have Z:=N x f d8;obtain⟨g1, _,g3, _⟩:=S.td (X:=X) (A:=A) (g:=h.g) (mem (T:=[_, _, _])) (F (T:=[_, _, _])) u;refine aj.of _ g1 ⟨rfl,rfl,aj.of _ g3 λt Ih=>?_⟩;exact ZO W f hv I M Z w k rfl ((J S).ext Ih) kk
theorem VO (H:jn Q X D G w0 w h L) {v:Int} (r:aV h.g v=true) (k:Int) {a b c:Int} (Y:0<=a) (hb:0<=b) (hc:0<=c) (F: ∀x,h.g v.toNat=some x->lQ h.s (a6 h.g v) false b (lL h a).1 (wQ c)=0->cg x.tk b=none)
 (kk: ∀m,jn Q X D G w0 m (jv h v a b c) L->K (0,nh h v a b c,()) m):
 aC AB 130 (.el (.agg iP)) [ag (af X.hb),aa v,.agg ⟨f_ k a b c⟩] w K:=by
 obtain⟨A,W,H⟩:=H;obtain⟨I,S,J⟩:=H.call;obtain⟨x,q,sU,hv,M,N⟩:=bZ r;refine aR (C:=V0) (aQ:=λ_=>[]) (AH (L8 _ v k a b c w K) ?_);have p: ∀e,e≠0->my h v a b c=e->nh h v a b c=e-> ∀{m},jn Q X D G w0 m h L->K (0,e,()) m:=λe Z h1 h2 m H=>by
  have y:jv h v a b c=h:=av (by rw[h1];exact Z);rw[h2,y] at kk;exact kk m H
 have l:my h v a b c=if b>=65536 then 2 else if a>=16\/c>1 then 1 else if(lU h.gr a).isSome=false then 4
  else if(lP h a).2.2.1≠v\/(c=1/\(lP h a).2.2.2.1=false) then 7 else if(lL h a).2.2.1≠0 then 4 else if h_ h (lP h a).1 (lP h a).2.1=true then 7 else gU h.gr a v (c==1):=rfl
 have f:nh h v a b c=if b>=65536 then 2 else if a>=16\/c>1 then 1 else if(lU h.gr a).isSome=false then 4
  else if(lP h a).2.2.1≠v\/(c=1/\(lP h a).2.2.2.1=false) then 7 else if(lL h a).2.2.1≠0 then 4 else if h_ h (lP h a).1 (lP h a).2.1=true then 7
  else if gU h.gr a v (c==1)≠0 then gU h.gr a v (c==1) else lQ h.s (a6 h.g v) false b (lL h a).1 (wQ c):=rfl
 refine S.al λba m S=>S.al λb1 w3 S=>⟨rfl,S.cA 1 rfl rfl ?_⟩;refine ab (λd=>⟨trivial,S.res (j:=0) rfl 0 _ λO S=>?_⟩) (λd=>⟨rfl,S.cA 1 rfl rfl ⟨λ_=>rfl,S.cA 1 rfl rfl ?_⟩⟩)
 ·have d:b>=65536:=by simpa using d
  rw[av d] at l f;exact p 2 (by decide) l f ⟨A,W,J S.tail.tail⟩
 have d: ¬ b>=65536:=by simpa using d
 rw[ao d] at l f;refine ab (λd1=>⟨trivial,S.res (j:=0) rfl 0 _ λO S=>?_⟩) (λd1=>⟨rfl,S.cA 1 rfl rfl ⟨rfl,S.cA 1 rfl rfl ⟨rfl,S.cA 1 rfl rfl ⟨rfl,rfl,?_⟩⟩⟩⟩)
 ·have d1:a>=16\/c>1:=by simpa using d1
  rw[av d1] at l f;exact p 1 (by decide) l f ⟨A,W,J S.tail.tail⟩
 have d1: ¬ (a>=16\/c>1):=by
  grind
 rw[ao d1] at l f;have ea:aF .i64 a=a:=bL ⟨Y,by omega⟩;have eb:aF .i64 b=b:=bL ⟨hb,by omega⟩;rw[ea,eb];refine aj.of _ (S.fN (X:=X) (A:=A) (g:=h.g) (by simp) (n:=2) rfl) ⟨(wX h.gr a,(lU h.gr a).isSome,()),S.aat 3 4 rfl rfl (by rw[W.gl];decide) a,S.al λb2 O S=>S.fi 0 rfl rfl rfl λw5 S=>?_⟩;refine ab (λd2=>⟨trivial,S.res (j:=1) rfl 0 _ λP S=>?_⟩) (λd2=>⟨rfl,S.cA 0 rfl rfl ⟨λ_=>rfl,S.cA 0 rfl rfl ?_⟩⟩)
 ·have d2:(lU h.gr a).isSome=false:=by simpa using d2
  rw[av d2] at l f;exact p 4 (by decide) l f ⟨A,W,J S.tail.tail.tail⟩
 have d2: ¬ (lU h.gr a).isSome=false:=by
  have d2:(!(lU h.gr a).isSome)=false:=d2;intro e;rw[e] at d2;cases d2
 rw[ao d2] at l f;refine ab (λd3=>⟨trivial,S.res (j:=1) rfl 0 _ λP S=>?_⟩) (λd3=>⟨rfl,S.cA 0 rfl rfl ⟨rfl,S.cA 0 rfl rfl ?_⟩⟩)
 ·have d3:=by
   have d3:((lP h a).2.2.1 != v||c==1&& !(lP h a).2.2.2.1)=true:=d3;simpa using d3
  rw[av d3] at l f;exact p 7 (by decide) l f ⟨A,W,J S.tail.tail.tail⟩
 have d3: ¬ ((lP h a).2.2.1≠v\/(c=1/\(lP h a).2.2.2.1=false)):=by
  grind[lP]
 rw[ao d3] at l f;refine qn S (X:=X) (A:=A) (g:=h.g) (by simp) (bV W [_, _, _]) (lP h a).1 (lP h a).2.1 λP S=>?_;refine ab (λd4=>⟨trivial,S.res (j:=1) rfl 0 _ λt S=>?_⟩) (λd4=>⟨rfl,S.cA 0 rfl rfl ⟨rfl,S.cA 0 rfl rfl ?_⟩⟩)
 ·have d4:(lL h a).2.2.1≠0:=by
   have d4:((lL h a).2.2.1 != 0)=true:=d4;simpa using d4
  rw[av d4] at l f;exact p 4 (by decide) l f ⟨A,W,J S.tail.tail.tail⟩
 have d4: ¬ (lL h a).2.2.1≠0:=by
  grind[lL]
 rw[ao d4] at l f;refine⟨gg h.g (lP h a).1 (lP h a).2.1,pC (J S) (X:=X) (A:=A) (g:=h.g) (by simp) (bV W [_, _, _]) (fL W) (λi x q=>W.mp q) _ _,?_⟩;refine ab (λd5=>⟨trivial,S.res (j:=1) rfl 0 _ λt S=>?_⟩) (λd5=>⟨rfl,rfl,?_⟩)
 ·have d5:h_ h (lP h a).1 (lP h a).2.1=true:=d5;rw[av d5] at l f;exact p 7 (by decide) l f ⟨A,W,J S.tail.tail.tail⟩
 have d5: ¬ h_ h (lP h a).1 (lP h a).2.1=true:=by
  have d5:h_ h (lP h a).1 (lP h a).2.1=false:=d5;rw[d5];decide
 rw[ao d5] at l f;refine aj.of _ (S.fN (X:=X) (A:=A) (g:=h.g) (by simp) (n:=2) rfl) (S.abl 4 5 rfl rfl (by rw[W.gl];decide) W.gk.use a v (c==1) λt S=>?_);have u:(eo h.gr a v (c==1)).length=h.gr.length:=Mq _ _ _ _;obtain⟨h1,o⟩: ∃h1,h1=yx h (eo h.gr a v (c==1)):=⟨_,rfl⟩;have R:h1.g=h.g:=by rw[o];rfl
 have BP:h1.s=h.s:=by rw[o];rfl
 have z:Dm A h1:=by rw[o];exact⟨W.jm,W.mp,u.trans W.gl,W.pt,W.gk.take _ _ _⟩
 have S:bq Q [] I w t h.s ((b2,[aa (lP h a).1,aa (lP h a).2.1,aa (lP h a).2.2.1,.bool (lP h a).2.2.2.1,aa (lP h a).2.2.2.2.1])::(b1,[ay 0,aa 0])::(ba,f_ k a b c)::d_ Q X A h1 (a_ Q A h.g (AF 17)++L)):=by
  rw[o];show bq Q [] I w t h.s (_:: _:: _::(X.hb,fj Q X A h.g)::(X.gb,mB X.uJ (eo h.gr a v (c==1)).length X.c):: _);rw[u];exact S
 refine ab (λd6=>⟨trivial,S.res (j:=1) rfl 0 _ λw8 S=>?_⟩) (λd6=>?_)
 ·have d6:gU h.gr a v (c==1)≠0:=by simpa using d6
  rw[av d6] at f;have e1:eo h.gr a v (c==1)=h.gr:=ao d6;have y:h1=h:=by rw[o,e1];rfl
  rw[y] at S;exact p _ d6 l f ⟨A,W,J S.tail.tail.tail⟩
 have d6: ¬ gU h.gr a v (c==1)≠0:=by
  grind
 rw[ao d6] at f;have U:jv h v a b c=if nh h v a b c=0 then ij h v a b c else AR h v a b c:=ao (by rw[l];exact d6);have mem: ∀{T:List (Nat×List AC)},(X.hb,fj Q X A h.g)∈T++d_ Q X A h1 (a_ Q A h.g (AF 17)++L):=λ{T}=>Ae T (by rw[o];exact AT);have V:=λ{T} i v hv x q=>by
  have:=bV (Q:=Q) (X:=X) (L:=L) z T i v (by rw[R];exact hv) x q;rw[R] at this;exact this
 have hq:=Ew h.g h.s (lP h a).1 (lP h a).2.1;refine ab (λd7=>⟨rfl,rfl,⟨rfl,by omega,by show v<((17:Nat):Int);omega⟩,?_⟩) (λd7=>⟨rfl,rfl,⟨rfl,by omega,by show v<((17:Nat):Int);omega⟩,?_⟩)
 ·have B:(Z3 .i64 1 2)=wQ c:=by
   unfold wQ;rw[av (by simpa using d7)];decide
  obtain⟨g1,E,g3,j,hj⟩:=S.td (X:=X) (A:=A) (g:=h.g) (mem (T:=[_, _, _])) (V (T:=[_, _, _])) r;refine aj.of _ g1 ⟨rfl,rfl,aj.of _ E ?_⟩;have T:=Jm W q hv M N r F u o z J S f U kk;rw[<-B] at T;exact T
 ·have B:(1:Int)=wQ c:=by
   unfold wQ;rw[ao (by simpa using d7)]
  obtain⟨g1,E,g3,j,hj⟩:=S.td (X:=X) (A:=A) (g:=h.g) (mem (T:=[_, _, _])) (V (T:=[_, _, _])) r;refine aj.of _ g1 ⟨rfl,rfl,aj.of _ E ?_⟩;have T:=Jm W q hv M N r F u o z J S f U kk;rw[<-B] at T;exact T
end
def As (l:List Int):Int:=l.foldl (λm x=>kr m x) 65536
theorem xI (a b:Int):kr a b<=a/\kr a b<=b/\(kr a b=a\/kr a b=b):=by
 unfold kr;split<;>omega
theorem ze: ∀(l:List Int) (m:Int),l.foldl (λm x=>kr m x) m<=m/\(∀x∈l,l.foldl (λm x=>kr m x) m<=x)/\(l.foldl (λm x=>kr m x) m=m\/l.foldl (λm x=>kr m x) m∈l)
 |[],m=>⟨Gj _,λx b=>(by cases b),.inl rfl⟩
 |y::l,m=>by
  obtain⟨h1,c,a⟩:=ze l (kr m y);obtain⟨d,e,f⟩:=xI m y;rw[FS];refine⟨Int.le_trans h1 d,λx b=>?_,?_⟩
  ·rcases FC.1 b with rfl|b
   ·exact Int.le_trans h1 e
   ·exact c x b
  ·rcases a with a|a
   ·rcases f with k|k
    ·exact .inl (a.trans k)
    ·exact .inr (FC.2 (.inl (a.trans k)))
   ·exact .inr (Ap _ a)
theorem Ms {l:List Int} {m:Int} (h1:m<=65536) (c: ∀x∈l,m<=x) (b:m=65536\/m∈l):m=As l:=by
 obtain⟨e,d,a⟩:=ze l 65536;unfold As;rcases b with b|b
 ·rcases a with a|a
  ·omega
  ·have:=c _ a;omega
 ·have:=d _ b;rcases a with a|a
  ·omega
  ·have:=c _ a;omega
theorem BA {es:List B5} {e:B5} (he:e∈es) (seen:Array Nat) (a:seen.contains e.born=false):
 (es.filter λx=> !(seen.push e.born).contains x.born).length<(es.filter λx=> !seen.contains x.born).length:=by
 induction es with
 |nil=>cases he
 |cons y es b=>
  have mono: ∀l:List B5,(l.filter λx=> !(seen.push e.born).contains x.born).length<=(l.filter λx=> !seen.contains x.born).length:=λl=>by
   rw[<-Kc, <-Kc];refine List.countP_mono_left λx _ c=>?_;simp only[J1,NR,Dn] at c ⊢
   simp_all
  rcases FC.1 he with rfl|he
  ·rw[JU (by simp),List.filter_cons_of_pos (by simpa using a)];have:=mono es;simp only[Dh];omega
  ·have:=b he;rw[LL,LL];by_cases h1:(!(seen.push e.born).contains y.born)=true
   ·have d:(!seen.contains y.born)=true:=by
     simp only[J1,NR,Dn] at h1 ⊢
     simp_all
    rw[av h1,av d];simp only[Dh];omega
   ·rw[ao h1];split
    ·simp only[Dh];omega
    ·exact this
section
variable {Q:Sys} {X:HX} {D G:List Nat} {w0 w:A2} {s:WD} {L0:List (Nat×List AC)} {M:List (Nat×BO)} {es:List B5} {ck bm bg:Nat} {pt:Option AG} {tk:List TK}
theorem Mt (H:SM Q D G w0 w s L0 M) (N:(bg,[ag pt,.map (some bm)])∈L0) (v:(bm,Obj.map ⟨es⟩ ck)∈M) (O:qF es ck tk) {K:Int->A2->Prop} (kk: ∀d,SM Q D G w0 d s L0 M->K (As (tk.map (·.1))) d):
 aA AB 168 (.el (.one (.int .i64))) [ag (af bg)] w K:=by
 obtain⟨⟨p,A,B⟩,E,P, _⟩:=O;have R: ∀e∈es, ∃t∈tk,e.key=aa t.1:=λe a=>by
  have:(e.key,e.val)∈p.map xd:=by rw[<-B];exact Bx.2 ⟨e,a,rfl⟩
  obtain⟨t,c,y⟩:=Bx.1 this;exact⟨t,A.mem_iff.1 c,(congrArg (·.1) y).symm⟩
 have S: ∀t∈tk, ∃e∈es,e.key=aa t.1:=λt c=>by
  have:xd t∈es.map λe=>(e.key,e.val):=by rw[B];exact Bx.2 ⟨t,A.mem_iff.2 c,rfl⟩
  obtain⟨e,a,y⟩:=Bx.1 this;exact⟨e,a,congrArg (·.1) y⟩
 refine H.go λw1 H=>ai (C:=V0) (aQ:=rh) (AH (L5 _ w1 K) ?_);obtain⟨j,f⟩:=B3 N;refine⟨rfl,rfl,H.base.cA j f rfl λd g=>?_⟩;have H:=H.ext g;have T:bF d bm ⟨es⟩ ck:=H.get v;refine⟨_, _, _,rfl,T,?_⟩;have H:=H.alloc (o:= .mapIter (some bm) ck #[] ck) trivial;obtain⟨b,hb⟩: ∃b,b=d.heap.size:=⟨_,rfl⟩;rw[<-hb] at H ⊢;refine⟨λn q w'=> ∃seen:Array Nat,SM Q D G w0 w' s L0 ((b,.mapIter (some bm) ck seen ck)::M)/\n=(es.filter λx=> !seen.contains x.born).length/\q.1<=65536/\(∀e∈es, ∀x,e.key=aa x->seen.contains e.born=true->q.1<=x)/\(q.1=65536\/q.1∈tk.map (·.1)),⟨_,λU k=>⟨#[],H.ext k,rfl,Gj _,λe _ x _ l=>(by simp at l),.inl rfl⟩⟩,?_⟩;clear H;rintro n ⟨q,u⟩ U ⟨seen,H,V,h1,g,k⟩;dsimp only at h1 g k ⊢;intro w4 W;have H:=H.ext W;refine⟨b,bm,ck,seen,ck,⟨es⟩,ck,rfl,H.get AT,H.get (Ap _ v),Db _,P,λl X z=>?_,λe a l X z=>?_⟩
 ·refine(H.ext z).en λF H=>?_;have m:q=As (tk.map (·.1)):=Ms h1 (λx r=>by
   obtain⟨t,c,rfl⟩:=Bx.1 r;obtain⟨e,I,Y⟩:=S t c;exact g e I _ Y (l e I)) k
  rw[m];exact kk F (H.FO (B4 _ _))
 ·have a:e∈es:=a;obtain⟨t,c,J⟩:=R e a;have H:=(H.ext z).put (i:=0) rfl (o':= .mapIter (some bm) ck (seen.push e.born) ck) trivial;refine⟨t.1,e.val,⟨b,bm,ck,seen,⟨es⟩,ck,e,rfl,H.get AT,H.get (Ap _ v),a,E,J.symm,rfl⟩,λF Z=>?_⟩;refine⟨_,?_,seen.push e.born,H.ext Z,rfl,?_,?_,?_⟩
  ·rw[V];exact BA a seen l
  ·have:=xI q t.1;omega
  ·intro e' L x r fl;have hmi:=xI q t.1;by_cases h:seen.contains e'.born=true
   ·have:=g e' L x r h;show kr q t.1<=x;omega
   ·have sq:e'.born=e.born:=by
     rw[J1] at fl
     simp_all
    have ab_:e'=e:=by
     obtain⟨i,hi⟩:=B3 L;obtain⟨j,f⟩:=B3 a;have xW:(es.map (·.born))[i]? =some e.born:=by rw[BX,hi];exact congrArg some sq
     have xi:(es.map (·.born))[j]? =some e.born:=by rw[BX,f];rfl
     have:=(Fh (by rw[B2];exact(Bs.1 hi).1) E).1 (xW.trans xi.symm);subst this;rw[hi] at f;cases f;rfl
    subst ab_;rw[J] at r;cases r;show kr q t.1<=t.1;exact hmi.2.1
  ·rcases(xI q t.1).2.2 with m|m
   ·show kr q t.1=65536\/ _;rw[m];exact k
   ·show kr q t.1=65536\/kr q t.1∈ _;rw[m];exact .inr (Bx.2 ⟨t,c,rfl⟩)
end
end Go.Proofs.YtlcenllcmeebhaaGreat
namespace Go.Proofs.YtlcenllcmeebhaaGreat.Mu
set_option maxRecDepth 100000
open Go.RX
section
variable {D G:List Nat} {w0 w:A2} {L Ls:List (Nat×List AC)} {M:List (Nat×BO)} {es:List B5} {mb ck:Nat} {wl:List (Int×Int)}
theorem BB (H:cw D G w0 w L ((mb,.map ⟨es⟩ ck)::M)) (hv:iz es ck (wl.map Fy)) (hl:(wl.length:Int)<=1000000) {is:Int->Bool} {Q:Int->A2->Bool->Prop}
 (hq: ∀{w' d Mr},cw D G w0 w' (d++L) Mr-> ∀e∈wl,Q e.2 w' (is e.2)) {K:Option AG×Nat×Nat->A2->Prop}
 (k: ∀r R d c,R.Pairwise (· <= ·)->R.Perm ((wl.filter λe=>is e.2).map (·.1))->du eI r R d->cw D G w0 c (d++L) ((mb,.map ⟨es⟩ ck)::M)->K r c):
 RgP w (some mb) λb c=> ∃I:Nat->(Option AG×Nat×Nat)×Unit->A2->Prop,(∃n, ∀w1,Ext c w1->I n ((none,0,0),()) w1)/\ ∀(n:Nat) (s:(Option AG×Nat×Nat)×Unit) (w1:A2),I n s w1->
  NxP w1 (af b) (λc=>au c λw1=>K (s.1.1,s.1.2.1,s.1.2.2) w1) λ_ _ c=> ∃x y:Int,Ak c (af b) (aa x) (aa y)/\ ∃P:Bool,Q y c P/\
   aI (!P) (∀g,Ext c g-> ∃h,h<n/\I h ((s.1.1,s.1.2.1,s.1.2.2),()) g)
    (aN c ⟨[aa x]⟩ 3 λb c=> ∀w1,Ext c w1->mz w1 3 1 8 ⟨[aa 0]⟩ (s.1.1,s.1.2.1,s.1.2.2) (some ⟨b,0,none⟩,1,1) λr c=>
     ∃B:Nat->Int×Unit->A2->Prop,(∃n, ∀w1,Ext c w1->B n (((s.1.2.1:Nat):Int),()) w1)/\ ∀(S:Nat) (s:Int×Unit) (w1:A2),B S s w1->
      (decide (s.1>0)=true->r.1.isSome=true/\0<=aY .i64 s.1 1/\aY .i64 s.1 1<((r.2.1:Nat):Int))/\aj w1 (some (decide (s.1>0))) (ad r.1 ((aY .i64 s.1 1).toNat*1)) eI λ(aM:Int)=>
       aI (decide (s.1>0)&&decide (aM>x)) ((r.1.isSome=true/\0<=aY .i64 s.1 1/\aY .i64 s.1 1<((r.2.1:Nat):Int))/\aj w1 none (ad r.1 ((aY .i64 s.1 1).toNat*1)) eI λ(y:Int)=>
        (r.1.isSome=true/\0<=s.1/\s.1<((r.2.1:Nat):Int))/\az w1 (ad r.1 (Int.toNat s.1*1)) [aa y] λc=> ∀g,Ext c g-> ∃h,h<S/\B h (aY .i64 s.1 1,()) g)
        ((r.1.isSome=true/\0<=s.1/\s.1<((r.2.1:Nat):Int))/\az w1 (ad r.1 (Int.toNat s.1*1)) [aa x] λc=> ∀g,Ext c g-> ∃h,h<n/\I h ((r.1,r.2.1,r.2.2),()) g)):=by
 obtain⟨XX,he2⟩:=hv.abX;have T:=hv.2.1;have hck:=hv.2.2.1;have hlen:es.length=wl.length:=by
  obtain⟨⟨p,C,E⟩, _⟩:=hv;have F:=congrArg FU E;have J:=C.length_eq;simp only[B2] at F J;omega
 intro w1 h1;have H:=H.ext h1;refine⟨mb,⟨es⟩,ck,rfl,H.get (i:=0) rfl,?_⟩;have H:=H.alloc (o:= .mapIter (some mb) ck #[] ck) trivial;obtain⟨b,hb⟩: ∃b,b=w1.heap.size:=⟨_,rfl⟩;rw[<-hb] at H ⊢;refine⟨λn q w'=> ∃(seen:Array Nat) (d:List (Nat×List AC)) (R:List Int),cw D G w0 w' (d++L) ((b,.mapIter (some mb) ck seen ck)::(mb,.map ⟨es⟩ ck)::M)/\n=(es.filter λx=> !seen.contains x.born).length/\du eI q.1 R d/\R.Pairwise (· <= ·)/\
  R.Perm ((es.filter λx=>seen.contains x.born&&is (kI x.val)).map λx=>kI x.key),⟨_,λg h3=>⟨#[],[],[],H.ext h3,rfl,du.nil eI,List.Pairwise.nil,?_⟩⟩,?_⟩
 ·have:(es.filter λx=>(#[]:Array Nat).contains x.born&&is (kI x.val))=[]:=List.filter_eq_nil_iff.2 λx _=>by simp
  rw[this];exact Dl _
 clear H;rintro n ⟨q,u⟩ g ⟨seen,d,R,H,hn,m,N,z⟩;dsimp only at m ⊢;have hRl:R.length<=es.length:=by
  rw[z.length_eq,B2];exact I1 _ _
 intro w4 h4;have H:=H.ext h4;refine⟨b,mb,ck,seen,ck,⟨es⟩,ck,rfl,H.get (i:=0) rfl,H.get (i:=1) rfl,Db _,hck,λmD w5 O j v=>?_,λe l U w5 O=>?_⟩
 ·refine k q R d j N (z.trans ?_) m (((H.ext O).ext v).FO (B4 _ _));have F:(es.filter λx=>seen.contains x.born&&is (kI x.val))=es.filter λx=>is (kI x.val):=I2 λx hx=>by rw[mD x hx,H4]
  rw[F];obtain⟨⟨p,C,E⟩, _⟩:=hv;have J:(es.filter λx=>is (kI x.val)).map (λx=>kI x.key)=((es.map λe=>(e.key,e.val)).filter λt=>is (kI t.2)).map λt=>kI t.1:=by
   rw[GF,GG];rfl
  have e3:((p.map kvE).filter λt=>is (kI t.2)).map (λt=>kI t.1)=(p.filter λt=>is (kI t.2)).map (·.1):=by
   rw[GF,GG];rfl
  have e4:(((wl.map Fy).filter λt=>is (kI t.2)).map (·.1):List Int)=(wl.filter λe=>is e.2).map (·.1):=by
   rw[GF,GG];rfl
  rw[J,E,e3, <-e4];exact(C.filter _).map _
 ·have l:e∈es:=l;obtain⟨t,ht,V,W⟩:=XX e l;obtain⟨a,ha,rfl⟩:=Bx.1 ht;have H:=(H.ext O).put (i:=0) rfl (o':= .mapIter (some mb) ck (seen.push e.born) ck) trivial;have X:(es.filter λx=> !(seen.push e.born).contains x.born).length<n:=by rw[hn];exact BA l seen U
  have A:=A7 (f:=λx=>is (kI x.val)) U T l;have hke:kI e.key=a.1:=by rw[V];rfl
  have Y:kI e.val=a.2:=by rw[W];rfl
  refine⟨a.1,a.2,⟨b,mb,ck,seen,⟨es⟩,ck,e,rfl,H.get (i:=0) rfl,H.get (i:=1) rfl,l,T,V.symm,W.symm⟩,is a.2,hq H a ha,?_⟩;cases hi:is a.2 with
  |false=>
   refine aB rfl λj v=>⟨_,X,seen.push e.born,d,R,H.ext v,rfl,m,N,?_⟩;rw[Y,hi,ao (by decide)] at A;exact z.trans (A.map _).symm
  |true=>
   rw[Y,hi,av rfl] at A;refine an rfl λj v w7 h7=>?_;have Z:cw D G w0 w7 (d++((j.heap.size,[aa a.1])::L)) ((b,.mapIter (some mb) ck (seen.push e.born) ck)::(mb,.map ⟨es⟩ ck)::M):=by
    have H6:=H.ext v;have K6:=H6.join (L':=(j.heap.size,[aa a.1])::(d++L)) (w1:=j.alloc (.cells ⟨[aa a.1]⟩ 3)) (H6.base.again.alloc _ _);exact(K6.perm B1).ext h7
   refine Fu Z m rfl (q:=(some ⟨j.heap.size,0,none⟩,1,1)) (ys:=[a.1]) rfl (rR (e:=eI) (x:=a.1) (Z.base.dk _ (Ae _ AT))) rfl rfl (by simp only[GH];omega) λr cJ w8 fl H8=>?_;refine Qf H8 fl N (by omega) (by rw[m.1]) λWt R' w9 hR' TD TB H9=>⟨_,X,seen.push e.born,Wt,R',H9.sub (FR (B4 _ _) _),rfl,TB,hR',?_⟩;refine(TD.trans (DE _ z)).trans ?_;have:=(A.map λx=>kI x.key).symm;rw[FV,hke] at this;exact this
theorem Mv (H:cw D G w0 w L ((mb,.map ⟨es⟩ ck)::M)) (hv:iz es ck (wl.map Fy)) (d:(wl.length:Int)<=1000000) {now:Int} {s:Option AG×Nat×Nat} {c eb:Nat} (hc:(c,[ag (af eb)])∈L) (f:(eb,m_ now s mb)∈L) (g: ∀e∈wl,0<=e.2/\e.2<=now) (o:now<4611686018427387904)
 {K:Option AG×Nat×Nat->A2->Prop} (k: ∀r R b a,R.Pairwise (· <= ·)->R.Perm ((wl.filter λe=>decide (e.2+2<=now)).map (·.1))->du eI r R b->cw D G w0 a (b++L) ((mb,.map ⟨es⟩ ck)::M)->K r a):
 aA AB 115 (.el (.one .slice)) [.map (some mb),.func (.func 236) #[] #[ag (af c)]] w K:=by
 refine λw1 h1=>ai (C:=U1) (aQ:=qR) (AH (KC _ _ w1 K) ?_);refine BB (H.ext h1) hv d (is:=λy=>decide (y+2<=now)) (Q:=λy a h=>ae AB 236 [aa y,ag (af c)] a (.bool h)) (λ{w' b p} H e i=>?_) k;refine ae.of (s:= .el (.one .bool)) λa l=>ai (C:=U0) (aQ:=λ_=>[]) (AH (KA _ _ a _) ?_);have H:=(H.ext l).base;have hb:=g e i;obtain⟨j,m⟩:=B3 (Ae b hc);refine aj.at j H m (show _=some (some (⟨eb,0,none⟩:AG)) from rfl) ⟨rfl,rfl,aj.ky H (Ae b f) (show _=some now from rfl) λq n=>⟨?_,n⟩⟩;rw[ax (by omega) (by omega)]
theorem Mw (H:cw D G w0 w L ((mb,.map ⟨es⟩ ck)::M)) (hv:iz es ck (wl.map Fy)) (f:(wl.length:Int)<=1000000)
 {K:Option AG×Nat×Nat->A2->Prop} (k: ∀r R d c,R.Pairwise (· <= ·)->R.Perm (wl.map (·.1))->du eI r R d->cw D G w0 c (d++L) ((mb,.map ⟨es⟩ ck)::M)->K r c):
 aA AB 115 (.el (.one .slice)) [.map (some mb),.func (.func 116) #[] #[]] w K:=by
 refine λw1 h1=>ai (C:=U1) (aQ:=qS) (AH (KE _ w1 K) ?_);refine BB (H.ext h1) hv f (is:=λ_=>true) (Q:=λy c g=>ae AB 116 [aa y] c (.bool g)) (λ{w' d i} H e j=>?_) (λr R d c a b=>k r R d c a (by rw[Ft.2 (λ_ _=>rfl)] at b;exact b));exact ae.of (s:= .el (.one .bool)) λc l=>ai (C:=U0) (aQ:=λ_=>[]) (AH (KB _ c _) λm h=>⟨rfl,h⟩)
theorem R9 (H:cw D G w0 w L ((mb,.map ⟨es⟩ ck)::M)) (hv:iz es ck (wl.map Fy)) (h:(wl.length:Int)<=1000000) {now:Int} {s:Option AG×Nat×Nat} {eb:Nat} (g:(eb,m_ now s mb)∈L)
 {K:Option AG×Nat×Nat->A2->Prop} (k: ∀r R e f,R.Pairwise (· <= ·)->R.Perm (wl.map (·.1))->du eI r R e->cw D G w0 f (e++L) ((mb,.map ⟨es⟩ ck)::M)->K r f):
 aA AB 69 (.el (.one .slice)) [ag (af eb)] w K:=by
 refine λw1 h1=>ai (C:=U0) (aQ:=λ_=>[]) (AH (Qc _ w1 K) ?_);have H:=H.ext h1;refine⟨_,mS H.base g,an rfl ⟨rfl,rfl,aj.ky H.base g (show _=some (some mb) from rfl) ?_⟩⟩;exact Mw H hv h λr R e f a b c d=>λi j=>k r R e i a b c (d.ext j)
theorem R_ (H:cw D G w0 w L ((mb,.map ⟨es⟩ ck)::M)) (hv:iz es ck (wl.map Fy)) (X:(wl.length:Int)<=1000000) {now:Int} {s:Option AG×Nat×Nat} {eb:Nat} (Y:(eb,m_ now s mb)∈L) (Z: ∀e∈wl,0<=e.2/\e.2<=now) (hnb:now<4611686018427387904)
 {K:Option AG×Nat×Nat->A2->Prop} (k: ∀r R g d l,R.Pairwise (· <= ·)->R.Perm ((wl.filter λe=>decide (e.2+2<=now)).map (·.1))->du eI r R g->iz d ck ((wl.filter λe=> !decide (e.2+2<=now)).map Fy)->
  cw D G w0 l (g++L) ((mb,.map ⟨d⟩ ck)::M)->K r l):
 aA AB 198 (.el (.one .slice)) [ag (af eb)] w K:=by
 refine λw1 h1=>ai (C:=U0) (aQ:=ug) (AH (Qb _ w1 K) λl u=>?_);have H:=(H.ext h1).ext u;obtain⟨b,hb⟩: ∃b,b=l.heap.size:=⟨_,rfl⟩;have H:=H.join (L':=(b,[ag (af eb)])::L) (w1:=l.alloc (.cells ⟨[ag (af eb)]⟩ 98)) (by rw[hb];exact H.base.again.alloc _ _);rw[<-hb];have m:(eb,m_ now s mb)∈(b,[ag (af eb)])::L:=Ap _ Y;refine aj.at 0 H.base rfl (show _=some (some (⟨eb,0,none⟩:AG)) from rfl) ⟨_,mS H.base m,an rfl (aj.at 0 H.base rfl (show _=some (some (⟨eb,0,none⟩:AG)) from rfl) ⟨rfl,rfl,aj.ky H.base m (show _=some (some mb) from rfl) ?_⟩)⟩;refine Mv H hv X (c:=b) AT m Z hnb λr R g J hR o v H=>?_;have N:=v.1;have O:(wl.map (·.1)).Nodup:=by
  have:=hv.2.2.2;rw[GG] at this;exact this
 have hRl:R.length<=wl.length:=by
  rw[o.length_eq,B2];exact I1 _ _
 have hRn:R.Nodup:=by
  refine o.nodup_iff.2 ?_;exact O.sublist (JW.map _)
 have P: ∀f,f∈R<-> ∃e∈wl,e.1=f/\e.2+2<=now:=λf=>by
  rw[o.mem_iff,Bx];constructor
  ·rintro⟨e,h,rfl⟩;obtain⟨a,c⟩:=GI.1 h;exact⟨e,a,rfl,by simpa using c⟩
  ·rintro⟨e,h,rfl,c⟩;exact⟨e,GI.2 ⟨h,by simpa using c⟩,rfl⟩
 refine⟨λn st z=> ∃(j:Nat) (d:List B5),j<=R.length/\n=R.length - j/\st.1=(j:Int)/\iz d ck ((wl.filter λe=> !(R.take j).contains e.1).map Fy)/\cw D G w0 z (g++((b,[ag (af eb)])::L)) ((mb,.map ⟨d⟩ ck)::M),⟨R.length,λz h4=>⟨0,es,FQ _,rfl,rfl,?_,H.ext h4⟩⟩,?_⟩
 ·have:(wl.filter λe=> !(R.take 0).contains e.1)=wl:=Ft.2 λ_ _=>rfl;rw[this];exact hv
 rintro n ⟨i, _⟩ z ⟨j,d,Q,qy,hi,A,H⟩;have hi:i=(j:Int):=hi;subst hi qy;dsimp only;rw[N];have hmb:(b,[ag (some (⟨eb,0,none⟩:AG))])∈g++((b,[ag (af eb)])::L):=Ae _ AT;have hme:(eb,m_ now s mb)∈g++((b,[ag (some (⟨eb,0,none⟩:AG))])::L):=Ae _ m;obtain⟨jb,hjb⟩:=B3 hmb;refine ab (λc=>?_) (λc=>?_)
 ·have Q:j<R.length:=by have:=of_decide_eq_true c;omega
  obtain⟨x,p⟩: ∃x,R[j]? =some x:=⟨_,DA Q⟩;have S:=v.sl H.base (λy q=>Ca _ q) j x p;refine⟨⟨S.1,by omega,by omega⟩,aj.of x (by rw[Dd];exact S.2) (aj.at jb H.base hjb (show _=some (some (⟨eb,0,none⟩:AG)) from rfl) ⟨rfl,rfl,aj.ky H.base hme (show _=some (some mb) from rfl) λT B=>?_⟩)⟩;have H:=H.ext B;obtain⟨e,hew,U,Z'⟩:=(P x).1 (C5 p);have hxn:x∉R.take j:=λhm=>by
   obtain⟨i,hi⟩:=B3 hm;have E:i<(R.take j).length:=(Bs.1 hi).1;rw[E4] at E;rw[List.getElem?_take_of_lt (by omega)] at hi;have:=(Fh (by omega) hRn).1 (hi.trans p.symm);omega
  have ko:(x,aa e.2)∈(wl.filter λe=> !(R.take j).contains e.1).map Fy:=Bx.2 ⟨e,GI.2 ⟨hew,by rw[U];simpa using hxn⟩,by rw[<-U]⟩;obtain⟨i,hf,E,V⟩:=A.Fi ko;refine⟨mb,⟨d⟩,ck,rfl,H.get (i:=0) rfl,?_⟩;unfold Aj;rw[hf];have e1:(Array.mk d).eraseIdxIfInBounds i=⟨d.eraseIdx i⟩:=by
   apply Array.ext';simp[Nv,E]
  have H:=H.put (i:=0) rfl (o':= .map ⟨d.eraseIdx i⟩ ck) trivial;show∀J,Ext _ J-> _;rw[e1];refine λw6 h6=>⟨R.length - (j+1),by omega,j+1,d.eraseIdx i,by omega,rfl,?_,?_,H.ext h6⟩
  ·rw[ax (by omega) (by omega)];omega
  ·have F:(((wl.filter λe=> !(R.take j).contains e.1).map Fy).filter λt=> !(t.1==x))=(wl.filter λe=> !(R.take (j+1)).contains e.1).map Fy:=by
    rw[GF,List.filter_filter];congr 1;refine I2 λy _=>?_;rw[List.take_add_one,p];show((!(y.1==x))&& !(R.take j).contains y.1)= !(R.take j++[x]).contains y.1;rw[List.contains_append];simp only[List.contains_cons,List.contains_nil,Bool.or_false,Bool.not_or];rw[Bool.and_comm]
   rw[F] at V;exact V
 ·have:j=R.length:=by have:=of_decide_eq_false c;omega
  subst this;refine λT B=>k _ R g d T hR o (by rw[<-N];exact v) ?_ ((H.ext B).sub (FR (B4 _ _) _));have F:(wl.filter λe=> !(R.take R.length).contains e.1)=wl.filter λe=> !decide (e.2+2<=now):=I2 λy q=>by
   rw[List.take_length];congr 1;rw[NS,List.contains_iff_mem,decide_eq_true_eq,P];constructor
   ·rintro⟨e,h1,u,h3⟩;have:e=y:=by
     obtain⟨i1,I⟩:=B3 h1;obtain⟨i2,W⟩:=B3 q;have a1:(wl.map (·.1))[i1]? =some y.1:=by rw[BX,I];exact congrArg some u
     have a2:(wl.map (·.1))[i2]? =some y.1:=by rw[BX,W];rfl
     have:=(Fh (by rw[B2];exact(Bs.1 I).1) O).1 (a1.trans a2.symm);subst this;exact Option.some.inj (I.symm.trans W)
    rw[<-this];exact h3
   ·exact λh=>⟨y,q,rfl,h⟩
  rw[F] at A;exact A
theorem Cz (H:cw D G w0 w L M) (n:Int) {K:Option AG×Int×Unit->A2->Prop} (kb:n<1\/n>8-> ∀w1,cw D G w0 w1 L M->K (none,1,()) w1)
 (F:1<=n->n<=8-> ∀eb mb s Ls w1,du eI s (Aq n.toNat (-1)) Ls->cw D G w0 w1 ((eb,m_ 0 s mb)::(Ls++L)) ((mb,.map ⟨[]⟩ 0)::M)->K (some ⟨eb,0,none⟩,0,()) w1):
 aA AB 84 (.bu [.one .ptr,.one (.int .i64)]) [aa n] w K:=by
 refine λw1 h1=>ai (C:=U0) (aQ:=vX) (AH (Cx n w1 K) ?_);have H:=H.ext h1;refine ab (λc=>λg h=>kb (by simpa using c) g (H.ext h)) (λc g h p I=>?_);have t:1<=n/\n<=8:=by
  simp only[Dn,decide_eq_false_iff_not] at c;omega
 obtain⟨m,rfl⟩: ∃m:Nat,n=(m:Int):=⟨n.toNat,by omega⟩;have H:=((H.ext h).alloc (o:= .map #[] 0) trivial).ext I;obtain⟨mb,J⟩: ∃b,b=g.heap.size:=⟨_,rfl⟩;rw[<-J] at H ⊢;obtain⟨eb,u⟩: ∃b,b=p.heap.size:=⟨_,rfl⟩;have H:=H.join (L':=(eb,m_ 0 (none,0,0) mb)::L) (w1:=p.alloc (.cells ⟨[aa 0,.slice none 0 0,.map (some mb)]⟩ 210)) (by rw[u];exact H.base.again.alloc _ _);rw[<-u];refine⟨λn st k=> ∃(j:Nat) (s:Option AG×Nat×Nat) (Ls:List (Nat×List AC)),j<=m/\n=m - j/\st.1=(j:Int)/\du eI s (Aq j (-1)) Ls/\cw D G w0 k (Ls++((eb,m_ 0 s mb)::L)) ((mb,.map ⟨[]⟩ 0)::M),⟨m,λk N=>⟨0,(none,0,0),[],FQ _,rfl,rfl,du.nil eI,H.ext N⟩⟩,?_⟩;clear H;rintro n ⟨i, _⟩ k ⟨j,s,Ls,O,P,hi,v,H⟩;have hi:i=(j:Int):=hi;subst hi P;dsimp only;have Q:(eb,m_ 0 s mb)∈Ls++((eb,m_ 0 s mb)::L):=Ae _ AT;refine ab (λc=>?_) (λc=>?_)
 ·have O:j<m:=by have:=of_decide_eq_true c;omega
  refine⟨rfl,rfl,aj.ky H.base Q (show _=some (s.1,s.2.1,s.2.2) from rfl) λa l R S=>?_⟩;have y:cw D G w0 R (Ls++((a.heap.size,[aa (-1)])::(eb,m_ 0 s mb)::L)) ((mb,.map ⟨[]⟩ 0)::M):=by
   have z:=H.ext l;have T:=z.join (L':=(a.heap.size,[aa (-1)])::(Ls++((eb,m_ 0 s mb)::L))) (w1:=a.alloc (.cells ⟨[aa (-1)]⟩ 3)) (z.base.again.alloc _ _);exact(T.perm B1).ext S
  refine Fu y v rfl (q:=(some ⟨a.heap.size,0,none⟩,1,1)) (ys:=[(-1:Int)]) rfl (rR (e:=eI) (x:=(-1:Int)) (y.base.dk _ (Ae _ AT))) rfl rfl (by simp only[GH,DQ];omega) λr d X U f=>⟨rfl,rfl,?_⟩;have f:=(f.sub (FR (B4 _ _) d)).perm (L':=(eb,m_ 0 s mb)::(d++L)) B1.symm;refine λA B=>?_;have key:=az.e8 (b:=eb) (o:=0) (n:=1) 0 (f.ext B).base.again rfl (x:= .slice r.1 r.2.1 r.2.2) rfl rfl (K:=λE=>cw D G w0 E ((eb,m_ 0 r mb)::(d++L)) ((mb,.map ⟨[]⟩ 0)::M)) (λE V=>(f.ext B).join V) A (Ext.refl A);refine⟨key.1,λY W=>⟨m - (j+1),by omega,j+1,r,d,by omega,rfl,?_,?_,(key.2.ext W).perm B1⟩⟩
  ·rw[ax (by omega) (by omega)];omega
  ·rw[M4];exact U
 ·have:j=m:=by have:=of_decide_eq_false c;omega
  subst this;refine λa l=>F t.1 t.2 eb mb s Ls a ?_ ((H.ext l).perm B1.symm);rw[Dd];exact v
end
abbrev sV:Type:=Int×Int×Int×Unit
abbrev eC:El:= .one .chan
abbrev NE (a:sV):AC:= .agg ⟨[aa a.1,aa a.2.1,aa a.2.2.1]⟩
abbrev CR:Type:=Nat×Nat×Nat
abbrev cO (c:CR) (q:List sV):Nat×BO:=(c.1,.chan 16 ⟨q.map NE⟩ false c.2.1 c.2.2 false)
abbrev n7 (cs:List CR) (bx:List (List sV)):List (Nat×BO):=List.zipWith cO cs bx
abbrev dD (cs:List CR):List (Option Nat):=cs.map λc=>some c.1
abbrev kq (sb so:Option AG×Nat×Nat):List AC:=[.slice sb.1 sb.2.1 sb.2.2,.slice so.1 so.2.1 so.2.2]
theorem Jn {cs:List CR} {bx:List (List sV)} {k:Nat} {c:CR} {q:List sV}:(n7 cs bx).set k (cO c q)=n7 (cs.set k c) (bx.set k q):=by
 unfold n7
 induction cs generalizing bx k with
 |nil=>simp
 |cons a cs d=>
  cases bx with
  |nil=>simp
  |cons b bx=>
   cases k with
   |zero=>rfl
   |succ k=>simp only[List.zipWith_cons_cons,List.set_cons_succ];rw[d]
theorem xJ {cs:List CR} {bx:List (List sV)} {k:Nat} {c:CR} {q:List sV} (h1:cs[k]? =some c) (a:bx[k]? =some q):(n7 cs bx)[k]? =some (cO c q):=by
 unfold n7;rw[List.getElem?_zipWith,h1,a]
theorem _root_.Go.Proofs.YtlcenllcmeebhaaGreat.du.sub {D G:List Nat} {w0 w:A2} {L Ls:List (Nat×List AC)} {e:El} {s:Option AG×Nat×Nat} {xs:List e.T} (h:du e s xs Ls) (H:aL D G w0 w L) (d: ∀x∈Ls,x∈L) {lo n:Nat} (j:lo+n<=xs.length):
 Go.RX.oI w (ad s.1 (lo*aD e)) (n*aD e) (flat e ((xs.drop lo).take n)):=by
 obtain⟨h1,k,⟨a1,a,f⟩|⟨bs,rest,a1,a,f⟩⟩:=h
 ·have:xs=[]:=List.eq_nil_of_length_eq_zero (by omega);subst this;rw[a1,List.drop_nil,List.take_nil];rfl
 ·rw[a1,aW,Nat.zero_add];have b:(flat e ((xs.drop lo).take n)).length=n*aD e:=by rw[aG,E4,IE,In (by omega)]
  refine bK.oI (vs:=flat e ((xs.drop lo).take n)) (H.dk _ (d _ (by rw[a];exact HB.2 rfl))) b λi hi=>?_;have g:flat e xs=flat e (xs.take lo)++(flat e ((xs.drop lo).take n)++flat e ((xs.drop lo).drop n)):=by
   rw[<-dP, <-dP,Hq,Hq]
  have c:(flat e (xs.take lo)).length=lo*aD e:=by rw[aG,E4,In (by omega)]
  rw[g,DB,Fw (by rw[c];omega),c,Nat.add_sub_cancel_left,DB,IR (by rw[b];exact hi)]
section
variable {D G:List Nat} {w0 w:A2} {L Lb Lo:List (Nat×List AC)} {M:List (Nat×BO)} {sb so:Option AG×Nat×Nat} {cs:List CR} {bx:List (List sV)} {op:List Int} {xb:Nat}
theorem Gt (H:aL D G w0 w L) (a:(xb,kq sb so)∈L) (b:sb.2.1=cs.length) (i:Int):ae AB 106 [ag (af xb),aa i] w (.bool (decide (0<=i/\i<(cs.length:Int)))):=by
 refine ae.of (s:= .el (.one .bool)) λw' h'=>ai (C:=U0) (aQ:=λ_=>[]) (AH (Us _ _ w' _) ?_);refine⟨λ_=>rfl,λ_=>rfl,aj.ky (H.ext h') a (show _=some (sb.1,sb.2.1,sb.2.2) from rfl) λw1 h1=>⟨?_,h1⟩⟩;dsimp only;rw[b,NS];simp[and_assoc]
theorem Sa (H:cw D G w0 w (Lb++L) M) (a:(xb,kq sb so)∈L) (b:du eC sb (dD cs) Lb) (e: ∀x∈n7 cs bx,x∈M) {i:Nat} {c:CR} {q:List sV} (hc:cs[i]? =some c) (f:bx[i]? =some q):
 ae AB 82 [ag (af xb),aa (i:Int)] w (aa (q.length:Int)):=by
 refine ae.of (s:= .el (.one (.int .i64))) λw' h'=>ai (C:=U0) (aQ:=λ_=>[]) (AH (Kw _ _ w' _) ?_);have H:=H.ext h';have g:sb.2.1=cs.length:=by rw[b.1,B2]
 have hi:i<cs.length:=(Bs.1 hc).1;have d:=b.sl H.base (λy h=>Ca _ h) i (some c.1) (by rw[BX,hc];rfl);refine⟨_,Gt H.base (Ae _ a) g _,an (by rw[decide_eq_true (by omega)];rfl) ⟨rfl,rfl,aj.ky H.base (Ae _ a) (show _=some (sb.1,sb.2.1,sb.2.2) from rfl) ⟨⟨d.1,by omega,by dsimp only;omega⟩,aj.of (some c.1) (by dsimp only;rw[Dd];exact d.2) ?_⟩⟩⟩;have j:=(H.obj _ (e _ (C5 (xJ hc f)))).1;exact⟨q.length,⟨c.1,16,q.map NE,c.2.1,c.2.2,rfl,j,by rw[B2]⟩,λl k=>⟨rfl,k⟩⟩
def OK (op:List Int) (a:Int):Bool:=decide (1<=a/\a<=(op.length:Int))&&op.getD (a - 1).toNat 0==0
theorem VP (H:aL D G w0 w (Lo++L)) (b:(xb,kq sb so)∈L) (d:du eI so op Lo) (i:Int) (hb:i<4611686018427387904):
 ae AB 161 [ag (af xb),aa i] w (.bool (OK op i)):=by
 refine ae.of (s:= .el (.one .bool)) λw' h'=>ai (C:=U0) (aQ:=λ_=>[]) (AH (Qa _ _ w' _) ?_);have H:=H.ext h';have g:=d.1;refine⟨λ_=>rfl,λ_=>rfl,aj.ky H (Ae _ b) (show _=some (so.1,so.2.1,so.2.2) from rfl) ⟨λ_=>rfl,λ_=>rfl,aj.ky H (Ae _ b) (show _=some (so.1,so.2.1,so.2.2) from rfl) ?_⟩⟩;dsimp only;rw[g];by_cases c:1<=i/\i<=(op.length:Int)
 ·have j:aY .i64 i 1=i - 1:=bD (by omega) (by omega);have k:op[(i - 1).toNat]? =some (op.getD (i - 1).toNat 0):=by rw[F4,DA (by omega)];rfl
  have f:=d.sl H (λy l=>Ca _ l) _ _ k;rw[j];refine⟨λ_=>⟨f.1,by omega,by omega⟩,aj.of _ f.2 λm a=>⟨?_,a⟩⟩;unfold OK;rw[decide_eq_true c,decide_eq_true c.2,decide_eq_true (show i>=1 from c.1)];rfl
 ·have e:(!(some (⟨xb,0,none⟩:AG)).isNone&&decide (i>=1)&&decide (i<=(op.length:Int)))=false:=by
   rw[J0,J0,decide_eq_false_iff_not,decide_eq_false_iff_not];by_cases q:i>=1
   ·exact .inr λr=>c ⟨q,r⟩
   ·exact .inl (.inr q)
  rw[e];refine⟨λh=>(by cases h),⟨0,λh=>(by cases h),λm a=>⟨?_,a⟩⟩⟩;unfold OK;rw[decide_eq_false c];rfl
def vK (bx:List (List sV)) (op:List Int) (i:Nat):(sV×Bool×Unit)×List (List sV)×List Int:=match bx[i]? with
 |some (a::q)=>((a,true,()),bx.set i q,op.set (a.1 - 1).toNat (op.getD (a.1 - 1).toNat 0 - 1))
 | _=>(((0,0,0,()),false,()),bx,op)
theorem Sb (H:cw D G w0 w ((xb,kq sb so)::(Lb++(Lo++L))) (n7 cs bx++M)) (J:du eC sb (dD cs) Lb) (o:du eI so op Lo) (hcb:cs.length=bx.length) (i:Nat) (hi:i<cs.length)
 (V: ∀a q,bx[i]? =some (a::q)->(1<=a.1/\a.1<=(op.length:Int))/\ -1000<=op.getD (a.1 - 1).toNat 0/\op.getD (a.1 - 1).toNat 0<=1000) (XZ:(op.length:Int)<4611686018427387904) {K:(Int×Int×Int×Unit)×Bool×Unit->A2->Prop}
 (k: ∀u d l,u.length=cs.length->dD u=dD cs->du eI so (vK bx op i).2.2 d->cw D G w0 l ((xb,kq sb so)::(Lb++(d++L))) (n7 u (vK bx op i).2.1++M)->K (vK bx op i).1 l):
 aA AB 66 (.bu [.agg [.int .i64,.int .i64,.int .i64],.one .bool]) [ag (af xb),aa (i:Int)] w K:=by
 refine λw1 h1=>aR (C:=U0) (aQ:=λ_=>[]) (AH (P9 _ _ w1 K) λl W=>?_);have H:=(H.ext h1).ext W;obtain⟨b,hb⟩: ∃b,b=l.heap.size:=⟨_,rfl⟩;have H:=H.join (L':=(b,[aa 0,aa 0,aa 0])::(xb,kq sb so)::(Lb++(Lo++L))) (w1:=l.alloc (.cells ⟨[aa 0,aa 0,aa 0]⟩ 147)) (by rw[hb];exact H.base.again.alloc _ _);rw[<-hb];have X:sb.2.1=cs.length:=by rw[J.1,B2]
 obtain⟨c,hc⟩: ∃c,cs[i]? =some c:=⟨_,DA hi⟩;obtain⟨q,p⟩: ∃q,bx[i]? =some q:=⟨_,DA (by omega)⟩;have Y: ∀{x:Nat×List AC},x∈Lb->x∈(b,[aa 0,aa 0,aa 0])::(xb,kq sb so)::(Lb++(Lo++L)):=λh=>Ap _ (Ap _ (Ca _ h));have N:=J.sl H.base (λy z=>Y z) i (some c.1) (by rw[BX,hc];rfl);refine⟨_,Gt H.base (Ap _ AT) X _,an (by rw[decide_eq_true (by omega)];rfl) ⟨rfl,rfl,aj.cv 1 H.base rfl (show _=some (sb.1,sb.2.1,sb.2.2) from rfl) ⟨⟨N.1,by omega,by dsimp only;omega⟩,aj.of (some c.1) (by dsimp only;rw[Dd];exact N.2) λw3 Z=>?_⟩⟩⟩;have H:=H.ext Z;have A:=xJ hc p;have O:(n7 cs bx++M)[i]? =some (cO c q):=by rw[IR (Bs.1 A).1];exact A
 refine⟨c.1,16,q.map NE,c.2.1,c.2.2,rfl,H.get O,λB=>?_,λv vs P=>?_⟩
 ·have B:q=[]:=List.map_eq_nil_iff.1 B;subst B;have e:vK bx op i=(((0,0,0,()),false,()),bx,op):=by unfold vK;rw[p]
  rw[e] at k;intro m E;have H:=H.ext E;have key:=az.all 0 H.base.again rfl (vs:=[aa 0,aa 0,aa 0]) rfl rfl (K:=λf=>cw D G w0 f ((b,[aa 0,aa 0,aa 0])::(xb,kq sb so)::(Lb++(Lo++L))) (n7 cs bx++M)) (λf n=>H.join n) m (Ext.refl m);exact⟨key.1,λr s=>aj.at 0 (key.2.ext s).base rfl (show _=some (0,0,0,()) from rfl) (k cs Lo r rfl rfl o ((key.2.ext s).sub (B4 _ _)))⟩
 ·cases q with
  |nil=>cases P
  |cons a q=>
   obtain⟨rfl,rfl⟩:=List.cons.inj P;obtain⟨⟨o1,o2⟩,o3,o4⟩:=V a q p;have e:vK bx op i=((a,true,()),bx.set i q,op.set (a.1 - 1).toNat (op.getD (a.1 - 1).toNat 0 - 1)):=by unfold vK;rw[p]
   rw[e] at k;refine⟨(a.1,a.2.1,a.2.2.1,()),rfl,λm E=>?_⟩;have H:=H.put O (o':= .chan 16 ⟨q.map NE⟩ false c.2.1 (c.2.2+1) false) trivial;have ez:(n7 cs bx++M).set i (c.1,.chan 16 ⟨q.map NE⟩ false c.2.1 (c.2.2+1) false)=n7 (cs.set i (c.1,c.2.1,c.2.2+1)) (bx.set i q)++M:=by
    rw[M5 _ _ (Bs.1 A).1];congr 1;exact Jn (c:=(c.1,c.2.1,c.2.2+1))
   rw[ez] at H;have H:=H.ext E;obtain⟨g,Q⟩: ∃g,g=m.heap.size:=⟨_,rfl⟩;have H:=H.join (L':=(g,[aa 0,aa 0,aa 0])::(b,[aa 0,aa 0,aa 0])::(xb,kq sb so)::(Lb++(Lo++L))) (w1:=m.alloc (.cells ⟨[aa 0,aa 0,aa 0]⟩ 147)) (by rw[Q];exact H.base.again.alloc _ _);rw[<-Q];intro r s;have H:=H.ext s;have key:=az.all 0 H.base.again rfl (vs:=[aa a.1,aa a.2.1,aa a.2.2.1]) rfl rfl (K:=λf=>cw D G w0 f ((g,[aa a.1,aa a.2.1,aa a.2.2.1])::(b,[aa 0,aa 0,aa 0])::(xb,kq sb so)::(Lb++(Lo++L))) (n7 (cs.set i (c.1,c.2.1,c.2.2+1)) (bx.set i q)++M)) (λf n=>H.join n) r (Ext.refl r);refine⟨key.1,?_⟩;have H:=key.2;have e1:aY .i64 a.1 1=a.1 - 1:=bD (by omega) (by omega);have hx:op[(a.1 - 1).toNat]? =some (op.getD (a.1 - 1).toNat 0):=by rw[F4,DA (by omega)];rfl
   have acJ:=o.1;have F:=o.sl H.base (λy z=>Ap _ (Ap _ (Ap _ (Ae _ (Ca _ z))))) _ _ hx;refine⟨rfl,rfl,aj.cv 2 H.base rfl (show _=some (so.1,so.2.1,so.2.2) from rfl) ⟨rfl,aj.cv 0 H.base rfl (show _=some a.1 from rfl) ?_⟩⟩;dsimp only;rw[e1];refine⟨⟨F.1,by omega,by omega⟩,aj.of _ F.2 ⟨⟨F.1,by omega,by omega⟩,?_⟩⟩;rw[bD (by omega) (by omega)];have Hp:cw D G w0 _ (Lo++((g,[aa a.1,aa a.2.1,aa a.2.2.1])::(b,[aa 0,aa 0,aa 0])::(xb,kq sb so)::(Lb++L))) (n7 (cs.set i (c.1,c.2.1,c.2.2+1)) (bx.set i q)++M):=H.perm (by
    have I:(Lo++(Lb++L)).Perm (Lb++(Lo++L)):=by rw[<-DB, <-DB];exact Gi _ Dr
    exact B1.trans (DE _ (B1.trans (DE _ (B1.trans (DE _ I))))))
   refine stM Hp o (i:=(a.1 - 1).toNat) (by omega) (op.getD (a.1 - 1).toNat 0 - 1) rfl rfl λd w6 xR t=>?_;have t:=t.perm (L':=(g,[aa a.1,aa a.2.1,aa a.2.2.1])::(b,[aa 0,aa 0,aa 0])::(xb,kq sb so)::(Lb++(d++L))) (by
    have I:(Lb++(d++L)).Perm (d++(Lb++L)):=by rw[<-DB, <-DB];exact Gi _ Dr
    refine List.Perm.symm ?_;exact B1.trans (DE _ (B1.trans (DE _ (B1.trans (DE _ I.symm)))))
    )
   refine aj.at 0 t.base rfl (show _=some (a.1,a.2.1,a.2.2.1,()) from rfl) λR h7=>?_;have S:=t.ext h7;have key:=az.all 1 S.base.again rfl (vs:=[aa a.1,aa a.2.1,aa a.2.2.1]) rfl rfl (K:=λf=>cw D G w0 f ((g,[aa a.1,aa a.2.1,aa a.2.2.1])::(b,[aa a.1,aa a.2.1,aa a.2.2.1])::(xb,kq sb so)::(Lb++(d++L))) (n7 (cs.set i (c.1,c.2.1,c.2.2+1)) (bx.set i q)++M)) (λf n=>S.join n) R (Ext.refl R);refine⟨key.1,λw8 T=>aj.at 1 (key.2.ext T).base rfl (show _=some (a.1,a.2.1,a.2.2.1,()) from rfl) (k (cs.set i (c.1,c.2.1,c.2.2+1)) d w8 (Cd ..) ?_ xR ((key.2.ext T).sub ((B4 _ _).trans (B4 _ _))))⟩;refine GJ λj=>?_;rw[BX,BX];by_cases U:i=j
   ·subst U;rw[DH hi,hc];rfl
   ·rw[DN U]
end
section
variable {D G:List Nat} {w0 w:A2} {L:List (Nat×List AC)} {M:List (Nat×BO)}
theorem alM (H:cw D G w0 w L M) {cs:List AC} {e:TypeId} {K:Nat->A2->Prop} (k: ∀b w1,cw D G w0 w1 ((b,cs)::L) M->K b w1):aN w ⟨cs⟩ e K:=λw1 h1=>
 k _ _ ((H.ext h1).join ((H.ext h1).base.again.alloc cs e))
theorem WC (H:cw D G w0 w L M) (i:Nat) {b n:Nat} {l:List AC} {x:AC} {K:A2->Prop} (a:L[i]? =some (b,l)) (c:x.oneCell'=true) (e:Nat.blt n l.length=true) (k: ∀w1,cw D G w0 w1 (L.set i (b,l.set n x)) M->K w1):az w (ad (af b) n) [x] K:=λw1 h1=>
 az.e8 i (H.ext h1).base.again a c (by grind) (λd f=>k d ((H.ext h1).join (by grind))) w1 (Ext.refl w1)
theorem stB (H:cw D G w0 w L M) (i:Nat) {b:Nat} {l vs:List AC} {K:A2->Prop} (a:L[i]? =some (b,l)) (c:vs.all (·.oneCell')=true) (d:vs.length=l.length) (k: ∀w1,cw D G w0 w1 (L.set i (b,vs)) M->K w1):az w (af b) vs K:=λw1 h1=>
 az.all i (H.ext h1).base.again a c d (λe f=>k e ((H.ext h1).join f)) w1 (Ext.refl w1)
theorem enM (H:cw D G w0 w L M) {K:A2->Prop} (k: ∀w1,cw D G w0 w1 L M->K w1):au w K:=λ_ h=>k _ (H.ext h)
end
section
variable {D G:List Nat} {w0 w:A2} {L Lb Lo:List (Nat×List AC)} {M:List (Nat×BO)} {sb so:Option AG×Nat×Nat} {cs:List CR} {bx:List (List sV)} {op:List Int} {xb:Nat}
theorem xK {α:Type} (A B C:List α):(A++(B++C)).Perm (B++(A++C)):=by
 grind[Gi,Dr]
theorem HG (H:cw D G w0 w (Lb++L) M) (v:(xb,kq sb so)∈L) (f:du eC sb (dD cs) Lb) (i:Nat) (hi:i<cs.length) (U:cs.length<=8) {K:Option AG×Nat×Nat->A2->Prop}
 (k: ∀r g b,du eC r ((dD cs).eraseIdx i) g->cw D G w0 b (g++(Lb++L)) M->K r b):
 aA AB 202 (.el (.one .slice)) [ag (af xb),aa (i:Int)] w K:=by
 refine λw1 h1=>ai (C:=U0) (aQ:=λ_=>[]) (AH (G6 _ _ w1 K) ?_);have H:=H.ext h1;obtain⟨p,n,c⟩:=sb;have V:n=(dD cs).length:=f.1;have W:(dD cs).length=cs.length:=B2 _;have hc:(dD cs).length<=c:=f.2.1;have l:aJ .i64 (i:Int) 1=((i+1:Nat):Int):=by rw[ax (by omega) (by omega)];omega
 have m:(xb,kq (p,n,c) so)∈Lb++L:=Ae _ v;refine⟨rfl,rfl,aj.ky H.base m (show _=some (p,n,c) from rfl) ⟨?_,λb A=>?_⟩⟩
 ·dsimp only;omega
 have H:=H.ext A;dsimp only;have X:(Decidable.rec (λ_=>ad p 0) (λ_=>p) (instDecidableEqNat ((c:Int)).toNat 0:Decidable (((c:Int)).toNat=((0:Nat):Int).toNat)):Option AG)=p:=Gc (show((c:Int)).toNat≠0 by omega)▸by
  rcases p with _|a
  ·rfl
  ·rfl
 have Y:((i:Int)).toNat - 0=i:=by omega
 have B:Go.RX.oI b p (i*aD eC) (flat eC ((dD cs).take i)):=by
  have:=f.sub H.base (λy h=>Ca _ h) (lo:=0) (n:=i) (by omega);rw[Nat.zero_mul,List.drop_zero] at this;rcases p with _|a
  ·exact this
  ·have e:ad (some a) 0=some a:=by show some (a.add 0)=some a;rfl
   rw[e] at this;exact this
 have key:=Fu (Ls:=[]) H (du.nil eC) (show gT eC=true from rfl) (q:=(p,i,(c:Int).toNat - 0)) (ys:=(dD cs).take i) (by rw[E4,In (by omega)]) B (t:=202) (size:=1) (bytes:=8) (z:=⟨[Value.chan none]⟩) rfl rfl (by rw[K1,E4];omega)
  (R:=λr b=>(some (⟨xb,0,none⟩:AG)).isSome=true/\(some (⟨xb,0,none⟩:AG)).isSome=true/\aj b none (ad (af xb) 0) (.one .slice) λx=>(0<=aJ .i64 (i:Int) 1/\aJ .i64 (i:Int) 1<=((x.2.1:Nat):Int)/\((x.2.1:Nat):Int)<=((x.2.2:Nat):Int)/\((x.2.2:Nat):Int)<=((x.2.2:Nat):Int))/\ ∀w1,Ext b w1->
   mz w1 202 1 8 ⟨[Value.chan none]⟩ (r.1,r.2.1,r.2.2) (Decidable.rec (λ_=>ad x.1 ((aJ .i64 (i:Int) 1).toNat*1)) (λ_=>x.1) (instDecidableEqNat ((x.2.2:Nat):Int).toNat (aJ .i64 (i:Int) 1).toNat),((x.2.1:Nat):Int).toNat - (aJ .i64 (i:Int) 1).toNat,((x.2.2:Nat):Int).toNat - (aJ .i64 (i:Int) 1).toNat) λr b=>au b λw1=>K (r.1,r.2.1,r.2.2) w1) λr g Z E o=>?_
 grind
 ·refine⟨rfl,rfl,aj.ky o.base (Ae _ m) (show _=some (p,n,c) from rfl) ⟨?_,λF I=>?_⟩⟩
  ·rw[l];dsimp only;omega
  have s:=o.ext I;rw[l];dsimp only;have J:Go.RX.oI F (if((c:Int)).toNat=((i+1:Nat):Int).toNat then p else ad p (((i+1:Nat):Int).toNat*1)) ((((n:Nat):Int).toNat - ((i+1:Nat):Int).toNat)*aD eC) (flat eC ((dD cs).drop (i+1))):=by
   by_cases d:c=i+1
   ·have:(dD cs).drop (i+1)=[]:=List.drop_eq_nil_of_le (by omega);rw[this,av (by omega),show((((n:Nat):Int).toNat - ((i+1:Nat):Int).toNat))=0 by omega];rcases p with _|a
    ·rfl
    ·exact⟨rfl,λj N=>by simp at N⟩
   ·rw[ao (by omega)];have:=f.sub s.base (λy h=>Ae _ (Ca _ h)) (lo:=i+1) (n:=(dD cs).length - (i+1)) (by omega);rw[List.take_of_length_le (by rw[IE];exact Db _)] at this;rw[show((((n:Nat):Int).toNat - ((i+1:Nat):Int).toNat))=(dD cs).length - (i+1) by omega];exact this
  have O:(Decidable.rec (λ_=>ad p (((i+1:Nat):Int).toNat*1)) (λ_=>p) (instDecidableEqNat ((c:Int)).toNat ((i+1:Nat):Int).toNat):Option AG)=if((c:Int)).toNat=((i+1:Nat):Int).toNat then p else ad p (((i+1:Nat):Int).toNat*1):=by
   by_cases d:((c:Int)).toNat=((i+1:Nat):Int).toNat
   ·rw[av d,O5 d]
   ·rw[ao d,Gc d]
  rw[O];refine Fu s E rfl (ys:=(dD cs).drop (i+1)) (by grind) J rfl rfl (by
   rw[N7,E4,IE];omega) λr2 P w5 u Q=>λS T=>k _ P S ?_ (Q.ext T)
  rw[JS];rw[N7] at u;exact u
def vB (i j:Nat):Nat:=if j<i then j else j+1
def Tp (i k:Nat):Nat:=if k<i then k else k - 1
def lu (bx:List (List sV)) (i j:Nat) (a:sV):List (List sV):=bx.zipIdx.map λ(q,k)=>if k≠i/\Tp i k<j then q++[a] else q
theorem qs {bx:List (List sV)} {i j k:Nat} {a:sV} {q:List sV} (h:bx[k]? =some q):(lu bx i j a)[k]? =some (if k≠i/\Tp i k<j then q++[a] else q):=by grind[lu]
theorem HJ {bx:List (List sV)} {i j:Nat} {a:sV} {q:List sV} (h:bx[vB i j]? =some q):(lu bx i j a).set (vB i j) (q++[a])=lu bx i (j+1) a:=by
 have c:vB i j≠i/\Tp i (vB i j)=j:=by unfold vB Tp;grind
 refine GJ λk=>?_;by_cases e:vB i j=k
 ·subst e;rw[DH (by grind[lu,B2,N8]),qs h,av (by grind)]
 ·rw[DN e];cases b:bx[k]? with
  |none=>
   grind[lu,B2,N8]
  |some d=>
   rw[qs b,qs b];have:(k≠i/\Tp i k<j)<->(k≠i/\Tp i k<j+1):=by
    grind[Tp,vB]
   grind
def vL (bx:List (List sV)) (op:List Int) (n:Nat) (t p:Int):Int×List (List sV)×List Int:=
 if t<1\/t>16\/p< -1\/p>=65536 then(0,bx,op)
 else if(bx.eraseIdx n).any (λq=>q.length==16)=true then(0,bx,op)
 else((op.length:Int)+1,(bx.zipIdx.map λ(q,i)=>if i=n then q else q++[((op.length:Int)+1,t,p,())]),op++[(bx.length:Int) - 1])
theorem Mx {bx:List (List sV)} {i:Nat} (hi:i<bx.length) (a:sV):lu bx i (bx.length - 1) a=bx.zipIdx.map λ(q,k)=>if k=i then q else q++[a]:=by
 refine List.map_congr_left λx b=>?_;obtain⟨q,k⟩:=x;dsimp;by_cases e:k=i
 grind
 ·rw[ao e,av (by grind[Tp])]
theorem HK (bx:List (List sV)) (i:Nat) (a:sV):lu bx i 0 a=bx:=by
 simp[lu]
theorem Cr {α:Type} (l:List α) (i j:Nat):(l.eraseIdx i)[j]? =l[vB i j]? :=by grind[vB]
theorem Se (H:cw D G w0 w ((xb,kq sb so)::(Lb++(Lo++L))) (n7 cs bx++M)) (hs:du eC sb (dD cs) Lb) (J:du eI so op Lo) (hcb:cs.length=bx.length) (i:Nat) (hi:i<cs.length) (hl:cs.length<=8) (XZ:(op.length:Int)<=1000000000) (X2: ∀q∈bx,q.length<=16) (t g:Int) {K:Int×Int×Unit->A2->Prop}
 (k: ∀e f o h z,f.length=cs.length->dD f=dD cs->du eI o (vL bx op i t g).2.2 h->cw D G w0 z ((xb,kq sb o)::(Lb++(h++L))) (n7 f (vL bx op i t g).2.1++M)->K ((vL bx op i t g).1,e,()) z):
 aA AB 157 (.bu [.one (.int .i64),.one (.int .i64)]) [ag (af xb),aa (i:Int),aa t,aa g] w K:=by
 refine λw1 h1=>ai (C:=U0) (aQ:=uf) (AH (P_ _ _ t g w1 K) ?_);have H:=H.ext h1;have hn:sb.2.1=cs.length:=by rw[hs.1,B2]
 refine⟨λ_=>rfl,λ_=>rfl,aj.cv 0 H.base rfl (show _=some (sb.1,sb.2.1,sb.2.2) from rfl) ?_⟩;dsimp only;rw[hn];refine an (by rw[show((cs.length:Int)==0)=false by rw[beq_eq_false_iff_ne];omega];rfl) ⟨_,Gt H.base AT hn _,an (by rw[decide_eq_true (by omega)];rfl) ?_⟩;by_cases N:t<1\/t>16\/g< -1\/g>=65536
 ·refine aB ?_ (enM H λz H=>?_)
  ·simp only[NO,decide_eq_true_eq];omega
  ·have e:vL bx op i t g=(0,bx,op):=av N;rw[e] at k;exact k 1 cs so Lo z rfl rfl J H
 refine an ?_ ?_
 ·simp only[Dn,decide_eq_false_iff_not];omega
 have Hp:cw D G w0 w1 (Lb++((xb,kq sb so)::(Lo++L))) (n7 cs bx++M):=H.perm B1;refine HG Hp AT hs i hi hl λr l z O H=>?_;have hrn:r.2.1=cs.length - 1:=by rw[O.1,Ij,B2,av hi]
 have hxm:(xb,kq sb so)∈l++(Lb++((xb,kq sb so)::(Lo++L))):=Ae _ (Ae _ AT);have aau: ∀j,j<cs.length - 1-> ∃c q,cs[vB i j]? =some c/\bx[vB i j]? =some q/\((dD cs).eraseIdx i)[j]? =some (some c.1):=λj p=>by
  have h2:vB i j<cs.length:=by unfold vB;split<;>omega
  obtain⟨c,hc⟩: ∃c,cs[vB i j]? =some c:=⟨_,DA h2⟩;obtain⟨q,m⟩: ∃q,bx[vB i j]? =some q:=⟨_,DA (by omega)⟩;exact⟨c,q,hc,m,by rw[Cr,BX,hc];rfl⟩
 refine⟨λn st u=> ∃j:Nat,j<=cs.length - 1/\n=cs.length - 1 - j/\st.1=(j:Int)/\(∀s q,s<j->(bx.eraseIdx i)[s]? =some q->q.length≠16)/\cw D G w0 u (l++(Lb++((xb,kq sb so)::(Lo++L)))) (n7 cs bx++M),⟨cs.length - 1,λu h3=>⟨0,FQ _,rfl,rfl,λs q p=>absurd p (NL _),H.ext h3⟩⟩,?_⟩;clear H Hp;rintro n ⟨P, _⟩ u ⟨j,p,Q,v,R,H⟩;have v:P=(j:Int):=v;subst v Q;dsimp only;rw[hrn];refine ab (λc=>?_) (λc=>?_)
 ·have p:j<cs.length - 1:=by have:=of_decide_eq_true c;omega
  obtain⟨c,q,hc,m,S⟩:=aau j p;have E:=O.sl H.base (λy T=>Ca _ T) j _ S;have uF:=(H.obj _ (Ca _ (C5 (xJ hc m)))).1;refine⟨⟨E.1,by omega,by omega⟩,aj.of (some c.1) (by rw[Dd];exact E.2) ⟨q.length,⟨c.1,16,q.map NE,c.2.1,c.2.2,rfl,uF,by rw[B2]⟩,?_⟩⟩;refine ab (λF=>enM H λU H=>?_) (λF U h4=>⟨cs.length - 1 - (j+1),by omega,j+1,by omega,rfl,?_,λs q' V W=>?_,H.ext h4⟩)
  ·have F:q.length=16:=by have:(q.length:Int)=16:=(by simpa using F);omega
   have e:vL bx op i t g=(0,bx,op):=by
    unfold vL;rw[ao N,av (GS.2 ⟨q,C5 (show(bx.eraseIdx i)[j]? =some q by rw[Cr];exact m),by simp[F]⟩)]
   rw[e] at k;refine k 3 cs so Lo U rfl rfl J ((H.sub (Fx _ _)).perm B1.symm)
  ·rw[ax (by omega) (by omega)];omega
  ·by_cases e:s=j
   ·subst e;rw[Cr,m] at W;cases W;have: ¬ (q.length:Int)=16:=by simpa using F
    omega
   ·exact R s q' (by omega) W
 have X:j=cs.length - 1:=by have:=of_decide_eq_false c;omega
 subst X;have wJ: ¬ (bx.eraseIdx i).any (λq=>q.length==16)=true:=λc=>by
  obtain⟨q,m,WE⟩:=GS.1 c;obtain⟨s,V⟩:=B3 m;have z4:s<(bx.eraseIdx i).length:=(Bs.1 V).1;rw[Ij,av (by omega)] at z4;exact R s q (by omega) V (by simpa using WE)
 have ep:vL bx op i t g=((op.length:Int)+1,lu bx i (bx.length - 1) ((op.length:Int)+1,t,g,()),op++[(bx.length:Int) - 1]):=by
  unfold vL;rw[ao N,ao wJ,Mx (by omega)]
 rw[ep] at k;refine⟨rfl,rfl,aj.ky H.base hxm (show _=some (so.1,so.2.1,so.2.2) from rfl) (alM H λb U H w5 h5=>?_)⟩;have H:=H.ext h5;have Y:cw D G w0 w5 (Lo++((b,[aa ((cs.length - 1:Nat):Int)])::(l++(Lb++((xb,kq sb so)::L))))) (n7 cs bx++M):=H.perm (by
  refine B1.trans (DE _ ?_);have p1:(Lo++(l++(Lb++((xb,kq sb so)::L)))).Perm (l++(Lo++(Lb++((xb,kq sb so)::L)))):=xK _ _ _;refine p1.trans (Im _ ?_);have p2:(Lo++(Lb++((xb,kq sb so)::L))).Perm (Lb++(Lo++((xb,kq sb so)::L))):=xK _ _ _;exact p2.trans (Im _ B1))
 refine Fu Y J rfl (q:=(some ⟨b,0,none⟩,1,1)) (ys:=[((cs.length - 1:Nat):Int)]) rfl (rR (e:=eI) (x:=((cs.length - 1:Nat):Int)) (Y.base.dk _ (Ae _ AT))) rfl rfl (by simp only[GH];omega) λo h w6 Z H=>?_;have aca:op++[((cs.length - 1:Nat):Int)]=op++[(bx.length:Int) - 1]:=by rw[show((cs.length - 1:Nat):Int)=(bx.length:Int) - 1 by omega]
 rw[aca] at Z;have H:=(H.sub (FR (B4 _ _) h)).perm (L':=(xb,kq sb so)::(l++(Lb++(h++L)))) (by
  have p2:(l++(Lb++(h++L))).Perm (h++(l++(Lb++L))):=by
   have a1:(Lb++(h++L)).Perm (h++(Lb++L)):=xK _ _ _;have a2:(l++(h++(Lb++L))).Perm (h++(l++(Lb++L))):=xK _ _ _;exact(Im _ a1).trans a2
  refine(DE _ p2).trans ?_;have a3: ∀(A B C:List (Nat×List AC)) (x:Nat×List AC),(x::(A++(B++(C++L)))).Perm (A++(B++(C++(x::L)))):=λA B C x=>by
   rw[<-DB, <-DB, <-DB, <-DB];exact B1.symm
  exact a3 _ _ _ _)
 refine⟨rfl,rfl,WC H 0 rfl rfl rfl λw7 H=>⟨rfl,rfl,aj.cv 0 H.base rfl (show _=some (o.1,o.2.1,o.2.2) from rfl) ?_⟩⟩;have H:cw D G w0 w7 ((xb,kq sb o)::(l++(Lb++(h++L)))) (n7 cs bx++M):=H;have aac:(o.2.1:Int)=(op.length:Int)+1:=by
  have:=Z.1;rw[G1,GH] at this;omega
 dsimp only;rw[aac];obtain⟨a,ha⟩: ∃a:sV,a=((op.length:Int)+1,t,g,()):=⟨_,rfl⟩;rw[<-ha] at k;refine⟨λn st u=> ∃(j:Nat) (f:List CR),j<=cs.length - 1/\n=cs.length - 1 - j/\st.1=(j:Int)/\f.length=cs.length/\dD f=dD cs/\cw D G w0 u ((xb,kq sb o)::(l++(Lb++(h++L)))) (n7 f (lu bx i j a)++M),⟨cs.length - 1,λw8 h8=>⟨0,cs,FQ _,rfl,rfl,rfl,rfl,by rw[HK];exact H.ext h8⟩⟩,?_⟩;clear H Y;rintro n ⟨P, _⟩ w8 ⟨j,f,p,Q,v,Da,BN,H⟩;have v:P=(j:Int):=v;subst v Q;dsimp only;refine ab (λc=>?_) (λc=>?_)
 ·have p:j<cs.length - 1:=by have:=of_decide_eq_true c;omega
  obtain⟨c,q,hc,m,S⟩:=aau j p;have E:=O.sl H.base (λy T=>Ap _ (Ca _ T)) j _ S;refine⟨⟨E.1,by omega,by omega⟩,aj.of (some c.1) (by rw[Dd];exact E.2) λw9 h9=>?_⟩;have H:=H.ext h9;obtain⟨d,I⟩: ∃d,f[vB i j]? =some d:=⟨_,DA (by rw[Da];exact(Bs.1 hc).1)⟩;have WG:d.1=c.1:=by
   have h1:(dD f)[vB i j]? =some (some d.1):=by rw[BX,I];rfl
   rw[BN,BX,hc] at h1;exact(Option.some.inj (Option.some.inj h1)).symm
  have cY:vB i j≠i/\Tp i (vB i j)=j:=by unfold vB Tp;split<;>(first|omega|(constructor<;>(try split)<;>omega))
  have hsq:(lu bx i j a)[vB i j]? =some q:=by rw[qs m,ao λc=>by rw[cY.2] at c;exact Nat.lt_irrefl _ c.2]
  have hz:=xJ I hsq;have hmz:(n7 f (lu bx i j a)++M)[vB i j]? =some (cO d q):=by rw[IR (Bs.1 hz).1];exact hz
  have WE:q.length≠16:=R j q p (by rw[Cr];exact m);have acK:=X2 q (C5 m);refine⟨d.1,16,q.map NE,d.2.1,d.2.2,by rw[WG],H.get hmz,by rw[B2];omega,?_⟩;have H:=H.put hmz (o':= .chan 16 ⟨(q++[a]).map NE⟩ false (d.2.1+1) d.2.2 false) trivial;have ez:(n7 f (lu bx i j a)++M).set (vB i j) (d.1,.chan 16 ⟨(q++[a]).map NE⟩ false (d.2.1+1) d.2.2 false)=n7 (f.set (vB i j) (d.1,d.2.1+1,d.2.2)) (lu bx i (j+1) a)++M:=by
   rw[M5 _ _ (Bs.1 hz).1, <-HJ m];congr 1;exact Jn (c:=(d.1,d.2.1+1,d.2.2))
  rw[ez] at H;have ev:(q.map NE).append [Value.agg ⟨[aa ((op.length:Int)+1),aa t,aa g]⟩]=(q++[a]).map NE:=by
   rw[Do,ha];rfl
  show∀u,Ext (w9.putObj d.1 (.chan 16 ⟨(q.map NE).append _⟩ false (d.2.1+1) d.2.2 false)) u-> _;rw[ev];refine λn5 Ih=>⟨cs.length - 1 - (j+1),by omega,j+1,f.set (vB i j) (d.1,d.2.1+1,d.2.2),by omega,rfl,?_,by rw[Cd];exact Da,?_,H.ext Ih⟩
  ·rw[ax (by omega) (by omega)];omega
  ·rw[<-BN];refine GJ λy=>?_;rw[BX,BX];by_cases ej:vB i j=y
   ·subst ej;rw[DH (Bs.1 I).1,I];rfl
   ·rw[DN ej]
 ·have X:j=cs.length - 1:=by have:=of_decide_eq_false c;omega
  subst X;refine enM H λw9 H=>k 0 f o h w9 Da BN Z ?_;rw[<-hcb];exact H.sub (List.Sublist.cons_cons _ (Fx _ _))
theorem VQ (H:cw D G w0 w L M) (n:Int) {K:Option AG×Int×Unit->A2->Prop} (kb:n<1\/n>8-> ∀w1,cw D G w0 w1 L M->K (none,1,()) w1)
 (t:1<=n->n<=8-> ∀xb cs sb Lb w1,cs.length=n.toNat->du eC sb (dD cs) Lb->cw D G w0 w1 ((xb,kq sb (none,0,0))::(Lb++L)) (n7 cs (Aq n.toNat [])++M)->K (some ⟨xb,0,none⟩,0,()) w1):
 aA AB 85 (.bu [.one .ptr,.one (.int .i64)]) [aa n] w K:=by
 refine λw1 h1=>ai (C:=U0) (aQ:=vW) (AH (Ut n w1 K) ?_);have H:=H.ext h1;refine ab (λc=>λk u=>kb (by simpa using c) k (H.ext u)) (λc=>alM H λxb k H=>?_);have l:1<=n/\n<=8:=by
  grind
 obtain⟨m,rfl⟩: ∃m:Nat,n=(m:Int):=⟨n.toNat,by omega⟩;refine⟨λn st d=> ∃(j:Nat) (cs:List CR) (s:Option AG×Nat×Nat) (Ls:List (Nat×List AC)),j<=m/\n=m - j/\st.1=(j:Int)/\cs.length=j/\du eC s (dD cs) Ls/\cw D G w0 d (Ls++((xb,kq s (none,0,0))::L)) (n7 cs (Aq j [])++M),⟨m,λd v=>⟨0,[],(none,0,0),[],FQ _,rfl,rfl,rfl,du.nil eC,H.ext v⟩⟩,?_⟩;clear H;rintro n ⟨i, _⟩ d ⟨j,cs,s,Ls,y,z,hi,f,p,H⟩;have hi:i=(j:Int):=hi;subst hi z;dsimp only;have A:(xb,kq s (none,0,0))∈Ls++((xb,kq s (none,0,0))::L):=Ae _ AT;refine ab (λc=>?_) (λc=>?_)
 ·have y:j<m:=by have:=of_decide_eq_true c;omega
  refine⟨rfl,rfl,aj.ky H.base A (show _=some (s.1,s.2.1,s.2.2) from rfl) λg h=>?_⟩;have H:=(H.ext h).alloc (o:= .chan 16 #[] false 0 0 false) trivial;obtain⟨c1,B⟩: ∃c1,c1=g.heap.size:=⟨_,rfl⟩;rw[<-B] at H ⊢;refine alM H λb J H N E=>?_;have H:=(H.ext E).perm (L':=Ls++((b,[.chan (some c1)])::(xb,kq s (none,0,0))::L)) B1;refine Fu H p rfl (q:=(some ⟨b,0,none⟩,1,1)) (ys:=[some c1]) rfl (rR (e:=eC) (x:=some c1) (H.base.dk _ (Ae _ AT))) rfl rfl (by grind) λr a O P H=>⟨rfl,rfl,?_⟩;have H:=(H.sub (FR (B4 _ _) a)).perm (L':=(xb,kq s (none,0,0))::(a++L)) B1.symm;refine WC H 0 rfl rfl rfl λQ H R F=>⟨m - (j+1),by omega,j+1,cs++[(c1,0,0)],r,a,by omega,rfl,?_,by rw[G1,f];rfl,?_,?_⟩
  ·rw[ax (by omega) (by omega)];omega
  grind
  ·have I:n7 (cs++[(c1,0,0)]) (Aq (j+1) [])=n7 cs (Aq j [])++[cO (c1,0,0) []]:=by
    unfold n7;rw[M4,List.zipWith_append (by rw[f,DQ])];rfl
   rw[I,DB];refine((H.ext F).perm (L':=a++((xb,kq r (none,0,0))::L)) B1).lf ?_;exact B1
 ·have:j=m:=by have:=of_decide_eq_false c;omega
  subst this;refine λg h=>t l.1 l.2 xb cs s Ls g (by rw[Dd];exact f) p ?_;rw[Dd];exact(H.ext h).perm B1.symm
end
end Go.Proofs.YtlcenllcmeebhaaGreat.Mu
namespace Go.Proofs.YtlcenllcmeebhaaGreat
set_option maxRecDepth 100000
open Go.RX D
def mN (g:Nat->Option GV):Option Nat:=((AF 16).find? λi=>(g (i+1)).isNone).map (· +1)
theorem nR {g:Nat->Option GV} {v:Nat}:mN g=some v<->(1<=v/\v<=16)/\g v=none/\ ∀u,1<=u->u<v->(g u).isSome:=by
 unfold mN;rw[O2];constructor
 ·rintro⟨i,hi,rfl⟩;rw[NA] at hi;obtain⟨h1,a,b⟩:=hi;rw[Cc] at a;refine⟨by omega,by simpa using h1,λu c d=>?_⟩;have:=b (u - 1) (by omega);rw[show u - 1+1=u by omega] at this;simpa using this
 ·rintro⟨h1,a,b⟩;refine⟨v - 1,?_,by omega⟩;rw[NA];refine⟨by rw[show v - 1+1=v by omega,a];rfl,Cc.2 (by omega),λj e=>?_⟩;have:=b (j+1) (by omega) (by omega);simpa using this
theorem HL {g:Nat->Option GV}:mN g=none<-> ∀u,1<=u->u<=16->(g u).isSome:=by
 unfold mN;rw[OX,Hb];constructor
 ·intro h u b c;have:=h (u - 1) (Cc.2 (by omega));rw[show u - 1+1=u by omega] at this;cases a:g u with
  |none=>rw[a] at this;exact absurd rfl this
  |some x=>rfl
 ·intro h i hi e;have:=h (i+1) (by omega) (by have:=Cc.1 hi;omega);rw[Option.isNone_iff_eq_none.1 e] at this;cases this
def o7 (h:HS):Int:=match mN h.g with
 |none=>3
 |some v=>rz h.s (v:Int)
def AS (h:HS):Int:=match mN h.g with
 |none=>0
 |some v=>(v:Int)
def gP (h:HS):HS:=match mN h.g with
 |none=>h
 |some v=>if rz h.s (v:Int)=0 then{h with s:=iF h.s (v:Int) λ_=>0,g:=bj h.g v (some ⟨dX h.s (v:Int),[]⟩)} else h
theorem nS (A:Nat->GA) (g:Nat->Option GV):(mw A g).length=17:=by
 unfold mw;rw[B2,NF]
theorem Jo (Q:Sys) (X:HX) (A:Nat->GA) (g:Nat->Option GV):(fj Q X A g).length=21:=by
 unfold fj;rw[G1,nS];rfl
theorem Jp {Q:Sys} {X:HX} {A A':Nat->GA} {g g':Nat->Option GV} {v:Nat} (hv:v<17) (h: ∀j,j≠v->A' j=A j/\g' j=g j):(fj Q X A g).set (4+v*1) (ag (kz A' g' v))=fj Q X A' g':=by
 have e:(mw A g).set v (ag (kz A' g' v))=mw A' g':=by
  apply GJ;intro i;by_cases hi:i<17
  ·rw[vk hi];by_cases e:v=i
   ·subst e;rw[DH (by rw[nS];exact hi)]
   ·rw[DN e,vk hi];obtain⟨h1,a⟩:=h i (λe'=>e e'.symm);unfold kz;rw[h1,a]
  ·rw[NI (by rw[Cd,nS];omega),NI (by rw[nS];omega)]
 unfold fj;rw[Hr _ _ (by show 4<=4+v*1;omega)];rw[<-e];show _++(mw A g).set (4+v*1 - 4) _= _;rw[show 4+v*1 - 4=v by omega]
section
variable {Q:Sys} {X:HX} {D G:List Nat} {w0 w:A2} {h:HS} {L:List (Nat×List AC)} {K:RS->A2->Prop}
theorem abu {A:Nat->GA} (W:Dm A h) {v:Nat} (hv:1<=v/\v<=16) (f:h.g v=none) {s':WD} {r:Int} {bg bt bm l m:Nat} {n la:List AC} {j:A2}
 (H:SM Q D G w0 j s' ((bg,[ag (af bt),.map (some bm)])::(bt,oK Q (v:Int) r false)::(l,n)::(m,la)::(X.hb,(fj Q X A h.g).set (4+v*1) (ag (af bg)))::(X.gb,mB X.uJ h.gr.length X.c)::(X.uJ,flat eG h.gr++X.rest)::(X.pb,Po.gy 4 h.po)::(a_ Q A h.g (AF 17)++L)) ((bm,.map #[] 0)::dm A h.g (AF 17))):
 jn Q X D G w0 j {h with s:=s',g:=bj h.g v (some ⟨r,[]⟩)} L:=by
 have d:=Bw A h.g v ⟨bg,bt,bm,0,[]⟩ (some ⟨r,[]⟩);have o:kz (oD A v ⟨bg,bt,bm,0,[]⟩) (bj h.g v (some ⟨r,[]⟩)) v=some ⟨bg,0,none⟩:=by
  unfold kz;rw[fK,qo]
 refine⟨oD A v ⟨bg,bt,bm,0,[]⟩,⟨λ{i x} a=>?_,λ{i x} a=>?_,W.gl,W.pt,W.gk⟩,?_⟩
 ·have a:bj h.g v (some ⟨r,[]⟩) i=some x:=a;unfold bj at a;by_cases e:i=v
  ·omega
  ·rw[ao e] at a;exact W.jm a
 ·have a:bj h.g v (some ⟨r,[]⟩) i=some x:=a;unfold bj at a;unfold oD;by_cases e:i=v
  ·rw[av e] at a ⊢;cases a;exact qF.nil
  ·rw[ao e] at a ⊢;exact W.mp a
 ·have k:=Jp (Q:=Q) (X:=X) (by omega:v<17) d;rw[o] at k;rw[k] at H;refine((H.sub ((((B4 _ _).trans (B4 _ _)).cons_cons _).cons_cons _)).perm ?_).lf ?_
  ·have p1:(a_ Q (oD A v ⟨bg,bt,bm,0,[]⟩) (bj h.g v (some ⟨r,[]⟩)) (AF 17)).Perm ([(bg,[ag (af bt),.map (some bm)]),(bt,oK Q (v:Int) r false)]++a_ Q A h.g (AF 17)):=by
    have b:=wq (Q:=Q) (A:=oD A v ⟨bg,bt,bm,0,[]⟩) (by omega:v<17) (fK h.g v (some ⟨r,[]⟩));rw[ww d] at b;have p:=(zL (Q:=Q) (A:=A) (by omega:v<17) f).symm;have e:gO Q (oD A v ⟨bg,bt,bm,0,[]⟩) v ⟨r,[]⟩=[(bg,[ag (af bt),.map (some bm)]),(bt,oK Q (v:Int) r false)]:=by
     unfold gO;rw[qo]
    rw[e] at b;exact b.trans (p.append_left _)
   refine(((((p1.append_right L).cons _).cons _).cons _).cons _).trans ?_;exact(Dr (l₁:=[_, _, _, _]) (l₂:=[_, _])).append_right (a_ Q A h.g (AF 17)++L)
  ·have b:=l8 (A:=oD A v ⟨bg,bt,bm,0,[]⟩) (by omega:v<17) (fK h.g v (some ⟨r,[]⟩));rw[pJ d,qo] at b;exact b.trans ((zK (A:=A) (by omega:v<17) f).symm.cons _)
theorem My (H:jn Q X D G w0 w h L) (F: ¬ (h.s.1.length:Int)<16*(h.s.2.length:Int)) (v k a b c:Int) (kk: ∀V x,(o7 h=0->V=AS h)->jn Q X D G w0 x (gP h) L->K (V,o7 h,()) x):
 aC AB 121 (.el (.agg iP)) [ag (af X.hb),aa v,.agg ⟨f_ k a b c⟩] w K:=by
 obtain⟨A,W,H⟩:=H;obtain⟨I,S,J⟩:=H.call;refine aR (C:=V0) (aQ:=oe) (AH (E9 _ v k a b c w K) ?_);refine S.al λM x S=>S.al λN w3 S=>?_;refine⟨λn q w'=>(1<=q.1/\q.1<=17/\(n:Int)=17 - q.1)/\(∀u:Nat,1<=u->(u:Int)<q.1->(h.g u).isSome)/\bq Q [] I w w' h.s ((N,[ay 0,aa 0])::(M,f_ k a b c)::d_ Q X A h (a_ Q A h.g (AF 17)++L)),⟨16,λO P=>⟨by decide,λu l p=>(by dsimp only at p;omega),S.ext P⟩⟩,?_⟩;clear S;rintro n ⟨q,u⟩ O ⟨⟨R,T,U⟩,r,S⟩;dsimp only at R T U r ⊢;obtain⟨i,hi⟩: ∃i:Nat,q=(i:Int):=⟨q.toNat,by omega⟩;subst hi;rw[show((i:Int)).toNat=i from rfl];refine ab (λd=>?_) (λd=>⟨trivial,S.res (j:=0) rfl 0 3 λt S=>?_⟩)
 ·have d:(i:Int)<=16:=by simpa using d
  have hc:=S.oW (X:=X) (A:=A) (g:=h.g) (Ap _ (Ap _ AT)) (v:=(i:Int)) ⟨by omega,d⟩;rw[show((i:Int)).toNat=i from rfl] at hc;refine⟨rfl,rfl,⟨rfl,by omega,by show(i:Int)<((17:Nat):Int);omega⟩,aj.of _ hc ?_⟩;unfold kz;cases z:h.g i with
  |some y=>
   refine aB rfl λt Y=>⟨n - 1,by omega,⟨?_,?_,?_⟩,λu l p=>?_,S.ext Y⟩
   ·rw[ax (by omega) (by omega)];omega
   ·rw[ax (by omega) (by omega)];omega
   ·rw[ax (by omega) (by omega)];omega
   ·rw[ax (by omega) (by omega)] at p;by_cases e:u=i
    ·subst e;rw[z];rfl
    ·exact r u l (by omega)
  |none=>
   have m:mN h.g=some i:=nR.2 ⟨by omega,z,λu l p=>r u l (by omega)⟩;have cE:o7 h=rz h.s (i:Int):=by unfold o7;rw[m]
   have Z:AS h=(i:Int):=by unfold AS;rw[m]
   have B:gP h=if rz h.s (i:Int)=0 then{h with s:=iF h.s (i:Int) λ_=>0,g:=bj h.g i (some ⟨dX h.s (i:Int),[]⟩)} else h:=by unfold gP;rw[m]
   have eu:aF .u64 (i:Int)=(i:Int):=eK ⟨by omega,by omega⟩;rw[cE,Z,B] at kk;refine an rfl ⟨rfl,rfl,aj.of _ (S.fN (X:=X) (A:=A) (g:=h.g) (by simp) (n:=0) rfl) ⟨rfl,rfl,aj.of _ (S.fN (X:=X) (A:=A) (g:=h.g) (by simp) (n:=1) rfl) ?_⟩⟩;refine S.new (i:Int) (λe=>absurd e F) (λ_ f t S=>?_) (λ_ f bt t S=>?_)
   ·rw[ao f] at kk;refine an (by simpa using f) (S.res (j:=0) rfl _ _ λE S=>kk _ E (λe=>absurd e f) ⟨A,W,J ?_⟩);rw[Jg f] at S;exact S.tail.tail
   ·rw[av f,f] at kk;refine aB rfl λE h6=>?_;have H:=((J S).ext h6).alloc (o:= .map #[] 0) trivial;obtain⟨bm,Wq⟩: ∃bm,bm=E.heap.size:=⟨_,rfl⟩;rw[<-Wq] at H ⊢;obtain⟨G2,S,J2⟩:=H.call;refine S.al λbg w7 S=>⟨rfl,rfl,⟨rfl,by omega,by show(i:Int)<((17:Nat):Int);omega⟩,?_⟩;rw[aW];refine S.Cq 4 rfl rfl (by rw[Nat.blt_eq,Jo];omega) λw8 S=>S.res (j:=2) rfl _ _ λw9 S=>kk _ w9 (λ_=>eu) (abu (bg:=bg) (bt:=bt) (bm:=bm) W (by omega) z (J2 S))
 ·have d: ¬ (i:Int)<=16:=by simpa using d
  have m:mN h.g=none:=HL.2 λu l p=>r u l (by omega);have cE:o7 h=3:=by unfold o7;rw[m]
  have B:gP h=h:=by unfold gP;rw[m]
  rw[cE,B] at kk;exact kk _ t (λe=>absurd e (by decide)) ⟨A,W,J S.tail.tail⟩
end
theorem Jq (s:WD) (o:Int) (G:Int->Int):(iF s o G).1.length=s.1.length:=by
 unfold iF;dsimp only;split
 ·exact gJ _ _ _ _
 ·rfl
theorem tM (s:WD) (o r p:Int):(fp s o r p).1.length=s.1.length:=by
 unfold fp;split
 ·rfl
 ·split
  ·exact xH _ _ _ _ _
  ·exact Jq _ _ _
theorem BC: ∀(l:List PT) (s:WD),(jt l s).1.length=s.1.length
 |[],s=>rfl
 |[x],s=>rfl
 |x::y::l,s=>by
  rw[jt];split
  ·rw[BC (y::l)];exact cG _ _ _
  ·rfl
theorem tN (s:WD) (o r:Int) (gone:Bool) (p:Int):(nf s o r gone p).1.length=s.1.length:=by
 unfold nf;split
 ·split
  ·rw[BC];show(cW _ _ _).length= _;rw[cG,tM]
  ·exact tM _ _ _ _
 ·rfl
def vC (h:HS) (v:Int):List TK:=match h.g v.toNat with|some x=>x.tk|none=>[]
def yy (v:Int) (h:HS):HS:=dx h v (As ((vC h v).map (·.1))) (ND h v (As ((vC h v).map (·.1)))).1 (ND h v (As ((vC h v).map (·.1)))).2
def fa (v:Int):Nat->HS->HS
 |0,h=>h
 |n+1,h=>fa v n (yy v h)
def tu (ds:List DT) (v:Int):Bool:=(fX ds v).any λi=>decide ((oH ds (i:Int)).2.2.1>0)
def uX (v:Int) (x:List DT×Int) (i:Nat):List DT×Int:=if(oH x.1 (i:Int)).1=4 then(dD x.1 (i:Int) (aO 5 v),x.2+1) else x
def Ce (ds:List DT) (v:Int):List DT×Int:=(fX ds v).foldl (uX v) (ds,0)
def vM (h:HS) (v:Int):HS where
 s:=((cH h.s (a6 h.g v) false).1,(Ce (cH h.s (a6 h.g v) false).2 v).1)
 g:=bj h.g v.toNat none
 gr:=cP h.gr v
 po:=(Po.cH 4 h.po v).2
def F3 (h:HS) (a:Int):Int:=if aV h.g a=true then(if tu h.s.2 a=true then 9 else 0) else 4
def te (h:HS) (a:Int):HS:=if aV h.g a=true then(if tu h.s.2 a=true then h else vM (fa a (vC h a).length h) a) else h
def YL (h:HS) (a:Int):Int:=if aV h.g a=true then(if tu h.s.2 a=true then 0 else(Ce (cH (fa a (vC h a).length h).s (a6 (fa a (vC h a).length h).g a) false).2 a).2) else 0
theorem Mz (gs:List GT) (v:Int):(cP gs v).length=gs.length:=by unfold cP;rw[B2]
theorem sk (h:HS) (v p id f w:Int):aV (dx h v p id f).g w=aV h.g w:=by
 unfold aV dx bj;dsimp only;by_cases e:w.toNat=v.toNat
 ·rw[e,av rfl];cases h.g v.toNat<;>rfl
 ·rw[ao e]
theorem HM (h:HS) (v p id f w:Int):a6 (dx h v p id f).g w=a6 h.g w:=by
 unfold a6;rw[sk];unfold dx bj;dsimp only;by_cases e:w.toNat=v.toNat
 ·rw[e,av rfl];cases h.g v.toNat<;>rfl
 ·rw[ao e]
theorem Ey {h:HS} {v p id f:Int}:vC (dx h v p id f) v=(vC h v).filter λt=> !(t.1==p):=by
 unfold vC dx bj;dsimp only;rw[av rfl];cases h.g v.toNat<;>rfl
section
variable {Q:Sys} {X:HX} {D G:List Nat} {w0 w:A2} {h:HS} {L:List (Nat×List AC)} {K:RS->A2->Prop}
theorem bq.aav {s:WD} {L0 rows:List (Nat×List AC)} (S:bq Q D G w0 w s L0) {e:El} {x:Option AG×Nat×Nat} {l:List e.T} (a:n9 e rows x l) (b: ∀x∈rows,x∈L0):Sl w e x.1 l:=by
 obtain⟨g1,d,f,g,ca,la,H⟩:=S;exact a.sl H λx c=>Ap _ (Ap _ (Ap _ (Ap _ (b x c))))
theorem ZP {A:Nat->GA} {v:Nat} {x:GV} (hv:v<17) (a:h.g v=some x) (T:List (Nat×List AC)):
 (gO Q A v x++(T++d_ Q X A h (a_ Q A h.g ((AF 17).erase v)++L))).Perm (T++d_ Q X A h (a_ Q A h.g (AF 17)++L)):=by
 have p1:=(wq (Q:=Q) (A:=A) hv a).symm;have p2:=((((p1.append_right L).cons (X.pb,Po.gy 4 h.po)).cons (X.uJ,flat eG h.gr++X.rest)).cons (X.gb,mB X.uJ h.gr.length X.c)).cons (X.hb,fj Q X A h.g);refine List.Perm.trans ?_ (p2.append_left T);have e:T++d_ Q X A h ((gO Q A v x++a_ Q A h.g ((AF 17).erase v))++L)=(T++[(X.hb,fj Q X A h.g),(X.gb,mB X.uJ h.gr.length X.c),(X.uJ,flat eG h.gr++X.rest),(X.pb,Po.gy 4 h.po)])++(gO Q A v x++(a_ Q A h.g ((AF 17).erase v)++L)):=by simp
 have b:gO Q A v x++(T++d_ Q X A h (a_ Q A h.g ((AF 17).erase v)++L))=gO Q A v x++((T++[(X.hb,fj Q X A h.g),(X.gb,mB X.uJ h.gr.length X.c),(X.uJ,flat eG h.gr++X.rest),(X.pb,Po.gy 4 h.po)])++(a_ Q A h.g ((AF 17).erase v)++L)):=by simp
 show List.Perm _ (T++d_ Q X A h ((gO Q A v x++a_ Q A h.g ((AF 17).erase v))++L));rw[e,b];exact NK _ _ _
end
theorem Ez (ds:List DT) (v:Int):(fX ds v).length<=ds.length:=by
 unfold fX;refine Io (I1 _ _) ?_;rw[NF];exact Db _
section
variable {Q:Sys} {X:HX} {D G:List Nat} {w0 w:A2} {h:HS} {L:List (Nat×List AC)} {K:RS->A2->Prop}
theorem abv {A:Nat->GA} (W:Dm A h) {v:Nat} {x:GV} (hv:v<17) (a:h.g v=some x) {s':WD} {z7:List GT} {NG:List Po.PT} (d:z7.length=h.gr.length) (n:n6 z7) (o:Po.lJ 4 NG) {f:A2} {p q r t:Nat×List AC}
 (H:SM Q D G w0 f s' (p::q::r::t::(X.hb,(fj Q X A h.g).set (4+v*1) (ag none))::(X.gb,mB X.uJ h.gr.length X.c)::(X.uJ,flat eG z7++X.rest)::(X.pb,Po.gy 4 NG)::(a_ Q A h.g ((AF 17).erase v)++L)) (dm A h.g (AF 17))):
 jn Q X D G w0 f {s:=s',g:=bj h.g v none,gr:=z7,po:=NG} L:=by
 have b: ∀j,j≠v->A j=A j/\bj h.g v none j=h.g j:=λj u=>⟨rfl,ao u⟩;have w:kz A (bj h.g v none) v=none:=by
  unfold kz;rw[fK]
 refine⟨A,⟨λ{i x} a=>?_,λ{i x} a=>?_,d.trans W.gl,o,n⟩,?_⟩
 ·have a:bj h.g v none i=some x:=a;unfold bj at a;by_cases e:i=v
  ·rw[av e] at a;cases a
  ·rw[ao e] at a;exact W.jm a
 ·have a:bj h.g v none i=some x:=a;unfold bj at a;by_cases e:i=v
  ·rw[av e] at a;cases a
  ·rw[ao e] at a;exact W.mp a
 ·have k:=Jp (Q:=Q) (X:=X) hv b;rw[w] at k;rw[k] at H;have H:=((((H.sub (B4 _ _)).sub (B4 _ _)).sub (B4 _ _)).sub (B4 _ _));have H:=(H.lf (l8 hv a).symm).FO (B4 _ _);have l:=zL (Q:=Q) (A:=A) hv (fK h.g v none);rw[ww b] at l;have m:=zK (A:=A) hv (fK h.g v none);rw[pJ b] at m;refine(H.perm ?_).lf m;show List.Perm ((X.hb,fj Q X A (bj h.g v none))::(X.gb,mB X.uJ z7.length X.c)::(X.uJ,flat eG z7++X.rest)::(X.pb,Po.gy 4 NG)::(a_ Q A (bj h.g v none) (AF 17)++L)) _;rw[d];exact((((l.append_right L).cons _).cons _).cons _).cons _
theorem EA {l:List Int} (b:l≠[]) (h: ∀x∈l,x<65536):As l∈l:=by
 obtain⟨d,c,a⟩:=ze l 65536;rcases a with a|a
 ·obtain⟨x,l',rfl⟩:=List.exists_cons_of_ne_nil b;have:=c x AT;have:=h x AT;omega
 ·exact a
theorem HN (H:jn Q X D G w0 w h L) (v k:Int) {a:Int} (b c:Int) (ha:0<=a) (hF:NX Q h.s) (NB:aV h.g a=true->0<=a6 h.g a/\a6 h.g a<4096) (AE: ∀t∈vC h a,t.1<65536)
 (kk: ∀w2,jn Q X D G w0 w2 (te h a) L->K (YL h a,F3 h a,()) w2):
 aC AB 122 (.el (.agg iP)) [ag (af X.hb),aa v,.agg ⟨f_ k a b c⟩] w K:=by
 obtain⟨A,W,H⟩:=H;obtain⟨G',S,J⟩:=H.call;refine aR (C:=V0) (aQ:=m9) (AH (CX _ v k a b c w K) ?_);unfold F3 YL te at kk;refine S.al λU w2 S=>S.al λV w3 S=>⟨rfl,S.cA 1 rfl rfl ⟨_,Es S (X:=X) (A:=A) (g:=h.g) (by simp) ha,?_⟩⟩;cases O:aV h.g a with
 |false=>
  rw[O,ao (by decide),ao (by decide),ao (by decide)] at kk;exact aB rfl ⟨trivial,S.res (j:=0) rfl 0 4 λw4 S=>kk w4 ⟨A,W,J S.tail.tail⟩⟩
 |true=>
 rw[O,av rfl,av rfl,av rfl] at kk;obtain⟨x,hx,sU,hv,wP,sL⟩:=bZ O;have ea:aF .i64 a=a:=bL ⟨ha,by omega⟩;refine an rfl ⟨rfl,S.cA 1 rfl rfl ?_⟩;rw[ea];refine⟨rfl,rfl,aj.of _ (S.fN (X:=X) (A:=A) (g:=h.g) (by simp) (n:=1) rfl) (S.owned a λr rows w4 S E=>?_)⟩;have hlen:(fX h.s.2 a).length<=4096:=Io (Ez _ _) S.le;obtain⟨xp,xn,xc⟩:=r;have hxl:xn=(fX h.s.2 a).length:=by have:=E.1;rw[B2] at this;exact this
 subst hxl;refine⟨λn q w'=> ∃m:Nat,q.1=(m:Int)/\n+m=(fX h.s.2 a).length/\(∀i,i<m-> ∀f,(fX h.s.2 a)[i]? =some f-> ¬ (oH h.s.2 (f:Int)).2.2.1>0)/\bq Q [] G' w w' h.s (((V,[ay 0,aa 0])::(U,f_ k a b c)::d_ Q X A h (a_ Q A h.g (AF 17)++L))++rows),⟨(fX h.s.2 a).length,λw5 h5=>⟨0,rfl,rfl,λi hi=>absurd hi (NL i),S.ext h5⟩⟩,?_⟩;clear S;rintro n ⟨q,u⟩ w5 ⟨m,Z,hnm,wJ,S⟩;dsimp only at Z ⊢;subst Z;refine ab (λo=>?_) (λo=>?_)
 ·have P:m<(fX h.s.2 a).length:=by simpa using o
  obtain⟨f,XT⟩: ∃f,f=(fX h.s.2 a)[m]:=⟨_,rfl⟩;have M:(fX h.s.2 a)[m]? =some f:=by rw[XT];exact DA P
  have Dj:((fX h.s.2 a).map λi=>((i:Nat):Int))[m]? =some ((f:Nat):Int):=by rw[BX,M];rfl
  have wK:=(S.aav E (λx hx=>Ae _ hx)) m _ Dj;refine⟨⟨wK.1,by omega,by omega⟩,aj.of _ wK.2 ⟨rfl,rfl,aj.of _ (S.fN (X:=X) (A:=A) (g:=h.g) (by simp) (n:=1) rfl) ⟨(oH h.s.2 (f:Int),xk h.s.2 (f:Int),()),S.ofq (f:Int),S.al λbd w6 S=>S.fi 0 rfl rfl rfl λw7 S=>⟨rfl,S.cA 0 rfl rfl ?_⟩⟩⟩⟩;refine ab (λF=>⟨trivial,S.res (j:=1) rfl 0 9 λw8 S=>?_⟩) (λF=>λw8 h8=>⟨n - 1,by omega,m+1,?_,by omega,λi hi g I=>?_,(S.ext h8).tail⟩)
  ·have F:(oH h.s.2 (f:Int)).2.2.1>0:=by simpa using F
   have hb:tu h.s.2 a=true:=by
    unfold tu;exact GS.2 ⟨f,C5 M,by simpa using F⟩
   rw[hb,av rfl,av rfl,av rfl] at kk;exact kk w8 ⟨A,W,J ((S.tail.sub (Ga _ _)).tail.tail)⟩
  ·rw[ax (by omega) (by omega)];omega
  ·by_cases e:i=m
   ·subst e;rw[M] at I;cases I;simpa using F
   ·exact wJ i (by omega) g I
 have P: ¬ m<(fX h.s.2 a).length:=by simpa using o
 have hb: ¬ tu h.s.2 a=true:=by
  unfold tu;rw[GS];rintro⟨f,M,hd⟩;obtain⟨i,hi⟩:=B3 M;have:i<(fX h.s.2 a).length:=(Bs.1 hi).1;exact wJ i (by omega) f hi (by simpa using hd)
 rw[ao hb,ao hb,ao hb] at kk;have S:=S.sub (Ga _ rows);clear wJ hnm E o P;obtain⟨g1, _,g3, _⟩:=S.td (X:=X) (A:=A) (g:=h.g) (by simp) (bV W [_, _]) O;refine⟨rfl,rfl,⟨rfl,by omega,by show a<((17:Nat):Int);omega⟩,aj.of _ g1 ?_⟩;refine⟨λn _ w'=> ∃(B:Nat->GA) (h':HS),fa a n h'=fa a (vC h a).length h/\(vC h' a).length=n/\aV h'.g a=true/\a6 h'.g a=a6 h.g a/\NX Q h'.s/\(∀t∈vC h' a,t.1<65536)/\(B a.toNat).bg=(A a.toNat).bg/\Dm B h'/\SM Q D G w0 w' h'.s ([(V,[ay 0,aa 0]),(U,f_ k a b c)]++d_ Q X B h' (a_ Q B h'.g (AF 17)++L)) (dm B h'.g (AF 17)),⟨(vC h a).length,λw6 h6=>⟨A,h,rfl,rfl,O,rfl,hF,AE,rfl,W,(J S).ext h6⟩⟩,?_⟩;clear S g1 g3 J H;rintro n u w6 ⟨B,h',I,hn,z4,Tk,hF',YM,aaw,d,H⟩;obtain⟨x',z,YN,Ty, _, _⟩:=bZ z4;have Ke:a.toNat<17:=by omega
 have Y:vC h' a=x'.tk:=by unfold vC;rw[z]
 rw[<-aaw];obtain⟨G2,S,J2⟩:=H.call;have mem:(X.hb,fj Q X B h'.g)∈[(V,[ay 0,aa 0]),(U,f_ k a b c)]++d_ Q X B h' (a_ Q B h'.g (AF 17)++L):=Ae _ AT;obtain⟨_, _,g3, _⟩:=S.td (X:=X) (A:=B) (g:=h'.g) mem (bV d _) z4;have AD:bF w6 (B a.toNat).bm ⟨(B a.toNat).es⟩ (B a.toNat).ck:=H.get (fL d _ _ z);refine⟨rfl,rfl,aj.of _ g3 ⟨_,⟨_, _, _,rfl,AD,rfl⟩,?_⟩⟩;have gW:(⟨(B a.toNat).es⟩:Array B5).size=n:=by
  rw[<-hn,Y];exact(d.mp z).len
 rw[gW];refine ab (λo=>?_) (λo=>?_)
 ·have o:n>0:=by
   have:(n:Int)>0:=by simpa using o
   omega
  have E:((B a.toNat).bg,[ag (some ⟨(B a.toNat).bt,0,none⟩),.map (some (B a.toNat).bm)])∈[(V,[ay 0,aa 0]),(U,f_ k a b c)]++d_ Q X B h' (a_ Q B h'.g (AF 17)++L):=bV d _ _ _ z _ AT;have cY:x'.tk.map (·.1)≠[]:=λe=>by
   have:=congrArg FU e;rw[B2, <-Y,hn] at this;simp at this;omega
  have FZ:=EA cY (λy hy=>by
   obtain⟨t,ht,rfl⟩:=Bx.1 hy;exact YM t (by rw[Y];exact ht))
  refine Mt H E (fL d _ _ z) (d.mp z) λw7 H=>?_;obtain⟨p,hp⟩: ∃p,p=As (x'.tk.map (·.1)):=⟨_,rfl⟩;rw[<-hp] at FZ ⊢;obtain⟨t,ht,htp⟩:=Bx.1 FZ;have sv:cg x'.tk p=some t.2:=(jN (a:=t.2.1) (b:=t.2.2) (d.mp z).2.2.2).2 (by rw[<-htp];exact ht);have hX:ND h' a p=t.2:=by unfold ND;rw[z];dsimp only;rw[sv];rfl
  have TM:yy a h'=dx h' a p t.2.1 t.2.2:=by
   unfold yy;rw[Y, <-hp,hX]
  refine Ex d (T:=[(V,[ay 0,aa 0]),(U,f_ k a b c)]) H z4 hF' (by rw[Tk];exact NB O) z sv λB' w8 hb W'' H=>λw9 h9=>⟨n - 1,by omega,B',dx h' a p t.2.1 t.2.2,?_,?_,?_,?_,?_,?_,?_,W'',H.ext h9⟩
  ·rw[<-TM, <-I];obtain⟨m,rfl⟩: ∃m,n=m+1:=⟨n - 1,by omega⟩;rfl
  ·rw[Ey,Y];obtain⟨r,M,Fm⟩:=(d.mp z).find p;rw[sv] at Fm;obtain⟨i, _,hi,hM⟩:=Fm;rw[<-hM.len,Ij,av hi];have:=(d.mp z).len;rw[Y] at hn;omega
  ·rw[sk];exact z4
  ·rw[HM];exact Tk
  ·have e:(dx h' a p t.2.1 t.2.2).s.1.length=h'.s.1.length:=tN _ _ _ _ _;exact⟨by rw[e];exact hF'.1,by rw[e];exact hF'.2⟩
  ·intro t' pR;rw[Ey] at pR;exact YM t' (GI.1 pR).1
  ·rw[hb,aaw]
 have TC:n=0:=by
  have: ¬ (n:Int)>0:=by simpa using o
  omega
 subst TC;have I:h'=fa a (vC h a).length h:=I;rw[<-I] at kk;clear I gW o g3 S J2 mem AD hb YM hn hF' AE;have acb:0<=x'.root/\x'.root<4096:=by rw[<-YN,Tk];exact NB O
 rw[YN] at kk;have H:=H.perm (ZP Ke z _);obtain⟨G2,S,J2⟩:=H.call;refine⟨rfl,rfl,aj.of _ (S.fN (X:=X) (A:=B) (g:=h'.g) (C5 (i:=4) rfl) (n:=2) rfl) (S.abm 5 6 rfl rfl (by rw[d.gl];decide) (by rw[d.gl];decide) (by decide) a λn2 w8 S=>⟨rfl,rfl,aj.of _ (S.fN (X:=X) (A:=B) (g:=h'.g) (C5 (i:=4) rfl) (n:=3) rfl) (S.abq 7 rfl d.pt a λw9 S=>⟨rfl,rfl,?_⟩)⟩)⟩;refine S.cA 0 rfl rfl (S.drop 1 rfl acb λy abw n5 S _=>?_);have S:=S.sub (Ga _ abw);refine⟨rfl,rfl,aj.of _ (S.fN (X:=X) (A:=B) (g:=h'.g) (C5 (i:=4) rfl) (n:=1) rfl) (S.owned a λr2 OL oJ S E=>?_)⟩;obtain⟨s1,BP⟩: ∃s1,s1=cH h'.s x'.root false:=⟨_,rfl⟩;have hgo:vM h' a={s:=(s1.1,(Ce s1.2 a).1),g:=bj h'.g a.toNat none,gr:=cP h'.gr a,po:=(Po.cH 4 h'.po a).2}:=by
  unfold vM;rw[YN, <-BP]
 rw[<-BP] at S kk E;rw[hgo] at kk;obtain⟨xp2,xn2,xc2⟩:=r2;have acd:xn2=(fX s1.2 a).length:=by have:=E.1;rw[B2] at this;exact this
 subst acd;have DJ:(fX s1.2 a).length<=4096:=Io (Ez _ _) S.le;obtain⟨l,Ik⟩: ∃l,l=fX s1.2 a:=⟨_,rfl⟩;have FN:Ce s1.2 a=l.foldl (uX a) (s1.2,0):=by unfold Ce;rw[Ik]
 rw[<-Ik] at E DJ ⊢;obtain⟨R,hR⟩: ∃R,R=Ce s1.2 a:=⟨_,rfl⟩;rw[<-hR] at kk;rw[<-hR] at FN;obtain⟨RL,hRL⟩: ∃RL:List (Nat×List AC),RL=((B a.toNat).bg,[ag (some ⟨(B a.toNat).bt,0,none⟩),.map (some (B a.toNat).bm)])::((B a.toNat).bt,oK Q ((a.toNat:Nat):Int) x'.root true)::(V,[ay 0,aa 0])::(U,f_ k a b c)::(X.hb,fj Q X B h'.g)::(X.gb,mB X.uJ h'.gr.length X.c)::(X.uJ,flat eG (cP h'.gr a)++X.rest)::(X.pb,Po.gy 4 (Po.cH 4 h'.po a).2)::(a_ Q B h'.g ((AF 17).erase a.toNat)++L):=⟨_,rfl⟩;have S:bq Q [] G2 w6 oJ s1 (RL++OL):=by rw[hRL];exact S
 have aax: ∀{T:List (Nat×List AC)},(X.hb,fj Q X B h'.g)∈RL++T:=λ{T}=>Ca _ (by rw[hRL];exact C5 (i:=4) rfl);refine⟨λn q w'=> ∃(m:Nat) (ds:List DT),q.2.1=(m:Int)/\n+m=l.length/\(0<=q.1/\q.1<=m)/\(l.drop m).foldl (uX a) (ds,q.1)=R/\bq Q [] G2 w6 w' (s1.1,ds) (RL++OL),⟨l.length,λFk TE=>⟨0,s1.2,rfl,rfl,⟨by decide,by decide⟩,FN.symm,S.ext TE⟩⟩,?_⟩;clear S;rintro n ⟨cnt,q,u⟩ Fk ⟨m,ds,Z,hnm,hcm,N,S⟩;dsimp only at Z hcm N ⊢;subst Z;refine ab (λo=>?_) (λo=>?_)
 ·have P:m<l.length:=by simpa using o
  obtain⟨f,XT⟩: ∃f,f=l[m]:=⟨_,rfl⟩;have M:l[m]? =some f:=by rw[XT];exact DA P
  have Dj:(l.map λi=>((i:Nat):Int))[m]? =some ((f:Nat):Int):=by rw[BX,M];rfl
  have wK:=(S.aav E (λx hx=>Ae _ hx)) m _ Dj;rw[JP P, <-XT,FS] at N;refine⟨⟨wK.1,by omega,by omega⟩,aj.of _ wK.2 ⟨rfl,rfl,aj.of _ (S.fN (X:=X) (A:=B) (g:=h'.g) aax (n:=1) rfl) ⟨(oH ds (f:Int),xk ds (f:Int),()),S.ofq (f:Int),S.al λbd To S=>S.fi 0 rfl rfl rfl λNx S=>⟨rfl,S.cA 0 rfl rfl ?_⟩⟩⟩⟩;refine ab (λF=>⟨rfl,rfl,aj.of _ (S.fN (X:=X) (A:=B) (g:=h'.g) (Ap _ aax) (n:=1) rfl) (S.T2 (f:Int) 5 a λw15 S=>λXK WE=>⟨n - 1,by omega,m+1, _,?_,by omega,?_,?_,(S.ext WE).tail⟩)⟩) (λF=>λXK WE=>⟨n - 1,by omega,m+1,ds,?_,by omega,?_,?_,(S.ext WE).tail⟩)
  ·show aJ .i64 (m:Int) 1= _;rw[ax (by omega) (by omega)];omega
  ·show 0<=aJ .i64 cnt 1/\aJ .i64 cnt 1<=((m+1:Nat):Int);rw[ax (by omega) (by omega)];omega
  ·show(l.drop (m+1)).foldl (uX a) (dD ds (f:Int) (aO 5 a),aJ .i64 cnt 1)=R;rw[ax (by omega) (by omega), <-N];have d4:(oH ds (f:Int)).1=4:=by simpa using F
   rw[show uX a (ds,cnt) f=if(oH ds (f:Int)).1=4 then(dD ds (f:Int) (aO 5 a),cnt+1) else(ds,cnt) from rfl,av d4]
  ·show aJ .i64 (m:Int) 1= _;rw[ax (by omega) (by omega)];omega
  ·show 0<=cnt/\cnt<=((m+1:Nat):Int);omega
  ·show(l.drop (m+1)).foldl (uX a) (ds,cnt)=R;rw[<-N];have d4: ¬ (oH ds (f:Int)).1=4:=by simpa using F
   rw[show uX a (ds,cnt) f=if(oH ds (f:Int)).1=4 then(dD ds (f:Int) (aO 5 a),cnt+1) else(ds,cnt) from rfl,ao d4]
 have P: ¬ m<l.length:=by simpa using o
 rw[List.drop_of_length_le (by omega)] at N;have N:(ds,cnt)=R:=N;rw[<-N] at kk;have S:=S.sub (Ga _ OL);rw[hRL] at S;refine⟨rfl,rfl,⟨rfl,by omega,by show a<((17:Nat):Int);omega⟩,?_⟩;rw[aW];refine S.Cq 4 rfl rfl (by rw[Nat.blt_eq,Jo];omega) λTo S=>S.res (j:=2) rfl _ _ λNx S=>?_;rw[eK ⟨by omega,by omega⟩];exact kk Nx (abv d Ke z (Mz _ _) (d.gk.drop _) (Po.Re d.pt a) (J2 S))
end
def run (h:HS) (v k a b c:Int):HS×Int×Int:=match k.toNat with
 |1=>(gP h,AS h,o7 h)
 |2=>(te h a,YL h a,F3 h a)
 |3=>(jR h v a b,yc h v a b)
 |4=>(qG h v a,Cb h v a)
 |5=>(jW h v a b,0,oY h v a b)
 |6=>(h,ID h v a)
 |7=>(kj h v a b,0,rV h v a)
 |8=>(iD h v a b c,yL h v a b c)
 |9=>(jv h v a b c,0,nh h v a b c)
 |10=>(gV h v a,0,oZ h v a)
 |11=>(fW h v a,0,CG h v a)
 |12=>(lW h v a,IB h v a)
 |13=>(lX h v a b,IC h v a b)
 |14=>(lV h v a,0,OH h v a)
 |15=>(OJ h v,OI h v,0)
 |16=>(jc h v a,0,Gs h v a)
 | _=>(bA h (dL h.s h.s.2.length).1,((dL h.s h.s.2.length).2:Int),0)
def iY (h:HS) (v k a b c:Int):Int:=
 if(decide (v<0)||decide (v>16)|| !iC k a b c)=true then 1 else if(!(v==0)==uW k)=true then 7 else if(decide (v>0)&& !aV h.g v)=true then 4 else 0
def sM (h:HS) (v k a b c:Int):Int:=if iY h v k a b c=0 then(run h v k a b c).2.2 else iY h v k a b c
def xY (h:HS) (v k a b c:Int):Int:=if iY h v k a b c=0 then(if(run h v k a b c).2.2=0 then(run h v k a b c).2.1 else 0) else 0
def kU (h:HS) (v k a b c:Int):HS:=if iY h v k a b c=0 then(run h v k a b c).1 else h
structure Cf (Q:Sys) (h:HS):Prop where
 NH:NX Q h.s
 sz:16*h.s.2.length<=h.s.1.length
 rr: ∀v,aV h.g v=true->0<=a6 h.g v/\a6 h.g v<4096
 pg: ∀v, ∀t∈vC h v,t.1<65536
 new: ∀v a b c, ∀x,h.g v.toNat=some x->aV h.g v=true->lQ h.s (a6 h.g v) false b (lL h a).1 (wQ c)=0->cg x.tk b=none
section
variable {Q:Sys} {X:HX} {D G:List Nat} {w0 w:A2} {h:HS} {L T:List (Nat×List AC)}
theorem Jr (A:Nat->GA) (h:HS):(d_ Q X A h (a_ Q A h.g (AF 17)++(T++L))).Perm (T++d_ Q X A h (a_ Q A h.g (AF 17)++L)):=by
 have a:d_ Q X A h (a_ Q A h.g (AF 17)++(T++L))=(d_ Q X A h (a_ Q A h.g (AF 17)))++(T++L):=by simp
 have b:T++d_ Q X A h (a_ Q A h.g (AF 17)++L)=T++(d_ Q X A h (a_ Q A h.g (AF 17))++L):=by simp
 rw[a,b];exact NK _ _ _
theorem jn.of {A:Nat->GA} (W:Dm A h) (H:SM Q D G w0 w h.s (T++d_ Q X A h (a_ Q A h.g (AF 17)++L)) (dm A h.g (AF 17))):jn Q X D G w0 w h (T++L):=
 ⟨A,W,H.perm (Jr A h)⟩
theorem jn.to (H:jn Q X D G w0 w h (T++L)): ∃A,Dm A h/\SM Q D G w0 w h.s (T++d_ Q X A h (a_ Q A h.g (AF 17)++L)) (dm A h.g (AF 17)):=by
 obtain⟨A,W,H⟩:=H;exact⟨A,W,H.perm (Jr A h).symm⟩
def lS (k:Int):Nat:=([121,122,124,125,126,127,128,129,130,131,132,133,134,135,136,137,123]:List Nat).getD (k - 1).toNat 0
theorem dR (H:jn Q X D G w0 w h L) (R:Cf Q h) {v k a b c:Int} (m:1<=k/\k<=17) (i:uW k=false->aV h.g v=true) (f:0<=a/\a<18446744073709551616) (hb:0<=b/\b<18446744073709551616) (hc:0<=c/\c<18446744073709551616) {K:RS->A2->Prop}
 (kk: ∀V d,((run h v k a b c).2.2=0->V=(run h v k a b c).2.1)->jn Q X D G w0 d (run h v k a b c).1 L->K (V,(run h v k a b c).2.2,()) d):
 aC AB (lS k) (.el (.agg iP)) [ag (af X.hb),aa v,.agg ⟨f_ k a b c⟩] w K:=by
 have:k=1\/k=2\/k=3\/k=4\/k=5\/k=6\/k=7\/k=8\/k=9\/k=10\/k=11\/k=12\/k=13\/k=14\/k=15\/k=16\/k=17:=by omega
 rcases this with rfl|rfl|rfl|rfl|rfl|rfl|rfl|rfl|rfl|rfl|rfl|rfl|rfl|rfl|rfl|rfl|rfl
 ·exact My H (by have:=R.sz;omega) v 1 a b c λV d j H=>kk V d j H
 ·exact HN H v 2 b c f.1 R.NH (R.rr a) (R.pg a) λd H=>kk _ d (λ_=>rfl) H
 ·exact Mp H (i rfl) 3 c f.1 hb.1 λd H=>kk _ d (λ_=>rfl) H
 ·exact HE H (i rfl) R.NH (R.rr v (i rfl)) 4 b c f.1 λd H=>kk _ d (λ_=>rfl) H
 ·exact HD H (i rfl) 5 c f.1 hb.1 λd H=>kk _ d (λ_=>rfl) H
 ·exact VM H v 6 b c f.1 λd H=>kk _ d (λ_=>rfl) H
 ·exact R7 H v 7 c f.1 hb λd H=>kk _ d (λ_=>rfl) H
 ·exact R6 H v 8 f.1 hb.1 hc.1 λd H=>kk _ d (λ_=>rfl) H
 ·exact VO H (i rfl) 9 f.1 hb.1 hc.1 (λx l e=>R.new v a b c x l (i rfl) e) λd H=>kk _ d (λ_=>rfl) H
 ·exact VN H (i rfl) R.NH (R.rr v (i rfl)) 10 b c f.1 λd H=>kk _ d (λ_=>rfl) H
 ·exact Ml H v 11 b c f.1 λd H=>kk _ d (λ_=>rfl) H
 ·exact VK H v 12 b c f.1 λd H=>kk _ d (λ_=>rfl) H
 ·exact VL H v 13 c f.1 hb.1 λd H=>kk _ d (λ_=>rfl) H
 ·exact VI H v 14 b c f.1 λd H=>kk _ d (λ_=>rfl) H
 ·exact VJ H v 15 a b c λd H=>kk _ d (λ_=>rfl) H
 ·exact R3 H v 16 b c f.1 λd H=>kk _ d (λ_=>rfl) H
 ·exact R8 H v 17 a b c λd H=>kk _ d (λ_=>rfl) H
end
def oO (k:Int) (b:Nat):B5:={key:=aa k,val:= .func (.func (lS k)) #[] #[],born:=b}
def cX:Array B5:=⟨[oO 1 0,oO 2 1,oO 17 2,oO 3 3,oO 4 4,oO 5 5,oO 6 6,oO 7 7,oO 8 8,oO 9 9,oO 10 10,oO 11 11,oO 12 12,oO 13 13,oO 14 14,oO 15 15,oO 16 16]⟩
section
variable {D G:List Nat} {w0 w:A2} {L:List (Nat×List AC)} {M:List (Nat×BO)}
theorem MC (H:cw D G w0 w L M) {K:Option Nat->A2->Prop} (k: ∀r a,cw D G w0 a L ((r,.map cX 17)::M)->K (some r) a):aA AB 78 (.el (.one .map)) [] w K:=by
 refine λw1 h1=>ai (C:=V0) (aQ:=λ_=>[]) (AH (L6 w1 K) ?_);have H:=H.ext h1;intro b c;have H:=(H.ext c).alloc (o:= .map #[] 0) trivial;refine gD H (by kernel_rfl) λf H=>?_;refine gD H (by kernel_rfl) λg H=>?_;refine gD H (by kernel_rfl) λh H=>?_;refine gD H (by kernel_rfl) λi H=>?_;refine gD H (by kernel_rfl) λj H=>?_;refine gD H (by kernel_rfl) λl H=>?_;refine gD H (by kernel_rfl) λm H=>?_;refine gD H (by kernel_rfl) λn H=>?_;refine gD H (by kernel_rfl) λp H=>?_;refine gD H (by kernel_rfl) λq H=>?_;refine gD H (by kernel_rfl) λs H=>?_;refine gD H (by kernel_rfl) λt H=>?_;refine gD H (by kernel_rfl) λu H=>?_;refine gD H (by kernel_rfl) λv H=>?_;refine gD H (by kernel_rfl) λx H=>?_;refine gD H (by kernel_rfl) λy H=>?_;refine gD H (by kernel_rfl) λz H=>?_;exact λd e=>k b.heap.size d ((H.ext e).Xa (by kernel_rfl))
theorem C4 {k:Int} (a:1<=k/\k<=17):bJ AB (lS k)=true:=by
 have:k=1\/k=2\/k=3\/k=4\/k=5\/k=6\/k=7\/k=8\/k=9\/k=10\/k=11\/k=12\/k=13\/k=14\/k=15\/k=16\/k=17:=by omega
 rcases this with rfl|rfl|rfl|rfl|rfl|rfl|rfl|rfl|rfl|rfl|rfl|rfl|rfl|rfl|rfl|rfl|rfl
 ·exact(by kernel_rfl:bJ AB (lS 1)=true)
 ·exact(by kernel_rfl:bJ AB (lS 2)=true)
 ·exact(by kernel_rfl:bJ AB (lS 3)=true)
 ·exact(by kernel_rfl:bJ AB (lS 4)=true)
 ·exact(by kernel_rfl:bJ AB (lS 5)=true)
 ·exact(by kernel_rfl:bJ AB (lS 6)=true)
 ·exact(by kernel_rfl:bJ AB (lS 7)=true)
 ·exact(by kernel_rfl:bJ AB (lS 8)=true)
 ·exact(by kernel_rfl:bJ AB (lS 9)=true)
 ·exact(by kernel_rfl:bJ AB (lS 10)=true)
 ·exact(by kernel_rfl:bJ AB (lS 11)=true)
 ·exact(by kernel_rfl:bJ AB (lS 12)=true)
 ·exact(by kernel_rfl:bJ AB (lS 13)=true)
 ·exact(by kernel_rfl:bJ AB (lS 14)=true)
 ·exact(by kernel_rfl:bJ AB (lS 15)=true)
 ·exact(by kernel_rfl:bJ AB (lS 16)=true)
 ·exact(by kernel_rfl:bJ AB (lS 17)=true)
theorem wx {r:Nat} (h:bF w r cX 17) {k:Int} (a:1<=k/\k<=17):jS w (some r) .i64 k Value.nilFunc (.func (.func (lS k)) #[] #[]):=by
 have:k=1\/k=2\/k=3\/k=4\/k=5\/k=6\/k=7\/k=8\/k=9\/k=10\/k=11\/k=12\/k=13\/k=14\/k=15\/k=16\/k=17:=by omega
 rcases this with rfl|rfl|rfl|rfl|rfl|rfl|rfl|rfl|rfl|rfl|rfl|rfl|rfl|rfl|rfl|rfl|rfl
 ·exact⟨r,cX,17,rfl,h,rfl⟩
 ·exact⟨r,cX,17,rfl,h,rfl⟩
 ·exact⟨r,cX,17,rfl,h,rfl⟩
 ·exact⟨r,cX,17,rfl,h,rfl⟩
 ·exact⟨r,cX,17,rfl,h,rfl⟩
 ·exact⟨r,cX,17,rfl,h,rfl⟩
 ·exact⟨r,cX,17,rfl,h,rfl⟩
 ·exact⟨r,cX,17,rfl,h,rfl⟩
 ·exact⟨r,cX,17,rfl,h,rfl⟩
 ·exact⟨r,cX,17,rfl,h,rfl⟩
 ·exact⟨r,cX,17,rfl,h,rfl⟩
 ·exact⟨r,cX,17,rfl,h,rfl⟩
 ·exact⟨r,cX,17,rfl,h,rfl⟩
 ·exact⟨r,cX,17,rfl,h,rfl⟩
 ·exact⟨r,cX,17,rfl,h,rfl⟩
 ·exact⟨r,cX,17,rfl,h,rfl⟩
 ·exact⟨r,cX,17,rfl,h,rfl⟩
end
section
variable {Q:Sys} {X:HX} {D G:List Nat} {w0 w:A2} {s:WD} {h:HS} {L L0:List (Nat×List AC)} {M:List (Nat×BO)} {K:RS->A2->Prop}
theorem SM.Pv (H:SM Q D G w0 w s L0 M) {K:Option Nat->A2->Prop} (k: ∀r e,SM Q D G w0 e s L0 ((r,.map cX 17)::M)->K (some r) e):aA AB 78 (.el (.one .map)) [] w K:=by
 obtain⟨a,b,c,d,ca,la,H⟩:=H;exact MC H λr e H=>k r e ⟨a,b,c,d,ca,la,H⟩
theorem Gu (S:bq Q D G w0 w s L0) {j j1 b c:Nat} {l:List AC} {g h:AC} (i:L0[j]? =some (b,l)) (m:L0[j1]? =some (c,[g,h])) (n:j≠j1) (o:l.length=2) (V E:Int)
 (kk: ∀a,bq Q D G w0 a s ((L0.set j (b,[ay V,aa E])).set j1 (c,[ay (if E=0 then V else 0),aa E]))->K (if E=0 then V else 0,E,()) a):
 az w (af b) [ay V,aa E] λ(a:A2)=>true=true/\aj a none (ad (af b) 1) (.one (.int .i64)) λ(x:Int)=>
  aI (x != 0)
   (true=true/\aj a none (ad (af b) 1) (.one (.int .i64)) λ(x:Int)=>True/\
    az a (af c) [ay 0,aa x] λ(a:A2)=>au a λ(w1:A2)=>aj w1 none (af c) (.agg [.int .u64,.int .i64]) λ(x:Int×Int×Unit)=>K (x.1,x.2.1,()) w1)
   (aj a none (af b) (.agg [.int .u64,.int .i64]) λ(x:Int×Int×Unit)=>
    az a (af c) [ay x.1,aa x.2.1] λ(a:A2)=>au a λ(w1:A2)=>aj w1 none (af c) (.agg [.int .u64,.int .i64]) λ(x:Int×Int×Unit)=>K (x.1,x.2.1,()) w1):=by
 have p:j<L0.length:=(Bs.1 i).1;refine S.fi j i rfl o.symm λa S=>?_;have d:(L0.set j (b,[ay V,aa E]))[j]? =some (b,[ay V,aa E]):=DH p;have k:(L0.set j (b,[ay V,aa E]))[j1]? =some (c,[g,h]):=by rw[DN n];exact m
 refine⟨rfl,S.cA j d (show _=some E from rfl) ?_⟩;refine ab (λe=>?_) (λe=>?_)
 ·have e: ¬ E=0:=by simpa using e
  rw[ao e] at kk;exact⟨rfl,S.cA j d (show _=some E from rfl) ⟨trivial,S.res k 0 E λf S=>kk f S⟩⟩
 ·have e:E=0:=by simpa using e
  rw[av e] at kk;exact S.ld j d (show _=some (V,E,()) from rfl) (S.res k V E λf S=>kk f S)
theorem ZQ {a:Nat} {sh:Sh} {args:List AC} {w:A2} {K:sh.T->A2->Prop} (hc:bJ AB a=true) (b: ∀w1,Ext w w1->aC AB a sh args w1 K):zZ AB (.func (.func a) #[] #[]) sh args w K:=by
 unfold zZ;refine λw1 h1=>⟨a, #[], #[],rfl,hc,?_⟩;have e:c_ #[] args #[]=args:=by unfold c_;simp
 rw[e];exact b w1 h1
theorem ZR (H:jn Q X D G w0 w h L) (R:Cf Q h) (v k:Int) {a b c:Int} (U:0<=a/\a<18446744073709551616) (hb:0<=b/\b<18446744073709551616) (hc:0<=c/\c<18446744073709551616)
 (kk: ∀o,jn Q X D G w0 o (kU h v k a b c) L->K (xY h v k a b c,sM h v k a b c,()) o):
 aC AB 42 (.el (.agg iP)) [ag (af X.hb),aa v,.agg ⟨f_ k a b c⟩] w K:=by
 obtain⟨A,W,H⟩:=H;obtain⟨Y,S,J⟩:=H.call;refine aR (C:=V1) (aQ:=λ_=>[]) (AH (ZI _ v k a b c w K) ?_);unfold sM xY kU at kk;refine S.al λZ o S=>S.al λb1 w3 S=>⟨_,mV S (X:=X) (A:=A) (g:=h.g) (by simp),an rfl ?_⟩;have B: ∀e,e≠0->iY h v k a b c=e-> ∀{o:A2} {x:List AC},bq Q [] Y w o h.s ((b1,x)::(Z,f_ k a b c)::d_ Q X A h (a_ Q A h.g (AF 17)++L))->K (0,e,()) o:=λe E h1 o x S=>by
  rw[h1,ao E,ao E,ao E] at kk;exact kk o ⟨A,W,J S.tail.tail⟩
 have l:iY h v k a b c=if(decide (v<0)||decide (v>16)|| !iC k a b c)=true then 1 else if(!(v==0)==uW k)=true then 7 else if(decide (v>0)&& !aV h.g v)=true then 4 else 0:=rfl;refine S.ld 1 rfl (show _=some (k,a,b,c,()) from rfl) ⟨iC k a b c,λ_=>Ef k a b c,?_⟩;refine ab (λd=>⟨trivial,S.res (j:=0) rfl 0 1 λm S=>?_⟩) (λd=>⟨rfl,S.cA 1 rfl rfl ⟨uW k,Hk k,?_⟩⟩)
 ·rw[av d] at l;exact B 1 (by decide) l S
 rw[ao (by rw[d];decide)] at l;simp only[Dn,decide_eq_false_iff_not,Bool.not_eq_false'] at d;obtain⟨⟨dv0,dv1⟩,F⟩:=d;refine ab (λd=>⟨trivial,S.res (j:=0) rfl 0 7 λm S=>?_⟩) (λd=>⟨aV h.g v,λ_=>pZ S (X:=X) (A:=A) (g:=h.g) (by simp) v,?_⟩)
 ·rw[av d] at l;exact B 7 (by decide) l S
 rw[ao (by rw[d];decide)] at l;have I:=d;refine ab (λd=>⟨trivial,S.res (j:=0) rfl 0 4 λm S=>?_⟩) (λd=>⟨rfl,S.cA 1 rfl rfl (S.ld 1 rfl (show _=some (k,a,b,c,()) from rfl) ?_)⟩)
 ·rw[av d] at l;exact B 4 (by decide) l S
 rw[ao (by rw[d];decide)] at l;rw[l,av rfl,av rfl,av rfl] at kk;have y:1<=k/\k<=17:=by
  unfold iC at F;rw[E5,decide_eq_true_eq] at F;have d1:=F.1;unfold jV at d1;by_cases e:1<=k/\k<=17
  ·exact e
  ·rw[ao e] at d1;exact absurd d1 (by decide)
 have hl:uW k=false->aV h.g v=true:=λe=>by
  rw[e] at I;have XS:v≠0:=by
   intro e0;rw[e0] at I;exact absurd I (by decide)
  have:decide (v>0)=true:=decide_eq_true (by omega);rw[this,H4] at d;simpa using d
 have call: ∀{T:List (Nat×List AC)} {m:A2} {M:RS->A2->Prop},SM Q D G w0 m h.s (T++d_ Q X A h (a_ Q A h.g (AF 17)++L)) (dm A h.g (AF 17))->
  (∀V p f,((run h v k a b c).2.2=0->V=(run h v k a b c).2.1)->Dm f (run h v k a b c).1->SM Q D G w0 p (run h v k a b c).1.s (T++d_ Q X f (run h v k a b c).1 (a_ Q f (run h v k a b c).1.g (AF 17)++L)) (dm f (run h v k a b c).1.g (AF 17))->M (V,(run h v k a b c).2.2,()) p)->
  zZ AB (.func (.func (lS k)) #[] #[]) (.el (.agg iP)) [ag (af X.hb),aa v,.agg ⟨f_ k a b c⟩] m M:=λ{T m M} H kk2=>by
  refine ZQ (C4 y) λp h5=>?_;refine dR (jn.of W (H.ext h5)) R y hl U hb hc λV z n H=>?_;obtain⟨f,q,H⟩:=jn.to H;exact kk2 V z f n q H
 have fin: ∀{V:Int},((run h v k a b c).2.2=0->V=(run h v k a b c).2.1)->(if(run h v k a b c).2.2=0 then V else 0)=if(run h v k a b c).2.2=0 then(run h v k a b c).2.1 else 0:=λ{V} n=>by
  by_cases e:(run h v k a b c).2.2=0
  ·rw[av e,av e,n e]
  ·rw[ao e,ao e]
 refine⟨?_,?_⟩
 ·refine(J S).Pv λr m H=>?_;have N:bF m r cX 17:=H.get AT;have H:=H.FO (B4 _ _);obtain⟨G2,S,O⟩:=H.call;refine⟨dV (S.get (i:=1) rfl) rfl,?_,trivial, _,wx N y,?_,?_⟩
  ·rw[aW];exact dV (S.get (i:=1) rfl) rfl
  ·refine call (T:=[_, _]) H λV p f n q H=>?_;obtain⟨G3,S,t⟩:=H.call;refine S.al λP z S=>Gu S (j:=0) (j1:=1) rfl rfl (by decide) rfl V _ λu S=>?_;rw[fin n];exact kk u ⟨f,q,t S.tail.tail.tail⟩
  ·refine S.al λP p S=>call (T:=[_, _, _]) (O S) λV z f n q H=>?_;obtain⟨G3,S,t⟩:=H.call;refine Gu S (j:=0) (j1:=1) rfl rfl (by decide) rfl V _ λu S=>?_;rw[fin n];exact kk u ⟨f,q,t S.tail.tail.tail⟩
 ·refine S.al λP m S=>(J S).Pv λr p H=>?_;have N:bF p r cX 17:=H.get AT;have H:=H.FO (B4 _ _);obtain⟨G2,S,O⟩:=H.call;refine⟨dV (S.get (i:=2) rfl) rfl,?_,trivial, _,wx N y,?_⟩
  ·rw[aW];exact dV (S.get (i:=2) rfl) rfl
  ·refine call (T:=[_, _, _]) H λV z f n q H=>?_;obtain⟨G3,S,t⟩:=H.call;refine Gu S (j:=0) (j1:=1) rfl rfl (by decide) rfl V _ λu S=>?_;rw[fin n];exact kk u ⟨f,q,t S.tail.tail.tail⟩
end
open Po (tv JZ OD Gm Ig xB si OE)
section
variable {w0:A2} {Q:Sys} {X:HX} {A:Nat->GA} {g:Nat->Option GV} {gs:List GT} {po:List Po.PT}
structure HBl (w0:A2) (Q:Sys) (X:HX) (A:Nat->GA) (g:Nat->Option GV) (gs:List GT) (po:List Po.PT):Prop where
 hb:bK w0 X.hb (fj Q X A g)
 gb:bK w0 X.gb (mB X.uJ gs.length X.c)
 gr:bK w0 X.uJ (flat eG gs++X.rest)
 pb:bK w0 X.pb (Po.gy 4 po)
 gl:gs.length=16
 gk:n6 gs
 pt:Po.lJ 4 po
end
section
variable {Q:Sys} {X:HX} {D G:List Nat} {w0 w:A2} {h:HS} {L:List (Nat×List AC)}
end
end Go.Proofs.YtlcenllcmeebhaaGreat
namespace Go.Proofs.YtlcenllcmeebhaaGreat.Po
set_option maxRecDepth 100000
open Go.RX
def k0:List PT:=Aq 512 zP
theorem Sf {room:Int} (h1:1<=room) (a:room<=32):lJ room k0 where
 len:=DQ
 lo:=h1
 hi:=a
 inv g i h:=by
  refine .inl ?_;unfold gp k0;rw[F4,List.getElem?_replicate];split<;>rfl
theorem MD (n:Int) (w:A2) (a:Option AG×Int×Unit->A2->Prop):(aK R1 (λ_=>[]) 74 [aa n] w a)=(
 aI (decide (n<1)||decide (n>32)) (au w (a (none,1,()))) (aN w ⟨gy n k0⟩ 221 λb c=>au c (a (some ⟨b,0,none⟩,0,())))):=by kernel_rfl
section
variable {D G:List Nat} {w0 w:A2} {L:List (Nat×List AC)}
theorem Sg (H:aL D G w0 w L) (n:Int) {K:Option AG×Int×Unit->A2->Prop} (hb:n<1\/n>32-> ∀w1,aL D G w0 w1 L->K (none,1,()) w1)
 (d:1<=n->n<=32-> ∀bp w1,aL D G w0 w1 ((bp,gy n k0)::L)->K (some ⟨bp,0,none⟩,0,()) w1):
 aA AB 74 (.bu [.one .ptr,.one (.int .i64)]) [aa n] w K:=by
 refine aA.go H λw1 H=>ai (C:=R1) (aQ:=λ_=>[]) (AH (MD n w1 K) ?_);refine ab (λc=>?_) (λc=>?_)
 ·exact au.go H λa H=>hb (by simp at c;omega) a H
 ·refine aN.go H λb a H=>au.go H λe H=>d (by simp at c;omega) (by simp at c;omega) b e H
end
end Go.Proofs.YtlcenllcmeebhaaGreat.Po
namespace Go.Proofs.YtlcenllcmeebhaaGreat
set_option maxRecDepth 100000
open Go.RX D
def h0 (n:Nat):HS:={s:=fresh (16*n) n,g:=λ_=>none,gr:=Aq 16 zG,po:=Po.k0}
section
variable {D G:List Nat} {w0 w:A2} {L:List (Nat×List AC)}
theorem VR (H:aL D G w0 w L) (n:Int) {K:Option AG×Int×Unit->A2->Prop} (kb:n<4\/n>4096-> ∀w1,aL D G w0 w1 L->K (none,1,()) w1)
 (A:4<=n->n<=4096-> ∀Q X w1,Q.c=16*n.toNat->jn Q X D G w0 w1 (h0 n.toNat) L->K (some ⟨X.hb,0,none⟩,0,()) w1):
 aA AB 40 (.bu [.one .ptr,.one (.int .i64)]) [aa n] w K:=by
 refine aA.go H λw1 H=>ai (C:=V0) (aQ:=λ_=>[]) (AH (VA n w1 K) ?_);refine ab (λc=>au.go H λp H=>kb (by simpa using c) p H) (λc=>?_);have q:4<=n/\n<=4096:=by
  simp only[Dn,decide_eq_false_iff_not] at c;omega
 obtain⟨m,rfl⟩: ∃m:Nat,n=(m:Int):=⟨n.toNat,by omega⟩;have e:iy .i64 16 (m:Int)=((16*m:Nat):Int):=by rw[eJ (by omega) (by omega)];omega
 rw[e];refine aN.go H λb p H=>?_;refine xz (n:=16*m) H (by omega) λbm bw B H=>⟨rfl,rfl,?_⟩;generalize r:Aq (16*m) (0:Int)=W at H;refine az.e8 2 H rfl rfl rfl λE H=>?_;refine Cz H (m:Int) (λhb=>by omega) λ_ _ bp bf F H=>⟨rfl,rfl,?_⟩;rw[show((m:Int)).toNat=m from rfl] at H;generalize s:Aq m zD=DS at H;refine az.e8 4 H rfl rfl rfl λI H=>?_;refine UW H 16 (by decide) λgb gr J H=>⟨rfl,rfl,?_⟩;obtain⟨t,u⟩: ∃t,t=Aq 16 zG:=⟨_,rfl⟩;rw[<-u] at H;refine az.e8 6 H rfl rfl rfl λM H=>?_;refine Po.Sg H 4 (λhb=>by omega) λ_ _ pb N H=>⟨rfl,rfl,?_⟩;obtain⟨v,y⟩: ∃v,v=Po.k0:=⟨_,rfl⟩;rw[<-y] at H;refine az.e8 7 H rfl rfl rfl λO H=>au.go H λz H=>?_;refine A q.1 q.2 ⟨bm,bw,bf,bp,16*m,m,[],[]⟩ ⟨b,gb,gr,pb,16,[]⟩ z rfl ⟨λ_=>⟨0,0,0,0,[]⟩,⟨λh=>(by cases h),λh=>(by cases h),rfl,Po.Sf (by decide) (by decide),n6.new 16⟩,SM.of ⟨?_,?_,?_,?_,0,0,?_⟩⟩
 ·show 0<(Aq (16*m) (0:Int)).length;rw[DQ];omega
 ·show 0<(Aq m zD).length;rw[DQ];omega
 ·show(Aq m zD).length<=4096;rw[DQ];omega
 ·intro x o;have o:x∈Aq (16*m) (0:Int):=o;rw[H5 o];decide
 ·unfold Sys.L;show aL D G w0 z ((bm,lT bw (Aq (16*m) (0:Int)).length (16*m) 0 0)::(bw,flat eW (Aq (16*m) (0:Int))++[])::(bf,flat eD (Aq m zD)++[])::(bp,[.slice (af bf) (Aq m zD).length m])::(b,fj _ _ (λ_=>⟨0,0,0,0,[]⟩) λ_=>none)::(gb,mB gr (Aq 16 zG).length 16)::(gr,flat eG (Aq 16 zG)++[])::(pb,Po.gy 4 Po.k0)::([]++L));rw[r,s, <-u, <-y,show W.length=16*m by rw[<-r,DQ],show DS.length=m by rw[<-s,DQ]];refine H.perm ?_;have p1: ∀(x1 a d f g j k l:Nat×List AC),([j,k,g,f,l,a,d,x1]++L).Perm ([x1,a,d,f,g,j,k,l]++L):=λx1 a d f g j k l=>by
   refine Gi L ?_;exact(show([5,6,4,3,7,1,2,0]:List Nat).Perm [0,1,2,3,4,5,6,7] by decide).map λi=>([x1,a,d,f,g,j,k,l]:List (Nat×List AC)).getD i x1
  exact p1 _ _ _ _ _ _ _ _
end
end Go.Proofs.YtlcenllcmeebhaaGreat
