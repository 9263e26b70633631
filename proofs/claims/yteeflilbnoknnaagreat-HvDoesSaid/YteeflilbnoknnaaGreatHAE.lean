import Derived.Test.YteeflilbnoknnaaGreatHAD
/-! What the statement leans on: texts joined and shortened by a program of mine. -/
set_option linter.unusedVariables false
set_option linter.unusedSimpArgs false
open Go renaming World->A2,Value->AG,Addr->AT,MapEntry->B2
open Go.Proofs.Tryz renaming prog->AC
open List renaming range->AE,replicate->AU,mem_cons_self->AZ,mem_cons_of_mem->B1,getElem?_set_ne->B3,getElem?_eq_some_iff->B4,getElem?_of_mem->B5,getElem?_set_self->C7,sublist_cons_self->C9,mem_append_right->Ce,mem_of_getElem?->Ch,length_set->Cs,mem_map->Ct,length_map->DA,mem_range->DB,getD_eq_getElem?_getD->DS,length_replicate->Df,mem_cons->Dm,getElem?_map->Dn,getElem?_eq_getElem->Du,perm_cons_erase->Dx,filter_cons->E4,sublist_append_left->E5,eq_of_mem_replicate->FB,foldl_cons->FC,length->FJ,map_cons->FS,filter_eq_self->Fe,mem_append_left->Ff,perm_append_comm->Fh,length_cons->Fk,getElem?_inj->H2,findIdx?_eq_some_iff_getElem->H4,drop_eq_getElem_cons->H5,filter_cons_of_neg->H6,nodup_cons->H7,sublist_append_right->H8,flatMap_cons->H9,getElem?_append_right->HB,set_append_right->HD,countP_eq_length_filter->HF,find?_range_eq_some->HH,ext_getElem?->HQ,perm_append_comm_assoc->HY,any_eq_true->Hb,getElem?_replicate->Hr,map_append->Hz,sum_append->I1,countP_pos_iff->I8,countP_cons->I_
open Eq renaming mpr->AR
open Int.ofNat renaming inj->DC
open Nat renaming le_refl->Da,eq_zero_or_pos->Do,lt_succ_self->IR
open Bool renaming or_eq_false_iff->Dl,and_eq_true->Dt,or_eq_true->Fm,not_eq_true'->Fz,and_eq_false_iff->In
open List.Perm renaming flatMap_right->FA,refl->J3
open Option renaming map_eq_some_iff->GS
open Array renaming contains_push->Gi
namespace Go.Proofs.YteeflilbnoknnaaGreat
set_option maxRecDepth 100000
open Go.RX D
namespace Inv
variable {g:Gh} {s:WD}
theorem XD (I:Inv g s) {o r p f0:Int} (n:g r=some (o,3,0)) (a:0<=p/\p<65536) (E:dP g s o p f0 0):
 ∃F:Nat->Int,F 0=f0/\Up g s o p F 0/\(bG s.1 p 3 r).reverse=E_ F p 0 3:=by
 have ⟨f1,a1,b1⟩:=I.E9 E.1 (by decide);have ⟨f2,e,b2⟩:=I.E9 a1 (by decide);have ⟨f3,f,b3⟩:=I.E9 e (by decide);have q:f3=r:=by
  refine I.inj f ?_;rw[n];have:=WX a;simp only[px] at this ⊢;rw[this]
 subst q;have b:=I.pQ E.1;have c:=I.pQ a1;have d:=I.pQ e;have j:=I.pQ f;refine⟨λi=>match i with|0=>f0|1=>f1|2=>f2| _=>f3,rfl,⟨λi _ h=>?_,λi _ h=>?_⟩,?_⟩
 .rcases i with _| _| _| _|i
  .exact E.1
  .exact a1
  .exact e
  .exact f
  .omega
 .rcases i with _| _| _|i
  .exact b1
  .exact b2
  .exact b3
  .omega
 .have k:=ko ⟨j.1,j.2.1⟩ a (l:=3) (by omega);have m:=ko ⟨d.1,d.2.1⟩ a (l:=2) (by omega);have t:=ko ⟨c.1,c.2.1⟩ a (l:=1) (by omega);have u:=ko ⟨b.1,b.2.1⟩ a (l:=0) (by omega);have t2:=fk ⟨d.1,d.2.1⟩;have t1:=fk ⟨c.1,c.2.1⟩;have t0:=fk ⟨b.1,b.2.1⟩;have v:aO s.1 (c9 f3 p (2+1:Nat))=cw f2:=by rw[k];exact b3
  have w:aO s.1 (c9 f2 p (1+1:Nat))=cw f1:=by rw[m];exact b2
  have x:aO s.1 (c9 f1 p ((0+1:Nat):Int))=cw f0:=by grind
  have w1:bG s.1 p 1 f1=[(f1,((0+1:Nat):Int),c9 f1 p ((0+1:Nat):Int),()),(f0,0,c9 f0 p 0,())]:=by rw[bG,x,az t0];rfl
  have y:bG s.1 p 2 f2=[(f2,((1+1:Nat):Int),c9 f2 p ((1+1:Nat):Int),()),(f1,((0+1:Nat):Int),c9 f1 p ((0+1:Nat):Int),()),(f0,0,c9 f0 p 0,())]:=by
   rw[bG,w,az t1];show _::bG s.1 p 1 f1= _;rw[w1]
  have z:bG s.1 p 3 f3=[(f3,((2+1:Nat):Int),c9 f3 p ((2+1:Nat):Int),()),(f2,((1+1:Nat):Int),c9 f2 p ((1+1:Nat):Int),()),(f1,((0+1:Nat):Int),c9 f1 p ((0+1:Nat):Int),()),(f0,0,c9 f0 p 0,())]:=by
   rw[bG,v,az t2];show _::bG s.1 p 2 f2= _;rw[y]
  have A:c9 f0 p 0=16*f0+px 0 p % 16:=u;have B:=t;have C:=m;have D:=k;rw[z,A,B,C,D];rfl
theorem ID {s:WD} {n:Nat} {d:DT} (h:s.2[n]? =some d) (k:d.1=3\/d.1=5): ∃d':DT,s.2[n]? =some d'/\(d'.1=5\/(d'.1=3/\d.1=3)):=by grind
theorem Bc (I:Inv g s) {o r p:Int} (m:g r=some (o,3,0)) (c:0<=p/\p<65536) (h0:rK s o r false p=0):
 ∃g',tw (pj o 0 p) o g g' s (hH s o r false p)/\bC (hH s o r false p) r false p=(0,0,4,())/\(bC s r false p).2.2.1=0/\
  (∃f j,j<=1/\dP g s o p f j/\(aO s.1 (16*f+px j p % 16)).1=true/\cB (hH s o r false p).2 0+j=cB s.2 0)/\(Dg g s none->Dg g' (hH s o r false p) none):=by
 have u:(bC s r false p).2.2.1=0:=by
  unfold rK at h0
  grind
 have A:kB s o r p=0:=by unfold rK at h0;grind
 have ⟨f,j,T,d⟩:=I.kG m c;have w:=u;rw[I.gv m c d] at w;have n:=tU w;have B:j<=1:=by
  rcases I.leaf d.1 (fC p j).1 (fC p j).2 n d.2 with h|h<;>omega
 have ⟨g1,f0,C1,E1,V,C⟩:=I.split m c d n A;have D:hH s o r false p=ij (bG (fu s o r p).1 p 3 r).reverse (fm (fu s o r p).1 (cM (fu s o r p).1 r p).2.2.1 0,(fu s o r p).2):=by
  unfold hH;grind
 have q:=C1.root.to m;have E:=(C1.inv.iK q c E1).1;rw[D,E];generalize fu s o r p=t at*
 have hi:=fC p 0;have ⟨x,G,H,J,K⟩:=C1.inv.zI (v:=0) E1.1 hi.1 hi.2 E1.2 (by rw[ph];exact FD) (by rw[ph];exact Bd _) (λ_=>rfl) E1 rfl;have ⟨F,y,U,L⟩:=C1.inv.XD q c E1;rw[L];dsimp only;have M:Up g1 (fm t.1 (16*f0+px 0 p % 16) 0,t.2) o p F 0:=by
  refine⟨U.gh,λi l h2=>?_⟩;have N:=U.ne (a:=i+1) (b:=0) (by omega) (by omega) (by omega) (by omega) (by omega);rw[y] at N;rw[ir (by omega)];exact U.ld i l h2
 have ⟨O,C3,W,P⟩:=thin c 3 rfl x M;have C2:tw (pj o 0 p) o g1 g1 t _:=⟨x,.refl _,G,H,λh k=>ID h k,⟨cL _ _ _,rfl⟩,C1.inv.CM E1.1 hi.1 hi.2 _,λ_ nl=>nl.upd E1.1 hi.1 hi.2 (λb hb=>ir (λe=>hb e.symm)) λ_ _=>rfl,λh=> .inl h⟩;refine⟨O,((C1.mono λ_ _ h=>h.elim).trans C2).trans (C3.mono λ_ _ h=>h.elim),?_,u,⟨f,j,B,d,n,?_⟩,λh=>?_⟩
 .have ⟨f',X,l,h2⟩:=C3.Dr (λh=>h) (J p rfl).1;rw[C3.inv.gv (C3.root.to q) c l,h2];rw[K,ph];rfl
 grind
 .refine P λf1 Y l1 Z l Q z=>?_;rw[y] at z;have vl:f1≠f0:=λe=>z (by rw[e]);have ⟨k,k0,R,S⟩:=C h l Q (by simp);exact⟨k,k0,R,by rw[ir (by omega)];exact S⟩
theorem tR (I:Inv g s) {o r p rt:Int} (d:g r=some (o,3,0)) (h0:Cq s o r false p rt=0):
 (0<=p/\p<65536)/\ ∃g',tw (pj o 0 p) o g g' s (pY s o r false p rt)/\(bC s r false p).2.2.1=0/\bC (pY s o r false p rt) r false p=((bC s r false p).1,rt,0,())/\
  cB s.2 0<=cB (pY s o r false p rt).2 0+1:=by
 have u: ¬ (false=true):=by decide
 unfold Cq at h0;rw[ar u] at h0;have l:jL p 0 rt=0:=by
  grind
 rw[az l] at h0;have y:(0<=p/\p<65536)/\1<=rt/\rt<=7:=by
  unfold jL at l
  grind
 obtain⟨a,J⟩:=y;refine⟨a,?_⟩;obtain⟨f,j,K,c⟩:=I.kG d a;obtain⟨z,eP⟩:=I.iK d a c;have L:=I.gv d a c;by_cases m:(cx s.1 r p).1=true
 .rw[az m] at h0;have A:pY s o r false p rt=(if((cx s.1 r p).2.2.1&&(cx s.1 r p).2.1==rt)=true then s
   else if kB s o r p=0 then dx (fu s o r p) (cM (fu s o r p).1 r p).2.2.1 (true,rt,false,l9 p (cM s.1 r p) (cx s.1 r p),()) else fu s o r p):=by
   unfold pY;rw[ar u,az l,az m]
  rw[A];have i:(aO s.1 (16*f+px j p % 16)).1=true:=by rw[<-eP];exact m
  have n:bC s r false p=(l9 p (cM s.1 r p) (cx s.1 r p),(cx s.1 r p).2.1,0,()):=by
   unfold bC
   grind
  by_cases q:((cx s.1 r p).2.2.1&&(cx s.1 r p).2.1==rt)=true
  .rw[az q];refine⟨g,.refl I _ _,by rw[n],?_,by omega⟩
   grind
  .rw[ar q] at h0;rw[ar q,az h0];obtain⟨g1,f0,C1,E1,d1,M⟩:=I.split d a c i h0;have v:=C1.root.to d;have B:=(C1.inv.iK v a E1).1;rw[B];have N:0<=l9 p (cM s.1 r p) (cx s.1 r p)/\l9 p (cM s.1 r p) (cx s.1 r p)<4096:=by
    have w:=oO s.1 (16*f+px j p % 16);have C:=I.leaf c.1 (fC p j).1 (fC p j).2 i c.2;rw[eP,z];generalize aO s.1 (16*f+px j p % 16)=e at*
    obtain⟨ep,er,el,ef,O⟩:=e;dsimp only at i w C;subst i;obtain⟨b1,b2,b3,P,Q⟩:=oH.1 w;unfold l9
    grind
   have R:j<=1:=by
    rcases I.leaf c.1 (fC p j).1 (fC p j).2 i c.2 with h|h<;>omega
   have D:(bC s r false p).1=l9 p (cM s.1 r p) (cx s.1 r p):=by rw[n]
   rw[D];generalize l9 p (cM s.1 r p) (cx s.1 r p)=fr at*
   generalize fu s o r p=t at*
   have hv:fS (Sj (true,rt,false,fr,()))=(true,rt,false,fr,()):=by
    show fS (xU true rt false fr)= _;exact x_ (oH.2 (by omega))
   have hi:=fC p 0;obtain⟨x,E,F,G,H⟩:=C1.inv.zI E1.1 hi.1 hi.2 E1.2 (by rw[hv];exact Nz (by omega)) (by rw[hv];exact λ_ _=> .inl ⟨rfl,rfl⟩) (λh=>by rw[hv] at h;cases h) E1 rfl;have C2:tw (pj o 0 p) o g1 g1 t _:=⟨x,.refl _,E,F,λh k=>ID h k,⟨cL _ _ _,rfl⟩,C1.inv.CM E1.1 hi.1 hi.2 _,λ_ nl=>nl.upd E1.1 hi.1 hi.2 (λb hb=>ir (λe=>hb e.symm)) λ_ _=>rfl,λh=> .inl h⟩;refine⟨g1,(C1.mono λ_ _ h=>h.elim).trans C2,by rw[n],?_,?_⟩
   .show bC (fm t.1 (16*f0+px 0 p % 16) _,t.2) r false p= _;rw[x.gv v a (G p rfl).1];show rL p 0 (aO (fm t.1 _ _) _)= _;rw[H,hv];rfl
   .show _<=cB t.2 0+1;omega
 grind
theorem map (I:Inv g s) {o r p f rt:Int} (b:g r=some (o,3,0)) (h0:iW s r false p f rt=0):
 (0<=p/\p<65536)/\ ∃g',tw (pj o 0 p) o g g' s (js s o r false p f rt)/\bC (js s o r false p f rt) r false p=(f,rt,0,())/\1<=rt/\(bC s r false p).2.2.1=4/\
  (∃f0,dP g' (js s o r false p f rt) o p f0 0)/\
  (∃f0 j,dP g s o p f0 j/\cB (js s o r false p f rt).2 0+j=cB s.2 0)/\(Dg g s none->Dg g' (js s o r false p f rt) none):=by
 unfold iW at h0;have c:jL p f rt=0:=by
  grind
 rw[az c] at h0;have d:(0<=p/\p<65536)/\(0<=f/\f<4096)/\1<=rt/\rt<=7:=by
  unfold jL at c
  grind
 have ⟨a,q,e⟩:=d;have i:js s o r false p f rt=pW s o r p 0 (true,rt,false,f,()):=by unfold js;grind
 rw[i];have k:aZ _ rt false f=true:=oH.2 (by omega);have ⟨g',C,A,⟨f1,j,t,l,m,hc⟩,u⟩:=I.put b a rfl k (Nz (by omega)) (λ_ _=> .inl (by grind)) h0;have ⟨f2,E2,n⟩:=A p rfl;refine⟨a,g',C,?_,e.1,?_,⟨f2,E2⟩,by grind⟩
 .have h:=C.inv.gv (C.root.to b) a E2;rw[n] at h;exact h
 .rw[I.gv b a l,AP _ _ m]
end Inv
set_option maxRecDepth 100000
open Go.RX D
def fresh (n m:Nat):WD:=(AU n 0,AU m zD)
abbrev noG:Gh:=λ_=>none
theorem K3 {n m:Nat} (h:16*m<=n) (a:m<=4096):Inv noG (fresh n m) where
 len:=by
  show 16*(AU m zD).length<=(AU n (0:Int)).length;simpa using h
 le:=by
  show(AU m zD).length<=4096;simpa using a
 fz:=λd hd _=>FB hd
 kd:=by intro f o l x h;cases h
 inj:=by intro f o l h;cases h
 oW:=by intro f o l x i h;cases h
 leaf:=by intro f o l x i h;cases h
 E9:=by intro f o l x h;cases h
 wf:=by intro f o l x i h;cases h
 tb:=by
  intro k d hd b;have:d=zD:=FB (Ch hd);subst this;cases b
namespace Inv
variable {g:Gh} {s:WD}
theorem born (I:Inv g s) {o:Int} (y:1<=o/\o<=16) (C: ∀f,g f≠some (o,3,0)) (hc:0<cB s.2 0):
 oZ s o=0/\g (fb s o)=none/\0<=fb s o/\fb s o<s.2.length/\(g8 s o λ_=>0).2=s.2.set (fb s o).toNat (3,o,0,0,())/\s.2[(fb s o).toNat]? =some zD/\
 (∀b,(b<16*fb s o\/16*fb s o+16<=b)->eY (g8 s o λ_=>0).1 b=eY s.1 b)/\
 (∀k,0<=k->k<16->eY (g8 s o λ_=>0).1 (16*fb s o+k)=0)/\(g8 s o λ_=>0).1.length=s.1.length/\
 Inv (lr g (fb s o) (some (o,3,0))) (g8 s o λ_=>0):=by
 have ⟨n,N,D,O,P,Q⟩:=rj hc I.fz y;have E:fb s o=(n:Int):=O;have F:oZ s o=0:=P;have R:=I.len;have S:=I.le;have T:16*(n:Int)+16<=s.1.length:=by omega
 have ⟨W,t⟩: ∃W,W=dz s.1 (n:Int) (λ_=>0) 16:=⟨_,rfl⟩;have G:W.length=s.1.length:=by rw[t,gN]
 have H: ∀b,eY W b=if 16*(n:Int)<=b/\b<16*(n:Int)+16 then 0 else eY s.1 b:=λb=>by
  rw[t];exact qO (by omega) T 16 (Da _) b
 have eS:g8 s o (λ_=>0)=(W,s.2.set n (3,o,0,0,())):=by unfold g8;rw[az F,E,Q,t]
 clear t;have J:g (n:Int)=none:=by
  cases U:g (n:Int) with
  |none=>rfl
  |some v=>
   have ⟨a,b,c⟩:=v;have:=(I.kd U).2.2.1;rw[show((n:Int)).toNat=n from rfl,D] at this;cases this
 have u: ∀{f':Int} {v},g f'=some v->f'≠(n:Int):=λh e=>by rw[e,J] at h;cases h
 rw[eS,E];have z: ∀b,(b<16*(n:Int)\/16*(n:Int)+16<=b)->eY W b=eY s.1 b:=λb h=>by rw[H b,ar (by omega)]
 have A: ∀k,0<=k->k<16->eY W (16*(n:Int)+k)=0:=λk h0 i=>by rw[H,az (by omega)]
 have w1: ∀b,(b<16*(n:Int)\/16*(n:Int)+16<=b)->aO W b=aO s.1 b:=λb h=>by unfold aO;rw[z b h]
 have K: ∀k,0<=k->k<16->aO W (16*(n:Int)+k)=zE:=λk h0 i=>by unfold aO;rw[A k h0 i];exact ph
 have iQ: ∀{f0 p q k:Int} {j:Nat},g f0=some (p,j,q)->0<=k->k<16->aO W (16*f0+k)=aO s.1 (16*f0+k):=λ{f0 p q k j} h h0 i=>by
  have:=u h;exact w1 _ (by omega)
 refine⟨F,J,by omega,by omega,rfl,by rw[show((n:Int)).toNat=n from rfl];exact D,z,A,G,?_⟩;refine⟨?_,?_,?_,?_,?_,?_,?_,?_,?_,?_⟩
 .show 16*(s.2.set n _).length<=W.length;rw[G,Cs];exact R
 .show(s.2.set n _).length<=4096;rw[Cs];exact S
 .intro d hd h0;rcases List.mem_or_eq_of_mem_set hd with hd|rfl
  .exact I.fz d hd h0
  .cases h0
 .intro f0 p j q h;show _/\ _<((s.2.set n (3,o,0,0,())).length:Int)/\(s.2.set n (3,o,0,0,()))[f0.toNat]? = _/\ _;rw[Cs];by_cases e:f0=(n:Int)
  .subst e;rw[bR] at h;cases h;refine⟨by omega,by omega,?_,y.1,y.2,by omega⟩;rw[show((n:Int)).toNat=n from rfl,C7 N]
  .rw[a8 e] at h;have ⟨a1,V,X,Y⟩:=I.kd h;refine⟨a1,V,?_,Y⟩;rw[B3 (by omega)];exact X
 .intro a b v r hb;by_cases e:a=(n:Int)<;>by_cases w:b=(n:Int)
  .rw[e,w]
  .subst e;rw[bR] at r;rw[a8 w] at hb;cases r;exact absurd hb (C b)
  .subst w;rw[bR] at hb;rw[a8 e] at r;cases hb;exact absurd r (C a)
  .rw[a8 e] at r;rw[a8 w] at hb;exact I.inj r hb
 .intro f0 p j q k h h0 i l;by_cases e:f0=(n:Int)
  .subst e;have l:eM (aO W (16*(n:Int)+k))=true:=l;rw[K k h0 i,FD] at l;cases l
  .rw[a8 e] at h;have l:eM (aO W (16*f0+k))=true:=l;show∃m,j=m+1/\lr g n _ (aO W (16*f0+k)).2.2.2.1= _;rw[iQ h h0 i] at l ⊢;have ⟨Z,q1,L⟩:=I.oW h h0 i l;exact⟨Z,q1,by rw[a8 (u L)];exact L⟩
 .intro f0 p j q k h h0 i;show mo j (aO W (16*f0+k));by_cases e:f0=(n:Int)
  .subst e;rw[K k h0 i];exact Bd _
  .rw[a8 e] at h;rw[iQ h h0 i];exact I.leaf h h0 i
 .intro f0 p j q h hl;by_cases e:f0=(n:Int)
  .subst e;rw[bR] at h;cases h;omega
  .rw[a8 e] at h;have ⟨f',B,p2⟩:=I.E9 h hl;refine⟨f',by rw[a8 (u B)];exact B,?_⟩;show aO W _= _;rw[iQ B (by omega) (by omega)];exact p2
 .intro f0 p j q k h h0 i x;show eY W (16*f0+k)=0;by_cases e:f0=(n:Int)
  .subst e;exact A k h0 i
  .rw[a8 e] at h;have x:(aO W (16*f0+k)).1=false:=x;rw[iQ h h0 i] at x;have:=u h;rw[z _ (by omega)];exact I.wf h h0 i x
 .intro M d Z4 h3;by_cases e:M=n
  .subst e;exact⟨_,bR _ _ _⟩
  .have h':(s.2.set n (3,o,0,0,()))[M]? =some d:=Z4;rw[B3 (by omega)] at h';have ⟨v,hv⟩:=I.tb h' h3;exact⟨v,by rw[a8 (by omega)];exact hv⟩
end Inv
set_option maxRecDepth 100000
open Go.RX D
def Rt (g:Gh):Prop:= ∀f o x,g f=some (o,3,x)->x=0
theorem Rt.gC {g g':Gh} (h:Rt g) (k:nQ g g'):Rt g':=λf o x e=>h f o x ((k _ _ _).1 e)
def upx:Nat->Int->Int
 |0,x=>x
 |n+1,x=>upx n x / 16
theorem IE {ws:List Int} {l:Nat} {f z:Int}:z∈(AE 16).flatMap (kD ws l f)<-> ∃i:Nat,i<16/\ ∃m,l=m+1/\eM (aO ws (16*f+(i:Int)))=true/\z∈cC ws m (aO ws (16*f+(i:Int))).2.2.2.1:=by
 rw[List.mem_flatMap];constructor
 .rintro⟨hi,h⟩;cases l with
  |zero
  |succ=>
   unfold kD at h
   grind
 .rintro⟨i,hi,m,rfl,h⟩;unfold kD
  grind
theorem v9 (x:Int): ∀l:List Int,(kC x l).Perm (x::l)
 |[]=> .refl _
 |y::l=>by
  rw[kC];split
  .exact((v9 x l).cons y).trans (.swap _ _ _)
  simp
theorem BJ: ∀(l a:List Int),(l.foldl (λa x=>kC x a) a).Perm (l++a)
 |[],a=> .refl _
 |x::l,a=>by
  exact(BJ l _).trans (by grind[v9])
theorem Ah (l:List Int):(mR l).Perm l:=by grind[mR,BJ]
theorem QU (o:Int) (h:1<=o/\o<=16): ¬ (aI 5 0 (5,o,0,0,())).2=0:=by
 have a:dg 5 o 0 0=true:=by unfold dg gQ;grind
 show ¬ ff 5 o 0 0 5 0=0;unfold ff;rw[ar (by grind),ar (by grind),ar (by decide)]
 grind
theorem BK {o:Int} (c:1<=o/\o<=16): ∀(l:List Int) (ds:List DT),(∀f∈l,0<=f/\(ds[f.toNat]? =some (3,o,0,0,())\/ds[f.toNat]? =some (5,o,0,0,())))->
 (l.foldl (λds f=>eC ds f (aI 5 0)) ds).length=ds.length/\ ∀n:Nat,((n:Int)∈l->(l.foldl (λds f=>eC ds f (aI 5 0)) ds)[n]? =some (5,o,0,0,()))/\((n:Int)∉l->(l.foldl (λds f=>eC ds f (aI 5 0)) ds)[n]? =ds[n]?)
 |[],ds, _=>⟨rfl,by grind⟩
 |f::l,ds,h=>by
  have ⟨i,a⟩:=h f AZ;have r:f.toNat<ds.length:=by
   rcases a with h|h<;>exact(B4.1 h).1
  have j:(eC ds f (aI 5 0)).length=ds.length/\(eC ds f (aI 5 0))[f.toNat]? =some (5,o,0,0,())/\ ∀n:Nat,n≠f.toNat->(eC ds f (aI 5 0))[n]? =ds[n]? :=by
   rw[oA ⟨i,by omega⟩,DS];rcases a with a|a
   .rw[a];show((if(aI 5 0 (3,o,0,0,())).2=0 then ds.set f.toNat (aI 5 0 (3,o,0,0,())).1 else ds).length= _)/\(if(aI 5 0 (3,o,0,0,())).2=0 then ds.set f.toNat (aI 5 0 (3,o,0,0,())).1 else ds)[f.toNat]? = _/\ ∀n:Nat,n≠f.toNat->(if(aI 5 0 (3,o,0,0,())).2=0 then ds.set f.toNat (aI 5 0 (3,o,0,0,())).1 else ds)[n]? = _;rw[Ee c,az rfl]
    grind
   .rw[a];show((if(aI 5 0 (5,o,0,0,())).2=0 then ds.set f.toNat (aI 5 0 (5,o,0,0,())).1 else ds).length= _)/\(if(aI 5 0 (5,o,0,0,())).2=0 then ds.set f.toNat (aI 5 0 (5,o,0,0,())).1 else ds)[f.toNat]? = _/\ ∀n:Nat,n≠f.toNat->(if(aI 5 0 (5,o,0,0,())).2=0 then ds.set f.toNat (aI 5 0 (5,o,0,0,())).1 else ds)[n]? = _;rw[ar (QU o c)]
    grind
  rw[FC];have ⟨k,m,p⟩:=j;have ⟨q,d⟩:=BK c l (eC ds f (aI 5 0)) (by grind);refine⟨q.trans k,λn=>⟨λb=>?_,λb=>?_⟩⟩
  .by_cases g:(n:Int)∈l
   .exact(d n).1 g
   .rw[(d n).2 g];have:(n:Int)=f:=(Dm.1 b).resolve_right g;have e:n=f.toNat:=by omega
    rw[e];exact m
  .rw[(d n).2 (λh=>b (B1 _ h)),p n (λe=>b (by
   have:(n:Int)=f:=by omega
   rw[this];exact AZ))]
def Jm (g:Gh) (o:Int):Gh:=λf=>match g f with
 |some v=>if v.1=o then none else some v
 |none=>none
theorem dE {g:Gh} {o f:Int} {v:Int×Nat×Int}:Jm g o f=some v<->g f=some v/\v.1≠o:=by grind[Jm]
namespace Inv
variable {g:Gh} {s:WD}
theorem Ei (I:Inv g s): ∀(l:Nat) {f o x:Int},g f=some (o,l,x)-> ∀z∈cC s.1 l f, ∃l' b n,l'+n=l/\g z=some (o,l',b)/\upx n b=x:=by
 intro l
 induction l with
 |zero=>
  intro f o x c z a;rw[cC,List.mem_singleton] at a;subst a;exact⟨0,x,0,rfl,c,rfl⟩
 |succ l d=>
  intro f o x c z a;rw[kK] at a;rcases Dm.1 a with rfl|a
  .exact⟨l+1,x,0,rfl,c,rfl⟩
  .have ⟨i,hi,m,p,e,h⟩:=IE.1 a;have:m=l:=by omega
   subst this;have ⟨j,q,h2⟩:=I.oW c (by omega) (by omega) e;have:j=m:=by omega
   subst this;have ⟨l',b,n,r,k,t⟩:=d h2 z h;refine⟨l',b,n+1,by omega,k,?_⟩;show upx n b / 16=x;omega
theorem Ej (I:Inv g s) (c:Rt g) {r o:Int} (d:g r=some (o,3,0)): ∀(n:Nat) {l:Nat} {f x:Int},l+n=3->g f=some (o,l,x)-> ∀z∈cC s.1 l f,z∈cC s.1 3 r
 |0,l,f,x,h,a,z,b=>by
  have:l=3:=by omega
  subst this;have:=c _ _ _ a;subst this;rw[I.inj a d] at b
  grind
 |n+1,l,f,x,h,a,z,b=>by
  have ⟨f',i,h2⟩:=I.E9 a (by omega);have ⟨b1,b2, _⟩:=I.pQ a;refine I.Ej c d n (by omega) i z ?_;refine B1 _ (IE.2 ⟨(x % 16).toNat,by omega,l,rfl,?_⟩);have e:(x % 16).toNat=x % 16:=by omega
  rw[e,h2];exact⟨fk ⟨b1,b2⟩,b⟩
theorem K4 (I:Inv g s) (a:Rt g) {r o:Int} (b:g r=some (o,3,0)) (z:Int):z∈cC s.1 3 r<-> ∃l x,g z=some (o,l,x):=by
 constructor
 .obtain:=I.Ei
  grind
 .rintro⟨l,x,h⟩;have c:=(I.kd h).2.2.2.2.2;exact I.Ej a b (3 - l) (by omega) h z (by rw[kK];simp)
theorem dropped (I:Inv g s) (u:Rt g) {r o:Int} (w:g r=some (o,3,0)):
 Inv (Jm g o) (bV s r false)/\Rt (Jm g o)/\(bV s r false).1=s.1/\(bV s r false).2.length=s.2.length/\
  ∀n:Nat,((∃l x,g (n:Int)=some (o,l,x))->(bV s r false).2[n]? =some (5,o,0,0,()))/\((¬ ∃l x,g (n:Int)=some (o,l,x))->(bV s r false).2[n]? =s.2[n]?):=by
 have y: ¬ (false=true):=by decide
 have E:bV s r false=(s.1,(jy s r false).foldl _ s.2):=ar y;have F:jy s r false=mR (cC s.1 3 r):=ar y;have q: ∀z,z∈jy s r false<-> ∃l x,g z=some (o,l,x):=λz=>by
  rw[F,(Ah _).mem_iff];exact I.K4 u w z
 have A:=(I.kd w).2.2.2;have ⟨t1,t2⟩:=BK ⟨A.1,A.2.1⟩ (jy s r false) s.2 (λf G=>by
  have ⟨l,x,h⟩:=(q f).1 G;have ⟨a1,H,B, _⟩:=I.kd h;exact⟨a1,.inl B⟩)
 rw[E];generalize S:(jy s r false).foldl _ s.2=ds at t1 t2;have C:=λn h=>(t2 n).1 ((q _).2 h);have t: ∀n:Nat,(¬ ∃l x,g (n:Int)=some (o,l,x))->ds[n]? =s.2[n]? :=λn h=>(t2 n).2 (λJ=>h ((q _).1 J));refine⟨?_,λf o' x h=>u f o' x (dE.1 h).1,rfl,t1,λn=>⟨C n,t n⟩⟩;refine⟨?_,?_,?_,?_,?_,?_,?_,?_,?_,?_⟩
 .rw[t1];exact I.len
 .show ds.length<=4096;rw[t1];exact I.le
 .intro d hd h0;have ⟨n,i⟩:=B5 hd;by_cases h: ∃l x,g (n:Int)=some (o,l,x)
  grind
  .rw[t n h] at i;exact I.fz d (Ch i) h0
 .intro f o' l x h;have ⟨h,p⟩:=dE.1 h;have ⟨a1,H,B,T⟩:=I.kd h
  grind
 .intro a b v K hb;exact I.inj (dE.1 K).1 (dE.1 hb).1
 .intro f o' l x k h h0 j L;have ⟨h,p⟩:=dE.1 h;have ⟨m,M,N⟩:=I.oW h h0 j L;exact⟨m,M,dE.2 ⟨N,p⟩⟩
 .intro f o' l x k h h0 j;exact I.leaf (dE.1 h).1 h0 j
 .intro f o' l x h O;have ⟨h,p⟩:=dE.1 h;have ⟨f',P,Q⟩:=I.E9 h O;exact⟨f',dE.2 ⟨P,p⟩,Q⟩
 .intro f o' l x k h h0 j R;exact I.wf (dE.1 h).1 h0 j R
 .intro n d i D;by_cases h: ∃l x,g (n:Int)=some (o,l,x)
  .rw[C n h] at i;cases i;cases D
  .rw[t n h] at i;have ⟨v,hv⟩:=I.tb i D;refine⟨v,dE.2 ⟨hv,λe=>h ?_⟩⟩;have ⟨a,b,c⟩:=v;have e:a=o:=e;subst e;exact⟨b,c,hv⟩
end Inv
set_option maxRecDepth 100000
open Go.RX D
theorem CN {s:WD} {o r pg lv:Int} {e:ET} (h: ¬ lp s r pg lv=0):pW s o r pg lv e=s:=ar h
theorem IF {s:WD} {o r:Int} {gone:Bool} {pg f rt:Int} (h: ¬ iW s r gone pg f rt=0):js s o r gone pg f rt=s:=by
 unfold iW at h;unfold js;cases gone with
 |true=>simp
 |false=>
  by_cases c:jL pg f rt=0
  .rw[az c] at h ⊢;exact CN h
  grind
theorem tV {s:WD} {o r pg:Int} (h: ¬ kB s o r pg=0):fu s o r pg=s:=by
 unfold kB at h;unfold fu;by_cases c:(cM s.1 r pg).2.1=0
 .grind
 .rw[ar c] at h ⊢;rw[ar h,yf h]
theorem UF {s:WD} {o r:Int} {gone:Bool} {pg rt:Int} (h: ¬ Cq s o r gone pg rt=0):pY s o r gone pg rt=s:=by
 unfold Cq at h;unfold pY;cases gone with
 |true=>simp
 |false=>
  have a: ¬ false=true:=by grind
  rw[ar a] at h ⊢;by_cases c:jL pg 0 rt=0
  .rw[az c] at h ⊢;by_cases d:(cx s.1 r pg).1=true
   .rw[az d] at h ⊢;by_cases e:((cx s.1 r pg).2.2.1&&(cx s.1 r pg).2.1==rt)=true
    .grind
    .rw[ar e] at h ⊢;rw[ar h,tV h]
   grind
  grind
theorem IG {s:WD} {o r:Int} {gone:Bool} {pg:Int} (h: ¬ rK s o r gone pg=0):hH s o r gone pg=s:=by
 unfold rK at h;unfold hH;by_cases c:(bC s r gone pg).2.2.1=0
 .rw[az c] at h ⊢;rw[ar h,tV h]
 .rw[ar c]
theorem Ek {s:WD} {o r:Int} {gone:Bool} {pg:Int} (h: ¬ rK s o r gone pg=0):yE s o r gone pg=0:=ar h
theorem UG {s:WD} {r pg:Int} {gone:Bool} (h:(bC s r gone pg).2.2.1=0):gone=false/\0<=pg/\pg<65536:=by
 unfold bC at h;cases gone with
 |true=>rw[az rfl] at h;exact absurd h (by decide)
 |false=>
  rw[ar (by decide)] at h;by_cases c:pg<0\/pg>=65536
  .rw[az c] at h;exact absurd h (by decide)
  .exact⟨rfl,by omega,by omega⟩
namespace Inv
variable {g:Gh} {s:WD}
end Inv
set_option maxRecDepth 100000
open Go.RX D
structure SM (Q:Sys) (D G:List Nat) (w0 w:A2) (s:WD) (L0:List (Nat×List AG)) (M:List (Nat×Obj)):Prop where
 pos:0<s.1.length
 yF:0<s.2.length
 le:s.2.length<=4096
 Sk:okW s.1
 kn: ∃ca la,lU D G w0 w (Q.L ca la s L0) M
section
variable {Q:Sys} {D G:List Nat} {w0 w w1:A2} {s:WD} {L0 L1:List (Nat×List AG)} {M M1:List (Nat×Obj)}
namespace SM
theorem ext (H:SM Q D G w0 w s L0 M) (h:Ext w w1):SM Q D G w0 w1 s L0 M:=by
 have ⟨a,b,c,d,ca,la,k⟩:=H;exact⟨a,b,c,d,ca,la,k.ext h⟩
theorem base (H:SM Q D G w0 w s L0 M):aF Q D G w0 w s L0:=by
 have ⟨a,b,c,d,ca,la,k⟩:=H;exact⟨a,b,c,d,ca,la,k.base⟩
theorem of (S:aF Q D G w0 w s L0):SM Q D G w0 w s L0 []:=by
 have ⟨a,b,c,d,ca,la,k⟩:=S;exact⟨a,b,c,d,ca,la,lU.of k⟩
theorem call (H:SM Q D G w0 w s L0 M): ∃e,aF Q [] e w w s L0/\ ∀{f:A2} {s':WD} {L':List (Nat×List AG)},aF Q [] e w f s' L'->SM Q D G w0 f s' L' M:=by
 have ⟨a,b,c,d,ca,la,k⟩:=H;refine⟨_,⟨a,b,c,d,ca,la,k.base.again⟩,λS=>?_⟩;have ⟨g,h,i,d',j,l,m⟩:=S;exact⟨g,h,i,d',j,l,k.join m⟩
theorem perm (H:SM Q D G w0 w s L0 M) (h:L1.Perm L0):SM Q D G w0 w s L1 M:=by
 have ⟨a,b,c,d,ca,la,k⟩:=H;exact⟨a,b,c,d,ca,la,k.perm ((((h.cons _).cons _).cons _).cons _)⟩
theorem sub (H:SM Q D G w0 w s L0 M) (h:L1.Sublist L0):SM Q D G w0 w s L1 M:=by
 have ⟨a,b,c,d,ca,la,k⟩:=H;exact⟨a,b,c,d,ca,la,k.sub ((((h.cons_cons _).cons_cons _).cons_cons _).cons_cons _)⟩
theorem yV (H:SM Q D G w0 w s L0 M) (h:M1.Perm M):SM Q D G w0 w s L0 M1:=by
 have ⟨a,b,c,d,ca,la,k⟩:=H;exact⟨a,b,c,d,ca,la,k.yV h⟩
theorem Jk (H:SM Q D G w0 w s L0 M) (h:M1.Sublist M):SM Q D G w0 w s L0 M1:=by
 have ⟨a,b,c,d,ca,la,k⟩:=H;exact⟨a,b,c,d,ca,la,k.Jk h⟩
theorem get (H:SM Q D G w0 w s L0 M) {r:Nat} {o:Obj} (h:(r,o)∈M):w.heap[r]? =some o:=by
 have ⟨a,b,c,d,ca,la,k⟩:=H;exact(k.obj _ h).1
theorem put (H:SM Q D G w0 w s L0 M) {i r:Nat} {o:Obj} (h:M[i]? =some (r,o)) {o':Obj} (e:oG o'):SM Q D G w0 (w.putObj r o') s L0 (M.set i (r,o')):=by
 have ⟨a,b,c,d,ca,la,k⟩:=H;exact⟨a,b,c,d,ca,la,k.put h e⟩
theorem alloc (H:SM Q D G w0 w s L0 M) {o:Obj} (e:oG o):SM Q D G w0 (w.alloc o) s L0 ((w.heap.size,o)::M):=by
 have ⟨a,b,c,d,ca,la,k⟩:=H;exact⟨a,b,c,d,ca,la,k.alloc e⟩
theorem go (H:SM Q D G w0 w s L0 M) {P:Program} {f:FuncId} {sh:Sh} {args:List AG} {K:sh.T->A2->Prop} (k: ∀w1,SM Q D G w0 w1 s L0 M->aC P f sh args w1 K):aA P f sh args w K:=λ_ h=>k _ (H.ext h)
theorem en (H:SM Q D G w0 w s L0 M) {K:A2->Prop} (k: ∀w1,SM Q D G w0 w1 s L0 M->K w1):ak w K:=λ_ h=>k _ (H.ext h)
end SM
end
abbrev TK:Type:=Int×Int×Int
def AS (t:TK):AG×AG:=(aa t.1,.agg ⟨[aa t.2.1,aa t.2.2]⟩)
def rM (es:List B2) (ck:Nat) (tk:List TK):Prop:=
 (∃p:List TK,p.Perm tk/\es.map (λe=>(e.key,e.val))=p.map AS)/\(es.map (·.born)).Nodup/\(∀e∈es,e.born<ck)/\(tk.map (·.1)).Nodup
theorem rM.nil:rM [] 0 []:=⟨by simp,by simp⟩
theorem rM.len {es:List B2} {ck:Nat} {tk:List TK} (h:rM es ck tk):es.length=tk.length:=by
 obtain⟨⟨p,a,h2⟩⟩:=h;have:=congrArg FJ h2;rw[DA,DA] at this;rw[this,a.length_eq]
theorem QV {es:List B2} {p:List TK} (h:es.map (λe=>(e.key,e.val))=p.map AS) (g:Int) (i0:Nat):
 Instr.findNow (.int .i64) (aa g) es i0=some (match p.findIdx? (λt=>t.1==g) with
  |some i=>some (i0+i,(AS (p.getD i (0,0,0))).2)
  |none=>none):=by
 induction es generalizing p i0 with
 |nil=>
  cases p with
  |nil=>rfl
  |cons t=>simp at h
 |cons e es d=>
  cases p with
  |nil=>simp at h
  |cons t p=>
   simp only[FS,List.cons.injEq] at h;have ⟨a,h2⟩:=h;have b:e.key=aa t.1:=congrArg (·.1) a;have hv:e.val=(AS t).2:=congrArg (·.2) a;unfold Instr.findNow;rw[b];have c:Instr.sameNow (.int .i64) (aa g) (aa t.1)=some (g==t.1):=by
    show(if IntKind.i64=IntKind.i64 then some (g==t.1) else none)= _;rw[az rfl]
   rw[c,List.findIdx?_cons]
   grind
def bU (tk:List TK) (g:Int):Option (Int×Int):=(tk.find? λt=>t.1==g).map (·.2)
theorem iO {tk:List TK} {g a b:Int} (c:(tk.map (·.1)).Nodup):bU tk g=some (a,b)<->(g,a,b)∈tk:=by
 unfold bU;constructor
 .intro h;obtain:=GS.1 h
  grind
 .intro h;cases d:tk.find? _ with
  |none=>
   grind
  |some t=>
   have e:=List.mem_of_find?_eq_some d;obtain⟨i⟩:=B5 h;obtain⟨j⟩:=B5 e;have f:(tk.map (·.1))[i]? =some g:=by grind
   have k:(tk.map (·.1))[j]? =some g:=by grind
   have:=(H2 (by grind) c).1 (f.trans k.symm)
   grind
theorem kL {tk:List TK} {g:Int}:bU tk g=none<-> ∀t∈tk,t.1≠g:=by simp[bU]
theorem rk {α β:Type} (f:α->β): ∀(l:List α) (i:Nat),(l.eraseIdx i).map f=(l.map f).eraseIdx i
 |[],i=>by simp
 |a::l,0=>rfl
 |a::l,i+1=>by
  simp;rw[rk]
theorem rM.find {es:List B2} {ck:Nat} {tk:List TK} (h:rM es ck tk) (g:Int): ∃r,Instr.findNow (.int .i64) (aa g) es 0=some r/\
 match bU tk g with
 |some x=> ∃i,r=some (i,.agg ⟨[aa x.1,aa x.2]⟩)/\i<es.length/\rM (es.eraseIdx i) ck (tk.filter λt=> !(t.1==g))
 |none=>r=none:=by
 have ⟨⟨p,c,h2⟩,n,o,k⟩:=h;refine⟨_,QV h2 g 0,?_⟩;cases d:p.findIdx? (λt=>t.1==g) with
 |none=>
  have:bU tk g=none:=kL.2 λt b=>by
   have:=List.findIdx?_eq_none_iff.1 d t (c.mem_iff.2 b);simpa using this
  rw[this]
 |some i=>
  rw[H4] at d;have ⟨hi,a, _⟩:=d;have f:p[i]? =some p[i]:=Du hi;have l:p.getD i (0,0,0)=p[i]:=by rw[DS,f];rfl
  have ⟨t,b⟩: ∃t,t=p[i]:=⟨_,rfl⟩;rw[<-b] at f l a;have a:t.1=g:=by simpa using a
  have q:(g,t.2.1,t.2.2)∈tk:=by
   have:=c.mem_iff.1 (Ch f);subst a;exact this
  rw[(iO k).2 q];have w:es.length=p.length:=by
   have:=congrArg FJ h2;simpa using this
  refine⟨i,by dsimp only;rw[l,Nat.zero_add];rfl,by omega,⟨p.eraseIdx i,?_,?_⟩,?_,?_,?_⟩
  .have s:p.eraseIdx i=p.filter λt=> !(t.1==g):=by
    have u:p=p.take i++t::p.drop (i+1):=by
     conv=>lhs;rw[<-List.take_append_drop i p]
     rw[H5 hi, <-b]
    have m: ∀x∈p.take i++p.drop (i+1),x.1≠g:=by
     grind
    rw[List.eraseIdx_eq_take_drop_succ]
    conv=>rhs;rw[u]
    rw[List.filter_append,H6 (by simp[a])];rw[Fe.2 (λx j=>by have:=m x (Ff _ j);simpa using this),Fe.2 (λx j=>by have:=m x (Ce _ j);simpa using this)]
   rw[s];exact c.filter _
  .rw[rk,h2,rk]
  .rw[rk];exact n.sublist (List.eraseIdx_sublist _ _)
  .exact λe v=>o e (List.mem_of_mem_eraseIdx v)
  .exact k.sublist ((List.filter_sublist).map _)
theorem rM.push {es:List B2} {ck:Nat} {tk:List TK} (h:rM es ck tk) {t:TK} (c:bU tk t.1=none) {a:List TK} (b:a.Perm (t::tk)):rM (es++[{key:=(AS t).1,val:=(AS t).2,born:=ck}]) (ck+1) a:=by
 have ⟨⟨p,d,h2⟩,j,k,f⟩:=h;refine⟨⟨p++[t],?_,?_⟩,?_,?_,?_⟩
 .exact(List.perm_append_singleton _ _).trans ((d.cons _).trans b.symm)
 .grind
 grind
 grind
 .refine(b.map _).nodup_iff.2 (H7.2 ⟨λg=>?_,f⟩);have ⟨x,i,e⟩:=Ct.1 g;exact kL.1 c x i e
set_option maxRecDepth 100000
open Go.RX D
structure GV where
 root:Int
 tk:List TK
structure HS where
 s:WD
 g:Nat->Option GV
 gr:List GT
 po:List Po.PT
structure HX where
 hb:Nat
 gb:Nat
 vq:Nat
 pb:Nat
 c:Nat
 rest:List AG
structure GA where
 bg:Nat
 bt:Nat
 bm:Nat
 ck:Nat
 es:List B2
def lN (A:Nat->GA) (g:Nat->Option GV) (i:Nat):Option AT:=match g i with
 |some _=>some ⟨(A i).bg,0,none⟩
 |none=>none
def sT (A:Nat->GA) (g:Nat->Option GV):List AG:=(AE 17).map λi=>ah (lN A g i)
abbrev kv (Q:Sys) (X:HX) (A:Nat->GA) (g:Nat->Option GV):List AG:=[ah (ae Q.bm),ah (ae Q.bp),ah (ae X.gb),ah (ae X.pb)]++sT A g
def ik (Q:Sys) (A:Nat->GA) (i:Nat) (v:GV):List (Nat×List AG):=[((A i).bg,[ah (some ⟨(A i).bt,0,none⟩),.map (some (A i).bm)]),((A i).bt,iV Q i v.root false)]
def bI (Q:Sys) (A:Nat->GA) (g:Nat->Option GV) (l:List Nat):List (Nat×List AG):=l.flatMap λi=>match g i with
 |some v=>ik Q A i v
 |none=>[]
def e_ (A:Nat->GA) (g:Nat->Option GV) (l:List Nat):List (Nat×Obj):=l.flatMap λi=>match g i with
 |some _=>[((A i).bm,Obj.map ⟨(A i).es⟩ (A i).ck)]
 |none=>[]
abbrev fH (Q:Sys) (X:HX) (A:Nat->GA) (h:HS) (L:List (Nat×List AG)):List (Nat×List AG):=
 (X.hb,kv Q X A h.g)::(X.gb,g7 X.vq h.gr.length X.c)::(X.vq,flat eG h.gr++X.rest)::(X.pb,Po.iD 4 h.po)::L
structure Cf (A:Nat->GA) (h:HS):Prop where
 jI: ∀{i v},h.g i=some v->1<=i/\i<=16
 mp: ∀{i v},h.g i=some v->rM (A i).es (A i).ck v.tk
 gl:h.gr.length=16
 pt:Po.jq 4 h.po
 gk:kf h.gr
def eH (Q:Sys) (X:HX) (D G:List Nat) (w0 w:A2) (h:HS) (L:List (Nat×List AG)):Prop:=
 ∃A,Cf A h/\SM Q D G w0 w h.s (fH Q X A h (bI Q A h.g (AE 17)++L)) (e_ A h.g (AE 17))
theorem K5 {Q:Sys} {A:Nat->GA} {g:Nat->Option GV} {l:List Nat} {i:Nat} {v:GV} (hi:i∈l) (hv:g i=some v): ∀x∈ik Q A i v,x∈bI Q A g l:=by grind[bI]
theorem K6 {A:Nat->GA} {g:Nat->Option GV} {l:List Nat} {i:Nat} {v:GV} (hi:i∈l) (hv:g i=some v):((A i).bm,Obj.map ⟨(A i).es⟩ (A i).ck)∈e_ A g l:=by grind[e_]
theorem BL {A:Nat->GA} {g:Nat->Option GV} {i:Nat} (hi:i<17):(sT A g)[i]? =some (ah (lN A g i)):=by grind[sT]
def aV (g:Nat->Option GV) (v:Int):Bool:=decide (v>=1)&&decide (v<=16)&&(g v.toNat).isSome
def aY (g:Nat->Option GV) (v:Int):Int:=if aV g v=true then(match g v.toNat with|some x=>x.root|none=> -1) else -1
def dC (g:Nat->Option GV) (v p:Int):Int×Bool×Unit:=if aV g v=true then(match g v.toNat with
 |some x=>(match bU x.tk p with|some y=>(y.1,true,())|none=>(0,false,()))
 |none=>(0,false,())) else(0,false,())
def cf (g:Nat->Option GV) (v a:Int):Int:=if a<1\/a>16\/a=v then 1 else if aV g a=true then 0 else 4
theorem fx {g:Nat->Option GV} {v:Int}:aV g v=true<->(1<=v/\v<=16)/\ ∃x,g v.toNat=some x:=by simp[aV,Option.isSome_iff_exists]
section
variable {Q:Sys} {X:HX} {D G:List Nat} {w0 w:A2} {s:WD} {L0:List (Nat×List AG)} {M:List (Nat×Obj)} {A:Nat->GA} {g:Nat->Option GV}
theorem aF.tM (S:aF Q D G w0 w s L0) (a:(X.hb,kv Q X A g)∈L0) {v:Int} (hv:0<=v/\v<=16):bP w (ad (ad (ae X.hb) 4) (v.toNat*1)) bF (lN A g v.toNat):=by
 have ⟨j,b⟩:=B5 a;rw[aS,aS];refine cK (S.get b) ?_;show(match (kv Q X A g)[0+4+v.toNat*1]? with|some v=>Sc.ptr.proj v|none=>none)= _;have:(kv Q X A g)[0+4+v.toNat*1]? =some (ah (lN A g v.toNat)):=by
  grind[BL]
 rw[this];rfl
theorem aF.gP (S:aF Q D G w0 w s L0) (a:(X.hb,kv Q X A g)∈L0) {n:Nat} {x:Option AT} (h:[(some ⟨Q.bm,0,none⟩:Option AT),some ⟨Q.bp,0,none⟩,some ⟨X.gb,0,none⟩,some ⟨X.pb,0,none⟩][n]? =some x):bP w (ad (ae X.hb) n) bF x:=by
 have ⟨j,b⟩:=B5 a;rw[aS];refine cK (S.get b) ?_;rcases n with _| _| _| _|n
 .cases h;rfl
 .cases h;rfl
 .cases h;rfl
 .cases h;rfl
 simp_all
theorem my (S:aF Q D G w0 w s L0) (a:(X.hb,kv Q X A g)∈L0):ai AC 61 [ah (ae X.hb)] w (.bool true):=by
 refine ai.of λw' h'=>aj (C:=V0) (AR (KL _ w' _) ?_);exact⟨λ_=>rfl,λ_=>rfl,ag.of _ ((S.ext h').gP a (n:=0) rfl) (by grind)⟩
theorem qP (S:aF Q D G w0 w s L0) (b:(X.hb,kv Q X A g)∈L0) (v:Int):ai AC 18 [ah (ae X.hb),aa v] w (.bool (aV g v)):=by
 refine ai.of (s:= .el cr) λw' h'=>aj (C:=V0) (AR (QO _ v w' _) ?_);have S:=S.ext h';refine⟨_,my S b,λ_=>rfl,λ_=>rfl,λc=>?_,?_⟩
 .simp only[Dt,decide_eq_true_eq] at c;exact⟨rfl,by omega⟩
 .unfold aV;by_cases hv:v>=1/\v<=16
  .refine ag.of _ (S.tM b ⟨by omega,hv.2⟩) λw1 a=>⟨?_,a⟩;unfold lN;cases g v.toNat<;>simp
  .have c:(true&&decide (v>=1)&&decide (v<=16))=false:=by
    grind
   rw[c];refine⟨none,λh=>(by cases h),λw1 a=>⟨?_,a⟩⟩
   grind
theorem a9 {a:Int} (h:0<=a/\a<9223372036854775808):aB .i64 a=a:=gg (by omega) h.2
theorem Em (S:aF Q D G w0 w s L0) (b:(X.hb,kv Q X A g)∈L0) {a:Int} (d:0<=a):ai AC 204 [ah (ae X.hb),av a] w (.bool (aV g a)):=by
 refine ai.of (s:= .el cr) λw' h'=>aj (C:=V0) (AR (KM _ a w' _) ?_);have S:=S.ext h';refine⟨aV g a,λc=>?_,λw1 e=>⟨?_,e⟩⟩
 .have c:a<=16:=by simpa using c
  rw[a9 ⟨d,by omega⟩];exact qP S b a
 .grind[decide_eq_true,aV]
theorem zK (S:aF Q D G w0 w s L0) (e:(X.hb,kv Q X A g)∈L0) (v:Int) {a:Int} (d:0<=a):ai AC 222 [ah (ae X.hb),aa v,av a] w (aa (cf g v a)):=by
 refine ai.of (s:= .el aq) λw' h'=>aj (C:=V0) (AR (KP _ v a w' _) ?_);have S:=S.ext h';unfold cf;by_cases c:a<1\/a>16\/a=v
 .rw[az c];refine ax ?_ λw1 b=>⟨rfl,b⟩;simp only[Fm,decide_eq_true_eq,beq_iff_eq];rcases c with c|c|c
  .exact .inl (.inl c)
  .exact .inl (.inr c)
  .by_cases f:a>16
   .exact .inl (.inr f)
   .exact .inr (by rw[a9 ⟨d,by omega⟩];exact c)
 .rw[ar c];refine an ?_ ⟨_,Em S e d,?_⟩
  .rw[a9 ⟨d,by omega⟩]
   grind
  .cases aV g a with
   |true=>exact an rfl λw1 b=>⟨rfl,b⟩
   |false=>exact ax rfl λw1 b=>⟨rfl,b⟩
theorem IH (S:aF Q D G w0 w s L0) (c:(X.hb,kv Q X A g)∈L0) (d: ∀i v,g i=some v-> ∀x∈ik Q A i v,x∈L0) (v:Int):ai AC 20 [ah (ae X.hb),aa v] w (aa (aY g v)):=by
 refine ai.of λw' h'=>aj (C:=V0) (AR (QP _ v w' _) ?_);have S:=S.ext h';refine⟨_,qP S c v,?_⟩;unfold aY;cases e:aV g v with
 |false=>exact ax rfl λw1 b=>⟨rfl,b⟩
 |true=>
  have ⟨hv,x,a⟩:=fx.1 e;have hc:=S.tM c (v:=v) ⟨by omega,hv.2⟩;have f:lN A g v.toNat=some ⟨(A v.toNat).bg,0,none⟩:=by unfold lN;rw[a]
  rw[f] at hc;have ⟨j1,h⟩:=B5 (d _ _ a _ AZ);have ⟨j,k⟩:=B5 (d _ _ a _ (B1 _ AZ));refine an rfl ⟨rfl,rfl,⟨rfl,by omega⟩,ag.of _ hc ⟨rfl,rfl,S.a_ j1 h rfl ⟨_,S.root j k,λw1 b=>⟨?_,b⟩⟩⟩⟩;rw[a,az rfl];rfl
theorem nZ (H:SM Q D G w0 w s L0 M) (d:(X.hb,kv Q X A g)∈L0) (k: ∀i v,g i=some v-> ∀x∈ik Q A i v,x∈L0) (l: ∀i v,g i=some v->((A i).bm,Obj.map ⟨(A i).es⟩ (A i).ck)∈M) (m: ∀i v,g i=some v->rM (A i).es (A i).ck v.tk) (v p:Int):
 ai AC 24 [ah (ae X.hb),aa v,aa p] w ((Sh.bu [aq,cr]).g9 (dC g v p)):=by
 refine ai.of (s:= .bu [aq,cr]) λw' h'=>aj (C:=V0) (AR (KO _ v p w' _) ?_);have H:=H.ext h';have S:=H.base;refine⟨_,qP S d v,?_⟩;unfold dC;cases n:aV g v with
 |false=>exact ax rfl λw1 o=>⟨rfl,o⟩
 |true=>
  have ⟨hv,x,a⟩:=fx.1 n;have hc:=S.tM d (v:=v) ⟨by omega,hv.2⟩;have q:lN A g v.toNat=some ⟨(A v.toNat).bg,0,none⟩:=by unfold lN;rw[a]
  rw[q] at hc;have ⟨j1,t⟩:=B5 (k _ _ a _ AZ);have ⟨r,f,c⟩:=(m _ _ a).find p;have h:=H.get (l _ _ a);refine an rfl ⟨rfl,rfl,⟨rfl,by omega⟩,ag.of _ hc ⟨rfl,rfl,S.a_ j1 t rfl ?_⟩⟩;rw[a,az rfl];dsimp only;have at0:Ext w' w':=Ext.refl _;have H0:=At.start [] w';cases j:bU x.tk p with
  |none=>
   rw[j] at c;refine⟨(0,0,()),false,⟨_, _, _,rfl,h,?_⟩,aH.go H0 λb u H0=>aw.all 0 H0 rfl rfl rfl λz H0=>⟨rfl,ag.bj 0 H0 rfl rfl (ak.go H0 λB H0=>⟨rfl,H0.all⟩)⟩⟩;rw[f,c];exact⟨rfl,rfl⟩
  |some y=>
   rw[j] at c;have ⟨i,e, _⟩:=c;refine⟨(y.1,y.2,()),true,⟨_, _, _,rfl,h,?_⟩,aH.go H0 λb u H0=>aw.all 0 H0 rfl rfl rfl λz H0=>⟨rfl,ag.bj 0 H0 rfl rfl (ak.go H0 λB H0=>⟨rfl,H0.all⟩)⟩⟩;rw[f,e];exact⟨rfl,rfl⟩
end
section
variable {G:List Nat} {w0 w:A2}
theorem QW {bm bw n c:Nat} {ca la:Int} {ws:List Int} {rest:List AG} {L0:List (Nat×List AG)} (H:At G w0 w ((bm,gi bw n c ca la)::(bw,flat eW ws++rest)::L0)) (z:n=ws.length) (h0:0<n) (A:okW ws) (f p t:Int) {K:FT->A2->Prop}
 (k: ∀d w1,At G w0 w1 ((bm,gi bw n c d la)::(bw,flat eW ws++rest)::L0)->K (rJ ws f p t) w1):
 aA AC 295 (.el (.agg sF)) [ah (ae bm),aa f,aa p,aa t] w K:=by
 refine aA.go H λw1 H=>aQ (C:=M1) (b_:=wR) (AR (TO _ f p t w1 K) ?_);refine aH.go H λb Q H=>TQ H f p t (λhb B H=>?_) λhb bk B H=>?_
 .have e:rJ ws f p t=(0,0,0,1,()):=az hb;rw[e] at k;exact ax rfl (aw.all 0 H rfl rfl rfl λm H=>ak.go H λo H=>ag.at 0 H rfl rfl (k ca o (H.sub (C9 _ _))))
 have e:rJ ws f p t=(lj ws f p t 4).2.2:=ar (by rw[hb];decide);rw[e] at k;refine an rfl ⟨λq _ w'=> ∃(i:Nat) (Ls:List (Nat×List AG)) (s:Option AT×Nat×Nat) (xs:List Int) (d:Int),q+i=4/\i<=3/\(lj ws f p t i).2.1≠ -1/\xs.length=i/\nq Ls s xs/\
  At G w0 w' ((bk,rW (lj ws f p t i).1 p t (lj ws f p t i).2.1 (lj ws f p t i).2.2 s)::(bm,gi bw n c d la)::(bw,flat eW ws++rest)::(Ls++((b,[aa 0,aa 0,aa 0,aa 0])::L0))),⟨4,λm D=>⟨0,[],(none,0,0),[],ca,rfl,by decide,(show(3:Int)≠ -1 by decide),rfl,.inl ⟨rfl,rfl,rfl⟩,(H.ext D).perm ?_⟩⟩,?_⟩
 .exact .cons _ (Fh (l₁:=[(bm,gi bw n c ca la),(bw,flat eW ws++rest)]) (l₂:=[(b,[aa 0,aa 0,aa 0,aa 0])]) |>.append_right L0)
 clear H;rintro q u m ⟨i,Ls,s,xs,d,R,S,E,F,I,H⟩;dsimp only;refine Px H I (by omega) z h0 A E λo iC s' J H=>?_;have es:fZ ws p t ((lj ws f p t i).1,(lj ws f p t i).2.1,(lj ws f p t i).2.2)=lj ws f p t (i+1):=rfl;rw[es] at H ⊢;by_cases hd:(lj ws f p t (i+1)).2.1= -1
 .have L:lj ws f p t 4=lj ws f p t (i+1):=by
   have:=CH hd (4 - (i+1));rw[show i+1+(4 - (i+1))=4 by omega] at this;exact this
  rw[L] at k;generalize lj ws f p t (i+1)=y at H hd k;have ⟨r,v,⟨g,h,j,l,T⟩⟩:=y;refine an (by rw[hd];rfl) ⟨rfl,rfl,ag.bj (x:=(g,h,j,l,())) 0 H rfl rfl ?_⟩;have H:=H.perm (L':=(b,[aa 0,aa 0,aa 0,aa 0])::((bk,rW r p t v (g,h,j,l,()) s')::(bm,gi bw n c (pM ws (c9 (lj ws f p t i).1 p (lj ws f p t i).2.1) d) la)::(bw,flat eW ws++rest)::(iC++L0))) (by
   refine(List.perm_middle (l₁:=[(bk,rW r p t v (g,h,j,l,()) s'),(bm,gi bw n c (pM ws (c9 (lj ws f p t i).1 p (lj ws f p t i).2.1) d) la),(bw,flat eW ws++rest)]++iC) (a:=(b,[aa 0,aa 0,aa 0,aa 0])) (l₂:=L0)).symm)
  refine aw.all 0 H rfl rfl rfl λM H=>ak.go H λN H=>ag.at 0 H rfl rfl (k (pM ws (c9 (lj ws f p t i).1 p (lj ws f p t i).2.1) d) N ?_);have H:=(H.sub (C9 _ _)).sub (C9 _ _);exact H.sub (.cons_cons _ (.cons_cons _ (H8 _ _)))
 .have O:=(Ny ws f p t (i+1)).resolve_left hd;refine ax (by simp[hd]) λM P=>⟨q - 1,by omega,i+1,iC,s',xs++[(lj ws f p t i).1], _,by omega,O.2,hd,by rw[List.length_append,F];rfl,J,H.ext P⟩
theorem K7 {bm bw n c:Nat} {ca la:Int} {ws:List Int} {rest:List AG} {L:List (Nat×List AG)} (H:At G w0 w L) (j b:Nat) (d:L[j]? =some (bm,gi bw n c ca la)) (e:L[b]? =some (bw,flat eW ws++rest)) (g:j≠b) (h:n=ws.length) (h0:0<n) (i:okW ws) (f p t:Int) {K:FT->A2->Prop}
 (k: ∀a w1,At G w0 w1 (L.set j (bm,gi bw n c a la))->K (rJ ws f p t) w1):
 aA AC 295 (.el (.agg sF)) [ah (ae bm),aa f,aa p,aa t] w K:=by
 have ⟨o,l,m⟩:=N5 d e g;exact QW (H.perm l.symm) h h0 i f p t λa w1 H=>k a w1 (H.perm (m _))
end
section
variable {D G:List Nat} {w0 w w':A2} {L:List (Nat×List AG)}
end
section
variable {Q:Sys} {D G:List Nat} {w0 w:A2} {s:WD} {L0:List (Nat×List AG)}
namespace aF
theorem abj (S:aF Q D G w0 w s L0) {K:Option AT->A2->Prop}
 (k: ∀a b d e c,aF Q D G w0 c s ((a,[.slice (ae b) s.2.length d])::(b,flat eD s.2++e)::L0)->K (ae a) c):
 aA AC 79 oq [ah (ae Q.bp)] w K:=by
 refine S.go λw1 S=>?_;have ⟨g,h2,f,h,ca,la,H⟩:=S;refine Uj H (H.get (i:=3) rfl) (H.get (i:=2) rfl) rfl h2 f λa b d e c H=>k a b d e c ⟨g,h2,f,h,ca,la,H.perm ?_⟩;exact Fh (l₁:=[_, _, _, _]) (l₂:=[(a, _),(b, _)]) |>.append_right L0
theorem ofq (S:aF Q D G w0 w s L0) (f:Int):ai AC 32 [ah (ae Q.bp),aa f] w ((Sh.bu [eD,cr]).g9 (mH s.2 f,wu s.2 f,())):=by
 have ⟨a,h2,b,c,ca,la,H⟩:=S;exact acb H 3 2 rfl rfl rfl f
theorem FF (S:aF Q D G w0 w s L0) (f:Int) {K:Int->A2->Prop} (k: ∀a,aF Q D G w0 a (s.1,eC s.2 f (aI 0 0)) L0->K (oY s.2 f (aI 0 0)) a):
 aA AC 215 aT [ah (ae Q.bp),aa f] w K:=by
 have ⟨c,h2,b,d,ca,la,H⟩:=S;refine Uw H 3 2 rfl rfl (by decide) rfl h2 b f λa H=>k a ⟨c,?_,?_,d,ca,la,?_⟩
 .show 0<(eC s.2 f (aI 0 0)).length;rw[dY];exact h2
 .show(eC s.2 f (aI 0 0)).length<=4096;rw[dY];exact b
 .unfold Sys.L;show aJ D G w0 a (_:: _:: _::(Q.bp,[.slice _ (eC s.2 f (aI 0 0)).length _]):: _);rw[dY];exact H
theorem aao (S:aF Q D G w0 w s L0) (f x:Int) (c: -9223372036854775808<=x/\x<9223372036854775808) {K:Int->A2->Prop} (k: ∀a,aF Q D G w0 a (s.1,eC s.2 f (fA x)) L0->K (oY s.2 f (fA x)) a):
 aA AC 226 aT [ah (ae Q.bp),aa f,aa x] w K:=by
 have ⟨d,h2,b,e,ca,la,H⟩:=S;refine Uv H 3 2 rfl rfl (by decide) rfl h2 b f x c λa H=>k a ⟨d,?_,?_,e,ca,la,?_⟩
 .show 0<(eC s.2 f (fA x)).length;rw[dY];exact h2
 .show(eC s.2 f (fA x)).length<=4096;rw[dY];exact b
 .unfold Sys.L;show aJ D G w0 a (_:: _:: _::(Q.bp,[.slice _ (eC s.2 f (fA x)).length _]):: _);rw[dY];exact H
theorem owned (S:aF Q D G w0 w s L0) (v:Int) {K:Option AT×Nat×Nat->A2->Prop} (k: ∀r rows a,aF Q D G w0 a s (L0++rows)->ia eI rows r ((dL s.2 v).map λi=>((i:Nat):Int))->K r a):
 aA AC 205 di [ah (ae Q.bp),aa v] w K:=by
 have ⟨c,h2,b,d,ca,la,H⟩:=S;exact QL H 3 2 rfl rfl rfl b v λr rows a H e=>k r rows a ⟨c,h2,b,d,ca,la,H⟩ e
theorem walk (S:aF Q [] G w0 w s L0) (f p t:Int) {K:FT->A2->Prop} (k: ∀w1,aF Q [] G w0 w1 s L0->K (rJ s.1 f p t) w1):
 aA AC 295 (.el (.agg sF)) [ah (ae Q.bm),aa f,aa p,aa t] w K:=by
 have ⟨a,h2,c,b,ca,la,H⟩:=S;exact K7 H 0 1 rfl rfl (by decide) rfl a b f p t λd w1 H=>k w1 ⟨a,h2,c,b,d,la,H⟩
end aF
end
set_option maxRecDepth 100000
open Go.RX D
def db (g:Nat->Option GV) (s:WD) (v p:Int):Int×Int×Int×Unit:=if aV g v=true then(match g v.toNat with
 |some x=>bC s x.root false p
 |none=>(0,0,4,())) else(0,0,4,())
def f_ (s:WD) (f:Int):Int:=if wu s.2 f=false then 2 else if(mH s.2 f).1≠5 then 6 else oY s.2 f (aI 0 0)
def jz (s:WD) (f:Int):WD:=if wu s.2 f=true/\(mH s.2 f).1=5 then(s.1,eC s.2 f (aI 0 0)) else s
section
variable {Q:Sys} {X:HX} {D G:List Nat} {w0 w:A2} {s:WD} {L0:List (Nat×List AG)} {M:List (Nat×Obj)} {A:Nat->GA} {g:Nat->Option GV}
theorem rn (S:aF Q D G w0 w s L0) (c:(X.hb,kv Q X A g)∈L0) (e: ∀i v,g i=some v-> ∀x∈ik Q A i v,x∈L0) (v p:Int) {K:Int×Int×Int×Unit->A2->Prop} (k: ∀a,aF Q D G w0 a s L0->K (db g s v p) a):
 aA AC 22 (.bu [aq,aq,aq]) [ah (ae X.hb),aa v,aa p] w K:=by
 refine S.go λw1 S=>aj (C:=V0) (AR (KN _ v p w1 K) ?_);refine⟨_,my S c,an rfl ⟨_,qP S c v,?_⟩⟩;unfold db at k;cases d:aV g v with
 |false=>
  rw[d,ar (by decide)] at k;exact ax rfl (S.en λa S=>k a S)
 |true=>
  have ⟨hv,x,b⟩:=fx.1 d;rw[d,az rfl,b] at k;have hc:=S.tM c (v:=v) ⟨by omega,hv.2⟩;have f:lN A g v.toNat=some ⟨(A v.toNat).bg,0,none⟩:=by unfold lN;rw[b]
  rw[f] at hc;have ⟨j1,h⟩:=B5 (e _ _ b _ AZ);have ⟨j,l⟩:=B5 (e _ _ b _ (B1 _ AZ));refine an rfl ⟨rfl,rfl,⟨rfl,by omega⟩,ag.of _ hc ⟨rfl,rfl,S.a_ j1 h rfl (S.query j l p λa S=>S.en λm S=>k m S)⟩⟩
theorem QX (S:aF Q D G w0 w s L0) (j:(X.hb,kv Q X A g)∈L0) (f:Int) {K:Int->A2->Prop} (k: ∀l,aF Q D G w0 l (jz s f) L0->K (f_ s f) l):
 aA AC 212 aT [ah (ae X.hb),aa f] w K:=by
 refine S.go λw1 S=>aj (C:=V0) (AR (QQ _ f w1 K) ?_);refine⟨_,my S j,an rfl ⟨rfl,rfl,ag.of _ (S.gP j (n:=1) rfl) ⟨(mH s.2 f,wu s.2 f,()),S.ofq f,S.al λb l S=>S.cQ 0 rfl rfl rfl λq S=>?_⟩⟩⟩;have m: ∀x:Nat×List AG,(X.hb,kv Q X A g)∈x::L0:=λx=>B1 _ j;cases e:wu s.2 f with
 |false=>
  have a:jz s f=s:=ar (λh=>by rw[e] at h;cases h.1);have c:f_ s f=2:=az e;rw[a,c] at k;exact ax rfl (S.en λi S=>k i S.tail)
 |true=>
  have o: ¬ wu s.2 f=false:=by rw[e];decide
  refine an rfl ⟨rfl,S.a_ 0 rfl rfl ?_⟩;by_cases d:(mH s.2 f).1=5
  .have a:jz s f=(s.1,eC s.2 f (aI 0 0)):=az ⟨e,d⟩;have c:f_ s f=oY s.2 f (aI 0 0):=by
    unfold f_;grind
   rw[a,c] at k;exact an (by simpa using d) ⟨rfl,rfl,ag.of _ (S.gP (m _) (n:=1) rfl) (S.FF f λi S=>S.en λp S=>k p S.tail)⟩
  .have a:jz s f=s:=ar (λh=>d h.2);have c:f_ s f=6:=by
    unfold f_;rw[ar o,az d]
   rw[a,c] at k;exact ax (by simpa using d) (S.en λi S=>k i S.tail)
theorem GW (S:aF Q D G w0 w s L0) (f:(X.hb,kv Q X A g)∈L0) {K:Option AT->A2->Prop} (k: ∀h i j l e,aF Q D G w0 e s ((h,[.slice (ae i) s.2.length j])::(i,flat eD s.2++l)::L0)->K (ae h) e):
 aA AC 14 oq [ah (ae X.hb)] w K:=by
 refine S.go λw1 S=>aj (AR (GK _ w1 K) ?_);exact⟨_,my S f,an rfl ⟨rfl,rfl,ag.of _ (S.gP f rfl) (S.abj λa b c d e S=>S.en (by grind))⟩⟩
theorem GX (S:aF Q D G w0 w s L0) (a:(X.hb,kv Q X A g)∈L0) {K:Option AT->A2->Prop} (k: ∀b,aF Q D G w0 b s L0->K (ae Q.bm) b):
 aA AC 12 oq [ah (ae X.hb)] w K:=by
 refine S.go λw1 S=>aj (AR (GL _ w1 K) ?_);exact⟨_,my S a,an rfl ⟨rfl,rfl,ag.of _ (S.gP a rfl) (S.en λc S=>k c S)⟩⟩
end
structure W8 (A:Nat->GA) (g:Nat->Option GV) (A':Nat->GA) (g':Nat->Option GV):Prop where
 bg: ∀i,(A' i).bg=(A i).bg
 bt: ∀i,(A' i).bt=(A i).bt
 bm: ∀i,(A' i).bm=(A i).bm
 rt: ∀i,(g' i).map GV.root=(g i).map GV.root
section
variable {A A':Nat->GA} {g g':Nat->Option GV} {Q:Sys} {X:HX}
theorem W8.ptr (h:W8 A g A' g'):lN A' g'=lN A g:=by
 funext i;have:=h.rt;have hb:=h.bg;unfold lN
 grind
theorem W8.cs (h:W8 A g A' g'):kv Q X A' g'=kv Q X A g:=by
 unfold kv sT;rw[h.ptr]
theorem W8.rows (h:W8 A g A' g') (l:List Nat):bI Q A' g' l=bI Q A g l:=by
 unfold bI;congr;funext i;have:=h.rt i;cases a:g' i<;>cases h2:g i<;>rw[a,h2] at this<;>simp at this
 .dsimp;unfold ik;rw[h.bg,h.bt,h.bm,this]
theorem m9 {i:Nat} {v:GV} (hi:i<17) (hv:g i=some v):(e_ A g (AE 17)).Perm (((A i).bm,Obj.map ⟨(A i).es⟩ (A i).ck)::e_ A g ((AE 17).erase i)):=by
 unfold e_;refine(FA _ (Dx (DB.2 hi))).trans ?_
 simp_all
theorem w_ {i:Nat} {v:GV} (hi:i<17) (hv:g i=some v):(bI Q A g (AE 17)).Perm (ik Q A i v++bI Q A g ((AE 17).erase i)):=by
 unfold bI;refine(FA _ (Dx (DB.2 hi))).trans ?_
 simp_all
theorem Ai {i:Nat} (hi:i<17) (hv:g i=none):(e_ A g (AE 17)).Perm (e_ A g ((AE 17).erase i)):=by
 unfold e_;refine(FA _ (Dx (DB.2 hi))).trans ?_
 simp_all
theorem Aj {i:Nat} (hi:i<17) (hv:g i=none):(bI Q A g (AE 17)).Perm (bI Q A g ((AE 17).erase i)):=by
 unfold bI;refine(FA _ (Dx (DB.2 hi))).trans ?_
 simp_all
theorem j8 {α β:Type} {f f':α->List β}: ∀{l:List α},(∀x∈l,f x=f' x)->l.flatMap f=l.flatMap f'
 |[], _=>rfl
 |x::l,h=>by
  rw[H9,H9,h x (by grind),j8 λy a=>h y (by grind)]
theorem FZ {i j:Nat} (h:j∈(AE 17).erase i):j≠i:=λe=>by
 subst e;exact List.nodup_range.not_mem_erase h
theorem qv {i:Nat} (h: ∀j,j≠i->A' j=A j/\g' j=g j):e_ A' g' ((AE 17).erase i)=e_ A g ((AE 17).erase i):=by grind[e_,j8,FZ]
theorem xd {i:Nat} (h: ∀j,j≠i->A' j=A j/\g' j=g j):bI Q A' g' ((AE 17).erase i)=bI Q A g ((AE 17).erase i):=by grind[bI,j8,FZ,ik]
end
def pZ (A:Nat->GA) (i:Nat) (x:GA):Nat->GA:=λj=>if j=i then x else A j
def bA (g:Nat->Option GV) (i:Nat) (x:Option GV):Nat->Option GV:=λj=>if j=i then x else g j
theorem ru (A:Nat->GA) (i:Nat) (x:GA):pZ A i x i=x:=az rfl
theorem dZ (g:Nat->Option GV) (i:Nat) (x:Option GV):bA g i x i=x:=az rfl
theorem BM (A:Nat->GA) (g:Nat->Option GV) (i:Nat) (x:GA) (y:Option GV): ∀j,j≠i->pZ A i x j=A j/\bA g i y j=g j:=λ_ h=>⟨ar h,ar h⟩
theorem II {A:Nat->GA} {g:Nat->Option GV} {i:Nat} {v:GV} (hv:g i=some v) (es:List B2) (ck:Nat) (tk:List TK):W8 A g (pZ A i {A i with es:=es,ck:=ck}) (bA g i (some {v with tk:=tk})):=by
 refine⟨λj=>?_,λj=>?_,λj=>?_,λj=>?_⟩
 .unfold pZ;grind
 .unfold pZ;grind
 .unfold pZ;grind
 .unfold bA;grind
theorem SM.Of {Q:Sys} {D G:List Nat} {w0 w:A2} {s:WD} {L0:List (Nat×List AG)} {A:Nat->GA} {g:Nat->Option GV} (H:SM Q D G w0 w s L0 (e_ A g (AE 17))) {i:Nat} {v:GV} (hi:i<17) (hv:g i=some v) (es:List B2) (ck:Nat) (tk:List TK):
 SM Q D G w0 (w.putObj (A i).bm (.map ⟨es⟩ ck)) s L0 (e_ (pZ A i {A i with es:=es,ck:=ck}) (bA g i (some {v with tk:=tk})) (AE 17)):=by
 have a:=(H.yV (m9 hi hv).symm).put (i:=0) rfl (o':= .map ⟨es⟩ ck) trivial;refine a.yV ((m9 hi (dZ _ _ _)).trans ?_);rw[qv (BM A g i _ _),ru];simp
section
variable {Q:Sys} {X:HX} {D G:List Nat} {w0 w:A2} {s:WD} {L0:List (Nat×List AG)} {bg br bp c:Nat} {gs:List GT} {rest:List AG} {room:Int} {ps:List Po.PT}
namespace aF
theorem UI (S:aF Q D G w0 w s L0) (j b:Nat) (e:L0[j]? =some (bg,g7 br gs.length c)) (f:L0[b]? =some (br,flat eG gs++rest)) (h0:0<gs.length) (i o:Int) {K:Int->A2->Prop}
 (k: ∀a,aF Q D G w0 a s (L0.set b (br,flat eG (jf gs i o)++rest))->K (mQ gs i o) a):
 aA AC 227 aT [ah (ae bg),aa i,aa o] w K:=by
 have ⟨g,h2,h,l,ca,la,d⟩:=S;exact Gu d (j+4) (b+4) e f h0 i o λa d=>k a ⟨g,h2,h,l,ca,la,d⟩
theorem abk (S:aF Q D G w0 w s L0) (j d:Nat) (f:L0[j]? =some (bg,g7 br gs.length c)) (h:L0[d]? =some (br,flat eG gs++rest)) (h0:0<gs.length) (l: ∀x∈gs,0<=x.2.2.2.2.1/\x.2.2.2.2.1<=1000) (i g:Int) (b:Bool) {K:Int->A2->Prop}
 (k: ∀a,aF Q D G w0 a s (L0.set d (br,flat eG (de gs i g b)++rest))->K (eB gs i g b) a):
 aA AC 224 aT [ah (ae bg),aa i,aa g,.bool b] w K:=by
 have ⟨m,h2,n,o,ca,la,e⟩:=S;exact PK e (j+4) (d+4) f h h0 l i g b λa e=>k a ⟨m,h2,n,o,ca,la,e⟩
theorem V9 (S:aF Q D G w0 w s L0) (j b:Nat) (e:L0[j]? =some (bg,g7 br gs.length c)) (f:L0[b]? =some (br,flat eG gs++rest)) (h0:0<gs.length) (h: ∀x∈gs,0<=x.2.2.2.2.1/\x.2.2.2.2.1<=1000) (i g:Int) {K:Int->A2->Prop}
 (k: ∀a,aF Q D G w0 a s (L0.set b (br,flat eG (dj gs i g)++rest))->K (jS gs i g) a):
 aA AC 225 aT [ah (ae bg),aa i,aa g] w K:=by
 have ⟨l,h2,m,n,ca,la,d⟩:=S;exact PL d (j+4) (b+4) e f h0 h i g λa d=>k a ⟨l,h2,m,n,ca,la,d⟩
theorem YJ (S:aF Q D G w0 w s L0) (j d:Nat) (f:L0[j]? =some (bg,g7 br gs.length c)) (g:L0[d]? =some (br,flat eG gs++rest)) (h0:0<gs.length) (h:gs.length<=64) (o q t:Int) (b:Bool) {K:Int×Int×Unit->A2->Prop}
 (k: ∀a,aF Q D G w0 a s (L0.set d (br,flat eG (ib gs o q t b)++rest))->K (gU gs o q t,iT gs o q t,()) a):
 aA AC 223 (.bu [aq,aq]) [ah (ae bg),aa o,aa q,aa t,.bool b] w K:=by
 have ⟨i,h2,l,m,ca,la,e⟩:=S;exact J8 e (j+4) (d+4) f g h0 h o q t b λa e=>k a ⟨i,h2,l,m,ca,la,e⟩
theorem abl (S:aF Q D G w0 w s L0) (j a:Nat) (e:L0[j]? =some (bg,g7 br gs.length c)) (f:L0[a]? =some (br,flat eG gs++rest)) (h0:0<gs.length) (h:gs.length<=64) (o:j≠a) (g:Int) {K:Int->A2->Prop}
 (k: ∀n b,aF Q D G w0 b s (L0.set a (br,flat eG (bY gs g)++rest))->K n b):
 aA AC 208 aT [ah (ae bg),aa g] w K:=by
 have ⟨i,h2,l,m,ca,la,d⟩:=S;exact PM d (j+4) (a+4) e f h0 h (by omega) g λn b d=>k n b ⟨i,h2,l,m,ca,la,d⟩
theorem aap (S:aF Q D G w0 w s L0) (j a:Nat) (b:L0[j]? =some (bg,g7 br gs.length c)) (d:L0[a]? =some (br,flat eG gs++rest)) (h0:0<gs.length) (i:Int):
 ai AC 218 [ah (ae bg),aa i] w ((Sh.bu [eG,cr]).g9 (kX gs i,(jF gs i).isSome,())):=
 ai.of λw' h'=>Yt ((S.get b).ext h') ((S.get d).ext h') h0 i
theorem abm (S:aF Q D G w0 w s L0) (j:Nat) (c:L0[j]? =some (bp,Po.iD room ps)) (d:Po.okS room ps) (g r:Int) {K:Int×Int×Unit->A2->Prop}
 (k: ∀a,aF Q D G w0 a s (L0.set j (bp,Po.iD room (Po.dU room ps g r).2))->K ((Po.dU room ps g r).1.1,(Po.dU room ps g r).1.2,()) a):
 aA AC 228 (.bu [aq,aq]) [ah (ae bp),aa g,aa r] w K:=by
 have ⟨e,h2,f,h,ca,la,b⟩:=S;exact Po.PN b (j+4) c d g r λa b=>k a ⟨e,h2,f,h,ca,la,b⟩
theorem pbind (S:aF Q D G w0 w s L0) (j:Nat) (c:L0[j]? =some (bp,Po.iD room ps)) (d:Po.okS room ps) (g r i:Int) {K:Int×Int×Unit->A2->Prop}
 (k: ∀a,aF Q D G w0 a s (L0.set j (bp,Po.iD room (Po.dA room ps g r i).2))->K ((Po.dA room ps g r i).1.1,(Po.dA room ps g r i).1.2,()) a):
 aA AC 229 (.bu [aq,aq]) [ah (ae bp),aa g,aa r,aa i] w K:=by
 have ⟨e,h2,f,h,ca,la,b⟩:=S;exact Po.PO b (j+4) c d g r i λa b=>k a ⟨e,h2,f,h,ca,la,b⟩
theorem abn (S:aF Q D G w0 w s L0) (j:Nat) (c:L0[j]? =some (bp,Po.iD room ps)) (d:Po.jq room ps) (g i:Int) {K:Int->A2->Prop}
 (k: ∀a,aF Q D G w0 a s (L0.set j (bp,Po.iD room (Po.kj room ps g i).2))->K (Po.kj room ps g i).1 a):
 aA AC 230 aT [ah (ae bp),aa g,aa i] w K:=by
 have ⟨e,h2,f,h,ca,la,b⟩:=S;exact Po.PQ b (j+4) c d g i λa b=>k a ⟨e,h2,f,h,ca,la,b⟩
theorem YK (S:aF Q D G w0 w s L0) (j:Nat) (c:L0[j]? =some (bp,Po.iD room ps)) (d:Po.jq room ps) (g i:Int) {K:Int->A2->Prop}
 (k: ∀a,aF Q D G w0 a s (L0.set j (bp,Po.iD room (Po.dR room ps g i).2))->K (Po.dR room ps g i).1 a):
 aA AC 232 aT [ah (ae bp),aa g,aa i] w K:=by
 have ⟨e,h2,f,h,ca,la,b⟩:=S;exact Po.Bt b (j+4) c d g i λa b=>k a ⟨e,h2,f,h,ca,la,b⟩
theorem abo (S:aF Q D G w0 w s L0) (j:Nat) (c:L0[j]? =some (bp,Po.iD room ps)) (d:Po.okS room ps) (g:Int) {K:Int×Bool×Unit->A2->Prop}
 (k: ∀a,aF Q D G w0 a s (L0.set j (bp,Po.iD room (Po.fe room ps g).2))->K ((Po.fe room ps g).1.1,(Po.fe room ps g).1.2,()) a):
 aA AC 231 (.bu [aq,cr]) [ah (ae bp),aa g] w K:=by
 have ⟨e,h2,f,h,ca,la,b⟩:=S;exact Po.PW b (j+4) c d g λa b=>k a ⟨e,h2,f,h,ca,la,b⟩
theorem abp (S:aF Q D G w0 w s L0) (j:Nat) (c:L0[j]? =some (bp,Po.iD room ps)) (d:Po.jq room ps) (g:Int) {K:Int->A2->Prop}
 (k: ∀a,aF Q D G w0 a s (L0.set j (bp,Po.iD room (Po.bV room ps g).2))->K (Po.bV room ps g).1 a):
 aA AC 209 aT [ah (ae bp),aa g] w K:=by
 have ⟨e,h2,f,h,ca,la,b⟩:=S;exact Po.PY b (j+4) c d g λa b=>k a ⟨e,h2,f,h,ca,la,b⟩
theorem res (S:aF Q D G w0 w s L0) {j b1:Nat} {c d:AG} (b:L0[j]? =some (b1,[c,d])) (v e:Int) {K:RS->A2->Prop} (k: ∀a,aF Q D G w0 a s (L0.set j (b1,[av v,aa e]))->K (v,e,()) a):
 aw w (ae b1) [av v,aa e] λa=>ak a λw1=>ag w1 none (ae b1) (.agg gm) λx=>K (x.1,x.2.1,()) w1:=by
 have f:=(B4.1 b).1;refine S.cQ j b rfl rfl λa S=>S.en λg S=>?_;exact S.ld j (C7 f) rfl (k g S)
end aF
end
def cY (h:HS) (gr:List GT):HS:={h with gr:=gr}
def kr (h:HS) (po:List Po.PT):HS:={h with po:=po}
def bz (h:HS) (s:WD):HS:={h with s:=s}
abbrev eO (k a b c:Int):List AG:=[aa k,av a,av b,av c]
theorem qo (gs:List GT) (i o:Int):(jf gs i o).length=gs.length:=by grind[jf]
def tW (h:HS) (v a:Int):Int:=if a>=16 then 1 else mQ h.gr a v
def jY (h:HS) (v a:Int):HS:=if a>=16 then h else cY h (jf h.gr a v)
section
variable {Q:Sys} {X:HX} {D G:List Nat} {w0 w:A2} {h:HS} {L:List (Nat×List AG)} {K:RS->A2->Prop}
theorem K8 (H:eH Q X D G w0 w h L) (v k:Int) {a:Int} (b c:Int) (m:0<=a) (kk: ∀f,eH Q X D G w0 f (jY h v a) L->K (0,tW h v a,()) f):
 aC AC 135 (.el (.agg gm)) [ah (ae X.hb),aa v,.agg ⟨eO k a b c⟩] w K:=by
 have ⟨A,W,H⟩:=H;have ⟨o,S,J⟩:=H.call;refine aQ (C:=V0) (AR (EK _ v k a b c w K) ?_);refine S.al λp f S=>S.al λb1 q S=>⟨rfl,S.a_ 1 rfl rfl ?_⟩;unfold tW jY at kk;refine ab (λd=>⟨trivial,S.res (j:=0) rfl 0 1 λi S=>?_⟩) (λd=>?_)
 .rw[az (by simpa using d),az (by simpa using d)] at kk;exact kk i ⟨A,W,J (S.tail.tail)⟩
 .have d: ¬ a>=16:=by simpa using d
  rw[ar d,ar d] at kk;refine⟨rfl,rfl,ag.of _ (S.gP (X:=X) (A:=A) (g:=h.g) (by simp) (n:=2) rfl) ⟨rfl,S.a_ 1 rfl rfl ?_⟩⟩;rw[a9 ⟨m,by omega⟩];refine S.UI 3 4 rfl rfl (by rw[W.gl];decide) a v λi S=>⟨trivial,S.res (j:=0) rfl 0 _ λl S=>kk l ⟨A,⟨W.jI,W.mp,(qo _ _ _).trans W.gl,W.pt,W.gk.rev _ _⟩,J ?_⟩⟩;have S:=S.tail.tail;have e:(jf h.gr a v).length=h.gr.length:=qo _ _ _;show aF Q [] o w l h.s ((X.hb,kv Q X A h.g)::(X.gb,g7 X.vq (jf h.gr a v).length X.c):: _);rw[e];exact S
end
set_option maxRecDepth 100000
open Go.RX D
def yW (h:HS) (v a:Int):Int:=if a>=4 then 1 else(Po.kj 4 h.po v a).1
def mi (h:HS) (v a:Int):HS:=if a>=4 then h else kr h (Po.kj 4 h.po v a).2
def sU (h:HS) (v a:Int):Int:=if a>=4 then 1 else(Po.dR 4 h.po v a).1
def jv (h:HS) (v a:Int):HS:=if a>=4 then h else kr h (Po.dR 4 h.po v a).2
def DF (h:HS) (v:Int):Int:=if(Po.fe 4 h.po v).1.2=true then(Po.fe 4 h.po v).1.1+1 else 0
def yX (h:HS) (v:Int):HS:=kr h (Po.fe 4 h.po v).2
def lI (h:HS) (v a:Int):Int×Int:=if cf h.g v a=0 then(Po.dU 4 h.po v a).1 else(0,cf h.g v a)
def jO (h:HS) (v a:Int):HS:=if cf h.g v a=0 then kr h (Po.dU 4 h.po v a).2 else h
def lJ (h:HS) (v a b:Int):Int×Int:=if cf h.g v a=1\/b>=4 then(0,1) else if cf h.g v a=0 then(Po.dA 4 h.po v a b).1 else(0,cf h.g v a)
def jP (h:HS) (v a b:Int):HS:=if cf h.g v a=1\/b>=4 then h else if cf h.g v a=0 then kr h (Po.dA 4 h.po v a b).2 else h
theorem n9 {g:Nat->Option GV} {v a:Int} (h:cf g v a≠1):1<=a/\a<=16:=by grind[cf]
theorem cN {a:Int} (h:0<=a/\a<18446744073709551616):aB .u64 a=a:=by
 unfold aB;simp only[IntKind.wrap,IntKind.bits,IntKind.signed]
 grind
theorem En {ps:List Po.PT} {g:Int} (h:(Po.fe 4 ps g).1.2=true):0<=(Po.fe 4 ps g).1.1/\(Po.fe 4 ps g).1.1<4:=by
 grind[Po.fe,Po.lF,AZ]
theorem UJ {ps:List Po.PT} {g:Int} {x:Po.PT} (a:Po.gI g=true):0<=(Po.dx 4 ps g x).1.1/\(Po.dx 4 ps g x).1.1<4:=by
 unfold Po.dx;split
 grind
 .rename_i b;have:=(Po.bL.1 (Po.jZ a b).1).2
  grind
theorem Eo (ps:List Po.PT) (g r:Int):0<=(Po.dU 4 ps g r).1.1/\(Po.dU 4 ps g r).1.1<4:=by
 unfold Po.dU;split
 .rename_i a;exact UJ (Po.mX.1 a).1
 simp
section
variable {Q:Sys} {X:HX} {D G:List Nat} {w0 w:A2} {h:HS} {L:List (Nat×List AG)} {K:RS->A2->Prop}
theorem UK (H:eH Q X D G w0 w h L) (v k:Int) {a:Int} (b c:Int) (i:0<=a) (kk: ∀e,eH Q X D G w0 e (mi h v a) L->K (0,yW h v a,()) e):
 aC AC 138 (.el (.agg gm)) [ah (ae X.hb),aa v,.agg ⟨eO k a b c⟩] w K:=by
 have ⟨A,W,H⟩:=H;have ⟨m,S,J⟩:=H.call;refine aQ (C:=V0) (AR (KX _ v k a b c w K) ?_);refine S.al λo e S=>S.al λb1 p S=>⟨rfl,S.a_ 1 rfl rfl ?_⟩;unfold yW mi at kk;refine ab (λd=>⟨trivial,S.res (j:=0) rfl 0 1 λf S=>?_⟩) (λd=>?_)
 .rw[az (by simpa using d),az (by simpa using d)] at kk;exact kk f ⟨A,W,J (S.tail.tail)⟩
 .have d: ¬ a>=4:=by simpa using d
  rw[ar d,ar d] at kk;refine⟨rfl,rfl,ag.of _ (S.gP (X:=X) (A:=A) (g:=h.g) (by simp) (n:=3) rfl) ⟨rfl,S.a_ 1 rfl rfl ?_⟩⟩;rw[a9 ⟨i,by omega⟩];exact S.abn 5 rfl W.pt v a λf S=>⟨trivial,S.res (j:=0) rfl 0 _ λl S=>kk l ⟨A,⟨W.jI,W.mp,W.gl,W.pt.kj v a,W.gk⟩,J (S.tail.tail)⟩⟩
theorem QY (H:eH Q X D G w0 w h L) (v k:Int) {a:Int} (b c:Int) (i:0<=a) (kk: ∀e,eH Q X D G w0 e (jv h v a) L->K (0,sU h v a,()) e):
 aC AC 140 (.el (.agg gm)) [ah (ae X.hb),aa v,.agg ⟨eO k a b c⟩] w K:=by
 have ⟨A,W,H⟩:=H;have ⟨m,S,J⟩:=H.call;refine aQ (C:=V0) (AR (GP _ v k a b c w K) ?_);refine S.al λo e S=>S.al λb1 p S=>⟨rfl,S.a_ 1 rfl rfl ?_⟩;unfold sU jv at kk;refine ab (λd=>⟨trivial,S.res (j:=0) rfl 0 1 λf S=>?_⟩) (λd=>?_)
 .rw[az (by simpa using d),az (by simpa using d)] at kk;exact kk f ⟨A,W,J (S.tail.tail)⟩
 .have d: ¬ a>=4:=by simpa using d
  rw[ar d,ar d] at kk;refine⟨rfl,rfl,ag.of _ (S.gP (X:=X) (A:=A) (g:=h.g) (by simp) (n:=3) rfl) ⟨rfl,S.a_ 1 rfl rfl ?_⟩⟩;rw[a9 ⟨i,by omega⟩];exact S.YK 5 rfl W.pt v a λf S=>⟨trivial,S.res (j:=0) rfl 0 _ λl S=>kk l ⟨A,⟨W.jI,W.mp,W.gl,W.pt.dR v a,W.gk⟩,J (S.tail.tail)⟩⟩
theorem UL (H:eH Q X D G w0 w h L) (v k a b c:Int) (kk: ∀e,eH Q X D G w0 e (yX h v) L->K (DF h v,0,()) e):
 aC AC 139 (.el (.agg gm)) [ah (ae X.hb),aa v,.agg ⟨eO k a b c⟩] w K:=by
 have ⟨A,W,H⟩:=H;have ⟨o,S,J⟩:=H.call;refine aQ (C:=V0) (AR (KY _ v k a b c w K) ?_);refine S.al λp e S=>S.al λb1 q S=>⟨rfl,rfl,ag.of _ (S.gP (X:=X) (A:=A) (g:=h.g) (by simp) (n:=3) rfl) ?_⟩;unfold DF yX at kk;have l:=λh'=>En (ps:=h.po) (g:=v) h';refine S.abo 5 rfl W.pt.tookS v λs S=>?_;have ⟨r,m⟩: ∃r,r=Po.fe 4 h.po v:=⟨_,rfl⟩;have f:=W.pt.fe v;rw[<-m] at l kk S f ⊢;refine ab (λd=>S.res (j:=0) rfl 0 0 λi S=>?_) (λd=>?_)
 .have d: ¬ r.1.2=true:=by simpa using d
  rw[ar d] at kk;exact kk i ⟨A,⟨W.jI,W.mp,W.gl,f,W.gk⟩,J (S.tail.tail)⟩
 .have d:r.1.2=true:=by simpa using d
  rw[az d] at kk;have:=l d;rw[ao (by omega) (by omega),cN (by omega)];exact S.res (j:=0) rfl _ 0 λi S=>kk i ⟨A,⟨W.jI,W.mp,W.gl,f,W.gk⟩,J (S.tail.tail)⟩
theorem UM (H:eH Q X D G w0 w h L) (v k:Int) {a:Int} (b c:Int) (i:0<=a) (kk: ∀f,eH Q X D G w0 f (jO h v a) L->K ((lI h v a).1,(lI h v a).2,()) f):
 aC AC 136 (.el (.agg gm)) [ah (ae X.hb),aa v,.agg ⟨eO k a b c⟩] w K:=by
 have ⟨A,W,H⟩:=H;have ⟨o,S,J⟩:=H.call;refine aQ (C:=V0) (AR (KV _ v k a b c w K) ?_);refine S.al λp f S=>S.al λb1 q S=>⟨rfl,S.a_ 1 rfl rfl ⟨_,zK S (X:=X) (A:=A) (g:=h.g) (by simp) v i,?_⟩⟩;unfold lI jO at kk;refine ab (λd=>⟨trivial,S.res (j:=0) rfl 0 _ λl S=>?_⟩) (λd=>?_)
 .have d: ¬ cf h.g v a=0:=by simpa using d
  rw[ar d,ar d] at kk;exact kk l ⟨A,W,J (S.tail.tail)⟩
 .have d:cf h.g v a=0:=by simpa using d
  rw[az d,az d] at kk;have r:=n9 (g:=h.g) (v:=v) (a:=a) (by rw[d];decide);refine⟨rfl,rfl,ag.of _ (S.gP (X:=X) (A:=A) (g:=h.g) (by simp) (n:=3) rfl) ⟨rfl,S.a_ 1 rfl rfl ?_⟩⟩;rw[a9 ⟨i,by omega⟩];have s:=Eo h.po v a;refine S.abm 5 rfl W.pt.tookS v a λl S=>?_;have e:aB .u64 (Po.dU 4 h.po v a).1.1=(Po.dU 4 h.po v a).1.1:=cN (by omega);dsimp only;rw[e];exact S.res (j:=0) rfl _ _ λm S=>kk m ⟨A,⟨W.jI,W.mp,W.gl,W.pt.dU v a,W.gk⟩,J (S.tail.tail)⟩
theorem Ep (ps:List Po.PT) (g r i:Int):0<=(Po.dA 4 ps g r i).1.1/\(Po.dA 4 ps g r i).1.1<4:=by
 unfold Po.dA;have z:(0:Int)<=0/\(0:Int)<4:=by decide
 split
 .rename_i a;split
  .exact z
  .split
   .exact z
   .split
    .exact z
    .split
     .exact z
     .rename_i h2;have:=(Po.bL.1 (Po.jZ (Po.mX.1 a).1 h2).1).2;exact this
 grind
theorem UN (H:eH Q X D G w0 w h L) (v k:Int) {a b:Int} (c:Int) (l:0<=a) (hb:0<=b) (kk: ∀i,eH Q X D G w0 i (jP h v a b) L->K ((lJ h v a b).1,(lJ h v a b).2,()) i):
 aC AC 137 (.el (.agg gm)) [ah (ae X.hb),aa v,.agg ⟨eO k a b c⟩] w K:=by
 have ⟨A,W,H⟩:=H;have ⟨o,S,J⟩:=H.call;refine aQ (C:=V0) (AR (KW _ v k a b c w K) ?_);refine S.al λp i S=>S.al λb1 q S=>⟨rfl,S.a_ 1 rfl rfl ⟨_,zK S (X:=X) (A:=A) (g:=h.g) (by simp) v l,λ_=>rfl,S.a_ 1 rfl rfl ?_⟩⟩;unfold lJ jP at kk;refine ab (λd=>⟨trivial,S.res (j:=0) rfl 0 _ λf S=>?_⟩) (λd=>?_)
 .have d:cf h.g v a=1\/b>=4:=by simpa using d
  rw[az d,az d] at kk;exact kk f ⟨A,W,J (S.tail.tail)⟩
 have d: ¬ (cf h.g v a=1\/b>=4):=by
  grind
 rw[ar d,ar d] at kk;refine ab (λd=>⟨trivial,S.res (j:=0) rfl 0 _ λf S=>?_⟩) (λd2=>?_)
 .have d: ¬ cf h.g v a=0:=by simpa using d
  rw[ar d,ar d] at kk;exact kk f ⟨A,W,J (S.tail.tail)⟩
 .have d2:cf h.g v a=0:=by simpa using d2
  rw[az d2,az d2] at kk;have r:=n9 (g:=h.g) (v:=v) (a:=a) (by rw[d2];decide);have s:b<4:=by omega
  refine⟨rfl,rfl,ag.of _ (S.gP (X:=X) (A:=A) (g:=h.g) (by simp) (n:=3) rfl) ⟨rfl,S.a_ 1 rfl rfl ⟨rfl,S.a_ 1 rfl rfl ?_⟩⟩⟩;rw[a9 ⟨l,by omega⟩,a9 ⟨hb,by omega⟩];have t:=Ep h.po v a b;refine S.pbind 5 rfl W.pt.tookS v a b λf S=>?_;have e:aB .u64 (Po.dA 4 h.po v a b).1.1=(Po.dA 4 h.po v a b).1.1:=cN (by omega);dsimp only;rw[e];exact S.res (j:=0) rfl _ _ λm S=>kk m ⟨A,⟨W.jI,W.mp,W.gl,W.pt.dA v a b,W.gk⟩,J (S.tail.tail)⟩
end
theorem uu (gs:List GT) (o q t:Int) (b:Bool):(ib gs o q t b).length=gs.length:=by
 unfold ib;split
 .rw[Cs]
 .rfl
theorem Er {gs:List GT} (b:gs.length=16) (o q t:Int):0<=gU gs o q t/\gU gs o q t<16:=by
 have z:(0:Int)<=0/\(0:Int)<16:=by decide
 unfold gU;split
 .cases a:cI gs dN gs.length with
  |nil=>exact z
  |cons x l=>
   have ⟨i,hi, _,e⟩:=iN.1 (by rw[a];exact AZ:x∈cI gs dN gs.length);show 0<=x/\x<16;omega
 .exact z
def fq (h:HS) (v p:Int):Bool:=(dC h.g v p).2.1
def mq (h:HS) (v a b c:Int):Int:=
 if a>=65536 then 2 else if cf h.g v b=1\/c>1 then 1 else if(db h.g h.s v a).2.2.1≠0\/cf h.g v b≠0 then 4 else if fq h v a=true then 7 else 0
def lz (h:HS) (v a b c:Int):Int×Int:=if mq h v a b c=0 then(gU h.gr v a b,iT h.gr v a b) else(0,mq h v a b c)
def kH (h:HS) (v a b c:Int):HS:=if mq h v a b c=0 then cY h (ib h.gr v a b (c==1)) else h
section
variable {Q:Sys} {X:HX} {D G:List Nat} {w0 w:A2} {h:HS} {L:List (Nat×List AG)} {K:RS->A2->Prop}
theorem bS {A:Nat->GA} (W:Cf A h) (T:List (Nat×List AG)): ∀i v,h.g i=some v-> ∀x∈ik Q A i v,x∈T++fH Q X A h (bI Q A h.g (AE 17)++L):=λi v hv x a=>by
 have:=W.jI hv;exact Ce _ (B1 _ (B1 _ (B1 _ (B1 _ (Ff _ (K5 (DB.2 (by omega)) hv x a))))))
theorem fV {A:Nat->GA} (W:Cf A h): ∀i v,h.g i=some v->((A i).bm,Obj.map ⟨(A i).es⟩ (A i).ck)∈e_ A h.g (AE 17):=λi v hv=>by
 have:=W.jI hv;exact K6 (DB.2 (by omega)) hv
theorem QZ (H:eH Q X D G w0 w h L) (v k:Int) {a b c:Int} (z:0<=a) (hb:0<=b) (hc:0<=c) (kk: ∀l,eH Q X D G w0 l (kH h v a b c) L->K ((lz h v a b c).1,(lz h v a b c).2,()) l):
 aC AC 132 (.el (.agg gm)) [ah (ae X.hb),aa v,.agg ⟨eO k a b c⟩] w K:=by
 have ⟨A,W,H⟩:=H;have ⟨B,S,J⟩:=H.call;refine aQ (C:=V0) (AR (GO _ v k a b c w K) ?_);refine S.al λF l S=>S.al λb1 I S=>⟨rfl,S.a_ 1 rfl rfl ⟨_,zK S (X:=X) (A:=A) (g:=h.g) (by simp) v hb,rfl,S.a_ 1 rfl rfl ?_⟩⟩;have m:mq h v a b c≠0-> ∀{l},eH Q X D G w0 l h L->K (0,mq h v a b c,()) l:=λr l H=>by
  have o:lz h v a b c=(0,mq h v a b c):=ar r;have p:kH h v a b c=h:=ar r;rw[o,p] at kk;exact kk l H
 have f:mq h v a b c=if a>=65536 then 2 else if cf h.g v b=1\/c>1 then 1 else if(db h.g h.s v a).2.2.1≠0\/cf h.g v b≠0 then 4 else if fq h v a=true then 7 else 0:=rfl;refine ab (λd=>⟨trivial,S.res (j:=0) rfl 0 _ λt S=>?_⟩) (λd=>⟨λ_=>rfl,S.a_ 1 rfl rfl ?_⟩)
 .rw[az (by simpa using d)] at f;rw[f] at m;exact m (by decide) ⟨A,W,J S.tail.tail⟩
 have d: ¬ a>=65536:=by simpa using d
 rw[ar d] at f;have q:aB .i64 a=a:=a9 ⟨z,by omega⟩;refine ab (λd=>⟨trivial,S.res (j:=0) rfl 0 _ λt S=>?_⟩) (λd2=>⟨rfl,S.a_ 1 rfl rfl ?_⟩)
 .rw[az (by simpa using d)] at f;rw[f] at m;exact m (by decide) ⟨A,W,J S.tail.tail⟩
 have d2: ¬ (cf h.g v b=1\/c>1):=by
  intro e;have:(cf h.g v b==1||decide (c>1))=true:=by simpa using e
  rw[this] at d2;cases d2
 rw[ar d2] at f;rw[q];refine rn S (X:=X) (A:=A) (g:=h.g) (by simp) (bS W [_, _]) v a λt S=>?_;refine ab (λd=>⟨trivial,S.res (j:=0) rfl 0 _ λu S=>?_⟩) (λd3=>⟨rfl,S.a_ 1 rfl rfl ?_⟩)
 .rw[az (by simpa using d)] at f;rw[f] at m;exact m (by decide) ⟨A,W,J S.tail.tail⟩
 have d3: ¬ ((db h.g h.s v a).2.2.1≠0\/cf h.g v b≠0):=by
  intro e;have:((db h.g h.s v a).2.2.1 != 0||cf h.g v b != 0)=true:=by simpa using e
  rw[this] at d3;cases d3
 rw[ar d3] at f;rw[q];refine⟨dC h.g v a,nZ (J S) (X:=X) (A:=A) (g:=h.g) (by simp) (bS W [_, _]) (fV W) (λi x E=>W.mp E) v a,?_⟩;refine ab (λd=>⟨trivial,S.res (j:=0) rfl 0 _ λu S=>?_⟩) (λd4=>?_)
 .rw[az (show fq h v a=true from d)] at f;rw[f] at m;exact m (by decide) ⟨A,W,J S.tail.tail⟩
 rw[ar (show ¬ fq h v a=true by unfold fq;rw[d4];decide)] at f;have o:lz h v a b c=(gU h.gr v a b,iT h.gr v a b):=az f;have p:kH h v a b c=cY h (ib h.gr v a b (c==1)):=az f;rw[o,p] at kk;have M:=n9 (g:=h.g) (v:=v) (a:=b) (λe=>d2 (.inl e));refine⟨rfl,rfl,ag.of _ (S.gP (X:=X) (A:=A) (g:=h.g) (by simp) (n:=2) rfl) ⟨rfl,S.a_ 1 rfl rfl ⟨rfl,S.a_ 1 rfl rfl ⟨rfl,S.a_ 1 rfl rfl ?_⟩⟩⟩⟩;rw[q,a9 ⟨hb,by omega⟩];have N:=Er W.gl v a b;refine S.YJ 3 4 rfl rfl (by rw[W.gl];decide) (by rw[W.gl];decide) v a b (c==1) λu S=>?_;dsimp only;rw[cN (by omega)];refine S.res (j:=0) rfl _ _ λy S=>kk y ⟨A,⟨W.jI,W.mp,(uu _ _ _ _ _).trans W.gl,W.pt,W.gk.off _ _ _ _⟩,J ?_⟩;have S:=S.tail.tail;have e:(ib h.gr v a b (c==1)).length=h.gr.length:=uu _ _ _ _ _;show aF Q [] B w y h.s ((X.hb,kv Q X A h.g)::(X.gb,g7 X.vq (ib h.gr v a b (c==1)).length X.c):: _);rw[e];exact S
end
def gV (h:HS) (v a t:Int):Int×Int:=if a>=1048576 then(0,2) else(ay .i64 (dk .i64 16 (rJ h.s.1 (aY h.g v) (a / 16) t).1) (a % 16),(rJ h.s.1 (aY h.g v) (a / 16) t).2.2.2.1)
def rZ (h:HS) (v a:Int):Int×Int:=if(gV h v a 1).2≠0 then(0,(gV h v a 1).2) else(eY h.s.1 (gV h v a 1).1,vy h.s.1 (gV h v a 1).1)
def zg (h:HS) (v a:Int):Int:=if(gV h v a 2).2≠0 then(gV h v a 2).2 else vy h.s.1 (gV h v a 2).1
def iY (h:HS) (v a b:Int):HS:=if(gV h v a 2).2≠0 then h else bz h (fm h.s.1 (gV h v a 2).1 b,h.s.2)
def cv (s:WD):Nat->WD×Nat
 |0=>(s,0)
 |n+1=>(jz (cv s n).1 (n:Int),(cv s n).2+if f_ (cv s n).1 (n:Int)=0 then 1 else 0)
theorem K9 (s:WD) (f:Int):(jz s f).1=s.1/\(jz s f).2.length=s.2.length:=by
 unfold jz;split
 .exact⟨rfl,dY _ _ _⟩
 .exact⟨rfl,rfl⟩
theorem v_ (s:WD): ∀n,(cv s n).1.1=s.1/\(cv s n).1.2.length=s.2.length
 |0=>⟨rfl,rfl⟩
 |n+1=>by
  have h:=K9 (cv s n).1 (n:Int);have h2:=v_ s n;exact⟨h.1.trans h2.1,h.2.trans h2.2⟩
theorem wc (s:WD): ∀n,(cv s n).2<=n
 |0=>Da _
 |n+1=>by
  have:=wc s n;show(cv s n).2+ _<=n+1;split<;>omega
theorem V_ {a:Int} (h:0<=a/\a<1048576):aB .i64 (pT .u64 a 16)=a / 16:=by
 have e:pT .u64 a 16=a / 16:=by
  show aB .u64 (a.tdiv 16)= _;rw[Int.tdiv_eq_ediv_of_nonneg h.1];exact cN (by omega)
 rw[e];exact a9 (by omega)
theorem V' {a:Int} (h:0<=a):aB .i64 (gj a 16)=a % 16:=by
 have e:gj a 16=a % 16:=by
  unfold gj;exact Int.tmod_eq_emod_of_nonneg h
 rw[e];exact a9 (by omega)
section
variable {Q:Sys} {X:HX} {D G:List Nat} {w0 w:A2} {h:HS} {L:List (Nat×List AG)} {K:RS->A2->Prop}
theorem Es {f:List Nat} {j:A2} {A:Nat->GA} {s:WD} {L0:List (Nat×List AG)} (S:aF Q [] f j w s L0) (m:s=h.s) (k:(X.hb,kv Q X A h.g)∈L0) (o: ∀i v,h.g i=some v-> ∀x∈ik Q A i v,x∈L0) (v:Int) {a:Int} (l:0<=a) (t:Int) {K:Int×Int×Unit->A2->Prop}
 (kk: ∀c,aF Q [] f j c s L0->K ((gV h v a t).1,(gV h v a t).2,()) c):
 aA AC 220 (.bu [aq,aq]) [ah (ae X.hb),aa v,av a,aa t] w K:=by
 subst m;refine S.go λw1 S=>aj (C:=V0) (AR (QR _ v a t w1 K) ?_);unfold gV at kk;refine ab (λd=>S.en λc S=>?_) (λd=>?_)
 .rw[az (by simpa using d)] at kk;exact kk c S
 .have d: ¬ a>=1048576:=by simpa using d
  rw[ar d] at kk;rw[V_ ⟨l,by omega⟩,V' l];refine⟨rfl,rfl,ag.of _ (S.gP (X:=X) (A:=A) (g:=h.g) k (n:=0) rfl) ⟨_,IH S k o v,?_,?_⟩⟩
  .exact S.walk _ _ _ λc S=>S.al λb p S=>S.cQ 0 rfl rfl rfl λq S=>⟨rfl,S.a_ 0 rfl rfl ⟨rfl,S.a_ 0 rfl rfl (S.en λe S=>kk e S.tail)⟩⟩
  .exact S.al λb p S=>S.walk _ _ _ λc S=>S.cQ 0 rfl rfl rfl λq S=>⟨rfl,S.a_ 0 rfl rfl ⟨rfl,S.a_ 0 rfl rfl (S.en λe S=>kk e S.tail)⟩⟩
theorem UO (H:eH Q X D G w0 w h L) (v k:Int) {a:Int} (b c:Int) (i:0<=a) (kk: ∀e,eH Q X D G w0 e h L->K ((rZ h v a).1,(rZ h v a).2,()) e):
 aC AC 130 (.el (.agg gm)) [ah (ae X.hb),aa v,.agg ⟨eO k a b c⟩] w K:=by
 have ⟨A,W,H⟩:=H;have ⟨m,S,J⟩:=H.call;refine aQ (C:=V0) (AR (KS _ v k a b c w K) ?_);refine S.al λo e S=>S.al λb1 p S=>⟨rfl,S.a_ 1 rfl rfl (Es (h:=h) (A:=A) S rfl (by simp) (bS W [_, _]) v i 1 λq S=>?_)⟩;unfold rZ at kk;refine ab (λd=>⟨trivial,S.res (j:=0) rfl 0 _ λf S=>?_⟩) (λd=>?_)
 .rw[az (by simpa using d)] at kk;exact kk f ⟨A,W,J S.tail.tail⟩
 .rw[ar (by simpa using d)] at kk;exact⟨rfl,rfl,ag.of _ (S.gP (X:=X) (A:=A) (g:=h.g) (by simp) (n:=0) rfl) (S.load _ λf S=>S.res (j:=0) rfl _ _ λl S=>kk l ⟨A,W,J S.tail.tail⟩)⟩
theorem Q0 (H:eH Q X D G w0 w h L) (v k:Int) {a b:Int} (c:Int) (i:0<=a) (hb:0<=b/\b<18446744073709551616) (kk: ∀e,eH Q X D G w0 e (iY h v a b) L->K (0,zg h v a,()) e):
 aC AC 131 (.el (.agg gm)) [ah (ae X.hb),aa v,.agg ⟨eO k a b c⟩] w K:=by
 have ⟨A,W,H⟩:=H;have ⟨m,S,J⟩:=H.call;refine aQ (C:=V0) (AR (GN _ v k a b c w K) ?_);refine S.al λo e S=>S.al λb1 p S=>⟨rfl,S.a_ 1 rfl rfl (Es (h:=h) (A:=A) S rfl (by simp) (bS W [_, _]) v i 2 λq S=>?_)⟩;unfold iY zg at kk;refine ab (λd=>⟨trivial,S.res (j:=0) rfl 0 _ λf S=>?_⟩) (λd=>?_)
 .rw[az (by simpa using d),az (by simpa using d)] at kk;exact kk f ⟨A,W,J S.tail.tail⟩
 .rw[ar (by simpa using d),ar (by simpa using d)] at kk;exact⟨rfl,rfl,ag.of _ (S.gP (X:=X) (A:=A) (g:=h.g) (by simp) (n:=0) rfl) ⟨rfl,S.a_ 1 rfl rfl (S.store _ b hb λf S=>⟨trivial,S.res (j:=0) rfl 0 _ λl S=>kk l ⟨A,⟨W.jI,W.mp,W.gl,W.pt,W.gk⟩,J S.tail.tail⟩⟩)⟩⟩
theorem Q1 (H:eH Q X D G w0 w h L) (v k a b c:Int) (kk: ∀e,eH Q X D G w0 e (bz h (cv h.s h.s.2.length).1) L->K (((cv h.s h.s.2.length).2:Int),0,()) e):
 aC AC 126 (.el (.agg gm)) [ah (ae X.hb),aa v,.agg ⟨eO k a b c⟩] w K:=by
 have ⟨A,W,H⟩:=H;have ⟨r,S,J⟩:=H.call;refine aQ (C:=V0) (b_:=qA) (AR (GM _ v k a b c w K) ?_);have M:=S.le;refine S.al λt e S=>S.al λb1 N S=>⟨rfl,rfl,ag.of _ (S.gP (X:=X) (A:=A) (g:=h.g) (by simp) (n:=1) rfl) ⟨_,S.Xz,?_⟩⟩;refine⟨λn u w'=> ∃m:Nat,u.1=((cv h.s m).2:Int)/\u.2.1=(m:Int)/\n+m=h.s.2.length/\aF Q [] r w w' (cv h.s m).1 ((b1,[av 0,aa 0])::(t,eO k a b c)::fH Q X A h (bI Q A h.g (AE 17)++L)),⟨h.s.2.length,λz B=>⟨0,rfl,rfl,rfl,S.ext B⟩⟩,?_⟩;clear S;rintro n ⟨x,y,u⟩ z ⟨m,l,o,O,S⟩;dsimp only at l o ⊢;subst l;subst o;have hc:=wc h.s m;refine ab (λf=>?_) (λf=>?_)
 .have p:m<h.s.2.length:=by simpa using f
  refine QX S (X:=X) (A:=A) (g:=h.g) (by simp) (m:Int) λq S=>?_;have E:ay .i64 (m:Int) 1=((m+1:Nat):Int):=by rw[ao (by omega) (by omega)];omega
  have F:ay .i64 ((cv h.s m).2:Int) 1=(((cv h.s m).2+1:Nat):Int):=by rw[ao (by omega) (by omega)];omega
  rw[E,F];refine ab (λd=>λI i=>⟨n - 1,by omega,m+1,?_,rfl,by omega,S.ext i⟩) (λd=>λI i=>⟨n - 1,by omega,m+1,?_,rfl,by omega,S.ext i⟩)
  .have d:f_ (cv h.s m).1 (m:Int)=0:=by simpa using d
   show _=(((cv h.s m).2+if f_ (cv h.s m).1 (m:Int)=0 then 1 else 0:Nat):Int);rw[az d]
  .have d: ¬ f_ (cv h.s m).1 (m:Int)=0:=by simpa using d
   show _=(((cv h.s m).2+if f_ (cv h.s m).1 (m:Int)=0 then 1 else 0:Nat):Int);rw[ar d];rfl
 .have p:m=h.s.2.length:=by
   have: ¬ m<h.s.2.length:=by simpa using f
   omega
  subst p;rw[cN (by omega)];exact S.res (j:=0) rfl _ 0 λq S=>kk q ⟨A,⟨W.jI,W.mp,W.gl,W.pt,W.gk⟩,J S.tail.tail⟩
end
theorem bK {g:Nat->Option GV} {v:Int} (a:aV g v=true): ∃x,g v.toNat=some x/\aY g v=x.root/\((v.toNat:Nat):Int)=v/\1<=v/\v<=16:=by
 have ⟨hv,x,b⟩:=fx.1 a;refine⟨x,b,?_,by omega,hv.1,hv.2⟩;unfold aY;rw[az a,b]
theorem aF.pK {Q:Sys} {X:HX} {D G:List Nat} {w0 w:A2} {s:WD} {L0:List (Nat×List AG)} {A:Nat->GA} {g:Nat->Option GV} (S:aF Q D G w0 w s L0) (d:(X.hb,kv Q X A g)∈L0) (b: ∀i v,g i=some v-> ∀x∈ik Q A i v,x∈L0) {v:Int} (e:aV g v=true):
 bP w (ad (ad (ae X.hb) 4) (v.toNat*1)) bF (some ⟨(A v.toNat).bg,0,none⟩)/\bP w (ad (some ⟨(A v.toNat).bg,0,none⟩) 0) bF (some ⟨(A v.toNat).bt,0,none⟩)/\bP w (ad (some ⟨(A v.toNat).bg,0,none⟩) 1) Dq (some (A v.toNat).bm)/\
  ∃j:Nat,L0[j]? =some ((A v.toNat).bt,iV Q v (aY g v) false):=by
 have ⟨x,a,f,hv,m,h2⟩:=bK e;have hc:=S.tM d (v:=v) ⟨by omega,h2⟩;have h:lN A g v.toNat=some ⟨(A v.toNat).bg,0,none⟩:=by unfold lN;rw[a]
 rw[h] at hc;have ⟨j1,c⟩:=B5 (b _ _ a _ AZ);have ⟨k,l⟩:=B5 (b _ _ a _ (B1 _ AZ));refine⟨hc,?_,?_,k,?_⟩
 .rw[aS];exact cK (S.get c) rfl
 .rw[aS];exact cK (S.get c) rfl
 .rw[f, <-hv];exact l
def pk (h:HS) (v a b:Int):Int:=
 if a>=65536 then 2 else if b<1\/b>7 then 7 else if fq h v a=true/\iF .u64 b 2>0/\(kX h.gr (dC h.g v a).1).2.2.2.1=false then 7 else Cq h.s v (aY h.g v) false a b
def iU (h:HS) (v a b:Int):HS:=
 if a>=65536 then h else if b<1\/b>7 then h else if fq h v a=true/\iF .u64 b 2>0/\(kX h.gr (dC h.g v a).1).2.2.2.1=false then h else bz h (pY h.s v (aY h.g v) false a b)
section
variable {Q:Sys} {X:HX} {D G:List Nat} {w0 w:A2} {h:HS} {L:List (Nat×List AG)} {K:RS->A2->Prop}
theorem GY (H:eH Q X D G w0 w h L) {v:Int} (m:aV h.g v=true) (k:Int) {a b:Int} (c:Int) (E:0<=a) (hb:0<=b) (kk: ∀f,eH Q X D G w0 f (iU h v a b) L->K (0,pk h v a b,()) f):
 aC AC 129 (.el (.agg gm)) [ah (ae X.hb),aa v,.agg ⟨eO k a b c⟩] w K:=by
 have ⟨A,W,H⟩:=H;have ⟨F,S,J⟩:=H.call;have ⟨x,o,O,hv,P,R⟩:=bK m;refine aQ (C:=V0) (AR (CY _ v k a b c w K) ?_);refine S.al λI f S=>S.al λb1 U S=>⟨rfl,S.a_ 1 rfl rfl ?_⟩;unfold pk iU at kk;refine ab (λd=>⟨trivial,S.res (j:=0) rfl 0 _ λp S=>?_⟩) (λd=>⟨rfl,S.a_ 1 rfl rfl ⟨λ_=>rfl,S.a_ 1 rfl rfl ?_⟩⟩)
 .rw[az (by simpa using d),az (by simpa using d)] at kk;exact kk p ⟨A,W,J S.tail.tail⟩
 have d: ¬ a>=65536:=by simpa using d
 rw[ar d,ar d] at kk;refine ab (λd=>⟨trivial,S.res (j:=0) rfl 0 _ λp S=>?_⟩) (λd2=>?_)
 .have d:b<1\/b>7:=by simpa using d
  rw[az d,az d] at kk;exact kk p ⟨A,W,J S.tail.tail⟩
 have d2: ¬ (b<1\/b>7):=by
  intro e;have:(decide (b<1)||decide (b>7))=true:=by simpa using e
  rw[this] at d2;cases d2
 rw[ar d2,ar d2] at kk;have t:aB .i64 a=a:=a9 ⟨E,by omega⟩;have y:aB .i64 b=b:=a9 ⟨hb,by omega⟩;have fin: ∀{r:A2} {T:List (Nat×List AG)} {q:Nat},aF Q [] F w r h.s (T++((b1,[av 0,aa 0])::(I,eO k a b c)::fH Q X A h (bI Q A h.g (AE 17)++L)))->T.length=q->(¬ (fq h v a=true/\iF .u64 b 2>0/\(kX h.gr (dC h.g v a).1).2.2.2.1=false))->
  aA AC 219 aT [ah (some ⟨(A v.toNat).bt,0,none⟩),aa a,aa b] r λ(x:Int) (f:A2)=>True/\aw f (ae b1) [av 0,aa x] λ(f:A2)=>ak f λ(w1:A2)=>ag w1 none (ae b1) (.agg gm) λ(x:Int×Int×Unit)=>K (x.1,x.2.1,()) w1:=by
  intro r T q S V z;rw[ar z,ar z] at kk;have ⟨_, _, _,j,M⟩:=S.pK (X:=X) (A:=A) (g:=h.g) (by simp) (λi v hv x o=>Ce T (bS W [_, _] i v hv x o)) m;refine S.tR j M a b λB S=>⟨trivial,S.res (j:=T.length) (by rw[HB (Da _),Nat.sub_self];rfl) 0 _ λN S=>kk N ⟨A,⟨W.jI,W.mp,W.gl,W.pt,W.gk⟩,J ?_⟩⟩;rw[HD _ _ (Da _),Nat.sub_self] at S;have S:=S.sub (H8 T _);exact S.tail.tail
 refine⟨rfl,S.a_ 1 rfl rfl ⟨dC h.g v a,by rw[t];exact nZ (J S) (X:=X) (A:=A) (g:=h.g) (by simp) (bS W [_, _]) (fV W) (λi x o=>W.mp o) v a,λ_=>rfl,S.a_ 1 rfl rfl (ab (λd3=>?_) (λd3=>?_))⟩⟩
 .have d3:fq h v a=true/\iF .u64 b 2>0:=by
   have:=d3;rw[Dt,decide_eq_true_eq] at this;exact this
  refine⟨rfl,rfl,ag.of _ (S.gP (X:=X) (A:=A) (g:=h.g) (by simp) (n:=2) rfl) ⟨(kX h.gr (dC h.g v a).1,(jF h.gr (dC h.g v a).1).isSome,()),S.aap 3 4 rfl rfl (by rw[W.gl];decide) _,S.al λb2 p S=>S.cQ 0 rfl rfl rfl λr S=>⟨rfl,S.a_ 0 rfl rfl (ab (λd4=>⟨trivial,S.res (j:=1) rfl 0 _ λB S=>?_⟩) (λd4=>?_))⟩⟩⟩
  .have d4:(kX h.gr (dC h.g v a).1).2.2.2.1=false:=by simpa using d4
   rw[az ⟨d3.1,d3.2,d4⟩,az ⟨d3.1,d3.2,d4⟩] at kk;exact kk B ⟨A,W,J S.tail.tail.tail⟩
  .have d4:(kX h.gr (dC h.g v a).1).2.2.2.1=true:=by simpa using d4
   have ⟨g1,u, _, _⟩:=S.pK (X:=X) (A:=A) (g:=h.g) (by simp) (bS W [_, _, _]) m;exact⟨rfl,rfl,⟨rfl,by omega,by show v<((17:Nat):Int);omega⟩,ag.of _ g1 ⟨rfl,rfl,ag.of _ u ⟨rfl,S.a_ 2 rfl rfl ⟨rfl,S.a_ 2 rfl rfl (by
    rw[t,y];exact fin (T:=[_]) S rfl (λl=>by rw[d4] at l;cases l.2.2))⟩⟩⟩⟩
 .have d3: ¬ (fq h v a=true/\iF .u64 b 2>0):=by
   intro e;have:((dC h.g v a).2.1&&decide (iF .u64 b 2>0))=true:=by rw[Dt,decide_eq_true_eq];exact e
   rw[this] at d3;cases d3
  have ⟨g1,u, _, _⟩:=S.pK (X:=X) (A:=A) (g:=h.g) (by simp) (bS W [_, _]) m;exact⟨rfl,rfl,⟨rfl,by omega,by show v<((17:Nat):Int);omega⟩,ag.of _ g1 ⟨rfl,rfl,ag.of _ u ⟨rfl,S.a_ 1 rfl rfl ⟨rfl,S.a_ 1 rfl rfl (by
   rw[t,y];exact fin (T:=[]) S rfl (λl=>d3 ⟨l.1,l.2.1⟩))⟩⟩⟩⟩
end
theorem K_ (s:WD) (r:Int) (gone:Bool) (p:Int):0<=(bC s r gone p).1/\(bC s r gone p).1<5000:=by
 have z:(0:Int)<=0/\(0:Int)<5000:=by decide
 unfold bC;split
 .exact z
 .split
  .exact z
  .split
   .have h:=Iv (B (eY s.1 (cM s.1 r p).2.2.1)).toNat;have h:0<=(cx s.1 r p).2.2.2.1/\(cx s.1 r p).2.2.2.1<4096:=h;show 0<=l9 p (cM s.1 r p) (cx s.1 r p)/\l9 p (cM s.1 r p) (cx s.1 r p)<5000;unfold l9;split<;>omega
   .exact z
theorem uv (g:Nat->Option GV) (s:WD) (v p:Int):0<=(db g s v p).1/\(db g s v p).1<5000:=by
 have z:(0:Int)<=0/\(0:Int)<5000:=by decide
 unfold db;split
 .split
  .exact K_ _ _ _ _
  .exact z
 .exact z
def pL (h:HS) (v a:Int):Int:=
 if a>=65536 then 2 else if(db h.g h.s v a).2.2.1≠0 then(db h.g h.s v a).2.2.1 else if fq h v a=true then 7 else if(mH h.s.2 (db h.g h.s v a).1).2.2.1>0 then 9 else 0
def rN (h:HS) (v a:Int):Int×Int:=if pL h v a=0 then((db h.g h.s v a).1,0) else(0,pL h v a)
def nu (h:HS) (v a:Int):HS:=if pL h v a=0 then bz h ((hH h.s v (aY h.g v) false a).1,eC (hH h.s v (aY h.g v) false a).2 (db h.g h.s v a).1 (aI 5 v)) else h
section
variable {Q:Sys} {X:HX} {D G:List Nat} {w0 w:A2} {h:HS} {L:List (Nat×List AG)} {K:RS->A2->Prop}
theorem GZ (H:eH Q X D G w0 w h L) {v:Int} (q:aV h.g v=true) (u:Jb Q h.s) (y:0<=aY h.g v/\aY h.g v<4096) (k:Int) {a:Int} (b c:Int) (z:0<=a) (kk: ∀f,eH Q X D G w0 f (nu h v a) L->K ((rN h v a).1,(rN h v a).2,()) f):
 aC AC 128 (.el (.agg gm)) [ah (ae X.hb),aa v,.agg ⟨eO k a b c⟩] w K:=by
 have ⟨A,W,H⟩:=H;have ⟨N,S,J⟩:=H.call;have ⟨x,r,O,hv,P,R⟩:=bK q;refine aQ (C:=V0) (AR (CX _ v k a b c w K) ?_);have l:pL h v a≠0-> ∀{f},eH Q X D G w0 f h L->K (0,pL h v a,()) f:=λt f H=>by
  have m:rN h v a=(0,pL h v a):=ar t;have o:nu h v a=h:=ar t;rw[m,o] at kk;exact kk f H
 have e:pL h v a=if a>=65536 then 2 else if(db h.g h.s v a).2.2.1≠0 then(db h.g h.s v a).2.2.1 else if fq h v a=true then 7 else if(mH h.s.2 (db h.g h.s v a).1).2.2.1>0 then 9 else 0:=rfl;refine S.al λT f S=>S.al λb1 U S=>⟨rfl,S.a_ 1 rfl rfl ?_⟩;refine ab (λd=>⟨trivial,S.res (j:=0) rfl 0 _ λB S=>?_⟩) (λd=>⟨rfl,S.a_ 1 rfl rfl ?_⟩)
 .rw[az (by simpa using d)] at e;rw[e] at l;exact l (by decide) ⟨A,W,J S.tail.tail⟩
 have d: ¬ a>=65536:=by simpa using d
 rw[ar d] at e;have E:aB .i64 a=a:=a9 ⟨z,by omega⟩;rw[E];refine rn S (X:=X) (A:=A) (g:=h.g) (by simp) (bS W [_, _]) v a λB S=>?_;have V:=uv h.g h.s v a;refine ab (λd=>⟨trivial,S.res (j:=0) rfl 0 _ λp S=>?_⟩) (λd2=>?_)
 .have d:(db h.g h.s v a).2.2.1≠0:=by simpa using d
  rw[az d] at e;rw[e] at l;exact l d ⟨A,W,J S.tail.tail⟩
 rw[ar (by simpa using d2)] at e;refine⟨dC h.g v a,nZ (J S) (X:=X) (A:=A) (g:=h.g) (by simp) (bS W [_, _]) (fV W) (λi x r=>W.mp r) v a,?_⟩;refine ab (λd=>⟨trivial,S.res (j:=0) rfl 0 _ λp S=>?_⟩) (λd3=>?_)
 .rw[az (show fq h v a=true from d)] at e;rw[e] at l;exact l (by decide) ⟨A,W,J S.tail.tail⟩
 rw[ar (show ¬ fq h v a=true by unfold fq;rw[d3];decide)] at e;refine⟨rfl,rfl,ag.of _ (S.gP (X:=X) (A:=A) (g:=h.g) (by simp) (n:=1) rfl) ⟨(mH h.s.2 (db h.g h.s v a).1,wu h.s.2 (db h.g h.s v a).1,()),S.ofq _,S.al λb2 p S=>S.cQ 0 rfl rfl rfl λY S=>⟨rfl,S.a_ 0 rfl rfl ?_⟩⟩⟩;refine ab (λd=>⟨trivial,S.res (j:=1) rfl 0 _ λp S=>?_⟩) (λd4=>?_)
 .rw[az (by simpa using d)] at e;rw[e] at l;exact l (by decide) ⟨A,W,J S.tail.tail.tail⟩
 rw[ar (by simpa using d4)] at e;have m:rN h v a=((db h.g h.s v a).1,0):=az e;have o:nu h v a=bz h _:=az e;rw[m,o] at kk;have ⟨g1,F, _,j,I⟩:=S.pK (X:=X) (A:=A) (g:=h.g) (by simp) (bS W [_, _, _]) q;refine⟨rfl,rfl,⟨rfl,by omega,by show v<((17:Nat):Int);omega⟩,ag.of _ g1 ⟨rfl,rfl,ag.of _ F (S.Bc u j I y a λZ S=>⟨rfl,rfl,ag.of _ (S.gP (X:=X) (A:=A) (g:=h.g) (by simp) (n:=1) rfl) (S.S6 _ 5 v λw8 S=>?_)⟩)⟩⟩;rw[cN (by omega)];exact S.res (j:=1) rfl _ 0 λM S=>kk M ⟨A,⟨W.jI,W.mp,W.gl,W.pt,W.gk⟩,J S.tail.tail.tail⟩
end
theorem Ak {ds:List DT} (b:ds.length<=4096) (y o:Int):0<=dV ds y o/\dV ds y o<4096:=by
 have z:(0:Int)<=0/\(0:Int)<4096:=by decide
 unfold dV;split
 .exact z
 .rename_i n a;unfold jh at a;rw[H4] at a;have ⟨c, _⟩:=a;split
  .exact⟨by omega,by omega⟩
  .exact z
def jd (h:HS) (v:Int):WD:=(h.s.1,cX h.s.2 4 v)
def ft (h:HS) (v:Int):Int:=dV h.s.2 4 v
def lu (h:HS) (v a b:Int):WD:=js (jd h v) v (aY h.g v) false a (ft h v) b
def mJ (h:HS) (v a b:Int):Int:=
 if a>=65536 then 2 else if b<1\/b>7 then 7 else if cJ h.s.2 4 v≠0 then cJ h.s.2 4 v else iW (jd h v) (aY h.g v) false a (ft h v) b
def mK (h:HS) (v a b:Int):Int×Int:=if mJ h v a b=0 then(ft h v,0) else(0,mJ h v a b)
def gE (h:HS) (v a b:Int):HS:=
 if a>=65536 then h else if b<1\/b>7 then h else if cJ h.s.2 4 v≠0 then bz h (jd h v)
 else if iW (jd h v) (aY h.g v) false a (ft h v) b≠0 then bz h ((lu h v a b).1,eC (lu h v a b).2 (ft h v) (aI 0 0))
 else bz h (dz (lu h v a b).1 (ft h v) (λ_=>0) 16,(lu h v a b).2)
section
variable {Q:Sys} {X:HX} {D G:List Nat} {w0 w:A2} {h:HS} {L:List (Nat×List AG)} {K:RS->A2->Prop}
theorem K' (H:eH Q X D G w0 w h L) {v:Int} (B:aV h.g v=true) (k:Int) {a b:Int} (c:Int) (V:0<=a) (hb:0<=b) (kk: ∀l,eH Q X D G w0 l (gE h v a b) L->K ((mK h v a b).1,(mK h v a b).2,()) l):
 aC AC 127 (.el (.agg gm)) [ah (ae X.hb),aa v,.agg ⟨eO k a b c⟩] w K:=by
 have ⟨A,W,H⟩:=H;have ⟨E,S,J⟩:=H.call;have ⟨x,hx,o7,hv,lk,ky⟩:=bK B;refine aQ (C:=V0) (b_:=pA) (AR (EJ _ v k a b c w K) ?_);have I:=Ak S.le 4 v;have wf: ∀s',Cf A (bz h s'):=λs'=>⟨W.jI,W.mp,W.gl,W.pt,W.gk⟩;have p: ∀e,e≠0->mJ h v a b=e->mK h v a b=(0,e):=λe Y M=>by
  unfold mK;rw[ar (by rw[M];exact Y),M]
 refine S.al λN l S=>S.al λb1 w3 S=>⟨rfl,S.a_ 1 rfl rfl ?_⟩;refine ab (λd=>⟨trivial,S.res (j:=0) rfl 0 _ λq S=>?_⟩) (λd=>⟨rfl,S.a_ 1 rfl rfl ⟨λ_=>rfl,S.a_ 1 rfl rfl ?_⟩⟩)
 .have d:a>=65536:=by simpa using d
  have f:gE h v a b=h:=az d;rw[p 2 (by decide) (az d),f] at kk;exact kk q ⟨A,W,J S.tail.tail⟩
 have d: ¬ a>=65536:=by simpa using d
 have Z:aB .i64 a=a:=a9 ⟨V,by omega⟩;refine ab (λd2=>⟨trivial,S.res (j:=0) rfl 0 _ λq S=>?_⟩) (λd2=>⟨rfl,rfl,?_⟩)
 .have d2:b<1\/b>7:=by simpa using d2
  have o:mJ h v a b=7:=by unfold mJ;rw[ar d,az d2]
  have f:gE h v a b=h:=by unfold gE;rw[ar d,az d2]
  rw[p 7 (by decide) o,f] at kk;exact kk q ⟨A,W,J S.tail.tail⟩
 have d2: ¬ (b<1\/b>7):=by
  intro e;have:(decide (b<1)||decide (b>7))=true:=by simpa using e
  rw[this] at d2;cases d2
 have eb:aB .i64 b=b:=a9 ⟨hb,by omega⟩;refine ag.of _ (S.gP (X:=X) (A:=A) (g:=h.g) (by simp) (n:=1) rfl) (S.take 4 v λq S=>?_);refine ab (λd3=>⟨trivial,S.res (j:=0) rfl 0 _ λy S=>?_⟩) (λd3=>?_)
 .have d3:cJ h.s.2 4 v≠0:=by simpa using d3
  have o:mJ h v a b=cJ h.s.2 4 v:=by unfold mJ;rw[ar d,ar d2,az d3]
  have f:gE h v a b=bz h (jd h v):=by unfold gE;rw[ar d,ar d2,az d3]
  rw[p _ d3 o,f] at kk;exact kk y ⟨A,wf _,J S.tail.tail⟩
 have d3: ¬ cJ h.s.2 4 v≠0:=by
  intro e;have:(cJ h.s.2 4 v != 0)=true:=by simpa using e
  rw[this] at d3;cases d3
 have ⟨g1,O, _,j,P⟩:=S.pK (X:=X) (A:=A) (g:=h.g) (by simp) (bS W [_, _]) B;refine⟨rfl,rfl,⟨rfl,by omega,by show v<((17:Nat):Int);omega⟩,ag.of _ g1 ⟨rfl,rfl,ag.of _ O ⟨rfl,S.a_ 1 rfl rfl ⟨rfl,S.a_ 1 rfl rfl ?_⟩⟩⟩⟩;rw[Z,eb];refine S.map j P a (ft h v) b λy S=>?_;have S:aF Q [] E w y (lu h v a b) ((b1,[av 0,aa 0])::(N,eO k a b c)::fH Q X A h (bI Q A h.g (AE 17)++L)):=S;have R:mJ h v a b=iW (jd h v) (aY h.g v) false a (ft h v) b:=by unfold mJ;rw[ar d,ar d2,ar d3]
 refine ab (λd4=>⟨rfl,rfl,?_⟩) (λd4=>?_)
 .have d4: ¬ iW (h.s.1,cX h.s.2 4 v) (aY h.g v) false a (ft h v) b=0:=by simpa using d4
  have d4:iW (jd h v) (aY h.g v) false a (ft h v) b≠0:=d4;have f:gE h v a b=bz h ((lu h v a b).1,eC (lu h v a b).2 (ft h v) (aI 0 0)):=by unfold gE;rw[ar d,ar d2,ar d3,az d4]
  rw[p _ d4 R,f] at kk;exact ag.of _ (S.gP (X:=X) (A:=A) (g:=h.g) (by simp) (n:=1) rfl) (S.FF (ft h v) λT S=>⟨trivial,S.res (j:=0) rfl 0 _ λr S=>kk r ⟨A,wf _,J S.tail.tail⟩⟩)
 have d4: ¬ iW (jd h v) (aY h.g v) false a (ft h v) b≠0:=by
  intro e;have:(iW (jd h v) (aY h.g v) false a (ft h v) b != 0)=true:=by simpa using e
  exact absurd (this.symm.trans d4) (by decide)
 have o:mK h v a b=(ft h v,0):=by
  unfold mK;rw[R,az (by omega)]
 have f:gE h v a b=bz h (dz (lu h v a b).1 (ft h v) (λ_=>0) 16,(lu h v a b).2):=by unfold gE;rw[ar d,ar d2,ar d3,ar d4]
 rw[o,f] at kk;have I:0<=ft h v/\ft h v<4096:=I;have ⟨F,t⟩: ∃F:Nat->List Int,F=λi=>dz (lu h v a b).1 (ft h v) (λ_=>0) i:=⟨_,rfl⟩;have F0:F 0=(lu h v a b).1:=by rw[t];rfl
 have Fs: ∀i,F (i+1)=fm (F i) (16*ft h v+(i:Int)) 0:=λi=>by rw[t];rfl
 have kk: ∀l,eH Q X D G w0 l (bz h (F 16,(lu h v a b).2)) L->K (ft h v,0,()) l:=by rw[t];exact kk
 clear t;refine⟨λn u w'=> ∃m:Nat,u.1=(m:Int)/\n+m=16/\aF Q [] E w w' (F m,(lu h v a b).2) ((b1,[av 0,aa 0])::(N,eO k a b c)::fH Q X A h (bI Q A h.g (AE 17)++L)),⟨16,λT h6=>⟨0,rfl,rfl,by rw[F0];exact S.ext h6⟩⟩,?_⟩;clear S g1 O P;rintro n ⟨u,u2⟩ T ⟨m,e,hn,S⟩;dsimp only at e ⊢;subst e;have efr:(dV h.s.2 4 v)=ft h v:=rfl;rw[efr];refine ab (λz=>?_) (λz=>?_)
 .have U:m<16:=by
   have:(m:Int)<16:=by simpa using z
   omega
  have e5:ay .i64 (dk .i64 16 (ft h v)) (m:Int)=16*ft h v+(m:Int):=by rw[da (by omega) (by omega),ao (by omega) (by omega)]
  rw[e5];refine⟨rfl,rfl,ag.of _ (S.gP (X:=X) (A:=A) (g:=h.g) (by simp) (n:=0) rfl) (S.store _ 0 (by decide) λr S=>λw8 h8=>⟨n - 1,by omega,m+1,by rw[ao (by omega) (by omega)];omega,by omega,?_⟩)⟩;rw[Fs];exact S.ext h8
 .have U:m=16:=by
   have: ¬ (m:Int)<16:=by simpa using z
   omega
  subst U;rw[cN (by omega)];exact S.res (j:=0) rfl _ 0 λr S=>kk r ⟨A,wf _,J S.tail.tail⟩
end
def dB (h:HS) (v p id f:Int):HS where
 s:=((hH h.s v (aY h.g v) false p).1,eC (hH h.s v (aY h.g v) false p).2 f (fA (-1)))
 g:=bA h.g v.toNat (match h.g v.toNat with|some x=>some {x with tk:=x.tk.filter λt=> !(t.1==p)}|none=>none)
 gr:=dj h.gr id v
 po:=h.po
theorem kM (gs:List GT) (i o:Int):(dj gs i o).length=gs.length:=by
 unfold dj;split
 .rw[Cs]
 .rfl
theorem Og {α:Type} {T L:List α} {k:Nat} {x:α} (h:L[k]? =some x):(T++L)[T.length+k]? =some x:=by
 rw[HB (by omega),show T.length+k - T.length=k by omega];exact h
section
variable {Q:Sys} {X:HX} {D G:List Nat} {w0 w:A2} {h:HS} {L:List (Nat×List AG)}
theorem Et {A:Nat->GA} (W:Cf A h) {T:List (Nat×List AG)} (H:SM Q D G w0 w h.s (T++fH Q X A h (bI Q A h.g (AE 17)++L)) (e_ A h.g (AE 17))) {v p id f:Int} (o:aV h.g v=true) (U:Jb Q h.s) (V:0<=aY h.g v/\aY h.g v<4096)
 {x:GV} (l:h.g v.toNat=some x) (Y:bU x.tk p=some (id,f)) {K:Unit->A2->Prop} (kk: ∀A' y,(∀i,(A' i).bg=(A i).bg)->Cf A' (dB h v p id f)->SM Q D G w0 y (dB h v p id f).s (T++fH Q X A' (dB h v p id f) (bI Q A' (dB h v p id f).g (AE 17)++L)) (e_ A' (dB h v p id f).g (AE 17))->K () y):
 aA AC 206 (.bu []) [ah (ae X.hb),aa v,aa p] w K:=by
 have ⟨x',I,o7,hv,lk,ky⟩:=bK o;rw[l] at I;cases I;refine H.go λw1 H=>aj (C:=V0) (b_:=u9) (AR (QS _ v p w1 K) ?_);have ⟨G',S,J⟩:=H.call;have mem: ∀{T':List (Nat×List AG)},(X.hb,kv Q X A h.g)∈T'++(T++fH Q X A h (bI Q A h.g (AE 17)++L)):=λ{T'}=>Ce _ (Ce _ AZ);have z: ∀{T':List (Nat×List AG)}, ∀i v,h.g i=some v-> ∀x∈ik Q A i v,x∈T'++(T++fH Q X A h (bI Q A h.g (AE 17)++L)):=λ{T'} i v hv x l=>Ce _ (bS W T i v hv x l);have ⟨g1,M,B, _⟩:=S.pK (X:=X) (A:=A) (g:=h.g) (mem (T':=[])) (z (T':=[])) o;have ⟨r,N,O⟩:=(W.mp l).find p;rw[Y] at O;have ⟨i,e,hi,Z⟩:=O;have E:cd w1 (A v.toNat).bm ⟨(A v.toNat).es⟩ (A v.toNat).ck:=H.get (fV W _ _ l);refine⟨rfl,rfl,⟨rfl,by omega,by show v<((17:Nat):Int);omega⟩,ag.of _ g1 ⟨rfl,rfl,ag.of _ B ⟨(id,f,()),⟨_, _, _,rfl,E,?_⟩,S.al λb y S=>S.cQ 0 rfl rfl rfl λw3 S=>⟨rfl,rfl,?_⟩⟩⟩⟩
 .rw[N,e]
 have ⟨_, _,B, _⟩:=S.pK (X:=X) (A:=A) (g:=h.g) (mem (T':=[_])) (z (T':=[_])) o;refine ag.of _ B λw4 h4=>?_;have H:=(J S).ext h4;have E:cd w4 (A v.toNat).bm ⟨(A v.toNat).es⟩ (A v.toNat).ck:=H.get (fV W _ _ l);refine⟨_, _, _,rfl,E,?_⟩;unfold MP;rw[N,e];dsimp only;have hea:(Array.eraseIdxIfInBounds (⟨(A v.toNat).es⟩:Array B2) i)=⟨(A v.toNat).es.eraseIdx i⟩:=by
  apply Array.ext';rw[Array.toList_eraseIdxIfInBounds]
 rw[hea];have xQ:v.toNat<17:=by omega
 have H:=H.Of xQ l ((A v.toNat).es.eraseIdx i) (A v.toNat).ck (x.tk.filter λt=> !(t.1==p));have q:=II (A:=A) l ((A v.toNat).es.eraseIdx i) (A v.toNat).ck (x.tk.filter λt=> !(t.1==p));have ⟨A',P⟩: ∃A',A'=pZ A v.toNat {A v.toNat with es:=(A v.toNat).es.eraseIdx i,ck:=(A v.toNat).ck}:=⟨_,rfl⟩;have F:bA h.g v.toNat (some {x with tk:=x.tk.filter λt=> !(t.1==p)})=(dB h v p id f).g:=by
  show _=bA h.g v.toNat (match h.g v.toNat with|some x=> _|none=>none);rw[l]
 have hmp: ∀{a m},(dB h v p id f).g a=some m->rM (A' a).es (A' a).ck m.tk:=λ{a m} d=>by
  rw[<-F] at d;rw[P];unfold bA at d;unfold pZ;by_cases u:a=v.toNat
  .rw[az u] at d ⊢;cases d;exact Z
  .rw[ar u] at d ⊢;exact W.mp d
 have hdm: ∀{a m},(dB h v p id f).g a=some m->1<=a/\a<=16:=λ{a m} d=>by
  rw[<-F] at d;unfold bA at d;by_cases u:a=v.toNat
  .omega
  .rw[ar u] at d;exact W.jI d
 rw[<-P,F] at H q;have ⟨G2,S,J2⟩:=H.call;have ⟨_,M, _,j,hj⟩:=S.pK (X:=X) (A:=A) (g:=h.g) (mem (T':=[_])) (z (T':=[_])) o;refine⟨rfl,rfl,ag.of _ M (S.Bc U j hj V p λw5 S=>⟨rfl,rfl,ag.of _ (S.gP (X:=X) (A:=A) (g:=h.g) (mem (T':=[_])) (n:=1) rfl) ⟨rfl,S.a_ 0 rfl rfl (S.aao f (-1) (by decide) λw6 S=>⟨rfl,rfl,ag.of _ (S.gP (X:=X) (A:=A) (g:=h.g) (mem (T':=[_])) (n:=2) rfl) ⟨rfl,S.a_ 0 rfl rfl ?_⟩⟩)⟩⟩)⟩;refine S.V9 (T.length+1+1) (T.length+2+1) (Og (T:= _::T) (k:=1) rfl) (Og (T:= _::T) (k:=2) rfl) (by rw[W.gl];decide) W.gk.use id v λw7 S=>S.en λR S=>kk A' R q.bg ⟨hdm,hmp,(kM _ _ _).trans W.gl,W.pt,W.gk.back _ _⟩ (J2 ?_);have e1:fH Q X A' (dB h v p id f) (bI Q A' (dB h v p id f).g (AE 17)++L)=(fH Q X A h (bI Q A h.g (AE 17)++L)).set 2 (X.vq,flat eG (dj h.gr id v)++X.rest):=by
  show(X.hb,kv Q X A' (dB h v p id f).g)::(X.gb,g7 X.vq (dj h.gr id v).length X.c)::(X.vq,flat eG (dj h.gr id v)++X.rest)::(X.pb,Po.iD 4 h.po)::(bI Q A' (dB h v p id f).g (AE 17)++L)= _;rw[q.cs,q.rows,kM];rfl
 have S:aF Q [] G2 _ R _ ((T++fH Q X A h (bI Q A h.g (AE 17)++L)).set (T.length+2) (X.vq,flat eG (dj h.gr id v)++X.rest)):=S.tail;rw[HD _ _ (by omega),show T.length+2 - T.length=2 by omega, <-e1] at S;exact S
end
def vr (h:HS) (v p:Int):Int×Int:=match h.g v.toNat with
 |some x=>(bU x.tk p).getD (0,0)
 |none=>(0,0)
def r7 (h:HS) (v a:Int):Int:=if a>=65536 then 2 else if fq h v a=true then 0 else 4
def fU (h:HS) (v a:Int):HS:=if a>=65536 then h else if fq h v a=true then dB h v a (vr h v a).1 (vr h v a).2 else h
theorem n5 {h:HS} {v p:Int} {x:GV} (a:aV h.g v=true) (b:h.g v.toNat=some x):fq h v p=true<->bU x.tk p=some (vr h v p):=by
 unfold fq dC vr;rw[az a,b];dsimp only;cases bU x.tk p<;>simp
section
variable {Q:Sys} {X:HX} {D G:List Nat} {w0 w:A2} {h:HS} {L:List (Nat×List AG)} {K:RS->A2->Prop}
theorem UP (H:eH Q X D G w0 w h L) {v:Int} (l:aV h.g v=true) (o:Jb Q h.s) (p:0<=aY h.g v/\aY h.g v<4096) (k:Int) {a:Int} (b c:Int) (q:0<=a) (kk: ∀m,eH Q X D G w0 m (fU h v a) L->K (0,r7 h v a,()) m):
 aC AC 134 (.el (.agg gm)) [ah (ae X.hb),aa v,.agg ⟨eO k a b c⟩] w K:=by
 have ⟨A,W,H⟩:=H;have ⟨y,S,J⟩:=H.call;have ⟨x,e,z,hv,B,E⟩:=bK l;refine aQ (C:=V0) (AR (KU _ v k a b c w K) ?_);unfold r7 fU at kk;refine S.al λF m S=>S.al λb1 I S=>⟨rfl,S.a_ 1 rfl rfl ?_⟩;refine ab (λd=>⟨trivial,S.res (j:=0) rfl 0 _ λf S=>?_⟩) (λd=>⟨rfl,S.a_ 1 rfl rfl ?_⟩)
 .rw[az (by simpa using d),az (by simpa using d)] at kk;exact kk f ⟨A,W,J S.tail.tail⟩
 have d: ¬ a>=65536:=by simpa using d
 rw[ar d,ar d] at kk;have n:aB .i64 a=a:=a9 ⟨q,by omega⟩;rw[n];refine⟨dC h.g v a,nZ (J S) (X:=X) (A:=A) (g:=h.g) (by simp) (bS W [_, _]) (fV W) (λi x e=>W.mp e) v a,?_⟩;refine ab (λd2=>⟨trivial,S.res (j:=0) rfl 0 _ λf S=>?_⟩) (λd2=>⟨rfl,S.a_ 1 rfl rfl ?_⟩)
 .have d2: ¬ fq h v a=true:=by
   unfold fq;simpa using d2
  rw[ar d2,ar d2] at kk;exact kk f ⟨A,W,J S.tail.tail⟩
 .have d2:fq h v a=true:=by
   unfold fq;simpa using d2
  rw[az d2,az d2] at kk;rw[n];refine Et W (T:=[_, _]) (J S) l o p e ((n5 l e).1 d2) λA' f _ r H=>?_;have ⟨M,S,t⟩:=H.call;exact S.res (j:=0) rfl 0 0 λu S=>kk u ⟨A',r,t S.tail.tail⟩
end
def l_ (t:TK):List TK->List TK
 |[]=>[t]
 |u::l=>if u.1<t.1 then u::l_ t l else t::u::l
theorem lY (t:TK): ∀l,(l_ t l).Perm (t::l)
 |[]=>J3 _
 |u::l=>by
  rw[l_];split
  .exact((lY t l).cons u).trans (.swap _ _ _)
  .exact J3 _
def kz (h:HS) (a:Int):GT:=kX h.gr a
def ll (h:HS) (a:Int):Int×Int×Int×Unit:=db h.g h.s (kz h a).1 (kz h a).2.1
def qH (c:Int):Int:=if c=1 then 3 else 1
def nv (h:HS) (v a b c:Int):Int:=
 if b>=65536 then 2 else if a>=16\/c>1 then 1 else if(jF h.gr a).isSome=false then 4
 else if(kz h a).2.2.1≠v\/(c=1/\(kz h a).2.2.2.1=false) then 7 else if(ll h a).2.2.1≠0 then 4 else if fq h (kz h a).1 (kz h a).2.1=true then 7
 else if eB h.gr a v (c==1)≠0 then eB h.gr a v (c==1) else iW h.s (aY h.g v) false b (ll h a).1 (qH c)
def jA (h:HS) (v a b c:Int):HS where
 s:=((js h.s v (aY h.g v) false b (ll h a).1 (qH c)).1,eC (js h.s v (aY h.g v) false b (ll h a).1 (qH c)).2 (ll h a).1 (fA 1))
 g:=bA h.g v.toNat (match h.g v.toNat with|some x=>some {x with tk:=l_ (b,a,(ll h a).1) x.tk}|none=>none)
 gr:=de h.gr a v (c==1)
 po:=h.po
def yY (h:HS) (v a b c:Int):HS:={h with s:=js h.s v (aY h.g v) false b (ll h a).1 (qH c),gr:=dj (de h.gr a v (c==1)) a v}
def lA (h:HS) (v a b c:Int):Int:=
 if b>=65536 then 2 else if a>=16\/c>1 then 1 else if(jF h.gr a).isSome=false then 4
 else if(kz h a).2.2.1≠v\/(c=1/\(kz h a).2.2.2.1=false) then 7 else if(ll h a).2.2.1≠0 then 4 else if fq h (kz h a).1 (kz h a).2.1=true then 7 else eB h.gr a v (c==1)
def gW (h:HS) (v a b c:Int):HS:=if lA h v a b c≠0 then h else if nv h v a b c=0 then jA h v a b c else yY h v a b c
theorem we (gs:List GT) (i g:Int) (b:Bool):(de gs i g b).length=gs.length:=by
 unfold de;split
 .rw[Cs]
 .rfl
section
variable {Q:Sys} {X:HX} {D G:List Nat} {w0 w:A2} {h:HS} {L:List (Nat×List AG)} {K:RS->A2->Prop}
theorem YL {A:Nat->GA} (W:Cf A h) {v a b c:Int} {x:GV} (f:h.g v.toNat=some x) (hv:((v.toNat:Nat):Int)=v) (Z:1<=v) (ky:v<=16) (q:bU x.tk b=none) (E:(de h.gr a v (c==1)).length=h.gr.length) {t:HS} (F:t=cY h (de h.gr a v (c==1)))
 {b2 b1 I:Nat} {l2 l1 la:List AG} (J:l1=[av 0,aa 0]) {l:A2}
 (H:SM Q D G w0 l ((js h.s v (aY h.g v) false b (ll h a).1 (qH c)).1,eC (js h.s v (aY h.g v) false b (ll h a).1 (qH c)).2 (ll h a).1 (fA 1)) ((b2,l2)::(b1,l1)::(I,la)::fH Q X A t (bI Q A h.g (AE 17)++L)) (e_ A h.g (AE 17)))
 (kk: ∀i,eH Q X D G w0 i (jA h v a b c) L->K (0,0,()) i):
 ∃r es u,some (A v.toNat).bm=some r/\cd l r es u/\jE l r .i64 b (.agg ⟨[aa a,aa (ll h a).1]⟩) es u λi=>
  aw i (ae b1) [av 0,aa 0] λi=>ak i λw1=>ag w1 none (ae b1) (.agg [eh,aG]) λx=>K (x.1,x.2.1,()) w1:=by
 subst J;have M:=H.get (fV W _ _ f);refine⟨_, _, _,rfl,M,?_⟩;have ⟨r,w,y⟩:=(W.mp f).find b;rw[q] at y;rw[y] at w;unfold jE;have N:=w;rw[N];have O:(⟨(A v.toNat).es⟩:Array B2).push {key:=aa b,val:= .agg ⟨[aa a,aa (ll h a).1]⟩,born:=(A v.toNat).ck}=⟨(A v.toNat).es++[{key:=aa b,val:= .agg ⟨[aa a,aa (ll h a).1]⟩,born:=(A v.toNat).ck}]⟩:=by
  grind
 rw[O];have z:=(W.mp f).push q (lY (b,a,(ll h a).1) x.tk);have P:v.toNat<17:=by omega
 have R:({key:=(AS (b,a,(ll h a).1)).1,val:=(AS (b,a,(ll h a).1)).2,born:=(A v.toNat).ck}:B2)={key:=aa b,val:= .agg ⟨[aa a,aa (ll h a).1]⟩,born:=(A v.toNat).ck}:=rfl;rw[R] at z;generalize (A v.toNat).es++[{key:=aa b,val:= .agg _,born:=(A v.toNat).ck}]=m at z ⊢;have H:=H.Of P f m ((A v.toNat).ck+1) (l_ (b,a,(ll h a).1) x.tk);have n:=II (A:=A) f m ((A v.toNat).ck+1) (l_ (b,a,(ll h a).1) x.tk);have ⟨A',B⟩: ∃A',A'=pZ A v.toNat {A v.toNat with es:=m,ck:=(A v.toNat).ck+1}:=⟨_,rfl⟩;have o:bA h.g v.toNat (some {x with tk:=l_ (b,a,(ll h a).1) x.tk})=(jA h v a b c).g:=by
  show _=bA h.g v.toNat _;rw[f]
 have T: ∀{d k},(jA h v a b c).g d=some k->rM (A' d).es (A' d).ck k.tk:=λ{d k} e=>by
  rw[<-o] at e;rw[B];unfold bA at e;unfold pZ;by_cases p:d=v.toNat
  grind
  .rw[ar p] at e ⊢;exact W.mp e
 have U: ∀{d k},(jA h v a b c).g d=some k->1<=d/\d<=16:=λ{d k} e=>by
  rw[<-o] at e;unfold bA at e;by_cases p:d=v.toNat
  .omega
  .rw[ar p] at e;exact W.jI e
 rw[<-B,o] at H n;have ⟨V,S,Y⟩:=H.call;refine S.res (j:=1) rfl 0 0 λC S=>kk C ⟨A',⟨U,T,E.trans W.gl,W.pt,W.gk.take _ _ _⟩,Y ?_⟩;have S:=S.tail.tail.tail;rw[F] at S;show aF Q [] V _ C _ ((X.hb,kv Q X A' _)::(X.gb,g7 X.vq _ X.c)::(X.vq,flat eG _++X.rest)::(X.pb,Po.iD 4 h.po)::(bI Q A' _ _++L));rw[n.cs,n.rows];exact S
theorem IJ {A:Nat->GA} (W:Cf A h) {v a b c:Int} {x:GV} (f:h.g v.toNat=some x) (hv:((v.toNat:Nat):Int)=v) (I:1<=v) (M:v<=16) (u:aV h.g v=true)
 (N: ∀x,h.g v.toNat=some x->iW h.s (aY h.g v) false b (ll h a).1 (qH c)=0->bU x.tk b=none)
 (w:(de h.gr a v (c==1)).length=h.gr.length) {e:HS} (k:e=cY h (de h.gr a v (c==1))) (l:Cf A e)
 {b2 b1 O:Nat} {l2 la:List AG} {m B:A2} {o:List Nat}
 (J: ∀{d:A2} {s':WD} {L':List (Nat×List AG)},aF Q [] o m d s' L'->SM Q D G w0 d s' L' (e_ A h.g (AE 17)))
 (S:aF Q [] o m B h.s ((b2,l2)::(b1,[av 0,aa 0])::(O,la)::fH Q X A e (bI Q A h.g (AE 17)++L)))
 (C:nv h v a b c=iW h.s (aY h.g v) false b (ll h a).1 (qH c)) (om:gW h v a b c=if nv h v a b c=0 then jA h v a b c else yY h v a b c)
 (kk: ∀d,eH Q X D G w0 d (gW h v a b c) L->K (0,nv h v a b c,()) d):
 aA AC 214 aT [ah (some ⟨(A v.toNat).bt,0,none⟩),aa b,aa (ll h a).1,aa (qH c)] B λ(y:Int) (d:A2)=>
  aD (y != 0)
   ((some (⟨X.hb,0,none⟩:AT)).isSome=true/\(some (⟨X.hb,0,none⟩:AT)).isSome=true/\
    ag d none (ad (ae X.hb) 2) bF λ(z:Option AT)=>
     aA AC 225 aT [ah z,aa a,aa v] d λ(_:Int) (d:A2)=>
      True/\aw d (ae b1) [av 0,aa y] λ(d:A2)=>ak d λ(w1:A2)=>ag w1 none (ae b1) (.agg [eh,aG]) λ(x:Int×Int×Unit)=>K (x.1,x.2.1,()) w1)
   ((some (⟨X.hb,0,none⟩:AT)).isSome=true/\(some (⟨X.hb,0,none⟩:AT)).isSome=true/\
    ag d none (ad (ae X.hb) 1) bF λ(z:Option AT)=>
     aA AC 226 aT [ah z,aa (ll h a).1,aa 1] d λ(_:Int) (d:A2)=>
      (some (⟨X.hb,0,none⟩:AT)).isSome=true/\(some (⟨X.hb,0,none⟩:AT)).isSome=true/\((ad (ae X.hb) 4).isSome=true/\0<=v/\v<((17:Nat):Int))/\
       ag d none (ad (ad (ae X.hb) 4) (v.toNat*1)) bF λ(p:Option AT)=>
        p.isSome=true/\p.isSome=true/\
         ag d none (ad p 1) Dq λ(P:Option Nat)=>
          ∀(w1:A2),Ext d w1-> ∃(r:Nat), ∃(es:Array B2), ∃(E:Nat),P=some r/\cd w1 r es E/\
           jE w1 r .i64 b (.agg ⟨[aa a,aa (ll h a).1]⟩) es E λ(d:A2)=>
            aw d (ae b1) [av 0,aa 0] λ(d:A2)=>ak d λ(w1:A2)=>ag w1 none (ae b1) (.agg [eh,aG]) λ(x:Int×Int×Unit)=>K (x.1,x.2.1,()) w1):=by
 have mem: ∀{T},(X.hb,kv Q X A h.g)∈T++fH Q X A e (bI Q A h.g (AE 17)++L):=λ{T}=>Ce T (by rw[k];exact AZ);have F:=λ{T} i v hv x f=>by
  have H:e.g=h.g:=by rw[k];rfl
  have:=bS (Q:=Q) (X:=X) (L:=L) l T i v (by rw[H];exact hv) x f;rw[H] at this;exact this
 have ⟨_, _, _,j,R⟩:=S.pK (X:=X) (A:=A) (g:=h.g) (mem (T:=[_, _, _])) (F (T:=[_, _, _])) u;refine S.map j R b (ll h a).1 (qH c) λw8 S=>?_;refine ab (λd8=>?_) (λd8=>?_)
 .have d8:iW h.s (aY h.g v) false b (ll h a).1 (qH c)≠0:=by
   grind
  have q:gW h v a b c=yY h v a b c:=by grind
  refine⟨rfl,rfl,ag.of _ (S.gP (X:=X) (A:=A) (g:=h.g) (mem (T:=[_, _, _])) (n:=2) rfl) (S.V9 4 5 rfl rfl (by rw[l.gl];decide) l.gk.use a v λU S=>⟨trivial,S.res (j:=1) rfl 0 _ λt S=>?_⟩)⟩;rw[C,q] at kk;refine kk t ⟨A,⟨W.jI,W.mp,(kM _ _ _).trans (w.trans W.gl),W.pt,(W.gk.take _ _ _).back _ _⟩,J ?_⟩;have S:=S.tail.tail.tail;rw[k] at S;show aF Q [] o m t _ ((X.hb,kv Q X A h.g)::(X.gb,g7 X.vq (dj _ a v).length X.c):: _);rw[kM];exact S
 .have d8:iW h.s (aY h.g v) false b (ll h a).1 (qH c)=0:=by
   grind
  have q:gW h v a b c=jA h v a b c:=by grind
  refine⟨rfl,rfl,ag.of _ (S.gP (X:=X) (A:=A) (g:=h.g) (mem (T:=[_, _, _])) (n:=1) rfl) (S.aao (ll h a).1 1 (by decide) λU S=>⟨rfl,rfl,⟨rfl,by omega⟩,?_⟩)⟩;rw[C,q,d8] at kk;have V:=N x f d8;have ⟨g1, _,Y, _⟩:=S.pK (X:=X) (A:=A) (g:=h.g) (mem (T:=[_, _, _])) (F (T:=[_, _, _])) u;refine ag.of _ g1 ⟨rfl,rfl,ag.of _ Y λt Z=>?_⟩;exact YL W f hv I M V w k rfl ((J S).ext Z) kk
theorem UQ (H:eH Q X D G w0 w h L) {v:Int} (t:aV h.g v=true) (k:Int) {a b c:Int} (Z:0<=a) (hb:0<=b) (hc:0<=c) (I: ∀x,h.g v.toNat=some x->iW h.s (aY h.g v) false b (ll h a).1 (qH c)=0->bU x.tk b=none)
 (kk: ∀o,eH Q X D G w0 o (gW h v a b c) L->K (0,nv h v a b c,()) o):
 aC AC 133 (.el (.agg gm)) [ah (ae X.hb),aa v,.agg ⟨eO k a b c⟩] w K:=by
 have ⟨A,W,H⟩:=H;have ⟨M,S,J⟩:=H.call;have ⟨x,r,o7,hv,N,O⟩:=bK t;refine aQ (C:=V0) (AR (KT _ v k a b c w K) ?_);have q: ∀e,e≠0->lA h v a b c=e->nv h v a b c=e-> ∀{o},eH Q X D G w0 o h L->K (0,e,()) o:=λe he m h2 o H=>by
  have z:gW h v a b c=h:=az (by rw[m];exact he);rw[h2,z] at kk;exact kk o H
 have l:lA h v a b c=if b>=65536 then 2 else if a>=16\/c>1 then 1 else if(jF h.gr a).isSome=false then 4
  else if(kz h a).2.2.1≠v\/(c=1/\(kz h a).2.2.2.1=false) then 7 else if(ll h a).2.2.1≠0 then 4 else if fq h (kz h a).1 (kz h a).2.1=true then 7 else eB h.gr a v (c==1):=rfl
 have f:nv h v a b c=if b>=65536 then 2 else if a>=16\/c>1 then 1 else if(jF h.gr a).isSome=false then 4
  else if(kz h a).2.2.1≠v\/(c=1/\(kz h a).2.2.2.1=false) then 7 else if(ll h a).2.2.1≠0 then 4 else if fq h (kz h a).1 (kz h a).2.1=true then 7
  else if eB h.gr a v (c==1)≠0 then eB h.gr a v (c==1) else iW h.s (aY h.g v) false b (ll h a).1 (qH c):=rfl
 refine S.al λba o S=>S.al λb1 w3 S=>⟨rfl,S.a_ 1 rfl rfl ?_⟩;refine ab (λd=>⟨trivial,S.res (j:=0) rfl 0 _ λP S=>?_⟩) (λd=>⟨rfl,S.a_ 1 rfl rfl ⟨λ_=>rfl,S.a_ 1 rfl rfl ?_⟩⟩)
 .have d:b>=65536:=by simpa using d
  rw[az d] at l f;exact q 2 (by decide) l f ⟨A,W,J S.tail.tail⟩
 have d: ¬ b>=65536:=by simpa using d
 rw[ar d] at l f;refine ab (λd1=>⟨trivial,S.res (j:=0) rfl 0 _ λP S=>?_⟩) (λd1=>⟨rfl,S.a_ 1 rfl rfl ⟨rfl,S.a_ 1 rfl rfl ⟨rfl,S.a_ 1 rfl rfl ⟨rfl,rfl,?_⟩⟩⟩⟩)
 .have d1:a>=16\/c>1:=by simpa using d1
  rw[az d1] at l f;exact q 1 (by decide) l f ⟨A,W,J S.tail.tail⟩
 have d1: ¬ (a>=16\/c>1):=by
  grind
 rw[ar d1] at l f;have ea:aB .i64 a=a:=a9 ⟨Z,by omega⟩;have eb:aB .i64 b=b:=a9 ⟨hb,by omega⟩;rw[ea,eb];refine ag.of _ (S.gP (X:=X) (A:=A) (g:=h.g) (by simp) (n:=2) rfl) ⟨(kX h.gr a,(jF h.gr a).isSome,()),S.aap 3 4 rfl rfl (by rw[W.gl];decide) a,S.al λb2 P S=>S.cQ 0 rfl rfl rfl λw5 S=>?_⟩;refine ab (λd2=>⟨trivial,S.res (j:=1) rfl 0 _ λR S=>?_⟩) (λd2=>⟨rfl,S.a_ 0 rfl rfl ⟨λ_=>rfl,S.a_ 0 rfl rfl ?_⟩⟩)
 .have d2:(jF h.gr a).isSome=false:=by simpa using d2
  rw[az d2] at l f;exact q 4 (by decide) l f ⟨A,W,J S.tail.tail.tail⟩
 have d2: ¬ (jF h.gr a).isSome=false:=by
  have d2:(!(jF h.gr a).isSome)=false:=d2;intro e;rw[e] at d2;cases d2
 rw[ar d2] at l f;refine ab (λd3=>⟨trivial,S.res (j:=1) rfl 0 _ λR S=>?_⟩) (λd3=>⟨rfl,S.a_ 0 rfl rfl ⟨rfl,S.a_ 0 rfl rfl ?_⟩⟩)
 .have d3:=by
   have d3:((kz h a).2.2.1 != v||c==1&& !(kz h a).2.2.2.1)=true:=d3;simpa using d3
  rw[az d3] at l f;exact q 7 (by decide) l f ⟨A,W,J S.tail.tail.tail⟩
 have d3: ¬ ((kz h a).2.2.1≠v\/(c=1/\(kz h a).2.2.2.1=false)):=by
  grind[kz]
 rw[ar d3] at l f;refine rn S (X:=X) (A:=A) (g:=h.g) (by simp) (bS W [_, _, _]) (kz h a).1 (kz h a).2.1 λR S=>?_;refine ab (λd4=>⟨trivial,S.res (j:=1) rfl 0 _ λu S=>?_⟩) (λd4=>⟨rfl,S.a_ 0 rfl rfl ⟨rfl,S.a_ 0 rfl rfl ?_⟩⟩)
 .have d4:(ll h a).2.2.1≠0:=by
   have d4:((ll h a).2.2.1 != 0)=true:=d4;simpa using d4
  rw[az d4] at l f;exact q 4 (by decide) l f ⟨A,W,J S.tail.tail.tail⟩
 have d4: ¬ (ll h a).2.2.1≠0:=by
  grind[ll]
 rw[ar d4] at l f;refine⟨dC h.g (kz h a).1 (kz h a).2.1,nZ (J S) (X:=X) (A:=A) (g:=h.g) (by simp) (bS W [_, _, _]) (fV W) (λi x r=>W.mp r) _ _,?_⟩;refine ab (λd5=>⟨trivial,S.res (j:=1) rfl 0 _ λu S=>?_⟩) (λd5=>⟨rfl,rfl,?_⟩)
 .have d5:fq h (kz h a).1 (kz h a).2.1=true:=d5;rw[az d5] at l f;exact q 7 (by decide) l f ⟨A,W,J S.tail.tail.tail⟩
 have d5: ¬ fq h (kz h a).1 (kz h a).2.1=true:=by
  have d5:fq h (kz h a).1 (kz h a).2.1=false:=d5;rw[d5];decide
 rw[ar d5] at l f;refine ag.of _ (S.gP (X:=X) (A:=A) (g:=h.g) (by simp) (n:=2) rfl) (S.abk 4 5 rfl rfl (by rw[W.gl];decide) W.gk.use a v (c==1) λu S=>?_);have y:(de h.gr a v (c==1)).length=h.gr.length:=we _ _ _ _;have ⟨m,p⟩: ∃m,m=cY h (de h.gr a v (c==1)):=⟨_,rfl⟩;have U:m.g=h.g:=by rw[p];rfl
 have EX:m.s=h.s:=by rw[p];rfl
 have B:Cf A m:=by rw[p];exact⟨W.jI,W.mp,y.trans W.gl,W.pt,W.gk.take _ _ _⟩
 have S:aF Q [] M w u h.s ((b2,[aa (kz h a).1,aa (kz h a).2.1,aa (kz h a).2.2.1,.bool (kz h a).2.2.2.1,aa (kz h a).2.2.2.2.1])::(b1,[av 0,aa 0])::(ba,eO k a b c)::fH Q X A m (bI Q A h.g (AE 17)++L)):=by
  rw[p];show aF Q [] M w u h.s (_:: _:: _::(X.hb,kv Q X A h.g)::(X.gb,g7 X.vq (de h.gr a v (c==1)).length X.c):: _);rw[y];exact S
 refine ab (λd6=>⟨trivial,S.res (j:=1) rfl 0 _ λw8 S=>?_⟩) (λd6=>?_)
 .have d6:eB h.gr a v (c==1)≠0:=by simpa using d6
  rw[az d6] at f;have e1:de h.gr a v (c==1)=h.gr:=ar d6;have z:m=h:=by rw[p,e1];rfl
  rw[z] at S;exact q _ d6 l f ⟨A,W,J S.tail.tail.tail⟩
 have d6: ¬ eB h.gr a v (c==1)≠0:=by
  grind
 rw[ar d6] at f;have V:gW h v a b c=if nv h v a b c=0 then jA h v a b c else yY h v a b c:=ar (by rw[l];exact d6);have mem: ∀{T:List (Nat×List AG)},(X.hb,kv Q X A h.g)∈T++fH Q X A m (bI Q A h.g (AE 17)++L):=λ{T}=>Ce T (by rw[p];exact AZ);have Y:=λ{T} i v hv x r=>by
  have:=bS (Q:=Q) (X:=X) (L:=L) B T i v (by rw[U];exact hv) x r;rw[U] at this;exact this
 have hq:=uv h.g h.s (kz h a).1 (kz h a).2.1;refine ab (λd7=>⟨rfl,rfl,⟨rfl,by omega,by show v<((17:Nat):Int);omega⟩,?_⟩) (λd7=>⟨rfl,rfl,⟨rfl,by omega,by show v<((17:Nat):Int);omega⟩,?_⟩)
 .have E:(Zk .i64 1 2)=qH c:=by
   unfold qH;rw[az (by simpa using d7)];decide
  have ⟨g1,F,g3,j,hj⟩:=S.pK (X:=X) (A:=A) (g:=h.g) (mem (T:=[_, _, _])) (Y (T:=[_, _, _])) t;refine ag.of _ g1 ⟨rfl,rfl,ag.of _ F ?_⟩;have T:=IJ W r hv N O t I y p B J S f V kk;rw[<-E] at T;exact T
 .have E:(1:Int)=qH c:=by
   unfold qH;rw[ar (by simpa using d7)]
  have ⟨g1,F,g3,j,hj⟩:=S.pK (X:=X) (A:=A) (g:=h.g) (mem (T:=[_, _, _])) (Y (T:=[_, _, _])) t;refine ag.of _ g1 ⟨rfl,rfl,ag.of _ F ?_⟩;have T:=IJ W r hv N O t I y p B J S f V kk;rw[<-E] at T;exact T
end
def vD (l:List Int):Int:=l.foldl (λm x=>lL m x) 65536
theorem yg (a b:Int):lL a b<=a/\lL a b<=b/\(lL a b=a\/lL a b=b):=by
 unfold lL;split<;>omega
theorem uw: ∀(l:List Int) (m:Int),l.foldl (λm x=>lL m x) m<=m/\(∀x∈l,l.foldl (λm x=>lL m x) m<=x)/\(l.foldl (λm x=>lL m x) m=m\/l.foldl (λm x=>lL m x) m∈l)
 |[],m=>⟨Int.le_refl _,λx b=>(by cases b),.inl rfl⟩
 |y::l,m=>by
  have ⟨c,h2,a⟩:=uw l (lL m y);have ⟨d,e,f⟩:=yg m y;rw[FC];refine⟨Int.le_trans c d,λx b=>?_,?_⟩
  .rcases Dm.1 b with rfl|b
   .exact Int.le_trans c e
   .exact h2 x b
  .rcases a with a|a
   .rcases f with k|k
    .exact .inl (a.trans k)
    .exact .inr (Dm.2 (.inl (a.trans k)))
   .exact .inr (B1 _ a)
theorem La {l:List Int} {m:Int} (d:m<=65536) (h2: ∀x∈l,m<=x) (b:m=65536\/m∈l):m=vD l:=by
 have ⟨e,c,a⟩:=uw l 65536;unfold vD;rcases b with b|b
 .rcases a with a|a
  .omega
  .have:=h2 _ a;omega
 .have:=c _ b;rcases a with a|a
  .omega
  .have:=h2 _ a;omega
theorem Lc {es:List B2} {e:B2} (he:e∈es) (seen:Array Nat) (b:seen.contains e.born=false):
 (es.filter λx=> !(seen.push e.born).contains x.born).length<(es.filter λx=> !seen.contains x.born).length:=by
 induction es with
 |nil=>cases he
 |cons y es c=>
  have mono: ∀l:List B2,(l.filter λx=> !(seen.push e.born).contains x.born).length<=(l.filter λx=> !seen.contains x.born).length:=λl=>by
   rw[<-HF, <-HF];refine List.countP_mono_left λx _ d=>?_;simp only[Gi,Fz,Dl] at d ⊢
   simp_all
  rcases Dm.1 he with rfl|he
  .rw[H6 (by simp),List.filter_cons_of_pos (by simpa using b)];have:=mono es;simp only[Fk];omega
  .have:=c he;rw[E4,E4];by_cases a:(!(seen.push e.born).contains y.born)=true
   .have h2:(!seen.contains y.born)=true:=by
     simp only[Gi,Fz,Dl] at a ⊢
     simp_all
    rw[az a,az h2];simp only[Fk];omega
   .rw[ar a];split
    .simp only[Fk];omega
    .exact this
section
variable {Q:Sys} {X:HX} {D G:List Nat} {w0 w:A2} {s:WD} {L0:List (Nat×List AG)} {M:List (Nat×Obj)} {es:List B2} {ck bm bg:Nat} {pt:Option AT} {tk:List TK}
theorem Ld (H:SM Q D G w0 w s L0 M) (O:(bg,[ah pt,.map (some bm)])∈L0) (v:(bm,Obj.map ⟨es⟩ ck)∈M) (P:rM es ck tk) {K:Int->A2->Prop} (kk: ∀d,SM Q D G w0 d s L0 M->K (vD (tk.map (·.1))) d):
 aA AC 207 aT [ah (ae bg)] w K:=by
 have ⟨⟨p,A,B⟩,E,R, _⟩:=P;have S: ∀e∈es, ∃t∈tk,e.key=aa t.1:=λe a=>by
  have:(e.key,e.val)∈p.map AS:=by rw[<-B];exact Ct.2 ⟨e,a,rfl⟩
  have ⟨t,c,y⟩:=Ct.1 this;exact⟨t,A.mem_iff.1 c,(congrArg (·.1) y).symm⟩
 have T: ∀t∈tk, ∃e∈es,e.key=aa t.1:=λt c=>by
  have:AS t∈es.map λe=>(e.key,e.val):=by rw[B];exact Ct.2 ⟨t,A.mem_iff.2 c,rfl⟩
  have ⟨e,a,y⟩:=Ct.1 this;exact⟨e,a,congrArg (·.1) y⟩
 refine H.go λw1 H=>aj (C:=V0) (b_:=sq) (AR (KQ _ w1 K) ?_);have ⟨j,f⟩:=B5 O;refine⟨rfl,rfl,H.base.a_ j f rfl λd h2=>?_⟩;have H:=H.ext h2;have U:cd d bm ⟨es⟩ ck:=H.get v;refine⟨_, _, _,rfl,U,?_⟩;have H:=H.alloc (o:= .mapIter (some bm) ck #[] ck) trivial;have ⟨b,hb⟩: ∃b,b=d.heap.size:=⟨_,rfl⟩;rw[<-hb] at H ⊢;refine⟨λn q w'=> ∃seen:Array Nat,SM Q D G w0 w' s L0 ((b,.mapIter (some bm) ck seen ck)::M)/\n=(es.filter λx=> !seen.contains x.born).length/\q.1<=65536/\(∀e∈es, ∀x,e.key=aa x->seen.contains e.born=true->q.1<=x)/\(q.1=65536\/q.1∈tk.map (·.1)),⟨_,λV g=>⟨#[],H.ext g,rfl,Int.le_refl _,λe _ x _ k=>(by simp at k),.inl rfl⟩⟩,?_⟩;clear H;rintro n ⟨q,u⟩ V ⟨seen,H,W,F,h2,g⟩;dsimp only at F h2 g ⊢;intro w4 X;have H:=H.ext X;refine⟨b,bm,ck,seen,ck,⟨es⟩,ck,rfl,H.get AZ,H.get (B1 _ v),Da _,R,λk Y z=>?_,λe a k Y z=>?_⟩
 .refine(H.ext z).en λI H=>?_;have l:q=vD (tk.map (·.1)):=La F (λx m=>by
   obtain⟨t,c,rfl⟩:=Ct.1 m;have ⟨e,J,Z⟩:=T t c;exact h2 e J _ Z (k e J)) g
  rw[l];exact kk I (H.Jk (C9 _ _))
 .have a:e∈es:=a;have ⟨t,c,L⟩:=S e a;have H:=(H.ext z).put (i:=0) rfl (o':= .mapIter (some bm) ck (seen.push e.born) ck) trivial;refine⟨t.1,e.val,⟨b,bm,ck,seen,⟨es⟩,ck,e,rfl,H.get AZ,H.get (B1 _ v),a,E,L.symm,rfl⟩,λI h6=>?_⟩;refine⟨_,?_,seen.push e.born,H.ext h6,rfl,?_,?_,?_⟩
  .rw[W];exact Lc a seen k
  .have:=yg q t.1;omega
  .intro r N x m Ja;have hmi:=yg q t.1;by_cases h:seen.contains r.born=true
   .have:=h2 r N x m h;show lL q t.1<=x;omega
   .have vu:r.born=e.born:=by
     rw[Gi] at Ja
     simp_all
    have aci:r=e:=by
     have ⟨i,hi⟩:=B5 N;have ⟨j,f⟩:=B5 a;have wq:(es.map (·.born))[i]? =some e.born:=by rw[Dn,hi];exact congrArg some vu
     have Cc:(es.map (·.born))[j]? =some e.born:=by rw[Dn,f];rfl
     have:=(H2 (by rw[DA];exact(B4.1 hi).1) E).1 (wq.trans Cc.symm);subst this;rw[hi] at f;cases f;rfl
    subst aci;rw[L] at m;cases m;show lL q t.1<=t.1;exact hmi.2.1
  .rcases(yg q t.1).2.2 with l|l
   .show lL q t.1=65536\/ _;rw[l];exact g
   .show lL q t.1=65536\/lL q t.1∈ _;rw[l];exact .inr (Ct.2 ⟨t,c,rfl⟩)
end
def pn (g:Nat->Option GV):Option Nat:=((AE 16).find? λi=>(g (i+1)).isNone).map (· +1)
theorem td {g:Nat->Option GV} {v:Nat}:pn g=some v<->(1<=v/\v<=16)/\g v=none/\ ∀u,1<=u->u<v->(g u).isSome:=by
 unfold pn;rw[GS];constructor
 .rintro⟨i,hi,rfl⟩;rw[HH] at hi;have ⟨a,h2,b⟩:=hi;rw[DB] at h2;refine⟨by omega,by simp_all,λu c=>?_⟩;have:=b (u - 1)
  grind
 .rintro⟨a⟩;refine⟨v - 1,?_⟩;rw[HH]
  grind
theorem Al {g:Nat->Option GV}:pn g=none<-> ∀u,1<=u->u<=16->(g u).isSome:=by
 unfold pn;rw[Option.map_eq_none_iff,List.find?_eq_none];constructor
 .intro h u a b;have:=h (u - 1);cases c:g u with
  |none=>grind
  |some=>rfl
 .intro h i hi e;have:=h (i+1) (by omega) (by grind)
  simp_all
def nR (h:HS):Int:=match pn h.g with
 |none=>3
 |some v=>oZ h.s (v:Int)
def yZ (h:HS):Int:=match pn h.g with
 |none=>0
 |some v=>(v:Int)
def jQ (h:HS):HS:=match pn h.g with
 |none=>h
 |some v=>if oZ h.s (v:Int)=0 then{h with s:=g8 h.s (v:Int) λ_=>0,g:=bA h.g v (some ⟨fb h.s (v:Int),[]⟩)} else h
theorem Am (A:Nat->GA) (g:Nat->Option GV):(sT A g).length=17:=rfl
theorem IK (Q:Sys) (X:HX) (A:Nat->GA) (g:Nat->Option GV):(kv Q X A g).length=21:=rfl
theorem IL {Q:Sys} {X:HX} {A A':Nat->GA} {g g':Nat->Option GV} {v:Nat} (hv:v<17) (h: ∀j,j≠v->A' j=A j/\g' j=g j):(kv Q X A g).set (4+v*1) (ah (lN A' g' v))=kv Q X A' g':=by
 have e:(sT A g).set v (ah (lN A' g' v))=sT A' g':=by
  apply HQ;intro i;by_cases hi:i<17
  .grind[BL,Am,lN]
  .grind[Cs,Am]
 unfold kv
 grind
section
variable {Q:Sys} {X:HX} {D G:List Nat} {w0 w:A2} {h:HS} {L:List (Nat×List AG)} {K:RS->A2->Prop}
theorem abq {A:Nat->GA} (W:Cf A h) {v:Nat} (hv:1<=v/\v<=16) (f:h.g v=none) {s':WD} {r:Int} {bg bt bm b1 l:Nat} {l1 la:List AG} {j:A2}
 (H:SM Q D G w0 j s' ((bg,[ah (ae bt),.map (some bm)])::(bt,iV Q (v:Int) r false)::(b1,l1)::(l,la)::(X.hb,(kv Q X A h.g).set (4+v*1) (ah (ae bg)))::(X.gb,g7 X.vq h.gr.length X.c)::(X.vq,flat eG h.gr++X.rest)::(X.pb,Po.iD 4 h.po)::(bI Q A h.g (AE 17)++L)) ((bm,.map #[] 0)::e_ A h.g (AE 17))):
 eH Q X D G w0 j {h with s:=s',g:=bA h.g v (some ⟨r,[]⟩)} L:=by
 have d:=BM A h.g v ⟨bg,bt,bm,0,[]⟩ (some ⟨r,[]⟩);have m:lN (pZ A v ⟨bg,bt,bm,0,[]⟩) (bA h.g v (some ⟨r,[]⟩)) v=some ⟨bg,0,none⟩:=by
  unfold lN;rw[dZ,ru]
 refine⟨pZ A v ⟨bg,bt,bm,0,[]⟩,⟨λ{i x} a=>?_,λ{i x} a=>?_,W.gl,W.pt,W.gk⟩,?_⟩
 .have a:bA h.g v _ i=some x:=a;unfold bA at a;by_cases e:i=v
  .omega
  .rw[ar e] at a;exact W.jI a
 .have a:bA h.g v _ i=some x:=a;unfold bA at a;unfold pZ;by_cases e:i=v
  .rw[az e] at a ⊢;cases a;exact rM.nil
  .rw[ar e] at a ⊢;exact W.mp a
 .have k:=IL (Q:=Q) (X:=X) (by omega:v<17) d;rw[m] at k;rw[k] at H;refine((H.sub ((((C9 _ _).trans (C9 _ _)).cons_cons _).cons_cons _)).perm ?_).yV ?_
  .have n:=by
    have b:=w_ (Q:=Q) (A:=pZ A v ⟨bg,bt,bm,0,[]⟩) (by omega:v<17) (dZ h.g v (some ⟨r,[]⟩));rw[xd d] at b;have o:=(Aj (Q:=Q) (A:=A) (by omega:v<17) f).symm;have e:ik Q (pZ A v ⟨bg,bt,bm,0,[]⟩) v ⟨r,[]⟩=[(bg,[ah (ae bt),.map (some bm)]),(bt,iV Q (v:Int) r false)]:=by
     unfold ik;rw[ru]
    rw[e] at b;exact b.trans (o.append_left _)
   refine(((((n.append_right L).cons _).cons _).cons _).cons _).trans ?_;exact(Fh (l₁:=[_, _, _, _]) (l₂:=[_, _])).append_right _
  .have b:=m9 (A:=pZ A v ⟨bg,bt,bm,0,[]⟩) (by omega:v<17) (dZ h.g v (some ⟨r,[]⟩));rw[qv d,ru] at b;exact b.trans ((Ai (A:=A) (by omega:v<17) f).symm.cons _)
theorem Le (H:eH Q X D G w0 w h L) (F: ¬ (h.s.1.length:Int)<16*(h.s.2.length:Int)) (v k a b c:Int) (kk: ∀V x,(nR h=0->V=yZ h)->eH Q X D G w0 x (jQ h) L->K (V,nR h,()) x):
 aC AC 124 (.el (.agg gm)) [ah (ae X.hb),aa v,.agg ⟨eO k a b c⟩] w K:=by
 have ⟨A,W,H⟩:=H;have ⟨I,S,J⟩:=H.call;refine aQ (C:=V0) (b_:=pz) (AR (EI _ v k a b c w K) ?_);refine S.al λba x S=>S.al λb1 w3 S=>?_;refine⟨λn q w'=>(1<=q.1/\q.1<=17/\(n:Int)=17 - q.1)/\(∀u:Nat,1<=u->(u:Int)<q.1->(h.g u).isSome)/\aF Q [] I w w' h.s _,⟨16,λM N=>⟨by decide,λu l p=>(by dsimp only at p;omega),S.ext N⟩⟩,?_⟩;clear S;rintro n ⟨q,u⟩ M ⟨⟨O,P,R⟩,r,S⟩;dsimp only at O P R r ⊢;have ⟨i,hi⟩: ∃i:Nat,q=(i:Int):=⟨q.toNat,by omega⟩;subst hi;rw[show((i:Int)).toNat=i from rfl];refine ab (λd=>?_) (λd=>⟨trivial,S.res (j:=0) rfl 0 3 λt S=>?_⟩)
 .have d:(i:Int)<=16:=by simpa using d
  have hc:=S.tM (X:=X) (A:=A) (g:=h.g) (B1 _ (B1 _ AZ)) (v:=(i:Int)) ⟨by omega,d⟩;rw[show((i:Int)).toNat=i from rfl] at hc;refine⟨rfl,rfl,⟨rfl,by omega,by show(i:Int)<((17:Nat):Int);omega⟩,ag.of _ hc ?_⟩;unfold lN;cases z:h.g i with
  |some y=>
   refine ax rfl λt T=>⟨n - 1,by omega,⟨?_,?_,?_⟩,λu l p=>?_,S.ext T⟩
   .rw[ao (by omega) (by omega)];omega
   .rw[ao (by omega) (by omega)];omega
   .rw[ao (by omega) (by omega)];omega
   .rw[ao (by omega) (by omega)] at p;by_cases e:u=i
    .subst e;rw[z];rfl
    .exact r u l (by omega)
  |none=>
   have m:pn h.g=some i:=td.2 ⟨by omega,z,λu l p=>r u l (by omega)⟩;have cE:nR h=oZ h.s (i:Int):=by unfold nR;rw[m]
   have U:yZ h=(i:Int):=by unfold yZ;rw[m]
   have B:jQ h=if oZ h.s (i:Int)=0 then{h with s:=g8 h.s (i:Int) λ_=>0,g:=bA h.g i (some ⟨fb h.s (i:Int),[]⟩)} else h:=by unfold jQ;rw[m]
   have Y:aB .u64 (i:Int)=(i:Int):=cN ⟨by omega,by omega⟩;rw[cE,U,B] at kk;refine an rfl ⟨rfl,rfl,ag.of _ (S.gP (X:=X) (A:=A) (g:=h.g) (by simp) (n:=0) rfl) ⟨rfl,rfl,ag.of _ (S.gP (X:=X) (A:=A) (g:=h.g) (by simp) (n:=1) rfl) ?_⟩⟩;refine S.new (i:Int) (λe=>absurd e F) (λ_ f t S=>?_) (λ_ f bt t S=>?_)
   .rw[ar f] at kk;refine an (by simpa using f) (S.res (j:=0) rfl _ _ λE S=>kk _ E (λe=>absurd e f) ⟨A,W,J ?_⟩);rw[yf f] at S;exact S.tail.tail
   .rw[az f,f] at kk;refine ax rfl λE Z=>?_;have H:=((J S).ext Z).alloc (o:= .map #[] 0) trivial;have ⟨bm,VE⟩: ∃bm,bm=E.heap.size:=⟨_,rfl⟩;rw[<-VE] at H ⊢;have ⟨G2,S,J2⟩:=H.call;refine S.al λbg w7 S=>⟨rfl,rfl,⟨rfl,by omega,by show(i:Int)<((17:Nat):Int);omega⟩,?_⟩;rw[aS];refine S.oB 4 rfl rfl (by rw[Nat.blt_eq,IK];omega) λw8 S=>S.res (j:=2) rfl _ _ λw9 S=>kk _ w9 (λ_=>Y) (abq (bg:=bg) (bt:=bt) (bm:=bm) W (by omega) z (J2 S))
 .have d: ¬ (i:Int)<=16:=by simpa using d
  have m:pn h.g=none:=Al.2 λu l p=>r u l (by omega);have cE:nR h=3:=by unfold nR;rw[m]
  have B:jQ h=h:=by unfold jQ;rw[m]
  rw[cE,B] at kk;exact kk _ t (λe=>absurd e (by decide)) ⟨A,W,J S.tail.tail⟩
end
theorem IM (s:WD) (o:Int) (G:Int->Int):(g8 s o G).1.length=s.1.length:=by
 unfold g8;dsimp only;split
 .exact gN _ _ _ _
 .rfl
theorem ux (s:WD) (o r p:Int):(fu s o r p).1.length=s.1.length:=by
 unfold fu;split
 .rfl
 .split
  .exact ye _ _ _ _ _
  .exact IM _ _ _
theorem BN: ∀(l:List PT) (s:WD),(ij l s).1.length=s.1.length
 |[],s=>rfl
 |[x],s=>rfl
 |x::y::l,s=>by
  rw[ij];split
  .rw[BN (y::l)];exact cL _ _ _
  .rfl
theorem uy (s:WD) (o r:Int) (gone:Bool) (p:Int):(hH s o r gone p).1.length=s.1.length:=by
 unfold hH;split
 .split
  .rw[BN];show(fm _ _ _).length= _;rw[cL,ux]
  .exact ux _ _ _ _
 .rfl
def pR (h:HS) (v:Int):List TK:=match h.g v.toNat with|some x=>x.tk|none=>[]
def wG (v:Int) (h:HS):HS:=dB h v (vD ((pR h v).map (·.1))) (vr h v (vD ((pR h v).map (·.1)))).1 (vr h v (vD ((pR h v).map (·.1)))).2
def fg (v:Int):Nat->HS->HS
 |0,h=>h
 |n+1,h=>fg v n (wG v h)
def mj (ds:List DT) (v:Int):Bool:=(dL ds v).any λi=>decide ((mH ds (i:Int)).2.2.1>0)
def rO (v:Int) (x:List DT×Int) (i:Nat):List DT×Int:=if(mH x.1 (i:Int)).1=4 then(eC x.1 (i:Int) (aI 5 v),x.2+1) else x
def yG (ds:List DT) (v:Int):List DT×Int:=(dL ds v).foldl (rO v) (ds,0)
def r8 (h:HS) (v:Int):HS where
 s:=((bV h.s (aY h.g v) false).1,(yG (bV h.s (aY h.g v) false).2 v).1)
 g:=bA h.g v.toNat none
 gr:=bY h.gr v
 po:=(Po.bV 4 h.po v).2
def FG (h:HS) (a:Int):Int:=if aV h.g a=true then(if mj h.s.2 a=true then 9 else 0) else 4
def tF (h:HS) (a:Int):HS:=if aV h.g a=true then(if mj h.s.2 a=true then h else r8 (fg a (pR h a).length h) a) else h
def FH (h:HS) (a:Int):Int:=if aV h.g a=true then(if mj h.s.2 a=true then 0 else(yG (bV (fg a (pR h a).length h).s (aY (fg a (pR h a).length h).g a) false).2 a).2) else 0
theorem BO (gs:List GT) (v:Int):(bY gs v).length=gs.length:=by unfold bY;rw[DA]
theorem te (h:HS) (v p id f w:Int):aV (dB h v p id f).g w=aV h.g w:=by
 unfold aV dB bA;dsimp only;by_cases e:w.toNat=v.toNat
 .rw[e,az rfl];cases h.g v.toNat<;>rfl
 .rw[ar e]
theorem G1 (h:HS) (v p id f w:Int):aY (dB h v p id f).g w=aY h.g w:=by
 unfold aY;rw[te];unfold dB bA;dsimp only;by_cases e:w.toNat=v.toNat
 .rw[e,az rfl];cases h.g v.toNat<;>rfl
 .rw[ar e]
theorem zL {h:HS} {v p id f:Int}:pR (dB h v p id f) v=(pR h v).filter λt=> !(t.1==p):=by
 unfold pR dB bA;dsimp only;rw[az rfl];cases h.g v.toNat<;>rfl
section
variable {Q:Sys} {X:HX} {D G:List Nat} {w0 w:A2} {h:HS} {L:List (Nat×List AG)} {K:RS->A2->Prop}
theorem aF.XE {s:WD} {L0 rows:List (Nat×List AG)} (S:aF Q D G w0 w s L0) {e:El} {x:Option AT×Nat×Nat} {l:List e.T} (a:ia e rows x l) (b: ∀x∈rows,x∈L0):Sl w e x.1 l:=by
 have ⟨g1,d,f,g,ca,la,H⟩:=S;exact a.sl H λx c=>B1 _ (B1 _ (B1 _ (B1 _ (b x c))))
theorem YM {A:Nat->GA} {v:Nat} {x:GV} (hv:v<17) (a:h.g v=some x) (T:List (Nat×List AG)):
 (ik Q A v x++(T++fH Q X A h (bI Q A h.g ((AE 17).erase v)++L))).Perm (T++fH Q X A h (bI Q A h.g (AE 17)++L)):=by
 have b:=(w_ (Q:=Q) (A:=A) hv a).symm;have d:=((((b.append_right L).cons (X.pb,Po.iD 4 h.po)).cons (X.vq,flat eG h.gr++X.rest)).cons (X.gb,g7 X.vq h.gr.length X.c)).cons (X.hb,kv Q X A h.g);refine List.Perm.trans ?_ (d.append_left T);have e:T++fH Q X A h ((ik Q A v x++bI Q A h.g ((AE 17).erase v))++L)=(T++[(X.hb,kv Q X A h.g),(X.gb,g7 X.vq h.gr.length X.c),(X.vq,flat eG h.gr++X.rest),(X.pb,Po.iD 4 h.po)])++(ik Q A v x++(bI Q A h.g ((AE 17).erase v)++L)):=by simp
 have f:ik Q A v x++(T++fH Q X A h (bI Q A h.g ((AE 17).erase v)++L))=ik Q A v x++((T++[(X.hb,kv Q X A h.g),(X.gb,g7 X.vq h.gr.length X.c),(X.vq,flat eG h.gr++X.rest),(X.pb,Po.iD 4 h.po)])++(bI Q A h.g ((AE 17).erase v)++L)):=by simp
 show List.Perm _ (T++fH Q X A h ((ik Q A v x++bI Q A h.g ((AE 17).erase v))++L));rw[e,f];exact HY _ _ _
end
theorem zM (ds:List DT) (v:Int):(dL ds v).length<=ds.length:=by grind[dL]
section
variable {Q:Sys} {X:HX} {D G:List Nat} {w0 w:A2} {h:HS} {L:List (Nat×List AG)} {K:RS->A2->Prop}
theorem abr {A:Nat->GA} (W:Cf A h) {v:Nat} {x:GV} (hv:v<17) (a:h.g v=some x) {s':WD} {ki:List GT} {yx:List Po.PT} (d:ki.length=h.gr.length) (n:kf ki) (o:Po.jq 4 yx) {f:A2} {p q r t:Nat×List AG}
 (H:SM Q D G w0 f s' (p::q::r::t::(X.hb,(kv Q X A h.g).set (4+v*1) (ah none))::(X.gb,g7 X.vq h.gr.length X.c)::(X.vq,flat eG ki++X.rest)::(X.pb,Po.iD 4 yx)::(bI Q A h.g ((AE 17).erase v)++L)) (e_ A h.g (AE 17))):
 eH Q X D G w0 f {s:=s',g:=bA h.g v none,gr:=ki,po:=yx} L:=by
 have b: ∀j,j≠v->A j=A j/\bA h.g v none j=h.g j:=λj u=>⟨rfl,ar u⟩;have w:lN A (bA h.g v none) v=none:=by
  unfold lN;rw[dZ]
 refine⟨A,⟨λ{i x} a=>?_,λ{i x} a=>?_,d.trans W.gl,o,n⟩,?_⟩
 .have a:bA h.g v none i=some x:=a;unfold bA at a;by_cases e:i=v
  .grind
  .rw[ar e] at a;exact W.jI a
 .have a:bA h.g v _ i=some x:=a;unfold bA at a;by_cases e:i=v
  grind
  .rw[ar e] at a;exact W.mp a
 .have k:=IL (Q:=Q) (X:=X) hv b;rw[w] at k;rw[k] at H;have H:=((((H.sub (C9 _ _)).sub (C9 _ _)).sub (C9 _ _)).sub (C9 _ _));have H:=(H.yV (m9 hv a).symm).Jk (C9 _ _);have l:=Aj (Q:=Q) (A:=A) hv (dZ h.g v _);rw[xd b] at l;have m:=Ai (A:=A) hv (dZ h.g v none);rw[qv b] at m;refine(H.perm ?_).yV m;show List.Perm ((X.hb,kv Q X A _)::(X.gb,g7 X.vq ki.length X.c)::(X.vq,flat eG ki++X.rest)::(X.pb,Po.iD 4 yx)::(bI Q A _ _++L)) _;rw[d];exact((((l.append_right L).cons _).cons _).cons _).cons _
theorem zN {l:List Int} (b:l≠[]) (h: ∀x∈l,x<65536):vD l∈l:=by
 have ⟨d,c,a⟩:=uw l 65536;rcases a with a|a
 .obtain⟨x,l',rfl⟩:=List.exists_cons_of_ne_nil b;have:=c x
  grind
 .exact a
theorem G5 (H:eH Q X D G w0 w h L) (v k:Int) {a:Int} (b c:Int) (ha:0<=a) (hF:Jb Q h.s) (HK:aV h.g a=true->0<=aY h.g a/\aY h.g a<4096) (WW: ∀t∈pR h a,t.1<65536)
 (kk: ∀w2,eH Q X D G w0 w2 (tF h a) L->K (FH h a,FG h a,()) w2):
 aC AC 125 (.el (.agg gm)) [ah (ae X.hb),aa v,.agg ⟨eO k a b c⟩] w K:=by
 have ⟨A,W,H⟩:=H;have ⟨G',S,J⟩:=H.call;refine aQ (C:=V0) (b_:=og) (AR (CW _ v k a b c w K) ?_);unfold FG FH tF at kk;refine S.al λV w2 S=>S.al λb1 w3 S=>⟨rfl,S.a_ 1 rfl rfl ⟨_,Em S (X:=X) (A:=A) (g:=h.g) (by simp) ha,?_⟩⟩;cases P:aV h.g a with
 |false=>
  rw[P,ar (by decide),ar (by decide),ar (by decide)] at kk;exact ax rfl ⟨trivial,S.res (j:=0) rfl 0 4 λw4 S=>kk w4 ⟨A,W,J S.tail.tail⟩⟩
 |true=>
 rw[P,az rfl,az rfl,az rfl] at kk;have ⟨x,hx,o7,hv,lk,ky⟩:=bK P;have ea:aB .i64 a=a:=a9 ⟨ha,by omega⟩;refine an rfl ⟨rfl,S.a_ 1 rfl rfl ?_⟩;rw[ea];refine⟨rfl,rfl,ag.of _ (S.gP (X:=X) (A:=A) (g:=h.g) (by simp) (n:=1) rfl) (S.owned a λr rows w4 S E=>?_)⟩;have hlen:(dL h.s.2 a).length<=4096:=Nat.le_trans (zM _ _) S.le;have ⟨xp,xn,xc⟩:=r;have Fl:xn=(dL h.s.2 a).length:=by have:=E.1;rw[DA] at this;exact this
 subst Fl;refine⟨λn q w'=> ∃m:Nat,q.1=(m:Int)/\n+m=(dL h.s.2 a).length/\(∀i,i<m-> ∀f,(dL h.s.2 a)[i]? =some f-> ¬ (mH h.s.2 (f:Int)).2.2.1>0)/\aF Q [] G' w w' h.s (((b1,[av 0,aa 0])::(V,eO k a b c)::fH Q X A h (bI Q A h.g (AE 17)++L))++rows),⟨(dL h.s.2 a).length,λw5 h5=>⟨0,rfl,rfl,λi hi=>absurd hi (Nat.not_lt_zero i),S.ext h5⟩⟩,?_⟩;clear S;rintro n ⟨q,u⟩ w5 ⟨m,Z,MB,vv,S⟩;dsimp only at Z ⊢;subst Z;refine ab (λo=>?_) (λo=>?_)
 .have U:m<(dL h.s.2 a).length:=by simpa using o
  have ⟨f,Mt⟩: ∃f,f=(dL h.s.2 a)[m]:=⟨_,rfl⟩;have M:(dL h.s.2 a)[m]? =some f:=by rw[Mt];exact Du U
  have A1:((dL h.s.2 a).map λi=>((i:Nat):Int))[m]? =some ((f:Nat):Int):=by rw[Dn,M];rfl
  have ke:=(S.XE E (λx hx=>Ce _ hx)) m _ A1;refine⟨⟨ke.1,by omega,by omega⟩,ag.of _ ke.2 ⟨rfl,rfl,ag.of _ (S.gP (X:=X) (A:=A) (g:=h.g) (by simp) (n:=1) rfl) ⟨(mH h.s.2 (f:Int),wu h.s.2 (f:Int),()),S.ofq (f:Int),S.al λbd w6 S=>S.cQ 0 rfl rfl rfl λw7 S=>⟨rfl,S.a_ 0 rfl rfl ?_⟩⟩⟩⟩;refine ab (λF=>⟨trivial,S.res (j:=1) rfl 0 9 λw8 S=>?_⟩) (λF=>λw8 h8=>⟨n - 1,by omega,m+1,?_,by omega,λi hi g I=>?_,(S.ext h8).tail⟩)
  .have F:(mH h.s.2 (f:Int)).2.2.1>0:=by simpa using F
   have hb:mj h.s.2 a=true:=by
    unfold mj;exact Hb.2 ⟨f,Ch M,by simpa using F⟩
   rw[hb,az rfl,az rfl,az rfl] at kk;exact kk w8 ⟨A,W,J ((S.tail.sub (E5 _ _)).tail.tail)⟩
  .rw[ao (by omega) (by omega)];omega
  .by_cases e:i=m
   .subst e;rw[M] at I;cases I;simpa using F
   .exact vv i (by omega) g I
 have U: ¬ m<(dL h.s.2 a).length:=by simpa using o
 have hb: ¬ mj h.s.2 a=true:=by
  unfold mj;rw[Hb];rintro⟨f,M,hd⟩;have ⟨i,hi⟩:=B5 M;have:i<(dL h.s.2 a).length:=(B4.1 hi).1;exact vv i (by omega) f hi (by simpa using hd)
 rw[ar hb,ar hb,ar hb] at kk;have S:=S.sub (E5 _ rows);clear vv MB E o U;have ⟨g1, _,g3, _⟩:=S.pK (X:=X) (A:=A) (g:=h.g) (by simp) (bS W [_, _]) P;refine⟨rfl,rfl,⟨rfl,by omega,by show a<((17:Nat):Int);omega⟩,ag.of _ g1 ?_⟩;refine⟨λn _ w'=> ∃(B:Nat->GA) (h':HS),fg a n h'=fg a (pR h a).length h/\(pR h' a).length=n/\aV h'.g a=true/\aY h'.g a=aY h.g a/\Jb Q h'.s/\(∀t∈pR h' a,t.1<65536)/\(B a.toNat).bg=(A a.toNat).bg/\Cf B h'/\SM Q D G w0 w' h'.s ([(b1,[av 0,aa 0]),(V,eO k a b c)]++fH Q X B h' (bI Q B h'.g (AE 17)++L)) (e_ B h'.g (AE 17)),⟨(pR h a).length,λw6 h6=>⟨A,h,rfl,rfl,P,rfl,hF,WW,rfl,W,(J S).ext h6⟩⟩,?_⟩;clear S g1 g3 J H;rintro n u w6 ⟨B,h',I,hn,tn,I6,VD,XF,aaq,d,H⟩;have ⟨N,z,FI,Zq, _, _⟩:=bK tn;have xQ:a.toNat<17:=by omega
 have Y:pR h' a=N.tk:=by unfold pR;rw[z]
 rw[<-aaq];have ⟨G2,S,J2⟩:=H.call;have mem:(X.hb,kv Q X B h'.g)∈[(b1,[av 0,aa 0]),(V,eO k a b c)]++fH Q X B h' (bI Q B h'.g (AE 17)++L):=Ce _ AZ;have ⟨_, _,g3, _⟩:=S.pK (X:=X) (A:=B) (g:=h'.g) mem (bS d _) tn;have Az:cd w6 (B a.toNat).bm ⟨(B a.toNat).es⟩ (B a.toNat).ck:=H.get (fV d _ _ z);refine⟨rfl,rfl,ag.of _ g3 ⟨_,⟨_, _, _,rfl,Az,rfl⟩,?_⟩⟩;have nL:(⟨(B a.toNat).es⟩:Array B2).size=n:=by
  rw[<-hn,Y];exact(d.mp z).len
 rw[nL];refine ab (λo=>?_) (λo=>?_)
 .have o:n>0:=by
   have:(n:Int)>0:=by simpa using o
   omega
  have E:((B a.toNat).bg,[ah (some ⟨(B a.toNat).bt,0,none⟩),.map (some (B a.toNat).bm)])∈[(b1,[av 0,aa 0]),(V,eO k a b c)]++fH Q X B h' (bI Q B h'.g (AE 17)++L):=bS d _ _ _ z _ AZ;have cO:N.tk.map (·.1)≠[]:=λe=>by
   have:=congrArg FJ e;rw[DA, <-Y,hn] at this;simp at this;omega
  have Cr:=zN cO (λy hy=>by
   obtain⟨t,ht,rfl⟩:=Ct.1 hy;exact XF t (by rw[Y];exact ht))
  refine Ld H E (fV d _ _ z) (d.mp z) λw7 H=>?_;have ⟨p,hp⟩: ∃p,p=vD (N.tk.map (·.1)):=⟨_,rfl⟩;rw[<-hp] at Cr ⊢;have ⟨t,ht,htp⟩:=Ct.1 Cr;have rU:bU N.tk p=some t.2:=(iO (a:=t.2.1) (b:=t.2.2) (d.mp z).2.2.2).2 (by rw[<-htp];exact ht);have hX:vr h' a p=t.2:=by unfold vr;rw[z];dsimp only;rw[rU];rfl
  have Jd:wG a h'=dB h' a p t.2.1 t.2.2:=by
   unfold wG;rw[Y, <-hp,hX]
  refine Et d (T:=[(b1,[av 0,aa 0]),(V,eO k a b c)]) H tn VD (by rw[I6];exact HK P) z rU λB' w8 hb W'' H=>λw9 h9=>⟨n - 1,by omega,B',dB h' a p t.2.1 t.2.2,?_,?_,?_,?_,?_,?_,?_,W'',H.ext h9⟩
  .rw[<-Jd, <-I];obtain⟨m,rfl⟩: ∃m,n=m+1:=⟨n - 1,by omega⟩;rfl
  .rw[zL,Y];have ⟨r,M,Cg⟩:=(d.mp z).find p;rw[rU] at Cg;have ⟨i, _,hi,hM⟩:=Cg;rw[<-hM.len,List.length_eraseIdx,az hi];have:=(d.mp z).len;rw[Y] at hn;omega
  .rw[te];exact tn
  .rw[G1];exact I6
  .have e:(dB h' a p t.2.1 t.2.2).s.1.length=h'.s.1.length:=uy _ _ _ _ _;exact⟨by rw[e];exact VD.1,by rw[e];exact VD.2⟩
  .intro t' pO;rw[zL] at pO;exact XF t' (List.mem_filter.1 pO).1
  .rw[hb,aaq]
 have SL:n=0:=by
  have: ¬ (n:Int)>0:=by simpa using o
  omega
 subst SL;have I:h'=fg a (pR h a).length h:=I;rw[<-I] at kk;clear I nL o g3 S J2 mem Az hb XF hn VD WW;have acj:0<=N.root/\N.root<4096:=by rw[<-FI,I6];exact HK P
 rw[FI] at kk;have H:=H.perm (YM xQ z _);have ⟨G2,S,J2⟩:=H.call;refine⟨rfl,rfl,ag.of _ (S.gP (X:=X) (A:=B) (g:=h'.g) (Ch (i:=4) rfl) (n:=2) rfl) (S.abl 5 6 rfl rfl (by rw[d.gl];decide) (by rw[d.gl];decide) (by decide) a λn2 w8 S=>⟨rfl,rfl,ag.of _ (S.gP (X:=X) (A:=B) (g:=h'.g) (Ch (i:=4) rfl) (n:=3) rfl) (S.abp 7 rfl d.pt a λw9 S=>⟨rfl,rfl,?_⟩)⟩)⟩;refine S.a_ 0 rfl rfl (S.drop 1 rfl acj λy abt np S _=>?_);have S:=S.sub (E5 _ abt);refine⟨rfl,rfl,ag.of _ (S.gP (X:=X) (A:=B) (g:=h'.g) (Ch (i:=4) rfl) (n:=1) rfl) (S.owned a λr2 NA l6 S E=>?_)⟩;have ⟨s1,EX⟩: ∃s1,s1=bV h'.s N.root false:=⟨_,rfl⟩;have SG:r8 h' a={s:=(s1.1,(yG s1.2 a).1),g:=bA h'.g a.toNat none,gr:=bY h'.gr a,po:=(Po.bV 4 h'.po a).2}:=by
  unfold r8;rw[FI, <-EX]
 rw[<-EX] at S kk E;rw[SG] at kk;have ⟨xp2,xn2,xc2⟩:=r2;have ack:xn2=(dL s1.2 a).length:=by have:=E.1;rw[DA] at this;exact this
 subst ack;have abu:(dL s1.2 a).length<=4096:=Nat.le_trans (zM _ _) S.le;have ⟨l,HJ⟩: ∃l,l=dL s1.2 a:=⟨_,rfl⟩;have yB:yG s1.2 a=l.foldl (rO a) (s1.2,0):=by unfold yG;rw[HJ]
 rw[<-HJ] at E abu ⊢;have ⟨R,hR⟩: ∃R,R=yG s1.2 a:=⟨_,rfl⟩;rw[<-hR] at kk;rw[<-hR] at yB;have ⟨RL,hRL⟩: ∃RL:List (Nat×List AG),RL=((B a.toNat).bg,[ah (some ⟨(B a.toNat).bt,0,none⟩),.map (some (B a.toNat).bm)])::((B a.toNat).bt,iV Q ((a.toNat:Nat):Int) N.root true)::(b1,[av 0,aa 0])::(V,eO k a b c)::(X.hb,kv Q X B h'.g)::(X.gb,g7 X.vq h'.gr.length X.c)::(X.vq,flat eG (bY h'.gr a)++X.rest)::(X.pb,Po.iD 4 (Po.bV 4 h'.po a).2)::(bI Q B h'.g ((AE 17).erase a.toNat)++L):=⟨_,rfl⟩;have S:aF Q [] G2 w6 l6 s1 (RL++NA):=by rw[hRL];exact S
 have aar: ∀{T:List (Nat×List AG)},(X.hb,kv Q X B h'.g)∈RL++T:=λ{T}=>Ff _ (by rw[hRL];exact Ch (i:=4) rfl);refine⟨λn q w'=> ∃(m:Nat) (ds:List DT),q.2.1=(m:Int)/\n+m=l.length/\(0<=q.1/\q.1<=m)/\(l.drop m).foldl (rO a) (ds,q.1)=R/\aF Q [] G2 w6 w' (s1.1,ds) (RL++NA),⟨l.length,λrX MH=>⟨0,s1.2,rfl,rfl,⟨by decide,by decide⟩,yB.symm,S.ext MH⟩⟩,?_⟩;clear S;rintro n ⟨cnt,q,u⟩ rX ⟨m,ds,Z,MB,hcm,O,S⟩;dsimp only at Z hcm O ⊢;subst Z;refine ab (λo=>?_) (λo=>?_)
 .have U:m<l.length:=by simpa using o
  have ⟨f,Mt⟩: ∃f,f=l[m]:=⟨_,rfl⟩;have M:l[m]? =some f:=by rw[Mt];exact Du U
  have A1:(l.map λi=>((i:Nat):Int))[m]? =some ((f:Nat):Int):=by rw[Dn,M];rfl
  have ke:=(S.XE E (λx hx=>Ce _ hx)) m _ A1;rw[H5 U, <-Mt,FC] at O;refine⟨⟨ke.1,by omega,by omega⟩,ag.of _ ke.2 ⟨rfl,rfl,ag.of _ (S.gP (X:=X) (A:=B) (g:=h'.g) aar (n:=1) rfl) ⟨(mH ds (f:Int),wu ds (f:Int),()),S.ofq (f:Int),S.al λbd E7 S=>S.cQ 0 rfl rfl rfl λFi S=>⟨rfl,S.a_ 0 rfl rfl ?_⟩⟩⟩⟩;refine ab (λF=>⟨rfl,rfl,ag.of _ (S.gP (X:=X) (A:=B) (g:=h'.g) (B1 _ aar) (n:=1) rfl) (S.S6 (f:Int) 5 a λMp S=>λMq Xb=>⟨n - 1,by omega,m+1, _,?_,by omega,?_,?_,(S.ext Xb).tail⟩)⟩) (λF=>λMq Xb=>⟨n - 1,by omega,m+1,ds,?_,by omega,?_,?_,(S.ext Xb).tail⟩)
  .show ay .i64 (m:Int) 1= _;rw[ao (by omega) (by omega)];omega
  .show 0<=ay .i64 cnt 1/\ay .i64 cnt 1<=((m+1:Nat):Int);rw[ao (by omega) (by omega)];omega
  .show(l.drop (m+1)).foldl (rO a) (eC ds (f:Int) (aI 5 a),ay .i64 cnt 1)=R;rw[ao (by omega) (by omega), <-O];have d4:(mH ds (f:Int)).1=4:=by simpa using F
   rw[show rO a (ds,cnt) f=if(mH ds (f:Int)).1=4 then(eC ds (f:Int) (aI 5 a),cnt+1) else(ds,cnt) from rfl,az d4]
  .show ay .i64 (m:Int) 1= _;rw[ao (by omega) (by omega)];omega
  .show 0<=cnt/\cnt<=((m+1:Nat):Int);omega
  .show(l.drop (m+1)).foldl (rO a) (ds,cnt)=R;rw[<-O];have d4: ¬ (mH ds (f:Int)).1=4:=by simpa using F
   rw[show rO a (ds,cnt) f=if(mH ds (f:Int)).1=4 then(eC ds (f:Int) (aI 5 a),cnt+1) else(ds,cnt) from rfl,ar d4]
 have U: ¬ m<l.length:=by simpa using o
 rw[List.drop_of_length_le (by omega)] at O;have O:(ds,cnt)=R:=O;rw[<-O] at kk;have S:=S.sub (E5 _ NA);rw[hRL] at S;refine⟨rfl,rfl,⟨rfl,by omega,by show a<((17:Nat):Int);omega⟩,?_⟩;rw[aS];refine S.oB 4 rfl rfl (by rw[Nat.blt_eq,IK];omega) λE7 S=>S.res (j:=2) rfl _ _ λFi S=>?_;rw[cN ⟨by omega,by omega⟩];exact kk Fi (abr d xQ z (BO _ _) (d.gk.drop _) (Po.D_ d.pt a) (J2 S))
end
def run (h:HS) (v k a b c:Int):HS×Int×Int:=match k.toNat with
 |1=>(jQ h,yZ h,nR h)
 |2=>(tF h a,FH h a,FG h a)
 |3=>(gE h v a b,mK h v a b)
 |4=>(nu h v a,rN h v a)
 |5=>(iU h v a b,0,pk h v a b)
 |6=>(h,rZ h v a)
 |7=>(iY h v a b,0,zg h v a)
 |8=>(kH h v a b c,lz h v a b c)
 |9=>(gW h v a b c,0,nv h v a b c)
 |10=>(fU h v a,0,r7 h v a)
 |11=>(jY h v a,0,tW h v a)
 |12=>(jO h v a,lI h v a)
 |13=>(jP h v a b,lJ h v a b)
 |14=>(mi h v a,0,yW h v a)
 |15=>(yX h v,DF h v,0)
 |16=>(jv h v a,0,sU h v a)
 | _=>(bz h (cv h.s h.s.2.length).1,((cv h.s h.s.2.length).2:Int),0)
def qe (h:HS) (v k a b c:Int):Int:=
 if(decide (v<0)||decide (v>16)|| !iq k a b c)=true then 1 else if(!(v==0)==xP k)=true then 7 else if(decide (v>0)&& !aV h.g v)=true then 4 else 0
def MK (h:HS) (v k a b c:Int):Int:=if qe h v k a b c=0 then(run h v k a b c).2.2 else qe h v k a b c
def ML (h:HS) (v k a b c:Int):Int:=if qe h v k a b c=0 then(if(run h v k a b c).2.2=0 then(run h v k a b c).2.1 else 0) else 0
def AB (h:HS) (v k a b c:Int):HS:=if qe h v k a b c=0 then(run h v k a b c).1 else h
structure XG (Q:Sys) (h:HS):Prop where
 Sp:Jb Q h.s
 sz:16*h.s.2.length<=h.s.1.length
 rr: ∀v,aV h.g v=true->0<=aY h.g v/\aY h.g v<4096
 pg: ∀v, ∀t∈pR h v,t.1<65536
 new: ∀v a b c, ∀x,h.g v.toNat=some x->aV h.g v=true->iW h.s (aY h.g v) false b (ll h a).1 (qH c)=0->bU x.tk b=none
section
variable {Q:Sys} {X:HX} {D G:List Nat} {w0 w:A2} {h:HS} {L T:List (Nat×List AG)}
theorem IN (A:Nat->GA) (h:HS):(fH Q X A h (bI Q A h.g (AE 17)++(T++L))).Perm (T++fH Q X A h (bI Q A h.g (AE 17)++L)):=by
 have a:fH Q X A h (bI Q A h.g (AE 17)++(T++L))=(fH Q X A h (bI Q A h.g (AE 17)))++(T++L):=by simp
 have b:T++fH Q X A h (bI Q A h.g (AE 17)++L)=T++(fH Q X A h (bI Q A h.g (AE 17))++L):=by simp
 rw[a,b];exact HY _ _ _
theorem eH.of {A:Nat->GA} (W:Cf A h) (H:SM Q D G w0 w h.s (T++fH Q X A h (bI Q A h.g (AE 17)++L)) (e_ A h.g (AE 17))):eH Q X D G w0 w h (T++L):=
 ⟨A,W,H.perm (IN A h)⟩
theorem eH.to (H:eH Q X D G w0 w h (T++L)): ∃A,Cf A h/\SM Q D G w0 w h.s (T++fH Q X A h (bI Q A h.g (AE 17)++L)) (e_ A h.g (AE 17)):=by
 have ⟨A,W,H⟩:=H;exact⟨A,W,H.perm (IN A h).symm⟩
theorem eH.ext {w1:A2} (H:eH Q X D G w0 w h L) (e:Ext w w1):eH Q X D G w0 w1 h L:=by
 have ⟨A,W,H⟩:=H;exact⟨A,W,H.ext e⟩
def mL (k:Int):Nat:=([124,125,127,128,129,130,131,132,133,134,135,136,137,138,139,140,126]:List Nat).getD (k - 1).toNat 0
theorem fL (H:eH Q X D G w0 w h L) (R:XG Q h) {v k a b c:Int} (m:1<=k/\k<=17) (i:xP k=false->aV h.g v=true) (f:0<=a/\a<18446744073709551616) (hb:0<=b/\b<18446744073709551616) (hc:0<=c/\c<18446744073709551616) {K:RS->A2->Prop}
 (kk: ∀V d,((run h v k a b c).2.2=0->V=(run h v k a b c).2.1)->eH Q X D G w0 d (run h v k a b c).1 L->K (V,(run h v k a b c).2.2,()) d):
 aC AC (mL k) (.el (.agg gm)) [ah (ae X.hb),aa v,.agg ⟨eO k a b c⟩] w K:=by
 have:k=1\/k=2\/k=3\/k=4\/k=5\/k=6\/k=7\/k=8\/k=9\/k=10\/k=11\/k=12\/k=13\/k=14\/k=15\/k=16\/k=17:=by omega
 rcases this with rfl|rfl|rfl|rfl|rfl|rfl|rfl|rfl|rfl|rfl|rfl|rfl|rfl|rfl|rfl|rfl|rfl
 .exact Le H (by have:=R.sz;omega) v 1 a b c λV d j H=>kk V d j H
 .exact G5 H v 2 b c f.1 R.Sp (R.rr a) (R.pg a) λd H=>kk _ d (λ_=>rfl) H
 .exact K' H (i rfl) 3 c f.1 hb.1 λd H=>kk _ d (λ_=>rfl) H
 .exact GZ H (i rfl) R.Sp (R.rr v (i rfl)) 4 b c f.1 λd H=>kk _ d (λ_=>rfl) H
 .exact GY H (i rfl) 5 c f.1 hb.1 λd H=>kk _ d (λ_=>rfl) H
 .exact UO H v 6 b c f.1 λd H=>kk _ d (λ_=>rfl) H
 .exact Q0 H v 7 c f.1 hb λd H=>kk _ d (λ_=>rfl) H
 .exact QZ H v 8 f.1 hb.1 hc.1 λd H=>kk _ d (λ_=>rfl) H
 .exact UQ H (i rfl) 9 f.1 hb.1 hc.1 (λx l e=>R.new v a b c x l (i rfl) e) λd H=>kk _ d (λ_=>rfl) H
 .exact UP H (i rfl) R.Sp (R.rr v (i rfl)) 10 b c f.1 λd H=>kk _ d (λ_=>rfl) H
 .exact K8 H v 11 b c f.1 λd H=>kk _ d (λ_=>rfl) H
 .exact UM H v 12 b c f.1 λd H=>kk _ d (λ_=>rfl) H
 .exact UN H v 13 c f.1 hb.1 λd H=>kk _ d (λ_=>rfl) H
 .exact UK H v 14 b c f.1 λd H=>kk _ d (λ_=>rfl) H
 .exact UL H v 15 a b c λd H=>kk _ d (λ_=>rfl) H
 .exact QY H v 16 b c f.1 λd H=>kk _ d (λ_=>rfl) H
 .exact Q1 H v 17 a b c λd H=>kk _ d (λ_=>rfl) H
end
def p8 (k:Int) (b:Nat):B2:={key:=aa k,val:= .func (.func (mL k)) #[] #[],born:=b}
def du:Array B2:=⟨[p8 1 0,p8 2 1,p8 17 2,p8 3 3,p8 4 4,p8 5 5,p8 6 6,p8 7 7,p8 8 8,p8 9 9,p8 10 10,p8 11 11,p8 12 12,p8 13 13,p8 14 14,p8 15 15,p8 16 16]⟩
section
variable {D G:List Nat} {w0 w:A2} {L:List (Nat×List AG)} {M:List (Nat×Obj)}
theorem Lf (H:lU D G w0 w L M) {K:Option Nat->A2->Prop} (k: ∀r a,lU D G w0 a L ((r,.map du 17)::M)->K (some r) a):aA AC 64 (.el Dq) [] w K:=by
 refine λw1 b=>aj (C:=V0) (AR (KR w1 K) ?_);have H:=H.ext b;intro c d;have H:=(H.ext d).alloc (o:= .map #[] 0) trivial;refine iH H (by kernel_rfl) λg H=>?_;refine iH H (by kernel_rfl) λh H=>?_;refine iH H (by kernel_rfl) λi H=>?_;refine iH H (by kernel_rfl) λj H=>?_;refine iH H (by kernel_rfl) λl H=>?_;refine iH H (by kernel_rfl) λm H=>?_;refine iH H (by kernel_rfl) λn H=>?_;refine iH H (by kernel_rfl) λp H=>?_;refine iH H (by kernel_rfl) λq H=>?_;refine iH H (by kernel_rfl) λs H=>?_;refine iH H (by kernel_rfl) λt H=>?_;refine iH H (by kernel_rfl) λu H=>?_;refine iH H (by kernel_rfl) λv H=>?_;refine iH H (by kernel_rfl) λx H=>?_;refine iH H (by kernel_rfl) λy H=>?_;refine iH H (by kernel_rfl) λz H=>?_;refine iH H (by kernel_rfl) λA H=>?_;exact λe f=>k c.heap.size e ((H.ext f).V5 (by kernel_rfl))
theorem CZ {k:Int} (a:1<=k/\k<=17):bT AC (mL k)=true:=by
 have:k=1\/k=2\/k=3\/k=4\/k=5\/k=6\/k=7\/k=8\/k=9\/k=10\/k=11\/k=12\/k=13\/k=14\/k=15\/k=16\/k=17:=by omega
 rcases this with rfl|rfl|rfl|rfl|rfl|rfl|rfl|rfl|rfl|rfl|rfl|rfl|rfl|rfl|rfl|rfl|rfl
 .exact(by kernel_rfl:bT AC (mL 1)=true)
 .exact(by kernel_rfl:bT AC (mL 2)=true)
 .exact(by kernel_rfl:bT AC (mL 3)=true)
 .exact(by kernel_rfl:bT AC (mL 4)=true)
 .exact(by kernel_rfl:bT AC (mL 5)=true)
 .exact(by kernel_rfl:bT AC (mL 6)=true)
 .exact(by kernel_rfl:bT AC (mL 7)=true)
 .exact(by kernel_rfl:bT AC (mL 8)=true)
 .exact(by kernel_rfl:bT AC (mL 9)=true)
 .exact(by kernel_rfl:bT AC (mL 10)=true)
 .exact(by kernel_rfl:bT AC (mL 11)=true)
 .exact(by kernel_rfl:bT AC (mL 12)=true)
 .exact(by kernel_rfl:bT AC (mL 13)=true)
 .exact(by kernel_rfl:bT AC (mL 14)=true)
 .exact(by kernel_rfl:bT AC (mL 15)=true)
 .exact(by kernel_rfl:bT AC (mL 16)=true)
 .exact(by kernel_rfl:bT AC (mL 17)=true)
theorem xe {r:Nat} (h:cd w r du 17) {k:Int} (a:1<=k/\k<=17):o8 w (some r) .i64 k Value.nilFunc (.func (.func (mL k)) #[] #[]):=by
 have:k=1\/k=2\/k=3\/k=4\/k=5\/k=6\/k=7\/k=8\/k=9\/k=10\/k=11\/k=12\/k=13\/k=14\/k=15\/k=16\/k=17:=by omega
 rcases this with rfl|rfl|rfl|rfl|rfl|rfl|rfl|rfl|rfl|rfl|rfl|rfl|rfl|rfl|rfl|rfl|rfl
 .exact⟨r,du,17,rfl,h,rfl⟩
 .exact⟨r,du,17,rfl,h,rfl⟩
 .exact⟨r,du,17,rfl,h,rfl⟩
 .exact⟨r,du,17,rfl,h,rfl⟩
 .exact⟨r,du,17,rfl,h,rfl⟩
 .exact⟨r,du,17,rfl,h,rfl⟩
 .exact⟨r,du,17,rfl,h,rfl⟩
 .exact⟨r,du,17,rfl,h,rfl⟩
 .exact⟨r,du,17,rfl,h,rfl⟩
 .exact⟨r,du,17,rfl,h,rfl⟩
 .exact⟨r,du,17,rfl,h,rfl⟩
 .exact⟨r,du,17,rfl,h,rfl⟩
 .exact⟨r,du,17,rfl,h,rfl⟩
 .exact⟨r,du,17,rfl,h,rfl⟩
 .exact⟨r,du,17,rfl,h,rfl⟩
 .exact⟨r,du,17,rfl,h,rfl⟩
 .exact⟨r,du,17,rfl,h,rfl⟩
end
section
variable {Q:Sys} {X:HX} {D G:List Nat} {w0 w:A2} {s:WD} {h:HS} {L L0:List (Nat×List AG)} {M:List (Nat×Obj)} {K:RS->A2->Prop}
theorem SM.Oh (H:SM Q D G w0 w s L0 M) {K:Option Nat->A2->Prop} (k: ∀r e,SM Q D G w0 e s L0 ((r,.map du 17)::M)->K (some r) e):aA AC 64 (.el Dq) [] w K:=by
 have ⟨a,b,c,d,ca,la,H⟩:=H;exact Lf H λr e H=>k r e ⟨a,b,c,d,ca,la,H⟩
theorem F1 (S:aF Q D G w0 w s L0) {j j1 b b1:Nat} {l:List AG} {f g:AG} (h:L0[j]? =some (b,l)) (n:L0[j1]? =some (b1,[f,g])) (o:j≠j1) (k:l.length=2) (V E:Int)
 (kk: ∀a,aF Q D G w0 a s ((L0.set j (b,[av V,aa E])).set j1 (b1,[av (if E=0 then V else 0),aa E]))->K (if E=0 then V else 0,E,()) a):
 aw w (ae b) [av V,aa E] λ(a:A2)=>true=true/\ag a none (ad (ae b) 1) aq λ(x:Int)=>
  aD (x != 0)
   (true=true/\ag a none (ad (ae b) 1) aq λ(x:Int)=>True/\
    aw a (ae b1) [av 0,aa x] λ(a:A2)=>ak a λ(w1:A2)=>ag w1 none (ae b1) (.agg [eh,aG]) λ(x:Int×Int×Unit)=>K (x.1,x.2.1,()) w1)
   (ag a none (ae b) (.agg [eh,aG]) λ(x:Int×Int×Unit)=>
    aw a (ae b1) [av x.1,aa x.2.1] λ(a:A2)=>ak a λ(w1:A2)=>ag w1 none (ae b1) (.agg [eh,aG]) λ(x:Int×Int×Unit)=>K (x.1,x.2.1,()) w1):=by
 have m:j<L0.length:=(B4.1 h).1;refine S.cQ j h rfl k.symm λa S=>?_;have c:(L0.set j _)[j]? =some (b,[av V,aa E]):=C7 m;have i:(L0.set j (b,[av V,aa E]))[j1]? =some (b1,[f,g]):=by grind
 refine⟨rfl,S.a_ j c (rfl) ?_⟩;refine ab (λe=>?_) (λe=>?_)
 .have e: ¬ E=0:=by simpa using e
  rw[ar e] at kk;exact⟨rfl,S.a_ j c (show _=some E from rfl) ⟨trivial,S.res i 0 E λd S=>kk d S⟩⟩
 .have e:E=0:=by simpa using e
  rw[az e] at kk;exact S.ld j c (rfl) (S.res i V E λd S=>kk d S)
theorem YN {a:Nat} {sh:Sh} {args:List AG} {w:A2} {K:sh.T->A2->Prop} (hc:bT AC a=true) (b: ∀w1,Ext w w1->aC AC a sh args w1 K):Hx AC (.func (.func a) #[] #[]) sh args w K:=by grind[Hx,fi]
theorem YO (H:eH Q X D G w0 w h L) (R:XG Q h) (v k:Int) {a b c:Int} (O:0<=a/\a<18446744073709551616) (hb:0<=b/\b<18446744073709551616) (hc:0<=c/\c<18446744073709551616)
 (kk: ∀n,eH Q X D G w0 n (AB h v k a b c) L->K (ML h v k a b c,MK h v k a b c,()) n):
 aC AC 9 (.el (.agg gm)) [ah (ae X.hb),aa v,.agg ⟨eO k a b c⟩] w K:=by
 have ⟨A,W,H⟩:=H;have ⟨P,S,J⟩:=H.call;refine aQ (C:=V1) (AR (YG _ v k a b c w K) ?_);unfold MK ML AB at kk;refine S.al λU n S=>S.al λb1 w3 S=>⟨_,my S (X:=X) (A:=A) (g:=h.g) (by simp),an rfl ?_⟩;have B: ∀e,e≠0->qe h v k a b c=e-> ∀{n:A2} {x:List AG},aF Q [] P w n h.s ((b1,x)::(U,eO k a b c)::fH Q X A h (bI Q A h.g (AE 17)++L))->K (0,e,()) n:=λe E Y n x S=>by
  rw[Y,ar E,ar E,ar E] at kk;exact kk n ⟨A,W,J S.tail.tail⟩
 have f:qe h v k a b c=if(decide (v<0)||decide (v>16)|| !iq k a b c)=true then 1 else if(!(v==0)==xP k)=true then 7 else if(decide (v>0)&& !aV h.g v)=true then 4 else 0:=rfl;refine S.ld 1 rfl (show _=some (k,a,b,c,()) from rfl) ⟨iq k a b c,λ_=>P6 k a b c,?_⟩;refine ab (λd=>⟨trivial,S.res (j:=0) rfl 0 1 λm S=>?_⟩) (λd=>⟨rfl,S.a_ 1 rfl rfl ⟨xP k,GC k,?_⟩⟩)
 .rw[az d] at f;exact B 1 (by decide) f S
 rw[ar (by rw[d];decide)] at f;simp only[Dl,decide_eq_false_iff_not,Bool.not_eq_false'] at d;have ⟨⟨dv0,dv1⟩,F⟩:=d;refine ab (λd=>⟨trivial,S.res (j:=0) rfl 0 7 λm S=>?_⟩) (λd=>⟨aV h.g v,λ_=>qP S (X:=X) (A:=A) (g:=h.g) (by simp) v,?_⟩)
 .rw[az d] at f;exact B 7 (by decide) f S
 rw[ar (by rw[d];decide)] at f;have dc:=d;refine ab (λd=>⟨trivial,S.res (j:=0) rfl 0 4 λm S=>?_⟩) (λd=>⟨rfl,S.a_ 1 rfl rfl (S.ld 1 rfl (show _=some (k,a,b,c,()) from rfl) ?_)⟩)
 .rw[az d] at f;exact B 4 (by decide) f S
 rw[ar (by rw[d];decide)] at f;rw[f,az rfl,az rfl,az rfl] at kk;have y:1<=k/\k<=17:=by
  unfold iq at F;rw[Dt,decide_eq_true_eq] at F;have d1:=F.1;unfold jM at d1
  grind
 have Z:xP k=false->aV h.g v=true:=λe=>by
  grind
 have call: ∀{T:List (Nat×List AG)} {m:A2} {I:RS->A2->Prop},SM Q D G w0 m h.s (T++fH Q X A h (bI Q A h.g (AE 17)++L)) (e_ A h.g (AE 17))->
  (∀V p l,((run h v k a b c).2.2=0->V=(run h v k a b c).2.1)->Cf l (run h v k a b c).1->SM Q D G w0 p (run h v k a b c).1.s _ (e_ l (run h v k a b c).1.g (AE 17))->I (V,(run h v k a b c).2.2,()) p)->
  Hx AC (.func (.func (mL k)) #[] #[]) (.el (.agg gm)) _ m I:=λ{T m I} H kk2=>by
  refine YN (CZ y) λp h5=>?_;refine fL (eH.of W (H.ext h5)) R y Z O hb hc λV z o H=>?_;have ⟨l,q,H⟩:=eH.to H;exact kk2 V z l o q H
 have fin: ∀{V:Int},((run h v k a b c).2.2=0->V=(run h v k a b c).2.1)->(if(run h v k a b c).2.2=0 then V else 0)=if(run h v k a b c).2.2=0 then(run h v k a b c).2.1 else 0:=λ{V} o=>by
  grind
 refine⟨?_,?_⟩
 .refine(J S).Oh λr m H=>?_;have M:cd m r du 17:=H.get AZ;have H:=H.Jk (C9 _ _);have ⟨G2,S,N⟩:=H.call;refine⟨cK (S.get (i:=1) rfl) rfl,?_,trivial, _,xe M y,?_,?_⟩
  .rw[aS];exact cK (S.get (i:=1) rfl) rfl
  .refine call (T:=[_, _]) H λV p l o q H=>?_;have ⟨G3,S,t⟩:=H.call;refine S.al λb2 z S=>F1 S (j:=0) (j1:=1) rfl rfl (by decide) rfl V _ λu S=>?_;rw[fin o];exact kk u ⟨l,q,t S.tail.tail.tail⟩
  .refine S.al λb2 p S=>call (T:=[_, _, _]) (N S) λV z l o q H=>?_;have ⟨G3,S,t⟩:=H.call;refine F1 S (j:=0) (j1:=1) rfl rfl (by decide) rfl V _ λu S=>?_;rw[fin o];exact kk u ⟨l,q,t S.tail.tail.tail⟩
 .refine S.al λb2 m S=>(J S).Oh λr p H=>?_;have M:cd p r du 17:=H.get AZ;have H:=H.Jk (C9 _ _);have ⟨G2,S,N⟩:=H.call;refine⟨cK (S.get (i:=2) rfl) rfl,?_,trivial, _,xe M y,?_⟩
  .rw[aS];exact cK (S.get (i:=2) rfl) rfl
  .refine call (T:=[_, _, _]) H λV z l o q H=>?_;have ⟨G3,S,t⟩:=H.call;refine F1 S (j:=0) (j1:=1) rfl rfl (by decide) rfl V _ λu S=>?_;rw[fin o];exact kk u ⟨l,q,t S.tail.tail.tail⟩
end
open Po (tv pN ig dS i_ fo mD km)
def A3 (gs:List GT) (po:List Po.PT) (u v:Int):Prop:=mg gs u v=true\/Po.me 4 po u v=true
open Classical in
noncomputable def pv (gs:List GT) (po:List Po.PT) (a b:Int):Bool:=decide (1<=a/\a<=16)&&(decide (1<=b/\b<=16)&&decide (Rc (A3 gs po) a b))
theorem wg {gs:List GT} {po:List Po.PT} {a b:Int}:pv gs po a b=true<->(1<=a/\a<=16)/\(1<=b/\b<=16)/\Rc (A3 gs po) a b:=by
 unfold pv;simp
theorem qQ {gs:List GT} {po:List Po.PT} {u v:Int} (h:A3 gs po u v):(1<=u/\u<=16)/\(1<=v/\v<=16):=by
 rcases h with h|h
 .have ⟨a,h2, _⟩:=re.1 h;exact⟨oz.1 a,oz.1 h2⟩
 .have ⟨a,h2, _⟩:=Po.q_.1 h;exact⟨by simpa[Po.gI] using a,by simpa[Po.gI] using h2⟩
section
variable {w0:A2} {Q:Sys} {X:HX} {A:Nat->GA} {g:Nat->Option GV} {gs:List GT} {po:List Po.PT}
structure ZF (w0:A2) (Q:Sys) (X:HX) (A:Nat->GA) (g:Nat->Option GV) (gs:List GT) (po:List Po.PT):Prop where
 hb:bq w0 X.hb (kv Q X A g)
 gb:bq w0 X.gb (g7 X.vq gs.length X.c)
 gr:bq w0 X.vq (flat eG gs++X.rest)
 pb:bq w0 X.pb (Po.iD 4 po)
 gl:gs.length=16
 gk:kf gs
 pt:Po.jq 4 po
abbrev Be (be a b:Nat) (X:HX) (bs:List Bool) (L:List (Nat×List AG)):List (Nat×List AG):=
 (be,[.func (.func 86) #[] #[ah (ae a),ah (ae b),ah (ae be)]])::(a,pN bs)::(b,[ah (ae X.hb)])::L
theorem ZF.glq {w:A2} (B:ZF w0 Q X A g gs po) (h:Ext w0 w) (a b:Int):ai AC 87 [ah (ae X.gb),aa a,aa b] w (.bool (mg gs a b)):=
 ai.of (s:= .el cr) λw' h'=>Gz ((B.gb.ext h).ext h') ((B.gr.ext h).ext h') (by rw[B.gl];decide) (by rw[B.gl];decide) B.gk a b
theorem ZF.plq {w:A2} (B:ZF w0 Q X A g gs po) (h:Ext w0 w) (a b:Int):ai AC 88 [ah (ae X.pb),aa a,aa b] w (.bool (Po.me 4 po a b)):=
 ai.of (s:= .el cr) λw' h'=>Po.Gy ((B.pb.ext h).ext h') B.pt a b
theorem Lg (B:ZF w0 Q X A g gs po) {be a c:Nat} {L:List (Nat×List AG)}:
 ∀(q:Nat) (bs:List Bool),i_ bs<=q->bs.length=17-> ∀{w:A2} {n:Int},1<=n/\n<=16->tv bs n=false->At [] w0 w (Be be a c X bs L)-> ∀{K:Unit->A2->Prop},(∀nI o,VI (A3 gs po) n bs nI->At [] w0 o (Be be a c X nI L)->K () o)->
 aA AC 86 (.bu []) [aa n,ah (ae a),ah (ae c),ah (ae be)] w K:=by
 intro q
 induction q with
 |zero=>
  intro bs I hb w n z p H K k;have r:n.toNat<bs.length:=by omega
  have:=fo (bs:=bs) r;have h:bs.getD n.toNat false=false:=p;rw[h,az rfl] at this;omega
 |succ q J=>
  intro bs I hb w n z p H K k;refine aA.go H λw1 H=>aj (C:=V2) (b_:=pD) (AR (EL n _ _ _ w1 K) ?_);have r:n.toNat<bs.length:=by omega
  have M:(some (⟨a,0,none⟩:AT)).isSome=true/\0<=n/\n<((17:Nat):Int):=⟨rfl,by omega,by omega⟩;refine⟨M,km 1 H rfl r λo H=>?_⟩;have L0:=Lp.init (E:=A3 gs po) hb ⟨by omega,z.2⟩;have N: ∀{cs},Lp (A3 gs po) n bs cs->i_ cs<=q:=λ{cs} h=>by
   have:=h.i_;rw[p,az rfl] at this;omega
  refine⟨λm v w'=>(1<=v.1/\v.1<=17/\(m:Int)=17 - v.1)/\ ∃cs:List Bool,Lp (A3 gs po) n bs cs/\(∀u:Int,1<=u->u<v.1->A3 gs po n u->tv cs u=true)/\At [] w0 w' (Be be a c X cs L),⟨16,λs O=>⟨⟨by decide,by decide,by decide⟩, _,L0,λu h1 h2=>(by dsimp only at h2;omega),H.ext O⟩⟩,?_⟩;clear H;rintro m ⟨v,u⟩ s ⟨⟨D,P,R⟩,cs,f,t,H⟩;dsimp only at D P R t ⊢;refine ab (λi=>?_) (λi=>ak.go H λj H=>k cs j (f.done λy l=>?_) H)
  .have i:v<=16:=by simpa using i
   have S:v.toNat<cs.length:=by rw[f.len];omega
   have T:ay .i64 v 1=v+1:=ao (by omega) (by omega);rw[T];have F: ∀{b:List Bool} {j:A2},Lp (A3 gs po) n bs b->(∀u,0<=u->tv cs u=true->tv b u=true)->(A3 gs po n v->tv b v=true)->At [] w0 j (Be be a c X b L)-> ∀x,Ext j x-> ∃G,G<m/\(1<=v+1/\v+1<=17/\(G:Int)=17 - (v+1))/\ ∃cs:List Bool,Lp (A3 gs po) n bs cs/\(∀u:Int,1<=u->u<v+1->A3 gs po n u->tv cs u=true)/\At [] w0 x (Be be a c X cs L):=by
    intro b j U V W H x Y;refine⟨m - 1,by omega,⟨by omega,by omega,by omega⟩,b,U,λy Z y2 l=>?_,H.ext Y⟩;by_cases e:y=v
    .subst e;exact W l
    .exact V y (by omega) (t y Z (by omega) l)
   have rd2:bP s (ad (ae X.hb) 2) bF (ae X.gb):=by
    rw[aS];exact cK (H.iQ B.hb (by simp)) rfl
   have rd3:bP s (ad (ae X.hb) 3) bF (ae X.pb):=by
    rw[aS];exact cK (H.iQ B.hb (by simp)) rfl
   refine⟨⟨rfl,by omega,by show v<((17:Nat):Int);omega⟩,ag.bj 1 H rfl (ig S) (ag.at 2 H rfl rfl ⟨λ_=>rfl,λ_=>rfl,ag.of _ rd2 ⟨mg gs n v,λ_=>B.glq H.all n v,ag.at 2 H rfl rfl ⟨λ_=>rfl,λ_=>rfl,ag.of _ rd3 ⟨Po.me 4 po n v,λ_=>B.plq H.all n v,?_⟩⟩⟩⟩)⟩;refine ab (λd=>?_) (λd=>F f (λ_ _ h=>h) (λhe=>?_) H)
   .simp only[Dt,Fz,Fm] at d;have ⟨d1,d2⟩:=d;refine ag.at 0 H rfl rfl (J cs (N f) f.len ⟨D,i⟩ d1 H λb w6 hd H=>?_);exact F (f.call d2 hd (by omega)) hd.mono (λ_=>hd.C_) H
   .have he:mg gs n v=true\/Po.me 4 po n v=true:=he;cases Je:tv cs v with
    |true=>rfl
    |false=>
     rw[Je] at d;simp only[Bool.not_false,Bool.true_and,Dl] at d;rcases he with he|he
     .rw[d.1] at he;cases he
     .rw[d.2] at he;cases he
  .have i: ¬ v<=16:=by simpa using i
   have:=qQ l;exact t y this.2.1 (by omega) l
theorem G6 (B:ZF w0 Q X A g gs po) (a b:Int) (f:ai AC 61 [ah (ae X.hb)] w0 (.bool true)):
 aC AC 26 gD [ah (ae X.hb),aa a,aa b] w0 (λx w'=>x=pv gs po a b/\Ext w0 w'):=by
 refine aj (C:=V2) (AR (GQ _ a b w0 _) ?_);have H:=At.start [] w0;refine aH.go H λi n H=>ag.at 0 H rfl rfl ⟨true,λw' h'=>f w' (H.all.trans h'),ab (λd=>ak.go H λj H=>⟨?_,H.all⟩) (λd=>?_)⟩
 .unfold pv;simp only[Bool.not_true,Bool.false_or,Fm,decide_eq_true_eq] at d;symm;rw[In,decide_eq_false_iff_not,In,decide_eq_false_iff_not];by_cases c:1<=a/\a<=16
  .exact .inr (.inl (by omega))
  .exact .inl c
 simp only[Bool.not_true,Bool.false_or,Dl,decide_eq_false_iff_not] at d;have c:1<=a/\a<=16:=by omega
 have hb:1<=b/\b<=16:=by omega
 refine aH.go H λk j H=>aH.go H λbe o H=>aw.all 0 H rfl rfl rfl λl H=>ag.at 0 H rfl rfl ?_;have H:At [] w0 l (Be be k i X (AU 17 false) []):=H;refine Lg B (i_ (AU 17 false)) (AU 17 false) (Da _) (by simp) c ?_ H λnI p hd H=>?_
 .unfold tv;rw[DS,Hr];split<;>rfl
 have m:b.toNat<nI.length:=by rw[hd.len];omega
 refine⟨⟨rfl,by omega,by show b<((17:Nat):Int);omega⟩,ag.bj 1 H rfl (ig m) (ak.go H λq H=>⟨?_,H.all⟩)⟩;have:=hd.iff (b:=b) (by omega) λu v e=>by have:=qQ e;omega
 rw[Bool.eq_iff_iff,wg,this];exact⟨λh=>⟨c,hb,h⟩,λh=>h.2.2⟩
end
section
variable {Q:Sys} {X:HX} {D G:List Nat} {w0 w:A2} {h:HS} {L:List (Nat×List AG)}
theorem BP (H:eH Q X D G w0 w h L) (a b:Int):ai AC 26 [ah (ae X.hb),aa a,aa b] w (.bool (pv h.gr h.po a b)):=by
 have ⟨A,W,H⟩:=H;have S:=H.base;refine ai.of (s:= .el cr) λw' h'=>?_;have S:=S.ext h';exact G6 (A:=A) (g:=h.g) ⟨S.get (i:=0) rfl,S.get (i:=1) rfl,S.get (i:=2) rfl,S.get (i:=3) rfl,W.gl,W.gk,W.pt⟩ a b (my S (X:=X) (A:=A) (g:=h.g) (by simp))
end
end Go.Proofs.YteeflilbnoknnaaGreat
namespace Go.Proofs.YteeflilbnoknnaaGreat.Po
set_option maxRecDepth 100000
open Go.RX
def k0:List PT:=AU 512 zP
theorem Eu {room:Int} (a:1<=room) (h2:room<=32):jq room k0 where
 len:=Df
 lo:=a
 hi:=h2
 inv g i h:=by
  refine .inl ?_;unfold gp k0;rw[DS,Hr];split<;>rfl
theorem Lh (n:Int) (w:A2) (a:Option AT×Int×Unit->A2->Prop):(aL R1 (λ_=>[]) 56 [aa n] w a)=(
 aD (decide (n<1)||decide (n>32)) (ak w (a (none,1,()))) (aH w ⟨iD n k0⟩ 266 λb c=>ak c (a (some ⟨b,0,none⟩,0,())))):=by kernel_rfl
section
variable {D G:List Nat} {w0 w:A2} {L:List (Nat×List AG)}
theorem Q3 (H:aJ D G w0 w L) (n:Int) {K:Option AT×Int×Unit->A2->Prop} (hb:n<1\/n>32-> ∀w1,aJ D G w0 w1 L->K (none,1,()) w1)
 (d:1<=n->n<=32-> ∀bp w1,aJ D G w0 w1 ((bp,iD n k0)::L)->K (some ⟨bp,0,none⟩,0,()) w1):
 aA AC 56 (.bu [bF,aq]) [aa n] w K:=by
 refine aA.go H λw1 H=>aj (C:=R1) (AR (Lh n w1 K) ?_);refine ab (λc=>?_) (λc=>?_)
 .exact ak.go H λa H=>hb (by simp at c;omega) a H
 .refine aH.go H λb a H=>ak.go H λe H=>d (by simp at c;omega) (by simp at c;omega) b e H
end
end Go.Proofs.YteeflilbnoknnaaGreat.Po
namespace Go.Proofs.YteeflilbnoknnaaGreat
set_option maxRecDepth 100000
open Go.RX D
def h0 (n:Nat):HS:={s:=fresh (16*n) n,g:=λ_=>none,gr:=AU 16 zG,po:=Po.k0}
section
variable {D G:List Nat} {w0 w:A2} {L:List (Nat×List AG)}
theorem IP (H:aJ D G w0 w L) (n:Int) {K:Option AT×Int×Unit->A2->Prop} (B:n<4\/n>4096-> ∀w1,aJ D G w0 w1 L->K (none,1,()) w1)
 (E:4<=n->n<=4096-> ∀Q X w1,Q.c=16*n.toNat->eH Q X D G w0 w1 (h0 n.toNat) L->K (some ⟨X.hb,0,none⟩,0,()) w1):
 aA AC 6 (.bu [bF,aq]) [aa n] w K:=by
 refine aA.go H λw1 H=>aj (C:=V0) (AR (IC n w1 K) ?_);refine ab (λc=>ak.go H λq H=>B (by simpa using c) q H) (λc=>?_);have r:4<=n/\n<=4096:=by
  simp only[Dl,decide_eq_false_iff_not] at c;omega
 obtain⟨m,rfl⟩: ∃m:Nat,n=(m:Int):=⟨n.toNat,by omega⟩;have e:dk .i64 16 (m:Int)=((16*m:Nat):Int):=by rw[da (by omega) (by omega)];omega
 rw[e];refine aH.go H λb q H=>?_;refine TI (n:=16*m) H (by omega) λbm bw J H=>⟨rfl,rfl,?_⟩;generalize s:AU (16*m) (0:Int)=W at H;refine aw.c_ 2 H rfl rfl rfl λM H=>?_;refine Ui H (m:Int) (λhb=>by omega) λ_ _ bp bf N H=>⟨rfl,rfl,?_⟩;rw[show((m:Int)).toNat=m from rfl] at H;generalize t:AU m zD=F at H;refine aw.c_ 4 H rfl rfl rfl λO H=>?_;refine TV H 16 (by decide) λgb gr P H=>⟨rfl,rfl,?_⟩;have ⟨u,v⟩: ∃u,u=AU 16 zG:=⟨_,rfl⟩;rw[<-v] at H;refine aw.c_ 6 H rfl rfl rfl λR H=>?_;refine Po.Q3 H 4 (λhb=>by omega) λ_ _ pb S H=>⟨rfl,rfl,?_⟩;have ⟨y,z⟩: ∃y,y=Po.k0:=⟨_,rfl⟩;rw[<-z] at H;refine aw.c_ 7 H rfl rfl rfl λT H=>ak.go H λA H=>?_;refine E r.1 r.2 ⟨bm,bw,bf,bp,16*m,m,[],[]⟩ ⟨b,gb,gr,pb,16,[]⟩ A rfl ⟨λ_=>⟨0,0,0,0,[]⟩,⟨λh=>(by cases h),λh=>(by cases h),rfl,Po.Eu (by decide) (by decide),kf.new 16⟩,SM.of ⟨?_,?_,?_,?_,0,0,?_⟩⟩
 .show 0<(AU (16*m) (0:Int)).length;rw[Df];omega
 .show 0<(AU m zD).length;rw[Df];omega
 .show(AU m zD).length<=4096;rw[Df];omega
 .intro x p;have p:x∈AU (16*m) (0:Int):=p;rw[FB p];decide
 .unfold Sys.L;show aJ D G w0 A ((bm,gi bw (AU (16*m) (0:Int)).length (16*m) 0 0)::(bw,flat eW (AU (16*m) (0:Int))++[])::(bf,flat eD (AU m zD)++[])::(bp,[.slice (ae bf) (AU m zD).length m])::(b,kv _ _ (λ_=>⟨0,0,0,0,[]⟩) λ_=>none)::(gb,g7 gr (AU 16 zG).length 16)::(gr,flat eG (AU 16 zG)++[])::(pb,Po.iD 4 Po.k0)::([]++L));rw[s,t, <-v, <-z,show W.length=16*m by rw[<-s,Df],show F.length=m by rw[<-t,Df]];refine H.perm ?_;have I: ∀(a d f g j k l o:Nat×List AG),([k,l,j,g,o,d,f,a]++L).Perm ([a,d,f,g,j,k,l,o]++L):=λa d f g j k l o=>by
   refine List.Perm.append_right L ?_;exact(show([5,6,4,3,7,1,2,0]:List Nat).Perm [0,1,2,3,4,5,6,7] by decide).map λi=>([a,d,f,g,j,k,l,o]:List (Nat×List AG)).getD i a
  exact I _ _ _ _ _ _ _ _
end
namespace Inv
variable {g:Gh} {s s':WD}
structure gx (g:Gh) (s s':WD):Prop where
 len:s'.1.length=s.1.length/\s'.2.length=s.2.length
 ws: ∀{f o x k:Int} {l:Nat},g f=some (o,l,x)->0<=k->k<16->eY s'.1 (16*f+k)=eY s.1 (16*f+k)
 tb: ∀{n:Nat} {d:DT},s.2[n]? =some d->d.1=3->s'.2[n]? =some d
 bt: ∀{n:Nat} {d:DT},s'.2[n]? =some d->d.1=3->s.2[n]? =some d
 fz: ∀d∈s'.2,d.1=0->d=zD
theorem gx.Xc (B:gx g s s') {f o x k:Int} {l:Nat} (h:g f=some (o,l,x)) (h0:0<=k) (a:k<16):aO s'.1 (16*f+k)=aO s.1 (16*f+k):=by
 unfold aO;rw[B.ws h h0 a]
theorem beside (I:Inv g s) (B:gx g s s'):Inv g s' where
 len:=by rw[B.len.1,B.len.2];exact I.len
 le:=by rw[B.len.2];exact I.le
 fz:=B.fz
 kd:=λ{f o l x} h=>by
  have ⟨a,b,c,d⟩:=I.kd h;rw[B.len.2];exact⟨a,b,B.tb c rfl,d⟩
 inj:=I.inj
 oW:=λ{f o l x i} h h0 e j=>by
  rw[B.Xc h h0 e] at j ⊢;exact I.oW h h0 e j
 leaf:=λ{f o l x i} h h0 e=>by
  rw[B.Xc h h0 e];exact I.leaf h h0 e
 E9:=λ{f o l x} h p=>by
  have ⟨f',e,h2⟩:=I.E9 h p;refine⟨f',e,?_⟩;rw[B.Xc e (by omega) (by omega)];exact h2
 wf:=λ{f o l x i} h h0 e k=>by
  rw[B.Xc h h0 e] at k;rw[B.ws h h0 e];exact I.wf h h0 e k
 tb:=λ{n d} h m=>I.tb (B.bt h m) m
theorem G7 (B:gx g s s') {o p f:Int} {j:Nat} (h:dP g s o p f j):dP g s' o p f j:=
 ⟨h.1,by rw[B.Xc h.1 (fC p j).1 (fC p j).2];exact h.2⟩
theorem yh {r p:Int} (a: ¬ (0<=p/\p<65536)):bC s r false p=(0,0,2,()):=by
 unfold bC;rw[ar (by decide),az (by omega)]
theorem fl (I:Inv g s) (B:gx g s s') {o r:Int} (b:g r=some (o,3,0)) (p:Int):bC s' r false p=bC s r false p:=by
 by_cases a:0<=p/\p<65536
 .have ⟨f,j, _,c⟩:=I.kG b a;rw[I.gv b a c,(I.beside B).gv b a (G7 B c),B.Xc c.1 (fC p j).1 (fC p j).2]
 .rw[yh a,yh a]
theorem n_ (B:gx g s s') (h:A0 g s):A0 g s':=λf o l x i a h0 b c d=>by
 rw[B.Xc a h0 b] at c d;exact h a h0 b c d
theorem YP (s:WD) (r:Int) {p:Int} (a:0<=p/\p<65536):(bC s r false p).2.2.1=0\/bC s r false p=(0,0,4,()):=by
 unfold bC;rw[ar (by decide),ar (by omega)];split
 .exact .inl rfl
 .exact .inr rfl
theorem acm (I:Inv g s) (nl:A0 g s) {o r p:Int} (b:g r=some (o,3,0)) (c:0<=p/\p<65536) (h:(bC s r false p).2.2.1=0): ∃f,dP g s o p f 0/\(aO s.1 (16*f+px 0 p % 16)).1=true/\(cM s.1 r p).2.1=0:=by
 have ⟨f,j, _,a⟩:=I.kG b c;rw[I.gv b c a] at h;have d:=tU h;have e:=nl a.1 (fC p j).1 (fC p j).2 d a.2;subst e;refine⟨f,a,d,?_⟩;rw[(I.iK b c a).1];rfl
theorem acn (I:Inv g s) (nl:A0 g s) {o r p:Int} (a:g r=some (o,3,0)) (b:0<=p/\p<65536) (h:(bC s r false p).2.2.1=0):kB s o r p=0:=by
 have ⟨_, _, _,e⟩:=I.acm nl a b h;unfold kB;rw[az e]
theorem XH (I:Inv g s) (nl:A0 g s) {o r p:Int} (a:g r=some (o,3,0)) (b:0<=p/\p<65536) (h:(bC s r false p).2.2.1=0):rK s o r false p=0:=by
 unfold rK;rw[az h];exact I.acn nl a b h
theorem F2 (I:Inv g s) {o r p:Int} (c:g r=some (o,3,0)) (h:(bC s r false p).2.2.1=0):(0<=p/\p<65536)/\0<=(bC s r false p).1:=by
 have a:0<=p/\p<65536:=by
  by_cases a:0<=p/\p<65536
  .exact a
  .rw[yh a] at h;exact absurd h (by decide)
 refine⟨a,?_⟩;have ⟨f,j, _,i⟩:=I.kG c a;rw[I.gv c a i] at h ⊢;have b:=tU h;have d:=oO s.1 (16*f+px j p % 16);unfold rL;rw[az b];generalize aO s.1 (16*f+px j p % 16)=e at*
 have ⟨ep,er,el,ef,k⟩:=e;dsimp only at b d;subst b;have ⟨b1,b2,b3,l,m⟩:=oH.1 d;dsimp only;split<;>omega
end Inv
set_option maxRecDepth 100000
open Go.RX D
def ma {α:Type} (F:Nat->α) (v:Nat) (y:α):Nat->α:=λi=>if i=v then y else F i
theorem lZ {α:Type} (F:Nat->α) (v:Nat) (y:α):ma F v y v=y:=az rfl
theorem oI {α:Type} {F:Nat->α} {v i:Nat} (h:i≠v) (y:α):ma F v y i=F i:=ar h
theorem CO (F:Nat->Nat) (v y:Nat): ∀n,((AE n).map (ma F v y)).sum+(if v<n then F v else 0)=((AE n).map F).sum+(if v<n then y else 0)
 |0=>rfl
 |n+1=>by
  have a:=CO F v y n;rw[List.range_succ,Hz,Hz,I1,I1];simp only[FS,List.map_nil,List.sum_cons,List.sum_nil];by_cases h:v=n
  .subst h;rw[lZ];rw[ar (Nat.lt_irrefl _),ar (Nat.lt_irrefl _)] at a;rw[az (IR _),az (IR _)];omega
  .rw[oI (λe=>h e.symm)];by_cases h2:v<n
   .rw[az h2,az h2] at a;rw[az (by omega),az (by omega)];omega
   .rw[ar h2,ar h2] at a;rw[ar (by omega),ar (by omega)];omega
def ou (tk:Nat->List TK) (q:TK->Bool):Nat:=((AE 17).map λi=>(tk i).countP q).sum
theorem zO (tk:Nat->List TK) (q:TK->Bool) {v:Nat} (hv:v<17) (y:List TK):ou (ma tk v y) q+(tk v).countP q=ou tk q+y.countP q:=by
 have h:=CO (λi=>(tk i).countP q) v (y.countP q) 17;rw[az hv,az hv] at h;have e:(λi=>(ma tk v y i).countP q)=ma (λi=>(tk i).countP q) v (y.countP q):=by
  funext i;unfold ma;split<;>rfl
 unfold ou;rw[e];exact h
theorem uz {tk:Nat->List TK} {q:TK->Bool} (h:0<ou tk q): ∃i t,i<17/\t∈tk i/\q t=true:=by
 unfold ou at h;have: ∀l:List Nat,0<(l.map λi=>(tk i).countP q).sum-> ∃i t,i∈l/\t∈tk i/\q t=true:=by
  intro l
  induction l with
  |nil=>intro h;simp at h
  |cons i l b=>
   intro h;rw[FS,List.sum_cons] at h;by_cases c:0<(tk i).countP q
   .have ⟨t,a,d⟩:=I8.1 c;exact⟨i,t,AZ,a,d⟩
   .have ⟨j,t,e,a⟩:=b (by omega);exact⟨j,t,B1 _ e,a⟩
 have ⟨i,t,hi,a⟩:=this _ h;exact⟨i,t,DB.1 hi,a⟩
theorem BQ {tk:Nat->List TK} {q:TK->Bool} (h: ∀i t,t∈tk i->q t=false):ou tk q=0:=by
 rcases Do (ou tk q) with e|e
 .exact e
 .have ⟨i,t, _,b,a⟩:=uz e;rw[h i t b] at a;cases a
theorem m5 {tk:Nat->List TK} {q:TK->Bool} {i:Nat} {t:TK} (hi:i<17) (a:t∈tk i) (b:q t=true):0<ou tk q:=by
 have h:=zO tk q hi [];have h2:0<(tk i).countP q:=I8.2 ⟨t,a,b⟩;simp only[List.countP_nil] at h;omega
def dH (tk:Nat->List TK) (f:Int):Nat:=ou tk λt=>t.2.2==f
def nS (tk:Nat->List TK) (a:Int):Nat:=ou tk λt=>t.2.1==a
abbrev HL:Type:=Nat->Int->Option Int
def ov (fr:HL) (v:Nat) (p:Int) (y:Option Int):HL:=λi q=>if i=v/\q=p then y else fr i q
theorem gO (fr:HL) (v:Nat) (p:Int) (y:Option Int):ov fr v p y v p=y:=az ⟨rfl,rfl⟩
theorem bQ {fr:HL} {v i:Nat} {p q:Int} (h: ¬ (i=v/\q=p)) (y:Option Int):ov fr v p y i q=fr i q:=ar h
def SP (gr:List GT) (fr:HL) (tk:Nat->List TK) (a:Int) (i o:Nat) (f:Int):Prop:=
 ∃k x,jF gr a=some k/\gr[k]? =some x/\x.1=(o:Int)/\x.2.2.1=(i:Int)/\fr o x.2.1=some f/\bU (tk o) x.2.1=none
structure HC (fr:HL) (tk:Nat->List TK) (ds:List DT) (gr:List GT):Prop where
 jI: ∀{i p f},fr i p=some f->1<=i/\i<=16/\0<=p/\p<65536
 kd: ∀{n:Nat} {d:DT},ds[n]? =some d->(d.1=0\/d.1=3\/d.1=4\/d.1=5)/\d.2.2.2.1=0/\0<=d.2.1/\d.2.1<=16
 Sq: ∀{n:Nat} {d:DT},ds[n]? =some d->d.1=4-> ∃(i:Nat) (p:Int),(i:Int)=d.2.1/\fr i p=some (n:Int)/\bU (tk i) p=none
 own: ∀{i p f},fr i p=some f->bU (tk i) p=none-> ∃(n:Nat) (d:DT),(n:Int)=f/\ds[n]? =some d/\d.1=4/\d.2.1=(i:Int)
 A4: ∀{i p a f},bU (tk i) p=some (a,f)->fr i p=some f/\ ∃o:Nat,o≠i/\SP gr fr tk a i o f
 nd: ∀i,((tk i).map (·.1)).Nodup
 inj: ∀{i p p' f},fr i p=some f->fr i p'=some f->bU (tk i) p=none->bU (tk i) p'=none->p=p'
 refs: ∀{n:Nat} {d:DT},ds[n]? =some d->d.2.2.1=(dH tk (n:Int):Int)
 vE: ∀{n:Nat} {x:GT},gr[n]? =some x->x.2.2.2.2.1=(nS tk (n:Int):Int)
 gl:gr.length=16
 gk:kf gr
theorem gA {gr:List GT} {a:Int} {k:Nat}:jF gr a=some k<->(k:Int)=a/\k<gr.length/\gr.getD k zG≠zG:=by
 unfold jF;constructor
 .intro h;split at h
  .rename_i c;cases h;exact⟨by omega,by omega,c.2.2⟩
  .cases h
 .rintro⟨rfl,b,h2⟩;rw[az ⟨by omega,by omega,h2⟩];rfl
theorem getD_some {gr:List GT} {k:Nat} {x:GT} (h:gr[k]? =some x):gr.getD k zG=x:=by
 rw[DS,h];rfl
namespace HC
variable {fr:HL} {tk:Nat->List TK} {ds:List DT} {gr:List GT}
theorem Jn (H:HC fr tk ds gr) {i:Nat} {t:TK} (h:t∈tk i):bU (tk i) t.1=some t.2:=(iO (a:=t.2.1) (b:=t.2.2) (H.nd i)).2 h
theorem Jo (H:HC fr tk ds gr) {i:Nat} {p a f:Int} (h:bU (tk i) p=some (a,f)):(p,a,f)∈tk i:=(iO (H.nd i)).1 h
theorem aas (H:HC fr tk ds gr) {i:Nat} {p a f:Int} (h:bU (tk i) p=some (a,f)): ∃(n:Nat) (d:DT) (o:Nat),(n:Int)=f/\ds[n]? =some d/\d.1=4/\d.2.1=(o:Int)/\o≠i/\SP gr fr tk a i o f:=by
 have ⟨_,o,e,g⟩:=H.A4 h;have ⟨k,x,j,h2,l,m,b,c⟩:=g;have ⟨n,d,q,r,s,t⟩:=H.own b c;exact⟨n,d,o,q,r,s,t,e,k,x,j,h2,l,m,b,c⟩
theorem at4 (H:HC fr tk ds gr) {i:Nat} {p f:Int} (h:fr i p=some f): ∃(n:Nat) (d:DT),(n:Int)=f/\ds[n]? =some d/\d.1=4:=by
 cases b:bU (tk i) p with
 |none=>
  have ⟨n,d,c,h2,e, _⟩:=H.own h b;exact⟨n,d,c,h2,e⟩
 |some y=>
  have ⟨a,f'⟩:=y;have ⟨n,d,o,c,h2,e, _⟩:=H.aas b;have:=(H.A4 b).1;rw[h] at this;cases this;exact⟨n,d,c,h2,e⟩
theorem H_ (H:HC fr tk ds gr) {n:Nat} (h:0<dH tk (n:Int)): ∃d,ds[n]? =some d/\d.1=4:=by
 have ⟨i,t, _,a,b⟩:=uz h;have ⟨m,d,o,c,h2,f, _⟩:=H.aas (H.Jn a);have g:t.2.2=(n:Int):=by simpa using b
 have e:m=n:=DC (c.trans g);subst e;exact⟨d,h2,f⟩
theorem F3 (H:HC fr tk ds gr) {g:List DT} (k: ∀{n:Nat} {d:DT},ds[n]? =some d->d.1=4->g[n]? =some d) (j: ∀{n:Nat} {d:DT},g[n]? =some d->ds[n]? =some d\/((d.1=0\/d.1=3\/d.1=5)/\d.2.2=(0,0,())/\0<=d.2.1/\d.2.1<=16)):HC fr tk g gr:=by
 have l: ∀{n:Nat} {d:DT},g[n]? =some d->(d.1=0\/d.1=3\/d.1=5)->dH tk (n:Int)=0:=λ{n d} h h2=>by
  rcases Do (dH tk (n:Int)) with e|e
  .exact e
  .have ⟨d',b,c⟩:=H.H_ e;have:=k b c;rw[h] at this;cases this;omega
 refine⟨H.jI,λ{n d} h=>?_,λ{n d} h c=>?_,λ{i p f} h m=>?_,H.A4,H.nd,H.inj,λ{n d} h=>?_,H.vE,H.gl,H.gk⟩
 .rcases j h with a|⟨a,h2,b⟩
  .exact H.kd a
  .exact⟨by omega,by rw[h2],b⟩
 .rcases j h with a|⟨a,h2⟩
  .exact H.Sq a c
  .omega
 .have ⟨n,d,a,h2,b,c⟩:=H.own h m;exact⟨n,d,a,k h2 b,b,c⟩
 .rcases j h with a|⟨a,h2, _⟩
  .exact H.refs a
  .rw[l h a,h2];rfl
theorem Oi (H:HC fr tk ds gr) {ki:List GT} (e:ki.length=gr.length) (r:kf ki) (s: ∀{n:Nat} {x y:GT},gr[n]? =some x->ki[n]? =some y->y.2.2.2.2.1=x.2.2.2.2.1) (g: ∀{n:Nat} {x:GT},gr[n]? =some x->x.2.2.2.2.1>0->ki[n]? =some x):HC fr tk ds ki:=by
 refine⟨H.jI,H.kd,H.Sq,H.own,λ{i p a f} h=>?_,H.nd,H.inj,H.refs,λ{n y} h=>?_,e.trans H.gl,r⟩
 .have ⟨d,o,h2,k,x,j,b,u⟩:=H.A4 h;refine⟨d,o,h2,k,x,?_,?_,u⟩
  .have ⟨c,z,l⟩:=gA.1 j;refine gA.2 ⟨c,by omega,?_⟩;have v:x.2.2.2.2.1>0:=by
    rw[H.vE b];have:=m5 (q:=λt=>t.2.1==(k:Int)) (by have:=H.jI d;omega:i<17) (H.Jo h) (by simp[c]);unfold nS;omega
   rw[getD_some (g b v)];rw[getD_some b] at l;exact l
  .refine g b ?_;have ⟨c, _⟩:=gA.1 j;rw[H.vE b];have:=m5 (q:=λt=>t.2.1==(k:Int)) (by have:=H.jI d;omega:i<17) (H.Jo h) (by simp[c]);unfold nS;omega
 .have w:n<gr.length:=by rw[<-e];exact(B4.1 h).1
  have m:gr[n]? =some gr[n]:=Du w;rw[s m h];exact H.vE m
end HC
set_option maxRecDepth 100000
open Go.RX D
theorem oa (t:TK) (l:List TK) (p:Int):bU (t::l) p=if t.1=p then some t.2 else bU l p:=by grind[bU]
theorem BR {l l':List TK} (h:l.Perm l') (nd:(l.map (·.1)).Nodup) (p:Int):bU l p=bU l' p:=by
 grind[iO,kL]
theorem Oj {t:TK} {l:List TK} (a:bU l t.1=none) (nd:(l.map (·.1)).Nodup):((l_ t l).map (·.1)).Nodup:=by
 refine((lY t l).map _).nodup_iff.2 (H7.2 ⟨λb=>?_,nd⟩);have ⟨x,c,e⟩:=Ct.1 b;exact kL.1 a x c e
theorem Q4 {t:TK} {l:List TK} (a:bU l t.1=none) (nd:(l.map (·.1)).Nodup) (p:Int):bU (l_ t l) p=if t.1=p then some t.2 else bU l p:=by
 rw[BR (lY t l) (Oj a nd),oa]
theorem Li (l:List TK) (b p:Int):bU (l.filter λt=> !(t.1==b)) p=if p=b then none else bU l p:=by
 induction l with
 |nil=>unfold bU;simp
 |cons t=>
  rw[E4];by_cases t.1=b
  .rw[oa]
   grind
  .rw[az (by simpa),oa,oa]
   grind
theorem BS {l:List TK} {b:Int} {x:Int×Int} (nd:(l.map (·.1)).Nodup) (h:bU l b=some x):l.Perm ((b,x)::l.filter λt=> !(t.1==b)):=by
 induction l with
 |nil=>unfold bU at h;simp at h
 |cons t l c=>
  rw[oa] at h;rw[E4];by_cases e:t.1=b
  .rw[az e] at h;cases h;rw[ar (by simp[e])];have a:l.filter (λt=> !(t.1==b))=l:=Fe.2 (by grind);rw[a, <-e]
  grind
theorem UR (q:TK->Bool) (t:TK) (l:List TK):(l_ t l).countP q=l.countP q+(if q t=true then 1 else 0):=by
 rw[(lY t l).countP_eq,I_]
theorem Q5 {l:List TK} {b:Int} {x:Int×Int} (nd:(l.map (·.1)).Nodup) (h:bU l b=some x) (q:TK->Bool):l.countP q=(l.filter λt=> !(t.1==b)).countP q+(if q (b,x)=true then 1 else 0):=by
 rw[(BS nd h).countP_eq,I_]
theorem US {l:List TK} (b:Int) (nd:(l.map (·.1)).Nodup):((l.filter λt=> !(t.1==b)).map (·.1)).Nodup:=by grind
theorem CP {gr:List GT} {k j:Nat} {x y:GT} {a:Int} (c:gr[k]? =some x) (d:y≠zG) (h:jF gr a=some j):jF (gr.set k y) a=some j:=by
 obtain⟨b⟩:=gA.1 h;refine gA.2 ⟨b,?_⟩
 grind
theorem yi {gr:List GT} (a:kf gr) {k:Nat} {x:GT} (b:gr[k]? =some x) (c:x≠zG) (n:Int):fM x n≠zG:=λe=>by
 rcases(a x (by grind)).1
 .grind
 .have:=congrArg (·.1) e;have:x.1=0:=this;omega
namespace HC
variable {fr:HL} {tk:Nat->List TK} {ds:List DT} {gr:List GT}
theorem S7 (H:HC fr tk ds gr) {i:Nat} {p:Int} (h:fr i p=none):bU (tk i) p=none:=by
 cases a:bU _ p with
 |none=>rfl
 |some=>
  have:=(H.A4 a).1
  grind
theorem F4 (H:HC fr tk ds gr) {v n:Nat} {a:Int} {d0:DT} (hv:1<=v/\v<=16) (F:0<=a/\a<65536) (u:ds[n]? =some d0) (h0:d0.1=0) (w:fr v a=none):
 HC (ov fr v a (some (n:Int))) tk (ds.set n (4,(v:Int),0,0,())) gr:=by
 have A:n<ds.length:=(B4.1 u).1;have r: ∀{d},ds[n]? =some d->d.1=4->False:=λ{d} h l=>by rw[u] at h;cases h;omega
 have G:dH tk (n:Int)=0:=by
  rcases Do (dH tk (n:Int)) with e|e
  .exact e
  .have ⟨d,g,h2⟩:=H.H_ e;exact(r g h2).elim
 have s: ∀{i p f},fr i p=some f-> ¬ (i=v/\p=a):=λ{i p f} h e=>by rw[e.1,e.2,w] at h;cases h
 have y: ∀{i p},fr i p=some (n:Int)->False:=λ{i p} h=>by
  have ⟨m,d,g,h2,j⟩:=H.at4 h;have:m=n:=DC g;subst this;exact r h2 j
 refine⟨λ{i p f} h=>?_,λ{m d} h=>?_,λ{m d} h l=>?_,λ{i p f} h t=>?_,λ{i p b f} h=>?_,H.nd,λ{i p p' f} h h' t B=>?_,λ{m d} h=>?_,H.vE,H.gl,H.gk⟩
 .by_cases e:i=v/\p=a
  grind
  .rw[bQ e] at h;exact H.jI h
 .by_cases e:n=m
  grind
  .rw[B3 e] at h;exact H.kd h
 .by_cases e:n=m
  .subst e;rw[C7 A] at h;cases h;exact⟨v,a,rfl,gO _ _ _ _,H.S7 w⟩
  .rw[B3 e] at h;have ⟨i,p,g,h2,j⟩:=H.Sq h l;exact⟨i,p,g,by rw[bQ (s h2)];exact h2,j⟩
 .by_cases e:i=v/\p=a
  .obtain⟨rfl,rfl⟩:=e;rw[gO] at h;grind
  .rw[bQ e] at h;have ⟨m,d,g,h2,j,l⟩:=H.own h t;refine⟨m,d,g,?_,j,l⟩;rw[B3 (λe=>by subst e;exact r h2 j)];exact h2
 .have ⟨g,o,h2,k,x,j,l,C,D,z,E⟩:=H.A4 h;exact⟨by rw[bQ (s g)];exact g,o,h2,k,x,j,l,C,D,by rw[bQ (s z)];exact z,E⟩
 .by_cases e:i=v/\p=a
  .obtain⟨rfl,rfl⟩:=e;rw[gO] at h;cases h;by_cases q:p'=p
   .exact q.symm
   .rw[bQ (λc=>q c.2)] at h';exact(y h').elim
  .rw[bQ e] at h;by_cases q:i=v/\p'=a
   .obtain⟨rfl,rfl⟩:=q;rw[gO] at h';cases h';exact(y h).elim
   .rw[bQ q] at h';exact H.inj h h' t B
 .by_cases e:n=m
  grind
  .rw[B3 e] at h;exact H.refs h
theorem CR (H:HC fr tk ds gr) {v n:Nat} {a o:Int} (K:0<=o/\o<=16) (y:fr v a=some (n:Int)) (u:bU (tk v) a=none) (B:dH tk (n:Int)=0):
 HC (ov fr v a none) tk (ds.set n (5,o,0,0,())) gr:=by
 have ⟨g,d0,w,z,L,C⟩:=H.own y u;have w:g=n:=DC w;subst w;have M:g<ds.length:=(B4.1 z).1;have N: ∀{i p b f},bU (tk i) p=some (b,f)->f≠(g:Int):=λ{i p b f} h e=>by
  have hd:=H.jI (H.A4 h).1;have:=m5 (q:=λt=>t.2.2==(g:Int)) (by omega:i<17) (H.Jo h) (by simp[e]);unfold dH at B;omega
 refine⟨λ{i p f} h=>?_,λ{m d} h=>?_,λ{m d} h k4=>?_,λ{i p f} h s=>?_,λ{i p b f} h=>?_,H.nd,λ{i p p' f} h h' s D=>?_,λ{m d} h=>?_,H.vE,H.gl,H.gk⟩
 .by_cases e:i=v/\p=a
  .obtain⟨rfl,rfl⟩:=e;rw[gO] at h;cases h
  .rw[bQ e] at h;exact H.jI h
 .by_cases e:g=m
  grind
  .rw[B3 e] at h;exact H.kd h
 .by_cases e:g=m
  grind
  .rw[B3 e] at h;have ⟨i,p,j,h2,l⟩:=H.Sq h k4;refine⟨i,p,j,?_,l⟩;rw[bQ (λc=>?_)]
   .exact h2
   grind
 .by_cases e:i=v/\p=a
  .obtain⟨rfl,rfl⟩:=e;rw[gO] at h;cases h
  .rw[bQ e] at h;have ⟨m,d,j,h2,l,r⟩:=H.own h s;refine⟨m,d,j,?_,l,r⟩;by_cases E:g=m
   .subst E;rw[z] at h2;cases h2;rw[C] at r;have ev:v=i:=DC r;subst ev;rw[<-j] at h;exact absurd ⟨rfl,H.inj h y s u⟩ e
   .grind
 .have ⟨j,o',h2,k,x,l,r,F,G,I,J⟩:=H.A4 h;refine⟨?_,o',h2,k,x,l,r,F,G,?_,J⟩
  .rw[bQ (λc=>?_)]
   .exact j
   .rw[c.1,c.2,u] at h;cases h
  .rw[bQ (λc=>?_)]
   .exact I
   grind
 .by_cases e:i=v/\p=a
  .obtain⟨rfl,rfl⟩:=e;rw[gO] at h;cases h
  .rw[bQ e] at h;by_cases A:i=v/\p'=a
   .obtain⟨rfl,rfl⟩:=A;rw[gO] at h';cases h'
   .rw[bQ A] at h';exact H.inj h h' s D
 .by_cases e:g=m
  grind
  .rw[B3 e] at h;exact H.refs h
end HC
set_option maxRecDepth 100000
open Go.RX D
namespace HC
variable {fr:HL} {tk:Nat->List TK} {ds:List DT} {gr:List GT}
theorem take (H:HC fr tk ds gr) {v o n k:Nat} {b:Int} {x:GT} {d0:DT} (hb:0<=b/\b<65536) (K:fr v b=none) (T:ds[n]? =some d0) (r:gr[k]? =some x) (C:x≠zG) (L:x.1=(o:Int)) (M:x.2.2.1=(v:Int)) (U:fr o x.2.1=some (n:Int)) (V:bU (tk o) x.2.1=none)
 (W:kf (gr.set k (fM x 1))):
 HC (ov fr v b (some (n:Int))) (ma tk v (l_ (b,(k:Int),(n:Int)) (tk v))) (ds.set n (d0.1,d0.2.1,d0.2.2.1+1,d0.2.2.2.1,())) (gr.set k (fM x 1)):=by
 have AY:n<ds.length:=(B4.1 T).1;have D:k<gr.length:=(B4.1 r).1;have ⟨N,ro,F⟩:(1<=v/\v<=16)/\(1<=o/\o<=16)/\o≠v:=by
  rcases(H.gk x (Ch r)).1 with h|⟨g,h2,l, _⟩
  .exact absurd h C
  .rw[L] at g l;rw[M] at h2 l;exact⟨by omega,by omega,λe=>l (by rw[e])⟩
 have A: ∀{i p f},fr i p=some f-> ¬ (i=v/\p=b):=λ{i p f} h e=>by rw[e.1,e.2,K] at h;cases h
 have O:bU (tk v) b=none:=H.S7 K;have s: ∀i p,bU (ma tk v (l_ (b,(k:Int),(n:Int)) (tk v)) i) p=if i=v/\p=b then some ((k:Int),(n:Int)) else bU (tk i) p:=λi p=>by
  by_cases e:i=v
  .subst e;rw[lZ,Q4 O (H.nd _)];by_cases w:p=b
   .rw[az w.symm,az ⟨rfl,w⟩]
   .rw[ar (λh=>w h.symm),ar (λh=>w h.2)]
  .rw[oI e,ar (λh=>e h.1)]
 have X: ∀{m:Nat} {d:DT},ds[m]? =some d-> ∃d':DT,(ds.set n (d0.1,d0.2.1,d0.2.2.1+1,d0.2.2.2.1,()))[m]? =some d'/\d'.1=d.1/\d'.2.1=d.2.1:=λ{m d} h=>by
  grind
 have G: ∀{m:Nat} {d':DT},(ds.set n (d0.1,d0.2.1,d0.2.2.1+1,d0.2.2.2.1,()))[m]? =some d'-> ∃d:DT,ds[m]? =some d/\d'.1=d.1/\d'.2.1=d.2.1/\d'.2.2.2.1=d.2.2.2.1/\d'.2.2.1=d.2.2.1+(if m=n then 1 else 0):=λ{m d'} h=>by
  grind
 have Y: ∀{a:Int} {i o':Nat} {f:Int},SP gr fr tk a i o' f->SP (gr.set k (fM x 1)) (ov fr v b (some (n:Int))) (ma tk v (l_ (b,(k:Int),(n:Int)) (tk v))) a i o' f:=by
  rintro a i o' f ⟨j,y,g,h2,l,z,t,Z⟩;have P:=CP r (yi H.gk r C 1) g;have Q:bU (ma tk v (l_ (b,(k:Int),(n:Int)) (tk v)) o') y.2.1=none:=by
   rw[s,ar (A t)];exact Z
  by_cases e:k=j
  .subst e;rw[r] at h2;cases h2;exact⟨k,fM x 1,P,C7 D,l,z,by show ov fr v b _ o' x.2.1= _;rw[bQ (A t)];exact t,Q⟩
  .exact⟨j,y,P,by rw[B3 e];exact h2,l,z,by rw[bQ (A t)];exact t,Q⟩
 have R: ∀q:TK->Bool,ou (ma tk v (l_ (b,(k:Int),(n:Int)) (tk v))) q=ou tk q+(if q (b,(k:Int),(n:Int))=true then 1 else 0):=λq=>by
  have g:=zO tk q (by omega:v<17) (l_ (b,(k:Int),(n:Int)) (tk v));rw[UR] at g;omega
 refine⟨λ{i p f} h=>?_,λ{m d} h=>?_,λ{m d} h z=>?_,λ{i p f} h u=>?_,λ{i p c f} h=>?_,λi=>?_,λ{i p p' f} h h' u E=>?_,λ{m d} h=>?_,λ{m y} h=>?_,by rw[Cs];exact H.gl,W⟩
 .by_cases e:i=v/\p=b
  .obtain⟨rfl,rfl⟩:=e;exact⟨N.1,N.2,hb⟩
  .rw[bQ e] at h;exact H.jI h
 .have ⟨d',g,h2,l,t, _⟩:=G h;rw[h2,t,l];exact H.kd g
 .have ⟨d',g,h2,l, _⟩:=G h;have ⟨i,p,I,B,J⟩:=H.Sq g (by rw[<-h2];exact z);exact⟨i,p,by rw[l];exact I,by rw[bQ (A B)];exact B,by rw[s,ar (A B)];exact J⟩
 .by_cases e:i=v/\p=b
  .rw[s,az e] at u;cases u
  .rw[bQ e] at h;rw[s,ar e] at u;have ⟨m,d,g,h2,l,z⟩:=H.own h u;have ⟨d',I,B,J⟩:=X h2;exact⟨m,d',g,I,by rw[B];exact l,by rw[J];exact z⟩
 .rw[s] at h;by_cases e:i=v/\p=b
  .rw[az e] at h;cases h;obtain⟨rfl,rfl⟩:=e;refine⟨gO _ _ _ _,o,F,k,fM x 1,?_,C7 D,L,M,?_,?_⟩
   .exact CP r (yi H.gk r C 1) (gA.2 ⟨rfl,D,by rw[getD_some r];exact C⟩)
   .show ov fr i p _ o x.2.1= _;rw[bQ (λc=>F c.1)];exact U
   .show bU (ma tk i _ o) x.2.1=none;rw[oI F];exact V
  .rw[ar e] at h;have ⟨g,o',h2,l⟩:=H.A4 h;exact⟨by rw[bQ e];exact g,o',h2,Y l⟩
 .by_cases e:i=v
  .subst e;rw[lZ];exact Oj O (H.nd _)
  .rw[oI e];exact H.nd i
 .have e: ¬ (i=v/\p=b):=λc=>by rw[s,az c] at u;cases u
  have S: ¬ (i=v/\p'=b):=λc=>by rw[s,az c] at E;cases E
  rw[s,ar e] at u;rw[s,ar S] at E;rw[bQ e] at h;rw[bQ S] at h';exact H.inj h h' u E
 .have ⟨d',g, _, _, _,t⟩:=G h;rw[t,H.refs g];unfold dH;rw[R]
  grind
 .have w:nS (ma tk v (l_ (b,(k:Int),(n:Int)) (tk v))) (m:Int)=nS tk (m:Int)+(if k=m then 1 else 0):=by
   unfold nS;rw[R]
   grind
  rw[w];by_cases e:k=m
  .subst e;rw[C7 D] at h;cases h;rw[az rfl];have:=H.vE r;show x.2.2.2.2.1+1= _;omega
  .rw[B3 e] at h;rw[ar e];have:=H.vE h;omega
theorem FF (H:HC fr tk ds gr) {v n k:Nat} {b:Int} {x:GT} {d0:DT} (D:bU (tk v) b=some ((k:Int),(n:Int))) (E:ds[n]? =some d0) (w:gr[k]? =some x) (Q:x≠zG)
 (R:kf (gr.set k (fM x (-1)))):
 HC (ov fr v b none) (ma tk v ((tk v).filter λt=> !(t.1==b))) (ds.set n (d0.1,d0.2.1,d0.2.2.1 - 1,d0.2.2.2.1,())) (gr.set k (fM x (-1))):=by
 have J:n<ds.length:=(B4.1 E).1;have K:k<gr.length:=(B4.1 w).1;have hd:=H.jI (H.A4 D).1;have r: ∀i p,bU (ma tk v ((tk v).filter λt=> !(t.1==b)) i) p=if i=v/\p=b then none else bU (tk i) p:=λi p=>by
  by_cases e:i=v
  .subst e;rw[lZ,Li];by_cases o:p=b
   .rw[az o,az ⟨rfl,o⟩]
   .rw[ar o,ar (λh=>o h.2)]
  .rw[oI e,ar (λh=>e h.1)]
 have z: ∀{i p},bU (tk i) p=none-> ¬ (i=v/\p=b):=λ{i p} h e=>by rw[e.1,e.2,D] at h;cases h
 have S: ∀{m:Nat} {d:DT},ds[m]? =some d-> ∃d':DT,(ds.set n (d0.1,d0.2.1,d0.2.2.1 - 1,d0.2.2.2.1,()))[m]? =some d'/\d'.1=d.1/\d'.2.1=d.2.1:=λ{m d} h=>by
  by_cases e:n=m
  .subst e;rw[E] at h;cases h;exact⟨_,C7 J,rfl,rfl⟩
  .exact⟨d,by rw[B3 e];exact h,rfl,rfl⟩
 have F: ∀{m:Nat} {d':DT},(ds.set n (d0.1,d0.2.1,d0.2.2.1 - 1,d0.2.2.2.1,()))[m]? =some d'-> ∃d:DT,ds[m]? =some d/\d'.1=d.1/\d'.2.1=d.2.1/\d'.2.2.2.1=d.2.2.2.1/\d'.2.2.1=d.2.2.1 - (if m=n then 1 else 0):=λ{m d'} h=>by
  by_cases e:n=m
  .subst e;rw[C7 J] at h;cases h;exact⟨d0,E,rfl,rfl,rfl,by rw[az rfl]⟩
  .rw[B3 e] at h;exact⟨d',h,rfl,rfl,rfl,by rw[ar (λc=>e c.symm)];omega⟩
 have T: ∀{a:Int} {i o':Nat} {f:Int},SP gr fr tk a i o' f->SP (gr.set k (fM x (-1))) (ov fr v b none) (ma tk v ((tk v).filter λt=> !(t.1==b))) a i o' f:=by
  rintro a i o' f ⟨j,y,g,h2,l,s,u,C⟩;have L:=CP w (yi H.gk w Q (-1)) g;have M:bU (ma tk v ((tk v).filter λt=> !(t.1==b)) o') y.2.1=none:=by
   rw[r,ar (z C)];exact C
  by_cases e:k=j
  .subst e;rw[w] at h2;cases h2;exact⟨k,fM x (-1),L,C7 K,l,s,by show ov fr v b _ o' x.2.1= _;rw[bQ (z C)];exact u,M⟩
  .exact⟨j,y,L,by rw[B3 e];exact h2,l,s,by rw[bQ (z C)];exact u,M⟩
 have N: ∀q:TK->Bool,ou (ma tk v ((tk v).filter λt=> !(t.1==b))) q+(if q (b,(k:Int),(n:Int))=true then 1 else 0)=ou tk q:=λq=>by
  have g:=zO tk q (by omega:v<17) ((tk v).filter λt=> !(t.1==b));have h2:=Q5 (H.nd v) D q;omega
 refine⟨λ{i p f} h=>?_,λ{m d} h=>?_,λ{m d} h s=>?_,λ{i p f} h A=>?_,λ{i p c f} h=>?_,λi=>?_,λ{i p p' f} h h' A O=>?_,λ{m d} h=>?_,λ{m y} h=>?_,by rw[Cs];exact H.gl,R⟩
 .by_cases e:i=v/\p=b
  .rw[show ov fr v b none i p=none from az e] at h;cases h
  .rw[bQ e] at h;exact H.jI h
 .have ⟨d',g,h2,l,u, _⟩:=F h;rw[h2,u,l];exact H.kd g
 .have ⟨d',g,h2,l, _⟩:=F h;have ⟨i,p,G,I,B⟩:=H.Sq g (by rw[<-h2];exact s);exact⟨i,p,by rw[l];exact G,by rw[bQ (z B)];exact I,by rw[r,ar (z B)];exact B⟩
 .by_cases e:i=v/\p=b
  .rw[show ov fr v b none i p=none from az e] at h;cases h
  .rw[bQ e] at h;rw[r,ar e] at A;have ⟨m,d,g,h2,l,s⟩:=H.own h A;have ⟨d',G,I,B⟩:=S h2;exact⟨m,d',g,G,by rw[I];exact l,by rw[B];exact s⟩
 .rw[r] at h;by_cases e:i=v/\p=b
  .rw[az e] at h;cases h
  .rw[ar e] at h;have ⟨g,o',h2,l⟩:=H.A4 h;exact⟨by rw[bQ e];exact g,o',h2,T l⟩
 .by_cases e:i=v
  .subst e;rw[lZ];exact US _ (H.nd _)
  .rw[oI e];exact H.nd i
 .have e: ¬ (i=v/\p=b):=λc=>by rw[show ov fr v b none i p=none from az c] at h;cases h
  have P: ¬ (i=v/\p'=b):=λc=>by rw[show ov fr v b none i p'=none from az c] at h';cases h'
  rw[r,ar e] at A;rw[r,ar P] at O;rw[bQ e] at h;rw[bQ P] at h';exact H.inj h h' A O
 .have ⟨d',g, _, _, _,u⟩:=F h;have:=N λt=>t.2.2==(m:Int);rw[u,H.refs g];unfold dH;dsimp only at this;by_cases e:m=n
  .subst e;rw[az (by simp)] at this;rw[az rfl];omega
  .rw[ar (by simp;omega)] at this;rw[ar e];omega
 .have o:nS (ma tk v ((tk v).filter λt=> !(t.1==b))) (m:Int)+(if k=m then 1 else 0)=nS tk (m:Int):=by
   have:=N λt=>t.2.1==(m:Int);dsimp only at this;unfold nS
   grind
  by_cases e:k=m
  .subst e;rw[C7 K] at h;cases h;rw[az rfl] at o;have:=H.vE w;show x.2.2.2.2.1+ -1= _;omega
  .rw[B3 e] at h;rw[ar e] at o;have:=H.vE h;omega
theorem gone (H:HC fr tk ds gr) {v:Nat} {z:List DT} (hv:1<=v/\v<=16) (P:tk v=[]) (I: ∀{n:Nat} {d:DT},ds[n]? =some d->d.1=4->d.2.1=(v:Int)->d.2.2.1=0)
 (J: ∀{n:Nat} {d:DT},ds[n]? =some d->d.1=4->d.2.1≠(v:Int)->z[n]? =some d)
 (C: ∀{n:Nat} {d:DT},z[n]? =some d->(ds[n]? =some d/\ ¬ (d.1=4/\d.2.1=(v:Int)))\/((d.1=0\/d.1=3\/d.1=5)/\d.2.2=(0,0,())/\0<=d.2.1/\d.2.1<=16))
 (Q:kf (bY gr (v:Int))):
 HC (λi p=>if i=v then none else fr i p) tk z (bY gr (v:Int)):=by
 have D: ∀{i p b f},bU (tk i) p=some (b,f)->i≠v:=λ{i p b f} h e=>by
  subst e;rw[P] at h;unfold bU at h;simp at h
 have K: ∀{a:Int} {i o:Nat} {f p:Int},bU (tk i) p=some (a,f)->SP gr fr tk a i o f->o≠v:=by
  rintro a i o f p l ⟨k,x,g,h2,j,r,L,E⟩ e;subst e;have ⟨n,d,R,M,S,T⟩:=H.own L E;have h0:=I M S T;have hd:=H.jI (H.A4 l).1;have:=m5 (q:=λt=>t.2.2==(n:Int)) (by omega:i<17) (H.Jo l) (by simp[R]);have g:=H.refs M;unfold dH at g;omega
 have U: ∀{a:Int} {i o:Nat} {f p:Int},bU (tk i) p=some (a,f)->SP gr fr tk a i o f->SP (bY gr (v:Int)) (λi p=>if i=v then none else fr i p) tk a i o f:=by
  intro a i o f p l w;have V:=K l w;have W:=D l;have ⟨k,x,g,h2,j,r,L,E⟩:=w;have hh:l8 (v:Int) x=false:=by
   unfold l8;rw[j,r]
   grind
  have hd:(bY gr (v:Int))[k]? =some x:=by
   unfold bY
   grind
  have ⟨s,u,A⟩:=gA.1 g;refine⟨k,x,gA.2 ⟨s,by unfold bY;rw[DA];exact u,?_⟩,hd,j,r,?_,E⟩
  .rw[getD_some hd];rw[getD_some h2] at A;exact A
  grind
 have X: ∀{n:Nat} {d:DT},z[n]? =some d->(d.1=0\/d.1=3\/d.1=5)->d.2.2=(0,0,())->dH tk (n:Int)=0:=λ{n d} h h2 j=>by
  rcases Do (dH tk (n:Int)) with e|e
  .exact e
  .have ⟨d',s,u⟩:=H.H_ e;by_cases N:d'.2.1=(v:Int)
   .have:=H.refs s;have:=I s u N;omega
   .have:=J s u N;rw[h] at this;cases this;omega
 refine⟨λ{i p f} h=>?_,λ{m d} h=>?_,λ{m d} h r=>?_,λ{i p f} h l=>?_,λ{i p c f} h=>?_,H.nd,λ{i p p' f} h h' l Y=>?_,λ{m d} h=>?_,λ{m y} h=>?_,by unfold bY;rw[DA];exact H.gl,Q⟩
 .by_cases e:i=v
  .rw[az e] at h;cases h
  .rw[ar e] at h;exact H.jI h
 .rcases C h with ⟨g, _⟩|⟨g,h2,j⟩
  .exact H.kd g
  .exact⟨by omega,by rw[h2],j⟩
 .rcases C h with ⟨g,h2⟩|⟨g, _⟩
  .have ⟨i,p,s,u,A⟩:=H.Sq g r;exact⟨i,p,s,by rw[ar (λe=>h2 ⟨r,by rw[<-s,e]⟩)];exact u,A⟩
  .omega
 .by_cases e:i=v
  .rw[az e] at h;cases h
  .rw[ar e] at h;have ⟨m,d,g,h2,j,r⟩:=H.own h l;exact⟨m,d,g,J h2 j (λc=>e (DC (r.symm.trans c))),j,r⟩
 .have ⟨g,o,h2,j⟩:=H.A4 h;exact⟨by rw[ar (D h)];exact g,o,h2,U h j⟩
 .by_cases e:i=v
  .rw[az e] at h;cases h
  .rw[ar e] at h h';exact H.inj h h' l Y
 .rcases C h with ⟨g, _⟩|⟨g,h2, _⟩
  .exact H.refs g
  .rw[X h g h2,h2];rfl
 .unfold bY at h;rw[Dn] at h;have ⟨x,O,B⟩:=GS.1 h;by_cases e:l8 (v:Int) x=true
  .rw[az e] at B;subst B;have:nS tk (m:Int)=0:=by
    refine BQ λi t l=>?_;cases F:t.2.1==(m:Int) with
    |false=>rfl
    |true=>
     have F:t.2.1=(m:Int):=by simpa using F
     have G:=H.Jn l;have ⟨_,o, _,w⟩:=H.A4 (a:=t.2.1) (f:=t.2.2) G;have V:=K (a:=t.2.1) (f:=t.2.2) G w;have W:=D (b:=t.2.1) (f:=t.2.2) G;have ⟨k,x',g,h2,j,r, _⟩:=w;have ⟨s, _⟩:=gA.1 g;have Z:k=m:=DC (s.trans F);subst Z;rw[O] at h2;cases h2;unfold l8 at e;rw[j,r] at e
     grind
   rw[this];rfl
  .rw[ar e] at B;subst B;exact H.vE O
end HC
set_option maxRecDepth 100000
open Go.RX D
def pS (h:HS):HL:=λi p=>match h.g i with
 |some x=>if(bC h.s x.root false p).2.2.1=0 then some (bC h.s x.root false p).1 else none
 |none=>none
def kA (h:HS) (i:Nat):List TK:=match h.g i with
 |some x=>x.tk
 |none=>[]
def pH (h:HS) (i:Nat) (p:Int):Int×Int×Int×Unit:=match h.g i with
 |some x=>bC h.s x.root false p
 |none=>(0,0,4,())
theorem cD {h:HS} {i:Nat} {x:GV} (a:h.g i=some x) (p:Int):pH h i p=bC h.s x.root false p:=by unfold pH;rw[a]
theorem iv {h:HS} {i:Nat} (a:h.g i=none) (p:Int):pH h i p=(0,0,4,()):=by unfold pH;rw[a]
theorem Ok (h:HS) (i:Nat) (p:Int):pS h i p=if(pH h i p).2.2.1=0 then some (pH h i p).1 else none:=by
 unfold pS pH;cases h.g i with
 |none=>rfl
 |some x=>rfl
structure E' (h h':HS) (P:Nat->Int->Prop):Prop where
 to: ∀{i:Nat} {q:Int},¬ P i q->pH h' i q=pH h i q
theorem E'.refl (h:HS) (P:Nat->Int->Prop):E' h h P:=⟨λ_=>rfl⟩
theorem E'.trans {c h2 d:HS} {P:Nat->Int->Prop} (a:E' c h2 P) (b:E' h2 d P):E' c d P:=⟨λe=>(b.to e).trans (a.to e)⟩
structure KD (s s':WD):Prop where
 k4: ∀{n:Nat} {d:DT},s.2[n]? =some d->d.1=4-> ∃d',s'.2[n]? =some d'/\(d'.1=4\/d'.1=5)
 k5: ∀{n:Nat} {d:DT},s.2[n]? =some d->d.1=5-> ∃d',s'.2[n]? =some d'/\d'.1=5
theorem KD.refl {s s':WD} (h:s'.2=s.2):KD s s':=⟨λ{n d} a b=>⟨d,by rw[h];exact a,.inl b⟩,λ{n d} a c=>⟨d,by rw[h];exact a,c⟩⟩
theorem KD.trans {s t u:WD} (a:KD s t) (b:KD t u):KD s u:=by
 refine⟨λe f=>?_,λe g=>?_⟩
 .have ⟨d',d,c⟩:=a.k4 e f;rcases c with c|c
  .exact b.k4 d c
  .have ⟨d2,f1,f2⟩:=b.k5 d c;exact⟨d2,f1,.inr f2⟩
 .have ⟨d',d,c⟩:=a.k5 e g;exact b.k5 d c
theorem KD.set {s:WD} {W:List Int} {n:Nat} {d0 d1:DT} (h0:s.2[n]? =some d0) (a:d0.1=4->d1.1=4\/d1.1=5) (b:d0.1=5->d1.1=5):KD s (W,s.2.set n d1):=by
 have c:n<s.2.length:=(B4.1 h0).1;have key: ∀{m:Nat} {d:DT},s.2[m]? =some d->(m=n/\d=d0/\(s.2.set n d1)[m]? =some d1)\/(s.2.set n d1)[m]? =some d:=λ{m d} h=>by
  by_cases e:n=m
  .subst e;rw[h0] at h;cases h;exact .inl ⟨rfl,rfl,C7 c⟩
  .rw[B3 e];exact .inr h
 refine⟨λh k=>?_,λh k=>?_⟩
 .rcases key h with ⟨_,rfl,e⟩|e
  .exact⟨_,e,a k⟩
  .exact⟨_,e,.inl k⟩
 .rcases key h with ⟨_,rfl,e⟩|e
  .exact⟨_,e,b k⟩
  .exact⟨_,e,k⟩
theorem tw.kd {P:Int->Int->Prop} {o:Int} {g g':Gh} {s s':WD} (C:tw P o g g' s s'):KD s s':=by
 refine⟨λ{n d} a b=>⟨d,C.kp.ks a b,.inl b⟩,λ{n d} a c=>?_⟩;have ⟨d',f,h⟩:=C.kk a (.inr c);refine⟨d',f,h.elim id λe=>?_⟩;rw[c] at e;exact absurd e.2 (by decide)
def wv (o:Int) (gh iE:Gh) (s s':WD):Prop:=(∀(f:Int) (v:Int×Nat×Int),gh f=some v->iE f=some v\/mh s' f)/\(∀f,mh s f->mh s' f)/\ ∀(f:Int) (v:Int×Nat×Int),gh f=some v->v.1≠o->iE f=some v
theorem wv.refl {o:Int} (gh:Gh) (s:WD):wv o gh gh s s:=⟨λ_ _ h=> .inl h,λ_ h=>h,λ_ _ h _=>h⟩
theorem wv.trans {o:Int} {a b c:Gh} {s t u:WD} (h:wv o a b s t) (k:wv o b c t u):wv o a c s u:=⟨λf v d=>(h.1 f v d).elim (k.1 f v) λc=> .inr (k.2.1 f c),λf c=>k.2.1 f (h.2.1 f c),λf v d e=>k.2.2 f v (h.2.2 f v d e) e⟩
theorem tw.gks {P:Int->Int->Prop} {o:Int} {g g':Gh} {s s':WD} (C:tw P o g g' s s'):wv o g g' s s':=⟨λ_ _ h=>C.gk h,λ_ c=>c.kept C.kp,λ_ _ h a=>(C.Nc a h).1⟩
theorem mh.kd {s s':WD} {f:Int} (h:mh s f) (K:KD s s') (b: ∀k:Int,0<=k->k<16->eY s'.1 (16*f+k)=eY s.1 (16*f+k)):mh s' f:=by
 have ⟨h0,d,c,h2,e⟩:=h;have ⟨d',g,i⟩:=K.k5 c h2;exact⟨h0,d',g,i,λk k0 a=>by rw[b k k0 a];exact e k k0 a⟩
theorem wv.kd {o:Int} {g:Gh} {s s':WD} (K:KD s s') (a: ∀{n:Nat} {d:DT},s.2[n]? =some d->d.1=5-> ∀k:Int,0<=k->k<16->eY s'.1 (16*(n:Int)+k)=eY s.1 (16*(n:Int)+k)):wv o g g s s':=by
 refine⟨λ_ _ h=> .inl h,λf c=>?_,λ_ _ h _=>h⟩;refine c.kd K λk k0 b=>?_;have ⟨h0,d,e,h2, _⟩:=c;have:=a e h2 k k0 b;rw[show((f.toNat:Nat):Int)=f by omega] at this;exact this
structure xK (h h':HS) (P:Nat->Int->Prop) (f:Int):Prop where
 pg:E' h h' P
 ws: ∀{m:Nat} {d d':DT},h.s.2[m]? =some d->d.1=4->h'.s.2[m]? =some d'->d'.1=4->(m:Int)≠f-> ∀k:Int,0<=k->k<16->eY h'.s.1 (16*(m:Int)+k)=eY h.s.1 (16*(m:Int)+k)
 kd:KD h.s h'.s
theorem xK.refl (h:HS) (P:Nat->Int->Prop) (f:Int):xK h h P f:=⟨E'.refl h P,λ_ _ _ _ _ _ _ _=>rfl,.refl rfl⟩
theorem xK.mono {h h':HS} {P b:Nat->Int->Prop} {f:Int} (a:xK h h' P f) (d: ∀{i:Nat} {q:Int},P i q->b i q):xK h h' b f:=⟨⟨λe=>a.pg.to λc=>e (d c)⟩,a.ws,a.kd⟩
theorem xK.trans {h h2 i:HS} {P:Nat->Int->Prop} {f:Int} (a:xK h h2 P f) (b:xK h2 i P f):xK h i P f:=by
 refine⟨E'.trans a.pg b.pg,λ{m d d'} j l n e o k k0 p=>?_,a.kd.trans b.kd⟩;have ⟨d2,g,c⟩:=a.kd.k4 j l;rcases c with c|c
 .rw[b.ws g c n e o k k0 p,a.ws j l g c o k k0 p]
 .have ⟨d3,q,r⟩:=b.kd.k5 g c;rw[n] at q;cases q;rw[r] at e;exact absurd e (by decide)
structure HI (gh:Gh) (h:HS):Prop where
 inv:Inv gh h.s
 rt:Rt gh
 nl:A0 gh h.s
 sz:h.s.1.length=16*h.s.2.length
 jI: ∀{i:Nat} {x:GV},h.g i=some x->1<=i/\i<=16
 root: ∀{i:Nat} {x:GV},h.g i=some x->gh x.root=some ((i:Int),3,0)
 own: ∀{f o y:Int},gh f=some (o,3,y)-> ∃(i:Nat) (x:GV),(i:Int)=o/\h.g i=some x
 hc:HC (pS h) (kA h) h.s.2 h.gr
theorem cZ {h:HS} {i:Nat} {x:GV} (a:h.g i=some x) (p:Int):pS h i p=if(bC h.s x.root false p).2.2.1=0 then some (bC h.s x.root false p).1 else none:=by
 unfold pS;rw[a]
theorem iw {h:HS} {i:Nat} (a:h.g i=none) (p:Int):pS h i p=none:=by
 unfold pS;rw[a]
theorem fG {h:HS} {i:Nat} {x:GV} (a:h.g i=some x):kA h i=x.tk:=by unfold kA;rw[a]
theorem Wa (h:HS) (v:Int):pR h v=kA h v.toNat:=rfl
section
variable {gh iE:Gh} {h:HS}
namespace HI
theorem rdy (H:HI gh h) {Q:Sys} (m:Jb Q h.s):XG Q h where
 Sp:=m
 sz:=by rw[H.sz];exact Da _
 rr:=λv e=>by
  have ⟨x,d,g, _⟩:=bK e;rw[g];have:=H.inv.pQ (H.root d);exact⟨this.1,this.2.1⟩
 pg:=λv t j=>by
  rw[Wa] at j;have:=H.hc.jI (H.hc.A4 (a:=t.2.1) (f:=t.2.2) (H.hc.Jn j)).1;omega
 new:=λv a b c x d e h0=>by
  have ⟨n,k,g,hv, _⟩:=bK e;rw[d] at k;cases k;rw[g] at h0;have l:=H.root d;rw[hv] at l;have i:=(H.inv.map l h0).2;have ⟨_, _, _, _,i, _⟩:=i;have:pS h v.toNat b=none:=by rw[cZ d,ar (by rw[i];decide)]
  have:=H.hc.S7 this;rw[fG d] at this;exact this
theorem zh (H:HI gh h) {v:Nat} {x:GV} (d:h.g v=some x) {p:Int} {s1 s':WD} (f: ∀{i:Nat} {x:GV},h.g i=some x-> ∀q,bC s1 x.root false q=bC h.s x.root false q) (j:Inv gh s1) (C:tw (pj (v:Int) 0 p) (v:Int) gh iE s1 s') {y:Option Int}
 (k:(if(bC s' x.root false p).2.2.1=0 then some (bC s' x.root false p).1 else none)=y) {h':HS} (l:h'.s=s') (m: ∀i,(h'.g i).map GV.root=(h.g i).map GV.root):pS h'=ov (pS h) v p y:=by
 funext i q;have hi:=m i;cases a:h.g i with
 |none=>
  rw[a] at hi;have n:h'.g i=none:=by simpa using hi
  rw[iw n];have r: ¬ (i=v/\q=p):=λc=>by rw[c.1,d] at a;cases a
  rw[bQ r,iw a]
 |some z=>
  rw[a] at hi;have ⟨b,t,u⟩: ∃b,h'.g i=some b/\b.root=z.root:=by
   cases hc:h'.g i with
   |none=>rw[hc] at hi;cases hi
   |some b=>rw[hc] at hi;exact⟨b,rfl,by simpa using hi⟩
  rw[cZ t,l,u];by_cases e:i=v/\q=p
  .obtain⟨rfl,rfl⟩:=e;rw[d] at a;cases a;rw[gO,k]
  .rw[bQ e,cZ a];have w:bC s' z.root false q=bC h.s z.root false q:=by
    rw[<-f a q];refine j.zF C.inv C.Dr C.root (o:=(i:Int)) (H.root a) λc=>e ?_;have ⟨A,B⟩:=c;exact⟨DC A,B⟩
   rw[w]
theorem F5 (H:HI gh h) {v:Nat} {p:Int} {s1 s':WD} (e: ∀{i:Nat} {x:GV},h.g i=some x-> ∀q,bC s1 x.root false q=bC h.s x.root false q) (f:Inv gh s1) (C:tw (pj (v:Int) 0 p) (v:Int) gh iE s1 s') {h':HS} (j:h'.s=s') (k: ∀i,(h'.g i).map GV.root=(h.g i).map GV.root):E' h h' (λi q=>i=v/\q=p):=by
 refine⟨λ{i q} d=>?_⟩;have hi:=k i;cases a:h.g i with
 |none=>
  rw[a] at hi;have d:h'.g i=none:=by simpa using hi
  unfold pH;rw[d,a]
 |some z=>
  rw[a] at hi;have ⟨b,l,m⟩: ∃b,h'.g i=some b/\b.root=z.root:=by
   cases hc:h'.g i with
   |none=>rw[hc] at hi;cases hi
   |some b=>rw[hc] at hi;exact⟨b,rfl,by simpa using hi⟩
  rw[cD l,cD a,j,m, <-e a q];refine f.zF C.inv C.Dr C.root (o:=(i:Int)) (H.root a) λc=>d ?_;have ⟨n,r⟩:=c;exact⟨DC n,r⟩
theorem base (H:HI gh h) {v:Nat} {p:Int} {s1 s':WD} (C:tw (pj (v:Int) 0 p) (v:Int) gh iE s1 s') (j:s1.1.length=h.s.1.length/\s1.2.length=h.s.2.length) (nl:A0 gh s1) {h':HS} (c:h'.s=s') (d: ∀i,(h'.g i).map GV.root=(h.g i).map GV.root)
 (hc:HC (pS h') (kA h') s'.2 h'.gr):HI iE h' where
 inv:=by rw[c];exact C.inv
 rt:=H.rt.gC C.root
 nl:=by
  rw[c];exact C.lg (λo q n a b=>a.2.trans b.2.symm) nl
 sz:=by
  rw[c,C.len.1,C.len.2,j.1,j.2];exact H.sz
 jI:=λ{i x} e=>by
  have hi:=d i;rw[e] at hi;cases hc:h.g i with
  |none=>rw[hc] at hi;cases hi
  |some z=>exact H.jI hc
 root:=λ{i x} e=>by
  have hi:=d i;rw[e] at hi;cases hc:h.g i with
  |none=>rw[hc] at hi;cases hi
  |some z=>
   rw[hc] at hi;have k:x.root=z.root:=by simpa using hi
   rw[k];exact C.root.to (H.root hc)
 own:=λ{f o y} l=>by
  have ⟨i,x,m,h2⟩:=H.own ((C.root o f y).1 l);have hi:=d i;rw[h2] at hi;cases hc:h'.g i with
  |none=>rw[hc] at hi;cases hi
  |some z=>exact⟨i,z,m,hc⟩
 hc:=by rw[c];exact hc
theorem IQ (H:HI gh h) {s':WD} (B:Inv.gx gh h.s s') {h':HS} (b:h'.s=s') (a:h'.g=h.g) (P:Nat->Int->Prop):E' h h' P:=by
 refine⟨λ{i q} _=>?_⟩;cases hi:h.g i with
 |none=>rw[iv hi,iv (by rw[a];exact hi)]
 |some z=>rw[cD hi,cD (by rw[a];exact hi),b];exact H.inv.fl B (H.root hi) q
theorem side (H:HI gh h) {s':WD} (B:Inv.gx gh h.s s') {ki:List GT} {yx:List Po.PT} (hc:HC (pS h) (kA h) s'.2 ki):HI gh {s:=s',g:=h.g,gr:=ki,po:=yx} where
 inv:=H.inv.beside B
 rt:=H.rt
 nl:=Inv.n_ B H.nl
 sz:=by
  show s'.1.length=16*s'.2.length;rw[B.len.1,B.len.2];exact H.sz
 jI:=H.jI
 root:=H.root
 own:=H.own
 hc:=by
  have e:pS {s:=s',g:=h.g,gr:=ki,po:=yx}=pS h:=by
   funext i p;cases a:h.g i with
   |none=>
    rw[iw a];exact iw (h:={s:=s',g:=h.g,gr:=ki,po:=yx}) a p
   |some x=>
    rw[cZ a,cZ (h:={s:=s',g:=h.g,gr:=ki,po:=yx}) a];show(if(bC s' x.root false p).2.2.1=0 then _ else _)= _;rw[H.inv.fl B (H.root a)]
  rw[e];exact hc
end HI
end
set_option maxRecDepth 100000
open Go.RX D
theorem rt4 {o r:Int} (a:1<=o/\o<=16) (b:0<=r/\r<=65535):dg 4 o r 0=true:=by unfold dg gQ;simp;omega
theorem rt5 {o:Int} (a:0<=o/\o<=16):dg 5 o 0 0=true:=by unfold dg gQ;simp;omega
theorem G8 {o:Int} (a:1<=o/\o<=16):aI 4 o zD=((4,o,0,0,()),0):=by
 have b:dg 0 0 0 0=true:=by decide
 have e:ff 0 0 0 0 4 o=0:=by
  unfold ff;rw[b,ar (by decide),ar (by decide),az (by decide),ar (show ¬ (4:Int)=5 by decide),rt4 a ⟨by decide,by decide⟩,ar (by decide)]
 unfold aI zD jN iR;dsimp only;rw[e];rfl
theorem Lj {o:Int} (a:1<=o/\o<=16):aI 0 0 (4,o,0,0,())=(zD,0):=by
 have e:ff 4 o 0 0 0 0=0:=by
  unfold ff;rw[rt4 a ⟨by decide,by decide⟩,ar (by decide),ar (by decide),az (by decide),ar (show ¬ (0:Int)=5 by decide)];decide
 unfold aI jN iR;dsimp only;rw[e];rfl
theorem l4 {o v:Int} (a:1<=o/\o<=16):aI 5 v (4,o,0,0,())=((5,o,0,0,()),0):=by
 have e:ff 4 o 0 0 5 v=0:=by
  unfold ff;rw[rt4 a ⟨by decide,by decide⟩,ar (by decide),ar (by decide),az (by decide),az rfl,rt5 ⟨by omega,a.2⟩,ar (by decide)]
 unfold aI jN iR;dsimp only;rw[e];rfl
theorem G9 {o:Int} (a:0<=o/\o<=16):aI 0 0 (5,o,0,0,())=(zD,0):=by
 have e:ff 5 o 0 0 0 0=0:=by
  unfold ff;rw[rt5 a,ar (by decide),ar (by decide),az (by decide),ar (show ¬ (0:Int)=5 by decide)];decide
 unfold aI jN iR;dsimp only;rw[e];rfl
theorem aat {o r x:Int} (a:1<=o/\o<=16) (b:0<=r/\r<=65535) (c:0<=r+x/\r+x<=65535):fA x (4,o,r,0,())=((4,o,r+x,0,()),0):=by
 have e:mI 4 o r 0 x=0:=by
  unfold mI;rw[rt4 a b,ar (by decide),az (.inr (.inr rfl)),ar (by omega)]
 unfold fA kh;dsimp only;rw[e];rfl
theorem qf {ds:List DT} {n:Nat} {d d':DT} {G:DT->DT×Int} (h:ds[n]? =some d) (a:G d=(d',0)):eC ds (n:Int) G=ds.set n d'/\oY ds (n:Int) G=0:=by
 have c:n<ds.length:=(B4.1 h).1;have b:ds.getD n zD=d:=by rw[DS,h];rfl
 constructor
 .rw[oA (by omega)];show(if(G (ds.getD n zD)).2=0 then ds.set n (G (ds.getD n zD)).1 else ds)= _;rw[b,a,az rfl]
 .rw[sS (by omega)];show(G (ds.getD n zD)).2=0;rw[b,a]
theorem tf {ds:List DT} {o:Int} (h:0<cB ds 0) (e: ∀d∈ds,d.1=0->d=zD) (f:1<=o/\o<=16): ∃i:Nat,i<ds.length/\ds[i]? =some zD/\dV ds 4 o=(i:Int)/\cJ ds 4 o=0/\cX ds 4 o=ds.set i (4,o,0,0,()):=by
 have ⟨i,d,a,h2,b,g⟩:=Ec h;have hd:d=zD:=e d (Ch b) g;subst hd;have ⟨j,c⟩:=qf b (G8 f);refine⟨i,h2,b,?_,?_,?_⟩
 .unfold dV;rw[a];dsimp only;rw[az c]
 .unfold cJ;rw[ar (by omega),a];exact c
 .unfold cX;rw[a];exact j
theorem rz {ds:List DT} {y o:Int} (h:cJ ds y o=0):0<cB ds 0:=by
 rcases Do (cB ds 0) with e|e
 .unfold cJ at h;rw[V8 e] at h;dsimp only at h;split at h<;>exact absurd h (by decide)
 .exact e
theorem Q6 {ds:List DT} {n:Nat} {d d':DT} (h:ds[n]? =some d):(ds.set n d').set n d=ds:=by
 apply HQ;intro i;have a:n<ds.length:=(B4.1 h).1;by_cases e:n=i
 .subst e;rw[C7 (by rw[Cs];exact a),h]
 .rw[B3 e,B3 e]
theorem jU {ds:List DT} {n:Nat} {d:DT} (h:ds[n]? =some d):mH ds (n:Int)=d:=by
 have a:n<ds.length:=(B4.1 h).1;unfold mH;rw[ar (by omega)];show ds.getD n zD=d;rw[DS,h];rfl
theorem Kept.hc {fr:HL} {tk:Nat->List TK} {s s':WD} {gr:List GT} (H:HC fr tk s.2 gr) (K:Kept s s'):HC fr tk s'.2 gr:=
 H.F3 K.ks λ{n d} h=>(K.nw h).elim .inl λe=> .inr ⟨by omega,e.2.1,by omega,e.2.2.2⟩
theorem Ol {ws:List Int} {a:Int} (h:(aO ws a).1=true):oh (B (eY ws a)).toNat=true:=by
 unfold aO fS vo at h;cases b:oh (B (eY ws a)).toNat with
 |true=>rfl
 |false=>rw[b] at h;simp at h
theorem IS {ws:List Int} {p t f:Int} {l:Nat} {fd:FT} (hi:oX ws (c9 f p (l:Int))=true) (a:oh (B (eY ws (c9 f p (l:Int)))).toNat=true):
 fZ ws p t (f,(l:Int),fd)=tookS f p t (l:Int) fd (aO ws (c9 f p (l:Int))).1 (aO ws (c9 f p (l:Int))).2.1 (aO ws (c9 f p (l:Int))).2.2.1 (aO ws (c9 f p (l:Int))).2.2.2.1:=by
 unfold fZ;dsimp only;rw[ar (by omega),a,ar ?_]
 .rfl
 .unfold vy;rw[az hi];decide
namespace Inv
variable {g:Gh} {s:WD}
theorem IT (I:Inv g s) {o r p t:Int} (d:g r=some (o,3,0)) (b:0<=p/\p<65536): ∀(n:Nat) {j:Nat} {f:Int},j+n=3->g f=some (o,j,px (j+1) p)->lj s.1 r p t n=(f,(j:Int),(0,0,0,0,()))
 |0,j,f,h,a=>by
  have:j=3:=by omega
  subst this;rw[WX b] at a;rw[I.inj a d];rfl
 |n+1,j,f,h,a=>by
  obtain⟨f',e,h2⟩:=I.E9 a (by omega);have i:g f'=some (o,j+1,px (j+1+1) p):=e;obtain⟨b1,b2,b3⟩:=I.pQ e;obtain⟨k,m, _⟩:=I.pQ a;have q:=I.IT (t:=t) d b n (j:=j+1) (by omega) i;have c:=ko ⟨b1,b2⟩ b (l:=j+1) (by omega);have u:=fC p (j+1);rw[lj,q,IS (by rw[c];exact jX (by omega) (by omega)) (by rw[c];exact Ol (by rw[h2];rfl)),c,h2];unfold tookS cw;dsimp only;rw[ar (by decide),az ?_]
  .congr 2;rw[aX (by omega) (by omega)];omega
  .have:cP true 0 false f=true:=fk ⟨k,m⟩;rw[this];simp
   try omega
end Inv
end Go.Proofs.YteeflilbnoknnaaGreat
