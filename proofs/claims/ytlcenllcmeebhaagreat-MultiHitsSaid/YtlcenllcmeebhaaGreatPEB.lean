import Derived.Test.YtlcenllcmeebhaaGreatPEA
/-! What the statement leans on: texts joined and shortened by a program of mine. -/
set_option linter.unusedVariables false
set_option linter.unusedSimpArgs false
open Go renaming World->A2,Addr->AA,Value->AN,Obj->Av,MapEntry->B3,Program->CX,FuncId->DB,TypeId->FM
open Go.Proofs.Tryz renaming prog->AC
open Eq renaming mpr->Ak
open List renaming mem_map->Al,perm_middle->B4,mem_cons->B5,length_take->B6,mem_cons_of_mem->B8,nodup_cons->B9,getElem?_eq_some_iff->BI,map_cons->BQ,length_append->Bx,mem_append_left->C7,mem_cons_self->C8,mem_singleton->DE,mem_append_right->DK,getElem?_eq_getElem->Dk,getElem?_set_ne->Dl,take_append_drop->Dn,sublist_cons_self->Do,append_assoc->FN,map_append->FO,nodup_nil->FP,mem_of_getElem?->FS,getElem?_set_self->FY,replicate->Fg,mem_append->Fp,length_drop->Fu,getElem?_map->Fv,getElem?_of_mem->GD,ext_getElem?->GF,filter_cons->GG,mem_or_eq_of_mem_set->Gj,getElem?_append_left->H4,nodup_append->H5,append_nil->H6,eq_nil_of_length_eq_zero->H7,take_add_one->HB,drop_length->Hb,drop_eq_getElem_cons->In,drop_eq_nil_of_le->J3,getElem?_inj->J7,getElem?_append_right->JM,take_append_of_le_length->JN,take_of_length_le->JP,length_set->JR,getD_eq_getElem?_getD->JS,filter_eq_self->JW,take_length->JX,any_eq_true->JY,set_eq_take_append_cons_drop->N7,drop_length_add_append->N9,perm_append_singleton->ND,sublist_append_right->NE,length_map->NG,findIdx?_eq_none_iff->NU,eraseIdx_eq_take_drop_succ->NV,find?_append->NZ,find?_cons->No,length_nil->Nt,length_cons->Nw,set_append_right->Ny,pairwise_append->Nz,take_zero->O2,getElem?_take_of_lt->OL
open Go.IntKind renaming i64->Ay,u64->Hr
open Int renaming toNat->B1,toNat_natCast->Ds,ediv_nonneg->Oh
open Go.Value renaming bool->B2,int->Dz,chan->I1,nilFunc->PP
open Nat renaming zero_add->Bs,le_trans->DA,le_refl->Dd,min_eq_left->E4,zero_le->GH,mul_le_mul_right->GS,sub_self->Ga,lt_of_lt_of_le->I2,lt_succ_self->IA,mul_one->IR,add_mul->JZ,testBit_mod_two_pow->K1,mod_eq_of_lt->PS,eq_of_testBit_eq->Pp
open List.Perm renaming cons->C9,swap->E5
open Array renaming getElem?_eq_some_iff->Df,ext'->LL,mk->M4
open Bool renaming or_eq_true->F1,or_eq_false_iff->FB,true_and->Gd,and_eq_true->Ia,and_eq_false_iff->If,eq_iff_iff->Ij,not_eq_true'->M5,not_eq_false'->Rg
open Decidable renaming rec->G1
open Go.Instr renaming findNow->GI
open BitVec renaming testBit_toNat->GJ,getLsbD_and->Ik,getLsbD_ushiftRight->N5,allOnes->S0,getLsbD_shiftLeft->S1,getLsbD_of_ge->S2
open Go.Builtin renaming zeroCells->Gi
open List.Sublist renaming refl->S7,cons_cons->T0,cons->T3
namespace Go.Proofs.YtlcenllcmeebhaaGreat
set_option maxRecDepth 100000
open Go.RX
def dY (lo sz:Int):Bool:=decide (lo>=0)&&decide (lo<64)&&decide (sz>=1)&&decide (sz<=64 - lo)
theorem iK {lo sz:Int}:dY lo sz=true<->0<=lo/\lo<64/\1<=sz/\sz<=64 - lo:=by
 simp only[dY,Ia,decide_eq_true_eq];omega
def Mk (lo n:Nat):BitVec 64:=(S0 64 >>> (64 - n)) <<< lo
theorem Cg {lo n j:Nat} (c:n<=64):(Mk lo n).getLsbD j=(decide (lo<=j)&&decide (j<lo+n)&&decide (j<64)):=by
 unfold Mk;rw[S1,N5,BitVec.getLsbD_allOnes];by_cases h1:j<64<;>by_cases a:lo<=j<;>by_cases b:j<lo+n<;>simp[h1,a,b]<;>omega
def fQ (lo sz:Int):BitVec 64:=if dY lo sz=true then Mk lo.toNat sz.toNat else 0#64
def fj (w:BitVec 64) (lo sz:Int):BitVec 64:=(w &&& fQ lo sz) >>> (Dj 0 (kM lo 63)).toNat
def sW (w:BitVec 64) (lo sz:Int) (v:BitVec 64):BitVec 64:=if fQ lo sz=0#64 then w else w &&& ~~~ fQ lo sz ||| v <<< lo.toNat &&& fQ lo sz
theorem GO {lo sz:Int} (h:dY lo sz=true):Di .u64 (J1 .u64 18446744073709551615 (aZ .i64 64 sz)) lo=U (fQ lo sz):=by
 have h':=iK.1 h;rw[show(18446744073709551615:Int)=U (S0 64) from rfl,OQ,OP,bF (by omega) (by omega)];unfold fQ Mk;rw[if_pos h];congr 4;omega
theorem PK {lo sz:Int} (h:dY lo sz=true):fQ lo sz≠0#64:=by
 intro h0;have h':=iK.1 h;have:=congrArg (λb=>b.getLsbD lo.toNat) h0;simp only[fQ,if_pos h] at this;rw[Cg (by omega)] at this;simp at this;omega
theorem zw {lo sz:Int} (h:dY lo sz=false):fQ lo sz=0#64:=by simp[fQ,h]
def Gk (w:BitVec 64) (lo k:Nat):BitVec 64:=(w >>> lo) &&& Mk 0 k
theorem OR {w:BitVec 64} {lo k j:Nat} (a:k<=64):(Gk w lo k).getLsbD j=(w.getLsbD (lo+j)&&decide (j<k)):=by
 unfold Gk;rw[Ik,N5,Cg a];by_cases h:j<k<;>simp[h];omega
def Pk (w v:BitVec 64) (lo k:Nat):BitVec 64:=w &&& ~~~ Mk lo k ||| v <<< lo &&& Mk lo k
theorem YT {w v:BitVec 64} {lo k j:Nat} (a:k<=64) (b:j<64):(Pk w v lo k).getLsbD j=if lo<=j/\j<lo+k then v.getLsbD (j - lo) else w.getLsbD j:=by
 unfold Pk;rw[BitVec.getLsbD_or,Ik,Ik,BitVec.getLsbD_not,S1,Cg a];by_cases h1:lo<=j<;>by_cases c:j<lo+k<;>simp[h1,c,b]
 all_goals omega
theorem T7 {w:BitVec 64} {lo sz:Int} (h:dY lo sz=true):fj w lo sz=Gk w lo.toNat sz.toNat:=by
 have h':=iK.1 h;unfold fj fQ;rw[if_pos h];have e:(Dj 0 (kM lo 63)).toNat=lo.toNat:=by unfold Dj kM;split<;>split<;>omega
 rw[e];apply BitVec.eq_of_getLsbD_eq;intro j b;rw[OR (by omega),N5,Ik,Cg (by omega)];by_cases h1:lo.toNat+j<64
 ·by_cases a:j<sz.toNat<;>simp[h1,a]
 ·rw[S2 w _ (by omega)];simp
theorem T8 {w v:BitVec 64} {lo sz:Int} (h:dY lo sz=true):sW w lo sz v=Pk w v lo.toNat sz.toNat:=by
 unfold sW Pk;rw[if_neg (PK h)];simp only[fQ,if_pos h]
theorem mx:AC.follows .mixedOrders=true:=by kernel_rfl
noncomputable def C0:dI AC:={si:=[],quiet:=[],sh:=[],mixed:=mx}
theorem T9 (low size:Int) (w:A2) (a:Bool->A2->Prop):(aI C0 (λ_=>[]) 144 [.int .i64 low,.int .i64 size] w a)=(
 au w (a (decide (low>=0)&&decide (low<64)&&decide (size>=1)&&decide (size<=aZ .i64 64 low)))):=by kernel_rfl
theorem PL (lo sz:Int):(decide (lo>=0)&&decide (lo<64)&&decide (sz>=1)&&decide (sz<=aZ .i64 64 lo))=dY lo sz:=by
 unfold dY;by_cases h:0<=lo/\lo<64
 ·rw[bF (by omega) (by omega)]
 ·by_cases h1:lo>=0<;>by_cases a:lo<64<;>simp[h1,a]<;>omega
noncomputable def te:Entry AC where
 f:=144
 fn l:=match l with
  |[.int .i64 lo,.int .i64 sz]=>some (True,.bool (dY lo sz))
  | _=>none
 ok args pre v h _ w:=by
  split at h
  ·rename_i lo sz;cases h;refine bX (x:=dY lo sz) (ai (C:=C0) (aS:=λ_=>[]) (Ak (T9 lo sz w _) λw1 h1=>⟨PL lo sz,h1⟩))
  ·cases h
noncomputable def C1:dI AC:={C0 with si:=[te]}
theorem T_ (low size:Int) (w:A2) (a:Int->A2->Prop):(aI C1 (λ_=>[]) 195 [.int .i64 low,.int .i64 size] w a)=(
 True/\aH (!dY low size) (au w (a 0)) (0<=aZ .i64 64 size/\0<=low/\au w λw1=>a (Di .u64 (J1 .u64 18446744073709551615 (aZ .i64 64 size)) low) w1)):=by kernel_rfl
theorem Ua (lo sz:Int) (w:A2):aC AC 195 (.el (.one (.int .u64))) [.int .i64 lo,.int .i64 sz] w (λx w'=>x=U (fQ lo sz)/\Ext w w'):=by
 refine ai (C:=C1) (aS:=λ_=>[]) (Ak (T_ lo sz w _) ⟨trivial,?_⟩);refine ab (λh=>?_) (λh=>?_)
 ·intro w1 h1;refine⟨?_,h1⟩;rw[zw (by simpa using h)];rfl
 ·have h':dY lo sz=true:=by simpa using h
  have a:=iK.1 h';refine⟨by rw[bF (by omega) (by omega)];omega,a.1,λw1 h1=>⟨GO h',h1⟩⟩
noncomputable def vz:Entry AC where
 f:=195
 fn l:=match l with
  |[.int .i64 lo,.int .i64 sz]=>some (True,.int .u64 (U (fQ lo sz)))
  | _=>none
 ok args pre v h a w:=by
  split at h
  ·rename_i lo sz;cases h;exact bX (Ua lo sz w)
  ·cases h
noncomputable def C2:dI AC:={C0 with si:=[te,vz]}
theorem YU (v low size:Int) (w:A2) (a:Int->A2->Prop):(aI C2 (λ_=>[]) 141 [.int .u64 v,.int .i64 low,.int .i64 size] w a)=(
 True/\0<=Dj 0 (kM low 63)/\au w λw1=>a (J1 .u64 (wU .u64 v (U (fQ low size))) (Dj 0 (kM low 63))) w1):=by kernel_rfl
theorem YV (v low size x:Int) (w:A2) (a:Int->A2->Prop):(aI C2 (λ_=>[]) 250 [.int .u64 v,.int .i64 low,.int .i64 size,.int .u64 x] w a)=(
 True/\aH (U (fQ low size)==0) (au w (a v)) (0<=low/\au w λw1=>a (ZQ .u64 (fR .u64 v (U (fQ low size))) (wU .u64 (Di .u64 x low) (U (fQ low size)))) w1)):=by kernel_rfl
theorem YW (v:BitVec 64) (lo sz:Int) (w:A2):aC AC 141 (.el (.one (.int .u64))) [.int .u64 (U v),.int .i64 lo,.int .i64 sz] w (λx w'=>x=U (fj v lo sz)/\Ext w w'):=by
 refine ai (C:=C2) (aS:=λ_=>[]) (Ak (YU (U v) lo sz w _) ⟨trivial,by unfold Dj;split<;>omega,λw1 h1=>⟨?_,h1⟩⟩);rw[OO,OQ];rfl
theorem YX (v:BitVec 64) (lo sz:Int) (x:BitVec 64) (w:A2):aC AC 250 (.el (.one (.int .u64))) [.int .u64 (U v),.int .i64 lo,.int .i64 sz,.int .u64 (U x)] w (λy w'=>y=U (sW v lo sz x)/\Ext w w'):=by
 refine ai (C:=C2) (aS:=λ_=>[]) (Ak (YV (U v) lo sz (U x) w _) ⟨trivial,?_⟩);have b:(U (fQ lo sz)==0)=decide (fQ lo sz=0#64):=by
  have:(U (fQ lo sz)=0)<->fQ lo sz=0#64:=by rw[show(0:Int)=U 0#64 from rfl,aaX]
  by_cases h:fQ lo sz=0#64
  ·rw[this.2 h,h];rfl
  ·have h': ¬ U (fQ lo sz)=0:=λe=>h (this.1 e);simp[h,h']
 rw[b];refine ab (λh=>λw1 h1=>⟨?_,h1⟩) (λh=>?_)
 ·simp only[decide_eq_true_eq] at h;unfold sW;rw[if_pos h]
 ·simp only[decide_eq_false_iff_not] at h;have a:dY lo sz=true:=by
   cases a:dY lo sz with
   |true=>rfl
   |false=>exact absurd (zw a) h
  refine⟨(iK.1 a).1,λw1 h1=>⟨?_,h1⟩⟩;rw[Kj,OP,OO,aaY];unfold sW;rw[if_neg h]
noncomputable def FH:Entry AC where
 f:=141
 fn l:=match l with
  |[.int .u64 v,.int .i64 lo,.int .i64 sz]=>some (U (B v)=v,.int .u64 (U (fj (B v) lo sz)))
  | _=>none
 ok args pre v h a w:=by
  split at h
  ·rename_i v lo sz;cases h;have:=bX (YW (B v) lo sz w);rw[a] at this;exact this
  ·cases h
noncomputable def FI:Entry AC where
 f:=250
 fn l:=match l with
  |[.int .u64 v,.int .i64 lo,.int .i64 sz,.int .u64 x]=>some (U (B v)=v/\U (B x)=x,.int .u64 (U (sW (B v) lo sz (B x))))
  | _=>none
 ok args pre v h a w:=by
  split at h
  ·rename_i v lo sz x;cases h;have:=bX (YX (B v) lo sz (B x) w);rw[a.1,a.2] at this;exact this
  ·cases h
noncomputable def C3:dI AC:={C0 with si:=[te,vz,FH,FI]}
def vQ:Nat->a8:=(λ|4=>[(3,Go.RX.El.one (Go.RX.Sc.int Hr)),(4,Go.RX.El.one (Go.RX.Sc.int Ay)),(9,Go.RX.El.one (Go.RX.Sc.int Ay))]| _=>[])
theorem Ub (p:Option AA) (n c:Nat) (w:A2) (d:Int->A2->Prop):(aI C3 vQ 248 [.slice p n c] w d)=(
 ∃(I:Nat->Int×Int×Int×Unit->A2->Prop),(∃n, ∀w1,Ext w w1->I n (0,0,0,()) w1)/\ ∀(f:Nat) (s:Int×Int×Int×Unit) (w1:A2),I f s w1->aH (decide (s.2.2.1<(↑n:Int))) ((p.isSome=true/\0<=s.2.2.1/\s.2.2.1<(↑n:Int))/\aj w1 none (ad p (B1 s.2.2.1*2)) cD λ(x:Int×Int×Unit)=>aM w1 ⟨[.int .u64 0,.int .i64 0]⟩ 304 λb a=>az a (ae b) [.int .u64 x.1,.int .i64 x.2.1] λa=>true=true/\aW a (ad (ae b) 1) λx=>True/\aH (!dY s.2.1 x) (au a (d 0)) (true=true/\aW a (ad (ae b) 1) λ
 x=>true=true/\cK a (ad (ae b) 0) λe=>(U (B s.1)=s.1/\U (B e)=e)/\true=true/\aW a (ad (ae b) 1) λi=> ∀g,Ext a g-> ∃(h:Nat),h<f/\I h (U (sW (B s.1) s.2.1 x (B e)),aL .i64 s.2.1 i,aL .i64 s.2.2.1 1,()) g)) (au w1 (d s.1))):=by kernel_rfl
def tW:Nat->a8:=(λ|4=>[(5,Go.RX.El.one Go.RX.Sc.slice),(6,Go.RX.El.one (Go.RX.Sc.int Ay)),(11,Go.RX.El.one (Go.RX.Sc.int Ay))]| _=>[])
theorem PM (v:Int) (p:Option AA) (n c:Nat) (w:A2) (a:Option AA×Nat×Nat->A2->Prop):(aI C3 tW 93 [.int .u64 v,.slice p n c] w a)=(
 ∃(I:Nat->(Option AA×Nat×Nat)×Int×Int×Unit->A2->Prop),(∃n, ∀w1,Ext w w1->I n ((none,0,0),0,0,()) w1)/\ ∀(e:Nat) (s:(Option AA×Nat×Nat)×Int×Int×Unit) (w1:A2),I e s w1->aH (decide (s.2.2.1<(↑n:Int))) ((p.isSome=true/\0<=s.2.2.1/\s.2.2.1<(↑n:Int))/\aW w1 (ad p (B1 s.2.2.1*1)) λx=>True/\aH (!dY s.2.1 x) (au w1 (a (none,0,0))) (U (B v)=v/\aM w1 ⟨[.int .u64 (U (fj (B v) s.2.1 x))]⟩ 29 λb d=> ∀w1,Ext d w1->mD w1 29 1 8 ⟨[.int .u64 0]⟩ (s.1.1,s.1.2.1,s.1.2.2) (some ⟨b,0,
 none⟩,1,1) λ(r:Option AA×Nat×Nat) d=> ∀f,Ext d f-> ∃(g:Nat),g<e/\I g ((r.1,r.2.1,r.2.2),aL .i64 s.2.1 x,aL .i64 s.2.2.1 1,()) f)) (au w1 (a (s.1.1,s.1.2.1,s.1.2.2)))):=by kernel_rfl
abbrev eI:El:= .one (.int .i64)
abbrev eU:El:= .one (.int .u64)
abbrev eP:El:= .agg [.int .u64,.int .i64]
def qJ:BitVec 64->Int->List (BitVec 64×Int)->BitVec 64
 |w, _,[]=>w
 |w,lo,(v,sz)::r=>if dY lo sz=true then qJ (sW w lo sz v) (lo+sz) r else 0#64
def NY (l:List (BitVec 64×Int)):List (Int×Int×Unit):=l.map λx=>(U x.1,x.2,())
theorem jf {α:Type} {l:List α} {i:Nat} (h:i<l.length):l.drop i=l[i]::l.drop (i+1):=In h
theorem Uc {p:Option AA} {n c:Nat} {w:A2} {xs:List (BitVec 64×Int)} (z:Sl w eP p (NY xs)) (K:n=xs.length) (hb:n<4611686018427387904):
 aC AC 248 (.el eU) [.slice p n c] w (λx w'=>x=U (qJ 0#64 0 xs)/\Ext w w'):=by
 refine ai (C:=C3) (aS:=vQ) (Ak (Ub p n c w _) ?_);refine⟨λk s w'=>Ext w w'/\ ∃(i:Nat) (b:BitVec 64),s.1=U b/\s.2.2.1=i/\k+i=n/\0<=s.2.1/\s.2.1<=64/\qJ b s.2.1 (xs.drop i)=qJ 0#64 0 xs,⟨n,λw1 h1=>⟨h1,0,0#64,rfl,rfl,rfl,by decide,by decide,rfl⟩⟩,?_⟩;rintro k ⟨x,lo,L,u⟩ w1 ⟨l,i,b,h1,g,M,A,B,e⟩;simp only at h1 g A B e;subst h1;subst g;dsimp only;refine ab (λh=>?_) (λh=>λD g=>⟨?_,l.trans g⟩)
 ·simp only[decide_eq_true_eq] at h;have hi:i<xs.length:=by omega
  have E:(NY xs)[i]? =some (U xs[i].1,xs[i].2,()):=by simp[NY,hi]
  have a1:=(z.ext l) i _ E;rw[jf hi] at e;refine⟨⟨a1.1,by omega,by omega⟩, _,a1.2,λd F f t=>?_⟩;have dm:bN f d.heap.size [.int .u64 0,.int .i64 0]:=(bN.new d _ _).ext t;have v:Ext w d:=l.trans F;have G:Ext w f:=(v.iX _).trans t;have m:=dm.put (o:=0) [Dz .u64 (U xs[i].1),Dz .i64 xs[i].2] (by simp);simp at m;have y:Ext w (jC f (some ⟨d.heap.size,0,none⟩) [Dz .u64 (U xs[i].1),Dz .i64 xs[i].2]):=G.jC (a:=⟨d.heap.size,0,none⟩) v.size _;have H:cQ (jC f (some ⟨d.heap.size,0,none⟩) [Dz .u64 (U xs[i].1),Dz .i64 xs[i].2]) (ad (some ⟨d.heap.size,0,none⟩) 0) (.one (.int .u64)) (U xs[i].1):=by
   rw[aY];exact m.ov rfl
  have q:cQ (jC f (some ⟨d.heap.size,0,none⟩) [Dz .u64 (U xs[i].1),Dz .i64 xs[i].2]) (ad (some ⟨d.heap.size,0,none⟩) 1) (.one (.int .i64)) xs[i].2:=by
   rw[aY];exact m.ov rfl
  refine⟨⟨rfl,dm.st (by simp)⟩,rfl, _,q,trivial,ab (λr D I=>⟨?_,y.trans I⟩) (λr=>⟨rfl, _,q,rfl, _,H,⟨by rw[Ff],by rw[Ff]⟩,rfl, _,q,λN J=>⟨k - 1,by omega,y.trans J,i+1,sW b lo xs[i].2 xs[i].1,?_,?_,by omega,?_,?_,?_⟩⟩)⟩
  ·have j:dY lo xs[i].2=false:=by simpa using r
   rw[<-e];simp only[qJ,j];rfl
  all_goals
   have j:dY lo xs[i].2=true:=by simpa using r
   have O:=iK.1 j
  ·show U _= _;rw[Ff,Ff]
  ·show aL _ _ _= _;rw[ax (by omega) (by omega)];rfl
  ·show 0<=aL .i64 lo _;rw[ax (by omega) (by omega)];omega
  ·show aL .i64 lo _<=64;rw[ax (by omega) (by omega)];omega
  ·show qJ _ (aL .i64 lo _) _= _;rw[ax (by omega) (by omega), <-e];simp only[qJ,j,if_true]
 ·simp only[decide_eq_false_iff_not] at h;rw[J3 (by omega)] at e;rw[<-e];rfl
def my (w:BitVec 64):Int->List Int->Option (List (BitVec 64))
 | _,[]=>some []
 |lo,sz::r=>if dY lo sz=true then(my w (lo+sz) r).map (fj w lo sz:: ·) else none
def BV (l:List (BitVec 64)):List Int:=l.map U
theorem PN {v:BitVec 64} {p:Option AA} {n c:Nat} {w:A2} {xs:List Int} (y:Sl w eI p xs) (J:n=xs.length) (hb:n<=1000):
 aC AC 93 (.el (.one .slice)) [.int .u64 (U v),.slice p n c] w (λr w'=>lS w w' eU r (BV ((my v 0 xs).getD []))/\Ext w w'):=by
 refine ai (C:=C3) (aS:=tW) (Ak (PM (U v) p n c w _) ?_);refine⟨λk s w'=>Ext w w'/\ ∃(i:Nat) (a:List (BitVec 64)),s.2.2.1=i/\k+i=n/\0<=s.2.1/\s.2.1<=64/\a.length=i/\lS w w' eU s.1 (BV a)/\my v 0 xs=(my v s.2.1 (xs.drop i)).map (a++ ·),⟨n,λw1 h1=>⟨h1,0,[],rfl,rfl,by decide,by decide,rfl,lS.nil w w1 eU,by simp⟩⟩,?_⟩;rintro k ⟨s,lo,K,u⟩ w1 ⟨f,i,a,d,L,z,A,D,m,b⟩;simp only at d m z A b;subst d;dsimp only;refine ab (λh=>?_) (λh=>λo d=>⟨?_,f.trans d⟩)
 ·simp only[decide_eq_true_eq] at h;have hi:i<xs.length:=by omega
  have a1:=(y.ext f) i _ (Dk hi);have i1:p.isSome=true/\(0:Int)<=i/\(i:Int)<n:=⟨a1.1,by omega,by omega⟩;rw[jf hi] at b;refine⟨i1, _,a1.2,trivial,ab (λg o E=>⟨?_,f.trans E⟩) (λg=>⟨by rw[Ff],λM F N G=>?_⟩)⟩
  ·have j:dY lo xs[i]=false:=by simpa using g
   simp only[my,j] at b;rw[b];exact lS.nil w o eU
  ·have j:dY lo xs[i]=true:=by simpa using g
   have O:=iK.1 j;have P:(BV a).length<=1000:=by simp[BV];omega
   refine PJ (e:=eU) (x:=U (fj (B (U v)) lo xs[i])) m f rfl F G rfl (by omega) λs' w' q H g Q R t=>⟨k - 1,by omega,H.trans t,i+1,a++[fj v lo xs[i]],?_,by omega,?_,?_,by simp[D],?_,?_⟩
   ·show aL _ _ _= _;rw[ax (by omega) (by omega)];rfl
   ·show 0<=aL .i64 lo _;rw[ax (by omega) (by omega)];omega
   ·show aL .i64 lo _<=64;rw[ax (by omega) (by omega)];omega
   ·rw[Ff] at q;have I:BV (a++[fj v lo xs[i]])=BV a++[U (fj v lo xs[i])]:=by simp[BV]
    rw[I];exact q.ext t
   ·show _=(my v (aL .i64 lo _) _).map _;rw[ax (by omega) (by omega),b];simp only[my,j,if_true,Option.map_map];congr 1;funext l;simp
 ·simp only[decide_eq_false_iff_not] at h;rw[J3 (by omega)] at b;rw[b];simp[my];exact m.ext d
end Go.Proofs.YtlcenllcmeebhaaGreat
namespace Go.RX
open Go.RowKit
def Yn (n:Nat) (w:A2) (e:El) (s:Option AA×Nat×Nat) (xs:List e.T):Prop:=
 s.2.1=xs.length/\xs.length<=s.2.2/\
 ((s.1=none/\xs=[]/\s.2.2=0)\/ ∃b l,s.1=some ⟨b,0,none⟩/\n<=b/\bN w b l/\l.length=s.2.2*aD e/\l.take (xs.length*aD e)=flat e xs)
theorem lS.toN {w0 w:A2} {e:El} {s:Option AA×Nat×Nat} {xs:List e.T} (h:lS w0 w e s xs):Yn w0.heap.size w e s xs:=h
theorem Yn.of {w0 w:A2} {e:El} {s:Option AA×Nat×Nat} {xs:List e.T} {n:Nat} (h:Yn n w e s xs) (a:w0.heap.size<=n):lS w0 w e s xs:=by
 obtain⟨h1,b,c⟩:=h;refine⟨h1,?_⟩
 grind
def vA (n:Nat) (w:A2):A2:={w with heap:=w.heap.extract 0 n}
theorem iD {n:Nat} {w:A2} (h:n<=w.heap.size):(vA n w).heap.size=n:=by grind[vA]
theorem qa {n:Nat} {w:A2} (h:n<=w.heap.size):Ext (vA n w) w:=by
 refine⟨rfl,rfl,rfl,?_,λk a=>?_⟩
 ·rw[iD h];grind
 ·rw[iD h] at a;show w.heap[k]? =(w.heap.extract 0 n)[k]?
  grind
theorem zU {n:Nat} {w w':A2} (h:n<=w.heap.size) (k:Ext (vA n w) w') (a:w.heap.size<=w'.heap.size):Below n w w':=
 ⟨k.os,k.tape,k.output,a,λj b=>by
  have h1:=k.block (by rw[iD h];exact b);have c:=(qa h).block (k:=j)
  grind⟩
end Go.RX
namespace Go.RowKit
open Go.RX
end Go.RowKit
namespace Go.RX
open Go.RowKit
structure Fr (G:List Nat) (w w':A2):Prop where
 os:w'.os=w.os
 tape:w'.tape=w.tape
 output:w'.output=w.output
 size:w.heap.size<=w'.heap.size
 block: ∀k,k<w.heap.size->k∉G->w'.heap[k]? =w.heap[k]?
theorem Fr.refl (G:List Nat) (w:A2):Fr G w w:=⟨rfl,rfl,rfl,by simp,λ_ _ _=>rfl⟩
theorem Fr.trans {G:List Nat} {a b c:A2} (h:Fr G a b) (k:Fr G b c):Fr G a c:=
 ⟨k.os.trans h.os,k.tape.trans h.tape,k.output.trans h.output,DA h.size k.size,λj d e=>(k.block j (I2 d h.size) e).trans (h.block j d e)⟩
theorem Fr.uX {G:List Nat} {w w':A2} (h:Ext w w'):Fr G w w':=⟨h.os,h.tape,h.output,h.size,λ_ a _=>h.block a⟩
theorem Fr.ext {w w':A2} (h:Fr [] w w'):Ext w w':=⟨h.os,h.tape,h.output,h.size,λk a=>h.block k a (by simp)⟩
theorem Fr.dm {G:List Nat} {w w':A2} (h:Fr G w w') {b:Nat} {l:List AN} (hb:b∉G) (k:bN w b l):bN w' b l:=k.same (h.block b k.lt hb)
theorem Fr.jC {G:List Nat} {w0 w:A2} (h:Fr G w0 w) {a:AA} (l:w0.heap.size<=a.block\/a.block∈G) (vs:List AN):Fr G w0 (jC w (some a) vs):=by
 have env: ∀(vs) (w) (i),(putAt w a vs i).os=w.os/\(putAt w a vs i).tape=w.tape/\(putAt w a vs i).output=w.output:=by
  intro vs
  induction vs with
  |nil=>intro w i;exact⟨rfl,rfl,rfl⟩
  |cons v r b=>
   intro w i;have:=b (w.setCell (a.add i) v) (i+1);exact this
 obtain⟨c,d,e⟩:=env vs w 0;refine⟨c.trans h.os,d.trans h.tape,e.trans h.output,?_,λk f g=>?_⟩
 ·show _<=(putAt w a vs 0).heap.size;rw[rW];exact h.size
 ·have j:k≠a.block:=by
   grind
  exact(mU vs w a 0 k j).trans (h.block k f g)
structure aJ (D G:List Nat) (w0 w:A2) (L:List (Nat×List AN)):Prop where
 fr:Fr G w0 w
 dm: ∀x∈L,bN w x.1 x.2
 own: ∀x∈L,w0.heap.size<=x.1\/x.1∈G
 nd:(L.map (·.1)).Nodup
 pO: ∀r∈D,w0.heap.size<=r/\w.heap[r]? =some (.deferred (some []))
abbrev At:=aJ []
theorem At.start (G:List Nat) (w:A2):At G w w [] where
 fr:=Fr.refl G w
 dm:=λx=>by grind
 own:=λa=>by grind
 nd:=FP
 pO:=λa=>by grind
namespace aJ
variable {D G:List Nat} {w0 w w1:A2} {L:List (Nat×List AN)}
theorem ext (H:aJ D G w0 w L) (h:Ext w w1):aJ D G w0 w1 L:=
 ⟨H.fr.trans (.uX h),λx b=>(H.dm x b).ext h,H.own,H.nd,λr a=>⟨(H.pO r a).1,h.obj (H.pO r a).2⟩⟩
theorem all (H:aJ D [] w0 w L):Ext w0 w:=H.fr.ext
theorem get (H:aJ D G w0 w L) {i b:Nat} {l:List AN} (h:L[i]? =some (b,l)):bN w b l:=H.dm _ (FS h)
theorem ne (H:aJ D G w0 w L) {i j b c:Nat} {l m:List AN} (h:L[i]? =some (b,l)) (k:L[j]? =some (c,m)) (a:i≠j):b≠c:=by
 intro;have h1:(L.map (·.1))[i]? =some b:=by grind
 have d:(L.map (·.1))[j]? =some b:=by grind
 exact a ((J7 (by grind) H.nd).1 (h1.trans d.symm))
theorem alloc (H:aJ D G w0 w L) (cs:List AN) (t:FM):aJ D G w0 (w.alloc (.cells ⟨cs⟩ t)) ((w.heap.size,cs)::L):=by
 have b:=H.ext (Ext.alloc w (.cells ⟨cs⟩ t));refine⟨b.fr,λx a=>?_,λx a=>?_,?_,b.pO⟩
 ·rcases B5.1 a with rfl|a
  ·exact bN.new w cs t
  ·exact b.dm x a
 ·rcases B5.1 a with rfl|a
  ·exact .inl H.fr.size
  ·exact b.own x a
 ·refine B9.2 ⟨λc=>?_,H.nd⟩;obtain⟨x,a,e⟩:=Al.1 c;have:=(H.dm x a).lt
  grind
theorem rM (H:aJ D G w0 w L) (o:Av):aJ D G w0 (w.alloc o) L:=H.ext (Ext.alloc w o)
theorem db {b r:Nat} {l:List AN} {o:Av} (h:bN w b l) (k:w.heap[r]? =some o) (c: ∀a t f,o≠ .cells a t f):b≠r:=by
 obtain⟨⟩:=h
 grind
theorem put (H:aJ D G w0 w L) (i:Nat) {b o:Nat} {l:List AN} (h:L[i]? =some (b,l)) (vs:List AN) (m:o+vs.length<=l.length):
 aJ D G w0 (jC w (some ⟨b,o,none⟩) vs) (L.set i (b,l.take o++(vs++l.drop (o+vs.length)))):=by
 have hi:i<L.length:=(BI.1 h).1;have f:=FS h;refine⟨H.fr.jC (H.own _ f) vs,λx a=>?_,λx a=>?_,?_,λr g=>⟨(H.pO r g).1,?_⟩⟩
 ·obtain⟨j,c⟩:=GD a;by_cases e:i=j
  ·subst e;rw[FY hi] at c;cases c;exact(H.get h).put vs m
  ·rw[Dl e] at c;have d:x.1≠b:=λe'=>by
    exact H.ne c h (λn=>e n.symm) e'
   exact(H.dm x (by grind)).WL d vs
 ·rcases Gj a with a|rfl
  ·exact H.own x a
  ·exact H.own (b,l) f
 ·have:(L.set i (b,l.take o++(vs++l.drop (o+vs.length)))).map (·.1)=L.map (·.1):=by
   apply GF;intro j
   grind
  rw[this];exact H.nd
 ·have k:=(H.pO r g).2;have d:r≠b:=λe=>db (H.get h) k (by grind) e.symm;rw[<-k];exact mU vs w _ 0 r d
theorem fP (H:aJ D G w0 w L) {b:Nat} {l:List AN} (h:bN w0 b l) (hb:b∉G):bN w b l:=H.fr.dm hb h
theorem sub (H:aJ D G w0 w L) {L':List (Nat×List AN)} (h:L'.Sublist L):aJ D G w0 w L':=
 ⟨H.fr,λx a=>H.dm x (h.subset a),λx a=>H.own x (h.subset a),(h.map _).nodup H.nd,H.pO⟩
theorem perm (H:aJ D G w0 w L) {L':List (Nat×List AN)} (h:L'.Perm L):aJ D G w0 w L':=
 ⟨H.fr,λx a=>H.dm x (h.subset a),λx a=>H.own x (h.subset a),(h.map _).nodup_iff.2 H.nd,H.pO⟩
theorem frame (H:aJ D G w0 w L) {b:List Nat} {L':List (Nat×List AN)} (h:Fr b w w1) (i: ∀x∈b,w0.heap.size<=x\/x∈G) (d: ∀r∈D,r∉b) (hb: ∀x∈L',bN w1 x.1 x.2) (e: ∀x∈L',w0.heap.size<=x.1\/x.1∈G) (f:(L'.map (·.1)).Nodup):aJ D G w0 w1 L':=
 ⟨⟨h.os.trans H.fr.os,h.tape.trans H.fr.tape,h.output.trans H.fr.output,DA H.fr.size h.size,λk c g=>(h.block k (I2 c H.fr.size) (by grind)).trans (H.fr.block k c g)⟩,hb,e,f,λr a=>⟨(H.pO r a).1,by rw[h.block r (Df.1 (H.pO r a).2).1 (d r a)];exact(H.pO r a).2⟩⟩
theorem mod (H:aJ D G w0 w L) (i:Nat) {b:Nat} {l l':List AN} (c:L[i]? =some (b,l)) (h:Fr [b] w w1) (hb:bN w1 b l'):aJ D G w0 w1 (L.set i (b,l')):=by
 have d:=FS c;refine H.frame h (λx a=>by rw[DE.1 a];exact H.own (b,l) d) (λr g a=>?_) (λx a=>?_) (λx a=>?_) ?_
 ·rw[DE] at a;exact db (H.get c) (H.pO r g).2 (by grind) a.symm
 ·obtain⟨j,f⟩:=GD a;by_cases e:i=j
  grind
  ·rw[Dl e] at f;obtain⟨x1,k⟩:=x;have n:x1≠b:=H.ne f c (λm=>e m.symm);exact h.dm (by grind) (H.dm (x1,k) (by grind))
 ·rcases Gj a with a|rfl
  ·exact H.own x a
  ·exact H.own (b,l) d
 ·have:(L.set i (b,l')).map (·.1)=L.map (·.1):=by
   apply GF;intro j
   grind
  rw[this];exact H.nd
theorem again (H:aJ D G w0 w L):At (L.map (·.1)) w w L where
 fr:=Fr.refl _ w
 dm:=H.dm
 own:=λx a=> .inr (by grind)
 nd:=H.nd
 pO:=λa=>by grind
theorem join {b:List Nat} {L':List (Nat×List AN)} (H:aJ D G w0 w L) (d: ∀x∈b,x∈L.map (·.1)) (K:At b w w1 L'):aJ D G w0 w1 L':=by
 have f: ∀x∈b,w0.heap.size<=x\/x∈G:=λx a=>by
  obtain⟨y,c,e⟩:=Al.1 (d x a);rw[<-e];exact H.own y c
 refine H.frame K.fr f (λr g a=>?_) K.dm (λx a=>?_) K.nd
 ·obtain⟨y,c,e⟩:=Al.1 (d r a);exact db (H.dm y c) (H.pO r g).2 (by grind) e
 ·rcases K.own x a with h1|h1
  ·exact .inl (DA H.fr.size h1)
  grind
theorem putObj (H:aJ D G w0 w L) {l:Nat} (h:w0.heap.size<=l) {o o':Av} (d:w.heap[l]? =some o) (hc: ∀a t f,o≠ .cells a t f) (i:l∉D):aJ D G w0 (w.putObj l o') L:=by
 refine⟨⟨H.fr.os,H.fr.tape,H.fr.output,by rw[putObj_size];grind,λk e g=>?_⟩,λx b=>(H.dm x b).putObj (db (H.dm x b) d hc) _,H.own,H.nd,λr c=>⟨(H.pO r c).1,?_⟩⟩
 ·rw[fG (by omega)];exact H.fr.block k e g
 ·rw[fG (by grind)];exact(H.pO r c).2
end aJ
def k_ (l:List AN) (o:Nat):(el:El)->Option el.T
 | .one s=>match l[o]? with
   |some v=>s.proj v
   |none=>none
 | .agg ss=>l_ ss ((l.drop o).take ss.length)
theorem dU {w:A2} {b o:Nat} {l:List AN} (h:bN w b l) {el:El} {x:el.T} (a:k_ l o el=some x):cQ w (some ⟨b,o,none⟩) el x:=by
 cases el with
 |one=>
  simp[k_] at a;split at a
  ·rename_i hv;exact h.ov (by rw[hv,Sc.im a])
  grind
 |agg=>
  have e:=pC a;refine h.Z0 λhi=>?_
  grind
theorem aj.of {w:A2} {g:Option Bool} {p:Option AA} {el:El} {K:el.T->Prop} (x:el.T) (h:cQ w p el x) (k:K x):aj w g p el K:=
 ⟨x,by cases g<;>first|exact h|exact λ_=>h,k⟩
theorem aB {b:Bool} {x y:Prop} (e:b=true) (h:x):aH b x y:=by grind[ab]
theorem an {b:Bool} {x y:Prop} (e:b=false) (h:y):aH b x y:=by grind[ab]
section
variable {D G:List Nat} {w0 w:A2} {L:List (Nat×List AN)}
theorem aj.at (i:Nat) (H:aJ D G w0 w L) {g:Option Bool} {el:El} {K:el.T->Prop} {b o:Nat} {l:List AN} {x:el.T} (a:L[i]? =some (b,l)) (hv:k_ l o el=some x) (k:K x):aj w g (some ⟨b,o,none⟩) el K:=
 .of x (dU (H.get a) hv) k
theorem aj.cw (i:Nat) (H:aJ D G w0 w L) {g:Option Bool} {el:El} {K:el.T->Prop} {b o n:Nat} {l:List AN} {x:el.T} (a:L[i]? =some (b,l)) (hv:k_ l (o+n) el=some x) (k:K x):aj w g (ad (some ⟨b,o,none⟩) n) el K:=by
 rw[aY];exact .at i H a hv k
theorem aM.go (H:aJ D G w0 w L) {cs:List AN} {e:FM} {K:Nat->A2->Prop} (k: ∀b w1,aJ D G w0 w1 ((b,cs)::L)->K b w1):aM w ⟨cs⟩ e K:=
 λ_ h=>k _ _ ((H.ext h).alloc cs e)
theorem az.at (i:Nat) (H:aJ D G w0 w L) {b o:Nat} {l vs:List AN} {K:A2->Prop} (a:L[i]? =some (b,l)) (d:vs.all (·.oneCell')=true) (c:o+vs.length<=l.length)
 (k: ∀w1,aJ D G w0 w1 (L.set i (b,l.take o++(vs++l.drop (o+vs.length))))->K w1):az w (some ⟨b,o,none⟩) vs K:=
 λ_ h=>⟨⟨d,((H.ext h).get a).st c⟩,k _ ((H.ext h).put i a vs c)⟩
theorem az.all (i:Nat) (H:aJ D G w0 w L) {b:Nat} {l vs:List AN} {K:A2->Prop} (a:L[i]? =some (b,l)) (c:vs.all (·.oneCell')=true) (d:vs.length=l.length)
 (k: ∀w1,aJ D G w0 w1 (L.set i (b,vs))->K w1):az w (some ⟨b,0,none⟩) vs K:=by
 refine az.at i H a c (by omega) λw1 h1=>k w1 ?_
 grind
theorem az.one (i:Nat) (H:aJ D G w0 w L) {b o:Nat} {l:List AN} {x:AN} {K:A2->Prop} (c:L[i]? =some (b,l)) (d:x.oneCell'=true) (a:Nat.blt o l.length=true)
 (k: ∀w1,aJ D G w0 w1 (L.set i (b,l.set o x))->K w1):az w (some ⟨b,o,none⟩) [x] K:=by
 have a:o<l.length:=by simp_all
 refine az.at i H c (by grind) (by grind) λw1 h1=>k w1 ?_;rw[show l.set o x=l.take o++([x]++l.drop (o+[x].length)) from by simp[N7,a]]
 grind
theorem az.fK (i:Nat) (H:aJ D G w0 w L) {b o n:Nat} {l:List AN} {x:AN} {K:A2->Prop} (a:L[i]? =some (b,l)) (c:x.oneCell'=true) (d:Nat.blt (o+n) l.length=true)
 (k: ∀w1,aJ D G w0 w1 (L.set i (b,l.set (o+n) x))->K w1):az w (ad (some ⟨b,o,none⟩) n) [x] K:=by
 rw[aY];exact az.one i H a c d k
theorem au.go (H:aJ D G w0 w L) {K:A2->Prop} (k: ∀w1,aJ D G w0 w1 L->K w1):au w K:=λ_ h=>k _ (H.ext h)
theorem aA.go (H:aJ D G w0 w L) {P:CX} {f:DB} {s:Sh} {args:List AN} {K:s.T->A2->Prop} (k: ∀w1,aJ D G w0 w1 L->aC P f s args w1 K):aA P f s args w K:=λ_ h=>k _ (H.ext h)
end
open Go.RowKit
variable {D G:List Nat} {w0 wb w w' w1:A2} {L Lb:List (Nat×List AN)}
theorem aJ.then (a:aJ D G w0 wb L) (H:At [] wb w Lb):aJ D G w0 w L:=a.ext H.all
theorem aJ.below (H:aJ D G w0 w []) (h:Below w0.heap.size w w') (c:w.heap.size<=w'.heap.size) (e:D=[]):aJ D G w0 w' [] where
 fr:=⟨h.os.trans H.fr.os,h.tape.trans H.fr.tape,h.output.trans H.fr.output,DA H.fr.size c,λk a d=>(h.block k a).trans (H.fr.block k a d)⟩
 dm:=λb=>by grind
 own:=λb=>by grind
 nd:=FP
 pO:=λb=>by grind
theorem At.aaZ (i:Nat) (c:At G w0 wb []) {e:El} {s:Option AA×Nat×Nat} {xs:List e.T} (f:lS w0 wb e s xs) (H:At [] wb w Lb)
 {b:Nat} {l:List AN} (x:e.T) (g:Lb[i]? =some (b,l)) (h:l=cellsOf e x) (j:gW e=true) {t:FM} {size bytes:Nat} {z:Array AN} (m:size=aD e) (n:z.size=aD e) (hb:(xs.length+1)*bytes<=140737488355328)
 {R:Option AA×Nat×Nat->A2->Prop} (k: ∀s' w',At G w0 w' []->lS w0 w' e s' (xs++[x])->R s' w'):
 mD w t size bytes z s (some ⟨b,0,none⟩,1,1) R:=by
 subst m;subst h;have a:=DA c.fr.size H.fr.size;have o:=(f.ext H.all).toN.of (Nat.le_of_eq (iD a));refine lJ (ys:=[x]) o (qa a) j rfl ?_ n hb λs' w' p q _ d _=>k s' w' ((c.then H).below (zU a q d) d rfl) ?_
 ·refine(H.get g).oE (aF e _) λr=>?_;simp[flat]
 ·have:=p.toN;rw[iD a] at this;exact this
theorem aj.fP (H:aJ D G w0 w L) {b o:Nat} {l:List AN} (h:bN w0 b l) (hb:b∉G) {g:Option Bool} {el:El} {K:el.T->Prop} {x:el.T} (hv:k_ l o el=some x) (k:K x):aj w g (some ⟨b,o,none⟩) el K:=
 .of x (dU (H.fP h hb) hv) k
theorem aj.lf (H:aJ D G w0 w L) {b o n:Nat} {l:List AN} (h:bN w0 b l) (hb:b∉G) {g:Option Bool} {el:El} {K:el.T->Prop} {x:el.T} (hv:k_ l (o+n) el=some x) (k:K x):aj w g (ad (some ⟨b,o,none⟩) n) el K:=by
 rw[aY];exact .fP H h hb hv k
theorem lS.start (w0 w:A2) (e:El):lS w0 w e (none,0,0) []:=lS.nil w0 w e
theorem aJ.more (H:aJ D G w0 w L) (h:Ext w w') {b:Nat} {l:List AN} (hb:w.heap.size<=b) (k:bN w' b l):aJ D G w0 w' ((b,l)::L):=by
 have c:=H.ext h;refine⟨c.fr,λx a=>?_,λx a=>?_,?_,c.pO⟩
 ·rcases B5.1 a with rfl|a
  ·grind
  ·exact c.dm x a
 ·rcases B5.1 a with rfl|a
  ·exact .inl (DA H.fr.size hb)
  ·exact c.own x a
 ·refine B9.2 ⟨λd=>?_,H.nd⟩;obtain⟨x,a,e⟩:=Al.1 d;have:=(H.dm x a).lt
  grind
theorem aJ.got (H:aJ D G w0 w L) (h:Ext w w') {e:El} {r:Option AA×Nat×Nat} {xs:List e.T} (a:lS w w' e r xs) (i:xs≠[]):
 ∃b c rest,r=(some ⟨b,0,none⟩,xs.length,c)/\aJ D G w0 w' ((b,flat e xs++rest)::L):=by
 obtain⟨h1,j,d⟩:=a;obtain⟨p,n,c⟩:=r;rcases d with ⟨⟩|⟨b,l,a1,f,k, _,g⟩
 grind
 ·subst a1;subst h1;refine⟨b,c,l.drop (xs.length*aD e),rfl,H.more h f ?_⟩;have el:l=flat e xs++l.drop (xs.length*aD e):=by rw[<-g,Dn]
  grind
theorem jM {α:Sort _} {e:α} {K:α->Prop} (k:K e): ∀x,x=e->K x:=by grind
def TM (P:CX) (c:DB) (args:Nat->List AN) (n:Nat) (b:Nat->Option (List AN)) (St:A2->Prop):Prop:=
 ∀(y:Nat) (w:A2) (J:Nat->A2->Prop) (a:A2->Prop),
  (∀i w w',J i w->Ext w w'->J i w')->(∀w w',a w->Ext w w'->a w')->(∀i w,J i w->St w)->
  (∀i,i<n->b i=none-> ∀w,J i w->J (i+1) w)->
  (∀i v,i<n->b i=some v-> ∀w (R:Bool->A2->Prop),J i w->(∀w',J (i+1) w'->R true w')->(∀w',a w'->R false w')->mq P y v w R)->
  J 0 w->Calls P c ⟨args y⟩ w (λe w'=> ∃v,e= .returned v/\(J n w'\/a w'))
section
variable {D G:List Nat} {w0 w:A2} {L:List (Nat×List AN)}
def xX (D G:List Nat) (w0 w:A2) (L:List (Nat×List AN)) (l:Nat) (rec:Loop):Prop:=w0.heap.size<=l/\aJ D G w0 w L/\cT w l rec .ready none
def Z2 (D G:List Nat) (w0 w:A2) (L:List (Nat×List AN)) (l:Nat) (rec:Loop):Prop:=w0.heap.size<=l/\aJ D G w0 w L/\cT w l rec .busy none
def Xq (D G:List Nat) (w0 w:A2) (L:List (Nat×List AN)) (l:Nat) (rec:Loop) (j:Code):Prop:=w0.heap.size<=l/\aJ D G w0 w L/\cT w l rec .done (some j)
theorem rX {l:Nat} {rec:Loop} {st:LoopState} {b:Option Code} (H:aJ D G w0 w L) (h:cT w l rec st b):l∉D/\l∉L.map (·.1):=by
 refine⟨λa=>?_,λa=>?_⟩
 ·have:=(H.pO l a).2;rw[h] at this
  grind
 ·obtain⟨x,c,e⟩:=Al.1 a;exact aJ.db (H.dm x c) h (by grind) e
theorem aJ.sS {l:Nat} {rec:Loop} {st:LoopState} {a:Option Code} (H:aJ D G w0 w L) (b:w0.heap.size<=l) (h:cT w l rec st a) (c:LoopState) (d:Option Code):aJ D G w0 (RX.sS w l rec c d) L:=
 H.putObj b h (by grind) (rX H h).1
theorem Da.go {l n m:Nat} {rec:Loop} {K:Prop} (h:xX D G w0 w L l rec) (a:n=m) (k:K):Da l rec n m w K:=⟨⟨none,h.2.2⟩,a,k⟩
theorem BM.go {l:Nat} {rec:Loop} {K:A2->Prop} (h:xX D G w0 w L l rec) (k: ∀wb,At (L.map (·.1)) wb wb L->Z2 D G w0 wb L l rec->K wb):BM l rec w K:=λg b=>by
 obtain⟨c,H,e⟩:=h;have f:=H.ext b;have a:=e.ext b;have d:=f.sS c a .busy none;exact⟨none,a,k _ d.again ⟨c,d,a.put _ _⟩⟩
theorem sk.go {l:Nat} {rec:Loop} {j:Option Code} {wb d:A2} {L':List (Nat×List AN)} {R:Bool->A2->Prop} (h:Z2 D G w0 wb L l rec) (e:At (L.map (·.1)) wb d L')
 (k: ∀a,w0.heap.size<=l->aJ D G w0 a L'->cT a l rec (if j.isNone then .ready else .done) j->R j.isNone a):sk l rec j d R:=λa f=>by
 obtain⟨g,H,b⟩:=h;have i:=(H.join (λx m=>m) e).ext f;have n:=b.same (e.fr.block l b.lt (rX H b).2);have c:=n.ext f;exact⟨.busy,none,c,k _ g (i.sS g c _ _) (c.put _ _)⟩
theorem sk.next {l:Nat} {rec:Loop} {wb e:A2} {L':List (Nat×List AN)} {R:Bool->A2->Prop} (h:Z2 D G w0 wb L l rec) (f:At (L.map (·.1)) wb e L') (k: ∀d,xX D G w0 d L' l rec->R true d):sk l rec none e R:=
 sk.go h f λd a b c=>k d ⟨a,b,c⟩
theorem sk.left {l:Nat} {rec:Loop} {j:Code} {wb e:A2} {L':List (Nat×List AN)} {R:Bool->A2->Prop} (h:Z2 D G w0 wb L l rec) (f:At (L.map (·.1)) wb e L') (k: ∀d,Xq D G w0 d L' l rec j->R false d):sk l rec (some j) e R:=
 sk.go h f λd a b c=>k d ⟨a,b,c⟩
theorem dB.none {l:Nat} {rec:Loop} {Kn Kr:A2->Prop} {Kx:Nat->A2->Prop} (h:xX D G w0 w L l rec) (k: ∀a,aJ D G w0 a L->Kn a):dB l rec w Kn Kx Kr:=
 ⟨.ready,.none,h.2.2,by simp,k _ (h.2.1.sS h.1 h.2.2 _ _)⟩
theorem dB.ret {l:Nat} {rec:Loop} {Kn Kr:A2->Prop} {Kx:Nat->A2->Prop} (h:Xq D G w0 w L l rec .ret) (k: ∀a,aJ D G w0 a L->Kr a):dB l rec w Kn Kx Kr:=
 ⟨.done,.some _,h.2.2,by simp,k _ (h.2.1.sS h.1 h.2.2 _ _)⟩
theorem vR: ∀(m:Nat) (z:List AN) (i:Nat),i<m*z.length->(Fg m z).flatten[i]? =z[i % z.length]?
 |0,z,i,h=>by grind
 |m+1,z,i,h=>by
  rw[List.replicate_succ,List.flatten_cons];by_cases hi:i<z.length
  ·rw[H4 hi,PS hi]
  ·rw[JM (by omega),vR m z _ (by grind), <-Nat.mod_eq_sub_mod (by omega)]
theorem GP (m:Nat) (z:List AN):nG ⟨z⟩ (m*z.length)=⟨(Fg m z).flatten⟩:=by
 have a:(Fg m z).flatten.length=m*z.length:=by simp
 apply LL;apply GF;intro i;unfold nG;by_cases i<m*z.length
 ·grind[vR]
 grind
theorem Nx.go (H:aJ D G w0 w L) {bytes size:Nat} {n m:Int} {z:List AN} {e:FM} {K:Nat->A2->Prop} (a:size=z.length) (h0:0<=n) (h1:n<=m) (c:m<4611686018427387904) (d:bytes*m<=281474976710656)
 (k: ∀b w1,aJ D G w0 w1 ((b,(Fg m.toNat z).flatten)::L)->K b w1):Nx w bytes size n m ⟨z⟩ e K:=λw1 h=>by
 refine⟨⟨h0,by omega⟩,?_⟩;rw[a,GP];exact k _ _ ((H.ext h).alloc _ e)
theorem lN (e:El) (x:e.T) (m:Nat):flat e (Fg m x)=(Fg m (cellsOf e x)).flatten:=by
 simp[flat,List.flatMap_replicate]
theorem mD.copy (H:aJ D G w0 w L) {e:El} {ys:List e.T} {b n c:Nat} {l:List AN} (hb:bN w b l) (o:l.take (ys.length*aD e)=flat e ys) (d:n=ys.length) (p:ys≠[]) (f:gW e=true) {t:FM} {size bytes:Nat} {z:Array AN} (g:size=aD e) (h:z.size=aD e) (q:ys.length*bytes<=140737488355328)
 {R:Option AA×Nat×Nat->A2->Prop} (k: ∀a i rest w',aJ D G w0 w' ((a,flat e ys++rest)::L)->R (some ⟨a,0,none⟩,n,i) w'):
 mD w t size bytes z (none,0,0) (some ⟨b,0,none⟩,n,c) R:=by
 subst g;subst d;refine lJ (lS.nil w w e) (Ext.refl w) f rfl ?_ h (by grind) λs' w' j m _=>?_
 ·refine hb.oE (aF e ys) λhi=>?_
  grind
 ·obtain:=H.got m j
  grind
theorem sq.go {r:Nat} {K:A2->Prop} (H:aJ [r] G w0 w L) (k: ∀w1,At G w0 w1 L->K w1):sq [r] w K:=λw1 h=>by
 have a:=H.ext h;have b:=a.pO r (by simp);refine⟨⟨b.2,trivial⟩,k _ ?_⟩;have c:At G w0 w1 L:=⟨a.fr,a.dm,a.own,a.nd,by simp⟩;exact c.putObj b.1 b.2 (by grind) (by simp)
theorem zX.inv {P:CX} {p:DB} {args:Nat->List AN} {ps:Array Nat} {T:Type} {g:T->List AN} {q:Nat->Loop->T->A2->(Bool->A2->Prop)->Prop} {m:Nat->Loop->A2->Prop} (H:aJ D G w0 w L)
 {n:Nat} {f:Nat->Option (List AN)} {St:A2->Prop} (u:TM P p args n f St) (Inv:Nat->List (Nat×List AN)->Prop) (Q:Code->List (Nat×List AN)->Prop) (h0:Inv 0 L)
 (y: ∀z i w' L',Inv i L'->aJ z G w0 w' L'->St w') (J: ∀i L',i<n->f i=none->Inv i L'->Inv (i+1) L') (K: ∀i v,i<n->f i=some v-> ∃x,v=g x)
 (M: ∀i x L',i<n->f i=some (g x)->Inv i L'-> ∀r l rec s (R:Bool->A2->Prop),xX (r::D) G w0 s L' l rec->(∀c w',Inv (i+1) c->xX (r::D) G w0 w' c l rec->R true w')->(∀j c w',Q j c->Xq (r::D) G w0 w' c l rec j->R false w')->q l rec x s R)
 (N: ∀L' r rec d,Inv n L'->xX (r::D) G w0 d L' (r+1) rec->m r rec d) (O: ∀j L' r rec d,Q j L'->Xq (r::D) G w0 d L' (r+1) rec j->m r rec d):zX P p args ps w g q m:=by
 intro w1 h1 rec _ _ A B S;have t:=H.ext h1;have sz:(w1.alloc (.deferred (some []))).heap.size=w1.heap.size+1:=lI _ _;have C:rec={rec with state:= .ready,pending:= .none}:=by rw[<-A, <-B]
 have E:w0.heap.size<=w1.heap.size:=t.fr.size;have F:xX (w1.heap.size::D) G w0 ((w1.alloc (.deferred (some []))).alloc (.loop rec)) L (w1.heap.size+1) rec:=by
  refine⟨by omega,?_,?_⟩
  ·have e:=(t.rM (.deferred (some []))).rM (.loop rec);refine⟨e.fr,e.dm,e.own,e.nd,λr o=>?_⟩;rcases B5.1 o with rfl|o
   ·exact⟨E,(Ext.alloc _ _).obj (fx w1 _)⟩
   ·exact e.pO r o
  ·have:=fx (w1.alloc (.deferred (some []))) (.loop rec);rw[sz] at this;unfold cT;rw[this,C]
 refine Calls.mono (u _ _ (λi w'=> ∃L',Inv i L'/\xX (w1.heap.size::D) G w0 w' L' _ rec) (λw'=> ∃j L',Q j L'/\Xq (w1.heap.size::D) G w0 w' L' (w1.heap.size+1) rec j) ?_ ?_ ?_ ?_ ?_ ⟨L,h0,F⟩) ?_
 ·exact λi a b ⟨L',hi,h⟩ k=>⟨L',hi,h.1,h.2.1.ext k,h.2.2.ext k⟩
 ·exact λa b ⟨j,L',I,h⟩ k=>⟨j,L',I,h.1,h.2.1.ext k,h.2.2.ext k⟩
 ·exact λi a ⟨L',hi,h⟩=>y _ i a L' hi h.2.1
 ·grind
 grind
 grind
theorem zX.go {P:CX} {e:DB} {args:Nat->List AN} {ps:Array Nat} {T:Type} {c:T->List AN} {f:Nat->Loop->T->A2->(Bool->A2->Prop)->Prop} {d:Nat->Loop->A2->Prop} (H:aJ D G w0 w L)
 {n:Nat} {b:Nat->Option (List AN)} {St:A2->Prop} (h:TM P e args n b St) (Ls:Nat->List (Nat×List AN)) (Q:Code->List (Nat×List AN)->Prop) (h0:Ls 0=L)
 (p: ∀k i w',aJ k G w0 w' (Ls i)->St w') (q: ∀i,i<n->b i=none->Ls (i+1)=Ls i) (m: ∀i v,i<n->b i=some v-> ∃x,v=c x)
 (s: ∀i x,i<n->b i=some (c x)-> ∀r l rec g (R:Bool->A2->Prop),xX (r::D) G w0 g (Ls i) l rec->(∀w',xX (r::D) G w0 w' (Ls (i+1)) l rec->R true w')->(∀j L' w',Q j L'->Xq (r::D) G w0 w' L' l rec j->R false w')->f l rec x g R)
 (t: ∀r rec a,xX (r::D) G w0 a (Ls n) (r+1) rec->d r rec a) (o: ∀j L' r rec a,Q j L'->Xq (r::D) G w0 a L' (r+1) rec j->d r rec a):zX P e args ps w c f d:=
 zX.inv H h (λi L'=>L'=Ls i) Q h0.symm (by grind) (by grind) m
  (by grind) (by grind) o
theorem aJ.aa0 (H:aJ D G w0 w L) {b:Nat} (hb:b<w0.heap.size) (d:b∉G):b∉L.map (·.1):=λa=>by
 obtain⟨x,c,e⟩:=Al.1 a;rcases H.own x c
 grind
 grind
theorem aJ.dx {wb w1:A2} {L':List (Nat×List AN)} (H:aJ D G w0 wb L) (K:At (L.map (·.1)) wb w1 L') {b:Nat} {l:List AN} (h:bN w0 b l) (a:b∉G):bN w1 b l:=
 K.fP (H.fP h a) (H.aa0 h.lt a)
theorem At.rO {b:Nat} {l:List AN} (h:bN w b l):At [b] w w [(b,l)] where
 fr:=Fr.refl _ w
 dm:=λa=>by grind
 own:=λx a=> .inr (by grind)
 nd:=by simp
 pO:=λa=>by grind
theorem fT {w:A2} {b:Nat} {e:El} {xs:List e.T} {rest:List AN} (h:bN w b (flat e xs++rest)) {i:Nat} {x:e.T} (a:xs[i]? =some x):cQ w (ad (some ⟨b,0,none⟩) (i*aD e)) e x:=
 (Sl.jL h (by simp[aF]) i x a).2
theorem yV (e:El): ∀(xs:List e.T) (i:Nat) (y:e.T) (rest:List AN),i<xs.length->(flat e xs++rest).take (i*aD e)++(cellsOf e y++(flat e xs++rest).drop (i*aD e+(cellsOf e y).length))=flat e (xs.set i y)++rest
 |x::xs,0,y,rest, _=>by
  simp[flat];rw[dt, <-dt,List.drop_left]
 |x::xs,i+1,y,rest,h=>by
  have a:=yV e xs i y rest (by grind);have b:(i+1)*aD e=(cellsOf e x).length+i*aD e:=by rw[dt,JZ];omega
  simp[flat] at a ⊢;rw[b,List.take_length_add_append,FN,Nat.add_assoc,N9,a]
theorem az.flat (j:Nat) (H:aJ D G w0 w L) {b i:Nat} {e:El} {xs:List e.T} {rest vs:List AN} (y:e.T) {K:A2->Prop} (a:L[j]? =some (b,RX.flat e xs++rest)) (hv:vs=cellsOf e y) (c:gW e=true) (hi:i<xs.length)
 (k: ∀w1,aJ D G w0 w1 (L.set j (b,RX.flat e (xs.set i y)++rest))->K w1):az w (ad (some ⟨b,0,none⟩) (i*aD e)) vs K:=by
 rw[aY,Bs];subst hv;refine az.at j H a ?_ ?_ λw1 h1=>k w1 ?_
 ·have:=jU e [y] c;simpa[RX.flat]
 ·rw[dt,Bx,aF];have:(i+1)*aD e<=xs.length*aD e:=GS _ hi
  grind
 ·rw[yV e xs i y rest hi] at h1;grind
theorem aA.Dp (H:aJ D G w0 w L) (j:Nat) {b:Nat} {l l':List AN} (c:L[j]? =some (b,l)) {P:CX} {f:DB} {s:Sh} {args:List AN} {v:s.T} {K:s.T->A2->Prop}
 (hc: ∀w1,aJ D G w0 w1 L->aC P f s args w1 (λx w'=>x=v/\bN w' b l'/\Fr [b] w1 w')) (k: ∀a,aJ D G w0 a (L.set j (b,l'))->K v a):aA P f s args w K:=λw1 h=>
 (hc w1 (H.ext h)).mono λx a ⟨d,hb,e⟩=>by subst d;exact k a ((H.ext h).mod j c e hb)
theorem aA.val (H:aJ D G w0 w L) {P:CX} {f:DB} {s:Sh} {args:List AN} (v:s.T) {K:s.T->A2->Prop}
 (hc: ∀w1,aJ D G w0 w1 L->aC P f s args w1 (λx w'=>x=v/\Ext w1 w')) (k: ∀a,aJ D G w0 a L->K v a):aA P f s args w K:=λw1 h=>
 (hc w1 (H.ext h)).mono λx a ⟨b,c⟩=>by subst b;exact k a ((H.ext h).ext c)
theorem af.of {P:CX} {f:DB} {s:Sh} {args:List AN} {v:s.T} (h: ∀w',Ext w w'->aC P f s args w' (λx a=>x=v/\Ext w' a)):af P f args w (s.gZ v):=
 λw' b=>bX (h w' b)
theorem aJ.grow {e:El} {s:Option AA×Nat×Nat} {xs:List e.T} {x:e.T} {b:Nat} {Ls L0:List (Nat×List AN)} (H:aJ D G w0 w ((b,cellsOf e x)::(Ls++L0)))
 (q:(s=(none,0,0)/\xs=[]/\Ls=[])\/ ∃bs c rest,s=(some ⟨bs,0,none⟩,xs.length,c)/\Ls=[(bs,flat e xs++rest)]/\(flat e xs++rest).length=c*aD e/\xs.length<=c)
 (Q:gW e=true) {t:FM} {size bytes:Nat} {z:Array AN} (v:size=aD e) (S:z.size=aD e) (hb:(xs.length+1)*bytes<=140737488355328)
 {R:Option AA×Nat×Nat->A2->Prop} (k: ∀bs c rest w',(flat e (xs++[x])++rest).length=c*aD e->xs.length+1<=c->aJ D G w0 w' ((bs,flat e (xs++[x])++rest)::L0)->R (some ⟨bs,0,none⟩,xs.length+1,c) w'):
 mD w t size bytes z s (some ⟨b,0,none⟩,1,1) R:=by
 subst v;have U:(vA 0 w).heap.size=0:=iD (GH _);have V:lS (vA 0 w) w e s xs:=by
  rcases q with ⟨rfl,rfl, _⟩|⟨bs,c,rest,rfl,rfl,h1,m⟩
  ·exact lS.nil _ _ _
  ·refine⟨rfl,m,.inr ⟨bs, _,rfl,by rw[U];exact GH _,H.get (i:=1) rfl,h1,?_⟩⟩;rw[JN (by rw[aF];exact Dd _),JP (by rw[aF];exact Dd _)]
 have W:bN w b (cellsOf e x):=H.get (i:=0) rfl;refine lJ (ys:=[x]) V (qa (GH _)) Q rfl ?_ S hb λs' w' X g I v J=>?_
 ·refine W.oE (aF e [x]) λj hj=>?_;simp[flat]
 ·obtain⟨p,n,c⟩:=s';obtain⟨h1,m,K⟩:=X;simp only at h1 m K J;have Y:(xs++[x]).length=xs.length+1:=by simp
  rcases K with ⟨_,Z, _⟩|⟨bs,l,a1, _,a3,a4,a5⟩
  ·simp at Z
  ·subst a1;rw[Y] at h1 m;subst h1;have el:l=flat e (xs++[x])++l.drop ((xs++[x]).length*aD e):=by rw[<-a5,Dn]
   refine k bs c (l.drop ((xs++[x]).length*aD e)) w' (by rw[<-el];exact a4) m ?_;rw[<-el];have hG': ∃B,Fr B w w'/\(∀y∈B,y∈Ls.map (·.1)):=by
    rcases q with ⟨rfl, _,rfl⟩|⟨bo,co,L,rfl,rfl, _, _⟩
    ·exact⟨[],⟨g.os,g.tape,g.output,v,λy d _=>I y d (λa C=>by cases C)⟩,λy d=>by cases d⟩
    ·exact⟨[bo],⟨g.os,g.tape,g.output,v,λy d hn=>I y d (λa C=>by cases C;simpa using hn)⟩,λy d=>by simpa using d⟩
   obtain⟨B,M,N⟩:=hG';have E:=H.nd;simp only[BQ,FO,B9,H5,Fp] at E;have O: ∀y∈Ls.map (·.1),w0.heap.size<=y\/y∈G:=λy d=>by
    obtain⟨u,o,rfl⟩:=Al.1 d;exact H.own u (B8 _ (C7 _ o))
   have P:bs∈Ls.map (·.1)\/w.heap.size<=bs:=by
    rcases J with ⟨a,f,A⟩|⟨a,f,A⟩|f
    ·cases f;rcases q with ⟨rfl, _, _⟩|⟨bo,co,L,rfl,rfl, _, _⟩
     ·cases A
     ·cases A;exact .inl (by simp)
    ·cases f;exact .inr A
    ·rcases q with ⟨rfl, _, _⟩|⟨bo,co,L,rfl,rfl, _, _⟩
     ·cases f
     grind
   refine H.frame M (λy d=>O y (N y d)) (λr hr d=>?_) (λy d=>?_) (λy d=>?_) ?_
   ·obtain⟨u,o,f⟩:=Al.1 (N r d);exact aJ.db (H.dm u (B8 _ (C7 _ o))) (H.pO r hr).2 (λ_ _ _ hc=>by cases hc) f
   ·rcases B5.1 d with rfl|d
    ·exact a3
    ·refine M.dm (λF=>?_) (H.dm y (B8 _ (DK _ d)))
     grind
   ·rcases B5.1 d with rfl|d
    ·rcases P with h|h
     ·exact O _ h
     ·exact .inl (DA H.fr.size h)
    ·exact H.own y (B8 _ (DK _ d))
   ·refine B9.2 ⟨λF=>?_,E.2.2.1⟩;rcases P with h|h
    ·exact E.2.2.2 bs h bs F rfl
    ·obtain⟨u,o,f⟩:=Al.1 F;have:=(H.dm u (B8 _ (DK _ o))).lt;simp only at f h;omega
def n_ (e:El) (rows:List (Nat×List AN)) (r:Option AA×Nat×Nat) (xs:List e.T):Prop:=
 r.2.1=xs.length/\((xs=[]/\rows=[])\/ ∃b rest,r.1=some ⟨b,0,none⟩/\rows=[(b,RX.flat e xs++rest)])
theorem aJ.ab0 {w':A2} (H:aJ D G w0 w L) (h:Ext w w') {e:El} {r:Option AA×Nat×Nat} {xs:List e.T} (a:lS w w' e r xs): ∃rows,aJ D G w0 w' (L++rows)/\n_ e rows r xs:=by
 by_cases d:xs=[]
 ·exact⟨[],by rw[H6];exact H.ext h,a.len,by grind⟩
 ·obtain⟨b,c,rest,rfl,f⟩:=H.got h a d;exact⟨[(b,RX.flat e xs++rest)],f.perm (ND _ _),rfl,by simp⟩
theorem n_.sl {e:El} {rows:List (Nat×List AN)} {r:Option AA×Nat×Nat} {xs:List e.T} (h:n_ e rows r xs) (H:aJ D G w0 w L) (a: ∀x∈rows,x∈L):Sl w e r.1 xs:=by
 rcases h.2 with ⟨rfl, _⟩|⟨b,rest,h1,rfl⟩
 ·intro;grind
 ·rw[h1];refine Sl.jL (H.dm _ (a _ (DE.2 rfl))) ?_;rw[JN (by rw[aF];simp),JP (by rw[aF];simp)]
theorem aA.Yo (H:aJ D G w0 w L) {P:CX} {f:DB} {args:List AN} {e:El} {xs:List e.T} {K:(Option AA×Nat×Nat)->A2->Prop}
 (hc: ∀w',aJ D G w0 w' L->aC P f (.el (.one .slice)) args w' (λr a=>lS w' a e r xs/\Ext w' a)) (k: ∀r rows w1,aJ D G w0 w1 (L++rows)->n_ e rows r xs->K r w1):
 aA P f (.el (.one .slice)) args w K:=λw1 h=>(hc w1 (H.ext h)).mono λx d ⟨b,c⟩=>by
 obtain:=(H.ext h).ab0 c b
 grind
end
def NC (o:Av):Prop:= ∀a t f,o≠ .cells a t f
def Ob (l:Nat) (w w':A2):Prop:= ∀r o,r≠l->NC o->w.heap[r]? =some o->w'.heap[r]? =some o
theorem Ob.trans {l:Nat} {a b c:A2} (h:Ob l a b) (k:Ob l b c):Ob l a c:=λr o d e f=>k r o d e (h r o d e f)
theorem Ob.uX {l:Nat} {a b:A2} (h:Ext a b):Ob l a b:=λ_ _ _ _ c=>h.obj c
theorem Ob.put (l:Nat) (w:A2) (o:Av):Ob l w (w.putObj l o):=λr o' a _ b=>by rw[fG a];grind
structure JK {T:Type} (bm:Nat) (mc:List AN->Prop) (J:List T->List (Nat×List AN)->List (Nat×Av)->A2->Prop):Prop where
 step: ∀{a X O w w' l' Y},J a X O w->Fr [bm] w w'->bN w' bm l'->mc l'->(∀y∈Y,w.heap.size<=y.1/\bN w' y.1 y.2)->(Y.map (·.1)).Nodup->J a (Y++X) O w'
 mem: ∀{a X O w},J a X O w-> ∃l,mc l/\bN w bm l
 dm: ∀{a X O w x},J a X O w->x∈X->x.1≠bm/\bN w x.1 x.2
 obj: ∀{a X O w r o},J a X O w->(r,o)∈O->w.heap[r]? =some o
 alO: ∀{a X O w o},J a X O w->NC o->J a X ((w.heap.size,o)::O) (w.alloc o)
 Z4: ∀{a X O w r o o'},J a X ((r,o)::O) w->NC o'->J a X ((r,o')::O) (w.putObj r o')
 sub: ∀{a X O X' O' w},J a X O w->(∀x∈X',x∈X)->O'.Sublist O->J a X' O' w
 perm: ∀{a X O O' w},J a X O w->O'.Perm O->J a X O' w
def Yd {T:Type} (P:CX) (y:Nat) (b:T->List AN) (N:Nat) (J:List T->List (Nat×List AN)->List (Nat×Av)->A2->Prop):Prop:=
 ∀a x X O w (R:Bool->A2->Prop),a.length<N->J a X O w->(∀w',J (a++[x]) X O w'->R true w')->mq P y (b x) w R
def ItJ {T:Type} (P:CX) (b:DB) (args:Nat->List AN) (c:T->List AN) (N bm:Nat) (mc:List AN->Prop) (d:List (Nat×List AN)) (xs:List T):Prop:=
 ∀(y:Nat) (J:List T->List (Nat×List AN)->List (Nat×Av)->A2->Prop),JK bm mc J->Yd P y c N J-> ∀a X O w,a.length+xs.length<=N->(∀x∈d,x∈X)->J a X O w->
  Calls P b ⟨args y⟩ w (λe w'=> ∃v,e= .returned v/\J (a++xs) X O w')
section
variable {T:Type} {bm:Nat} {mc:List AN->Prop} {J:List T->List (Nat×List AN)->List (Nat×Av)->A2->Prop} {a:List T} {X:List (Nat×List AN)} {O:List (Nat×Av)} {w w':A2}
theorem JK.ext (K:JK bm mc J) (j:J a X O w) (h:Ext w w'):J a X O w':=by
 obtain⟨l,h1,b⟩:=K.mem j;exact K.step (Y:=[]) j (.uX h) (b.ext h) h1 (by grind) (by grind)
theorem JK.tg (K:JK bm mc J) (j:J a X O w) {Y:List (Nat×List AN)} {l':List AN} (H:At [bm] w w' (Y++[(bm,l')])) (c:mc l'):J a (Y++X) O w':=by
 have b:=H.nd;rw[FO,H5] at b;refine K.step j H.fr (H.dm (bm,l') (by simp)) c (λy d=>⟨?_,H.dm y (by grind)⟩) b.1;rcases H.own y (by grind)
 ·grind
 grind
theorem JK.at0 (K:JK bm mc J) (j:J a X O w): ∃l,mc l/\At [bm] w w [(bm,l)]:=by
 obtain⟨l,h1,b⟩:=K.mem j;exact⟨l,h1,At.rO b⟩
theorem JK.close (K:JK bm mc J): ∀(D:List Nat) {w:A2},J a X (D.map (λr=>(r,Obj.deferred (some [])))++O) w->DD D w/\J a X O (mw D w)
 |[], _,j=>⟨trivial,j⟩
 |r::D,w,j=>by
  have h:=K.obj j (r:=r) (o:= .deferred (some [])) (by simp);have b:=K.Z4 (o':= .deferred none) j λ_=>by grind
  obtain⟨h1,c⟩:=K.close D (K.sub b (λ_ h=>h) (Do _ _));exact⟨⟨h,h1⟩,c⟩
theorem JK.sq (K:JK bm mc J) (D:List Nat) (j:J a X (D.map (λr=>(r,Obj.deferred (some [])))++O) w) {Q:A2->Prop} (k: ∀w1,J a X O w1->Q w1):sq D w Q:=λw1 h1=>by
 obtain:=K.close D (K.ext j h1)
 grind
abbrev NF (rec:Loop):Av:= .loop {rec with state:= .ready,pending:=none}
abbrev lpB (rec:Loop):Av:= .loop {rec with state:= .busy,pending:=none}
theorem Ip (rec:Loop) (st:LoopState) (a:Option Code):NC (.loop {rec with state:=st,pending:=a}):=λe=>by grind
theorem Da.Xt (K:JK bm mc J) {l n m:Nat} {rec:Loop} (j:J a X ((l,NF rec)::O) w) {Q:Prop} (b:n=m) (k:Q):Da l rec n m w Q:=⟨⟨none,K.obj j (by simp)⟩,b,k⟩
theorem BM.Xt (K:JK bm mc J) {l:Nat} {rec:Loop} (j:J a X ((l,NF rec)::O) w) {Q:A2->Prop} (k: ∀wb,J a X ((l,lpB rec)::O) wb->Q wb):BM l rec w Q:=λd c=>by
 have b:=K.ext j c;exact⟨none,K.obj b (by simp),k _ (K.Z4 b (Ip rec _ _))⟩
theorem sk.Xt (K:JK bm mc J) {l:Nat} {rec:Loop} (j:J a X ((l,lpB rec)::O) w) {R:Bool->A2->Prop} (k: ∀b,J a X ((l,NF rec)::O) b->R true b):sk l rec none w R:=λe d=>by
 have c:=K.ext j d;exact⟨.busy,none,K.obj c (by simp),k _ (K.Z4 c (Ip rec _ _))⟩
theorem dB.Xt (K:JK bm mc J) {l:Nat} {rec:Loop} (j:J a X ((l,NF rec)::O) w) {Kn Kr:A2->Prop} {Kx:Nat->A2->Prop} (k: ∀b,J a X O b->Kn b):dB l rec w Kn Kx Kr:=
 ⟨.ready,.none,K.obj j (by simp),by simp,k _ (K.sub (K.Z4 j (Ip rec _ _)) (λ_ h=>h) (by grind))⟩
end
section
variable {D G:List Nat} {w0 w:A2} {L:List (Nat×List AN)}
theorem BM.goO {l:Nat} {rec:Loop} {K:A2->Prop} (h:xX D G w0 w L l rec) (k: ∀wb,At (L.map (·.1)) wb wb L->Z2 D G w0 wb L l rec->Ob l w wb->K wb):BM l rec w K:=λg a=>by
 obtain⟨c,H,e⟩:=h;have f:=H.ext a;have b:=e.ext a;have d:=f.sS c b .busy none;exact⟨none,b,k _ d.again ⟨c,d,b.put _ _⟩ ((Ob.uX a).trans (Ob.put _ _ _))⟩
theorem Ob.tg {l:Nat} {wb a:A2} {L':List (Nat×List AN)} (H:aJ D G w0 wb L) (c:At (L.map (·.1)) wb a L'):Ob l wb a:=λr o _ d b=>by
 rw[c.fr.block r (Df.1 b).1 λf=>?_]
 ·grind
 ·obtain⟨x,g,e⟩:=Al.1 f;exact aJ.db (H.dm x g) b d e
theorem sk.lx {l:Nat} {rec:Loop} {wb f:A2} {L':List (Nat×List AN)} {R:Bool->A2->Prop} (h:Z2 D G w0 wb L l rec) (b:At (L.map (·.1)) wb f L') (k: ∀a,xX D G w0 a L' l rec->Ob l wb a->R true a):sk l rec none f R:=λa c=>by
 obtain⟨g,H,d⟩:=h;have i:=(H.join (λx j=>j) b).ext c;have m:=d.same (b.fr.block l d.lt (rX H d).2);have e:=m.ext c;exact⟨.busy,none,e,k _ ⟨g,i.sS g e _ _,e.put _ _⟩ (((Ob.tg H b).trans (Ob.uX c)).trans (Ob.put _ _ _))⟩
theorem zX.N2 {T:Type} {P:CX} {fY:DB} {args:Nat->List AN} {ps:Array Nat} {em:T->List AN} {Rd:Nat->Loop->T->A2->(Bool->A2->Prop)->Prop} {Af:Nat->Loop->A2->Prop} {N bm:Nat} {mc:List AN->Prop} {X0:List (Nat×List AN)} {xs:List T}
 {F:List AN} {Z5 Lb:List (Nat×List AN)} (H:aJ D G w0 w (Z5++((bm,F)::Lb))) (hm0:mc F) (It:ItJ P fY args em N bm mc X0 xs) (hX: ∀x∈X0,x∈Lb) (hN:xs.length<=N) (B:List T->List (Nat×List AN)->Prop) (h0:B [] Z5)
 (yh: ∀b x c Z r l rec p (R:Bool->A2->Prop),b.length<N->B b c->xX (r::D) G w0 p (c++Z) l rec->(∀I w',B (b++[x]) I->xX (r::D) G w0 w' (I++Z) l rec->Ob l p w'->R true w')->Rd l rec x p R)
 (haf: ∀r rec M l' c,mc l'->B xs c->xX (r::D) G w0 M (c++((bm,l')::Lb)) (r+1) rec->Af r rec M):zX P fY args ps w em Rd Af:=by
 intro w1 h1 rec _ _ vo Xj o8;have H1:=H.ext h1;have sz:(w1.alloc (.deferred (some []))).heap.size=w1.heap.size+1:=lI _ _;have Ae:rec={rec with state:= .ready,pending:= .none}:=by rw[<-vo, <-Xj]
 have iu:w0.heap.size<=w1.heap.size:=H1.fr.size;have hW:xX (w1.heap.size::D) G w0 ((w1.alloc (.deferred (some []))).alloc (.loop rec)) (Z5++((bm,F)::Lb)) (w1.heap.size+1) rec:=by
  refine⟨by omega,?_,?_⟩
  ·have C:=(H1.rM (.deferred (some []))).rM (.loop rec);refine⟨C.fr,C.dm,C.own,C.nd,λr f=>?_⟩;rcases B5.1 f with rfl|f
   ·exact⟨iu,(Ext.alloc _ _).obj (fx w1 _)⟩
   ·exact C.pO r f
  ·have:=fx (w1.alloc (.deferred (some []))) (.loop rec);rw[sz] at this;unfold cT;rw[this, <-Ae]
 generalize hR:w1.heap.size=rr at*
 let J:List T->List (Nat×List AN)->List (Nat×Av)->A2->Prop:=λb X O w'=> ∃l' c Y,mc l'/\B b c/\xX (rr::D) G w0 w' (c++((bm,l')::(Y++Lb))) (rr+1) rec/\(∀x∈X,x∈Y++Lb)/\(∀x∈O,w'.heap[x.1]? =some x.2/\NC x.2/\w0.heap.size<=x.1/\x.1≠rr+1/\x.1∉rr::D)/\(O.map (·.1)).Nodup
 have K:JK bm mc J:=by
  refine⟨?_,?_,?_,?_,?_,?_,?_,?_⟩
  ·rintro b X O k p Q t ⟨l',c,Y,hm,i,⟨h1,d,q⟩,a,g,j⟩ S hb hl hy hyn;have u:(bm,l')∈c++((bm,l')::(Y++Lb)):=by simp
   have dx: ∀x∈c++(Y++Lb),bN p x.1 x.2/\x.1<k.heap.size:=λx a=>by
    have zY:x∈c++((bm,l')::(Y++Lb)):=by
     rcases Fp.1 a with h|h
     ·exact C7 _ h
     ·exact DK _ (B8 _ h)
    have hk:=d.dm x zY;refine⟨S.dm ?_ hk,hk.lt⟩;intro hc;rw[DE] at hc;have y:=d.nd;have s:((bm,l')::(c++(Y++Lb))).Perm (c++((bm,l')::(Y++Lb))):=B4.symm;have A:=((s.map (·.1)).nodup_iff).2 y;rw[BQ,B9] at A;exact A.1 (Al.2 ⟨x,a,hc⟩)
   refine⟨Q,c,t++Y,hl,i,⟨h1,?_,?_⟩,λx m=>?_,λx m=>?_,j⟩
   ·have y:=d.nd;have s:((bm,l')::(c++(Y++Lb))).Perm (c++((bm,l')::(Y++Lb))):=B4.symm;have A:=((s.map (·.1)).nodup_iff).2 y;have sL:((bm,Q)::(t++(c++(Y++Lb)))).Perm (c++((bm,Q)::(t++Y++Lb))):=by
     refine List.Perm.trans (C9 _ ?_) B4.symm;rw[FN, <-FN t c, <-FN c t];exact List.perm_append_comm.append_right _
    refine aJ.perm (L:=(bm,Q)::(t++(c++(Y++Lb)))) ?_ sL.symm;refine d.frame S (λx a=>?_) (λr f a=>?_) (λx a=>?_) (λx a=>?_) ?_
    ·rw[DE.1 a];exact d.own (bm,l') u
    ·rw[DE] at a;exact aJ.db (d.dm (bm,l') u) (d.pO r f).2 (λ_ _ _ hc=>by cases hc) a.symm
    ·rcases B5.1 a with rfl|a
     ·exact hb
     ·rcases Fp.1 a with a|a
      ·exact(hy x a).2
      ·exact(dx x a).1
    ·rcases B5.1 a with rfl|a
     ·exact d.own (bm,l') u
     ·rcases Fp.1 a with a|a
      ·exact .inl (DA d.fr.size (hy x a).1)
      ·refine d.own x ?_;rcases Fp.1 a with h|h
       ·exact C7 _ h
       ·exact DK _ (B8 _ h)
    ·rw[BQ,B9] at A;rw[BQ,FO,B9,H5];have fresh: ∀x∈t, ∀z,z<k.heap.size->x.1≠z:=λx a z hz e=>by
      have:=(hy x a).1;omega
     refine⟨λhm=>?_,hyn,A.2,λx a z hz e=>?_⟩
     ·rcases Fp.1 hm with hm|hm
      ·obtain⟨x,a,e⟩:=Al.1 hm;exact fresh x a bm (d.dm (bm,l') u).lt e
      ·exact A.1 hm
     ·obtain⟨x1,ri,e1⟩:=Al.1 a;obtain⟨z1,hz1,e2⟩:=Al.1 hz;exact fresh x1 ri z1.1 (dx z1 hz1).2 (by rw[e1,e2,e])
   ·refine q.same (S.block _ q.lt (λhc=>?_));rw[DE] at hc;exact aJ.db (d.dm (bm,l') u) q (λ_ _ _ hc=>by cases hc) hc.symm
   grind
   ·obtain⟨o1,n,E⟩:=g x m;refine⟨?_,n,E⟩;rw[S.block x.1 (Df.1 o1).1 (λhc=>?_)]
    ·exact o1
    ·rw[DE] at hc;exact aJ.db (d.dm (bm,l') u) o1 n hc.symm
  ·rintro b X O k ⟨l',c,Y,hm,i,f,a,g,j⟩;exact⟨l',hm,f.2.1.dm (bm,l') (by simp)⟩
  ·rintro b X O k x ⟨l',c,Y,hm,i,f,a,g,j⟩ m;have s:((bm,l')::(c++(Y++Lb))).Perm (c++((bm,l')::(Y++Lb))):=B4.symm;have d:=f.2.1.perm s;have U:x∈c++(Y++Lb):=DK _ (a x m);refine⟨λe=>?_,d.dm x (B8 _ U)⟩;have y:=d.nd;rw[BQ,B9] at y;exact y.1 (Al.2 ⟨x,U,e⟩)
  ·rintro b X O k r o ⟨l',c,Y,hm,i,f,a,g,j⟩ U;exact(g (r,o) U).1
  ·rintro b X O k o ⟨l',c,Y,hm,i,⟨h1,d,q⟩,a,g,j⟩ Xd;have V:=Ext.alloc k o;refine⟨l',c,Y,hm,i,⟨h1,d.rM o,q.ext V⟩,a,λx m=>?_,?_⟩
   ·rcases B5.1 m with rfl|m
    ·refine⟨fx k o,Xd,d.fr.size,λe=>?_,λhc=>?_⟩
     ·have:=q.lt;simp only at e;omega
     ·have:=(Df.1 (d.pO _ hc).2).1;simp only at this;omega
    ·obtain⟨o1,n⟩:=g x m;exact⟨V.obj o1,n⟩
   ·rw[BQ,B9];refine⟨λhc=>?_,j⟩;obtain⟨x,m,e⟩:=Al.1 hc;have:=(Df.1 (g x m).1).1;simp only at e;omega
  ·rintro b X O k r o o' ⟨l',c,Y,hm,i,⟨h1,d,q⟩,a,g,j⟩ Xd;obtain⟨o1,n,E,W,o5⟩:=g (r,o) C8;rw[BQ,B9] at j;refine⟨l',c,Y,hm,i,⟨h1,d.putObj E o1 n o5,?_⟩,a,λx m=>?_,?_⟩
   ·unfold cT;rw[fG (λe=>W e.symm)];exact q
   ·grind[kf,B8,fG]
   ·rw[BQ,B9];exact j
  ·rintro b X O X' O' k ⟨l',c,Y,hm,i,f,a,g,j⟩ hs hO;exact⟨l',c,Y,hm,i,f,λx h=>a x (hs x h),λx h=>g x (hO.subset h),(hO.map _).nodup j⟩
  ·rintro b X O O' k ⟨l',c,Y,hm,i,f,a,g,j⟩ s;exact⟨l',c,Y,hm,i,f,a,λx h=>g x (s.subset h),(s.map _).nodup_iff.2 j⟩
 have Y:Yd P (rr+1) em N J:=by
  rintro b x X O p R hb ⟨l',c,Y,hm,i,f,a,g,j⟩ hR;refine o8 x p R (yh b x c _ rr (rr+1) rec p R hb i f λI w' uF S8 hO=>hR w' ⟨l',I,Y,hm,uF,S8,a,λx h=>?_,j⟩);obtain⟨o1,n,E,W,o5⟩:=g x h;exact⟨hO _ _ W n o1,n,E,W,o5⟩
 refine Calls.mono (It (rr+1) J K Y [] Lb [] _ (by simpa using hN) hX ⟨F,Z5,[],hm0,h0,hW,λx h=>h,λx h=>(by cases h),FP⟩) ?_;rintro e M ⟨v,V,l',c,Y,hm,i,f,a,g,j⟩;refine⟨v,V,haf rr rec M l' c hm i ⟨f.1,f.2.1.sub ?_,f.2.2⟩⟩;exact List.Sublist.append (S7 _) (T0 _ (NE _ _))
end
end Go.RX
namespace Go.Proofs.YtlcenllcmeebhaaGreat
set_option maxRecDepth 100000
open Go.RX
def du (e:El) (s:Option AA×Nat×Nat) (xs:List e.T) (Ls:List (Nat×List AN)):Prop:=
 s.2.1=xs.length/\xs.length<=s.2.2/\((s.1=none/\s.2.2=0/\Ls=[])\/ ∃bs rest,s.1=some ⟨bs,0,none⟩/\Ls=[(bs,flat e xs++rest)]/\s.2.2*aD e<=(flat e xs++rest).length)
theorem du.nil (e:El):du e (none,0,0) [] []:=⟨rfl,Dd _,.inl ⟨rfl,rfl,rfl⟩⟩
section
variable {D G:List Nat} {w0 w w1:A2} {L L0 Ls:List (Nat×List AN)} {e:El} {s:Option AA×Nat×Nat} {xs:List e.T}
theorem du.sl (h:du e s xs Ls) (H:aJ D G w0 w L) (b: ∀x∈Ls,x∈L):Sl w e s.1 xs:=by
 obtain⟨h1,f,⟨a1,a,c⟩|⟨bs,rest,a1,a,c⟩⟩:=h
 ·have:xs=[]:=H7 (by omega);subst this;intro i x d;simp at d
 ·rw[a1];refine Sl.jL (H.dm _ (b _ (by rw[a];exact DE.2 rfl))) ?_;rw[JN (by rw[aF];exact Dd _),JP (by rw[aF];exact Dd _)]
theorem du.oE (h:du e s xs Ls) (H:aJ D G w0 w L) (b: ∀x∈Ls,x∈L):oE w s.1 (s.2.1*aD e) (flat e xs):=by
 obtain⟨h1,d,⟨a1,a,c⟩|⟨bs,rest,a1,a,c⟩⟩:=h
 ·have:xs=[]:=H7 (by omega);subst this;rw[a1];rfl
 ·rw[a1];refine bN.oE (vs:=flat e xs) (H.dm _ (b _ (by rw[a];exact DE.2 rfl))) (by rw[aF,h1]) λi hi=>?_;rw[Bs,H4 (by rw[aF, <-h1];exact hi)]
theorem aJ.TN (H:aJ D G w0 w (Ls++L0)) (m:du e s xs Ls) (u:gW e=true) {q:Option AA×Nat×Nat} {ys:List e.T} (a:q.2.1=ys.length) (v:Go.RX.oE w q.1 (q.2.1*aD e) (flat e ys))
 {t:FM} {size bytes:Nat} {z:Array AN} (y:size=aD e) (A:z.size=aD e) (hb:(xs.length+ys.length)*bytes<=140737488355328) {R:Option AA×Nat×Nat->A2->Prop}
 (k: ∀s' n w',du e s' (xs++ys) n->aJ D G w0 w' (n++L0)->R s' w'):mD w t size bytes z s q R:=by
 subst y;have B:=m.oE H (λx g=>C7 _ g);obtain⟨h1,K,C⟩:=m;have h:=aF e xs;have E:=aF e ys;refine⟨flat e xs,flat e ys,B,v,λb=>?_,λb=>⟨growslice_fits b (by rw[h1,a];exact hb),λc hc=>?_⟩⟩
 ·rcases C with ⟨a1,d,f⟩|⟨bs,rest,a1,d,f⟩
  ·rw[d] at b;have F:ys=[]:=H7 (by omega);have g:xs=[]:=H7 (by omega);subst F;subst g;subst f;refine⟨.inl rfl,?_⟩;rw[a1];exact k _ [] _ ⟨by rw[h1,a];rfl,GH _,.inl ⟨rfl,d,rfl⟩⟩ H
  ·subst d;have I:s.1.map (·.add (s.2.1*aD e))=some ⟨bs,xs.length*aD e,none⟩:=by rw[a1,h1];simp[NW]
   rw[I];have j:xs.length*aD e+(flat e ys).length<=(flat e xs++rest).length:=by
    rw[E, <-JZ];exact DA (GS _ (by rw[<-h1, <-a];exact b)) f
   refine⟨.inr ⟨(H.get (i:=0) rfl).st j,jU e ys u⟩,?_⟩;have p:=H.put 0 (o:=xs.length*aD e) rfl (flat e ys) j;have l:(flat e xs++rest).take (xs.length*aD e)=flat e xs:=List.take_left' h;have J:(flat e xs++rest).drop (xs.length*aD e+(flat e ys).length)=rest.drop (flat e ys).length:=by rw[<-h,N9]
   rw[l,J, <-FN, <-dN] at p;refine k (s.1,s.2.1+q.2.1,s.2.2) [(bs,flat e (xs++ys)++rest.drop (flat e ys).length)] _ ⟨by rw[h1,a,Bx],by rw[Bx, <-h1, <-a];exact b,.inr ⟨bs, _,a1,rfl,?_⟩⟩ p;refine DA f ?_;rw[dN];simp only[Bx,Fu];simp only[Bx,h] at j;omega
 ·have r:=(H.ext (Ext.drew w)).alloc (flat e xs++flat e ys++(Gi z (c - (s.2.1+q.2.1))).toList) t;have l:(M4 (flat e xs)++M4 (flat e ys)++Gi z (c - (s.2.1+q.2.1)))=⟨flat e xs++flat e ys++(Gi z (c - (s.2.1+q.2.1))).toList⟩:=by
   apply LL;simp
  rw[l];rw[<-dN] at r ⊢;refine k _ [(w.heap.size,flat e (xs++ys)++(Gi z (c - (s.2.1+q.2.1))).toList)] _ ⟨by rw[h1,a,Bx],by rw[Bx, <-h1, <-a];exact hc,.inr ⟨_, _,rfl,rfl,?_⟩⟩ (r.sub ((NE Ls L0).cons_cons _));simp only[Bx,aF,Gi,Array.length_toList,Array.size_map,Array.size_range,A];rw[<-JZ];exact GS _ (by omega)
theorem du.st {i:Nat} (h:du e s xs Ls) (H:aJ D G w0 w (Ls++L0)) (hi:i<xs.length) (y:e.T) {vs:List AN} (hv:vs=cellsOf e y) (d:gW e=true) {K:A2->Prop}
 (k: ∀b w1,du e s (xs.set i y) b->aJ D G w0 w1 (b++L0)->K w1):az w (ad s.1 (i*aD e)) vs K:=by
 obtain⟨h1,f,⟨a1,c,a⟩|⟨bs,rest,a1,c,a⟩⟩:=h
 ·omega
 ·subst c;rw[a1];refine az.flat 0 H y rfl hv d hi λw1 g=>k [(bs,flat e (xs.set i y)++rest)] w1 ⟨by rw[JR];exact h1,by rw[JR];exact f,.inr ⟨bs,rest,a1,rfl,?_⟩⟩ g;rw[Bx,aF] at a ⊢;rw[JR];exact a
theorem aj.kO (H:aJ D G w0 w L) {b n:Nat} {l:List AN} (a:(b,l)∈L) {g:Option Bool} {el:El} {K:el.T->Prop} {x:el.T} (hv:k_ l n el=some x) (k:K x):aj w g (ad (ae b) n) el K:=by
 obtain⟨j,c⟩:=GD a;exact aj.cw j H c (by rw[Bs];exact hv) k
end
end Go.Proofs.YtlcenllcmeebhaaGreat
namespace Go.Proofs.YtlcenllcmeebhaaGreat.Mu
set_option maxRecDepth 100000
open Go.RX
abbrev sLn:List Sc:=[.int .i64,.int .i64,.int .i64,.int .i64]
abbrev ky:El:= .agg sLn
noncomputable def U0:dI AC:={C0 with quiet:=[140,150,204,149,148,106,114,237]}
noncomputable def U1:dI AC:={U0 with quiet:=236::116::U0.quiet}
theorem Kk (t p f r:Int) (w:A2) (j:Bool->A2->Prop):(aI U0 (λ_=>[]) 204 [.agg ⟨[aa t,aa p,aa f,aa r]⟩] w j)=(
 aM w ⟨[aa t,aa p,aa f,aa r]⟩ 96 λb d=>true=true/\aW d (ad (ae b) 0) λx=>(decide (x>=1)=true->true=true)/\aj d (some (decide (x>=1))) (ad (ae b) 0) aX λ(a:Int)=>((decide (x>=1)&&decide (a<=16))=true->true=true)/\aj d (some (decide (x>=1)&&decide (a<=16))) (ad (ae b) 1) aX λ(c:Int)=>((decide (x>=1)&&decide (a<=16)&&decide (c>=0))=true->true=true)/\aj d (some (decide (x>=1)&&decide (a<=16)&&decide (c>=0))) (ad (ae b) 1) aX λ(e:Int)=>((decide
 (x>=1)&&decide (a<=16)&&decide (c>=0)&&decide (e<65536))=true->true=true)/\aj d (some (decide (x>=1)&&decide (a<=16)&&decide (c>=0)&&decide (e<65536))) (ad (ae b) 2) aX λ(g:Int)=>((decide (x>=1)&&decide (a<=16)&&decide (c>=0)&&decide (e<65536)&&decide (g>=0))=true->true=true)/\aj d (some (decide (x>=1)&&decide (a<=16)&&decide (c>=0)&&decide (e<65536)&&decide (g>=0))) (ad (ae b) 2) aX λ(h:Int)=>((decide (x>=1)&&decide (a<=16)&&decide (c>=0)&&decide (e<
 65536)&&decide (g>=0)&&decide (h<4096))=true->true=true)/\aj d (some (decide (x>=1)&&decide (a<=16)&&decide (c>=0)&&decide (e<65536)&&decide (g>=0)&&decide (h<4096))) (ad (ae b) 3) aX λ(i:Int)=>((decide (x>=1)&&decide (a<=16)&&decide (c>=0)&&decide (e<65536)&&decide (g>=0)&&decide (h<4096)&&decide (i>=1))=true->true=true)/\aj d (some (decide (x>=1)&&decide (a<=16)&&decide (c>=0)&&decide (e<65536)&&decide (g>=0)&&decide (h<4096)&&decide (i>=1))) (ad (ae b)
 3) aX λ(k:Int)=>au d (j (decide (x>=1)&&decide (a<=16)&&decide (c>=0)&&decide (e<65536)&&decide (g>=0)&&decide (h<4096)&&decide (i>=1)&&decide (k<=7)))):=by kernel_rfl
theorem YY (t p f r a b:Int) (w:A2) (e:Bool->A2->Prop):(aI U0 (λ_=>[]) 150 [.agg ⟨[aa t,aa p,aa f,aa r]⟩,aa a,aa b] w e)=(
 aM w ⟨[aa t,aa p,aa f,aa r]⟩ 96 λd c=>aj c none (ae d) dQ λ(x:Int×Int×Int×Int×Unit)=>true=true/\aW c (ad (ae d) 2) λg=>true=true/\aW c (ad (ae d) 3) λh=>au c λw1=>e (x.1==a&&(x.2.1==b&&(x.2.2.1==g&&(x.2.2.2.1==h&&true)))) w1):=by kernel_rfl
theorem Kl (p:Option AA) (w:A2) (a:Bool->A2->Prop):(aI U0 (λ_=>[]) 140 [ag p] w a)=(
 ((!p.isNone)=true->p.isSome=true)/\((!p.isNone)=true->p.isSome=true)/\aj w (some !p.isNone) (ad p 1) aX λ(x:Int)=>au w (a (!p.isNone&&decide (x>0)))):=by kernel_rfl
theorem Ud (p:Option AA) (i:Int) (w:A2) (c:Unit->A2->Prop):(aI U0 (λ_=>[]) 196 [ag p,aa i] w c)=(
 fe p 0 w λx=>(0<=(↑0:Int)/\(↑0:Int)<=i/\i<=i/\i<=(↑x.2.2:Int))/\fe p 0 w λa=>(0<=aL .i64 i 1/\aL .i64 i 1<=(↑a.2.1:Int)/\(↑a.2.1:Int)<=(↑a.2.2:Int)/\(↑a.2.2:Int)<=(↑a.2.2:Int))/\ ∀w1,Ext w w1->mD w1 96 4 32 ⟨[aa 0,aa 0,aa 0,aa 0]⟩ (G1 (λ(h:i.toNat=(↑0:Int).toNat->False)=>ad x.1 0) (λ(h:i.toNat=(↑0:Int).toNat)=>x.1) (instDecidableEqNat i.toNat 0),i.toNat - 0,i.toNat - 0) (G1 (λ(h:(↑a.2.2:Int).toNat=(aL .i64 i 1).toNat->False)=>ad
 a.1 ((aL .i64 i 1).toNat*4)) (λ(h:(↑a.2.2:Int).toNat=(aL .i64 i 1).toNat)=>a.1) (instDecidableEqNat (↑a.2.2:Int).toNat (aL .i64 i 1).toNat),(↑a.2.1:Int).toNat - (aL .i64 i 1).toNat,(↑a.2.2:Int).toNat - (aL .i64 i 1).toNat) λ(r:Option AA×Nat×Nat) b=>p.isSome=true/\p.isSome=true/\az b (ad p 0) [.slice r.1 r.2.1 r.2.2] λb=>au b (c ())):=by kernel_rfl
theorem GQ (t p f r:Int) (c d:Option AA) (w:A2) (e:Bool->A2->Prop):(aI U0 (λ_=>[]) 149 [.agg ⟨[aa t,aa p,aa f,aa r]⟩,ag c,ag d] w e)=(
 aM w ⟨[aa t,aa p,aa f,aa r]⟩ 96 λb a=>aj a none (ae b) dQ λ(x:Int×Int×Int×Int×Unit)=>aW a c λh=>aW a d λi=> ∃g,af AC 150 [.agg ⟨[aa x.1,aa x.2.1,aa x.2.2.1,aa x.2.2.2.1]⟩,aa h,aa i] a (.bool g)/\au a (e g)):=by kernel_rfl
theorem Km (t p f r:Int) (c:Option AA) (w:A2) (d:Bool->A2->Prop):(aI U0 (λ_=>[]) 148 [.agg ⟨[aa t,aa p,aa f,aa r]⟩,ag c] w d)=(
 aM w ⟨[aa t,aa p,aa f,aa r]⟩ 96 λb a=>true=true/\aW a (ad (ae b) 0) λx=>aW a c λe=>au a (d (x==e))):=by kernel_rfl
def pJ:Nat->a8:=(λ|5=>[(5,Go.RX.El.one (Go.RX.Sc.int Ay)),(6,Go.RX.El.one (Go.RX.Sc.int Ay))]| _=>[])
theorem GR (p c d:Option AA) (w:A2) (e:Int->A2->Prop):(aI U0 pJ 147 [ag p,.func (.func 149) #[] #[ag c,ag d]] w e)=(
 ∃x,af AC 140 [ag p] w (.bool x)/\aH (!x) (au w (e 0)) (fe p 0 w λx=> ∃(I:Nat->Int×Int×Unit->A2->Prop),(∃n, ∀w1,Ext w w1->I n (0,aZ .i64 (↑x.2.1:Int) 1,()) w1)/\ ∀(n:Nat) (s:Int×Int×Unit) (w1:A2),I n s w1->aH (decide (s.2.1>=0)) (fe p 0 w1 λx=>(x.1.isSome=true/\0<=s.2.1/\s.2.1<(↑x.2.1:Int))/\aj w1 none (ad x.1 (B1 s.2.1*4)) dQ λ(x:Int×Int×Int×Int×Unit)=> ∃f,af AC 149 [.agg ⟨[aa x.1,aa x.2.1,aa x.2.2.1,aa x.2.2.2.1]⟩,.pointer
 c,ag d] w1 (.bool f)/\aH f (aA AC 196 (.bA []) [ag p,aa s.2.1] w1 λx g=> ∀a,Ext g a-> ∃(b:Nat),b<n/\I b (aL .i64 s.1 1,aZ .i64 s.2.1 1,()) a) (∀a,Ext w1 a-> ∃(b:Nat),b<n/\I b (s.1,aZ .i64 s.2.1 1,()) a)) (au w1 (e s.1)))):=by kernel_rfl
def pK:Nat->a8:=(λ|5=>[(5,Go.RX.El.one (Go.RX.Sc.int Ay)),(6,Go.RX.El.one (Go.RX.Sc.int Ay))]| _=>[])
theorem GU (p c:Option AA) (w:A2) (d:Int->A2->Prop):(aI U0 pK 147 [ag p,.func (.func 148) #[] #[ag c]] w d)=(
 ∃x,af AC 140 [ag p] w (.bool x)/\aH (!x) (au w (d 0)) (fe p 0 w λx=> ∃(I:Nat->Int×Int×Unit->A2->Prop),(∃n, ∀w1,Ext w w1->I n (0,aZ .i64 (↑x.2.1:Int) 1,()) w1)/\ ∀(n:Nat) (s:Int×Int×Unit) (w1:A2),I n s w1->aH (decide (s.2.1>=0)) (fe p 0 w1 λx=>(x.1.isSome=true/\0<=s.2.1/\s.2.1<(↑x.2.1:Int))/\aj w1 none (ad x.1 (B1 s.2.1*4)) dQ λ(x:Int×Int×Int×Int×Unit)=> ∃e,af AC 148 [.agg ⟨[aa x.1,aa x.2.1,aa x.2.2.1,aa x.2.2.2.1]⟩,.pointer
 c] w1 (.bool e)/\aH e (aA AC 196 (.bA []) [ag p,aa s.2.1] w1 λx f=> ∀a,Ext f a-> ∃(b:Nat),b<n/\I b (aL .i64 s.1 1,aZ .i64 s.2.1 1,()) a) (∀a,Ext w1 a-> ∃(b:Nat),b<n/\I b (s.1,aZ .i64 s.2.1 1,()) a)) (au w1 (d s.1)))):=by kernel_rfl
theorem Ko (p:Option AA) (t g:Int) (w:A2) (c:Bool->A2->Prop):(aI U0 (λ_=>[]) 108 [ag p,aa t,aa g] w c)=(
 aM w ⟨[aa t]⟩ 3 λb a=>aM a ⟨[aa g]⟩ 3 λd a=>aA AC 147 (.el aX) [ag p,.func (.func 149) ⟨[]⟩ {toList:=[ag (ae b),ag (ae d)]}] a λ(x:Int) a=>au a (c (decide (x>0)))):=by kernel_rfl
theorem GW (p:Option AA) (t:Int) (w:A2) (c:Int->A2->Prop):(aI U0 (λ_=>[]) 107 [ag p,aa t] w c)=(
 aM w ⟨[aa t]⟩ 3 λb a=>aA AC 147 (.el aX) [ag p,.func (.func 148) ⟨[]⟩ {toList:=[ag (ae b)]}] a λ(x:Int) a=>au a (c x)):=by kernel_rfl
abbrev vS (p:Option AA) (e:Int->A2->Prop) (d:A2) (f:Nat):Prop:=
 fe p 0 d λx=>aj d none (ae f) dQ λ(c:Int×Int×Int×Int×Unit)=>aM d ⟨[aa c.1,aa c.2.1,aa c.2.2.1,aa c.2.2.2.1]⟩ 96 λb a=> ∀w1,Ext a w1->mD w1 96 4 32 ⟨[aa 0,aa 0,aa 0,aa 0]⟩ (x.1,x.2.1,x.2.2) (some ⟨b,0,none⟩,1,1) λ(r:Option AA×Nat×Nat) a=>p.isSome=true/\p.isSome=true/\az a (ad p 0) [.slice r.1 r.2.1 r.2.2] λa=>au a (e 0)
theorem PO (p:Option AA) (t g f r:Int) (w:A2) (c:Int->A2->Prop):(aI U0 (λ_=>[]) 159 [ag p,.agg ⟨[aa t,aa g,aa f,aa r]⟩] w c)=(
 aM w ⟨[aa t,aa g,aa f,aa r]⟩ 96 λb a=> ∃x,af AC 140 [ag p] a (.bool x)/\aH (!x) (au a (c 10)) (aj a none (ae b) dQ λ(x:Int×Int×Int×Int×Unit)=> ∃d,af AC 204 [.agg ⟨[aa x.1,aa x.2.1,aa x.2.2.1,aa x.2.2.2.1]⟩] a (.bool d)/\aH (!d) (au a (c 1)) (true=true/\aW a (ad (ae b) 0) λx=>true=true/\aW a (ad (ae b) 1) λe=>aA AC 108 (.el sT) [ag p,aa x,aa e] a λx a=>((!x)=true->p.isSome=true)/\
 ((!x)=true->p.isSome=true)/\aj a (some !x) (ad p 0) fi λh=>((!x)=true->p.isSome=true)/\((!x)=true->p.isSome=true)/\aj a (some !x) (ad p 1) aX λ(i:Int)=>aH (!x&&(↑h.2.1:Int)==i) (aA AC 196 (.bA []) [ag p,aa 0] a λx a=>vS p c a b) (vS p c a b)))):=by kernel_rfl
def tX:Nat->a8:=(λ|4=>[(20,Go.RX.El.one (Go.RX.Sc.int Ay))]| _=>[])
theorem PQ (p:Option AA) (t g k:Int) (w:A2) (c:Int×Int×Unit->A2->Prop):(aI U0 tX 201 [ag p,aa t,aa g,aa k] w c)=(
 ∃x,af AC 140 [ag p] w (.bool x)/\aH (!x) (au w (c (0,10,()))) (fe p 0 w λx=> ∃(I:Nat->Int×Unit->A2->Prop),(∃n, ∀w1,Ext w w1->I n (0,()) w1)/\ ∀(n:Nat) (s:Int×Unit) (w1:A2),I n s w1->aH (decide (s.1<(↑x.2.1:Int))) ((x.1.isSome=true/\0<=s.1/\s.1<(↑x.2.1:Int))/\aj w1 none (ad x.1 (B1 s.1*4)) dQ λ(x:Int×Int×Int×Int×Unit)=>aM w1 ⟨[aa 0,aa 0,aa 0,aa 0]⟩ 96 λb a=>az a (ae b) [aa x.1,aa x.2.1,aa x.2.2.1,.int .i64
 x.2.2.2.1] λa=>aj a none (ae b) dQ λ(x:Int×Int×Int×Int×Unit)=> ∃d,af AC 150 [.agg ⟨[aa x.1,aa x.2.1,aa x.2.2.1,aa x.2.2.2.1]⟩,aa t,aa g] a (.bool d)/\aH (!d) (∀e,Ext a e-> ∃(f:Nat),f<n/\I f (aL .i64 s.1 1,()) e) (((!(decide (k<0)||decide (k>7)))=true->true=true)/\aj a (some !(decide (k<0)||decide (k>7))) (ad (ae b) 3) aX λ(x:Int)=>aH (decide (k<0)||decide (k>7)||fR .i64 k x != 0) (au a (c (0,7,()))) (true=true/\
 aW a (ad (ae b) 2) λx=>au a (c (x,0,()))))) (au w1 (c (0,4,()))))):=by kernel_rfl
theorem Ue (n:Int) (w:A2) (a:Option AA×Int×Unit->A2->Prop):(aI U0 (λ_=>[]) 86 [aa n] w a)=(
 aH (decide (n<1)||decide (n>64)) (au w (a (none,1,()))) (aM w ⟨[.slice none 0 0,aa n]⟩ 227 λb c=>au c (a (some ⟨b,0,none⟩,0,())))):=by kernel_rfl
theorem Kp (p:Option AA) (w:A2) (a:Option AA×Nat×Nat->A2->Prop):(aI U0 (λ_=>[]) 83 [ag p] w a)=(
 ∃x,af AC 140 [ag p] w (.bool x)/\aH (!x) (au w (a (none,0,0))) (fe p 0 w λx=> ∀w1,Ext w w1->mD w1 96 4 32 ⟨[aa 0,aa 0,aa 0,aa 0]⟩ (none,0,0) (x.1,x.2.1,x.2.2) λ(r:Option AA×Nat×Nat) b=>au b (a (r.1,r.2.1,r.2.2)))):=by kernel_rfl
theorem Uf (p:Option AA) (i:Int) (w:A2) (a:Bool->A2->Prop):(aI U0 (λ_=>[]) 106 [ag p,aa i] w a)=(
 ((!p.isNone&&decide (i>=0))=true->p.isSome=true)/\((!p.isNone&&decide (i>=0))=true->p.isSome=true)/\aj w (some (!p.isNone&&decide (i>=0))) (ad p 0) fi λx=>au w λw1=>a (!p.isNone&&decide (i>=0)&&decide (i<(↑x.2.1:Int))) w1):=by kernel_rfl
theorem GX (p:Option AA) (i:Int) (w:A2) (b:Option AA×Nat×Nat->A2->Prop):(aI U0 (λ_=>[]) 202 [ag p,aa i] w b)=(
 fe p 0 w λx=>(0<=(↑0:Int)/\(↑0:Int)<=i/\i<=(↑x.2.2:Int)/\(↑x.2.2:Int)<=(↑x.2.2:Int))/\ ∀w1,Ext w w1->mD w1 202 1 8 ⟨[I1 none]⟩ (none,0,0) (G1 (λ(h:(↑x.2.2:Int).toNat=(↑0:Int).toNat->False)=>ad x.1 0) (λ(h:(↑x.2.2:Int).toNat=(↑0:Int).toNat)=>x.1) (instDecidableEqNat (↑x.2.2:Int).toNat 0),i.toNat - 0,(↑x.2.2:Int).toNat - 0) λ(r:Option AA×Nat×Nat) a=>fe p 0 a λx=>(0<=aL .i64 i 1/\aL .i64 i 1<=(↑x.2.1:Int)/\(↑x.2.1:Int)<=(↑x.2.2:Int)/\(↑x.2.2:Int)<=(↑x.2.2:Int))/\ ∀w1,
 Ext a w1->mD w1 202 1 8 ⟨[I1 none]⟩ (r.1,r.2.1,r.2.2) (G1 (λ(h:(↑x.2.2:Int).toNat=(aL .i64 i 1).toNat->False)=>ad x.1 ((aL .i64 i 1).toNat*1)) (λ(h:(↑x.2.2:Int).toNat=(aL .i64 i 1).toNat)=>x.1) (instDecidableEqNat (↑x.2.2:Int).toNat (aL .i64 i 1).toNat),(↑x.2.1:Int).toNat - (aL .i64 i 1).toNat,(↑x.2.2:Int).toNat - (aL .i64 i 1).toNat) λ(r:Option AA×Nat×Nat) a=>au a (b (r.1,r.2.1,r.2.2))):=by kernel_rfl
def vT:Nat->a8:=(λ|5=>[(14,Go.RX.El.one (Go.RX.Sc.int Ay))]| _=>[])
theorem Ug (n:Int) (w:A2) (c:Option AA×Int×Unit->A2->Prop):(aI U0 vT 85 [aa n] w c)=(
 aH (decide (n<1)||decide (n>8)) (au w (c (none,1,()))) (aM w ⟨[.slice none 0 0,.slice none 0 0]⟩ 205 λb a=> ∃(I:Nat->Int×Unit->A2->Prop),(∃n, ∀w1,Ext a w1->I n (0,()) w1)/\ ∀(e:Nat) (s:Int×Unit) (w1:A2),I e s w1->aH (decide (s.1<n)) (true=true/\true=true/\sU w1 (ad (ae b) 0) λx=> ∀d,Ext w1 d->aM (d.alloc (Obj.chan 16 ⟨[]⟩ false 0 0 false)) ⟨[I1 (some d.heap.size)]⟩ 202 λh a=> ∀w1,Ext a w1->mD w1 202 1 8 ⟨[I1 none]⟩ (x.1,x.2.1,x.2.2) (some ⟨h,0,none⟩,1,1)
 λ(r:Option AA×Nat×Nat) a=>true=true/\true=true/\az a (ad (ae b) 0) [.slice r.1 r.2.1 r.2.2] λa=> ∀f,Ext a f-> ∃(g:Nat),g<e/\I g (aL .i64 s.1 1,()) f) (au w1 (c (some ⟨b,0,none⟩,0,()))))):=by kernel_rfl
theorem PU (p:Option AA) (i:Int) (w:A2) (d:(Int×Int×Int×Unit)×Bool×Unit->A2->Prop):(bV U0 (λ_=>[]) 66 [ag p,aa i] w d)=(
 aM w ⟨[aa 0,aa 0,aa 0]⟩ 147 λb a=> ∃x,af AC 106 [ag p,aa i] a (.bool x)/\aH (!x) (az a (ae b) [aa 0,aa 0,aa 0] λa=>au a λw1=>aj w1 none (ae b) wX λ(x:Int×Int×Int×Unit)=>d ((x.1,x.2.1,x.2.2.1,()),false,()) w1) (fe p 0 a λx=>(x.1.isSome=true/\0<=i/\i<(↑x.2.1:Int))/\aj a none (ad x.1 (i.toNat*1)) (.one .chan) λx=> ∀w1,Ext a w1-> ∃(r:Nat), ∃(cap:Nat), ∃(e:List AN), ∃(s:Nat), ∃(m:Nat),x=some r/\ChO w1 r cap
 e s m/\(e=[]->az w1 (ae b) [aa 0,aa 0,aa 0] λa=>au a λw1=>aj w1 none (ae b) wX λ(x:Int×Int×Int×Unit)=>d ((x.1,x.2.1,x.2.2.1,()),false,()) w1)/\ ∀v (vs:List AN),e=v::vs-> ∃(x:Int×Int×Int×Unit),v= .agg ⟨[aa x.1,aa x.2.1,aa x.2.2.1]⟩/\aM (w1.putObj r (Obj.chan cap {toList:=vs} false s (m+1) false)) ⟨[aa 0,aa 0,aa 0]⟩ 147 λf a=>az a (ae f) [aa x.1,aa x.2.1,aa x.2.2.1] λa=>fe p 1 a λx=>
 true=true/\aW a (ad (ae f) 0) λc=>(x.1.isSome=true/\0<=aZ .i64 c 1/\aZ .i64 c 1<(↑x.2.1:Int))/\aj a none (ad x.1 ((aZ .i64 c 1).toNat*1)) aX λ(g:Int)=>(x.1.isSome=true/\0<=aZ .i64 c 1/\aZ .i64 c 1<(↑x.2.1:Int))/\az a (ad x.1 ((aZ .i64 c 1).toNat*1)) [aa (aZ .i64 g 1)] λa=>aj a none (ae f) wX λ(x:Int×Int×Int×Unit)=>az a (ae b) [aa x.1,aa x.2.1,aa x.2.2.1] λa=>au a λw1=>aj w1 none (ae b) wX λ(x:Int×Int×Int×Unit)=>d
 ((x.1,x.2.1,x.2.2.1,()),true,()) w1)):=by kernel_rfl
def tY:Nat->a8:=(λ|9=>[(52,Go.RX.El.one (Go.RX.Sc.int Ay))]|17=>[(78,Go.RX.El.one (Go.RX.Sc.int Ay))]| _=>[])
theorem PV (p:Option AA) (i t g:Int) (w:A2) (c:Int×Int×Unit->A2->Prop):(aI U0 tY 157 [ag p,aa i,aa t,aa g] w c)=(
 ((!p.isNone)=true->p.isSome=true)/\((!p.isNone)=true->p.isSome=true)/\aj w (some !p.isNone) (ad p 0) fi λx=>aH (p.isNone||(↑x.2.1:Int)==0) (au w (c (0,10,()))) (∃x,af AC 106 [ag p,aa i] w (.bool x)/\aH (!x) (au w (c (0,2,()))) (aH (decide (t<1)||decide (t>16)||decide (g< -1)||decide (g>=65536)) (au w (c (0,1,()))) (aA AC 202 (.el fi) [ag p,aa i] w λx a=> ∃(I:Nat->Int×Unit->A2->Prop),(∃n, ∀w1,Ext a w1->I n (0,()) w1)/\ ∀(n:Nat) (s
 :Int×Unit) (w1:A2),I n s w1->aH (decide (s.1<(↑x.2.1:Int))) ((x.1.isSome=true/\0<=s.1/\s.1<(↑x.2.1:Int))/\aj w1 none (ad x.1 (B1 s.1*1)) (.one .chan) λx=> ∃k,ChL w1 x k/\aH ((↑k:Int)==16) (au w1 (c (0,3,()))) (∀d,Ext w1 d-> ∃(e:Nat),e<n/\I e (aL .i64 s.1 1,()) d)) (fe p 1 w1 λf=>aM w1 ⟨[aa (↑x.2.1:Int)]⟩ 3 λb a=> ∀w1,Ext a w1->mD w1 3 1 8 ⟨[aa 0]⟩ (f.1,f.2.1,f.2.2) (some ⟨b,0,none⟩,1,1) λ(r:Option AA×Nat×Nat) a=>p.isSome=true/\p.isSome=
 true/\az a (ad p 1) [.slice r.1 r.2.1 r.2.2] λa=>fe p 1 a λl=> ∃(I:Nat->Int×Unit->A2->Prop),(∃n, ∀w1,Ext a w1->I n (0,()) w1)/\ ∀(n:Nat) (s:Int×Unit) (w1:A2),I n s w1->aH (decide (s.1<(↑x.2.1:Int))) ((x.1.isSome=true/\0<=s.1/\s.1<(↑x.2.1:Int))/\aj w1 none (ad x.1 (B1 s.1*1)) (.one .chan) λx=> ∀h,Ext w1 h-> ∃(r:Nat), ∃(cap:Nat), ∃(j:List AN), ∃(o:Nat), ∃(m:Nat),x=some r/\ChO h r cap j o m/\j.length<cap/\ ∀d,Ext (h.putObj r (Obj.chan cap {toList:=j.append [.agg
 ⟨[aa (↑l.2.1:Int),aa t,aa g]⟩]} false (o+1) m false)) d-> ∃(e:Nat),e<n/\I e (aL .i64 s.1 1,()) d) (au w1 (c ((↑l.2.1:Int),0,())))))))):=by kernel_rfl
theorem Kq (p:Option AA) (i:Int) (w:A2) (a:Int->A2->Prop):(aI U0 (λ_=>[]) 82 [ag p,aa i] w a)=(
 ∃x,af AC 106 [ag p,aa i] w (.bool x)/\aH (!x) (au w (a 0)) (fe p 0 w λx=>(x.1.isSome=true/\0<=i/\i<(↑x.2.1:Int))/\aj w none (ad x.1 (i.toNat*1)) (.one .chan) λx=> ∃n,ChL w x n/\au w (a (↑n:Int)))):=by kernel_rfl
theorem PW (p:Option AA) (i:Int) (w:A2) (b:Bool->A2->Prop):(aI U0 (λ_=>[]) 161 [ag p,aa i] w b)=(
 ((!p.isNone&&decide (i>=1))=true->p.isSome=true)/\((!p.isNone&&decide (i>=1))=true->p.isSome=true)/\aj w (some (!p.isNone&&decide (i>=1))) (ad p 1) fi λx=>((!p.isNone&&decide (i>=1)&&decide (i<=(↑x.2.1:Int)))=true->p.isSome=true)/\((!p.isNone&&decide (i>=1)&&decide (i<=(↑x.2.1:Int)))=true->p.isSome=true)/\aj w (some (!p.isNone&&decide (i>=1)&&decide (i<=(↑x.2.1:Int)))) (ad p 1) fi λa=>((!p.isNone&&decide (i>=1)&&decide (i<=(↑x.2.1:Int)))=true->a.1.isSome=true/\0<=aZ .i64 i 1/\aZ .i64 i 1<
 (↑a.2.1:Int))/\aj w (some (!p.isNone&&decide (i>=1)&&decide (i<=(↑x.2.1:Int)))) (ad a.1 ((aZ .i64 i 1).toNat*1)) aX λ(c:Int)=>au w λw1=>b (!p.isNone&&decide (i>=1)&&decide (i<=(↑x.2.1:Int))&&c==0) w1):=by kernel_rfl
def vU:Nat->a8:=(λ|5=>[(15,Go.RX.El.one (Go.RX.Sc.int Ay))]| _=>[])
theorem Cs (n:Int) (w:A2) (c:Option AA×Int×Unit->A2->Prop):(aI U0 vU 84 [aa n] w c)=(
 aH (decide (n<1)||decide (n>8)) (au w (c (none,1,()))) (∀w1,Ext w w1->aM (w1.alloc (Obj.map ⟨[]⟩ 0)) ⟨[aa 0,.slice none 0 0,.map (some w1.heap.size)]⟩ 210 λb a=> ∃(I:Nat->Int×Unit->A2->Prop),(∃n, ∀w1,Ext a w1->I n (0,()) w1)/\ ∀(d:Nat) (s:Int×Unit) (w1:A2),I d s w1->aH (decide (s.1<n)) (true=true/\true=true/\sU w1 (ad (ae b) 1) λx=>aM w1 ⟨[aa (-1)]⟩ 3 λg a=> ∀w1,Ext a w1->mD w1 3 1 8 ⟨[aa 0]⟩ (x.1,x.2.1,x.2.2) (some ⟨g,0,none⟩,1,1) λ(r:Option AA×Nat×
 Nat) a=>true=true/\true=true/\az a (ad (ae b) 1) [.slice r.1 r.2.1 r.2.2] λa=> ∀e,Ext a e-> ∃(f:Nat),f<d/\I f (aL .i64 s.1 1,()) e) (au w1 (c (some ⟨b,0,none⟩,0,()))))):=by kernel_rfl
theorem Ks (p:Option AA) (w:A2) (a:Bool->A2->Prop):(aI U0 (λ_=>[]) 114 [ag p] w a)=(
 ((!p.isNone)=true->p.isSome=true)/\((!p.isNone)=true->p.isSome=true)/\aj w (some !p.isNone) (ad p 2) NX λx=>au w (a (!p.isNone&& !x.isNone))):=by kernel_rfl
theorem Uh (p:Option AA) (w:A2) (a:Int->A2->Prop):(aI U0 (λ_=>[]) 237 [ag p] w a)=(
 ∃x,af AC 114 [ag p] w (.bool x)/\aH (!x) (au w (a 0)) (cL p 0 w λx=>au w (a x))):=by kernel_rfl
theorem Ui (p:Option AA) (c a:Int) (w:A2) (b:Int->A2->Prop):(aI U0 (λ_=>[]) 203 [ag p,aa c,aa a] w b)=(
 ∃x,af AC 114 [ag p] w (.bool x)/\aH (!x) (au w (b 10)) (((!decide (c<0))=true->p.isSome=true)/\((!decide (c<0))=true->p.isSome=true)/\aj w (some !decide (c<0)) (ad p 1) fi λx=>aH (decide (c<0)||decide (c>=(↑x.2.1:Int))) (au w (b 2)) (fe p 1 w λx=>(x.1.isSome=true/\0<=c/\c<(↑x.2.1:Int))/\aW w (ad x.1 (c.toNat*1)) λx=>aH ((x== -1)==(a== -1)) (au w (b 6)) (fe p 1 w λx=>(x.1.isSome=true/\0<=c/\c<(↑x.2.1:Int))/\az w (ad x.1 (c.toNat*1)) [aa a] λd=>au d (b 0))))):=by kernel_rfl
theorem Uj (p:Option AA) (c:Int) (w:A2) (a:Int->A2->Prop):(aI U0 (λ_=>[]) 200 [ag p,aa c] w a)=(
 ∃(x:Int),af AC 237 [ag p] w (aa x)/\aA AC 203 (.el aX) [ag p,aa c,aa x] w λ(x:Int) b=>au b (a x)):=by kernel_rfl
theorem Kt (p:Option AA) (c:Int) (w:A2) (a:Int->A2->Prop):(aI U0 (λ_=>[]) 158 [ag p,aa c] w a)=(
 aA AC 203 (.el aX) [ag p,aa c,aa (-1)] w λ(x:Int) b=>au b (a x)):=by kernel_rfl
theorem Uk (p:Option AA) (f:Int) (w:A2) (a:Int->A2->Prop):(aI U0 (λ_=>[]) 162 [ag p,aa f] w a)=(
 ∃x,af AC 114 [ag p] w (.bool x)/\aH (!x) (au w (a 10)) (aH (decide (f<0)) (au w (a 1)) (sV p 2 w λx=> ∃(d:Int), ∃(b:Bool),mr w x .i64 f (aa 0) (aa d) b/\aH b (au w (a 5)) (sV p 2 w λx=>cL p 0 w λe=> ∀w1,Ext w w1-> ∃(r:Nat), ∃(es:Array B3), ∃(c:Nat),x=some r/\bG w1 r es c/\gU w1 r .i64 f (aa e) es c λg=>au g (a 0))))):=by kernel_rfl
def vV:Nat->a8:=(λ|4=>[(13,Go.RX.El.one (Go.RX.Sc.int Ay))]| _=>[])
theorem Ul (p:Option AA) (w:A2) (a:Bool->A2->Prop):(aI U0 vV 197 [ag p] w a)=(
 ∃x,af AC 114 [ag p] w (.bool x)/\aH (!x) (au w (a false)) (fe p 1 w λx=> ∃(I:Nat->Int×Unit->A2->Prop),(∃n, ∀w1,Ext w w1->I n (0,()) w1)/\ ∀(n:Nat) (s:Int×Unit) (w1:A2),I n s w1->aH (decide (s.1<(↑x.2.1:Int))) ((x.1.isSome=true/\0<=s.1/\s.1<(↑x.2.1:Int))/\aW w1 (ad x.1 (B1 s.1*1)) λx=>((x != -1)=true->p.isSome=true)/\((x != -1)=true->p.isSome=true)/\aj w1 (some (x != -1)) (ad p 0) aX λ(d:Int)=>aH (x != -1&&x != d) (au w1 (a false)) (∀b,Ext w1 b-> ∃(c:
 Nat),c<n/\I c (aL .i64 s.1 1,()) b)) (cL p 0 w1 λx=>p.isSome=true/\p.isSome=true/\az w1 (ad p 0) [aa (aL .i64 x 1)] λe=>au e (a true)))):=by kernel_rfl
theorem Ku (a:Int) (c:Option AA) (w:A2) (b:Bool->A2->Prop):(aI U0 (λ_=>[]) 236 [aa a,ag c] w b)=(
 gf w c λx=>cL x 0 w λx=>au w (b (decide (aL .i64 a 2<=x)))):=by kernel_rfl
theorem Kv (a:Int) (w:A2) (b:Bool->A2->Prop):(aI U0 (λ_=>[]) 116 [aa a] w b)=(
 au w (b true)):=by kernel_rfl
def qM:Nat->a8:=(λ|3=>[(5,Go.RX.El.one Go.RX.Sc.slice)]|8=>[(8,Go.RX.El.one (Go.RX.Sc.int Ay))]| _=>[])
theorem Kw (m:Option Nat) (c:Option AA) (w:A2) (g:Option AA×Nat×Nat->A2->Prop):(aI U1 qM 115 [.map m,.func (.func 236) #[] #[ag c]] w g)=(
 RgP w m λb a=> ∃(I:Nat->(Option AA×Nat×Nat)×Unit->A2->Prop),(∃n, ∀w1,Ext a w1->I n ((none,0,0),()) w1)/\ ∀(n:Nat) (s:(Option AA×Nat×Nat)×Unit) (w1:A2),I n s w1->NxP w1 (ae b) (λa=>au a (g (s.1.1,s.1.2.1,s.1.2.2))) λ(k v:AN) a=> ∃(x:Int), ∃(y:Int),Ad a (ae b) (aa x) (aa y)/\ ∃h,af AC 236 [aa y,ag c] a (.bool h)/\aH (!h) (∀d,Ext a d-> ∃(e:Nat),e<n/\I e ((s.1.1,s.1.2.1,s.1.2.2),()) d) (aM a ⟨[aa x]⟩ 3 λb a=> ∀w1,
 Ext a w1->mD w1 3 1 8 ⟨[aa 0]⟩ (s.1.1,s.1.2.1,s.1.2.2) (some ⟨b,0,none⟩,1,1) λ(r:Option AA×Nat×Nat) a=> ∃(f:Nat->Int×Unit->A2->Prop),(∃n, ∀w1,Ext a w1->f n ((↑s.1.2.1:Int),()) w1)/\ ∀(i:Nat) (s:Int×Unit) (w1:A2),f i s w1->(decide (s.1>0)=true->r.1.isSome=true/\0<=aZ .i64 s.1 1/\aZ .i64 s.1 1<(↑r.2.1:Int))/\aj w1 (some (decide (s.1>0))) (ad r.1 ((aZ .i64 s.1 1).toNat*1)) aX λ(j:Int)=>aH (decide (s.1>0)&&decide (j>x)) ((r.1.isSome=true/\0<=aZ .i64 s.1 1/\aZ
 .i64 s.1 1<(↑r.2.1:Int))/\aj w1 none (ad r.1 ((aZ .i64 s.1 1).toNat*1)) aX λ(x:Int)=>(r.1.isSome=true/\0<=s.1/\s.1<(↑r.2.1:Int))/\az w1 (ad r.1 (B1 s.1*1)) [aa x] λa=> ∀d,Ext a d-> ∃(e:Nat),e<i/\f e (aZ .i64 s.1 1,()) d) ((r.1.isSome=true/\0<=s.1/\s.1<(↑r.2.1:Int))/\az w1 (ad r.1 (B1 s.1*1)) [aa x] λa=> ∀d,Ext a d-> ∃(e:Nat),e<n/\I e ((r.1,r.2.1,r.2.2),()) d))):=by kernel_rfl
def qN:Nat->a8:=(λ|3=>[(5,Go.RX.El.one Go.RX.Sc.slice)]|8=>[(8,Go.RX.El.one (Go.RX.Sc.int Ay))]| _=>[])
theorem Ky (m:Option Nat) (w:A2) (f:Option AA×Nat×Nat->A2->Prop):(aI U1 qN 115 [.map m,.func (.func 116) #[] #[]] w f)=(
 RgP w m λb a=> ∃(I:Nat->(Option AA×Nat×Nat)×Unit->A2->Prop),(∃n, ∀w1,Ext a w1->I n ((none,0,0),()) w1)/\ ∀(n:Nat) (s:(Option AA×Nat×Nat)×Unit) (w1:A2),I n s w1->NxP w1 (ae b) (λa=>au a (f (s.1.1,s.1.2.1,s.1.2.2))) λ(k v:AN) a=> ∃(x:Int), ∃(y:Int),Ad a (ae b) (aa x) (aa y)/\ ∃g,af AC 116 [aa y] a (.bool g)/\aH (!g) (∀c,Ext a c-> ∃(d:Nat),d<n/\I d ((s.1.1,s.1.2.1,s.1.2.2),()) c) (aM a ⟨[aa x]⟩ 3 λb a=> ∀w1,Ext a w1->
 mD w1 3 1 8 ⟨[aa 0]⟩ (s.1.1,s.1.2.1,s.1.2.2) (some ⟨b,0,none⟩,1,1) λ(r:Option AA×Nat×Nat) a=> ∃(e:Nat->Int×Unit->A2->Prop),(∃n, ∀w1,Ext a w1->e n ((↑s.1.2.1:Int),()) w1)/\ ∀(h:Nat) (s:Int×Unit) (w1:A2),e h s w1->(decide (s.1>0)=true->r.1.isSome=true/\0<=aZ .i64 s.1 1/\aZ .i64 s.1 1<(↑r.2.1:Int))/\aj w1 (some (decide (s.1>0))) (ad r.1 ((aZ .i64 s.1 1).toNat*1)) aX λ(i:Int)=>aH (decide (s.1>0)&&decide (i>x)) ((r.1.isSome=true/\0<=aZ .i64 s.1 1/\aZ .i64 s.1 1<
 (↑r.2.1:Int))/\aj w1 none (ad r.1 ((aZ .i64 s.1 1).toNat*1)) aX λ(x:Int)=>(r.1.isSome=true/\0<=s.1/\s.1<(↑r.2.1:Int))/\az w1 (ad r.1 (B1 s.1*1)) [aa x] λa=> ∀c,Ext a c-> ∃(d:Nat),d<h/\e d (aZ .i64 s.1 1,()) c) ((r.1.isSome=true/\0<=s.1/\s.1<(↑r.2.1:Int))/\az w1 (ad r.1 (B1 s.1*1)) [aa x] λa=> ∀c,Ext a c-> ∃(d:Nat),d<n/\I d ((r.1,r.2.1,r.2.2),()) c))):=by kernel_rfl
def tZ:Nat->a8:=(λ|5=>[(17,Go.RX.El.one (Go.RX.Sc.int Ay))]| _=>[])
theorem PX (p:Option AA) (w:A2) (c:Option AA×Nat×Nat->A2->Prop):(aI U0 tZ 198 [ag p] w c)=(
 aM w ⟨[ag p]⟩ 98 λb a=>gf a (ae b) λx=> ∃e,af AC 114 [ag x] a (.bool e)/\aH (!e) (au a (c (none,0,0))) (gf a (ae b) λx=>sV x 2 a λx=>aA AC 115 (.el fi) [.map x,.func (.func 236) ⟨[]⟩ {toList:=[ag (ae b)]}] a λx a=> ∃(I:Nat->Int×Unit->A2->Prop),(∃n, ∀w1,Ext a w1->I n (0,()) w1)/\ ∀(n:Nat) (s:Int×Unit) (w1:A2),I n s w1->aH (decide (s.1<(↑x.2.1:Int))) ((x.1.isSome=true/\0<=s.1/\s.1<(↑x.2.1:Int))/\aW w1 (ad x.1 (B1 s.1*1)) λx=>
 gf w1 (ae b) λi=>sV i 2 w1 λj=> ∀d,Ext w1 d-> ∃(r:Nat), ∃(es:Array B3), ∃(f:Nat),j=some r/\bG d r es f/\Ac d r .i64 x es f λa=> ∀g,Ext a g-> ∃(h:Nat),h<n/\I h (aL .i64 s.1 1,()) g) (au w1 (c (x.1,x.2.1,x.2.2))))):=by kernel_rfl
theorem PY (p:Option AA) (w:A2) (a:Option AA×Nat×Nat->A2->Prop):(aI U0 (λ_=>[]) 69 [ag p] w a)=(
 ∃x,af AC 114 [ag p] w (.bool x)/\aH (!x) (au w (a (none,0,0))) (sV p 2 w λx=>aA AC 115 (.el fi) [.map x,.func (.func 116) ⟨[]⟩ ⟨[]⟩] w λx b=>au b (a (x.1,x.2.1,x.2.2)))):=by kernel_rfl
end Go.Proofs.YtlcenllcmeebhaaGreat.Mu
namespace Go.RX
set_option maxRecDepth 100000
open Go.RowKit
def nK:Av->Prop
 | .cells .. =>False
 | _=>True
theorem nK.ne {o:Av} (h:nK o): ∀a t f,o≠ .cells a t f:=λa t f e=>by subst e;exact h
structure cC (D G:List Nat) (w0 w:A2) (L:List (Nat×List AN)) (M:List (Nat×Av)):Prop where
 base:aJ D G w0 w L
 obj: ∀x∈M,w.heap[x.1]? =some x.2/\nK x.2
 own: ∀x∈M,w0.heap.size<=x.1\/x.1∈G
 nd:(M.map (·.1)).Nodup
 nD: ∀x∈M,x.1∉D
namespace cC
variable {D G:List Nat} {w0 w w1:A2} {L L':List (Nat×List AN)} {M M':List (Nat×Av)}
theorem ext (H:cC D G w0 w L M) (h:Ext w w1):cC D G w0 w1 L M:=
 ⟨H.base.ext h,λx a=>⟨h.obj (H.obj x a).1,(H.obj x a).2⟩,H.own,H.nd,H.nD⟩
theorem start (G:List Nat) (w:A2):cC [] G w w [] []:=⟨At.start G w,λx a=>(by cases a),λx a=>(by cases a),FP,λx a=>(by cases a)⟩
theorem of (H:aJ D G w0 w L):cC D G w0 w L []:=⟨H,λx a=>(by cases a),λx a=>(by cases a),FP,λx a=>(by cases a)⟩
theorem sub (H:cC D G w0 w L M) (h:L'.Sublist L):cC D G w0 w L' M:=⟨H.base.sub h,H.obj,H.own,H.nd,H.nD⟩
theorem perm (H:cC D G w0 w L M) (h:L'.Perm L):cC D G w0 w L' M:=⟨H.base.perm h,H.obj,H.own,H.nd,H.nD⟩
theorem FK (H:cC D G w0 w L M) (h:M'.Sublist M):cC D G w0 w L M':=⟨H.base,λx a=>H.obj x (h.subset a),λx a=>H.own x (h.subset a),(h.map _).nodup H.nd,λx a=>H.nD x (h.subset a)⟩
theorem ly (H:cC D G w0 w L M) (h:M'.Perm M):cC D G w0 w L M':=⟨H.base,λx a=>H.obj x (h.subset a),λx a=>H.own x (h.subset a),(h.map _).nodup_iff.2 H.nd,λx a=>H.nD x (h.subset a)⟩
theorem get (H:cC D G w0 w L M) {i r:Nat} {o:Av} (h:M[i]? =some (r,o)):w.heap[r]? =some o:=(H.obj (r,o) (FS h)).1
theorem F8 (H:cC D G w0 w L M) {x:Nat×List AN} (b:x∈L) {y:Nat×Av} (a:y∈M):x.1≠y.1:=
 aJ.db (H.base.dm x b) (H.obj y a).1 (H.obj y a).2.ne
theorem join (H:cC D G w0 w L M) (K:At (L.map (·.1)) w w1 L'):cC D G w0 w1 L' M:=by
 refine⟨H.base.join (λx a=>a) K,λy b=>⟨?_,(H.obj y b).2⟩,H.own,H.nd,H.nD⟩;have h1:=(H.obj y b).1;rw[K.fr.block y.1 (Df.1 h1).1 (λc=>?_)]
 ·exact h1
 ·obtain⟨x,a,e⟩:=Al.1 c;exact H.F8 a b e
theorem put (H:cC D G w0 w L M) {i r:Nat} {o:Av} (h:M[i]? =some (r,o)) {o':Av} (m:nK o'):cC D G w0 (w.putObj r o') L (M.set i (r,o')):=by
 have b:=FS h;obtain⟨h1,y⟩:=H.obj _ b;have n:r<w.heap.size:=(Df.1 h1).1;have p:(M.set i (r,o')).map (·.1)=M.map (·.1):=by
  apply GF;intro j;rw[Fv,Fv];by_cases e:i=j
  ·subst e;rw[FY (BI.1 h).1,h];rfl
  ·rw[Dl e]
 refine⟨⟨⟨H.base.fr.os,H.base.fr.tape,H.base.fr.output,by rw[putObj_size];exact H.base.fr.size,λk s g=>?_⟩,λx a=>(H.base.dm x a).putObj (H.F8 a b) _,H.base.own,H.base.nd,λq d=>⟨(H.base.pO q d).1,?_⟩⟩,λx a=>?_,λx a=>?_,by rw[p];exact H.nd,λx a=>?_⟩
 ·rw[fG (λe=>?_)]
  ·exact H.base.fr.block k s g
  ·subst e;rcases H.own _ b with f|f
   ·simp only at f;omega
   ·exact g f
 ·rw[fG (λe=>H.nD _ b (by rw[<-e];exact d))];exact(H.base.pO q d).2
 ·obtain⟨j,c⟩:=GD a;by_cases e:i=j
  ·subst e;rw[FY (BI.1 h).1] at c;cases c;exact⟨kf n,m⟩
  ·rw[Dl e] at c;have l:=H.obj x (FS c);refine⟨?_,l.2⟩;rw[fG (λt=>?_)]
   ·exact l.1
   ·have u:(M.map (·.1))[i]? =some r:=by rw[Fv,h];rfl
    have v:(M.map (·.1))[j]? =some r:=by rw[Fv,c];exact congrArg some t
    have:=(J7 (by rw[NG];exact(BI.1 h).1) H.nd).1 (u.trans v.symm);exact e this
 ·rcases Gj a with a|rfl
  ·exact H.own x a
  ·exact H.own (r,o) b
 ·rcases Gj a with a|rfl
  ·exact H.nD x a
  ·exact H.nD (r,o) b
theorem alloc (H:cC D G w0 w L M) {o:Av} (b:nK o):cC D G w0 (w.alloc o) L ((w.heap.size,o)::M):=by
 have h1:=H.ext (Ext.alloc w o);have c:(w.alloc o).heap[w.heap.size]? =some o:=by
  show(w.heap.push o)[w.heap.size]? =some o;simp
 refine⟨h1.base,λx a=>?_,λx a=>?_,?_,λx a=>?_⟩
 ·rcases B5.1 a with rfl|a
  ·exact⟨c,b⟩
  ·exact h1.obj x a
 ·rcases B5.1 a with rfl|a
  ·exact .inl H.base.fr.size
  ·exact H.own x a
 ·refine B9.2 ⟨λd=>?_,H.nd⟩;obtain⟨y,f,e⟩:=Al.1 d;have:=(Df.1 (H.obj y f).1).1;simp only at e;omega
 ·rcases B5.1 a with rfl|a
  ·intro g;have:=(Df.1 (H.base.pO _ g).2).1;simp only at this;omega
  ·exact H.nD x a
theorem all (H:cC [] [] w0 w L M):Ext w0 w:=H.base.all
end cC
end Go.RX
namespace Go.Proofs.YtlcenllcmeebhaaGreat
set_option maxRecDepth 100000
open Go.RX
abbrev KV:Type:=Int×AN
abbrev kvE (t:KV):AN×AN:=(aa t.1,t.2)
def iz (es:List B3) (ck:Nat) (a:List KV):Prop:=
 (∃p:List KV,p.Perm a/\es.map (λe=>(e.key,e.val))=p.map kvE)/\(es.map (·.born)).Nodup/\(∀e∈es,e.born<ck)/\(a.map (·.1)).Nodup
theorem iz.nil:iz [] 0 []:=⟨⟨[],List.Perm.nil,rfl⟩,FP,λe a=>(by cases a),FP⟩
theorem IN {es:List B3} {p:List KV} (h:es.map (λe=>(e.key,e.val))=p.map kvE) (g:Int) (i0:Nat):
 GI (.int .i64) (aa g) es i0=some (match p.findIdx? (λt=>t.1==g) with
  |some i=>some (i0+i,(p.getD i (0,undef)).2)
  |none=>none):=by
 induction es generalizing p i0 with
 |nil=>
  cases p with
  |nil=>rfl
  |cons t p=>simp at h
 |cons e es d=>
  cases p with
  |nil=>simp at h
  |cons t p=>
   simp only[BQ,List.cons.injEq] at h;obtain⟨h1,f⟩:=h;have j:e.key=aa t.1:=congrArg (·.1) h1;have hv:e.val=t.2:=congrArg (·.2) h1;unfold GI;rw[j];have k:Instr.sameNow (.int .i64) (aa g) (aa t.1)=some (g==t.1):=by
    show(if Ay=Ay then some (g==t.1) else none)= _;rw[av rfl]
   rw[k,List.findIdx?_cons];by_cases a:t.1=g
   ·have b:(g==t.1)=true:=by simp[a]
    have c:(t.1==g)=true:=by simp[a]
    rw[b,av c];dsimp only;rw[hv];rfl
   ·have b:(g==t.1)=false:=by simp;exact λe=>a e.symm
    have c: ¬ (t.1==g)=true:=by simp[a]
    rw[b,ao c];dsimp only;rw[d f (i0+1)];cases p.findIdx? (λt=>t.1==g) with
    |none=>rfl
    |some i=>
     show some (some (i0+1+i, _))=some (some (i0+(i+1), _));rw[show i0+1+i=i0+(i+1) by omega];rfl
theorem qb {α β:Type} (f:α->β): ∀(l:List α) (i:Nat),(l.eraseIdx i).map f=(l.map f).eraseIdx i
 |[],i=>by simp
 |a::l,0=>rfl
 |a::l,i+1=>by
  simp only[List.eraseIdx_cons_succ,BQ];rw[qb f l i]
theorem iz.Fw {es:List B3} {ck:Nat} {k:List KV} (h:iz es ck k) {g:Int} {v:AN} (A:(g,v)∈k): ∃i,GI (.int .i64) (aa g) es 0=some (some (i,v))/\i<es.length/\iz (es.eraseIdx i) ck (k.filter λt=> !(t.1==g)):=by
 obtain⟨⟨p,h1,l⟩,B,C,n⟩:=h;have o:(p.map (·.1)).Nodup:=(h1.map _).nodup_iff.2 n;have q:=h1.mem_iff.2 A;have r:=IN l g 0;cases d:p.findIdx? (λt=>t.1==g) with
 |none=>
  have:=NU.1 d _ q;simp at this
 |some i=>
  rw[d] at r;rw[List.findIdx?_eq_some_iff_getElem] at d;obtain⟨hi,b, _⟩:=d;have f:p[i]? =some p[i]:=Dk hi;have s:p.getD i (0,undef)=p[i]:=by rw[JS,f];rfl
  obtain⟨t,u⟩: ∃t,t=p[i]:=⟨_,rfl⟩;rw[<-u] at f s b;have b:t.1=g:=by simpa using b
  have D:t=(g,v):=by
   obtain⟨j,m⟩:=GD q;have E:(p.map (·.1))[i]? =some g:=by rw[Fv,f];exact congrArg some b
   have F:(p.map (·.1))[j]? =some g:=by rw[Fv,m];rfl
   have:=(J7 (by rw[NG];exact hi) o).1 (E.trans F.symm);subst this;rw[f] at m;exact Option.some.inj m
  have J:es.length=p.length:=by
   have:=congrArg List.length l;simpa using this
  refine⟨i,by rw[r];dsimp only;rw[s,D,Bs],by omega,⟨p.eraseIdx i,?_,?_⟩,?_,?_,?_⟩
  ·have G:p.eraseIdx i=p.filter λt=> !(t.1==g):=by
    have w:p=p.take i++t::p.drop (i+1):=by
     conv=>lhs;rw[<-Dn i p]
     rw[In hi, <-u]
    have y: ∀x∈p.take i++p.drop (i+1),x.1≠g:=by
     intro x c e;have z:=o;rw[w,FO,BQ] at z;have H:=(B4 (a:=t.1) (l₁:=(p.take i).map (·.1)) (l₂:=(p.drop (i+1)).map (·.1))).nodup_iff.1 z;have:=(B9.1 H).1;refine this ?_;rw[b, <-e, <-FO];exact Al.2 ⟨x,c,rfl⟩
    rw[NV]
    conv=>rhs;rw[w]
    rw[List.filter_append,List.filter_cons_of_neg (by simp[b])];rw[JW.2 (λx c=>by have:=y x (C7 _ c);simpa using this),JW.2 (λx c=>by have:=y x (DK _ c);simpa using this)]
   rw[G];exact h1.filter _
  ·rw[qb,l,qb]
  ·rw[qb];exact B.sublist (List.eraseIdx_sublist _ _)
  ·exact λe I=>C e (List.mem_of_mem_eraseIdx I)
  ·exact n.sublist ((List.filter_sublist).map _)
theorem iz.N3 {es:List B3} {ck:Nat} {a:List KV} (h:iz es ck a) {g:Int} (c: ∀t∈a,t.1≠g):GI (.int .i64) (aa g) es 0=some none:=by
 obtain⟨⟨p,h1,d⟩, _, _, _⟩:=h;have b:=IN d g 0;rw[NU.2 λt e=>by have:=c t (h1.mem_iff.1 e);simpa using this] at b;exact b
theorem iz.push {es:List B3} {ck:Nat} {a:List KV} (h:iz es ck a) {g:Int} (v:AN) (f: ∀t∈a,t.1≠g):iz (es++[{key:=aa g,val:=v,born:=ck}]) (ck+1) ((g,v)::a):=by
 obtain⟨⟨p,h1,i⟩,j,c,k⟩:=h;refine⟨⟨p++[(g,v)],(ND _ _).trans (h1.cons _),?_⟩,?_,?_,?_⟩
 ·rw[FO,i,FO];rfl
 ·rw[FO];refine H5.2 ⟨j,by simp,λx b y d e=>?_⟩;obtain⟨e',he,rfl⟩:=Al.1 b;have d:y=ck:=by simpa using d
  have:=c e' he;omega
 ·intro e he;rcases Fp.1 he with he|he
  ·have:=c e he;omega
  ·have:e={key:=aa g,val:=v,born:=ck}:=by simpa using he
   subst this;exact IA _
 ·refine B9.2 ⟨λl=>?_,k⟩;obtain⟨x,b,e⟩:=Al.1 l;exact f x b e
theorem iz.ab1 {es:List B3} {ck:Nat} {b:List KV} (h:iz es ck b):(∀e∈es, ∃t∈b,e.key=aa t.1/\e.val=t.2)/\ ∀t∈b, ∃e∈es,e.key=aa t.1/\e.val=t.2:=by
 obtain⟨⟨p,f,g⟩, _⟩:=h;refine⟨λe c=>?_,λt d=>?_⟩
 ·have:(e.key,e.val)∈p.map kvE:=by rw[<-g];exact Al.2 ⟨e,c,rfl⟩
  obtain⟨t,d,a⟩:=Al.1 this;exact⟨t,f.mem_iff.1 d,(congrArg (·.1) a).symm,(congrArg (·.2) a).symm⟩
 ·have:kvE t∈es.map λe=>(e.key,e.val):=by rw[g];exact Al.2 ⟨t,f.mem_iff.2 d,rfl⟩
  obtain⟨e,c,a⟩:=Al.1 this;exact⟨e,c,congrArg (·.1) a,congrArg (·.2) a⟩
end Go.Proofs.YtlcenllcmeebhaaGreat
namespace Go.Proofs.YtlcenllcmeebhaaGreat.Mu
set_option maxRecDepth 100000
open Go.RX
abbrev eI:El:= .one (.int .i64)
abbrev ow (now:Int) (s:Option AA×Nat×Nat) (mb:Nat):List AN:=[aa now,.slice s.1 s.2.1 s.2.2,.map (some mb)]
section
variable {D G:List Nat} {w0 w:A2} {L Ls:List (Nat×List AN)} {M:List (Nat×Av)} {s:Option AA×Nat×Nat} {pins:List Int} {now:Int} {eb mb:Nat}
theorem mV (H:aJ D G w0 w L) (a:(eb,ow now s mb)∈L):af AC 114 [ag (ae eb)] w (.bool true):=by
 refine af.of (s:= .el (.one .bool)) λw' h'=>ai (C:=U0) (aS:=λ_=>[]) (Ak (Ks _ w' _) ?_);exact⟨λ_=>rfl,λ_=>rfl,aj.kO (H.ext h') a (show _=some (some mb) from rfl) λw1 h1=>⟨rfl,h1⟩⟩
theorem YZ (H:aJ D G w0 w L) (a:(eb,ow now s mb)∈L):af AC 237 [ag (ae eb)] w (aa now):=by
 refine af.of (s:= .el (.one (.int .i64))) λw' h'=>ai (C:=U0) (aS:=λ_=>[]) (Ak (Uh _ w' _) ?_);exact⟨_,mV (H.ext h') a,an rfl ⟨rfl,rfl,aj.kO (H.ext h') a (show _=some now from rfl) λw1 h1=>⟨rfl,h1⟩⟩⟩
def Ai (pins:List Int) (c:Nat) (a:Int):List Int:=if(pins.getD c 0== -1)=(a== -1) then pins else pins.set c a
theorem Iq {e:El} {xs:List e.T} (h:du e s xs Ls) (H:aJ D G w0 w (Ls++L)) {i:Nat} {x:e.T} (a:xs[i]? =some x):s.1.isSome=true/\cQ w (ad s.1 (i*aD e)) e x:=
 h.sl H (λy b=>C7 _ b) i x a
theorem IP (H:aJ D G w0 w ((eb,ow now s mb)::(Ls++L))) (b:du eI s pins Ls) (c:Nat) (hc:c<pins.length) (a:Int) {K:Int->A2->Prop}
 (k: ∀v f d,du eI s (Ai pins c a) f->aJ D G w0 d ((eb,ow now s mb)::(f++L))->K v d):
 aA AC 203 (.el (.one (.int .i64))) [ag (ae eb),aa (c:Int),aa a] w K:=by
 refine aA.go H λw1 H=>ai (C:=U0) (aS:=λ_=>[]) (Ak (Ui _ _ _ w1 K) ?_);have m:=b.1;have h:pins[c]? =some (pins.getD c 0):=by rw[JS,Dk hc];rfl
 have h0:(decide ((c:Int)<0))=false:=decide_eq_false (by omega);have g:aJ D G w0 w1 (Ls++((eb,ow now s mb)::L)):=H.perm B4;refine⟨_,mV H C8,an rfl ⟨λ_=>rfl,λ_=>rfl,aj.cw 0 H rfl (show _=some (s.1,s.2.1,s.2.2) from rfl) ?_⟩⟩;refine an (by rw[h0,Bool.false_or,decide_eq_false_iff_not];dsimp only;omega) ⟨rfl,rfl,aj.cw 0 H rfl (show _=some (s.1,s.2.1,s.2.2) from rfl) ⟨⟨(Iq b g h).1,by omega,by dsimp only;omega⟩,aj.of (pins.getD c 0) (by dsimp only;rw[Ds];exact(Iq b g h).2) ?_⟩⟩;refine ab (λe=>au.go H λd H=>?_) (λe=>⟨rfl,rfl,aj.cw 0 H rfl (show _=some (s.1,s.2.1,s.2.2) from rfl) ⟨⟨(Iq b g h).1,by omega,by dsimp only;omega⟩,?_⟩⟩)
 ·refine k 6 Ls d ?_ H;unfold Ai;rw[av (by simpa using e)];exact b
 ·dsimp only;rw[Ds];refine b.st g hc a rfl rfl λf d j i=>au.go i λl i=>k 0 f l ?_ (i.perm B4.symm);unfold Ai;rw[ao (by intro c;rw[c] at e;simp at e)];exact j
theorem Um (H:aJ D G w0 w ((eb,ow now s mb)::(Ls++L))) (e:du eI s pins Ls) (c:Nat) (hc:c<pins.length) {K:Int->A2->Prop}
 (k: ∀v a b,du eI s (Ai pins c now) a->aJ D G w0 b ((eb,ow now s mb)::(a++L))->K v b):
 aA AC 200 (.el (.one (.int .i64))) [ag (ae eb),aa (c:Int)] w K:=by
 refine aA.go H λw1 H=>ai (C:=U0) (aS:=λ_=>[]) (Ak (Uj _ _ w1 K) ?_);exact⟨now,YZ H C8,IP H e c hc now λv a b f d=>au.go d λg d=>k v a g f d⟩
theorem Kz (H:aJ D G w0 w ((eb,ow now s mb)::(Ls++L))) (e:du eI s pins Ls) (c:Nat) (hc:c<pins.length) {K:Int->A2->Prop}
 (k: ∀v a b,du eI s (Ai pins c (-1)) a->aJ D G w0 b ((eb,ow now s mb)::(a++L))->K v b):
 aA AC 158 (.el (.one (.int .i64))) [ag (ae eb),aa (c:Int)] w K:=by
 refine aA.go H λw1 H=>ai (C:=U0) (aS:=λ_=>[]) (Ak (Kt _ _ w1 K) ?_);exact IP H e c hc (-1) λv a b f d=>au.go d λg d=>k v a g f d
def J9 (pins:List Int) (now:Int):Int:=if pins.all (λp=>p== -1||p==now)=true then now+1 else now
theorem Un (H:aJ D G w0 w ((eb,ow now s mb)::(Ls++L))) (g:du eI s pins Ls) (z:pins.length<=8) (A:0<=now/\now<4611686018427387904) {K:Bool->A2->Prop}
 (k: ∀v a,aJ D G w0 a ((eb,ow (J9 pins now) s mb)::(Ls++L))->K v a):
 aA AC 197 (.el (.one .bool)) [ag (ae eb)] w K:=by
 refine aA.go H λw1 H=>ai (C:=U0) (aS:=vV) (Ak (Ul _ w1 K) ?_);have m:=g.1;refine⟨_,mV H C8,an rfl ⟨rfl,rfl,aj.cw 0 H rfl (show _=some (s.1,s.2.1,s.2.2) from rfl) ?_⟩⟩;refine⟨λn st a=> ∃j:Nat,j<=pins.length/\n=pins.length - j/\st.1=(j:Int)/\(pins.take j).all (λp=>p== -1||p==now)=true/\aJ D G w0 a ((eb,ow now s mb)::(Ls++L)),⟨pins.length,λa o=>⟨0,GH _,rfl,rfl,rfl,H.ext o⟩⟩,?_⟩;rintro n ⟨i, _⟩ a ⟨j,h,r,hi,b,H⟩;have hi:i=(j:Int):=hi;subst hi r;dsimp only;rw[m];have t:aJ D G w0 a (Ls++((eb,ow now s mb)::L)):=H.perm B4;refine ab (λc=>?_) (λc=>?_)
 ·have h:j<pins.length:=by have:=of_decide_eq_true c;omega
  obtain⟨x,d⟩: ∃x,pins[j]? =some x:=⟨_,Dk h⟩;have l:=Iq g t d;refine⟨⟨l.1,by omega,by omega⟩,aj.of x (by rw[Ds];exact l.2) ⟨λ_=>rfl,λ_=>rfl,aj.cw 0 H rfl (show _=some now from rfl) ?_⟩⟩;refine ab (λc=>au.go H λf H=>k false f ?_) (λc f u=>⟨pins.length - (j+1),by omega,j+1,by omega,rfl,?_,?_,H.ext u⟩)
  ·have:J9 pins now=now:=by
    unfold J9;refine ao λhc=>?_;have:=List.all_eq_true.1 hc x (FS d);simp only[Ia,bne_iff_ne,F1,beq_iff_eq] at c this;rcases this with q|q
    ·exact c.1 q
    ·exact c.2 q
   rw[this];exact H
  ·rw[ax (by omega) (by omega)];omega
  ·rw[HB,d,List.all_append,b,Gd];show([x]:List Int).all _=true;rw[List.all_cons,List.all_nil,Bool.and_true];simp only[If,bne_eq_false_iff_eq] at c;simpa using c
 ·have:j=pins.length:=by have:=of_decide_eq_false c;omega
  subst this;rw[JX] at b;have e:J9 pins now=now+1:=av b;rw[e] at k;refine⟨rfl,rfl,aj.cw 0 H rfl (show _=some now from rfl) ⟨rfl,rfl,?_⟩⟩;rw[ax (by omega) (by omega)];exact az.fK 0 H rfl rfl rfl λf H=>au.go H λy H=>k true y H
end
section
variable {D G:List Nat} {w0 w:A2} {L:List (Nat×List AN)} {M:List (Nat×Av)} {s:Option AA×Nat×Nat} {ws:List KV} {es:List B3} {now:Int} {eb mb ck:Nat}
def N4 (ws:List KV) (f now:Int):List KV:=if ws.any (λx=>x.1==f)=true then ws else(f,aa now)::ws
theorem Uo (H:cC D G w0 w L ((mb,.map ⟨es⟩ ck)::M)) (b:(eb,ow now s mb)∈L) (hv:iz es ck ws) (r: ∀t∈ws, ∃x,t.2=aa x) (f:Int) (B:0<=f) {K:Int->A2->Prop}
 (k: ∀v l m a,iz l m (N4 ws f now)->cC D G w0 a L ((mb,.map ⟨l⟩ m)::M)->K v a):
 aA AC 162 (.el (.one (.int .i64))) [ag (ae eb),aa f] w K:=by
 refine λw1 h1=>ai (C:=U0) (aS:=λ_=>[]) (Ak (Uk _ _ w1 K) ?_);have H:=H.ext h1;refine⟨_,mV H.base b,an rfl (an (decide_eq_false (by omega)) ⟨rfl,rfl,aj.kO H.base b (show _=some (some mb) from rfl) ?_⟩)⟩;have n:bG w1 mb ⟨es⟩ ck:=H.get (i:=0) rfl;by_cases o: ∃v,(f,v)∈ws
 ·obtain⟨v,d⟩:=o;obtain⟨x,p⟩:=r _ d;dsimp only at p;subst p;obtain⟨i,hi, _⟩:=hv.Fw d;refine⟨x,true,⟨mb, _, _,rfl,n,by rw[hi];exact⟨rfl,rfl⟩⟩,aB rfl λa g=>?_⟩;have e:N4 ws f now=ws:=av (JY.2 ⟨_,d,by simp⟩);rw[e] at k;exact k 5 es ck a hv (H.ext g)
 ·have h: ∀t∈ws,t.1≠f:=λt j e=>o ⟨t.2,by rw[<-e];exact j⟩;have q:=hv.N3 h;refine⟨0,false,⟨mb, _, _,rfl,n,by rw[q];exact⟨rfl,rfl⟩⟩,an rfl ⟨rfl,rfl,aj.kO H.base b (show _=some (some mb) from rfl) ⟨rfl,rfl,aj.kO H.base b (show _=some now from rfl) λa g=>?_⟩⟩⟩;have H:=H.ext g;refine⟨mb, _, _,rfl,H.get (i:=0) rfl,?_⟩;unfold gU;rw[q];have H:=H.put (i:=0) rfl (o':= .map ⟨es++[{key:=aa f,val:=aa now,born:=ck}]⟩ (ck+1)) trivial;have u:(M4 es).push {key:=aa f,val:=aa now,born:=ck}=⟨es++[{key:=aa f,val:=aa now,born:=ck}]⟩:=by apply LL;simp
  have e:N4 ws f now=(f,aa now)::ws:=ao λc=>by
   obtain⟨t,j,y⟩:=JY.1 c;exact h t j (by simpa using y)
  rw[e] at k;show au _ _;rw[u];exact λz A=>k 0 _ _ z (hv.push _ h) (H.ext A)
end
abbrev Db:Type:=Int×Int×Int×Int×Unit
def Z7 (l:Db):Bool:=decide (l.1>=1)&&decide (l.1<=16)&&decide (l.2.1>=0)&&decide (l.2.1<65536)&&decide (l.2.2.1>=0)&&decide (l.2.2.1<4096)&&decide (l.2.2.2.1>=1)&&decide (l.2.2.2.1<=7)
def mm (l:Db) (t p:Int):Bool:=l.1==t&&l.2.1==p
abbrev lnV (l:Db):AN:= .agg ⟨[aa l.1,aa l.2.1,aa l.2.2.1,aa l.2.2.2.1]⟩
theorem PZ (l:Db) (w:A2):af AC 204 [lnV l] w (.bool (Z7 l)):=by
 obtain⟨t,p,f,r, _⟩:=l;refine af.of (s:= .el (.one .bool)) λw' _=>ai (C:=U0) (aS:=λ_=>[]) (Ak (Kk t p f r w' _) ?_);have H:=At.start [] w'
 repeat' (first
  |exact Go.RX.aJ.all H
  |exact And.intro (by first|rfl|decide+kernel) (Go.RX.aJ.all H)
  |simp
  |refine aj.cw 0 H rfl rfl ?_
  |refine aj.at 0 H rfl rfl ?_
  |refine aM.go H λb w1 H=>?_
  |with_reducible refine au.go H λw1 H=>?_
  |refine jM ?_
  |refine an (by assumption) ?_
  )
theorem WM (l:Db) (a b:Int) (w:A2):af AC 150 [lnV l,aa a,aa b] w (.bool (mm l a b)):=by
 obtain⟨t,p,f,r, _⟩:=l;refine af.of (s:= .el (.one .bool)) λw' _=>ai (C:=U0) (aS:=λ_=>[]) (Ak (YY t p f r a b w' _) ?_);have H:=At.start [] w';refine aM.go H λc w1 H=>aj.at 0 H rfl (rfl) ⟨rfl,aj.cw 0 H rfl rfl ⟨rfl,aj.cw 0 H rfl rfl (au.go H λw1 H=>⟨?_,H.all⟩)⟩⟩;show(t==a&&(p==b&&(f==f&&(r==r&&true))))=(t==a&&p==b);simp
abbrev di (s:Option AA×Nat×Nat) (sz:Int):List AN:=[.slice s.1 s.2.1 s.2.2,aa sz]
section
variable {D G:List Nat} {w0 w:A2} {L Ls:List (Nat×List AN)} {s:Option AA×Nat×Nat} {ls:List Db} {sz:Int} {tb:Nat}
theorem pj (H:aJ D G w0 w L) (a:(tb,di s sz)∈L) (b:0<sz):af AC 140 [ag (ae tb)] w (.bool true):=by
 refine af.of λw' h'=>ai (Ak (Kl _ w' _) ?_);refine⟨λ_=>rfl,λ_=>rfl,aj.kO (H.ext h') a rfl λw1 h1=>⟨?_,h1⟩⟩
 grind
theorem OS {α:Type} {a b:α} {m l:Nat} (h:m=l):(G1 (λ_=>a) (λ_=>b) (instDecidableEqNat m l):α)=b:=by
 generalize instDecidableEqNat m l=d;cases d with
 |isTrue
 |isFalse=>grind
theorem F9 {α:Type} {a b:α} {m l:Nat} (h:m≠l):(G1 (λ_=>a) (λ_=>b) (instDecidableEqNat m l):α)=a:=by
 generalize instDecidableEqNat m l=d;cases d with
 |isTrue=>grind
 |isFalse=>rfl
theorem IQ (H:aJ D G w0 w ((tb,di s sz)::(Ls++L))) (h:du ky s ls Ls) (P:(ls.length:Int)<=64) (i:Nat) (hi:i<ls.length) {K:Unit->A2->Prop}
 (k: ∀s' b a,du ky s' (ls.eraseIdx i) b->aJ D G w0 a ((tb,di s' sz)::(b++L))->K () a):
 aA AC 196 (.bA []) [ag (ae tb),aa (i:Int)] w K:=by
 refine aA.go H λw1 H=>ai (C:=U0) (aS:=λ_=>[]) (Ak (Ud _ _ w1 K) ?_);obtain⟨p,n,c⟩:=s;have u:=h;obtain⟨h1,e,l⟩:=h;have h1:n=ls.length:=h1;have e:ls.length<=c:=e;subst h1;have Q:=e;have m:aL .i64 (i:Int) 1=((i+1:Nat):Int):=by rw[ax (by omega) (by omega)];omega
 obtain⟨bs,rest,a1,v,x⟩: ∃bs rest,p=some ⟨bs,0,none⟩/\Ls=[(bs,flat ky ls++rest)]/\c*aD ky<=(flat ky ls++rest).length:=by
  rcases l with ⟨_,q, _⟩|q
  ·have:c=0:=q;omega
  ·exact q
 subst a1 v;refine⟨rfl,rfl,aj.cw 0 H rfl rfl ⟨?_,rfl,rfl,aj.cw 0 H rfl rfl ⟨?_,λa y=>?_⟩⟩⟩
 ·dsimp only;omega
 ·rw[m];dsimp only;omega
 have H:=H.ext y;rw[m];dsimp only;have A:oE a (if((c:Int)).toNat=((i+1:Nat):Int).toNat then(some ⟨bs,0,none⟩:Option AA) else ad (ae bs) (((i+1:Nat):Int).toNat*4)) ((((ls.length:Nat):Int).toNat - ((i+1:Nat):Int).toNat)*aD ky) (flat ky (ls.drop (i+1))):=by
  have B:=H.get (i:=1) rfl;by_cases hc:c=i+1
  ·have:ls.drop (i+1)=[]:=J3 (by omega);rw[this,av (by omega),show((((ls.length:Nat):Int).toNat - ((i+1:Nat):Int).toNat))=0 by omega];exact⟨rfl,λj f=>by simp at f⟩
  ·rw[ao (by omega),aY];refine B.oE ?_ λj f=>?_
   ·rw[aF,Fu];congr 1
   ·have o:flat ky ls=flat ky (ls.take (i+1))++flat ky (ls.drop (i+1)):=by rw[<-dN,Dn]
    have S:(flat ky (ls.take (i+1))).length=(i+1)*aD ky:=by rw[aF,B6,E4 (by omega)]
    have T:0+((i+1:Nat):Int).toNat*4=(i+1)*aD ky:=by
     show 0+(i+1)*4=(i+1)*4;omega
    have U:j<(flat ky (ls.drop (i+1))).length:=by
     rw[aF,Fu];refine I2 f (GS _ (by omega))
    grind
 have E:du ky (some ⟨bs,0,none⟩,i,i) (ls.take i) [(bs,flat ky (ls.take i)++(flat ky (ls.drop i)++rest))]:=by
  refine⟨by rw[B6,E4 (by omega)],by rw[B6,E4 (by omega)];exact Dd _,.inr ⟨bs, _,rfl,rfl,?_⟩⟩;rw[<-FN, <-dN,Dn];exact DA (GS _ (show i<=c by clear e u l;omega)) x
 have F:flat ky ls++rest=flat ky (ls.take i)++(flat ky (ls.drop i)++rest):=by rw[<-FN, <-dN,Dn]
 have I:aJ D G w0 a ([(bs,flat ky (ls.take i)++(flat ky (ls.drop i)++rest))]++((tb,di (some ⟨bs,0,none⟩,ls.length,c) sz)::L)):=by
  rw[<-F];exact H.perm (E5 _ _ _)
 have o:(G1 (λ_=>ad (ae bs) (((i+1:Nat):Int).toNat*4)) (λ_=>(some ⟨bs,0,none⟩:Option AA)) (instDecidableEqNat ((c:Int)).toNat ((i+1:Nat):Int).toNat):Option AA)=if((c:Int)).toNat=((i+1:Nat):Int).toNat then(some ⟨bs,0,none⟩:Option AA) else ad (ae bs) (((i+1:Nat):Int).toNat*4):=by
  by_cases hc:((c:Int)).toNat=((i+1:Nat):Int).toNat
  ·rw[av hc,OS hc]
  ·rw[ao hc,F9 hc]
 have key:=aJ.TN I E (show gW ky=true from rfl) (q:=(if((c:Int)).toNat=((i+1:Nat):Int).toNat then(some ⟨bs,0,none⟩:Option AA) else ad (ae bs) (((i+1:Nat):Int).toNat*4),((ls.length:Nat):Int).toNat - ((i+1:Nat):Int).toNat,((c:Int)).toNat - ((i+1:Nat):Int).toNat)) (ys:=ls.drop (i+1)) (by rw[Fu];show((ls.length:Nat):Int).toNat - ((i+1:Nat):Int).toNat= _;omega) A
  (t:=96) (size:=4) (bytes:=32) (z:=⟨[aa 0,aa 0,aa 0,aa 0]⟩) rfl rfl (by rw[B6,Fu];omega)
  (R:=λr a=>(some (⟨tb,0,none⟩:AA)).isSome=true/\(some (⟨tb,0,none⟩:AA)).isSome=true/\az a (ad (ae tb) 0) [Value.slice r.1 r.2.1 r.2.2] λa=>au a λw1=>K () w1) λs' b V J g=>?_
 ·rw[o];have:((i:Int)).toNat - 0=i:=by omega
  rw[this];generalize (instDecidableEqNat ((i:Int)).toNat 0:Decidable (((i:Int)).toNat=((0:Nat):Int).toNat))=d;cases d<;>exact key
 ·refine⟨rfl,rfl,?_⟩;have g:=g.perm (L':=(tb,di (some ⟨bs,0,none⟩,ls.length,c) sz)::(b++L)) B4.symm;refine az.fK 0 g rfl rfl rfl λW M=>au.go M λN O=>k s' b N ?_ O;rw[NV];exact J
theorem vW {α:Type} {ls:List α} {j:Nat} {x:α} (f:α->Bool) (a:ls[j]? =some x):ls.take (j+1)++(ls.drop (j+1)).filter f=ls.take j++([x]++(ls.drop (j+1)).filter f):=by grind[HB]
theorem jf {α:Type} {ls:List α} {j:Nat} {x:α} (a:ls[j]? =some x):ls.drop j=x::ls.drop (j+1):=by grind[In]
def SwI (D G:List Nat) (w0:A2) (L:List (Nat×List AN)) (tb:Nat) (sz:Int) (ls:List Db) (is:Db->Bool) (n:Nat) (s:Int×Int×Unit) (w:A2):Prop:=
 n<=ls.length/\s.1=(((ls.drop n).countP is:Nat):Int)/\s.2.1=(n:Int) - 1/\ ∃sl Ls,du ky sl (ls.take n++(ls.drop n).filter (λl=> !is l)) Ls/\aJ D G w0 w ((tb,di sl sz)::(Ls++L))
theorem zx {is:Db->Bool} (M:(ls.length:Int)<=64) {n:Nat} {s:Int×Int×Unit} (v:SwI D G w0 L tb sz ls is n s w) {Q:Db->Bool->Prop} {K:Int->A2->Prop} {N:Int->Int->A2->Prop}
 (z: ∀{sl Ls},aJ D G w0 w ((tb,di sl sz)::(Ls++L))-> ∀x,Q x (is x))
 (A: ∀{sl Ls d},du ky sl (ls.filter (λl=> !is l)) Ls->aJ D G w0 d ((tb,di sl sz)::(Ls++L))->K ((ls.countP is:Nat):Int) d)
 (o: ∀(a b:Int) (d:A2),(∃q,q<n/\SwI D G w0 L tb sz ls is q (a,b,()) d)->N a b d):
 aH (decide (s.2.1>=0)) ((some (⟨tb,0,none⟩:AA)).isSome=true/\(some (⟨tb,0,none⟩:AA)).isSome=true/\aj w none (ad (ae tb) 0) (.one .slice) λx=>(x.1.isSome=true/\0<=s.2.1/\s.2.1<((x.2.1:Nat):Int))/\aj w none (ad x.1 (B1 s.2.1*4)) ky λx=> ∃r:Bool,Q x r/\
  aH r (aA AC 196 (.bA []) [ag (ae tb),aa s.2.1] w λ_ d=> ∀e,Ext d e->N (aL .i64 s.1 1) (aZ .i64 s.2.1 1) e) (∀e,Ext w e->N s.1 (aZ .i64 s.2.1 1) e))
  (au w λw1=>K s.1 w1):=by
 obtain⟨s1,B,O⟩:=s;obtain⟨h1,m,f,sl,Ls,g,H⟩:=v;have m:s1=(((ls.drop n).countP is:Nat):Int):=m;have f:B=(n:Int) - 1:=f;subst m f;refine ab (λc=>?_) (λc=>?_)
 ·obtain⟨j,rfl⟩: ∃j,n=j+1:=⟨n - 1,by have:=of_decide_eq_true c;dsimp only at this;omega⟩;obtain⟨x,h⟩: ∃x,ls[j]? =some x:=⟨_,Dk (by omega)⟩;have hc:((((ls.drop (j+1)).countP is:Nat):Int))<=ls.length:=by
   have:=List.countP_le_length (p:=is) (l:=ls.drop (j+1));rw[Fu] at this;omega
  have C:((j+1:Nat):Int) - 1=(j:Int):=by omega
  have E:aZ .i64 (j:Int) 1=(j:Int) - 1:=bF (by omega) (by omega);have t:=(g.sl H (λy F=>B8 _ (C7 _ F))) j x (by
   rw[vW _ h,JM (by rw[B6];omega),B6,E4 (by omega),Ga];rfl)
  have P:=g.1;dsimp only;rw[C,E];refine⟨rfl,rfl,aj.cw 0 H rfl rfl ⟨⟨t.1,by omega,?_⟩,aj.of x ?_ ⟨is x,z H x,?_⟩⟩⟩
  grind
  ·dsimp only;rw[Ds];exact t.2
  rw[vW _ h] at g;have i:(ls.drop j).countP is=(ls.drop (j+1)).countP is+if is x=true then 1 else 0:=by rw[jf h,List.countP_cons]
  cases k:is x with
  |true=>
   rw[k,av rfl] at i;refine aB rfl (IQ H g ?_ j ?_ λs' I d u J e f=>o _ _ _ ⟨j,IA j,by omega,?_,rfl,s',I,?_,J.ext f⟩)
   grind
   grind
   ·dsimp only;rw[ax (by omega) (by omega),i];omega
   ·rw[List.eraseIdx_append_of_length_le (by rw[B6];omega),B6,E4 (by omega),Ga] at u;rw[jf h,GG,k];exact u
  |false=>
   rw[k,ao (by decide)] at i;refine an rfl λe f=>o _ _ _ ⟨j,IA j,by omega,?_,rfl,sl,Ls,?_,H.ext f⟩
   ·dsimp only;rw[i];rfl
   ·rw[jf h,GG,k];exact g
 ·have:n=0:=by
   have:=of_decide_eq_false c;dsimp only at this;omega
  subst this;rw[List.drop_zero];exact au.go H λd H=>A g H
theorem GY (H:aJ D G w0 w ((tb,di s sz)::(Ls++L))) (i:du ky s ls Ls) (j:(ls.length:Int)<=64) (m:0<sz) {c d:Nat} {t g:Int} (hc:(c,[aa t])∈L) (o:(d,[aa g])∈L) {K:Int->A2->Prop}
 (k: ∀s' f e,du ky s' (ls.filter λl=> !mm l t g) f->aJ D G w0 e ((tb,di s' sz)::(f++L))->K ((ls.countP (λl=>mm l t g):Nat):Int) e):
 aA AC 147 (.el (.one (.int .i64))) [ag (ae tb),.func (.func 149) #[] #[ag (ae c),ag (ae d)]] w K:=by
 refine aA.go H λw1 H=>ai (C:=U0) (aS:=pJ) (Ak (GR _ _ _ w1 K) ?_);have p:=i.1;refine⟨_,pj H (C8) m,an rfl ⟨rfl,rfl,aj.cw 0 H rfl rfl ⟨SwI D G w0 L tb sz ls (λl=>mm l t g),⟨ls.length,λe q=>⟨Dd _,?_,?_,s,Ls,?_,H.ext q⟩⟩,λn st e r=>?_⟩⟩⟩
 ·rw[Hb];rfl
 ·dsimp only;rw[p,bF (by omega) (by omega)]
 grind
 refine zx (is:=λl=>mm l t g) j r (λ{sl Ls} H x=>?_) (λ{sl Ls e} a b=>k sl Ls e a b) (λa b e h=>h);refine af.of (s:= .el (.one .bool)) λw' h'=>ai (C:=U0) (aS:=λ_=>[]) (Ak (GQ _ _ _ _ _ _ w' _) ?_);have u:=(H.ext h').dm _ (B8 _ (DK _ hc));have v:=(H.ext h').dm _ (B8 _ (DK _ o));have H0:=At.start [] w';refine aM.go H0 λb y H0=>aj.at 0 H0 rfl (rfl) (aj.fP H0 u (by simp) rfl (aj.fP H0 v (by simp) rfl ⟨_,WM (x.1,x.2.1,x.2.2.1,x.2.2.2.1,()) t g y,au.go H0 λz H0=>⟨rfl,H0.all⟩⟩))
theorem GZ (H:aJ D G w0 w ((tb,di s sz)::(Ls++L))) (f:du ky s ls Ls) (g:(ls.length:Int)<=64) (i:0<sz) {c:Nat} {t:Int} (hc:(c,[aa t])∈L) {K:Int->A2->Prop}
 (k: ∀s' e d,du ky s' (ls.filter λl=> !(l.1==t)) e->aJ D G w0 d ((tb,di s' sz)::(e++L))->K ((ls.countP (λl=>l.1==t):Nat):Int) d):
 aA AC 147 (.el (.one (.int .i64))) [ag (ae tb),.func (.func 148) #[] #[ag (ae c)]] w K:=by
 refine aA.go H λw1 H=>ai (C:=U0) (aS:=pK) (Ak (GU _ _ w1 K) ?_);have j:=f.1;refine⟨_,pj H (C8) i,an rfl ⟨rfl,rfl,aj.cw 0 H rfl rfl ⟨SwI D G w0 L tb sz ls (λl=>l.1==t),⟨ls.length,λd m=>⟨Dd _,?_,?_,s,Ls,?_,H.ext m⟩⟩,λn st d o=>?_⟩⟩⟩
 grind
 ·dsimp only;rw[j,bF (by omega) (by omega)]
 grind
 refine zx (is:=λl=>l.1==t) g o (λ{sl Ls} H x=>?_) (λ{sl Ls d} a b=>k sl Ls d a b) (λa b d h=>h);refine af.of (s:= .el (.one .bool)) λw' h'=>ai (C:=U0) (aS:=λ_=>[]) (Ak (Km _ _ _ _ _ w' _) ?_);have p:=(H.ext h').dm _ (B8 _ (DK _ hc));have H0:=At.start [] w';refine aM.go H0 λb q H0=>⟨rfl,aj.cw 0 H0 rfl rfl (aj.fP H0 p (by simp) rfl (au.go H0 λr H0=>⟨rfl,H0.all⟩))⟩
theorem AZ (H:aJ D G w0 w ((tb,di s sz)::(Ls++L))) (h:du ky s ls Ls) (i:(ls.length:Int)<=64) (j:0<sz) (t g:Int) {K:Bool->A2->Prop}
 (k: ∀s' a b,du ky s' (ls.filter λl=> !mm l t g) a->aJ D G w0 b ((tb,di s' sz)::(a++L))->K (ls.any λl=>mm l t g) b):
 aA AC 108 (.el (.one .bool)) [ag (ae tb),aa t,aa g] w K:=by
 refine aA.go H λw1 H=>ai (C:=U0) (aS:=λ_=>[]) (Ak (Ko _ _ _ w1 K) ?_);refine aM.go H λc b H=>aM.go H λd m H=>?_;have n:aJ D G w0 m ((tb,di s sz)::(Ls++((d,[aa g])::(c,[aa t])::L))):=H.perm (by
  have p1:(Ls++((d,[aa g])::(c,[aa t])::L)).Perm _:=B4.trans (C9 _ B4);refine(C9 _ p1).trans ?_;exact(E5 _ _ _).trans (C9 _ (E5 _ _ _)))
 refine GY n h i j (c:=c) (d:=d) (t:=t) (g:=g) (by grind) C8 λs' a q o f=>au.go f λp f=>?_;have e:decide (((ls.countP (λl=>mm l t g):Nat):Int)>0)=ls.any λl=>mm l t g:=by
  rw[Ij,JY]
  simp_all
 rw[e];exact k s' a p o (f.sub (by grind))
theorem G4 (H:aJ D G w0 w ((tb,di s sz)::(Ls++L))) (e:du ky s ls Ls) (f:(ls.length:Int)<=64) (g:0<sz) (t:Int) {K:Int->A2->Prop}
 (k: ∀v s' a b,du ky s' (ls.filter λl=> !(l.1==t)) a->aJ D G w0 b ((tb,di s' sz)::(a++L))->K v b):
 aA AC 107 (.el (.one (.int .i64))) [ag (ae tb),aa t] w K:=by
 refine aA.go H λw1 H=>ai (Ak (GW _ _ w1 K) ?_);refine aM.go H λc b H=>?_;have h:=H.perm ((C9 _ B4).trans (E5 _ _ _));refine GZ h e f g (t:=t) (by grind) λs' a m i d=>au.go d λj d=>?_;exact k _ s' a j i (d.sub (by grind))
end
section
variable {D G:List Nat} {w0 w:A2} {L Ls:List (Nat×List AN)} {s:Option AA×Nat×Nat} {ls:List Db} {sz:Int} {tb:Nat}
def DF (ls:List Db) (sz:Int) (l:Db):List Db:=
 (if ls.any (λx=>mm x l.1 l.2.1)=true then ls.filter (λx=> !mm x l.1 l.2.1) else if(ls.length:Int)=sz then ls.drop 1 else ls)++[l]
def yi (ls:List Db) (t p w:Int):Int×Int×Unit:=match ls.find? (λx=>mm x t p) with
 |none=>(0,4,())
 |some l=>if w<0\/w>7\/fR .i64 w l.2.2.2.1≠0 then(0,7,()) else(l.2.2.1,0,())
theorem IS {x b:Nat×List AN} {Ls L:List (Nat×List AN)}:(x::(Ls++(b::L))).Perm (b::x::(Ls++L)):=
 (C9 _ B4).trans (E5 _ _ _)
theorem Y0 {α:Type} (x y z:α) (A B:List α):(A++(x::y::z::B)).Perm (z::y::x::(A++B)):=by
 refine B4.trans ?_;refine(C9 x (B4.trans (C9 y B4))).trans ?_;refine(C9 x (E5 z y _)).trans ?_;exact(E5 z x _).trans (C9 z (E5 y x _))
theorem P0 (H:aJ D G w0 w ((tb,di s sz)::(Ls++L))) (J:du ky s ls Ls) (hl:(ls.length:Int)<=sz) (A:0<sz/\sz<=64) (l:Db) (M:Z7 l=true) {K:Int->A2->Prop}
 (k: ∀s' B a,du ky s' (DF ls sz l) B->aJ D G w0 a ((tb,di s' sz)::(B++L))->K 0 a):
 aA AC 159 (.el (.one (.int .i64))) [ag (ae tb),lnV l] w K:=by
 obtain⟨t,g,f,r, _⟩:=l;refine aA.go H λw1 H=>ai (C:=U0) (aS:=λ_=>[]) (Ak (PO _ t g f r w1 K) ?_);refine aM.go H λb a H=>⟨_,pj H (B8 _ C8) A.1,an rfl (aj.at 0 H rfl (show _=some (t,g,f,r,()) from rfl) ⟨_,PZ (t,g,f,r,()) a,?_⟩)⟩;rw[M];refine an rfl ⟨rfl,aj.cw 0 H rfl rfl ⟨rfl,aj.cw 0 H rfl rfl ?_⟩⟩;have d:aJ D G w0 a ((tb,di s sz)::(Ls++((b,[aa t,aa g,aa f,aa r])::L))):=H.perm IS;refine AZ d J (by omega) A.1 t g λs1 Ls1 w3 j d=>?_;have N:=List.length_filter_le (λl=> !mm l t g) ls;have v: ∀{c:Option AA×Nat×Nat} {o:List Db} {e:List (Nat×List AN)} {h:A2},du ky c o e->o.length<=ls.length->o++[(t,g,f,r,())]=DF ls sz (t,g,f,r,())->aJ D G w0 h ((tb,di c sz)::(e++((b,[aa t,aa g,aa f,aa r])::L)))->
  ((some (⟨tb,0,none⟩:AA)).isSome=true/\(some (⟨tb,0,none⟩:AA)).isSome=true/\aj h none (ad (ae tb) 0) (.one .slice) λx=>aj h none (ae b) ky λp=>aM h ⟨[aa p.1,aa p.2.1,aa p.2.2.1,aa p.2.2.2.1]⟩ 96 λb a=> ∀w1,Ext a w1->
    mD w1 96 4 32 ⟨[aa 0,aa 0,aa 0,aa 0]⟩ (x.1,x.2.1,x.2.2) (some ⟨b,0,none⟩,1,1) λr a=>(some (⟨tb,0,none⟩:AA)).isSome=true/\(some (⟨tb,0,none⟩:AA)).isSome=true/\az a (ad (ae tb) 0) [.slice r.1 r.2.1 r.2.2] λa=>au a λw1=>K 0 w1):=by
  intro c o e h O acG P Q;have m:=Q.perm (L':=(b,[aa t,aa g,aa f,aa r])::(tb,di c sz)::(e++L)) IS.symm;refine⟨rfl,rfl,aj.cw 1 m rfl (show _=some (c.1,c.2.1,c.2.2) from rfl) (aj.at 0 m rfl (show _=some (t,g,f,r,()) from rfl) (aM.go m λy w5 m R S=>?_))⟩;have E:=m.ext S;have T:=E.get (i:=0) rfl;have U:aJ D G w0 R (e++((tb,di c sz)::(b,[aa t,aa g,aa f,aa r])::(y,[aa t,aa g,aa f,aa r])::L)):=E.perm (Y0 _ _ _ _ _);refine aJ.TN U O rfl (q:=(some ⟨y,0,none⟩,1,1)) (ys:=[(t,g,f,r,())]) rfl ?_ rfl rfl (by simp only[List.length_singleton];omega) λV F w7 I W=>?_
  ·exact bN.oE (vs:=flat ky [(t,g,f,r,())]) T rfl λi hi=>by rw[Bs];rfl
  ·rw[P] at I;have n:=W.perm (L':=(tb,di c sz)::(F++((b,[aa t,aa g,aa f,aa r])::(y,[aa t,aa g,aa f,aa r])::L))) B4.symm;refine⟨rfl,rfl,az.fK 0 n rfl rfl rfl λw8 n=>au.go n λX n=>k V F X I (n.sub ?_)⟩;exact T0 _ (List.Sublist.append_left (T3 _ (T3 _ (S7 _))) _)
 refine⟨λ_=>rfl,λ_=>rfl,aj.kO d C8 (show _=some (s1.1,s1.2.1,s1.2.2) from rfl) ⟨λ_=>rfl,λ_=>rfl,aj.kO d C8 (show _=some sz from rfl) ?_⟩⟩;dsimp only;have z:=j.1;cases u:ls.any (λl=>mm l t g) with
 |true=>
  refine an rfl (v j N ?_ d);unfold DF;rw[av u]
 |false=>
  have Y:ls.filter (λl=> !mm l t g)=ls:=JW.2 λx Z=>by
   have:=(List.any_eq_false.1 u) x Z;simpa using this
  rw[Y] at j z;by_cases hc:(ls.length:Int)=sz
  ·refine aB (by rw[z,hc];simp) ?_;have h0:0<ls.length:=by omega
   refine IQ d j (by omega) 0 h0 λc e h To H2=>v To (by rw[List.length_eraseIdx];split<;>omega) ?_ H2;unfold DF;rw[ao (by rw[u];decide),av hc];cases ls with
   |nil=>exact absurd h0 (by simp)
   |cons x r=>rfl
  ·refine an (by rw[z];simpa using hc) (v j (Dd _) ?_ d);unfold DF;rw[ao (by rw[u];decide),ao hc]
theorem Uq (H:aJ D G w0 w ((tb,di s sz)::(Ls++L))) (h:du ky s ls Ls) (M:(ls.length:Int)<=64) (r:0<sz) (t g k:Int):
 af AC 201 [ag (ae tb),aa t,aa g,aa k] w ((Sh.bA [.one (.int .i64),.one (.int .i64)]).gZ (yi ls t g k)):=by
 refine af.of (s:= .bA [.one (.int .i64),.one (.int .i64)]) λw1 h1=>ai (C:=U0) (aS:=tX) (Ak (PQ _ t g k w1 _) ?_);have H:=H.ext h1;have u:=h.1;have v:=h.sl H (λy z=>B8 _ (C7 _ z));refine⟨_,pj H C8 r,an rfl ⟨rfl,rfl,aj.cw 0 H rfl (show _=some (s.1,s.2.1,s.2.2) from rfl) ?_⟩⟩;refine⟨λn st d=> ∃j:Nat,j<=ls.length/\n=ls.length - j/\st.1=(j:Int)/\(ls.take j).find? (λx=>mm x t g)=none/\Ext w1 d,⟨ls.length,λd a=>⟨0,GH _,rfl,rfl,rfl,a⟩⟩,?_⟩;rintro n ⟨i, _⟩ d ⟨j,l,A,hi,e,a⟩;have hi:i=(j:Int):=hi;subst hi A;dsimp only;rw[u];refine ab (λc=>?_) (λc=>?_)
 ·have l:j<ls.length:=by have:=of_decide_eq_true c;omega
  obtain⟨x,f⟩: ∃x,ls[j]? =some x:=⟨_,Dk l⟩;have m:=v j x f;have H0:aJ [] [] w1 d []:=(At.start [] w1).ext a;refine⟨⟨m.1,by omega,by omega⟩,aj.of x (by rw[Ds];exact tr a m.2) (aM.go H0 λb B H0=>az.all 0 H0 rfl rfl rfl λE H0=>aj.at 0 H0 rfl (show _=some (x.1,x.2.1,x.2.2.1,x.2.2.2.1,()) from rfl) ⟨_,WM (x.1,x.2.1,x.2.2.1,x.2.2.2.1,()) t g E,?_⟩)⟩;have F:mm (x.1,x.2.1,x.2.2.1,x.2.2.2.1,()) t g=mm x t g:=rfl;rw[F];cases o:mm x t g with
  |false=>
   refine aB rfl λp I=>⟨ls.length - (j+1),by omega,j+1,by omega,rfl,?_,?_,(H0.ext I).all⟩
   ·rw[ax (by omega) (by omega)];omega
   ·rw[HB,f,NZ,e];rw[Option.none_or];show List.find? _ [x]=none;rw[No,o];rfl
  |true=>
   have J:ls.find? (λx=>mm x t g)=some x:=by
    rw[<-Dn j ls,NZ,e,jf f,No,o];rfl
   have hv:yi ls t g k=if k<0\/k>7\/fR .i64 k x.2.2.2.1≠0 then(0,7,()) else(x.2.2.1,0,()):=by
    unfold yi;rw[J]
   rw[hv];refine an rfl ⟨λ_=>rfl,aj.cw 0 H0 rfl rfl ?_⟩;refine ab (λc=>au.go H0 λp H0=>⟨?_,H0.all⟩) (λc=>⟨rfl,aj.cw 0 H0 rfl rfl (au.go H0 λp H0=>⟨?_,H0.all⟩)⟩)
   ·simp only[F1,decide_eq_true_eq,bne_iff_ne] at c;rw[av ?_];rcases c with (c|c)|c
    ·exact .inl c
    ·exact .inr (.inl c)
    ·exact .inr (.inr c)
   ·simp only[FB,decide_eq_false_iff_not,bne_eq_false_iff_eq] at c;rw[ao ?_];rintro(q|q|q)
    ·exact c.1.1 q
    ·exact c.1.2 q
    ·exact q c.2
 ·have:j=ls.length:=by have:=of_decide_eq_false c;omega
  subst this;rw[JX] at e;intro B K;refine⟨?_,a.trans K⟩;unfold yi;rw[e]
theorem KA (H:aJ D G w0 w ((tb,di s sz)::(Ls++L))) (c:du ky s ls Ls) (m:(ls.length:Int)<=64) (e:0<sz) {K:Option AA×Nat×Nat->A2->Prop}
 (k: ∀r a b,du ky r ls a->aJ D G w0 b (a++((tb,di s sz)::(Ls++L)))->K r b):
 aA AC 83 (.el (.one .slice)) [ag (ae tb)] w K:=by
 refine aA.go H λw1 H=>ai (C:=U0) (aS:=λ_=>[]) (Ak (Kp _ w1 K) ?_);refine⟨_,pj H C8 e,an rfl ⟨rfl,rfl,aj.cw 0 H rfl (show _=some (s.1,s.2.1,s.2.2) from rfl) λb f=>?_⟩⟩;have d:=H.ext f;refine aJ.TN (Ls:=[]) d (du.nil ky) rfl (q:=s) c.1 (c.oE d (λy g=>B8 _ (C7 _ g))) rfl rfl (by simp only[Nt];omega) λr a n h i=>au.go i λj l=>k _ a j h l
theorem Ur (H:aJ D G w0 w L) (n:Int) {K:Option AA×Int×Unit->A2->Prop} (kb:n<1\/n>64-> ∀w1,aJ D G w0 w1 L->K (none,1,()) w1)
 (e:1<=n->n<=64-> ∀b w1,aJ D G w0 w1 ((b,di (none,0,0) n)::L)->K (some ⟨b,0,none⟩,0,()) w1):
 aA AC 86 (.bA [.one .ptr,.one (.int .i64)]) [aa n] w K:=by
 refine aA.go H λw1 H=>ai (C:=U0) (aS:=λ_=>[]) (Ak (Ue n w1 K) ?_);refine ab (λc=>au.go H λa H=>kb (by simpa using c) a H) (λc=>aM.go H λb a H=>au.go H λf H=>?_);have d:1<=n/\n<=64:=by
  simp only[FB,decide_eq_false_iff_not] at c;omega
 exact e d.1 d.2 b f H
end
def kI (v:AN):Int:=match v with
 | .int _ n=>n
 | _=>0
abbrev Fy (e:Int×Int):KV:=(e.1,aa e.2)
section
variable {D G:List Nat} {w0 w:A2} {L Ls:List (Nat×List AN)} {M M0:List (Nat×Av)} {es:List B3} {mb ck b:Nat}
theorem stM (H:cC D G w0 w (Ls++L) M) {e:El} {s:Option AA×Nat×Nat} {xs:List e.T} (b:du e s xs Ls) {i:Nat} (hi:i<xs.length) (y:e.T) {vs:List AN} (hv:vs=cellsOf e y) (c:gW e=true) {K:A2->Prop}
 (k: ∀a w1,du e s (xs.set i y) a->cC D G w0 w1 (a++L) M->K w1):az w (ad s.1 (i*aD e)) vs K:=λw1 h1=>
 b.st (H.ext h1).base.again hi y hv c (λa d f g=>k a d f ((H.ext h1).join g)) w1 (Ext.refl w1)
theorem Fq (H:cC D G w0 w (Ls++L) M) {e:El} {s:Option AA×Nat×Nat} {xs:List e.T} (b:du e s xs Ls) (c:gW e=true) {q:Option AA×Nat×Nat} {ys:List e.T} (d:q.2.1=ys.length) (f:Go.RX.oE w q.1 (q.2.1*aD e) (flat e ys))
 {t:FM} {size bytes:Nat} {z:Array AN} (g:size=aD e) (h:z.size=aD e) (hb:(xs.length+ys.length)*bytes<=140737488355328) {R:Option AA×Nat×Nat->A2->Prop}
 (k: ∀s' a w',du e s' (xs++ys) a->cC D G w0 w' (a++L) M->R s' w'):mD w t size bytes z s q R:=
 aJ.TN H.base.again b c d f g h hb λs' a w' h1 i=>k s' a w' h1 (H.join i)
theorem rP {e:El} {a:Nat} {x:e.T} (h:bN w a (cellsOf e x)):Go.RX.oE w (ae a) (1*aD e) (flat e [x]):=
 bN.oE (vs:=flat e [x]) h (by rw[aF];rfl) λi hi=>by rw[Bs];show(cellsOf e x)[i]? =(cellsOf e x++[])[i]?;rw[H6]
theorem P1 {r:Option AA×Nat×Nat} {R:List Int} {x:Int} (H:cC D G w0 w (Ls++L) M) (hs:du eI r (R++[x]) Ls) (T:R.Pairwise (· <= ·)) (hl:(R.length:Int)<4611686018427387904) {n0:Int} (hn:n0=R.length) {N:A2->Prop}
 (hN: ∀k E b,E.Pairwise (· <= ·)->E.Perm (x::R)->du eI r E k->cC D G w0 b (k++L) M->N b):
 ∃I:Nat->Int×Unit->A2->Prop,(∃n, ∀w1,Ext w w1->I n (n0,()) w1)/\ ∀(U:Nat) (s:Int×Unit) (w1:A2),I U s w1->
  (decide (s.1>0)=true->r.1.isSome=true/\0<=aZ .i64 s.1 1/\aZ .i64 s.1 1<((r.2.1:Nat):Int))/\aj w1 (some (decide (s.1>0))) (ad r.1 ((aZ .i64 s.1 1).toNat*1)) eI λ(aN:Int)=>
   aH (decide (s.1>0)&&decide (aN>x)) ((r.1.isSome=true/\0<=aZ .i64 s.1 1/\aZ .i64 s.1 1<((r.2.1:Nat):Int))/\aj w1 none (ad r.1 ((aZ .i64 s.1 1).toNat*1)) eI λ(y:Int)=>
    (r.1.isSome=true/\0<=s.1/\s.1<((r.2.1:Nat):Int))/\az w1 (ad r.1 (B1 s.1*1)) [aa y] λg=> ∀b,Ext g b-> ∃V,V<U/\I V (aZ .i64 s.1 1,()) b)
    ((r.1.isSome=true/\0<=s.1/\s.1<((r.2.1:Nat):Int))/\az w1 (ad r.1 (B1 s.1*1)) [aa x] λg=> ∀b,Ext g b->N b):=by
 refine⟨λn st w'=> ∃(F:List (Nat×List AN)) (c:Int),n<=R.length/\st.1=(n:Int)/\du eI r (R.take n++(c::R.drop n)) F/\(∀y∈R.drop n,x<y)/\cC D G w0 w' (F++L) M,⟨R.length,λw1 h1=>⟨Ls,x,Dd _,hn,by rw[JX,Hb];exact hs,λy e=>(by rw[Hb] at e;cases e),H.ext h1⟩⟩,?_⟩;rintro n ⟨i, _⟩ w1 ⟨F,c,u,hi,l,W,v⟩;have hi:i=(n:Int):=hi;subst hi;dsimp only;have m:=l.1;have J:(R.take n++(c::R.drop n)).length=R.length+1:=by
  rw[Bx,B6,Nw,Fu,E4 u];omega
 rw[J] at m;have cn:(R.take n++(c::R.drop n))[n]? =some c:=by
  rw[JM (by rw[B6];omega),B6,E4 u,Ga];rfl
 have z:=(l.sl v.base (λy e=>C7 _ e) n c cn).1;have X:decide ((n:Int)>0)=false\/(∃p,R[n - 1]? =some p/\p<=x)->((r.1.isSome=true/\0<=(n:Int)/\(n:Int)<((r.2.1:Nat):Int))/\az w1 (ad r.1 (B1 (n:Int)*1)) [aa x] λg=> ∀b,Ext g b->N b):=λK=>by
  refine⟨⟨z,by omega,by rw[m];omega⟩,?_⟩;rw[Ds];refine stM v l (i:=n) (by rw[J];omega) x rfl rfl λk g o O b P=>?_;have Q:(R.take n++(c::R.drop n)).set n x=R.take n++(x::R.drop n):=by
   rw[Ny _ _ (by rw[B6];omega),B6,E4 u,Ga];rfl
  rw[Q] at o;refine hN k _ b ?_ ?_ o (O.ext P)
  ·have A:=T;rw[<-Dn n R,Nz] at A;refine Nz.2 ⟨A.1,List.pairwise_cons.2 ⟨λy e=>Int.le_of_lt (W y e),A.2.1⟩,λa B d S=>?_⟩;rcases B5.1 S with rfl|S
   ·rcases K with K|⟨p,f,Y⟩
    ·have:n=0:=by have:=of_decide_eq_false K;omega
     subst this;rw[O2] at B;cases B
    ·obtain⟨j,t⟩:=GD B;have NH:j<(R.take n).length:=(BI.1 t).1;rw[B6] at NH;rw[OL (by omega)] at t;have Tp:n - 1<R.length:=(BI.1 f).1;rcases Nat.lt_or_ge j (n - 1) with q|q
     ·have Z:=BI.1 t;have Xu:=BI.1 f;have:=List.pairwise_iff_getElem.1 T j (n - 1) Z.1 Tp q;rw[Z.2,Xu.2] at this;exact Int.le_trans this Y
     ·have:j=n - 1:=by omega
      subst this;rw[f] at t;cases t;exact Y
   ·exact A.2.2 a B d S
  ·exact B4.trans (C9 x (by rw[Dn]))
 cases n with
 |zero=>
  have C:decide (((0:Nat):Int)>0)=false:=by decide
  refine⟨λh=>(by rw[C] at h;cases h),0,λh=>(by rw[C] at h;cases h),an (by rw[C];rfl) (X (.inl C))⟩
 |succ j=>
  have oJ:decide (((j+1:Nat):Int)>0)=true:=decide_eq_true (by omega);have Yp:aZ .i64 ((j+1:Nat):Int) 1=(j:Int):=by rw[bF (by omega) (by omega)];omega
  obtain⟨p,f⟩: ∃p,R[j]? =some p:=⟨_,Dk (by omega)⟩;have hcj:(R.take (j+1)++(c::R.drop (j+1)))[j]? =some p:=by
   rw[H4 (by rw[B6];omega),OL (by omega),f]
  have BK:=(l.sl v.base (λy e=>C7 _ e) j p hcj).2;rw[Yp];refine⟨λ_=>⟨z,by omega,by rw[m];omega⟩,aj.of p (by rw[Ds];exact BK) ?_⟩;refine ab (λhc=>?_) (λhc=>X (.inr ⟨p,(show R[j+1 - 1]? =some p from f),?_⟩))
  ·rw[oJ,Gd,decide_eq_true_eq] at hc;refine⟨⟨z,by omega,by rw[m];omega⟩,aj.of p (by rw[Ds];exact BK) ⟨⟨z,by omega,by rw[m];omega⟩,?_⟩⟩;rw[Ds];refine stM v l (i:=j+1) (by rw[J];omega) p rfl rfl λk g o O b P=>⟨j,IA j,k,p,by omega,rfl,?_,?_,O.ext P⟩
   ·have Q:(R.take (j+1)++(c::R.drop (j+1))).set (j+1) p=R.take j++(p::R.drop j):=by
     rw[Ny _ _ (by rw[B6];omega),B6,E4 u,Ga];rw[HB,f,jf f,FN];rfl
    rw[Q] at o;exact o
   ·intro y e;rw[jf f] at e;rcases B5.1 e with rfl|e
    ·exact hc
    ·exact W y e
  ·rw[oJ,Gd,decide_eq_false_iff_not] at hc;show p<=x;omega
theorem A0 {e:B3} {seen:Array Nat} {f:B3->Bool} (g:seen.contains e.born=false): ∀{es:List B3},(es.map (·.born)).Nodup->e∈es->
 (es.filter λx=>(seen.push e.born).contains x.born&&f x).Perm (if f e=true then e::es.filter (λx=>seen.contains x.born&&f x) else es.filter (λx=>seen.contains x.born&&f x))
 |[], _,h=>by cases h
 |y::es,a,hm=>by
  rw[BQ,B9] at a;have b: ∀z:Nat,(seen.push e.born).contains z=(seen.contains z||z==e.born):=λz=>by
   rw[Array.contains_push]
  rcases B5.1 hm with rfl|hm
  ·have j: ∀x∈es,(x.born==e.born)=false:=λx d=>by
    have:x.born≠e.born:=λc=>a.1 (by rw[<-c];exact Al.2 ⟨x,d,rfl⟩);simpa using this
   have k:es.filter (λx=>(seen.push e.born).contains x.born&&f x)=es.filter (λx=>seen.contains x.born&&f x):=List.filter_congr λx d=>by
    rw[b,j x d,Bool.or_false]
   rw[GG,GG,b,k,g];cases m:f e
   ·simp
   ·simp
  ·have i:=A0 g (f:=f) a.2 hm;have l:(y.born==e.born)=false:=by
    have:y.born≠e.born:=λc=>a.1 (by rw[c];exact Al.2 ⟨e,hm,rfl⟩);simpa using this
   rw[GG,GG,b,l,Bool.or_false];cases n:(seen.contains y.born&&f y)
   ·simpa using i
   ·simp only[if_true];refine(C9 y i).trans ?_;split
    ·exact E5 _ _ _
    ·exact List.Perm.refl _
end
end Go.Proofs.YtlcenllcmeebhaaGreat.Mu
namespace Go.Proofs.YtlcenllcmeebhaaGreat
set_option maxRecDepth 100000
open Go.RX
abbrev sG:List Sc:=[.int .i64,.int .i64,.int .i64,.bool,.int .i64]
abbrev eG:El:= .agg sG
abbrev GT:Type:=Int×Int×Int×Bool×Int×Unit
def zG:GT:=(0,0,0,false,0,())
def gG (n:Int):Bool:=decide (n>=1)&&decide (n<=16)
def mK (o p t:Int) (b:Bool) (u:Int):Bool:=decide (((o,p,t,b,u,()):GT)=zG)
noncomputable def G0:dI AC:={C3 with vy:=false}
theorem KB (n:Int) (w:A2) (a:Bool->A2->Prop):(aI G0 (λ_=>[]) 225 [aa n] w a)=(
 au w (a (decide (n>=1)&&decide (n<=16)))):=by kernel_rfl
theorem P2 (o p t:Int) (b:Bool) (u:Int) (w:A2) (a:Bool->A2->Prop):(aI G0 (λ_=>[]) 210 [.agg ⟨[aa o,aa p,aa t,.bool b,aa u]⟩] w a)=(
 aM w ⟨[aa o,aa p,aa t,.bool b,aa u]⟩ 255 λb c=>aj c none (ae b) (.agg [.int .i64,.int .i64,.int .i64,.bool,.int .i64]) λ(x:Int×Int×Int×Bool×Int×Unit)=>au c λw1=>a (x.1==0&&(x.2.1==0&&(x.2.2.1==0&&(x.2.2.2.1==false&&(x.2.2.2.2.1==0&&true))))) w1):=by kernel_rfl
theorem KC (n:Int) (w:A2):aC AC 225 (.el (.one .bool)) [aa n] w (λx w'=>x=gG n/\Ext w w'):=by
 refine ai (C:=G0) (aS:=λ_=>[]) (Ak (KB n w _) ?_);have H:=At.start [] w
 repeat' (first
  |exact Go.RX.aJ.all H
  |exact And.intro (by first|rfl|decide+kernel) (Go.RX.aJ.all H)
  |refine And.intro (by first|exact rfl|exact trivial|exact λ_=>rfl|exact λ_=>trivial|exact⟨rfl,by decide,by decide⟩|exact⟨by decide,by decide⟩|decide+kernel|exact λ_=>by decide|exact λ_=>⟨rfl,by decide,by decide⟩|(dsimp only[Nw,Nt];exact⟨rfl,by decide,by decide⟩)) ?_
  |refine aj.cw 0 H rfl rfl ?_
  |refine aj.cw 1 H rfl rfl ?_
  |refine aj.at 0 H rfl rfl ?_
  |refine aj.at 1 H rfl rfl ?_
  |refine aM.go H λb w1 H=>?_
  |refine az.all 0 H rfl rfl rfl λw1 H=>?_
  |refine az.all 1 H rfl rfl rfl λw1 H=>?_
  |refine az.fK 0 H rfl rfl rfl λw1 H=>?_
  |refine az.fK 1 H rfl rfl rfl λw1 H=>?_
  |refine az.one 0 H rfl rfl rfl λw1 H=>?_
  |refine az.one 1 H rfl rfl rfl λw1 H=>?_
  |with_reducible refine au.go H λw1 H=>?_
  |refine jM ?_
  |refine aB (by assumption) ?_
  |refine an (by assumption) ?_
  |refine ab (λc=>?_) (λc=>?_))
theorem P3 (o p t:Int) (b:Bool) (u:Int) (w:A2):aC AC 210 (.el (.one .bool)) [.agg ⟨[aa o,aa p,aa t,.bool b,aa u]⟩] w (λx w'=>x=mK o p t b u/\Ext w w'):=by
 refine ai (C:=G0) (aS:=λ_=>[]) (Ak (P2 o p t b u w _) ?_);have H:=At.start [] w;refine aM.go H λa c H=>aj.at 0 H rfl rfl (au.go H λd H=>⟨?_,H.all⟩);unfold mK zG;rw[Ij];simp
noncomputable def Us:Entry AC where
 f:=225
 fn l:=match l with
  |[.int .i64 a]=>some (True,.bool (gG a))
  | _=>none
 ok args pre v h b w:=by
  split at h
  ·rename_i a;cases h;exact bX (KC a w)
  ·cases h
noncomputable def Y1:Entry AC where
 f:=210
 fn l:=match l with
  |[.agg ⟨[.int .i64 o,.int .i64 p,.int .i64 t,.bool b,.int .i64 u]⟩]=>some (True,.bool (mK o p t b u))
  | _=>none
 ok args pre v h a w:=by
  split at h
  ·rename_i o p t b u;cases h;exact bX (P3 o p t b u w)
  ·cases h
noncomputable def G3:dI AC:={G0 with si:=[Us,Y1],quiet:=[224,221,226,209],sh:=[]}
theorem KE (p:Option AA) (w:A2) (a:Bool->A2->Prop):(aI G3 (λ_=>[]) 224 [ag p] w a)=(
 ((!p.isNone)=true->p.isSome=true)/\((!p.isNone)=true->p.isSome=true)/\aj w (some !p.isNone) (ad p 0) fi λx=>au w λw1=>a (!p.isNone&&decide ((↑x.2.1:Int)>0)) w1):=by kernel_rfl
theorem Y3 (p:Option AA) (i:Int) (w:A2) (b:Option AA×Int×Unit->A2->Prop):(aI G3 (λ_=>[]) 221 [ag p,aa i] w b)=(
 ∃x,af AC 224 [ag p] w (.bool x)/\aH (!x) (au w (b (none,10,()))) (((!decide (i<0))=true->p.isSome=true)/\((!decide (i<0))=true->p.isSome=true)/\aj w (some !decide (i<0)) (ad p 0) fi λx=>((!(decide (i<0)||decide (i>=(↑x.2.1:Int))))=true->p.isSome=true)/\((!(decide (i<0)||decide (i>=(↑x.2.1:Int))))=true->p.isSome=true)/\aj w (some !(decide (i<0)||decide (i>=(↑x.2.1:Int)))) (ad p 0) fi λc=>((!(decide (i<0)||decide (i>=(↑x.2.1:Int))))=true->c.1.isSome=true/\0<=i/\i<
 (↑c.2.1:Int))/\aj w (some !(decide (i<0)||decide (i>=(↑x.2.1:Int)))) (ad c.1 (i.toNat*5)) (.agg [.int .i64,.int .i64,.int .i64,.bool,.int .i64]) λ(a:Int×Int×Int×Bool×Int×Unit)=>((!(decide (i<0)||decide (i>=(↑x.2.1:Int))))=true->True)/\aH (decide (i<0)||decide (i>=(↑x.2.1:Int))||mK a.1 a.2.1 a.2.2.1 a.2.2.2.1 a.2.2.2.2.1) (au w (b (none,4,()))) (fe p 0 w λx=>(x.1.isSome=true/\0<=i/\i<(↑x.2.1:Int))/\au w (b (ad x.1 (i.toNat*5),0,()))))):=by kernel_rfl
theorem P4 (o q t:Int) (b:Bool) (u:Int) (c:Option AA) (w:A2) (d:Bool->A2->Prop):(aI G3 (λ_=>[]) 226 [.agg ⟨[aa o,aa q,aa t,.bool b,aa u]⟩,ag c] w d)=(
 aM w ⟨[aa o,aa q,aa t,.bool b,aa u]⟩ 255 λb a=>aj a none c (.agg [.int .i64,.int .i64,.int .i64,.bool,.int .i64]) λ(x:Int×Int×Int×Bool×Int×Unit)=>true=true/\aW a (ad (ae b) 0) λe=>true=true/\aW a (ad (ae b) 1) λf=>true=true/\aW a (ad (ae b) 2) λg=>au a λw1=>d (x.1==e&&(x.2.1==f&&(x.2.2.1==g&&(x.2.2.2.1==false&&(x.2.2.2.2.1==0&&true))))) w1):=by kernel_rfl
theorem KF (o q t:Int) (b:Bool) (u:Int) (c:Option AA) (w:A2) (f:Bool->A2->Prop):(aI G3 (λ_=>[]) 209 [.agg ⟨[aa o,aa q,aa t,.bool b,aa u]⟩,ag c] w f)=(
 aM w ⟨[aa o,aa q,aa t,.bool b,aa u]⟩ 255 λb a=>aj a none (ae b) (.agg [.int .i64,.int .i64,.int .i64,.bool,.int .i64]) λ(x:Int×Int×Int×Bool×Int×Unit)=>True/\((!mK x.1 x.2.1 x.2.2.1 x.2.2.2.1 x.2.2.2.2.1)=true->true=true)/\aj a (some !mK x.1 x.2.1 x.2.2.1 x.2.2.2.1 x.2.2.2.2.1) (ad (ae b) 0) aX λ(d:Int)=>aj a (some !mK x.1 x.2.1 x.2.2.1 x.2.2.2.1 x.2.2.2.2.1) c aX λ(e:Int)=>((!mK x.1 x.2.1 x.2.2.1 x.2.2.2.1 x.2.2.2.2.1&& !d==e)=true->true=true)/\aj a (some (!mK x.1
 x.2.1 x.2.2.1 x.2.2.2.1 x.2.2.2.2.1&& !d==e)) (ad (ae b) 2) aX λ(g:Int)=>aj a (some (!mK x.1 x.2.1 x.2.2.1 x.2.2.2.1 x.2.2.2.2.1&& !d==e)) c aX λ(h:Int)=>au a (f (!mK x.1 x.2.1 x.2.2.1 x.2.2.2.1 x.2.2.2.2.1&&(d==e||g==h)))):=by kernel_rfl
def qO:Nat->a8:=(λ|5=>[(5,Go.RX.El.one Go.RX.Sc.slice),(16,Go.RX.El.one (Go.RX.Sc.int Ay))]| _=>[])
theorem KG (p:Option AA) (w:A2) (e:Option AA×Nat×Nat->A2->Prop):(aI G3 qO 208 [ag p,.func (.func 210) #[] #[]] w e)=(
 ∃x,af AC 224 [ag p] w (.bool x)/\aH (!x) (au w (e (none,0,0))) (fe p 0 w λx=> ∃(I:Nat->(Option AA×Nat×Nat)×Int×Unit->A2->Prop),(∃n, ∀w1,Ext w w1->I n ((none,0,0),0,()) w1)/\ ∀(n:Nat) (s:(Option AA×Nat×Nat)×Int×Unit) (w1:A2),I n s w1->aH (decide (s.2.1<(↑x.2.1:Int))) ((x.1.isSome=true/\0<=s.2.1/\s.2.1<(↑x.2.1:Int))/\aj w1 none (ad x.1 (B1 s.2.1*5)) (.agg [.int .i64,.int .i64,.int .i64,.bool,.int .i64]) λ(x:Int×Int×Int×Bool×Int×Unit)=>aM w1 ⟨[aa 0,
 aa 0,aa 0,.bool false,aa 0]⟩ 255 λb a=>az a (ae b) [aa x.1,aa x.2.1,aa x.2.2.1,.bool x.2.2.2.1,aa x.2.2.2.2.1] λa=>aj a none (ae b) (.agg [.int .i64,.int .i64,.int .i64,.bool,.int .i64]) λ(x:Int×Int×Int×Bool×Int×Unit)=>True/\aH (mK x.1 x.2.1 x.2.2.1 x.2.2.2.1 x.2.2.2.2.1) (aM a ⟨[aa s.2.1]⟩ 3 λb a=> ∀w1,Ext a w1->mD w1 3 1 8 ⟨[aa 0]⟩ (s.1.1,s.1.2.1,s.1.2.2) (some ⟨b,0,none⟩,1,1) λ(r:Option AA×Nat×Nat) a=> ∀c,Ext a c-> ∃(d:Nat),d<n/\I d
 ((r.1,r.2.1,r.2.2),aL .i64 s.2.1 1,()) c) (∀c,Ext a c-> ∃(d:Nat),d<n/\I d ((s.1.1,s.1.2.1,s.1.2.2),aL .i64 s.2.1 1,()) c)) (au w1 (e (s.1.1,s.1.2.1,s.1.2.2))))):=by kernel_rfl
def qP:Nat->a8:=(λ|5=>[(5,Go.RX.El.one Go.RX.Sc.slice),(16,Go.RX.El.one (Go.RX.Sc.int Ay))]| _=>[])
theorem KH (p c:Option AA) (w:A2) (f:Option AA×Nat×Nat->A2->Prop):(aI G3 qP 208 [ag p,.func (.func 226) #[] #[ag c]] w f)=(
 ∃x,af AC 224 [ag p] w (.bool x)/\aH (!x) (au w (f (none,0,0))) (fe p 0 w λx=> ∃(I:Nat->(Option AA×Nat×Nat)×Int×Unit->A2->Prop),(∃n, ∀w1,Ext w w1->I n ((none,0,0),0,()) w1)/\ ∀(n:Nat) (s:(Option AA×Nat×Nat)×Int×Unit) (w1:A2),I n s w1->aH (decide (s.2.1<(↑x.2.1:Int))) ((x.1.isSome=true/\0<=s.2.1/\s.2.1<(↑x.2.1:Int))/\aj w1 none (ad x.1 (B1 s.2.1*5)) (.agg [.int .i64,.int .i64,.int .i64,.bool,.int .i64]) λ(x:Int×Int×Int×Bool×Int×Unit)=>aM w1 ⟨[aa 0,
 aa 0,aa 0,.bool false,aa 0]⟩ 255 λb a=>az a (ae b) [aa x.1,aa x.2.1,aa x.2.2.1,.bool x.2.2.2.1,aa x.2.2.2.2.1] λa=>aj a none (ae b) (.agg [.int .i64,.int .i64,.int .i64,.bool,.int .i64]) λ(x:Int×Int×Int×Bool×Int×Unit)=> ∃g,af AC 226 [.agg ⟨[aa x.1,aa x.2.1,aa x.2.2.1,.bool x.2.2.2.1,aa x.2.2.2.2.1]⟩,ag c] a (.bool g)/\aH g (aM a ⟨[aa s.2.1]⟩ 3 λb a=> ∀w1,Ext a w1->mD w1 3 1 8 ⟨[aa 0]⟩ (s.1.1,s.1.2.1,s.1.2.2)
 (some ⟨b,0,none⟩,1,1) λ(r:Option AA×Nat×Nat) a=> ∀d,Ext a d-> ∃(e:Nat),e<n/\I e ((r.1,r.2.1,r.2.2),aL .i64 s.2.1 1,()) d) (∀d,Ext a d-> ∃(e:Nat),e<n/\I e ((s.1.1,s.1.2.1,s.1.2.2),aL .i64 s.2.1 1,()) d)) (au w1 (f (s.1.1,s.1.2.1,s.1.2.2))))):=by kernel_rfl
def qQ:Nat->a8:=(λ|5=>[(5,Go.RX.El.one Go.RX.Sc.slice),(16,Go.RX.El.one (Go.RX.Sc.int Ay))]| _=>[])
theorem KI (p c:Option AA) (w:A2) (f:Option AA×Nat×Nat->A2->Prop):(aI G3 qQ 208 [ag p,.func (.func 209) #[] #[ag c]] w f)=(
 ∃x,af AC 224 [ag p] w (.bool x)/\aH (!x) (au w (f (none,0,0))) (fe p 0 w λx=> ∃(I:Nat->(Option AA×Nat×Nat)×Int×Unit->A2->Prop),(∃n, ∀w1,Ext w w1->I n ((none,0,0),0,()) w1)/\ ∀(n:Nat) (s:(Option AA×Nat×Nat)×Int×Unit) (w1:A2),I n s w1->aH (decide (s.2.1<(↑x.2.1:Int))) ((x.1.isSome=true/\0<=s.2.1/\s.2.1<(↑x.2.1:Int))/\aj w1 none (ad x.1 (B1 s.2.1*5)) (.agg [.int .i64,.int .i64,.int .i64,.bool,.int .i64]) λ(x:Int×Int×Int×Bool×Int×Unit)=>aM w1 ⟨[aa 0,
 aa 0,aa 0,.bool false,aa 0]⟩ 255 λb a=>az a (ae b) [aa x.1,aa x.2.1,aa x.2.2.1,.bool x.2.2.2.1,aa x.2.2.2.2.1] λa=>aj a none (ae b) (.agg [.int .i64,.int .i64,.int .i64,.bool,.int .i64]) λ(x:Int×Int×Int×Bool×Int×Unit)=> ∃g,af AC 209 [.agg ⟨[aa x.1,aa x.2.1,aa x.2.2.1,.bool x.2.2.2.1,aa x.2.2.2.2.1]⟩,ag c] a (.bool g)/\aH g (aM a ⟨[aa s.2.1]⟩ 3 λb a=> ∀w1,Ext a w1->mD w1 3 1 8 ⟨[aa 0]⟩ (s.1.1,s.1.2.1,s.1.2.2)
 (some ⟨b,0,none⟩,1,1) λ(r:Option AA×Nat×Nat) a=> ∀d,Ext a d-> ∃(e:Nat),e<n/\I e ((r.1,r.2.1,r.2.2),aL .i64 s.2.1 1,()) d) (∀d,Ext a d-> ∃(e:Nat),e<n/\I e ((s.1.1,s.1.2.1,s.1.2.2),aL .i64 s.2.1 1,()) d)) (au w1 (f (s.1.1,s.1.2.1,s.1.2.2))))):=by kernel_rfl
theorem KJ (p:Option AA) (o q t:Int) (b:Bool) (w:A2) (c:Int×Int×Unit->A2->Prop):(aI G3 (λ_=>[]) 180 [ag p,aa o,aa q,aa t,.bool b] w c)=(
 ∃x,af AC 224 [ag p] w (.bool x)/\aH (!x) (au w (c (0,10,()))) (True/\((!!gG o)=true->True)/\aH (!gG o|| !gG t||o==t||decide (q<0)||decide (q>=65536)) (au w (c (0,1,()))) (aM w ⟨[aa 0,aa 0,aa 0,.bool false,aa 0]⟩ 255 λe a=>az a (ae e) [aa o,aa q,aa t,.bool false,aa 0] λa=>aA AC 208 (.el fi) [ag p,.func (.func 226) ⟨[]⟩ {toList:=[ag (ae e)]}] a λx a=>aH (decide ((↑x.2.1:Int)>0)) (au a (c (0,5,
 ()))) (aA AC 208 (.el fi) [ag p,.func (.func 210) ⟨[]⟩ ⟨[]⟩] a λx a=>aH ((↑x.2.1:Int)==0) (au a (c (0,3,()))) (true=true/\az a (ad (ae e) 3) [.bool b] λa=>fe p 0 a λf=>(x.1.isSome=true/\(0:Int)<=0/\0<(↑x.2.1:Int))/\aW a (ad x.1 0) λg=>aj a none (ae e) (.agg [.int .i64,.int .i64,.int .i64,.bool,.int .i64]) λ(d:Int×Int×Int×Bool×Int×Unit)=>(f.1.isSome=true/\0<=g/\g<(↑f.2.1:Int))/\az a (ad f.1 (g.toNat*5)) [aa d.1,aa d.2.1,
 aa d.2.2.1,.bool d.2.2.2.1,aa d.2.2.2.2.1] λa=>(x.1.isSome=true/\(0:Int)<=0/\0<(↑x.2.1:Int))/\aW a (ad x.1 0) λx=>au a (c (x,0,()))))))):=by kernel_rfl
theorem Y4 (p:Option AA) (i:Int) (w:A2) (c:GT×Bool×Unit->A2->Prop):(bV G3 (λ_=>[]) 176 [ag p,aa i] w c)=(
 aM w ⟨[aa 0,aa 0,aa 0,.bool false,aa 0]⟩ 255 λb a=> ∃(x:Option AA×Int×Unit),af AC 221 [ag p,aa i] a (.tuple ⟨[ag x.1,aa x.2.1]⟩)/\aH (x.2.1 != 0) (az a (ae b) [aa 0,aa 0,aa 0,.bool false,aa 0] λa=>au a λw1=>aj w1 none (ae b) (.agg [.int .i64,.int .i64,.int .i64,.bool,.int .i64]) λ(x:Int×Int×Int×Bool×Int×Unit)=>c ((x.1,x.2.1,x.2.2.1,x.2.2.2.1,x.2.2.2.2.1,()),false,()) w1) (x.1.isSome=true/\aj a none x.1
 (.agg [.int .i64,.int .i64,.int .i64,.bool,.int .i64]) λ(x:Int×Int×Int×Bool×Int×Unit)=>az a (ae b) [aa x.1,aa x.2.1,aa x.2.2.1,.bool x.2.2.2.1,aa x.2.2.2.2.1] λa=>au a λw1=>aj w1 none (ae b) (.agg [.int .i64,.int .i64,.int .i64,.bool,.int .i64]) λ(x:Int×Int×Int×Bool×Int×Unit)=>c ((x.1,x.2.1,x.2.2.1,x.2.2.2.1,x.2.2.2.2.1,()),true,()) w1)):=by kernel_rfl
theorem P5 (p:Option AA) (i g:Int) (b:Bool) (w:A2) (a:Int->A2->Prop):(aI G3 (λ_=>[]) 181 [ag p,aa i,aa g,.bool b] w a)=(
 ∃(x:Option AA×Int×Unit),af AC 221 [ag p,aa i] w (.tuple ⟨[ag x.1,aa x.2.1]⟩)/\aH (x.2.1 != 0) (au w (a x.2.1)) (cL x.1 2 w λc=>((!c != g&&b)=true->x.1.isSome=true)/\((!c != g&&b)=true->x.1.isSome=true)/\aj w (some (!c != g&&b)) (ad x.1 3) sT λd=>aH (c != g||b&& !d) (au w (a 7)) (cL x.1 4 w λe=>aH (e==1000) (au w (a 3)) (cL x.1 4 w λf=>x.1.isSome=true/\x.1.isSome=true/\az w (ad x.1 4) [aa (aL .i64 f 1)] λh=>au h (a 0))))):=by kernel_rfl
theorem P6 (p:Option AA) (i g:Int) (w:A2) (a:Int->A2->Prop):(aI G3 (λ_=>[]) 182 [ag p,aa i,aa g] w a)=(
 ∃(x:Option AA×Int×Unit),af AC 221 [ag p,aa i] w (.tuple ⟨[ag x.1,aa x.2.1]⟩)/\aH (x.2.1 != 0) (au w (a x.2.1)) (cL x.1 2 w λb=>aH (b != g) (au w (a 7)) (cL x.1 4 w λc=>aH (c==0) (au w (a 6)) (cL x.1 4 w λd=>x.1.isSome=true/\x.1.isSome=true/\az w (ad x.1 4) [aa (aZ .i64 d 1)] λe=>au e (a 0))))):=by kernel_rfl
theorem G5 (p:Option AA) (i o:Int) (w:A2) (a:Int->A2->Prop):(aI G3 (λ_=>[]) 184 [ag p,aa i,aa o] w a)=(
 ∃(x:Option AA×Int×Unit),af AC 221 [ag p,aa i] w (.tuple ⟨[ag x.1,aa x.2.1]⟩)/\aH (x.2.1 != 0) (au w (a x.2.1)) (cL x.1 0 w λb=>aH (b != o) (au w (a 7)) (cL x.1 4 w λc=>aH (decide (c>0)) (au w (a 9)) (x.1.isSome=true/\az w x.1 [aa 0,aa 0,aa 0,.bool false,aa 0] λd=>au d (a 0))))):=by kernel_rfl
def t_:Nat->a8:=(λ|3=>[(13,Go.RX.El.one (Go.RX.Sc.int Ay))]| _=>[])
theorem P7 (p:Option AA) (g:Int) (w:A2) (d:Int->A2->Prop):(aI G3 t_ 169 [ag p,aa g] w d)=(
 aM w ⟨[aa g]⟩ 3 λb a=>aA AC 208 (.el fi) [ag p,.func (.func 209) ⟨[]⟩ {toList:=[ag (ae b)]}] a λx a=> ∃(I:Nat->Int×Unit->A2->Prop),(∃n, ∀w1,Ext a w1->I n (0,()) w1)/\ ∀(n:Nat) (s:Int×Unit) (w1:A2),I n s w1->aH (decide (s.1<(↑x.2.1:Int))) ((x.1.isSome=true/\0<=s.1/\s.1<(↑x.2.1:Int))/\aW w1 (ad x.1 (B1 s.1*1)) λx=>fe p 0 w1 λc=>(c.1.isSome=true/\0<=x/\x<(↑c.2.1:Int))/\az w1 (ad c.1 (x.toNat*5)) [aa 0,aa 0,aa 0,.bool false,
 aa 0] λa=> ∀e,Ext a e-> ∃(f:Nat),f<n/\I f (aL .i64 s.1 1,()) e) (au w1 (d (↑x.2.1:Int)))):=by kernel_rfl
theorem Ut (n:Int) (w:A2) (a:Option AA×Int×Unit->A2->Prop):(aI G3 (λ_=>[]) 73 [aa n] w a)=(
 aH (decide (n<1)||decide (n>64)) (au w (a (none,1,()))) (Nx w 40 5 n n ⟨[aa 0,aa 0,aa 0,.bool false,aa 0]⟩ 255 λb c=>aM c {toList:=[.slice (ae b) n.toNat n.toNat]} 215 λb c=>au c (a (some ⟨b,0,none⟩,0,())))):=by kernel_rfl
theorem A1 {lo sz:Int} (h:dY lo sz=true):lo.toNat+sz.toNat<=64/\1<=sz.toNat:=by
 have:=iK.1 h;omega
theorem P8 {w:BitVec 64} {lo sz:Int} (h:dY lo sz=true):(fj w lo sz).toNat=w.toNat / 2 ^ lo.toNat % 2 ^ sz.toNat:=by
 have a:=A1 h;apply Pp;intro j;rw[GJ,T7 h,OR (by omega),K1,Nat.testBit_div_two_pow,GJ,Nat.add_comm j,Bool.and_comm]
theorem P9 {w v:BitVec 64} {lo sz:Int} (h:dY lo sz=true) (b:w.toNat<2 ^ lo.toNat):(sW w lo sz v).toNat=2 ^ lo.toNat*(v.toNat % 2 ^ sz.toNat)+w.toNat:=by
 have d:=A1 h;apply Pp;intro j;rw[GJ,T8 h,Nat.testBit_two_pow_mul_add _ b];by_cases c:j<64
 ·rw[YT (by omega) c];by_cases h1:j<lo.toNat
  ·rw[if_neg (by omega),if_pos h1,GJ]
  ·rw[if_neg h1,K1,GJ];by_cases e:j<lo.toNat+sz.toNat
   ·rw[if_pos (by omega)];have:j - lo.toNat<sz.toNat:=by omega
    simp[this]
   ·rw[if_neg (by omega)];have a: ¬ j - lo.toNat<sz.toNat:=by omega
    simp only[a,decide_false,Bool.false_and];rw[<-GJ];exact Nat.testBit_lt_two_pow (I2 b (Nat.pow_le_pow_right (by decide) (by omega)))
 ·rw[S2 _ _ (by omega),if_neg (by omega),K1];have a: ¬ j - lo.toNat<sz.toNat:=by omega
  simp[a]
theorem aa1 (b:BitVec 64):U b=(b.toNat:Int):=rfl
theorem Dq {b:BitVec 64} {n:Nat} (h:b.toNat=n):U b=(n:Int):=by rw[aa1,h]
def bB (b:Bool):BitVec 64:=if b then 1#64 else 0#64
def nB (b:Bool):Nat:=if b then 1 else 0
theorem OT (b:Bool):(bB b).toNat=nB b:=by cases b<;>rfl
theorem Ok (b:Bool):nB b<=1:=by cases b<;>decide
theorem pk {w v:BitVec 64} {lo sz:Int} {a n:Nat} (c:dY lo sz=true) (b:w.toNat=a) (d:a<2 ^ lo.toNat) (hv:v.toNat=n) (e:n<2 ^ sz.toNat):(sW w lo sz v).toNat=2 ^ lo.toNat*n+a:=by
 rw[P9 c (by rw[b];exact d),hv,b,PS e]
theorem KK {p l:Bool} {r f:BitVec 64} {x y:Nat} (a:r.toNat=x) (i:x<8) (b:f.toNat=y) (j:y<4096):
 (qJ 0#64 0 [(bB p,1),(r,3),(bB l,1),(0#64,7),(f,12)]).toNat=nB p+2*x+16*nB l+4096*y:=by
 have k:=Ok p;have m:=Ok l;simp only[qJ];rw[if_pos (by decide),if_pos (by decide),if_pos (by decide),if_pos (by decide),if_pos (by decide)];have c:=pk (w:=0#64) (lo:=0) (sz:=1) (by decide) (rfl:(0#64).toNat=0) (by decide) (OT p) (by show nB p<2;omega);have d:=pk (lo:=0+1) (sz:=3) (by decide) c (by show 1*nB p+0<2;omega) a (by show x<8;omega);have e:=pk (lo:=0+1+3) (sz:=1) (by decide) d (by show 2*x+(1*nB p+0)<16;omega) (OT l) (by show nB l<2;omega);have g:=pk (lo:=0+1+3+1) (sz:=7) (v:=0#64) (by decide) e (by show 16*nB l+(2*x+(1*nB p+0))<32;omega) (rfl:(0#64).toNat=0) (by decide);have h:=pk (lo:=0+1+3+1+7) (sz:=12) (by decide) g (by show 32*0+(16*nB l+(2*x+(1*nB p+0)))<4096;omega) b (by show y<4096;omega);rw[h];show 4096*y+(32*0+(16*nB l+(2*x+(1*nB p+0))))= _;omega
theorem G6 (w:BitVec 64):my w 0 [1,3,1,7,12,40]=some [fj w 0 1,fj w 1 3,fj w 4 1,fj w 5 7,fj w 12 12,fj w 24 40]:=by
 simp only[my];rw[if_pos (by decide),if_pos (by decide),if_pos (by decide),if_pos (by decide),if_pos (by decide),if_pos (by decide)];rfl
theorem nL {w:BitVec 64} {lo sz:Int} (a b:Nat) (h:dY lo sz=true) (c:2 ^ lo.toNat=a) (hb:2 ^ sz.toNat=b):(fj w lo sz).toNat=w.toNat / a % b:=by
 rw[P8 h,c,hb]
noncomputable def D0:dI AC:={C3 with vy:=true}
theorem Uu (b:Bool) (w:A2) (a:Int->A2->Prop):(aI D0 (λ_=>[]) 249 [.bool b] w a)=(
 aH b (au w (a 1)) (au w (a 0))):=by kernel_rfl
theorem yW (p:Bool) (r:Int) (l:Bool) (f:Int) (w:A2) (d:Bool->A2->Prop):(aI D0 (λ_=>[]) 94 [.agg ⟨[.bool p,aa r,.bool l,aa f]⟩] w d)=(
 aM w ⟨[.bool p,aa r,.bool l,aa f]⟩ 130 λb a=>true=true/\uR a (ad (ae b) 0) λx=>aH (!x) (aj a none (ae b) kj λ(x:Bool×Int×Bool×Int×Unit)=>au a λw1=>d (x.1==false&&(x.2.1==0&&(x.2.2.1==false&&(x.2.2.2.1==0&&true)))) w1) (true=true/\aW a (ad (ae b) 1) λx=>((!decide (x<0))=true->true=true)/\aj a (some !decide (x<0)) (ad (ae b) 1) aX λ(c:Int)=>((!(decide (x<0)||decide (c>7)))=true->true=true)/\aj a (some !(decide (x<0)||decide (c>7))) (ad (ae b) 3)
 aX λ(e:Int)=>((!(decide (x<0)||decide (c>7)||decide (e<0)))=true->true=true)/\aj a (some !(decide (x<0)||decide (c>7)||decide (e<0))) (ad (ae b) 3) aX λ(g:Int)=>aH (decide (x<0)||decide (c>7)||decide (e<0)||decide (g>=4096)) (au a (d false)) (true=true/\aW a (ad (ae b) 1) λx=>((!decide (x>0))=true->true=true)/\aj a (some !decide (x>0)) (ad (ae b) 2) sT λh=>au a (d (decide (x>0)|| !h))))):=by kernel_rfl
theorem Uv (x:Int) (w:A2) (a:Int->A2->Prop):(aI D0 (λ_=>[]) 100 [aa x] w a)=(
 aH (decide (x<0)||decide (x>=4)) (au w (a 0)) (∀(b:Int),b=fy .i64 4 x->0<=b/\ ∀(x:Int),x=Di .i64 1 b->au w (a x))):=by kernel_rfl
theorem P_ (x:Int) (w:A2) (a:Int->A2->Prop):(aI D0 (λ_=>[]) 103 [aa x] w a)=(
 aH (decide (x<0)||decide (x>3)) (au w (a 0)) (aM w ⟨[aa 1,aa 16,aa 256,aa 4096]⟩ 3 λb c=>(true=true/\0<=x/\x<(↑4:Int))/\aW c (ad (ae b) (x.toNat*1)) λx=>au c (a x))):=by kernel_rfl
theorem Ci {w:A2} {b:Nat} {p:Bool} {r:Int} {l:Bool} {f:Int} (h:bN w b [.bool p,aa r,.bool l,aa f]):
 cQ w (ad (ae b) 0) (.one .bool) p/\cQ w (ad (ae b) 1) (.one (.int .i64)) r/\cQ w (ad (ae b) 2) (.one .bool) l/\cQ w (ad (ae b) 3) (.one (.int .i64)) f/\
  cQ w (ae b) (.agg [.bool,.int .i64,.bool,.int .i64]) (p,r,l,f,()):=by
 refine⟨?_,?_,?_,?_,?_⟩
 ·rw[aY];exact h.ov rfl
 ·rw[aY];exact h.ov rfl
 ·rw[aY];exact h.ov rfl
 ·rw[aY];exact h.ov rfl
 ·exact h.Z0 λi _=>by rw[Bs];rfl
def bT (p:Bool) (r:Int) (l:Bool) (f:Int):Bool:=
 match p with
 |true=>decide (0<=r)&&decide (r<=7)&&decide (0<=f)&&decide (f<4096)&&(decide (r>0)|| !l)
 |false=>decide (r=0)&& !l&&decide (f=0)
theorem yX (p:Bool) (r:Int) (l:Bool) (f:Int) (w:A2):aC AC 94 (.el (.one .bool)) [.agg ⟨[.bool p,aa r,.bool l,aa f]⟩] w (λb w'=>b=bT p r l f/\Ext w w'):=by
 refine ai (C:=D0) (aS:=λ_=>[]) (Ak (yW p r l f w _) ?_);intro w1 h1;obtain⟨i,g1,j,e,k⟩:=Ci (bN.new w1 [.bool p,aa r,.bool l,aa f] 130);refine⟨rfl,p,i,ab (λh=>⟨_,k,λg a=>⟨?_,(h1.iX _).trans a⟩⟩) (λh=>⟨rfl,r,g1,λ_=>rfl,r,λ_=>g1,λ_=>rfl,f,λ_=>e,λ_=>rfl,f,λ_=>e,ab (λd=>λg a=>⟨?_,(h1.iX _).trans a⟩) (λd=>⟨rfl,r,g1,λ_=>rfl,l,λ_=>j,λg a=>⟨?_,(h1.iX _).trans a⟩⟩)⟩)⟩
 ·have c:p=false:=by simpa using h
  subst c;by_cases c1:r=0<;>by_cases c2:f=0<;>cases l<;>simp[bT,c1,c2]
 ·have c:p=true:=by simpa using h
  subst c;simp only[F1,decide_eq_true_eq] at d;symm;simp only[bT,If,decide_eq_false_iff_not];omega
 ·have c:p=true:=by simpa using h
  subst c;simp only[FB,decide_eq_false_iff_not] at d;have c1:0<=r:=by omega
  have c2:r<=7:=by omega
  have c3:0<=f:=by omega
  have c4:f<4096:=by omega
  simp[bT,c1,c2,c3,c4]
noncomputable def Ol:Entry AC where
 f:=249
 fn l:=match l with
  |[.bool b]=>some (True,.int .u64 (U (bB b)))
  | _=>none
 ok args pre v h a w:=by
  split at h
  ·rename_i b;cases h;refine bX (x:=U (bB b)) (ai (C:=D0) (aS:=λ_=>[]) (Ak (Uu b w _) ?_));exact ab (λhb w1 h1=>⟨by subst hb;rfl,h1⟩) (λhb w1 h1=>⟨by subst hb;rfl,h1⟩)
  ·cases h
noncomputable def uY:Entry AC where
 f:=94
 fn l:=match l with
  |[.agg ⟨[.bool p,.int .i64 r,.bool l,.int .i64 f]⟩]=>some (True,.bool (bT p r l f))
  | _=>none
 ok args pre v h a w:=by
  split at h
  ·rename_i p r l f;cases h;exact bX (yX p r l f w)
  ·cases h
def gN (x:Int):Int:=if x=0 then 1 else if x=1 then 16 else if x=2 then 256 else if x=3 then 4096 else 0
theorem Uw (x:Int) (w:A2):aC AC 100 (.el (.one (.int .i64))) [aa x] w (λb w'=>b=gN x/\Ext w w'):=by
 refine ai (C:=D0) (aS:=λ_=>[]) (Ak (Uv x w _) ?_);refine ab (λh w1 h1=>⟨?_,h1⟩) (λh y a=>?_)
 ·simp only[F1,decide_eq_true_eq] at h;unfold gN;rw[ao (by omega),ao (by omega),ao (by omega),ao (by omega)]
 ·simp only[FB,decide_eq_false_iff_not] at h;rw[eH (by omega) (by omega)] at a;refine⟨by omega,λz c w1 h1=>⟨?_,h1⟩⟩;have:x=0\/x=1\/x=2\/x=3:=by omega
  rcases this with rfl|rfl|rfl|rfl<;>(subst a;rw[c];decide+kernel)
theorem Qa (x:Int) (w:A2):aC AC 103 (.el (.one (.int .i64))) [aa x] w (λb w'=>b=gN x/\Ext w w'):=by
 refine ai (C:=D0) (aS:=λ_=>[]) (Ak (P_ x w _) ?_);refine ab (λh w1 h1=>⟨?_,h1⟩) (λh w1 h1=>?_)
 ·simp only[F1,decide_eq_true_eq] at h;unfold gN;rw[ao (by omega),ao (by omega),ao (by omega),ao (by omega)]
 ·simp only[FB,decide_eq_false_iff_not] at h;have sl:Sl (w1.alloc (.cells ⟨[aa 1,aa 16,aa 256,aa 4096]⟩ 3)) eI (ae w1.heap.size) [1,16,256,4096]:=Sl.jL (bN.new w1 _ _) rfl;have c:x.toNat<4:=by omega
  have g:[(1:Int),16,256,4096][x.toNat]? =some (gN x):=by
   have:x=0\/x=1\/x=2\/x=3:=by omega
   rcases this with rfl|rfl|rfl|rfl<;>rfl
  exact⟨⟨rfl,by omega,by omega⟩, _,(sl _ _ g).2,λd a=>⟨rfl,(h1.iX _).trans a⟩⟩
noncomputable def Om:Entry AC where
 f:=100
 fn l:=match l with
  |[.int .i64 x]=>some (True,.int .i64 (gN x))
  | _=>none
 ok args pre v h a w:=by
  split at h
  ·rename_i x;cases h;exact bX (Uw x w)
  ·cases h
noncomputable def F_:Entry AC where
 f:=103
 fn l:=match l with
  |[.int .i64 x]=>some (True,.int .i64 (gN x))
  | _=>none
 ok args pre v h a w:=by
  split at h
  ·rename_i x;cases h;exact bX (Qa x w)
  ·cases h
noncomputable def D1:dI AC:={D0 with si:=[te,vz,FH,FI,Ol,uY,Om,F_]}
theorem Qb (p:Bool) (r:Int) (l:Bool) (f:Int) (w:A2) (e:Bool->A2->Prop):(aI D1 (λ_=>[]) 96 [.agg ⟨[.bool p,aa r,.bool l,aa f]⟩] w e)=(
 aM w ⟨[.bool p,aa r,.bool l,aa f]⟩ 130 λb a=>true=true/\uR a (ad (ae b) 0) λx=>(x=true->true=true)/\aj a (some x) (ad (ae b) 1) aX λ(d:Int)=>aj a (some (x&&d==0)) (ae b) kj λ(c:Bool×Int×Bool×Int×Unit)=>((x&&d==0)=true->True)/\au a (e (x&&d==0&&bT c.1 c.2.1 c.2.2.1 c.2.2.2.1))):=by kernel_rfl
theorem KL (p:Bool) (r:Int) (l:Bool) (f:Int) (t:Int) (w:A2) (d:Bool->A2->Prop):(aI D1 (λ_=>[]) 145 [.agg ⟨[.bool p,aa r,.bool l,aa f]⟩,aa t] w d)=(
 aM w ⟨[.bool p,aa r,.bool l,aa f]⟩ 130 λb a=>aj a none (ae b) kj λ(x:Bool×Int×Bool×Int×Unit)=>True/\(bT x.1 x.2.1 x.2.2.1 x.2.2.2.1=true->true=true)/\aj a (some (bT x.1 x.2.1 x.2.2.1 x.2.2.2.1)) (ad (ae b) 1) aX λ(c:Int)=>((bT x.1 x.2.1 x.2.2.1 x.2.2.2.1&&decide (c>0)&&decide (t>=0)&&decide (t<=7))=true->true=true)/\aj a (some (bT x.1 x.2.1 x.2.2.1 x.2.2.2.1&&decide (c>0)&&decide (t>=0)&&decide (t<=7))) (ad (ae b) 1) aX λ(g:Int)=> ∀(e:Int),e=fR .i64 t
 g->au a (d (bT x.1 x.2.1 x.2.2.1 x.2.2.2.1&&decide (c>0)&&decide (t>=0)&&decide (t<=7)&&e==0))):=by kernel_rfl
theorem Qc (x y:Int) (w:A2) (b:Int->A2->Prop):(aI D1 (λ_=>[]) 87 [aa x,aa y] w b)=(
 ((!(decide (x<0)||decide (x>=65536)))=true->True)/\ ∀(c:Int),c=gN y->aH (decide (x<0)||decide (x>=65536)||c==0) (au w (b (-1))) (∀(a:Int),a=aG .u64 x-> ∀(x:Int),x=fy .i64 4 y->U (B a)=a/\ ∀(d:Int),d=U (fj (B a) x 4)-> ∀(x:Int),x=aG .i64 d->au w (b x))):=by kernel_rfl
theorem KM (x y:Int) (w:A2) (a:Int->A2->Prop):(aI D1 (λ_=>[]) 63 [aa x,aa y] w a)=(
 ((!(decide (x<0)||decide (x>65535)))=true->True)/\ ∀(c:Int),c=gN y->aH (decide (x<0)||decide (x>65535)||c==0) (au w (a (-1))) (True/\ ∀(b:Int),b=gN y->b≠0/\ ∀(d:Int),d=wT .i64 x b-> ∀(x:Int),x=f_ d 16->au w (a x))):=by kernel_rfl
theorem Qd (p:Bool) (r:Int) (l:Bool) (f:Int) (w:A2) (c:Int×Int×Unit->A2->Prop):(aI D1 (λ_=>[]) 243 [.agg ⟨[.bool p,aa r,.bool l,aa f]⟩] w c)=(
 aM w ⟨[.bool p,aa r,.bool l,aa f]⟩ 130 λb a=>aj a none (ae b) kj λ(x:Bool×Int×Bool×Int×Unit)=>True/\aH (!bT x.1 x.2.1 x.2.2.1 x.2.2.2.1) (au a (c (0,11,()))) (true=true/\uR a (ad (ae b) 0) λx=>True/\ ∀(d:Int),d=U (bB x)->true=true/\aW a (ad (ae b) 1) λx=> ∀(e:Int),e=aG .u64 x->true=true/\uR a (ad (ae b) 2) λx=>True/\ ∀(g:Int),g=U (bB x)->true=true/\aW a (ad (ae b) 3) λx=> ∀(h:Int),h=aG .u64 x->aM a {toList:=[ay d,
 aa 1,ay e,aa 3,ay g,aa 1,ay 0,aa 7,ay h,aa 12]} 304 λb a=>aA AC 248 (.el ru) [.slice (ae b) 5 5] a λ(x:Int) a=>au a (c (x,0,())))):=by kernel_rfl
theorem Qe (v:Int) (w:A2) (e:(Bool×Int×Bool×Int×Unit)×Bool×Unit->A2->Prop):(bV D1 (λ_=>[]) 59 [ay v] w e)=(
 aM w ⟨[.bool false,aa 0,.bool false,aa 0]⟩ 130 λb a=>aM a ⟨[aa 1,aa 3,aa 1,aa 7,aa 12,aa 40]⟩ 3 λi a=>aA AC 93 (.el fi) [ay v,.slice (ae i) 6 6] a λx a=>(x.1.isSome=true/\(0:Int)<=0/\0<(↑x.2.1:Int))/\cK a (ad x.1 0) λj=>(x.1.isSome=true/\(0:Int)<=1/\1<(↑x.2.1:Int))/\cK a (ad x.1 1) λk=> ∀(g:Int),g=aG .i64 k->(x.1.isSome=true/\(0:Int)<=2/\2<(↑x.2.1:Int))/\cK a (ad x.1 2) λl=>(x.1.isSome=true/\(0:
 Int)<=4/\4<(↑x.2.1:Int))/\cK a (ad x.1 4) λm=> ∀(h:Int),h=aG .i64 m->aM a ⟨[.bool false,aa 0,.bool false,aa 0]⟩ 130 λf a=>az a (ae f) [.bool (j==1),aa g,.bool (l==1),aa h] λa=>(x.1.isSome=true/\(0:Int)<=3/\3<(↑x.2.1:Int))/\cK a (ad x.1 3) λc=>((!decide (c>0))=true->x.1.isSome=true/\(0:Int)<=5/\5<(↑x.2.1:Int))/\aj a (some !decide (c>0)) (ad x.1 5) ru λ(x:Int)=>aj a (some !(decide (c>0)||decide (x>0))) (ae f) kj λ(d
 :Bool×Int×Bool×Int×Unit)=>((!(decide (c>0)||decide (x>0)))=true->True)/\aH (decide (c>0)||decide (x>0)|| !bT d.1 d.2.1 d.2.2.1 d.2.2.2.1) (az a (ae b) [.bool false,aa 0,.bool false,aa 0] λa=>au a λw1=>aj w1 none (ae b) kj λ(x:Bool×Int×Bool×Int×Unit)=>e ((x.1,x.2.1,x.2.2.1,x.2.2.2.1,()),false,()) w1) (aj a none (ae f) kj λ(x:Bool×Int×Bool×Int×Unit)=>az a (ae b) [.bool x.1,aa x.2.1,.bool x.2.2.1,aa x.2.2.2.1] λa=>au a λw1=>
 aj w1 none (ae b) kj λ(x:Bool×Int×Bool×Int×Unit)=>e ((x.1,x.2.1,x.2.2.1,x.2.2.2.1,()),true,()) w1)):=by kernel_rfl
def fM (p:Bool) (r:Int) (l:Bool) (f:Int):Bool:=p&&r==0&&bT p r l f
def dV (p:Bool) (r:Int) (l:Bool) (f t:Int):Bool:=bT p r l f&&decide (r>0)&&decide (t>=0)&&decide (t<=7)&&fR .i64 t r==0
theorem Qf (p:Bool) (r:Int) (l:Bool) (f:Int) (w:A2):aC AC 96 (.el (.one .bool)) [.agg ⟨[.bool p,aa r,.bool l,aa f]⟩] w (λb w'=>b=fM p r l f/\Ext w w'):=by
 refine ai (C:=D1) (Ak (Qb p r l f w _) ?_);intro w1 h1;obtain⟨a,g1,e,g,c⟩:=Ci (bN.new w1 _ 130);exact⟨rfl,p,a,λ_=>rfl,r,λ_=>g1, _,λ_=>c,by simp,λh d=>⟨rfl,(h1.iX _).trans d⟩⟩
theorem yY {p:Bool} {r:Int} {l:Bool} {f:Int} (h:bT p r l f=true):0<=r/\r<=7/\0<=f/\f<4096/\(p=false->r=0/\l=false/\f=0):=by
 cases p
 ·grind[bT]
 ·simp[bT] at h
  grind
theorem KN (p:Bool) (r:Int) (l:Bool) (f t:Int) (w:A2):aC AC 145 (.el (.one .bool)) [.agg ⟨[.bool p,aa r,.bool l,aa f]⟩,aa t] w (λb w'=>b=dV p r l f t/\Ext w w'):=by
 refine ai (Ak (KL p r l f t w _) ?_);intro w1 h1;obtain⟨e,g1,g,h,a⟩:=Ci (bN.new w1 _ 130);exact⟨_,a,trivial,λ_=>rfl,r,λ_=>g1,λ_=>rfl,r,λ_=>g1,λx c i d=>⟨by rw[c];rfl,(h1.iX _).trans d⟩⟩
def fp (x y:Int):Int:=if 0<=x/\x<65536/\0<=y/\y<=3 then x / gN y % 16 else -1
theorem A3 {y:Int}:(gN y==0)= !(decide (0<=y)&&decide (y<=3)):=by
 grind[gN]
theorem A4 {x y:Int} (h: ¬ (0<=x/\x<65536/\0<=y/\y<=3)):fp x y= -1:=ao h
theorem A5 {x:Int} (h: -9223372036854775808<=x) (h':x<9223372036854775808):aG .i64 x=x:=gz h h'
theorem A6 {x:Int} (h:0<=x) (h':x<18446744073709551616):aG .u64 x=x:=by
 show Hr.wrap x=x;rw[wrap_u64];omega
theorem qc {a b c:Int} (m:Nat) (h:0<=a/\a<65536) (d:2 ^ b.toNat=m) (e:dY b 4=true) (f:c=U (fj (B a) b 4)):c=a / (m:Int) % 16:=by
 have g:(B a).toNat=a:=BU (by omega) (by omega);rw[f,Dq (nL m 16 e d (by grind)),Int.natCast_emod,Int.natCast_ediv,g];rfl
theorem EZ {a y b c:Int} (d:0<=a/\a<65536) (g:0<=y/\y<=3) (eb:b=4*y) (f:c=U (fj (B a) b 4)):c=fp a y/\0<=c/\c<16:=by
 have e:c=fp a y:=by
  unfold fp;rw[av (by omega)];have:y=0\/y=1\/y=2\/y=3:=by omega
  rcases this with rfl|rfl|rfl|rfl
  ·exact qc 1 d (by grind) (by subst eb;decide) f
  ·exact qc 16 d (by grind) (by subst eb;decide) f
  ·exact qc 256 d (by grind) (by subst eb;decide) f
  ·exact qc 4096 d (by grind) (by subst eb;decide) f
 rw[e];unfold fp;omega
theorem Qg (x y:Int) (w:A2):aC AC 87 (.el (.one (.int .i64))) [aa x,aa y] w (λb w'=>b=fp x y/\Ext w w'):=by
 refine ai (C:=D1) (Ak (Qc x y w _) ?_);refine⟨λ_=>trivial,λs es=>?_⟩;subst es;rw[A3];refine ab (λh w1 h1=>⟨?_,h1⟩) (λh a e b eb=>?_)
 ·simp only[F1,decide_eq_true_eq,M5,If,decide_eq_false_iff_not] at h;rw[A4 (by omega)]
 ·simp only[FB,decide_eq_false_iff_not,Rg,Ia,decide_eq_true_eq] at h;rw[A6 (by omega) (by omega)] at e;rw[eH (by omega) (by omega)] at eb;subst e;refine⟨BU (by omega) (by omega),λc f d g w1 h1=>⟨?_,h1⟩⟩;obtain⟨i,j,k⟩:=EZ (y:=y) (by omega) (by omega) eb f;rw[g,A5 (by omega) (by omega),i]
theorem KO (x y:Int) (w:A2):aC AC 63 (.el (.one (.int .i64))) [aa x,aa y] w (λb w'=>b=fp x y/\Ext w w'):=by
 refine ai (C:=D1) (Ak (KM x y w _) ?_);refine⟨λ_=>trivial,λs es=>?_⟩;subst es;rw[A3];refine ab (λh w1 h1=>⟨?_,h1⟩) (λh=>⟨trivial,λs es=>?_⟩)
 ·simp only[F1,decide_eq_true_eq,M5,If,decide_eq_false_iff_not] at h;rw[A4 (by omega)]
 ·simp only[FB,decide_eq_false_iff_not,Rg,Ia,decide_eq_true_eq] at h;have e:y=0\/y=1\/y=2\/y=3:=by omega
  have j:1<=s:=by rcases e with rfl|rfl|rfl|rfl<;>(rw[es];decide)
  refine⟨by omega,λc a d f w1 h1=>⟨?_,h1⟩⟩;have g:wT .i64 x s=x / s:=by
   unfold wT;rw[Int.tdiv_eq_ediv_of_nonneg (by omega)];have h1:0<=x / s:=Oh (by omega) (by omega);have k:x / s<=x:=Int.ediv_le_self _ (by omega);exact gz (by omega) (by omega)
  have h1:0<=x / s:=Oh (by omega) (by omega);rw[g] at a;have i:f_ c 16=c % 16:=Int.tmod_eq_emod_of_nonneg (by omega);rw[f,i,a,es];unfold fp
  grind
def vC (p:Bool) (r:Int) (l:Bool) (f:Int):Int:=(nB p:Int)+2*r+16*(nB l:Int)+4096*f
def Fz (p:Bool) (r:Int) (l:Bool) (f:Int):Int:=if bT p r l f=true then vC p r l f else 0
def pkE (p:Bool) (r:Int) (l:Bool) (f:Int):Int:=if bT p r l f=true then 0 else 11
theorem Ir {x:Int} (h:0<=x) (h':x<18446744073709551616):(B x).toNat=x.toNat:=by
 have:((B x).toNat:Int)=x:=BU h h';omega
theorem G7 {p:Bool} {r:Int} {l:Bool} {f:Int} (h:bT p r l f=true):U (qJ 0#64 0 [(bB p,1),(B r,3),(bB l,1),(0#64,7),(B f,12)])=vC p r l f:=by
 have b:=yY h;rw[Dq (KK (Ir (by omega) (by omega)) (by omega) (Ir (by omega) (by omega)) (by omega))];unfold vC;omega
theorem Qh (p:Bool) (r:Int) (l:Bool) (f:Int) (w:A2):aC AC 243 (.bA [eU,eI]) [.agg ⟨[.bool p,aa r,.bool l,aa f]⟩] w (λx w'=>x=(Fz p r l f,pkE p r l f,())/\Ext w w'):=by
 refine ai (C:=D1) (aS:=λ_=>[]) (Ak (Qd p r l f w _) ?_);intro w1 h1;obtain⟨m,g1,o,q,s⟩:=Ci (bN.new w1 [.bool p,aa r,.bool l,aa f] 130);refine⟨_,s,trivial,ab (λh a d=>⟨?_,(h1.iX _).trans d⟩) (λh=>⟨rfl,p,m,trivial,λx1 t=>⟨rfl,r,g1,λe i=>⟨rfl,l,o,trivial,λF u=>⟨rfl,f,q,λg j a d v k=>?_⟩⟩⟩⟩)⟩
 ·have h':bT p r l f=false:=by simpa using h
  unfold Fz pkE;rw[h'];rfl
 ·have h':bT p r l f=true:=by simpa using h
  have b:=yY h';rw[A6 (by omega) (by omega)] at i j;subst t;subst i;subst u;subst j;have y:U (B e)=e:=BU (by omega) (by omega);have z:U (B g)=g:=BU (by omega) (by omega);have sl:Sl v eP (ae a.heap.size) (NY [(bB p,1),(B e,3),(bB l,1),(0#64,7),(B g,12)]):=Sl.jL ((bN.new a _ _).ext k) (by
   simp only[NY,BQ,List.map_nil,y,z];rfl)
  refine(Uc (n:=5) (c:=5) sl rfl (by decide)).mono ?_;rintro x G ⟨A,D⟩ H E;refine⟨?_,((((h1.iX _).trans d).iX _).trans k).trans (D.trans E)⟩;rw[A,G7 h'];unfold Fz pkE;rw[av h',av h']
theorem DZ {x y:Int} (h:0<=x+y) (h':x+y<18446744073709551616):aL .u64 x y=x+y:=by
 show Hr.wrap (x+y)= _;rw[wrap_u64];omega
theorem D4 {x y:Int} (h:0<=x*y) (h':x*y<18446744073709551616):fy .u64 x y=x*y:=by
 show Hr.wrap (x*y)= _;rw[wrap_u64];omega
theorem F' {w:A2} {b:Nat} {l:List AN} (h:bN w b l) (vs:List AN) (a:vs.length=l.length):bN (jC w (ae b) vs) b vs:=by
 have:=h.put (o:=0) vs (by omega);rw[Bs,a,Hb,H6,O2,List.nil_append] at this;exact this
def uz (n:Nat):Bool:=decide (n / 32 % 128=0)&&decide (n / 16777216 % 1099511627776=0)&&bT (n % 2==1) ((n / 2 % 8:Nat):Int) (n / 16 % 2==1) ((n / 4096 % 4096:Nat):Int)
def HZ (n:Nat):Bool:=uz n&&n % 2==1
def FA (n:Nat):Int:=if uz n=true then((n / 2 % 8:Nat):Int) else 0
def JT (n:Nat):Bool:=uz n&&n / 16 % 2==1
def Fi (n:Nat):Int:=if uz n=true then((n / 4096 % 4096:Nat):Int) else 0
theorem Y5 {w0 w:A2} {e:El} {s:Option AA×Nat×Nat} {xs:List e.T} (h:lS w0 w e s xs) {a:AA} (d:s.1=some a):a.block<w.heap.size:=by
 obtain⟨_, _,c⟩:=h;rcases c with ⟨c, _⟩|⟨b,l,c, _,f, _⟩
 ·rw[c] at d;cases d
 ·rw[c] at d;cases d;exact f.lt
theorem IT (n:Nat):(((n:Nat):Int)==1)=(n==1):=by
 rw[Ij,beq_iff_eq,beq_iff_eq];omega
theorem IU (n:Nat):decide (((n:Nat):Int)>0)= !decide (n=0):=by
 rw[Ij,decide_eq_true_eq,M5,decide_eq_false_iff_not];omega
theorem Qi (v:BitVec 64) (w:A2):aC AC 59 (.bA [.agg [.bool,.int .i64,.bool,.int .i64],.one .bool]) [ay (U v)] w
 (λx w'=>x=((HZ v.toNat,FA v.toNat,JT v.toNat,Fi v.toNat,()),uz v.toNat,())/\Ext w w'):=by
 refine aQ (C:=D1) (aS:=λ_=>[]) (Ak (Qe (U v) w _) ?_);intro w1 h1 l u r m;have dm:bN l w1.heap.size [B2 false,aa 0,B2 false,aa 0]:=(bN.new w1 _ _).ext u;have H:Ext w l:=(h1.iX _).trans u;have y:Ext w r:=(H.iX _).trans m;have sl:Sl r eI (ae l.heap.size) [1,3,1,7,12,40]:=Sl.jL ((bN.new l _ _).ext m) rfl;refine(PN (v:=v) (c:=6) sl rfl (by decide)).mono ?_;rintro⟨p,n,c⟩ X ⟨e,o⟩;rw[G6] at e;have ln:n=6:=by have:=e.len;simpa[BV] using this
 subst ln
 let N:=v.toNat
 have I:U (fj v 0 1)=((N % 2:Nat):Int):=by rw[Dq (nL 1 2 (by decide) rfl rfl),Nat.div_one]
 have J:U (fj v 1 3)=((N / 2 % 8:Nat):Int):=Dq (nL 2 8 (by decide) rfl rfl);have K:U (fj v 4 1)=((N / 16 % 2:Nat):Int):=Dq (nL 16 2 (by decide) rfl rfl);have L:U (fj v 5 7)=((N / 32 % 128:Nat):Int):=Dq (nL 32 128 (by decide) rfl rfl);have M:U (fj v 12 12)=((N / 4096 % 4096:Nat):Int):=Dq (nL 4096 4096 (by decide) (by decide) (by decide));have O:U (fj v 24 40)=((N / 16777216 % 1099511627776:Nat):Int):=Dq (nL 16777216 1099511627776 (by decide) (by decide) (by decide));have P:BV ((some [fj v 0 1,fj v 1 3,fj v 4 1,fj v 5 7,fj v 12 12,fj v 24 40]).getD [])=[((N % 2:Nat):Int),((N / 2 % 8:Nat):Int),((N / 16 % 2:Nat):Int),((N / 32 % 128:Nat):Int),((N / 4096 % 4096:Nat):Int),((N / 16777216 % 1099511627776:Nat):Int)]:=by
  show[U (fj v 0 1),U (fj v 1 3),U (fj v 4 1),U (fj v 5 7),U (fj v 12 12),U (fj v 24 40)]= _;rw[I,J,K,L,M,O]
 rw[P] at e;have Q:p.isSome=true:=(e.sl 0 _ rfl).1;have ix: ∀i:Int,0<=i->i<6->p.isSome=true/\0<=i/\i<((6:Nat):Int):=λi a b=>⟨Q,a,b⟩;refine⟨ix 0 (by decide) (by decide), _,(e.sl 0 _ rfl).2,ix 1 (by decide) (by decide), _,(e.sl 1 _ rfl).2,λY z=>⟨ix 2 (by decide) (by decide), _,(e.sl 2 _ rfl).2,ix 4 (by decide) (by decide), _,(e.sl 4 _ rfl).2,λZ A d f g q=>?_⟩⟩;rw[A5 (by omega) (by omega)] at z A;rw[IT,IT];subst z;subst A;have bt:bN g d.heap.size [B2 false,aa 0,B2 false,aa 0]:=(bN.new d _ _).ext q;refine⟨⟨rfl,bt.st (by simp)⟩,?_⟩;have bp:=F' bt [B2 (N % 2==1),aa ((N / 2 % 8:Nat):Int),B2 (N / 16 % 2==1),aa ((N / 4096 % 4096:Nat):Int)] rfl;have B:lS r (jC g (ae d.heap.size) [B2 (N % 2==1),aa ((N / 2 % 8:Nat):Int),B2 (N / 16 % 2==1),aa ((N / 4096 % 4096:Nat):Int)]) eU (p,6,c) _:=
  ((e.ext f).ext ((Ext.alloc _ _).trans q)).same λa R=>mU _ _ ⟨d.heap.size,0,none⟩ 0 _ (by
    have:=Y5 e R;have:=f.size;show a.block≠d.heap.size;omega)
 have S:Ext w g:=(((y.trans o).trans f).iX _).trans q;have D:Ext w (jC g (ae d.heap.size) [B2 (N % 2==1),aa ((N / 2 % 8:Nat):Int),B2 (N / 16 % 2==1),aa ((N / 4096 % 4096:Nat):Int)]):=S.jC (a:=⟨d.heap.size,0,none⟩) (((y.trans o).trans f).size) _;have E:cQ (jC g (ae d.heap.size) [B2 (N % 2==1),aa ((N / 2 % 8:Nat):Int),B2 (N / 16 % 2==1),aa ((N / 4096 % 4096:Nat):Int)]) (ae d.heap.size) (.agg [.bool,.int .i64,.bool,.int .i64]) (N % 2==1,((N / 2 % 8:Nat):Int),N / 16 % 2==1,((N / 4096 % 4096:Nat):Int),()):=
  bp.Z0 λi _=>by rw[Bs];rfl
 have lt1:=dm.lt;have T:w1.heap.size≠d.heap.size:=by
  have a1:=m.size;have a2:=o.size;have a3:=f.size;rw[lI] at a1;omega
 have F:bN (jC g (ae d.heap.size) [B2 (N % 2==1),aa ((N / 2 % 8:Nat):Int),B2 (N / 16 % 2==1),aa ((N / 4096 % 4096:Nat):Int)]) w1.heap.size [B2 false,aa 0,B2 false,aa 0]:=
  ((((((dm.ext (Ext.alloc _ _)).ext m).ext o).ext f).ext (Ext.alloc _ _)).ext q).WL (a:=⟨d.heap.size,0,none⟩) T _
 refine⟨ix 3 (by decide) (by decide), _,(B.sl 3 _ rfl).2,λ_=>ix 5 (by decide) (by decide), _,λ_=>(B.sl 5 _ rfl).2, _,λ_=>E,λ_=>trivial,?_⟩;rw[IU,IU];have G:uz N= !(!decide (N / 32 % 128=0)|| !decide (N / 16777216 % 1099511627776=0)|| !bT (N % 2==1) ((N / 2 % 8:Nat):Int) (N / 16 % 2==1) ((N / 4096 % 4096:Nat):Int)):=by
  unfold uz;cases decide (N / 32 % 128=0)<;>cases decide (N / 16777216 % 1099511627776=0)<;>cases bT (N % 2==1) ((N / 2 % 8:Nat):Int) (N / 16 % 2==1) ((N / 4096 % 4096:Nat):Int)<;>rfl
 refine ab (λhb V h=>?_) (λhb=>⟨_,E,λV h=>?_⟩)
 ·have s:uz N=false:=by rw[G,hb];rfl
  have j:=F.ext h;refine⟨⟨rfl,j.st (by simp)⟩,λW k=>⟨(false,0,false,0,()),?_,?_,?_⟩⟩
  ·have t:=(F' j [B2 false,aa 0,B2 false,aa 0] rfl).ext k;exact t.Z0 λi _=>by rw[Bs];rfl
  ·show _=((HZ N,FA N,JT N,Fi N,()),uz N,());unfold HZ FA JT Fi;rw[s];rfl
  ·exact((D.trans h).jC (a:=⟨w1.heap.size,0,none⟩) h1.size _).trans k
 ·have s:uz N=true:=by rw[G,hb];rfl
  have j:=F.ext h;refine⟨⟨rfl,j.st (by simp)⟩,λW k=>⟨(N % 2==1,((N / 2 % 8:Nat):Int),N / 16 % 2==1,((N / 4096 % 4096:Nat):Int),()),?_,?_,?_⟩⟩
  ·have t:=(F' j [B2 (N % 2==1),aa ((N / 2 % 8:Nat):Int),B2 (N / 16 % 2==1),aa ((N / 4096 % 4096:Nat):Int)] rfl).ext k;exact t.Z0 λi _=>by rw[Bs];rfl
  ·show _=((HZ N,FA N,JT N,Fi N,()),uz N,());unfold HZ FA JT Fi;rw[s,av rfl,av rfl,Gd,Gd]
  ·exact((D.trans h).jC (a:=⟨w1.heap.size,0,none⟩) h1.size _).trans k
noncomputable def OU:Entry AC where
 f:=96
 fn l:=match l with
  |[.agg ⟨[.bool p,.int .i64 r,.bool l,.int .i64 f]⟩]=>some (True,.bool (fM p r l f))
  | _=>none
 ok args pre v h a w:=by
  split at h
  ·rename_i p r l f;cases h;exact bX (Qf p r l f w)
  ·cases h
noncomputable def IV:Entry AC where
 f:=145
 fn l:=match l with
  |[.agg ⟨[.bool p,.int .i64 r,.bool l,.int .i64 f]⟩,.int .i64 t]=>some (True,.bool (dV p r l f t))
  | _=>none
 ok args pre v h a w:=by
  split at h
  ·rename_i p r l f t;cases h;exact bX (KN p r l f t w)
  ·cases h
noncomputable def OV:Entry AC where
 f:=87
 fn l:=match l with
  |[.int .i64 x,.int .i64 y]=>some (True,.int .i64 (fp x y))
  | _=>none
 ok args pre v h a w:=by
  split at h
  ·rename_i x y;cases h;exact bX (Qg x y w)
  ·cases h
noncomputable def IW:Entry AC where
 f:=63
 fn l:=match l with
  |[.int .i64 x,.int .i64 y]=>some (True,.int .i64 (fp x y))
  | _=>none
 ok args pre v h a w:=by
  split at h
  ·rename_i x y;cases h;exact bX (KO x y w)
  ·cases h
noncomputable def WN:Entry AC where
 f:=243
 fn l:=match l with
  |[.agg ⟨[.bool p,.int .i64 r,.bool l,.int .i64 f]⟩]=>some (True,.tuple ⟨[.int .u64 (Fz p r l f),.int .i64 (pkE p r l f)]⟩)
  | _=>none
 ok args pre v h a w:=by
  split at h
  ·rename_i p r l f;cases h;exact bX (Qh p r l f w)
  ·cases h
noncomputable def OW:Entry AC where
 f:=59
 fn l:=match l with
  |[.int .u64 v]=>some (U (B v)=v,.tuple ⟨[.agg ⟨[.bool (HZ (B v).toNat),.int .i64 (FA (B v).toNat),.bool (JT (B v).toNat),.int .i64 (Fi (B v).toNat)]⟩,.bool (uz (B v).toNat)]⟩)
  | _=>none
 ok args pre v h a w:=by
  split at h
  ·rename_i v;cases h;have:=bX (Qi (B v) w);rw[a] at this;exact this
  ·cases h
noncomputable def D2:dI AC:={D0 with si:=[te,vz,FH,FI,Ol,uY,Om,F_,OU,IV,OV,IW,WN,OW]}
theorem On (z x y:Int) (w:A2) (a:Int->A2->Prop):(aI D2 (λ_=>[]) 55 [aa z,aa x,aa y] w a)=(
 True/\ ∀(b:Int),b=fp x y->aH (decide (b<0)||decide (z<0)||decide (z>=4096)) (au w (a (-1))) (∀(x:Int),x=fy .i64 16 z-> ∀(c:Int),c=aL .i64 x b->au w (a c))):=by kernel_rfl
theorem Y6 (z x y:Int) (w:A2) (a:Int->A2->Prop):(aI D2 (λ_=>[]) 27 [aa z,aa x,aa y] w a)=(
 True/\ ∀(b:Int),b=fp x y->aH (decide (b<0)||decide (z<0)||decide (z>4095)) (au w (a (-1))) (∀(x:Int),x=fy .i64 16 z-> ∀(c:Int),c=aL .i64 x b->au w (a c))):=by kernel_rfl
def dZ (z x y:Int):Int:=if fp x y<0\/z<0\/z>=4096 then -1 else 16*z+fp x y
theorem D5 (x y:Int): -1<=fp x y/\fp x y<16:=by
 unfold fp;split
 ·have h1:=Int.emod_nonneg (x / gN y) (show(16:Int)≠0 by decide);have a:=Int.emod_lt_of_pos (x / gN y) (show(0:Int)<16 by decide);omega
 ·omega
theorem DH (z x y:Int) (w:A2):aC AC 55 (.el (.one (.int .i64))) [aa z,aa x,aa y] w (λb w'=>b=dZ z x y/\Ext w w'):=by
 refine ai (C:=D2) (aS:=λ_=>[]) (Ak (On z x y w _) ⟨trivial,λs es=>?_⟩);have hb:=D5 x y;subst es;refine ab (λh w1 h1=>⟨?_,h1⟩) (λh a c b eb w1 h1=>⟨?_,h1⟩)
 ·simp only[F1,decide_eq_true_eq] at h;unfold dZ;rw[av (by omega)]
 ·simp only[FB,decide_eq_false_iff_not] at h;rw[eH (by omega) (by omega)] at c;rw[ax (by omega) (by omega)] at eb;unfold dZ;rw[ao (by omega),eb,c]
theorem Y7 (z x y:Int) (w:A2):aC AC 27 (.el (.one (.int .i64))) [aa z,aa x,aa y] w (λb w'=>b=dZ z x y/\Ext w w'):=by
 refine ai (C:=D2) (aS:=λ_=>[]) (Ak (Y6 z x y w _) ⟨trivial,λs es=>?_⟩);have hb:=D5 x y;subst es;refine ab (λh w1 h1=>⟨?_,h1⟩) (λh a c b eb w1 h1=>⟨?_,h1⟩)
 ·simp only[F1,decide_eq_true_eq] at h;unfold dZ;rw[av (by omega)]
 ·simp only[FB,decide_eq_false_iff_not] at h;rw[eH (by omega) (by omega)] at c;rw[ax (by omega) (by omega)] at eb;unfold dZ;rw[ao (by omega),eb,c]
noncomputable def eAt:Entry AC where
 f:=55
 fn l:=match l with
  |[.int .i64 z,.int .i64 x,.int .i64 y]=>some (True,.int .i64 (dZ z x y))
  | _=>none
 ok args pre v h a w:=by
  split at h
  ·rename_i z x y;cases h;exact bX (DH z x y w)
  ·cases h
noncomputable def ab2:Entry AC where
 f:=27
 fn l:=match l with
  |[.int .i64 z,.int .i64 x,.int .i64 y]=>some (True,.int .i64 (dZ z x y))
  | _=>none
 ok args pre v h a w:=by
  split at h
  ·rename_i z x y;cases h;exact bX (Y7 z x y w)
  ·cases h
noncomputable def D3:dI AC:={D0 with si:=[te,vz,FH,FI,Ol,uY,Om,F_,OU,IV,OV,IW,WN,OW,eAt,ab2]}
noncomputable def M0:dI AC:={D3 with vy:=false,quiet:=[117,118]}
theorem Ux (p:Option AA) (w:A2) (a:Int->A2->Prop):(aI M0 (λ_=>[]) 117 [ag p] w a)=(
 aH p.isNone (au w (a 0)) (p.isSome=true/\p.isSome=true/\(ad p 0).isSome=true/\sU w (ad (ad p 0) 0) λx=>au w (a (↑x.2.1:Int)))):=by kernel_rfl
theorem Y8 (p:Option AA) (n c:Nat) (i:Int) (w:A2) (d:Option AA->A2->Prop):(aI M0 (λ_=>[]) 118 [.agg ⟨[.slice p n c]⟩,aa i] w d)=(
 aM w ⟨[.slice p n c]⟩ 157 λb a=>((!decide (i<0))=true->true=true)/\aj a (some !decide (i<0)) (ad (ae b) 0) fi λx=>aH (decide (i<0)||decide (i>=(↑x.2.1:Int))) (au a (d none)) (true=true/\sU a (ad (ae b) 0) λx=>(x.1.isSome=true/\0<=i/\i<(↑x.2.1:Int))/\au a (d (ad x.1 (i.toNat*1))))):=by kernel_rfl
theorem Qj (p:Option AA) (i:Int) (w:A2) (a:Option AA×Int×Unit->A2->Prop):(aI M0 (λ_=>[]) 71 [ag p,aa i] w a)=(
 ∃(x:Int),af AC 117 [ag p] w (aa x)/\aH (x==0) (au w (a (none,10,()))) (p.isSome=true/\p.isSome=true/\aj w none (ad p 0) (.agg [.slice]) λx=> ∃(b:Option AA),af AC 118 [.agg ⟨[.slice x.1.1 x.1.2.1 x.1.2.2]⟩,aa i] w (ag b)/\aH b.isNone (au w (a (none,2,()))) (cL p 1 w λx=>p.isSome=true/\p.isSome=true/\az w (ad p 1) [aa (aL .i64 x 1)] λc=>au c (a (b,0,()))))):=by kernel_rfl
theorem D6 (p:Option AA) (i:Int) (w:A2) (a:Int×Int×Unit->A2->Prop):(aI M0 (λ_=>[]) 37 [ag p,aa i] w a)=(
 aA AC 71 (.bA [.one .ptr,.one (.int .i64)]) [ag p,aa i] w λ(x:Option AA×Int×Unit) b=>aH (x.2.1 != 0) (au b (a (0,x.2.1,()))) (x.1.isSome=true/\cK b x.1 λx=>au b (a (x,0,())))):=by kernel_rfl
theorem KP (p:Option AA) (i v:Int) (w:A2) (b:Int->A2->Prop):(aI M0 (λ_=>[]) 38 [ag p,aa i,ay v] w b)=(
 aA AC 71 (.bA [.one .ptr,.one (.int .i64)]) [ag p,aa i] w λ(x:Option AA×Int×Unit) a=>aH (x.2.1==0) (x.1.isSome=true/\az a x.1 [ay v] λa=>cL p 2 a λc=>p.isSome=true/\p.isSome=true/\az a (ad p 2) [aa (aL .i64 c 1)] λa=>au a (b x.2.1)) (au a (b x.2.1))):=by kernel_rfl
theorem Uy (n:Int) (w:A2) (a:Option AA×Int×Unit->A2->Prop):(aI M0 (λ_=>[]) 33 [aa n] w a)=(
 aH (decide (n<1)||decide (n>65536)) (au w (a (none,1,()))) (Nx w 8 1 n n ⟨[ay 0]⟩ 29 λb c=>aM c {toList:=[.slice (ae b) n.toNat n.toNat,aa 0,aa 0]} 159 λb c=>au c (a (some ⟨b,0,none⟩,0,())))):=by kernel_rfl
abbrev eW:El:= .one (.int .u64)
abbrev l5 (bw n c:Nat) (ca la:Int):List AN:=[.slice (ae bw) n c,aa ca,aa la]
def uA (ws:List Int) (i:Int):Bool:=decide (0<=i)&&decide (i<ws.length)
def dv (ws:List Int) (i:Int):Int:=if uA ws i then ws.getD i.toNat 0 else 0
def BN (ws:List Int) (i:Int):Int:=if uA ws i then 0 else 2
def wM (ws:List Int) (i x:Int):Int:=if uA ws i then aL .i64 x 1 else x
def dO (ws:List Int) (i v:Int):List Int:=if uA ws i then ws.set i.toNat v else ws
theorem i_ {ws:List Int} {i:Int}:uA ws i=true<->0<=i/\i<ws.length:=by unfold uA;simp
theorem cF (ws:List Int) (i v:Int):(dO ws i v).length=ws.length:=by unfold dO;split<;>simp
theorem Is: ∀ws:List Int,flat eW ws=ws.map (Dz .u64)
 |[]=>rfl
 |a::l=>by
  show[ay a]++flat eW l= _;rw[Is l];rfl
section
variable {D G:List Nat} {w0 w:A2} {L:List (Nat×List AN)} {bm bw n c:Nat} {ca la:Int} {ws:List Int} {rest:List AN}
theorem aal {i:Nat} (hi:i<ws.length):k_ (flat eW ws++rest) (0+i*1) eW=some (ws.getD i 0):=by
 have:(flat eW ws++rest)[0+i*1]? =some (ay (ws.getD i 0)):=by
  have a:(flat eW ws).length=ws.length*1:=aF eW ws;rw[Bs,IR,H4 (by omega)];have e:=Is ws;rw[e,Fv,Dk hi,JS,Dk hi];rfl
 show(match (flat eW ws++rest)[0+i*1]? with|some v=>(Sc.int .u64).proj v|none=>none)= _;rw[this];rfl
theorem IX (h:bN w bm (l5 bw n c ca la)):aC AC 117 (.el (.one (.int .i64))) [ag (ae bm)] w (λx w'=>x=(n:Int)/\Ext w w'):=by
 refine ai (C:=M0) (aS:=λ_=>[]) (Ak (Ux _ w _) ?_);refine an rfl ⟨rfl,rfl,rfl,aj.of (some ⟨bw,0,none⟩,n,c) (by rw[aY,aY];exact h.ov rfl) λw1 h1=>⟨rfl,h1⟩⟩
theorem Y9 (p:Option AA) (a:n≠0->p.isSome=true) (i:Int) (w:A2):aC AC 118 (.el (.one .ptr)) [.agg ⟨[.slice p n c]⟩,aa i] w (λx w'=>x=(if 0<=i/\i<n then ad p i.toNat else none)/\Ext w w'):=by
 refine ai (C:=M0) (aS:=λ_=>[]) (Ak (Y8 p n c i w _) ?_);have H:=At.start [] w;refine aM.go H λb e H=>⟨λ_=>rfl,aj.cw 0 H rfl rfl (ab (λc1=>au.go H λd H=>⟨?_,H.all⟩) (λc1=>⟨rfl,aj.cw 0 H rfl rfl ?_⟩))⟩
 ·have: ¬ (0<=i/\i<n):=by simp at c1;omega
  rw[ao this]
 ·have hi:0<=i/\i<n:=by simp at c1;omega
  refine⟨⟨a (by omega),by omega,by show i<((n:Nat):Int);omega⟩,au.go H λd H=>⟨?_,H.all⟩⟩;rw[av hi,IR]
theorem yZ (H:aJ D G w0 w L) (j:Nat) (b:L[j]? =some (bm,l5 bw n c ca la)) (e:n=ws.length) (h0:0<n) (i:Int) {K:Option AA×Int×Unit->A2->Prop}
 (f:uA ws i=true-> ∀a,aJ D G w0 a (L.set j (bm,l5 bw n c (aL .i64 ca 1) la))->K (ad (ae bw) i.toNat,0,()) a) (g:uA ws i=false-> ∀a,aJ D G w0 a L->K (none,2,()) a):
 aA AC 71 (.bA [.one .ptr,.one (.int .i64)]) [ag (ae bm),aa i] w K:=by
 refine aA.go H λw1 H=>ai (C:=M0) (aS:=λ_=>[]) (Ak (Qj _ i w1 K) ?_);refine⟨_,af.of (s:= .el (.one (.int .i64))) λw' h'=>IX ((H.get b).ext h'),an (by simp;omega) ⟨rfl,rfl,aj.cw j H b rfl ⟨_,af.of (s:= .el (.one .ptr)) λw' h'=>Y9 (ae bw) (λ_=>rfl) i w',?_⟩⟩⟩;subst e;cases hi:uA ws i with
 |true=>
  have d:=i_.1 hi;rw[av d];refine an rfl ⟨rfl,rfl,aj.cw j H b rfl ⟨rfl,rfl,az.fK j H b rfl rfl λa H=>au.go H λk H=>f hi k H⟩⟩
 |false=>
  have d: ¬ (0<=i/\i<(ws.length:Int)):=λh=>by rw[i_.2 h] at hi;cases hi
  rw[ao d];exact aB rfl (au.go H λa H=>g hi a H)
theorem D7 (H:aJ D G w0 w L) (j a:Nat) (d:L[j]? =some (bm,l5 bw n c ca la)) (g:L[a]? =some (bw,flat eW ws++rest)) (h:j≠a) (l:n=ws.length) (h0:0<n) (i:Int) {K:Int×Int×Unit->A2->Prop}
 (k: ∀b,aJ D G w0 b (L.set j (bm,l5 bw n c (wM ws i ca) la))->K (dv ws i,BN ws i,()) b):
 aA AC 37 (.bA [.one (.int .u64),.one (.int .i64)]) [ag (ae bm),aa i] w K:=by
 refine aA.go H λw1 H=>ai (C:=M0) (aS:=λ_=>[]) (Ak (D6 _ i w1 K) ?_);refine yZ H j d l h0 i (λhi b H=>?_) (λhi b H=>?_)
 ·unfold wM dv BN at k;rw[hi,av rfl,av rfl,av rfl] at k;have o:(L.set j (bm,l5 bw n c (aL .i64 ca 1) la))[a]? =some (bw,flat eW ws++rest):=by rw[Dl h];exact g
  have p:=i_.1 hi;refine an rfl ⟨rfl,?_⟩;rw[aY];have e:=aal (ws:=ws) (rest:=rest) (i:=i.toNat) (by omega);rw[IR] at e;exact aj.at a H o e (au.go H λf H=>k f H)
 ·unfold wM dv BN at k;rw[hi,ao (by decide),ao (by decide),ao (by decide)] at k;refine aB rfl (au.go H λf H=>k f ?_);rw[show L.set j (bm,l5 bw n c ca la)=L from GF λm=>by
   by_cases e:j=m
   ·subst e;rw[FY (BI.1 d).1,d]
   ·rw[Dl e]]
  exact H
theorem aa3 {i:Nat} (hi:i<ws.length) (v:Int):(flat eW ws++rest).set i (ay v)=flat eW (ws.set i v)++rest:=by
 have h:=yV eW ws i v rest hi;have a:(cellsOf eW v)=[ay v]:=rfl;have b:aD eW=1:=rfl;rw[a,b,IR] at h;rw[<-h];have c:(flat eW ws).length=ws.length*1:=aF eW ws;rw[N7,av (by rw[Bx];omega)];rfl
theorem KQ (H:aJ D G w0 w L) (j a:Nat) (f:L[j]? =some (bm,l5 bw n c ca la)) (g:L[a]? =some (bw,flat eW ws++rest)) (b:j≠a) (p:n=ws.length) (h0:0<n) (i v:Int) {K:Int->A2->Prop}
 (k: ∀d,aJ D G w0 d ((L.set j (bm,l5 bw n c (wM ws i ca) (wM ws i la))).set a (bw,flat eW (dO ws i v)++rest))->K (BN ws i) d):
 aA AC 38 (.el (.one (.int .i64))) [ag (ae bm),aa i,ay v] w K:=by
 refine aA.go H λw1 H=>ai (C:=M0) (aS:=λ_=>[]) (Ak (KP _ i v w1 K) ?_);have r:j<L.length:=(BI.1 f).1;have y:a<L.length:=(BI.1 g).1;refine yZ H j f p h0 i (λhi d H=>?_) (λhi d H=>?_)
 ·unfold wM dO BN at k;rw[hi,av rfl,av rfl,av rfl,av rfl] at k;have s:(L.set j (bm,l5 bw n c (aL .i64 ca 1) la))[a]? =some (bw,flat eW ws++rest):=by rw[Dl b];exact g
  have z:=i_.1 hi;have t:i.toNat<ws.length:=by omega
  have A:(flat eW ws).length=ws.length*1:=aF eW ws;refine aB rfl ⟨rfl,az.fK a H s rfl (by rw[Nat.blt_eq,Bx];omega) λl H=>?_⟩;rw[Bs,aa3 t] at H;have o:((L.set j (bm,l5 bw n c (aL .i64 ca 1) la)).set a (bw,flat eW (ws.set i.toNat v)++rest))[j]? =some (bm,l5 bw n c (aL .i64 ca 1) la):=by
   rw[Dl (λe=>b e.symm),FY r]
  refine⟨rfl,rfl,aj.cw j H o rfl ⟨rfl,rfl,az.fK j H o rfl rfl λB H=>au.go H λu H=>k u ?_⟩⟩;rw[List.set_comm _ _ b,List.set_set] at H;rw[List.set_comm _ _ b];exact H
 ·unfold wM dO BN at k;rw[hi,ao (by decide),ao (by decide),ao (by decide),ao (by decide)] at k;refine an rfl (au.go H λl H=>k l ?_);have s1: ∀{m:Nat} {x:Nat×List AN},L[m]? =some x->L.set m x=L:=λ{m x} h=>GF λq=>by
   by_cases e:m=q
   ·subst e;rw[FY (BI.1 h).1,h]
   ·rw[Dl e]
  rw[s1 f,s1 g];exact H
theorem xz (H:aJ D G w0 w L) (b:1<=n/\n<=65536) {K:Option AA×Int×Unit->A2->Prop}
 (k: ∀bm bw w1,aJ D G w0 w1 ((bm,l5 bw n n 0 0)::(bw,flat eW (Fg n 0)++[])::L)->K (some ⟨bm,0,none⟩,0,()) w1):
 aA AC 33 (.bA [.one .ptr,.one (.int .i64)]) [aa (n:Int)] w K:=by
 refine aA.go H λw1 H=>ai (C:=M0) (aS:=λ_=>[]) (Ak (Uy _ w1 K) ?_);refine an (by rw[decide_eq_false (by omega),decide_eq_false (by omega)];rfl) (Nx.go H rfl (by omega) (by omega) (by omega) (by omega) λbw c H=>aM.go H λbm d H=>au.go H λa H=>k bm bw a ?_);rw[lN,H6];exact H
end
abbrev sR:List Sc:=[.int .u64,.bool,.int .i64]
abbrev RT:Type:=Int×Bool×Int×Unit
abbrev sA:List Sc:=[.int .i64,.int .i64,.int .u64,.int .u64]
abbrev sF:List Sc:=[.int .i64,.int .i64,.int .i64,.int .i64]
noncomputable def M1:dI AC:={M0 with quiet:=[58,24]}
noncomputable def M2:dI AC:={M1 with ZT:=some (.el (.agg sR))}
noncomputable def M3:dI AC:={M1 with ZT:=some (.bA [])}
theorem Qk (k i a b:Int) (m:Option AA) (w:A2) (d:RT->A2->Prop):(bV M1 (λ_=>[]) 89 [.agg ⟨[aa k,aa i,ay a,ay b]⟩,ag m] w d)=(
 aM w ⟨[aa k,aa i,ay a,ay b]⟩ 191 λb c=>aM c ⟨[ay 0,.bool false,aa 0]⟩ 124 λe c=>true=true/\aW c (ad (ae b) 1) λx=>aA AC 37 (.bA [.one (.int .u64),.one (.int .i64)]) [ag m,aa x] c λ(x:Int×Int×Unit) c=>az c (ae e) [ay x.1,.bool false,aa x.2.1] λc=>au c λw1=>aj w1 none (ae e) (.agg [.int .u64,.bool,.int .i64]) λ(x:Int×Bool×Int×Unit)=>d (x.1,x.2.1,x.2.2.1,()) w1):=by kernel_rfl
abbrev D8 (a:RT->A2->Prop) (b:A2) (c:Nat):Prop:=
 au b λw1=>aj w1 none (ae c) (.agg [.int .u64,.bool,.int .i64]) λ(x:Int×Bool×Int×Unit)=>a (x.1,x.2.1,x.2.2.1,()) w1
theorem aa4 (m:Option AA) (k i a b:Int) (w:A2) (f:RT->A2->Prop):(bV M2 (λ_=>[]) 57 [ag m,.agg ⟨[aa k,aa i,ay a,ay b]⟩] w f)=(
 aM w ⟨[aa k,aa i,ay a,ay b]⟩ 127 λb c=>aM c ⟨[ay 0,.bool false,aa 0]⟩ 124 λe c=> ∀w1,Ext c w1-> ∀g,Ext (w1.alloc (Obj.map ⟨[]⟩ 0)) g-> ∃(r:Nat), ∃(es:Array B3), ∃(d:Nat),some w1.heap.size=some r/\bG g r es d/\gU g r .i64 1 (.func (.func 89) ⟨[]⟩ ⟨[]⟩) es d λc=> ∀h,Ext c h-> ∃(r:Nat), ∃(es:Array B3), ∃(d:Nat),some w1.heap.size=some r/\bG h r es d/\gU h r .i64 2 (.func (.func 90) ⟨[]⟩ ⟨[]⟩) es d λc=> ∀j,Ext c j->
 ∃(r:Nat), ∃(es:Array B3), ∃(d:Nat),some w1.heap.size=some r/\bG j r es d/\gU j r .i64 3 (.func (.func 91) ⟨[]⟩ ⟨[]⟩) es d λc=> ∀l,Ext c l-> ∃(r:Nat), ∃(es:Array B3), ∃(d:Nat),some w1.heap.size=some r/\bG l r es d/\gU l r .i64 4 (.func (.func 92) ⟨[]⟩ ⟨[]⟩) es d λc=>true=true/\aW c (ad (ae b) 0) λx=> ∃(n:AN), ∃(o:Bool),mr c (some w1.heap.size) .i64 x PP n o/\aH (!o) (az c (ae e) [ay 0,.bool false,aa 1] λc=>D8
 f c e) (aj c none (ae b) (.agg [.int .i64,.int .i64,.int .u64,.int .u64]) λ(x:Int×Int×Int×Int×Unit)=>zW AC n (.el (.agg [.int .u64,.bool,.int .i64])) [.agg ⟨[aa x.1,aa x.2.1,ay x.2.2.1,ay x.2.2.2.1]⟩,ag m] c λ(x:Int×Bool×Int×Unit) c=>az c (ae e) [ay x.1,.bool x.2.1,aa x.2.2.1] λc=>D8 f c e)):=by kernel_rfl
theorem Uz (f p t:Int) (w:A2) (a:Option AA->A2->Prop):(aI M1 (λ_=>[]) 20 [aa f,aa p,aa t] w a)=(
 aM w {toList:=[aa f,aa p,aa t,aa 3,aa 0,aa 0,aa 0,aa 0,.slice none 0 0,.bool true]} 117 λb c=>True/\aH (decide (dZ f p (3:Int)<0)||decide (t<0)||decide (t>7)) (au c (a none)) (au c (a (ae b)))):=by kernel_rfl
abbrev vX (a:Int×Int×Int×Int×Unit->A2->Prop) (b:A2) (c:Nat):Prop:=
 au b λw1=>aj w1 none (ae c) (.agg [.int .i64,.int .i64,.int .u64,.int .u64]) λ(x:Int×Int×Int×Int×Unit)=>a (x.1,x.2.1,x.2.2.1,x.2.2.2.1,()) w1
theorem Ql (p:Option AA) (w:A2) (c:(Int×Int×Int×Int×Unit)->A2->Prop):(bV M1 (λ_=>[]) 58 [ag p] w c)=(
 aM w ⟨[aa 0,aa 0,ay 0,ay 0]⟩ 127 λb a=>((!p.isNone)=true->p.isSome=true)/\((!p.isNone)=true->p.isSome=true)/\aj a (some !p.isNone) (ad p 9) sT λx=>((!(p.isNone|| !x))=true->p.isSome=true)/\((!(p.isNone|| !x))=true->p.isSome=true)/\aj a (some !(p.isNone|| !x)) (ad p 3) aX λ(d:Int)=>aH (p.isNone|| !x||d== -1) (az a (ae b) [aa 0,aa 0,ay 0,ay 0] λa=>vX c a b) (cL p 0 a λx=>cL p 1 a λe=>cL p 3 a λf=>True/\az a (ae b)
 [aa 1,aa (dZ x e f),ay 0,ay 0] λa=>vX c a b)):=by kernel_rfl
theorem UA (p:Option AA) (a b c d:Int) (w:A2) (f:Unit->A2->Prop):(aI M1 (λ_=>[]) 60 [ag p,.agg ⟨[aa a,aa b,aa c,aa d]⟩] w f)=(
 aM w ⟨[aa a,aa b,aa c,aa d]⟩ 48 λb e=>cL p 3 e λx=>true=true/\az e (ad (ae b) 2) [aa x] λe=>aj e none (ae b) dQ λ(x:Int×Int×Int×Int×Unit)=>p.isSome=true/\p.isSome=true/\az e (ad p 4) [aa x.1,aa x.2.1,aa x.2.2.1,aa x.2.2.2.1] λe=>p.isSome=true/\p.isSome=true/\az e (ad p 3) [aa (-1)] λe=>au e (f ())):=by kernel_rfl
theorem Y_ (p:Option AA) (fr:Int) (ep:Bool) (er:Int) (el:Bool) (ef:Int) (w:A2) (c:Unit->A2->Prop):(aI M1 (λ_=>[]) 99 [ag p,aa fr,.agg ⟨[.bool ep,aa er,.bool el,aa ef]⟩] w c)=(
 aM w ⟨[.bool ep,aa er,.bool el,aa ef]⟩ 130 λb a=>aH (decide (fr>=4096)) (aA AC 60 (.bA []) [ag p,.agg ⟨[aa 0,aa 0,aa 0,aa 11]⟩] a λx a=>au a (c ())) (aj a none (ae b) kj λ(x:Bool×Int×Bool×Int×Unit)=>cL p 2 a λd=>True/\aH (!dV x.1 x.2.1 x.2.2.1 x.2.2.2.1 d) (true=true/\aW a (ad (ae b) 1) λx=>aA AC 60 (.bA []) [ag p,.agg ⟨[aa fr,aa x,aa 0,aa 7]⟩] a λx a=>au a (c ())) (true=true/\aW
 a (ad (ae b) 1) λx=>aA AC 60 (.bA []) [ag p,.agg ⟨[aa fr,aa x,aa 0,aa 0]⟩] a λx a=>au a (c ())))):=by kernel_rfl
theorem Qm (a:Option AA) (w:A2) (b:Unit->A2->Prop):(aI M1 (λ_=>[]) 95 [ag a] w b)=(
 gf w a λx=>aA AC 60 (.bA []) [ag x,.agg ⟨[aa 0,aa 0,aa 0,aa 4]⟩] w λx c=>au c (b ())):=by kernel_rfl
theorem Qn (d a:Option AA) (w:A2) (e:Unit->A2->Prop):(aI M1 (λ_=>[]) 97 [ag d,ag a] w e)=(
 gf w a λx=>gf w a λb=>d.isSome=true/\aW w (ad d 3) λf=>gf w a λg=>cL g 3 w λh=>x.isSome=true/\x.isSome=true/\az w (ad x 0) [aa f] λc=>True/\cQ c a lW b/\b.isSome=true/\b.isSome=true/\az c (ad b 3) [aa (aZ .i64 h 1)] λc=>au c (e ())):=by kernel_rfl
theorem Qo (c a:Option AA) (w:A2) (Post:Unit->A2->Prop):(aI M1 (λ_=>[]) 98 [ag c,ag a] w Post)=(
 aj w none c (.one .ptr) λx=>a.isSome=true/\aj w none (ad a 3) (.one (.int .i64)) λ(e:Int)=>aj w none c (.one .ptr) λd=>d.isSome=true/\d.isSome=true/\aj w none (ad d 1) (.one (.int .i64)) λ(f:Int)=>True/\gN 1≠0/\aj w none a (.agg [.bool,.int .i64,.bool,.int .i64]) λ(b:Bool×Int×Bool×Int×Unit)=>aA AC 99 (.bA []) [ag x,aa (aL .i64 e (f_ f (gN 1))),.agg ⟨[.bool b.1,aa b.2.1,.bool b.2.2.1,aa b.2.2.2.1]⟩] w λx g=>au g λw1=>Post () w1)
 :=by kernel_rfl
theorem Qq (c a:Option AA) (w:A2) (d:Unit->A2->Prop):(aI M1 (λ_=>[]) 101 [ag c,ag a] w d)=(
 gf w c λx=>a.isSome=true/\aW w (ad a 3) λe=>aj w none a kj λ(b:Bool×Int×Bool×Int×Unit)=>aA AC 99 (.bA []) [ag x,aa e,.agg ⟨[.bool b.1,aa b.2.1,.bool b.2.2.1,aa b.2.2.2.1]⟩] w λx f=>au f (d ())):=by kernel_rfl
theorem Qr (a:Option AA) (w:A2) (b:Unit->A2->Prop):(aI M1 (λ_=>[]) 102 [ag a] w b)=(
 gf w a λx=>aA AC 60 (.bA []) [ag x,.agg ⟨[aa 0,aa 0,aa 0,aa 11]⟩] w λx c=>au c (b ())):=by kernel_rfl
def vY:Nat->a8:=(λ|3=>[(56,Go.RX.El.one (Go.RX.Sc.int Ay))]| _=>[])
theorem UB (p:Option AA) (ep:Bool) (er:Int) (el:Bool) (ef:Int) (w:A2) (h:Unit->A2->Prop):(aI M3 vY 61 [ag p,.agg ⟨[.bool ep,aa er,.bool el,aa ef]⟩] w h)=(
 aM w ⟨[ag p]⟩ 40 λb a=>aM a ⟨[.bool ep,aa er,.bool el,aa ef]⟩ 130 λd a=>true=true/\uR a (ad (ae d) 0) λx=>aj a none (ae d) kj λ(c:Bool×Int×Bool×Int×Unit)=>True/\aj a (some (fM c.1 c.2.1 c.2.2.1 c.2.2.2.1)) (ae b) lW λi=>(fM c.1 c.2.1 c.2.2.1 c.2.2.2.1=true->i.isSome=true)/\(fM c.1 c.2.1 c.2.2.1 c.2.2.2.1=true->i.isSome=true)/\aj a (some (fM c.1 c.2.1 c.2.2.1 c.2.2.2.1)) (ad i 3) aX λ(o:Int)=>true=true/\uR a (ad
 (ae d) 2) λf=>aj a (some f) (ae b) lW λj=>(f=true->j.isSome=true)/\(f=true->j.isSome=true)/\aj a (some f) (ad j 3) aX λ(q:Int)=>true=true/\uR a (ad (ae d) 2) λe=>((!e)=true->true=true)/\aj a (some !e) (ad (ae d) 1) aX λ(g:Int)=>aj a (some (!e&&decide (g>0))) (ae b) lW λk=>((!e&&decide (g>0))=true->k.isSome=true)/\((!e&&decide (g>0))=true->k.isSome=true)/\aj a (some (!e&&decide (g>0))) (ad k 3) aX λ(r:Int)=>
 aM a {toList:=[.bool !x,.func (.func 95) ⟨[]⟩ {toList:=[ag (ae b)]},.bool (fM c.1 c.2.1 c.2.2.1 c.2.2.2.1&&decide (o>0)),.func (.func 97) ⟨[]⟩ {toList:=[ag (ae d),ag (ae b)]},.bool (f&&q==1),.func (.func 98) ⟨[]⟩ {toList:=[ag (ae b),ag (ae d)]},.bool (!e&&decide (g>0)&&r==0),.func (.func 101) ⟨[]⟩ {toList:=[ag (ae b),ag (ae d)]},.bool true,.func (.func 102) ⟨[]⟩ {toList:=[ag (ae b)]}]} 197 λb a=> ∃(I:Nat->Int×Unit->A2->Prop),(∃n, ∀w1,
 Ext a w1->I n (0,()) w1)/\ ∀(n:Nat) (s:Int×Unit) (w1:A2),I n s w1->aH (decide (s.1<(↑5:Int))) ((true=true/\0<=s.1/\s.1<(↑5:Int))/\aj w1 none (ad (ae b) (B1 s.1*2)) (.agg [.bool,.func]) λx=>aM w1 ⟨[.bool false,PP]⟩ 197 λb a=>az a (ae b) [.bool x.1,x.2.1] λa=>true=true/\uR a (ad (ae b) 0) λx=>aH x (true=true/\aj a none (ad (ae b) 1) (.one .func) λx=>zW AC x (.bA []) [] a λx a=>au a (h ())) (∀l,Ext a l-> ∃(m:Nat),m<n/\I m (aL .i64 s.1 1,
 ()) l)) (au w1 (h ()))):=by kernel_rfl
theorem Qs (p m:Option AA) (w:A2) (c:Bool->A2->Prop):(aI M1 (λ_=>[]) 22 [ag p,ag m] w c)=(
 ((!p.isNone)=true->p.isSome=true)/\((!p.isNone)=true->p.isSome=true)/\aj w (some !p.isNone) (ad p 9) sT λx=>aH (p.isNone|| !x) (au w (c false)) (cL p 3 w λx=>aH (x== -1) (au w (c true)) (∃(x:Int×Int×Int×Int×Unit),af AC 58 [ag p] w (.agg ⟨[aa x.1,aa x.2.1,ay x.2.2.1,ay x.2.2.2.1]⟩)/\aA AC 57 (.el (.agg [.int .u64,.bool,.int .i64])) [ag m,.agg ⟨[aa x.1,aa x.2.1,ay x.2.2.1,ay x.2.2.2.1]⟩] w λ(x:Int×Bool×Int×Unit) a=>aM a ⟨[.int .u64
 0,.bool false,aa 0]⟩ 124 λb a=>az a (ae b) [ay x.1,.bool x.2.1,aa x.2.2.1] λa=>fe p 8 a λx=>cL p 0 a λe=>aM a ⟨[aa e]⟩ 3 λf a=> ∀w1,Ext a w1->mD w1 3 1 8 ⟨[aa 0]⟩ (x.1,x.2.1,x.2.2) (some ⟨f,0,none⟩,1,1) λ(r:Option AA×Nat×Nat) a=>p.isSome=true/\p.isSome=true/\az a (ad p 8) [.slice r.1 r.2.1 r.2.2] λa=>true=true/\cK a (ad (ae b) 0) λx=>U (B x)=x/\aM a ⟨[.bool false,aa 0,.bool false,aa 0]⟩ 130 λd a=>az a (ae d) [.bool (HZ
 (B x).toNat),aa (FA (B x).toNat),.bool (JT (B x).toNat),aa (Fi (B x).toNat)] λa=>((!!uz (B x).toNat)=true->true=true)/\aj a (some !!uz (B x).toNat) (ad (ae b) 2) aX λ(g:Int)=>aH (!uz (B x).toNat||g != 0) (aA AC 60 (.bA []) [ag p,.agg ⟨[aa 0,aa 0,aa 0,aa 11]⟩] a λx a=>au a (c true)) (aj a none (ae d) kj λ(x:Bool×Int×Bool×Int×Unit)=>aA AC 61 (.bA []) [ag p,.agg ⟨[.bool x.1,aa x.2.1,.bool x.2.2.1,aa x.2.2.2.1]⟩] a λx a=>
 cL p 3 a λx=>au a (c (x== -1)))))):=by kernel_rfl
theorem UC (p:Option AA) (w:A2) (c:(Int×Int×Int×Int×Unit)×Bool×Unit->A2->Prop):(bV M1 (λ_=>[]) 24 [ag p] w c)=(
 aM w ⟨[aa 0,aa 0,aa 0,aa 0]⟩ 48 λb a=>((!p.isNone)=true->p.isSome=true)/\((!p.isNone)=true->p.isSome=true)/\aj a (some !p.isNone) (ad p 9) sT λx=>((!(p.isNone|| !x))=true->p.isSome=true)/\((!(p.isNone|| !x))=true->p.isSome=true)/\aj a (some !(p.isNone|| !x)) (ad p 3) aX λ(d:Int)=>aH (p.isNone|| !x||d != -1) (az a (ae b) [aa 0,aa 0,aa 0,aa 0] λa=>au a λw1=>aj w1 none (ae b) dQ λ(x:Int×Int×Int×Int×Unit)=>c ((x.1,x.2.1,x.2.2.1,
 x.2.2.2.1,()),false,()) w1) (p.isSome=true/\p.isSome=true/\aj a none (ad p 4) dQ λ(x:Int×Int×Int×Int×Unit)=>az a (ae b) [aa x.1,aa x.2.1,aa x.2.2.1,aa x.2.2.2.1] λa=>au a λw1=>aj w1 none (ae b) dQ λ(x:Int×Int×Int×Int×Unit)=>c ((x.1,x.2.1,x.2.2.1,x.2.2.2.1,()),true,()) w1)):=by kernel_rfl
def vZ:Nat->a8:=(λ|4=>[]| _=>[])
theorem UD (m:Option AA) (f p t:Int) (w:A2) (c:(Int×Int×Int×Int×Unit)->A2->Prop):(bV M1 vZ 223 [ag m,aa f,aa p,aa t] w c)=(
 aM w ⟨[aa 0,aa 0,aa 0,aa 0]⟩ 48 λb a=>aA AC 20 (.el lW) [aa f,aa p,aa t] a λx a=>aH x.isNone (az a (ae b) [aa 0,aa 0,aa 0,aa 1] λa=>au a λw1=>aj w1 none (ae b) dQ λ(x:Int×Int×Int×Int×Unit)=>c (x.1,x.2.1,x.2.2.1,x.2.2.2.1,()) w1) (∃(I:Nat->Unit->A2->Prop),(∃n, ∀w1,Ext a w1->I n () w1)/\ ∀(n:Nat) (s:Unit) (w1:A2),I n s w1->aA AC 22 (.el sT) [ag x,ag m] w1 λg a=>aH (!g) (∀
 d,Ext a d-> ∃(e:Nat),e<n/\I e () d) (x.isSome=true/\x.isSome=true/\aj a none (ad x 4) dQ λ(x:Int×Int×Int×Int×Unit)=>az a (ae b) [aa x.1,aa x.2.1,aa x.2.2.1,aa x.2.2.2.1] λa=>au a λw1=>aj w1 none (ae b) dQ λ(x:Int×Int×Int×Int×Unit)=>c (x.1,x.2.1,x.2.2.1,x.2.2.2.1,()) w1))):=by kernel_rfl
abbrev FT:Type:=Int×Int×Int×Int×Unit
abbrev lT (fr pg wt lv:Int) (fd:FT) (s:Option AA×Nat×Nat):List AN:=
 [aa fr,aa pg,aa wt,aa lv,aa fd.1,aa fd.2.1,aa fd.2.2.1,aa fd.2.2.2.1,.slice s.1 s.2.1 s.2.2,.bool true]
def wY (lv e:Int):FT:=(0,0,lv,e,())
def xZ (lv wt fr:Int) (ep:Bool) (er:Int) (el:Bool) (ef:Int):FT:=if fr>=4096 then(0,0,lv,11,()) else if dV ep er el ef wt then(fr,er,lv,0,()) else(fr,er,lv,7,())
theorem xA {w:A2} {r:Nat} {k:IntKind} {n:Int} {val:AN} {es:Array B3} {a:Nat} {K:A2->Prop} (h:GI (.int k) (.int k n) es.toList 0=some none)
 (b:K (w.putObj r (.map (es.push {key:= .int k n,val,born:=a}) (a+1)))):gU w r k n val es a K:=by
 unfold gU;rw[h];exact b
section
variable {D G:List Nat} {w0 w:A2} {L:List (Nat×List AN)} {bm bw n c:Nat} {ca la:Int} {ws:List Int} {rest:List AN}
theorem Qt (H:aJ D G w0 w L) (j d:Nat) (f:L[j]? =some (bm,l5 bw n c ca la)) (g:L[d]? =some (bw,flat eW ws++rest)) (m:j≠d) (h:n=ws.length) (h0:0<n) (kd i a b:Int) {K:RT->A2->Prop}
 (k: ∀e,aJ D G w0 e (L.set j (bm,l5 bw n c (wM ws i ca) la))->K (dv ws i,false,BN ws i,()) e):
 aC AC 89 (.el (.agg sR)) [.agg ⟨[aa kd,aa i,ay a,ay b]⟩,ag (ae bm)] w K:=by
 refine aQ (C:=M1) (aS:=λ_=>[]) (Ak (Qk kd i a b _ w K) ?_);refine aM.go H λo e H=>aM.go H λp q H=>⟨rfl,aj.cw 1 H rfl rfl ?_⟩;refine D7 H (j+2) (d+2) f g (by omega) h h0 i λr H=>?_;refine az.all 0 H rfl rfl rfl λs H=>au.go H λl H=>aj.at 0 H rfl rfl (k l ?_);exact(H.sub (Do _ _)).sub (Do _ _)
theorem uZ (H:aJ D G w0 w L) {r:Nat} {es:Array B3} {a:Nat} (f:w0.heap.size<=r) (g:r∉D) (b:bG w r es a) {n:Int} {val:AN} {K:A2->Prop} (h:GI (.int .i64) (aa n) es.toList 0=some none)
 (k: ∀c,aJ D G w0 c L->bG c r (es.push {key:=aa n,val,born:=a}) (a+1)->K c):
 ∃r' d e,some r=some r'/\bG w r' d e/\gU w r' .i64 n val d e K:=
 ⟨r,es,a,rfl,b,xA h (k _ (H.putObj f b (λ_ _ _ hc=>by cases hc) g) (kf (Df.1 b).1))⟩
theorem aa5 (H:aJ D G w0 w L) (q:D=[]) (j f:Nat) (r:L[j]? =some (bm,l5 bw n c ca la)) (s:L[f]? =some (bw,flat eW ws++rest)) (E:j≠f) (t:n=ws.length) (h0:0<n) (i a b:Int) {K:RT->A2->Prop}
 (k: ∀g,aJ D G w0 g (L.set j (bm,l5 bw n c (wM ws i ca) la))->K (dv ws i,false,BN ws i,()) g):
 aA AC 57 (.el (.agg sR)) [ag (ae bm),.agg ⟨[aa 1,aa i,ay a,ay b]⟩] w K:=by
 subst q;refine aA.go H λw1 H=>aQ (C:=M2) (aS:=λ_=>[]) (Ak (aa4 _ 1 i a b w1 K) ?_);refine aM.go H λF g H=>aM.go H λI J H=>λd h u l=>?_;have H:=(((H.ext h).rM (.map ⟨[]⟩ 0)).ext l);have e:w0.heap.size<=d.heap.size:=by have:=(aJ.ext (w1:=d) (by assumption) h:aJ [] G w0 d _).fr.size;exact this
 have m0:bG u d.heap.size ⟨[]⟩ 0:=l.obj (fx d _);refine uZ H e (by simp) m0 rfl λM H v N m=>?_;refine uZ (H.ext m) e (by simp) (m.obj v) rfl λO H x P o=>?_;refine uZ (H.ext o) e (by simp) (o.obj x) rfl λQ H y R p=>?_;refine uZ (H.ext p) e (by simp) (p.obj y) rfl λS H z=>?_;refine⟨rfl,aj.cw 1 H rfl rfl ⟨.func (.func 89) #[] #[],true,⟨_, _, _,rfl,z,?_⟩,an rfl (aj.at 1 H rfl rfl ?_)⟩⟩
 ·exact⟨rfl,rfl⟩
 ·unfold zW;refine λT A=>⟨_, #[], #[],rfl,by kernel_rfl,?_⟩;refine Qt (H.ext A) (j+2) (f+2) r s (by omega) t h0 1 i a b λU H=>?_;refine az.all 0 H rfl rfl rfl λV H=>au.go H λB H=>aj.at 0 H rfl rfl (k B ?_);exact(H.sub (Do _ _)).sub (Do _ _)
end
section
variable {D G:List Nat} {w0 w:A2} {L:List (Nat×List AN)} {bk:Nat} {fr pg wt lv:Int} {fd:FT} {s:Option AA×Nat×Nat}
theorem pT (H:aJ D G w0 w L) (j:Nat) (d:L[j]? =some (bk,lT fr pg wt lv fd s)) (x1 a f c:Int) {K:Unit->A2->Prop}
 (k: ∀g,aJ D G w0 g (L.set j (bk,lT fr pg wt (-1) (x1,a,lv,c,()) s))->K () g):
 aA AC 60 (.bA []) [ag (ae bk),.agg ⟨[aa x1,aa a,aa f,aa c]⟩] w K:=by
 refine aA.go H λw1 H=>ai (C:=M1) (aS:=λ_=>[]) (Ak (UA _ x1 a f c w1 K) ?_);have h:j<L.length:=(BI.1 d).1;refine aM.go H λb g H=>?_;have i:((b,[aa x1,aa a,aa f,aa c])::L)[j+1]? =some (bk,lT fr pg wt lv fd s):=d;refine⟨rfl,rfl,aj.cw (j+1) H i rfl ⟨rfl,az.fK 0 H rfl rfl rfl λm H=>aj.at 0 H rfl rfl ⟨rfl,rfl,?_⟩⟩⟩;rw[aY,aY];refine az.at (j+1) H d rfl (Nat.le_of_ble_eq_true rfl) λn H=>⟨rfl,rfl,?_⟩;refine az.one (j+1) H (FY (Nat.succ_lt_succ h)) rfl rfl λo H=>au.go H λl H=>k l ?_;have H:=H.sub (Do _ _);have e:(L.set j (bk,lT fr pg wt lv (x1,a,lv,c,()) s)).set j (bk,lT fr pg wt (-1) (x1,a,lv,c,()) s)=L.set j (bk,lT fr pg wt (-1) (x1,a,lv,c,()) s):=List.set_set ..;rw[<-e];exact H
theorem OX (H:aJ D G w0 w L) (j:Nat) (i:L[j]? =some (bk,lT fr pg wt lv fd s)) (f:Int) (ep:Bool) (er:Int) (el:Bool) (ef:Int) {K:Unit->A2->Prop}
 (k: ∀g,aJ D G w0 g (L.set j (bk,lT fr pg wt (-1) (xZ lv wt f ep er el ef) s))->K () g):
 aA AC 99 (.bA []) [ag (ae bk),aa f,.agg ⟨[.bool ep,aa er,.bool el,aa ef]⟩] w K:=by
 refine aA.go H λw1 H=>ai (C:=M1) (aS:=λ_=>[]) (Ak (Y_ _ f ep er el ef w1 K) ?_);refine aM.go H λb g H=>?_;have d:((b,[B2 ep,aa er,.bool el,aa ef])::L)[j+1]? =some (bk,lT fr pg wt lv fd s):=i;refine ab (λc=>?_) (λc=>aj.at 0 H rfl rfl ⟨rfl,rfl,aj.cw (j+1) H d rfl ⟨trivial,ab (λc2=>?_) (λc2=>?_)⟩⟩)
 ·refine pT H (j+1) d 0 0 0 11 λh H=>au.go H λa H=>k a ?_;have e:xZ lv wt f ep er el ef=(0,0,lv,11,()):=av (of_decide_eq_true c);rw[e];exact H.sub (Do _ _)
 ·refine⟨rfl,aj.cw 0 H rfl rfl (pT H (j+1) d f er 0 7 λh H=>au.go H λa H=>k a ?_)⟩;have e:xZ lv wt f ep er el ef=(f,er,lv,7,()):=by
   have c3:dV ep er el ef wt=false:=by simpa using c2
   unfold xZ;rw[ao (of_decide_eq_false c),c3];rfl
  rw[e];exact H.sub (Do _ _)
 ·refine⟨rfl,aj.cw 0 H rfl rfl (pT H (j+1) d f er 0 0 λh H=>au.go H λa H=>k a ?_)⟩;have e:xZ lv wt f ep er el ef=(f,er,lv,0,()):=by
   have c3:dV ep er el ef wt=true:=by simpa using c2
   unfold xZ;rw[ao (of_decide_eq_false c),av c3]
  rw[e];exact H.sub (Do _ _)
end
end Go.Proofs.YtlcenllcmeebhaaGreat
