import Derived.Test.YtlcenllcmeebhaaGreatPAA
/-! What the statement leans on: texts joined and shortened by a program of mine. -/
set_option linter.unusedVariables false
set_option linter.unusedSimpArgs false
open Go renaming World->A0,Addr->A2,Value->AF,Obj->AM,MapEntry->B1,Program->DA,FuncId->DV,TypeId->E4
open Go.Proofs.Tryz renaming prog->AC
open Eq renaming mpr->AJ
open List renaming mem_map->Ae,perm_middle->B3,mem_cons->B4,sublist_cons_self->B5,nodup_cons->BW,mem_cons_of_mem->Bs,getElem?_eq_some_iff->Bx,map_cons->Cg,mem_cons_self->Ci,length_take->Cj,length_append->DB,getElem?_set_ne->Db,mem_singleton->Dh,mem_append_left->Dk,mem_append_right->Dn,take_append_drop->Ds,getElem?_eq_getElem->E5,getElem?_set_self->F6,append_assoc->F8,map_append->FB,nodup_nil->FH,mem_of_getElem?->FJ,replicate->FS,mem_append->FV,getElem?_map->FW,getElem?_of_mem->Ft,ext_getElem?->Fy,length_drop->Fz,filter_cons->G1,mem_or_eq_of_mem_set->Gd,getElem?_append_left->Gi,nodup_append->Gj,eq_nil_of_length_eq_zero->H4,take_add_one->H5,drop_eq_nil_of_le->I1,getElem?_inj->I2,take_append_of_le_length->IB,take_of_length_le->IP,length_set->IR,filter_eq_self->In,take_length->Ip,drop_length->Iy,set_set->J3,set_eq_take_append_cons_drop->Kd,getElem?_append_right->Kh,drop_length_add_append->Ko,append_nil->Ks,perm_append_singleton->LL,sublist_append_right->M4,length_map->M5,findIdx?_eq_none_iff->Mr,getD_eq_getElem?_getD->N2,drop_eq_getElem_cons->N4,eraseIdx_eq_take_drop_succ->N5,any_eq_true->NK,find?_append->NM,find?_cons->NR,pairwise_append->NU,getElem?_take_of_lt->NW
open Go.IntKind renaming i64->Aq,u64->H6
open Int renaming toNat->Ar,toNat_natCast->Dw,ediv_nonneg->NX
open Go.Value renaming bool->B2,int->Dx,chan->H7,nilFunc->O2
open Nat renaming zero_add->Ct,le_trans->DE,le_refl->Do,zero_le->GD,min_eq_left->GF,mul_le_mul_right->GJ,lt_of_lt_of_le->HB,lt_succ_self->Hb,mul_one->Hq,add_mul->J4,sub_self->J5,testBit_mod_two_pow->J7,mod_eq_of_lt->OD,eq_of_testBit_eq->OK
open List.Perm renaming cons->DL,swap->FG
open Array renaming getElem?_eq_some_iff->Dq,ext'->J9,mk->K1
open Decidable renaming rec->FX
open Bool renaming or_eq_true->FY,or_eq_false_iff->Fk,true_and->GS,and_eq_false_iff->Kb,eq_iff_iff->OO,not_eq_true'->Od,not_eq_false'->Ok,and_eq_true->Ol
open Go.Instr renaming findNow->GG
open BitVec renaming testBit_toNat->GH,getLsbD_and->Hr,allOnes->Oq,getLsbD_ushiftRight->Ox
open Go.Builtin renaming zeroCells->Ga
namespace Go.Proofs.YtlcenllcmeebhaaGreat
set_option maxRecDepth 100000
open Go.RX
def dX (lo sz:Int):Bool:=decide (lo>=0)&&decide (lo<64)&&decide (sz>=1)&&decide (sz<=64 - lo)
theorem iU {lo sz:Int}:dX lo sz=true<->0<=lo/\lo<64/\1<=sz/\sz<=64 - lo:=by grind[dX]
def Mk (lo n:Nat):BitVec 64:=(Oq 64 >>> (64 - n)) <<< lo
theorem Cs {lo n j:Nat} (a:n<=64):(Mk lo n).getLsbD j=(decide (lo<=j)&&decide (j<lo+n)&&decide (j<64)):=by
 unfold Mk;rw[BitVec.getLsbD_shiftLeft,Ox,BitVec.getLsbD_allOnes]
 grind
def fP (lo sz:Int):BitVec 64:=if dX lo sz=true then Mk lo.toNat sz.toNat else 0#64
def fj (w:BitVec 64) (lo sz:Int):BitVec 64:=(w &&& fP lo sz) >>> (Dv 0 (kT lo 63)).toNat
def td (w:BitVec 64) (lo sz:Int) (v:BitVec 64):BitVec 64:=if fP lo sz=0#64 then w else w &&& ~~~ fP lo sz ||| v <<< lo.toNat &&& fP lo sz
theorem G6 {lo sz:Int} (h:dX lo sz=true):Du .u64 (Kj .u64 18446744073709551615 (a6 .i64 64 sz)) lo=U (fP lo sz):=by
 have h':=iU.1 h;rw[show 18446744073709551615=U (Oq _) from rfl,Pj,Ph,bF (by omega) (by omega)];unfold fP Mk
 grind
theorem Qf {lo sz:Int} (h:dX lo sz=true):fP lo sz≠0#64:=by
 intro h0;have h':=iU.1 h;have:=congrArg (λb=>b.getLsbD lo.toNat) h0;simp[fP,if_pos h] at this;rw[Cs (by omega)] at this
 grind
theorem zA {lo sz:Int} (h:dX lo sz=false):fP lo sz=0#64:=by grind[fP]
def Gk (w:BitVec 64) (lo k:Nat):BitVec 64:=(w >>> lo) &&& Mk 0 k
theorem Pm {w:BitVec 64} {lo k j:Nat} (a:k<=64):(Gk w lo k).getLsbD j=(w.getLsbD (lo+j)&&decide (j<k)):=by
 unfold Gk;rw[Hr,Cs a]
 grind
def Pk (w v:BitVec 64) (lo k:Nat):BitVec 64:=w &&& ~~~ Mk lo k ||| v <<< lo &&& Mk lo k
theorem Zz {w v:BitVec 64} {lo k j:Nat} (a:k<=64) (b:j<64):(Pk w v lo k).getLsbD j=if lo<=j/\j<lo+k then v.getLsbD (j - lo) else w.getLsbD j:=by
 unfold Pk;rw[BitVec.getLsbD_or,Hr,Hr,BitVec.getLsbD_not,Cs a]
 grind
theorem UC {w:BitVec 64} {lo sz:Int} (h:dX lo sz=true):fj w lo sz=Gk w lo.toNat sz.toNat:=by
 have h':=iU.1 h;unfold fj fP;rw[if_pos h];have e:(Dv 0 (kT lo 63)).toNat=lo.toNat:=by unfold Dv kT;omega
 apply BitVec.eq_of_getLsbD_eq;intro;rw[Pm (by omega),Ox,Hr,Cs (by omega)]
 grind
theorem UD {w v:BitVec 64} {lo sz:Int} (h:dX lo sz=true):td w lo sz v=Pk w v lo.toNat sz.toNat:=by
 unfold td Pk;rw[if_neg (Qf h)];simp[fP,if_pos h]
theorem mx:AC.follows .mixedOrders=true:=by kernel_rfl
noncomputable def C0:dG AC:={sP:=[],quiet:=[],sh:=[],mixed:=mx}
theorem UE (low size:Int) (w:A0) (a:Bool->A0->Prop):(aI C0 (λ_=>[]) 144 [.int .i64 low,.int .i64 size] w a)=(
 au w (a (decide (low>=0)&&decide (low<64)&&decide (size>=1)&&decide (size<=a6 .i64 64 low)))):=by kernel_rfl
theorem Qg (lo sz:Int):(decide (lo>=0)&&decide (lo<64)&&decide (sz>=1)&&decide (sz<=a6 .i64 64 lo))=dX lo sz:=by
 unfold dX;by_cases h:0<=lo/\lo<64
 ·rw[bF (by omega) (by omega)]
 ·by_cases h1:lo>=0<;>by_cases a:lo<64<;>simp[h1,a]<;>omega
noncomputable def tn:Entry AC where
 f:=144
 fn l:=match l with
  |[.int .i64 lo,.int .i64 sz]=>some (True,.bool (dX lo sz))
  | _=>none
 ok args pre v h _ w:=by
  split at h
  ·rename_i lo sz;cases h;refine bY (x:=dX lo sz) (ai (C:=C0) (aW:=λ_=>[]) (AJ (UE lo sz w _) λw1 h1=>⟨Qg lo sz,h1⟩))
  ·cases h
noncomputable def C1:dG AC:={C0 with sP:=[tn]}
theorem UF (low size:Int) (w:A0) (a:Int->A0->Prop):(aI C1 (λ_=>[]) 195 [.int .i64 low,.int .i64 size] w a)=(
 True/\aG (!dX low size) (au w (a 0)) (0<=a6 .i64 64 size/\0<=low/\au w λw1=>a (Du .u64 (Kj .u64 18446744073709551615 (a6 .i64 64 size)) low) w1)):=by kernel_rfl
theorem UG (lo sz:Int) (w:A0):aE AC 195 (.el (.one (.int .u64))) [.int .i64 lo,.int .i64 sz] w (λx w'=>x=U (fP lo sz)/\Ext w w'):=by
 refine ai (C:=C1) (aW:=λ_=>[]) (AJ (UF lo sz w _) ⟨trivial,?_⟩);refine ab (λh=>?_) (λh=>?_)
 ·intro w1 h1;refine⟨?_,h1⟩;rw[zA (by simpa using h)];rfl
 ·have h':dX lo sz=true:=by simpa using h
  have a:=iU.1 h';refine⟨by rw[bF (by omega) (by omega)];omega,a.1,λw1 h1=>⟨G6 h',h1⟩⟩
noncomputable def vH:Entry AC where
 f:=195
 fn l:=match l with
  |[.int .i64 lo,.int .i64 sz]=>some (True,.int .u64 (U (fP lo sz)))
  | _=>none
 ok args pre v h a w:=by
  split at h
  ·rename_i lo sz;cases h;exact bY (UG lo sz w)
  ·cases h
noncomputable def C2:dG AC:={C0 with sP:=[tn,vH]}
theorem ZA (v low size:Int) (w:A0) (a:Int->A0->Prop):(aI C2 (λ_=>[]) 141 [.int .u64 v,.int .i64 low,.int .i64 size] w a)=(
 True/\0<=Dv 0 (kT low 63)/\au w λw1=>a (Kj .u64 (mw .u64 v (U (fP low size))) (Dv 0 (kT low 63))) w1):=by kernel_rfl
theorem ZB (v low size x:Int) (w:A0) (a:Int->A0->Prop):(aI C2 (λ_=>[]) 250 [.int .u64 v,.int .i64 low,.int .i64 size,.int .u64 x] w a)=(
 True/\aG (U (fP low size)==0) (au w (a v)) (0<=low/\au w λw1=>a (orI .u64 (gS .u64 v (U (fP low size))) (mw .u64 (Du .u64 x low) (U (fP low size)))) w1)):=by kernel_rfl
theorem ZC (v:BitVec 64) (lo sz:Int) (w:A0):aE AC 141 (.el (.one (.int .u64))) [.int .u64 (U v),.int .i64 lo,.int .i64 sz] w (λx w'=>x=U (fj v lo sz)/\Ext w w'):=by
 refine ai (C:=C2) (aW:=λ_=>[]) (AJ (ZA (U v) lo sz w _) ⟨trivial,by unfold Dv;split<;>omega,λw1 h1=>⟨?_,h1⟩⟩);rw[Pf,Pj];rfl
theorem ZD (v:BitVec 64) (lo sz:Int) (x:BitVec 64) (w:A0):aE AC 250 (.el (.one (.int .u64))) [.int .u64 (U v),.int .i64 lo,.int .i64 sz,.int .u64 (U x)] w (λy w'=>y=U (td v lo sz x)/\Ext w w'):=by
 refine ai (C:=C2) (aW:=λ_=>[]) (AJ (ZB (U v) lo sz (U x) w _) ⟨trivial,?_⟩);have b:(U (fP lo sz)==0)=decide (fP lo sz=0#64):=by
  have:(U (fP lo sz)=0)<->fP lo sz=0#64:=by rw[show(0:Int)=U 0#64 from rfl,abh]
  by_cases h:fP lo sz=0#64
  ·rw[this.2 h,h];rfl
  ·have h': ¬ U (fP lo sz)=0:=λe=>h (this.1 e);simp[h,h']
 rw[b];refine ab (λh=>λw1 h1=>⟨?_,h1⟩) (λh=>?_)
 ·simp only[decide_eq_true_eq] at h;unfold td;rw[if_pos h]
 ·simp only[decide_eq_false_iff_not] at h;have a:dX lo sz=true:=by
   cases a:dX lo sz with
   |true=>rfl
   |false=>exact absurd (zA a) h
  refine⟨(iU.1 a).1,λw1 h1=>⟨?_,h1⟩⟩;rw[KF,Ph,Pf,abi];unfold td;rw[if_neg h]
noncomputable def FO:Entry AC where
 f:=141
 fn l:=match l with
  |[.int .u64 v,.int .i64 lo,.int .i64 sz]=>some (U (B v)=v,.int .u64 (U (fj (B v) lo sz)))
  | _=>none
 ok args pre v h a w:=by
  split at h
  ·rename_i v lo sz;cases h;have:=bY (ZC (B v) lo sz w);rw[a] at this;exact this
  ·cases h
noncomputable def FP:Entry AC where
 f:=250
 fn l:=match l with
  |[.int .u64 v,.int .i64 lo,.int .i64 sz,.int .u64 x]=>some (U (B v)=v/\U (B x)=x,.int .u64 (U (td (B v) lo sz (B x))))
  | _=>none
 ok args pre v h a w:=by
  split at h
  ·rename_i v lo sz x;cases h;have:=bY (ZD (B v) lo sz (B x) w);rw[a.1,a.2] at this;exact this
  ·cases h
noncomputable def C3:dG AC:={C0 with sP:=[tn,vH,FO,FP]}
def vV:Nat->a7:=(λ|4=>[(3,Go.RX.El.one (Go.RX.Sc.int H6)),(4,Go.RX.El.one (Go.RX.Sc.int Aq)),(9,Go.RX.El.one (Go.RX.Sc.int Aq))]| _=>[])
theorem UH (p:Option A2) (n c:Nat) (w:A0) (d:Int->A0->Prop):(aI C3 vV 248 [.slice p n c] w d)=(
 ∃(I:Nat->Int×Int×Int×Unit->A0->Prop),(∃n, ∀w1,Ext w w1->I n (0,0,0,()) w1)/\ ∀(f:Nat) (s:Int×Int×Int×Unit) (w1:A0),I f s w1->aG (decide (s.2.2.1<(↑n:Int))) ((p.isSome=true/\0<=s.2.2.1/\s.2.2.1<(↑n:Int))/\aj w1 none (ad p (Ar s.2.2.1*2)) cA λ(x:Int×Int×Unit)=>aN w1 ⟨[.int .u64 0,.int .i64 0]⟩ 304 λb a=>aC a (ae b) [.int .u64 x.1,.int .i64 x.2.1] λa=>true=true/\aV a (ad (ae b) 1) λx=>True/\aG (!dX s.2.1 x) (au a (d 0)) (true=true/\aV a (ad (ae b) 1) λ
 x=>true=true/\cJ a (ad (ae b) 0) λe=>(U (B s.1)=s.1/\U (B e)=e)/\true=true/\aV a (ad (ae b) 1) λi=> ∀g,Ext a g-> ∃(h:Nat),h<f/\I h (U (td (B s.1) s.2.1 x (B e)),aH .i64 s.2.1 i,aH .i64 s.2.2.1 1,()) g)) (au w1 (d s.1))):=by kernel_rfl
def uc:Nat->a7:=(λ|4=>[(5,Go.RX.El.one Go.RX.Sc.slice),(6,Go.RX.El.one (Go.RX.Sc.int Aq)),(11,Go.RX.El.one (Go.RX.Sc.int Aq))]| _=>[])
theorem Qh (v:Int) (p:Option A2) (n c:Nat) (w:A0) (a:Option A2×Nat×Nat->A0->Prop):(aI C3 uc 93 [.int .u64 v,.slice p n c] w a)=(
 ∃(I:Nat->(Option A2×Nat×Nat)×Int×Int×Unit->A0->Prop),(∃n, ∀w1,Ext w w1->I n ((none,0,0),0,0,()) w1)/\ ∀(e:Nat) (s:(Option A2×Nat×Nat)×Int×Int×Unit) (w1:A0),I e s w1->aG (decide (s.2.2.1<(↑n:Int))) ((p.isSome=true/\0<=s.2.2.1/\s.2.2.1<(↑n:Int))/\aV w1 (ad p (Ar s.2.2.1*1)) λx=>True/\aG (!dX s.2.1 x) (au w1 (a (none,0,0))) (U (B v)=v/\aN w1 ⟨[.int .u64 (U (fj (B v) s.2.1 x))]⟩ 29 λb d=> ∀w1,Ext d w1->mJ w1 29 1 8 ⟨[.int .u64 0]⟩ (s.1.1,s.1.2.1,s.1.2.2) (some ⟨b,0,
 none⟩,1,1) λ(r:Option A2×Nat×Nat) d=> ∀f,Ext d f-> ∃(g:Nat),g<e/\I g ((r.1,r.2.1,r.2.2),aH .i64 s.2.1 x,aH .i64 s.2.2.1 1,()) f)) (au w1 (a (s.1.1,s.1.2.1,s.1.2.2)))):=by kernel_rfl
abbrev eI:El:= .one (.int .i64)
abbrev eU:El:= .one (.int .u64)
abbrev eP:El:= .agg [.int .u64,.int .i64]
def qX:BitVec 64->Int->List (BitVec 64×Int)->BitVec 64
 |w, _,[]=>w
 |w,lo,(v,sz)::r=>if dX lo sz=true then qX (td w lo sz v) (lo+sz) r else 0#64
def Oo (l:List (BitVec 64×Int)):List (Int×Int×Unit):=l.map λx=>(U x.1,x.2,())
theorem jt {α:Type} {l:List α} {i:Nat} (h:i<l.length):l.drop i=l[i]::l.drop (i+1):=by simp_all
theorem UI {p:Option A2} {n c:Nat} {w:A0} {xs:List (BitVec 64×Int)} (hx:Sl w eP p (Oo xs)) (I:n=xs.length) (hb:n<4611686018427387904):
 aE AC 248 (.el eU) [.slice p n c] w (λx w'=>x=U (qX 0#64 0 xs)/\Ext w w'):=by
 refine ai (C:=C3) (aW:=vV) (AJ (UH p n c w _) ?_);refine⟨λk s w'=>Ext w w'/\ ∃(i:Nat) (b:BitVec 64),s.1=U b/\s.2.2.1=i/\k+i=n/\0<=s.2.1/\s.2.1<=64/\qX b s.2.1 (xs.drop i)=qX 0#64 0 xs,⟨n,λw1 h1=>⟨h1,0,0#64,rfl,rfl,rfl,by decide,by decide,rfl⟩⟩,?_⟩;rintro k ⟨x,lo,J,u⟩ w1 ⟨l,i,b,h1,g,K,z,A,e⟩;simp only at h1 g z A e;subst h1;subst g;dsimp only;refine ab (λh=>?_) (λh=>λB g=>⟨?_,l.trans g⟩)
 ·simp only[decide_eq_true_eq] at h;have hi:i<xs.length:=by omega
  have hg:(Oo xs)[i]? =some (U xs[i].1,xs[i].2,()):=by simp[Oo,hi]
  have a1:=(hx.ext l) i _ hg;rw[jt hi] at e;refine⟨⟨a1.1,by omega,by omega⟩, _,a1.2,λd D f t=>?_⟩;have dj:bO f d.heap.size [.int .u64 0,.int .i64 0]:=(bO.new d _ _).ext t;have v:Ext w d:=l.trans D;have E:Ext w f:=(v.jl _).trans t;have m:=dj.put (o:=0) [Dx .u64 (U xs[i].1),Dx .i64 xs[i].2] (by simp);simp at m;have y:Ext w (jZ f (some ⟨d.heap.size,0,none⟩) [Dx .u64 (U xs[i].1),Dx .i64 xs[i].2]):=E.jZ (a:=⟨d.heap.size,0,none⟩) v.size _;have F:cU (jZ f (some ⟨d.heap.size,0,none⟩) [Dx .u64 (U xs[i].1),Dx .i64 xs[i].2]) (ad (some ⟨d.heap.size,0,none⟩) 0) (.one (.int .u64)) (U xs[i].1):=by
   rw[aY];exact m.oF rfl
  have q:cU (jZ f (some ⟨d.heap.size,0,none⟩) [Dx .u64 (U xs[i].1),Dx .i64 xs[i].2]) (ad (some ⟨d.heap.size,0,none⟩) 1) (.one (.int .i64)) xs[i].2:=by
   rw[aY];exact m.oF rfl
  refine⟨⟨rfl,dj.st (by simp)⟩,rfl, _,q,trivial,ab (λr B G=>⟨?_,y.trans G⟩) (λr=>⟨rfl, _,q,rfl, _,F,⟨by rw[Fj],by rw[Fj]⟩,rfl, _,q,λL H=>⟨k - 1,by omega,y.trans H,i+1,td b lo xs[i].2 xs[i].1,?_,?_,by omega,?_,?_,?_⟩⟩)⟩
  ·have j:dX lo xs[i].2=false:=by simpa using r
   rw[<-e];simp only[qX,j];rfl
  all_goals
   have j:dX lo xs[i].2=true:=by simpa using r
   have M:=iU.1 j
  ·show U _= _;rw[Fj,Fj]
  ·show aH _ _ _= _;rw[ay (by omega) (by omega)];rfl
  ·show 0<=aH .i64 lo _;rw[ay (by omega) (by omega)];omega
  ·show aH .i64 lo _<=64;rw[ay (by omega) (by omega)];omega
  ·show qX _ (aH .i64 lo _) _= _;rw[ay (by omega) (by omega), <-e];simp only[qX,j,if_true]
 ·simp only[decide_eq_false_iff_not] at h;rw[I1 (by omega)] at e;rw[<-e];rfl
def mG (w:BitVec 64):Int->List Int->Option (List (BitVec 64))
 | _,[]=>some []
 |lo,sz::r=>if dX lo sz=true then(mG w (lo+sz) r).map (fj w lo sz:: ·) else none
def Cb (l:List (BitVec 64)):List Int:=l.map U
theorem Qi {v:BitVec 64} {p:Option A2} {n c:Nat} {w:A0} {xs:List Int} (hx:Sl w eI p xs) (I:n=xs.length) (hb:n<=1000):
 aE AC 93 (.el (.one .slice)) [.int .u64 (U v),.slice p n c] w (λr w'=>lW w w' eU r (Cb ((mG v 0 xs).getD []))/\Ext w w'):=by
 refine ai (C:=C3) (aW:=uc) (AJ (Qh (U v) p n c w _) ?_);refine⟨λk s w'=>Ext w w'/\ ∃(i:Nat) (a:List (BitVec 64)),s.2.2.1=i/\k+i=n/\0<=s.2.1/\s.2.1<=64/\a.length=i/\lW w w' eU s.1 (Cb a)/\mG v 0 xs=(mG v s.2.1 (xs.drop i)).map (a++ ·),⟨n,λw1 h1=>⟨h1,0,[],rfl,rfl,by decide,by decide,rfl,lW.nil w w1 eU,by simp⟩⟩,?_⟩;rintro k ⟨s,lo,J,u⟩ w1 ⟨f,i,a,d,K,y,z,A,m,b⟩;simp only at d m y z b;subst d;dsimp only;refine ab (λh=>?_) (λh=>λo d=>⟨?_,f.trans d⟩)
 ·simp only[decide_eq_true_eq] at h;have hi:i<xs.length:=by omega
  have a1:=(hx.ext f) i _ (E5 hi);have i1:p.isSome=true/\(0:Int)<=i/\(i:Int)<n:=⟨a1.1,by omega,by omega⟩;rw[jt hi] at b;refine⟨i1, _,a1.2,trivial,ab (λg o D=>⟨?_,f.trans D⟩) (λg=>⟨by rw[Fj],λL E M F=>?_⟩)⟩
  ·have j:dX lo xs[i]=false:=by simpa using g
   simp only[mG,j] at b;rw[b];exact lW.nil w o eU
  ·have j:dX lo xs[i]=true:=by simpa using g
   have N:=iU.1 j;have O:(Cb a).length<=1000:=by simp[Cb];omega
   refine Qe (e:=eU) (x:=U (fj (B (U v)) lo xs[i])) m f rfl E F rfl (by omega) λs' w' q G g hs P t=>⟨k - 1,by omega,G.trans t,i+1,a++[fj v lo xs[i]],?_,by omega,?_,?_,by simp[A],?_,?_⟩
   ·show aH _ _ _= _;rw[ay (by omega) (by omega)];rfl
   ·show 0<=aH .i64 lo _;rw[ay (by omega) (by omega)];omega
   ·show aH .i64 lo _<=64;rw[ay (by omega) (by omega)];omega
   ·rw[Fj] at q;have H:Cb (a++[fj v lo xs[i]])=Cb a++[U (fj v lo xs[i])]:=by simp[Cb]
    rw[H];exact q.ext t
   ·show _=(mG v (aH .i64 lo _) _).map _;rw[ay (by omega) (by omega),b];simp only[mG,j,if_true,Option.map_map];congr 1;funext l;simp
 ·simp only[decide_eq_false_iff_not] at h;rw[I1 (by omega)] at b;rw[b];simp[mG];exact m.ext d
end Go.Proofs.YtlcenllcmeebhaaGreat
namespace Go.RX
open Go.RowKit
def Y0 (n:Nat) (w:A0) (e:El) (s:Option A2×Nat×Nat) (xs:List e.T):Prop:=
 s.2.1=xs.length/\xs.length<=s.2.2/\
 ((s.1=none/\xs=[]/\s.2.2=0)\/ ∃b l,s.1=some ⟨b,0,none⟩/\n<=b/\bO w b l/\l.length=s.2.2*aD e/\l.take (xs.length*aD e)=flat e xs)
theorem lW.toN {w0 w:A0} {e:El} {s:Option A2×Nat×Nat} {xs:List e.T} (h:lW w0 w e s xs):Y0 w0.heap.size w e s xs:=h
theorem Y0.of {w0 w:A0} {e:El} {s:Option A2×Nat×Nat} {xs:List e.T} {n:Nat} (h:Y0 n w e s xs) (a:w0.heap.size<=n):lW w0 w e s xs:=by
 obtain⟨h1,b,c⟩:=h;refine⟨h1,?_⟩
 grind
def vI (n:Nat) (w:A0):A0:={w with heap:=w.heap.extract 0 n}
theorem iQ {n:Nat} {w:A0} (h:n<=w.heap.size):(vI n w).heap.size=n:=by grind[vI]
theorem qs {n:Nat} {w:A0} (h:n<=w.heap.size):Ext (vI n w) w:=by
 refine⟨rfl,rfl,rfl,?_,λk a=>?_⟩
 ·rw[iQ h];grind
 ·rw[iQ h] at a;show w.heap[k]? =(w.heap.extract 0 n)[k]?
  grind
theorem zZ {n:Nat} {w w':A0} (h:n<=w.heap.size) (k:Ext (vI n w) w') (hs:w.heap.size<=w'.heap.size):Below n w w':=
 ⟨k.os,k.tape,k.output,hs,λj a=>by
  have h1:=k.block (by rw[iQ h];exact a);have b:=(qs h).block (k:=j)
  grind⟩
end Go.RX
namespace Go.RowKit
open Go.RX
end Go.RowKit
namespace Go.RX
open Go.RowKit
structure Fr (G:List Nat) (w w':A0):Prop where
 os:w'.os=w.os
 tape:w'.tape=w.tape
 output:w'.output=w.output
 size:w.heap.size<=w'.heap.size
 block: ∀k,k<w.heap.size->k∉G->w'.heap[k]? =w.heap[k]?
theorem Fr.refl (G:List Nat) (w:A0):Fr G w w:=⟨rfl,rfl,rfl,by simp,λ_ _ _=>rfl⟩
theorem Fr.trans {G:List Nat} {a b c:A0} (h:Fr G a b) (k:Fr G b c):Fr G a c:=
 ⟨k.os.trans h.os,k.tape.trans h.tape,k.output.trans h.output,DE h.size k.size,λj d e=>(k.block j (HB d h.size) e).trans (h.block j d e)⟩
theorem Fr.u6 {G:List Nat} {w w':A0} (h:Ext w w'):Fr G w w':=⟨h.os,h.tape,h.output,h.size,λ_ a _=>h.block a⟩
theorem Fr.ext {w w':A0} (h:Fr [] w w'):Ext w w':=⟨h.os,h.tape,h.output,h.size,λk a=>h.block k a (by simp)⟩
theorem Fr.dj {G:List Nat} {w w':A0} (h:Fr G w w') {b:Nat} {l:List AF} (hb:b∉G) (k:bO w b l):bO w' b l:=k.same (h.block b k.lt hb)
theorem Fr.jZ {G:List Nat} {w0 w:A0} (h:Fr G w0 w) {a:A2} (l:w0.heap.size<=a.block\/a.block∈G) (vs:List AF):Fr G w0 (jZ w (some a) vs):=by
 have env: ∀(vs) (w) (i),(putAt w a vs i).os=w.os/\(putAt w a vs i).tape=w.tape/\(putAt w a vs i).output=w.output:=by
  intro vs
  induction vs with
  |nil=>intro w i;exact⟨rfl,rfl,rfl⟩
  |cons v r b=>
   intro w i;have:=b (w.setCell (a.add i) v) (i+1);exact this
 obtain⟨c,d,e⟩:=env vs w 0;refine⟨c.trans h.os,d.trans h.tape,e.trans h.output,?_,λk f g=>?_⟩
 ·show _<=(putAt w a vs 0).heap.size;rw[sr];exact h.size
 ·have j:k≠a.block:=by
   grind
  exact(m5 vs w a 0 k j).trans (h.block k f g)
structure aM (D G:List Nat) (w0 w:A0) (L:List (Nat×List AF)):Prop where
 fr:Fr G w0 w
 dj: ∀x∈L,bO w x.1 x.2
 own: ∀x∈L,w0.heap.size<=x.1\/x.1∈G
 nd:(L.map (·.1)).Nodup
 p9: ∀r∈D,w0.heap.size<=r/\w.heap[r]? =some (.deferred (some []))
abbrev At:=aM []
theorem At.start (G:List Nat) (w:A0):At G w w [] where
 fr:=Fr.refl G w
 dj:=λx=>by grind
 own:=λhx=>by grind
 nd:=FH
 p9:=λhx=>by grind
namespace aM
variable {D G:List Nat} {w0 w w1:A0} {L:List (Nat×List AF)}
theorem ext (H:aM D G w0 w L) (h:Ext w w1):aM D G w0 w1 L:=
 ⟨H.fr.trans (.u6 h),λx hx=>(H.dj x hx).ext h,H.own,H.nd,λr a=>⟨(H.p9 r a).1,h.obj (H.p9 r a).2⟩⟩
theorem all (H:aM D [] w0 w L):Ext w0 w:=H.fr.ext
theorem get (H:aM D G w0 w L) {i b:Nat} {l:List AF} (h:L[i]? =some (b,l)):bO w b l:=H.dj _ (FJ h)
theorem ne (H:aM D G w0 w L) {i j b c:Nat} {l m:List AF} (h:L[i]? =some (b,l)) (k:L[j]? =some (c,m)) (a:i≠j):b≠c:=by
 intro;have h1:(L.map (·.1))[i]? =some b:=by grind
 have d:(L.map (·.1))[j]? =some b:=by grind
 exact a ((I2 (by grind) H.nd).1 (h1.trans d.symm))
theorem alloc (H:aM D G w0 w L) (cs:List AF) (t:E4):aM D G w0 (w.alloc (.cells ⟨cs⟩ t)) ((w.heap.size,cs)::L):=by
 have a:=H.ext (Ext.alloc w (.cells ⟨cs⟩ t));refine⟨a.fr,λx hx=>?_,λx hx=>?_,?_,a.p9⟩
 ·rcases B4.1 hx with rfl|hx
  ·exact bO.new w cs t
  ·exact a.dj x hx
 ·rcases B4.1 hx with rfl|hx
  ·exact .inl H.fr.size
  ·exact a.own x hx
 ·refine BW.2 ⟨λb=>?_,H.nd⟩;obtain⟨x,hx,e⟩:=Ae.1 b;have:=(H.dj x hx).lt
  grind
theorem r_ (H:aM D G w0 w L) (o:AM):aM D G w0 (w.alloc o) L:=H.ext (Ext.alloc w o)
theorem dg {b r:Nat} {l:List AF} {o:AM} (h:bO w b l) (k:w.heap[r]? =some o) (c: ∀a t f,o≠ .cells a t f):b≠r:=by
 obtain⟨⟩:=h
 grind
theorem put (H:aM D G w0 w L) (i:Nat) {b o:Nat} {l:List AF} (h:L[i]? =some (b,l)) (vs:List AF) (k:o+vs.length<=l.length):
 aM D G w0 (jZ w (some ⟨b,o,none⟩) vs) (L.set i (b,l.take o++(vs++l.drop (o+vs.length)))):=by
 have hi:i<L.length:=(Bx.1 h).1;have d:=FJ h;refine⟨H.fr.jZ (H.own _ d) vs,λx hx=>?_,λx hx=>?_,?_,λr f=>⟨(H.p9 r f).1,?_⟩⟩
 ·obtain⟨j,a⟩:=Ft hx;by_cases e:i=j
  ·subst e;rw[F6 hi] at a;cases a;exact(H.get h).put vs k
  ·rw[Db e] at a;have c:x.1≠b:=λe'=>by
    exact H.ne a h (λm=>e m.symm) e'
   exact(H.dj x (by grind)).Xu c vs
 ·rcases Gd hx with hx|rfl
  ·exact H.own x hx
  ·exact H.own (b,l) d
 ·have:(L.set i (b,l.take o++(vs++l.drop (o+vs.length)))).map (·.1)=L.map (·.1):=by
   apply Fy;intro j
   grind
  rw[this];exact H.nd
 ·have g:=(H.p9 r f).2;have c:r≠b:=λe=>dg (H.get h) g (by grind) e.symm;rw[<-g];exact m5 vs w _ 0 r c
theorem fN (H:aM D G w0 w L) {b:Nat} {l:List AF} (h:bO w0 b l) (hb:b∉G):bO w b l:=H.fr.dj hb h
theorem sub (H:aM D G w0 w L) {L':List (Nat×List AF)} (h:L'.Sublist L):aM D G w0 w L':=
 ⟨H.fr,λx hx=>H.dj x (h.subset hx),λx hx=>H.own x (h.subset hx),(h.map _).nodup H.nd,H.p9⟩
theorem perm (H:aM D G w0 w L) {L':List (Nat×List AF)} (h:L'.Perm L):aM D G w0 w L':=
 ⟨H.fr,λx hx=>H.dj x (h.subset hx),λx hx=>H.own x (h.subset hx),(h.map _).nodup_iff.2 H.nd,H.p9⟩
theorem frame (H:aM D G w0 w L) {b:List Nat} {L':List (Nat×List AF)} (h:Fr b w w1) (i: ∀x∈b,w0.heap.size<=x\/x∈G) (d: ∀r∈D,r∉b) (hb: ∀x∈L',bO w1 x.1 x.2) (e: ∀x∈L',w0.heap.size<=x.1\/x.1∈G) (f:(L'.map (·.1)).Nodup):aM D G w0 w1 L':=
 ⟨⟨h.os.trans H.fr.os,h.tape.trans H.fr.tape,h.output.trans H.fr.output,DE H.fr.size h.size,λk c g=>(h.block k (HB c H.fr.size) (by grind)).trans (H.fr.block k c g)⟩,hb,e,f,λr a=>⟨(H.p9 r a).1,by rw[h.block r (Dq.1 (H.p9 r a).2).1 (d r a)];exact(H.p9 r a).2⟩⟩
theorem mod (H:aM D G w0 w L) (i:Nat) {b:Nat} {l l':List AF} (a:L[i]? =some (b,l)) (h:Fr [b] w w1) (hb:bO w1 b l'):aM D G w0 w1 (L.set i (b,l')):=by
 have c:=FJ a;refine H.frame h (λx hx=>by rw[Dh.1 hx];exact H.own (b,l) c) (λr g hx=>?_) (λx hx=>?_) (λx hx=>?_) ?_
 ·rw[Dh] at hx;exact dg (H.get a) (H.p9 r g).2 (by grind) hx.symm
 ·obtain⟨j,d⟩:=Ft hx;by_cases e:i=j
  grind
  ·rw[Db e] at d;obtain⟨f,k⟩:=x;have n:f≠b:=H.ne d a (λm=>e m.symm);exact h.dj (by grind) (H.dj (f,k) (by grind))
 ·rcases Gd hx with hx|rfl
  ·exact H.own x hx
  ·exact H.own (b,l) c
 ·have:(L.set i (b,l')).map (·.1)=L.map (·.1):=by
   apply Fy;intro j
   grind
  rw[this];exact H.nd
theorem again (H:aM D G w0 w L):At (L.map (·.1)) w w L where
 fr:=Fr.refl _ w
 dj:=H.dj
 own:=λx hx=> .inr (by grind)
 nd:=H.nd
 p9:=λhx=>by grind
theorem join {a:List Nat} {L':List (Nat×List AF)} (H:aM D G w0 w L) (c: ∀x∈a,x∈L.map (·.1)) (K:At a w w1 L'):aM D G w0 w1 L':=by
 have d: ∀x∈a,w0.heap.size<=x\/x∈G:=λx hx=>by
  obtain⟨y,b,e⟩:=Ae.1 (c x hx);rw[<-e];exact H.own y b
 refine H.frame K.fr d (λr f hx=>?_) K.dj (λx hx=>?_) K.nd
 ·obtain⟨y,b,e⟩:=Ae.1 (c r hx);exact dg (H.dj y b) (H.p9 r f).2 (by grind) e
 ·rcases K.own x hx with h1|h1
  ·exact .inl (DE H.fr.size h1)
  grind
theorem putObj (H:aM D G w0 w L) {l:Nat} (g:w0.heap.size<=l) {o o':AM} (c:w.heap[l]? =some o) (hc: ∀a t f,o≠ .cells a t f) (h:l∉D):aM D G w0 (w.putObj l o') L:=by
 refine⟨⟨H.fr.os,H.fr.tape,H.fr.output,by rw[putObj_size];grind,λk d e=>?_⟩,λx hx=>(H.dj x hx).putObj (dg (H.dj x hx) c hc) _,H.own,H.nd,λr b=>⟨(H.p9 r b).1,?_⟩⟩
 ·rw[fG (by omega)];exact H.fr.block k d e
 ·rw[fG (by grind)];exact(H.p9 r b).2
end aM
def ly (l:List AF) (o:Nat):(el:El)->Option el.T
 | .one s=>match l[o]? with
   |some v=>s.proj v
   |none=>none
 | .agg ss=>mj ss ((l.drop o).take ss.length)
theorem dV {w:A0} {b o:Nat} {l:List AF} (h:bO w b l) {el:El} {x:el.T} (hx:ly l o el=some x):cU w (some ⟨b,o,none⟩) el x:=by
 cases el with
 |one=>
  simp[ly] at hx;split at hx
  ·rename_i hv;exact h.oF (by rw[hv,Sc.iG hx])
  grind
 |agg=>
  have e:=pP hx;refine h.rdA λhi=>?_
  grind
theorem aj.of {w:A0} {g:Option Bool} {p:Option A2} {el:El} {K:el.T->Prop} (x:el.T) (h:cU w p el x) (k:K x):aj w g p el K:=
 ⟨x,by cases g<;>first|exact h|exact λ_=>h,k⟩
theorem aB {b:Bool} {x y:Prop} (e:b=true) (h:x):aG b x y:=by grind[ab]
theorem an {b:Bool} {x y:Prop} (e:b=false) (h:y):aG b x y:=by grind[ab]
section
variable {D G:List Nat} {w0 w:A0} {L:List (Nat×List AF)}
theorem aj.at (i:Nat) (H:aM D G w0 w L) {g:Option Bool} {el:El} {K:el.T->Prop} {b o:Nat} {l:List AF} {x:el.T} (a:L[i]? =some (b,l)) (hv:ly l o el=some x) (k:K x):aj w g (some ⟨b,o,none⟩) el K:=
 .of x (dV (H.get a) hv) k
theorem aj.cw (i:Nat) (H:aM D G w0 w L) {g:Option Bool} {el:El} {K:el.T->Prop} {b o n:Nat} {l:List AF} {x:el.T} (a:L[i]? =some (b,l)) (hv:ly l (o+n) el=some x) (k:K x):aj w g (ad (some ⟨b,o,none⟩) n) el K:=by
 rw[aY];exact .at i H a hv k
theorem aN.go (H:aM D G w0 w L) {cs:List AF} {e:E4} {K:Nat->A0->Prop} (k: ∀b w1,aM D G w0 w1 ((b,cs)::L)->K b w1):aN w ⟨cs⟩ e K:=
 λ_ h=>k _ _ ((H.ext h).alloc cs e)
theorem aC.at (i:Nat) (H:aM D G w0 w L) {b o:Nat} {l vs:List AF} {K:A0->Prop} (a:L[i]? =some (b,l)) (d:vs.all (·.oneCell')=true) (c:o+vs.length<=l.length)
 (k: ∀w1,aM D G w0 w1 (L.set i (b,l.take o++(vs++l.drop (o+vs.length))))->K w1):aC w (some ⟨b,o,none⟩) vs K:=
 λ_ h=>⟨⟨d,((H.ext h).get a).st c⟩,k _ ((H.ext h).put i a vs c)⟩
theorem aC.all (i:Nat) (H:aM D G w0 w L) {b:Nat} {l vs:List AF} {K:A0->Prop} (a:L[i]? =some (b,l)) (c:vs.all (·.oneCell')=true) (d:vs.length=l.length)
 (k: ∀w1,aM D G w0 w1 (L.set i (b,vs))->K w1):aC w (some ⟨b,0,none⟩) vs K:=by
 refine aC.at i H a c (by omega) λw1 h1=>k w1 ?_
 grind
theorem aC.one (i:Nat) (H:aM D G w0 w L) {b o:Nat} {l:List AF} {x:AF} {K:A0->Prop} (c:L[i]? =some (b,l)) (d:x.oneCell'=true) (a:Nat.blt o l.length=true)
 (k: ∀w1,aM D G w0 w1 (L.set i (b,l.set o x))->K w1):aC w (some ⟨b,o,none⟩) [x] K:=by
 have a:o<l.length:=by simp_all
 refine aC.at i H c (by grind) (by grind) λw1 h1=>k w1 ?_;rw[show l.set o x=l.take o++([x]++l.drop (o+[x].length)) from by simp[Kd,a]]
 grind
theorem aC.gP (i:Nat) (H:aM D G w0 w L) {b o n:Nat} {l:List AF} {x:AF} {K:A0->Prop} (a:L[i]? =some (b,l)) (c:x.oneCell'=true) (d:Nat.blt (o+n) l.length=true)
 (k: ∀w1,aM D G w0 w1 (L.set i (b,l.set (o+n) x))->K w1):aC w (ad (some ⟨b,o,none⟩) n) [x] K:=by
 rw[aY];exact aC.one i H a c d k
theorem au.go (H:aM D G w0 w L) {K:A0->Prop} (k: ∀w1,aM D G w0 w1 L->K w1):au w K:=λ_ h=>k _ (H.ext h)
theorem aA.go (H:aM D G w0 w L) {P:DA} {f:DV} {s:Sh} {args:List AF} {K:s.T->A0->Prop} (k: ∀w1,aM D G w0 w1 L->aE P f s args w1 K):aA P f s args w K:=λ_ h=>k _ (H.ext h)
end
open Go.RowKit
variable {D G:List Nat} {w0 wb w w' w1:A0} {L Lb:List (Nat×List AF)}
theorem aM.then (a:aM D G w0 wb L) (H:At [] wb w Lb):aM D G w0 w L:=a.ext H.all
theorem aM.below (H:aM D G w0 w []) (h:Below w0.heap.size w w') (hs:w.heap.size<=w'.heap.size) (c:D=[]):aM D G w0 w' [] where
 fr:=⟨h.os.trans H.fr.os,h.tape.trans H.fr.tape,h.output.trans H.fr.output,DE H.fr.size hs,λk a b=>(h.block k a).trans (H.fr.block k a b)⟩
 dj:=λhx=>by grind
 own:=λhx=>by grind
 nd:=FH
 p9:=λhx=>by grind
theorem At.abj (i:Nat) (c:At G w0 wb []) {e:El} {s:Option A2×Nat×Nat} {xs:List e.T} (d:lW w0 wb e s xs) (H:At [] wb w Lb)
 {b:Nat} {l:List AF} (x:e.T) (f:Lb[i]? =some (b,l)) (g:l=cellsOf e x) (h:im e=true) {t:E4} {size bytes:Nat} {z:Array AF} (j:size=aD e) (m:z.size=aD e) (hb:(xs.length+1)*bytes<=140737488355328)
 {R:Option A2×Nat×Nat->A0->Prop} (k: ∀s' w',At G w0 w' []->lW w0 w' e s' (xs++[x])->R s' w'):
 mJ w t size bytes z s (some ⟨b,0,none⟩,1,1) R:=by
 subst j;subst g;have a:=DE c.fr.size H.fr.size;have n:=(d.ext H.all).toN.of (Nat.le_of_eq (iQ a));refine lQ (ys:=[x]) n (qs a) h rfl ?_ m hb λs' w' o p _ hs _=>k s' w' ((c.then H).below (zZ a p hs) hs rfl) ?_
 ·refine(H.get f).oP (aF e _) λq=>?_;simp[flat]
 ·have:=o.toN;rw[iQ a] at this;exact this
theorem aj.fN (H:aM D G w0 w L) {b o:Nat} {l:List AF} (h:bO w0 b l) (hb:b∉G) {g:Option Bool} {el:El} {K:el.T->Prop} {x:el.T} (hv:ly l o el=some x) (k:K x):aj w g (some ⟨b,o,none⟩) el K:=
 .of x (dV (H.fN h hb) hv) k
theorem aj.lz (H:aM D G w0 w L) {b o n:Nat} {l:List AF} (h:bO w0 b l) (hb:b∉G) {g:Option Bool} {el:El} {K:el.T->Prop} {x:el.T} (hv:ly l (o+n) el=some x) (k:K x):aj w g (ad (some ⟨b,o,none⟩) n) el K:=by
 rw[aY];exact .fN H h hb hv k
theorem lW.start (w0 w:A0) (e:El):lW w0 w e (none,0,0) []:=lW.nil w0 w e
theorem aM.more (H:aM D G w0 w L) (h:Ext w w') {b:Nat} {l:List AF} (hb:w.heap.size<=b) (k:bO w' b l):aM D G w0 w' ((b,l)::L):=by
 have a:=H.ext h;refine⟨a.fr,λx hx=>?_,λx hx=>?_,?_,a.p9⟩
 ·rcases B4.1 hx with rfl|hx
  ·grind
  ·exact a.dj x hx
 ·rcases B4.1 hx with rfl|hx
  ·exact .inl (DE H.fr.size hb)
  ·exact a.own x hx
 ·refine BW.2 ⟨λc=>?_,H.nd⟩;obtain⟨x,hx,e⟩:=Ae.1 c;have:=(H.dj x hx).lt
  grind
theorem aM.got (H:aM D G w0 w L) (h:Ext w w') {e:El} {r:Option A2×Nat×Nat} {xs:List e.T} (a:lW w w' e r xs) (hx:xs≠[]):
 ∃b c rest,r=(some ⟨b,0,none⟩,xs.length,c)/\aM D G w0 w' ((b,flat e xs++rest)::L):=by
 obtain⟨h1,i,d⟩:=a;obtain⟨p,n,c⟩:=r;rcases d with ⟨⟩|⟨b,l,a1,f,j, _,g⟩
 grind
 ·subst a1;subst h1;refine⟨b,c,l.drop (xs.length*aD e),rfl,H.more h f ?_⟩;have el:l=flat e xs++l.drop (xs.length*aD e):=by rw[<-g,Ds]
  grind
theorem kq {α:Sort _} {e:α} {K:α->Prop} (k:K e): ∀x,x=e->K x:=by grind
def Uj (P:DA) (c:DV) (args:Nat->List AF) (n:Nat) (b:Nat->Option (List AF)) (St:A0->Prop):Prop:=
 ∀(y:Nat) (w:A0) (J:Nat->A0->Prop) (a:A0->Prop),
  (∀i w w',J i w->Ext w w'->J i w')->(∀w w',a w->Ext w w'->a w')->(∀i w,J i w->St w)->
  (∀i,i<n->b i=none-> ∀w,J i w->J (i+1) w)->
  (∀i v,i<n->b i=some v-> ∀w (R:Bool->A0->Prop),J i w->(∀w',J (i+1) w'->R true w')->(∀w',a w'->R false w')->mC P y v w R)->
  J 0 w->Calls P c ⟨args y⟩ w (λe w'=> ∃v,e= .returned v/\(J n w'\/a w'))
section
variable {D G:List Nat} {w0 w:A0} {L:List (Nat×List AF)}
def xY (D G:List Nat) (w0 w:A0) (L:List (Nat×List AF)) (l:Nat) (rec:Loop):Prop:=w0.heap.size<=l/\aM D G w0 w L/\cX w l rec .ready none
def Bsy (D G:List Nat) (w0 w:A0) (L:List (Nat×List AF)) (l:Nat) (rec:Loop):Prop:=w0.heap.size<=l/\aM D G w0 w L/\cX w l rec .busy none
def X9 (D G:List Nat) (w0 w:A0) (L:List (Nat×List AF)) (l:Nat) (rec:Loop) (j:Code):Prop:=w0.heap.size<=l/\aM D G w0 w L/\cX w l rec .done (some j)
theorem sv {l:Nat} {rec:Loop} {st:LoopState} {b:Option Code} (H:aM D G w0 w L) (h:cX w l rec st b):l∉D/\l∉L.map (·.1):=by
 refine⟨λa=>?_,λa=>?_⟩
 ·have:=(H.p9 l a).2;rw[h] at this
  grind
 ·obtain⟨x,hx,e⟩:=Ae.1 a;exact aM.dg (H.dj x hx) h (by grind) e
theorem aM.s8 {l:Nat} {rec:Loop} {st:LoopState} {a:Option Code} (H:aM D G w0 w L) (b:w0.heap.size<=l) (h:cX w l rec st a) (c:LoopState) (d:Option Code):aM D G w0 (RX.s8 w l rec c d) L:=
 H.putObj b h (by grind) (sv H h).1
theorem Dl.go {l n m:Nat} {rec:Loop} {K:Prop} (h:xY D G w0 w L l rec) (a:n=m) (k:K):Dl l rec n m w K:=⟨⟨none,h.2.2⟩,a,k⟩
theorem BZ.go {l:Nat} {rec:Loop} {K:A0->Prop} (h:xY D G w0 w L l rec) (k: ∀wb,At (L.map (·.1)) wb wb L->Bsy D G w0 wb L l rec->K wb):BZ l rec w K:=λg b=>by
 obtain⟨c,H,e⟩:=h;have f:=H.ext b;have a:=e.ext b;have d:=f.s8 c a .busy none;exact⟨none,a,k _ d.again ⟨c,d,a.put _ _⟩⟩
theorem sT.go {l:Nat} {rec:Loop} {j:Option Code} {wb d:A0} {L':List (Nat×List AF)} {R:Bool->A0->Prop} (h:Bsy D G w0 wb L l rec) (e:At (L.map (·.1)) wb d L')
 (k: ∀a,w0.heap.size<=l->aM D G w0 a L'->cX a l rec (if j.isNone then .ready else .done) j->R j.isNone a):sT l rec j d R:=λa f=>by
 obtain⟨g,H,b⟩:=h;have i:=(H.join (λx hx=>hx) e).ext f;have m:=b.same (e.fr.block l b.lt (sv H b).2);have c:=m.ext f;exact⟨.busy,none,c,k _ g (i.s8 g c _ _) (c.put _ _)⟩
theorem sT.next {l:Nat} {rec:Loop} {wb e:A0} {L':List (Nat×List AF)} {R:Bool->A0->Prop} (h:Bsy D G w0 wb L l rec) (f:At (L.map (·.1)) wb e L') (k: ∀d,xY D G w0 d L' l rec->R true d):sT l rec none e R:=
 sT.go h f λd a b c=>k d ⟨a,b,c⟩
theorem sT.left {l:Nat} {rec:Loop} {j:Code} {wb e:A0} {L':List (Nat×List AF)} {R:Bool->A0->Prop} (h:Bsy D G w0 wb L l rec) (f:At (L.map (·.1)) wb e L') (k: ∀d,X9 D G w0 d L' l rec j->R false d):sT l rec (some j) e R:=
 sT.go h f λd a b c=>k d ⟨a,b,c⟩
theorem dz.none {l:Nat} {rec:Loop} {Kn Kr:A0->Prop} {Kx:Nat->A0->Prop} (h:xY D G w0 w L l rec) (k: ∀a,aM D G w0 a L->Kn a):dz l rec w Kn Kx Kr:=
 ⟨.ready,.none,h.2.2,by simp,k _ (h.2.1.s8 h.1 h.2.2 _ _)⟩
theorem dz.ret {l:Nat} {rec:Loop} {Kn Kr:A0->Prop} {Kx:Nat->A0->Prop} (h:X9 D G w0 w L l rec .ret) (k: ∀a,aM D G w0 a L->Kr a):dz l rec w Kn Kx Kr:=
 ⟨.done,.some _,h.2.2,by simp,k _ (h.2.1.s8 h.1 h.2.2 _ _)⟩
theorem vW: ∀(m:Nat) (z:List AF) (i:Nat),i<m*z.length->(FS m z).flatten[i]? =z[i % z.length]?
 |0,z,i,h=>by grind
 |m+1,z,i,h=>by
  rw[List.replicate_succ,List.flatten_cons];by_cases hi:i<z.length
  ·rw[Gi hi,OD hi]
  ·rw[Kh (by omega),vW m z _ (by grind), <-Nat.mod_eq_sub_mod (by omega)]
theorem G7 (m:Nat) (z:List AF):nO ⟨z⟩ (m*z.length)=⟨(FS m z).flatten⟩:=by
 have a:(FS m z).flatten.length=m*z.length:=by simp
 apply J9;apply Fy;intro i;unfold nO;by_cases i<m*z.length
 ·grind[vW]
 grind
theorem NV.go (H:aM D G w0 w L) {bytes size:Nat} {n m:Int} {z:List AF} {e:E4} {K:Nat->A0->Prop} (a:size=z.length) (h0:0<=n) (h1:n<=m) (c:m<4611686018427387904) (d:bytes*m<=281474976710656)
 (k: ∀b w1,aM D G w0 w1 ((b,(FS m.toNat z).flatten)::L)->K b w1):NV w bytes size n m ⟨z⟩ e K:=λw1 h=>by
 refine⟨⟨h0,by omega⟩,?_⟩;rw[a,G7];exact k _ _ ((H.ext h).alloc _ e)
theorem lT (e:El) (x:e.T) (m:Nat):flat e (FS m x)=(FS m (cellsOf e x)).flatten:=by
 simp[flat,List.flatMap_replicate]
theorem mJ.copy (H:aM D G w0 w L) {e:El} {ys:List e.T} {b n c:Nat} {l:List AF} (hb:bO w b l) (o:l.take (ys.length*aD e)=flat e ys) (d:n=ys.length) (p:ys≠[]) (f:im e=true) {t:E4} {size bytes:Nat} {z:Array AF} (g:size=aD e) (h:z.size=aD e) (q:ys.length*bytes<=140737488355328)
 {R:Option A2×Nat×Nat->A0->Prop} (k: ∀a i rest w',aM D G w0 w' ((a,flat e ys++rest)::L)->R (some ⟨a,0,none⟩,n,i) w'):
 mJ w t size bytes z (none,0,0) (some ⟨b,0,none⟩,n,c) R:=by
 subst g;subst d;refine lQ (lW.nil w w e) (Ext.refl w) f rfl ?_ h (by grind) λs' w' j m _=>?_
 ·refine hb.oP (aF e ys) λhi=>?_
  grind
 ·obtain:=H.got m j
  grind
theorem sU.go {r:Nat} {K:A0->Prop} (H:aM [r] G w0 w L) (k: ∀w1,At G w0 w1 L->K w1):sU [r] w K:=λw1 h=>by
 have a:=H.ext h;have b:=a.p9 r (by simp);refine⟨⟨b.2,trivial⟩,k _ ?_⟩;have c:At G w0 w1 L:=⟨a.fr,a.dj,a.own,a.nd,by simp⟩;exact c.putObj b.1 b.2 (by grind) (by simp)
theorem z7.inv {P:DA} {p:DV} {args:Nat->List AF} {ps:Array Nat} {T:Type} {g:T->List AF} {q:Nat->Loop->T->A0->(Bool->A0->Prop)->Prop} {m:Nat->Loop->A0->Prop} (H:aM D G w0 w L)
 {n:Nat} {f:Nat->Option (List AF)} {St:A0->Prop} (u:Uj P p args n f St) (Inv:Nat->List (Nat×List AF)->Prop) (Q:Code->List (Nat×List AF)->Prop) (h0:Inv 0 L)
 (y: ∀z i w' L',Inv i L'->aM z G w0 w' L'->St w') (J: ∀i L',i<n->f i=none->Inv i L'->Inv (i+1) L') (K: ∀i v,i<n->f i=some v-> ∃x,v=g x)
 (M: ∀i x L',i<n->f i=some (g x)->Inv i L'-> ∀r l rec s (R:Bool->A0->Prop),xY (r::D) G w0 s L' l rec->(∀c w',Inv (i+1) c->xY (r::D) G w0 w' c l rec->R true w')->(∀j c w',Q j c->X9 (r::D) G w0 w' c l rec j->R false w')->q l rec x s R)
 (N: ∀L' r rec d,Inv n L'->xY (r::D) G w0 d L' (r+1) rec->m r rec d) (O: ∀j L' r rec d,Q j L'->X9 (r::D) G w0 d L' (r+1) rec j->m r rec d):z7 P p args ps w g q m:=by
 intro w1 h1 rec _ _ A B S;have t:=H.ext h1;have sz:(w1.alloc (.deferred (some []))).heap.size=w1.heap.size+1:=lP _ _;have C:rec={rec with state:= .ready,pending:= .none}:=by rw[<-A, <-B]
 have E:w0.heap.size<=w1.heap.size:=t.fr.size;have F:xY (w1.heap.size::D) G w0 ((w1.alloc (.deferred (some []))).alloc (.loop rec)) L (w1.heap.size+1) rec:=by
  refine⟨by omega,?_,?_⟩
  ·have e:=(t.r_ (.deferred (some []))).r_ (.loop rec);refine⟨e.fr,e.dj,e.own,e.nd,λr o=>?_⟩;rcases B4.1 o with rfl|o
   ·exact⟨E,(Ext.alloc _ _).obj (ft w1 _)⟩
   ·exact e.p9 r o
  ·have:=ft (w1.alloc (.deferred (some []))) (.loop rec);rw[sz] at this;unfold cX;rw[this,C]
 refine Calls.mono (u _ _ (λi w'=> ∃L',Inv i L'/\xY (w1.heap.size::D) G w0 w' L' _ rec) (λw'=> ∃j L',Q j L'/\X9 (w1.heap.size::D) G w0 w' L' (w1.heap.size+1) rec j) ?_ ?_ ?_ ?_ ?_ ⟨L,h0,F⟩) ?_
 ·exact λi a b ⟨L',hi,h⟩ k=>⟨L',hi,h.1,h.2.1.ext k,h.2.2.ext k⟩
 ·exact λa b ⟨j,L',I,h⟩ k=>⟨j,L',I,h.1,h.2.1.ext k,h.2.2.ext k⟩
 ·exact λi a ⟨L',hi,h⟩=>y _ i a L' hi h.2.1
 ·grind
 grind
 grind
theorem z7.go {P:DA} {e:DV} {args:Nat->List AF} {ps:Array Nat} {T:Type} {c:T->List AF} {f:Nat->Loop->T->A0->(Bool->A0->Prop)->Prop} {d:Nat->Loop->A0->Prop} (H:aM D G w0 w L)
 {n:Nat} {b:Nat->Option (List AF)} {St:A0->Prop} (h:Uj P e args n b St) (Ls:Nat->List (Nat×List AF)) (Q:Code->List (Nat×List AF)->Prop) (h0:Ls 0=L)
 (p: ∀k i w',aM k G w0 w' (Ls i)->St w') (q: ∀i,i<n->b i=none->Ls (i+1)=Ls i) (m: ∀i v,i<n->b i=some v-> ∃x,v=c x)
 (s: ∀i x,i<n->b i=some (c x)-> ∀r l rec g (R:Bool->A0->Prop),xY (r::D) G w0 g (Ls i) l rec->(∀w',xY (r::D) G w0 w' (Ls (i+1)) l rec->R true w')->(∀j L' w',Q j L'->X9 (r::D) G w0 w' L' l rec j->R false w')->f l rec x g R)
 (t: ∀r rec a,xY (r::D) G w0 a (Ls n) (r+1) rec->d r rec a) (o: ∀j L' r rec a,Q j L'->X9 (r::D) G w0 a L' (r+1) rec j->d r rec a):z7 P e args ps w c f d:=
 z7.inv H h (λi L'=>L'=Ls i) Q h0.symm (by grind) (by grind) m
  (by grind) (by grind) o
theorem aM.abk (H:aM D G w0 w L) {b:Nat} (hb:b<w0.heap.size) (c:b∉G):b∉L.map (·.1):=λa=>by
 obtain⟨x,hx,e⟩:=Ae.1 a;rcases H.own x hx
 grind
 grind
theorem aM.c_ {wb w1:A0} {L':List (Nat×List AF)} (H:aM D G w0 wb L) (K:At (L.map (·.1)) wb w1 L') {b:Nat} {l:List AF} (h:bO w0 b l) (a:b∉G):bO w1 b l:=
 K.fN (H.fN h a) (H.abk h.lt a)
theorem At.sa {b:Nat} {l:List AF} (h:bO w b l):At [b] w w [(b,l)] where
 fr:=Fr.refl _ w
 dj:=λhx=>by grind
 own:=λx hx=> .inr (by grind)
 nd:=by simp
 p9:=λhx=>by grind
theorem fV {w:A0} {b:Nat} {e:El} {xs:List e.T} {rest:List AF} (h:bO w b (flat e xs++rest)) {i:Nat} {x:e.T} (hx:xs[i]? =some x):cU w (ad (some ⟨b,0,none⟩) (i*aD e)) e x:=
 (Sl.jN h (by simp[aF]) i x hx).2
theorem yY (e:El): ∀(xs:List e.T) (i:Nat) (y:e.T) (rest:List AF),i<xs.length->(flat e xs++rest).take (i*aD e)++(cellsOf e y++(flat e xs++rest).drop (i*aD e+(cellsOf e y).length))=flat e (xs.set i y)++rest
 |x::xs,0,y,rest, _=>by
  simp[flat];rw[du, <-du,List.drop_left]
 |x::xs,i+1,y,rest,h=>by
  have a:=yY e xs i y rest (by grind);have b:(i+1)*aD e=(cellsOf e x).length+i*aD e:=by rw[du,J4];omega
  simp[flat] at a ⊢;rw[b,List.take_length_add_append,F8,Nat.add_assoc,Ko,a]
theorem aC.flat (j:Nat) (H:aM D G w0 w L) {b i:Nat} {e:El} {xs:List e.T} {rest vs:List AF} (y:e.T) {K:A0->Prop} (a:L[j]? =some (b,RX.flat e xs++rest)) (hv:vs=cellsOf e y) (c:im e=true) (hi:i<xs.length)
 (k: ∀w1,aM D G w0 w1 (L.set j (b,RX.flat e (xs.set i y)++rest))->K w1):aC w (ad (some ⟨b,0,none⟩) (i*aD e)) vs K:=by
 rw[aY,Ct];subst hv;refine aC.at j H a ?_ ?_ λw1 h1=>k w1 ?_
 ·have:=jV e [y] c;simpa[RX.flat]
 ·rw[du,DB,aF];have:(i+1)*aD e<=xs.length*aD e:=GJ _ hi
  grind
 ·rw[yY e xs i y rest hi] at h1;grind
theorem aA.Dz (H:aM D G w0 w L) (j:Nat) {b:Nat} {l l':List AF} (c:L[j]? =some (b,l)) {P:DA} {f:DV} {s:Sh} {args:List AF} {v:s.T} {K:s.T->A0->Prop}
 (hc: ∀w1,aM D G w0 w1 L->aE P f s args w1 (λx w'=>x=v/\bO w' b l'/\Fr [b] w1 w')) (k: ∀a,aM D G w0 a (L.set j (b,l'))->K v a):aA P f s args w K:=λw1 h=>
 (hc w1 (H.ext h)).mono λx a ⟨hx,hb,d⟩=>by subst hx;exact k a ((H.ext h).mod j c d hb)
theorem aA.val (H:aM D G w0 w L) {P:DA} {f:DV} {s:Sh} {args:List AF} (v:s.T) {K:s.T->A0->Prop}
 (hc: ∀w1,aM D G w0 w1 L->aE P f s args w1 (λx w'=>x=v/\Ext w1 w')) (k: ∀a,aM D G w0 a L->K v a):aA P f s args w K:=λw1 h=>
 (hc w1 (H.ext h)).mono λx a ⟨hx,b⟩=>by subst hx;exact k a ((H.ext h).ext b)
theorem af.of {P:DA} {f:DV} {s:Sh} {args:List AF} {v:s.T} (h: ∀w',Ext w w'->aE P f s args w' (λx a=>x=v/\Ext w' a)):af P f args w (s.iu v):=
 λw' b=>bY (h w' b)
theorem aM.grow {e:El} {s:Option A2×Nat×Nat} {xs:List e.T} {x:e.T} {b:Nat} {Ls L0:List (Nat×List AF)} (H:aM D G w0 w ((b,cellsOf e x)::(Ls++L0)))
 (hs:(s=(none,0,0)/\xs=[]/\Ls=[])\/ ∃bs c rest,s=(some ⟨bs,0,none⟩,xs.length,c)/\Ls=[(bs,flat e xs++rest)]/\(flat e xs++rest).length=c*aD e/\xs.length<=c)
 (P:im e=true) {t:E4} {size bytes:Nat} {z:Array AF} (q:size=aD e) (Q:z.size=aD e) (hb:(xs.length+1)*bytes<=140737488355328)
 {R:Option A2×Nat×Nat->A0->Prop} (k: ∀bs c rest w',(flat e (xs++[x])++rest).length=c*aD e->xs.length+1<=c->aM D G w0 w' ((bs,flat e (xs++[x])++rest)::L0)->R (some ⟨bs,0,none⟩,xs.length+1,c) w'):
 mJ w t size bytes z s (some ⟨b,0,none⟩,1,1) R:=by
 subst q;have S:(vI 0 w).heap.size=0:=iQ (GD _);have U:lW (vI 0 w) w e s xs:=by
  rcases hs with ⟨rfl,rfl, _⟩|⟨bs,c,rest,rfl,rfl,h1,m⟩
  ·exact lW.nil _ _ _
  ·refine⟨rfl,m,.inr ⟨bs, _,rfl,by rw[S];exact GD _,H.get (i:=1) rfl,h1,?_⟩⟩;rw[IB (by rw[aF];exact Do _),IP (by rw[aF];exact Do _)]
 have V:bO w b (cellsOf e x):=H.get (i:=0) rfl;refine lQ (ys:=[x]) U (qs (GD _)) P rfl ?_ Q hb λs' w' W g F q I=>?_
 ·refine V.oP (aF e [x]) λj hj=>?_;simp[flat]
 ·obtain⟨p,n,c⟩:=s';obtain⟨h1,m,J⟩:=W;simp only at h1 m J I;have X:(xs++[x]).length=xs.length+1:=by simp
  rcases J with ⟨_,hx, _⟩|⟨bs,l,a1, _,Y,Z,a5⟩
  ·simp at hx
  ·subst a1;rw[X] at h1 m;subst h1;have el:l=flat e (xs++[x])++l.drop ((xs++[x]).length*aD e):=by rw[<-a5,Ds]
   refine k bs c (l.drop ((xs++[x]).length*aD e)) w' (by rw[<-el];exact Z) m ?_;rw[<-el];have hG': ∃A,Fr A w w'/\(∀y∈A,y∈Ls.map (·.1)):=by
    rcases hs with ⟨rfl, _,rfl⟩|⟨bo,co,K,rfl,rfl, _, _⟩
    ·exact⟨[],⟨g.os,g.tape,g.output,q,λy d _=>F y d (λa B=>by cases B)⟩,λy d=>by cases d⟩
    ·exact⟨[bo],⟨g.os,g.tape,g.output,q,λy d hn=>F y d (λa B=>by cases B;simpa using hn)⟩,λy d=>by simpa using d⟩
   obtain⟨A,L,M⟩:=hG';have C:=H.nd;simp only[Cg,FB,BW,Gj,FV] at C;have N: ∀y∈Ls.map (·.1),w0.heap.size<=y\/y∈G:=λy d=>by
    obtain⟨u,o,rfl⟩:=Ae.1 d;exact H.own u (Bs _ (Dk _ o))
   have O:bs∈Ls.map (·.1)\/w.heap.size<=bs:=by
    rcases I with ⟨a,f,v⟩|⟨a,f,v⟩|f
    ·cases f;rcases hs with ⟨rfl, _, _⟩|⟨bo,co,K,rfl,rfl, _, _⟩
     ·cases v
     ·cases v;exact .inl (by simp)
    ·cases f;exact .inr v
    ·rcases hs with ⟨rfl, _, _⟩|⟨bo,co,K,rfl,rfl, _, _⟩
     ·cases f
     grind
   refine H.frame L (λy d=>N y (M y d)) (λr hr d=>?_) (λy d=>?_) (λy d=>?_) ?_
   ·obtain⟨u,o,f⟩:=Ae.1 (M r d);exact aM.dg (H.dj u (Bs _ (Dk _ o))) (H.p9 r hr).2 (λ_ _ _ hc=>by cases hc) f
   ·rcases B4.1 d with rfl|d
    ·exact Y
    ·refine L.dj (λE=>?_) (H.dj y (Bs _ (Dn _ d)))
     grind
   ·rcases B4.1 d with rfl|d
    ·rcases O with h|h
     ·exact N _ h
     ·exact .inl (DE H.fr.size h)
    ·exact H.own y (Bs _ (Dn _ d))
   ·refine BW.2 ⟨λE=>?_,C.2.2.1⟩;rcases O with h|h
    ·exact C.2.2.2 bs h bs E rfl
    ·obtain⟨u,o,f⟩:=Ae.1 E;have:=(H.dj u (Bs _ (Dn _ o))).lt;simp only at f h;omega
def oq (e:El) (rows:List (Nat×List AF)) (r:Option A2×Nat×Nat) (xs:List e.T):Prop:=
 r.2.1=xs.length/\((xs=[]/\rows=[])\/ ∃b rest,r.1=some ⟨b,0,none⟩/\rows=[(b,RX.flat e xs++rest)])
theorem aM.ach {w':A0} (H:aM D G w0 w L) (h:Ext w w') {e:El} {r:Option A2×Nat×Nat} {xs:List e.T} (a:lW w w' e r xs): ∃rows,aM D G w0 w' (L++rows)/\oq e rows r xs:=by
 by_cases hx:xs=[]
 ·exact⟨[],by rw[Ks];exact H.ext h,a.len,by grind⟩
 ·obtain⟨b,c,rest,rfl,d⟩:=H.got h a hx;exact⟨[(b,RX.flat e xs++rest)],d.perm (LL _ _),rfl,by simp⟩
theorem oq.sl {e:El} {rows:List (Nat×List AF)} {r:Option A2×Nat×Nat} {xs:List e.T} (h:oq e rows r xs) (H:aM D G w0 w L) (a: ∀x∈rows,x∈L):Sl w e r.1 xs:=by
 rcases h.2 with ⟨rfl, _⟩|⟨b,rest,h1,rfl⟩
 ·intro;grind
 ·rw[h1];refine Sl.jN (H.dj _ (a _ (Dh.2 rfl))) ?_;rw[IB (by rw[aF];simp),IP (by rw[aF];simp)]
theorem aA.Y1 (H:aM D G w0 w L) {P:DA} {f:DV} {args:List AF} {e:El} {xs:List e.T} {K:(Option A2×Nat×Nat)->A0->Prop}
 (hc: ∀w',aM D G w0 w' L->aE P f (.el (.one .slice)) args w' (λr a=>lW w' a e r xs/\Ext w' a)) (k: ∀r rows w1,aM D G w0 w1 (L++rows)->oq e rows r xs->K r w1):
 aA P f (.el (.one .slice)) args w K:=λw1 h=>(hc w1 (H.ext h)).mono λx d ⟨b,c⟩=>by
 obtain:=(H.ext h).ach c b
 grind
end
def NC (o:AM):Prop:= ∀a t f,o≠ .cells a t f
def Ob (l:Nat) (w w':A0):Prop:= ∀r o,r≠l->NC o->w.heap[r]? =some o->w'.heap[r]? =some o
theorem Ob.trans {l:Nat} {a b c:A0} (h:Ob l a b) (k:Ob l b c):Ob l a c:=λr o d e f=>k r o d e (h r o d e f)
theorem Ob.u6 {l:Nat} {a b:A0} (h:Ext a b):Ob l a b:=λ_ _ _ _ c=>h.obj c
theorem Ob.put (l:Nat) (w:A0) (o:AM):Ob l w (w.putObj l o):=λr o' a _ b=>by rw[fG a];grind
structure JK {T:Type} (bm:Nat) (mc:List AF->Prop) (J:List T->List (Nat×List AF)->List (Nat×AM)->A0->Prop):Prop where
 step: ∀{a X O w w' l' Y},J a X O w->Fr [bm] w w'->bO w' bm l'->mc l'->(∀y∈Y,w.heap.size<=y.1/\bO w' y.1 y.2)->(Y.map (·.1)).Nodup->J a (Y++X) O w'
 mem: ∀{a X O w},J a X O w-> ∃l,mc l/\bO w bm l
 dj: ∀{a X O w x},J a X O w->x∈X->x.1≠bm/\bO w x.1 x.2
 obj: ∀{a X O w r o},J a X O w->(r,o)∈O->w.heap[r]? =some o
 alO: ∀{a X O w o},J a X O w->NC o->J a X ((w.heap.size,o)::O) (w.alloc o)
 puO: ∀{a X O w r o o'},J a X ((r,o)::O) w->NC o'->J a X ((r,o')::O) (w.putObj r o')
 sub: ∀{a X O X' O' w},J a X O w->(∀x∈X',x∈X)->O'.Sublist O->J a X' O' w
 perm: ∀{a X O O' w},J a X O w->O'.Perm O->J a X O' w
def Yd {T:Type} (P:DA) (y:Nat) (b:T->List AF) (N:Nat) (J:List T->List (Nat×List AF)->List (Nat×AM)->A0->Prop):Prop:=
 ∀a x X O w (R:Bool->A0->Prop),a.length<N->J a X O w->(∀w',J (a++[x]) X O w'->R true w')->mC P y (b x) w R
def ItJ {T:Type} (P:DA) (b:DV) (args:Nat->List AF) (c:T->List AF) (N bm:Nat) (mc:List AF->Prop) (d:List (Nat×List AF)) (xs:List T):Prop:=
 ∀(y:Nat) (J:List T->List (Nat×List AF)->List (Nat×AM)->A0->Prop),JK bm mc J->Yd P y c N J-> ∀a X O w,a.length+xs.length<=N->(∀x∈d,x∈X)->J a X O w->
  Calls P b ⟨args y⟩ w (λe w'=> ∃v,e= .returned v/\J (a++xs) X O w')
section
variable {T:Type} {bm:Nat} {mc:List AF->Prop} {J:List T->List (Nat×List AF)->List (Nat×AM)->A0->Prop} {a:List T} {X:List (Nat×List AF)} {O:List (Nat×AM)} {w w':A0}
theorem JK.ext (K:JK bm mc J) (j:J a X O w) (h:Ext w w'):J a X O w':=by
 obtain⟨l,h1,b⟩:=K.mem j;exact K.step (Y:=[]) j (.u6 h) (b.ext h) h1 (by grind) (by grind)
theorem JK.tq (K:JK bm mc J) (j:J a X O w) {Y:List (Nat×List AF)} {l':List AF} (H:At [bm] w w' (Y++[(bm,l')])) (c:mc l'):J a (Y++X) O w':=by
 have b:=H.nd;rw[FB,Gj] at b;refine K.step j H.fr (H.dj (bm,l') (by simp)) c (λy d=>⟨?_,H.dj y (by grind)⟩) b.1;rcases H.own y (by grind)
 ·grind
 grind
theorem JK.at0 (K:JK bm mc J) (j:J a X O w): ∃l,mc l/\At [bm] w w [(bm,l)]:=by
 obtain⟨l,h1,b⟩:=K.mem j;exact⟨l,h1,At.sa b⟩
theorem JK.close (K:JK bm mc J): ∀(D:List Nat) {w:A0},J a X (D.map (λr=>(r,Obj.deferred (some [])))++O) w->DN D w/\J a X O (mF D w)
 |[], _,j=>⟨trivial,j⟩
 |r::D,w,j=>by
  have h:=K.obj j (r:=r) (o:= .deferred (some [])) (by simp);have b:=K.puO (o':= .deferred none) j λ_=>by grind
  obtain⟨h1,c⟩:=K.close D (K.sub b (λ_ h=>h) (B5 _ _));exact⟨⟨h,h1⟩,c⟩
theorem JK.sU (K:JK bm mc J) (D:List Nat) (j:J a X (D.map (λr=>(r,Obj.deferred (some [])))++O) w) {Q:A0->Prop} (k: ∀w1,J a X O w1->Q w1):sU D w Q:=λw1 h1=>by
 obtain:=K.close D (K.ext j h1)
 grind
abbrev N3 (rec:Loop):AM:= .loop {rec with state:= .ready,pending:=none}
abbrev lpB (rec:Loop):AM:= .loop {rec with state:= .busy,pending:=none}
theorem IF (rec:Loop) (st:LoopState) (a:Option Code):NC (.loop {rec with state:=st,pending:=a}):=λe=>by grind
theorem Dl.Yb (K:JK bm mc J) {l n m:Nat} {rec:Loop} (j:J a X ((l,N3 rec)::O) w) {Q:Prop} (b:n=m) (k:Q):Dl l rec n m w Q:=⟨⟨none,K.obj j (by simp)⟩,b,k⟩
theorem BZ.Yb (K:JK bm mc J) {l:Nat} {rec:Loop} (j:J a X ((l,N3 rec)::O) w) {Q:A0->Prop} (k: ∀wb,J a X ((l,lpB rec)::O) wb->Q wb):BZ l rec w Q:=λd c=>by
 have b:=K.ext j c;exact⟨none,K.obj b (by simp),k _ (K.puO b (IF rec _ _))⟩
theorem sT.Yb (K:JK bm mc J) {l:Nat} {rec:Loop} (j:J a X ((l,lpB rec)::O) w) {R:Bool->A0->Prop} (k: ∀b,J a X ((l,N3 rec)::O) b->R true b):sT l rec none w R:=λe d=>by
 have c:=K.ext j d;exact⟨.busy,none,K.obj c (by simp),k _ (K.puO c (IF rec _ _))⟩
theorem dz.Yb (K:JK bm mc J) {l:Nat} {rec:Loop} (j:J a X ((l,N3 rec)::O) w) {Kn Kr:A0->Prop} {Kx:Nat->A0->Prop} (k: ∀b,J a X O b->Kn b):dz l rec w Kn Kx Kr:=
 ⟨.ready,.none,K.obj j (by simp),by simp,k _ (K.sub (K.puO j (IF rec _ _)) (λ_ h=>h) (by grind))⟩
end
section
variable {D G:List Nat} {w0 w:A0} {L:List (Nat×List AF)}
theorem BZ.goO {l:Nat} {rec:Loop} {K:A0->Prop} (h:xY D G w0 w L l rec) (k: ∀wb,At (L.map (·.1)) wb wb L->Bsy D G w0 wb L l rec->Ob l w wb->K wb):BZ l rec w K:=λg a=>by
 obtain⟨c,H,e⟩:=h;have f:=H.ext a;have b:=e.ext a;have d:=f.s8 c b .busy none;exact⟨none,b,k _ d.again ⟨c,d,b.put _ _⟩ ((Ob.u6 a).trans (Ob.put _ _ _))⟩
theorem Ob.tq {l:Nat} {wb a:A0} {L':List (Nat×List AF)} (H:aM D G w0 wb L) (c:At (L.map (·.1)) wb a L'):Ob l wb a:=λr o _ d b=>by
 rw[c.fr.block r (Dq.1 b).1 λf=>?_]
 ·grind
 ·obtain⟨x,hx,e⟩:=Ae.1 f;exact aM.dg (H.dj x hx) b d e
theorem sT.lD {l:Nat} {rec:Loop} {wb f:A0} {L':List (Nat×List AF)} {R:Bool->A0->Prop} (h:Bsy D G w0 wb L l rec) (b:At (L.map (·.1)) wb f L') (k: ∀a,xY D G w0 a L' l rec->Ob l wb a->R true a):sT l rec none f R:=λa c=>by
 obtain⟨g,H,d⟩:=h;have i:=(H.join (λx hx=>hx) b).ext c;have j:=d.same (b.fr.block l d.lt (sv H d).2);have e:=j.ext c;exact⟨.busy,none,e,k _ ⟨g,i.s8 g e _ _,e.put _ _⟩ (((Ob.tq H b).trans (Ob.u6 c)).trans (Ob.put _ _ _))⟩
theorem z7.Ot {T:Type} {P:DA} {gM:DV} {args:Nat->List AF} {ps:Array Nat} {W:T->List AF} {Rd:Nat->Loop->T->A0->(Bool->A0->Prop)->Prop} {Af:Nat->Loop->A0->Prop} {N bm:Nat} {mc:List AF->Prop} {X0:List (Nat×List AF)} {xs:List T}
 {C:List AF} {Rg0 Lb:List (Nat×List AF)} (H:aM D G w0 w (Rg0++((bm,C)::Lb))) (hm0:mc C) (It:ItJ P gM args W N bm mc X0 xs) (hX: ∀x∈X0,x∈Lb) (hN:xs.length<=N) (y:List T->List (Nat×List AF)->Prop) (h0:y [] Rg0)
 (yj: ∀b x a Z r l rec m (R:Bool->A0->Prop),b.length<N->y b a->xY (r::D) G w0 m (a++Z) l rec->(∀E w',y (b++[x]) E->xY (r::D) G w0 w' (E++Z) l rec->Ob l m w'->R true w')->Rd l rec x m R)
 (haf: ∀r rec F l' a,mc l'->y xs a->xY (r::D) G w0 F (a++((bm,l')::Lb)) (r+1) rec->Af r rec F):z7 P gM args ps w W Rd Af:=by
 intro w1 h1 rec _ _ vx XX pE;have H1:=H.ext h1;have sz:(w1.alloc (.deferred (some []))).heap.size=w1.heap.size+1:=lP _ _;have Ak:rec={rec with state:= .ready,pending:= .none}:=by rw[<-vx, <-XX]
 have iI:w0.heap.size<=w1.heap.size:=H1.fr.size;have hW:xY (w1.heap.size::D) G w0 ((w1.alloc (.deferred (some []))).alloc (.loop rec)) (Rg0++((bm,C)::Lb)) (w1.heap.size+1) rec:=by
  refine⟨by omega,?_,?_⟩
  ·have A:=(H1.r_ (.deferred (some []))).r_ (.loop rec);refine⟨A.fr,A.dj,A.own,A.nd,λr d=>?_⟩;rcases B4.1 d with rfl|d
   ·exact⟨iI,(Ext.alloc _ _).obj (ft w1 _)⟩
   ·exact A.p9 r d
  ·have:=ft (w1.alloc (.deferred (some []))) (.loop rec);rw[sz] at this;unfold cX;rw[this, <-Ak]
 generalize hR:w1.heap.size=rr at*
 let J:List T->List (Nat×List AF)->List (Nat×AM)->A0->Prop:=λb X O w'=> ∃l' a Y,mc l'/\y b a/\xY (rr::D) G w0 w' (a++((bm,l')::(Y++Lb))) (rr+1) rec/\(∀x∈X,x∈Y++Lb)/\(∀x∈O,w'.heap[x.1]? =some x.2/\NC x.2/\w0.heap.size<=x.1/\x.1≠rr+1/\x.1∉rr::D)/\(O.map (·.1)).Nodup
 have K:JK bm mc J:=by
  refine⟨?_,?_,?_,?_,?_,?_,?_,?_⟩
  ·rintro b X O i m I q ⟨l',a,Y,hm,hg,⟨h1,c,n⟩,hx,f,g⟩ M hb hl hy hyn;have s:(bm,l')∈a++((bm,l')::(Y++Lb)):=by simp
   have c_: ∀x∈a++(Y++Lb),bO m x.1 x.2/\x.1<i.heap.size:=λx hx=>by
    have vz:x∈a++((bm,l')::(Y++Lb)):=by
     rcases FV.1 hx with h|h
     ·exact Dk _ h
     ·exact Dn _ (Bs _ h)
    have hk:=c.dj x vz;refine⟨M.dj ?_ hk,hk.lt⟩;intro hc;rw[Dh] at hc;have t:=c.nd;have p:((bm,l')::(a++(Y++Lb))).Perm (a++((bm,l')::(Y++Lb))):=B3.symm;have u:=((p.map (·.1)).nodup_iff).2 t;rw[Cg,BW] at u;exact u.1 (Ae.2 ⟨x,hx,hc⟩)
   refine⟨I,a,q++Y,hl,hg,⟨h1,?_,?_⟩,λx j=>?_,λx j=>?_,g⟩
   ·have t:=c.nd;have p:((bm,l')::(a++(Y++Lb))).Perm (a++((bm,l')::(Y++Lb))):=B3.symm;have u:=((p.map (·.1)).nodup_iff).2 t;have vy:((bm,I)::(q++(a++(Y++Lb)))).Perm (a++((bm,I)::(q++Y++Lb))):=by
     refine List.Perm.trans (DL _ ?_) B3.symm;rw[F8, <-F8 q a, <-F8 a q];exact List.perm_append_comm.append_right _
    refine aM.perm (L:=(bm,I)::(q++(a++(Y++Lb)))) ?_ vy.symm;refine c.frame M (λx hx=>?_) (λr d hx=>?_) (λx hx=>?_) (λx hx=>?_) ?_
    ·rw[Dh.1 hx];exact c.own (bm,l') s
    ·rw[Dh] at hx;exact aM.dg (c.dj (bm,l') s) (c.p9 r d).2 (λ_ _ _ hc=>by cases hc) hx.symm
    ·rcases B4.1 hx with rfl|hx
     ·exact hb
     ·rcases FV.1 hx with hx|hx
      ·exact(hy x hx).2
      ·exact(c_ x hx).1
    ·rcases B4.1 hx with rfl|hx
     ·exact c.own (bm,l') s
     ·rcases FV.1 hx with hx|hx
      ·exact .inl (DE c.fr.size (hy x hx).1)
      ·refine c.own x ?_;rcases FV.1 hx with h|h
       ·exact Dk _ h
       ·exact Dn _ (Bs _ h)
    ·rw[Cg,BW] at u;rw[Cg,FB,BW,Gj];have fresh: ∀x∈q, ∀z,z<i.heap.size->x.1≠z:=λx hx z hz e=>by
      have:=(hy x hx).1;omega
     refine⟨λhm=>?_,hyn,u.2,λx hx z hz e=>?_⟩
     ·rcases FV.1 hm with hm|hm
      ·obtain⟨x,hx,e⟩:=Ae.1 hm;exact fresh x hx bm (c.dj (bm,l') s).lt e
      ·exact u.1 hm
     ·obtain⟨x1,oE,e1⟩:=Ae.1 hx;obtain⟨z1,WV,e2⟩:=Ae.1 hz;exact fresh x1 oE z1.1 (c_ z1 WV).2 (by rw[e1,e2,e])
   ·refine n.same (M.block _ n.lt (λhc=>?_));rw[Dh] at hc;exact aM.dg (c.dj (bm,l') s) n (λ_ _ _ hc=>by cases hc) hc.symm
   grind
   ·obtain⟨o1,k,B⟩:=f x j;refine⟨?_,k,B⟩;rw[M.block x.1 (Dq.1 o1).1 (λhc=>?_)]
    ·exact o1
    ·rw[Dh] at hc;exact aM.dg (c.dj (bm,l') s) o1 k hc.symm
  ·rintro b X O i ⟨l',a,Y,hm,hg,d,hx,f,g⟩;exact⟨l',hm,d.2.1.dj (bm,l') (by simp)⟩
  ·rintro b X O i x ⟨l',a,Y,hm,hg,d,hx,f,g⟩ j;have p:((bm,l')::(a++(Y++Lb))).Perm (a++((bm,l')::(Y++Lb))):=B3.symm;have c:=d.2.1.perm p;have Q:x∈a++(Y++Lb):=Dn _ (hx x j);refine⟨λe=>?_,c.dj x (Bs _ Q)⟩;have t:=c.nd;rw[Cg,BW] at t;exact t.1 (Ae.2 ⟨x,Q,e⟩)
  ·rintro b X O i r o ⟨l',a,Y,hm,hg,d,hx,f,g⟩ Q;exact(f (r,o) Q).1
  ·rintro b X O i o ⟨l',a,Y,hm,hg,⟨h1,c,n⟩,hx,f,g⟩ XS;have S:=Ext.alloc i o;refine⟨l',a,Y,hm,hg,⟨h1,c.r_ o,n.ext S⟩,hx,λx j=>?_,?_⟩
   ·rcases B4.1 j with rfl|j
    ·refine⟨ft i o,XS,c.fr.size,λe=>?_,λhc=>?_⟩
     ·have:=n.lt;simp only at e;omega
     ·have:=(Dq.1 (c.p9 _ hc).2).1;simp only at this;omega
    ·obtain⟨o1,k⟩:=f x j;exact⟨S.obj o1,k⟩
   ·rw[Cg,BW];refine⟨λhc=>?_,g⟩;obtain⟨x,j,e⟩:=Ae.1 hc;have:=(Dq.1 (f x j).1).1;simp only at e;omega
  ·rintro b X O i r o o' ⟨l',a,Y,hm,hg,⟨h1,c,n⟩,hx,f,g⟩ XS;obtain⟨o1,k,B,U,o5⟩:=f (r,o) Ci;rw[Cg,BW] at g;refine⟨l',a,Y,hm,hg,⟨h1,c.putObj B o1 k o5,?_⟩,hx,λx j=>?_,?_⟩
   ·unfold cX;rw[fG (λe=>U e.symm)];exact n
   ·grind[kf,Bs,fG]
   ·rw[Cg,BW];exact g
  ·rintro b X O X' O' i ⟨l',a,Y,hm,hg,d,hx,f,g⟩ hs V;exact⟨l',a,Y,hm,hg,d,λx h=>hx x (hs x h),λx h=>f x (V.subset h),(V.map _).nodup g⟩
  ·rintro b X O O' i ⟨l',a,Y,hm,hg,d,hx,f,g⟩ p;exact⟨l',a,Y,hm,hg,d,hx,λx h=>f x (p.subset h),(p.map _).nodup_iff.2 g⟩
 have Y:Yd P (rr+1) W N J:=by
  rintro b x X O m R hb ⟨l',a,Y,hm,hg,d,hx,f,g⟩ hR;refine pE x m R (yj b x a _ rr (rr+1) rec m R hb hg d λE w' uM TE V=>hR w' ⟨l',E,Y,hm,uM,TE,hx,λx h=>?_,g⟩);obtain⟨o1,k,B,U,o5⟩:=f x h;exact⟨V _ _ U k o1,k,B,U,o5⟩
 refine Calls.mono (It (rr+1) J K Y [] Lb [] _ (by simpa using hN) hX ⟨C,Rg0,[],hm0,h0,hW,λx h=>h,λx h=>(by cases h),FH⟩) ?_;rintro e F ⟨v,S,l',a,Y,hm,hg,d,hx,f,g⟩;refine⟨v,S,haf rr rec F l' a hm hg ⟨d.1,d.2.1.sub ?_,d.2.2⟩⟩;exact List.Sublist.append (List.Sublist.refl _) (List.Sublist.cons_cons _ (M4 _ _))
end
end Go.RX
namespace Go.Proofs.YtlcenllcmeebhaaGreat
set_option maxRecDepth 100000
open Go.RX
def dv (e:El) (s:Option A2×Nat×Nat) (xs:List e.T) (Ls:List (Nat×List AF)):Prop:=
 s.2.1=xs.length/\xs.length<=s.2.2/\((s.1=none/\s.2.2=0/\Ls=[])\/ ∃bs rest,s.1=some ⟨bs,0,none⟩/\Ls=[(bs,flat e xs++rest)]/\s.2.2*aD e<=(flat e xs++rest).length)
theorem dv.nil (e:El):dv e (none,0,0) [] []:=⟨rfl,Do _,.inl ⟨rfl,rfl,rfl⟩⟩
section
variable {D G:List Nat} {w0 w w1:A0} {L L0 Ls:List (Nat×List AF)} {e:El} {s:Option A2×Nat×Nat} {xs:List e.T}
theorem dv.sl (h:dv e s xs Ls) (H:aM D G w0 w L) (b: ∀x∈Ls,x∈L):Sl w e s.1 xs:=by
 obtain⟨h1,d,⟨a1,a,c⟩|⟨bs,rest,a1,a,c⟩⟩:=h
 ·have:xs=[]:=H4 (by omega);subst this;intro i x hx;simp at hx
 ·rw[a1];refine Sl.jN (H.dj _ (b _ (by rw[a];exact Dh.2 rfl))) ?_;rw[IB (by rw[aF];exact Do _),IP (by rw[aF];exact Do _)]
theorem dv.oP (h:dv e s xs Ls) (H:aM D G w0 w L) (b: ∀x∈Ls,x∈L):oP w s.1 (s.2.1*aD e) (flat e xs):=by
 obtain⟨h1,d,⟨a1,a,c⟩|⟨bs,rest,a1,a,c⟩⟩:=h
 ·have:xs=[]:=H4 (by omega);subst this;rw[a1];rfl
 ·rw[a1];refine bO.oP (vs:=flat e xs) (H.dj _ (b _ (by rw[a];exact Dh.2 rfl))) (by rw[aF,h1]) λi hi=>?_;rw[Ct,Gi (by rw[aF, <-h1];exact hi)]
theorem aM.Uk (H:aM D G w0 w (Ls++L0)) (hs:dv e s xs Ls) (p:im e=true) {q:Option A2×Nat×Nat} {ys:List e.T} (a:q.2.1=ys.length) (r:Go.RX.oP w q.1 (q.2.1*aD e) (flat e ys))
 {t:E4} {size bytes:Nat} {z:Array AF} (u:size=aD e) (v:z.size=aD e) (hb:(xs.length+ys.length)*bytes<=140737488355328) {R:Option A2×Nat×Nat->A0->Prop}
 (k: ∀s' l w',dv e s' (xs++ys) l->aM D G w0 w' (l++L0)->R s' w'):mJ w t size bytes z s q R:=by
 subst u;have y:=hs.oP H (λx hx=>Dk _ hx);obtain⟨h1,I,A⟩:=hs;have g:=aF e xs;have B:=aF e ys;refine⟨flat e xs,flat e ys,y,r,λb=>?_,λb=>⟨growslice_fits b (by rw[h1,a];exact hb),λc hc=>?_⟩⟩
 ·rcases A with ⟨a1,d,f⟩|⟨bs,rest,a1,d,f⟩
  ·rw[d] at b;have C:ys=[]:=H4 (by omega);have hx:xs=[]:=H4 (by omega);subst C;subst hx;subst f;refine⟨.inl rfl,?_⟩;rw[a1];exact k _ [] _ ⟨by rw[h1,a];rfl,GD _,.inl ⟨rfl,d,rfl⟩⟩ H
  ·subst d;have E:s.1.map (·.add (s.2.1*aD e))=some ⟨bs,xs.length*aD e,none⟩:=by rw[a1,h1];simp[Om]
   rw[E];have h:xs.length*aD e+(flat e ys).length<=(flat e xs++rest).length:=by
    rw[B, <-J4];exact DE (GJ _ (by rw[<-h1, <-a];exact b)) f
   refine⟨.inr ⟨(H.get (i:=0) rfl).st h,jV e ys p⟩,?_⟩;have m:=H.put 0 (o:=xs.length*aD e) rfl (flat e ys) h;have j:(flat e xs++rest).take (xs.length*aD e)=flat e xs:=List.take_left' g;have F:(flat e xs++rest).drop (xs.length*aD e+(flat e ys).length)=rest.drop (flat e ys).length:=by rw[<-g,Ko]
   rw[j,F, <-F8, <-dO] at m;refine k (s.1,s.2.1+q.2.1,s.2.2) [(bs,flat e (xs++ys)++rest.drop (flat e ys).length)] _ ⟨by rw[h1,a,DB],by rw[DB, <-h1, <-a];exact b,.inr ⟨bs, _,a1,rfl,?_⟩⟩ m;refine DE f ?_;rw[dO];simp only[DB,Fz];simp only[DB,g] at h;omega
 ·have n:=(H.ext (Ext.drew w)).alloc (flat e xs++flat e ys++(Ga z (c - (s.2.1+q.2.1))).toList) t;have j:(K1 (flat e xs)++K1 (flat e ys)++Ga z (c - (s.2.1+q.2.1)))=⟨flat e xs++flat e ys++(Ga z (c - (s.2.1+q.2.1))).toList⟩:=by
   apply J9;simp
  rw[j];rw[<-dO] at n ⊢;refine k _ [(w.heap.size,flat e (xs++ys)++(Ga z (c - (s.2.1+q.2.1))).toList)] _ ⟨by rw[h1,a,DB],by rw[DB, <-h1, <-a];exact hc,.inr ⟨_, _,rfl,rfl,?_⟩⟩ (n.sub ((M4 Ls L0).cons_cons _));simp only[DB,aF,Ga,Array.length_toList,Array.size_map,Array.size_range,v];rw[<-J4];exact GJ _ (by omega)
theorem dv.st {i:Nat} (h:dv e s xs Ls) (H:aM D G w0 w (Ls++L0)) (hi:i<xs.length) (y:e.T) {vs:List AF} (hv:vs=cellsOf e y) (d:im e=true) {K:A0->Prop}
 (k: ∀b w1,dv e s (xs.set i y) b->aM D G w0 w1 (b++L0)->K w1):aC w (ad s.1 (i*aD e)) vs K:=by
 obtain⟨h1,f,⟨a1,c,a⟩|⟨bs,rest,a1,c,a⟩⟩:=h
 ·omega
 ·subst c;rw[a1];refine aC.flat 0 H y rfl hv d hi λw1 g=>k [(bs,flat e (xs.set i y)++rest)] w1 ⟨by rw[IR];exact h1,by rw[IR];exact f,.inr ⟨bs,rest,a1,rfl,?_⟩⟩ g;rw[DB,aF] at a ⊢;rw[IR];exact a
theorem aj.kV (H:aM D G w0 w L) {b n:Nat} {l:List AF} (a:(b,l)∈L) {g:Option Bool} {el:El} {K:el.T->Prop} {x:el.T} (hv:ly l n el=some x) (k:K x):aj w g (ad (ae b) n) el K:=by
 obtain⟨j,c⟩:=Ft a;exact aj.cw j H c (by rw[Ct];exact hv) k
end
end Go.Proofs.YtlcenllcmeebhaaGreat
namespace Go.Proofs.YtlcenllcmeebhaaGreat.Mu
set_option maxRecDepth 100000
open Go.RX
abbrev sLn:List Sc:=[.int .i64,.int .i64,.int .i64,.int .i64]
abbrev kz:El:= .agg sLn
noncomputable def U0:dG AC:={C0 with quiet:=[140,150,204,149,148,106,114,237]}
noncomputable def U1:dG AC:={U0 with quiet:=236::116::U0.quiet}
theorem KH (t p f r:Int) (w:A0) (j:Bool->A0->Prop):(aI U0 (λ_=>[]) 204 [.agg ⟨[aa t,aa p,aa f,aa r]⟩] w j)=(
 aN w ⟨[aa t,aa p,aa f,aa r]⟩ 96 λb d=>true=true/\aV d (ad (ae b) 0) λx=>(decide (x>=1)=true->true=true)/\aj d (some (decide (x>=1))) (ad (ae b) 0) aX λ(a:Int)=>((decide (x>=1)&&decide (a<=16))=true->true=true)/\aj d (some (decide (x>=1)&&decide (a<=16))) (ad (ae b) 1) aX λ(c:Int)=>((decide (x>=1)&&decide (a<=16)&&decide (c>=0))=true->true=true)/\aj d (some (decide (x>=1)&&decide (a<=16)&&decide (c>=0))) (ad (ae b) 1) aX λ(e:Int)=>((decide
 (x>=1)&&decide (a<=16)&&decide (c>=0)&&decide (e<65536))=true->true=true)/\aj d (some (decide (x>=1)&&decide (a<=16)&&decide (c>=0)&&decide (e<65536))) (ad (ae b) 2) aX λ(g:Int)=>((decide (x>=1)&&decide (a<=16)&&decide (c>=0)&&decide (e<65536)&&decide (g>=0))=true->true=true)/\aj d (some (decide (x>=1)&&decide (a<=16)&&decide (c>=0)&&decide (e<65536)&&decide (g>=0))) (ad (ae b) 2) aX λ(h:Int)=>((decide (x>=1)&&decide (a<=16)&&decide (c>=0)&&decide (e<
 65536)&&decide (g>=0)&&decide (h<4096))=true->true=true)/\aj d (some (decide (x>=1)&&decide (a<=16)&&decide (c>=0)&&decide (e<65536)&&decide (g>=0)&&decide (h<4096))) (ad (ae b) 3) aX λ(i:Int)=>((decide (x>=1)&&decide (a<=16)&&decide (c>=0)&&decide (e<65536)&&decide (g>=0)&&decide (h<4096)&&decide (i>=1))=true->true=true)/\aj d (some (decide (x>=1)&&decide (a<=16)&&decide (c>=0)&&decide (e<65536)&&decide (g>=0)&&decide (h<4096)&&decide (i>=1))) (ad (ae b)
 3) aX λ(k:Int)=>au d (j (decide (x>=1)&&decide (a<=16)&&decide (c>=0)&&decide (e<65536)&&decide (g>=0)&&decide (h<4096)&&decide (i>=1)&&decide (k<=7)))):=by kernel_rfl
theorem ZE (t p f r a b:Int) (w:A0) (e:Bool->A0->Prop):(aI U0 (λ_=>[]) 150 [.agg ⟨[aa t,aa p,aa f,aa r]⟩,aa a,aa b] w e)=(
 aN w ⟨[aa t,aa p,aa f,aa r]⟩ 96 λd c=>aj c none (ae d) dQ λ(x:Int×Int×Int×Int×Unit)=>true=true/\aV c (ad (ae d) 2) λg=>true=true/\aV c (ad (ae d) 3) λh=>au c λw1=>e (x.1==a&&(x.2.1==b&&(x.2.2.1==g&&(x.2.2.2.1==h&&true)))) w1):=by kernel_rfl
theorem KI (p:Option A2) (w:A0) (a:Bool->A0->Prop):(aI U0 (λ_=>[]) 140 [ah p] w a)=(
 ((!p.isNone)=true->p.isSome=true)/\((!p.isNone)=true->p.isSome=true)/\aj w (some !p.isNone) (ad p 1) aX λ(x:Int)=>au w (a (!p.isNone&&decide (x>0)))):=by kernel_rfl
theorem UJ (p:Option A2) (i:Int) (w:A0) (c:Unit->A0->Prop):(aI U0 (λ_=>[]) 196 [ah p,aa i] w c)=(
 ff p 0 w λx=>(0<=(↑0:Int)/\(↑0:Int)<=i/\i<=i/\i<=(↑x.2.2:Int))/\ff p 0 w λa=>(0<=aH .i64 i 1/\aH .i64 i 1<=(↑a.2.1:Int)/\(↑a.2.1:Int)<=(↑a.2.2:Int)/\(↑a.2.2:Int)<=(↑a.2.2:Int))/\ ∀w1,Ext w w1->mJ w1 96 4 32 ⟨[aa 0,aa 0,aa 0,aa 0]⟩ (FX (λ(h:i.toNat=(↑0:Int).toNat->False)=>ad x.1 0) (λ(h:i.toNat=(↑0:Int).toNat)=>x.1) (instDecidableEqNat i.toNat 0),i.toNat - 0,i.toNat - 0) (FX (λ(h:(↑a.2.2:Int).toNat=(aH .i64 i 1).toNat->False)=>ad
 a.1 ((aH .i64 i 1).toNat*4)) (λ(h:(↑a.2.2:Int).toNat=(aH .i64 i 1).toNat)=>a.1) (instDecidableEqNat (↑a.2.2:Int).toNat (aH .i64 i 1).toNat),(↑a.2.1:Int).toNat - (aH .i64 i 1).toNat,(↑a.2.2:Int).toNat - (aH .i64 i 1).toNat) λ(r:Option A2×Nat×Nat) b=>p.isSome=true/\p.isSome=true/\aC b (ad p 0) [.slice r.1 r.2.1 r.2.2] λb=>au b (c ())):=by kernel_rfl
theorem G8 (t p f r:Int) (c d:Option A2) (w:A0) (e:Bool->A0->Prop):(aI U0 (λ_=>[]) 149 [.agg ⟨[aa t,aa p,aa f,aa r]⟩,ah c,ah d] w e)=(
 aN w ⟨[aa t,aa p,aa f,aa r]⟩ 96 λb a=>aj a none (ae b) dQ λ(x:Int×Int×Int×Int×Unit)=>aV a c λh=>aV a d λi=> ∃g,af AC 150 [.agg ⟨[aa x.1,aa x.2.1,aa x.2.2.1,aa x.2.2.2.1]⟩,aa h,aa i] a (.bool g)/\au a (e g)):=by kernel_rfl
theorem KJ (t p f r:Int) (c:Option A2) (w:A0) (d:Bool->A0->Prop):(aI U0 (λ_=>[]) 148 [.agg ⟨[aa t,aa p,aa f,aa r]⟩,ah c] w d)=(
 aN w ⟨[aa t,aa p,aa f,aa r]⟩ 96 λb a=>true=true/\aV a (ad (ae b) 0) λx=>aV a c λe=>au a (d (x==e))):=by kernel_rfl
def pW:Nat->a7:=(λ|5=>[(5,Go.RX.El.one (Go.RX.Sc.int Aq)),(6,Go.RX.El.one (Go.RX.Sc.int Aq))]| _=>[])
theorem G9 (p c d:Option A2) (w:A0) (e:Int->A0->Prop):(aI U0 pW 147 [ah p,.func (.func 149) #[] #[ah c,ah d]] w e)=(
 ∃x,af AC 140 [ah p] w (.bool x)/\aG (!x) (au w (e 0)) (ff p 0 w λx=> ∃(I:Nat->Int×Int×Unit->A0->Prop),(∃n, ∀w1,Ext w w1->I n (0,a6 .i64 (↑x.2.1:Int) 1,()) w1)/\ ∀(n:Nat) (s:Int×Int×Unit) (w1:A0),I n s w1->aG (decide (s.2.1>=0)) (ff p 0 w1 λx=>(x.1.isSome=true/\0<=s.2.1/\s.2.1<(↑x.2.1:Int))/\aj w1 none (ad x.1 (Ar s.2.1*4)) dQ λ(x:Int×Int×Int×Int×Unit)=> ∃f,af AC 149 [.agg ⟨[aa x.1,aa x.2.1,aa x.2.2.1,aa x.2.2.2.1]⟩,.pointer
 c,ah d] w1 (.bool f)/\aG f (aA AC 196 (.bA []) [ah p,aa s.2.1] w1 λx g=> ∀a,Ext g a-> ∃(b:Nat),b<n/\I b (aH .i64 s.1 1,a6 .i64 s.2.1 1,()) a) (∀a,Ext w1 a-> ∃(b:Nat),b<n/\I b (s.1,a6 .i64 s.2.1 1,()) a)) (au w1 (e s.1)))):=by kernel_rfl
def pX:Nat->a7:=(λ|5=>[(5,Go.RX.El.one (Go.RX.Sc.int Aq)),(6,Go.RX.El.one (Go.RX.Sc.int Aq))]| _=>[])
theorem G_ (p c:Option A2) (w:A0) (d:Int->A0->Prop):(aI U0 pX 147 [ah p,.func (.func 148) #[] #[ah c]] w d)=(
 ∃x,af AC 140 [ah p] w (.bool x)/\aG (!x) (au w (d 0)) (ff p 0 w λx=> ∃(I:Nat->Int×Int×Unit->A0->Prop),(∃n, ∀w1,Ext w w1->I n (0,a6 .i64 (↑x.2.1:Int) 1,()) w1)/\ ∀(n:Nat) (s:Int×Int×Unit) (w1:A0),I n s w1->aG (decide (s.2.1>=0)) (ff p 0 w1 λx=>(x.1.isSome=true/\0<=s.2.1/\s.2.1<(↑x.2.1:Int))/\aj w1 none (ad x.1 (Ar s.2.1*4)) dQ λ(x:Int×Int×Int×Int×Unit)=> ∃e,af AC 148 [.agg ⟨[aa x.1,aa x.2.1,aa x.2.2.1,aa x.2.2.2.1]⟩,.pointer
 c] w1 (.bool e)/\aG e (aA AC 196 (.bA []) [ah p,aa s.2.1] w1 λx f=> ∀a,Ext f a-> ∃(b:Nat),b<n/\I b (aH .i64 s.1 1,a6 .i64 s.2.1 1,()) a) (∀a,Ext w1 a-> ∃(b:Nat),b<n/\I b (s.1,a6 .i64 s.2.1 1,()) a)) (au w1 (d s.1)))):=by kernel_rfl
theorem KK (p:Option A2) (t g:Int) (w:A0) (c:Bool->A0->Prop):(aI U0 (λ_=>[]) 108 [ah p,aa t,aa g] w c)=(
 aN w ⟨[aa t]⟩ 3 λb a=>aN a ⟨[aa g]⟩ 3 λd a=>aA AC 147 (.el aX) [ah p,.func (.func 149) ⟨[]⟩ {toList:=[ah (ae b),ah (ae d)]}] a λ(x:Int) a=>au a (c (decide (x>0)))):=by kernel_rfl
theorem Ha (p:Option A2) (t:Int) (w:A0) (c:Int->A0->Prop):(aI U0 (λ_=>[]) 107 [ah p,aa t] w c)=(
 aN w ⟨[aa t]⟩ 3 λb a=>aA AC 147 (.el aX) [ah p,.func (.func 148) ⟨[]⟩ {toList:=[ah (ae b)]}] a λ(x:Int) a=>au a (c x)):=by kernel_rfl
abbrev vX (p:Option A2) (e:Int->A0->Prop) (d:A0) (f:Nat):Prop:=
 ff p 0 d λx=>aj d none (ae f) dQ λ(c:Int×Int×Int×Int×Unit)=>aN d ⟨[aa c.1,aa c.2.1,aa c.2.2.1,aa c.2.2.2.1]⟩ 96 λb a=> ∀w1,Ext a w1->mJ w1 96 4 32 ⟨[aa 0,aa 0,aa 0,aa 0]⟩ (x.1,x.2.1,x.2.2) (some ⟨b,0,none⟩,1,1) λ(r:Option A2×Nat×Nat) a=>p.isSome=true/\p.isSome=true/\aC a (ad p 0) [.slice r.1 r.2.1 r.2.2] λa=>au a (e 0)
theorem Qj (p:Option A2) (t g f r:Int) (w:A0) (c:Int->A0->Prop):(aI U0 (λ_=>[]) 159 [ah p,.agg ⟨[aa t,aa g,aa f,aa r]⟩] w c)=(
 aN w ⟨[aa t,aa g,aa f,aa r]⟩ 96 λb a=> ∃x,af AC 140 [ah p] a (.bool x)/\aG (!x) (au a (c 10)) (aj a none (ae b) dQ λ(x:Int×Int×Int×Int×Unit)=> ∃d,af AC 204 [.agg ⟨[aa x.1,aa x.2.1,aa x.2.2.1,aa x.2.2.2.1]⟩] a (.bool d)/\aG (!d) (au a (c 1)) (true=true/\aV a (ad (ae b) 0) λx=>true=true/\aV a (ad (ae b) 1) λe=>aA AC 108 (.el rO) [ah p,aa x,aa e] a λx a=>((!x)=true->p.isSome=true)/\
 ((!x)=true->p.isSome=true)/\aj a (some !x) (ad p 0) fi λh=>((!x)=true->p.isSome=true)/\((!x)=true->p.isSome=true)/\aj a (some !x) (ad p 1) aX λ(i:Int)=>aG (!x&&(↑h.2.1:Int)==i) (aA AC 196 (.bA []) [ah p,aa 0] a λx a=>vX p c a b) (vX p c a b)))):=by kernel_rfl
def ud:Nat->a7:=(λ|4=>[(20,Go.RX.El.one (Go.RX.Sc.int Aq))]| _=>[])
theorem Qk (p:Option A2) (t g k:Int) (w:A0) (c:Int×Int×Unit->A0->Prop):(aI U0 ud 201 [ah p,aa t,aa g,aa k] w c)=(
 ∃x,af AC 140 [ah p] w (.bool x)/\aG (!x) (au w (c (0,10,()))) (ff p 0 w λx=> ∃(I:Nat->Int×Unit->A0->Prop),(∃n, ∀w1,Ext w w1->I n (0,()) w1)/\ ∀(n:Nat) (s:Int×Unit) (w1:A0),I n s w1->aG (decide (s.1<(↑x.2.1:Int))) ((x.1.isSome=true/\0<=s.1/\s.1<(↑x.2.1:Int))/\aj w1 none (ad x.1 (Ar s.1*4)) dQ λ(x:Int×Int×Int×Int×Unit)=>aN w1 ⟨[aa 0,aa 0,aa 0,aa 0]⟩ 96 λb a=>aC a (ae b) [aa x.1,aa x.2.1,aa x.2.2.1,.int .i64
 x.2.2.2.1] λa=>aj a none (ae b) dQ λ(x:Int×Int×Int×Int×Unit)=> ∃d,af AC 150 [.agg ⟨[aa x.1,aa x.2.1,aa x.2.2.1,aa x.2.2.2.1]⟩,aa t,aa g] a (.bool d)/\aG (!d) (∀e,Ext a e-> ∃(f:Nat),f<n/\I f (aH .i64 s.1 1,()) e) (((!(decide (k<0)||decide (k>7)))=true->true=true)/\aj a (some !(decide (k<0)||decide (k>7))) (ad (ae b) 3) aX λ(x:Int)=>aG (decide (k<0)||decide (k>7)||gS .i64 k x != 0) (au a (c (0,7,()))) (true=true/\
 aV a (ad (ae b) 2) λx=>au a (c (x,0,()))))) (au w1 (c (0,4,()))))):=by kernel_rfl
theorem UK (n:Int) (w:A0) (a:Option A2×Int×Unit->A0->Prop):(aI U0 (λ_=>[]) 86 [aa n] w a)=(
 aG (decide (n<1)||decide (n>64)) (au w (a (none,1,()))) (aN w ⟨[.slice none 0 0,aa n]⟩ 227 λb c=>au c (a (some ⟨b,0,none⟩,0,())))):=by kernel_rfl
theorem KL (p:Option A2) (w:A0) (a:Option A2×Nat×Nat->A0->Prop):(aI U0 (λ_=>[]) 83 [ah p] w a)=(
 ∃x,af AC 140 [ah p] w (.bool x)/\aG (!x) (au w (a (none,0,0))) (ff p 0 w λx=> ∀w1,Ext w w1->mJ w1 96 4 32 ⟨[aa 0,aa 0,aa 0,aa 0]⟩ (none,0,0) (x.1,x.2.1,x.2.2) λ(r:Option A2×Nat×Nat) b=>au b (a (r.1,r.2.1,r.2.2)))):=by kernel_rfl
theorem UL (p:Option A2) (i:Int) (w:A0) (a:Bool->A0->Prop):(aI U0 (λ_=>[]) 106 [ah p,aa i] w a)=(
 ((!p.isNone&&decide (i>=0))=true->p.isSome=true)/\((!p.isNone&&decide (i>=0))=true->p.isSome=true)/\aj w (some (!p.isNone&&decide (i>=0))) (ad p 0) fi λx=>au w λw1=>a (!p.isNone&&decide (i>=0)&&decide (i<(↑x.2.1:Int))) w1):=by kernel_rfl
theorem Hc (p:Option A2) (i:Int) (w:A0) (b:Option A2×Nat×Nat->A0->Prop):(aI U0 (λ_=>[]) 202 [ah p,aa i] w b)=(
 ff p 0 w λx=>(0<=(↑0:Int)/\(↑0:Int)<=i/\i<=(↑x.2.2:Int)/\(↑x.2.2:Int)<=(↑x.2.2:Int))/\ ∀w1,Ext w w1->mJ w1 202 1 8 ⟨[H7 none]⟩ (none,0,0) (FX (λ(h:(↑x.2.2:Int).toNat=(↑0:Int).toNat->False)=>ad x.1 0) (λ(h:(↑x.2.2:Int).toNat=(↑0:Int).toNat)=>x.1) (instDecidableEqNat (↑x.2.2:Int).toNat 0),i.toNat - 0,(↑x.2.2:Int).toNat - 0) λ(r:Option A2×Nat×Nat) a=>ff p 0 a λx=>(0<=aH .i64 i 1/\aH .i64 i 1<=(↑x.2.1:Int)/\(↑x.2.1:Int)<=(↑x.2.2:Int)/\(↑x.2.2:Int)<=(↑x.2.2:Int))/\ ∀w1,
 Ext a w1->mJ w1 202 1 8 ⟨[H7 none]⟩ (r.1,r.2.1,r.2.2) (FX (λ(h:(↑x.2.2:Int).toNat=(aH .i64 i 1).toNat->False)=>ad x.1 ((aH .i64 i 1).toNat*1)) (λ(h:(↑x.2.2:Int).toNat=(aH .i64 i 1).toNat)=>x.1) (instDecidableEqNat (↑x.2.2:Int).toNat (aH .i64 i 1).toNat),(↑x.2.1:Int).toNat - (aH .i64 i 1).toNat,(↑x.2.2:Int).toNat - (aH .i64 i 1).toNat) λ(r:Option A2×Nat×Nat) a=>au a (b (r.1,r.2.1,r.2.2))):=by kernel_rfl
def vY:Nat->a7:=(λ|5=>[(14,Go.RX.El.one (Go.RX.Sc.int Aq))]| _=>[])
theorem UM (n:Int) (w:A0) (c:Option A2×Int×Unit->A0->Prop):(aI U0 vY 85 [aa n] w c)=(
 aG (decide (n<1)||decide (n>8)) (au w (c (none,1,()))) (aN w ⟨[.slice none 0 0,.slice none 0 0]⟩ 205 λb a=> ∃(I:Nat->Int×Unit->A0->Prop),(∃n, ∀w1,Ext a w1->I n (0,()) w1)/\ ∀(e:Nat) (s:Int×Unit) (w1:A0),I e s w1->aG (decide (s.1<n)) (true=true/\true=true/\s9 w1 (ad (ae b) 0) λx=> ∀d,Ext w1 d->aN (d.alloc (Obj.chan 16 ⟨[]⟩ false 0 0 false)) ⟨[H7 (some d.heap.size)]⟩ 202 λh a=> ∀w1,Ext a w1->mJ w1 202 1 8 ⟨[H7 none]⟩ (x.1,x.2.1,x.2.2) (some ⟨h,0,none⟩,1,1)
 λ(r:Option A2×Nat×Nat) a=>true=true/\true=true/\aC a (ad (ae b) 0) [.slice r.1 r.2.1 r.2.2] λa=> ∀f,Ext a f-> ∃(g:Nat),g<e/\I g (aH .i64 s.1 1,()) f) (au w1 (c (some ⟨b,0,none⟩,0,()))))):=by kernel_rfl
theorem Ql (p:Option A2) (i:Int) (w:A0) (d:(Int×Int×Int×Unit)×Bool×Unit->A0->Prop):(bW U0 (λ_=>[]) 66 [ah p,aa i] w d)=(
 aN w ⟨[aa 0,aa 0,aa 0]⟩ 147 λb a=> ∃x,af AC 106 [ah p,aa i] a (.bool x)/\aG (!x) (aC a (ae b) [aa 0,aa 0,aa 0] λa=>au a λw1=>aj w1 none (ae b) wX λ(x:Int×Int×Int×Unit)=>d ((x.1,x.2.1,x.2.2.1,()),false,()) w1) (ff p 0 a λx=>(x.1.isSome=true/\0<=i/\i<(↑x.2.1:Int))/\aj a none (ad x.1 (i.toNat*1)) (.one .chan) λx=> ∀w1,Ext a w1-> ∃(r:Nat), ∃(cap:Nat), ∃(e:List AF), ∃(s:Nat), ∃(m:Nat),x=some r/\ChO w1 r cap
 e s m/\(e=[]->aC w1 (ae b) [aa 0,aa 0,aa 0] λa=>au a λw1=>aj w1 none (ae b) wX λ(x:Int×Int×Int×Unit)=>d ((x.1,x.2.1,x.2.2.1,()),false,()) w1)/\ ∀v (vs:List AF),e=v::vs-> ∃(x:Int×Int×Int×Unit),v= .agg ⟨[aa x.1,aa x.2.1,aa x.2.2.1]⟩/\aN (w1.putObj r (Obj.chan cap {toList:=vs} false s (m+1) false)) ⟨[aa 0,aa 0,aa 0]⟩ 147 λf a=>aC a (ae f) [aa x.1,aa x.2.1,aa x.2.2.1] λa=>ff p 1 a λx=>
 true=true/\aV a (ad (ae f) 0) λc=>(x.1.isSome=true/\0<=a6 .i64 c 1/\a6 .i64 c 1<(↑x.2.1:Int))/\aj a none (ad x.1 ((a6 .i64 c 1).toNat*1)) aX λ(g:Int)=>(x.1.isSome=true/\0<=a6 .i64 c 1/\a6 .i64 c 1<(↑x.2.1:Int))/\aC a (ad x.1 ((a6 .i64 c 1).toNat*1)) [aa (a6 .i64 g 1)] λa=>aj a none (ae f) wX λ(x:Int×Int×Int×Unit)=>aC a (ae b) [aa x.1,aa x.2.1,aa x.2.2.1] λa=>au a λw1=>aj w1 none (ae b) wX λ(x:Int×Int×Int×Unit)=>d
 ((x.1,x.2.1,x.2.2.1,()),true,()) w1)):=by kernel_rfl
def uf:Nat->a7:=(λ|9=>[(52,Go.RX.El.one (Go.RX.Sc.int Aq))]|17=>[(78,Go.RX.El.one (Go.RX.Sc.int Aq))]| _=>[])
theorem Qm (p:Option A2) (i t g:Int) (w:A0) (c:Int×Int×Unit->A0->Prop):(aI U0 uf 157 [ah p,aa i,aa t,aa g] w c)=(
 ((!p.isNone)=true->p.isSome=true)/\((!p.isNone)=true->p.isSome=true)/\aj w (some !p.isNone) (ad p 0) fi λx=>aG (p.isNone||(↑x.2.1:Int)==0) (au w (c (0,10,()))) (∃x,af AC 106 [ah p,aa i] w (.bool x)/\aG (!x) (au w (c (0,2,()))) (aG (decide (t<1)||decide (t>16)||decide (g< -1)||decide (g>=65536)) (au w (c (0,1,()))) (aA AC 202 (.el fi) [ah p,aa i] w λx a=> ∃(I:Nat->Int×Unit->A0->Prop),(∃n, ∀w1,Ext a w1->I n (0,()) w1)/\ ∀(n:Nat) (s
 :Int×Unit) (w1:A0),I n s w1->aG (decide (s.1<(↑x.2.1:Int))) ((x.1.isSome=true/\0<=s.1/\s.1<(↑x.2.1:Int))/\aj w1 none (ad x.1 (Ar s.1*1)) (.one .chan) λx=> ∃k,ChL w1 x k/\aG ((↑k:Int)==16) (au w1 (c (0,3,()))) (∀d,Ext w1 d-> ∃(e:Nat),e<n/\I e (aH .i64 s.1 1,()) d)) (ff p 1 w1 λf=>aN w1 ⟨[aa (↑x.2.1:Int)]⟩ 3 λb a=> ∀w1,Ext a w1->mJ w1 3 1 8 ⟨[aa 0]⟩ (f.1,f.2.1,f.2.2) (some ⟨b,0,none⟩,1,1) λ(r:Option A2×Nat×Nat) a=>p.isSome=true/\p.isSome=
 true/\aC a (ad p 1) [.slice r.1 r.2.1 r.2.2] λa=>ff p 1 a λl=> ∃(I:Nat->Int×Unit->A0->Prop),(∃n, ∀w1,Ext a w1->I n (0,()) w1)/\ ∀(n:Nat) (s:Int×Unit) (w1:A0),I n s w1->aG (decide (s.1<(↑x.2.1:Int))) ((x.1.isSome=true/\0<=s.1/\s.1<(↑x.2.1:Int))/\aj w1 none (ad x.1 (Ar s.1*1)) (.one .chan) λx=> ∀h,Ext w1 h-> ∃(r:Nat), ∃(cap:Nat), ∃(j:List AF), ∃(o:Nat), ∃(m:Nat),x=some r/\ChO h r cap j o m/\j.length<cap/\ ∀d,Ext (h.putObj r (Obj.chan cap {toList:=j.append [.agg
 ⟨[aa (↑l.2.1:Int),aa t,aa g]⟩]} false (o+1) m false)) d-> ∃(e:Nat),e<n/\I e (aH .i64 s.1 1,()) d) (au w1 (c ((↑l.2.1:Int),0,())))))))):=by kernel_rfl
theorem KM (p:Option A2) (i:Int) (w:A0) (a:Int->A0->Prop):(aI U0 (λ_=>[]) 82 [ah p,aa i] w a)=(
 ∃x,af AC 106 [ah p,aa i] w (.bool x)/\aG (!x) (au w (a 0)) (ff p 0 w λx=>(x.1.isSome=true/\0<=i/\i<(↑x.2.1:Int))/\aj w none (ad x.1 (i.toNat*1)) (.one .chan) λx=> ∃n,ChL w x n/\au w (a (↑n:Int)))):=by kernel_rfl
theorem Qn (p:Option A2) (i:Int) (w:A0) (b:Bool->A0->Prop):(aI U0 (λ_=>[]) 161 [ah p,aa i] w b)=(
 ((!p.isNone&&decide (i>=1))=true->p.isSome=true)/\((!p.isNone&&decide (i>=1))=true->p.isSome=true)/\aj w (some (!p.isNone&&decide (i>=1))) (ad p 1) fi λx=>((!p.isNone&&decide (i>=1)&&decide (i<=(↑x.2.1:Int)))=true->p.isSome=true)/\((!p.isNone&&decide (i>=1)&&decide (i<=(↑x.2.1:Int)))=true->p.isSome=true)/\aj w (some (!p.isNone&&decide (i>=1)&&decide (i<=(↑x.2.1:Int)))) (ad p 1) fi λa=>((!p.isNone&&decide (i>=1)&&decide (i<=(↑x.2.1:Int)))=true->a.1.isSome=true/\0<=a6 .i64 i 1/\a6 .i64 i 1<
 (↑a.2.1:Int))/\aj w (some (!p.isNone&&decide (i>=1)&&decide (i<=(↑x.2.1:Int)))) (ad a.1 ((a6 .i64 i 1).toNat*1)) aX λ(c:Int)=>au w λw1=>b (!p.isNone&&decide (i>=1)&&decide (i<=(↑x.2.1:Int))&&c==0) w1):=by kernel_rfl
def vZ:Nat->a7:=(λ|5=>[(15,Go.RX.El.one (Go.RX.Sc.int Aq))]| _=>[])
theorem CF (n:Int) (w:A0) (c:Option A2×Int×Unit->A0->Prop):(aI U0 vZ 84 [aa n] w c)=(
 aG (decide (n<1)||decide (n>8)) (au w (c (none,1,()))) (∀w1,Ext w w1->aN (w1.alloc (Obj.map ⟨[]⟩ 0)) ⟨[aa 0,.slice none 0 0,.map (some w1.heap.size)]⟩ 210 λb a=> ∃(I:Nat->Int×Unit->A0->Prop),(∃n, ∀w1,Ext a w1->I n (0,()) w1)/\ ∀(d:Nat) (s:Int×Unit) (w1:A0),I d s w1->aG (decide (s.1<n)) (true=true/\true=true/\s9 w1 (ad (ae b) 1) λx=>aN w1 ⟨[aa (-1)]⟩ 3 λg a=> ∀w1,Ext a w1->mJ w1 3 1 8 ⟨[aa 0]⟩ (x.1,x.2.1,x.2.2) (some ⟨g,0,none⟩,1,1) λ(r:Option A2×Nat×
 Nat) a=>true=true/\true=true/\aC a (ad (ae b) 1) [.slice r.1 r.2.1 r.2.2] λa=> ∀e,Ext a e-> ∃(f:Nat),f<d/\I f (aH .i64 s.1 1,()) e) (au w1 (c (some ⟨b,0,none⟩,0,()))))):=by kernel_rfl
theorem KN (p:Option A2) (w:A0) (a:Bool->A0->Prop):(aI U0 (λ_=>[]) 114 [ah p] w a)=(
 ((!p.isNone)=true->p.isSome=true)/\((!p.isNone)=true->p.isSome=true)/\aj w (some !p.isNone) (ad p 2) On λx=>au w (a (!p.isNone&& !x.isNone))):=by kernel_rfl
theorem UN (p:Option A2) (w:A0) (a:Int->A0->Prop):(aI U0 (λ_=>[]) 237 [ah p] w a)=(
 ∃x,af AC 114 [ah p] w (.bool x)/\aG (!x) (au w (a 0)) (cM p 0 w λx=>au w (a x))):=by kernel_rfl
theorem UO (p:Option A2) (c a:Int) (w:A0) (b:Int->A0->Prop):(aI U0 (λ_=>[]) 203 [ah p,aa c,aa a] w b)=(
 ∃x,af AC 114 [ah p] w (.bool x)/\aG (!x) (au w (b 10)) (((!decide (c<0))=true->p.isSome=true)/\((!decide (c<0))=true->p.isSome=true)/\aj w (some !decide (c<0)) (ad p 1) fi λx=>aG (decide (c<0)||decide (c>=(↑x.2.1:Int))) (au w (b 2)) (ff p 1 w λx=>(x.1.isSome=true/\0<=c/\c<(↑x.2.1:Int))/\aV w (ad x.1 (c.toNat*1)) λx=>aG ((x== -1)==(a== -1)) (au w (b 6)) (ff p 1 w λx=>(x.1.isSome=true/\0<=c/\c<(↑x.2.1:Int))/\aC w (ad x.1 (c.toNat*1)) [aa a] λd=>au d (b 0))))):=by kernel_rfl
theorem UP (p:Option A2) (c:Int) (w:A0) (a:Int->A0->Prop):(aI U0 (λ_=>[]) 200 [ah p,aa c] w a)=(
 ∃(x:Int),af AC 237 [ah p] w (aa x)/\aA AC 203 (.el aX) [ah p,aa c,aa x] w λ(x:Int) b=>au b (a x)):=by kernel_rfl
theorem KO (p:Option A2) (c:Int) (w:A0) (a:Int->A0->Prop):(aI U0 (λ_=>[]) 158 [ah p,aa c] w a)=(
 aA AC 203 (.el aX) [ah p,aa c,aa (-1)] w λ(x:Int) b=>au b (a x)):=by kernel_rfl
theorem UQ (p:Option A2) (f:Int) (w:A0) (a:Int->A0->Prop):(aI U0 (λ_=>[]) 162 [ah p,aa f] w a)=(
 ∃x,af AC 114 [ah p] w (.bool x)/\aG (!x) (au w (a 10)) (aG (decide (f<0)) (au w (a 1)) (tc p 2 w λx=> ∃(d:Int), ∃(b:Bool),mD w x .i64 f (aa 0) (aa d) b/\aG b (au w (a 5)) (tc p 2 w λx=>cM p 0 w λe=> ∀w1,Ext w w1-> ∃(r:Nat), ∃(es:Array B1), ∃(c:Nat),x=some r/\bI w1 r es c/\ib w1 r .i64 f (aa e) es c λg=>au g (a 0))))):=by kernel_rfl
def v7:Nat->a7:=(λ|4=>[(13,Go.RX.El.one (Go.RX.Sc.int Aq))]| _=>[])
theorem UR (p:Option A2) (w:A0) (a:Bool->A0->Prop):(aI U0 v7 197 [ah p] w a)=(
 ∃x,af AC 114 [ah p] w (.bool x)/\aG (!x) (au w (a false)) (ff p 1 w λx=> ∃(I:Nat->Int×Unit->A0->Prop),(∃n, ∀w1,Ext w w1->I n (0,()) w1)/\ ∀(n:Nat) (s:Int×Unit) (w1:A0),I n s w1->aG (decide (s.1<(↑x.2.1:Int))) ((x.1.isSome=true/\0<=s.1/\s.1<(↑x.2.1:Int))/\aV w1 (ad x.1 (Ar s.1*1)) λx=>((x != -1)=true->p.isSome=true)/\((x != -1)=true->p.isSome=true)/\aj w1 (some (x != -1)) (ad p 0) aX λ(d:Int)=>aG (x != -1&&x != d) (au w1 (a false)) (∀b,Ext w1 b-> ∃(c:
 Nat),c<n/\I c (aH .i64 s.1 1,()) b)) (cM p 0 w1 λx=>p.isSome=true/\p.isSome=true/\aC w1 (ad p 0) [aa (aH .i64 x 1)] λe=>au e (a true)))):=by kernel_rfl
theorem KP (a:Int) (c:Option A2) (w:A0) (b:Bool->A0->Prop):(aI U0 (λ_=>[]) 236 [aa a,ah c] w b)=(
 gg w c λx=>cM x 0 w λx=>au w (b (decide (aH .i64 a 2<=x)))):=by kernel_rfl
theorem KQ (a:Int) (w:A0) (b:Bool->A0->Prop):(aI U0 (λ_=>[]) 116 [aa a] w b)=(
 au w (b true)):=by kernel_rfl
def rb:Nat->a7:=(λ|3=>[(5,Go.RX.El.one Go.RX.Sc.slice)]|8=>[(8,Go.RX.El.one (Go.RX.Sc.int Aq))]| _=>[])
theorem KR (m:Option Nat) (c:Option A2) (w:A0) (g:Option A2×Nat×Nat->A0->Prop):(aI U1 rb 115 [.map m,.func (.func 236) #[] #[ah c]] w g)=(
 RgP w m λb a=> ∃(I:Nat->(Option A2×Nat×Nat)×Unit->A0->Prop),(∃n, ∀w1,Ext a w1->I n ((none,0,0),()) w1)/\ ∀(n:Nat) (s:(Option A2×Nat×Nat)×Unit) (w1:A0),I n s w1->NxP w1 (ae b) (λa=>au a (g (s.1.1,s.1.2.1,s.1.2.2))) λ(k v:AF) a=> ∃(x:Int), ∃(y:Int),Aj a (ae b) (aa x) (aa y)/\ ∃h,af AC 236 [aa y,ah c] a (.bool h)/\aG (!h) (∀d,Ext a d-> ∃(e:Nat),e<n/\I e ((s.1.1,s.1.2.1,s.1.2.2),()) d) (aN a ⟨[aa x]⟩ 3 λb a=> ∀w1,
 Ext a w1->mJ w1 3 1 8 ⟨[aa 0]⟩ (s.1.1,s.1.2.1,s.1.2.2) (some ⟨b,0,none⟩,1,1) λ(r:Option A2×Nat×Nat) a=> ∃(f:Nat->Int×Unit->A0->Prop),(∃n, ∀w1,Ext a w1->f n ((↑s.1.2.1:Int),()) w1)/\ ∀(i:Nat) (s:Int×Unit) (w1:A0),f i s w1->(decide (s.1>0)=true->r.1.isSome=true/\0<=a6 .i64 s.1 1/\a6 .i64 s.1 1<(↑r.2.1:Int))/\aj w1 (some (decide (s.1>0))) (ad r.1 ((a6 .i64 s.1 1).toNat*1)) aX λ(j:Int)=>aG (decide (s.1>0)&&decide (j>x)) ((r.1.isSome=true/\0<=a6 .i64 s.1 1/\a6
 .i64 s.1 1<(↑r.2.1:Int))/\aj w1 none (ad r.1 ((a6 .i64 s.1 1).toNat*1)) aX λ(x:Int)=>(r.1.isSome=true/\0<=s.1/\s.1<(↑r.2.1:Int))/\aC w1 (ad r.1 (Ar s.1*1)) [aa x] λa=> ∀d,Ext a d-> ∃(e:Nat),e<i/\f e (a6 .i64 s.1 1,()) d) ((r.1.isSome=true/\0<=s.1/\s.1<(↑r.2.1:Int))/\aC w1 (ad r.1 (Ar s.1*1)) [aa x] λa=> ∀d,Ext a d-> ∃(e:Nat),e<n/\I e ((r.1,r.2.1,r.2.2),()) d))):=by kernel_rfl
def rh:Nat->a7:=(λ|3=>[(5,Go.RX.El.one Go.RX.Sc.slice)]|8=>[(8,Go.RX.El.one (Go.RX.Sc.int Aq))]| _=>[])
theorem KS (m:Option Nat) (w:A0) (f:Option A2×Nat×Nat->A0->Prop):(aI U1 rh 115 [.map m,.func (.func 116) #[] #[]] w f)=(
 RgP w m λb a=> ∃(I:Nat->(Option A2×Nat×Nat)×Unit->A0->Prop),(∃n, ∀w1,Ext a w1->I n ((none,0,0),()) w1)/\ ∀(n:Nat) (s:(Option A2×Nat×Nat)×Unit) (w1:A0),I n s w1->NxP w1 (ae b) (λa=>au a (f (s.1.1,s.1.2.1,s.1.2.2))) λ(k v:AF) a=> ∃(x:Int), ∃(y:Int),Aj a (ae b) (aa x) (aa y)/\ ∃g,af AC 116 [aa y] a (.bool g)/\aG (!g) (∀c,Ext a c-> ∃(d:Nat),d<n/\I d ((s.1.1,s.1.2.1,s.1.2.2),()) c) (aN a ⟨[aa x]⟩ 3 λb a=> ∀w1,Ext a w1->
 mJ w1 3 1 8 ⟨[aa 0]⟩ (s.1.1,s.1.2.1,s.1.2.2) (some ⟨b,0,none⟩,1,1) λ(r:Option A2×Nat×Nat) a=> ∃(e:Nat->Int×Unit->A0->Prop),(∃n, ∀w1,Ext a w1->e n ((↑s.1.2.1:Int),()) w1)/\ ∀(h:Nat) (s:Int×Unit) (w1:A0),e h s w1->(decide (s.1>0)=true->r.1.isSome=true/\0<=a6 .i64 s.1 1/\a6 .i64 s.1 1<(↑r.2.1:Int))/\aj w1 (some (decide (s.1>0))) (ad r.1 ((a6 .i64 s.1 1).toNat*1)) aX λ(i:Int)=>aG (decide (s.1>0)&&decide (i>x)) ((r.1.isSome=true/\0<=a6 .i64 s.1 1/\a6 .i64 s.1 1<
 (↑r.2.1:Int))/\aj w1 none (ad r.1 ((a6 .i64 s.1 1).toNat*1)) aX λ(x:Int)=>(r.1.isSome=true/\0<=s.1/\s.1<(↑r.2.1:Int))/\aC w1 (ad r.1 (Ar s.1*1)) [aa x] λa=> ∀c,Ext a c-> ∃(d:Nat),d<h/\e d (a6 .i64 s.1 1,()) c) ((r.1.isSome=true/\0<=s.1/\s.1<(↑r.2.1:Int))/\aC w1 (ad r.1 (Ar s.1*1)) [aa x] λa=> ∀c,Ext a c-> ∃(d:Nat),d<n/\I d ((r.1,r.2.1,r.2.2),()) c))):=by kernel_rfl
def ug:Nat->a7:=(λ|5=>[(17,Go.RX.El.one (Go.RX.Sc.int Aq))]| _=>[])
theorem Qo (p:Option A2) (w:A0) (c:Option A2×Nat×Nat->A0->Prop):(aI U0 ug 198 [ah p] w c)=(
 aN w ⟨[ah p]⟩ 98 λb a=>gg a (ae b) λx=> ∃e,af AC 114 [ah x] a (.bool e)/\aG (!e) (au a (c (none,0,0))) (gg a (ae b) λx=>tc x 2 a λx=>aA AC 115 (.el fi) [.map x,.func (.func 236) ⟨[]⟩ {toList:=[ah (ae b)]}] a λx a=> ∃(I:Nat->Int×Unit->A0->Prop),(∃n, ∀w1,Ext a w1->I n (0,()) w1)/\ ∀(n:Nat) (s:Int×Unit) (w1:A0),I n s w1->aG (decide (s.1<(↑x.2.1:Int))) ((x.1.isSome=true/\0<=s.1/\s.1<(↑x.2.1:Int))/\aV w1 (ad x.1 (Ar s.1*1)) λx=>
 gg w1 (ae b) λi=>tc i 2 w1 λj=> ∀d,Ext w1 d-> ∃(r:Nat), ∃(es:Array B1), ∃(f:Nat),j=some r/\bI d r es f/\Ai d r .i64 x es f λa=> ∀g,Ext a g-> ∃(h:Nat),h<n/\I h (aH .i64 s.1 1,()) g) (au w1 (c (x.1,x.2.1,x.2.2))))):=by kernel_rfl
theorem Qq (p:Option A2) (w:A0) (a:Option A2×Nat×Nat->A0->Prop):(aI U0 (λ_=>[]) 69 [ah p] w a)=(
 ∃x,af AC 114 [ah p] w (.bool x)/\aG (!x) (au w (a (none,0,0))) (tc p 2 w λx=>aA AC 115 (.el fi) [.map x,.func (.func 116) ⟨[]⟩ ⟨[]⟩] w λx b=>au b (a (x.1,x.2.1,x.2.2)))):=by kernel_rfl
end Go.Proofs.YtlcenllcmeebhaaGreat.Mu
namespace Go.RX
set_option maxRecDepth 100000
open Go.RowKit
def nS:AM->Prop
 | .cells .. =>False
 | _=>True
theorem nS.ne {o:AM} (h:nS o): ∀a t f,o≠ .cells a t f:=λa t f e=>by subst e;exact h
structure cD (D G:List Nat) (w0 w:A0) (L:List (Nat×List AF)) (M:List (Nat×AM)):Prop where
 base:aM D G w0 w L
 obj: ∀x∈M,w.heap[x.1]? =some x.2/\nS x.2
 own: ∀x∈M,w0.heap.size<=x.1\/x.1∈G
 nd:(M.map (·.1)).Nodup
 nD: ∀x∈M,x.1∉D
namespace cD
variable {D G:List Nat} {w0 w w1:A0} {L L':List (Nat×List AF)} {M M':List (Nat×AM)}
theorem ext (H:cD D G w0 w L M) (h:Ext w w1):cD D G w0 w1 L M:=
 ⟨H.base.ext h,λx hx=>⟨h.obj (H.obj x hx).1,(H.obj x hx).2⟩,H.own,H.nd,H.nD⟩
theorem start (G:List Nat) (w:A0):cD [] G w w [] []:=⟨At.start G w,λx hx=>(by cases hx),λx hx=>(by cases hx),FH,λx hx=>(by cases hx)⟩
theorem of (H:aM D G w0 w L):cD D G w0 w L []:=⟨H,λx hx=>(by cases hx),λx hx=>(by cases hx),FH,λx hx=>(by cases hx)⟩
theorem sub (H:cD D G w0 w L M) (h:L'.Sublist L):cD D G w0 w L' M:=⟨H.base.sub h,H.obj,H.own,H.nd,H.nD⟩
theorem perm (H:cD D G w0 w L M) (h:L'.Perm L):cD D G w0 w L' M:=⟨H.base.perm h,H.obj,H.own,H.nd,H.nD⟩
theorem FR (H:cD D G w0 w L M) (h:M'.Sublist M):cD D G w0 w L M':=⟨H.base,λx hx=>H.obj x (h.subset hx),λx hx=>H.own x (h.subset hx),(h.map _).nodup H.nd,λx hx=>H.nD x (h.subset hx)⟩
theorem lE (H:cD D G w0 w L M) (h:M'.Perm M):cD D G w0 w L M':=⟨H.base,λx hx=>H.obj x (h.subset hx),λx hx=>H.own x (h.subset hx),(h.map _).nodup_iff.2 H.nd,λx hx=>H.nD x (h.subset hx)⟩
theorem get (H:cD D G w0 w L M) {i r:Nat} {o:AM} (h:M[i]? =some (r,o)):w.heap[r]? =some o:=(H.obj (r,o) (FJ h)).1
theorem Gg (H:cD D G w0 w L M) {x:Nat×List AF} (hx:x∈L) {y:Nat×AM} (a:y∈M):x.1≠y.1:=
 aM.dg (H.base.dj x hx) (H.obj y a).1 (H.obj y a).2.ne
theorem join (H:cD D G w0 w L M) (K:At (L.map (·.1)) w w1 L'):cD D G w0 w1 L' M:=by
 refine⟨H.base.join (λx hx=>hx) K,λy a=>⟨?_,(H.obj y a).2⟩,H.own,H.nd,H.nD⟩;have h1:=(H.obj y a).1;rw[K.fr.block y.1 (Dq.1 h1).1 (λb=>?_)]
 ·exact h1
 ·obtain⟨x,hx,e⟩:=Ae.1 b;exact H.Gg hx a e
theorem put (H:cD D G w0 w L M) {i r:Nat} {o:AM} (h:M[i]? =some (r,o)) {o':AM} (l:nS o'):cD D G w0 (w.putObj r o') L (M.set i (r,o')):=by
 have a:=FJ h;obtain⟨h1,v⟩:=H.obj _ a;have m:r<w.heap.size:=(Dq.1 h1).1;have n:(M.set i (r,o')).map (·.1)=M.map (·.1):=by
  apply Fy;intro j;rw[FW,FW];by_cases e:i=j
  ·subst e;rw[F6 (Bx.1 h).1,h];rfl
  ·rw[Db e]
 refine⟨⟨⟨H.base.fr.os,H.base.fr.tape,H.base.fr.output,by rw[putObj_size];exact H.base.fr.size,λk p f=>?_⟩,λx hx=>(H.base.dj x hx).putObj (H.Gg hx a) _,H.base.own,H.base.nd,λq c=>⟨(H.base.p9 q c).1,?_⟩⟩,λx hx=>?_,λx hx=>?_,by rw[n];exact H.nd,λx hx=>?_⟩
 ·rw[fG (λe=>?_)]
  ·exact H.base.fr.block k p f
  ·subst e;rcases H.own _ a with d|d
   ·simp only at d;omega
   ·exact f d
 ·rw[fG (λe=>H.nD _ a (by rw[<-e];exact c))];exact(H.base.p9 q c).2
 ·obtain⟨j,b⟩:=Ft hx;by_cases e:i=j
  ·subst e;rw[F6 (Bx.1 h).1] at b;cases b;exact⟨kf m,l⟩
  ·rw[Db e] at b;have g:=H.obj x (FJ b);refine⟨?_,g.2⟩;rw[fG (λs=>?_)]
   ·exact g.1
   ·have t:(M.map (·.1))[i]? =some r:=by rw[FW,h];rfl
    have u:(M.map (·.1))[j]? =some r:=by rw[FW,b];exact congrArg some s
    have:=(I2 (by rw[M5];exact(Bx.1 h).1) H.nd).1 (t.trans u.symm);exact e this
 ·rcases Gd hx with hx|rfl
  ·exact H.own x hx
  ·exact H.own (r,o) a
 ·rcases Gd hx with hx|rfl
  ·exact H.nD x hx
  ·exact H.nD (r,o) a
theorem alloc (H:cD D G w0 w L M) {o:AM} (a:nS o):cD D G w0 (w.alloc o) L ((w.heap.size,o)::M):=by
 have h1:=H.ext (Ext.alloc w o);have b:(w.alloc o).heap[w.heap.size]? =some o:=by
  show(w.heap.push o)[w.heap.size]? =some o;simp
 refine⟨h1.base,λx hx=>?_,λx hx=>?_,?_,λx hx=>?_⟩
 ·rcases B4.1 hx with rfl|hx
  ·exact⟨b,a⟩
  ·exact h1.obj x hx
 ·rcases B4.1 hx with rfl|hx
  ·exact .inl H.base.fr.size
  ·exact H.own x hx
 ·refine BW.2 ⟨λc=>?_,H.nd⟩;obtain⟨y,d,e⟩:=Ae.1 c;have:=(Dq.1 (H.obj y d).1).1;simp only at e;omega
 ·rcases B4.1 hx with rfl|hx
  ·intro f;have:=(Dq.1 (H.base.p9 _ f).2).1;simp only at this;omega
  ·exact H.nD x hx
theorem all (H:cD [] [] w0 w L M):Ext w0 w:=H.base.all
end cD
end Go.RX
namespace Go.Proofs.YtlcenllcmeebhaaGreat
set_option maxRecDepth 100000
open Go.RX
abbrev KV:Type:=Int×AF
abbrev kvE (t:KV):AF×AF:=(aa t.1,t.2)
def iN (es:List B1) (ck:Nat) (a:List KV):Prop:=
 (∃p:List KV,p.Perm a/\es.map (λe=>(e.key,e.val))=p.map kvE)/\(es.map (·.born)).Nodup/\(∀e∈es,e.born<ck)/\(a.map (·.1)).Nodup
theorem iN.nil:iN [] 0 []:=⟨⟨[],List.Perm.nil,rfl⟩,FH,λe a=>(by cases a),FH⟩
theorem I6 {es:List B1} {p:List KV} (h:es.map (λe=>(e.key,e.val))=p.map kvE) (g:Int) (i0:Nat):
 GG (.int .i64) (aa g) es i0=some (match p.findIdx? (λt=>t.1==g) with
  |some i=>some (i0+i,(p.getD i (0,undef)).2)
  |none=>none):=by
 induction es generalizing p i0 with
 |nil=>
  cases p with
  |nil=>rfl
  |cons t p=>simp at h
 |cons e es d=>
  cases p with
  |nil=>simp at h
  |cons t p=>
   simp only[Cg,List.cons.injEq] at h;obtain⟨h1,f⟩:=h;have j:e.key=aa t.1:=congrArg (·.1) h1;have hv:e.val=t.2:=congrArg (·.2) h1;unfold GG;rw[j];have hs:Instr.sameNow (.int .i64) (aa g) (aa t.1)=some (g==t.1):=by
    show(if Aq=Aq then some (g==t.1) else none)= _;rw[av rfl]
   rw[hs,List.findIdx?_cons];by_cases a:t.1=g
   ·have b:(g==t.1)=true:=by simp[a]
    have c:(t.1==g)=true:=by simp[a]
    rw[b,av c];dsimp only;rw[hv];rfl
   ·have b:(g==t.1)=false:=by simp;exact λe=>a e.symm
    have c: ¬ (t.1==g)=true:=by simp[a]
    rw[b,ao c];dsimp only;rw[d f (i0+1)];cases p.findIdx? (λt=>t.1==g) with
    |none=>rfl
    |some i=>
     show some (some (i0+1+i, _))=some (some (i0+(i+1), _));rw[show i0+1+i=i0+(i+1) by omega];rfl
theorem qt {α β:Type} (f:α->β): ∀(l:List α) (i:Nat),(l.eraseIdx i).map f=(l.map f).eraseIdx i
 |[],i=>by simp
 |a::l,0=>rfl
 |a::l,i+1=>by
  simp only[List.eraseIdx_cons_succ,Cg];rw[qt f l i]
theorem iN.FA {es:List B1} {ck:Nat} {d:List KV} (h:iN es ck d) {g:Int} {v:AF} (y:(g,v)∈d): ∃i,GG (.int .i64) (aa g) es 0=some (some (i,v))/\i<es.length/\iN (es.eraseIdx i) ck (d.filter λt=> !(t.1==g)):=by
 obtain⟨⟨p,h1,f⟩,z,A,l⟩:=h;have m:(p.map (·.1)).Nodup:=(h1.map _).nodup_iff.2 l;have n:=h1.mem_iff.2 y;have o:=I6 f g 0;cases b:p.findIdx? (λt=>t.1==g) with
 |none=>
  have:=Mr.1 b _ n;simp at this
 |some i=>
  rw[b] at o;rw[List.findIdx?_eq_some_iff_getElem] at b;obtain⟨hi,hg, _⟩:=b;have c:p[i]? =some p[i]:=E5 hi;have q:p.getD i (0,undef)=p[i]:=by rw[N2,c];rfl
  obtain⟨t,r⟩: ∃t,t=p[i]:=⟨_,rfl⟩;rw[<-r] at c q hg;have hg:t.1=g:=by simpa using hg
  have B:t=(g,v):=by
   obtain⟨j,k⟩:=Ft n;have C:(p.map (·.1))[i]? =some g:=by rw[FW,c];exact congrArg some hg
   have D:(p.map (·.1))[j]? =some g:=by rw[FW,k];rfl
   have:=(I2 (by rw[M5];exact hi) m).1 (C.trans D.symm);subst this;rw[c] at k;exact Option.some.inj k
  have H:es.length=p.length:=by
   have:=congrArg List.length f;simpa using this
  refine⟨i,by rw[o];dsimp only;rw[q,B,Ct],by omega,⟨p.eraseIdx i,?_,?_⟩,?_,?_,?_⟩
  ·have E:p.eraseIdx i=p.filter λt=> !(t.1==g):=by
    have s:p=p.take i++t::p.drop (i+1):=by
     conv=>lhs;rw[<-Ds i p]
     rw[N4 hi, <-r]
    have u: ∀x∈p.take i++p.drop (i+1),x.1≠g:=by
     intro x hx e;have w:=m;rw[s,FB,Cg] at w;have F:=(B3 (a:=t.1) (l₁:=(p.take i).map (·.1)) (l₂:=(p.drop (i+1)).map (·.1))).nodup_iff.1 w;have:=(BW.1 F).1;refine this ?_;rw[hg, <-e, <-FB];exact Ae.2 ⟨x,hx,rfl⟩
    rw[N5]
    conv=>rhs;rw[s]
    rw[List.filter_append,List.filter_cons_of_neg (by simp[hg])];rw[In.2 (λx hx=>by have:=u x (Dk _ hx);simpa using this),In.2 (λx hx=>by have:=u x (Dn _ hx);simpa using this)]
   rw[E];exact h1.filter _
  ·rw[qt,f,qt]
  ·rw[qt];exact z.sublist (List.eraseIdx_sublist _ _)
  ·exact λe G=>A e (List.mem_of_mem_eraseIdx G)
  ·exact l.sublist ((List.filter_sublist).map _)
theorem iN.Ou {es:List B1} {ck:Nat} {a:List KV} (h:iN es ck a) {g:Int} (c: ∀t∈a,t.1≠g):GG (.int .i64) (aa g) es 0=some none:=by
 obtain⟨⟨p,h1,d⟩, _, _, _⟩:=h;have b:=I6 d g 0;rw[Mr.2 λt e=>by have:=c t (h1.mem_iff.1 e);simpa using this] at b;exact b
theorem iN.push {es:List B1} {ck:Nat} {a:List KV} (h:iN es ck a) {g:Int} (v:AF) (d: ∀t∈a,t.1≠g):iN (es++[{key:=aa g,val:=v,born:=ck}]) (ck+1) ((g,v)::a):=by
 obtain⟨⟨p,h1,f⟩,i,b,j⟩:=h;refine⟨⟨p++[(g,v)],(LL _ _).trans (h1.cons _),?_⟩,?_,?_,?_⟩
 ·rw[FB,f,FB];rfl
 ·rw[FB];refine Gj.2 ⟨i,by simp,λx hx y c e=>?_⟩;obtain⟨e',he,rfl⟩:=Ae.1 hx;have c:y=ck:=by simpa using c
  have:=b e' he;omega
 ·intro e he;rcases FV.1 he with he|he
  ·have:=b e he;omega
  ·have:e={key:=aa g,val:=v,born:=ck}:=by simpa using he
   subst this;exact Hb _
 ·refine BW.2 ⟨λk=>?_,j⟩;obtain⟨x,hx,e⟩:=Ae.1 k;exact d x hx e
theorem iN.aci {es:List B1} {ck:Nat} {b:List KV} (h:iN es ck b):(∀e∈es, ∃t∈b,e.key=aa t.1/\e.val=t.2)/\ ∀t∈b, ∃e∈es,e.key=aa t.1/\e.val=t.2:=by
 obtain⟨⟨p,f,g⟩, _⟩:=h;refine⟨λe c=>?_,λt d=>?_⟩
 ·have:(e.key,e.val)∈p.map kvE:=by rw[<-g];exact Ae.2 ⟨e,c,rfl⟩
  obtain⟨t,d,a⟩:=Ae.1 this;exact⟨t,f.mem_iff.1 d,(congrArg (·.1) a).symm,(congrArg (·.2) a).symm⟩
 ·have:kvE t∈es.map λe=>(e.key,e.val):=by rw[g];exact Ae.2 ⟨t,f.mem_iff.2 d,rfl⟩
  obtain⟨e,c,a⟩:=Ae.1 this;exact⟨e,c,congrArg (·.1) a,congrArg (·.2) a⟩
end Go.Proofs.YtlcenllcmeebhaaGreat
namespace Go.Proofs.YtlcenllcmeebhaaGreat.Mu
set_option maxRecDepth 100000
open Go.RX
abbrev eI:El:= .one (.int .i64)
abbrev oN (now:Int) (s:Option A2×Nat×Nat) (mb:Nat):List AF:=[aa now,.slice s.1 s.2.1 s.2.2,.map (some mb)]
section
variable {D G:List Nat} {w0 w:A0} {L Ls:List (Nat×List AF)} {M:List (Nat×AM)} {s:Option A2×Nat×Nat} {pins:List Int} {now:Int} {eb mb:Nat}
theorem m6 (H:aM D G w0 w L) (a:(eb,oN now s mb)∈L):af AC 114 [ah (ae eb)] w (.bool true):=by
 refine af.of λw' h'=>ai (AJ (KN _ w' _) ?_);exact⟨λ_=>rfl,λ_=>rfl,aj.kV (H.ext h') a (rfl) (by grind)⟩
theorem ZF (H:aM D G w0 w L) (a:(eb,oN now s mb)∈L):af AC 237 [ah (ae eb)] w (aa now):=by
 refine af.of λw' h'=>ai (C:=U0) (aW:=λ_=>[]) (AJ (UN _ w' _) ?_);exact⟨_,m6 (H.ext h') a,an rfl ⟨rfl,rfl,aj.kV (H.ext h') a (rfl) λw1 h1=>⟨rfl,h1⟩⟩⟩
def Ao (pins:List Int) (c:Nat) (a:Int):List Int:=if(pins.getD c 0== -1)=(a== -1) then pins else pins.set c a
theorem IG {e:El} {xs:List e.T} (h:dv e s xs Ls) (H:aM D G w0 w (Ls++L)) {i:Nat} {x:e.T} (hx:xs[i]? =some x):s.1.isSome=true/\cU w (ad s.1 (i*aD e)) e x:=
 h.sl H (by grind) i x hx
theorem I7 (H:aM D G w0 w ((eb,oN now s mb)::(Ls++L))) (hs:dv eI s pins Ls) (c:Nat) (hc:c<pins.length) (a:Int) {K:Int->A0->Prop}
 (k: ∀v d b,dv eI s (Ao pins c a) d->aM D G w0 b ((eb,oN now s mb)::(d++L))->K v b):
 aA AC 203 (.el (.one (.int .i64))) [ah (ae eb),aa (c:Int),aa a] w K:=by
 refine aA.go H λw1 H=>ai (C:=U0) (aW:=λ_=>[]) (AJ (UO _ _ _ w1 K) ?_);have i:=hs.1;have hx:pins[c]? =some (pins.getD c 0):=by grind
 have h0:(decide ((c:Int)<0))=false:=decide_eq_false (by omega);have f:aM D G w0 w1 (Ls++((eb,oN now s mb)::L)):=H.perm B3;refine⟨_,m6 H Ci,an rfl ⟨λ_=>rfl,λ_=>rfl,aj.cw 0 H rfl (show _=some (s.1,s.2.1,s.2.2) from rfl) ?_⟩⟩;refine an (by grind) ⟨rfl,rfl,aj.cw 0 H rfl (show _=some (s.1,s.2.1,s.2.2) from rfl) ⟨⟨(IG hs f hx).1,by omega,by dsimp only;omega⟩,aj.of (pins.getD c 0) (by dsimp only;rw[Dw];exact(IG hs f hx).2) ?_⟩⟩;refine ab (λe=>au.go H λb H=>?_) (λe=>⟨rfl,rfl,aj.cw 0 H rfl (show _=some (s.1,s.2.1,s.2.2) from rfl) ⟨⟨(IG hs f hx).1,by omega,by dsimp only;omega⟩,?_⟩⟩)
 ·refine k 6 Ls b ?_ H;unfold Ao;rw[av (by simpa using e)];exact hs
 ·dsimp only;rw[Dw];refine hs.st f hc a rfl rfl λd b j g=>au.go g λh g=>k 0 d h ?_ (g.perm B3.symm);unfold Ao
  grind
theorem US (H:aM D G w0 w ((eb,oN now s mb)::(Ls++L))) (hs:dv eI s pins Ls) (c:Nat) (hc:c<pins.length) {K:Int->A0->Prop}
 (k: ∀v a b,dv eI s (Ao pins c now) a->aM D G w0 b ((eb,oN now s mb)::(a++L))->K v b):
 aA AC 200 (.el (.one (.int .i64))) [ah (ae eb),aa (c:Int)] w K:=by
 refine aA.go H λw1 H=>ai (AJ (UP _ _ w1 K) ?_);exact⟨now,ZF H Ci,I7 H hs c hc now λv a b e d=>au.go d (by grind)⟩
theorem KT (H:aM D G w0 w ((eb,oN now s mb)::(Ls++L))) (hs:dv eI s pins Ls) (c:Nat) (hc:c<pins.length) {K:Int->A0->Prop}
 (k: ∀v a b,dv eI s (Ao pins c (-1)) a->aM D G w0 b ((eb,oN now s mb)::(a++L))->K v b):
 aA AC 158 (.el (.one (.int .i64))) [ah (ae eb),aa (c:Int)] w K:=by
 refine aA.go H λw1 H=>ai (AJ (KO _ _ w1 K) ?_);exact I7 H hs c hc _ λv a b e d=>au.go d (by grind)
def Kp (pins:List Int) (now:Int):Int:=if pins.all (λp=>p== -1||p==now)=true then now+1 else now
theorem UT (H:aM D G w0 w ((eb,oN now s mb)::(Ls++L))) (hs:dv eI s pins Ls) (t:pins.length<=8) (u:0<=now/\now<4611686018427387904) {K:Bool->A0->Prop}
 (k: ∀v a,aM D G w0 a ((eb,oN (Kp pins now) s mb)::(Ls++L))->K v a):
 aA AC 197 (.el (.one .bool)) [ah (ae eb)] w K:=by
 refine aA.go H λw1 H=>ai (C:=U0) (aW:=v7) (AJ (UR _ w1 K) ?_);have h:=hs.1;refine⟨_,m6 H Ci,an rfl ⟨rfl,rfl,aj.cw 0 H rfl (show _=some (s.1,s.2.1,s.2.2) from rfl) ?_⟩⟩;refine⟨λn st a=> ∃j:Nat,j<=pins.length/\n=pins.length - j/\st.1=(j:Int)/\(pins.take j).all (λp=>p== -1||p==now)=true/\aM D G w0 a ((eb,oN now s mb)::(Ls++L)),⟨pins.length,λa l=>⟨0,GD _,rfl,rfl,rfl,H.ext l⟩⟩,?_⟩;rintro n ⟨i, _⟩ a ⟨j,f,m,hi,b,H⟩;have hi:i=(j:Int):=hi;subst hi m;dsimp only;rw[h];have o:aM D G w0 a (Ls++((eb,oN now s mb)::L)):=H.perm B3;refine ab (λc=>?_) (λc=>?_)
 ·have f:j<pins.length:=by have:=of_decide_eq_true c;omega
  obtain⟨x,hx⟩: ∃x,pins[j]? =some x:=⟨_,E5 f⟩;have g:=IG hs o hx;refine⟨⟨g.1,by omega,by omega⟩,aj.of x (by rw[Dw];exact g.2) ⟨λ_=>rfl,λ_=>rfl,aj.cw 0 H rfl (show _=some now from rfl) ?_⟩⟩;refine ab (λc=>au.go H λd H=>k false d ?_) (λc d q=>⟨pins.length - (j+1),by omega,j+1,by omega,rfl,?_,?_,H.ext q⟩)
  ·have:Kp pins now=now:=by
    unfold Kp;refine ao λhc=>?_;have:=List.all_eq_true.1 hc x (FJ hx)
    grind
   rw[this];exact H
  ·rw[ay (by omega) (by omega)];omega
  ·rw[H5,hx,List.all_append,b,GS]
   grind
 ·have:j=pins.length:=by have:=of_decide_eq_false c;omega
  subst this;rw[Ip] at b;have e:Kp pins now=now+1:=av b;rw[e] at k;refine⟨rfl,rfl,aj.cw 0 H rfl (show _=some now from rfl) ⟨rfl,rfl,?_⟩⟩;rw[ay (by omega) (by omega)];exact aC.gP 0 H rfl rfl rfl λd H=>au.go H λr H=>k true r H
end
section
variable {D G:List Nat} {w0 w:A0} {L:List (Nat×List AF)} {M:List (Nat×AM)} {s:Option A2×Nat×Nat} {ws:List KV} {es:List B1} {now:Int} {eb mb ck:Nat}
def Ov (ws:List KV) (f now:Int):List KV:=if ws.any (λx=>x.1==f)=true then ws else(f,aa now)::ws
theorem UU (H:cD D G w0 w L ((mb,.map ⟨es⟩ ck)::M)) (b:(eb,oN now s mb)∈L) (hv:iN es ck ws) (o: ∀t∈ws, ∃x,t.2=aa x) (f:Int) (y:0<=f) {K:Int->A0->Prop}
 (k: ∀v g h a,iN g h (Ov ws f now)->cD D G w0 a L ((mb,.map ⟨g⟩ h)::M)->K v a):
 aA AC 162 (.el (.one (.int .i64))) [ah (ae eb),aa f] w K:=by
 refine λw1 h1=>ai (C:=U0) (aW:=λ_=>[]) (AJ (UQ _ _ w1 K) ?_);have H:=H.ext h1;refine⟨_,m6 H.base b,an rfl (an (decide_eq_false (by omega)) ⟨rfl,rfl,aj.kV H.base b (show _=some (some mb) from rfl) ?_⟩)⟩;have j:bI w1 mb ⟨es⟩ ck:=H.get (i:=0) rfl;by_cases l: ∃v,(f,v)∈ws
 ·obtain⟨v,c⟩:=l;obtain⟨x,hx⟩:=o _ c;dsimp only at hx;subst hx;obtain⟨i,hi, _⟩:=hv.FA c;refine⟨x,true,⟨mb, _, _,rfl,j,by rw[hi];exact⟨rfl,rfl⟩⟩,aB rfl λa d=>?_⟩;have e:Ov ws f now=ws:=av (NK.2 ⟨_,c,by simp⟩);rw[e] at k;exact k 5 es ck a hv (H.ext d)
 ·have m: ∀t∈ws,t.1≠f:=λt p e=>l ⟨t.2,by rw[<-e];exact p⟩;have n:=hv.Ou m;refine⟨0,false,⟨mb, _, _,rfl,j,by rw[n];exact⟨rfl,rfl⟩⟩,an rfl ⟨rfl,rfl,aj.kV H.base b (show _=some (some mb) from rfl) ⟨rfl,rfl,aj.kV H.base b (show _=some now from rfl) λa d=>?_⟩⟩⟩;have H:=H.ext d;refine⟨mb, _, _,rfl,H.get (i:=0) rfl,?_⟩;unfold ib;rw[n];have H:=H.put (i:=0) rfl (o':= .map ⟨es++[{key:=aa f,val:=aa now,born:=ck}]⟩ (ck+1)) trivial;have q:(K1 es).push {key:=aa f,val:=aa now,born:=ck}=⟨es++[{key:=aa f,val:=aa now,born:=ck}]⟩:=by apply J9;simp
  have e:Ov ws f now=(f,aa now)::ws:=ao (by grind);rw[e] at k;show au _ _;rw[q];exact λr u=>k 0 _ _ r (hv.push _ m) (H.ext u)
end
abbrev Dm:Type:=Int×Int×Int×Int×Unit
def lnR (l:Dm):Bool:=decide (l.1>=1)&&decide (l.1<=16)&&decide (l.2.1>=0)&&decide (l.2.1<65536)&&decide (l.2.2.1>=0)&&decide (l.2.2.1<4096)&&decide (l.2.2.2.1>=1)&&decide (l.2.2.2.1<=7)
def my (l:Dm) (t p:Int):Bool:=l.1==t&&l.2.1==p
abbrev lnV (l:Dm):AF:= .agg ⟨[aa l.1,aa l.2.1,aa l.2.2.1,aa l.2.2.2.1]⟩
theorem Qr (l:Dm) (w:A0):af AC 204 [lnV l] w (.bool (lnR l)):=by
 obtain⟨t,p,f,r, _⟩:=l;refine af.of (s:= .el (.one .bool)) λw' _=>ai (C:=U0) (aW:=λ_=>[]) (AJ (KH t p f r w' _) ?_);have H:=At.start [] w'
 repeat' (first
  |exact Go.RX.aM.all H
  |exact And.intro (by first|rfl|decide+kernel) (Go.RX.aM.all H)
  |simp
  |refine aj.cw 0 H rfl rfl ?_
  |refine aj.at 0 H rfl rfl ?_
  |refine aN.go H λb w1 H=>?_
  |with_reducible refine au.go H λw1 H=>?_
  |refine kq ?_
  |refine an (by assumption) ?_
  )
theorem Xv (l:Dm) (a b:Int) (w:A0):af AC 150 [lnV l,aa a,aa b] w (.bool (my l a b)):=by
 obtain⟨t,p,f,r, _⟩:=l;refine af.of (s:= .el (.one .bool)) λw' _=>ai (C:=U0) (aW:=λ_=>[]) (AJ (ZE t p f r a b w' _) ?_);have H:=At.start [] w';refine aN.go H λc w1 H=>aj.at 0 H rfl (rfl) ⟨rfl,aj.cw 0 H rfl rfl ⟨rfl,aj.cw 0 H rfl rfl (au.go H λw1 H=>⟨?_,H.all⟩)⟩⟩;show(t==a&&(p==b&&(f==f&&(r==r&&true))))=(t==a&&p==b);simp
abbrev dA (s:Option A2×Nat×Nat) (sz:Int):List AF:=[.slice s.1 s.2.1 s.2.2,aa sz]
section
variable {D G:List Nat} {w0 w:A0} {L Ls:List (Nat×List AF)} {s:Option A2×Nat×Nat} {ls:List Dm} {sz:Int} {tb:Nat}
theorem pI (H:aM D G w0 w L) (a:(tb,dA s sz)∈L) (b:0<sz):af AC 140 [ah (ae tb)] w (.bool true):=by
 refine af.of λw' h'=>ai (AJ (KI _ w' _) ?_);refine⟨λ_=>rfl,λ_=>rfl,aj.kV (H.ext h') a rfl λw1 h1=>⟨?_,h1⟩⟩
 grind
theorem Pn {α:Type} {a b:α} {m l:Nat} (h:m=l):(FX (λ_=>a) (λ_=>b) (instDecidableEqNat m l):α)=b:=by
 generalize instDecidableEqNat m l=d;cases d with
 |isTrue
 |isFalse=>grind
theorem Gl {α:Type} {a b:α} {m l:Nat} (h:m≠l):(FX (λ_=>a) (λ_=>b) (instDecidableEqNat m l):α)=a:=by
 generalize instDecidableEqNat m l=d;cases d with
 |isTrue=>grind
 |isFalse=>rfl
theorem I8 (H:aM D G w0 w ((tb,dA s sz)::(Ls++L))) (hs:dv kz s ls Ls) (O:(ls.length:Int)<=64) (i:Nat) (hi:i<ls.length) {K:Unit->A0->Prop}
 (k: ∀s' b a,dv kz s' (ls.eraseIdx i) b->aM D G w0 a ((tb,dA s' sz)::(b++L))->K () a):
 aA AC 196 (.bA []) [ah (ae tb),aa (i:Int)] w K:=by
 refine aA.go H λw1 H=>ai (C:=U0) (aW:=λ_=>[]) (AJ (UJ _ _ w1 K) ?_);obtain⟨p,n,c⟩:=s;have o:=hs;obtain⟨h1,e,h⟩:=hs;have h1:n=ls.length:=h1;have e:ls.length<=c:=e;subst h1;have P:=e;have l:aH .i64 (i:Int) 1=((i+1:Nat):Int):=by rw[ay (by omega) (by omega)];omega
 obtain⟨bs,rest,a1,u,v⟩: ∃bs rest,p=some ⟨bs,0,none⟩/\Ls=[(bs,flat kz ls++rest)]/\c*aD kz<=(flat kz ls++rest).length:=by
  rcases h with ⟨_,q, _⟩|q
  ·have:c=0:=q;omega
  ·exact q
 subst a1 u;refine⟨rfl,rfl,aj.cw 0 H rfl rfl ⟨?_,rfl,rfl,aj.cw 0 H rfl rfl ⟨?_,λa x=>?_⟩⟩⟩
 ·dsimp only;omega
 ·rw[l];dsimp only;omega
 have H:=H.ext x;rw[l];dsimp only;have y:oP a (if((c:Int)).toNat=((i+1:Nat):Int).toNat then(some ⟨bs,0,none⟩:Option A2) else ad (ae bs) (((i+1:Nat):Int).toNat*4)) ((((ls.length:Nat):Int).toNat - ((i+1:Nat):Int).toNat)*aD kz) (flat kz (ls.drop (i+1))):=by
  have A:=H.get (i:=1) rfl;by_cases hc:c=i+1
  ·have:ls.drop (i+1)=[]:=I1 (by omega);rw[this,av (by omega),show((((ls.length:Nat):Int).toNat - ((i+1:Nat):Int).toNat))=0 by omega];exact⟨rfl,λj f=>by simp at f⟩
  ·rw[ao (by omega),aY];refine A.oP ?_ λj f=>?_
   ·rw[aF,Fz];congr 1
   ·have m:flat kz ls=flat kz (ls.take (i+1))++flat kz (ls.drop (i+1)):=by rw[<-dO,Ds]
    have Q:(flat kz (ls.take (i+1))).length=(i+1)*aD kz:=by rw[aF,Cj,GF (by omega)]
    have S:0+((i+1:Nat):Int).toNat*4=(i+1)*aD kz:=by
     show 0+(i+1)*4=(i+1)*4;omega
    have T:j<(flat kz (ls.drop (i+1))).length:=by
     rw[aF,Fz];refine HB f (GJ _ (by omega))
    grind
 have B:dv kz (some ⟨bs,0,none⟩,i,i) (ls.take i) [(bs,flat kz (ls.take i)++(flat kz (ls.drop i)++rest))]:=by
  refine⟨by rw[Cj,GF (by omega)],by rw[Cj,GF (by omega)];exact Do _,.inr ⟨bs, _,rfl,rfl,?_⟩⟩;rw[<-F8, <-dO,Ds];exact DE (GJ _ (show i<=c by clear e o h;omega)) v
 have E:flat kz ls++rest=flat kz (ls.take i)++(flat kz (ls.drop i)++rest):=by rw[<-F8, <-dO,Ds]
 have F:aM D G w0 a ([(bs,flat kz (ls.take i)++(flat kz (ls.drop i)++rest))]++((tb,dA (some ⟨bs,0,none⟩,ls.length,c) sz)::L)):=by
  rw[<-E];exact H.perm (FG _ _ _)
 have m:(FX (λ_=>ad (ae bs) (((i+1:Nat):Int).toNat*4)) (λ_=>(some ⟨bs,0,none⟩:Option A2)) (instDecidableEqNat ((c:Int)).toNat ((i+1:Nat):Int).toNat):Option A2)=if((c:Int)).toNat=((i+1:Nat):Int).toNat then(some ⟨bs,0,none⟩:Option A2) else ad (ae bs) (((i+1:Nat):Int).toNat*4):=by
  by_cases hc:((c:Int)).toNat=((i+1:Nat):Int).toNat
  ·rw[av hc,Pn hc]
  ·rw[ao hc,Gl hc]
 have key:=aM.Uk F B (show im kz=true from rfl) (q:=(if((c:Int)).toNat=((i+1:Nat):Int).toNat then(some ⟨bs,0,none⟩:Option A2) else ad (ae bs) (((i+1:Nat):Int).toNat*4),((ls.length:Nat):Int).toNat - ((i+1:Nat):Int).toNat,((c:Int)).toNat - ((i+1:Nat):Int).toNat)) (ys:=ls.drop (i+1)) (by rw[Fz];show((ls.length:Nat):Int).toNat - ((i+1:Nat):Int).toNat= _;omega) y
  (t:=96) (size:=4) (bytes:=32) (z:=⟨[aa 0,aa 0,aa 0,aa 0]⟩) rfl rfl (by rw[Cj,Fz];omega)
  (R:=λr a=>(some (⟨tb,0,none⟩:A2)).isSome=true/\(some (⟨tb,0,none⟩:A2)).isSome=true/\aC a (ad (ae tb) 0) [Value.slice r.1 r.2.1 r.2.2] λa=>au a λw1=>K () w1) λs' b U I g=>?_
 ·rw[m];have:((i:Int)).toNat - 0=i:=by omega
  rw[this];generalize (instDecidableEqNat ((i:Int)).toNat 0:Decidable (((i:Int)).toNat=((0:Nat):Int).toNat))=d;cases d<;>exact key
 ·refine⟨rfl,rfl,?_⟩;have g:=g.perm (L':=(tb,dA (some ⟨bs,0,none⟩,ls.length,c) sz)::(b++L)) B3.symm;refine aC.gP 0 g rfl rfl rfl λV J=>au.go J λM N=>k s' b M ?_ N;rw[N5];exact I
theorem v8 {α:Type} {ls:List α} {j:Nat} {x:α} (f:α->Bool) (hx:ls[j]? =some x):ls.take (j+1)++(ls.drop (j+1)).filter f=ls.take j++([x]++(ls.drop (j+1)).filter f):=by grind[H5]
theorem jt {α:Type} {ls:List α} {j:Nat} {x:α} (hx:ls[j]? =some x):ls.drop j=x::ls.drop (j+1):=by grind[N4]
def SwI (D G:List Nat) (w0:A0) (L:List (Nat×List AF)) (tb:Nat) (sz:Int) (ls:List Dm) (is:Dm->Bool) (n:Nat) (s:Int×Int×Unit) (w:A0):Prop:=
 n<=ls.length/\s.1=(((ls.drop n).countP is:Nat):Int)/\s.2.1=(n:Int) - 1/\ ∃sl Ls,dv kz sl (ls.take n++(ls.drop n).filter (λl=> !is l)) Ls/\aM D G w0 w ((tb,dA sl sz)::(Ls++L))
theorem zB {is:Dm->Bool} (I:(ls.length:Int)<=64) {n:Nat} {s:Int×Int×Unit} (t:SwI D G w0 L tb sz ls is n s w) {Q:Dm->Bool->Prop} {K:Int->A0->Prop} {N:Int->Int->A0->Prop}
 (u: ∀{sl Ls},aM D G w0 w ((tb,dA sl sz)::(Ls++L))-> ∀x,Q x (is x))
 (v: ∀{sl Ls d},dv kz sl (ls.filter (λl=> !is l)) Ls->aM D G w0 d ((tb,dA sl sz)::(Ls++L))->K ((ls.countP is:Nat):Int) d)
 (k: ∀(a b:Int) (d:A0),(∃m,m<n/\SwI D G w0 L tb sz ls is m (a,b,()) d)->N a b d):
 aG (decide (s.2.1>=0)) ((some (⟨tb,0,none⟩:A2)).isSome=true/\(some (⟨tb,0,none⟩:A2)).isSome=true/\aj w none (ad (ae tb) 0) (.one .slice) λx=>(x.1.isSome=true/\0<=s.2.1/\s.2.1<((x.2.1:Nat):Int))/\aj w none (ad x.1 (Ar s.2.1*4)) kz λx=> ∃o:Bool,Q x o/\
  aG o (aA AC 196 (.bA []) [ah (ae tb),aa s.2.1] w λ_ d=> ∀e,Ext d e->N (aH .i64 s.1 1) (a6 .i64 s.2.1 1) e) (∀e,Ext w e->N s.1 (a6 .i64 s.2.1 1) e))
  (au w λw1=>K s.1 w1):=by
 obtain⟨s1,z,J⟩:=s;obtain⟨h1,i,f,sl,Ls,hs,H⟩:=t;have i:s1=(((ls.drop n).countP is:Nat):Int):=i;have f:z=(n:Int) - 1:=f;subst i f;refine ab (λc=>?_) (λc=>?_)
 ·obtain⟨j,rfl⟩: ∃j,n=j+1:=⟨n - 1,by have:=of_decide_eq_true c;dsimp only at this;omega⟩;obtain⟨x,hx⟩: ∃x,ls[j]? =some x:=⟨_,E5 (by omega)⟩;have hc:((((ls.drop (j+1)).countP is:Nat):Int))<=ls.length:=by
   have:=List.countP_le_length (p:=is) (l:=ls.drop (j+1));rw[Fz] at this;omega
  have A:((j+1:Nat):Int) - 1=(j:Int):=by omega
  have B:a6 .i64 (j:Int) 1=(j:Int) - 1:=bF (by omega) (by omega);have q:=(hs.sl H (λy C=>Bs _ (Dk _ C))) j x (by
   rw[v8 _ hx,Kh (by rw[Cj];omega),Cj,GF (by omega),J5];rfl)
  have M:=hs.1;dsimp only;rw[A,B];refine⟨rfl,rfl,aj.cw 0 H rfl rfl ⟨⟨q.1,by omega,?_⟩,aj.of x ?_ ⟨is x,u H x,?_⟩⟩⟩
  grind
  ·dsimp only;rw[Dw];exact q.2
  rw[v8 _ hx] at hs;have g:(ls.drop j).countP is=(ls.drop (j+1)).countP is+if is x=true then 1 else 0:=by rw[jt hx,List.countP_cons]
  cases h:is x with
  |true=>
   rw[h,av rfl] at g;refine aB rfl (I8 H hs ?_ j ?_ λs' E d r F e f=>k _ _ _ ⟨j,Hb j,by omega,?_,rfl,s',E,?_,F.ext f⟩)
   grind
   grind
   ·dsimp only;rw[ay (by omega) (by omega),g];omega
   ·rw[List.eraseIdx_append_of_length_le (by rw[Cj];omega),Cj,GF (by omega),J5] at r;rw[jt hx,G1,h];exact r
  |false=>
   rw[h,ao (by decide)] at g;refine an rfl λe f=>k _ _ _ ⟨j,Hb j,by omega,?_,rfl,sl,Ls,?_,H.ext f⟩
   ·dsimp only;rw[g];rfl
   ·rw[jt hx,G1,h];exact hs
 ·have:n=0:=by
   have:=of_decide_eq_false c;dsimp only at this;omega
  subst this;rw[List.drop_zero];exact au.go H λd H=>v hs H
theorem Hd (H:aM D G w0 w ((tb,dA s sz)::(Ls++L))) (hs:dv kz s ls Ls) (i:(ls.length:Int)<=64) (j:0<sz) {c d:Nat} {t g:Int} (hc:(c,[aa t])∈L) (m:(d,[aa g])∈L) {K:Int->A0->Prop}
 (k: ∀s' f e,dv kz s' (ls.filter λl=> !my l t g) f->aM D G w0 e ((tb,dA s' sz)::(f++L))->K ((ls.countP (λl=>my l t g):Nat):Int) e):
 aA AC 147 (.el (.one (.int .i64))) [ah (ae tb),.func (.func 149) #[] #[ah (ae c),ah (ae d)]] w K:=by
 refine aA.go H λw1 H=>ai (C:=U0) (aW:=pW) (AJ (G9 _ _ _ w1 K) ?_);have o:=hs.1;refine⟨_,pI H (Ci) j,an rfl ⟨rfl,rfl,aj.cw 0 H rfl rfl ⟨SwI D G w0 L tb sz ls (λl=>my l t g),⟨ls.length,λe p=>⟨Do _,?_,?_,s,Ls,?_,H.ext p⟩⟩,λn st e q=>?_⟩⟩⟩
 ·rw[Iy];rfl
 ·dsimp only;rw[o,bF (by omega) (by omega)]
 grind
 refine zB (is:=λl=>my l t g) i q (λ{sl Ls} H x=>?_) (λ{sl Ls e} a b=>k sl Ls e a b) (λa b e h=>h);refine af.of (s:= .el (.one .bool)) λw' h'=>ai (C:=U0) (aW:=λ_=>[]) (AJ (G8 _ _ _ _ _ _ w' _) ?_);have r:=(H.ext h').dj _ (Bs _ (Dn _ hc));have u:=(H.ext h').dj _ (Bs _ (Dn _ m));have H0:=At.start [] w';refine aN.go H0 λb v H0=>aj.at 0 H0 rfl (rfl) (aj.fN H0 r (by simp) rfl (aj.fN H0 u (by simp) rfl ⟨_,Xv (x.1,x.2.1,x.2.2.1,x.2.2.2.1,()) t g v,au.go H0 λy H0=>⟨rfl,H0.all⟩⟩))
theorem He (H:aM D G w0 w ((tb,dA s sz)::(Ls++L))) (hs:dv kz s ls Ls) (f:(ls.length:Int)<=64) (g:0<sz) {c:Nat} {t:Int} (hc:(c,[aa t])∈L) {K:Int->A0->Prop}
 (k: ∀s' e d,dv kz s' (ls.filter λl=> !(l.1==t)) e->aM D G w0 d ((tb,dA s' sz)::(e++L))->K ((ls.countP (λl=>l.1==t):Nat):Int) d):
 aA AC 147 (.el (.one (.int .i64))) [ah (ae tb),.func (.func 148) #[] #[ah (ae c)]] w K:=by
 refine aA.go H λw1 H=>ai (C:=U0) (aW:=pX) (AJ (G_ _ _ w1 K) ?_);have i:=hs.1;refine⟨_,pI H (Ci) g,an rfl ⟨rfl,rfl,aj.cw 0 H rfl rfl ⟨SwI D G w0 L tb sz ls (λl=>l.1==t),⟨ls.length,λd j=>⟨Do _,?_,?_,s,Ls,?_,H.ext j⟩⟩,λn st d m=>?_⟩⟩⟩
 grind
 ·dsimp only;rw[i,bF (by omega) (by omega)]
 grind
 refine zB (is:=λl=>l.1==t) f m (λ{sl Ls} H x=>?_) (λ{sl Ls d} a b=>k sl Ls d a b) (λa b d h=>h);refine af.of (s:= .el (.one .bool)) λw' h'=>ai (C:=U0) (aW:=λ_=>[]) (AJ (KJ _ _ _ _ _ w' _) ?_);have o:=(H.ext h').dj _ (Bs _ (Dn _ hc));have H0:=At.start [] w';refine aN.go H0 λb p H0=>⟨rfl,aj.cw 0 H0 rfl rfl (aj.fN H0 o (by simp) rfl (au.go H0 λq H0=>⟨rfl,H0.all⟩))⟩
theorem Bc (H:aM D G w0 w ((tb,dA s sz)::(Ls++L))) (hs:dv kz s ls Ls) (h:(ls.length:Int)<=64) (i:0<sz) (t g:Int) {K:Bool->A0->Prop}
 (k: ∀s' a b,dv kz s' (ls.filter λl=> !my l t g) a->aM D G w0 b ((tb,dA s' sz)::(a++L))->K (ls.any λl=>my l t g) b):
 aA AC 108 (.el (.one .bool)) [ah (ae tb),aa t,aa g] w K:=by
 refine aA.go H λw1 H=>ai (C:=U0) (aW:=λ_=>[]) (AJ (KK _ _ _ w1 K) ?_);refine aN.go H λc b H=>aN.go H λd j H=>?_;have m:aM D G w0 j ((tb,dA s sz)::(Ls++((d,[aa g])::(c,[aa t])::L))):=H.perm (by
  have p1:(Ls++((d,[aa g])::(c,[aa t])::L)).Perm _:=B3.trans (DL _ B3);refine(DL _ p1).trans ?_;exact(FG _ _ _).trans (DL _ (FG _ _ _)))
 refine Hd m hs h i (c:=c) (d:=d) (t:=t) (g:=g) (by grind) Ci λs' a p n f=>au.go f λo f=>?_;have e:decide (((ls.countP (λl=>my l t g):Nat):Int)>0)=ls.any λl=>my l t g:=by
  rw[OO,NK]
  simp_all
 rw[e];exact k s' a o n (f.sub (by grind))
theorem Hf (H:aM D G w0 w ((tb,dA s sz)::(Ls++L))) (hs:dv kz s ls Ls) (e:(ls.length:Int)<=64) (f:0<sz) (t:Int) {K:Int->A0->Prop}
 (k: ∀v s' a b,dv kz s' (ls.filter λl=> !(l.1==t)) a->aM D G w0 b ((tb,dA s' sz)::(a++L))->K v b):
 aA AC 107 (.el (.one (.int .i64))) [ah (ae tb),aa t] w K:=by
 refine aA.go H λw1 H=>ai (AJ (Ha _ _ w1 K) ?_);refine aN.go H λc b H=>?_;have g:=H.perm ((DL _ B3).trans (FG _ _ _));refine He g hs e f (t:=t) (by grind) λs' a j h d=>au.go d λi d=>?_;exact k _ s' a i h (d.sub (by grind))
end
section
variable {D G:List Nat} {w0 w:A0} {L Ls:List (Nat×List AF)} {s:Option A2×Nat×Nat} {ls:List Dm} {sz:Int} {tb:Nat}
def DO (ls:List Dm) (sz:Int) (l:Dm):List Dm:=
 (if ls.any (λx=>my x l.1 l.2.1)=true then ls.filter (λx=> !my x l.1 l.2.1) else if(ls.length:Int)=sz then ls.drop 1 else ls)++[l]
def AV (ls:List Dm) (t p w:Int):Int×Int×Unit:=match ls.find? (λx=>my x t p) with
 |none=>(0,4,())
 |some l=>if w<0\/w>7\/gS .i64 w l.2.2.2.1≠0 then(0,7,()) else(l.2.2.1,0,())
theorem I9 {x b:Nat×List AF} {Ls L:List (Nat×List AF)}:(x::(Ls++(b::L))).Perm (b::x::(Ls++L)):=
 by grind[B3]
theorem ZG {α:Type} (x y z:α) (A B:List α):(A++(x::y::z::B)).Perm (z::y::x::(A++B)):=by
 refine B3.trans ?_;refine(DL x (B3.trans (DL y B3))).trans ?_;refine(DL x (FG z y _)).trans ?_;exact(FG z x _).trans (DL z (FG y x _))
theorem Qs (H:aM D G w0 w ((tb,dA s sz)::(Ls++L))) (hs:dv kz s ls Ls) (Z:(ls.length:Int)<=sz) (z:0<sz/\sz<=64) (l:Dm) (F:lnR l=true) {K:Int->A0->Prop}
 (k: ∀s' A a,dv kz s' (DO ls sz l) A->aM D G w0 a ((tb,dA s' sz)::(A++L))->K 0 a):
 aA AC 159 (.el (.one (.int .i64))) [ah (ae tb),lnV l] w K:=by
 obtain⟨t,g,f,r, _⟩:=l;refine aA.go H λw1 H=>ai (C:=U0) (aW:=λ_=>[]) (AJ (Qj _ t g f r w1 K) ?_);refine aN.go H λb a H=>⟨_,pI H (Bs _ Ci) z.1,an rfl (aj.at 0 H rfl (show _=some (t,g,f,r,()) from rfl) ⟨_,Qr (t,g,f,r,()) a,?_⟩)⟩;rw[F];refine an rfl ⟨rfl,aj.cw 0 H rfl rfl ⟨rfl,aj.cw 0 H rfl rfl ?_⟩⟩;have d:aM D G w0 a ((tb,dA s sz)::(Ls++((b,[aa t,aa g,aa f,aa r])::L))):=H.perm I9;refine Bc d hs (by omega) z.1 t g λs1 Ls1 w3 h d=>?_;have I:=List.length_filter_le (λl=> !my l t g) ls;have u: ∀{c:Option A2×Nat×Nat} {o:List Dm} {j:List (Nat×List AF)} {e:A0},dv kz c o j->o.length<=ls.length->o++[(t,g,f,r,())]=DO ls sz (t,g,f,r,())->aM D G w0 e ((tb,dA c sz)::(j++((b,[aa t,aa g,aa f,aa r])::L)))->
  ((some (⟨tb,0,none⟩:A2)).isSome=true/\(some (⟨tb,0,none⟩:A2)).isSome=true/\aj e none (ad (ae tb) 0) (.one .slice) λx=>aj e none (ae b) kz λp=>aN e ⟨[aa p.1,aa p.2.1,aa p.2.2.1,aa p.2.2.2.1]⟩ 96 λb a=> ∀w1,Ext a w1->
    mJ w1 96 4 32 ⟨[aa 0,aa 0,aa 0,aa 0]⟩ (x.1,x.2.1,x.2.2) (some ⟨b,0,none⟩,1,1) λr a=>(some (⟨tb,0,none⟩:A2)).isSome=true/\(some (⟨tb,0,none⟩:A2)).isSome=true/\aC a (ad (ae tb) 0) [.slice r.1 r.2.1 r.2.2] λa=>au a λw1=>K 0 w1):=by
  intro c o j e J ac2 M N;have m:=N.perm (L':=(b,[aa t,aa g,aa f,aa r])::(tb,dA c sz)::(j++L)) I9.symm;refine⟨rfl,rfl,aj.cw 1 m rfl (show _=some (c.1,c.2.1,c.2.2) from rfl) (aj.at 0 m rfl (show _=some (t,g,f,r,()) from rfl) (aN.go m λO w5 m w6 P=>?_))⟩;have B:=m.ext P;have Q:=B.get (i:=0) rfl;have R:=B.perm (ZG _ _ _ _ _);refine aM.Uk R J rfl (q:=(some ⟨O,0,none⟩,1,1)) (ys:=[(t,g,f,r,())]) rfl ?_ rfl rfl (by simp only[List.length_singleton];omega) λS T w7 E U=>?_
  ·exact bO.oP (vs:=flat kz [(t,g,f,r,())]) Q rfl λi hi=>by rw[Ct];rfl
  ·rw[M] at E;have n:=U.perm B3.symm;refine⟨rfl,rfl,aC.gP 0 n rfl rfl rfl λw8 n=>au.go n λV n=>k S T V E (n.sub ?_)⟩;simp
 refine⟨λ_=>rfl,λ_=>rfl,aj.kV d Ci (show _=some (s1.1,s1.2.1,s1.2.2) from rfl) ⟨λ_=>rfl,λ_=>rfl,aj.kV d Ci (show _=some sz from rfl) ?_⟩⟩;dsimp only;have v:=h.1;cases y:ls.any (λl=>my l t g) with
 |true=>
  refine an rfl (u h I ?_ d);unfold DO;rw[av y]
 |false=>
  have W:ls.filter (λl=> !my l t g)=ls:=In.2 λx hx=>by
   have:=(List.any_eq_false.1 y) x hx;simpa using this
  rw[W] at h v;by_cases hc:(ls.length:Int)=sz
  ·refine aB (by rw[v,hc];simp) ?_;have h0:0<ls.length:=by omega
   refine I8 d h (by omega) 0 h0 λc j e X Y=>u X (by rw[List.length_eraseIdx];split<;>omega) ?_ Y;unfold DO
   grind
  ·refine an (by rw[v];simpa using hc) (u h (Do _) ?_ d);unfold DO;rw[ao (by rw[y];decide),ao hc]
theorem UW (H:aM D G w0 w ((tb,dA s sz)::(Ls++L))) (hs:dv kz s ls Ls) (I:(ls.length:Int)<=64) (o:0<sz) (t g k:Int):
 af AC 201 [ah (ae tb),aa t,aa g,aa k] w ((Sh.bA [.one (.int .i64),.one (.int .i64)]).iu (AV ls t g k)):=by
 refine af.of (s:= .bA [.one (.int .i64),.one (.int .i64)]) λw1 h1=>ai (C:=U0) (aW:=ud) (AJ (Qk _ t g k w1 _) ?_);have H:=H.ext h1;have p:=hs.1;have q:=hs.sl H (λy r=>Bs _ (Dk _ r));refine⟨_,pI H Ci o,an rfl ⟨rfl,rfl,aj.cw 0 H rfl (show _=some (s.1,s.2.1,s.2.2) from rfl) ?_⟩⟩;refine⟨λn st d=> ∃j:Nat,j<=ls.length/\n=ls.length - j/\st.1=(j:Int)/\(ls.take j).find? (λx=>my x t g)=none/\Ext w1 d,⟨ls.length,λd a=>⟨0,GD _,rfl,rfl,rfl,a⟩⟩,?_⟩;rintro n ⟨i, _⟩ d ⟨j,f,u,hi,e,a⟩;have hi:i=(j:Int):=hi;subst hi u;dsimp only;rw[p];refine ab (λc=>?_) (λc=>?_)
 ·have f:j<ls.length:=by have:=of_decide_eq_true c;omega
  obtain⟨x,hx⟩: ∃x,ls[j]? =some x:=⟨_,E5 f⟩;have h:=q j x hx;have H0:aM [] [] w1 d []:=(At.start [] w1).ext a;refine⟨⟨h.1,by omega,by omega⟩,aj.of x (by rw[Dw];exact tD a h.2) (aN.go H0 λb v H0=>aC.all 0 H0 rfl rfl rfl λz H0=>aj.at 0 H0 rfl (show _=some (x.1,x.2.1,x.2.2.1,x.2.2.2.1,()) from rfl) ⟨_,Xv (x.1,x.2.1,x.2.2.1,x.2.2.2.1,()) t g z,?_⟩)⟩;have A:my (x.1,x.2.1,x.2.2.1,x.2.2.2.1,()) t g=my x t g:=rfl;rw[A];cases l:my x t g with
  |false=>
   refine aB rfl λm B=>⟨ls.length - (j+1),by omega,j+1,by omega,rfl,?_,?_,(H0.ext B).all⟩
   ·rw[ay (by omega) (by omega)];omega
   ·rw[H5,hx,NM,e];rw[Option.none_or];show List.find? _ [x]=none;rw[NR,l];rfl
  |true=>
   have E:ls.find? (λx=>my x t g)=some x:=by
    rw[<-Ds j ls,NM,e,jt hx,NR,l];rfl
   have hv:AV ls t g k=if k<0\/k>7\/gS .i64 k x.2.2.2.1≠0 then(0,7,()) else(x.2.2.1,0,()):=by
    unfold AV;rw[E]
   rw[hv];refine an rfl ⟨λ_=>rfl,aj.cw 0 H0 rfl rfl ?_⟩;refine ab (λc=>au.go H0 λm H0=>⟨?_,H0.all⟩) (λc=>⟨rfl,aj.cw 0 H0 rfl rfl (au.go H0 λm H0=>⟨?_,H0.all⟩)⟩)
   grind
   grind
 ·have:j=ls.length:=by have:=of_decide_eq_false c;omega
  subst this;rw[Ip] at e;intro v F;refine⟨?_,a.trans F⟩;unfold AV;rw[e]
theorem KU (H:aM D G w0 w ((tb,dA s sz)::(Ls++L))) (hs:dv kz s ls Ls) (j:(ls.length:Int)<=64) (d:0<sz) {K:Option A2×Nat×Nat->A0->Prop}
 (k: ∀r a b,dv kz r ls a->aM D G w0 b (a++((tb,dA s sz)::(Ls++L)))->K r b):
 aA AC 83 (.el (.one .slice)) [ah (ae tb)] w K:=by
 refine aA.go H λw1 H=>ai (C:=U0) (AJ (KL _ w1 K) ?_);refine⟨_,pI H Ci d,an rfl ⟨rfl,rfl,aj.cw 0 H rfl (rfl) λb e=>?_⟩⟩;have c:=H.ext e;refine aM.Uk (Ls:=[]) c (dv.nil kz) rfl (q:=s) hs.1 (hs.oP c (by grind)) rfl rfl (by grind) λr a l f g=>au.go g λh i=>k _ a h f i
theorem UX (H:aM D G w0 w L) (n:Int) {K:Option A2×Int×Unit->A0->Prop} (kb:n<1\/n>64-> ∀w1,aM D G w0 w1 L->K (none,1,()) w1)
 (a:1<=n->n<=64-> ∀b w1,aM D G w0 w1 ((b,dA (none,0,0) n)::L)->K (some ⟨b,0,none⟩,0,()) w1):
 aA AC 86 (.bA [.one .ptr,.one (.int .i64)]) [aa n] w K:=by
 refine aA.go H λw1 H=>ai (AJ (UK n w1 K) ?_);refine ab (λc=>au.go H (by grind)) λc=>aN.go H λb d H=>au.go H λe H=>?_
 grind
end
def kI (v:AF):Int:=match v with
 | .int _ n=>n
 | _=>0
abbrev FD (e:Int×Int):KV:=(e.1,aa e.2)
section
variable {D G:List Nat} {w0 w:A0} {L Ls:List (Nat×List AF)} {M M0:List (Nat×AM)} {es:List B1} {mb ck b:Nat}
theorem stM (H:cD D G w0 w (Ls++L) M) {e:El} {s:Option A2×Nat×Nat} {xs:List e.T} (hs:dv e s xs Ls) {i:Nat} (hi:i<xs.length) (y:e.T) {vs:List AF} (hv:vs=cellsOf e y) (b:im e=true) {K:A0->Prop}
 (k: ∀a w1,dv e s (xs.set i y) a->cD D G w0 w1 (a++L) M->K w1):aC w (ad s.1 (i*aD e)) vs K:=λw1 h1=>
 hs.st (H.ext h1).base.again hi y hv b (λa c d f=>k a c d ((H.ext h1).join f)) w1 (Ext.refl w1)
theorem Fw (H:cD D G w0 w (Ls++L) M) {e:El} {s:Option A2×Nat×Nat} {xs:List e.T} (hs:dv e s xs Ls) (b:im e=true) {q:Option A2×Nat×Nat} {ys:List e.T} (c:q.2.1=ys.length) (d:Go.RX.oP w q.1 (q.2.1*aD e) (flat e ys))
 {t:E4} {size bytes:Nat} {z:Array AF} (f:size=aD e) (g:z.size=aD e) (hb:(xs.length+ys.length)*bytes<=140737488355328) {R:Option A2×Nat×Nat->A0->Prop}
 (k: ∀s' a w',dv e s' (xs++ys) a->cD D G w0 w' (a++L) M->R s' w'):mJ w t size bytes z s q R:=
 aM.Uk H.base.again hs b c d f g hb λs' a w' h1 h=>k s' a w' h1 (H.join h)
theorem sd {e:El} {a:Nat} {x:e.T} (h:bO w a (cellsOf e x)):Go.RX.oP w (ae a) (1*aD e) (flat e [x]):=
 bO.oP h (by rw[aF];rfl) λi hi=>by rw[Ct];show(cellsOf e x)[i]? =(cellsOf e x++[])[i]?;simp
theorem Qt {r:Option A2×Nat×Nat} {R:List Int} {x:Int} (H:cD D G w0 w (Ls++L) M) (hs:dv eI r (R++[x]) Ls) (P:R.Pairwise (· <= ·)) (hl:(R.length:Int)<4611686018427387904) {n0:Int} (hn:n0=R.length) {N:A0->Prop}
 (hN: ∀k B b,B.Pairwise (· <= ·)->B.Perm (x::R)->dv eI r B k->cD D G w0 b (k++L) M->N b):
 ∃I:Nat->Int×Unit->A0->Prop,(∃n, ∀w1,Ext w w1->I n (n0,()) w1)/\ ∀(Q:Nat) (s:Int×Unit) (w1:A0),I Q s w1->
  (decide (s.1>0)=true->r.1.isSome=true/\0<=a6 .i64 s.1 1/\a6 .i64 s.1 1<((r.2.1:Nat):Int))/\aj w1 (some (decide (s.1>0))) (ad r.1 ((a6 .i64 s.1 1).toNat*1)) eI λ(aO:Int)=>
   aG (decide (s.1>0)&&decide (aO>x)) ((r.1.isSome=true/\0<=a6 .i64 s.1 1/\a6 .i64 s.1 1<((r.2.1:Nat):Int))/\aj w1 none (ad r.1 ((a6 .i64 s.1 1).toNat*1)) eI λ(y:Int)=>
    (r.1.isSome=true/\0<=s.1/\s.1<((r.2.1:Nat):Int))/\aC w1 (ad r.1 (Ar s.1*1)) [aa y] λg=> ∀b,Ext g b-> ∃S,S<Q/\I S (a6 .i64 s.1 1,()) b)
    ((r.1.isSome=true/\0<=s.1/\s.1<((r.2.1:Nat):Int))/\aC w1 (ad r.1 (Ar s.1*1)) [aa x] λg=> ∀b,Ext g b->N b):=by
 refine⟨λn st w'=> ∃(C:List (Nat×List AF)) (c:Int),n<=R.length/\st.1=(n:Int)/\dv eI r (R.take n++(c::R.drop n)) C/\(∀y∈R.drop n,x<y)/\cD D G w0 w' (C++L) M,⟨R.length,λw1 h1=>⟨Ls,x,Do _,hn,by rw[Ip,Iy];exact hs,λy e=>(by rw[Iy] at e;cases e),H.ext h1⟩⟩,?_⟩;rintro n ⟨i, _⟩ w1 ⟨C,c,vw,hi,l,T,u⟩;have hi:i=(n:Int):=hi;subst hi;dsimp only;have m:=l.1;have E:(R.take n++(c::R.drop n)).length=R.length+1:=by
  grind
 rw[E] at m;have cn:(R.take n++(c::R.drop n))[n]? =some c:=by
  grind
 have v:=(l.sl u.base (λy e=>Dk _ e) n c cn).1;have U:decide ((n:Int)>0)=false\/(∃p,R[n - 1]? =some p/\p<=x)->((r.1.isSome=true/\0<=(n:Int)/\(n:Int)<((r.2.1:Nat):Int))/\aC w1 (ad r.1 (Ar (n:Int)*1)) [aa x] λg=> ∀b,Ext g b->N b):=λV=>by
  refine⟨⟨v,by omega,by rw[m];omega⟩,?_⟩;rw[Dw];refine stM u l (i:=n) (by rw[E];omega) x rfl rfl λk g o F b J=>?_;have K:(R.take n++(c::R.drop n)).set n x=R.take n++(x::R.drop n):=by
   grind
  rw[K] at o;refine hN k _ b ?_ ?_ o (F.ext J)
  ·have z:=P;rw[<-Ds n R,NU] at z;refine NU.2 ⟨z.1,List.pairwise_cons.2 ⟨λy e=>Int.le_of_lt (T y e),z.2.1⟩,λa W d O=>?_⟩;rcases B4.1 O with rfl|O
   ·rcases V with V|⟨p,f,X⟩
    grind
    ·obtain⟨j,t⟩:=Ft W;have N6:j<(R.take n).length:=(Bx.1 t).1;rw[Cj] at N6;rw[NW (by omega)] at t;have N7:n - 1<R.length:=(Bx.1 f).1;rcases Nat.lt_or_ge j (n - 1) with q|q
     ·have Y:=Bx.1 t;have hpa:=Bx.1 f;have:=List.pairwise_iff_getElem.1 P j (n - 1) Y.1 N7 q;rw[Y.2,hpa.2] at this;exact Int.le_trans this X
     ·have:j=n - 1:=by omega
      subst this;rw[f] at t;cases t;exact X
   ·exact z.2.2 a W d O
  ·exact B3.trans (DL x (by rw[Ds]))
 cases n with
 |zero=>
  have A:decide (((0:Nat):Int)>0)=false:=by decide
  refine⟨λh=>(by rw[A] at h;cases h),0,λh=>(by rw[A] at h;cases h),an (by rw[A];rfl) (U (.inl A))⟩
 |succ j=>
  have Z:decide (((j+1:Nat):Int)>0)=true:=decide_eq_true (by omega);have Y3:a6 .i64 ((j+1:Nat):Int) 1=(j:Int):=by rw[bF (by omega) (by omega)];omega
  obtain⟨p,f⟩: ∃p,R[j]? =some p:=⟨_,E5 (by omega)⟩;have hcj:(R.take (j+1)++(c::R.drop (j+1)))[j]? =some p:=by
   rw[Gi (by rw[Cj];omega),NW (by omega),f]
  have BY:=(l.sl u.base (λy e=>Dk _ e) j p hcj).2;rw[Y3];refine⟨λ_=>⟨v,by omega,by rw[m];omega⟩,aj.of p (by rw[Dw];exact BY) ?_⟩;refine ab (λhc=>?_) (λhc=>U (.inr ⟨p,(show R[j+1 - 1]? =some p from f),?_⟩))
  ·rw[Z,GS,decide_eq_true_eq] at hc;refine⟨⟨v,by omega,by rw[m];omega⟩,aj.of p (by rw[Dw];exact BY) ⟨⟨v,by omega,by rw[m];omega⟩,?_⟩⟩;rw[Dw];refine stM u l (i:=j+1) (by rw[E];omega) p rfl rfl λk g o F b J=>⟨j,Hb j,k,p,by omega,rfl,?_,?_,F.ext J⟩
   ·have K:(R.take (j+1)++(c::R.drop (j+1))).set (j+1) p=R.take j++(p::R.drop j):=by
     rw[List.set_append_right _ _ (by rw[Cj];omega),Cj,GF vw,J5];rw[H5,f,jt f,F8];rfl
    rw[K] at o;exact o
   ·intro y e;rw[jt f] at e;rcases B4.1 e with rfl|e
    ·exact hc
    ·exact T y e
  ·rw[Z,GS,decide_eq_false_iff_not] at hc;show p<=x;omega
theorem Be {e:B1} {seen:Array Nat} {f:B1->Bool} (hs:seen.contains e.born=false): ∀{es:List B1},(es.map (·.born)).Nodup->e∈es->
 (es.filter λx=>(seen.push e.born).contains x.born&&f x).Perm (if f e=true then e::es.filter (λx=>seen.contains x.born&&f x) else es.filter (λx=>seen.contains x.born&&f x))
 |y::es,a,hm=>by
  rw[Cg,BW] at a;have b: ∀z:Nat,(seen.push e.born).contains z=(seen.contains z||z==e.born):=λz=>by
   grind
  rcases B4.1 hm with rfl|hm
  ·have h: ∀x∈es,(x.born==e.born)=false:=λx hx=>by
    grind
   have d:es.filter (λx=>(seen.push e.born).contains x.born&&f x)=es.filter (λx=>seen.contains x.born&&f x):=List.filter_congr (by grind);rw[G1,G1,b,d,hs]
   simp_all
  ·have c:=Be hs (f:=f) a.2 hm;have g:(y.born==e.born)=false:=by
    grind
   rw[G1,G1,b,g,Bool.or_false];cases i:(seen.contains y.born&&f y)
   ·simpa using c
   ·refine(DL y c).trans ?_;split
    ·exact FG _ _ _
    simp
end
end Go.Proofs.YtlcenllcmeebhaaGreat.Mu
namespace Go.Proofs.YtlcenllcmeebhaaGreat
set_option maxRecDepth 100000
open Go.RX
abbrev sG:List Sc:=[.int .i64,.int .i64,.int .i64,.bool,.int .i64]
abbrev eG:El:= .agg sG
abbrev GT:Type:=Int×Int×Int×Bool×Int×Unit
def zG:GT:=(0,0,0,false,0,())
def gG (n:Int):Bool:=decide (n>=1)&&decide (n<=16)
def mQ (o p t:Int) (b:Bool) (u:Int):Bool:=decide (((o,p,t,b,u,()):GT)=zG)
noncomputable def G0:dG AC:={C3 with vG:=false}
theorem KW (n:Int) (w:A0) (a:Bool->A0->Prop):(aI G0 (λ_=>[]) 225 [aa n] w a)=(
 au w (a (decide (n>=1)&&decide (n<=16)))):=by kernel_rfl
theorem Qu (o p t:Int) (b:Bool) (u:Int) (w:A0) (a:Bool->A0->Prop):(aI G0 (λ_=>[]) 210 [.agg ⟨[aa o,aa p,aa t,.bool b,aa u]⟩] w a)=(
 aN w ⟨[aa o,aa p,aa t,.bool b,aa u]⟩ 255 λb c=>aj c none (ae b) (.agg [.int .i64,.int .i64,.int .i64,.bool,.int .i64]) λ(x:Int×Int×Int×Bool×Int×Unit)=>au c λw1=>a (x.1==0&&(x.2.1==0&&(x.2.2.1==0&&(x.2.2.2.1==false&&(x.2.2.2.2.1==0&&true))))) w1):=by kernel_rfl
theorem KX (n:Int) (w:A0):aE AC 225 (.el (.one .bool)) [aa n] w (λx w'=>x=gG n/\Ext w w'):=by
 refine ai (C:=G0) (aW:=λ_=>[]) (AJ (KW n w _) ?_);have H:=At.start [] w
 repeat' (first
  |exact Go.RX.aM.all H
  |exact And.intro (by first|rfl|decide+kernel) (Go.RX.aM.all H)
  |refine And.intro (by first|exact rfl|exact trivial|exact λ_=>rfl|exact λ_=>trivial|exact⟨rfl,by decide,by decide⟩|exact⟨by decide,by decide⟩|decide+kernel|exact λ_=>by decide|exact λ_=>⟨rfl,by decide,by decide⟩|(dsimp only[List.length_cons,List.length_nil];exact⟨rfl,by decide,by decide⟩)) ?_
  |refine aj.cw 0 H rfl rfl ?_
  |refine aj.cw 1 H rfl rfl ?_
  |refine aj.at 0 H rfl rfl ?_
  |refine aj.at 1 H rfl rfl ?_
  |refine aN.go H λb w1 H=>?_
  |refine aC.all 0 H rfl rfl rfl λw1 H=>?_
  |refine aC.all 1 H rfl rfl rfl λw1 H=>?_
  |refine aC.gP 0 H rfl rfl rfl λw1 H=>?_
  |refine aC.gP 1 H rfl rfl rfl λw1 H=>?_
  |refine aC.one 0 H rfl rfl rfl λw1 H=>?_
  |refine aC.one 1 H rfl rfl rfl λw1 H=>?_
  |with_reducible refine au.go H λw1 H=>?_
  |refine kq ?_
  |refine aB (by assumption) ?_
  |refine an (by assumption) ?_
  |refine ab (λc=>?_) (λc=>?_))
theorem Qv (o p t:Int) (b:Bool) (u:Int) (w:A0):aE AC 210 (.el (.one .bool)) [.agg ⟨[aa o,aa p,aa t,.bool b,aa u]⟩] w (λx w'=>x=mQ o p t b u/\Ext w w'):=by
 refine ai (C:=G0) (aW:=λ_=>[]) (AJ (Qu o p t b u w _) ?_);have H:=At.start [] w;refine aN.go H λa c H=>aj.at 0 H rfl rfl (au.go H λd H=>⟨?_,H.all⟩);unfold mQ zG;rw[OO];simp
noncomputable def UY:Entry AC where
 f:=225
 fn l:=match l with
  |[.int .i64 a]=>some (True,.bool (gG a))
  | _=>none
 ok args pre v h b w:=by
  split at h
  ·rename_i a;cases h;exact bY (KX a w)
  ·cases h
noncomputable def ZH:Entry AC where
 f:=210
 fn l:=match l with
  |[.agg ⟨[.int .i64 o,.int .i64 p,.int .i64 t,.bool b,.int .i64 u]⟩]=>some (True,.bool (mQ o p t b u))
  | _=>none
 ok args pre v h a w:=by
  split at h
  ·rename_i o p t b u;cases h;exact bY (Qv o p t b u w)
  ·cases h
noncomputable def G3:dG AC:={G0 with sP:=[UY,ZH],quiet:=[224,221,226,209],sh:=[]}
theorem KY (p:Option A2) (w:A0) (a:Bool->A0->Prop):(aI G3 (λ_=>[]) 224 [ah p] w a)=(
 ((!p.isNone)=true->p.isSome=true)/\((!p.isNone)=true->p.isSome=true)/\aj w (some !p.isNone) (ad p 0) fi λx=>au w λw1=>a (!p.isNone&&decide ((↑x.2.1:Int)>0)) w1):=by kernel_rfl
theorem ZI (p:Option A2) (i:Int) (w:A0) (b:Option A2×Int×Unit->A0->Prop):(aI G3 (λ_=>[]) 221 [ah p,aa i] w b)=(
 ∃x,af AC 224 [ah p] w (.bool x)/\aG (!x) (au w (b (none,10,()))) (((!decide (i<0))=true->p.isSome=true)/\((!decide (i<0))=true->p.isSome=true)/\aj w (some !decide (i<0)) (ad p 0) fi λx=>((!(decide (i<0)||decide (i>=(↑x.2.1:Int))))=true->p.isSome=true)/\((!(decide (i<0)||decide (i>=(↑x.2.1:Int))))=true->p.isSome=true)/\aj w (some !(decide (i<0)||decide (i>=(↑x.2.1:Int)))) (ad p 0) fi λc=>((!(decide (i<0)||decide (i>=(↑x.2.1:Int))))=true->c.1.isSome=true/\0<=i/\i<
 (↑c.2.1:Int))/\aj w (some !(decide (i<0)||decide (i>=(↑x.2.1:Int)))) (ad c.1 (i.toNat*5)) (.agg [.int .i64,.int .i64,.int .i64,.bool,.int .i64]) λ(a:Int×Int×Int×Bool×Int×Unit)=>((!(decide (i<0)||decide (i>=(↑x.2.1:Int))))=true->True)/\aG (decide (i<0)||decide (i>=(↑x.2.1:Int))||mQ a.1 a.2.1 a.2.2.1 a.2.2.2.1 a.2.2.2.2.1) (au w (b (none,4,()))) (ff p 0 w λx=>(x.1.isSome=true/\0<=i/\i<(↑x.2.1:Int))/\au w (b (ad x.1 (i.toNat*5),0,()))))):=by kernel_rfl
theorem Qw (o q t:Int) (b:Bool) (u:Int) (c:Option A2) (w:A0) (d:Bool->A0->Prop):(aI G3 (λ_=>[]) 226 [.agg ⟨[aa o,aa q,aa t,.bool b,aa u]⟩,ah c] w d)=(
 aN w ⟨[aa o,aa q,aa t,.bool b,aa u]⟩ 255 λb a=>aj a none c (.agg [.int .i64,.int .i64,.int .i64,.bool,.int .i64]) λ(x:Int×Int×Int×Bool×Int×Unit)=>true=true/\aV a (ad (ae b) 0) λe=>true=true/\aV a (ad (ae b) 1) λf=>true=true/\aV a (ad (ae b) 2) λg=>au a λw1=>d (x.1==e&&(x.2.1==f&&(x.2.2.1==g&&(x.2.2.2.1==false&&(x.2.2.2.2.1==0&&true))))) w1):=by kernel_rfl
theorem KZ (o q t:Int) (b:Bool) (u:Int) (c:Option A2) (w:A0) (f:Bool->A0->Prop):(aI G3 (λ_=>[]) 209 [.agg ⟨[aa o,aa q,aa t,.bool b,aa u]⟩,ah c] w f)=(
 aN w ⟨[aa o,aa q,aa t,.bool b,aa u]⟩ 255 λb a=>aj a none (ae b) (.agg [.int .i64,.int .i64,.int .i64,.bool,.int .i64]) λ(x:Int×Int×Int×Bool×Int×Unit)=>True/\((!mQ x.1 x.2.1 x.2.2.1 x.2.2.2.1 x.2.2.2.2.1)=true->true=true)/\aj a (some !mQ x.1 x.2.1 x.2.2.1 x.2.2.2.1 x.2.2.2.2.1) (ad (ae b) 0) aX λ(d:Int)=>aj a (some !mQ x.1 x.2.1 x.2.2.1 x.2.2.2.1 x.2.2.2.2.1) c aX λ(e:Int)=>((!mQ x.1 x.2.1 x.2.2.1 x.2.2.2.1 x.2.2.2.2.1&& !d==e)=true->true=true)/\aj a (some (!mQ x.1
 x.2.1 x.2.2.1 x.2.2.2.1 x.2.2.2.2.1&& !d==e)) (ad (ae b) 2) aX λ(g:Int)=>aj a (some (!mQ x.1 x.2.1 x.2.2.1 x.2.2.2.1 x.2.2.2.2.1&& !d==e)) c aX λ(h:Int)=>au a (f (!mQ x.1 x.2.1 x.2.2.1 x.2.2.2.1 x.2.2.2.2.1&&(d==e||g==h)))):=by kernel_rfl
def ri:Nat->a7:=(λ|5=>[(5,Go.RX.El.one Go.RX.Sc.slice),(16,Go.RX.El.one (Go.RX.Sc.int Aq))]| _=>[])
theorem K8 (p:Option A2) (w:A0) (e:Option A2×Nat×Nat->A0->Prop):(aI G3 ri 208 [ah p,.func (.func 210) #[] #[]] w e)=(
 ∃x,af AC 224 [ah p] w (.bool x)/\aG (!x) (au w (e (none,0,0))) (ff p 0 w λx=> ∃(I:Nat->(Option A2×Nat×Nat)×Int×Unit->A0->Prop),(∃n, ∀w1,Ext w w1->I n ((none,0,0),0,()) w1)/\ ∀(n:Nat) (s:(Option A2×Nat×Nat)×Int×Unit) (w1:A0),I n s w1->aG (decide (s.2.1<(↑x.2.1:Int))) ((x.1.isSome=true/\0<=s.2.1/\s.2.1<(↑x.2.1:Int))/\aj w1 none (ad x.1 (Ar s.2.1*5)) (.agg [.int .i64,.int .i64,.int .i64,.bool,.int .i64]) λ(x:Int×Int×Int×Bool×Int×Unit)=>aN w1 ⟨[aa 0,
 aa 0,aa 0,.bool false,aa 0]⟩ 255 λb a=>aC a (ae b) [aa x.1,aa x.2.1,aa x.2.2.1,.bool x.2.2.2.1,aa x.2.2.2.2.1] λa=>aj a none (ae b) (.agg [.int .i64,.int .i64,.int .i64,.bool,.int .i64]) λ(x:Int×Int×Int×Bool×Int×Unit)=>True/\aG (mQ x.1 x.2.1 x.2.2.1 x.2.2.2.1 x.2.2.2.2.1) (aN a ⟨[aa s.2.1]⟩ 3 λb a=> ∀w1,Ext a w1->mJ w1 3 1 8 ⟨[aa 0]⟩ (s.1.1,s.1.2.1,s.1.2.2) (some ⟨b,0,none⟩,1,1) λ(r:Option A2×Nat×Nat) a=> ∀c,Ext a c-> ∃(d:Nat),d<n/\I d
 ((r.1,r.2.1,r.2.2),aH .i64 s.2.1 1,()) c) (∀c,Ext a c-> ∃(d:Nat),d<n/\I d ((s.1.1,s.1.2.1,s.1.2.2),aH .i64 s.2.1 1,()) c)) (au w1 (e (s.1.1,s.1.2.1,s.1.2.2))))):=by kernel_rfl
def rj:Nat->a7:=(λ|5=>[(5,Go.RX.El.one Go.RX.Sc.slice),(16,Go.RX.El.one (Go.RX.Sc.int Aq))]| _=>[])
theorem K9 (p c:Option A2) (w:A0) (f:Option A2×Nat×Nat->A0->Prop):(aI G3 rj 208 [ah p,.func (.func 226) #[] #[ah c]] w f)=(
 ∃x,af AC 224 [ah p] w (.bool x)/\aG (!x) (au w (f (none,0,0))) (ff p 0 w λx=> ∃(I:Nat->(Option A2×Nat×Nat)×Int×Unit->A0->Prop),(∃n, ∀w1,Ext w w1->I n ((none,0,0),0,()) w1)/\ ∀(n:Nat) (s:(Option A2×Nat×Nat)×Int×Unit) (w1:A0),I n s w1->aG (decide (s.2.1<(↑x.2.1:Int))) ((x.1.isSome=true/\0<=s.2.1/\s.2.1<(↑x.2.1:Int))/\aj w1 none (ad x.1 (Ar s.2.1*5)) (.agg [.int .i64,.int .i64,.int .i64,.bool,.int .i64]) λ(x:Int×Int×Int×Bool×Int×Unit)=>aN w1 ⟨[aa 0,
 aa 0,aa 0,.bool false,aa 0]⟩ 255 λb a=>aC a (ae b) [aa x.1,aa x.2.1,aa x.2.2.1,.bool x.2.2.2.1,aa x.2.2.2.2.1] λa=>aj a none (ae b) (.agg [.int .i64,.int .i64,.int .i64,.bool,.int .i64]) λ(x:Int×Int×Int×Bool×Int×Unit)=> ∃g,af AC 226 [.agg ⟨[aa x.1,aa x.2.1,aa x.2.2.1,.bool x.2.2.2.1,aa x.2.2.2.2.1]⟩,ah c] a (.bool g)/\aG g (aN a ⟨[aa s.2.1]⟩ 3 λb a=> ∀w1,Ext a w1->mJ w1 3 1 8 ⟨[aa 0]⟩ (s.1.1,s.1.2.1,s.1.2.2)
 (some ⟨b,0,none⟩,1,1) λ(r:Option A2×Nat×Nat) a=> ∀d,Ext a d-> ∃(e:Nat),e<n/\I e ((r.1,r.2.1,r.2.2),aH .i64 s.2.1 1,()) d) (∀d,Ext a d-> ∃(e:Nat),e<n/\I e ((s.1.1,s.1.2.1,s.1.2.2),aH .i64 s.2.1 1,()) d)) (au w1 (f (s.1.1,s.1.2.1,s.1.2.2))))):=by kernel_rfl
def rk:Nat->a7:=(λ|5=>[(5,Go.RX.El.one Go.RX.Sc.slice),(16,Go.RX.El.one (Go.RX.Sc.int Aq))]| _=>[])
theorem K_ (p c:Option A2) (w:A0) (f:Option A2×Nat×Nat->A0->Prop):(aI G3 rk 208 [ah p,.func (.func 209) #[] #[ah c]] w f)=(
 ∃x,af AC 224 [ah p] w (.bool x)/\aG (!x) (au w (f (none,0,0))) (ff p 0 w λx=> ∃(I:Nat->(Option A2×Nat×Nat)×Int×Unit->A0->Prop),(∃n, ∀w1,Ext w w1->I n ((none,0,0),0,()) w1)/\ ∀(n:Nat) (s:(Option A2×Nat×Nat)×Int×Unit) (w1:A0),I n s w1->aG (decide (s.2.1<(↑x.2.1:Int))) ((x.1.isSome=true/\0<=s.2.1/\s.2.1<(↑x.2.1:Int))/\aj w1 none (ad x.1 (Ar s.2.1*5)) (.agg [.int .i64,.int .i64,.int .i64,.bool,.int .i64]) λ(x:Int×Int×Int×Bool×Int×Unit)=>aN w1 ⟨[aa 0,
 aa 0,aa 0,.bool false,aa 0]⟩ 255 λb a=>aC a (ae b) [aa x.1,aa x.2.1,aa x.2.2.1,.bool x.2.2.2.1,aa x.2.2.2.2.1] λa=>aj a none (ae b) (.agg [.int .i64,.int .i64,.int .i64,.bool,.int .i64]) λ(x:Int×Int×Int×Bool×Int×Unit)=> ∃g,af AC 209 [.agg ⟨[aa x.1,aa x.2.1,aa x.2.2.1,.bool x.2.2.2.1,aa x.2.2.2.2.1]⟩,ah c] a (.bool g)/\aG g (aN a ⟨[aa s.2.1]⟩ 3 λb a=> ∀w1,Ext a w1->mJ w1 3 1 8 ⟨[aa 0]⟩ (s.1.1,s.1.2.1,s.1.2.2)
 (some ⟨b,0,none⟩,1,1) λ(r:Option A2×Nat×Nat) a=> ∀d,Ext a d-> ∃(e:Nat),e<n/\I e ((r.1,r.2.1,r.2.2),aH .i64 s.2.1 1,()) d) (∀d,Ext a d-> ∃(e:Nat),e<n/\I e ((s.1.1,s.1.2.1,s.1.2.2),aH .i64 s.2.1 1,()) d)) (au w1 (f (s.1.1,s.1.2.1,s.1.2.2))))):=by kernel_rfl
theorem La (p:Option A2) (o q t:Int) (b:Bool) (w:A0) (c:Int×Int×Unit->A0->Prop):(aI G3 (λ_=>[]) 180 [ah p,aa o,aa q,aa t,.bool b] w c)=(
 ∃x,af AC 224 [ah p] w (.bool x)/\aG (!x) (au w (c (0,10,()))) (True/\((!!gG o)=true->True)/\aG (!gG o|| !gG t||o==t||decide (q<0)||decide (q>=65536)) (au w (c (0,1,()))) (aN w ⟨[aa 0,aa 0,aa 0,.bool false,aa 0]⟩ 255 λe a=>aC a (ae e) [aa o,aa q,aa t,.bool false,aa 0] λa=>aA AC 208 (.el fi) [ah p,.func (.func 226) ⟨[]⟩ {toList:=[ah (ae e)]}] a λx a=>aG (decide ((↑x.2.1:Int)>0)) (au a (c (0,5,
 ()))) (aA AC 208 (.el fi) [ah p,.func (.func 210) ⟨[]⟩ ⟨[]⟩] a λx a=>aG ((↑x.2.1:Int)==0) (au a (c (0,3,()))) (true=true/\aC a (ad (ae e) 3) [.bool b] λa=>ff p 0 a λf=>(x.1.isSome=true/\(0:Int)<=0/\0<(↑x.2.1:Int))/\aV a (ad x.1 0) λg=>aj a none (ae e) (.agg [.int .i64,.int .i64,.int .i64,.bool,.int .i64]) λ(d:Int×Int×Int×Bool×Int×Unit)=>(f.1.isSome=true/\0<=g/\g<(↑f.2.1:Int))/\aC a (ad f.1 (g.toNat*5)) [aa d.1,aa d.2.1,
 aa d.2.2.1,.bool d.2.2.2.1,aa d.2.2.2.2.1] λa=>(x.1.isSome=true/\(0:Int)<=0/\0<(↑x.2.1:Int))/\aV a (ad x.1 0) λx=>au a (c (x,0,()))))))):=by kernel_rfl
theorem ZJ (p:Option A2) (i:Int) (w:A0) (c:GT×Bool×Unit->A0->Prop):(bW G3 (λ_=>[]) 176 [ah p,aa i] w c)=(
 aN w ⟨[aa 0,aa 0,aa 0,.bool false,aa 0]⟩ 255 λb a=> ∃(x:Option A2×Int×Unit),af AC 221 [ah p,aa i] a (.tuple ⟨[ah x.1,aa x.2.1]⟩)/\aG (x.2.1 != 0) (aC a (ae b) [aa 0,aa 0,aa 0,.bool false,aa 0] λa=>au a λw1=>aj w1 none (ae b) (.agg [.int .i64,.int .i64,.int .i64,.bool,.int .i64]) λ(x:Int×Int×Int×Bool×Int×Unit)=>c ((x.1,x.2.1,x.2.2.1,x.2.2.2.1,x.2.2.2.2.1,()),false,()) w1) (x.1.isSome=true/\aj a none x.1
 (.agg [.int .i64,.int .i64,.int .i64,.bool,.int .i64]) λ(x:Int×Int×Int×Bool×Int×Unit)=>aC a (ae b) [aa x.1,aa x.2.1,aa x.2.2.1,.bool x.2.2.2.1,aa x.2.2.2.2.1] λa=>au a λw1=>aj w1 none (ae b) (.agg [.int .i64,.int .i64,.int .i64,.bool,.int .i64]) λ(x:Int×Int×Int×Bool×Int×Unit)=>c ((x.1,x.2.1,x.2.2.1,x.2.2.2.1,x.2.2.2.2.1,()),true,()) w1)):=by kernel_rfl
theorem Qx (p:Option A2) (i g:Int) (b:Bool) (w:A0) (a:Int->A0->Prop):(aI G3 (λ_=>[]) 181 [ah p,aa i,aa g,.bool b] w a)=(
 ∃(x:Option A2×Int×Unit),af AC 221 [ah p,aa i] w (.tuple ⟨[ah x.1,aa x.2.1]⟩)/\aG (x.2.1 != 0) (au w (a x.2.1)) (cM x.1 2 w λc=>((!c != g&&b)=true->x.1.isSome=true)/\((!c != g&&b)=true->x.1.isSome=true)/\aj w (some (!c != g&&b)) (ad x.1 3) rO λd=>aG (c != g||b&& !d) (au w (a 7)) (cM x.1 4 w λe=>aG (e==1000) (au w (a 3)) (cM x.1 4 w λf=>x.1.isSome=true/\x.1.isSome=true/\aC w (ad x.1 4) [aa (aH .i64 f 1)] λh=>au h (a 0))))):=by kernel_rfl
theorem Qy (p:Option A2) (i g:Int) (w:A0) (a:Int->A0->Prop):(aI G3 (λ_=>[]) 182 [ah p,aa i,aa g] w a)=(
 ∃(x:Option A2×Int×Unit),af AC 221 [ah p,aa i] w (.tuple ⟨[ah x.1,aa x.2.1]⟩)/\aG (x.2.1 != 0) (au w (a x.2.1)) (cM x.1 2 w λb=>aG (b != g) (au w (a 7)) (cM x.1 4 w λc=>aG (c==0) (au w (a 6)) (cM x.1 4 w λd=>x.1.isSome=true/\x.1.isSome=true/\aC w (ad x.1 4) [aa (a6 .i64 d 1)] λe=>au e (a 0))))):=by kernel_rfl
theorem Hg (p:Option A2) (i o:Int) (w:A0) (a:Int->A0->Prop):(aI G3 (λ_=>[]) 184 [ah p,aa i,aa o] w a)=(
 ∃(x:Option A2×Int×Unit),af AC 221 [ah p,aa i] w (.tuple ⟨[ah x.1,aa x.2.1]⟩)/\aG (x.2.1 != 0) (au w (a x.2.1)) (cM x.1 0 w λb=>aG (b != o) (au w (a 7)) (cM x.1 4 w λc=>aG (decide (c>0)) (au w (a 9)) (x.1.isSome=true/\aC w x.1 [aa 0,aa 0,aa 0,.bool false,aa 0] λd=>au d (a 0))))):=by kernel_rfl
def uh:Nat->a7:=(λ|3=>[(13,Go.RX.El.one (Go.RX.Sc.int Aq))]| _=>[])
theorem Qz (p:Option A2) (g:Int) (w:A0) (d:Int->A0->Prop):(aI G3 uh 169 [ah p,aa g] w d)=(
 aN w ⟨[aa g]⟩ 3 λb a=>aA AC 208 (.el fi) [ah p,.func (.func 209) ⟨[]⟩ {toList:=[ah (ae b)]}] a λx a=> ∃(I:Nat->Int×Unit->A0->Prop),(∃n, ∀w1,Ext a w1->I n (0,()) w1)/\ ∀(n:Nat) (s:Int×Unit) (w1:A0),I n s w1->aG (decide (s.1<(↑x.2.1:Int))) ((x.1.isSome=true/\0<=s.1/\s.1<(↑x.2.1:Int))/\aV w1 (ad x.1 (Ar s.1*1)) λx=>ff p 0 w1 λc=>(c.1.isSome=true/\0<=x/\x<(↑c.2.1:Int))/\aC w1 (ad c.1 (x.toNat*5)) [aa 0,aa 0,aa 0,.bool false,
 aa 0] λa=> ∀e,Ext a e-> ∃(f:Nat),f<n/\I f (aH .i64 s.1 1,()) e) (au w1 (d (↑x.2.1:Int)))):=by kernel_rfl
theorem UZ (n:Int) (w:A0) (a:Option A2×Int×Unit->A0->Prop):(aI G3 (λ_=>[]) 73 [aa n] w a)=(
 aG (decide (n<1)||decide (n>64)) (au w (a (none,1,()))) (NV w 40 5 n n ⟨[aa 0,aa 0,aa 0,.bool false,aa 0]⟩ 255 λb c=>aN c {toList:=[.slice (ae b) n.toNat n.toNat]} 215 λb c=>au c (a (some ⟨b,0,none⟩,0,())))):=by kernel_rfl
theorem Bf {lo sz:Int} (h:dX lo sz=true):lo.toNat+sz.toNat<=64/\1<=sz.toNat:=by
 have:=iU.1 h;omega
theorem QA {w:BitVec 64} {lo sz:Int} (h:dX lo sz=true):(fj w lo sz).toNat=w.toNat / 2 ^ lo.toNat % 2 ^ sz.toNat:=by
 have a:=Bf h;apply OK;intro j;rw[GH,UC h,Pm (by omega),J7,Nat.testBit_div_two_pow,GH,Nat.add_comm j,Bool.and_comm]
theorem QB {w v:BitVec 64} {lo sz:Int} (h:dX lo sz=true) (b:w.toNat<2 ^ lo.toNat):(td w lo sz v).toNat=2 ^ lo.toNat*(v.toNat % 2 ^ sz.toNat)+w.toNat:=by
 have d:=Bf h;apply OK;intro j;rw[GH,UD h,Nat.testBit_two_pow_mul_add _ b];by_cases c:j<64
 ·rw[Zz (by omega) c];by_cases h1:j<lo.toNat
  ·rw[if_neg (by omega),if_pos h1,GH]
  ·rw[if_neg h1,J7,GH];by_cases e:j<lo.toNat+sz.toNat
   ·rw[if_pos (by omega)];have:j - lo.toNat<sz.toNat:=by omega
    simp[this]
   ·rw[if_neg (by omega)];have a: ¬ j - lo.toNat<sz.toNat:=by omega
    simp only[a,decide_false,Bool.false_and];rw[<-GH];exact Nat.testBit_lt_two_pow (HB b (Nat.pow_le_pow_right (by decide) (by omega)))
 ·rw[BitVec.getLsbD_of_ge _ _ (by omega),if_neg (by omega),J7];have a: ¬ j - lo.toNat<sz.toNat:=by omega
  simp[a]
theorem abl (b:BitVec 64):U b=(b.toNat:Int):=rfl
theorem DC {b:BitVec 64} {n:Nat} (h:b.toNat=n):U b=(n:Int):=by rw[abl,h]
def bB (b:Bool):BitVec 64:=if b then 1#64 else 0#64
def nB (b:Bool):Nat:=if b then 1 else 0
theorem Pq (b:Bool):(bB b).toNat=nB b:=by cases b<;>rfl
theorem OP (b:Bool):nB b<=1:=by cases b<;>decide
theorem pJ {w v:BitVec 64} {lo sz:Int} {a n:Nat} (c:dX lo sz=true) (b:w.toNat=a) (d:a<2 ^ lo.toNat) (hv:v.toNat=n) (e:n<2 ^ sz.toNat):(td w lo sz v).toNat=2 ^ lo.toNat*n+a:=by
 rw[QB c (by rw[b];exact d),hv,b,OD e]
theorem Le {p l:Bool} {r f:BitVec 64} {x y:Nat} (a:r.toNat=x) (hx:x<8) (b:f.toNat=y) (i:y<4096):
 (qX 0#64 0 [(bB p,1),(r,3),(bB l,1),(0#64,7),(f,12)]).toNat=nB p+2*x+16*nB l+4096*y:=by
 have j:=OP p;have k:=OP l;simp only[qX];rw[if_pos (by decide),if_pos (by decide),if_pos (by decide),if_pos (by decide),if_pos (by decide)];have c:=pJ (w:=0#64) (lo:=0) (sz:=1) (by decide) (rfl:(0#64).toNat=0) (by decide) (Pq p) (by show nB p<2;omega);have d:=pJ (lo:=0+1) (sz:=3) (by decide) c (by show 1*nB p+0<2;omega) a (by show x<8;omega);have e:=pJ (lo:=0+1+3) (sz:=1) (by decide) d (by show 2*x+(1*nB p+0)<16;omega) (Pq l) (by show nB l<2;omega);have g:=pJ (lo:=0+1+3+1) (sz:=7) (v:=0#64) (by decide) e (by show 16*nB l+(2*x+(1*nB p+0))<32;omega) (rfl:(0#64).toNat=0) (by decide);have h:=pJ (lo:=0+1+3+1+7) (sz:=12) (by decide) g (by show 32*0+(16*nB l+(2*x+(1*nB p+0)))<4096;omega) b (by show y<4096;omega);rw[h];show 4096*y+(32*0+(16*nB l+(2*x+(1*nB p+0))))= _;omega
theorem Hh (w:BitVec 64):mG w 0 [1,3,1,7,12,40]=some [fj w 0 1,fj w 1 3,fj w 4 1,fj w 5 7,fj w 12 12,fj w 24 40]:=by
 simp only[mG];rw[if_pos (by decide),if_pos (by decide),if_pos (by decide),if_pos (by decide),if_pos (by decide),if_pos (by decide)];rfl
theorem nT {w:BitVec 64} {lo sz:Int} (a b:Nat) (h:dX lo sz=true) (c:2 ^ lo.toNat=a) (hb:2 ^ sz.toNat=b):(fj w lo sz).toNat=w.toNat / a % b:=by
 rw[QA h,c,hb]
noncomputable def D0:dG AC:={C3 with vG:=true}
theorem U7 (b:Bool) (w:A0) (a:Int->A0->Prop):(aI D0 (λ_=>[]) 249 [.bool b] w a)=(
 aG b (au w (a 1)) (au w (a 0))):=by kernel_rfl
theorem yZ (p:Bool) (r:Int) (l:Bool) (f:Int) (w:A0) (d:Bool->A0->Prop):(aI D0 (λ_=>[]) 94 [.agg ⟨[.bool p,aa r,.bool l,aa f]⟩] w d)=(
 aN w ⟨[.bool p,aa r,.bool l,aa f]⟩ 130 λb a=>true=true/\s_ a (ad (ae b) 0) λx=>aG (!x) (aj a none (ae b) kj λ(x:Bool×Int×Bool×Int×Unit)=>au a λw1=>d (x.1==false&&(x.2.1==0&&(x.2.2.1==false&&(x.2.2.2.1==0&&true)))) w1) (true=true/\aV a (ad (ae b) 1) λx=>((!decide (x<0))=true->true=true)/\aj a (some !decide (x<0)) (ad (ae b) 1) aX λ(c:Int)=>((!(decide (x<0)||decide (c>7)))=true->true=true)/\aj a (some !(decide (x<0)||decide (c>7))) (ad (ae b) 3)
 aX λ(e:Int)=>((!(decide (x<0)||decide (c>7)||decide (e<0)))=true->true=true)/\aj a (some !(decide (x<0)||decide (c>7)||decide (e<0))) (ad (ae b) 3) aX λ(g:Int)=>aG (decide (x<0)||decide (c>7)||decide (e<0)||decide (g>=4096)) (au a (d false)) (true=true/\aV a (ad (ae b) 1) λx=>((!decide (x>0))=true->true=true)/\aj a (some !decide (x>0)) (ad (ae b) 2) rO λh=>au a (d (decide (x>0)|| !h))))):=by kernel_rfl
theorem U8 (x:Int) (w:A0) (a:Int->A0->Prop):(aI D0 (λ_=>[]) 100 [aa x] w a)=(
 aG (decide (x<0)||decide (x>=4)) (au w (a 0)) (∀(b:Int),b=fX .i64 4 x->0<=b/\ ∀(x:Int),x=Du .i64 1 b->au w (a x))):=by kernel_rfl
theorem QC (x:Int) (w:A0) (a:Int->A0->Prop):(aI D0 (λ_=>[]) 103 [aa x] w a)=(
 aG (decide (x<0)||decide (x>3)) (au w (a 0)) (aN w ⟨[aa 1,aa 16,aa 256,aa 4096]⟩ 3 λb c=>(true=true/\0<=x/\x<(↑4:Int))/\aV c (ad (ae b) (x.toNat*1)) λx=>au c (a x))):=by kernel_rfl
theorem Cu {w:A0} {b:Nat} {p:Bool} {r:Int} {l:Bool} {f:Int} (h:bO w b [.bool p,aa r,.bool l,aa f]):
 cU w (ad (ae b) 0) (.one .bool) p/\cU w (ad (ae b) 1) (.one (.int .i64)) r/\cU w (ad (ae b) 2) (.one .bool) l/\cU w (ad (ae b) 3) (.one (.int .i64)) f/\
  cU w (ae b) (.agg [.bool,.int .i64,.bool,.int .i64]) (p,r,l,f,()):=by
 refine⟨?_,?_,?_,?_,?_⟩
 ·rw[aY];exact h.oF rfl
 ·rw[aY];exact h.oF rfl
 ·rw[aY];exact h.oF rfl
 ·rw[aY];exact h.oF rfl
 ·exact h.rdA λi _=>by rw[Ct];rfl
def bU (p:Bool) (r:Int) (l:Bool) (f:Int):Bool:=
 match p with
 |true=>decide (0<=r)&&decide (r<=7)&&decide (0<=f)&&decide (f<4096)&&(decide (r>0)|| !l)
 |false=>decide (r=0)&& !l&&decide (f=0)
theorem y6 (p:Bool) (r:Int) (l:Bool) (f:Int) (w:A0):aE AC 94 (.el (.one .bool)) [.agg ⟨[.bool p,aa r,.bool l,aa f]⟩] w (λb w'=>b=bU p r l f/\Ext w w'):=by
 refine ai (C:=D0) (aW:=λ_=>[]) (AJ (yZ p r l f w _) ?_);intro w1 h1;obtain⟨i,g1,j,e,k⟩:=Cu (bO.new w1 [.bool p,aa r,.bool l,aa f] 130);refine⟨rfl,p,i,ab (λh=>⟨_,k,λg a=>⟨?_,(h1.jl _).trans a⟩⟩) (λh=>⟨rfl,r,g1,λ_=>rfl,r,λ_=>g1,λ_=>rfl,f,λ_=>e,λ_=>rfl,f,λ_=>e,ab (λd=>λg a=>⟨?_,(h1.jl _).trans a⟩) (λd=>⟨rfl,r,g1,λ_=>rfl,l,λ_=>j,λg a=>⟨?_,(h1.jl _).trans a⟩⟩)⟩)⟩
 ·have c:p=false:=by simpa using h
  subst c;by_cases c1:r=0<;>by_cases c2:f=0<;>cases l<;>simp[bU,c1,c2]
 ·have c:p=true:=by simpa using h
  subst c;simp only[FY,decide_eq_true_eq] at d;symm;simp only[bU,Kb,decide_eq_false_iff_not];omega
 ·have c:p=true:=by simpa using h
  subst c;simp only[Fk,decide_eq_false_iff_not] at d;have c1:0<=r:=by omega
  have c2:r<=7:=by omega
  have c3:0<=f:=by omega
  have c4:f<4096:=by omega
  simp[bU,c1,c2,c3,c4]
noncomputable def OQ:Entry AC where
 f:=249
 fn l:=match l with
  |[.bool b]=>some (True,.int .u64 (U (bB b)))
  | _=>none
 ok args pre v h a w:=by
  split at h
  ·rename_i b;cases h;refine bY (x:=U (bB b)) (ai (C:=D0) (aW:=λ_=>[]) (AJ (U7 b w _) ?_));exact ab (λhb w1 h1=>⟨by subst hb;rfl,h1⟩) (λhb w1 h1=>⟨by subst hb;rfl,h1⟩)
  ·cases h
noncomputable def u7:Entry AC where
 f:=94
 fn l:=match l with
  |[.agg ⟨[.bool p,.int .i64 r,.bool l,.int .i64 f]⟩]=>some (True,.bool (bU p r l f))
  | _=>none
 ok args pre v h a w:=by
  split at h
  ·rename_i p r l f;cases h;exact bY (y6 p r l f w)
  ·cases h
def gX (x:Int):Int:=if x=0 then 1 else if x=1 then 16 else if x=2 then 256 else if x=3 then 4096 else 0
theorem U9 (x:Int) (w:A0):aE AC 100 (.el (.one (.int .i64))) [aa x] w (λb w'=>b=gX x/\Ext w w'):=by
 refine ai (C:=D0) (aW:=λ_=>[]) (AJ (U8 x w _) ?_);refine ab (λh w1 h1=>⟨?_,h1⟩) (λh y a=>?_)
 ·simp only[FY,decide_eq_true_eq] at h;unfold gX;rw[ao (by omega),ao (by omega),ao (by omega),ao (by omega)]
 ·simp only[Fk,decide_eq_false_iff_not] at h;rw[eJ (by omega) (by omega)] at a;refine⟨by omega,λz c w1 h1=>⟨?_,h1⟩⟩;have:x=0\/x=1\/x=2\/x=3:=by omega
  rcases this with rfl|rfl|rfl|rfl<;>(subst a;rw[c];decide+kernel)
theorem QD (x:Int) (w:A0):aE AC 103 (.el (.one (.int .i64))) [aa x] w (λb w'=>b=gX x/\Ext w w'):=by
 refine ai (C:=D0) (aW:=λ_=>[]) (AJ (QC x w _) ?_);refine ab (λh w1 h1=>⟨?_,h1⟩) (λh w1 h1=>?_)
 ·simp only[FY,decide_eq_true_eq] at h;unfold gX;rw[ao (by omega),ao (by omega),ao (by omega),ao (by omega)]
 ·simp only[Fk,decide_eq_false_iff_not] at h;have sl:Sl (w1.alloc (.cells ⟨[aa 1,aa 16,aa 256,aa 4096]⟩ 3)) eI (ae w1.heap.size) [1,16,256,4096]:=Sl.jN (bO.new w1 _ _) rfl;have hx:x.toNat<4:=by omega
  have g:[(1:Int),16,256,4096][x.toNat]? =some (gX x):=by
   have:x=0\/x=1\/x=2\/x=3:=by omega
   rcases this with rfl|rfl|rfl|rfl<;>rfl
  exact⟨⟨rfl,by omega,by omega⟩, _,(sl _ _ g).2,λc a=>⟨rfl,(h1.jl _).trans a⟩⟩
noncomputable def OR:Entry AC where
 f:=100
 fn l:=match l with
  |[.int .i64 x]=>some (True,.int .i64 (gX x))
  | _=>none
 ok args pre v h a w:=by
  split at h
  ·rename_i x;cases h;exact bY (U9 x w)
  ·cases h
noncomputable def Gm:Entry AC where
 f:=103
 fn l:=match l with
  |[.int .i64 x]=>some (True,.int .i64 (gX x))
  | _=>none
 ok args pre v h a w:=by
  split at h
  ·rename_i x;cases h;exact bY (QD x w)
  ·cases h
noncomputable def D1:dG AC:={D0 with sP:=[tn,vH,FO,FP,OQ,u7,OR,Gm]}
theorem QE (p:Bool) (r:Int) (l:Bool) (f:Int) (w:A0) (e:Bool->A0->Prop):(aI D1 (λ_=>[]) 96 [.agg ⟨[.bool p,aa r,.bool l,aa f]⟩] w e)=(
 aN w ⟨[.bool p,aa r,.bool l,aa f]⟩ 130 λb a=>true=true/\s_ a (ad (ae b) 0) λx=>(x=true->true=true)/\aj a (some x) (ad (ae b) 1) aX λ(d:Int)=>aj a (some (x&&d==0)) (ae b) kj λ(c:Bool×Int×Bool×Int×Unit)=>((x&&d==0)=true->True)/\au a (e (x&&d==0&&bU c.1 c.2.1 c.2.2.1 c.2.2.2.1))):=by kernel_rfl
theorem Lg (p:Bool) (r:Int) (l:Bool) (f:Int) (t:Int) (w:A0) (d:Bool->A0->Prop):(aI D1 (λ_=>[]) 145 [.agg ⟨[.bool p,aa r,.bool l,aa f]⟩,aa t] w d)=(
 aN w ⟨[.bool p,aa r,.bool l,aa f]⟩ 130 λb a=>aj a none (ae b) kj λ(x:Bool×Int×Bool×Int×Unit)=>True/\(bU x.1 x.2.1 x.2.2.1 x.2.2.2.1=true->true=true)/\aj a (some (bU x.1 x.2.1 x.2.2.1 x.2.2.2.1)) (ad (ae b) 1) aX λ(c:Int)=>((bU x.1 x.2.1 x.2.2.1 x.2.2.2.1&&decide (c>0)&&decide (t>=0)&&decide (t<=7))=true->true=true)/\aj a (some (bU x.1 x.2.1 x.2.2.1 x.2.2.2.1&&decide (c>0)&&decide (t>=0)&&decide (t<=7))) (ad (ae b) 1) aX λ(g:Int)=> ∀(e:Int),e=gS .i64 t
 g->au a (d (bU x.1 x.2.1 x.2.2.1 x.2.2.2.1&&decide (c>0)&&decide (t>=0)&&decide (t<=7)&&e==0))):=by kernel_rfl
theorem QF (x y:Int) (w:A0) (b:Int->A0->Prop):(aI D1 (λ_=>[]) 87 [aa x,aa y] w b)=(
 ((!(decide (x<0)||decide (x>=65536)))=true->True)/\ ∀(c:Int),c=gX y->aG (decide (x<0)||decide (x>=65536)||c==0) (au w (b (-1))) (∀(a:Int),a=aJ .u64 x-> ∀(x:Int),x=fX .i64 4 y->U (B a)=a/\ ∀(d:Int),d=U (fj (B a) x 4)-> ∀(x:Int),x=aJ .i64 d->au w (b x))):=by kernel_rfl
theorem Lh (x y:Int) (w:A0) (a:Int->A0->Prop):(aI D1 (λ_=>[]) 63 [aa x,aa y] w a)=(
 ((!(decide (x<0)||decide (x>65535)))=true->True)/\ ∀(c:Int),c=gX y->aG (decide (x<0)||decide (x>65535)||c==0) (au w (a (-1))) (True/\ ∀(b:Int),b=gX y->b≠0/\ ∀(d:Int),d=wV .i64 x b-> ∀(x:Int),x=jY d 16->au w (a x))):=by kernel_rfl
theorem QG (p:Bool) (r:Int) (l:Bool) (f:Int) (w:A0) (c:Int×Int×Unit->A0->Prop):(aI D1 (λ_=>[]) 243 [.agg ⟨[.bool p,aa r,.bool l,aa f]⟩] w c)=(
 aN w ⟨[.bool p,aa r,.bool l,aa f]⟩ 130 λb a=>aj a none (ae b) kj λ(x:Bool×Int×Bool×Int×Unit)=>True/\aG (!bU x.1 x.2.1 x.2.2.1 x.2.2.2.1) (au a (c (0,11,()))) (true=true/\s_ a (ad (ae b) 0) λx=>True/\ ∀(d:Int),d=U (bB x)->true=true/\aV a (ad (ae b) 1) λx=> ∀(e:Int),e=aJ .u64 x->true=true/\s_ a (ad (ae b) 2) λx=>True/\ ∀(g:Int),g=U (bB x)->true=true/\aV a (ad (ae b) 3) λx=> ∀(h:Int),h=aJ .u64 x->aN a {toList:=[ax d,
 aa 1,ax e,aa 3,ax g,aa 1,ax 0,aa 7,ax h,aa 12]} 304 λb a=>aA AC 248 (.el rN) [.slice (ae b) 5 5] a λ(x:Int) a=>au a (c (x,0,())))):=by kernel_rfl
theorem QH (v:Int) (w:A0) (e:(Bool×Int×Bool×Int×Unit)×Bool×Unit->A0->Prop):(bW D1 (λ_=>[]) 59 [ax v] w e)=(
 aN w ⟨[.bool false,aa 0,.bool false,aa 0]⟩ 130 λb a=>aN a ⟨[aa 1,aa 3,aa 1,aa 7,aa 12,aa 40]⟩ 3 λi a=>aA AC 93 (.el fi) [ax v,.slice (ae i) 6 6] a λx a=>(x.1.isSome=true/\(0:Int)<=0/\0<(↑x.2.1:Int))/\cJ a (ad x.1 0) λj=>(x.1.isSome=true/\(0:Int)<=1/\1<(↑x.2.1:Int))/\cJ a (ad x.1 1) λk=> ∀(g:Int),g=aJ .i64 k->(x.1.isSome=true/\(0:Int)<=2/\2<(↑x.2.1:Int))/\cJ a (ad x.1 2) λl=>(x.1.isSome=true/\(0:
 Int)<=4/\4<(↑x.2.1:Int))/\cJ a (ad x.1 4) λm=> ∀(h:Int),h=aJ .i64 m->aN a ⟨[.bool false,aa 0,.bool false,aa 0]⟩ 130 λf a=>aC a (ae f) [.bool (j==1),aa g,.bool (l==1),aa h] λa=>(x.1.isSome=true/\(0:Int)<=3/\3<(↑x.2.1:Int))/\cJ a (ad x.1 3) λc=>((!decide (c>0))=true->x.1.isSome=true/\(0:Int)<=5/\5<(↑x.2.1:Int))/\aj a (some !decide (c>0)) (ad x.1 5) rN λ(x:Int)=>aj a (some !(decide (c>0)||decide (x>0))) (ae f) kj λ(d
 :Bool×Int×Bool×Int×Unit)=>((!(decide (c>0)||decide (x>0)))=true->True)/\aG (decide (c>0)||decide (x>0)|| !bU d.1 d.2.1 d.2.2.1 d.2.2.2.1) (aC a (ae b) [.bool false,aa 0,.bool false,aa 0] λa=>au a λw1=>aj w1 none (ae b) kj λ(x:Bool×Int×Bool×Int×Unit)=>e ((x.1,x.2.1,x.2.2.1,x.2.2.2.1,()),false,()) w1) (aj a none (ae f) kj λ(x:Bool×Int×Bool×Int×Unit)=>aC a (ae b) [.bool x.1,aa x.2.1,.bool x.2.2.1,aa x.2.2.2.1] λa=>au a λw1=>
 aj w1 none (ae b) kj λ(x:Bool×Int×Bool×Int×Unit)=>e ((x.1,x.2.1,x.2.2.1,x.2.2.2.1,()),true,()) w1)):=by kernel_rfl
def fL (p:Bool) (r:Int) (l:Bool) (f:Int):Bool:=p&&r==0&&bU p r l f
def dM (p:Bool) (r:Int) (l:Bool) (f t:Int):Bool:=bU p r l f&&decide (r>0)&&decide (t>=0)&&decide (t<=7)&&gS .i64 t r==0
theorem QI (p:Bool) (r:Int) (l:Bool) (f:Int) (w:A0):aE AC 96 (.el (.one .bool)) [.agg ⟨[.bool p,aa r,.bool l,aa f]⟩] w (λb w'=>b=fL p r l f/\Ext w w'):=by
 refine ai (C:=D1) (AJ (QE p r l f w _) ?_);intro w1 h1;obtain⟨a,g1,e,g,c⟩:=Cu (bO.new w1 _ 130);exact⟨rfl,p,a,λ_=>rfl,r,λ_=>g1, _,λ_=>c,by simp,λh d=>⟨rfl,(h1.jl _).trans d⟩⟩
theorem y7 {p:Bool} {r:Int} {l:Bool} {f:Int} (h:bU p r l f=true):0<=r/\r<=7/\0<=f/\f<4096/\(p=false->r=0/\l=false/\f=0):=by
 cases p
 ·grind[bU]
 ·simp[bU] at h
  grind
theorem Li (p:Bool) (r:Int) (l:Bool) (f t:Int) (w:A0):aE AC 145 (.el (.one .bool)) [.agg ⟨[.bool p,aa r,.bool l,aa f]⟩,aa t] w (λb w'=>b=dM p r l f t/\Ext w w'):=by
 refine ai (AJ (Lg p r l f t w _) ?_);intro w1 h1;obtain⟨e,g1,g,h,a⟩:=Cu (bO.new w1 _ 130);exact⟨_,a,trivial,λ_=>rfl,r,λ_=>g1,λ_=>rfl,r,λ_=>g1,λx c i d=>⟨by rw[c];rfl,(h1.jl _).trans d⟩⟩
def fl (x y:Int):Int:=if 0<=x/\x<65536/\0<=y/\y<=3 then x / gX y % 16 else -1
theorem Bh {y:Int}:(gX y==0)= !(decide (0<=y)&&decide (y<=3)):=by
 grind[gX]
theorem Bi {x y:Int} (h: ¬ (0<=x/\x<65536/\0<=y/\y<=3)):fl x y= -1:=ao h
theorem Bj {x:Int} (h: -9223372036854775808<=x) (h':x<9223372036854775808):aJ .i64 x=x:=gJ h h'
theorem Bk {x:Int} (h:0<=x) (h':x<18446744073709551616):aJ .u64 x=x:=by
 show H6.wrap x=x;rw[wrap_u64];omega
theorem qu {a b c:Int} (m:Nat) (h:0<=a/\a<65536) (d:2 ^ b.toNat=m) (e:dX b 4=true) (f:c=U (fj (B a) b 4)):c=a / (m:Int) % 16:=by
 have g:(B a).toNat=a:=Ca (by omega) (by omega);rw[f,DC (nT m 16 e d (by grind)),Int.natCast_emod,Int.natCast_ediv,g];rfl
theorem E9 {a y b c:Int} (d:0<=a/\a<65536) (g:0<=y/\y<=3) (eb:b=4*y) (f:c=U (fj (B a) b 4)):c=fl a y/\0<=c/\c<16:=by
 have e:c=fl a y:=by
  unfold fl;rw[av (by omega)];have:y=0\/y=1\/y=2\/y=3:=by omega
  rcases this with rfl|rfl|rfl|rfl
  ·exact qu 1 d (by grind) (by subst eb;decide) f
  ·exact qu 16 d (by grind) (by subst eb;decide) f
  ·exact qu 256 d (by grind) (by subst eb;decide) f
  ·exact qu 4096 d (by grind) (by subst eb;decide) f
 rw[e];unfold fl;omega
theorem QJ (x y:Int) (w:A0):aE AC 87 (.el (.one (.int .i64))) [aa x,aa y] w (λb w'=>b=fl x y/\Ext w w'):=by
 refine ai (C:=D1) (AJ (QF x y w _) ?_);refine⟨λ_=>trivial,λs es=>?_⟩;subst es;rw[Bh];refine ab (λh w1 h1=>⟨?_,h1⟩) (λh a e b eb=>?_)
 ·simp only[FY,decide_eq_true_eq,Od,Kb,decide_eq_false_iff_not] at h;rw[Bi (by omega)]
 ·simp only[Fk,decide_eq_false_iff_not,Ok,Ol,decide_eq_true_eq] at h;rw[Bk (by omega) (by omega)] at e;rw[eJ (by omega) (by omega)] at eb;subst e;refine⟨Ca (by omega) (by omega),λc f d g w1 h1=>⟨?_,h1⟩⟩;obtain⟨i,j,k⟩:=E9 (y:=y) (by omega) (by omega) eb f;rw[g,Bj (by omega) (by omega),i]
theorem Lj (x y:Int) (w:A0):aE AC 63 (.el (.one (.int .i64))) [aa x,aa y] w (λb w'=>b=fl x y/\Ext w w'):=by
 refine ai (C:=D1) (AJ (Lh x y w _) ?_);refine⟨λ_=>trivial,λs es=>?_⟩;subst es;rw[Bh];refine ab (λh w1 h1=>⟨?_,h1⟩) (λh=>⟨trivial,λs es=>?_⟩)
 ·simp only[FY,decide_eq_true_eq,Od,Kb,decide_eq_false_iff_not] at h;rw[Bi (by omega)]
 ·simp only[Fk,decide_eq_false_iff_not,Ok,Ol,decide_eq_true_eq] at h;have e:y=0\/y=1\/y=2\/y=3:=by omega
  have hs:1<=s:=by rcases e with rfl|rfl|rfl|rfl<;>(rw[es];decide)
  refine⟨by omega,λc a d f w1 h1=>⟨?_,h1⟩⟩;have g:wV .i64 x s=x / s:=by
   unfold wV;rw[Int.tdiv_eq_ediv_of_nonneg (by omega)];have h1:0<=x / s:=NX (by omega) (by omega);have j:x / s<=x:=Int.ediv_le_self _ (by omega);exact gJ (by omega) (by omega)
  have h1:0<=x / s:=NX (by omega) (by omega);rw[g] at a;have i:jY c 16=c % 16:=Int.tmod_eq_emod_of_nonneg (by omega);rw[f,i,a,es];unfold fl
  grind
def vK (p:Bool) (r:Int) (l:Bool) (f:Int):Int:=(nB p:Int)+2*r+16*(nB l:Int)+4096*f
def FE (p:Bool) (r:Int) (l:Bool) (f:Int):Int:=if bU p r l f=true then vK p r l f else 0
def pkE (p:Bool) (r:Int) (l:Bool) (f:Int):Int:=if bU p r l f=true then 0 else 11
theorem IH {x:Int} (h:0<=x) (h':x<18446744073709551616):(B x).toNat=x.toNat:=by grind[B]
theorem Hi {p:Bool} {r:Int} {l:Bool} {f:Int} (h:bU p r l f=true):U (qX 0#64 0 [(bB p,1),(B r,3),(bB l,1),(0#64,7),(B f,12)])=vK p r l f:=by
 have b:=y7 h;rw[DC (Le (IH (by omega) (by omega)) (by omega) (IH (by omega) (by omega)) (by omega))];unfold vK;omega
theorem QK (p:Bool) (r:Int) (l:Bool) (f:Int) (w:A0):aE AC 243 (.bA [eU,eI]) [.agg ⟨[.bool p,aa r,.bool l,aa f]⟩] w (λx w'=>x=(FE p r l f,pkE p r l f,())/\Ext w w'):=by
 refine ai (C:=D1) (aW:=λ_=>[]) (AJ (QG p r l f w _) ?_);intro w1 h1;obtain⟨m,g1,o,q,s⟩:=Cu (bO.new w1 _ 130);refine⟨_,s,trivial,ab (λh g a=>⟨?_,(h1.jl _).trans a⟩) (λh=>⟨rfl,p,m,trivial,λF t=>⟨rfl,r,g1,λd i=>⟨rfl,l,o,trivial,λG u=>⟨rfl,f,q,λe j g a v k=>?_⟩⟩⟩⟩)⟩
 ·have h':bU p r l f=false:=by simpa using h
  unfold FE pkE;rw[h'];rfl
 ·have h':bU p r l f=true:=by simpa using h
  have b:=y7 h';rw[Bk (by omega) (by omega)] at i j;subst t;subst i;subst u;subst j;have y:U (B d)=d:=Ca (by omega) (by omega);have z:U (B e)=e:=Ca (by omega) (by omega);have sl:Sl v eP _ (Oo [(bB p,1),(B d,3),(bB l,1),(0#64,7),(B e,12)]):=Sl.jN ((bO.new g _ _).ext k) (by
   simp only[Oo,Cg,List.map_nil,y,z];rfl)
  refine(UI (n:=5) (c:=5) sl rfl (by decide)).mono ?_;rintro x H ⟨A,D⟩ I E;refine⟨?_,((((h1.jl _).trans a).jl _).trans k).trans (D.trans E)⟩;rw[A,Hi h'];unfold FE pkE;rw[av h',av h']
theorem QL {x y:Int} (h:0<=x+y) (h':x+y<18446744073709551616):aH .u64 x y=x+y:=by
 show H6.wrap (x+y)= _;rw[wrap_u64];omega
theorem QM {x y:Int} (h:0<=x*y) (h':x*y<18446744073709551616):fX .u64 x y=x*y:=by
 show H6.wrap (x*y)= _;rw[wrap_u64];omega
theorem Gn {w:A0} {b:Nat} {l:List AF} (h:bO w b l) (vs:List AF) (a:vs.length=l.length):bO (jZ w (ae b) vs) b vs:=by
 have:=h.put (o:=0)
 grind
def uG (n:Nat):Bool:=decide (n / 32 % 128=0)&&decide (n / 16777216 % 1099511627776=0)&&bU (n % 2==1) ((n / 2 % 8:Nat):Int) (n / 16 % 2==1) ((n / 4096 % 4096:Nat):Int)
def Il (n:Nat):Bool:=uG n&&n % 2==1
def FF (n:Nat):Int:=if uG n=true then((n / 2 % 8:Nat):Int) else 0
def J' (n:Nat):Bool:=uG n&&n / 16 % 2==1
def Fl (n:Nat):Int:=if uG n=true then((n / 4096 % 4096:Nat):Int) else 0
theorem ZK {w0 w:A0} {e:El} {s:Option A2×Nat×Nat} {xs:List e.T} (h:lW w0 w e s xs) {a:A2} (d:s.1=some a):a.block<w.heap.size:=by
 obtain⟨_, _,c⟩:=h;rcases c with ⟨⟩|⟨b,l,c, _,f, _⟩
 grind
 ·rw[c] at d;cases d;exact f.lt
theorem I_ (n:Nat):(((n:Nat):Int)==1)=(n==1):=by
 grind
theorem Ja (n:Nat):decide (((n:Nat):Int)>0)= !decide (n=0):=by
 grind
theorem QN (v:BitVec 64) (w:A0):aE AC 59 (.bA [.agg [.bool,.int .i64,.bool,.int .i64],.one .bool]) [ax (U v)] w
 (λx w'=>x=((Il v.toNat,FF v.toNat,J' v.toNat,Fl v.toNat,()),uG v.toNat,())/\Ext w w'):=by
 refine aS (C:=D1) (aW:=λ_=>[]) (AJ (QH (U v) w _) ?_);intro w1 h1 l u r m;have dj:bO l w1.heap.size [B2 false,aa 0,B2 false,aa 0]:=(bO.new w1 _ _).ext u;have H:Ext w l:=(h1.jl _).trans u;have y:Ext w r:=(H.jl _).trans m;have sl:Sl r eI (ae l.heap.size) [1,3,1,7,12,40]:=Sl.jN ((bO.new l _ _).ext m) rfl;refine(Qi (v:=v) (c:=6) sl rfl (by decide)).mono ?_;rintro⟨p,n,c⟩ X ⟨e,o⟩;rw[Hh] at e;have ln:n=6:=by have:=e.len;simpa[Cb] using this
 subst ln
 let N:=v.toNat
 have I:U (fj v 0 1)=((N % 2:Nat):Int):=by rw[DC (nT 1 2 (by decide) rfl rfl),Nat.div_one]
 have J:U (fj v 1 3)=((N / 2 % 8:Nat):Int):=DC (nT 2 8 (by decide) rfl rfl);have K:U (fj v 4 1)=((N / 16 % 2:Nat):Int):=DC (nT 16 2 (by decide) rfl rfl);have L:U (fj v 5 7)=((N / 32 % 128:Nat):Int):=DC (nT 32 128 (by decide) rfl rfl);have M:U (fj v 12 12)=((N / 4096 % 4096:Nat):Int):=DC (nT 4096 4096 (by decide) (by decide) (by decide));have O:U (fj v 24 40)=((N / 16777216 % 1099511627776:Nat):Int):=DC (nT 16777216 1099511627776 (by decide) (by decide) (by decide));have P:Cb ((some [fj v 0 1,fj v 1 3,fj v 4 1,fj v 5 7,fj v 12 12,fj v 24 40]).getD [])=[((N % 2:Nat):Int),((N / 2 % 8:Nat):Int),((N / 16 % 2:Nat):Int),((N / 32 % 128:Nat):Int),((N / 4096 % 4096:Nat):Int),((N / 16777216 % 1099511627776:Nat):Int)]:=by
  show[U (fj v 0 1),U (fj v 1 3),U (fj v 4 1),U (fj v 5 7),U (fj v 12 12),U (fj v 24 40)]= _;rw[I,J,K,L,M,O]
 rw[P] at e;have Q:p.isSome=true:=(e.sl 0 _ rfl).1;have ix: ∀i:Int,0<=i->i<6->p.isSome=true/\0<=i/\i<((6:Nat):Int):=λi a b=>⟨Q,a,b⟩;refine⟨ix 0 (by decide) (by decide), _,(e.sl 0 _ rfl).2,ix 1 (by decide) (by decide), _,(e.sl 1 _ rfl).2,λY z=>⟨ix 2 (by decide) (by decide), _,(e.sl 2 _ rfl).2,ix 4 (by decide) (by decide), _,(e.sl 4 _ rfl).2,λZ A d f g q=>?_⟩⟩;rw[Bj (by omega) (by omega)] at z A;rw[I_,I_];subst z;subst A;have bt:bO g d.heap.size [B2 false,aa 0,B2 false,aa 0]:=(bO.new d _ _).ext q;refine⟨⟨rfl,bt.st (by simp)⟩,?_⟩;have bp:=Gn bt [B2 (N % 2==1),aa ((N / 2 % 8:Nat):Int),B2 (N / 16 % 2==1),aa ((N / 4096 % 4096:Nat):Int)] rfl;have B:lW r (jZ g (ae d.heap.size) [B2 (N % 2==1),aa ((N / 2 % 8:Nat):Int),B2 (N / 16 % 2==1),aa ((N / 4096 % 4096:Nat):Int)]) eU (p,6,c) _:=
  ((e.ext f).ext ((Ext.alloc _ _).trans q)).same λa R=>m5 _ _ ⟨d.heap.size,0,none⟩ 0 _ (by
    have:=ZK e R;have:=f.size;show a.block≠d.heap.size;omega)
 have S:Ext w g:=(((y.trans o).trans f).jl _).trans q;have D:Ext w (jZ g (ae d.heap.size) [B2 (N % 2==1),aa ((N / 2 % 8:Nat):Int),B2 (N / 16 % 2==1),aa ((N / 4096 % 4096:Nat):Int)]):=S.jZ (a:=⟨d.heap.size,0,none⟩) (((y.trans o).trans f).size) _;have E:cU _ (ae d.heap.size) (.agg [.bool,.int .i64,.bool,.int .i64]) (N % 2==1,((N / 2 % 8:Nat):Int),N / 16 % 2==1,((N / 4096 % 4096:Nat):Int),()):=
  bp.rdA λi _=>by rw[Ct];rfl
 have lt1:=dj.lt;have T:w1.heap.size≠d.heap.size:=by
  have a1:=m.size;have a2:=o.size;have a3:=f.size;rw[lP] at a1;omega
 have F:bO (jZ g (ae d.heap.size) [B2 (N % 2==1),aa ((N / 2 % 8:Nat):Int),B2 (N / 16 % 2==1),aa ((N / 4096 % 4096:Nat):Int)]) w1.heap.size [B2 false,aa 0,B2 false,aa 0]:=
  ((((((dj.ext (Ext.alloc _ _)).ext m).ext o).ext f).ext (Ext.alloc _ _)).ext q).Xu (a:=⟨d.heap.size,0,none⟩) T _
 refine⟨ix 3 (by decide) (by decide), _,(B.sl 3 _ rfl).2,λ_=>ix 5 (by decide) (by decide), _,λ_=>(B.sl 5 _ rfl).2, _,λ_=>E,λ_=>trivial,?_⟩;rw[Ja,Ja];have G:uG N= !(!decide (N / 32 % 128=0)|| !decide (N / 16777216 % 1099511627776=0)|| !bU (N % 2==1) ((N / 2 % 8:Nat):Int) (N / 16 % 2==1) ((N / 4096 % 4096:Nat):Int)):=by
  simp[uG,bU]
 refine ab (λhb V h=>?_) (λhb=>⟨_,E,λV h=>?_⟩)
 ·have s:uG N=false:=by rw[G,hb];rfl
  have j:=F.ext h;refine⟨⟨rfl,j.st (by simp)⟩,λW k=>⟨(false,0,false,0,()),?_,?_,?_⟩⟩
  ·have t:=(Gn j [B2 false,aa 0,B2 false,aa 0] rfl).ext k;exact t.rdA λi _=>by rw[Ct];rfl
  ·show _=((Il N,FF N,J' N,Fl N,()),uG N,());unfold Il FF J' Fl;rw[s];rfl
  ·exact((D.trans h).jZ (a:=⟨w1.heap.size,0,none⟩) h1.size _).trans k
 ·have s:uG N=true:=by rw[G,hb];rfl
  have j:=F.ext h;refine⟨⟨rfl,j.st (by simp)⟩,λW k=>⟨(N % 2==1,((N / 2 % 8:Nat):Int),N / 16 % 2==1,((N / 4096 % 4096:Nat):Int),()),?_,?_,?_⟩⟩
  ·have t:=(Gn j [B2 (N % 2==1),aa ((N / 2 % 8:Nat):Int),B2 (N / 16 % 2==1),aa ((N / 4096 % 4096:Nat):Int)] rfl).ext k;exact t.rdA λi _=>by rw[Ct];rfl
  ·show _=((Il N,FF N,J' N,Fl N,()),uG N,());unfold Il FF J' Fl;rw[s,av rfl,av rfl,GS,GS]
  ·exact((D.trans h).jZ (a:=⟨w1.heap.size,0,none⟩) h1.size _).trans k
noncomputable def Pr:Entry AC where
 f:=96
 fn l:=match l with
  |[.agg ⟨[.bool p,.int .i64 r,.bool l,.int .i64 f]⟩]=>some (True,.bool (fL p r l f))
  | _=>none
 ok args pre v h a w:=by
  split at h
  ·rename_i p r l f;cases h;exact bY (QI p r l f w)
  ·cases h
noncomputable def Jb:Entry AC where
 f:=145
 fn l:=match l with
  |[.agg ⟨[.bool p,.int .i64 r,.bool l,.int .i64 f]⟩,.int .i64 t]=>some (True,.bool (dM p r l f t))
  | _=>none
 ok args pre v h a w:=by
  split at h
  ·rename_i p r l f t;cases h;exact bY (Li p r l f t w)
  ·cases h
noncomputable def Ps:Entry AC where
 f:=87
 fn l:=match l with
  |[.int .i64 x,.int .i64 y]=>some (True,.int .i64 (fl x y))
  | _=>none
 ok args pre v h a w:=by
  split at h
  ·rename_i x y;cases h;exact bY (QJ x y w)
  ·cases h
noncomputable def Jc:Entry AC where
 f:=63
 fn l:=match l with
  |[.int .i64 x,.int .i64 y]=>some (True,.int .i64 (fl x y))
  | _=>none
 ok args pre v h a w:=by
  split at h
  ·rename_i x y;cases h;exact bY (Lj x y w)
  ·cases h
noncomputable def Xw:Entry AC where
 f:=243
 fn l:=match l with
  |[.agg ⟨[.bool p,.int .i64 r,.bool l,.int .i64 f]⟩]=>some (True,.tuple ⟨[.int .u64 (FE p r l f),.int .i64 (pkE p r l f)]⟩)
  | _=>none
 ok args pre v h a w:=by
  split at h
  ·rename_i p r l f;cases h;exact bY (QK p r l f w)
  ·cases h
noncomputable def Pt:Entry AC where
 f:=59
 fn l:=match l with
  |[.int .u64 v]=>some (U (B v)=v,.tuple ⟨[.agg ⟨[.bool (Il (B v).toNat),.int .i64 (FF (B v).toNat),.bool (J' (B v).toNat),.int .i64 (Fl (B v).toNat)]⟩,.bool (uG (B v).toNat)]⟩)
  | _=>none
 ok args pre v h a w:=by
  split at h
  ·rename_i v;cases h;have:=bY (QN (B v) w);rw[a] at this;exact this
  ·cases h
noncomputable def D2:dG AC:={D0 with sP:=[tn,vH,FO,FP,OQ,u7,OR,Gm,Pr,Jb,Ps,Jc,Xw,Pt]}
theorem OS (z x y:Int) (w:A0) (a:Int->A0->Prop):(aI D2 (λ_=>[]) 55 [aa z,aa x,aa y] w a)=(
 True/\ ∀(b:Int),b=fl x y->aG (decide (b<0)||decide (z<0)||decide (z>=4096)) (au w (a (-1))) (∀(x:Int),x=fX .i64 16 z-> ∀(c:Int),c=aH .i64 x b->au w (a c))):=by kernel_rfl
theorem ZL (z x y:Int) (w:A0) (a:Int->A0->Prop):(aI D2 (λ_=>[]) 27 [aa z,aa x,aa y] w a)=(
 True/\ ∀(b:Int),b=fl x y->aG (decide (b<0)||decide (z<0)||decide (z>4095)) (au w (a (-1))) (∀(x:Int),x=fX .i64 16 z-> ∀(c:Int),c=aH .i64 x b->au w (a c))):=by kernel_rfl
def ee (z x y:Int):Int:=if fl x y<0\/z<0\/z>=4096 then -1 else 16*z+fl x y
theorem Eb (x y:Int): -1<=fl x y/\fl x y<16:=by
 unfold fl;split
 ·have h1:=Int.emod_nonneg (x / gX y) (show(16:Int)≠0 by decide);have a:=Int.emod_lt_of_pos (x / gX y) (show(0:Int)<16 by decide);omega
 ·omega
theorem DQ (z x y:Int) (w:A0):aE AC 55 (.el (.one (.int .i64))) [aa z,aa x,aa y] w (λb w'=>b=ee z x y/\Ext w w'):=by
 refine ai (C:=D2) (aW:=λ_=>[]) (AJ (OS z x y w _) ⟨trivial,λs es=>?_⟩);have hb:=Eb x y;subst es;refine ab (λh w1 h1=>⟨?_,h1⟩) (λh a c b eb w1 h1=>⟨?_,h1⟩)
 ·simp only[FY,decide_eq_true_eq] at h;unfold ee;rw[av (by omega)]
 ·simp only[Fk,decide_eq_false_iff_not] at h;rw[eJ (by omega) (by omega)] at c;rw[ay (by omega) (by omega)] at eb;unfold ee;rw[ao (by omega),eb,c]
theorem ZM (z x y:Int) (w:A0):aE AC 27 (.el (.one (.int .i64))) [aa z,aa x,aa y] w (λb w'=>b=ee z x y/\Ext w w'):=by
 refine ai (C:=D2) (aW:=λ_=>[]) (AJ (ZL z x y w _) ⟨trivial,λs es=>?_⟩);have hb:=Eb x y;subst es;refine ab (λh w1 h1=>⟨?_,h1⟩) (λh a c b eb w1 h1=>⟨?_,h1⟩)
 ·simp only[FY,decide_eq_true_eq] at h;unfold ee;rw[av (by omega)]
 ·simp only[Fk,decide_eq_false_iff_not] at h;rw[eJ (by omega) (by omega)] at c;rw[ay (by omega) (by omega)] at eb;unfold ee;rw[ao (by omega),eb,c]
noncomputable def eAt:Entry AC where
 f:=55
 fn l:=match l with
  |[.int .i64 z,.int .i64 x,.int .i64 y]=>some (True,.int .i64 (ee z x y))
  | _=>none
 ok args pre v h a w:=by
  split at h
  ·rename_i z x y;cases h;exact bY (DQ z x y w)
  ·cases h
noncomputable def acj:Entry AC where
 f:=27
 fn l:=match l with
  |[.int .i64 z,.int .i64 x,.int .i64 y]=>some (True,.int .i64 (ee z x y))
  | _=>none
 ok args pre v h a w:=by
  split at h
  ·rename_i z x y;cases h;exact bY (ZM z x y w)
  ·cases h
noncomputable def D3:dG AC:={D0 with sP:=[tn,vH,FO,FP,OQ,u7,OR,Gm,Pr,Jb,Ps,Jc,Xw,Pt,eAt,acj]}
noncomputable def M0:dG AC:={D3 with vG:=false,quiet:=[117,118]}
theorem U_ (p:Option A2) (w:A0) (a:Int->A0->Prop):(aI M0 (λ_=>[]) 117 [ah p] w a)=(
 aG p.isNone (au w (a 0)) (p.isSome=true/\p.isSome=true/\(ad p 0).isSome=true/\s9 w (ad (ad p 0) 0) λx=>au w (a (↑x.2.1:Int)))):=by kernel_rfl
theorem ZN (p:Option A2) (n c:Nat) (i:Int) (w:A0) (d:Option A2->A0->Prop):(aI M0 (λ_=>[]) 118 [.agg ⟨[.slice p n c]⟩,aa i] w d)=(
 aN w ⟨[.slice p n c]⟩ 157 λb a=>((!decide (i<0))=true->true=true)/\aj a (some !decide (i<0)) (ad (ae b) 0) fi λx=>aG (decide (i<0)||decide (i>=(↑x.2.1:Int))) (au a (d none)) (true=true/\s9 a (ad (ae b) 0) λx=>(x.1.isSome=true/\0<=i/\i<(↑x.2.1:Int))/\au a (d (ad x.1 (i.toNat*1))))):=by kernel_rfl
theorem QO (p:Option A2) (i:Int) (w:A0) (a:Option A2×Int×Unit->A0->Prop):(aI M0 (λ_=>[]) 71 [ah p,aa i] w a)=(
 ∃(x:Int),af AC 117 [ah p] w (aa x)/\aG (x==0) (au w (a (none,10,()))) (p.isSome=true/\p.isSome=true/\aj w none (ad p 0) (.agg [.slice]) λx=> ∃(b:Option A2),af AC 118 [.agg ⟨[.slice x.1.1 x.1.2.1 x.1.2.2]⟩,aa i] w (ah b)/\aG b.isNone (au w (a (none,2,()))) (cM p 1 w λx=>p.isSome=true/\p.isSome=true/\aC w (ad p 1) [aa (aH .i64 x 1)] λc=>au c (a (b,0,()))))):=by kernel_rfl
theorem Ec (p:Option A2) (i:Int) (w:A0) (a:Int×Int×Unit->A0->Prop):(aI M0 (λ_=>[]) 37 [ah p,aa i] w a)=(
 aA AC 71 (.bA [.one .ptr,.one (.int .i64)]) [ah p,aa i] w λ(x:Option A2×Int×Unit) b=>aG (x.2.1 != 0) (au b (a (0,x.2.1,()))) (x.1.isSome=true/\cJ b x.1 λx=>au b (a (x,0,())))):=by kernel_rfl
theorem Ll (p:Option A2) (i v:Int) (w:A0) (b:Int->A0->Prop):(aI M0 (λ_=>[]) 38 [ah p,aa i,ax v] w b)=(
 aA AC 71 (.bA [.one .ptr,.one (.int .i64)]) [ah p,aa i] w λ(x:Option A2×Int×Unit) a=>aG (x.2.1==0) (x.1.isSome=true/\aC a x.1 [ax v] λa=>cM p 2 a λc=>p.isSome=true/\p.isSome=true/\aC a (ad p 2) [aa (aH .i64 c 1)] λa=>au a (b x.2.1)) (au a (b x.2.1))):=by kernel_rfl
theorem U' (n:Int) (w:A0) (a:Option A2×Int×Unit->A0->Prop):(aI M0 (λ_=>[]) 33 [aa n] w a)=(
 aG (decide (n<1)||decide (n>65536)) (au w (a (none,1,()))) (NV w 8 1 n n ⟨[ax 0]⟩ 29 λb c=>aN c {toList:=[.slice (ae b) n.toNat n.toNat,aa 0,aa 0]} 159 λb c=>au c (a (some ⟨b,0,none⟩,0,())))):=by kernel_rfl
abbrev eW:El:= .one (.int .u64)
abbrev mv (bw n c:Nat) (ca la:Int):List AF:=[.slice (ae bw) n c,aa ca,aa la]
def uH (ws:List Int) (i:Int):Bool:=decide (0<=i)&&decide (i<ws.length)
def cL (ws:List Int) (i:Int):Int:=if uH ws i then ws.getD i.toNat 0 else 0
def B6 (ws:List Int) (i:Int):Int:=if uH ws i then 0 else 2
def xr (ws:List Int) (i x:Int):Int:=if uH ws i then aH .i64 x 1 else x
def dC (ws:List Int) (i v:Int):List Int:=if uH ws i then ws.set i.toNat v else ws
theorem jo {ws:List Int} {i:Int}:uH ws i=true<->0<=i/\i<ws.length:=by unfold uH;simp
theorem cF (ws:List Int) (i v:Int):(dC ws i v).length=ws.length:=by unfold dC;split<;>simp
theorem II: ∀ws:List Int,flat eW ws=ws.map (Dx .u64)
 |[]=>rfl
 |a::l=>by
  show[ax a]++flat eW l= _;rw[II l];rfl
section
variable {D G:List Nat} {w0 w:A0} {L:List (Nat×List AF)} {bm bw n c:Nat} {ca la:Int} {ws:List Int} {rest:List AF}
theorem aaJ {i:Nat} (hi:i<ws.length):ly (flat eW ws++rest) (0+i*1) eW=some (ws.getD i 0):=by
 have:(flat eW ws++rest)[0+i*1]? =some (ax (ws.getD i 0)):=by
  have a:(flat eW ws).length=ws.length*1:=aF eW ws;rw[Ct,Hq,Gi (by omega)];have e:=II ws;rw[e,FW,E5 hi,N2,E5 hi];rfl
 show(match (flat eW ws++rest)[0+i*1]? with|some v=>(Sc.int .u64).proj v|none=>none)= _;rw[this];rfl
theorem Jd (h:bO w bm (mv bw n c ca la)):aE AC 117 (.el (.one (.int .i64))) [ah (ae bm)] w (λx w'=>x=(n:Int)/\Ext w w'):=by
 refine ai (C:=M0) (aW:=λ_=>[]) (AJ (U_ _ w _) ?_);refine an rfl ⟨rfl,rfl,rfl,aj.of (some ⟨bw,0,none⟩,n,c) (by rw[aY,aY];exact h.oF rfl) λw1 h1=>⟨rfl,h1⟩⟩
theorem ZO (p:Option A2) (a:n≠0->p.isSome=true) (i:Int) (w:A0):aE AC 118 (.el (.one .ptr)) [.agg ⟨[.slice p n c]⟩,aa i] w (λx w'=>x=(if 0<=i/\i<n then ad p i.toNat else none)/\Ext w w'):=by
 refine ai (C:=M0) (aW:=λ_=>[]) (AJ (ZN p n c i w _) ?_);have H:=At.start [] w;refine aN.go H λb e H=>⟨λ_=>rfl,aj.cw 0 H rfl rfl (ab (λc1=>au.go H λd H=>⟨?_,H.all⟩) (λc1=>⟨rfl,aj.cw 0 H rfl rfl ?_⟩))⟩
 ·have: ¬ (0<=i/\i<n):=by simp at c1;omega
  rw[ao this]
 ·have hi:0<=i/\i<n:=by simp at c1;omega
  refine⟨⟨a (by omega),by omega,by show i<((n:Nat):Int);omega⟩,au.go H λd H=>⟨?_,H.all⟩⟩;rw[av hi,Hq]
theorem y8 (H:aM D G w0 w L) (j:Nat) (b:L[j]? =some (bm,mv bw n c ca la)) (e:n=ws.length) (h0:0<n) (i:Int) {K:Option A2×Int×Unit->A0->Prop}
 (f:uH ws i=true-> ∀a,aM D G w0 a (L.set j (bm,mv bw n c (aH .i64 ca 1) la))->K (ad (ae bw) i.toNat,0,()) a) (g:uH ws i=false-> ∀a,aM D G w0 a L->K (none,2,()) a):
 aA AC 71 (.bA [.one .ptr,.one (.int .i64)]) [ah (ae bm),aa i] w K:=by
 refine aA.go H λw1 H=>ai (C:=M0) (aW:=λ_=>[]) (AJ (QO _ i w1 K) ?_);refine⟨_,af.of (s:= .el (.one (.int .i64))) λw' h'=>Jd ((H.get b).ext h'),an (by simp;omega) ⟨rfl,rfl,aj.cw j H b rfl ⟨_,af.of (s:= .el (.one .ptr)) λw' h'=>ZO (ae bw) (λ_=>rfl) i w',?_⟩⟩⟩;subst e;cases hi:uH ws i with
 |true=>
  have d:=jo.1 hi;rw[av d];refine an rfl ⟨rfl,rfl,aj.cw j H b rfl ⟨rfl,rfl,aC.gP j H b rfl rfl λa H=>au.go H λk H=>f hi k H⟩⟩
 |false=>
  have d: ¬ (0<=i/\i<(ws.length:Int)):=λh=>by rw[jo.2 h] at hi;cases hi
  rw[ao d];exact aB rfl (au.go H λa H=>g hi a H)
theorem Ee (H:aM D G w0 w L) (j a:Nat) (d:L[j]? =some (bm,mv bw n c ca la)) (g:L[a]? =some (bw,flat eW ws++rest)) (h:j≠a) (l:n=ws.length) (h0:0<n) (i:Int) {K:Int×Int×Unit->A0->Prop}
 (k: ∀b,aM D G w0 b (L.set j (bm,mv bw n c (xr ws i ca) la))->K (cL ws i,B6 ws i,()) b):
 aA AC 37 (.bA [.one (.int .u64),.one (.int .i64)]) [ah (ae bm),aa i] w K:=by
 refine aA.go H λw1 H=>ai (C:=M0) (aW:=λ_=>[]) (AJ (Ec _ i w1 K) ?_);refine y8 H j d l h0 i (λhi b H=>?_) (λhi b H=>?_)
 ·unfold xr cL B6 at k;rw[hi,av rfl,av rfl,av rfl] at k;have o:(L.set j (bm,mv bw n c (aH .i64 ca 1) la))[a]? =some (bw,flat eW ws++rest):=by rw[Db h];exact g
  have p:=jo.1 hi;refine an rfl ⟨rfl,?_⟩;rw[aY];have e:=aaJ (ws:=ws) (rest:=rest) (i:=i.toNat) (by omega);rw[Hq] at e;exact aj.at a H o e (au.go H λf H=>k f H)
 ·unfold xr cL B6 at k;rw[hi,ao (by decide),ao (by decide),ao (by decide)] at k;refine aB rfl (au.go H λf H=>k f ?_);rw[show L.set j (bm,mv bw n c ca la)=L from Fy λm=>by
   by_cases e:j=m
   ·subst e;rw[F6 (Bx.1 d).1,d]
   ·rw[Db e]]
  exact H
theorem abn {i:Nat} (hi:i<ws.length) (v:Int):(flat eW ws++rest).set i (ax v)=flat eW (ws.set i v)++rest:=by
 have h:=yY eW ws i v rest hi;have a:(cellsOf eW v)=[ax v]:=rfl;have b:aD eW=1:=rfl;rw[a,b,Hq] at h;rw[<-h];have c:(flat eW ws).length=ws.length*1:=aF eW ws;rw[Kd,av (by rw[DB];omega)];rfl
theorem Ln (H:aM D G w0 w L) (j a:Nat) (f:L[j]? =some (bm,mv bw n c ca la)) (g:L[a]? =some (bw,flat eW ws++rest)) (b:j≠a) (p:n=ws.length) (h0:0<n) (i v:Int) {K:Int->A0->Prop}
 (k: ∀d,aM D G w0 d ((L.set j (bm,mv bw n c (xr ws i ca) (xr ws i la))).set a (bw,flat eW (dC ws i v)++rest))->K (B6 ws i) d):
 aA AC 38 (.el (.one (.int .i64))) [ah (ae bm),aa i,ax v] w K:=by
 refine aA.go H λw1 H=>ai (C:=M0) (aW:=λ_=>[]) (AJ (Ll _ i v w1 K) ?_);have r:j<L.length:=(Bx.1 f).1;have y:a<L.length:=(Bx.1 g).1;refine y8 H j f p h0 i (λhi d H=>?_) (λhi d H=>?_)
 ·unfold xr dC B6 at k;rw[hi,av rfl,av rfl,av rfl,av rfl] at k;have s:(L.set j (bm,mv bw n c (aH .i64 ca 1) la))[a]? =some (bw,flat eW ws++rest):=by rw[Db b];exact g
  have z:=jo.1 hi;have t:i.toNat<ws.length:=by omega
  have A:(flat eW ws).length=ws.length*1:=aF eW ws;refine aB rfl ⟨rfl,aC.gP a H s rfl (by rw[Nat.blt_eq,DB];omega) λl H=>?_⟩;rw[Ct,abn t] at H;have o:((L.set j (bm,mv bw n c (aH .i64 ca 1) la)).set a (bw,flat eW (ws.set i.toNat v)++rest))[j]? =some (bm,mv bw n c (aH .i64 ca 1) la):=by
   rw[Db (λe=>b e.symm),F6 r]
  refine⟨rfl,rfl,aj.cw j H o rfl ⟨rfl,rfl,aC.gP j H o rfl rfl λB H=>au.go H λu H=>k u ?_⟩⟩;rw[List.set_comm _ _ b,J3] at H;rw[List.set_comm _ _ b];exact H
 ·unfold xr dC B6 at k;rw[hi,ao (by decide),ao (by decide),ao (by decide),ao (by decide)] at k;refine an rfl (au.go H λl H=>k l ?_);have s1: ∀{m:Nat} {x:Nat×List AF},L[m]? =some x->L.set m x=L:=λ{m x} h=>Fy λq=>by
   by_cases e:m=q
   ·subst e;rw[F6 (Bx.1 h).1,h]
   ·rw[Db e]
  rw[s1 f,s1 g];exact H
theorem xB (H:aM D G w0 w L) (b:1<=n/\n<=65536) {K:Option A2×Int×Unit->A0->Prop}
 (k: ∀bm bw w1,aM D G w0 w1 ((bm,mv bw n n 0 0)::(bw,flat eW (FS n 0)++[])::L)->K (some ⟨bm,0,none⟩,0,()) w1):
 aA AC 33 (.bA [.one .ptr,.one (.int .i64)]) [aa (n:Int)] w K:=by
 refine aA.go H λw1 H=>ai (C:=M0) (aW:=λ_=>[]) (AJ (U' _ w1 K) ?_);refine an (by rw[decide_eq_false (by omega),decide_eq_false (by omega)];rfl) (NV.go H rfl (by omega) (by omega) (by omega) (by omega) λbw c H=>aN.go H λbm d H=>au.go H λa H=>k bm bw a ?_);rw[lT,Ks];exact H
end
abbrev sR:List Sc:=[.int .u64,.bool,.int .i64]
abbrev RT:Type:=Int×Bool×Int×Unit
abbrev sA:List Sc:=[.int .i64,.int .i64,.int .u64,.int .u64]
abbrev sF:List Sc:=[.int .i64,.int .i64,.int .i64,.int .i64]
noncomputable def M1:dG AC:={M0 with quiet:=[58,24]}
noncomputable def M2:dG AC:={M1 with dyn:=some (.el (.agg sR))}
noncomputable def M3:dG AC:={M1 with dyn:=some (.bA [])}
theorem QP (k i a b:Int) (m:Option A2) (w:A0) (d:RT->A0->Prop):(bW M1 (λ_=>[]) 89 [.agg ⟨[aa k,aa i,ax a,ax b]⟩,ah m] w d)=(
 aN w ⟨[aa k,aa i,ax a,ax b]⟩ 191 λb c=>aN c ⟨[ax 0,.bool false,aa 0]⟩ 124 λe c=>true=true/\aV c (ad (ae b) 1) λx=>aA AC 37 (.bA [.one (.int .u64),.one (.int .i64)]) [ah m,aa x] c λ(x:Int×Int×Unit) c=>aC c (ae e) [ax x.1,.bool false,aa x.2.1] λc=>au c λw1=>aj w1 none (ae e) (.agg [.int .u64,.bool,.int .i64]) λ(x:Int×Bool×Int×Unit)=>d (x.1,x.2.1,x.2.2.1,()) w1):=by kernel_rfl
abbrev Ef (a:RT->A0->Prop) (b:A0) (c:Nat):Prop:=
 au b λw1=>aj w1 none (ae c) (.agg [.int .u64,.bool,.int .i64]) λ(x:Int×Bool×Int×Unit)=>a (x.1,x.2.1,x.2.2.1,()) w1
theorem abo (m:Option A2) (k i a b:Int) (w:A0) (f:RT->A0->Prop):(bW M2 (λ_=>[]) 57 [ah m,.agg ⟨[aa k,aa i,ax a,ax b]⟩] w f)=(
 aN w ⟨[aa k,aa i,ax a,ax b]⟩ 127 λb c=>aN c ⟨[ax 0,.bool false,aa 0]⟩ 124 λe c=> ∀w1,Ext c w1-> ∀g,Ext (w1.alloc (Obj.map ⟨[]⟩ 0)) g-> ∃(r:Nat), ∃(es:Array B1), ∃(d:Nat),some w1.heap.size=some r/\bI g r es d/\ib g r .i64 1 (.func (.func 89) ⟨[]⟩ ⟨[]⟩) es d λc=> ∀h,Ext c h-> ∃(r:Nat), ∃(es:Array B1), ∃(d:Nat),some w1.heap.size=some r/\bI h r es d/\ib h r .i64 2 (.func (.func 90) ⟨[]⟩ ⟨[]⟩) es d λc=> ∀j,Ext c j->
 ∃(r:Nat), ∃(es:Array B1), ∃(d:Nat),some w1.heap.size=some r/\bI j r es d/\ib j r .i64 3 (.func (.func 91) ⟨[]⟩ ⟨[]⟩) es d λc=> ∀l,Ext c l-> ∃(r:Nat), ∃(es:Array B1), ∃(d:Nat),some w1.heap.size=some r/\bI l r es d/\ib l r .i64 4 (.func (.func 92) ⟨[]⟩ ⟨[]⟩) es d λc=>true=true/\aV c (ad (ae b) 0) λx=> ∃(n:AF), ∃(o:Bool),mD c (some w1.heap.size) .i64 x O2 n o/\aG (!o) (aC c (ae e) [ax 0,.bool false,aa 1] λc=>Ef
 f c e) (aj c none (ae b) (.agg [.int .i64,.int .i64,.int .u64,.int .u64]) λ(x:Int×Int×Int×Int×Unit)=>z4 AC n (.el (.agg [.int .u64,.bool,.int .i64])) [.agg ⟨[aa x.1,aa x.2.1,ax x.2.2.1,ax x.2.2.2.1]⟩,ah m] c λ(x:Int×Bool×Int×Unit) c=>aC c (ae e) [ax x.1,.bool x.2.1,aa x.2.2.1] λc=>Ef f c e)):=by kernel_rfl
theorem Va (f p t:Int) (w:A0) (a:Option A2->A0->Prop):(aI M1 (λ_=>[]) 20 [aa f,aa p,aa t] w a)=(
 aN w {toList:=[aa f,aa p,aa t,aa 3,aa 0,aa 0,aa 0,aa 0,.slice none 0 0,.bool true]} 117 λb c=>True/\aG (decide (ee f p (3:Int)<0)||decide (t<0)||decide (t>7)) (au c (a none)) (au c (a (ae b)))):=by kernel_rfl
abbrev v9 (a:Int×Int×Int×Int×Unit->A0->Prop) (b:A0) (c:Nat):Prop:=
 au b λw1=>aj w1 none (ae c) (.agg [.int .i64,.int .i64,.int .u64,.int .u64]) λ(x:Int×Int×Int×Int×Unit)=>a (x.1,x.2.1,x.2.2.1,x.2.2.2.1,()) w1
theorem QQ (p:Option A2) (w:A0) (c:(Int×Int×Int×Int×Unit)->A0->Prop):(bW M1 (λ_=>[]) 58 [ah p] w c)=(
 aN w ⟨[aa 0,aa 0,ax 0,ax 0]⟩ 127 λb a=>((!p.isNone)=true->p.isSome=true)/\((!p.isNone)=true->p.isSome=true)/\aj a (some !p.isNone) (ad p 9) rO λx=>((!(p.isNone|| !x))=true->p.isSome=true)/\((!(p.isNone|| !x))=true->p.isSome=true)/\aj a (some !(p.isNone|| !x)) (ad p 3) aX λ(d:Int)=>aG (p.isNone|| !x||d== -1) (aC a (ae b) [aa 0,aa 0,ax 0,ax 0] λa=>v9 c a b) (cM p 0 a λx=>cM p 1 a λe=>cM p 3 a λf=>True/\aC a (ae b)
 [aa 1,aa (ee x e f),ax 0,ax 0] λa=>v9 c a b)):=by kernel_rfl
theorem Vb (p:Option A2) (a b c d:Int) (w:A0) (f:Unit->A0->Prop):(aI M1 (λ_=>[]) 60 [ah p,.agg ⟨[aa a,aa b,aa c,aa d]⟩] w f)=(
 aN w ⟨[aa a,aa b,aa c,aa d]⟩ 48 λb e=>cM p 3 e λx=>true=true/\aC e (ad (ae b) 2) [aa x] λe=>aj e none (ae b) dQ λ(x:Int×Int×Int×Int×Unit)=>p.isSome=true/\p.isSome=true/\aC e (ad p 4) [aa x.1,aa x.2.1,aa x.2.2.1,aa x.2.2.2.1] λe=>p.isSome=true/\p.isSome=true/\aC e (ad p 3) [aa (-1)] λe=>au e (f ())):=by kernel_rfl
theorem ZP (p:Option A2) (fr:Int) (ep:Bool) (er:Int) (el:Bool) (ef:Int) (w:A0) (c:Unit->A0->Prop):(aI M1 (λ_=>[]) 99 [ah p,aa fr,.agg ⟨[.bool ep,aa er,.bool el,aa ef]⟩] w c)=(
 aN w ⟨[.bool ep,aa er,.bool el,aa ef]⟩ 130 λb a=>aG (decide (fr>=4096)) (aA AC 60 (.bA []) [ah p,.agg ⟨[aa 0,aa 0,aa 0,aa 11]⟩] a λx a=>au a (c ())) (aj a none (ae b) kj λ(x:Bool×Int×Bool×Int×Unit)=>cM p 2 a λd=>True/\aG (!dM x.1 x.2.1 x.2.2.1 x.2.2.2.1 d) (true=true/\aV a (ad (ae b) 1) λx=>aA AC 60 (.bA []) [ah p,.agg ⟨[aa fr,aa x,aa 0,aa 7]⟩] a λx a=>au a (c ())) (true=true/\aV
 a (ad (ae b) 1) λx=>aA AC 60 (.bA []) [ah p,.agg ⟨[aa fr,aa x,aa 0,aa 0]⟩] a λx a=>au a (c ())))):=by kernel_rfl
theorem QR (a:Option A2) (w:A0) (b:Unit->A0->Prop):(aI M1 (λ_=>[]) 95 [ah a] w b)=(
 gg w a λx=>aA AC 60 (.bA []) [ah x,.agg ⟨[aa 0,aa 0,aa 0,aa 4]⟩] w λx c=>au c (b ())):=by kernel_rfl
theorem QS (d a:Option A2) (w:A0) (e:Unit->A0->Prop):(aI M1 (λ_=>[]) 97 [ah d,ah a] w e)=(
 gg w a λx=>gg w a λb=>d.isSome=true/\aV w (ad d 3) λf=>gg w a λg=>cM g 3 w λh=>x.isSome=true/\x.isSome=true/\aC w (ad x 0) [aa f] λc=>True/\cU c a lZ b/\b.isSome=true/\b.isSome=true/\aC c (ad b 3) [aa (a6 .i64 h 1)] λc=>au c (e ())):=by kernel_rfl
theorem QT (c a:Option A2) (w:A0) (Post:Unit->A0->Prop):(aI M1 (λ_=>[]) 98 [ah c,ah a] w Post)=(
 aj w none c (.one .ptr) λx=>a.isSome=true/\aj w none (ad a 3) (.one (.int .i64)) λ(e:Int)=>aj w none c (.one .ptr) λd=>d.isSome=true/\d.isSome=true/\aj w none (ad d 1) (.one (.int .i64)) λ(f:Int)=>True/\gX 1≠0/\aj w none a (.agg [.bool,.int .i64,.bool,.int .i64]) λ(b:Bool×Int×Bool×Int×Unit)=>aA AC 99 (.bA []) [ah x,aa (aH .i64 e (jY f (gX 1))),.agg ⟨[.bool b.1,aa b.2.1,.bool b.2.2.1,aa b.2.2.2.1]⟩] w λx g=>au g λw1=>Post () w1)
 :=by kernel_rfl
theorem QU (c a:Option A2) (w:A0) (d:Unit->A0->Prop):(aI M1 (λ_=>[]) 101 [ah c,ah a] w d)=(
 gg w c λx=>a.isSome=true/\aV w (ad a 3) λe=>aj w none a kj λ(b:Bool×Int×Bool×Int×Unit)=>aA AC 99 (.bA []) [ah x,aa e,.agg ⟨[.bool b.1,aa b.2.1,.bool b.2.2.1,aa b.2.2.2.1]⟩] w λx f=>au f (d ())):=by kernel_rfl
theorem QV (a:Option A2) (w:A0) (b:Unit->A0->Prop):(aI M1 (λ_=>[]) 102 [ah a] w b)=(
 gg w a λx=>aA AC 60 (.bA []) [ah x,.agg ⟨[aa 0,aa 0,aa 0,aa 11]⟩] w λx c=>au c (b ())):=by kernel_rfl
def v_:Nat->a7:=(λ|3=>[(56,Go.RX.El.one (Go.RX.Sc.int Aq))]| _=>[])
theorem Vc (p:Option A2) (ep:Bool) (er:Int) (el:Bool) (ef:Int) (w:A0) (h:Unit->A0->Prop):(aI M3 v_ 61 [ah p,.agg ⟨[.bool ep,aa er,.bool el,aa ef]⟩] w h)=(
 aN w ⟨[ah p]⟩ 40 λb a=>aN a ⟨[.bool ep,aa er,.bool el,aa ef]⟩ 130 λd a=>true=true/\s_ a (ad (ae d) 0) λx=>aj a none (ae d) kj λ(c:Bool×Int×Bool×Int×Unit)=>True/\aj a (some (fL c.1 c.2.1 c.2.2.1 c.2.2.2.1)) (ae b) lZ λi=>(fL c.1 c.2.1 c.2.2.1 c.2.2.2.1=true->i.isSome=true)/\(fL c.1 c.2.1 c.2.2.1 c.2.2.2.1=true->i.isSome=true)/\aj a (some (fL c.1 c.2.1 c.2.2.1 c.2.2.2.1)) (ad i 3) aX λ(o:Int)=>true=true/\s_ a (ad
 (ae d) 2) λf=>aj a (some f) (ae b) lZ λj=>(f=true->j.isSome=true)/\(f=true->j.isSome=true)/\aj a (some f) (ad j 3) aX λ(q:Int)=>true=true/\s_ a (ad (ae d) 2) λe=>((!e)=true->true=true)/\aj a (some !e) (ad (ae d) 1) aX λ(g:Int)=>aj a (some (!e&&decide (g>0))) (ae b) lZ λk=>((!e&&decide (g>0))=true->k.isSome=true)/\((!e&&decide (g>0))=true->k.isSome=true)/\aj a (some (!e&&decide (g>0))) (ad k 3) aX λ(r:Int)=>
 aN a {toList:=[.bool !x,.func (.func 95) ⟨[]⟩ {toList:=[ah (ae b)]},.bool (fL c.1 c.2.1 c.2.2.1 c.2.2.2.1&&decide (o>0)),.func (.func 97) ⟨[]⟩ {toList:=[ah (ae d),ah (ae b)]},.bool (f&&q==1),.func (.func 98) ⟨[]⟩ {toList:=[ah (ae b),ah (ae d)]},.bool (!e&&decide (g>0)&&r==0),.func (.func 101) ⟨[]⟩ {toList:=[ah (ae b),ah (ae d)]},.bool true,.func (.func 102) ⟨[]⟩ {toList:=[ah (ae b)]}]} 197 λb a=> ∃(I:Nat->Int×Unit->A0->Prop),(∃n, ∀w1,
 Ext a w1->I n (0,()) w1)/\ ∀(n:Nat) (s:Int×Unit) (w1:A0),I n s w1->aG (decide (s.1<(↑5:Int))) ((true=true/\0<=s.1/\s.1<(↑5:Int))/\aj w1 none (ad (ae b) (Ar s.1*2)) (.agg [.bool,.func]) λx=>aN w1 ⟨[.bool false,O2]⟩ 197 λb a=>aC a (ae b) [.bool x.1,x.2.1] λa=>true=true/\s_ a (ad (ae b) 0) λx=>aG x (true=true/\aj a none (ad (ae b) 1) (.one .func) λx=>z4 AC x (.bA []) [] a λx a=>au a (h ())) (∀l,Ext a l-> ∃(m:Nat),m<n/\I m (aH .i64 s.1 1,
 ()) l)) (au w1 (h ()))):=by kernel_rfl
theorem QW (p m:Option A2) (w:A0) (c:Bool->A0->Prop):(aI M1 (λ_=>[]) 22 [ah p,ah m] w c)=(
 ((!p.isNone)=true->p.isSome=true)/\((!p.isNone)=true->p.isSome=true)/\aj w (some !p.isNone) (ad p 9) rO λx=>aG (p.isNone|| !x) (au w (c false)) (cM p 3 w λx=>aG (x== -1) (au w (c true)) (∃(x:Int×Int×Int×Int×Unit),af AC 58 [ah p] w (.agg ⟨[aa x.1,aa x.2.1,ax x.2.2.1,ax x.2.2.2.1]⟩)/\aA AC 57 (.el (.agg [.int .u64,.bool,.int .i64])) [ah m,.agg ⟨[aa x.1,aa x.2.1,ax x.2.2.1,ax x.2.2.2.1]⟩] w λ(x:Int×Bool×Int×Unit) a=>aN a ⟨[.int .u64
 0,.bool false,aa 0]⟩ 124 λb a=>aC a (ae b) [ax x.1,.bool x.2.1,aa x.2.2.1] λa=>ff p 8 a λx=>cM p 0 a λe=>aN a ⟨[aa e]⟩ 3 λf a=> ∀w1,Ext a w1->mJ w1 3 1 8 ⟨[aa 0]⟩ (x.1,x.2.1,x.2.2) (some ⟨f,0,none⟩,1,1) λ(r:Option A2×Nat×Nat) a=>p.isSome=true/\p.isSome=true/\aC a (ad p 8) [.slice r.1 r.2.1 r.2.2] λa=>true=true/\cJ a (ad (ae b) 0) λx=>U (B x)=x/\aN a ⟨[.bool false,aa 0,.bool false,aa 0]⟩ 130 λd a=>aC a (ae d) [.bool (Il
 (B x).toNat),aa (FF (B x).toNat),.bool (J' (B x).toNat),aa (Fl (B x).toNat)] λa=>((!!uG (B x).toNat)=true->true=true)/\aj a (some !!uG (B x).toNat) (ad (ae b) 2) aX λ(g:Int)=>aG (!uG (B x).toNat||g != 0) (aA AC 60 (.bA []) [ah p,.agg ⟨[aa 0,aa 0,aa 0,aa 11]⟩] a λx a=>au a (c true)) (aj a none (ae d) kj λ(x:Bool×Int×Bool×Int×Unit)=>aA AC 61 (.bA []) [ah p,.agg ⟨[.bool x.1,aa x.2.1,.bool x.2.2.1,aa x.2.2.2.1]⟩] a λx a=>
 cM p 3 a λx=>au a (c (x== -1)))))):=by kernel_rfl
theorem Vd (p:Option A2) (w:A0) (c:(Int×Int×Int×Int×Unit)×Bool×Unit->A0->Prop):(bW M1 (λ_=>[]) 24 [ah p] w c)=(
 aN w ⟨[aa 0,aa 0,aa 0,aa 0]⟩ 48 λb a=>((!p.isNone)=true->p.isSome=true)/\((!p.isNone)=true->p.isSome=true)/\aj a (some !p.isNone) (ad p 9) rO λx=>((!(p.isNone|| !x))=true->p.isSome=true)/\((!(p.isNone|| !x))=true->p.isSome=true)/\aj a (some !(p.isNone|| !x)) (ad p 3) aX λ(d:Int)=>aG (p.isNone|| !x||d != -1) (aC a (ae b) [aa 0,aa 0,aa 0,aa 0] λa=>au a λw1=>aj w1 none (ae b) dQ λ(x:Int×Int×Int×Int×Unit)=>c ((x.1,x.2.1,x.2.2.1,
 x.2.2.2.1,()),false,()) w1) (p.isSome=true/\p.isSome=true/\aj a none (ad p 4) dQ λ(x:Int×Int×Int×Int×Unit)=>aC a (ae b) [aa x.1,aa x.2.1,aa x.2.2.1,aa x.2.2.2.1] λa=>au a λw1=>aj w1 none (ae b) dQ λ(x:Int×Int×Int×Int×Unit)=>c ((x.1,x.2.1,x.2.2.1,x.2.2.2.1,()),true,()) w1)):=by kernel_rfl
def wc:Nat->a7:=(λ|4=>[]| _=>[])
theorem Ve (m:Option A2) (f p t:Int) (w:A0) (c:(Int×Int×Int×Int×Unit)->A0->Prop):(bW M1 wc 223 [ah m,aa f,aa p,aa t] w c)=(
 aN w ⟨[aa 0,aa 0,aa 0,aa 0]⟩ 48 λb a=>aA AC 20 (.el lZ) [aa f,aa p,aa t] a λx a=>aG x.isNone (aC a (ae b) [aa 0,aa 0,aa 0,aa 1] λa=>au a λw1=>aj w1 none (ae b) dQ λ(x:Int×Int×Int×Int×Unit)=>c (x.1,x.2.1,x.2.2.1,x.2.2.2.1,()) w1) (∃(I:Nat->Unit->A0->Prop),(∃n, ∀w1,Ext a w1->I n () w1)/\ ∀(n:Nat) (s:Unit) (w1:A0),I n s w1->aA AC 22 (.el rO) [ah x,ah m] w1 λg a=>aG (!g) (∀
 d,Ext a d-> ∃(e:Nat),e<n/\I e () d) (x.isSome=true/\x.isSome=true/\aj a none (ad x 4) dQ λ(x:Int×Int×Int×Int×Unit)=>aC a (ae b) [aa x.1,aa x.2.1,aa x.2.2.1,aa x.2.2.2.1] λa=>au a λw1=>aj w1 none (ae b) dQ λ(x:Int×Int×Int×Int×Unit)=>c (x.1,x.2.1,x.2.2.1,x.2.2.2.1,()) w1))):=by kernel_rfl
abbrev FT:Type:=Int×Int×Int×Int×Unit
abbrev l9 (fr pg wt lv:Int) (fd:FT) (s:Option A2×Nat×Nat):List AF:=
 [aa fr,aa pg,aa wt,aa lv,aa fd.1,aa fd.2.1,aa fd.2.2.1,aa fd.2.2.2.1,.slice s.1 s.2.1 s.2.2,.bool true]
def wY (lv e:Int):FT:=(0,0,lv,e,())
def xZ (lv wt fr:Int) (ep:Bool) (er:Int) (el:Bool) (ef:Int):FT:=if fr>=4096 then(0,0,lv,11,()) else if dM ep er el ef wt then(fr,er,lv,0,()) else(fr,er,lv,7,())
theorem xC {w:A0} {r:Nat} {k:IntKind} {n:Int} {val:AF} {es:Array B1} {a:Nat} {K:A0->Prop} (h:GG (.int k) (.int k n) es.toList 0=some none)
 (b:K (w.putObj r (.map (es.push {key:= .int k n,val,born:=a}) (a+1)))):ib w r k n val es a K:=by
 unfold ib;rw[h];exact b
section
variable {D G:List Nat} {w0 w:A0} {L:List (Nat×List AF)} {bm bw n c:Nat} {ca la:Int} {ws:List Int} {rest:List AF}
theorem QX (H:aM D G w0 w L) (j d:Nat) (f:L[j]? =some (bm,mv bw n c ca la)) (g:L[d]? =some (bw,flat eW ws++rest)) (m:j≠d) (h:n=ws.length) (h0:0<n) (kd i a b:Int) {K:RT->A0->Prop}
 (k: ∀e,aM D G w0 e (L.set j (bm,mv bw n c (xr ws i ca) la))->K (cL ws i,false,B6 ws i,()) e):
 aE AC 89 (.el (.agg sR)) [.agg ⟨[aa kd,aa i,ax a,ax b]⟩,ah (ae bm)] w K:=by
 refine aS (C:=M1) (aW:=λ_=>[]) (AJ (QP kd i a b _ w K) ?_);refine aN.go H λo e H=>aN.go H λp q H=>⟨rfl,aj.cw 1 H rfl rfl ?_⟩;refine Ee H (j+2) (d+2) f g (by omega) h h0 i λr H=>?_;refine aC.all 0 H rfl rfl rfl λs H=>au.go H λl H=>aj.at 0 H rfl rfl (k l ?_);exact(H.sub (B5 _ _)).sub (B5 _ _)
theorem u9 (H:aM D G w0 w L) {r:Nat} {es:Array B1} {a:Nat} (f:w0.heap.size<=r) (g:r∉D) (b:bI w r es a) {n:Int} {val:AF} {K:A0->Prop} (h:GG (.int .i64) (aa n) es.toList 0=some none)
 (k: ∀c,aM D G w0 c L->bI c r (es.push {key:=aa n,val,born:=a}) (a+1)->K c):
 ∃r' d e,some r=some r'/\bI w r' d e/\ib w r' .i64 n val d e K:=
 ⟨r,es,a,rfl,b,xC h (k _ (H.putObj f b (λ_ _ _ hc=>by cases hc) g) (kf (Dq.1 b).1))⟩
theorem abp (H:aM D G w0 w L) (q:D=[]) (j f:Nat) (r:L[j]? =some (bm,mv bw n c ca la)) (s:L[f]? =some (bw,flat eW ws++rest)) (E:j≠f) (t:n=ws.length) (h0:0<n) (i a b:Int) {K:RT->A0->Prop}
 (k: ∀g,aM D G w0 g (L.set j (bm,mv bw n c (xr ws i ca) la))->K (cL ws i,false,B6 ws i,()) g):
 aA AC 57 (.el (.agg sR)) [ah (ae bm),.agg ⟨[aa 1,aa i,ax a,ax b]⟩] w K:=by
 subst q;refine aA.go H λw1 H=>aS (C:=M2) (aW:=λ_=>[]) (AJ (abo _ 1 i a b w1 K) ?_);refine aN.go H λF g H=>aN.go H λI J H=>λd h u l=>?_;have H:=(((H.ext h).r_ (.map ⟨[]⟩ 0)).ext l);have e:w0.heap.size<=d.heap.size:=by have:=(aM.ext (w1:=d) (by assumption) h:aM [] G w0 d _).fr.size;exact this
 have m0:bI u d.heap.size ⟨[]⟩ 0:=l.obj (ft d _);refine u9 H e (by simp) m0 rfl λM H v N m=>?_;refine u9 (H.ext m) e (by simp) (m.obj v) rfl λO H x P o=>?_;refine u9 (H.ext o) e (by simp) (o.obj x) rfl λQ H y R p=>?_;refine u9 (H.ext p) e (by simp) (p.obj y) rfl λS H z=>?_;refine⟨rfl,aj.cw 1 H rfl rfl ⟨.func (.func 89) #[] #[],true,⟨_, _, _,rfl,z,?_⟩,an rfl (aj.at 1 H rfl rfl ?_)⟩⟩
 ·exact⟨rfl,rfl⟩
 ·unfold z4;refine λT A=>⟨_, #[], #[],rfl,by kernel_rfl,?_⟩;refine QX (H.ext A) (j+2) (f+2) r s (by omega) t h0 1 i a b λU H=>?_;refine aC.all 0 H rfl rfl rfl λV H=>au.go H λB H=>aj.at 0 H rfl rfl (k B ?_);exact(H.sub (B5 _ _)).sub (B5 _ _)
end
section
variable {D G:List Nat} {w0 w:A0} {L:List (Nat×List AF)} {bk:Nat} {fr pg wt lv:Int} {fd:FT} {s:Option A2×Nat×Nat}
theorem qf (H:aM D G w0 w L) (j:Nat) (f:L[j]? =some (bk,l9 fr pg wt lv fd s)) (a c g d:Int) {K:Unit->A0->Prop}
 (k: ∀h,aM D G w0 h (L.set j (bk,l9 fr pg wt (-1) (a,c,lv,d,()) s))->K () h):
 aA AC 60 (.bA []) [ah (ae bk),.agg ⟨[aa a,aa c,aa g,aa d]⟩] w K:=by
 refine aA.go H λw1 H=>ai (C:=M1) (aW:=λ_=>[]) (AJ (Vb _ a c g d w1 K) ?_);have i:j<L.length:=(Bx.1 f).1;refine aN.go H λb h H=>?_;have l:((b,[aa a,aa c,aa g,aa d])::L)[j+1]? =some (bk,l9 fr pg wt lv fd s):=f;refine⟨rfl,rfl,aj.cw (j+1) H l rfl ⟨rfl,aC.gP 0 H rfl rfl rfl λn H=>aj.at 0 H rfl rfl ⟨rfl,rfl,?_⟩⟩⟩;rw[aY,aY];refine aC.at (j+1) H f rfl (Nat.le_of_ble_eq_true rfl) λo H=>⟨rfl,rfl,?_⟩;refine aC.one (j+1) H (F6 (Nat.succ_lt_succ i)) rfl rfl λp H=>au.go H λm H=>k m ?_;have H:=H.sub (B5 _ _);have e:(L.set j (bk,l9 fr pg wt lv (a,c,lv,d,()) s)).set j (bk,l9 fr pg wt (-1) (a,c,lv,d,()) s)=L.set j (bk,l9 fr pg wt (-1) (a,c,lv,d,()) s):=J3 ..;rw[<-e];exact H
theorem Pu (H:aM D G w0 w L) (j:Nat) (i:L[j]? =some (bk,l9 fr pg wt lv fd s)) (f:Int) (ep:Bool) (er:Int) (el:Bool) (ef:Int) {K:Unit->A0->Prop}
 (k: ∀g,aM D G w0 g (L.set j (bk,l9 fr pg wt (-1) (xZ lv wt f ep er el ef) s))->K () g):
 aA AC 99 (.bA []) [ah (ae bk),aa f,.agg ⟨[.bool ep,aa er,.bool el,aa ef]⟩] w K:=by
 refine aA.go H λw1 H=>ai (C:=M1) (aW:=λ_=>[]) (AJ (ZP _ f ep er el ef w1 K) ?_);refine aN.go H λb g H=>?_;have d:((b,[B2 ep,aa er,.bool el,aa ef])::L)[j+1]? =some (bk,l9 fr pg wt lv fd s):=i;refine ab (λc=>?_) (λc=>aj.at 0 H rfl rfl ⟨rfl,rfl,aj.cw (j+1) H d rfl ⟨trivial,ab (λc2=>?_) (λc2=>?_)⟩⟩)
 ·refine qf H (j+1) d 0 0 0 11 λh H=>au.go H λa H=>k a ?_;have e:xZ lv wt f ep er el ef=(0,0,lv,11,()):=av (of_decide_eq_true c);rw[e];exact H.sub (B5 _ _)
 ·refine⟨rfl,aj.cw 0 H rfl rfl (qf H (j+1) d f er 0 7 λh H=>au.go H λa H=>k a ?_)⟩;have e:xZ lv wt f ep er el ef=(f,er,lv,7,()):=by
   have c3:dM ep er el ef wt=false:=by simpa using c2
   unfold xZ;rw[ao (of_decide_eq_false c),c3];rfl
  rw[e];exact H.sub (B5 _ _)
 ·refine⟨rfl,aj.cw 0 H rfl rfl (qf H (j+1) d f er 0 0 λh H=>au.go H λa H=>k a ?_)⟩;have e:xZ lv wt f ep er el ef=(f,er,lv,0,()):=by
   have c3:dM ep er el ef wt=true:=by simpa using c2
   unfold xZ;rw[ao (of_decide_eq_false c),av c3]
  rw[e];exact H.sub (B5 _ _)
end
def tookS (fr pg wt lv:Int) (fd:FT) (ep:Bool) (er:Int) (el:Bool) (ef:Int):Int×Int×FT:=
 if(!ep)=true then(fr,-1,wY lv 4)
 else if(fL ep er el ef&&decide (lv>0))=true then(ef,a6 .i64 lv 1,fd)
 else if(el&&lv==1)=true then(fr,-1,xZ lv wt (aH .i64 ef (jY pg 16)) ep er el ef)
 else if(!el&&decide (er>0)&&lv==0)=true then(fr,-1,xZ lv wt ef ep er el ef)
 else(fr,-1,wY lv 11)
section
variable {D G:List Nat} {w0 w:A0} {L:List (Nat×List AF)} {bk bp be:Nat} {fr pg wt lv:Int} {fd:FT} {s:Option A2×Nat×Nat} {ep:Bool} {er:Int} {el:Bool} {ef:Int}
theorem QY (H:aM D G w0 w L) (a j:Nat) (c:L[a]? =some (bp,[ah (ae bk)])) (d:L[j]? =some (bk,l9 fr pg wt lv fd s)) {K:Unit->A0->Prop}
 (k: ∀b,aM D G w0 b (L.set j (bk,l9 fr pg wt (-1) (wY lv 4) s))->K () b):aE AC 95 (.bA []) [ah (ae bp)] w K:=by
 refine ai (AJ (QR _ w K) ?_);exact aj.at a H c rfl (qf H j d 0 0 0 4 λf H=>au.go H λe H=>k e H)
theorem QZ (H:aM D G w0 w L) (a j:Nat) (c:L[a]? =some (bp,[ah (ae bk)])) (d:L[j]? =some (bk,l9 fr pg wt lv fd s)) {K:Unit->A0->Prop}
 (k: ∀b,aM D G w0 b (L.set j (bk,l9 fr pg wt (-1) (wY lv 11) s))->K () b):aE AC 102 (.bA []) [ah (ae bp)] w K:=by
 refine ai (AJ (QV _ w K) ?_);exact aj.at a H c rfl (qf H j d 0 0 0 _ λf H=>au.go H λe H=>k e H)
theorem Q0 (H:aM D G w0 w L) (e a j:Nat) (f:L[e]? =some (be,[.bool ep,aa er,.bool el,aa ef])) (b:L[a]? =some (bp,[ah (ae bk)])) (c:L[j]? =some (bk,l9 fr pg wt lv fd s)) (g:j≠a) {K:Unit->A0->Prop}
 (k: ∀d,aM D G w0 d (L.set j (bk,l9 ef pg wt (a6 .i64 lv 1) fd s))->K () d):aE AC 97 (.bA []) [ah (ae be),ah (ae bp)] w K:=by
 refine ai (C:=M1) (aW:=λ_=>[]) (AJ (QS _ _ w K) ?_);have h:j<L.length:=(Bx.1 c).1;refine aj.at a H b rfl (aj.at a H b rfl ⟨rfl,aj.cw e H f rfl (aj.at a H b rfl ⟨rfl,rfl,aj.cw j H c rfl ⟨rfl,rfl,?_⟩⟩)⟩);refine aC.gP j H c rfl rfl λd H=>⟨trivial,?_,rfl,rfl,?_⟩
 ·exact dV (H.get (i:=a) (by rw[Db g];exact b)) rfl
 ·refine aC.gP j H (F6 h) rfl rfl λm H=>au.go H λl H=>k l ?_;rw[J3] at H;exact H
theorem Q1 (H:aM D G w0 w L) (a b j:Nat) (c:L[a]? =some (be,[.bool ep,aa er,.bool el,aa ef])) (d:L[b]? =some (bp,[ah (ae bk)])) (e:L[j]? =some (bk,l9 fr pg wt lv fd s)) {K:Unit->A0->Prop}
 (k: ∀f,aM D G w0 f (L.set j (bk,l9 fr pg wt (-1) (xZ lv wt (aH .i64 ef (jY pg 16)) ep er el ef) s))->K () f):aE AC 98 (.bA []) [ah (ae bp),ah (ae be)] w K:=by
 refine ai (C:=M1) (AJ (QT _ _ w K) ?_);have g:gX 1=16:=rfl;rw[g];refine aj.at b H d rfl ⟨rfl,aj.cw a H c rfl (aj.at b H d rfl ⟨rfl,rfl,aj.cw j H e rfl ⟨trivial,by decide,aj.at a H c rfl ?_⟩⟩)⟩;exact Pu H j e _ ep er el ef λi H=>au.go H λh H=>k h H
theorem Q2 (H:aM D G w0 w L) (a b j:Nat) (c:L[a]? =some (be,[.bool ep,aa er,.bool el,aa ef])) (e:L[b]? =some (bp,[ah (ae bk)])) (f:L[j]? =some (bk,l9 fr pg wt lv fd s)) {K:Unit->A0->Prop}
 (k: ∀d,aM D G w0 d (L.set j (bk,l9 fr pg wt (-1) (xZ lv wt ef ep er el ef) s))->K () d):aE AC 101 (.bA []) [ah (ae bp),ah (ae be)] w K:=by
 refine ai (AJ (QU _ _ w K) ?_);refine aj.at b H e rfl ⟨rfl,aj.cw a H c rfl (aj.at a H c rfl ?_)⟩;exact Pu H j f _ ep er el ef λh H=>au.go H λg H=>k g H
theorem Vf (H:aM D G w0 w L) (j:Nat) (o:L[j]? =some (bk,l9 fr pg wt lv fd s)) (ep:Bool) (er:Int) (el:Bool) (ef:Int) {K:Unit->A0->Prop}
 (k: ∀E,aM D G w0 E (L.set j (bk,l9 (tookS fr pg wt lv fd ep er el ef).1 pg wt (tookS fr pg wt lv fd ep er el ef).2.1 (tookS fr pg wt lv fd ep er el ef).2.2 s))->K () E):
 aA AC 61 (.bA []) [ah (ae bk),.agg ⟨[.bool ep,aa er,.bool el,aa ef]⟩] w K:=by
 refine aA.go H λw1 H=>ai (C:=M3) (aW:=v_) (AJ (Vc _ ep er el ef w1 K) ?_);refine aN.go H λbp E H=>aN.go H λbe V H=>⟨rfl,aj.cw 0 H rfl rfl (aj.at 0 H rfl rfl ⟨trivial,aj.at 1 H rfl rfl ⟨λ_=>rfl,λ_=>rfl,aj.cw (j+2) H o rfl ⟨rfl,aj.cw 0 H rfl rfl (aj.at 1 H rfl rfl ⟨λ_=>rfl,λ_=>rfl,aj.cw (j+2) H o rfl ⟨rfl,aj.cw 0 H rfl rfl ⟨λ_=>rfl,aj.cw 0 H rfl rfl (aj.at 1 H rfl rfl ⟨λ_=>rfl,λ_=>rfl,aj.cw (j+2) H o rfl ?_⟩)⟩⟩⟩)⟩⟩⟩)⟩;refine aN.go H λbs W H=>?_;dsimp only at H ⊢;generalize J:(!ep)=c0 at H;generalize M:(fL ep er el ef&&decide (lv>0))=c1 at H;generalize N:(el&&lv==1)=c2 at H;generalize O:(!el&&decide (er>0)&&lv==0)=c3 at H;have g:tookS fr pg wt lv fd ep er el ef=if c0=true then(fr,-1,wY lv 4) else if c1=true then(ef,a6 .i64 lv 1,fd) else if c2=true then(fr,-1,xZ lv wt (aH .i64 ef (jY pg 16)) ep er el ef) else if c3=true then(fr,-1,xZ lv wt ef ep er el ef) else(fr,-1,wY lv 11):=by
  unfold tookS;rw[J,M,N,O]
 clear J M N O;refine⟨λn s' w'=> ∃i:Nat,s'.1=i/\n+i=5/\((0<i->c0=false)/\(1<i->c1=false)/\(2<i->c2=false)/\(3<i->c3=false)/\i<5)/\aM D G w0 w' ((bs,[.bool c0,.func (.func 95) ⟨[]⟩ ⟨[ah (ae bp)]⟩,.bool c1,.func (.func 97) ⟨[]⟩ ⟨[ah (ae be),ah (ae bp)]⟩,
  .bool c2,.func (.func 98) ⟨[]⟩ ⟨[ah (ae bp),ah (ae be)]⟩,.bool c3,.func (.func 101) ⟨[]⟩ ⟨[ah (ae bp),ah (ae be)]⟩,.bool true,.func (.func 102) ⟨[]⟩ ⟨[ah (ae bp)]⟩])::(be,[.bool ep,aa er,.bool el,aa ef])::(bp,[ah (ae bk)])::L),
  ⟨5,λS T=>⟨0,rfl,rfl,⟨λh=>absurd h (by decide),λh=>absurd h (by decide),λh=>absurd h (by decide),λh=>absurd h (by decide),by decide⟩,H.ext T⟩⟩,?_⟩
 clear H;rintro n ⟨X,u⟩ S ⟨i,hi,Y,⟨b,l,F,U,Z⟩,H⟩;simp only at hi;subst hi;dsimp only;have m: ∀{x y z q:Nat×List AF},(x::y::z::q::L)[j+4]? =some (bk,l9 fr pg wt lv fd s):=o;have fin: ∀{x y z q:Nat×List AF} {d:A0} {P Q:Int} {R:FT},tookS fr pg wt lv fd ep er el ef=(P,Q,R)->aM D G w0 d (x::y::z::q::L.set j (bk,l9 P pg wt Q R s))->K () d:=λe H=>by
  rw[e] at k;exact k _ ((((H.sub (B5 _ _)).sub (B5 _ _)).sub (B5 _ _)).sub (B5 _ _))
 have p:aH .i64 (i:Int) 1=((i+1:Nat):Int):=by rw[ay (by omega) (by omega)];rfl
 rcases(by omega:i=0\/i=1\/i=2\/i=3\/i=4) with rfl|rfl|rfl|rfl|rfl
 ·refine aB rfl ⟨⟨rfl,by decide,by decide⟩,aj.cw 0 H rfl rfl (aN.go H λr t H=>aC.all 0 H rfl rfl rfl λv H=>⟨rfl,aj.cw 0 H rfl rfl (ab (λc=>⟨rfl,aj.cw 0 H rfl rfl ?_⟩) (λc I f=>⟨n - 1,by omega,1,p,by omega,⟨λ_=>c,λh=>absurd h (by decide),λh=>absurd h (by decide),λh=>absurd h (by decide),by decide⟩,(H.sub (B5 _ _)).ext f⟩))⟩)⟩;unfold z4;refine λd a=>⟨_,⟨[]⟩,⟨[ah (ae bp)]⟩,rfl,by kernel_rfl,QY (H.ext a) 3 (j+4) rfl m λA H=>au.go H λB H=>fin ?_ H⟩;rw[g,av c]
 ·refine aB rfl ⟨⟨rfl,by decide,by decide⟩,aj.cw 0 H rfl rfl (aN.go H λr t H=>aC.all 0 H rfl rfl rfl λv H=>⟨rfl,aj.cw 0 H rfl rfl (ab (λc=>⟨rfl,aj.cw 0 H rfl rfl ?_⟩) (λc I f=>⟨n - 1,by omega,2,p,by omega,⟨λ_=>b (by decide),λ_=>c,λh=>absurd h (by decide),λh=>absurd h (by decide),by decide⟩,(H.sub (B5 _ _)).ext f⟩))⟩)⟩;unfold z4;refine λd a=>⟨_,⟨[]⟩,⟨[ah (ae be),ah (ae bp)]⟩,rfl,by kernel_rfl,Q0 (H.ext a) 2 3 (j+4) rfl rfl m (by omega) λA H=>au.go H λB H=>fin ?_ H⟩;rw[g,ao (by rw[b (by decide)];decide),av c]
 ·refine aB rfl ⟨⟨rfl,by decide,by decide⟩,aj.cw 0 H rfl rfl (aN.go H λr t H=>aC.all 0 H rfl rfl rfl λv H=>⟨rfl,aj.cw 0 H rfl rfl (ab (λc=>⟨rfl,aj.cw 0 H rfl rfl ?_⟩) (λc I f=>⟨n - 1,by omega,3,p,by omega,⟨λ_=>b (by decide),λ_=>l (by decide),λ_=>c,λh=>absurd h (by decide),by decide⟩,(H.sub (B5 _ _)).ext f⟩))⟩)⟩;unfold z4;refine λd a=>⟨_,⟨[]⟩,⟨[ah (ae bp),ah (ae be)]⟩,rfl,by kernel_rfl,Q1 (H.ext a) 2 3 (j+4) rfl rfl m λA H=>au.go H λB H=>fin ?_ H⟩;rw[g,ao (by rw[b (by decide)];decide),ao (by rw[l (by decide)];decide),av c]
 ·refine aB rfl ⟨⟨rfl,by decide,by decide⟩,aj.cw 0 H rfl rfl (aN.go H λr t H=>aC.all 0 H rfl rfl rfl λv H=>⟨rfl,aj.cw 0 H rfl rfl (ab (λc=>⟨rfl,aj.cw 0 H rfl rfl ?_⟩) (λc I f=>⟨n - 1,by omega,4,p,by omega,⟨λ_=>b (by decide),λ_=>l (by decide),λ_=>F (by decide),λ_=>c,by decide⟩,(H.sub (B5 _ _)).ext f⟩))⟩)⟩;unfold z4;refine λd a=>⟨_,⟨[]⟩,⟨[ah (ae bp),ah (ae be)]⟩,rfl,by kernel_rfl,Q2 (H.ext a) 2 3 (j+4) rfl rfl m λA H=>au.go H λB H=>fin ?_ H⟩;rw[g,ao (by rw[b (by decide)];decide),ao (by rw[l (by decide)];decide),ao (by rw[F (by decide)];decide),av c]
 ·refine aB rfl ⟨⟨rfl,by decide,by decide⟩,aj.cw 0 H rfl rfl (aN.go H λr t H=>aC.all 0 H rfl rfl rfl λv H=>⟨rfl,aj.cw 0 H rfl rfl (aB rfl ⟨rfl,aj.cw 0 H rfl rfl ?_⟩)⟩)⟩;unfold z4;refine λd a=>⟨_,⟨[]⟩,⟨[ah (ae bp)]⟩,rfl,by kernel_rfl,QZ (H.ext a) 3 (j+4) rfl m λA H=>au.go H λB H=>fin ?_ H⟩;rw[g,ao (by rw[b (by decide)];decide),ao (by rw[l (by decide)];decide),ao (by rw[F (by decide)];decide),ao (by rw[U (by decide)];decide)]
end
end Go.Proofs.YtlcenllcmeebhaaGreat
