import Derived.Test.YtlcenllcmeebhaaGreatPFA
/-! What the statement leans on: texts joined and shortened by a program of mine. -/
set_option linter.unusedVariables false
set_option linter.unusedSimpArgs false
open Go renaming World->A1,Addr->A2,Value->AC,Obj->AY,MapEntry->B2,Program->Co,FuncId->DI,TypeId->F4
open Go.Proofs.Tryz renaming prog->AB
open Eq renaming mpr->AL
open List renaming mem_map->AM,perm_middle->B3,mem_cons->B4,length_take->B5,mem_cons_of_mem->Bf,nodup_cons->Bx,getElem?_eq_some_iff->CJ,map_cons->CK,length_append->D8,mem_append_left->DA,mem_cons_self->DB,mem_singleton->DK,mem_append_right->DO,getElem?_eq_getElem->DY,getElem?_set_ne->DZ,take_append_drop->Dn,sublist_cons_self->Do,append_assoc->F5,map_append->F7,nodup_nil->FP,mem_of_getElem?->FR,getElem?_set_self->FS,replicate->FZ,mem_append->G1,length_drop->GD,getElem?_map->GF,getElem?_of_mem->GH,ext_getElem?->GI,filter_cons->GJ,mem_or_eq_of_mem_set->Gt,getElem?_append_left->Gu,nodup_append->Gv,append_nil->Gw,eq_nil_of_length_eq_zero->H4,take_add_one->H5,drop_length->H6,drop_eq_nil_of_le->IR,getElem?_inj->IV,getElem?_append_right->IX,take_append_of_le_length->In,take_of_length_le->J3,length_set->Jc,getD_eq_getElem?_getD->K1,filter_eq_self->KC,take_length->KE,any_eq_true->KL,set_eq_take_append_cons_drop->Mr,drop_length_add_append->N4,perm_append_singleton->N9,sublist_append_right->O2,length_map->OB,findIdx?_eq_none_iff->OC,drop_eq_getElem_cons->OG,eraseIdx_eq_take_drop_succ->OK,find?_append->OM,find?_cons->OO,length_nil->OV,length_cons->OY,set_append_right->Oc,pairwise_append->Oe,take_zero->Of,getElem?_take_of_lt->Oi
open Go.IntKind renaming i64->Ax,u64->KP
open Int renaming toNat->Ay,toNat_natCast->E4,ediv_nonneg->Ok
open Go.Value renaming bool->B1,int->E5,chan->H7,nilFunc->P0
open Nat renaming zero_add->CL,le_trans->DJ,le_refl->DQ,min_eq_left->Ef,zero_le->GO,mul_le_mul_right->Gc,sub_self->Gd,lt_of_lt_of_le->HB,lt_succ_self->Hb,mul_one->Hr,add_mul->Kq,testBit_mod_two_pow->Kt,mod_eq_of_lt->PP,eq_of_testBit_eq->PS
open List.Perm renaming cons->DD,swap->Ep
open Array renaming getElem?_eq_some_iff->DV,ext'->Kv,mk->LL
open Bool renaming or_eq_true->Et,or_eq_false_iff->F2,true_and->Gi,and_eq_true->I1,and_eq_false_iff->I2,eq_iff_iff->IM,not_eq_true'->M4,not_eq_false'->Pl
open Decidable renaming rec->GG
open Go.Instr renaming findNow->GS
open BitVec renaming testBit_toNat->Ga,getLsbD_and->IQ,getLsbD_ushiftRight->M5,allOnes->Pp,getLsbD_shiftLeft->Ps,getLsbD_of_ge->Rg
open Go.Builtin renaming zeroCells->Gj
open List.Sublist renaming refl->S0,cons_cons->S1,cons->S2
namespace Go.Proofs.YtlcenllcmeebhaaGreat
set_option maxRecDepth 100000
open Go.RX
def ee (lo sz:Int):Bool:=decide (lo>=0)&&decide (lo<64)&&decide (sz>=1)&&decide (sz<=64 - lo)
theorem iQ {lo sz:Int}:ee lo sz=true<->0<=lo/\lo<64/\1<=sz/\sz<=64 - lo:=by
 simp only[ee,I1,decide_eq_true_eq];omega
def Mk (lo n:Nat):BitVec 64:=(Pp 64 >>> (64 - n)) <<< lo
theorem CW {lo n j:Nat} (c:n<=64):(Mk lo n).getLsbD j=(decide (lo<=j)&&decide (j<lo+n)&&decide (j<64)):=by
 unfold Mk;rw[Ps,M5,BitVec.getLsbD_allOnes];by_cases h1:j<64<;>by_cases a:lo<=j<;>by_cases b:j<lo+n<;>simp[h1,a,b]<;>omega
def fX (lo sz:Int):BitVec 64:=if ee lo sz=true then Mk lo.toNat sz.toNat else 0#64
def ft (w:BitVec 64) (lo sz:Int):BitVec 64:=(w &&& fX lo sz) >>> (DX 0 (kK lo 63)).toNat
def te (w:BitVec 64) (lo sz:Int) (v:BitVec 64):BitVec 64:=if fX lo sz=0#64 then w else w &&& ~~~ fX lo sz ||| v <<< lo.toNat &&& fX lo sz
theorem Hv {lo sz:Int} (h:ee lo sz=true):DW .u64 (KH .u64 18446744073709551615 (aX .i64 64 sz)) lo=U (fX lo sz):=by
 have h':=iQ.1 h;rw[show(18446744073709551615:Int)=U (Pp 64) from rfl,Py,Px,bC (by omega) (by omega)];unfold fX Mk;rw[if_pos h];congr 4;omega
theorem Qv {lo sz:Int} (h:ee lo sz=true):fX lo sz≠0#64:=by
 intro h0;have h':=iQ.1 h;have:=congrArg (λb=>b.getLsbD lo.toNat) h0;simp only[fX,if_pos h] at this;rw[CW (by omega)] at this;simp at this;omega
theorem zS {lo sz:Int} (h:ee lo sz=false):fX lo sz=0#64:=by simp[fX,h]
def Gk (w:BitVec 64) (lo k:Nat):BitVec 64:=(w >>> lo) &&& Mk 0 k
theorem Pz {w:BitVec 64} {lo k j:Nat} (a:k<=64):(Gk w lo k).getLsbD j=(w.getLsbD (lo+j)&&decide (j<k)):=by
 unfold Gk;rw[IQ,M5,CW a];by_cases h:j<k<;>simp[h];omega
def Pk (w v:BitVec 64) (lo k:Nat):BitVec 64:=w &&& ~~~ Mk lo k ||| v <<< lo &&& Mk lo k
theorem ZO {w v:BitVec 64} {lo k j:Nat} (a:k<=64) (b:j<64):(Pk w v lo k).getLsbD j=if lo<=j/\j<lo+k then v.getLsbD (j - lo) else w.getLsbD j:=by
 unfold Pk;rw[BitVec.getLsbD_or,IQ,IQ,BitVec.getLsbD_not,Ps,CW a];by_cases h1:lo<=j<;>by_cases c:j<lo+k<;>simp[h1,c,b]
 all_goals omega
theorem UR {w:BitVec 64} {lo sz:Int} (h:ee lo sz=true):ft w lo sz=Gk w lo.toNat sz.toNat:=by
 have h':=iQ.1 h;unfold ft fX;rw[if_pos h];have e:(DX 0 (kK lo 63)).toNat=lo.toNat:=by unfold DX kK;split<;>split<;>omega
 rw[e];apply BitVec.eq_of_getLsbD_eq;intro j b;rw[Pz (by omega),M5,IQ,CW (by omega)];by_cases h1:lo.toNat+j<64
 ·by_cases a:j<sz.toNat<;>simp[h1,a]
 ·rw[Rg w _ (by omega)];simp
theorem US {w v:BitVec 64} {lo sz:Int} (h:ee lo sz=true):te w lo sz v=Pk w v lo.toNat sz.toNat:=by
 unfold te Pk;rw[if_neg (Qv h)];simp only[fX,if_pos h]
theorem mx:AB.follows .mixedOrders=true:=by kernel_rfl
noncomputable def C0:dM AB:={sM:=[],quiet:=[],sh:=[],mixed:=mx}
theorem UT (low size:Int) (w:A1) (a:Bool->A1->Prop):(aJ C0 (λ_=>[]) 144 [.int .i64 low,.int .i64 size] w a)=(
 au w (a (decide (low>=0)&&decide (low<64)&&decide (size>=1)&&decide (size<=aX .i64 64 low)))):=by kernel_rfl
theorem Qw (lo sz:Int):(decide (lo>=0)&&decide (lo<64)&&decide (sz>=1)&&decide (sz<=aX .i64 64 lo))=ee lo sz:=by
 unfold ee;by_cases h:0<=lo/\lo<64
 ·rw[bC (by omega) (by omega)]
 ·by_cases h1:lo>=0<;>by_cases a:lo<64<;>simp[h1,a]<;>omega
noncomputable def tA:Entry AB where
 f:=144
 fn l:=match l with
  |[.int .i64 lo,.int .i64 sz]=>some (True,.bool (ee lo sz))
  | _=>none
 ok args pre v h _ w:=by
  split at h
  ·rename_i lo sz;cases h;refine bW (x:=ee lo sz) (ai (C:=C0) (aT:=λ_=>[]) (AL (UT lo sz w _) λw1 h1=>⟨Qw lo sz,h1⟩))
  ·cases h
noncomputable def C1:dM AB:={C0 with sM:=[tA]}
theorem UU (low size:Int) (w:A1) (a:Int->A1->Prop):(aJ C1 (λ_=>[]) 195 [.int .i64 low,.int .i64 size] w a)=(
 True/\aI (!ee low size) (au w (a 0)) (0<=aX .i64 64 size/\0<=low/\au w λw1=>a (DW .u64 (KH .u64 18446744073709551615 (aX .i64 64 size)) low) w1)):=by kernel_rfl
theorem UW (lo sz:Int) (w:A1):aD AB 195 (.el (.one (.int .u64))) [.int .i64 lo,.int .i64 sz] w (λx w'=>x=U (fX lo sz)/\Ext w w'):=by
 refine ai (C:=C1) (aT:=λ_=>[]) (AL (UU lo sz w _) ⟨trivial,?_⟩);refine ab (λh=>?_) (λh=>?_)
 ·intro w1 h1;refine⟨?_,h1⟩;rw[zS (by simpa using h)];rfl
 ·have h':ee lo sz=true:=by simpa using h
  have a:=iQ.1 h';refine⟨by rw[bC (by omega) (by omega)];omega,a.1,λw1 h1=>⟨Hv h',h1⟩⟩
noncomputable def vO:Entry AB where
 f:=195
 fn l:=match l with
  |[.int .i64 lo,.int .i64 sz]=>some (True,.int .u64 (U (fX lo sz)))
  | _=>none
 ok args pre v h a w:=by
  split at h
  ·rename_i lo sz;cases h;exact bW (UW lo sz w)
  ·cases h
noncomputable def C2:dM AB:={C0 with sM:=[tA,vO]}
theorem ZP (v low size:Int) (w:A1) (a:Int->A1->Prop):(aJ C2 (λ_=>[]) 141 [.int .u64 v,.int .i64 low,.int .i64 size] w a)=(
 True/\0<=DX 0 (kK low 63)/\au w λw1=>a (KH .u64 (ny .u64 v (U (fX low size))) (DX 0 (kK low 63))) w1):=by kernel_rfl
theorem ZQ (v low size x:Int) (w:A1) (a:Int->A1->Prop):(aJ C2 (λ_=>[]) 250 [.int .u64 v,.int .i64 low,.int .i64 size,.int .u64 x] w a)=(
 True/\aI (U (fX low size)==0) (au w (a v)) (0<=low/\au w λw1=>a (orI .u64 (gN .u64 v (U (fX low size))) (ny .u64 (DW .u64 x low) (U (fX low size)))) w1)):=by kernel_rfl
theorem ZR (v:BitVec 64) (lo sz:Int) (w:A1):aD AB 141 (.el (.one (.int .u64))) [.int .u64 (U v),.int .i64 lo,.int .i64 sz] w (λx w'=>x=U (ft v lo sz)/\Ext w w'):=by
 refine ai (C:=C2) (aT:=λ_=>[]) (AL (ZP (U v) lo sz w _) ⟨trivial,by unfold DX;split<;>omega,λw1 h1=>⟨?_,h1⟩⟩);rw[Pv,Py];rfl
theorem ZS (v:BitVec 64) (lo sz:Int) (x:BitVec 64) (w:A1):aD AB 250 (.el (.one (.int .u64))) [.int .u64 (U v),.int .i64 lo,.int .i64 sz,.int .u64 (U x)] w (λy w'=>y=U (te v lo sz x)/\Ext w w'):=by
 refine ai (C:=C2) (aT:=λ_=>[]) (AL (ZQ (U v) lo sz (U x) w _) ⟨trivial,?_⟩);have b:(U (fX lo sz)==0)=decide (fX lo sz=0#64):=by
  have:(U (fX lo sz)=0)<->fX lo sz=0#64:=by rw[show(0:Int)=U 0#64 from rfl,abw]
  by_cases h:fX lo sz=0#64
  ·rw[this.2 h,h];rfl
  ·have h': ¬ U (fX lo sz)=0:=λe=>h (this.1 e);simp[h,h']
 rw[b];refine ab (λh=>λw1 h1=>⟨?_,h1⟩) (λh=>?_)
 ·simp only[decide_eq_true_eq] at h;unfold te;rw[if_pos h]
 ·simp only[decide_eq_false_iff_not] at h;have a:ee lo sz=true:=by
   cases a:ee lo sz with
   |true=>rfl
   |false=>exact absurd (zS a) h
  refine⟨(iQ.1 a).1,λw1 h1=>⟨?_,h1⟩⟩;rw[K8,Px,Pv,abx];unfold te;rw[if_neg h]
noncomputable def Gn:Entry AB where
 f:=141
 fn l:=match l with
  |[.int .u64 v,.int .i64 lo,.int .i64 sz]=>some (U (B v)=v,.int .u64 (U (ft (B v) lo sz)))
  | _=>none
 ok args pre v h a w:=by
  split at h
  ·rename_i v lo sz;cases h;have:=bW (ZR (B v) lo sz w);rw[a] at this;exact this
  ·cases h
noncomputable def Gp:Entry AB where
 f:=250
 fn l:=match l with
  |[.int .u64 v,.int .i64 lo,.int .i64 sz,.int .u64 x]=>some (U (B v)=v/\U (B x)=x,.int .u64 (U (te (B v) lo sz (B x))))
  | _=>none
 ok args pre v h a w:=by
  split at h
  ·rename_i v lo sz x;cases h;have:=bW (ZS (B v) lo sz (B x) w);rw[a.1,a.2] at this;exact this
  ·cases h
noncomputable def C3:dM AB:={C0 with sM:=[tA,vO,Gn,Gp]}
def wg:Nat->a6:=(λ|4=>[(3,Go.RX.El.one (Go.RX.Sc.int KP)),(4,Go.RX.El.one (Go.RX.Sc.int Ax)),(9,Go.RX.El.one (Go.RX.Sc.int Ax))]| _=>[])
theorem UX (p:Option A2) (n c:Nat) (w:A1) (d:Int->A1->Prop):(aJ C3 wg 248 [.slice p n c] w d)=(
 ∃(I:Nat->Int×Int×Int×Unit->A1->Prop),(∃n, ∀w1,Ext w w1->I n (0,0,0,()) w1)/\ ∀(f:Nat) (s:Int×Int×Int×Unit) (w1:A1),I f s w1->aI (decide (s.2.2.1<(↑n:Int))) ((p.isSome=true/\0<=s.2.2.1/\s.2.2.1<(↑n:Int))/\aj w1 none (ad p (Ay s.2.2.1*2)) cD λ(x:Int×Int×Unit)=>aM w1 ⟨[.int .u64 0,.int .i64 0]⟩ 304 λb a=>aC a (af b) [.int .u64 x.1,.int .i64 x.2.1] λa=>true=true/\aW a (ad (af b) 1) λx=>True/\aI (!ee s.2.1 x) (au a (d 0)) (true=true/\aW a (ad (af b) 1) λ
 x=>true=true/\cM a (ad (af b) 0) λe=>(U (B s.1)=s.1/\U (B e)=e)/\true=true/\aW a (ad (af b) 1) λi=> ∀g,Ext a g-> ∃(h:Nat),h<f/\I h (U (te (B s.1) s.2.1 x (B e)),aH .i64 s.2.1 i,aH .i64 s.2.2.1 1,()) g)) (au w1 (d s.1))):=by kernel_rfl
def um:Nat->a6:=(λ|4=>[(5,Go.RX.El.one Go.RX.Sc.slice),(6,Go.RX.El.one (Go.RX.Sc.int Ax)),(11,Go.RX.El.one (Go.RX.Sc.int Ax))]| _=>[])
theorem Qx (v:Int) (p:Option A2) (n c:Nat) (w:A1) (a:Option A2×Nat×Nat->A1->Prop):(aJ C3 um 93 [.int .u64 v,.slice p n c] w a)=(
 ∃(I:Nat->(Option A2×Nat×Nat)×Int×Int×Unit->A1->Prop),(∃n, ∀w1,Ext w w1->I n ((none,0,0),0,0,()) w1)/\ ∀(e:Nat) (s:(Option A2×Nat×Nat)×Int×Int×Unit) (w1:A1),I e s w1->aI (decide (s.2.2.1<(↑n:Int))) ((p.isSome=true/\0<=s.2.2.1/\s.2.2.1<(↑n:Int))/\aW w1 (ad p (Ay s.2.2.1*1)) λx=>True/\aI (!ee s.2.1 x) (au w1 (a (none,0,0))) (U (B v)=v/\aM w1 ⟨[.int .u64 (U (ft (B v) s.2.1 x))]⟩ 29 λb d=> ∀w1,Ext d w1->mH w1 29 1 8 ⟨[.int .u64 0]⟩ (s.1.1,s.1.2.1,s.1.2.2) (some ⟨b,0,
 none⟩,1,1) λ(r:Option A2×Nat×Nat) d=> ∀f,Ext d f-> ∃(g:Nat),g<e/\I g ((r.1,r.2.1,r.2.2),aH .i64 s.2.1 x,aH .i64 s.2.2.1 1,()) f)) (au w1 (a (s.1.1,s.1.2.1,s.1.2.2)))):=by kernel_rfl
abbrev eI:El:= .one (.int .i64)
abbrev eU:El:= .one (.int .u64)
abbrev eP:El:= .agg [.int .u64,.int .i64]
def qT:BitVec 64->Int->List (BitVec 64×Int)->BitVec 64
 |w, _,[]=>w
 |w,lo,(v,sz)::r=>if ee lo sz=true then qT (te w lo sz v) (lo+sz) r else 0#64
def OF (l:List (BitVec 64×Int)):List (Int×Int×Unit):=l.map λx=>(U x.1,x.2,())
theorem jk {α:Type} {l:List α} {i:Nat} (h:i<l.length):l.drop i=l[i]::l.drop (i+1):=by simp_all
theorem UY {p:Option A2} {n c:Nat} {w:A1} {xs:List (BitVec 64×Int)} (hx:Sl w eP p (OF xs)) (I:n=xs.length) (hb:n<4611686018427387904):
 aD AB 248 (.el eU) [.slice p n c] w (λx w'=>x=U (qT 0#64 0 xs)/\Ext w w'):=by
 refine ai (C:=C3) (aT:=wg) (AL (UX p n c w _) ?_);refine⟨λk s w'=>Ext w w'/\ ∃(i:Nat) (b:BitVec 64),s.1=U b/\s.2.2.1=i/\k+i=n/\0<=s.2.1/\s.2.1<=64/\qT b s.2.1 (xs.drop i)=qT 0#64 0 xs,⟨n,λw1 h1=>⟨h1,0,0#64,rfl,rfl,rfl,by decide,by decide,rfl⟩⟩,?_⟩;rintro k ⟨x,lo,J,u⟩ w1 ⟨l,i,b,h1,g,K,z,A,e⟩;simp only at h1 g z A e;subst h1;subst g;dsimp only;refine ab (λh=>?_) (λh=>λB g=>⟨?_,l.trans g⟩)
 ·simp only[decide_eq_true_eq] at h;have hi:i<xs.length:=by omega
  have hg:(OF xs)[i]? =some (U xs[i].1,xs[i].2,()):=by simp[OF,hi]
  have a1:=(hx.ext l) i _ hg;rw[jk hi] at e;refine⟨⟨a1.1,by omega,by omega⟩, _,a1.2,λd D f t=>?_⟩;have dp:bN f d.heap.size [.int .u64 0,.int .i64 0]:=(bN.new d _ _).ext t;have v:Ext w d:=l.trans D;have E:Ext w f:=(v.jd _).trans t;have m:=dp.put (o:=0) [E5 .u64 (U xs[i].1),E5 .i64 xs[i].2] (by simp);simp at m;have y:Ext w (jB f (some ⟨d.heap.size,0,none⟩) [E5 .u64 (U xs[i].1),E5 .i64 xs[i].2]):=E.jB (a:=⟨d.heap.size,0,none⟩) v.size _;have F:cL (jB f (some ⟨d.heap.size,0,none⟩) [E5 .u64 (U xs[i].1),E5 .i64 xs[i].2]) (ad (some ⟨d.heap.size,0,none⟩) 0) (.one (.int .u64)) (U xs[i].1):=by
   rw[aY];exact m.oD rfl
  have q:cL (jB f (some ⟨d.heap.size,0,none⟩) [E5 .u64 (U xs[i].1),E5 .i64 xs[i].2]) (ad (some ⟨d.heap.size,0,none⟩) 1) (.one (.int .i64)) xs[i].2:=by
   rw[aY];exact m.oD rfl
  refine⟨⟨rfl,dp.st (by simp)⟩,rfl, _,q,trivial,ab (λr B G=>⟨?_,y.trans G⟩) (λr=>⟨rfl, _,q,rfl, _,F,⟨by rw[FQ],by rw[FQ]⟩,rfl, _,q,λL H=>⟨k - 1,by omega,y.trans H,i+1,te b lo xs[i].2 xs[i].1,?_,?_,by omega,?_,?_,?_⟩⟩)⟩
  ·have j:ee lo xs[i].2=false:=by simpa using r
   rw[<-e];simp only[qT,j];rfl
  all_goals
   have j:ee lo xs[i].2=true:=by simpa using r
   have M:=iQ.1 j
  ·show U _= _;rw[FQ,FQ]
  ·show aH _ _ _= _;rw[av (by omega) (by omega)];rfl
  ·show 0<=aH .i64 lo _;rw[av (by omega) (by omega)];omega
  ·show aH .i64 lo _<=64;rw[av (by omega) (by omega)];omega
  ·show qT _ (aH .i64 lo _) _= _;rw[av (by omega) (by omega), <-e];simp only[qT,j,if_true]
 ·simp only[decide_eq_false_iff_not] at h;rw[IR (by omega)] at e;rw[<-e];rfl
def mD (w:BitVec 64):Int->List Int->Option (List (BitVec 64))
 | _,[]=>some []
 |lo,sz::r=>if ee lo sz=true then(mD w (lo+sz) r).map (ft w lo sz:: ·) else none
def CD (l:List (BitVec 64)):List Int:=l.map U
theorem Qy {v:BitVec 64} {p:Option A2} {n c:Nat} {w:A1} {xs:List Int} (hx:Sl w eI p xs) (H:n=xs.length) (hb:n<=1000):
 aD AB 93 (.el (.one .slice)) [.int .u64 (U v),.slice p n c] w (λr w'=>lU w w' eU r (CD ((mD v 0 xs).getD []))/\Ext w w'):=by
 refine ai (C:=C3) (aT:=um) (AL (Qx (U v) p n c w _) ?_);refine⟨λk s w'=>Ext w w'/\ ∃(i:Nat) (acc:List (BitVec 64)),s.2.2.1=i/\k+i=n/\0<=s.2.1/\s.2.1<=64/\acc.length=i/\lU w w' eU s.1 (CD acc)/\mD v 0 xs=(mD v s.2.1 (xs.drop i)).map (acc++ ·),⟨n,λw1 h1=>⟨h1,0,[],rfl,rfl,by decide,by decide,rfl,lU.nil w w1 eU,by simp⟩⟩,?_⟩;rintro k ⟨s,lo,I,u⟩ w1 ⟨d,i,acc,b,J,t,y,z,j,a⟩;simp only at b j t y a;subst b;dsimp only;refine ab (λh=>?_) (λh=>λm b=>⟨?_,d.trans b⟩)
 ·simp only[decide_eq_true_eq] at h;have hi:i<xs.length:=by omega
  have a1:=(hx.ext d) i _ (DY hi);have i1:p.isSome=true/\(0:Int)<=i/\(i:Int)<n:=⟨a1.1,by omega,by omega⟩;rw[jk hi] at a;refine⟨i1, _,a1.2,trivial,ab (λf m A=>⟨?_,d.trans A⟩) (λf=>⟨by rw[FQ],λK D L E=>?_⟩)⟩
  ·have g:ee lo xs[i]=false:=by simpa using f
   simp only[mD,g] at a;rw[a];exact lU.nil w m eU
  ·have g:ee lo xs[i]=true:=by simpa using f
   have M:=iQ.1 g;have N:(CD acc).length<=1000:=by simp[CD];omega
   refine Qu (e:=eU) (x:=U (ft (B (U v)) lo xs[i])) j d rfl D E rfl (by omega) λs' w' o F f hs O q=>⟨k - 1,by omega,F.trans q,i+1,acc++[ft v lo xs[i]],?_,by omega,?_,?_,by simp[z],?_,?_⟩
   ·show aH _ _ _= _;rw[av (by omega) (by omega)];rfl
   ·show 0<=aH .i64 lo _;rw[av (by omega) (by omega)];omega
   ·show aH .i64 lo _<=64;rw[av (by omega) (by omega)];omega
   ·rw[FQ] at o;have G:CD (acc++[ft v lo xs[i]])=CD acc++[U (ft v lo xs[i])]:=by simp[CD]
    rw[G];exact o.ext q
   ·show _=(mD v (aH .i64 lo _) _).map _;rw[av (by omega) (by omega),a];simp only[mD,g,if_true,Option.map_map];congr 1;funext l;simp
 ·simp only[decide_eq_false_iff_not] at h;rw[IR (by omega)] at a;rw[a];simp[mD];exact j.ext b
end Go.Proofs.YtlcenllcmeebhaaGreat
namespace Go.RX
open Go.RowKit
def Zg (n:Nat) (w:A1) (e:El) (s:Option A2×Nat×Nat) (xs:List e.T):Prop:=
 s.2.1=xs.length/\xs.length<=s.2.2/\
 ((s.1=none/\xs=[]/\s.2.2=0)\/ ∃b l,s.1=some ⟨b,0,none⟩/\n<=b/\bN w b l/\l.length=s.2.2*aF e/\l.take (xs.length*aF e)=flat e xs)
theorem lU.toN {w0 w:A1} {e:El} {s:Option A2×Nat×Nat} {xs:List e.T} (h:lU w0 w e s xs):Zg w0.heap.size w e s xs:=h
theorem Zg.of {w0 w:A1} {e:El} {s:Option A2×Nat×Nat} {xs:List e.T} {n:Nat} (h:Zg n w e s xs) (a:w0.heap.size<=n):lU w0 w e s xs:=by
 obtain⟨h1,b,c⟩:=h;refine⟨h1,?_⟩
 grind
def vP (n:Nat) (w:A1):A1:={w with heap:=w.heap.extract 0 n}
theorem iN {n:Nat} {w:A1} (h:n<=w.heap.size):(vP n w).heap.size=n:=by grind[vP]
theorem qn {n:Nat} {w:A1} (h:n<=w.heap.size):Ext (vP n w) w:=by
 refine⟨rfl,rfl,rfl,?_,λk a=>?_⟩
 ·rw[iN h];grind
 ·rw[iN h] at a;show w.heap[k]? =(w.heap.extract 0 n)[k]?
  grind
theorem Aj {n:Nat} {w w':A1} (h:n<=w.heap.size) (k:Ext (vP n w) w') (hs:w.heap.size<=w'.heap.size):Below n w w':=
 ⟨k.os,k.tape,k.output,hs,λj a=>by
  have h1:=k.block (by rw[iN h];exact a);have b:=(qn h).block (k:=j)
  grind⟩
end Go.RX
namespace Go.RowKit
open Go.RX
end Go.RowKit
namespace Go.RX
open Go.RowKit
structure Fr (G:List Nat) (w w':A1):Prop where
 os:w'.os=w.os
 tape:w'.tape=w.tape
 output:w'.output=w.output
 size:w.heap.size<=w'.heap.size
 block: ∀k,k<w.heap.size->k∉G->w'.heap[k]? =w.heap[k]?
theorem Fr.refl (G:List Nat) (w:A1):Fr G w w:=⟨rfl,rfl,rfl,by simp,λ_ _ _=>rfl⟩
theorem Fr.trans {G:List Nat} {a b c:A1} (h:Fr G a b) (k:Fr G b c):Fr G a c:=
 ⟨k.os.trans h.os,k.tape.trans h.tape,k.output.trans h.output,DJ h.size k.size,λj d e=>(k.block j (HB d h.size) e).trans (h.block j d e)⟩
theorem Fr.vf {G:List Nat} {w w':A1} (h:Ext w w'):Fr G w w':=⟨h.os,h.tape,h.output,h.size,λ_ a _=>h.block a⟩
theorem Fr.ext {w w':A1} (h:Fr [] w w'):Ext w w':=⟨h.os,h.tape,h.output,h.size,λk a=>h.block k a (by simp)⟩
theorem Fr.dp {G:List Nat} {w w':A1} (h:Fr G w w') {b:Nat} {l:List AC} (hb:b∉G) (k:bN w b l):bN w' b l:=k.same (h.block b k.lt hb)
theorem Fr.jB {G:List Nat} {w0 w:A1} (h:Fr G w0 w) {a:A2} (l:w0.heap.size<=a.block\/a.block∈G) (vs:List AC):Fr G w0 (jB w (some a) vs):=by
 have env: ∀(vs) (w) (i),(putAt w a vs i).os=w.os/\(putAt w a vs i).tape=w.tape/\(putAt w a vs i).output=w.output:=by
  intro vs
  induction vs with
  |nil=>intro w i;exact⟨rfl,rfl,rfl⟩
  |cons v r b=>
   intro w i;have:=b (w.setCell (a.add i) v) (i+1);exact this
 obtain⟨c,d,e⟩:=env vs w 0;refine⟨c.trans h.os,d.trans h.tape,e.trans h.output,?_,λk f g=>?_⟩
 ·show _<=(putAt w a vs 0).heap.size;rw[sj];exact h.size
 ·have j:k≠a.block:=by
   grind
  exact(mY vs w a 0 k j).trans (h.block k f g)
structure aK (D G:List Nat) (w0 w:A1) (L:List (Nat×List AC)):Prop where
 fr:Fr G w0 w
 dp: ∀x∈L,bN w x.1 x.2
 own: ∀x∈L,w0.heap.size<=x.1\/x.1∈G
 nd:(L.map (·.1)).Nodup
 pZ: ∀r∈D,w0.heap.size<=r/\w.heap[r]? =some (.deferred (some []))
abbrev At:=aK []
theorem At.start (G:List Nat) (w:A1):At G w w [] where
 fr:=Fr.refl G w
 dp:=λx=>by grind
 own:=λhx=>by grind
 nd:=FP
 pZ:=λhx=>by grind
namespace aK
variable {D G:List Nat} {w0 w w1:A1} {L:List (Nat×List AC)}
theorem ext (H:aK D G w0 w L) (h:Ext w w1):aK D G w0 w1 L:=
 ⟨H.fr.trans (.vf h),λx hx=>(H.dp x hx).ext h,H.own,H.nd,λr a=>⟨(H.pZ r a).1,h.obj (H.pZ r a).2⟩⟩
theorem all (H:aK D [] w0 w L):Ext w0 w:=H.fr.ext
theorem get (H:aK D G w0 w L) {i b:Nat} {l:List AC} (h:L[i]? =some (b,l)):bN w b l:=H.dp _ (FR h)
theorem ne (H:aK D G w0 w L) {i j b c:Nat} {l m:List AC} (h:L[i]? =some (b,l)) (k:L[j]? =some (c,m)) (a:i≠j):b≠c:=by
 intro;have h1:(L.map (·.1))[i]? =some b:=by grind
 have d:(L.map (·.1))[j]? =some b:=by grind
 exact a ((IV (by grind) H.nd).1 (h1.trans d.symm))
theorem alloc (H:aK D G w0 w L) (cs:List AC) (t:F4):aK D G w0 (w.alloc (.cells ⟨cs⟩ t)) ((w.heap.size,cs)::L):=by
 have a:=H.ext (Ext.alloc w (.cells ⟨cs⟩ t));refine⟨a.fr,λx hx=>?_,λx hx=>?_,?_,a.pZ⟩
 ·rcases B4.1 hx with rfl|hx
  ·exact bN.new w cs t
  ·exact a.dp x hx
 ·rcases B4.1 hx with rfl|hx
  ·exact .inl H.fr.size
  ·exact a.own x hx
 ·refine Bx.2 ⟨λb=>?_,H.nd⟩;obtain⟨x,hx,e⟩:=AM.1 b;have:=(H.dp x hx).lt
  grind
theorem rW (H:aK D G w0 w L) (o:AY):aK D G w0 (w.alloc o) L:=H.ext (Ext.alloc w o)
theorem dk {b r:Nat} {l:List AC} {o:AY} (h:bN w b l) (k:w.heap[r]? =some o) (c: ∀a t f,o≠ .cells a t f):b≠r:=by
 obtain⟨⟩:=h
 grind
theorem put (H:aK D G w0 w L) (i:Nat) {b o:Nat} {l:List AC} (h:L[i]? =some (b,l)) (vs:List AC) (k:o+vs.length<=l.length):
 aK D G w0 (jB w (some ⟨b,o,none⟩) vs) (L.set i (b,l.take o++(vs++l.drop (o+vs.length)))):=by
 have hi:i<L.length:=(CJ.1 h).1;have d:=FR h;refine⟨H.fr.jB (H.own _ d) vs,λx hx=>?_,λx hx=>?_,?_,λr f=>⟨(H.pZ r f).1,?_⟩⟩
 ·obtain⟨j,a⟩:=GH hx;by_cases e:i=j
  ·subst e;rw[FS hi] at a;cases a;exact(H.get h).put vs k
  ·rw[DZ e] at a;have c:x.1≠b:=λe'=>by
    exact H.ne a h (λm=>e m.symm) e'
   exact(H.dp x (by grind)).XO c vs
 ·rcases Gt hx with hx|rfl
  ·exact H.own x hx
  ·exact H.own (b,l) d
 ·have:(L.set i (b,l.take o++(vs++l.drop (o+vs.length)))).map (·.1)=L.map (·.1):=by
   apply GI;intro j
   grind
  rw[this];exact H.nd
 ·have g:=(H.pZ r f).2;have c:r≠b:=λe=>dk (H.get h) g (by grind) e.symm;rw[<-g];exact mY vs w _ 0 r c
theorem fW (H:aK D G w0 w L) {b:Nat} {l:List AC} (h:bN w0 b l) (hb:b∉G):bN w b l:=H.fr.dp hb h
theorem sub (H:aK D G w0 w L) {L':List (Nat×List AC)} (h:L'.Sublist L):aK D G w0 w L':=
 ⟨H.fr,λx hx=>H.dp x (h.subset hx),λx hx=>H.own x (h.subset hx),(h.map _).nodup H.nd,H.pZ⟩
theorem perm (H:aK D G w0 w L) {L':List (Nat×List AC)} (h:L'.Perm L):aK D G w0 w L':=
 ⟨H.fr,λx hx=>H.dp x (h.subset hx),λx hx=>H.own x (h.subset hx),(h.map _).nodup_iff.2 H.nd,H.pZ⟩
theorem frame (H:aK D G w0 w L) {b:List Nat} {L':List (Nat×List AC)} (h:Fr b w w1) (i: ∀x∈b,w0.heap.size<=x\/x∈G) (d: ∀r∈D,r∉b) (hb: ∀x∈L',bN w1 x.1 x.2) (e: ∀x∈L',w0.heap.size<=x.1\/x.1∈G) (f:(L'.map (·.1)).Nodup):aK D G w0 w1 L':=
 ⟨⟨h.os.trans H.fr.os,h.tape.trans H.fr.tape,h.output.trans H.fr.output,DJ H.fr.size h.size,λk c g=>(h.block k (HB c H.fr.size) (by grind)).trans (H.fr.block k c g)⟩,hb,e,f,λr a=>⟨(H.pZ r a).1,by rw[h.block r (DV.1 (H.pZ r a).2).1 (d r a)];exact(H.pZ r a).2⟩⟩
theorem mod (H:aK D G w0 w L) (i:Nat) {b:Nat} {l l':List AC} (a:L[i]? =some (b,l)) (h:Fr [b] w w1) (hb:bN w1 b l'):aK D G w0 w1 (L.set i (b,l')):=by
 have c:=FR a;refine H.frame h (λx hx=>by rw[DK.1 hx];exact H.own (b,l) c) (λr f hx=>?_) (λx hx=>?_) (λx hx=>?_) ?_
 ·rw[DK] at hx;exact dk (H.get a) (H.pZ r f).2 (by grind) hx.symm
 ·obtain⟨j,d⟩:=GH hx;by_cases e:i=j
  grind
  ·rw[DZ e] at d;obtain⟨x1,g⟩:=x;have m:x1≠b:=H.ne d a (λk=>e k.symm);exact h.dp (by grind) (H.dp (x1,g) (by grind))
 ·rcases Gt hx with hx|rfl
  ·exact H.own x hx
  ·exact H.own (b,l) c
 ·have:(L.set i (b,l')).map (·.1)=L.map (·.1):=by
   apply GI;intro j
   grind
  rw[this];exact H.nd
theorem again (H:aK D G w0 w L):At (L.map (·.1)) w w L where
 fr:=Fr.refl _ w
 dp:=H.dp
 own:=λx hx=> .inr (by grind)
 nd:=H.nd
 pZ:=λhx=>by grind
theorem join {a:List Nat} {L':List (Nat×List AC)} (H:aK D G w0 w L) (c: ∀x∈a,x∈L.map (·.1)) (K:At a w w1 L'):aK D G w0 w1 L':=by
 have d: ∀x∈a,w0.heap.size<=x\/x∈G:=λx hx=>by
  obtain⟨y,b,e⟩:=AM.1 (c x hx);rw[<-e];exact H.own y b
 refine H.frame K.fr d (λr f hx=>?_) K.dp (λx hx=>?_) K.nd
 ·obtain⟨y,b,e⟩:=AM.1 (c r hx);exact dk (H.dp y b) (H.pZ r f).2 (by grind) e
 ·rcases K.own x hx with h1|h1
  ·exact .inl (DJ H.fr.size h1)
  grind
theorem putObj (H:aK D G w0 w L) {l:Nat} (g:w0.heap.size<=l) {o o':AY} (c:w.heap[l]? =some o) (hc: ∀a t f,o≠ .cells a t f) (h:l∉D):aK D G w0 (w.putObj l o') L:=by
 refine⟨⟨H.fr.os,H.fr.tape,H.fr.output,by rw[putObj_size];grind,λk d e=>?_⟩,λx hx=>(H.dp x hx).putObj (dk (H.dp x hx) c hc) _,H.own,H.nd,λr b=>⟨(H.pZ r b).1,?_⟩⟩
 ·rw[fO (by omega)];exact H.fr.block k d e
 ·rw[fO (by grind)];exact(H.pZ r b).2
end aK
def k9 (l:List AC) (o:Nat):(el:El)->Option el.T
 | .one s=>match l[o]? with
   |some v=>s.proj v
   |none=>none
 | .agg ss=>mh ss ((l.drop o).take ss.length)
theorem dZ {w:A1} {b o:Nat} {l:List AC} (h:bN w b l) {el:El} {x:el.T} (hx:k9 l o el=some x):cL w (some ⟨b,o,none⟩) el x:=by
 cases el with
 |one=>
  simp[k9] at hx;split at hx
  ·rename_i hv;exact h.oD (by rw[hv,Sc.iC hx])
  grind
 |agg=>
  have e:=pN hx;refine h.rdA λhi=>?_
  grind
theorem aj.of {w:A1} {g:Option Bool} {p:Option A2} {el:El} {K:el.T->Prop} (x:el.T) (h:cL w p el x) (k:K x):aj w g p el K:=
 ⟨x,by cases g<;>first|exact h|exact λ_=>h,k⟩
theorem ay {b:Bool} {x y:Prop} (e:b=true) (h:x):aI b x y:=by grind[ab]
theorem an {b:Bool} {x y:Prop} (e:b=false) (h:y):aI b x y:=by grind[ab]
section
variable {D G:List Nat} {w0 w:A1} {L:List (Nat×List AC)}
theorem aj.at (i:Nat) (H:aK D G w0 w L) {g:Option Bool} {el:El} {K:el.T->Prop} {b o:Nat} {l:List AC} {x:el.T} (a:L[i]? =some (b,l)) (hv:k9 l o el=some x) (k:K x):aj w g (some ⟨b,o,none⟩) el K:=
 .of x (dZ (H.get a) hv) k
theorem aj.cA (i:Nat) (H:aK D G w0 w L) {g:Option Bool} {el:El} {K:el.T->Prop} {b o n:Nat} {l:List AC} {x:el.T} (a:L[i]? =some (b,l)) (hv:k9 l (o+n) el=some x) (k:K x):aj w g (ad (some ⟨b,o,none⟩) n) el K:=by
 rw[aY];exact .at i H a hv k
theorem aM.go (H:aK D G w0 w L) {cs:List AC} {e:F4} {K:Nat->A1->Prop} (k: ∀b w1,aK D G w0 w1 ((b,cs)::L)->K b w1):aM w ⟨cs⟩ e K:=
 λ_ h=>k _ _ ((H.ext h).alloc cs e)
theorem aC.at (i:Nat) (H:aK D G w0 w L) {b o:Nat} {l vs:List AC} {K:A1->Prop} (a:L[i]? =some (b,l)) (d:vs.all (·.oneCell')=true) (c:o+vs.length<=l.length)
 (k: ∀w1,aK D G w0 w1 (L.set i (b,l.take o++(vs++l.drop (o+vs.length))))->K w1):aC w (some ⟨b,o,none⟩) vs K:=
 λ_ h=>⟨⟨d,((H.ext h).get a).st c⟩,k _ ((H.ext h).put i a vs c)⟩
theorem aC.all (i:Nat) (H:aK D G w0 w L) {b:Nat} {l vs:List AC} {K:A1->Prop} (a:L[i]? =some (b,l)) (c:vs.all (·.oneCell')=true) (d:vs.length=l.length)
 (k: ∀w1,aK D G w0 w1 (L.set i (b,vs))->K w1):aC w (some ⟨b,0,none⟩) vs K:=by
 refine aC.at i H a c (by omega) λw1 h1=>k w1 ?_
 grind
theorem aC.one (i:Nat) (H:aK D G w0 w L) {b o:Nat} {l:List AC} {x:AC} {K:A1->Prop} (c:L[i]? =some (b,l)) (d:x.oneCell'=true) (a:Nat.blt o l.length=true)
 (k: ∀w1,aK D G w0 w1 (L.set i (b,l.set o x))->K w1):aC w (some ⟨b,o,none⟩) [x] K:=by
 have a:o<l.length:=by simp_all
 refine aC.at i H c (by grind) (by grind) λw1 h1=>k w1 ?_;rw[show l.set o x=l.take o++([x]++l.drop (o+[x].length)) from by simp[Mr,a]]
 grind
theorem aC.gJ (i:Nat) (H:aK D G w0 w L) {b o n:Nat} {l:List AC} {x:AC} {K:A1->Prop} (a:L[i]? =some (b,l)) (c:x.oneCell'=true) (d:Nat.blt (o+n) l.length=true)
 (k: ∀w1,aK D G w0 w1 (L.set i (b,l.set (o+n) x))->K w1):aC w (ad (some ⟨b,o,none⟩) n) [x] K:=by
 rw[aY];exact aC.one i H a c d k
theorem au.go (H:aK D G w0 w L) {K:A1->Prop} (k: ∀w1,aK D G w0 w1 L->K w1):au w K:=λ_ h=>k _ (H.ext h)
theorem aA.go (H:aK D G w0 w L) {P:Co} {f:DI} {s:Sh} {args:List AC} {K:s.T->A1->Prop} (k: ∀w1,aK D G w0 w1 L->aD P f s args w1 K):aA P f s args w K:=λ_ h=>k _ (H.ext h)
theorem aA.quiet (H:aK D G w0 w L) {P:Co} {f:DI} {s:Sh} {args:List AC} {R:s.T->Prop} {K:s.T->A1->Prop} (hc: ∀w,aD P f s args w (λx w'=>R x/\Ext w w')) (k: ∀x w1,R x->aK D G w0 w1 L->K x w1):aA P f s args w K:=
 λw1 h=>(hc w1).mono λx a ⟨b,hx⟩=>k x a b ((H.ext h).ext hx)
end
open Go.RowKit
variable {D G:List Nat} {w0 wb w w' w1:A1} {L Lb:List (Nat×List AC)}
theorem aK.then (a:aK D G w0 wb L) (H:At [] wb w Lb):aK D G w0 w L:=a.ext H.all
theorem aK.below (H:aK D G w0 w []) (h:Below w0.heap.size w w') (hs:w.heap.size<=w'.heap.size) (c:D=[]):aK D G w0 w' [] where
 fr:=⟨h.os.trans H.fr.os,h.tape.trans H.fr.tape,h.output.trans H.fr.output,DJ H.fr.size hs,λk a b=>(h.block k a).trans (H.fr.block k a b)⟩
 dp:=λhx=>by grind
 own:=λhx=>by grind
 nd:=FP
 pZ:=λhx=>by grind
theorem At.aby (i:Nat) (c:At G w0 wb []) {e:El} {s:Option A2×Nat×Nat} {xs:List e.T} (d:lU w0 wb e s xs) (H:At [] wb w Lb)
 {b:Nat} {l:List AC} (x:e.T) (f:Lb[i]? =some (b,l)) (g:l=cellsOf e x) (h:im e=true) {t:F4} {size bytes:Nat} {z:Array AC} (j:size=aF e) (m:z.size=aF e) (hb:(xs.length+1)*bytes<=140737488355328)
 {R:Option A2×Nat×Nat->A1->Prop} (k: ∀s' w',At G w0 w' []->lU w0 w' e s' (xs++[x])->R s' w'):
 mH w t size bytes z s (some ⟨b,0,none⟩,1,1) R:=by
 subst j;subst g;have a:=DJ c.fr.size H.fr.size;have n:=(d.ext H.all).toN.of (Nat.le_of_eq (iN a));refine lL (ys:=[x]) n (qn a) h rfl ?_ m hb λs' w' o p _ hs _=>k s' w' ((c.then H).below (Aj a p hs) hs rfl) ?_
 ·refine(H.get f).oQ (aG e _) λq=>?_;simp[flat]
 ·have:=o.toN;rw[iN a] at this;exact this
theorem aj.fW (H:aK D G w0 w L) {b o:Nat} {l:List AC} (h:bN w0 b l) (hb:b∉G) {g:Option Bool} {el:El} {K:el.T->Prop} {x:el.T} (hv:k9 l o el=some x) (k:K x):aj w g (some ⟨b,o,none⟩) el K:=
 .of x (dZ (H.fW h hb) hv) k
theorem aj.jC (H:aK D G w0 w L) {b o n:Nat} {l:List AC} (h:bN w0 b l) (hb:b∉G) {g:Option Bool} {el:El} {K:el.T->Prop} {x:el.T} (hv:k9 l (o+n) el=some x) (k:K x):aj w g (ad (some ⟨b,o,none⟩) n) el K:=by
 rw[aY];exact .fW H h hb hv k
theorem lU.start (w0 w:A1) (e:El):lU w0 w e (none,0,0) []:=lU.nil w0 w e
theorem aK.more (H:aK D G w0 w L) (h:Ext w w') {b:Nat} {l:List AC} (hb:w.heap.size<=b) (k:bN w' b l):aK D G w0 w' ((b,l)::L):=by
 have a:=H.ext h;refine⟨a.fr,λx hx=>?_,λx hx=>?_,?_,a.pZ⟩
 ·rcases B4.1 hx with rfl|hx
  ·grind
  ·exact a.dp x hx
 ·rcases B4.1 hx with rfl|hx
  ·exact .inl (DJ H.fr.size hb)
  ·exact a.own x hx
 ·refine Bx.2 ⟨λc=>?_,H.nd⟩;obtain⟨x,hx,e⟩:=AM.1 c;have:=(H.dp x hx).lt
  grind
theorem aK.got (H:aK D G w0 w L) (h:Ext w w') {e:El} {r:Option A2×Nat×Nat} {xs:List e.T} (a:lU w w' e r xs) (hx:xs≠[]):
 ∃b c rest,r=(some ⟨b,0,none⟩,xs.length,c)/\aK D G w0 w' ((b,flat e xs++rest)::L):=by
 obtain⟨h1,i,d⟩:=a;obtain⟨p,n,c⟩:=r;rcases d with ⟨⟩|⟨b,l,a1,f,j, _,g⟩
 grind
 ·subst a1;subst h1;refine⟨b,c,l.drop (xs.length*aF e),rfl,H.more h f ?_⟩;have el:l=flat e xs++l.drop (xs.length*aF e):=by rw[<-g,Dn]
  grind
theorem km {α:Sort _} {e:α} {K:α->Prop} (k:K e): ∀x,x=e->K x:=by grind
def Ux (P:Co) (c:DI) (args:Nat->List AC) (n:Nat) (b:Nat->Option (List AC)) (St:A1->Prop):Prop:=
 ∀(y:Nat) (w:A1) (J:Nat->A1->Prop) (a:A1->Prop),
  (∀i w w',J i w->Ext w w'->J i w')->(∀w w',a w->Ext w w'->a w')->(∀i w,J i w->St w)->
  (∀i,i<n->b i=none-> ∀w,J i w->J (i+1) w)->
  (∀i v,i<n->b i=some v-> ∀w (R:Bool->A1->Prop),J i w->(∀w',J (i+1) w'->R true w')->(∀w',a w'->R false w')->mz P y v w R)->
  J 0 w->Calls P c ⟨args y⟩ w (λe w'=> ∃v,e= .returned v/\(J n w'\/a w'))
section
variable {D G:List Nat} {w0 w:A1} {L:List (Nat×List AC)}
def yk (D G:List Nat) (w0 w:A1) (L:List (Nat×List AC)) (l:Nat) (rec:Loop):Prop:=w0.heap.size<=l/\aK D G w0 w L/\cX w l rec .ready none
def Bsy (D G:List Nat) (w0 w:A1) (L:List (Nat×List AC)) (l:Nat) (rec:Loop):Prop:=w0.heap.size<=l/\aK D G w0 w L/\cX w l rec .busy none
def Yp (D G:List Nat) (w0 w:A1) (L:List (Nat×List AC)) (l:Nat) (rec:Loop) (j:Code):Prop:=w0.heap.size<=l/\aK D G w0 w L/\cX w l rec .done (some j)
theorem sk {l:Nat} {rec:Loop} {st:LoopState} {b:Option Code} (H:aK D G w0 w L) (h:cX w l rec st b):l∉D/\l∉L.map (·.1):=by
 refine⟨λa=>?_,λa=>?_⟩
 ·have:=(H.pZ l a).2;rw[h] at this
  grind
 ·obtain⟨x,hx,e⟩:=AM.1 a;exact aK.dk (H.dp x hx) h (by grind) e
theorem aK.s_ {l:Nat} {rec:Loop} {st:LoopState} {a:Option Code} (H:aK D G w0 w L) (b:w0.heap.size<=l) (h:cX w l rec st a) (c:LoopState) (d:Option Code):aK D G w0 (RX.s_ w l rec c d) L:=
 H.putObj b h (by grind) (sk H h).1
theorem DL.go {l n m:Nat} {rec:Loop} {K:Prop} (h:yk D G w0 w L l rec) (a:n=m) (k:K):DL l rec n m w K:=⟨⟨none,h.2.2⟩,a,k⟩
theorem Cs.go {l:Nat} {rec:Loop} {K:A1->Prop} (h:yk D G w0 w L l rec) (k: ∀wb,At (L.map (·.1)) wb wb L->Bsy D G w0 wb L l rec->K wb):Cs l rec w K:=λg b=>by
 obtain⟨c,H,e⟩:=h;have f:=H.ext b;have a:=e.ext b;have d:=f.s_ c a .busy none;exact⟨none,a,k _ d.again ⟨c,d,a.put _ _⟩⟩
theorem sO.go {l:Nat} {rec:Loop} {j:Option Code} {wb d:A1} {L':List (Nat×List AC)} {R:Bool->A1->Prop} (h:Bsy D G w0 wb L l rec) (e:At (L.map (·.1)) wb d L')
 (k: ∀a,w0.heap.size<=l->aK D G w0 a L'->cX a l rec (if j.isNone then .ready else .done) j->R j.isNone a):sO l rec j d R:=λa f=>by
 obtain⟨g,H,b⟩:=h;have i:=(H.join (λx hx=>hx) e).ext f;have m:=b.same (e.fr.block l b.lt (sk H b).2);have c:=m.ext f;exact⟨.busy,none,c,k _ g (i.s_ g c _ _) (c.put _ _)⟩
theorem sO.next {l:Nat} {rec:Loop} {wb e:A1} {L':List (Nat×List AC)} {R:Bool->A1->Prop} (h:Bsy D G w0 wb L l rec) (f:At (L.map (·.1)) wb e L') (k: ∀d,yk D G w0 d L' l rec->R true d):sO l rec none e R:=
 sO.go h f λd a b c=>k d ⟨a,b,c⟩
theorem sO.left {l:Nat} {rec:Loop} {j:Code} {wb e:A1} {L':List (Nat×List AC)} {R:Bool->A1->Prop} (h:Bsy D G w0 wb L l rec) (f:At (L.map (·.1)) wb e L') (k: ∀d,Yp D G w0 d L' l rec j->R false d):sO l rec (some j) e R:=
 sO.go h f λd a b c=>k d ⟨a,b,c⟩
theorem dF.none {l:Nat} {rec:Loop} {Kn Kr:A1->Prop} {Kx:Nat->A1->Prop} (h:yk D G w0 w L l rec) (k: ∀a,aK D G w0 a L->Kn a):dF l rec w Kn Kx Kr:=
 ⟨.ready,.none,h.2.2,by simp,k _ (h.2.1.s_ h.1 h.2.2 _ _)⟩
theorem dF.ret {l:Nat} {rec:Loop} {Kn Kr:A1->Prop} {Kx:Nat->A1->Prop} (h:Yp D G w0 w L l rec .ret) (k: ∀a,aK D G w0 a L->Kr a):dF l rec w Kn Kx Kr:=
 ⟨.done,.some _,h.2.2,by simp,k _ (h.2.1.s_ h.1 h.2.2 _ _)⟩
theorem wh: ∀(m:Nat) (z:List AC) (i:Nat),i<m*z.length->(FZ m z).flatten[i]? =z[i % z.length]?
 |0,z,i,h=>by grind
 |m+1,z,i,h=>by
  rw[List.replicate_succ,List.flatten_cons];by_cases hi:i<z.length
  ·rw[Gu hi,PP hi]
  ·rw[IX (by omega),wh m z _ (by grind), <-Nat.mod_eq_sub_mod (by omega)]
theorem Hw (m:Nat) (z:List AC):nP ⟨z⟩ (m*z.length)=⟨(FZ m z).flatten⟩:=by
 have a:(FZ m z).flatten.length=m*z.length:=by simp
 apply Kv;apply GI;intro i;unfold nP;by_cases i<m*z.length
 ·grind[wh]
 grind
theorem Od.go (H:aK D G w0 w L) {bytes size:Nat} {n m:Int} {z:List AC} {e:F4} {K:Nat->A1->Prop} (a:size=z.length) (h0:0<=n) (h1:n<=m) (c:m<4611686018427387904) (d:bytes*m<=281474976710656)
 (k: ∀b w1,aK D G w0 w1 ((b,(FZ m.toNat z).flatten)::L)->K b w1):Od w bytes size n m ⟨z⟩ e K:=λw1 h=>by
 refine⟨⟨h0,by omega⟩,?_⟩;rw[a,Hw];exact k _ _ ((H.ext h).alloc _ e)
theorem lO (e:El) (x:e.T) (m:Nat):flat e (FZ m x)=(FZ m (cellsOf e x)).flatten:=by
 simp[flat,List.flatMap_replicate]
theorem mH.copy (H:aK D G w0 w L) {e:El} {ys:List e.T} {b n c:Nat} {l:List AC} (hb:bN w b l) (o:l.take (ys.length*aF e)=flat e ys) (d:n=ys.length) (p:ys≠[]) (f:im e=true) {t:F4} {size bytes:Nat} {z:Array AC} (g:size=aF e) (h:z.size=aF e) (q:ys.length*bytes<=140737488355328)
 {R:Option A2×Nat×Nat->A1->Prop} (k: ∀a i rest w',aK D G w0 w' ((a,flat e ys++rest)::L)->R (some ⟨a,0,none⟩,n,i) w'):
 mH w t size bytes z (none,0,0) (some ⟨b,0,none⟩,n,c) R:=by
 subst g;subst d;refine lL (lU.nil w w e) (Ext.refl w) f rfl ?_ h (by grind) λs' w' j m _=>?_
 ·refine hb.oQ (aG e ys) λhi=>?_
  grind
 ·obtain:=H.got m j
  grind
theorem sP.go {r:Nat} {K:A1->Prop} (H:aK [r] G w0 w L) (k: ∀w1,At G w0 w1 L->K w1):sP [r] w K:=λw1 h=>by
 have a:=H.ext h;have b:=a.pZ r (by simp);refine⟨⟨b.2,trivial⟩,k _ ?_⟩;have c:At G w0 w1 L:=⟨a.fr,a.dp,a.own,a.nd,by simp⟩;exact c.putObj b.1 b.2 (by grind) (by simp)
theorem An.inv {P:Co} {p:DI} {args:Nat->List AC} {ps:Array Nat} {T:Type} {g:T->List AC} {q:Nat->Loop->T->A1->(Bool->A1->Prop)->Prop} {m:Nat->Loop->A1->Prop} (H:aK D G w0 w L)
 {n:Nat} {f:Nat->Option (List AC)} {St:A1->Prop} (u:Ux P p args n f St) (Inv:Nat->List (Nat×List AC)->Prop) (Q:Code->List (Nat×List AC)->Prop) (h0:Inv 0 L)
 (y: ∀z i w' L',Inv i L'->aK z G w0 w' L'->St w') (J: ∀i L',i<n->f i=none->Inv i L'->Inv (i+1) L') (K: ∀i v,i<n->f i=some v-> ∃x,v=g x)
 (M: ∀i x L',i<n->f i=some (g x)->Inv i L'-> ∀r l rec s (R:Bool->A1->Prop),yk (r::D) G w0 s L' l rec->(∀c w',Inv (i+1) c->yk (r::D) G w0 w' c l rec->R true w')->(∀j c w',Q j c->Yp (r::D) G w0 w' c l rec j->R false w')->q l rec x s R)
 (N: ∀L' r rec d,Inv n L'->yk (r::D) G w0 d L' (r+1) rec->m r rec d) (O: ∀j L' r rec d,Q j L'->Yp (r::D) G w0 d L' (r+1) rec j->m r rec d):An P p args ps w g q m:=by
 intro w1 h1 rec _ _ A B S;have t:=H.ext h1;have sz:(w1.alloc (.deferred (some []))).heap.size=w1.heap.size+1:=lK _ _;have C:rec={rec with state:= .ready,pending:= .none}:=by rw[<-A, <-B]
 have E:w0.heap.size<=w1.heap.size:=t.fr.size;have F:yk (w1.heap.size::D) G w0 ((w1.alloc (.deferred (some []))).alloc (.loop rec)) L (w1.heap.size+1) rec:=by
  refine⟨by omega,?_,?_⟩
  ·have e:=(t.rW (.deferred (some []))).rW (.loop rec);refine⟨e.fr,e.dp,e.own,e.nd,λr o=>?_⟩;rcases B4.1 o with rfl|o
   ·exact⟨E,(Ext.alloc _ _).obj (fG w1 _)⟩
   ·exact e.pZ r o
  ·have:=fG (w1.alloc (.deferred (some []))) (.loop rec);rw[sz] at this;unfold cX;rw[this,C]
 refine Calls.mono (u _ _ (λi w'=> ∃L',Inv i L'/\yk (w1.heap.size::D) G w0 w' L' _ rec) (λw'=> ∃j L',Q j L'/\Yp (w1.heap.size::D) G w0 w' L' (w1.heap.size+1) rec j) ?_ ?_ ?_ ?_ ?_ ⟨L,h0,F⟩) ?_
 ·exact λi a b ⟨L',hi,h⟩ k=>⟨L',hi,h.1,h.2.1.ext k,h.2.2.ext k⟩
 ·exact λa b ⟨j,L',I,h⟩ k=>⟨j,L',I,h.1,h.2.1.ext k,h.2.2.ext k⟩
 ·exact λi a ⟨L',hi,h⟩=>y _ i a L' hi h.2.1
 ·grind
 grind
 grind
theorem An.go {P:Co} {e:DI} {args:Nat->List AC} {ps:Array Nat} {T:Type} {c:T->List AC} {f:Nat->Loop->T->A1->(Bool->A1->Prop)->Prop} {d:Nat->Loop->A1->Prop} (H:aK D G w0 w L)
 {n:Nat} {b:Nat->Option (List AC)} {St:A1->Prop} (h:Ux P e args n b St) (Ls:Nat->List (Nat×List AC)) (Q:Code->List (Nat×List AC)->Prop) (h0:Ls 0=L)
 (p: ∀k i w',aK k G w0 w' (Ls i)->St w') (q: ∀i,i<n->b i=none->Ls (i+1)=Ls i) (m: ∀i v,i<n->b i=some v-> ∃x,v=c x)
 (s: ∀i x,i<n->b i=some (c x)-> ∀r l rec g (R:Bool->A1->Prop),yk (r::D) G w0 g (Ls i) l rec->(∀w',yk (r::D) G w0 w' (Ls (i+1)) l rec->R true w')->(∀j L' w',Q j L'->Yp (r::D) G w0 w' L' l rec j->R false w')->f l rec x g R)
 (t: ∀r rec a,yk (r::D) G w0 a (Ls n) (r+1) rec->d r rec a) (o: ∀j L' r rec a,Q j L'->Yp (r::D) G w0 a L' (r+1) rec j->d r rec a):An P e args ps w c f d:=
 An.inv H h (λi L'=>L'=Ls i) Q h0.symm (by grind) (by grind) m
  (by grind) (by grind) o
theorem aK.abz (H:aK D G w0 w L) {b:Nat} (hb:b<w0.heap.size) (c:b∉G):b∉L.map (·.1):=λa=>by
 obtain⟨x,hx,e⟩:=AM.1 a;rcases H.own x hx
 grind
 grind
theorem aK.dA {wb w1:A1} {L':List (Nat×List AC)} (H:aK D G w0 wb L) (K:At (L.map (·.1)) wb w1 L') {b:Nat} {l:List AC} (h:bN w0 b l) (a:b∉G):bN w1 b l:=
 K.fW (H.fW h a) (H.abz h.lt a)
theorem At.rX {b:Nat} {l:List AC} (h:bN w b l):At [b] w w [(b,l)] where
 fr:=Fr.refl _ w
 dp:=λhx=>by grind
 own:=λx hx=> .inr (by grind)
 nd:=by simp
 pZ:=λhx=>by grind
theorem f_ {w:A1} {b:Nat} {e:El} {xs:List e.T} {rest:List AC} (h:bN w b (flat e xs++rest)) {i:Nat} {x:e.T} (hx:xs[i]? =some x):cL w (ad (some ⟨b,0,none⟩) (i*aF e)) e x:=
 (Sl.jK h (by simp[aG]) i x hx).2
theorem zj (e:El): ∀(xs:List e.T) (i:Nat) (y:e.T) (rest:List AC),i<xs.length->(flat e xs++rest).take (i*aF e)++(cellsOf e y++(flat e xs++rest).drop (i*aF e+(cellsOf e y).length))=flat e (xs.set i y)++rest
 |x::xs,0,y,rest, _=>by
  simp[flat];rw[dx, <-dx,List.drop_left]
 |x::xs,i+1,y,rest,h=>by
  have a:=zj e xs i y rest (by grind);have b:(i+1)*aF e=(cellsOf e x).length+i*aF e:=by rw[dx,Kq];omega
  simp[flat] at a ⊢;rw[b,List.take_length_add_append,F5,Nat.add_assoc,N4,a]
theorem aC.flat (j:Nat) (H:aK D G w0 w L) {b i:Nat} {e:El} {xs:List e.T} {rest vs:List AC} (y:e.T) {K:A1->Prop} (a:L[j]? =some (b,RX.flat e xs++rest)) (hv:vs=cellsOf e y) (c:im e=true) (hi:i<xs.length)
 (k: ∀w1,aK D G w0 w1 (L.set j (b,RX.flat e (xs.set i y)++rest))->K w1):aC w (ad (some ⟨b,0,none⟩) (i*aF e)) vs K:=by
 rw[aY,CL];subst hv;refine aC.at j H a ?_ ?_ λw1 h1=>k w1 ?_
 ·have:=jR e [y] c;simpa[RX.flat]
 ·rw[dx,D8,aG];have:(i+1)*aF e<=xs.length*aF e:=Gc _ hi
  grind
 ·rw[zj e xs i y rest hi] at h1;grind
theorem aA.D5 (H:aK D G w0 w L) (j:Nat) {b:Nat} {l l':List AC} (c:L[j]? =some (b,l)) {P:Co} {f:DI} {s:Sh} {args:List AC} {v:s.T} {K:s.T->A1->Prop}
 (hc: ∀w1,aK D G w0 w1 L->aD P f s args w1 (λx w'=>x=v/\bN w' b l'/\Fr [b] w1 w')) (k: ∀a,aK D G w0 a (L.set j (b,l'))->K v a):aA P f s args w K:=λw1 h=>
 (hc w1 (H.ext h)).mono λx a ⟨hx,hb,d⟩=>by subst hx;exact k a ((H.ext h).mod j c d hb)
theorem aA.val (H:aK D G w0 w L) {P:Co} {f:DI} {s:Sh} {args:List AC} (v:s.T) {K:s.T->A1->Prop}
 (hc: ∀w1,aK D G w0 w1 L->aD P f s args w1 (λx w'=>x=v/\Ext w1 w')) (k: ∀a,aK D G w0 a L->K v a):aA P f s args w K:=λw1 h=>
 (hc w1 (H.ext h)).mono λx a ⟨hx,b⟩=>by subst hx;exact k a ((H.ext h).ext b)
theorem ae.of {P:Co} {f:DI} {s:Sh} {args:List AC} {v:s.T} (h: ∀w',Ext w w'->aD P f s args w' (λx a=>x=v/\Ext w' a)):ae P f args w (s.ia v):=
 λw' b=>bW (h w' b)
theorem aK.grow {e:El} {s:Option A2×Nat×Nat} {xs:List e.T} {x:e.T} {b:Nat} {Ls L0:List (Nat×List AC)} (H:aK D G w0 w ((b,cellsOf e x)::(Ls++L0)))
 (hs:(s=(none,0,0)/\xs=[]/\Ls=[])\/ ∃bs c rest,s=(some ⟨bs,0,none⟩,xs.length,c)/\Ls=[(bs,flat e xs++rest)]/\(flat e xs++rest).length=c*aF e/\xs.length<=c)
 (P:im e=true) {t:F4} {size bytes:Nat} {z:Array AC} (q:size=aF e) (Q:z.size=aF e) (hb:(xs.length+1)*bytes<=140737488355328)
 {R:Option A2×Nat×Nat->A1->Prop} (k: ∀bs c rest w',(flat e (xs++[x])++rest).length=c*aF e->xs.length+1<=c->aK D G w0 w' ((bs,flat e (xs++[x])++rest)::L0)->R (some ⟨bs,0,none⟩,xs.length+1,c) w'):
 mH w t size bytes z s (some ⟨b,0,none⟩,1,1) R:=by
 subst q;have S:(vP 0 w).heap.size=0:=iN (GO _);have U:lU (vP 0 w) w e s xs:=by
  rcases hs with ⟨rfl,rfl, _⟩|⟨bs,c,rest,rfl,rfl,h1,m⟩
  ·exact lU.nil _ _ _
  ·refine⟨rfl,m,.inr ⟨bs, _,rfl,by rw[S];exact GO _,H.get (i:=1) rfl,h1,?_⟩⟩;rw[In (by rw[aG];exact DQ _),J3 (by rw[aG];exact DQ _)]
 have V:bN w b (cellsOf e x):=H.get (i:=0) rfl;refine lL (ys:=[x]) U (qn (GO _)) P rfl ?_ Q hb λs' w' W g F q I=>?_
 ·refine V.oQ (aG e [x]) λj hj=>?_;simp[flat]
 ·obtain⟨p,n,c⟩:=s';obtain⟨h1,m,J⟩:=W;simp only at h1 m J I;have X:(xs++[x]).length=xs.length+1:=by simp
  rcases J with ⟨_,hx, _⟩|⟨bs,l,a1, _,Y,Z,a5⟩
  ·simp at hx
  ·subst a1;rw[X] at h1 m;subst h1;have el:l=flat e (xs++[x])++l.drop ((xs++[x]).length*aF e):=by rw[<-a5,Dn]
   refine k bs c (l.drop ((xs++[x]).length*aF e)) w' (by rw[<-el];exact Z) m ?_;rw[<-el];have hG': ∃A,Fr A w w'/\(∀y∈A,y∈Ls.map (·.1)):=by
    rcases hs with ⟨rfl, _,rfl⟩|⟨bo,co,K,rfl,rfl, _, _⟩
    ·exact⟨[],⟨g.os,g.tape,g.output,q,λy d _=>F y d (λa B=>by cases B)⟩,λy d=>by cases d⟩
    ·exact⟨[bo],⟨g.os,g.tape,g.output,q,λy d hn=>F y d (λa B=>by cases B;simpa using hn)⟩,λy d=>by simpa using d⟩
   obtain⟨A,L,M⟩:=hG';have C:=H.nd;simp only[CK,F7,Bx,Gv,G1] at C;have N: ∀y∈Ls.map (·.1),w0.heap.size<=y\/y∈G:=λy d=>by
    obtain⟨u,o,rfl⟩:=AM.1 d;exact H.own u (Bf _ (DA _ o))
   have O:bs∈Ls.map (·.1)\/w.heap.size<=bs:=by
    rcases I with ⟨a,f,v⟩|⟨a,f,v⟩|f
    ·cases f;rcases hs with ⟨rfl, _, _⟩|⟨bo,co,K,rfl,rfl, _, _⟩
     ·cases v
     ·cases v;exact .inl (by simp)
    ·cases f;exact .inr v
    ·rcases hs with ⟨rfl, _, _⟩|⟨bo,co,K,rfl,rfl, _, _⟩
     ·cases f
     grind
   refine H.frame L (λy d=>N y (M y d)) (λr hr d=>?_) (λy d=>?_) (λy d=>?_) ?_
   ·obtain⟨u,o,f⟩:=AM.1 (M r d);exact aK.dk (H.dp u (Bf _ (DA _ o))) (H.pZ r hr).2 (λ_ _ _ hc=>by cases hc) f
   ·rcases B4.1 d with rfl|d
    ·exact Y
    ·refine L.dp (λE=>?_) (H.dp y (Bf _ (DO _ d)))
     grind
   ·rcases B4.1 d with rfl|d
    ·rcases O with h|h
     ·exact N _ h
     ·exact .inl (DJ H.fr.size h)
    ·exact H.own y (Bf _ (DO _ d))
   ·refine Bx.2 ⟨λE=>?_,C.2.2.1⟩;rcases O with h|h
    ·exact C.2.2.2 bs h bs E rfl
    ·obtain⟨u,o,f⟩:=AM.1 E;have:=(H.dp u (Bf _ (DO _ o))).lt;simp only at f h;omega
def oo (e:El) (rows:List (Nat×List AC)) (r:Option A2×Nat×Nat) (xs:List e.T):Prop:=
 r.2.1=xs.length/\((xs=[]/\rows=[])\/ ∃b rest,r.1=some ⟨b,0,none⟩/\rows=[(b,RX.flat e xs++rest)])
theorem aK.acz {w':A1} (H:aK D G w0 w L) (h:Ext w w') {e:El} {r:Option A2×Nat×Nat} {xs:List e.T} (a:lU w w' e r xs): ∃rows,aK D G w0 w' (L++rows)/\oo e rows r xs:=by
 by_cases hx:xs=[]
 ·exact⟨[],by rw[Gw];exact H.ext h,a.len,by grind⟩
 ·obtain⟨b,c,rest,rfl,d⟩:=H.got h a hx;exact⟨[(b,RX.flat e xs++rest)],d.perm (N9 _ _),rfl,by simp⟩
theorem oo.sl {e:El} {rows:List (Nat×List AC)} {r:Option A2×Nat×Nat} {xs:List e.T} (h:oo e rows r xs) (H:aK D G w0 w L) (a: ∀x∈rows,x∈L):Sl w e r.1 xs:=by
 rcases h.2 with ⟨rfl, _⟩|⟨b,rest,h1,rfl⟩
 ·intro;grind
 ·rw[h1];refine Sl.jK (H.dp _ (a _ (DK.2 rfl))) ?_;rw[In (by rw[aG];simp),J3 (by rw[aG];simp)]
theorem aA.Zh (H:aK D G w0 w L) {P:Co} {f:DI} {args:List AC} {e:El} {xs:List e.T} {K:(Option A2×Nat×Nat)->A1->Prop}
 (hc: ∀w',aK D G w0 w' L->aD P f (.el (.one .slice)) args w' (λr a=>lU w' a e r xs/\Ext w' a)) (k: ∀r rows w1,aK D G w0 w1 (L++rows)->oo e rows r xs->K r w1):
 aA P f (.el (.one .slice)) args w K:=λw1 h=>(hc w1 (H.ext h)).mono λx d ⟨b,c⟩=>by
 obtain:=(H.ext h).acz c b
 grind
end
def NC (o:AY):Prop:= ∀a t f,o≠ .cells a t f
def Ob (l:Nat) (w w':A1):Prop:= ∀r o,r≠l->NC o->w.heap[r]? =some o->w'.heap[r]? =some o
theorem Ob.trans {l:Nat} {a b c:A1} (h:Ob l a b) (k:Ob l b c):Ob l a c:=λr o d e f=>k r o d e (h r o d e f)
theorem Ob.vf {l:Nat} {a b:A1} (h:Ext a b):Ob l a b:=λ_ _ _ _ c=>h.obj c
theorem Ob.put (l:Nat) (w:A1) (o:AY):Ob l w (w.putObj l o):=λr o' a _ b=>by rw[fO a];grind
structure JK {T:Type} (bm:Nat) (mc:List AC->Prop) (J:List T->List (Nat×List AC)->List (Nat×AY)->A1->Prop):Prop where
 step: ∀{a X O w w' l' Y},J a X O w->Fr [bm] w w'->bN w' bm l'->mc l'->(∀y∈Y,w.heap.size<=y.1/\bN w' y.1 y.2)->(Y.map (·.1)).Nodup->J a (Y++X) O w'
 mem: ∀{a X O w},J a X O w-> ∃l,mc l/\bN w bm l
 dp: ∀{a X O w x},J a X O w->x∈X->x.1≠bm/\bN w x.1 x.2
 obj: ∀{a X O w r o},J a X O w->(r,o)∈O->w.heap[r]? =some o
 alO: ∀{a X O w o},J a X O w->NC o->J a X ((w.heap.size,o)::O) (w.alloc o)
 puO: ∀{a X O w r o o'},J a X ((r,o)::O) w->NC o'->J a X ((r,o')::O) (w.putObj r o')
 sub: ∀{a X O X' O' w},J a X O w->(∀x∈X',x∈X)->O'.Sublist O->J a X' O' w
 perm: ∀{a X O O' w},J a X O w->O'.Perm O->J a X O' w
def Yd {T:Type} (P:Co) (y:Nat) (b:T->List AC) (N:Nat) (J:List T->List (Nat×List AC)->List (Nat×AY)->A1->Prop):Prop:=
 ∀a x X O w (R:Bool->A1->Prop),a.length<N->J a X O w->(∀w',J (a++[x]) X O w'->R true w')->mz P y (b x) w R
def ItJ {T:Type} (P:Co) (b:DI) (args:Nat->List AC) (c:T->List AC) (N bm:Nat) (mc:List AC->Prop) (d:List (Nat×List AC)) (xs:List T):Prop:=
 ∀(y:Nat) (J:List T->List (Nat×List AC)->List (Nat×AY)->A1->Prop),JK bm mc J->Yd P y c N J-> ∀a X O w,a.length+xs.length<=N->(∀x∈d,x∈X)->J a X O w->
  Calls P b ⟨args y⟩ w (λe w'=> ∃v,e= .returned v/\J (a++xs) X O w')
section
variable {T:Type} {bm:Nat} {mc:List AC->Prop} {J:List T->List (Nat×List AC)->List (Nat×AY)->A1->Prop} {a:List T} {X:List (Nat×List AC)} {O:List (Nat×AY)} {w w':A1}
theorem JK.ext (K:JK bm mc J) (j:J a X O w) (h:Ext w w'):J a X O w':=by
 obtain⟨l,h1,b⟩:=K.mem j;exact K.step (Y:=[]) j (.vf h) (b.ext h) h1 (by grind) (by grind)
theorem JK.tB (K:JK bm mc J) (j:J a X O w) {Y:List (Nat×List AC)} {l':List AC} (H:At [bm] w w' (Y++[(bm,l')])) (c:mc l'):J a (Y++X) O w':=by
 have b:=H.nd;rw[F7,Gv] at b;refine K.step j H.fr (H.dp (bm,l') (by simp)) c (λy d=>⟨?_,H.dp y (by grind)⟩) b.1;rcases H.own y (by grind)
 ·grind
 grind
theorem JK.at0 (K:JK bm mc J) (j:J a X O w): ∃l,mc l/\At [bm] w w [(bm,l)]:=by
 obtain⟨l,h1,b⟩:=K.mem j;exact⟨l,h1,At.rX b⟩
theorem JK.close (K:JK bm mc J): ∀(D:List Nat) {w:A1},J a X (D.map (λr=>(r,Obj.deferred (some [])))++O) w->Eh D w/\J a X O (mC D w)
 |[], _,j=>⟨trivial,j⟩
 |r::D,w,j=>by
  have h:=K.obj j (r:=r) (o:= .deferred (some [])) (by simp);have b:=K.puO (o':= .deferred none) j λ_=>by grind
  obtain⟨h1,c⟩:=K.close D (K.sub b (λ_ h=>h) (Do _ _));exact⟨⟨h,h1⟩,c⟩
theorem JK.sP (K:JK bm mc J) (D:List Nat) (j:J a X (D.map (λr=>(r,Obj.deferred (some [])))++O) w) {Q:A1->Prop} (k: ∀w1,J a X O w1->Q w1):sP D w Q:=λw1 h1=>by
 obtain:=K.close D (K.ext j h1)
 grind
abbrev Oj (rec:Loop):AY:= .loop {rec with state:= .ready,pending:=none}
abbrev lpB (rec:Loop):AY:= .loop {rec with state:= .busy,pending:=none}
theorem I4 (rec:Loop) (st:LoopState) (a:Option Code):NC (.loop {rec with state:=st,pending:=a}):=λe=>by grind
theorem DL.Ys (K:JK bm mc J) {l n m:Nat} {rec:Loop} (j:J a X ((l,Oj rec)::O) w) {Q:Prop} (b:n=m) (k:Q):DL l rec n m w Q:=⟨⟨none,K.obj j (by simp)⟩,b,k⟩
theorem Cs.Ys (K:JK bm mc J) {l:Nat} {rec:Loop} (j:J a X ((l,Oj rec)::O) w) {Q:A1->Prop} (k: ∀wb,J a X ((l,lpB rec)::O) wb->Q wb):Cs l rec w Q:=λd c=>by
 have b:=K.ext j c;exact⟨none,K.obj b (by simp),k _ (K.puO b (I4 rec _ _))⟩
theorem sO.Ys (K:JK bm mc J) {l:Nat} {rec:Loop} (j:J a X ((l,lpB rec)::O) w) {R:Bool->A1->Prop} (k: ∀b,J a X ((l,Oj rec)::O) b->R true b):sO l rec none w R:=λe d=>by
 have c:=K.ext j d;exact⟨.busy,none,K.obj c (by simp),k _ (K.puO c (I4 rec _ _))⟩
theorem dF.Ys (K:JK bm mc J) {l:Nat} {rec:Loop} (j:J a X ((l,Oj rec)::O) w) {Kn Kr:A1->Prop} {Kx:Nat->A1->Prop} (k: ∀b,J a X O b->Kn b):dF l rec w Kn Kx Kr:=
 ⟨.ready,.none,K.obj j (by simp),by simp,k _ (K.sub (K.puO j (I4 rec _ _)) (λ_ h=>h) (by grind))⟩
end
section
variable {D G:List Nat} {w0 w:A1} {L:List (Nat×List AC)}
theorem Cs.goO {l:Nat} {rec:Loop} {K:A1->Prop} (h:yk D G w0 w L l rec) (k: ∀wb,At (L.map (·.1)) wb wb L->Bsy D G w0 wb L l rec->Ob l w wb->K wb):Cs l rec w K:=λg a=>by
 obtain⟨c,H,e⟩:=h;have f:=H.ext a;have b:=e.ext a;have d:=f.s_ c b .busy none;exact⟨none,b,k _ d.again ⟨c,d,b.put _ _⟩ ((Ob.vf a).trans (Ob.put _ _ _))⟩
theorem Ob.tB {l:Nat} {wb a:A1} {L':List (Nat×List AC)} (H:aK D G w0 wb L) (c:At (L.map (·.1)) wb a L'):Ob l wb a:=λr o _ d b=>by
 rw[c.fr.block r (DV.1 b).1 λf=>?_]
 ·grind
 ·obtain⟨x,hx,e⟩:=AM.1 f;exact aK.dk (H.dp x hx) b d e
theorem sO.lq {l:Nat} {rec:Loop} {wb f:A1} {L':List (Nat×List AC)} {R:Bool->A1->Prop} (h:Bsy D G w0 wb L l rec) (b:At (L.map (·.1)) wb f L') (k: ∀a,yk D G w0 a L' l rec->Ob l wb a->R true a):sO l rec none f R:=λa c=>by
 obtain⟨g,H,d⟩:=h;have i:=(H.join (λx hx=>hx) b).ext c;have j:=d.same (b.fr.block l d.lt (sk H d).2);have e:=j.ext c;exact⟨.busy,none,e,k _ ⟨g,i.s_ g e _ _,e.put _ _⟩ (((Ob.tB H b).trans (Ob.vf c)).trans (Ob.put _ _ _))⟩
theorem An.OH {T:Type} {P:Co} {gm:DI} {args:Nat->List AC} {ps:Array Nat} {W:T->List AC} {Rd:Nat->Loop->T->A1->(Bool->A1->Prop)->Prop} {Af:Nat->Loop->A1->Prop} {N bm:Nat} {mc:List AC->Prop} {X0:List (Nat×List AC)} {xs:List T}
 {C:List AC} {Rg0 Lb:List (Nat×List AC)} (H:aK D G w0 w (Rg0++((bm,C)::Lb))) (hm0:mc C) (It:ItJ P gm args W N bm mc X0 xs) (hX: ∀x∈X0,x∈Lb) (hN:xs.length<=N) (y:List T->List (Nat×List AC)->Prop) (h0:y [] Rg0)
 (yD: ∀b x a Z r l rec m (R:Bool->A1->Prop),b.length<N->y b a->yk (r::D) G w0 m (a++Z) l rec->(∀E w',y (b++[x]) E->yk (r::D) G w0 w' (E++Z) l rec->Ob l m w'->R true w')->Rd l rec x m R)
 (haf: ∀r rec F l' a,mc l'->y xs a->yk (r::D) G w0 F (a++((bm,l')::Lb)) (r+1) rec->Af r rec F):An P gm args ps w W Rd Af:=by
 intro w1 h1 rec _ _ uN Yg pA;have H1:=H.ext h1;have sz:(w1.alloc (.deferred (some []))).heap.size=w1.heap.size+1:=lK _ _;have AF:rec={rec with state:= .ready,pending:= .none}:=by rw[<-uN, <-Yg]
 have iF:w0.heap.size<=w1.heap.size:=H1.fr.size;have hW:yk (w1.heap.size::D) G w0 ((w1.alloc (.deferred (some []))).alloc (.loop rec)) (Rg0++((bm,C)::Lb)) (w1.heap.size+1) rec:=by
  refine⟨by omega,?_,?_⟩
  ·have A:=(H1.rW (.deferred (some []))).rW (.loop rec);refine⟨A.fr,A.dp,A.own,A.nd,λr d=>?_⟩;rcases B4.1 d with rfl|d
   ·exact⟨iF,(Ext.alloc _ _).obj (fG w1 _)⟩
   ·exact A.pZ r d
  ·have:=fG (w1.alloc (.deferred (some []))) (.loop rec);rw[sz] at this;unfold cX;rw[this, <-AF]
 generalize hR:w1.heap.size=rr at*
 let J:List T->List (Nat×List AC)->List (Nat×AY)->A1->Prop:=λb X O w'=> ∃l' a Y,mc l'/\y b a/\yk (rr::D) G w0 w' (a++((bm,l')::(Y++Lb))) (rr+1) rec/\(∀x∈X,x∈Y++Lb)/\(∀x∈O,w'.heap[x.1]? =some x.2/\NC x.2/\w0.heap.size<=x.1/\x.1≠rr+1/\x.1∉rr::D)/\(O.map (·.1)).Nodup
 have K:JK bm mc J:=by
  refine⟨?_,?_,?_,?_,?_,?_,?_,?_⟩
  ·rintro b X O i m I q ⟨l',a,Y,hm,hg,⟨h1,c,n⟩,hx,f,g⟩ M hb hl hy hyn;have s:(bm,l')∈a++((bm,l')::(Y++Lb)):=by simp
   have dA: ∀x∈a++(Y++Lb),bN m x.1 x.2/\x.1<i.heap.size:=λx hx=>by
    have uO:x∈a++((bm,l')::(Y++Lb)):=by
     rcases G1.1 hx with h|h
     ·exact DA _ h
     ·exact DO _ (Bf _ h)
    have hk:=c.dp x uO;refine⟨M.dp ?_ hk,hk.lt⟩;intro hc;rw[DK] at hc;have t:=c.nd;have p:((bm,l')::(a++(Y++Lb))).Perm (a++((bm,l')::(Y++Lb))):=B3.symm;have u:=((p.map (·.1)).nodup_iff).2 t;rw[CK,Bx] at u;exact u.1 (AM.2 ⟨x,hx,hc⟩)
   refine⟨I,a,q++Y,hl,hg,⟨h1,?_,?_⟩,λx j=>?_,λx j=>?_,g⟩
   ·have t:=c.nd;have p:((bm,l')::(a++(Y++Lb))).Perm (a++((bm,l')::(Y++Lb))):=B3.symm;have u:=((p.map (·.1)).nodup_iff).2 t;have sW:((bm,I)::(q++(a++(Y++Lb)))).Perm (a++((bm,I)::(q++Y++Lb))):=by
     refine List.Perm.trans (DD _ ?_) B3.symm;rw[F5, <-F5 q a, <-F5 a q];exact List.perm_append_comm.append_right _
    refine aK.perm (L:=(bm,I)::(q++(a++(Y++Lb)))) ?_ sW.symm;refine c.frame M (λx hx=>?_) (λr d hx=>?_) (λx hx=>?_) (λx hx=>?_) ?_
    ·rw[DK.1 hx];exact c.own (bm,l') s
    ·rw[DK] at hx;exact aK.dk (c.dp (bm,l') s) (c.pZ r d).2 (λ_ _ _ hc=>by cases hc) hx.symm
    ·rcases B4.1 hx with rfl|hx
     ·exact hb
     ·rcases G1.1 hx with hx|hx
      ·exact(hy x hx).2
      ·exact(dA x hx).1
    ·rcases B4.1 hx with rfl|hx
     ·exact c.own (bm,l') s
     ·rcases G1.1 hx with hx|hx
      ·exact .inl (DJ c.fr.size (hy x hx).1)
      ·refine c.own x ?_;rcases G1.1 hx with h|h
       ·exact DA _ h
       ·exact DO _ (Bf _ h)
    ·rw[CK,Bx] at u;rw[CK,F7,Bx,Gv];have fresh: ∀x∈q, ∀z,z<i.heap.size->x.1≠z:=λx hx z hz e=>by
      have:=(hy x hx).1;omega
     refine⟨λhm=>?_,hyn,u.2,λx hx z hz e=>?_⟩
     ·rcases G1.1 hm with hm|hm
      ·obtain⟨x,hx,e⟩:=AM.1 hm;exact fresh x hx bm (c.dp (bm,l') s).lt e
      ·exact u.1 hm
     ·obtain⟨x1,oC,e1⟩:=AM.1 hx;obtain⟨z1,Xg,e2⟩:=AM.1 hz;exact fresh x1 oC z1.1 (dA z1 Xg).2 (by rw[e1,e2,e])
   ·refine n.same (M.block _ n.lt (λhc=>?_));rw[DK] at hc;exact aK.dk (c.dp (bm,l') s) n (λ_ _ _ hc=>by cases hc) hc.symm
   grind
   ·obtain⟨o1,k,B⟩:=f x j;refine⟨?_,k,B⟩;rw[M.block x.1 (DV.1 o1).1 (λhc=>?_)]
    ·exact o1
    ·rw[DK] at hc;exact aK.dk (c.dp (bm,l') s) o1 k hc.symm
  ·rintro b X O i ⟨l',a,Y,hm,hg,d,hx,f,g⟩;exact⟨l',hm,d.2.1.dp (bm,l') (by simp)⟩
  ·rintro b X O i x ⟨l',a,Y,hm,hg,d,hx,f,g⟩ j;have p:((bm,l')::(a++(Y++Lb))).Perm (a++((bm,l')::(Y++Lb))):=B3.symm;have c:=d.2.1.perm p;have Q:x∈a++(Y++Lb):=DO _ (hx x j);refine⟨λe=>?_,c.dp x (Bf _ Q)⟩;have t:=c.nd;rw[CK,Bx] at t;exact t.1 (AM.2 ⟨x,Q,e⟩)
  ·rintro b X O i r o ⟨l',a,Y,hm,hg,d,hx,f,g⟩ Q;exact(f (r,o) Q).1
  ·rintro b X O i o ⟨l',a,Y,hm,hg,⟨h1,c,n⟩,hx,f,g⟩ X_;have S:=Ext.alloc i o;refine⟨l',a,Y,hm,hg,⟨h1,c.rW o,n.ext S⟩,hx,λx j=>?_,?_⟩
   ·rcases B4.1 j with rfl|j
    ·refine⟨fG i o,X_,c.fr.size,λe=>?_,λhc=>?_⟩
     ·have:=n.lt;simp only at e;omega
     ·have:=(DV.1 (c.pZ _ hc).2).1;simp only at this;omega
    ·obtain⟨o1,k⟩:=f x j;exact⟨S.obj o1,k⟩
   ·rw[CK,Bx];refine⟨λhc=>?_,g⟩;obtain⟨x,j,e⟩:=AM.1 hc;have:=(DV.1 (f x j).1).1;simp only at e;omega
  ·rintro b X O i r o o' ⟨l',a,Y,hm,hg,⟨h1,c,n⟩,hx,f,g⟩ X_;obtain⟨o1,k,B,U,o5⟩:=f (r,o) DB;rw[CK,Bx] at g;refine⟨l',a,Y,hm,hg,⟨h1,c.putObj B o1 k o5,?_⟩,hx,λx j=>?_,?_⟩
   ·unfold cX;rw[fO (λe=>U e.symm)];exact n
   ·grind[j8,Bf,fO]
   ·rw[CK,Bx];exact g
  ·rintro b X O X' O' i ⟨l',a,Y,hm,hg,d,hx,f,g⟩ hs V;exact⟨l',a,Y,hm,hg,d,λx h=>hx x (hs x h),λx h=>f x (V.subset h),(V.map _).nodup g⟩
  ·rintro b X O O' i ⟨l',a,Y,hm,hg,d,hx,f,g⟩ p;exact⟨l',a,Y,hm,hg,d,hx,λx h=>f x (p.subset h),(p.map _).nodup_iff.2 g⟩
 have Y:Yd P (rr+1) W N J:=by
  rintro b x X O m R hb ⟨l',a,Y,hm,hg,d,hx,f,g⟩ hR;refine pA x m R (yD b x a _ rr (rr+1) rec m R hb hg d λE w' uW TO V=>hR w' ⟨l',E,Y,hm,uW,TO,hx,λx h=>?_,g⟩);obtain⟨o1,k,B,U,o5⟩:=f x h;exact⟨V _ _ U k o1,k,B,U,o5⟩
 refine Calls.mono (It (rr+1) J K Y [] Lb [] _ (by simpa using hN) hX ⟨C,Rg0,[],hm0,h0,hW,λx h=>h,λx h=>(by cases h),FP⟩) ?_;rintro e F ⟨v,S,l',a,Y,hm,hg,d,hx,f,g⟩;refine⟨v,S,haf rr rec F l' a hm hg ⟨d.1,d.2.1.sub ?_,d.2.2⟩⟩;exact List.Sublist.append (S0 _) (S1 _ (O2 _ _))
end
end Go.RX
namespace Go.Proofs.YtlcenllcmeebhaaGreat
set_option maxRecDepth 100000
open Go.RX
def dv (e:El) (s:Option A2×Nat×Nat) (xs:List e.T) (Ls:List (Nat×List AC)):Prop:=
 s.2.1=xs.length/\xs.length<=s.2.2/\((s.1=none/\s.2.2=0/\Ls=[])\/ ∃bs rest,s.1=some ⟨bs,0,none⟩/\Ls=[(bs,flat e xs++rest)]/\s.2.2*aF e<=(flat e xs++rest).length)
theorem dv.nil (e:El):dv e (none,0,0) [] []:=⟨rfl,DQ _,.inl ⟨rfl,rfl,rfl⟩⟩
section
variable {D G:List Nat} {w0 w w1:A1} {L L0 Ls:List (Nat×List AC)} {e:El} {s:Option A2×Nat×Nat} {xs:List e.T}
theorem dv.sl (h:dv e s xs Ls) (H:aK D G w0 w L) (b: ∀x∈Ls,x∈L):Sl w e s.1 xs:=by
 obtain⟨h1,d,⟨a1,a,c⟩|⟨bs,rest,a1,a,c⟩⟩:=h
 ·have:xs=[]:=H4 (by omega);subst this;intro i x hx;simp at hx
 ·rw[a1];refine Sl.jK (H.dp _ (b _ (by rw[a];exact DK.2 rfl))) ?_;rw[In (by rw[aG];exact DQ _),J3 (by rw[aG];exact DQ _)]
theorem dv.oQ (h:dv e s xs Ls) (H:aK D G w0 w L) (b: ∀x∈Ls,x∈L):oQ w s.1 (s.2.1*aF e) (flat e xs):=by
 obtain⟨h1,d,⟨a1,a,c⟩|⟨bs,rest,a1,a,c⟩⟩:=h
 ·have:xs=[]:=H4 (by omega);subst this;rw[a1];rfl
 ·rw[a1];refine bN.oQ (vs:=flat e xs) (H.dp _ (b _ (by rw[a];exact DK.2 rfl))) (by rw[aG,h1]) λi hi=>?_;rw[CL,Gu (by rw[aG, <-h1];exact hi)]
theorem aK.Uy (H:aK D G w0 w (Ls++L0)) (hs:dv e s xs Ls) (p:im e=true) {q:Option A2×Nat×Nat} {ys:List e.T} (a:q.2.1=ys.length) (r:Go.RX.oQ w q.1 (q.2.1*aF e) (flat e ys))
 {t:F4} {size bytes:Nat} {z:Array AC} (u:size=aF e) (v:z.size=aF e) (hb:(xs.length+ys.length)*bytes<=140737488355328) {R:Option A2×Nat×Nat->A1->Prop}
 (k: ∀s' l w',dv e s' (xs++ys) l->aK D G w0 w' (l++L0)->R s' w'):mH w t size bytes z s q R:=by
 subst u;have y:=hs.oQ H (λx hx=>DA _ hx);obtain⟨h1,I,A⟩:=hs;have g:=aG e xs;have B:=aG e ys;refine⟨flat e xs,flat e ys,y,r,λb=>?_,λb=>⟨growslice_fits b (by rw[h1,a];exact hb),λc hc=>?_⟩⟩
 ·rcases A with ⟨a1,d,f⟩|⟨bs,rest,a1,d,f⟩
  ·rw[d] at b;have C:ys=[]:=H4 (by omega);have hx:xs=[]:=H4 (by omega);subst C;subst hx;subst f;refine⟨.inl rfl,?_⟩;rw[a1];exact k _ [] _ ⟨by rw[h1,a];rfl,GO _,.inl ⟨rfl,d,rfl⟩⟩ H
  ·subst d;have E:s.1.map (·.add (s.2.1*aF e))=some ⟨bs,xs.length*aF e,none⟩:=by rw[a1,h1];simp[OD]
   rw[E];have h:xs.length*aF e+(flat e ys).length<=(flat e xs++rest).length:=by
    rw[B, <-Kq];exact DJ (Gc _ (by rw[<-h1, <-a];exact b)) f
   refine⟨.inr ⟨(H.get (i:=0) rfl).st h,jR e ys p⟩,?_⟩;have m:=H.put 0 (o:=xs.length*aF e) rfl (flat e ys) h;have j:(flat e xs++rest).take (xs.length*aF e)=flat e xs:=List.take_left' g;have F:(flat e xs++rest).drop (xs.length*aF e+(flat e ys).length)=rest.drop (flat e ys).length:=by rw[<-g,N4]
   rw[j,F, <-F5, <-dR] at m;refine k (s.1,s.2.1+q.2.1,s.2.2) [(bs,flat e (xs++ys)++rest.drop (flat e ys).length)] _ ⟨by rw[h1,a,D8],by rw[D8, <-h1, <-a];exact b,.inr ⟨bs, _,a1,rfl,?_⟩⟩ m;refine DJ f ?_;rw[dR];simp only[D8,GD];simp only[D8,g] at h;omega
 ·have n:=(H.ext (Ext.drew w)).alloc (flat e xs++flat e ys++(Gj z (c - (s.2.1+q.2.1))).toList) t;have j:(LL (flat e xs)++LL (flat e ys)++Gj z (c - (s.2.1+q.2.1)))=⟨flat e xs++flat e ys++(Gj z (c - (s.2.1+q.2.1))).toList⟩:=by
   apply Kv;simp
  rw[j];rw[<-dR] at n ⊢;refine k _ [(w.heap.size,flat e (xs++ys)++(Gj z (c - (s.2.1+q.2.1))).toList)] _ ⟨by rw[h1,a,D8],by rw[D8, <-h1, <-a];exact hc,.inr ⟨_, _,rfl,rfl,?_⟩⟩ (n.sub ((O2 Ls L0).cons_cons _));simp only[D8,aG,Gj,Array.length_toList,Array.size_map,Array.size_range,v];rw[<-Kq];exact Gc _ (by omega)
theorem dv.st {i:Nat} (h:dv e s xs Ls) (H:aK D G w0 w (Ls++L0)) (hi:i<xs.length) (y:e.T) {vs:List AC} (hv:vs=cellsOf e y) (d:im e=true) {K:A1->Prop}
 (k: ∀b w1,dv e s (xs.set i y) b->aK D G w0 w1 (b++L0)->K w1):aC w (ad s.1 (i*aF e)) vs K:=by
 obtain⟨h1,f,⟨a1,c,a⟩|⟨bs,rest,a1,c,a⟩⟩:=h
 ·omega
 ·subst c;rw[a1];refine aC.flat 0 H y rfl hv d hi λw1 g=>k [(bs,flat e (xs.set i y)++rest)] w1 ⟨by rw[Jc];exact h1,by rw[Jc];exact f,.inr ⟨bs,rest,a1,rfl,?_⟩⟩ g;rw[D8,aG] at a ⊢;rw[Jc];exact a
theorem aj.kM (H:aK D G w0 w L) {b n:Nat} {l:List AC} (a:(b,l)∈L) {g:Option Bool} {el:El} {K:el.T->Prop} {x:el.T} (hv:k9 l n el=some x) (k:K x):aj w g (ad (af b) n) el K:=by
 obtain⟨j,c⟩:=GH a;exact aj.cA j H c (by rw[CL];exact hv) k
end
end Go.Proofs.YtlcenllcmeebhaaGreat
namespace Go.Proofs.YtlcenllcmeebhaaGreat.Mu
set_option maxRecDepth 100000
open Go.RX
abbrev sLn:List Sc:=[.int .i64,.int .i64,.int .i64,.int .i64]
abbrev ku:El:= .agg sLn
noncomputable def U0:dM AB:={C0 with quiet:=[140,150,204,149,148,106,114,237]}
noncomputable def U1:dM AB:={U0 with quiet:=236::116::U0.quiet}
theorem K9 (t p f r:Int) (w:A1) (j:Bool->A1->Prop):(aJ U0 (λ_=>[]) 204 [.agg ⟨[aa t,aa p,aa f,aa r]⟩] w j)=(
 aM w ⟨[aa t,aa p,aa f,aa r]⟩ 96 λb d=>true=true/\aW d (ad (af b) 0) λx=>(decide (x>=1)=true->true=true)/\aj d (some (decide (x>=1))) (ad (af b) 0) aV λ(a:Int)=>((decide (x>=1)&&decide (a<=16))=true->true=true)/\aj d (some (decide (x>=1)&&decide (a<=16))) (ad (af b) 1) aV λ(c:Int)=>((decide (x>=1)&&decide (a<=16)&&decide (c>=0))=true->true=true)/\aj d (some (decide (x>=1)&&decide (a<=16)&&decide (c>=0))) (ad (af b) 1) aV λ(e:Int)=>((decide
 (x>=1)&&decide (a<=16)&&decide (c>=0)&&decide (e<65536))=true->true=true)/\aj d (some (decide (x>=1)&&decide (a<=16)&&decide (c>=0)&&decide (e<65536))) (ad (af b) 2) aV λ(g:Int)=>((decide (x>=1)&&decide (a<=16)&&decide (c>=0)&&decide (e<65536)&&decide (g>=0))=true->true=true)/\aj d (some (decide (x>=1)&&decide (a<=16)&&decide (c>=0)&&decide (e<65536)&&decide (g>=0))) (ad (af b) 2) aV λ(h:Int)=>((decide (x>=1)&&decide (a<=16)&&decide (c>=0)&&decide (e<
 65536)&&decide (g>=0)&&decide (h<4096))=true->true=true)/\aj d (some (decide (x>=1)&&decide (a<=16)&&decide (c>=0)&&decide (e<65536)&&decide (g>=0)&&decide (h<4096))) (ad (af b) 3) aV λ(i:Int)=>((decide (x>=1)&&decide (a<=16)&&decide (c>=0)&&decide (e<65536)&&decide (g>=0)&&decide (h<4096)&&decide (i>=1))=true->true=true)/\aj d (some (decide (x>=1)&&decide (a<=16)&&decide (c>=0)&&decide (e<65536)&&decide (g>=0)&&decide (h<4096)&&decide (i>=1))) (ad (af b)
 3) aV λ(k:Int)=>au d (j (decide (x>=1)&&decide (a<=16)&&decide (c>=0)&&decide (e<65536)&&decide (g>=0)&&decide (h<4096)&&decide (i>=1)&&decide (k<=7)))):=by kernel_rfl
theorem ZT (t p f r a b:Int) (w:A1) (e:Bool->A1->Prop):(aJ U0 (λ_=>[]) 150 [.agg ⟨[aa t,aa p,aa f,aa r]⟩,aa a,aa b] w e)=(
 aM w ⟨[aa t,aa p,aa f,aa r]⟩ 96 λd c=>aj c none (af d) dV λ(x:Int×Int×Int×Int×Unit)=>true=true/\aW c (ad (af d) 2) λg=>true=true/\aW c (ad (af d) 3) λh=>au c λw1=>e (x.1==a&&(x.2.1==b&&(x.2.2.1==g&&(x.2.2.2.1==h&&true)))) w1):=by kernel_rfl
theorem K_ (p:Option A2) (w:A1) (a:Bool->A1->Prop):(aJ U0 (λ_=>[]) 140 [ag p] w a)=(
 ((!p.isNone)=true->p.isSome=true)/\((!p.isNone)=true->p.isSome=true)/\aj w (some !p.isNone) (ad p 1) aV λ(x:Int)=>au w (a (!p.isNone&&decide (x>0)))):=by kernel_rfl
theorem UZ (p:Option A2) (i:Int) (w:A1) (c:Unit->A1->Prop):(aJ U0 (λ_=>[]) 196 [ag p,aa i] w c)=(
 fj p 0 w λx=>(0<=(↑0:Int)/\(↑0:Int)<=i/\i<=i/\i<=(↑x.2.2:Int))/\fj p 0 w λa=>(0<=aH .i64 i 1/\aH .i64 i 1<=(↑a.2.1:Int)/\(↑a.2.1:Int)<=(↑a.2.2:Int)/\(↑a.2.2:Int)<=(↑a.2.2:Int))/\ ∀w1,Ext w w1->mH w1 96 4 32 ⟨[aa 0,aa 0,aa 0,aa 0]⟩ (GG (λ(h:i.toNat=(↑0:Int).toNat->False)=>ad x.1 0) (λ(h:i.toNat=(↑0:Int).toNat)=>x.1) (instDecidableEqNat i.toNat 0),i.toNat - 0,i.toNat - 0) (GG (λ(h:(↑a.2.2:Int).toNat=(aH .i64 i 1).toNat->False)=>ad
 a.1 ((aH .i64 i 1).toNat*4)) (λ(h:(↑a.2.2:Int).toNat=(aH .i64 i 1).toNat)=>a.1) (instDecidableEqNat (↑a.2.2:Int).toNat (aH .i64 i 1).toNat),(↑a.2.1:Int).toNat - (aH .i64 i 1).toNat,(↑a.2.2:Int).toNat - (aH .i64 i 1).toNat) λ(r:Option A2×Nat×Nat) b=>p.isSome=true/\p.isSome=true/\aC b (ad p 0) [.slice r.1 r.2.1 r.2.2] λb=>au b (c ())):=by kernel_rfl
theorem Hx (t p f r:Int) (c d:Option A2) (w:A1) (e:Bool->A1->Prop):(aJ U0 (λ_=>[]) 149 [.agg ⟨[aa t,aa p,aa f,aa r]⟩,ag c,ag d] w e)=(
 aM w ⟨[aa t,aa p,aa f,aa r]⟩ 96 λb a=>aj a none (af b) dV λ(x:Int×Int×Int×Int×Unit)=>aW a c λh=>aW a d λi=> ∃g,ae AB 150 [.agg ⟨[aa x.1,aa x.2.1,aa x.2.2.1,aa x.2.2.2.1]⟩,aa h,aa i] a (.bool g)/\au a (e g)):=by kernel_rfl
theorem La (t p f r:Int) (c:Option A2) (w:A1) (d:Bool->A1->Prop):(aJ U0 (λ_=>[]) 148 [.agg ⟨[aa t,aa p,aa f,aa r]⟩,ag c] w d)=(
 aM w ⟨[aa t,aa p,aa f,aa r]⟩ 96 λb a=>true=true/\aW a (ad (af b) 0) λx=>aW a c λe=>au a (d (x==e))):=by kernel_rfl
def pU:Nat->a6:=(λ|5=>[(5,Go.RX.El.one (Go.RX.Sc.int Ax)),(6,Go.RX.El.one (Go.RX.Sc.int Ax))]| _=>[])
theorem Hy (p c d:Option A2) (w:A1) (e:Int->A1->Prop):(aJ U0 pU 147 [ag p,.func (.func 149) #[] #[ag c,ag d]] w e)=(
 ∃x,ae AB 140 [ag p] w (.bool x)/\aI (!x) (au w (e 0)) (fj p 0 w λx=> ∃(I:Nat->Int×Int×Unit->A1->Prop),(∃n, ∀w1,Ext w w1->I n (0,aX .i64 (↑x.2.1:Int) 1,()) w1)/\ ∀(n:Nat) (s:Int×Int×Unit) (w1:A1),I n s w1->aI (decide (s.2.1>=0)) (fj p 0 w1 λx=>(x.1.isSome=true/\0<=s.2.1/\s.2.1<(↑x.2.1:Int))/\aj w1 none (ad x.1 (Ay s.2.1*4)) dV λ(x:Int×Int×Int×Int×Unit)=> ∃f,ae AB 149 [.agg ⟨[aa x.1,aa x.2.1,aa x.2.2.1,aa x.2.2.2.1]⟩,.pointer
 c,ag d] w1 (.bool f)/\aI f (aA AB 196 (.bu []) [ag p,aa s.2.1] w1 λx g=> ∀a,Ext g a-> ∃(b:Nat),b<n/\I b (aH .i64 s.1 1,aX .i64 s.2.1 1,()) a) (∀a,Ext w1 a-> ∃(b:Nat),b<n/\I b (s.1,aX .i64 s.2.1 1,()) a)) (au w1 (e s.1)))):=by kernel_rfl
def pV:Nat->a6:=(λ|5=>[(5,Go.RX.El.one (Go.RX.Sc.int Ax)),(6,Go.RX.El.one (Go.RX.Sc.int Ax))]| _=>[])
theorem Hz (p c:Option A2) (w:A1) (d:Int->A1->Prop):(aJ U0 pV 147 [ag p,.func (.func 148) #[] #[ag c]] w d)=(
 ∃x,ae AB 140 [ag p] w (.bool x)/\aI (!x) (au w (d 0)) (fj p 0 w λx=> ∃(I:Nat->Int×Int×Unit->A1->Prop),(∃n, ∀w1,Ext w w1->I n (0,aX .i64 (↑x.2.1:Int) 1,()) w1)/\ ∀(n:Nat) (s:Int×Int×Unit) (w1:A1),I n s w1->aI (decide (s.2.1>=0)) (fj p 0 w1 λx=>(x.1.isSome=true/\0<=s.2.1/\s.2.1<(↑x.2.1:Int))/\aj w1 none (ad x.1 (Ay s.2.1*4)) dV λ(x:Int×Int×Int×Int×Unit)=> ∃e,ae AB 148 [.agg ⟨[aa x.1,aa x.2.1,aa x.2.2.1,aa x.2.2.2.1]⟩,.pointer
 c] w1 (.bool e)/\aI e (aA AB 196 (.bu []) [ag p,aa s.2.1] w1 λx f=> ∀a,Ext f a-> ∃(b:Nat),b<n/\I b (aH .i64 s.1 1,aX .i64 s.2.1 1,()) a) (∀a,Ext w1 a-> ∃(b:Nat),b<n/\I b (s.1,aX .i64 s.2.1 1,()) a)) (au w1 (d s.1)))):=by kernel_rfl
theorem Le (p:Option A2) (t g:Int) (w:A1) (c:Bool->A1->Prop):(aJ U0 (λ_=>[]) 108 [ag p,aa t,aa g] w c)=(
 aM w ⟨[aa t]⟩ 3 λb a=>aM a ⟨[aa g]⟩ 3 λd a=>aA AB 147 (.el aV) [ag p,.func (.func 149) ⟨[]⟩ {toList:=[ag (af b),ag (af d)]}] a λ(x:Int) a=>au a (c (decide (x>0)))):=by kernel_rfl
theorem HA (p:Option A2) (t:Int) (w:A1) (c:Int->A1->Prop):(aJ U0 (λ_=>[]) 107 [ag p,aa t] w c)=(
 aM w ⟨[aa t]⟩ 3 λb a=>aA AB 147 (.el aV) [ag p,.func (.func 148) ⟨[]⟩ {toList:=[ag (af b)]}] a λ(x:Int) a=>au a (c x)):=by kernel_rfl
abbrev wi (p:Option A2) (e:Int->A1->Prop) (d:A1) (f:Nat):Prop:=
 fj p 0 d λx=>aj d none (af f) dV λ(c:Int×Int×Int×Int×Unit)=>aM d ⟨[aa c.1,aa c.2.1,aa c.2.2.1,aa c.2.2.2.1]⟩ 96 λb a=> ∀w1,Ext a w1->mH w1 96 4 32 ⟨[aa 0,aa 0,aa 0,aa 0]⟩ (x.1,x.2.1,x.2.2) (some ⟨b,0,none⟩,1,1) λ(r:Option A2×Nat×Nat) a=>p.isSome=true/\p.isSome=true/\aC a (ad p 0) [.slice r.1 r.2.1 r.2.2] λa=>au a (e 0)
theorem Qz (p:Option A2) (t g f r:Int) (w:A1) (c:Int->A1->Prop):(aJ U0 (λ_=>[]) 159 [ag p,.agg ⟨[aa t,aa g,aa f,aa r]⟩] w c)=(
 aM w ⟨[aa t,aa g,aa f,aa r]⟩ 96 λb a=> ∃x,ae AB 140 [ag p] a (.bool x)/\aI (!x) (au a (c 10)) (aj a none (af b) dV λ(x:Int×Int×Int×Int×Unit)=> ∃d,ae AB 204 [.agg ⟨[aa x.1,aa x.2.1,aa x.2.2.1,aa x.2.2.2.1]⟩] a (.bool d)/\aI (!d) (au a (c 1)) (true=true/\aW a (ad (af b) 0) λx=>true=true/\aW a (ad (af b) 1) λe=>aA AB 108 (.el rJ) [ag p,aa x,aa e] a λx a=>((!x)=true->p.isSome=true)/\
 ((!x)=true->p.isSome=true)/\aj a (some !x) (ad p 0) eH λh=>((!x)=true->p.isSome=true)/\((!x)=true->p.isSome=true)/\aj a (some !x) (ad p 1) aV λ(i:Int)=>aI (!x&&(↑h.2.1:Int)==i) (aA AB 196 (.bu []) [ag p,aa 0] a λx a=>wi p c a b) (wi p c a b)))):=by kernel_rfl
def uo:Nat->a6:=(λ|4=>[(20,Go.RX.El.one (Go.RX.Sc.int Ax))]| _=>[])
theorem QA (p:Option A2) (t g k:Int) (w:A1) (c:Int×Int×Unit->A1->Prop):(aJ U0 uo 201 [ag p,aa t,aa g,aa k] w c)=(
 ∃x,ae AB 140 [ag p] w (.bool x)/\aI (!x) (au w (c (0,10,()))) (fj p 0 w λx=> ∃(I:Nat->Int×Unit->A1->Prop),(∃n, ∀w1,Ext w w1->I n (0,()) w1)/\ ∀(n:Nat) (s:Int×Unit) (w1:A1),I n s w1->aI (decide (s.1<(↑x.2.1:Int))) ((x.1.isSome=true/\0<=s.1/\s.1<(↑x.2.1:Int))/\aj w1 none (ad x.1 (Ay s.1*4)) dV λ(x:Int×Int×Int×Int×Unit)=>aM w1 ⟨[aa 0,aa 0,aa 0,aa 0]⟩ 96 λb a=>aC a (af b) [aa x.1,aa x.2.1,aa x.2.2.1,.int .i64
 x.2.2.2.1] λa=>aj a none (af b) dV λ(x:Int×Int×Int×Int×Unit)=> ∃d,ae AB 150 [.agg ⟨[aa x.1,aa x.2.1,aa x.2.2.1,aa x.2.2.2.1]⟩,aa t,aa g] a (.bool d)/\aI (!d) (∀e,Ext a e-> ∃(f:Nat),f<n/\I f (aH .i64 s.1 1,()) e) (((!(decide (k<0)||decide (k>7)))=true->true=true)/\aj a (some !(decide (k<0)||decide (k>7))) (ad (af b) 3) aV λ(x:Int)=>aI (decide (k<0)||decide (k>7)||gN .i64 k x != 0) (au a (c (0,7,()))) (true=true/\
 aW a (ad (af b) 2) λx=>au a (c (x,0,()))))) (au w1 (c (0,4,()))))):=by kernel_rfl
theorem U7 (n:Int) (w:A1) (a:Option A2×Int×Unit->A1->Prop):(aJ U0 (λ_=>[]) 86 [aa n] w a)=(
 aI (decide (n<1)||decide (n>64)) (au w (a (none,1,()))) (aM w ⟨[.slice none 0 0,aa n]⟩ 227 λb c=>au c (a (some ⟨b,0,none⟩,0,())))):=by kernel_rfl
theorem Lg (p:Option A2) (w:A1) (a:Option A2×Nat×Nat->A1->Prop):(aJ U0 (λ_=>[]) 83 [ag p] w a)=(
 ∃x,ae AB 140 [ag p] w (.bool x)/\aI (!x) (au w (a (none,0,0))) (fj p 0 w λx=> ∀w1,Ext w w1->mH w1 96 4 32 ⟨[aa 0,aa 0,aa 0,aa 0]⟩ (none,0,0) (x.1,x.2.1,x.2.2) λ(r:Option A2×Nat×Nat) b=>au b (a (r.1,r.2.1,r.2.2)))):=by kernel_rfl
theorem U8 (p:Option A2) (i:Int) (w:A1) (a:Bool->A1->Prop):(aJ U0 (λ_=>[]) 106 [ag p,aa i] w a)=(
 ((!p.isNone&&decide (i>=0))=true->p.isSome=true)/\((!p.isNone&&decide (i>=0))=true->p.isSome=true)/\aj w (some (!p.isNone&&decide (i>=0))) (ad p 0) eH λx=>au w λw1=>a (!p.isNone&&decide (i>=0)&&decide (i<(↑x.2.1:Int))) w1):=by kernel_rfl
theorem HD (p:Option A2) (i:Int) (w:A1) (b:Option A2×Nat×Nat->A1->Prop):(aJ U0 (λ_=>[]) 202 [ag p,aa i] w b)=(
 fj p 0 w λx=>(0<=(↑0:Int)/\(↑0:Int)<=i/\i<=(↑x.2.2:Int)/\(↑x.2.2:Int)<=(↑x.2.2:Int))/\ ∀w1,Ext w w1->mH w1 202 1 8 ⟨[H7 none]⟩ (none,0,0) (GG (λ(h:(↑x.2.2:Int).toNat=(↑0:Int).toNat->False)=>ad x.1 0) (λ(h:(↑x.2.2:Int).toNat=(↑0:Int).toNat)=>x.1) (instDecidableEqNat (↑x.2.2:Int).toNat 0),i.toNat - 0,(↑x.2.2:Int).toNat - 0) λ(r:Option A2×Nat×Nat) a=>fj p 0 a λx=>(0<=aH .i64 i 1/\aH .i64 i 1<=(↑x.2.1:Int)/\(↑x.2.1:Int)<=(↑x.2.2:Int)/\(↑x.2.2:Int)<=(↑x.2.2:Int))/\ ∀w1,
 Ext a w1->mH w1 202 1 8 ⟨[H7 none]⟩ (r.1,r.2.1,r.2.2) (GG (λ(h:(↑x.2.2:Int).toNat=(aH .i64 i 1).toNat->False)=>ad x.1 ((aH .i64 i 1).toNat*1)) (λ(h:(↑x.2.2:Int).toNat=(aH .i64 i 1).toNat)=>x.1) (instDecidableEqNat (↑x.2.2:Int).toNat (aH .i64 i 1).toNat),(↑x.2.1:Int).toNat - (aH .i64 i 1).toNat,(↑x.2.2:Int).toNat - (aH .i64 i 1).toNat) λ(r:Option A2×Nat×Nat) a=>au a (b (r.1,r.2.1,r.2.2))):=by kernel_rfl
def wj:Nat->a6:=(λ|5=>[(14,Go.RX.El.one (Go.RX.Sc.int Ax))]| _=>[])
theorem U9 (n:Int) (w:A1) (c:Option A2×Int×Unit->A1->Prop):(aJ U0 wj 85 [aa n] w c)=(
 aI (decide (n<1)||decide (n>8)) (au w (c (none,1,()))) (aM w ⟨[.slice none 0 0,.slice none 0 0]⟩ 205 λb a=> ∃(I:Nat->Int×Unit->A1->Prop),(∃n, ∀w1,Ext a w1->I n (0,()) w1)/\ ∀(e:Nat) (s:Int×Unit) (w1:A1),I e s w1->aI (decide (s.1<n)) (true=true/\true=true/\tc w1 (ad (af b) 0) λx=> ∀d,Ext w1 d->aM (d.alloc (Obj.chan 16 ⟨[]⟩ false 0 0 false)) ⟨[H7 (some d.heap.size)]⟩ 202 λh a=> ∀w1,Ext a w1->mH w1 202 1 8 ⟨[H7 none]⟩ (x.1,x.2.1,x.2.2) (some ⟨h,0,none⟩,1,1)
 λ(r:Option A2×Nat×Nat) a=>true=true/\true=true/\aC a (ad (af b) 0) [.slice r.1 r.2.1 r.2.2] λa=> ∀f,Ext a f-> ∃(g:Nat),g<e/\I g (aH .i64 s.1 1,()) f) (au w1 (c (some ⟨b,0,none⟩,0,()))))):=by kernel_rfl
theorem QB (p:Option A2) (i:Int) (w:A1) (d:(Int×Int×Int×Unit)×Bool×Unit->A1->Prop):(bT U0 (λ_=>[]) 66 [ag p,aa i] w d)=(
 aM w ⟨[aa 0,aa 0,aa 0]⟩ 147 λb a=> ∃x,ae AB 106 [ag p,aa i] a (.bool x)/\aI (!x) (aC a (af b) [aa 0,aa 0,aa 0] λa=>au a λw1=>aj w1 none (af b) xr λ(x:Int×Int×Int×Unit)=>d ((x.1,x.2.1,x.2.2.1,()),false,()) w1) (fj p 0 a λx=>(x.1.isSome=true/\0<=i/\i<(↑x.2.1:Int))/\aj a none (ad x.1 (i.toNat*1)) (.one .chan) λx=> ∀w1,Ext a w1-> ∃(r:Nat), ∃(cap:Nat), ∃(e:List AC), ∃(s:Nat), ∃(m:Nat),x=some r/\ChO w1 r cap
 e s m/\(e=[]->aC w1 (af b) [aa 0,aa 0,aa 0] λa=>au a λw1=>aj w1 none (af b) xr λ(x:Int×Int×Int×Unit)=>d ((x.1,x.2.1,x.2.2.1,()),false,()) w1)/\ ∀v (vs:List AC),e=v::vs-> ∃(x:Int×Int×Int×Unit),v= .agg ⟨[aa x.1,aa x.2.1,aa x.2.2.1]⟩/\aM (w1.putObj r (Obj.chan cap {toList:=vs} false s (m+1) false)) ⟨[aa 0,aa 0,aa 0]⟩ 147 λf a=>aC a (af f) [aa x.1,aa x.2.1,aa x.2.2.1] λa=>fj p 1 a λx=>
 true=true/\aW a (ad (af f) 0) λc=>(x.1.isSome=true/\0<=aX .i64 c 1/\aX .i64 c 1<(↑x.2.1:Int))/\aj a none (ad x.1 ((aX .i64 c 1).toNat*1)) aV λ(g:Int)=>(x.1.isSome=true/\0<=aX .i64 c 1/\aX .i64 c 1<(↑x.2.1:Int))/\aC a (ad x.1 ((aX .i64 c 1).toNat*1)) [aa (aX .i64 g 1)] λa=>aj a none (af f) xr λ(x:Int×Int×Int×Unit)=>aC a (af b) [aa x.1,aa x.2.1,aa x.2.2.1] λa=>au a λw1=>aj w1 none (af b) xr λ(x:Int×Int×Int×Unit)=>d
 ((x.1,x.2.1,x.2.2.1,()),true,()) w1)):=by kernel_rfl
def uq:Nat->a6:=(λ|9=>[(52,Go.RX.El.one (Go.RX.Sc.int Ax))]|17=>[(78,Go.RX.El.one (Go.RX.Sc.int Ax))]| _=>[])
theorem QC (p:Option A2) (i t g:Int) (w:A1) (c:Int×Int×Unit->A1->Prop):(aJ U0 uq 157 [ag p,aa i,aa t,aa g] w c)=(
 ((!p.isNone)=true->p.isSome=true)/\((!p.isNone)=true->p.isSome=true)/\aj w (some !p.isNone) (ad p 0) eH λx=>aI (p.isNone||(↑x.2.1:Int)==0) (au w (c (0,10,()))) (∃x,ae AB 106 [ag p,aa i] w (.bool x)/\aI (!x) (au w (c (0,2,()))) (aI (decide (t<1)||decide (t>16)||decide (g< -1)||decide (g>=65536)) (au w (c (0,1,()))) (aA AB 202 (.el eH) [ag p,aa i] w λx a=> ∃(I:Nat->Int×Unit->A1->Prop),(∃n, ∀w1,Ext a w1->I n (0,()) w1)/\ ∀(n:Nat) (s
 :Int×Unit) (w1:A1),I n s w1->aI (decide (s.1<(↑x.2.1:Int))) ((x.1.isSome=true/\0<=s.1/\s.1<(↑x.2.1:Int))/\aj w1 none (ad x.1 (Ay s.1*1)) (.one .chan) λx=> ∃k,ChL w1 x k/\aI ((↑k:Int)==16) (au w1 (c (0,3,()))) (∀d,Ext w1 d-> ∃(e:Nat),e<n/\I e (aH .i64 s.1 1,()) d)) (fj p 1 w1 λf=>aM w1 ⟨[aa (↑x.2.1:Int)]⟩ 3 λb a=> ∀w1,Ext a w1->mH w1 3 1 8 ⟨[aa 0]⟩ (f.1,f.2.1,f.2.2) (some ⟨b,0,none⟩,1,1) λ(r:Option A2×Nat×Nat) a=>p.isSome=true/\p.isSome=
 true/\aC a (ad p 1) [.slice r.1 r.2.1 r.2.2] λa=>fj p 1 a λl=> ∃(I:Nat->Int×Unit->A1->Prop),(∃n, ∀w1,Ext a w1->I n (0,()) w1)/\ ∀(n:Nat) (s:Int×Unit) (w1:A1),I n s w1->aI (decide (s.1<(↑x.2.1:Int))) ((x.1.isSome=true/\0<=s.1/\s.1<(↑x.2.1:Int))/\aj w1 none (ad x.1 (Ay s.1*1)) (.one .chan) λx=> ∀h,Ext w1 h-> ∃(r:Nat), ∃(cap:Nat), ∃(j:List AC), ∃(o:Nat), ∃(m:Nat),x=some r/\ChO h r cap j o m/\j.length<cap/\ ∀d,Ext (h.putObj r (Obj.chan cap {toList:=j.append [.agg
 ⟨[aa (↑l.2.1:Int),aa t,aa g]⟩]} false (o+1) m false)) d-> ∃(e:Nat),e<n/\I e (aH .i64 s.1 1,()) d) (au w1 (c ((↑l.2.1:Int),0,())))))))):=by kernel_rfl
theorem Lh (p:Option A2) (i:Int) (w:A1) (a:Int->A1->Prop):(aJ U0 (λ_=>[]) 82 [ag p,aa i] w a)=(
 ∃x,ae AB 106 [ag p,aa i] w (.bool x)/\aI (!x) (au w (a 0)) (fj p 0 w λx=>(x.1.isSome=true/\0<=i/\i<(↑x.2.1:Int))/\aj w none (ad x.1 (i.toNat*1)) (.one .chan) λx=> ∃n,ChL w x n/\au w (a (↑n:Int)))):=by kernel_rfl
theorem QD (p:Option A2) (i:Int) (w:A1) (b:Bool->A1->Prop):(aJ U0 (λ_=>[]) 161 [ag p,aa i] w b)=(
 ((!p.isNone&&decide (i>=1))=true->p.isSome=true)/\((!p.isNone&&decide (i>=1))=true->p.isSome=true)/\aj w (some (!p.isNone&&decide (i>=1))) (ad p 1) eH λx=>((!p.isNone&&decide (i>=1)&&decide (i<=(↑x.2.1:Int)))=true->p.isSome=true)/\((!p.isNone&&decide (i>=1)&&decide (i<=(↑x.2.1:Int)))=true->p.isSome=true)/\aj w (some (!p.isNone&&decide (i>=1)&&decide (i<=(↑x.2.1:Int)))) (ad p 1) eH λa=>((!p.isNone&&decide (i>=1)&&decide (i<=(↑x.2.1:Int)))=true->a.1.isSome=true/\0<=aX .i64 i 1/\aX .i64 i 1<
 (↑a.2.1:Int))/\aj w (some (!p.isNone&&decide (i>=1)&&decide (i<=(↑x.2.1:Int)))) (ad a.1 ((aX .i64 i 1).toNat*1)) aV λ(c:Int)=>au w λw1=>b (!p.isNone&&decide (i>=1)&&decide (i<=(↑x.2.1:Int))&&c==0) w1):=by kernel_rfl
def wo:Nat->a6:=(λ|5=>[(15,Go.RX.El.one (Go.RX.Sc.int Ax))]| _=>[])
theorem Da (n:Int) (w:A1) (c:Option A2×Int×Unit->A1->Prop):(aJ U0 wo 84 [aa n] w c)=(
 aI (decide (n<1)||decide (n>8)) (au w (c (none,1,()))) (∀w1,Ext w w1->aM (w1.alloc (Obj.map ⟨[]⟩ 0)) ⟨[aa 0,.slice none 0 0,.map (some w1.heap.size)]⟩ 210 λb a=> ∃(I:Nat->Int×Unit->A1->Prop),(∃n, ∀w1,Ext a w1->I n (0,()) w1)/\ ∀(d:Nat) (s:Int×Unit) (w1:A1),I d s w1->aI (decide (s.1<n)) (true=true/\true=true/\tc w1 (ad (af b) 1) λx=>aM w1 ⟨[aa (-1)]⟩ 3 λg a=> ∀w1,Ext a w1->mH w1 3 1 8 ⟨[aa 0]⟩ (x.1,x.2.1,x.2.2) (some ⟨g,0,none⟩,1,1) λ(r:Option A2×Nat×
 Nat) a=>true=true/\true=true/\aC a (ad (af b) 1) [.slice r.1 r.2.1 r.2.2] λa=> ∀e,Ext a e-> ∃(f:Nat),f<d/\I f (aH .i64 s.1 1,()) e) (au w1 (c (some ⟨b,0,none⟩,0,()))))):=by kernel_rfl
theorem Li (p:Option A2) (w:A1) (a:Bool->A1->Prop):(aJ U0 (λ_=>[]) 114 [ag p] w a)=(
 ((!p.isNone)=true->p.isSome=true)/\((!p.isNone)=true->p.isSome=true)/\aj w (some !p.isNone) (ad p 2) OE λx=>au w (a (!p.isNone&& !x.isNone))):=by kernel_rfl
theorem U_ (p:Option A2) (w:A1) (a:Int->A1->Prop):(aJ U0 (λ_=>[]) 237 [ag p] w a)=(
 ∃x,ae AB 114 [ag p] w (.bool x)/\aI (!x) (au w (a 0)) (cN p 0 w λx=>au w (a x))):=by kernel_rfl
theorem U' (p:Option A2) (c a:Int) (w:A1) (b:Int->A1->Prop):(aJ U0 (λ_=>[]) 203 [ag p,aa c,aa a] w b)=(
 ∃x,ae AB 114 [ag p] w (.bool x)/\aI (!x) (au w (b 10)) (((!decide (c<0))=true->p.isSome=true)/\((!decide (c<0))=true->p.isSome=true)/\aj w (some !decide (c<0)) (ad p 1) eH λx=>aI (decide (c<0)||decide (c>=(↑x.2.1:Int))) (au w (b 2)) (fj p 1 w λx=>(x.1.isSome=true/\0<=c/\c<(↑x.2.1:Int))/\aW w (ad x.1 (c.toNat*1)) λx=>aI ((x== -1)==(a== -1)) (au w (b 6)) (fj p 1 w λx=>(x.1.isSome=true/\0<=c/\c<(↑x.2.1:Int))/\aC w (ad x.1 (c.toNat*1)) [aa a] λd=>au d (b 0))))):=by kernel_rfl
theorem Va (p:Option A2) (c:Int) (w:A1) (a:Int->A1->Prop):(aJ U0 (λ_=>[]) 200 [ag p,aa c] w a)=(
 ∃(x:Int),ae AB 237 [ag p] w (aa x)/\aA AB 203 (.el aV) [ag p,aa c,aa x] w λ(x:Int) b=>au b (a x)):=by kernel_rfl
theorem Lj (p:Option A2) (c:Int) (w:A1) (a:Int->A1->Prop):(aJ U0 (λ_=>[]) 158 [ag p,aa c] w a)=(
 aA AB 203 (.el aV) [ag p,aa c,aa (-1)] w λ(x:Int) b=>au b (a x)):=by kernel_rfl
theorem Vb (p:Option A2) (f:Int) (w:A1) (a:Int->A1->Prop):(aJ U0 (λ_=>[]) 162 [ag p,aa f] w a)=(
 ∃x,ae AB 114 [ag p] w (.bool x)/\aI (!x) (au w (a 10)) (aI (decide (f<0)) (au w (a 1)) (td p 2 w λx=> ∃(d:Int), ∃(b:Bool),mA w x .i64 f (aa 0) (aa d) b/\aI b (au w (a 5)) (td p 2 w λx=>cN p 0 w λe=> ∀w1,Ext w w1-> ∃(r:Nat), ∃(es:Array B2), ∃(c:Nat),x=some r/\bH w1 r es c/\ib w1 r .i64 f (aa e) es c λg=>au g (a 0))))):=by kernel_rfl
def wq:Nat->a6:=(λ|4=>[(13,Go.RX.El.one (Go.RX.Sc.int Ax))]| _=>[])
theorem Vc (p:Option A2) (w:A1) (a:Bool->A1->Prop):(aJ U0 wq 197 [ag p] w a)=(
 ∃x,ae AB 114 [ag p] w (.bool x)/\aI (!x) (au w (a false)) (fj p 1 w λx=> ∃(I:Nat->Int×Unit->A1->Prop),(∃n, ∀w1,Ext w w1->I n (0,()) w1)/\ ∀(n:Nat) (s:Int×Unit) (w1:A1),I n s w1->aI (decide (s.1<(↑x.2.1:Int))) ((x.1.isSome=true/\0<=s.1/\s.1<(↑x.2.1:Int))/\aW w1 (ad x.1 (Ay s.1*1)) λx=>((x != -1)=true->p.isSome=true)/\((x != -1)=true->p.isSome=true)/\aj w1 (some (x != -1)) (ad p 0) aV λ(d:Int)=>aI (x != -1&&x != d) (au w1 (a false)) (∀b,Ext w1 b-> ∃(c:
 Nat),c<n/\I c (aH .i64 s.1 1,()) b)) (cN p 0 w1 λx=>p.isSome=true/\p.isSome=true/\aC w1 (ad p 0) [aa (aH .i64 x 1)] λe=>au e (a true)))):=by kernel_rfl
theorem Ll (a:Int) (c:Option A2) (w:A1) (b:Bool->A1->Prop):(aJ U0 (λ_=>[]) 236 [aa a,ag c] w b)=(
 gu w c λx=>cN x 0 w λx=>au w (b (decide (aH .i64 a 2<=x)))):=by kernel_rfl
theorem Ln (a:Int) (w:A1) (b:Bool->A1->Prop):(aJ U0 (λ_=>[]) 116 [aa a] w b)=(
 au w (b true)):=by kernel_rfl
def qX:Nat->a6:=(λ|3=>[(5,Go.RX.El.one Go.RX.Sc.slice)]|8=>[(8,Go.RX.El.one (Go.RX.Sc.int Ax))]| _=>[])
theorem Lu (m:Option Nat) (c:Option A2) (w:A1) (g:Option A2×Nat×Nat->A1->Prop):(aJ U1 qX 115 [.map m,.func (.func 236) #[] #[ag c]] w g)=(
 RgP w m λb a=> ∃(I:Nat->(Option A2×Nat×Nat)×Unit->A1->Prop),(∃n, ∀w1,Ext a w1->I n ((none,0,0),()) w1)/\ ∀(n:Nat) (s:(Option A2×Nat×Nat)×Unit) (w1:A1),I n s w1->NxP w1 (af b) (λa=>au a (g (s.1.1,s.1.2.1,s.1.2.2))) λ(k v:AC) a=> ∃(x:Int), ∃(y:Int),AE a (af b) (aa x) (aa y)/\ ∃h,ae AB 236 [aa y,ag c] a (.bool h)/\aI (!h) (∀d,Ext a d-> ∃(e:Nat),e<n/\I e ((s.1.1,s.1.2.1,s.1.2.2),()) d) (aM a ⟨[aa x]⟩ 3 λb a=> ∀w1,
 Ext a w1->mH w1 3 1 8 ⟨[aa 0]⟩ (s.1.1,s.1.2.1,s.1.2.2) (some ⟨b,0,none⟩,1,1) λ(r:Option A2×Nat×Nat) a=> ∃(f:Nat->Int×Unit->A1->Prop),(∃n, ∀w1,Ext a w1->f n ((↑s.1.2.1:Int),()) w1)/\ ∀(i:Nat) (s:Int×Unit) (w1:A1),f i s w1->(decide (s.1>0)=true->r.1.isSome=true/\0<=aX .i64 s.1 1/\aX .i64 s.1 1<(↑r.2.1:Int))/\aj w1 (some (decide (s.1>0))) (ad r.1 ((aX .i64 s.1 1).toNat*1)) aV λ(j:Int)=>aI (decide (s.1>0)&&decide (j>x)) ((r.1.isSome=true/\0<=aX .i64 s.1 1/\aX
 .i64 s.1 1<(↑r.2.1:Int))/\aj w1 none (ad r.1 ((aX .i64 s.1 1).toNat*1)) aV λ(x:Int)=>(r.1.isSome=true/\0<=s.1/\s.1<(↑r.2.1:Int))/\aC w1 (ad r.1 (Ay s.1*1)) [aa x] λa=> ∀d,Ext a d-> ∃(e:Nat),e<i/\f e (aX .i64 s.1 1,()) d) ((r.1.isSome=true/\0<=s.1/\s.1<(↑r.2.1:Int))/\aC w1 (ad r.1 (Ay s.1*1)) [aa x] λa=> ∀d,Ext a d-> ∃(e:Nat),e<n/\I e ((r.1,r.2.1,r.2.2),()) d))):=by kernel_rfl
def qY:Nat->a6:=(λ|3=>[(5,Go.RX.El.one Go.RX.Sc.slice)]|8=>[(8,Go.RX.El.one (Go.RX.Sc.int Ax))]| _=>[])
theorem Lv (m:Option Nat) (w:A1) (f:Option A2×Nat×Nat->A1->Prop):(aJ U1 qY 115 [.map m,.func (.func 116) #[] #[]] w f)=(
 RgP w m λb a=> ∃(I:Nat->(Option A2×Nat×Nat)×Unit->A1->Prop),(∃n, ∀w1,Ext a w1->I n ((none,0,0),()) w1)/\ ∀(n:Nat) (s:(Option A2×Nat×Nat)×Unit) (w1:A1),I n s w1->NxP w1 (af b) (λa=>au a (f (s.1.1,s.1.2.1,s.1.2.2))) λ(k v:AC) a=> ∃(x:Int), ∃(y:Int),AE a (af b) (aa x) (aa y)/\ ∃g,ae AB 116 [aa y] a (.bool g)/\aI (!g) (∀c,Ext a c-> ∃(d:Nat),d<n/\I d ((s.1.1,s.1.2.1,s.1.2.2),()) c) (aM a ⟨[aa x]⟩ 3 λb a=> ∀w1,Ext a w1->
 mH w1 3 1 8 ⟨[aa 0]⟩ (s.1.1,s.1.2.1,s.1.2.2) (some ⟨b,0,none⟩,1,1) λ(r:Option A2×Nat×Nat) a=> ∃(e:Nat->Int×Unit->A1->Prop),(∃n, ∀w1,Ext a w1->e n ((↑s.1.2.1:Int),()) w1)/\ ∀(h:Nat) (s:Int×Unit) (w1:A1),e h s w1->(decide (s.1>0)=true->r.1.isSome=true/\0<=aX .i64 s.1 1/\aX .i64 s.1 1<(↑r.2.1:Int))/\aj w1 (some (decide (s.1>0))) (ad r.1 ((aX .i64 s.1 1).toNat*1)) aV λ(i:Int)=>aI (decide (s.1>0)&&decide (i>x)) ((r.1.isSome=true/\0<=aX .i64 s.1 1/\aX .i64 s.1 1<
 (↑r.2.1:Int))/\aj w1 none (ad r.1 ((aX .i64 s.1 1).toNat*1)) aV λ(x:Int)=>(r.1.isSome=true/\0<=s.1/\s.1<(↑r.2.1:Int))/\aC w1 (ad r.1 (Ay s.1*1)) [aa x] λa=> ∀c,Ext a c-> ∃(d:Nat),d<h/\e d (aX .i64 s.1 1,()) c) ((r.1.isSome=true/\0<=s.1/\s.1<(↑r.2.1:Int))/\aC w1 (ad r.1 (Ay s.1*1)) [aa x] λa=> ∀c,Ext a c-> ∃(d:Nat),d<n/\I d ((r.1,r.2.1,r.2.2),()) c))):=by kernel_rfl
def ur:Nat->a6:=(λ|5=>[(17,Go.RX.El.one (Go.RX.Sc.int Ax))]| _=>[])
theorem QE (p:Option A2) (w:A1) (c:Option A2×Nat×Nat->A1->Prop):(aJ U0 ur 198 [ag p] w c)=(
 aM w ⟨[ag p]⟩ 98 λb a=>gu a (af b) λx=> ∃e,ae AB 114 [ag x] a (.bool e)/\aI (!e) (au a (c (none,0,0))) (gu a (af b) λx=>td x 2 a λx=>aA AB 115 (.el eH) [.map x,.func (.func 236) ⟨[]⟩ {toList:=[ag (af b)]}] a λx a=> ∃(I:Nat->Int×Unit->A1->Prop),(∃n, ∀w1,Ext a w1->I n (0,()) w1)/\ ∀(n:Nat) (s:Int×Unit) (w1:A1),I n s w1->aI (decide (s.1<(↑x.2.1:Int))) ((x.1.isSome=true/\0<=s.1/\s.1<(↑x.2.1:Int))/\aW w1 (ad x.1 (Ay s.1*1)) λx=>
 gu w1 (af b) λi=>td i 2 w1 λj=> ∀d,Ext w1 d-> ∃(r:Nat), ∃(es:Array B2), ∃(f:Nat),j=some r/\bH d r es f/\AD d r .i64 x es f λa=> ∀g,Ext a g-> ∃(h:Nat),h<n/\I h (aH .i64 s.1 1,()) g) (au w1 (c (x.1,x.2.1,x.2.2))))):=by kernel_rfl
theorem QF (p:Option A2) (w:A1) (a:Option A2×Nat×Nat->A1->Prop):(aJ U0 (λ_=>[]) 69 [ag p] w a)=(
 ∃x,ae AB 114 [ag p] w (.bool x)/\aI (!x) (au w (a (none,0,0))) (td p 2 w λx=>aA AB 115 (.el eH) [.map x,.func (.func 116) ⟨[]⟩ ⟨[]⟩] w λx b=>au b (a (x.1,x.2.1,x.2.2)))):=by kernel_rfl
end Go.Proofs.YtlcenllcmeebhaaGreat.Mu
namespace Go.RX
set_option maxRecDepth 100000
open Go.RowKit
def nT:AY->Prop
 | .cells .. =>False
 | _=>True
theorem nT.ne {o:AY} (h:nT o): ∀a t f,o≠ .cells a t f:=λa t f e=>by subst e;exact h
structure cF (D G:List Nat) (w0 w:A1) (L:List (Nat×List AC)) (M:List (Nat×AY)):Prop where
 base:aK D G w0 w L
 obj: ∀x∈M,w.heap[x.1]? =some x.2/\nT x.2
 own: ∀x∈M,w0.heap.size<=x.1\/x.1∈G
 nd:(M.map (·.1)).Nodup
 nD: ∀x∈M,x.1∉D
namespace cF
variable {D G:List Nat} {w0 w w1:A1} {L L':List (Nat×List AC)} {M M':List (Nat×AY)}
theorem ext (H:cF D G w0 w L M) (h:Ext w w1):cF D G w0 w1 L M:=
 ⟨H.base.ext h,λx hx=>⟨h.obj (H.obj x hx).1,(H.obj x hx).2⟩,H.own,H.nd,H.nD⟩
theorem start (G:List Nat) (w:A1):cF [] G w w [] []:=⟨At.start G w,λx hx=>(by cases hx),λx hx=>(by cases hx),FP,λx hx=>(by cases hx)⟩
theorem of (H:aK D G w0 w L):cF D G w0 w L []:=⟨H,λx hx=>(by cases hx),λx hx=>(by cases hx),FP,λx hx=>(by cases hx)⟩
theorem sub (H:cF D G w0 w L M) (h:L'.Sublist L):cF D G w0 w L' M:=⟨H.base.sub h,H.obj,H.own,H.nd,H.nD⟩
theorem perm (H:cF D G w0 w L M) (h:L'.Perm L):cF D G w0 w L' M:=⟨H.base.perm h,H.obj,H.own,H.nd,H.nD⟩
theorem Gr (H:cF D G w0 w L M) (h:M'.Sublist M):cF D G w0 w L M':=⟨H.base,λx hx=>H.obj x (h.subset hx),λx hx=>H.own x (h.subset hx),(h.map _).nodup H.nd,λx hx=>H.nD x (h.subset hx)⟩
theorem lr (H:cF D G w0 w L M) (h:M'.Perm M):cF D G w0 w L M':=⟨H.base,λx hx=>H.obj x (h.subset hx),λx hx=>H.own x (h.subset hx),(h.map _).nodup_iff.2 H.nd,λx hx=>H.nD x (h.subset hx)⟩
theorem get (H:cF D G w0 w L M) {i r:Nat} {o:AY} (h:M[i]? =some (r,o)):w.heap[r]? =some o:=(H.obj (r,o) (FR h)).1
theorem GY (H:cF D G w0 w L M) {x:Nat×List AC} (hx:x∈L) {y:Nat×AY} (a:y∈M):x.1≠y.1:=
 aK.dk (H.base.dp x hx) (H.obj y a).1 (H.obj y a).2.ne
theorem join (H:cF D G w0 w L M) (K:At (L.map (·.1)) w w1 L'):cF D G w0 w1 L' M:=by
 refine⟨H.base.join (λx hx=>hx) K,λy a=>⟨?_,(H.obj y a).2⟩,H.own,H.nd,H.nD⟩;have h1:=(H.obj y a).1;rw[K.fr.block y.1 (DV.1 h1).1 (λb=>?_)]
 ·exact h1
 ·obtain⟨x,hx,e⟩:=AM.1 b;exact H.GY hx a e
theorem put (H:cF D G w0 w L M) {i r:Nat} {o:AY} (h:M[i]? =some (r,o)) {o':AY} (l:nT o'):cF D G w0 (w.putObj r o') L (M.set i (r,o')):=by
 have a:=FR h;obtain⟨h1,v⟩:=H.obj _ a;have m:r<w.heap.size:=(DV.1 h1).1;have n:(M.set i (r,o')).map (·.1)=M.map (·.1):=by
  apply GI;intro j;rw[GF,GF];by_cases e:i=j
  ·subst e;rw[FS (CJ.1 h).1,h];rfl
  ·rw[DZ e]
 refine⟨⟨⟨H.base.fr.os,H.base.fr.tape,H.base.fr.output,by rw[putObj_size];exact H.base.fr.size,λk p f=>?_⟩,λx hx=>(H.base.dp x hx).putObj (H.GY hx a) _,H.base.own,H.base.nd,λq c=>⟨(H.base.pZ q c).1,?_⟩⟩,λx hx=>?_,λx hx=>?_,by rw[n];exact H.nd,λx hx=>?_⟩
 ·rw[fO (λe=>?_)]
  ·exact H.base.fr.block k p f
  ·subst e;rcases H.own _ a with d|d
   ·simp only at d;omega
   ·exact f d
 ·rw[fO (λe=>H.nD _ a (by rw[<-e];exact c))];exact(H.base.pZ q c).2
 ·obtain⟨j,b⟩:=GH hx;by_cases e:i=j
  ·subst e;rw[FS (CJ.1 h).1] at b;cases b;exact⟨j8 m,l⟩
  ·rw[DZ e] at b;have g:=H.obj x (FR b);refine⟨?_,g.2⟩;rw[fO (λs=>?_)]
   ·exact g.1
   ·have t:(M.map (·.1))[i]? =some r:=by rw[GF,h];rfl
    have u:(M.map (·.1))[j]? =some r:=by rw[GF,b];exact congrArg some s
    have:=(IV (by rw[OB];exact(CJ.1 h).1) H.nd).1 (t.trans u.symm);exact e this
 ·rcases Gt hx with hx|rfl
  ·exact H.own x hx
  ·exact H.own (r,o) a
 ·rcases Gt hx with hx|rfl
  ·exact H.nD x hx
  ·exact H.nD (r,o) a
theorem alloc (H:cF D G w0 w L M) {o:AY} (a:nT o):cF D G w0 (w.alloc o) L ((w.heap.size,o)::M):=by
 have h1:=H.ext (Ext.alloc w o);have b:(w.alloc o).heap[w.heap.size]? =some o:=by
  show(w.heap.push o)[w.heap.size]? =some o;simp
 refine⟨h1.base,λx hx=>?_,λx hx=>?_,?_,λx hx=>?_⟩
 ·rcases B4.1 hx with rfl|hx
  ·exact⟨b,a⟩
  ·exact h1.obj x hx
 ·rcases B4.1 hx with rfl|hx
  ·exact .inl H.base.fr.size
  ·exact H.own x hx
 ·refine Bx.2 ⟨λc=>?_,H.nd⟩;obtain⟨y,d,e⟩:=AM.1 c;have:=(DV.1 (H.obj y d).1).1;simp only at e;omega
 ·rcases B4.1 hx with rfl|hx
  ·intro f;have:=(DV.1 (H.base.pZ _ f).2).1;simp only at this;omega
  ·exact H.nD x hx
theorem all (H:cF [] [] w0 w L M):Ext w0 w:=H.base.all
end cF
end Go.RX
namespace Go.Proofs.YtlcenllcmeebhaaGreat
set_option maxRecDepth 100000
open Go.RX
abbrev KV:Type:=Int×AC
abbrev kvE (t:KV):AC×AC:=(aa t.1,t.2)
def iI (es:List B2) (ck:Nat) (a:List KV):Prop:=
 (∃p:List KV,p.Perm a/\es.map (λe=>(e.key,e.val))=p.map kvE)/\(es.map (·.born)).Nodup/\(∀e∈es,e.born<ck)/\(a.map (·.1)).Nodup
theorem iI.nil:iI [] 0 []:=⟨⟨[],List.Perm.nil,rfl⟩,FP,λe a=>(by cases a),FP⟩
theorem Jr {es:List B2} {p:List KV} (h:es.map (λe=>(e.key,e.val))=p.map kvE) (g:Int) (i0:Nat):
 GS (.int .i64) (aa g) es i0=some (match p.findIdx? (λt=>t.1==g) with
  |some i=>some (i0+i,(p.getD i (0,undef)).2)
  |none=>none):=by
 induction es generalizing p i0 with
 |nil=>
  cases p with
  |nil=>rfl
  |cons t p=>simp at h
 |cons e es d=>
  cases p with
  |nil=>simp at h
  |cons t p=>
   simp only[CK,List.cons.injEq] at h;obtain⟨h1,f⟩:=h;have j:e.key=aa t.1:=congrArg (·.1) h1;have hv:e.val=t.2:=congrArg (·.2) h1;unfold GS;rw[j];have hs:Instr.sameNow (.int .i64) (aa g) (aa t.1)=some (g==t.1):=by
    show(if Ax=Ax then some (g==t.1) else none)= _;rw[aw rfl]
   rw[hs,List.findIdx?_cons];by_cases a:t.1=g
   ·have b:(g==t.1)=true:=by simp[a]
    have c:(t.1==g)=true:=by simp[a]
    rw[b,aw c];dsimp only;rw[hv];rfl
   ·have b:(g==t.1)=false:=by simp;exact λe=>a e.symm
    have c: ¬ (t.1==g)=true:=by simp[a]
    rw[b,ao c];dsimp only;rw[d f (i0+1)];cases p.findIdx? (λt=>t.1==g) with
    |none=>rfl
    |some i=>
     show some (some (i0+1+i, _))=some (some (i0+(i+1), _));rw[show i0+1+i=i0+(i+1) by omega];rfl
theorem qo {α β:Type} (f:α->β): ∀(l:List α) (i:Nat),(l.eraseIdx i).map f=(l.map f).eraseIdx i
 |[],i=>by simp
 |a::l,0=>rfl
 |a::l,i+1=>by
  simp only[List.eraseIdx_cons_succ,CK];rw[qo f l i]
theorem iI.F6 {es:List B2} {ck:Nat} {d:List KV} (h:iI es ck d) {g:Int} {v:AC} (y:(g,v)∈d): ∃i,GS (.int .i64) (aa g) es 0=some (some (i,v))/\i<es.length/\iI (es.eraseIdx i) ck (d.filter λt=> !(t.1==g)):=by
 obtain⟨⟨p,h1,f⟩,z,A,l⟩:=h;have m:(p.map (·.1)).Nodup:=(h1.map _).nodup_iff.2 l;have n:=h1.mem_iff.2 y;have o:=Jr f g 0;cases b:p.findIdx? (λt=>t.1==g) with
 |none=>
  have:=OC.1 b _ n;simp at this
 |some i=>
  rw[b] at o;rw[List.findIdx?_eq_some_iff_getElem] at b;obtain⟨hi,hg, _⟩:=b;have c:p[i]? =some p[i]:=DY hi;have q:p.getD i (0,undef)=p[i]:=by rw[K1,c];rfl
  obtain⟨t,r⟩: ∃t,t=p[i]:=⟨_,rfl⟩;rw[<-r] at c q hg;have hg:t.1=g:=by simpa using hg
  have B:t=(g,v):=by
   obtain⟨j,k⟩:=GH n;have C:(p.map (·.1))[i]? =some g:=by rw[GF,c];exact congrArg some hg
   have D:(p.map (·.1))[j]? =some g:=by rw[GF,k];rfl
   have:=(IV (by rw[OB];exact hi) m).1 (C.trans D.symm);subst this;rw[c] at k;exact Option.some.inj k
  have H:es.length=p.length:=by
   have:=congrArg List.length f;simpa using this
  refine⟨i,by rw[o];dsimp only;rw[q,B,CL],by omega,⟨p.eraseIdx i,?_,?_⟩,?_,?_,?_⟩
  ·have E:p.eraseIdx i=p.filter λt=> !(t.1==g):=by
    have s:p=p.take i++t::p.drop (i+1):=by
     conv=>lhs;rw[<-Dn i p]
     rw[OG hi, <-r]
    have u: ∀x∈p.take i++p.drop (i+1),x.1≠g:=by
     intro x hx e;have w:=m;rw[s,F7,CK] at w;have F:=(B3 (a:=t.1) (l₁:=(p.take i).map (·.1)) (l₂:=(p.drop (i+1)).map (·.1))).nodup_iff.1 w;have:=(Bx.1 F).1;refine this ?_;rw[hg, <-e, <-F7];exact AM.2 ⟨x,hx,rfl⟩
    rw[OK]
    conv=>rhs;rw[s]
    rw[List.filter_append,List.filter_cons_of_neg (by simp[hg])];rw[KC.2 (λx hx=>by have:=u x (DA _ hx);simpa using this),KC.2 (λx hx=>by have:=u x (DO _ hx);simpa using this)]
   rw[E];exact h1.filter _
  ·rw[qo,f,qo]
  ·rw[qo];exact z.sublist (List.eraseIdx_sublist _ _)
  ·exact λe G=>A e (List.mem_of_mem_eraseIdx G)
  ·exact l.sublist ((List.filter_sublist).map _)
theorem iI.OI {es:List B2} {ck:Nat} {a:List KV} (h:iI es ck a) {g:Int} (c: ∀t∈a,t.1≠g):GS (.int .i64) (aa g) es 0=some none:=by
 obtain⟨⟨p,h1,d⟩, _, _, _⟩:=h;have b:=Jr d g 0;rw[OC.2 λt e=>by have:=c t (h1.mem_iff.1 e);simpa using this] at b;exact b
theorem iI.push {es:List B2} {ck:Nat} {a:List KV} (h:iI es ck a) {g:Int} (v:AC) (d: ∀t∈a,t.1≠g):iI (es++[{key:=aa g,val:=v,born:=ck}]) (ck+1) ((g,v)::a):=by
 obtain⟨⟨p,h1,f⟩,i,b,j⟩:=h;refine⟨⟨p++[(g,v)],(N9 _ _).trans (h1.cons _),?_⟩,?_,?_,?_⟩
 ·rw[F7,f,F7];rfl
 ·rw[F7];refine Gv.2 ⟨i,by simp,λx hx y c e=>?_⟩;obtain⟨e',he,rfl⟩:=AM.1 hx;have c:y=ck:=by simpa using c
  have:=b e' he;omega
 ·intro e he;rcases G1.1 he with he|he
  ·have:=b e he;omega
  ·have:e={key:=aa g,val:=v,born:=ck}:=by simpa using he
   subst this;exact Hb _
 ·refine Bx.2 ⟨λk=>?_,j⟩;obtain⟨x,hx,e⟩:=AM.1 k;exact d x hx e
theorem iI.acA {es:List B2} {ck:Nat} {b:List KV} (h:iI es ck b):(∀e∈es, ∃t∈b,e.key=aa t.1/\e.val=t.2)/\ ∀t∈b, ∃e∈es,e.key=aa t.1/\e.val=t.2:=by
 obtain⟨⟨p,f,g⟩, _⟩:=h;refine⟨λe c=>?_,λt d=>?_⟩
 ·have:(e.key,e.val)∈p.map kvE:=by rw[<-g];exact AM.2 ⟨e,c,rfl⟩
  obtain⟨t,d,a⟩:=AM.1 this;exact⟨t,f.mem_iff.1 d,(congrArg (·.1) a).symm,(congrArg (·.2) a).symm⟩
 ·have:kvE t∈es.map λe=>(e.key,e.val):=by rw[g];exact AM.2 ⟨t,f.mem_iff.2 d,rfl⟩
  obtain⟨e,c,a⟩:=AM.1 this;exact⟨e,c,congrArg (·.1) a,congrArg (·.2) a⟩
end Go.Proofs.YtlcenllcmeebhaaGreat
namespace Go.Proofs.YtlcenllcmeebhaaGreat.Mu
set_option maxRecDepth 100000
open Go.RX
abbrev eI:El:= .one (.int .i64)
abbrev oE (now:Int) (s:Option A2×Nat×Nat) (mb:Nat):List AC:=[aa now,.slice s.1 s.2.1 s.2.2,.map (some mb)]
section
variable {D G:List Nat} {w0 w:A1} {L Ls:List (Nat×List AC)} {M:List (Nat×AY)} {s:Option A2×Nat×Nat} {pins:List Int} {now:Int} {eb mb:Nat}
theorem m5 (H:aK D G w0 w L) (a:(eb,oE now s mb)∈L):ae AB 114 [ag (af eb)] w (.bool true):=by
 refine ae.of (s:= .el (.one .bool)) λw' h'=>ai (C:=U0) (aT:=λ_=>[]) (AL (Li _ w' _) ?_);exact⟨λ_=>rfl,λ_=>rfl,aj.kM (H.ext h') a (show _=some (some mb) from rfl) λw1 h1=>⟨rfl,h1⟩⟩
theorem ZU (H:aK D G w0 w L) (a:(eb,oE now s mb)∈L):ae AB 237 [ag (af eb)] w (aa now):=by
 refine ae.of (s:= .el (.one (.int .i64))) λw' h'=>ai (C:=U0) (aT:=λ_=>[]) (AL (U_ _ w' _) ?_);exact⟨_,m5 (H.ext h') a,an rfl ⟨rfl,rfl,aj.kM (H.ext h') a (show _=some now from rfl) λw1 h1=>⟨rfl,h1⟩⟩⟩
def AI (pins:List Int) (c:Nat) (a:Int):List Int:=if(pins.getD c 0== -1)=(a== -1) then pins else pins.set c a
theorem I5 {e:El} {xs:List e.T} (h:dv e s xs Ls) (H:aK D G w0 w (Ls++L)) {i:Nat} {x:e.T} (hx:xs[i]? =some x):s.1.isSome=true/\cL w (ad s.1 (i*aF e)) e x:=
 h.sl H (λy a=>DA _ a) i x hx
theorem Js (H:aK D G w0 w ((eb,oE now s mb)::(Ls++L))) (hs:dv eI s pins Ls) (c:Nat) (hc:c<pins.length) (a:Int) {K:Int->A1->Prop}
 (k: ∀v d b,dv eI s (AI pins c a) d->aK D G w0 b ((eb,oE now s mb)::(d++L))->K v b):
 aA AB 203 (.el (.one (.int .i64))) [ag (af eb),aa (c:Int),aa a] w K:=by
 refine aA.go H λw1 H=>ai (C:=U0) (aT:=λ_=>[]) (AL (U' _ _ _ w1 K) ?_);have j:=hs.1;have hx:pins[c]? =some (pins.getD c 0):=by rw[K1,DY hc];rfl
 have h0:(decide ((c:Int)<0))=false:=decide_eq_false (by omega);have f:aK D G w0 w1 (Ls++((eb,oE now s mb)::L)):=H.perm B3;refine⟨_,m5 H DB,an rfl ⟨λ_=>rfl,λ_=>rfl,aj.cA 0 H rfl (show _=some (s.1,s.2.1,s.2.2) from rfl) ?_⟩⟩;refine an (by rw[h0,Bool.false_or,decide_eq_false_iff_not];dsimp only;omega) ⟨rfl,rfl,aj.cA 0 H rfl (show _=some (s.1,s.2.1,s.2.2) from rfl) ⟨⟨(I5 hs f hx).1,by omega,by dsimp only;omega⟩,aj.of (pins.getD c 0) (by dsimp only;rw[E4];exact(I5 hs f hx).2) ?_⟩⟩;refine ab (λe=>au.go H λb H=>?_) (λe=>⟨rfl,rfl,aj.cA 0 H rfl (show _=some (s.1,s.2.1,s.2.2) from rfl) ⟨⟨(I5 hs f hx).1,by omega,by dsimp only;omega⟩,?_⟩⟩)
 ·refine k 6 Ls b ?_ H;unfold AI;rw[aw (by simpa using e)];exact hs
 ·dsimp only;rw[E4];refine hs.st f hc a rfl rfl λd b h g=>au.go g λi g=>k 0 d i ?_ (g.perm B3.symm);unfold AI;rw[ao (by intro c;rw[c] at e;simp at e)];exact h
theorem Vd (H:aK D G w0 w ((eb,oE now s mb)::(Ls++L))) (hs:dv eI s pins Ls) (c:Nat) (hc:c<pins.length) {K:Int->A1->Prop}
 (k: ∀v a b,dv eI s (AI pins c now) a->aK D G w0 b ((eb,oE now s mb)::(a++L))->K v b):
 aA AB 200 (.el (.one (.int .i64))) [ag (af eb),aa (c:Int)] w K:=by
 refine aA.go H λw1 H=>ai (C:=U0) (aT:=λ_=>[]) (AL (Va _ _ w1 K) ?_);exact⟨now,ZU H DB,Js H hs c hc now λv a b e d=>au.go d λf d=>k v a f e d⟩
theorem Lx (H:aK D G w0 w ((eb,oE now s mb)::(Ls++L))) (hs:dv eI s pins Ls) (c:Nat) (hc:c<pins.length) {K:Int->A1->Prop}
 (k: ∀v a b,dv eI s (AI pins c (-1)) a->aK D G w0 b ((eb,oE now s mb)::(a++L))->K v b):
 aA AB 158 (.el (.one (.int .i64))) [ag (af eb),aa (c:Int)] w K:=by
 refine aA.go H λw1 H=>ai (C:=U0) (aT:=λ_=>[]) (AL (Lj _ _ w1 K) ?_);exact Js H hs c hc (-1) λv a b e d=>au.go d λf d=>k v a f e d
def KN (pins:List Int) (now:Int):Int:=if pins.all (λp=>p== -1||p==now)=true then now+1 else now
theorem Ve (H:aK D G w0 w ((eb,oE now s mb)::(Ls++L))) (hs:dv eI s pins Ls) (u:pins.length<=8) (y:0<=now/\now<4611686018427387904) {K:Bool->A1->Prop}
 (k: ∀v a,aK D G w0 a ((eb,oE (KN pins now) s mb)::(Ls++L))->K v a):
 aA AB 197 (.el (.one .bool)) [ag (af eb)] w K:=by
 refine aA.go H λw1 H=>ai (C:=U0) (aT:=wq) (AL (Vc _ w1 K) ?_);have h:=hs.1;refine⟨_,m5 H DB,an rfl ⟨rfl,rfl,aj.cA 0 H rfl (show _=some (s.1,s.2.1,s.2.2) from rfl) ?_⟩⟩;refine⟨λn st a=> ∃j:Nat,j<=pins.length/\n=pins.length - j/\st.1=(j:Int)/\(pins.take j).all (λp=>p== -1||p==now)=true/\aK D G w0 a ((eb,oE now s mb)::(Ls++L)),⟨pins.length,λa l=>⟨0,GO _,rfl,rfl,rfl,H.ext l⟩⟩,?_⟩;rintro n ⟨i, _⟩ a ⟨j,f,m,hi,b,H⟩;have hi:i=(j:Int):=hi;subst hi m;dsimp only;rw[h];have o:aK D G w0 a (Ls++((eb,oE now s mb)::L)):=H.perm B3;refine ab (λc=>?_) (λc=>?_)
 ·have f:j<pins.length:=by have:=of_decide_eq_true c;omega
  obtain⟨x,hx⟩: ∃x,pins[j]? =some x:=⟨_,DY f⟩;have g:=I5 hs o hx;refine⟨⟨g.1,by omega,by omega⟩,aj.of x (by rw[E4];exact g.2) ⟨λ_=>rfl,λ_=>rfl,aj.cA 0 H rfl (show _=some now from rfl) ?_⟩⟩;refine ab (λc=>au.go H λd H=>k false d ?_) (λc d r=>⟨pins.length - (j+1),by omega,j+1,by omega,rfl,?_,?_,H.ext r⟩)
  ·have:KN pins now=now:=by
    unfold KN;refine ao λhc=>?_;have:=List.all_eq_true.1 hc x (FR hx);simp only[I1,bne_iff_ne,Et,beq_iff_eq] at c this;rcases this with q|q
    ·exact c.1 q
    ·exact c.2 q
   rw[this];exact H
  ·rw[av (by omega) (by omega)];omega
  ·rw[H5,hx,List.all_append,b,Gi];show([x]:List Int).all _=true;rw[List.all_cons,List.all_nil,Bool.and_true];simp only[I2,bne_eq_false_iff_eq] at c;simpa using c
 ·have:j=pins.length:=by have:=of_decide_eq_false c;omega
  subst this;rw[KE] at b;have e:KN pins now=now+1:=aw b;rw[e] at k;refine⟨rfl,rfl,aj.cA 0 H rfl (show _=some now from rfl) ⟨rfl,rfl,?_⟩⟩;rw[av (by omega) (by omega)];exact aC.gJ 0 H rfl rfl rfl λd H=>au.go H λt H=>k true t H
end
section
variable {D G:List Nat} {w0 w:A1} {L:List (Nat×List AC)} {M:List (Nat×AY)} {s:Option A2×Nat×Nat} {ws:List KV} {es:List B2} {now:Int} {eb mb ck:Nat}
def OJ (ws:List KV) (f now:Int):List KV:=if ws.any (λx=>x.1==f)=true then ws else(f,aa now)::ws
theorem Vf (H:cF D G w0 w L ((mb,.map ⟨es⟩ ck)::M)) (b:(eb,oE now s mb)∈L) (hv:iI es ck ws) (q: ∀t∈ws, ∃x,t.2=aa x) (f:Int) (A:0<=f) {K:Int->A1->Prop}
 (k: ∀v l m a,iI l m (OJ ws f now)->cF D G w0 a L ((mb,.map ⟨l⟩ m)::M)->K v a):
 aA AB 162 (.el (.one (.int .i64))) [ag (af eb),aa f] w K:=by
 refine λw1 h1=>ai (C:=U0) (aT:=λ_=>[]) (AL (Vb _ _ w1 K) ?_);have H:=H.ext h1;refine⟨_,m5 H.base b,an rfl (an (decide_eq_false (by omega)) ⟨rfl,rfl,aj.kM H.base b (show _=some (some mb) from rfl) ?_⟩)⟩;have n:bH w1 mb ⟨es⟩ ck:=H.get (i:=0) rfl;by_cases o: ∃v,(f,v)∈ws
 ·obtain⟨v,d⟩:=o;obtain⟨x,hx⟩:=q _ d;dsimp only at hx;subst hx;obtain⟨i,hi, _⟩:=hv.F6 d;refine⟨x,true,⟨mb, _, _,rfl,n,by rw[hi];exact⟨rfl,rfl⟩⟩,ay rfl λa g=>?_⟩;have e:OJ ws f now=ws:=aw (KL.2 ⟨_,d,by simp⟩);rw[e] at k;exact k 5 es ck a hv (H.ext g)
 ·have h: ∀t∈ws,t.1≠f:=λt j e=>o ⟨t.2,by rw[<-e];exact j⟩;have p:=hv.OI h;refine⟨0,false,⟨mb, _, _,rfl,n,by rw[p];exact⟨rfl,rfl⟩⟩,an rfl ⟨rfl,rfl,aj.kM H.base b (show _=some (some mb) from rfl) ⟨rfl,rfl,aj.kM H.base b (show _=some now from rfl) λa g=>?_⟩⟩⟩;have H:=H.ext g;refine⟨mb, _, _,rfl,H.get (i:=0) rfl,?_⟩;unfold ib;rw[p];have H:=H.put (i:=0) rfl (o':= .map ⟨es++[{key:=aa f,val:=aa now,born:=ck}]⟩ (ck+1)) trivial;have r:(LL es).push {key:=aa f,val:=aa now,born:=ck}=⟨es++[{key:=aa f,val:=aa now,born:=ck}]⟩:=by apply Kv;simp
  have e:OJ ws f now=(f,aa now)::ws:=ao λc=>by
   obtain⟨t,j,u⟩:=KL.1 c;exact h t j (by simpa using u)
  rw[e] at k;show au _ _;rw[r];exact λy z=>k 0 _ _ y (hv.push _ h) (H.ext z)
end
abbrev DM:Type:=Int×Int×Int×Int×Unit
def lnR (l:DM):Bool:=decide (l.1>=1)&&decide (l.1<=16)&&decide (l.2.1>=0)&&decide (l.2.1<65536)&&decide (l.2.2.1>=0)&&decide (l.2.2.1<4096)&&decide (l.2.2.2.1>=1)&&decide (l.2.2.2.1<=7)
def mr (l:DM) (t p:Int):Bool:=l.1==t&&l.2.1==p
abbrev lnV (l:DM):AC:= .agg ⟨[aa l.1,aa l.2.1,aa l.2.2.1,aa l.2.2.2.1]⟩
theorem QG (l:DM) (w:A1):ae AB 204 [lnV l] w (.bool (lnR l)):=by
 obtain⟨t,p,f,r, _⟩:=l;refine ae.of (s:= .el (.one .bool)) λw' _=>ai (C:=U0) (aT:=λ_=>[]) (AL (K9 t p f r w' _) ?_);have H:=At.start [] w'
 repeat' (first
  |exact Go.RX.aK.all H
  |exact And.intro (by first|rfl|decide+kernel) (Go.RX.aK.all H)
  |simp
  |refine aj.cA 0 H rfl rfl ?_
  |refine aj.at 0 H rfl rfl ?_
  |refine aM.go H λb w1 H=>?_
  |with_reducible refine au.go H λw1 H=>?_
  |refine km ?_
  |refine an (by assumption) ?_
  )
theorem XP (l:DM) (a b:Int) (w:A1):ae AB 150 [lnV l,aa a,aa b] w (.bool (mr l a b)):=by
 obtain⟨t,p,f,r, _⟩:=l;refine ae.of (s:= .el (.one .bool)) λw' _=>ai (C:=U0) (aT:=λ_=>[]) (AL (ZT t p f r a b w' _) ?_);have H:=At.start [] w';refine aM.go H λc w1 H=>aj.at 0 H rfl (rfl) ⟨rfl,aj.cA 0 H rfl rfl ⟨rfl,aj.cA 0 H rfl rfl (au.go H λw1 H=>⟨?_,H.all⟩)⟩⟩;show(t==a&&(p==b&&(f==f&&(r==r&&true))))=(t==a&&p==b);simp
abbrev dq (s:Option A2×Nat×Nat) (sz:Int):List AC:=[.slice s.1 s.2.1 s.2.2,aa sz]
section
variable {D G:List Nat} {w0 w:A1} {L Ls:List (Nat×List AC)} {s:Option A2×Nat×Nat} {ls:List DM} {sz:Int} {tb:Nat}
theorem pF (H:aK D G w0 w L) (a:(tb,dq s sz)∈L) (b:0<sz):ae AB 140 [ag (af tb)] w (.bool true):=by
 refine ae.of λw' h'=>ai (AL (K_ _ w' _) ?_);refine⟨λ_=>rfl,λ_=>rfl,aj.kM (H.ext h') a rfl λw1 h1=>⟨?_,h1⟩⟩
 grind
theorem PA {α:Type} {a b:α} {m l:Nat} (h:m=l):(GG (λ_=>a) (λ_=>b) (instDecidableEqNat m l):α)=b:=by
 generalize instDecidableEqNat m l=d;cases d with
 |isTrue
 |isFalse=>grind
theorem GZ {α:Type} {a b:α} {m l:Nat} (h:m≠l):(GG (λ_=>a) (λ_=>b) (instDecidableEqNat m l):α)=a:=by
 generalize instDecidableEqNat m l=d;cases d with
 |isTrue=>grind
 |isFalse=>rfl
theorem Jt (H:aK D G w0 w ((tb,dq s sz)::(Ls++L))) (hs:dv ku s ls Ls) (O:(ls.length:Int)<=64) (i:Nat) (hi:i<ls.length) {K:Unit->A1->Prop}
 (k: ∀s' b a,dv ku s' (ls.eraseIdx i) b->aK D G w0 a ((tb,dq s' sz)::(b++L))->K () a):
 aA AB 196 (.bu []) [ag (af tb),aa (i:Int)] w K:=by
 refine aA.go H λw1 H=>ai (C:=U0) (aT:=λ_=>[]) (AL (UZ _ _ w1 K) ?_);obtain⟨p,n,c⟩:=s;have o:=hs;obtain⟨h1,e,h⟩:=hs;have h1:n=ls.length:=h1;have e:ls.length<=c:=e;subst h1;have P:=e;have l:aH .i64 (i:Int) 1=((i+1:Nat):Int):=by rw[av (by omega) (by omega)];omega
 obtain⟨bs,rest,a1,u,v⟩: ∃bs rest,p=some ⟨bs,0,none⟩/\Ls=[(bs,flat ku ls++rest)]/\c*aF ku<=(flat ku ls++rest).length:=by
  rcases h with ⟨_,q, _⟩|q
  ·have:c=0:=q;omega
  ·exact q
 subst a1 u;refine⟨rfl,rfl,aj.cA 0 H rfl rfl ⟨?_,rfl,rfl,aj.cA 0 H rfl rfl ⟨?_,λa x=>?_⟩⟩⟩
 ·dsimp only;omega
 ·rw[l];dsimp only;omega
 have H:=H.ext x;rw[l];dsimp only;have y:oQ a (if((c:Int)).toNat=((i+1:Nat):Int).toNat then(some ⟨bs,0,none⟩:Option A2) else ad (af bs) (((i+1:Nat):Int).toNat*4)) ((((ls.length:Nat):Int).toNat - ((i+1:Nat):Int).toNat)*aF ku) (flat ku (ls.drop (i+1))):=by
  have A:=H.get (i:=1) rfl;by_cases hc:c=i+1
  ·have:ls.drop (i+1)=[]:=IR (by omega);rw[this,aw (by omega),show((((ls.length:Nat):Int).toNat - ((i+1:Nat):Int).toNat))=0 by omega];exact⟨rfl,λj f=>by simp at f⟩
  ·rw[ao (by omega),aY];refine A.oQ ?_ λj f=>?_
   ·rw[aG,GD];congr 1
   ·have m:flat ku ls=flat ku (ls.take (i+1))++flat ku (ls.drop (i+1)):=by rw[<-dR,Dn]
    have Q:(flat ku (ls.take (i+1))).length=(i+1)*aF ku:=by rw[aG,B5,Ef (by omega)]
    have S:0+((i+1:Nat):Int).toNat*4=(i+1)*aF ku:=by
     show 0+(i+1)*4=(i+1)*4;omega
    have T:j<(flat ku (ls.drop (i+1))).length:=by
     rw[aG,GD];refine HB f (Gc _ (by omega))
    grind
 have B:dv ku (some ⟨bs,0,none⟩,i,i) (ls.take i) [(bs,flat ku (ls.take i)++(flat ku (ls.drop i)++rest))]:=by
  refine⟨by rw[B5,Ef (by omega)],by rw[B5,Ef (by omega)];exact DQ _,.inr ⟨bs, _,rfl,rfl,?_⟩⟩;rw[<-F5, <-dR,Dn];exact DJ (Gc _ (show i<=c by clear e o h;omega)) v
 have E:flat ku ls++rest=flat ku (ls.take i)++(flat ku (ls.drop i)++rest):=by rw[<-F5, <-dR,Dn]
 have F:aK D G w0 a ([(bs,flat ku (ls.take i)++(flat ku (ls.drop i)++rest))]++((tb,dq (some ⟨bs,0,none⟩,ls.length,c) sz)::L)):=by
  rw[<-E];exact H.perm (Ep _ _ _)
 have m:(GG (λ_=>ad (af bs) (((i+1:Nat):Int).toNat*4)) (λ_=>(some ⟨bs,0,none⟩:Option A2)) (instDecidableEqNat ((c:Int)).toNat ((i+1:Nat):Int).toNat):Option A2)=if((c:Int)).toNat=((i+1:Nat):Int).toNat then(some ⟨bs,0,none⟩:Option A2) else ad (af bs) (((i+1:Nat):Int).toNat*4):=by
  by_cases hc:((c:Int)).toNat=((i+1:Nat):Int).toNat
  ·rw[aw hc,PA hc]
  ·rw[ao hc,GZ hc]
 have key:=aK.Uy F B (show im ku=true from rfl) (q:=(if((c:Int)).toNat=((i+1:Nat):Int).toNat then(some ⟨bs,0,none⟩:Option A2) else ad (af bs) (((i+1:Nat):Int).toNat*4),((ls.length:Nat):Int).toNat - ((i+1:Nat):Int).toNat,((c:Int)).toNat - ((i+1:Nat):Int).toNat)) (ys:=ls.drop (i+1)) (by rw[GD];show((ls.length:Nat):Int).toNat - ((i+1:Nat):Int).toNat= _;omega) y
  (t:=96) (size:=4) (bytes:=32) (z:=⟨[aa 0,aa 0,aa 0,aa 0]⟩) rfl rfl (by rw[B5,GD];omega)
  (R:=λr a=>(some (⟨tb,0,none⟩:A2)).isSome=true/\(some (⟨tb,0,none⟩:A2)).isSome=true/\aC a (ad (af tb) 0) [Value.slice r.1 r.2.1 r.2.2] λa=>au a λw1=>K () w1) λs' b U I g=>?_
 ·rw[m];have:((i:Int)).toNat - 0=i:=by omega
  rw[this];generalize (instDecidableEqNat ((i:Int)).toNat 0:Decidable (((i:Int)).toNat=((0:Nat):Int).toNat))=d;cases d<;>exact key
 ·refine⟨rfl,rfl,?_⟩;have g:=g.perm (L':=(tb,dq (some ⟨bs,0,none⟩,ls.length,c) sz)::(b++L)) B3.symm;refine aC.gJ 0 g rfl rfl rfl λV J=>au.go J λM N=>k s' b M ?_ N;rw[OK];exact I
theorem ww {α:Type} {ls:List α} {j:Nat} {x:α} (f:α->Bool) (hx:ls[j]? =some x):ls.take (j+1)++(ls.drop (j+1)).filter f=ls.take j++([x]++(ls.drop (j+1)).filter f):=by grind[H5]
theorem jk {α:Type} {ls:List α} {j:Nat} {x:α} (hx:ls[j]? =some x):ls.drop j=x::ls.drop (j+1):=by grind[OG]
def SwI (D G:List Nat) (w0:A1) (L:List (Nat×List AC)) (tb:Nat) (sz:Int) (ls:List DM) (is:DM->Bool) (n:Nat) (s:Int×Int×Unit) (w:A1):Prop:=
 n<=ls.length/\s.1=(((ls.drop n).countP is:Nat):Int)/\s.2.1=(n:Int) - 1/\ ∃sl Ls,dv ku sl (ls.take n++(ls.drop n).filter (λl=> !is l)) Ls/\aK D G w0 w ((tb,dq sl sz)::(Ls++L))
theorem zT {is:DM->Bool} (I:(ls.length:Int)<=64) {n:Nat} {s:Int×Int×Unit} (t:SwI D G w0 L tb sz ls is n s w) {Q:DM->Bool->Prop} {K:Int->A1->Prop} {N:Int->Int->A1->Prop}
 (u: ∀{sl Ls},aK D G w0 w ((tb,dq sl sz)::(Ls++L))-> ∀x,Q x (is x))
 (v: ∀{sl Ls d},dv ku sl (ls.filter (λl=> !is l)) Ls->aK D G w0 d ((tb,dq sl sz)::(Ls++L))->K ((ls.countP is:Nat):Int) d)
 (k: ∀(a b:Int) (d:A1),(∃m,m<n/\SwI D G w0 L tb sz ls is m (a,b,()) d)->N a b d):
 aI (decide (s.2.1>=0)) ((some (⟨tb,0,none⟩:A2)).isSome=true/\(some (⟨tb,0,none⟩:A2)).isSome=true/\aj w none (ad (af tb) 0) (.one .slice) λx=>(x.1.isSome=true/\0<=s.2.1/\s.2.1<((x.2.1:Nat):Int))/\aj w none (ad x.1 (Ay s.2.1*4)) ku λx=> ∃o:Bool,Q x o/\
  aI o (aA AB 196 (.bu []) [ag (af tb),aa s.2.1] w λ_ d=> ∀e,Ext d e->N (aH .i64 s.1 1) (aX .i64 s.2.1 1) e) (∀e,Ext w e->N s.1 (aX .i64 s.2.1 1) e))
  (au w λw1=>K s.1 w1):=by
 obtain⟨s1,z,J⟩:=s;obtain⟨h1,i,f,sl,Ls,hs,H⟩:=t;have i:s1=(((ls.drop n).countP is:Nat):Int):=i;have f:z=(n:Int) - 1:=f;subst i f;refine ab (λc=>?_) (λc=>?_)
 ·obtain⟨j,rfl⟩: ∃j,n=j+1:=⟨n - 1,by have:=of_decide_eq_true c;dsimp only at this;omega⟩;obtain⟨x,hx⟩: ∃x,ls[j]? =some x:=⟨_,DY (by omega)⟩;have hc:((((ls.drop (j+1)).countP is:Nat):Int))<=ls.length:=by
   have:=List.countP_le_length (p:=is) (l:=ls.drop (j+1));rw[GD] at this;omega
  have A:((j+1:Nat):Int) - 1=(j:Int):=by omega
  have B:aX .i64 (j:Int) 1=(j:Int) - 1:=bC (by omega) (by omega);have q:=(hs.sl H (λy C=>Bf _ (DA _ C))) j x (by
   rw[ww _ hx,IX (by rw[B5];omega),B5,Ef (by omega),Gd];rfl)
  have M:=hs.1;dsimp only;rw[A,B];refine⟨rfl,rfl,aj.cA 0 H rfl rfl ⟨⟨q.1,by omega,?_⟩,aj.of x ?_ ⟨is x,u H x,?_⟩⟩⟩
  grind
  ·dsimp only;rw[E4];exact q.2
  rw[ww _ hx] at hs;have g:(ls.drop j).countP is=(ls.drop (j+1)).countP is+if is x=true then 1 else 0:=by rw[jk hx,List.countP_cons]
  cases h:is x with
  |true=>
   rw[h,aw rfl] at g;refine ay rfl (Jt H hs ?_ j ?_ λs' E d r F e f=>k _ _ _ ⟨j,Hb j,by omega,?_,rfl,s',E,?_,F.ext f⟩)
   grind
   grind
   ·dsimp only;rw[av (by omega) (by omega),g];omega
   ·rw[List.eraseIdx_append_of_length_le (by rw[B5];omega),B5,Ef (by omega),Gd] at r;rw[jk hx,GJ,h];exact r
  |false=>
   rw[h,ao (by decide)] at g;refine an rfl λe f=>k _ _ _ ⟨j,Hb j,by omega,?_,rfl,sl,Ls,?_,H.ext f⟩
   ·dsimp only;rw[g];rfl
   ·rw[jk hx,GJ,h];exact hs
 ·have:n=0:=by
   have:=of_decide_eq_false c;dsimp only at this;omega
  subst this;rw[List.drop_zero];exact au.go H λd H=>v hs H
theorem HE (H:aK D G w0 w ((tb,dq s sz)::(Ls++L))) (hs:dv ku s ls Ls) (i:(ls.length:Int)<=64) (j:0<sz) {c d:Nat} {t g:Int} (hc:(c,[aa t])∈L) (m:(d,[aa g])∈L) {K:Int->A1->Prop}
 (k: ∀s' f e,dv ku s' (ls.filter λl=> !mr l t g) f->aK D G w0 e ((tb,dq s' sz)::(f++L))->K ((ls.countP (λl=>mr l t g):Nat):Int) e):
 aA AB 147 (.el (.one (.int .i64))) [ag (af tb),.func (.func 149) #[] #[ag (af c),ag (af d)]] w K:=by
 refine aA.go H λw1 H=>ai (C:=U0) (aT:=pU) (AL (Hy _ _ _ w1 K) ?_);have o:=hs.1;refine⟨_,pF H (DB) j,an rfl ⟨rfl,rfl,aj.cA 0 H rfl rfl ⟨SwI D G w0 L tb sz ls (λl=>mr l t g),⟨ls.length,λe p=>⟨DQ _,?_,?_,s,Ls,?_,H.ext p⟩⟩,λn st e q=>?_⟩⟩⟩
 ·rw[H6];rfl
 ·dsimp only;rw[o,bC (by omega) (by omega)]
 grind
 refine zT (is:=λl=>mr l t g) i q (λ{sl Ls} H x=>?_) (λ{sl Ls e} a b=>k sl Ls e a b) (λa b e h=>h);refine ae.of (s:= .el (.one .bool)) λw' h'=>ai (C:=U0) (aT:=λ_=>[]) (AL (Hx _ _ _ _ _ _ w' _) ?_);have r:=(H.ext h').dp _ (Bf _ (DO _ hc));have u:=(H.ext h').dp _ (Bf _ (DO _ m));have H0:=At.start [] w';refine aM.go H0 λb v H0=>aj.at 0 H0 rfl (rfl) (aj.fW H0 r (by simp) rfl (aj.fW H0 u (by simp) rfl ⟨_,XP (x.1,x.2.1,x.2.2.1,x.2.2.2.1,()) t g v,au.go H0 λy H0=>⟨rfl,H0.all⟩⟩))
theorem HF (H:aK D G w0 w ((tb,dq s sz)::(Ls++L))) (hs:dv ku s ls Ls) (f:(ls.length:Int)<=64) (g:0<sz) {c:Nat} {t:Int} (hc:(c,[aa t])∈L) {K:Int->A1->Prop}
 (k: ∀s' e d,dv ku s' (ls.filter λl=> !(l.1==t)) e->aK D G w0 d ((tb,dq s' sz)::(e++L))->K ((ls.countP (λl=>l.1==t):Nat):Int) d):
 aA AB 147 (.el (.one (.int .i64))) [ag (af tb),.func (.func 148) #[] #[ag (af c)]] w K:=by
 refine aA.go H λw1 H=>ai (C:=U0) (aT:=pV) (AL (Hz _ _ w1 K) ?_);have i:=hs.1;refine⟨_,pF H (DB) g,an rfl ⟨rfl,rfl,aj.cA 0 H rfl rfl ⟨SwI D G w0 L tb sz ls (λl=>l.1==t),⟨ls.length,λd j=>⟨DQ _,?_,?_,s,Ls,?_,H.ext j⟩⟩,λn st d m=>?_⟩⟩⟩
 grind
 ·dsimp only;rw[i,bC (by omega) (by omega)]
 grind
 refine zT (is:=λl=>l.1==t) f m (λ{sl Ls} H x=>?_) (λ{sl Ls d} a b=>k sl Ls d a b) (λa b d h=>h);refine ae.of (s:= .el (.one .bool)) λw' h'=>ai (C:=U0) (aT:=λ_=>[]) (AL (La _ _ _ _ _ w' _) ?_);have o:=(H.ext h').dp _ (Bf _ (DO _ hc));have H0:=At.start [] w';refine aM.go H0 λb p H0=>⟨rfl,aj.cA 0 H0 rfl rfl (aj.fW H0 o (by simp) rfl (au.go H0 λq H0=>⟨rfl,H0.all⟩))⟩
theorem Bu (H:aK D G w0 w ((tb,dq s sz)::(Ls++L))) (hs:dv ku s ls Ls) (h:(ls.length:Int)<=64) (i:0<sz) (t g:Int) {K:Bool->A1->Prop}
 (k: ∀s' a b,dv ku s' (ls.filter λl=> !mr l t g) a->aK D G w0 b ((tb,dq s' sz)::(a++L))->K (ls.any λl=>mr l t g) b):
 aA AB 108 (.el (.one .bool)) [ag (af tb),aa t,aa g] w K:=by
 refine aA.go H λw1 H=>ai (C:=U0) (aT:=λ_=>[]) (AL (Le _ _ _ w1 K) ?_);refine aM.go H λc b H=>aM.go H λd j H=>?_;have m:aK D G w0 j ((tb,dq s sz)::(Ls++((d,[aa g])::(c,[aa t])::L))):=H.perm (by
  have p1:(Ls++((d,[aa g])::(c,[aa t])::L)).Perm _:=B3.trans (DD _ B3);refine(DD _ p1).trans ?_;exact(Ep _ _ _).trans (DD _ (Ep _ _ _)))
 refine HE m hs h i (c:=c) (d:=d) (t:=t) (g:=g) (by grind) DB λs' a p n f=>au.go f λo f=>?_;have e:decide (((ls.countP (λl=>mr l t g):Nat):Int)>0)=ls.any λl=>mr l t g:=by
  rw[IM,KL]
  simp_all
 rw[e];exact k s' a o n (f.sub (by grind))
theorem HG (H:aK D G w0 w ((tb,dq s sz)::(Ls++L))) (hs:dv ku s ls Ls) (e:(ls.length:Int)<=64) (f:0<sz) (t:Int) {K:Int->A1->Prop}
 (k: ∀v s' a b,dv ku s' (ls.filter λl=> !(l.1==t)) a->aK D G w0 b ((tb,dq s' sz)::(a++L))->K v b):
 aA AB 107 (.el (.one (.int .i64))) [ag (af tb),aa t] w K:=by
 refine aA.go H λw1 H=>ai (AL (HA _ _ w1 K) ?_);refine aM.go H λc b H=>?_;have g:=H.perm ((DD _ B3).trans (Ep _ _ _));refine HF g hs e f (t:=t) (by grind) λs' a j h d=>au.go d λi d=>?_;exact k _ s' a i h (d.sub (by grind))
end
section
variable {D G:List Nat} {w0 w:A1} {L Ls:List (Nat×List AC)} {s:Option A2×Nat×Nat} {ls:List DM} {sz:Int} {tb:Nat}
def Ei (ls:List DM) (sz:Int) (l:DM):List DM:=
 (if ls.any (λx=>mr x l.1 l.2.1)=true then ls.filter (λx=> !mr x l.1 l.2.1) else if(ls.length:Int)=sz then ls.drop 1 else ls)++[l]
def yE (ls:List DM) (t p w:Int):Int×Int×Unit:=match ls.find? (λx=>mr x t p) with
 |none=>(0,4,())
 |some l=>if w<0\/w>7\/gN .i64 w l.2.2.2.1≠0 then(0,7,()) else(l.2.2.1,0,())
theorem Ju {x b:Nat×List AC} {Ls L:List (Nat×List AC)}:(x::(Ls++(b::L))).Perm (b::x::(Ls++L)):=
 (DD _ B3).trans (Ep _ _ _)
theorem ZV {α:Type} (x y z:α) (A B:List α):(A++(x::y::z::B)).Perm (z::y::x::(A++B)):=by
 refine B3.trans ?_;refine(DD x (B3.trans (DD y B3))).trans ?_;refine(DD x (Ep z y _)).trans ?_;exact(Ep z x _).trans (DD z (Ep y x _))
theorem QH (H:aK D G w0 w ((tb,dq s sz)::(Ls++L))) (hs:dv ku s ls Ls) (hl:(ls.length:Int)<=sz) (A:0<sz/\sz<=64) (l:DM) (J:lnR l=true) {K:Int->A1->Prop}
 (k: ∀s' B a,dv ku s' (Ei ls sz l) B->aK D G w0 a ((tb,dq s' sz)::(B++L))->K 0 a):
 aA AB 159 (.el (.one (.int .i64))) [ag (af tb),lnV l] w K:=by
 obtain⟨t,g,f,r, _⟩:=l;refine aA.go H λw1 H=>ai (C:=U0) (aT:=λ_=>[]) (AL (Qz _ t g f r w1 K) ?_);refine aM.go H λb a H=>⟨_,pF H (Bf _ DB) A.1,an rfl (aj.at 0 H rfl (show _=some (t,g,f,r,()) from rfl) ⟨_,QG (t,g,f,r,()) a,?_⟩)⟩;rw[J];refine an rfl ⟨rfl,aj.cA 0 H rfl rfl ⟨rfl,aj.cA 0 H rfl rfl ?_⟩⟩;have d:aK D G w0 a ((tb,dq s sz)::(Ls++((b,[aa t,aa g,aa f,aa r])::L))):=H.perm Ju;refine Bu d hs (by omega) A.1 t g λs1 Ls1 w3 j d=>?_;have M:=List.length_filter_le (λl=> !mr l t g) ls;have v: ∀{c:Option A2×Nat×Nat} {o:List DM} {e:List (Nat×List AC)} {h:A1},dv ku c o e->o.length<=ls.length->o++[(t,g,f,r,())]=Ei ls sz (t,g,f,r,())->aK D G w0 h ((tb,dq c sz)::(e++((b,[aa t,aa g,aa f,aa r])::L)))->
  ((some (⟨tb,0,none⟩:A2)).isSome=true/\(some (⟨tb,0,none⟩:A2)).isSome=true/\aj h none (ad (af tb) 0) (.one .slice) λx=>aj h none (af b) ku λp=>aM h ⟨[aa p.1,aa p.2.1,aa p.2.2.1,aa p.2.2.2.1]⟩ 96 λb a=> ∀w1,Ext a w1->
    mH w1 96 4 32 ⟨[aa 0,aa 0,aa 0,aa 0]⟩ (x.1,x.2.1,x.2.2) (some ⟨b,0,none⟩,1,1) λr a=>(some (⟨tb,0,none⟩:A2)).isSome=true/\(some (⟨tb,0,none⟩:A2)).isSome=true/\aC a (ad (af tb) 0) [.slice r.1 r.2.1 r.2.2] λa=>au a λw1=>K 0 w1):=by
  intro c o e h N adk O P;have m:=P.perm (L':=(b,[aa t,aa g,aa f,aa r])::(tb,dq c sz)::(e++L)) Ju.symm;refine⟨rfl,rfl,aj.cA 1 m rfl (show _=some (c.1,c.2.1,c.2.2) from rfl) (aj.at 0 m rfl (show _=some (t,g,f,r,()) from rfl) (aM.go m λy w5 m Q R=>?_))⟩;have E:=m.ext R;have S:=E.get (i:=0) rfl;have T:aK D G w0 Q (e++((tb,dq c sz)::(b,[aa t,aa g,aa f,aa r])::(y,[aa t,aa g,aa f,aa r])::L)):=E.perm (ZV _ _ _ _ _);refine aK.Uy T N rfl (q:=(some ⟨y,0,none⟩,1,1)) (ys:=[(t,g,f,r,())]) rfl ?_ rfl rfl (by simp only[List.length_singleton];omega) λU F w7 I V=>?_
  ·exact bN.oQ (vs:=flat ku [(t,g,f,r,())]) S rfl λi hi=>by rw[CL];rfl
  ·rw[O] at I;have n:=V.perm (L':=(tb,dq c sz)::(F++((b,[aa t,aa g,aa f,aa r])::(y,[aa t,aa g,aa f,aa r])::L))) B3.symm;refine⟨rfl,rfl,aC.gJ 0 n rfl rfl rfl λw8 n=>au.go n λW n=>k U F W I (n.sub ?_)⟩;exact S1 _ (List.Sublist.append_left (S2 _ (S2 _ (S0 _))) _)
 refine⟨λ_=>rfl,λ_=>rfl,aj.kM d DB (show _=some (s1.1,s1.2.1,s1.2.2) from rfl) ⟨λ_=>rfl,λ_=>rfl,aj.kM d DB (show _=some sz from rfl) ?_⟩⟩;dsimp only;have z:=j.1;cases u:ls.any (λl=>mr l t g) with
 |true=>
  refine an rfl (v j M ?_ d);unfold Ei;rw[aw u]
 |false=>
  have X:ls.filter (λl=> !mr l t g)=ls:=KC.2 λx hx=>by
   have:=(List.any_eq_false.1 u) x hx;simpa using this
  rw[X] at j z;by_cases hc:(ls.length:Int)=sz
  ·refine ay (by rw[z,hc];simp) ?_;have h0:0<ls.length:=by omega
   refine Jt d j (by omega) 0 h0 λc e h Y Z=>v Y (by rw[List.length_eraseIdx];split<;>omega) ?_ Z;unfold Ei;rw[ao (by rw[u];decide),aw hc];cases ls with
   |nil=>exact absurd h0 (by simp)
   |cons x r=>rfl
  ·refine an (by rw[z];simpa using hc) (v j (DQ _) ?_ d);unfold Ei;rw[ao (by rw[u];decide),ao hc]
theorem Vg (H:aK D G w0 w ((tb,dq s sz)::(Ls++L))) (hs:dv ku s ls Ls) (J:(ls.length:Int)<=64) (o:0<sz) (t g k:Int):
 ae AB 201 [ag (af tb),aa t,aa g,aa k] w ((Sh.bu [.one (.int .i64),.one (.int .i64)]).ia (yE ls t g k)):=by
 refine ae.of (s:= .bu [.one (.int .i64),.one (.int .i64)]) λw1 h1=>ai (C:=U0) (aT:=uo) (AL (QA _ t g k w1 _) ?_);have H:=H.ext h1;have p:=hs.1;have r:=hs.sl H (λy u=>Bf _ (DA _ u));refine⟨_,pF H DB o,an rfl ⟨rfl,rfl,aj.cA 0 H rfl (show _=some (s.1,s.2.1,s.2.2) from rfl) ?_⟩⟩;refine⟨λn st d=> ∃j:Nat,j<=ls.length/\n=ls.length - j/\st.1=(j:Int)/\(ls.take j).find? (λx=>mr x t g)=none/\Ext w1 d,⟨ls.length,λd a=>⟨0,GO _,rfl,rfl,rfl,a⟩⟩,?_⟩;rintro n ⟨i, _⟩ d ⟨j,f,v,hi,e,a⟩;have hi:i=(j:Int):=hi;subst hi v;dsimp only;rw[p];refine ab (λc=>?_) (λc=>?_)
 ·have f:j<ls.length:=by have:=of_decide_eq_true c;omega
  obtain⟨x,hx⟩: ∃x,ls[j]? =some x:=⟨_,DY f⟩;have h:=r j x hx;have H0:aK [] [] w1 d []:=(At.start [] w1).ext a;refine⟨⟨h.1,by omega,by omega⟩,aj.of x (by rw[E4];exact tJ a h.2) (aM.go H0 λb z H0=>aC.all 0 H0 rfl rfl rfl λA H0=>aj.at 0 H0 rfl (show _=some (x.1,x.2.1,x.2.2.1,x.2.2.2.1,()) from rfl) ⟨_,XP (x.1,x.2.1,x.2.2.1,x.2.2.2.1,()) t g A,?_⟩)⟩;have B:mr (x.1,x.2.1,x.2.2.1,x.2.2.2.1,()) t g=mr x t g:=rfl;rw[B];cases l:mr x t g with
  |false=>
   refine ay rfl λm E=>⟨ls.length - (j+1),by omega,j+1,by omega,rfl,?_,?_,(H0.ext E).all⟩
   ·rw[av (by omega) (by omega)];omega
   ·rw[H5,hx,OM,e];rw[Option.none_or];show List.find? _ [x]=none;rw[OO,l];rfl
  |true=>
   have F:ls.find? (λx=>mr x t g)=some x:=by
    rw[<-Dn j ls,OM,e,jk hx,OO,l];rfl
   have hv:yE ls t g k=if k<0\/k>7\/gN .i64 k x.2.2.2.1≠0 then(0,7,()) else(x.2.2.1,0,()):=by
    unfold yE;rw[F]
   rw[hv];refine an rfl ⟨λ_=>rfl,aj.cA 0 H0 rfl rfl ?_⟩;refine ab (λc=>au.go H0 λm H0=>⟨?_,H0.all⟩) (λc=>⟨rfl,aj.cA 0 H0 rfl rfl (au.go H0 λm H0=>⟨?_,H0.all⟩)⟩)
   ·simp only[Et,decide_eq_true_eq,bne_iff_ne] at c;rw[aw ?_];rcases c with (c|c)|c
    ·exact .inl c
    ·exact .inr (.inl c)
    ·exact .inr (.inr c)
   ·simp only[F2,decide_eq_false_iff_not,bne_eq_false_iff_eq] at c;rw[ao ?_];rintro(q|q|q)
    ·exact c.1.1 q
    ·exact c.1.2 q
    ·exact q c.2
 ·have:j=ls.length:=by have:=of_decide_eq_false c;omega
  subst this;rw[KE] at e;intro z I;refine⟨?_,a.trans I⟩;unfold yE;rw[e]
theorem Ly (H:aK D G w0 w ((tb,dq s sz)::(Ls++L))) (hs:dv ku s ls Ls) (l:(ls.length:Int)<=64) (d:0<sz) {K:Option A2×Nat×Nat->A1->Prop}
 (k: ∀r a b,dv ku r ls a->aK D G w0 b (a++((tb,dq s sz)::(Ls++L)))->K r b):
 aA AB 83 (.el (.one .slice)) [ag (af tb)] w K:=by
 refine aA.go H λw1 H=>ai (C:=U0) (aT:=λ_=>[]) (AL (Lg _ w1 K) ?_);refine⟨_,pF H DB d,an rfl ⟨rfl,rfl,aj.cA 0 H rfl (show _=some (s.1,s.2.1,s.2.2) from rfl) λb e=>?_⟩⟩;have c:=H.ext e;refine aK.Uy (Ls:=[]) c (dv.nil ku) rfl (q:=s) hs.1 (hs.oQ c (λy f=>Bf _ (DA _ f))) rfl rfl (by simp only[OV];omega) λr a m g h=>au.go h λi j=>k _ a i g j
theorem Vh (H:aK D G w0 w L) (n:Int) {K:Option A2×Int×Unit->A1->Prop} (kb:n<1\/n>64-> ∀w1,aK D G w0 w1 L->K (none,1,()) w1)
 (e:1<=n->n<=64-> ∀b w1,aK D G w0 w1 ((b,dq (none,0,0) n)::L)->K (some ⟨b,0,none⟩,0,()) w1):
 aA AB 86 (.bu [.one .ptr,.one (.int .i64)]) [aa n] w K:=by
 refine aA.go H λw1 H=>ai (C:=U0) (aT:=λ_=>[]) (AL (U7 n w1 K) ?_);refine ab (λc=>au.go H λa H=>kb (by simpa using c) a H) (λc=>aM.go H λb a H=>au.go H λf H=>?_);have d:1<=n/\n<=64:=by
  simp only[F2,decide_eq_false_iff_not] at c;omega
 exact e d.1 d.2 b f H
end
def kI (v:AC):Int:=match v with
 | .int _ n=>n
 | _=>0
abbrev F9 (e:Int×Int):KV:=(e.1,aa e.2)
section
variable {D G:List Nat} {w0 w:A1} {L Ls:List (Nat×List AC)} {M M0:List (Nat×AY)} {es:List B2} {mb ck b:Nat}
theorem stM (H:cF D G w0 w (Ls++L) M) {e:El} {s:Option A2×Nat×Nat} {xs:List e.T} (hs:dv e s xs Ls) {i:Nat} (hi:i<xs.length) (y:e.T) {vs:List AC} (hv:vs=cellsOf e y) (b:im e=true) {K:A1->Prop}
 (k: ∀a w1,dv e s (xs.set i y) a->cF D G w0 w1 (a++L) M->K w1):aC w (ad s.1 (i*aF e)) vs K:=λw1 h1=>
 hs.st (H.ext h1).base.again hi y hv b (λa c d f=>k a c d ((H.ext h1).join f)) w1 (Ext.refl w1)
theorem FO (H:cF D G w0 w (Ls++L) M) {e:El} {s:Option A2×Nat×Nat} {xs:List e.T} (hs:dv e s xs Ls) (b:im e=true) {q:Option A2×Nat×Nat} {ys:List e.T} (c:q.2.1=ys.length) (d:Go.RX.oQ w q.1 (q.2.1*aF e) (flat e ys))
 {t:F4} {size bytes:Nat} {z:Array AC} (f:size=aF e) (g:z.size=aF e) (hb:(xs.length+ys.length)*bytes<=140737488355328) {R:Option A2×Nat×Nat->A1->Prop}
 (k: ∀s' a w',dv e s' (xs++ys) a->cF D G w0 w' (a++L) M->R s' w'):mH w t size bytes z s q R:=
 aK.Uy H.base.again hs b c d f g hb λs' a w' h1 h=>k s' a w' h1 (H.join h)
theorem rY {e:El} {a:Nat} {x:e.T} (h:bN w a (cellsOf e x)):Go.RX.oQ w (af a) (1*aF e) (flat e [x]):=
 bN.oQ (vs:=flat e [x]) h (by rw[aG];rfl) λi hi=>by rw[CL];show(cellsOf e x)[i]? =(cellsOf e x++[])[i]?;rw[Gw]
theorem QI {r:Option A2×Nat×Nat} {R:List Int} {x:Int} (H:cF D G w0 w (Ls++L) M) (hs:dv eI r (R++[x]) Ls) (T:R.Pairwise (· <= ·)) (hl:(R.length:Int)<4611686018427387904) {n0:Int} (hn:n0=R.length) {N:A1->Prop}
 (hN: ∀k E b,E.Pairwise (· <= ·)->E.Perm (x::R)->dv eI r E k->cF D G w0 b (k++L) M->N b):
 ∃I:Nat->Int×Unit->A1->Prop,(∃n, ∀w1,Ext w w1->I n (n0,()) w1)/\ ∀(U:Nat) (s:Int×Unit) (w1:A1),I U s w1->
  (decide (s.1>0)=true->r.1.isSome=true/\0<=aX .i64 s.1 1/\aX .i64 s.1 1<((r.2.1:Nat):Int))/\aj w1 (some (decide (s.1>0))) (ad r.1 ((aX .i64 s.1 1).toNat*1)) eI λ(aN:Int)=>
   aI (decide (s.1>0)&&decide (aN>x)) ((r.1.isSome=true/\0<=aX .i64 s.1 1/\aX .i64 s.1 1<((r.2.1:Nat):Int))/\aj w1 none (ad r.1 ((aX .i64 s.1 1).toNat*1)) eI λ(y:Int)=>
    (r.1.isSome=true/\0<=s.1/\s.1<((r.2.1:Nat):Int))/\aC w1 (ad r.1 (Ay s.1*1)) [aa y] λg=> ∀b,Ext g b-> ∃V,V<U/\I V (aX .i64 s.1 1,()) b)
    ((r.1.isSome=true/\0<=s.1/\s.1<((r.2.1:Nat):Int))/\aC w1 (ad r.1 (Ay s.1*1)) [aa x] λg=> ∀b,Ext g b->N b):=by
 refine⟨λn st w'=> ∃(F:List (Nat×List AC)) (c:Int),n<=R.length/\st.1=(n:Int)/\dv eI r (R.take n++(c::R.drop n)) F/\(∀y∈R.drop n,x<y)/\cF D G w0 w' (F++L) M,⟨R.length,λw1 h1=>⟨Ls,x,DQ _,hn,by rw[KE,H6];exact hs,λy e=>(by rw[H6] at e;cases e),H.ext h1⟩⟩,?_⟩;rintro n ⟨i, _⟩ w1 ⟨F,c,u,hi,l,W,v⟩;have hi:i=(n:Int):=hi;subst hi;dsimp only;have m:=l.1;have J:(R.take n++(c::R.drop n)).length=R.length+1:=by
  rw[D8,B5,OY,GD,Ef u];omega
 rw[J] at m;have cn:(R.take n++(c::R.drop n))[n]? =some c:=by
  rw[IX (by rw[B5];omega),B5,Ef u,Gd];rfl
 have z:=(l.sl v.base (λy e=>DA _ e) n c cn).1;have X:decide ((n:Int)>0)=false\/(∃p,R[n - 1]? =some p/\p<=x)->((r.1.isSome=true/\0<=(n:Int)/\(n:Int)<((r.2.1:Nat):Int))/\aC w1 (ad r.1 (Ay (n:Int)*1)) [aa x] λg=> ∀b,Ext g b->N b):=λK=>by
  refine⟨⟨z,by omega,by rw[m];omega⟩,?_⟩;rw[E4];refine stM v l (i:=n) (by rw[J];omega) x rfl rfl λk g o O b P=>?_;have Q:(R.take n++(c::R.drop n)).set n x=R.take n++(x::R.drop n):=by
   rw[Oc _ _ (by rw[B5];omega),B5,Ef u,Gd];rfl
  rw[Q] at o;refine hN k _ b ?_ ?_ o (O.ext P)
  ·have A:=T;rw[<-Dn n R,Oe] at A;refine Oe.2 ⟨A.1,List.pairwise_cons.2 ⟨λy e=>Int.le_of_lt (W y e),A.2.1⟩,λa B d S=>?_⟩;rcases B4.1 S with rfl|S
   ·rcases K with K|⟨p,f,Y⟩
    ·have:n=0:=by have:=of_decide_eq_false K;omega
     subst this;rw[Of] at B;cases B
    ·obtain⟨j,t⟩:=GH B;have Ol:j<(R.take n).length:=(CJ.1 t).1;rw[B5] at Ol;rw[Oi (by omega)] at t;have Ub:n - 1<R.length:=(CJ.1 f).1;rcases Nat.lt_or_ge j (n - 1) with q|q
     ·have Z:=CJ.1 t;have hpa:=CJ.1 f;have:=List.pairwise_iff_getElem.1 T j (n - 1) Z.1 Ub q;rw[Z.2,hpa.2] at this;exact Int.le_trans this Y
     ·have:j=n - 1:=by omega
      subst this;rw[f] at t;cases t;exact Y
   ·exact A.2.2 a B d S
  ·exact B3.trans (DD x (by rw[Dn]))
 cases n with
 |zero=>
  have C:decide (((0:Nat):Int)>0)=false:=by decide
  refine⟨λh=>(by rw[C] at h;cases h),0,λh=>(by rw[C] at h;cases h),an (by rw[C];rfl) (X (.inl C))⟩
 |succ j=>
  have oU:decide (((j+1:Nat):Int)>0)=true:=decide_eq_true (by omega);have Zi:aX .i64 ((j+1:Nat):Int) 1=(j:Int):=by rw[bC (by omega) (by omega)];omega
  obtain⟨p,f⟩: ∃p,R[j]? =some p:=⟨_,DY (by omega)⟩;have hcj:(R.take (j+1)++(c::R.drop (j+1)))[j]? =some p:=by
   rw[Gu (by rw[B5];omega),Oi (by omega),f]
  have Cq:=(l.sl v.base (λy e=>DA _ e) j p hcj).2;rw[Zi];refine⟨λ_=>⟨z,by omega,by rw[m];omega⟩,aj.of p (by rw[E4];exact Cq) ?_⟩;refine ab (λhc=>?_) (λhc=>X (.inr ⟨p,(show R[j+1 - 1]? =some p from f),?_⟩))
  ·rw[oU,Gi,decide_eq_true_eq] at hc;refine⟨⟨z,by omega,by rw[m];omega⟩,aj.of p (by rw[E4];exact Cq) ⟨⟨z,by omega,by rw[m];omega⟩,?_⟩⟩;rw[E4];refine stM v l (i:=j+1) (by rw[J];omega) p rfl rfl λk g o O b P=>⟨j,Hb j,k,p,by omega,rfl,?_,?_,O.ext P⟩
   ·have Q:(R.take (j+1)++(c::R.drop (j+1))).set (j+1) p=R.take j++(p::R.drop j):=by
     rw[Oc _ _ (by rw[B5];omega),B5,Ef u,Gd];rw[H5,f,jk f,F5];rfl
    rw[Q] at o;exact o
   ·intro y e;rw[jk f] at e;rcases B4.1 e with rfl|e
    ·exact hc
    ·exact W y e
  ·rw[oU,Gi,decide_eq_false_iff_not] at hc;show p<=x;omega
theorem Bv {e:B2} {seen:Array Nat} {f:B2->Bool} (hs:seen.contains e.born=false): ∀{es:List B2},(es.map (·.born)).Nodup->e∈es->
 (es.filter λx=>(seen.push e.born).contains x.born&&f x).Perm (if f e=true then e::es.filter (λx=>seen.contains x.born&&f x) else es.filter (λx=>seen.contains x.born&&f x))
 |[], _,h=>by cases h
 |y::es,a,hm=>by
  rw[CK,Bx] at a;have b: ∀z:Nat,(seen.push e.born).contains z=(seen.contains z||z==e.born):=λz=>by
   rw[Array.contains_push]
  rcases B4.1 hm with rfl|hm
  ·have g: ∀x∈es,(x.born==e.born)=false:=λx hx=>by
    have:x.born≠e.born:=λc=>a.1 (by rw[<-c];exact AM.2 ⟨x,hx,rfl⟩);simpa using this
   have i:es.filter (λx=>(seen.push e.born).contains x.born&&f x)=es.filter (λx=>seen.contains x.born&&f x):=List.filter_congr λx hx=>by
    rw[b,g x hx,Bool.or_false]
   rw[GJ,GJ,b,i,hs];cases k:f e
   ·simp
   ·simp
  ·have d:=Bv hs (f:=f) a.2 hm;have j:(y.born==e.born)=false:=by
    have:y.born≠e.born:=λc=>a.1 (by rw[c];exact AM.2 ⟨e,hm,rfl⟩);simpa using this
   rw[GJ,GJ,b,j,Bool.or_false];cases l:(seen.contains y.born&&f y)
   ·simpa using d
   ·simp only[if_true];refine(DD y d).trans ?_;split
    ·exact Ep _ _ _
    ·exact List.Perm.refl _
end
end Go.Proofs.YtlcenllcmeebhaaGreat.Mu
namespace Go.Proofs.YtlcenllcmeebhaaGreat
set_option maxRecDepth 100000
open Go.RX
abbrev sG:List Sc:=[.int .i64,.int .i64,.int .i64,.bool,.int .i64]
abbrev eG:El:= .agg sG
abbrev GT:Type:=Int×Int×Int×Bool×Int×Unit
def zG:GT:=(0,0,0,false,0,())
def gG (n:Int):Bool:=decide (n>=1)&&decide (n<=16)
def mN (o p t:Int) (b:Bool) (u:Int):Bool:=decide (((o,p,t,b,u,()):GT)=zG)
noncomputable def G0:dM AB:={C3 with vN:=false}
theorem Lz (n:Int) (w:A1) (a:Bool->A1->Prop):(aJ G0 (λ_=>[]) 225 [aa n] w a)=(
 au w (a (decide (n>=1)&&decide (n<=16)))):=by kernel_rfl
theorem QJ (o p t:Int) (b:Bool) (u:Int) (w:A1) (a:Bool->A1->Prop):(aJ G0 (λ_=>[]) 210 [.agg ⟨[aa o,aa p,aa t,.bool b,aa u]⟩] w a)=(
 aM w ⟨[aa o,aa p,aa t,.bool b,aa u]⟩ 255 λb c=>aj c none (af b) (.agg [.int .i64,.int .i64,.int .i64,.bool,.int .i64]) λ(x:Int×Int×Int×Bool×Int×Unit)=>au c λw1=>a (x.1==0&&(x.2.1==0&&(x.2.2.1==0&&(x.2.2.2.1==false&&(x.2.2.2.2.1==0&&true))))) w1):=by kernel_rfl
theorem LA (n:Int) (w:A1):aD AB 225 (.el (.one .bool)) [aa n] w (λx w'=>x=gG n/\Ext w w'):=by
 refine ai (C:=G0) (aT:=λ_=>[]) (AL (Lz n w _) ?_);have H:=At.start [] w
 repeat' (first
  |exact Go.RX.aK.all H
  |exact And.intro (by first|rfl|decide+kernel) (Go.RX.aK.all H)
  |refine And.intro (by first|exact rfl|exact trivial|exact λ_=>rfl|exact λ_=>trivial|exact⟨rfl,by decide,by decide⟩|exact⟨by decide,by decide⟩|decide+kernel|exact λ_=>by decide|exact λ_=>⟨rfl,by decide,by decide⟩|(dsimp only[OY,OV];exact⟨rfl,by decide,by decide⟩)) ?_
  |refine aj.cA 0 H rfl rfl ?_
  |refine aj.cA 1 H rfl rfl ?_
  |refine aj.at 0 H rfl rfl ?_
  |refine aj.at 1 H rfl rfl ?_
  |refine aM.go H λb w1 H=>?_
  |refine aC.all 0 H rfl rfl rfl λw1 H=>?_
  |refine aC.all 1 H rfl rfl rfl λw1 H=>?_
  |refine aC.gJ 0 H rfl rfl rfl λw1 H=>?_
  |refine aC.gJ 1 H rfl rfl rfl λw1 H=>?_
  |refine aC.one 0 H rfl rfl rfl λw1 H=>?_
  |refine aC.one 1 H rfl rfl rfl λw1 H=>?_
  |with_reducible refine au.go H λw1 H=>?_
  |refine km ?_
  |refine ay (by assumption) ?_
  |refine an (by assumption) ?_
  |refine ab (λc=>?_) (λc=>?_))
theorem QK (o p t:Int) (b:Bool) (u:Int) (w:A1):aD AB 210 (.el (.one .bool)) [.agg ⟨[aa o,aa p,aa t,.bool b,aa u]⟩] w (λx w'=>x=mN o p t b u/\Ext w w'):=by
 refine ai (C:=G0) (aT:=λ_=>[]) (AL (QJ o p t b u w _) ?_);have H:=At.start [] w;refine aM.go H λa c H=>aj.at 0 H rfl rfl (au.go H λd H=>⟨?_,H.all⟩);unfold mN zG;rw[IM];simp
noncomputable def Vi:Entry AB where
 f:=225
 fn l:=match l with
  |[.int .i64 a]=>some (True,.bool (gG a))
  | _=>none
 ok args pre v h b w:=by
  split at h
  ·rename_i a;cases h;exact bW (LA a w)
  ·cases h
noncomputable def ZW:Entry AB where
 f:=210
 fn l:=match l with
  |[.agg ⟨[.int .i64 o,.int .i64 p,.int .i64 t,.bool b,.int .i64 u]⟩]=>some (True,.bool (mN o p t b u))
  | _=>none
 ok args pre v h a w:=by
  split at h
  ·rename_i o p t b u;cases h;exact bW (QK o p t b u w)
  ·cases h
noncomputable def G3:dM AB:={G0 with sM:=[Vi,ZW],quiet:=[224,221,226,209],sh:=[]}
theorem LB (p:Option A2) (w:A1) (a:Bool->A1->Prop):(aJ G3 (λ_=>[]) 224 [ag p] w a)=(
 ((!p.isNone)=true->p.isSome=true)/\((!p.isNone)=true->p.isSome=true)/\aj w (some !p.isNone) (ad p 0) eH λx=>au w λw1=>a (!p.isNone&&decide ((↑x.2.1:Int)>0)) w1):=by kernel_rfl
theorem ZX (p:Option A2) (i:Int) (w:A1) (b:Option A2×Int×Unit->A1->Prop):(aJ G3 (λ_=>[]) 221 [ag p,aa i] w b)=(
 ∃x,ae AB 224 [ag p] w (.bool x)/\aI (!x) (au w (b (none,10,()))) (((!decide (i<0))=true->p.isSome=true)/\((!decide (i<0))=true->p.isSome=true)/\aj w (some !decide (i<0)) (ad p 0) eH λx=>((!(decide (i<0)||decide (i>=(↑x.2.1:Int))))=true->p.isSome=true)/\((!(decide (i<0)||decide (i>=(↑x.2.1:Int))))=true->p.isSome=true)/\aj w (some !(decide (i<0)||decide (i>=(↑x.2.1:Int)))) (ad p 0) eH λc=>((!(decide (i<0)||decide (i>=(↑x.2.1:Int))))=true->c.1.isSome=true/\0<=i/\i<
 (↑c.2.1:Int))/\aj w (some !(decide (i<0)||decide (i>=(↑x.2.1:Int)))) (ad c.1 (i.toNat*5)) (.agg [.int .i64,.int .i64,.int .i64,.bool,.int .i64]) λ(a:Int×Int×Int×Bool×Int×Unit)=>((!(decide (i<0)||decide (i>=(↑x.2.1:Int))))=true->True)/\aI (decide (i<0)||decide (i>=(↑x.2.1:Int))||mN a.1 a.2.1 a.2.2.1 a.2.2.2.1 a.2.2.2.2.1) (au w (b (none,4,()))) (fj p 0 w λx=>(x.1.isSome=true/\0<=i/\i<(↑x.2.1:Int))/\au w (b (ad x.1 (i.toNat*5),0,()))))):=by kernel_rfl
theorem QL (o q t:Int) (b:Bool) (u:Int) (c:Option A2) (w:A1) (d:Bool->A1->Prop):(aJ G3 (λ_=>[]) 226 [.agg ⟨[aa o,aa q,aa t,.bool b,aa u]⟩,ag c] w d)=(
 aM w ⟨[aa o,aa q,aa t,.bool b,aa u]⟩ 255 λb a=>aj a none c (.agg [.int .i64,.int .i64,.int .i64,.bool,.int .i64]) λ(x:Int×Int×Int×Bool×Int×Unit)=>true=true/\aW a (ad (af b) 0) λe=>true=true/\aW a (ad (af b) 1) λf=>true=true/\aW a (ad (af b) 2) λg=>au a λw1=>d (x.1==e&&(x.2.1==f&&(x.2.2.1==g&&(x.2.2.2.1==false&&(x.2.2.2.2.1==0&&true))))) w1):=by kernel_rfl
theorem LC (o q t:Int) (b:Bool) (u:Int) (c:Option A2) (w:A1) (f:Bool->A1->Prop):(aJ G3 (λ_=>[]) 209 [.agg ⟨[aa o,aa q,aa t,.bool b,aa u]⟩,ag c] w f)=(
 aM w ⟨[aa o,aa q,aa t,.bool b,aa u]⟩ 255 λb a=>aj a none (af b) (.agg [.int .i64,.int .i64,.int .i64,.bool,.int .i64]) λ(x:Int×Int×Int×Bool×Int×Unit)=>True/\((!mN x.1 x.2.1 x.2.2.1 x.2.2.2.1 x.2.2.2.2.1)=true->true=true)/\aj a (some !mN x.1 x.2.1 x.2.2.1 x.2.2.2.1 x.2.2.2.2.1) (ad (af b) 0) aV λ(d:Int)=>aj a (some !mN x.1 x.2.1 x.2.2.1 x.2.2.2.1 x.2.2.2.2.1) c aV λ(e:Int)=>((!mN x.1 x.2.1 x.2.2.1 x.2.2.2.1 x.2.2.2.2.1&& !d==e)=true->true=true)/\aj a (some (!mN x.1
 x.2.1 x.2.2.1 x.2.2.2.1 x.2.2.2.2.1&& !d==e)) (ad (af b) 2) aV λ(g:Int)=>aj a (some (!mN x.1 x.2.1 x.2.2.1 x.2.2.2.1 x.2.2.2.2.1&& !d==e)) c aV λ(h:Int)=>au a (f (!mN x.1 x.2.1 x.2.2.1 x.2.2.2.1 x.2.2.2.2.1&&(d==e||g==h)))):=by kernel_rfl
def qZ:Nat->a6:=(λ|5=>[(5,Go.RX.El.one Go.RX.Sc.slice),(16,Go.RX.El.one (Go.RX.Sc.int Ax))]| _=>[])
theorem LD (p:Option A2) (w:A1) (e:Option A2×Nat×Nat->A1->Prop):(aJ G3 qZ 208 [ag p,.func (.func 210) #[] #[]] w e)=(
 ∃x,ae AB 224 [ag p] w (.bool x)/\aI (!x) (au w (e (none,0,0))) (fj p 0 w λx=> ∃(I:Nat->(Option A2×Nat×Nat)×Int×Unit->A1->Prop),(∃n, ∀w1,Ext w w1->I n ((none,0,0),0,()) w1)/\ ∀(n:Nat) (s:(Option A2×Nat×Nat)×Int×Unit) (w1:A1),I n s w1->aI (decide (s.2.1<(↑x.2.1:Int))) ((x.1.isSome=true/\0<=s.2.1/\s.2.1<(↑x.2.1:Int))/\aj w1 none (ad x.1 (Ay s.2.1*5)) (.agg [.int .i64,.int .i64,.int .i64,.bool,.int .i64]) λ(x:Int×Int×Int×Bool×Int×Unit)=>aM w1 ⟨[aa 0,
 aa 0,aa 0,.bool false,aa 0]⟩ 255 λb a=>aC a (af b) [aa x.1,aa x.2.1,aa x.2.2.1,.bool x.2.2.2.1,aa x.2.2.2.2.1] λa=>aj a none (af b) (.agg [.int .i64,.int .i64,.int .i64,.bool,.int .i64]) λ(x:Int×Int×Int×Bool×Int×Unit)=>True/\aI (mN x.1 x.2.1 x.2.2.1 x.2.2.2.1 x.2.2.2.2.1) (aM a ⟨[aa s.2.1]⟩ 3 λb a=> ∀w1,Ext a w1->mH w1 3 1 8 ⟨[aa 0]⟩ (s.1.1,s.1.2.1,s.1.2.2) (some ⟨b,0,none⟩,1,1) λ(r:Option A2×Nat×Nat) a=> ∀c,Ext a c-> ∃(d:Nat),d<n/\I d
 ((r.1,r.2.1,r.2.2),aH .i64 s.2.1 1,()) c) (∀c,Ext a c-> ∃(d:Nat),d<n/\I d ((s.1.1,s.1.2.1,s.1.2.2),aH .i64 s.2.1 1,()) c)) (au w1 (e (s.1.1,s.1.2.1,s.1.2.2))))):=by kernel_rfl
def q_:Nat->a6:=(λ|5=>[(5,Go.RX.El.one Go.RX.Sc.slice),(16,Go.RX.El.one (Go.RX.Sc.int Ax))]| _=>[])
theorem LF (p c:Option A2) (w:A1) (f:Option A2×Nat×Nat->A1->Prop):(aJ G3 q_ 208 [ag p,.func (.func 226) #[] #[ag c]] w f)=(
 ∃x,ae AB 224 [ag p] w (.bool x)/\aI (!x) (au w (f (none,0,0))) (fj p 0 w λx=> ∃(I:Nat->(Option A2×Nat×Nat)×Int×Unit->A1->Prop),(∃n, ∀w1,Ext w w1->I n ((none,0,0),0,()) w1)/\ ∀(n:Nat) (s:(Option A2×Nat×Nat)×Int×Unit) (w1:A1),I n s w1->aI (decide (s.2.1<(↑x.2.1:Int))) ((x.1.isSome=true/\0<=s.2.1/\s.2.1<(↑x.2.1:Int))/\aj w1 none (ad x.1 (Ay s.2.1*5)) (.agg [.int .i64,.int .i64,.int .i64,.bool,.int .i64]) λ(x:Int×Int×Int×Bool×Int×Unit)=>aM w1 ⟨[aa 0,
 aa 0,aa 0,.bool false,aa 0]⟩ 255 λb a=>aC a (af b) [aa x.1,aa x.2.1,aa x.2.2.1,.bool x.2.2.2.1,aa x.2.2.2.2.1] λa=>aj a none (af b) (.agg [.int .i64,.int .i64,.int .i64,.bool,.int .i64]) λ(x:Int×Int×Int×Bool×Int×Unit)=> ∃g,ae AB 226 [.agg ⟨[aa x.1,aa x.2.1,aa x.2.2.1,.bool x.2.2.2.1,aa x.2.2.2.2.1]⟩,ag c] a (.bool g)/\aI g (aM a ⟨[aa s.2.1]⟩ 3 λb a=> ∀w1,Ext a w1->mH w1 3 1 8 ⟨[aa 0]⟩ (s.1.1,s.1.2.1,s.1.2.2)
 (some ⟨b,0,none⟩,1,1) λ(r:Option A2×Nat×Nat) a=> ∀d,Ext a d-> ∃(e:Nat),e<n/\I e ((r.1,r.2.1,r.2.2),aH .i64 s.2.1 1,()) d) (∀d,Ext a d-> ∃(e:Nat),e<n/\I e ((s.1.1,s.1.2.1,s.1.2.2),aH .i64 s.2.1 1,()) d)) (au w1 (f (s.1.1,s.1.2.1,s.1.2.2))))):=by kernel_rfl
def rb:Nat->a6:=(λ|5=>[(5,Go.RX.El.one Go.RX.Sc.slice),(16,Go.RX.El.one (Go.RX.Sc.int Ax))]| _=>[])
theorem LG (p c:Option A2) (w:A1) (f:Option A2×Nat×Nat->A1->Prop):(aJ G3 rb 208 [ag p,.func (.func 209) #[] #[ag c]] w f)=(
 ∃x,ae AB 224 [ag p] w (.bool x)/\aI (!x) (au w (f (none,0,0))) (fj p 0 w λx=> ∃(I:Nat->(Option A2×Nat×Nat)×Int×Unit->A1->Prop),(∃n, ∀w1,Ext w w1->I n ((none,0,0),0,()) w1)/\ ∀(n:Nat) (s:(Option A2×Nat×Nat)×Int×Unit) (w1:A1),I n s w1->aI (decide (s.2.1<(↑x.2.1:Int))) ((x.1.isSome=true/\0<=s.2.1/\s.2.1<(↑x.2.1:Int))/\aj w1 none (ad x.1 (Ay s.2.1*5)) (.agg [.int .i64,.int .i64,.int .i64,.bool,.int .i64]) λ(x:Int×Int×Int×Bool×Int×Unit)=>aM w1 ⟨[aa 0,
 aa 0,aa 0,.bool false,aa 0]⟩ 255 λb a=>aC a (af b) [aa x.1,aa x.2.1,aa x.2.2.1,.bool x.2.2.2.1,aa x.2.2.2.2.1] λa=>aj a none (af b) (.agg [.int .i64,.int .i64,.int .i64,.bool,.int .i64]) λ(x:Int×Int×Int×Bool×Int×Unit)=> ∃g,ae AB 209 [.agg ⟨[aa x.1,aa x.2.1,aa x.2.2.1,.bool x.2.2.2.1,aa x.2.2.2.2.1]⟩,ag c] a (.bool g)/\aI g (aM a ⟨[aa s.2.1]⟩ 3 λb a=> ∀w1,Ext a w1->mH w1 3 1 8 ⟨[aa 0]⟩ (s.1.1,s.1.2.1,s.1.2.2)
 (some ⟨b,0,none⟩,1,1) λ(r:Option A2×Nat×Nat) a=> ∀d,Ext a d-> ∃(e:Nat),e<n/\I e ((r.1,r.2.1,r.2.2),aH .i64 s.2.1 1,()) d) (∀d,Ext a d-> ∃(e:Nat),e<n/\I e ((s.1.1,s.1.2.1,s.1.2.2),aH .i64 s.2.1 1,()) d)) (au w1 (f (s.1.1,s.1.2.1,s.1.2.2))))):=by kernel_rfl
theorem LH (p:Option A2) (o q t:Int) (b:Bool) (w:A1) (c:Int×Int×Unit->A1->Prop):(aJ G3 (λ_=>[]) 180 [ag p,aa o,aa q,aa t,.bool b] w c)=(
 ∃x,ae AB 224 [ag p] w (.bool x)/\aI (!x) (au w (c (0,10,()))) (True/\((!!gG o)=true->True)/\aI (!gG o|| !gG t||o==t||decide (q<0)||decide (q>=65536)) (au w (c (0,1,()))) (aM w ⟨[aa 0,aa 0,aa 0,.bool false,aa 0]⟩ 255 λe a=>aC a (af e) [aa o,aa q,aa t,.bool false,aa 0] λa=>aA AB 208 (.el eH) [ag p,.func (.func 226) ⟨[]⟩ {toList:=[ag (af e)]}] a λx a=>aI (decide ((↑x.2.1:Int)>0)) (au a (c (0,5,
 ()))) (aA AB 208 (.el eH) [ag p,.func (.func 210) ⟨[]⟩ ⟨[]⟩] a λx a=>aI ((↑x.2.1:Int)==0) (au a (c (0,3,()))) (true=true/\aC a (ad (af e) 3) [.bool b] λa=>fj p 0 a λf=>(x.1.isSome=true/\(0:Int)<=0/\0<(↑x.2.1:Int))/\aW a (ad x.1 0) λg=>aj a none (af e) (.agg [.int .i64,.int .i64,.int .i64,.bool,.int .i64]) λ(d:Int×Int×Int×Bool×Int×Unit)=>(f.1.isSome=true/\0<=g/\g<(↑f.2.1:Int))/\aC a (ad f.1 (g.toNat*5)) [aa d.1,aa d.2.1,
 aa d.2.2.1,.bool d.2.2.2.1,aa d.2.2.2.2.1] λa=>(x.1.isSome=true/\(0:Int)<=0/\0<(↑x.2.1:Int))/\aW a (ad x.1 0) λx=>au a (c (x,0,()))))))):=by kernel_rfl
theorem ZY (p:Option A2) (i:Int) (w:A1) (c:GT×Bool×Unit->A1->Prop):(bT G3 (λ_=>[]) 176 [ag p,aa i] w c)=(
 aM w ⟨[aa 0,aa 0,aa 0,.bool false,aa 0]⟩ 255 λb a=> ∃(x:Option A2×Int×Unit),ae AB 221 [ag p,aa i] a (.tuple ⟨[ag x.1,aa x.2.1]⟩)/\aI (x.2.1 != 0) (aC a (af b) [aa 0,aa 0,aa 0,.bool false,aa 0] λa=>au a λw1=>aj w1 none (af b) (.agg [.int .i64,.int .i64,.int .i64,.bool,.int .i64]) λ(x:Int×Int×Int×Bool×Int×Unit)=>c ((x.1,x.2.1,x.2.2.1,x.2.2.2.1,x.2.2.2.2.1,()),false,()) w1) (x.1.isSome=true/\aj a none x.1
 (.agg [.int .i64,.int .i64,.int .i64,.bool,.int .i64]) λ(x:Int×Int×Int×Bool×Int×Unit)=>aC a (af b) [aa x.1,aa x.2.1,aa x.2.2.1,.bool x.2.2.2.1,aa x.2.2.2.2.1] λa=>au a λw1=>aj w1 none (af b) (.agg [.int .i64,.int .i64,.int .i64,.bool,.int .i64]) λ(x:Int×Int×Int×Bool×Int×Unit)=>c ((x.1,x.2.1,x.2.2.1,x.2.2.2.1,x.2.2.2.2.1,()),true,()) w1)):=by kernel_rfl
theorem QM (p:Option A2) (i g:Int) (b:Bool) (w:A1) (a:Int->A1->Prop):(aJ G3 (λ_=>[]) 181 [ag p,aa i,aa g,.bool b] w a)=(
 ∃(x:Option A2×Int×Unit),ae AB 221 [ag p,aa i] w (.tuple ⟨[ag x.1,aa x.2.1]⟩)/\aI (x.2.1 != 0) (au w (a x.2.1)) (cN x.1 2 w λc=>((!c != g&&b)=true->x.1.isSome=true)/\((!c != g&&b)=true->x.1.isSome=true)/\aj w (some (!c != g&&b)) (ad x.1 3) rJ λd=>aI (c != g||b&& !d) (au w (a 7)) (cN x.1 4 w λe=>aI (e==1000) (au w (a 3)) (cN x.1 4 w λf=>x.1.isSome=true/\x.1.isSome=true/\aC w (ad x.1 4) [aa (aH .i64 f 1)] λh=>au h (a 0))))):=by kernel_rfl
theorem QN (p:Option A2) (i g:Int) (w:A1) (a:Int->A1->Prop):(aJ G3 (λ_=>[]) 182 [ag p,aa i,aa g] w a)=(
 ∃(x:Option A2×Int×Unit),ae AB 221 [ag p,aa i] w (.tuple ⟨[ag x.1,aa x.2.1]⟩)/\aI (x.2.1 != 0) (au w (a x.2.1)) (cN x.1 2 w λb=>aI (b != g) (au w (a 7)) (cN x.1 4 w λc=>aI (c==0) (au w (a 6)) (cN x.1 4 w λd=>x.1.isSome=true/\x.1.isSome=true/\aC w (ad x.1 4) [aa (aX .i64 d 1)] λe=>au e (a 0))))):=by kernel_rfl
theorem HJ (p:Option A2) (i o:Int) (w:A1) (a:Int->A1->Prop):(aJ G3 (λ_=>[]) 184 [ag p,aa i,aa o] w a)=(
 ∃(x:Option A2×Int×Unit),ae AB 221 [ag p,aa i] w (.tuple ⟨[ag x.1,aa x.2.1]⟩)/\aI (x.2.1 != 0) (au w (a x.2.1)) (cN x.1 0 w λb=>aI (b != o) (au w (a 7)) (cN x.1 4 w λc=>aI (decide (c>0)) (au w (a 9)) (x.1.isSome=true/\aC w x.1 [aa 0,aa 0,aa 0,.bool false,aa 0] λd=>au d (a 0))))):=by kernel_rfl
def uu:Nat->a6:=(λ|3=>[(13,Go.RX.El.one (Go.RX.Sc.int Ax))]| _=>[])
theorem QO (p:Option A2) (g:Int) (w:A1) (d:Int->A1->Prop):(aJ G3 uu 169 [ag p,aa g] w d)=(
 aM w ⟨[aa g]⟩ 3 λb a=>aA AB 208 (.el eH) [ag p,.func (.func 209) ⟨[]⟩ {toList:=[ag (af b)]}] a λx a=> ∃(I:Nat->Int×Unit->A1->Prop),(∃n, ∀w1,Ext a w1->I n (0,()) w1)/\ ∀(n:Nat) (s:Int×Unit) (w1:A1),I n s w1->aI (decide (s.1<(↑x.2.1:Int))) ((x.1.isSome=true/\0<=s.1/\s.1<(↑x.2.1:Int))/\aW w1 (ad x.1 (Ay s.1*1)) λx=>fj p 0 w1 λc=>(c.1.isSome=true/\0<=x/\x<(↑c.2.1:Int))/\aC w1 (ad c.1 (x.toNat*5)) [aa 0,aa 0,aa 0,.bool false,
 aa 0] λa=> ∀e,Ext a e-> ∃(f:Nat),f<n/\I f (aH .i64 s.1 1,()) e) (au w1 (d (↑x.2.1:Int)))):=by kernel_rfl
theorem Vj (n:Int) (w:A1) (a:Option A2×Int×Unit->A1->Prop):(aJ G3 (λ_=>[]) 73 [aa n] w a)=(
 aI (decide (n<1)||decide (n>64)) (au w (a (none,1,()))) (Od w 40 5 n n ⟨[aa 0,aa 0,aa 0,.bool false,aa 0]⟩ 255 λb c=>aM c {toList:=[.slice (af b) n.toNat n.toNat]} 215 λb c=>au c (a (some ⟨b,0,none⟩,0,())))):=by kernel_rfl
theorem Bw {lo sz:Int} (h:ee lo sz=true):lo.toNat+sz.toNat<=64/\1<=sz.toNat:=by
 have:=iQ.1 h;omega
theorem QP {w:BitVec 64} {lo sz:Int} (h:ee lo sz=true):(ft w lo sz).toNat=w.toNat / 2 ^ lo.toNat % 2 ^ sz.toNat:=by
 have a:=Bw h;apply PS;intro j;rw[Ga,UR h,Pz (by omega),Kt,Nat.testBit_div_two_pow,Ga,Nat.add_comm j,Bool.and_comm]
theorem QQ {w v:BitVec 64} {lo sz:Int} (h:ee lo sz=true) (b:w.toNat<2 ^ lo.toNat):(te w lo sz v).toNat=2 ^ lo.toNat*(v.toNat % 2 ^ sz.toNat)+w.toNat:=by
 have d:=Bw h;apply PS;intro j;rw[Ga,US h,Nat.testBit_two_pow_mul_add _ b];by_cases c:j<64
 ·rw[ZO (by omega) c];by_cases h1:j<lo.toNat
  ·rw[if_neg (by omega),if_pos h1,Ga]
  ·rw[if_neg h1,Kt,Ga];by_cases e:j<lo.toNat+sz.toNat
   ·rw[if_pos (by omega)];have:j - lo.toNat<sz.toNat:=by omega
    simp[this]
   ·rw[if_neg (by omega)];have a: ¬ j - lo.toNat<sz.toNat:=by omega
    simp only[a,decide_false,Bool.false_and];rw[<-Ga];exact Nat.testBit_lt_two_pow (HB b (Nat.pow_le_pow_right (by decide) (by omega)))
 ·rw[Rg _ _ (by omega),if_neg (by omega),Kt];have a: ¬ j - lo.toNat<sz.toNat:=by omega
  simp[a]
theorem abA (b:BitVec 64):U b=(b.toNat:Int):=rfl
theorem D6 {b:BitVec 64} {n:Nat} (h:b.toNat=n):U b=(n:Int):=by rw[abA,h]
def bB (b:Bool):BitVec 64:=if b then 1#64 else 0#64
def nB (b:Bool):Nat:=if b then 1 else 0
theorem PB (b:Bool):(bB b).toNat=nB b:=by cases b<;>rfl
theorem OZ (b:Bool):nB b<=1:=by cases b<;>decide
theorem pG {w v:BitVec 64} {lo sz:Int} {a n:Nat} (c:ee lo sz=true) (b:w.toNat=a) (d:a<2 ^ lo.toNat) (hv:v.toNat=n) (e:n<2 ^ sz.toNat):(te w lo sz v).toNat=2 ^ lo.toNat*n+a:=by
 rw[QQ c (by rw[b];exact d),hv,b,PP e]
theorem LI {p l:Bool} {r f:BitVec 64} {x y:Nat} (a:r.toNat=x) (hx:x<8) (b:f.toNat=y) (i:y<4096):
 (qT 0#64 0 [(bB p,1),(r,3),(bB l,1),(0#64,7),(f,12)]).toNat=nB p+2*x+16*nB l+4096*y:=by
 have j:=OZ p;have k:=OZ l;simp only[qT];rw[if_pos (by decide),if_pos (by decide),if_pos (by decide),if_pos (by decide),if_pos (by decide)];have c:=pG (w:=0#64) (lo:=0) (sz:=1) (by decide) (rfl:(0#64).toNat=0) (by decide) (PB p) (by show nB p<2;omega);have d:=pG (lo:=0+1) (sz:=3) (by decide) c (by show 1*nB p+0<2;omega) a (by show x<8;omega);have e:=pG (lo:=0+1+3) (sz:=1) (by decide) d (by show 2*x+(1*nB p+0)<16;omega) (PB l) (by show nB l<2;omega);have g:=pG (lo:=0+1+3+1) (sz:=7) (v:=0#64) (by decide) e (by show 16*nB l+(2*x+(1*nB p+0))<32;omega) (rfl:(0#64).toNat=0) (by decide);have h:=pG (lo:=0+1+3+1+7) (sz:=12) (by decide) g (by show 32*0+(16*nB l+(2*x+(1*nB p+0)))<4096;omega) b (by show y<4096;omega);rw[h];show 4096*y+(32*0+(16*nB l+(2*x+(1*nB p+0))))= _;omega
theorem HK (w:BitVec 64):mD w 0 [1,3,1,7,12,40]=some [ft w 0 1,ft w 1 3,ft w 4 1,ft w 5 7,ft w 12 12,ft w 24 40]:=by
 simp only[mD];rw[if_pos (by decide),if_pos (by decide),if_pos (by decide),if_pos (by decide),if_pos (by decide),if_pos (by decide)];rfl
theorem nU {w:BitVec 64} {lo sz:Int} (a b:Nat) (h:ee lo sz=true) (c:2 ^ lo.toNat=a) (hb:2 ^ sz.toNat=b):(ft w lo sz).toNat=w.toNat / a % b:=by
 rw[QP h,c,hb]
noncomputable def D0:dM AB:={C3 with vN:=true}
theorem Vk (b:Bool) (w:A1) (a:Int->A1->Prop):(aJ D0 (λ_=>[]) 249 [.bool b] w a)=(
 aI b (au w (a 1)) (au w (a 0))):=by kernel_rfl
theorem zk (p:Bool) (r:Int) (l:Bool) (f:Int) (w:A1) (d:Bool->A1->Prop):(aJ D0 (λ_=>[]) 94 [.agg ⟨[.bool p,aa r,.bool l,aa f]⟩] w d)=(
 aM w ⟨[.bool p,aa r,.bool l,aa f]⟩ 130 λb a=>true=true/\u9 a (ad (af b) 0) λx=>aI (!x) (aj a none (af b) kf λ(x:Bool×Int×Bool×Int×Unit)=>au a λw1=>d (x.1==false&&(x.2.1==0&&(x.2.2.1==false&&(x.2.2.2.1==0&&true)))) w1) (true=true/\aW a (ad (af b) 1) λx=>((!decide (x<0))=true->true=true)/\aj a (some !decide (x<0)) (ad (af b) 1) aV λ(c:Int)=>((!(decide (x<0)||decide (c>7)))=true->true=true)/\aj a (some !(decide (x<0)||decide (c>7))) (ad (af b) 3)
 aV λ(e:Int)=>((!(decide (x<0)||decide (c>7)||decide (e<0)))=true->true=true)/\aj a (some !(decide (x<0)||decide (c>7)||decide (e<0))) (ad (af b) 3) aV λ(g:Int)=>aI (decide (x<0)||decide (c>7)||decide (e<0)||decide (g>=4096)) (au a (d false)) (true=true/\aW a (ad (af b) 1) λx=>((!decide (x>0))=true->true=true)/\aj a (some !decide (x>0)) (ad (af b) 2) rJ λh=>au a (d (decide (x>0)|| !h))))):=by kernel_rfl
theorem Vl (x:Int) (w:A1) (a:Int->A1->Prop):(aJ D0 (λ_=>[]) 100 [aa x] w a)=(
 aI (decide (x<0)||decide (x>=4)) (au w (a 0)) (∀(b:Int),b=gq .i64 4 x->0<=b/\ ∀(x:Int),x=DW .i64 1 b->au w (a x))):=by kernel_rfl
theorem QR (x:Int) (w:A1) (a:Int->A1->Prop):(aJ D0 (λ_=>[]) 103 [aa x] w a)=(
 aI (decide (x<0)||decide (x>3)) (au w (a 0)) (aM w ⟨[aa 1,aa 16,aa 256,aa 4096]⟩ 3 λb c=>(true=true/\0<=x/\x<(↑4:Int))/\aW c (ad (af b) (x.toNat*1)) λx=>au c (a x))):=by kernel_rfl
theorem CX {w:A1} {b:Nat} {p:Bool} {r:Int} {l:Bool} {f:Int} (h:bN w b [.bool p,aa r,.bool l,aa f]):
 cL w (ad (af b) 0) (.one .bool) p/\cL w (ad (af b) 1) (.one (.int .i64)) r/\cL w (ad (af b) 2) (.one .bool) l/\cL w (ad (af b) 3) (.one (.int .i64)) f/\
  cL w (af b) (.agg [.bool,.int .i64,.bool,.int .i64]) (p,r,l,f,()):=by
 refine⟨?_,?_,?_,?_,?_⟩
 ·rw[aY];exact h.oD rfl
 ·rw[aY];exact h.oD rfl
 ·rw[aY];exact h.oD rfl
 ·rw[aY];exact h.oD rfl
 ·exact h.rdA λi _=>by rw[CL];rfl
def bU (p:Bool) (r:Int) (l:Bool) (f:Int):Bool:=
 match p with
 |true=>decide (0<=r)&&decide (r<=7)&&decide (0<=f)&&decide (f<4096)&&(decide (r>0)|| !l)
 |false=>decide (r=0)&& !l&&decide (f=0)
theorem zl (p:Bool) (r:Int) (l:Bool) (f:Int) (w:A1):aD AB 94 (.el (.one .bool)) [.agg ⟨[.bool p,aa r,.bool l,aa f]⟩] w (λb w'=>b=bU p r l f/\Ext w w'):=by
 refine ai (C:=D0) (aT:=λ_=>[]) (AL (zk p r l f w _) ?_);intro w1 h1;obtain⟨i,g1,j,e,k⟩:=CX (bN.new w1 [.bool p,aa r,.bool l,aa f] 130);refine⟨rfl,p,i,ab (λh=>⟨_,k,λg a=>⟨?_,(h1.jd _).trans a⟩⟩) (λh=>⟨rfl,r,g1,λ_=>rfl,r,λ_=>g1,λ_=>rfl,f,λ_=>e,λ_=>rfl,f,λ_=>e,ab (λd=>λg a=>⟨?_,(h1.jd _).trans a⟩) (λd=>⟨rfl,r,g1,λ_=>rfl,l,λ_=>j,λg a=>⟨?_,(h1.jd _).trans a⟩⟩)⟩)⟩
 ·have c:p=false:=by simpa using h
  subst c;by_cases c1:r=0<;>by_cases c2:f=0<;>cases l<;>simp[bU,c1,c2]
 ·have c:p=true:=by simpa using h
  subst c;simp only[Et,decide_eq_true_eq] at d;symm;simp only[bU,I2,decide_eq_false_iff_not];omega
 ·have c:p=true:=by simpa using h
  subst c;simp only[F2,decide_eq_false_iff_not] at d;have c1:0<=r:=by omega
  have c2:r<=7:=by omega
  have c3:0<=f:=by omega
  have c4:f<4096:=by omega
  simp[bU,c1,c2,c3,c4]
noncomputable def O0:Entry AB where
 f:=249
 fn l:=match l with
  |[.bool b]=>some (True,.int .u64 (U (bB b)))
  | _=>none
 ok args pre v h a w:=by
  split at h
  ·rename_i b;cases h;refine bW (x:=U (bB b)) (ai (C:=D0) (aT:=λ_=>[]) (AL (Vk b w _) ?_));exact ab (λhb w1 h1=>⟨by subst hb;rfl,h1⟩) (λhb w1 h1=>⟨by subst hb;rfl,h1⟩)
  ·cases h
noncomputable def vg:Entry AB where
 f:=94
 fn l:=match l with
  |[.agg ⟨[.bool p,.int .i64 r,.bool l,.int .i64 f]⟩]=>some (True,.bool (bU p r l f))
  | _=>none
 ok args pre v h a w:=by
  split at h
  ·rename_i p r l f;cases h;exact bW (zl p r l f w)
  ·cases h
def gU (x:Int):Int:=if x=0 then 1 else if x=1 then 16 else if x=2 then 256 else if x=3 then 4096 else 0
theorem Vm (x:Int) (w:A1):aD AB 100 (.el (.one (.int .i64))) [aa x] w (λb w'=>b=gU x/\Ext w w'):=by
 refine ai (C:=D0) (aT:=λ_=>[]) (AL (Vl x w _) ?_);refine ab (λh w1 h1=>⟨?_,h1⟩) (λh y a=>?_)
 ·simp only[Et,decide_eq_true_eq] at h;unfold gU;rw[ao (by omega),ao (by omega),ao (by omega),ao (by omega)]
 ·simp only[F2,decide_eq_false_iff_not] at h;rw[eO (by omega) (by omega)] at a;refine⟨by omega,λz c w1 h1=>⟨?_,h1⟩⟩;have:x=0\/x=1\/x=2\/x=3:=by omega
  rcases this with rfl|rfl|rfl|rfl<;>(subst a;rw[c];decide+kernel)
theorem QS (x:Int) (w:A1):aD AB 103 (.el (.one (.int .i64))) [aa x] w (λb w'=>b=gU x/\Ext w w'):=by
 refine ai (C:=D0) (aT:=λ_=>[]) (AL (QR x w _) ?_);refine ab (λh w1 h1=>⟨?_,h1⟩) (λh w1 h1=>?_)
 ·simp only[Et,decide_eq_true_eq] at h;unfold gU;rw[ao (by omega),ao (by omega),ao (by omega),ao (by omega)]
 ·simp only[F2,decide_eq_false_iff_not] at h;have sl:Sl (w1.alloc (.cells ⟨[aa 1,aa 16,aa 256,aa 4096]⟩ 3)) eI (af w1.heap.size) [1,16,256,4096]:=Sl.jK (bN.new w1 _ _) rfl;have hx:x.toNat<4:=by omega
  have g:[(1:Int),16,256,4096][x.toNat]? =some (gU x):=by
   have:x=0\/x=1\/x=2\/x=3:=by omega
   rcases this with rfl|rfl|rfl|rfl<;>rfl
  exact⟨⟨rfl,by omega,by omega⟩, _,(sl _ _ g).2,λc a=>⟨rfl,(h1.jd _).trans a⟩⟩
noncomputable def O1:Entry AB where
 f:=100
 fn l:=match l with
  |[.int .i64 x]=>some (True,.int .i64 (gU x))
  | _=>none
 ok args pre v h a w:=by
  split at h
  ·rename_i x;cases h;exact bW (Vm x w)
  ·cases h
noncomputable def G4:Entry AB where
 f:=103
 fn l:=match l with
  |[.int .i64 x]=>some (True,.int .i64 (gU x))
  | _=>none
 ok args pre v h a w:=by
  split at h
  ·rename_i x;cases h;exact bW (QS x w)
  ·cases h
noncomputable def D1:dM AB:={D0 with sM:=[tA,vO,Gn,Gp,O0,vg,O1,G4]}
theorem QT (p:Bool) (r:Int) (l:Bool) (f:Int) (w:A1) (e:Bool->A1->Prop):(aJ D1 (λ_=>[]) 96 [.agg ⟨[.bool p,aa r,.bool l,aa f]⟩] w e)=(
 aM w ⟨[.bool p,aa r,.bool l,aa f]⟩ 130 λb a=>true=true/\u9 a (ad (af b) 0) λx=>(x=true->true=true)/\aj a (some x) (ad (af b) 1) aV λ(d:Int)=>aj a (some (x&&d==0)) (af b) kf λ(c:Bool×Int×Bool×Int×Unit)=>((x&&d==0)=true->True)/\au a (e (x&&d==0&&bU c.1 c.2.1 c.2.2.1 c.2.2.2.1))):=by kernel_rfl
theorem LJ (p:Bool) (r:Int) (l:Bool) (f:Int) (t:Int) (w:A1) (d:Bool->A1->Prop):(aJ D1 (λ_=>[]) 145 [.agg ⟨[.bool p,aa r,.bool l,aa f]⟩,aa t] w d)=(
 aM w ⟨[.bool p,aa r,.bool l,aa f]⟩ 130 λb a=>aj a none (af b) kf λ(x:Bool×Int×Bool×Int×Unit)=>True/\(bU x.1 x.2.1 x.2.2.1 x.2.2.2.1=true->true=true)/\aj a (some (bU x.1 x.2.1 x.2.2.1 x.2.2.2.1)) (ad (af b) 1) aV λ(c:Int)=>((bU x.1 x.2.1 x.2.2.1 x.2.2.2.1&&decide (c>0)&&decide (t>=0)&&decide (t<=7))=true->true=true)/\aj a (some (bU x.1 x.2.1 x.2.2.1 x.2.2.2.1&&decide (c>0)&&decide (t>=0)&&decide (t<=7))) (ad (af b) 1) aV λ(g:Int)=> ∀(e:Int),e=gN .i64 t
 g->au a (d (bU x.1 x.2.1 x.2.2.1 x.2.2.2.1&&decide (c>0)&&decide (t>=0)&&decide (t<=7)&&e==0))):=by kernel_rfl
theorem QU (x y:Int) (w:A1) (b:Int->A1->Prop):(aJ D1 (λ_=>[]) 87 [aa x,aa y] w b)=(
 ((!(decide (x<0)||decide (x>=65536)))=true->True)/\ ∀(c:Int),c=gU y->aI (decide (x<0)||decide (x>=65536)||c==0) (au w (b (-1))) (∀(a:Int),a=aE .u64 x-> ∀(x:Int),x=gq .i64 4 y->U (B a)=a/\ ∀(d:Int),d=U (ft (B a) x 4)-> ∀(x:Int),x=aE .i64 d->au w (b x))):=by kernel_rfl
theorem LK (x y:Int) (w:A1) (a:Int->A1->Prop):(aJ D1 (λ_=>[]) 63 [aa x,aa y] w a)=(
 ((!(decide (x<0)||decide (x>65535)))=true->True)/\ ∀(c:Int),c=gU y->aI (decide (x<0)||decide (x>65535)||c==0) (au w (a (-1))) (True/\ ∀(b:Int),b=gU y->b≠0/\ ∀(d:Int),d=xm .i64 x b-> ∀(x:Int),x=dz d 16->au w (a x))):=by kernel_rfl
theorem QV (p:Bool) (r:Int) (l:Bool) (f:Int) (w:A1) (c:Int×Int×Unit->A1->Prop):(aJ D1 (λ_=>[]) 243 [.agg ⟨[.bool p,aa r,.bool l,aa f]⟩] w c)=(
 aM w ⟨[.bool p,aa r,.bool l,aa f]⟩ 130 λb a=>aj a none (af b) kf λ(x:Bool×Int×Bool×Int×Unit)=>True/\aI (!bU x.1 x.2.1 x.2.2.1 x.2.2.2.1) (au a (c (0,11,()))) (true=true/\u9 a (ad (af b) 0) λx=>True/\ ∀(d:Int),d=U (bB x)->true=true/\aW a (ad (af b) 1) λx=> ∀(e:Int),e=aE .u64 x->true=true/\u9 a (ad (af b) 2) λx=>True/\ ∀(g:Int),g=U (bB x)->true=true/\aW a (ad (af b) 3) λx=> ∀(h:Int),h=aE .u64 x->aM a {toList:=[az d,
 aa 1,az e,aa 3,az g,aa 1,az 0,aa 7,az h,aa 12]} 304 λb a=>aA AB 248 (.el rI) [.slice (af b) 5 5] a λ(x:Int) a=>au a (c (x,0,())))):=by kernel_rfl
theorem QW (v:Int) (w:A1) (e:(Bool×Int×Bool×Int×Unit)×Bool×Unit->A1->Prop):(bT D1 (λ_=>[]) 59 [az v] w e)=(
 aM w ⟨[.bool false,aa 0,.bool false,aa 0]⟩ 130 λb a=>aM a ⟨[aa 1,aa 3,aa 1,aa 7,aa 12,aa 40]⟩ 3 λi a=>aA AB 93 (.el eH) [az v,.slice (af i) 6 6] a λx a=>(x.1.isSome=true/\(0:Int)<=0/\0<(↑x.2.1:Int))/\cM a (ad x.1 0) λj=>(x.1.isSome=true/\(0:Int)<=1/\1<(↑x.2.1:Int))/\cM a (ad x.1 1) λk=> ∀(g:Int),g=aE .i64 k->(x.1.isSome=true/\(0:Int)<=2/\2<(↑x.2.1:Int))/\cM a (ad x.1 2) λl=>(x.1.isSome=true/\(0:
 Int)<=4/\4<(↑x.2.1:Int))/\cM a (ad x.1 4) λm=> ∀(h:Int),h=aE .i64 m->aM a ⟨[.bool false,aa 0,.bool false,aa 0]⟩ 130 λf a=>aC a (af f) [.bool (j==1),aa g,.bool (l==1),aa h] λa=>(x.1.isSome=true/\(0:Int)<=3/\3<(↑x.2.1:Int))/\cM a (ad x.1 3) λc=>((!decide (c>0))=true->x.1.isSome=true/\(0:Int)<=5/\5<(↑x.2.1:Int))/\aj a (some !decide (c>0)) (ad x.1 5) rI λ(x:Int)=>aj a (some !(decide (c>0)||decide (x>0))) (af f) kf λ(d
 :Bool×Int×Bool×Int×Unit)=>((!(decide (c>0)||decide (x>0)))=true->True)/\aI (decide (c>0)||decide (x>0)|| !bU d.1 d.2.1 d.2.2.1 d.2.2.2.1) (aC a (af b) [.bool false,aa 0,.bool false,aa 0] λa=>au a λw1=>aj w1 none (af b) kf λ(x:Bool×Int×Bool×Int×Unit)=>e ((x.1,x.2.1,x.2.2.1,x.2.2.2.1,()),false,()) w1) (aj a none (af f) kf λ(x:Bool×Int×Bool×Int×Unit)=>aC a (af b) [.bool x.1,aa x.2.1,.bool x.2.2.1,aa x.2.2.2.1] λa=>au a λw1=>
 aj w1 none (af b) kf λ(x:Bool×Int×Bool×Int×Unit)=>e ((x.1,x.2.1,x.2.2.1,x.2.2.2.1,()),true,()) w1)):=by kernel_rfl
def fV (p:Bool) (r:Int) (l:Bool) (f:Int):Bool:=p&&r==0&&bU p r l f
def gO (p:Bool) (r:Int) (l:Bool) (f t:Int):Bool:=bU p r l f&&decide (r>0)&&decide (t>=0)&&decide (t<=7)&&gN .i64 t r==0
theorem QX (p:Bool) (r:Int) (l:Bool) (f:Int) (w:A1):aD AB 96 (.el (.one .bool)) [.agg ⟨[.bool p,aa r,.bool l,aa f]⟩] w (λb w'=>b=fV p r l f/\Ext w w'):=by
 refine ai (C:=D1) (AL (QT p r l f w _) ?_);intro w1 h1;obtain⟨a,g1,e,g,c⟩:=CX (bN.new w1 _ 130);exact⟨rfl,p,a,λ_=>rfl,r,λ_=>g1, _,λ_=>c,by simp,λh d=>⟨rfl,(h1.jd _).trans d⟩⟩
theorem zm {p:Bool} {r:Int} {l:Bool} {f:Int} (h:bU p r l f=true):0<=r/\r<=7/\0<=f/\f<4096/\(p=false->r=0/\l=false/\f=0):=by
 cases p
 ·grind[bU]
 ·simp[bU] at h
  grind
theorem LM (p:Bool) (r:Int) (l:Bool) (f t:Int) (w:A1):aD AB 145 (.el (.one .bool)) [.agg ⟨[.bool p,aa r,.bool l,aa f]⟩,aa t] w (λb w'=>b=gO p r l f t/\Ext w w'):=by
 refine ai (AL (LJ p r l f t w _) ?_);intro w1 h1;obtain⟨e,g1,g,h,a⟩:=CX (bN.new w1 _ 130);exact⟨_,a,trivial,λ_=>rfl,r,λ_=>g1,λ_=>rfl,r,λ_=>g1,λx c i d=>⟨by rw[c];rfl,(h1.jd _).trans d⟩⟩
def fw (x y:Int):Int:=if 0<=x/\x<65536/\0<=y/\y<=3 then x / gU y % 16 else -1
theorem By {y:Int}:(gU y==0)= !(decide (0<=y)&&decide (y<=3)):=by
 grind[gU]
theorem Bz {x y:Int} (h: ¬ (0<=x/\x<65536/\0<=y/\y<=3)):fw x y= -1:=ao h
theorem BA {x:Int} (h: -9223372036854775808<=x) (h':x<9223372036854775808):aE .i64 x=x:=gB h h'
theorem BB {x:Int} (h:0<=x) (h':x<18446744073709551616):aE .u64 x=x:=by
 show KP.wrap x=x;rw[wrap_u64];omega
theorem qp {a b c:Int} (m:Nat) (h:0<=a/\a<65536) (d:2 ^ b.toNat=m) (e:ee b 4=true) (f:c=U (ft (B a) b 4)):c=a / (m:Int) % 16:=by
 have g:(B a).toNat=a:=CC (by omega) (by omega);rw[f,D6 (nU m 16 e d (by grind)),Int.natCast_emod,Int.natCast_ediv,g];rfl
theorem FE {a y b c:Int} (d:0<=a/\a<65536) (g:0<=y/\y<=3) (eb:b=4*y) (f:c=U (ft (B a) b 4)):c=fw a y/\0<=c/\c<16:=by
 have e:c=fw a y:=by
  unfold fw;rw[aw (by omega)];have:y=0\/y=1\/y=2\/y=3:=by omega
  rcases this with rfl|rfl|rfl|rfl
  ·exact qp 1 d (by grind) (by subst eb;decide) f
  ·exact qp 16 d (by grind) (by subst eb;decide) f
  ·exact qp 256 d (by grind) (by subst eb;decide) f
  ·exact qp 4096 d (by grind) (by subst eb;decide) f
 rw[e];unfold fw;omega
theorem QY (x y:Int) (w:A1):aD AB 87 (.el (.one (.int .i64))) [aa x,aa y] w (λb w'=>b=fw x y/\Ext w w'):=by
 refine ai (C:=D1) (AL (QU x y w _) ?_);refine⟨λ_=>trivial,λs es=>?_⟩;subst es;rw[By];refine ab (λh w1 h1=>⟨?_,h1⟩) (λh a e b eb=>?_)
 ·simp only[Et,decide_eq_true_eq,M4,I2,decide_eq_false_iff_not] at h;rw[Bz (by omega)]
 ·simp only[F2,decide_eq_false_iff_not,Pl,I1,decide_eq_true_eq] at h;rw[BB (by omega) (by omega)] at e;rw[eO (by omega) (by omega)] at eb;subst e;refine⟨CC (by omega) (by omega),λc f d g w1 h1=>⟨?_,h1⟩⟩;obtain⟨i,j,k⟩:=FE (y:=y) (by omega) (by omega) eb f;rw[g,BA (by omega) (by omega),i]
theorem LN (x y:Int) (w:A1):aD AB 63 (.el (.one (.int .i64))) [aa x,aa y] w (λb w'=>b=fw x y/\Ext w w'):=by
 refine ai (C:=D1) (AL (LK x y w _) ?_);refine⟨λ_=>trivial,λs es=>?_⟩;subst es;rw[By];refine ab (λh w1 h1=>⟨?_,h1⟩) (λh=>⟨trivial,λs es=>?_⟩)
 ·simp only[Et,decide_eq_true_eq,M4,I2,decide_eq_false_iff_not] at h;rw[Bz (by omega)]
 ·simp only[F2,decide_eq_false_iff_not,Pl,I1,decide_eq_true_eq] at h;have e:y=0\/y=1\/y=2\/y=3:=by omega
  have hs:1<=s:=by rcases e with rfl|rfl|rfl|rfl<;>(rw[es];decide)
  refine⟨by omega,λc a d f w1 h1=>⟨?_,h1⟩⟩;have g:xm .i64 x s=x / s:=by
   unfold xm;rw[Int.tdiv_eq_ediv_of_nonneg (by omega)];have h1:0<=x / s:=Ok (by omega) (by omega);have j:x / s<=x:=Int.ediv_le_self _ (by omega);exact gB (by omega) (by omega)
  have h1:0<=x / s:=Ok (by omega) (by omega);rw[g] at a;have i:dz c 16=c % 16:=Int.tmod_eq_emod_of_nonneg (by omega);rw[f,i,a,es];unfold fw
  grind
def vR (p:Bool) (r:Int) (l:Bool) (f:Int):Int:=(nB p:Int)+2*r+16*(nB l:Int)+4096*f
def F_ (p:Bool) (r:Int) (l:Bool) (f:Int):Int:=if bU p r l f=true then vR p r l f else 0
def pkE (p:Bool) (r:Int) (l:Bool) (f:Int):Int:=if bU p r l f=true then 0 else 11
theorem I6 {x:Int} (h:0<=x) (h':x<18446744073709551616):(B x).toNat=x.toNat:=by
 have:((B x).toNat:Int)=x:=CC h h';omega
theorem HL {p:Bool} {r:Int} {l:Bool} {f:Int} (h:bU p r l f=true):U (qT 0#64 0 [(bB p,1),(B r,3),(bB l,1),(0#64,7),(B f,12)])=vR p r l f:=by
 have b:=zm h;rw[D6 (LI (I6 (by omega) (by omega)) (by omega) (I6 (by omega) (by omega)) (by omega))];unfold vR;omega
theorem QZ (p:Bool) (r:Int) (l:Bool) (f:Int) (w:A1):aD AB 243 (.bu [eU,eI]) [.agg ⟨[.bool p,aa r,.bool l,aa f]⟩] w (λx w'=>x=(F_ p r l f,pkE p r l f,())/\Ext w w'):=by
 refine ai (C:=D1) (aT:=λ_=>[]) (AL (QV p r l f w _) ?_);intro w1 h1;obtain⟨m,g1,o,q,s⟩:=CX (bN.new w1 [.bool p,aa r,.bool l,aa f] 130);refine⟨_,s,trivial,ab (λh a d=>⟨?_,(h1.jd _).trans d⟩) (λh=>⟨rfl,p,m,trivial,λx1 t=>⟨rfl,r,g1,λe i=>⟨rfl,l,o,trivial,λF u=>⟨rfl,f,q,λg j a d v k=>?_⟩⟩⟩⟩)⟩
 ·have h':bU p r l f=false:=by simpa using h
  unfold F_ pkE;rw[h'];rfl
 ·have h':bU p r l f=true:=by simpa using h
  have b:=zm h';rw[BB (by omega) (by omega)] at i j;subst t;subst i;subst u;subst j;have y:U (B e)=e:=CC (by omega) (by omega);have z:U (B g)=g:=CC (by omega) (by omega);have sl:Sl v eP (af a.heap.size) (OF [(bB p,1),(B e,3),(bB l,1),(0#64,7),(B g,12)]):=Sl.jK ((bN.new a _ _).ext k) (by
   simp only[OF,CK,List.map_nil,y,z];rfl)
  refine(UY (n:=5) (c:=5) sl rfl (by decide)).mono ?_;rintro x G ⟨A,D⟩ H E;refine⟨?_,((((h1.jd _).trans d).jd _).trans k).trans (D.trans E)⟩;rw[A,HL h'];unfold F_ pkE;rw[aw h',aw h']
theorem EE {x y:Int} (h:0<=x*y) (h':x*y<18446744073709551616):gq .u64 x y=x*y:=by
 show KP.wrap (x*y)= _;rw[wrap_u64];omega
theorem G5 {w:A1} {b:Nat} {l:List AC} (h:bN w b l) (vs:List AC) (a:vs.length=l.length):bN (jB w (af b) vs) b vs:=by
 have:=h.put (o:=0) vs (by omega);rw[CL,a,H6,Gw,Of,List.nil_append] at this;exact this
def uP (n:Nat):Bool:=decide (n / 32 % 128=0)&&decide (n / 16777216 % 1099511627776=0)&&bU (n % 2==1) ((n / 2 % 8:Nat):Int) (n / 16 % 2==1) ((n / 4096 % 4096:Nat):Int)
def IL (n:Nat):Bool:=uP n&&n % 2==1
def F' (n:Nat):Int:=if uP n=true then((n / 2 % 8:Nat):Int) else 0
def Kw (n:Nat):Bool:=uP n&&n / 16 % 2==1
def FV (n:Nat):Int:=if uP n=true then((n / 4096 % 4096:Nat):Int) else 0
theorem ZZ {w0 w:A1} {e:El} {s:Option A2×Nat×Nat} {xs:List e.T} (h:lU w0 w e s xs) {a:A2} (d:s.1=some a):a.block<w.heap.size:=by
 obtain⟨_, _,c⟩:=h;rcases c with ⟨c, _⟩|⟨b,l,c, _,f, _⟩
 ·rw[c] at d;cases d
 ·rw[c] at d;cases d;exact f.lt
theorem Jv (n:Nat):(((n:Nat):Int)==1)=(n==1):=by
 rw[IM,beq_iff_eq,beq_iff_eq];omega
theorem Jw (n:Nat):decide (((n:Nat):Int)>0)= !decide (n=0):=by
 rw[IM,decide_eq_true_eq,M4,decide_eq_false_iff_not];omega
theorem Q0 (v:BitVec 64) (w:A1):aD AB 59 (.bu [.agg [.bool,.int .i64,.bool,.int .i64],.one .bool]) [az (U v)] w
 (λx w'=>x=((IL v.toNat,F' v.toNat,Kw v.toNat,FV v.toNat,()),uP v.toNat,())/\Ext w w'):=by
 refine aQ (C:=D1) (aT:=λ_=>[]) (AL (QW (U v) w _) ?_);intro w1 h1 l u r m;have dp:bN l w1.heap.size [B1 false,aa 0,B1 false,aa 0]:=(bN.new w1 _ _).ext u;have H:Ext w l:=(h1.jd _).trans u;have y:Ext w r:=(H.jd _).trans m;have sl:Sl r eI (af l.heap.size) [1,3,1,7,12,40]:=Sl.jK ((bN.new l _ _).ext m) rfl;refine(Qy (v:=v) (c:=6) sl rfl (by decide)).mono ?_;rintro⟨p,n,c⟩ X ⟨e,o⟩;rw[HK] at e;have ln:n=6:=by have:=e.len;simpa[CD] using this
 subst ln
 let N:=v.toNat
 have I:U (ft v 0 1)=((N % 2:Nat):Int):=by rw[D6 (nU 1 2 (by decide) rfl rfl),Nat.div_one]
 have J:U (ft v 1 3)=((N / 2 % 8:Nat):Int):=D6 (nU 2 8 (by decide) rfl rfl);have K:U (ft v 4 1)=((N / 16 % 2:Nat):Int):=D6 (nU 16 2 (by decide) rfl rfl);have L:U (ft v 5 7)=((N / 32 % 128:Nat):Int):=D6 (nU 32 128 (by decide) rfl rfl);have M:U (ft v 12 12)=((N / 4096 % 4096:Nat):Int):=D6 (nU 4096 4096 (by decide) (by decide) (by decide));have O:U (ft v 24 40)=((N / 16777216 % 1099511627776:Nat):Int):=D6 (nU 16777216 1099511627776 (by decide) (by decide) (by decide));have P:CD ((some [ft v 0 1,ft v 1 3,ft v 4 1,ft v 5 7,ft v 12 12,ft v 24 40]).getD [])=[((N % 2:Nat):Int),((N / 2 % 8:Nat):Int),((N / 16 % 2:Nat):Int),((N / 32 % 128:Nat):Int),((N / 4096 % 4096:Nat):Int),((N / 16777216 % 1099511627776:Nat):Int)]:=by
  show[U (ft v 0 1),U (ft v 1 3),U (ft v 4 1),U (ft v 5 7),U (ft v 12 12),U (ft v 24 40)]= _;rw[I,J,K,L,M,O]
 rw[P] at e;have Q:p.isSome=true:=(e.sl 0 _ rfl).1;have ix: ∀i:Int,0<=i->i<6->p.isSome=true/\0<=i/\i<((6:Nat):Int):=λi a b=>⟨Q,a,b⟩;refine⟨ix 0 (by decide) (by decide), _,(e.sl 0 _ rfl).2,ix 1 (by decide) (by decide), _,(e.sl 1 _ rfl).2,λY z=>⟨ix 2 (by decide) (by decide), _,(e.sl 2 _ rfl).2,ix 4 (by decide) (by decide), _,(e.sl 4 _ rfl).2,λZ A d f g q=>?_⟩⟩;rw[BA (by omega) (by omega)] at z A;rw[Jv,Jv];subst z;subst A;have bt:bN g d.heap.size [B1 false,aa 0,B1 false,aa 0]:=(bN.new d _ _).ext q;refine⟨⟨rfl,bt.st (by simp)⟩,?_⟩;have bp:=G5 bt [B1 (N % 2==1),aa ((N / 2 % 8:Nat):Int),B1 (N / 16 % 2==1),aa ((N / 4096 % 4096:Nat):Int)] rfl;have B:lU r (jB g (af d.heap.size) [B1 (N % 2==1),aa ((N / 2 % 8:Nat):Int),B1 (N / 16 % 2==1),aa ((N / 4096 % 4096:Nat):Int)]) eU (p,6,c) _:=
  ((e.ext f).ext ((Ext.alloc _ _).trans q)).same λa R=>mY _ _ ⟨d.heap.size,0,none⟩ 0 _ (by
    have:=ZZ e R;have:=f.size;show a.block≠d.heap.size;omega)
 have S:Ext w g:=(((y.trans o).trans f).jd _).trans q;have D:Ext w (jB g (af d.heap.size) [B1 (N % 2==1),aa ((N / 2 % 8:Nat):Int),B1 (N / 16 % 2==1),aa ((N / 4096 % 4096:Nat):Int)]):=S.jB (a:=⟨d.heap.size,0,none⟩) (((y.trans o).trans f).size) _;have E:cL (jB g (af d.heap.size) [B1 (N % 2==1),aa ((N / 2 % 8:Nat):Int),B1 (N / 16 % 2==1),aa ((N / 4096 % 4096:Nat):Int)]) (af d.heap.size) (.agg [.bool,.int .i64,.bool,.int .i64]) (N % 2==1,((N / 2 % 8:Nat):Int),N / 16 % 2==1,((N / 4096 % 4096:Nat):Int),()):=
  bp.rdA λi _=>by rw[CL];rfl
 have lt1:=dp.lt;have T:w1.heap.size≠d.heap.size:=by
  have a1:=m.size;have a2:=o.size;have a3:=f.size;rw[lK] at a1;omega
 have F:bN (jB g (af d.heap.size) [B1 (N % 2==1),aa ((N / 2 % 8:Nat):Int),B1 (N / 16 % 2==1),aa ((N / 4096 % 4096:Nat):Int)]) w1.heap.size [B1 false,aa 0,B1 false,aa 0]:=
  ((((((dp.ext (Ext.alloc _ _)).ext m).ext o).ext f).ext (Ext.alloc _ _)).ext q).XO (a:=⟨d.heap.size,0,none⟩) T _
 refine⟨ix 3 (by decide) (by decide), _,(B.sl 3 _ rfl).2,λ_=>ix 5 (by decide) (by decide), _,λ_=>(B.sl 5 _ rfl).2, _,λ_=>E,λ_=>trivial,?_⟩;rw[Jw,Jw];have G:uP N= !(!decide (N / 32 % 128=0)|| !decide (N / 16777216 % 1099511627776=0)|| !bU (N % 2==1) ((N / 2 % 8:Nat):Int) (N / 16 % 2==1) ((N / 4096 % 4096:Nat):Int)):=by
  unfold uP;cases decide (N / 32 % 128=0)<;>cases decide (N / 16777216 % 1099511627776=0)<;>cases bU (N % 2==1) ((N / 2 % 8:Nat):Int) (N / 16 % 2==1) ((N / 4096 % 4096:Nat):Int)<;>rfl
 refine ab (λhb V h=>?_) (λhb=>⟨_,E,λV h=>?_⟩)
 ·have s:uP N=false:=by rw[G,hb];rfl
  have j:=F.ext h;refine⟨⟨rfl,j.st (by simp)⟩,λW k=>⟨(false,0,false,0,()),?_,?_,?_⟩⟩
  ·have t:=(G5 j [B1 false,aa 0,B1 false,aa 0] rfl).ext k;exact t.rdA λi _=>by rw[CL];rfl
  ·show _=((IL N,F' N,Kw N,FV N,()),uP N,());unfold IL F' Kw FV;rw[s];rfl
  ·exact((D.trans h).jB (a:=⟨w1.heap.size,0,none⟩) h1.size _).trans k
 ·have s:uP N=true:=by rw[G,hb];rfl
  have j:=F.ext h;refine⟨⟨rfl,j.st (by simp)⟩,λW k=>⟨(N % 2==1,((N / 2 % 8:Nat):Int),N / 16 % 2==1,((N / 4096 % 4096:Nat):Int),()),?_,?_,?_⟩⟩
  ·have t:=(G5 j [B1 (N % 2==1),aa ((N / 2 % 8:Nat):Int),B1 (N / 16 % 2==1),aa ((N / 4096 % 4096:Nat):Int)] rfl).ext k;exact t.rdA λi _=>by rw[CL];rfl
  ·show _=((IL N,F' N,Kw N,FV N,()),uP N,());unfold IL F' Kw FV;rw[s,aw rfl,aw rfl,Gi,Gi]
  ·exact((D.trans h).jB (a:=⟨w1.heap.size,0,none⟩) h1.size _).trans k
noncomputable def PC:Entry AB where
 f:=96
 fn l:=match l with
  |[.agg ⟨[.bool p,.int .i64 r,.bool l,.int .i64 f]⟩]=>some (True,.bool (fV p r l f))
  | _=>none
 ok args pre v h a w:=by
  split at h
  ·rename_i p r l f;cases h;exact bW (QX p r l f w)
  ·cases h
noncomputable def Jx:Entry AB where
 f:=145
 fn l:=match l with
  |[.agg ⟨[.bool p,.int .i64 r,.bool l,.int .i64 f]⟩,.int .i64 t]=>some (True,.bool (gO p r l f t))
  | _=>none
 ok args pre v h a w:=by
  split at h
  ·rename_i p r l f t;cases h;exact bW (LM p r l f t w)
  ·cases h
noncomputable def PD:Entry AB where
 f:=87
 fn l:=match l with
  |[.int .i64 x,.int .i64 y]=>some (True,.int .i64 (fw x y))
  | _=>none
 ok args pre v h a w:=by
  split at h
  ·rename_i x y;cases h;exact bW (QY x y w)
  ·cases h
noncomputable def Jy:Entry AB where
 f:=63
 fn l:=match l with
  |[.int .i64 x,.int .i64 y]=>some (True,.int .i64 (fw x y))
  | _=>none
 ok args pre v h a w:=by
  split at h
  ·rename_i x y;cases h;exact bW (LN x y w)
  ·cases h
noncomputable def XQ:Entry AB where
 f:=243
 fn l:=match l with
  |[.agg ⟨[.bool p,.int .i64 r,.bool l,.int .i64 f]⟩]=>some (True,.tuple ⟨[.int .u64 (F_ p r l f),.int .i64 (pkE p r l f)]⟩)
  | _=>none
 ok args pre v h a w:=by
  split at h
  ·rename_i p r l f;cases h;exact bW (QZ p r l f w)
  ·cases h
noncomputable def PE:Entry AB where
 f:=59
 fn l:=match l with
  |[.int .u64 v]=>some (U (B v)=v,.tuple ⟨[.agg ⟨[.bool (IL (B v).toNat),.int .i64 (F' (B v).toNat),.bool (Kw (B v).toNat),.int .i64 (FV (B v).toNat)]⟩,.bool (uP (B v).toNat)]⟩)
  | _=>none
 ok args pre v h a w:=by
  split at h
  ·rename_i v;cases h;have:=bW (Q0 (B v) w);rw[a] at this;exact this
  ·cases h
noncomputable def D2:dM AB:={D0 with sM:=[tA,vO,Gn,Gp,O0,vg,O1,G4,PC,Jx,PD,Jy,XQ,PE]}
theorem O3 (z x y:Int) (w:A1) (a:Int->A1->Prop):(aJ D2 (λ_=>[]) 55 [aa z,aa x,aa y] w a)=(
 True/\ ∀(b:Int),b=fw x y->aI (decide (b<0)||decide (z<0)||decide (z>=4096)) (au w (a (-1))) (∀(x:Int),x=gq .i64 16 z-> ∀(c:Int),c=aH .i64 x b->au w (a c))):=by kernel_rfl
theorem Z0 (z x y:Int) (w:A1) (a:Int->A1->Prop):(aJ D2 (λ_=>[]) 27 [aa z,aa x,aa y] w a)=(
 True/\ ∀(b:Int),b=fw x y->aI (decide (b<0)||decide (z<0)||decide (z>4095)) (au w (a (-1))) (∀(x:Int),x=gq .i64 16 z-> ∀(c:Int),c=aH .i64 x b->au w (a c))):=by kernel_rfl
def eB (z x y:Int):Int:=if fw x y<0\/z<0\/z>=4096 then -1 else 16*z+fw x y
theorem EF (x y:Int): -1<=fw x y/\fw x y<16:=by
 unfold fw;split
 ·have h1:=Int.emod_nonneg (x / gU y) (show(16:Int)≠0 by decide);have a:=Int.emod_lt_of_pos (x / gU y) (show(0:Int)<16 by decide);omega
 ·omega
theorem Ek (z x y:Int) (w:A1):aD AB 55 (.el (.one (.int .i64))) [aa z,aa x,aa y] w (λb w'=>b=eB z x y/\Ext w w'):=by
 refine ai (C:=D2) (aT:=λ_=>[]) (AL (O3 z x y w _) ⟨trivial,λs es=>?_⟩);have hb:=EF x y;subst es;refine ab (λh w1 h1=>⟨?_,h1⟩) (λh a c b eb w1 h1=>⟨?_,h1⟩)
 ·simp only[Et,decide_eq_true_eq] at h;unfold eB;rw[aw (by omega)]
 ·simp only[F2,decide_eq_false_iff_not] at h;rw[eO (by omega) (by omega)] at c;rw[av (by omega) (by omega)] at eb;unfold eB;rw[ao (by omega),eb,c]
theorem Z1 (z x y:Int) (w:A1):aD AB 27 (.el (.one (.int .i64))) [aa z,aa x,aa y] w (λb w'=>b=eB z x y/\Ext w w'):=by
 refine ai (C:=D2) (aT:=λ_=>[]) (AL (Z0 z x y w _) ⟨trivial,λs es=>?_⟩);have hb:=EF x y;subst es;refine ab (λh w1 h1=>⟨?_,h1⟩) (λh a c b eb w1 h1=>⟨?_,h1⟩)
 ·simp only[Et,decide_eq_true_eq] at h;unfold eB;rw[aw (by omega)]
 ·simp only[F2,decide_eq_false_iff_not] at h;rw[eO (by omega) (by omega)] at c;rw[av (by omega) (by omega)] at eb;unfold eB;rw[ao (by omega),eb,c]
noncomputable def eAt:Entry AB where
 f:=55
 fn l:=match l with
  |[.int .i64 z,.int .i64 x,.int .i64 y]=>some (True,.int .i64 (eB z x y))
  | _=>none
 ok args pre v h a w:=by
  split at h
  ·rename_i z x y;cases h;exact bW (Ek z x y w)
  ·cases h
noncomputable def acB:Entry AB where
 f:=27
 fn l:=match l with
  |[.int .i64 z,.int .i64 x,.int .i64 y]=>some (True,.int .i64 (eB z x y))
  | _=>none
 ok args pre v h a w:=by
  split at h
  ·rename_i z x y;cases h;exact bW (Z1 z x y w)
  ·cases h
noncomputable def D3:dM AB:={D0 with sM:=[tA,vO,Gn,Gp,O0,vg,O1,G4,PC,Jx,PD,Jy,XQ,PE,eAt,acB]}
noncomputable def M0:dM AB:={D3 with vN:=false,quiet:=[117,118]}
theorem Vn (p:Option A2) (w:A1) (a:Int->A1->Prop):(aJ M0 (λ_=>[]) 117 [ag p] w a)=(
 aI p.isNone (au w (a 0)) (p.isSome=true/\p.isSome=true/\(ad p 0).isSome=true/\tc w (ad (ad p 0) 0) λx=>au w (a (↑x.2.1:Int)))):=by kernel_rfl
theorem Z2 (p:Option A2) (n c:Nat) (i:Int) (w:A1) (d:Option A2->A1->Prop):(aJ M0 (λ_=>[]) 118 [.agg ⟨[.slice p n c]⟩,aa i] w d)=(
 aM w ⟨[.slice p n c]⟩ 157 λb a=>((!decide (i<0))=true->true=true)/\aj a (some !decide (i<0)) (ad (af b) 0) eH λx=>aI (decide (i<0)||decide (i>=(↑x.2.1:Int))) (au a (d none)) (true=true/\tc a (ad (af b) 0) λx=>(x.1.isSome=true/\0<=i/\i<(↑x.2.1:Int))/\au a (d (ad x.1 (i.toNat*1))))):=by kernel_rfl
theorem Q1 (p:Option A2) (i:Int) (w:A1) (a:Option A2×Int×Unit->A1->Prop):(aJ M0 (λ_=>[]) 71 [ag p,aa i] w a)=(
 ∃(x:Int),ae AB 117 [ag p] w (aa x)/\aI (x==0) (au w (a (none,10,()))) (p.isSome=true/\p.isSome=true/\aj w none (ad p 0) (.agg [.slice]) λx=> ∃(b:Option A2),ae AB 118 [.agg ⟨[.slice x.1.1 x.1.2.1 x.1.2.2]⟩,aa i] w (ag b)/\aI b.isNone (au w (a (none,2,()))) (cN p 1 w λx=>p.isSome=true/\p.isSome=true/\aC w (ad p 1) [aa (aH .i64 x 1)] λc=>au c (a (b,0,()))))):=by kernel_rfl
theorem EG (p:Option A2) (i:Int) (w:A1) (a:Int×Int×Unit->A1->Prop):(aJ M0 (λ_=>[]) 37 [ag p,aa i] w a)=(
 aA AB 71 (.bu [.one .ptr,.one (.int .i64)]) [ag p,aa i] w λ(x:Option A2×Int×Unit) b=>aI (x.2.1 != 0) (au b (a (0,x.2.1,()))) (x.1.isSome=true/\cM b x.1 λx=>au b (a (x,0,())))):=by kernel_rfl
theorem LO (p:Option A2) (i v:Int) (w:A1) (b:Int->A1->Prop):(aJ M0 (λ_=>[]) 38 [ag p,aa i,az v] w b)=(
 aA AB 71 (.bu [.one .ptr,.one (.int .i64)]) [ag p,aa i] w λ(x:Option A2×Int×Unit) a=>aI (x.2.1==0) (x.1.isSome=true/\aC a x.1 [az v] λa=>cN p 2 a λc=>p.isSome=true/\p.isSome=true/\aC a (ad p 2) [aa (aH .i64 c 1)] λa=>au a (b x.2.1)) (au a (b x.2.1))):=by kernel_rfl
theorem Vo (n:Int) (w:A1) (a:Option A2×Int×Unit->A1->Prop):(aJ M0 (λ_=>[]) 33 [aa n] w a)=(
 aI (decide (n<1)||decide (n>65536)) (au w (a (none,1,()))) (Od w 8 1 n n ⟨[az 0]⟩ 29 λb c=>aM c {toList:=[.slice (af b) n.toNat n.toNat,aa 0,aa 0]} 159 λb c=>au c (a (some ⟨b,0,none⟩,0,())))):=by kernel_rfl
abbrev eW:El:= .one (.int .u64)
abbrev l7 (bw n c:Nat) (ca la:Int):List AC:=[.slice (af bw) n c,aa ca,aa la]
def uQ (ws:List Int) (i:Int):Bool:=decide (0<=i)&&decide (i<ws.length)
def dQ (ws:List Int) (i:Int):Int:=if uQ ws i then ws.getD i.toNat 0 else 0
def Ct (ws:List Int) (i:Int):Int:=if uQ ws i then 0 else 2
def xh (ws:List Int) (i x:Int):Int:=if uQ ws i then aH .i64 x 1 else x
def dT (ws:List Int) (i v:Int):List Int:=if uQ ws i then ws.set i.toNat v else ws
theorem jh {ws:List Int} {i:Int}:uQ ws i=true<->0<=i/\i<ws.length:=by unfold uQ;simp
theorem cH (ws:List Int) (i v:Int):(dT ws i v).length=ws.length:=by unfold dT;split<;>simp
theorem I7: ∀ws:List Int,flat eW ws=ws.map (E5 .u64)
 |[]=>rfl
 |a::l=>by
  show[az a]++flat eW l= _;rw[I7 l];rfl
section
variable {D G:List Nat} {w0 w:A1} {L:List (Nat×List AC)} {bm bw n c:Nat} {ca la:Int} {ws:List Int} {rest:List AC}
theorem aaW {i:Nat} (hi:i<ws.length):k9 (flat eW ws++rest) (0+i*1) eW=some (ws.getD i 0):=by
 have:(flat eW ws++rest)[0+i*1]? =some (az (ws.getD i 0)):=by
  have a:(flat eW ws).length=ws.length*1:=aG eW ws;rw[CL,Hr,Gu (by omega)];have e:=I7 ws;rw[e,GF,DY hi,K1,DY hi];rfl
 show(match (flat eW ws++rest)[0+i*1]? with|some v=>(Sc.int .u64).proj v|none=>none)= _;rw[this];rfl
theorem Jz (h:bN w bm (l7 bw n c ca la)):aD AB 117 (.el (.one (.int .i64))) [ag (af bm)] w (λx w'=>x=(n:Int)/\Ext w w'):=by
 refine ai (C:=M0) (aT:=λ_=>[]) (AL (Vn _ w _) ?_);refine an rfl ⟨rfl,rfl,rfl,aj.of (some ⟨bw,0,none⟩,n,c) (by rw[aY,aY];exact h.oD rfl) λw1 h1=>⟨rfl,h1⟩⟩
theorem Z3 (p:Option A2) (a:n≠0->p.isSome=true) (i:Int) (w:A1):aD AB 118 (.el (.one .ptr)) [.agg ⟨[.slice p n c]⟩,aa i] w (λx w'=>x=(if 0<=i/\i<n then ad p i.toNat else none)/\Ext w w'):=by
 refine ai (C:=M0) (aT:=λ_=>[]) (AL (Z2 p n c i w _) ?_);have H:=At.start [] w;refine aM.go H λb e H=>⟨λ_=>rfl,aj.cA 0 H rfl rfl (ab (λc1=>au.go H λd H=>⟨?_,H.all⟩) (λc1=>⟨rfl,aj.cA 0 H rfl rfl ?_⟩))⟩
 ·have: ¬ (0<=i/\i<n):=by simp at c1;omega
  rw[ao this]
 ·have hi:0<=i/\i<n:=by simp at c1;omega
  refine⟨⟨a (by omega),by omega,by show i<((n:Nat):Int);omega⟩,au.go H λd H=>⟨?_,H.all⟩⟩;rw[aw hi,Hr]
theorem zn (H:aK D G w0 w L) (j:Nat) (b:L[j]? =some (bm,l7 bw n c ca la)) (e:n=ws.length) (h0:0<n) (i:Int) {K:Option A2×Int×Unit->A1->Prop}
 (f:uQ ws i=true-> ∀a,aK D G w0 a (L.set j (bm,l7 bw n c (aH .i64 ca 1) la))->K (ad (af bw) i.toNat,0,()) a) (g:uQ ws i=false-> ∀a,aK D G w0 a L->K (none,2,()) a):
 aA AB 71 (.bu [.one .ptr,.one (.int .i64)]) [ag (af bm),aa i] w K:=by
 refine aA.go H λw1 H=>ai (C:=M0) (aT:=λ_=>[]) (AL (Q1 _ i w1 K) ?_);refine⟨_,ae.of (s:= .el (.one (.int .i64))) λw' h'=>Jz ((H.get b).ext h'),an (by simp;omega) ⟨rfl,rfl,aj.cA j H b rfl ⟨_,ae.of (s:= .el (.one .ptr)) λw' h'=>Z3 (af bw) (λ_=>rfl) i w',?_⟩⟩⟩;subst e;cases hi:uQ ws i with
 |true=>
  have d:=jh.1 hi;rw[aw d];refine an rfl ⟨rfl,rfl,aj.cA j H b rfl ⟨rfl,rfl,aC.gJ j H b rfl rfl λa H=>au.go H λk H=>f hi k H⟩⟩
 |false=>
  have d: ¬ (0<=i/\i<(ws.length:Int)):=λh=>by rw[jh.2 h] at hi;cases hi
  rw[ao d];exact ay rfl (au.go H λa H=>g hi a H)
theorem EH (H:aK D G w0 w L) (j a:Nat) (d:L[j]? =some (bm,l7 bw n c ca la)) (g:L[a]? =some (bw,flat eW ws++rest)) (h:j≠a) (l:n=ws.length) (h0:0<n) (i:Int) {K:Int×Int×Unit->A1->Prop}
 (k: ∀b,aK D G w0 b (L.set j (bm,l7 bw n c (xh ws i ca) la))->K (dQ ws i,Ct ws i,()) b):
 aA AB 37 (.bu [.one (.int .u64),.one (.int .i64)]) [ag (af bm),aa i] w K:=by
 refine aA.go H λw1 H=>ai (C:=M0) (aT:=λ_=>[]) (AL (EG _ i w1 K) ?_);refine zn H j d l h0 i (λhi b H=>?_) (λhi b H=>?_)
 ·unfold xh dQ Ct at k;rw[hi,aw rfl,aw rfl,aw rfl] at k;have o:(L.set j (bm,l7 bw n c (aH .i64 ca 1) la))[a]? =some (bw,flat eW ws++rest):=by rw[DZ h];exact g
  have p:=jh.1 hi;refine an rfl ⟨rfl,?_⟩;rw[aY];have e:=aaW (ws:=ws) (rest:=rest) (i:=i.toNat) (by omega);rw[Hr] at e;exact aj.at a H o e (au.go H λf H=>k f H)
 ·unfold xh dQ Ct at k;rw[hi,ao (by decide),ao (by decide),ao (by decide)] at k;refine ay rfl (au.go H λf H=>k f ?_);rw[show L.set j (bm,l7 bw n c ca la)=L from GI λm=>by
   by_cases e:j=m
   ·subst e;rw[FS (CJ.1 d).1,d]
   ·rw[DZ e]]
  exact H
theorem abC {i:Nat} (hi:i<ws.length) (v:Int):(flat eW ws++rest).set i (az v)=flat eW (ws.set i v)++rest:=by
 have h:=zj eW ws i v rest hi;have a:(cellsOf eW v)=[az v]:=rfl;have b:aF eW=1:=rfl;rw[a,b,Hr] at h;rw[<-h];have c:(flat eW ws).length=ws.length*1:=aG eW ws;rw[Mr,aw (by rw[D8];omega)];rfl
theorem LP (H:aK D G w0 w L) (j a:Nat) (f:L[j]? =some (bm,l7 bw n c ca la)) (g:L[a]? =some (bw,flat eW ws++rest)) (b:j≠a) (p:n=ws.length) (h0:0<n) (i v:Int) {K:Int->A1->Prop}
 (k: ∀d,aK D G w0 d ((L.set j (bm,l7 bw n c (xh ws i ca) (xh ws i la))).set a (bw,flat eW (dT ws i v)++rest))->K (Ct ws i) d):
 aA AB 38 (.el (.one (.int .i64))) [ag (af bm),aa i,az v] w K:=by
 refine aA.go H λw1 H=>ai (C:=M0) (aT:=λ_=>[]) (AL (LO _ i v w1 K) ?_);have r:j<L.length:=(CJ.1 f).1;have y:a<L.length:=(CJ.1 g).1;refine zn H j f p h0 i (λhi d H=>?_) (λhi d H=>?_)
 ·unfold xh dT Ct at k;rw[hi,aw rfl,aw rfl,aw rfl,aw rfl] at k;have s:(L.set j (bm,l7 bw n c (aH .i64 ca 1) la))[a]? =some (bw,flat eW ws++rest):=by rw[DZ b];exact g
  have z:=jh.1 hi;have t:i.toNat<ws.length:=by omega
  have A:(flat eW ws).length=ws.length*1:=aG eW ws;refine ay rfl ⟨rfl,aC.gJ a H s rfl (by rw[Nat.blt_eq,D8];omega) λl H=>?_⟩;rw[CL,abC t] at H;have o:((L.set j (bm,l7 bw n c (aH .i64 ca 1) la)).set a (bw,flat eW (ws.set i.toNat v)++rest))[j]? =some (bm,l7 bw n c (aH .i64 ca 1) la):=by
   rw[DZ (λe=>b e.symm),FS r]
  refine⟨rfl,rfl,aj.cA j H o rfl ⟨rfl,rfl,aC.gJ j H o rfl rfl λB H=>au.go H λu H=>k u ?_⟩⟩;rw[List.set_comm _ _ b,List.set_set] at H;rw[List.set_comm _ _ b];exact H
 ·unfold xh dT Ct at k;rw[hi,ao (by decide),ao (by decide),ao (by decide),ao (by decide)] at k;refine an rfl (au.go H λl H=>k l ?_);have s1: ∀{m:Nat} {x:Nat×List AC},L[m]? =some x->L.set m x=L:=λ{m x} h=>GI λq=>by
   by_cases e:m=q
   ·subst e;rw[FS (CJ.1 h).1,h]
   ·rw[DZ e]
  rw[s1 f,s1 g];exact H
theorem xQ (H:aK D G w0 w L) (b:1<=n/\n<=65536) {K:Option A2×Int×Unit->A1->Prop}
 (k: ∀bm bw w1,aK D G w0 w1 ((bm,l7 bw n n 0 0)::(bw,flat eW (FZ n 0)++[])::L)->K (some ⟨bm,0,none⟩,0,()) w1):
 aA AB 33 (.bu [.one .ptr,.one (.int .i64)]) [aa (n:Int)] w K:=by
 refine aA.go H λw1 H=>ai (C:=M0) (aT:=λ_=>[]) (AL (Vo _ w1 K) ?_);refine an (by rw[decide_eq_false (by omega),decide_eq_false (by omega)];rfl) (Od.go H rfl (by omega) (by omega) (by omega) (by omega) λbw c H=>aM.go H λbm d H=>au.go H λa H=>k bm bw a ?_);rw[lO,Gw];exact H
end
abbrev sR:List Sc:=[.int .u64,.bool,.int .i64]
abbrev RT:Type:=Int×Bool×Int×Unit
abbrev sA:List Sc:=[.int .i64,.int .i64,.int .u64,.int .u64]
abbrev sF:List Sc:=[.int .i64,.int .i64,.int .i64,.int .i64]
noncomputable def M1:dM AB:={M0 with quiet:=[58,24]}
noncomputable def M2:dM AB:={M1 with dyn:=some (.el (.agg sR))}
noncomputable def M3:dM AB:={M1 with dyn:=some (.bu [])}
theorem Q2 (k i a b:Int) (m:Option A2) (w:A1) (d:RT->A1->Prop):(bT M1 (λ_=>[]) 89 [.agg ⟨[aa k,aa i,az a,az b]⟩,ag m] w d)=(
 aM w ⟨[aa k,aa i,az a,az b]⟩ 191 λb c=>aM c ⟨[az 0,.bool false,aa 0]⟩ 124 λe c=>true=true/\aW c (ad (af b) 1) λx=>aA AB 37 (.bu [.one (.int .u64),.one (.int .i64)]) [ag m,aa x] c λ(x:Int×Int×Unit) c=>aC c (af e) [az x.1,.bool false,aa x.2.1] λc=>au c λw1=>aj w1 none (af e) (.agg [.int .u64,.bool,.int .i64]) λ(x:Int×Bool×Int×Unit)=>d (x.1,x.2.1,x.2.2.1,()) w1):=by kernel_rfl
abbrev EI (a:RT->A1->Prop) (b:A1) (c:Nat):Prop:=
 au b λw1=>aj w1 none (af c) (.agg [.int .u64,.bool,.int .i64]) λ(x:Int×Bool×Int×Unit)=>a (x.1,x.2.1,x.2.2.1,()) w1
theorem abD (m:Option A2) (k i a b:Int) (w:A1) (f:RT->A1->Prop):(bT M2 (λ_=>[]) 57 [ag m,.agg ⟨[aa k,aa i,az a,az b]⟩] w f)=(
 aM w ⟨[aa k,aa i,az a,az b]⟩ 127 λb c=>aM c ⟨[az 0,.bool false,aa 0]⟩ 124 λe c=> ∀w1,Ext c w1-> ∀g,Ext (w1.alloc (Obj.map ⟨[]⟩ 0)) g-> ∃(r:Nat), ∃(es:Array B2), ∃(d:Nat),some w1.heap.size=some r/\bH g r es d/\ib g r .i64 1 (.func (.func 89) ⟨[]⟩ ⟨[]⟩) es d λc=> ∀h,Ext c h-> ∃(r:Nat), ∃(es:Array B2), ∃(d:Nat),some w1.heap.size=some r/\bH h r es d/\ib h r .i64 2 (.func (.func 90) ⟨[]⟩ ⟨[]⟩) es d λc=> ∀j,Ext c j->
 ∃(r:Nat), ∃(es:Array B2), ∃(d:Nat),some w1.heap.size=some r/\bH j r es d/\ib j r .i64 3 (.func (.func 91) ⟨[]⟩ ⟨[]⟩) es d λc=> ∀l,Ext c l-> ∃(r:Nat), ∃(es:Array B2), ∃(d:Nat),some w1.heap.size=some r/\bH l r es d/\ib l r .i64 4 (.func (.func 92) ⟨[]⟩ ⟨[]⟩) es d λc=>true=true/\aW c (ad (af b) 0) λx=> ∃(n:AC), ∃(o:Bool),mA c (some w1.heap.size) .i64 x P0 n o/\aI (!o) (aC c (af e) [az 0,.bool false,aa 1] λc=>EI
 f c e) (aj c none (af b) (.agg [.int .i64,.int .i64,.int .u64,.int .u64]) λ(x:Int×Int×Int×Int×Unit)=>Ak AB n (.el (.agg [.int .u64,.bool,.int .i64])) [.agg ⟨[aa x.1,aa x.2.1,az x.2.2.1,az x.2.2.2.1]⟩,ag m] c λ(x:Int×Bool×Int×Unit) c=>aC c (af e) [az x.1,.bool x.2.1,aa x.2.2.1] λc=>EI f c e)):=by kernel_rfl
theorem Vp (f p t:Int) (w:A1) (a:Option A2->A1->Prop):(aJ M1 (λ_=>[]) 20 [aa f,aa p,aa t] w a)=(
 aM w {toList:=[aa f,aa p,aa t,aa 3,aa 0,aa 0,aa 0,aa 0,.slice none 0 0,.bool true]} 117 λb c=>True/\aI (decide (eB f p (3:Int)<0)||decide (t<0)||decide (t>7)) (au c (a none)) (au c (a (af b)))):=by kernel_rfl
abbrev wx (a:Int×Int×Int×Int×Unit->A1->Prop) (b:A1) (c:Nat):Prop:=
 au b λw1=>aj w1 none (af c) (.agg [.int .i64,.int .i64,.int .u64,.int .u64]) λ(x:Int×Int×Int×Int×Unit)=>a (x.1,x.2.1,x.2.2.1,x.2.2.2.1,()) w1
theorem Q3 (p:Option A2) (w:A1) (c:(Int×Int×Int×Int×Unit)->A1->Prop):(bT M1 (λ_=>[]) 58 [ag p] w c)=(
 aM w ⟨[aa 0,aa 0,az 0,az 0]⟩ 127 λb a=>((!p.isNone)=true->p.isSome=true)/\((!p.isNone)=true->p.isSome=true)/\aj a (some !p.isNone) (ad p 9) rJ λx=>((!(p.isNone|| !x))=true->p.isSome=true)/\((!(p.isNone|| !x))=true->p.isSome=true)/\aj a (some !(p.isNone|| !x)) (ad p 3) aV λ(d:Int)=>aI (p.isNone|| !x||d== -1) (aC a (af b) [aa 0,aa 0,az 0,az 0] λa=>wx c a b) (cN p 0 a λx=>cN p 1 a λe=>cN p 3 a λf=>True/\aC a (af b)
 [aa 1,aa (eB x e f),az 0,az 0] λa=>wx c a b)):=by kernel_rfl
theorem Vq (p:Option A2) (a b c d:Int) (w:A1) (f:Unit->A1->Prop):(aJ M1 (λ_=>[]) 60 [ag p,.agg ⟨[aa a,aa b,aa c,aa d]⟩] w f)=(
 aM w ⟨[aa a,aa b,aa c,aa d]⟩ 48 λb e=>cN p 3 e λx=>true=true/\aC e (ad (af b) 2) [aa x] λe=>aj e none (af b) dV λ(x:Int×Int×Int×Int×Unit)=>p.isSome=true/\p.isSome=true/\aC e (ad p 4) [aa x.1,aa x.2.1,aa x.2.2.1,aa x.2.2.2.1] λe=>p.isSome=true/\p.isSome=true/\aC e (ad p 3) [aa (-1)] λe=>au e (f ())):=by kernel_rfl
theorem Z4 (p:Option A2) (fr:Int) (ep:Bool) (er:Int) (el:Bool) (ef:Int) (w:A1) (c:Unit->A1->Prop):(aJ M1 (λ_=>[]) 99 [ag p,aa fr,.agg ⟨[.bool ep,aa er,.bool el,aa ef]⟩] w c)=(
 aM w ⟨[.bool ep,aa er,.bool el,aa ef]⟩ 130 λb a=>aI (decide (fr>=4096)) (aA AB 60 (.bu []) [ag p,.agg ⟨[aa 0,aa 0,aa 0,aa 11]⟩] a λx a=>au a (c ())) (aj a none (af b) kf λ(x:Bool×Int×Bool×Int×Unit)=>cN p 2 a λd=>True/\aI (!gO x.1 x.2.1 x.2.2.1 x.2.2.2.1 d) (true=true/\aW a (ad (af b) 1) λx=>aA AB 60 (.bu []) [ag p,.agg ⟨[aa fr,aa x,aa 0,aa 7]⟩] a λx a=>au a (c ())) (true=true/\aW
 a (ad (af b) 1) λx=>aA AB 60 (.bu []) [ag p,.agg ⟨[aa fr,aa x,aa 0,aa 0]⟩] a λx a=>au a (c ())))):=by kernel_rfl
theorem Q4 (pw:Option A2) (w:A1) (a:Unit->A1->Prop):(aJ M1 (λ_=>[]) 95 [ag pw] w a)=(
 gu w pw λx=>aA AB 60 (.bu []) [ag x,.agg ⟨[aa 0,aa 0,aa 0,aa 4]⟩] w λx b=>au b (a ())):=by kernel_rfl
theorem Q5 (c pw:Option A2) (w:A1) (d:Unit->A1->Prop):(aJ M1 (λ_=>[]) 97 [ag c,ag pw] w d)=(
 gu w pw λx=>gu w pw λa=>c.isSome=true/\aW w (ad c 3) λe=>gu w pw λf=>cN f 3 w λg=>x.isSome=true/\x.isSome=true/\aC w (ad x 0) [aa e] λb=>True/\cL b pw lZ a/\a.isSome=true/\a.isSome=true/\aC b (ad a 3) [aa (aX .i64 g 1)] λb=>au b (d ())):=by kernel_rfl
theorem Q6 (pw a:Option A2) (w:A1) (Post:Unit->A1->Prop):(aJ M1 (λ_=>[]) 98 [ag pw,ag a] w Post)=(
 aj w none pw (.one .ptr) λx=>a.isSome=true/\aj w none (ad a 3) (.one (.int .i64)) λ(d:Int)=>aj w none pw (.one .ptr) λc=>c.isSome=true/\c.isSome=true/\aj w none (ad c 1) (.one (.int .i64)) λ(e:Int)=>True/\gU 1≠0/\aj w none a (.agg [.bool,.int .i64,.bool,.int .i64]) λ(b:Bool×Int×Bool×Int×Unit)=>aA AB 99 (.bu []) [ag x,aa (aH .i64 d (dz e (gU 1))),.agg ⟨[.bool b.1,aa b.2.1,.bool b.2.2.1,aa b.2.2.2.1]⟩] w λx f=>au f λw1=>Post () w1)
 :=by kernel_rfl
theorem Q7 (pw a:Option A2) (w:A1) (c:Unit->A1->Prop):(aJ M1 (λ_=>[]) 101 [ag pw,ag a] w c)=(
 gu w pw λx=>a.isSome=true/\aW w (ad a 3) λd=>aj w none a kf λ(b:Bool×Int×Bool×Int×Unit)=>aA AB 99 (.bu []) [ag x,aa d,.agg ⟨[.bool b.1,aa b.2.1,.bool b.2.2.1,aa b.2.2.2.1]⟩] w λx e=>au e (c ())):=by kernel_rfl
theorem Q8 (pw:Option A2) (w:A1) (a:Unit->A1->Prop):(aJ M1 (λ_=>[]) 102 [ag pw] w a)=(
 gu w pw λx=>aA AB 60 (.bu []) [ag x,.agg ⟨[aa 0,aa 0,aa 0,aa 11]⟩] w λx b=>au b (a ())):=by kernel_rfl
def wy:Nat->a6:=(λ|3=>[(56,Go.RX.El.one (Go.RX.Sc.int Ax))]| _=>[])
theorem Vr (p:Option A2) (ep:Bool) (er:Int) (el:Bool) (ef:Int) (w:A1) (h:Unit->A1->Prop):(aJ M3 wy 61 [ag p,.agg ⟨[.bool ep,aa er,.bool el,aa ef]⟩] w h)=(
 aM w ⟨[ag p]⟩ 40 λb a=>aM a ⟨[.bool ep,aa er,.bool el,aa ef]⟩ 130 λd a=>true=true/\u9 a (ad (af d) 0) λx=>aj a none (af d) kf λ(c:Bool×Int×Bool×Int×Unit)=>True/\aj a (some (fV c.1 c.2.1 c.2.2.1 c.2.2.2.1)) (af b) lZ λi=>(fV c.1 c.2.1 c.2.2.1 c.2.2.2.1=true->i.isSome=true)/\(fV c.1 c.2.1 c.2.2.1 c.2.2.2.1=true->i.isSome=true)/\aj a (some (fV c.1 c.2.1 c.2.2.1 c.2.2.2.1)) (ad i 3) aV λ(o:Int)=>true=true/\u9 a (ad
 (af d) 2) λf=>aj a (some f) (af b) lZ λj=>(f=true->j.isSome=true)/\(f=true->j.isSome=true)/\aj a (some f) (ad j 3) aV λ(q:Int)=>true=true/\u9 a (ad (af d) 2) λe=>((!e)=true->true=true)/\aj a (some !e) (ad (af d) 1) aV λ(g:Int)=>aj a (some (!e&&decide (g>0))) (af b) lZ λk=>((!e&&decide (g>0))=true->k.isSome=true)/\((!e&&decide (g>0))=true->k.isSome=true)/\aj a (some (!e&&decide (g>0))) (ad k 3) aV λ(r:Int)=>
 aM a {toList:=[.bool !x,.func (.func 95) ⟨[]⟩ {toList:=[ag (af b)]},.bool (fV c.1 c.2.1 c.2.2.1 c.2.2.2.1&&decide (o>0)),.func (.func 97) ⟨[]⟩ {toList:=[ag (af d),ag (af b)]},.bool (f&&q==1),.func (.func 98) ⟨[]⟩ {toList:=[ag (af b),ag (af d)]},.bool (!e&&decide (g>0)&&r==0),.func (.func 101) ⟨[]⟩ {toList:=[ag (af b),ag (af d)]},.bool true,.func (.func 102) ⟨[]⟩ {toList:=[ag (af b)]}]} 197 λb a=> ∃(I:Nat->Int×Unit->A1->Prop),(∃n, ∀w1,
 Ext a w1->I n (0,()) w1)/\ ∀(n:Nat) (s:Int×Unit) (w1:A1),I n s w1->aI (decide (s.1<(↑5:Int))) ((true=true/\0<=s.1/\s.1<(↑5:Int))/\aj w1 none (ad (af b) (Ay s.1*2)) (.agg [.bool,.func]) λx=>aM w1 ⟨[.bool false,P0]⟩ 197 λb a=>aC a (af b) [.bool x.1,x.2.1] λa=>true=true/\u9 a (ad (af b) 0) λx=>aI x (true=true/\aj a none (ad (af b) 1) (.one .func) λx=>Ak AB x (.bu []) [] a λx a=>au a (h ())) (∀l,Ext a l-> ∃(m:Nat),m<n/\I m (aH .i64 s.1 1,
 ()) l)) (au w1 (h ()))):=by kernel_rfl
theorem Q9 (p m:Option A2) (w:A1) (c:Bool->A1->Prop):(aJ M1 (λ_=>[]) 22 [ag p,ag m] w c)=(
 ((!p.isNone)=true->p.isSome=true)/\((!p.isNone)=true->p.isSome=true)/\aj w (some !p.isNone) (ad p 9) rJ λx=>aI (p.isNone|| !x) (au w (c false)) (cN p 3 w λx=>aI (x== -1) (au w (c true)) (∃(x:Int×Int×Int×Int×Unit),ae AB 58 [ag p] w (.agg ⟨[aa x.1,aa x.2.1,az x.2.2.1,az x.2.2.2.1]⟩)/\aA AB 57 (.el (.agg [.int .u64,.bool,.int .i64])) [ag m,.agg ⟨[aa x.1,aa x.2.1,az x.2.2.1,az x.2.2.2.1]⟩] w λ(x:Int×Bool×Int×Unit) a=>aM a ⟨[.int .u64
 0,.bool false,aa 0]⟩ 124 λb a=>aC a (af b) [az x.1,.bool x.2.1,aa x.2.2.1] λa=>fj p 8 a λx=>cN p 0 a λe=>aM a ⟨[aa e]⟩ 3 λf a=> ∀w1,Ext a w1->mH w1 3 1 8 ⟨[aa 0]⟩ (x.1,x.2.1,x.2.2) (some ⟨f,0,none⟩,1,1) λ(r:Option A2×Nat×Nat) a=>p.isSome=true/\p.isSome=true/\aC a (ad p 8) [.slice r.1 r.2.1 r.2.2] λa=>true=true/\cM a (ad (af b) 0) λx=>U (B x)=x/\aM a ⟨[.bool false,aa 0,.bool false,aa 0]⟩ 130 λd a=>aC a (af d) [.bool (IL
 (B x).toNat),aa (F' (B x).toNat),.bool (Kw (B x).toNat),aa (FV (B x).toNat)] λa=>((!!uP (B x).toNat)=true->true=true)/\aj a (some !!uP (B x).toNat) (ad (af b) 2) aV λ(g:Int)=>aI (!uP (B x).toNat||g != 0) (aA AB 60 (.bu []) [ag p,.agg ⟨[aa 0,aa 0,aa 0,aa 11]⟩] a λx a=>au a (c true)) (aj a none (af d) kf λ(x:Bool×Int×Bool×Int×Unit)=>aA AB 61 (.bu []) [ag p,.agg ⟨[.bool x.1,aa x.2.1,.bool x.2.2.1,aa x.2.2.2.1]⟩] a λx a=>
 cN p 3 a λx=>au a (c (x== -1)))))):=by kernel_rfl
theorem Vs (p:Option A2) (w:A1) (c:(Int×Int×Int×Int×Unit)×Bool×Unit->A1->Prop):(bT M1 (λ_=>[]) 24 [ag p] w c)=(
 aM w ⟨[aa 0,aa 0,aa 0,aa 0]⟩ 48 λb a=>((!p.isNone)=true->p.isSome=true)/\((!p.isNone)=true->p.isSome=true)/\aj a (some !p.isNone) (ad p 9) rJ λx=>((!(p.isNone|| !x))=true->p.isSome=true)/\((!(p.isNone|| !x))=true->p.isSome=true)/\aj a (some !(p.isNone|| !x)) (ad p 3) aV λ(d:Int)=>aI (p.isNone|| !x||d != -1) (aC a (af b) [aa 0,aa 0,aa 0,aa 0] λa=>au a λw1=>aj w1 none (af b) dV λ(x:Int×Int×Int×Int×Unit)=>c ((x.1,x.2.1,x.2.2.1,
 x.2.2.2.1,()),false,()) w1) (p.isSome=true/\p.isSome=true/\aj a none (ad p 4) dV λ(x:Int×Int×Int×Int×Unit)=>aC a (af b) [aa x.1,aa x.2.1,aa x.2.2.1,aa x.2.2.2.1] λa=>au a λw1=>aj w1 none (af b) dV λ(x:Int×Int×Int×Int×Unit)=>c ((x.1,x.2.1,x.2.2.1,x.2.2.2.1,()),true,()) w1)):=by kernel_rfl
def wz:Nat->a6:=(λ|4=>[]| _=>[])
theorem Vt (m:Option A2) (f p t:Int) (w:A1) (c:(Int×Int×Int×Int×Unit)->A1->Prop):(bT M1 wz 223 [ag m,aa f,aa p,aa t] w c)=(
 aM w ⟨[aa 0,aa 0,aa 0,aa 0]⟩ 48 λb a=>aA AB 20 (.el lZ) [aa f,aa p,aa t] a λx a=>aI x.isNone (aC a (af b) [aa 0,aa 0,aa 0,aa 1] λa=>au a λw1=>aj w1 none (af b) dV λ(x:Int×Int×Int×Int×Unit)=>c (x.1,x.2.1,x.2.2.1,x.2.2.2.1,()) w1) (∃(I:Nat->Unit->A1->Prop),(∃n, ∀w1,Ext a w1->I n () w1)/\ ∀(n:Nat) (s:Unit) (w1:A1),I n s w1->aA AB 22 (.el rJ) [ag x,ag m] w1 λg a=>aI (!g) (∀
 d,Ext a d-> ∃(e:Nat),e<n/\I e () d) (x.isSome=true/\x.isSome=true/\aj a none (ad x 4) dV λ(x:Int×Int×Int×Int×Unit)=>aC a (af b) [aa x.1,aa x.2.1,aa x.2.2.1,aa x.2.2.2.1] λa=>au a λw1=>aj w1 none (af b) dV λ(x:Int×Int×Int×Int×Unit)=>c (x.1,x.2.1,x.2.2.1,x.2.2.2.1,()) w1))):=by kernel_rfl
abbrev FT:Type:=Int×Int×Int×Int×Unit
abbrev lV (fr pg wt lv:Int) (fd:FT) (s:Option A2×Nat×Nat):List AC:=
 [aa fr,aa pg,aa wt,aa lv,aa fd.1,aa fd.2.1,aa fd.2.2.1,aa fd.2.2.2.1,.slice s.1 s.2.1 s.2.2,.bool true]
def xv (lv e:Int):FT:=(0,0,lv,e,())
def ym (lv wt fr:Int) (ep:Bool) (er:Int) (el:Bool) (ef:Int):FT:=if fr>=4096 then(0,0,lv,11,()) else if gO ep er el ef wt then(fr,er,lv,0,()) else(fr,er,lv,7,())
theorem xR {w:A1} {r:Nat} {k:IntKind} {n:Int} {val:AC} {es:Array B2} {a:Nat} {K:A1->Prop} (h:GS (.int k) (.int k n) es.toList 0=some none)
 (b:K (w.putObj r (.map (es.push {key:= .int k n,val,born:=a}) (a+1)))):ib w r k n val es a K:=by
 unfold ib;rw[h];exact b
section
variable {D G:List Nat} {w0 w:A1} {L:List (Nat×List AC)} {bm bw n c:Nat} {ca la:Int} {ws:List Int} {rest:List AC}
theorem Q_ (H:aK D G w0 w L) (j d:Nat) (f:L[j]? =some (bm,l7 bw n c ca la)) (g:L[d]? =some (bw,flat eW ws++rest)) (m:j≠d) (h:n=ws.length) (h0:0<n) (kd i a b:Int) {K:RT->A1->Prop}
 (k: ∀e,aK D G w0 e (L.set j (bm,l7 bw n c (xh ws i ca) la))->K (dQ ws i,false,Ct ws i,()) e):
 aD AB 89 (.el (.agg sR)) [.agg ⟨[aa kd,aa i,az a,az b]⟩,ag (af bm)] w K:=by
 refine aQ (C:=M1) (aT:=λ_=>[]) (AL (Q2 kd i a b _ w K) ?_);refine aM.go H λo e H=>aM.go H λp q H=>⟨rfl,aj.cA 1 H rfl rfl ?_⟩;refine EH H (j+2) (d+2) f g (by omega) h h0 i λr H=>?_;refine aC.all 0 H rfl rfl rfl λs H=>au.go H λl H=>aj.at 0 H rfl rfl (k l ?_);exact(H.sub (Do _ _)).sub (Do _ _)
theorem vh (H:aK D G w0 w L) {r:Nat} {es:Array B2} {a:Nat} (f:w0.heap.size<=r) (g:r∉D) (b:bH w r es a) {n:Int} {val:AC} {K:A1->Prop} (h:GS (.int .i64) (aa n) es.toList 0=some none)
 (k: ∀c,aK D G w0 c L->bH c r (es.push {key:=aa n,val,born:=a}) (a+1)->K c):
 ∃r' d e,some r=some r'/\bH w r' d e/\ib w r' .i64 n val d e K:=
 ⟨r,es,a,rfl,b,xR h (k _ (H.putObj f b (λ_ _ _ hc=>by cases hc) g) (j8 (DV.1 b).1))⟩
theorem abE (H:aK D G w0 w L) (q:D=[]) (j f:Nat) (r:L[j]? =some (bm,l7 bw n c ca la)) (s:L[f]? =some (bw,flat eW ws++rest)) (E:j≠f) (t:n=ws.length) (h0:0<n) (i a b:Int) {K:RT->A1->Prop}
 (k: ∀g,aK D G w0 g (L.set j (bm,l7 bw n c (xh ws i ca) la))->K (dQ ws i,false,Ct ws i,()) g):
 aA AB 57 (.el (.agg sR)) [ag (af bm),.agg ⟨[aa 1,aa i,az a,az b]⟩] w K:=by
 subst q;refine aA.go H λw1 H=>aQ (C:=M2) (aT:=λ_=>[]) (AL (abD _ 1 i a b w1 K) ?_);refine aM.go H λF g H=>aM.go H λI J H=>λd h u l=>?_;have H:=(((H.ext h).rW (.map ⟨[]⟩ 0)).ext l);have e:w0.heap.size<=d.heap.size:=by have:=(aK.ext (w1:=d) (by assumption) h:aK [] G w0 d _).fr.size;exact this
 have m0:bH u d.heap.size ⟨[]⟩ 0:=l.obj (fG d _);refine vh H e (by simp) m0 rfl λM H v N m=>?_;refine vh (H.ext m) e (by simp) (m.obj v) rfl λO H x P o=>?_;refine vh (H.ext o) e (by simp) (o.obj x) rfl λQ H y R p=>?_;refine vh (H.ext p) e (by simp) (p.obj y) rfl λS H z=>?_;refine⟨rfl,aj.cA 1 H rfl rfl ⟨.func (.func 89) #[] #[],true,⟨_, _, _,rfl,z,?_⟩,an rfl (aj.at 1 H rfl rfl ?_)⟩⟩
 ·exact⟨rfl,rfl⟩
 ·unfold Ak;refine λT A=>⟨_, #[], #[],rfl,by kernel_rfl,?_⟩;refine Q_ (H.ext A) (j+2) (f+2) r s (by omega) t h0 1 i a b λU H=>?_;refine aC.all 0 H rfl rfl rfl λV H=>au.go H λB H=>aj.at 0 H rfl rfl (k B ?_);exact(H.sub (Do _ _)).sub (Do _ _)
end
section
variable {D G:List Nat} {w0 w:A1} {L:List (Nat×List AC)} {bk:Nat} {fr pg wt lv:Int} {fd:FT} {s:Option A2×Nat×Nat}
theorem qc (H:aK D G w0 w L) (j:Nat) (d:L[j]? =some (bk,lV fr pg wt lv fd s)) (x1 a f c:Int) {K:Unit->A1->Prop}
 (k: ∀g,aK D G w0 g (L.set j (bk,lV fr pg wt (-1) (x1,a,lv,c,()) s))->K () g):
 aA AB 60 (.bu []) [ag (af bk),.agg ⟨[aa x1,aa a,aa f,aa c]⟩] w K:=by
 refine aA.go H λw1 H=>ai (C:=M1) (aT:=λ_=>[]) (AL (Vq _ x1 a f c w1 K) ?_);have h:j<L.length:=(CJ.1 d).1;refine aM.go H λb g H=>?_;have i:((b,[aa x1,aa a,aa f,aa c])::L)[j+1]? =some (bk,lV fr pg wt lv fd s):=d;refine⟨rfl,rfl,aj.cA (j+1) H i rfl ⟨rfl,aC.gJ 0 H rfl rfl rfl λm H=>aj.at 0 H rfl rfl ⟨rfl,rfl,?_⟩⟩⟩;rw[aY,aY];refine aC.at (j+1) H d rfl (Nat.le_of_ble_eq_true rfl) λn H=>⟨rfl,rfl,?_⟩;refine aC.one (j+1) H (FS (Nat.succ_lt_succ h)) rfl rfl λo H=>au.go H λl H=>k l ?_;have H:=H.sub (Do _ _);have e:(L.set j (bk,lV fr pg wt lv (x1,a,lv,c,()) s)).set j (bk,lV fr pg wt (-1) (x1,a,lv,c,()) s)=L.set j (bk,lV fr pg wt (-1) (x1,a,lv,c,()) s):=List.set_set ..;rw[<-e];exact H
theorem PF (H:aK D G w0 w L) (j:Nat) (i:L[j]? =some (bk,lV fr pg wt lv fd s)) (f:Int) (ep:Bool) (er:Int) (el:Bool) (ef:Int) {K:Unit->A1->Prop}
 (k: ∀g,aK D G w0 g (L.set j (bk,lV fr pg wt (-1) (ym lv wt f ep er el ef) s))->K () g):
 aA AB 99 (.bu []) [ag (af bk),aa f,.agg ⟨[.bool ep,aa er,.bool el,aa ef]⟩] w K:=by
 refine aA.go H λw1 H=>ai (C:=M1) (aT:=λ_=>[]) (AL (Z4 _ f ep er el ef w1 K) ?_);refine aM.go H λb g H=>?_;have d:((b,[B1 ep,aa er,.bool el,aa ef])::L)[j+1]? =some (bk,lV fr pg wt lv fd s):=i;refine ab (λc=>?_) (λc=>aj.at 0 H rfl rfl ⟨rfl,rfl,aj.cA (j+1) H d rfl ⟨trivial,ab (λc2=>?_) (λc2=>?_)⟩⟩)
 ·refine qc H (j+1) d 0 0 0 11 λh H=>au.go H λa H=>k a ?_;have e:ym lv wt f ep er el ef=(0,0,lv,11,()):=aw (of_decide_eq_true c);rw[e];exact H.sub (Do _ _)
 ·refine⟨rfl,aj.cA 0 H rfl rfl (qc H (j+1) d f er 0 7 λh H=>au.go H λa H=>k a ?_)⟩;have e:ym lv wt f ep er el ef=(f,er,lv,7,()):=by
   have c3:gO ep er el ef wt=false:=by simpa using c2
   unfold ym;rw[ao (of_decide_eq_false c),c3];rfl
  rw[e];exact H.sub (Do _ _)
 ·refine⟨rfl,aj.cA 0 H rfl rfl (qc H (j+1) d f er 0 0 λh H=>au.go H λa H=>k a ?_)⟩;have e:ym lv wt f ep er el ef=(f,er,lv,0,()):=by
   have c3:gO ep er el ef wt=true:=by simpa using c2
   unfold ym;rw[ao (of_decide_eq_false c),aw c3]
  rw[e];exact H.sub (Do _ _)
end
end Go.Proofs.YtlcenllcmeebhaaGreat
