import Derived.Test.YtlcenllcmeebhaaGreatPBA
/-! What the statement leans on: texts joined and shortened by a program of mine. -/
set_option linter.unusedVariables false
set_option linter.unusedSimpArgs false
open Go renaming World->A1,Addr->A2,Value->AL,Obj->AY,MapEntry->Az,Program->DA,FuncId->DD,TypeId->Eo
open Go.Proofs.Tryz renaming prog->AC
open Eq renaming mpr->AM
open List renaming mem_map->AP,perm_middle->B1,mem_cons->B2,length_take->B3,mem_cons_of_mem->B4,nodup_cons->B5,getElem?_eq_some_iff->Be,map_cons->Bx,length_append->CD,mem_append_left->CF,mem_cons_self->Cf,mem_singleton->DF,mem_append_right->DL,getElem?_eq_getElem->DU,getElem?_set_ne->DZ,take_append_drop->Dn,sublist_cons_self->Do,append_assoc->F5,map_append->F6,nodup_nil->F7,mem_of_getElem?->FI,getElem?_set_self->FK,replicate->FS,mem_append->FU,length_drop->FX,getElem?_map->FY,getElem?_of_mem->GD,ext_getElem?->GF,filter_cons->GG,mem_or_eq_of_mem_set->Gj,getElem?_append_left->Gn,nodup_append->Gp,append_nil->Gq,eq_nil_of_length_eq_zero->Gr,take_add_one->Gz,drop_length->H4,drop_eq_getElem_cons->I2,drop_eq_nil_of_le->I3,getElem?_inj->I8,getElem?_append_right->IG,take_append_of_le_length->IJ,take_of_length_le->IN,length_set->IQ,getD_eq_getElem?_getD->IR,filter_eq_self->In,take_length->J3,any_eq_true->K1,set_eq_take_append_cons_drop->Kl,drop_length_add_append->Km,perm_append_singleton->Kt,sublist_append_right->LL,length_map->M4,findIdx?_eq_none_iff->M5,eraseIdx_eq_take_drop_succ->N4,find?_append->N7,find?_cons->N9,length_nil->N_,length_cons->Nz,set_append_right->O2,pairwise_append->OC,take_zero->OG,getElem?_take_of_lt->OI
open Go.IntKind renaming i64->Am,u64->OK
open Int renaming toNat->Ap,toNat_natCast->Du,ediv_nonneg->OR
open Go.Value renaming bool->Ar,int->E4,chan->H5,nilFunc->Oe
open Nat renaming zero_add->CB,le_trans->DB,le_refl->DM,min_eq_left->E5,zero_le->GH,mul_le_mul_right->GS,sub_self->Ga,lt_of_lt_of_le->H6,lt_succ_self->H7,mul_one->HB,add_mul->KA,testBit_mod_two_pow->KF,mod_eq_of_lt->Og,eq_of_testBit_eq->Ox
open List.Perm renaming cons->Cp,swap->Ea
open Array renaming getElem?_eq_some_iff->DR,ext'->Kf,mk->Kg
open Bool renaming or_eq_true->Ee,or_eq_false_iff->Ek,true_and->Gd,and_eq_true->Hb,and_eq_false_iff->Hq,eq_iff_iff->Hr,not_eq_true'->Kh,not_eq_false'->Oy
open Decidable renaming rec->G1
open Go.Instr renaming findNow->GI
open BitVec renaming testBit_toNat->GJ,getLsbD_and->I1,getLsbD_ushiftRight->Kj,allOnes->PP,getLsbD_shiftLeft->PS,getLsbD_of_ge->Pl
open Go.Builtin renaming zeroCells->Gi
open List.Sublist renaming refl->Pn,cons_cons->Pp,cons->Rg
namespace Go.Proofs.YtlcenllcmeebhaaGreat
set_option maxRecDepth 100000
open Go.RX
def d_ (lo sz:Int):Bool:=decide (lo>=0)&&decide (lo<64)&&decide (sz>=1)&&decide (sz<=64 - lo)
theorem iM {lo sz:Int}:d_ lo sz=true<->0<=lo/\lo<64/\1<=sz/\sz<=64 - lo:=by
 simp only[d_,Hb,decide_eq_true_eq];omega
def Mk (lo n:Nat):BitVec 64:=(PP 64 >>> (64 - n)) <<< lo
theorem CN {lo n j:Nat} (c:n<=64):(Mk lo n).getLsbD j=(decide (lo<=j)&&decide (j<lo+n)&&decide (j<64)):=by
 unfold Mk;rw[PS,Kj,BitVec.getLsbD_allOnes];by_cases h1:j<64<;>by_cases a:lo<=j<;>by_cases b:j<lo+n<;>simp[h1,a,b]<;>omega
def fX (lo sz:Int):BitVec 64:=if d_ lo sz=true then Mk lo.toNat sz.toNat else 0#64
def fp (w:BitVec 64) (lo sz:Int):BitVec 64:=(w &&& fX lo sz) >>> (DQ 0 (kK lo 63)).toNat
def tw (w:BitVec 64) (lo sz:Int) (v:BitVec 64):BitVec 64:=if fX lo sz=0#64 then w else w &&& ~~~ fX lo sz ||| v <<< lo.toNat &&& fX lo sz
theorem Ho {lo sz:Int} (h:d_ lo sz=true):DP .u64 (Kv .u64 18446744073709551615 (aZ .i64 64 sz)) lo=U (fX lo sz):=by
 have h':=iM.1 h;rw[show(18446744073709551615:Int)=U (PP 64) from rfl,Pu,Pt,bE (by omega) (by omega)];unfold fX Mk;rw[if_pos h];congr 4;omega
theorem Qr {lo sz:Int} (h:d_ lo sz=true):fX lo sz≠0#64:=by
 intro h0;have h':=iM.1 h;have:=congrArg (λb=>b.getLsbD lo.toNat) h0;simp only[fX,if_pos h] at this;rw[CN (by omega)] at this;simp at this;omega
theorem zT {lo sz:Int} (h:d_ lo sz=false):fX lo sz=0#64:=by simp[fX,h]
def Gk (w:BitVec 64) (lo k:Nat):BitVec 64:=(w >>> lo) &&& Mk 0 k
theorem Pv {w:BitVec 64} {lo k j:Nat} (a:k<=64):(Gk w lo k).getLsbD j=(w.getLsbD (lo+j)&&decide (j<k)):=by
 unfold Gk;rw[I1,Kj,CN a];by_cases h:j<k<;>simp[h];omega
def Pk (w v:BitVec 64) (lo k:Nat):BitVec 64:=w &&& ~~~ Mk lo k ||| v <<< lo &&& Mk lo k
theorem ZG {w v:BitVec 64} {lo k j:Nat} (a:k<=64) (b:j<64):(Pk w v lo k).getLsbD j=if lo<=j/\j<lo+k then v.getLsbD (j - lo) else w.getLsbD j:=by
 unfold Pk;rw[BitVec.getLsbD_or,I1,I1,BitVec.getLsbD_not,PS,CN a];by_cases h1:lo<=j<;>by_cases c:j<lo+k<;>simp[h1,c,b]
 all_goals omega
theorem UM {w:BitVec 64} {lo sz:Int} (h:d_ lo sz=true):fp w lo sz=Gk w lo.toNat sz.toNat:=by
 have h':=iM.1 h;unfold fp fX;rw[if_pos h];have e:(DQ 0 (kK lo 63)).toNat=lo.toNat:=by unfold DQ kK;split<;>split<;>omega
 rw[e];apply BitVec.eq_of_getLsbD_eq;intro j b;rw[Pv (by omega),Kj,I1,CN (by omega)];by_cases h1:lo.toNat+j<64
 ·by_cases a:j<sz.toNat<;>simp[h1,a]
 ·rw[Pl w _ (by omega)];simp
theorem UN {w v:BitVec 64} {lo sz:Int} (h:d_ lo sz=true):tw w lo sz v=Pk w v lo.toNat sz.toNat:=by
 unfold tw Pk;rw[if_neg (Qr h)];simp only[fX,if_pos h]
theorem mx:AC.follows .mixedOrders=true:=by kernel_rfl
noncomputable def C0:dJ AC:={sW:=[],quiet:=[],sh:=[],mixed:=mx}
theorem UO (low size:Int) (w:A1) (a:Bool->A1->Prop):(aK C0 (λ_=>[]) 144 [.int .i64 low,.int .i64 size] w a)=(
 au w (a (decide (low>=0)&&decide (low<64)&&decide (size>=1)&&decide (size<=aZ .i64 64 low)))):=by kernel_rfl
theorem Qs (lo sz:Int):(decide (lo>=0)&&decide (lo<64)&&decide (sz>=1)&&decide (sz<=aZ .i64 64 lo))=d_ lo sz:=by
 unfold d_;by_cases h:0<=lo/\lo<64
 ·rw[bE (by omega) (by omega)]
 ·by_cases h1:lo>=0<;>by_cases a:lo<64<;>simp[h1,a]<;>omega
noncomputable def tH:Entry AC where
 f:=144
 fn l:=match l with
  |[.int .i64 lo,.int .i64 sz]=>some (True,.bool (d_ lo sz))
  | _=>none
 ok args pre v h _ w:=by
  split at h
  ·rename_i lo sz;cases h;refine bV (x:=d_ lo sz) (ai (C:=C0) (aR:=λ_=>[]) (AM (UO lo sz w _) λw1 h1=>⟨Qs lo sz,h1⟩))
  ·cases h
noncomputable def C1:dJ AC:={C0 with sW:=[tH]}
theorem UP (low size:Int) (w:A1) (a:Int->A1->Prop):(aK C1 (λ_=>[]) 195 [.int .i64 low,.int .i64 size] w a)=(
 True/\aI (!d_ low size) (au w (a 0)) (0<=aZ .i64 64 size/\0<=low/\au w λw1=>a (DP .u64 (Kv .u64 18446744073709551615 (aZ .i64 64 size)) low) w1)):=by kernel_rfl
theorem UQ (lo sz:Int) (w:A1):aE AC 195 (.el (.one (.int .u64))) [.int .i64 lo,.int .i64 sz] w (λx w'=>x=U (fX lo sz)/\Ext w w'):=by
 refine ai (C:=C1) (aR:=λ_=>[]) (AM (UP lo sz w _) ⟨trivial,?_⟩);refine ab (λh=>?_) (λh=>?_)
 ·intro w1 h1;refine⟨?_,h1⟩;rw[zT (by simpa using h)];rfl
 ·have h':d_ lo sz=true:=by simpa using h
  have a:=iM.1 h';refine⟨by rw[bE (by omega) (by omega)];omega,a.1,λw1 h1=>⟨Ho h',h1⟩⟩
noncomputable def v8:Entry AC where
 f:=195
 fn l:=match l with
  |[.int .i64 lo,.int .i64 sz]=>some (True,.int .u64 (U (fX lo sz)))
  | _=>none
 ok args pre v h a w:=by
  split at h
  ·rename_i lo sz;cases h;exact bV (UQ lo sz w)
  ·cases h
noncomputable def C2:dJ AC:={C0 with sW:=[tH,v8]}
theorem ZH (v low size:Int) (w:A1) (a:Int->A1->Prop):(aK C2 (λ_=>[]) 141 [.int .u64 v,.int .i64 low,.int .i64 size] w a)=(
 True/\0<=DQ 0 (kK low 63)/\au w λw1=>a (Kv .u64 (xB .u64 v (U (fX low size))) (DQ 0 (kK low 63))) w1):=by kernel_rfl
theorem ZI (v low size x:Int) (w:A1) (a:Int->A1->Prop):(aK C2 (λ_=>[]) 250 [.int .u64 v,.int .i64 low,.int .i64 size,.int .u64 x] w a)=(
 True/\aI (U (fX low size)==0) (au w (a v)) (0<=low/\au w λw1=>a (orI .u64 (gL .u64 v (U (fX low size))) (xB .u64 (DP .u64 x low) (U (fX low size)))) w1)):=by kernel_rfl
theorem ZJ (v:BitVec 64) (lo sz:Int) (w:A1):aE AC 141 (.el (.one (.int .u64))) [.int .u64 (U v),.int .i64 lo,.int .i64 sz] w (λx w'=>x=U (fp v lo sz)/\Ext w w'):=by
 refine ai (C:=C2) (aR:=λ_=>[]) (AM (ZH (U v) lo sz w _) ⟨trivial,by unfold DQ;split<;>omega,λw1 h1=>⟨?_,h1⟩⟩);rw[Ps,Pu];rfl
theorem ZK (v:BitVec 64) (lo sz:Int) (x:BitVec 64) (w:A1):aE AC 250 (.el (.one (.int .u64))) [.int .u64 (U v),.int .i64 lo,.int .i64 sz,.int .u64 (U x)] w (λy w'=>y=U (tw v lo sz x)/\Ext w w'):=by
 refine ai (C:=C2) (aR:=λ_=>[]) (AM (ZI (U v) lo sz (U x) w _) ⟨trivial,?_⟩);have b:(U (fX lo sz)==0)=decide (fX lo sz=0#64):=by
  have:(U (fX lo sz)=0)<->fX lo sz=0#64:=by rw[show(0:Int)=U 0#64 from rfl,abr]
  by_cases h:fX lo sz=0#64
  ·rw[this.2 h,h];rfl
  ·have h': ¬ U (fX lo sz)=0:=λe=>h (this.1 e);simp[h,h']
 rw[b];refine ab (λh=>λw1 h1=>⟨?_,h1⟩) (λh=>?_)
 ·simp only[decide_eq_true_eq] at h;unfold tw;rw[if_pos h]
 ·simp only[decide_eq_false_iff_not] at h;have a:d_ lo sz=true:=by
   cases a:d_ lo sz with
   |true=>rfl
   |false=>exact absurd (zT a) h
  refine⟨(iM.1 a).1,λw1 h1=>⟨?_,h1⟩⟩;rw[KP,Pt,Ps,abt];unfold tw;rw[if_neg h]
noncomputable def Ge:Entry AC where
 f:=141
 fn l:=match l with
  |[.int .u64 v,.int .i64 lo,.int .i64 sz]=>some (U (B v)=v,.int .u64 (U (fp (B v) lo sz)))
  | _=>none
 ok args pre v h a w:=by
  split at h
  ·rename_i v lo sz;cases h;have:=bV (ZJ (B v) lo sz w);rw[a] at this;exact this
  ·cases h
noncomputable def Gf:Entry AC where
 f:=250
 fn l:=match l with
  |[.int .u64 v,.int .i64 lo,.int .i64 sz,.int .u64 x]=>some (U (B v)=v/\U (B x)=x,.int .u64 (U (tw (B v) lo sz (B x))))
  | _=>none
 ok args pre v h a w:=by
  split at h
  ·rename_i v lo sz x;cases h;have:=bV (ZK (B v) lo sz (B x) w);rw[a.1,a.2] at this;exact this
  ·cases h
noncomputable def C3:dJ AC:={C0 with sW:=[tH,v8,Ge,Gf]}
def wE:Nat->a6:=(λ|4=>[(3,Go.RX.El.one (Go.RX.Sc.int OK)),(4,Go.RX.El.one (Go.RX.Sc.int Am)),(9,Go.RX.El.one (Go.RX.Sc.int Am))]| _=>[])
theorem UR (p:Option A2) (n c:Nat) (w:A1) (d:Int->A1->Prop):(aK C3 wE 248 [.slice p n c] w d)=(
 ∃(I:Nat->Int×Int×Int×Unit->A1->Prop),(∃n, ∀w1,Ext w w1->I n (0,0,0,()) w1)/\ ∀(f:Nat) (s:Int×Int×Int×Unit) (w1:A1),I f s w1->aI (decide (s.2.2.1<(↑n:Int))) ((p.isSome=true/\0<=s.2.2.1/\s.2.2.1<(↑n:Int))/\aj w1 none (ad p (Ap s.2.2.1*2)) cF λ(x:Int×Int×Unit)=>aN w1 ⟨[.int .u64 0,.int .i64 0]⟩ 304 λb a=>aC a (af b) [.int .u64 x.1,.int .i64 x.2.1] λa=>true=true/\aU a (ad (af b) 1) λx=>True/\aI (!d_ s.2.1 x) (au a (d 0)) (true=true/\aU a (ad (af b) 1) λ
 x=>true=true/\cM a (ad (af b) 0) λe=>(U (B s.1)=s.1/\U (B e)=e)/\true=true/\aU a (ad (af b) 1) λi=> ∀g,Ext a g-> ∃(h:Nat),h<f/\I h (U (tw (B s.1) s.2.1 x (B e)),aH .i64 s.2.1 i,aH .i64 s.2.2.1 1,()) g)) (au w1 (d s.1))):=by kernel_rfl
def uz:Nat->a6:=(λ|4=>[(5,Go.RX.El.one Go.RX.Sc.slice),(6,Go.RX.El.one (Go.RX.Sc.int Am)),(11,Go.RX.El.one (Go.RX.Sc.int Am))]| _=>[])
theorem Qt (v:Int) (p:Option A2) (n c:Nat) (w:A1) (a:Option A2×Nat×Nat->A1->Prop):(aK C3 uz 93 [.int .u64 v,.slice p n c] w a)=(
 ∃(I:Nat->(Option A2×Nat×Nat)×Int×Int×Unit->A1->Prop),(∃n, ∀w1,Ext w w1->I n ((none,0,0),0,0,()) w1)/\ ∀(e:Nat) (s:(Option A2×Nat×Nat)×Int×Int×Unit) (w1:A1),I e s w1->aI (decide (s.2.2.1<(↑n:Int))) ((p.isSome=true/\0<=s.2.2.1/\s.2.2.1<(↑n:Int))/\aU w1 (ad p (Ap s.2.2.1*1)) λx=>True/\aI (!d_ s.2.1 x) (au w1 (a (none,0,0))) (U (B v)=v/\aN w1 ⟨[.int .u64 (U (fp (B v) s.2.1 x))]⟩ 29 λb d=> ∀w1,Ext d w1->mF w1 29 1 8 ⟨[.int .u64 0]⟩ (s.1.1,s.1.2.1,s.1.2.2) (some ⟨b,0,
 none⟩,1,1) λ(r:Option A2×Nat×Nat) d=> ∀f,Ext d f-> ∃(g:Nat),g<e/\I g ((r.1,r.2.1,r.2.2),aH .i64 s.2.1 x,aH .i64 s.2.2.1 1,()) f)) (au w1 (a (s.1.1,s.1.2.1,s.1.2.2)))):=by kernel_rfl
abbrev eI:El:= .one (.int .i64)
abbrev eU:El:= .one (.int .u64)
abbrev eP:El:= .agg [.int .u64,.int .i64]
def rb:BitVec 64->Int->List (BitVec 64×Int)->BitVec 64
 |w, _,[]=>w
 |w,lo,(v,sz)::r=>if d_ lo sz=true then rb (tw w lo sz v) (lo+sz) r else 0#64
def OB (l:List (BitVec 64×Int)):List (Int×Int×Unit):=l.map λx=>(U x.1,x.2,())
theorem jk {α:Type} {l:List α} {i:Nat} (h:i<l.length):l.drop i=l[i]::l.drop (i+1):=I2 h
theorem US {p:Option A2} {n c:Nat} {w:A1} {xs:List (BitVec 64×Int)} (z:Sl w eP p (OB xs)) (K:n=xs.length) (hb:n<4611686018427387904):
 aE AC 248 (.el eU) [.slice p n c] w (λx w'=>x=U (rb 0#64 0 xs)/\Ext w w'):=by
 refine ai (C:=C3) (aR:=wE) (AM (UR p n c w _) ?_);refine⟨λk s w'=>Ext w w'/\ ∃(i:Nat) (b:BitVec 64),s.1=U b/\s.2.2.1=i/\k+i=n/\0<=s.2.1/\s.2.1<=64/\rb b s.2.1 (xs.drop i)=rb 0#64 0 xs,⟨n,λw1 h1=>⟨h1,0,0#64,rfl,rfl,rfl,by decide,by decide,rfl⟩⟩,?_⟩;rintro k ⟨x,lo,L,u⟩ w1 ⟨l,i,b,h1,g,M,A,B,e⟩;simp only at h1 g A B e;subst h1;subst g;dsimp only;refine ab (λh=>?_) (λh=>λD g=>⟨?_,l.trans g⟩)
 ·simp only[decide_eq_true_eq] at h;have hi:i<xs.length:=by omega
  have E:(OB xs)[i]? =some (U xs[i].1,xs[i].2,()):=by simp[OB,hi]
  have a1:=(z.ext l) i _ E;rw[jk hi] at e;refine⟨⟨a1.1,by omega,by omega⟩, _,a1.2,λd F f t=>?_⟩;have dj:bK f d.heap.size [.int .u64 0,.int .i64 0]:=(bK.new d _ _).ext t;have v:Ext w d:=l.trans F;have G:Ext w f:=(v.jc _).trans t;have m:=dj.put (o:=0) [E4 .u64 (U xs[i].1),E4 .i64 xs[i].2] (by simp);simp at m;have y:Ext w (jB f (some ⟨d.heap.size,0,none⟩) [E4 .u64 (U xs[i].1),E4 .i64 xs[i].2]):=G.jB (a:=⟨d.heap.size,0,none⟩) v.size _;have H:cC (jB f (some ⟨d.heap.size,0,none⟩) [E4 .u64 (U xs[i].1),E4 .i64 xs[i].2]) (ad (some ⟨d.heap.size,0,none⟩) 0) (.one (.int .u64)) (U xs[i].1):=by
   rw[aW];exact m.oK rfl
  have q:cC (jB f (some ⟨d.heap.size,0,none⟩) [E4 .u64 (U xs[i].1),E4 .i64 xs[i].2]) (ad (some ⟨d.heap.size,0,none⟩) 1) (.one (.int .i64)) xs[i].2:=by
   rw[aW];exact m.oK rfl
  refine⟨⟨rfl,dj.st (by simp)⟩,rfl, _,q,trivial,ab (λr D I=>⟨?_,y.trans I⟩) (λr=>⟨rfl, _,q,rfl, _,H,⟨by rw[FJ],by rw[FJ]⟩,rfl, _,q,λN J=>⟨k - 1,by omega,y.trans J,i+1,tw b lo xs[i].2 xs[i].1,?_,?_,by omega,?_,?_,?_⟩⟩)⟩
  ·have j:d_ lo xs[i].2=false:=by simpa using r
   rw[<-e];simp only[rb,j];rfl
  all_goals
   have j:d_ lo xs[i].2=true:=by simpa using r
   have O:=iM.1 j
  ·show U _= _;rw[FJ,FJ]
  ·show aH _ _ _= _;rw[aw (by omega) (by omega)];rfl
  ·show 0<=aH .i64 lo _;rw[aw (by omega) (by omega)];omega
  ·show aH .i64 lo _<=64;rw[aw (by omega) (by omega)];omega
  ·show rb _ (aH .i64 lo _) _= _;rw[aw (by omega) (by omega), <-e];simp only[rb,j,if_true]
 ·simp only[decide_eq_false_iff_not] at h;rw[I3 (by omega)] at e;rw[<-e];rfl
def my (w:BitVec 64):Int->List Int->Option (List (BitVec 64))
 | _,[]=>some []
 |lo,sz::r=>if d_ lo sz=true then(my w (lo+sz) r).map (fp w lo sz:: ·) else none
def Cv (l:List (BitVec 64)):List Int:=l.map U
theorem Qu {v:BitVec 64} {p:Option A2} {n c:Nat} {w:A1} {xs:List Int} (y:Sl w eI p xs) (J:n=xs.length) (hb:n<=1000):
 aE AC 93 (.el (.one .slice)) [.int .u64 (U v),.slice p n c] w (λr w'=>lR w w' eU r (Cv ((my v 0 xs).getD []))/\Ext w w'):=by
 refine ai (C:=C3) (aR:=uz) (AM (Qt (U v) p n c w _) ?_);refine⟨λk s w'=>Ext w w'/\ ∃(i:Nat) (a:List (BitVec 64)),s.2.2.1=i/\k+i=n/\0<=s.2.1/\s.2.1<=64/\a.length=i/\lR w w' eU s.1 (Cv a)/\my v 0 xs=(my v s.2.1 (xs.drop i)).map (a++ ·),⟨n,λw1 h1=>⟨h1,0,[],rfl,rfl,by decide,by decide,rfl,lR.nil w w1 eU,by simp⟩⟩,?_⟩;rintro k ⟨s,lo,K,u⟩ w1 ⟨f,i,a,d,L,z,A,D,m,b⟩;simp only at d m z A b;subst d;dsimp only;refine ab (λh=>?_) (λh=>λo d=>⟨?_,f.trans d⟩)
 ·simp only[decide_eq_true_eq] at h;have hi:i<xs.length:=by omega
  have a1:=(y.ext f) i _ (DU hi);have i1:p.isSome=true/\(0:Int)<=i/\(i:Int)<n:=⟨a1.1,by omega,by omega⟩;rw[jk hi] at b;refine⟨i1, _,a1.2,trivial,ab (λg o E=>⟨?_,f.trans E⟩) (λg=>⟨by rw[FJ],λM F N G=>?_⟩)⟩
  ·have j:d_ lo xs[i]=false:=by simpa using g
   simp only[my,j] at b;rw[b];exact lR.nil w o eU
  ·have j:d_ lo xs[i]=true:=by simpa using g
   have O:=iM.1 j;have P:(Cv a).length<=1000:=by simp[Cv];omega
   refine Qq (e:=eU) (x:=U (fp (B (U v)) lo xs[i])) m f rfl F G rfl (by omega) λs' w' q H g Q R t=>⟨k - 1,by omega,H.trans t,i+1,a++[fp v lo xs[i]],?_,by omega,?_,?_,by simp[D],?_,?_⟩
   ·show aH _ _ _= _;rw[aw (by omega) (by omega)];rfl
   ·show 0<=aH .i64 lo _;rw[aw (by omega) (by omega)];omega
   ·show aH .i64 lo _<=64;rw[aw (by omega) (by omega)];omega
   ·rw[FJ] at q;have I:Cv (a++[fp v lo xs[i]])=Cv a++[U (fp v lo xs[i])]:=by simp[Cv]
    rw[I];exact q.ext t
   ·show _=(my v (aH .i64 lo _) _).map _;rw[aw (by omega) (by omega),b];simp only[my,j,if_true,Option.map_map];congr 1;funext l;simp
 ·simp only[decide_eq_false_iff_not] at h;rw[I3 (by omega)] at b;rw[b];simp[my];exact m.ext d
end Go.Proofs.YtlcenllcmeebhaaGreat
namespace Go.RX
open Go.RowKit
def Y_ (n:Nat) (w:A1) (e:El) (s:Option A2×Nat×Nat) (xs:List e.T):Prop:=
 s.2.1=xs.length/\xs.length<=s.2.2/\
 ((s.1=none/\xs=[]/\s.2.2=0)\/ ∃b l,s.1=some ⟨b,0,none⟩/\n<=b/\bK w b l/\l.length=s.2.2*aF e/\l.take (xs.length*aF e)=flat e xs)
theorem lR.toN {w0 w:A1} {e:El} {s:Option A2×Nat×Nat} {xs:List e.T} (h:lR w0 w e s xs):Y_ w0.heap.size w e s xs:=h
theorem Y_.of {w0 w:A1} {e:El} {s:Option A2×Nat×Nat} {xs:List e.T} {n:Nat} (h:Y_ n w e s xs) (a:w0.heap.size<=n):lR w0 w e s xs:=by
 obtain⟨h1,b,c⟩:=h;refine⟨h1,?_⟩
 grind
def v9 (n:Nat) (w:A1):A1:={w with heap:=w.heap.extract 0 n}
theorem iG {n:Nat} {w:A1} (h:n<=w.heap.size):(v9 n w).heap.size=n:=by grind[v9]
theorem qt {n:Nat} {w:A1} (h:n<=w.heap.size):Ext (v9 n w) w:=by
 refine⟨rfl,rfl,rfl,?_,λk a=>?_⟩
 ·rw[iG h];grind
 ·rw[iG h] at a;show w.heap[k]? =(w.heap.extract 0 n)[k]?
  grind
theorem Aj {n:Nat} {w w':A1} (h:n<=w.heap.size) (k:Ext (v9 n w) w') (a:w.heap.size<=w'.heap.size):Below n w w':=
 ⟨k.os,k.tape,k.output,a,λj b=>by
  have h1:=k.block (by rw[iG h];exact b);have c:=(qt h).block (k:=j)
  grind⟩
end Go.RX
namespace Go.RowKit
open Go.RX
end Go.RowKit
namespace Go.RX
open Go.RowKit
structure Fr (G:List Nat) (w w':A1):Prop where
 os:w'.os=w.os
 tape:w'.tape=w.tape
 output:w'.output=w.output
 size:w.heap.size<=w'.heap.size
 block: ∀k,k<w.heap.size->k∉G->w'.heap[k]? =w.heap[k]?
theorem Fr.refl (G:List Nat) (w:A1):Fr G w w:=⟨rfl,rfl,rfl,by simp,λ_ _ _=>rfl⟩
theorem Fr.trans {G:List Nat} {a b c:A1} (h:Fr G a b) (k:Fr G b c):Fr G a c:=
 ⟨k.os.trans h.os,k.tape.trans h.tape,k.output.trans h.output,DB h.size k.size,λj d e=>(k.block j (H6 d h.size) e).trans (h.block j d e)⟩
theorem Fr.vp {G:List Nat} {w w':A1} (h:Ext w w'):Fr G w w':=⟨h.os,h.tape,h.output,h.size,λ_ a _=>h.block a⟩
theorem Fr.ext {w w':A1} (h:Fr [] w w'):Ext w w':=⟨h.os,h.tape,h.output,h.size,λk a=>h.block k a (by simp)⟩
theorem Fr.dj {G:List Nat} {w w':A1} (h:Fr G w w') {b:Nat} {l:List AL} (hb:b∉G) (k:bK w b l):bK w' b l:=k.same (h.block b k.lt hb)
theorem Fr.jB {G:List Nat} {w0 w:A1} (h:Fr G w0 w) {a:A2} (l:w0.heap.size<=a.block\/a.block∈G) (vs:List AL):Fr G w0 (jB w (some a) vs):=by
 have env: ∀(vs) (w) (i),(putAt w a vs i).os=w.os/\(putAt w a vs i).tape=w.tape/\(putAt w a vs i).output=w.output:=by
  intro vs
  induction vs with
  |nil=>intro w i;exact⟨rfl,rfl,rfl⟩
  |cons v r b=>
   intro w i;have:=b (w.setCell (a.add i) v) (i+1);exact this
 obtain⟨c,d,e⟩:=env vs w 0;refine⟨c.trans h.os,d.trans h.tape,e.trans h.output,?_,λk f g=>?_⟩
 ·show _<=(putAt w a vs 0).heap.size;rw[sL];exact h.size
 ·have j:k≠a.block:=by
   grind
  exact(mV vs w a 0 k j).trans (h.block k f g)
structure aM (D G:List Nat) (w0 w:A1) (L:List (Nat×List AL)):Prop where
 fr:Fr G w0 w
 dj: ∀x∈L,bK w x.1 x.2
 own: ∀x∈L,w0.heap.size<=x.1\/x.1∈G
 nd:(L.map (·.1)).Nodup
 qc: ∀r∈D,w0.heap.size<=r/\w.heap[r]? =some (.deferred (some []))
abbrev At:=aM []
theorem At.start (G:List Nat) (w:A1):At G w w [] where
 fr:=Fr.refl G w
 dj:=λx=>by grind
 own:=λa=>by grind
 nd:=F7
 qc:=λa=>by grind
namespace aM
variable {D G:List Nat} {w0 w w1:A1} {L:List (Nat×List AL)}
theorem ext (H:aM D G w0 w L) (h:Ext w w1):aM D G w0 w1 L:=
 ⟨H.fr.trans (.vp h),λx b=>(H.dj x b).ext h,H.own,H.nd,λr a=>⟨(H.qc r a).1,h.obj (H.qc r a).2⟩⟩
theorem all (H:aM D [] w0 w L):Ext w0 w:=H.fr.ext
theorem get (H:aM D G w0 w L) {i b:Nat} {l:List AL} (h:L[i]? =some (b,l)):bK w b l:=H.dj _ (FI h)
theorem ne (H:aM D G w0 w L) {i j b c:Nat} {l m:List AL} (h:L[i]? =some (b,l)) (k:L[j]? =some (c,m)) (a:i≠j):b≠c:=by
 intro;have h1:(L.map (·.1))[i]? =some b:=by grind
 have d:(L.map (·.1))[j]? =some b:=by grind
 exact a ((I8 (by grind) H.nd).1 (h1.trans d.symm))
theorem alloc (H:aM D G w0 w L) (cs:List AL) (t:Eo):aM D G w0 (w.alloc (.cells ⟨cs⟩ t)) ((w.heap.size,cs)::L):=by
 have b:=H.ext (Ext.alloc w (.cells ⟨cs⟩ t));refine⟨b.fr,λx a=>?_,λx a=>?_,?_,b.qc⟩
 ·rcases B2.1 a with rfl|a
  ·exact bK.new w cs t
  ·exact b.dj x a
 ·rcases B2.1 a with rfl|a
  ·exact .inl H.fr.size
  ·exact b.own x a
 ·refine B5.2 ⟨λc=>?_,H.nd⟩;obtain⟨x,a,e⟩:=AP.1 c;have:=(H.dj x a).lt
  grind
theorem sd (H:aM D G w0 w L) (o:AY):aM D G w0 (w.alloc o) L:=H.ext (Ext.alloc w o)
theorem di {b r:Nat} {l:List AL} {o:AY} (h:bK w b l) (k:w.heap[r]? =some o) (c: ∀a t f,o≠ .cells a t f):b≠r:=by
 obtain⟨⟩:=h
 grind
theorem put (H:aM D G w0 w L) (i:Nat) {b o:Nat} {l:List AL} (h:L[i]? =some (b,l)) (vs:List AL) (m:o+vs.length<=l.length):
 aM D G w0 (jB w (some ⟨b,o,none⟩) vs) (L.set i (b,l.take o++(vs++l.drop (o+vs.length)))):=by
 have hi:i<L.length:=(Be.1 h).1;have f:=FI h;refine⟨H.fr.jB (H.own _ f) vs,λx a=>?_,λx a=>?_,?_,λr g=>⟨(H.qc r g).1,?_⟩⟩
 ·obtain⟨j,c⟩:=GD a;by_cases e:i=j
  ·subst e;rw[FK hi] at c;cases c;exact(H.get h).put vs m
  ·rw[DZ e] at c;have d:x.1≠b:=λe'=>by
    exact H.ne c h (λn=>e n.symm) e'
   exact(H.dj x (by grind)).XE d vs
 ·rcases Gj a with a|rfl
  ·exact H.own x a
  ·exact H.own (b,l) f
 ·have:(L.set i (b,l.take o++(vs++l.drop (o+vs.length)))).map (·.1)=L.map (·.1):=by
   apply GF;intro j
   grind
  rw[this];exact H.nd
 ·have k:=(H.qc r g).2;have d:r≠b:=λe=>di (H.get h) k (by grind) e.symm;rw[<-k];exact mV vs w _ 0 r d
theorem fG (H:aM D G w0 w L) {b:Nat} {l:List AL} (h:bK w0 b l) (hb:b∉G):bK w b l:=H.fr.dj hb h
theorem sub (H:aM D G w0 w L) {L':List (Nat×List AL)} (h:L'.Sublist L):aM D G w0 w L':=
 ⟨H.fr,λx a=>H.dj x (h.subset a),λx a=>H.own x (h.subset a),(h.map _).nodup H.nd,H.qc⟩
theorem perm (H:aM D G w0 w L) {L':List (Nat×List AL)} (h:L'.Perm L):aM D G w0 w L':=
 ⟨H.fr,λx a=>H.dj x (h.subset a),λx a=>H.own x (h.subset a),(h.map _).nodup_iff.2 H.nd,H.qc⟩
theorem frame (H:aM D G w0 w L) {b:List Nat} {L':List (Nat×List AL)} (h:Fr b w w1) (i: ∀x∈b,w0.heap.size<=x\/x∈G) (d: ∀r∈D,r∉b) (hb: ∀x∈L',bK w1 x.1 x.2) (e: ∀x∈L',w0.heap.size<=x.1\/x.1∈G) (f:(L'.map (·.1)).Nodup):aM D G w0 w1 L':=
 ⟨⟨h.os.trans H.fr.os,h.tape.trans H.fr.tape,h.output.trans H.fr.output,DB H.fr.size h.size,λk c g=>(h.block k (H6 c H.fr.size) (by grind)).trans (H.fr.block k c g)⟩,hb,e,f,λr a=>⟨(H.qc r a).1,by rw[h.block r (DR.1 (H.qc r a).2).1 (d r a)];exact(H.qc r a).2⟩⟩
theorem mod (H:aM D G w0 w L) (i:Nat) {b:Nat} {l l':List AL} (c:L[i]? =some (b,l)) (h:Fr [b] w w1) (hb:bK w1 b l'):aM D G w0 w1 (L.set i (b,l')):=by
 have d:=FI c;refine H.frame h (λx a=>by rw[DF.1 a];exact H.own (b,l) d) (λr g a=>?_) (λx a=>?_) (λx a=>?_) ?_
 ·rw[DF] at a;exact di (H.get c) (H.qc r g).2 (by grind) a.symm
 ·obtain⟨j,f⟩:=GD a;by_cases e:i=j
  grind
  ·rw[DZ e] at f;obtain⟨x1,k⟩:=x;have n:x1≠b:=H.ne f c (λm=>e m.symm);exact h.dj (by grind) (H.dj (x1,k) (by grind))
 ·rcases Gj a with a|rfl
  ·exact H.own x a
  ·exact H.own (b,l) d
 ·have:(L.set i (b,l')).map (·.1)=L.map (·.1):=by
   apply GF;intro j
   grind
  rw[this];exact H.nd
theorem again (H:aM D G w0 w L):At (L.map (·.1)) w w L where
 fr:=Fr.refl _ w
 dj:=H.dj
 own:=λx a=> .inr (by grind)
 nd:=H.nd
 qc:=λa=>by grind
theorem join {b:List Nat} {L':List (Nat×List AL)} (H:aM D G w0 w L) (d: ∀x∈b,x∈L.map (·.1)) (K:At b w w1 L'):aM D G w0 w1 L':=by
 have f: ∀x∈b,w0.heap.size<=x\/x∈G:=λx a=>by
  obtain⟨y,c,e⟩:=AP.1 (d x a);rw[<-e];exact H.own y c
 refine H.frame K.fr f (λr g a=>?_) K.dj (λx a=>?_) K.nd
 ·obtain⟨y,c,e⟩:=AP.1 (d r a);exact di (H.dj y c) (H.qc r g).2 (by grind) e
 ·rcases K.own x a with h1|h1
  ·exact .inl (DB H.fr.size h1)
  grind
theorem putObj (H:aM D G w0 w L) {l:Nat} (h:w0.heap.size<=l) {o o':AY} (d:w.heap[l]? =some o) (hc: ∀a t f,o≠ .cells a t f) (i:l∉D):aM D G w0 (w.putObj l o') L:=by
 refine⟨⟨H.fr.os,H.fr.tape,H.fr.output,by rw[putObj_size];grind,λk e g=>?_⟩,λx b=>(H.dj x b).putObj (di (H.dj x b) d hc) _,H.own,H.nd,λr c=>⟨(H.qc r c).1,?_⟩⟩
 ·rw[fO (by omega)];exact H.fr.block k e g
 ·rw[fO (by grind)];exact(H.qc r c).2
end aM
def k9 (l:List AL) (o:Nat):(el:El)->Option el.T
 | .one s=>match l[o]? with
   |some v=>s.proj v
   |none=>none
 | .agg ss=>l9 ss ((l.drop o).take ss.length)
theorem dW {w:A1} {b o:Nat} {l:List AL} (h:bK w b l) {el:El} {x:el.T} (a:k9 l o el=some x):cC w (some ⟨b,o,none⟩) el x:=by
 cases el with
 |one=>
  simp[k9] at a;split at a
  ·rename_i hv;exact h.oK (by rw[hv,Sc.ir a])
  grind
 |agg=>
  have e:=pS a;refine h.rdA λhi=>?_
  grind
theorem aj.of {w:A1} {g:Option Bool} {p:Option A2} {el:El} {K:el.T->Prop} (x:el.T) (h:cC w p el x) (k:K x):aj w g p el K:=
 ⟨x,by cases g<;>first|exact h|exact λ_=>h,k⟩
theorem aA {b:Bool} {x y:Prop} (e:b=true) (h:x):aI b x y:=by grind[ab]
theorem an {b:Bool} {x y:Prop} (e:b=false) (h:y):aI b x y:=by grind[ab]
section
variable {D G:List Nat} {w0 w:A1} {L:List (Nat×List AL)}
theorem aj.at (i:Nat) (H:aM D G w0 w L) {g:Option Bool} {el:El} {K:el.T->Prop} {b o:Nat} {l:List AL} {x:el.T} (a:L[i]? =some (b,l)) (hv:k9 l o el=some x) (k:K x):aj w g (some ⟨b,o,none⟩) el K:=
 .of x (dW (H.get a) hv) k
theorem aj.cw (i:Nat) (H:aM D G w0 w L) {g:Option Bool} {el:El} {K:el.T->Prop} {b o n:Nat} {l:List AL} {x:el.T} (a:L[i]? =some (b,l)) (hv:k9 l (o+n) el=some x) (k:K x):aj w g (ad (some ⟨b,o,none⟩) n) el K:=by
 rw[aW];exact .at i H a hv k
theorem aN.go (H:aM D G w0 w L) {cs:List AL} {e:Eo} {K:Nat->A1->Prop} (k: ∀b w1,aM D G w0 w1 ((b,cs)::L)->K b w1):aN w ⟨cs⟩ e K:=
 λ_ h=>k _ _ ((H.ext h).alloc cs e)
theorem aC.at (i:Nat) (H:aM D G w0 w L) {b o:Nat} {l vs:List AL} {K:A1->Prop} (a:L[i]? =some (b,l)) (d:vs.all (·.oneCell')=true) (c:o+vs.length<=l.length)
 (k: ∀w1,aM D G w0 w1 (L.set i (b,l.take o++(vs++l.drop (o+vs.length))))->K w1):aC w (some ⟨b,o,none⟩) vs K:=
 λ_ h=>⟨⟨d,((H.ext h).get a).st c⟩,k _ ((H.ext h).put i a vs c)⟩
theorem aC.all (i:Nat) (H:aM D G w0 w L) {b:Nat} {l vs:List AL} {K:A1->Prop} (a:L[i]? =some (b,l)) (c:vs.all (·.oneCell')=true) (d:vs.length=l.length)
 (k: ∀w1,aM D G w0 w1 (L.set i (b,vs))->K w1):aC w (some ⟨b,0,none⟩) vs K:=by
 refine aC.at i H a c (by omega) λw1 h1=>k w1 ?_
 grind
theorem aC.one (i:Nat) (H:aM D G w0 w L) {b o:Nat} {l:List AL} {x:AL} {K:A1->Prop} (c:L[i]? =some (b,l)) (d:x.oneCell'=true) (a:Nat.blt o l.length=true)
 (k: ∀w1,aM D G w0 w1 (L.set i (b,l.set o x))->K w1):aC w (some ⟨b,o,none⟩) [x] K:=by
 have a:o<l.length:=by simp_all
 refine aC.at i H c (by grind) (by grind) λw1 h1=>k w1 ?_;rw[show l.set o x=l.take o++([x]++l.drop (o+[x].length)) from by simp[Kl,a]]
 grind
theorem aC.fS (i:Nat) (H:aM D G w0 w L) {b o n:Nat} {l:List AL} {x:AL} {K:A1->Prop} (a:L[i]? =some (b,l)) (c:x.oneCell'=true) (d:Nat.blt (o+n) l.length=true)
 (k: ∀w1,aM D G w0 w1 (L.set i (b,l.set (o+n) x))->K w1):aC w (ad (some ⟨b,o,none⟩) n) [x] K:=by
 rw[aW];exact aC.one i H a c d k
theorem au.go (H:aM D G w0 w L) {K:A1->Prop} (k: ∀w1,aM D G w0 w1 L->K w1):au w K:=λ_ h=>k _ (H.ext h)
theorem az.go (H:aM D G w0 w L) {P:DA} {f:DD} {s:Sh} {args:List AL} {K:s.T->A1->Prop} (k: ∀w1,aM D G w0 w1 L->aE P f s args w1 K):az P f s args w K:=λ_ h=>k _ (H.ext h)
end
open Go.RowKit
variable {D G:List Nat} {w0 wb w w' w1:A1} {L Lb:List (Nat×List AL)}
theorem aM.then (a:aM D G w0 wb L) (H:At [] wb w Lb):aM D G w0 w L:=a.ext H.all
theorem aM.below (H:aM D G w0 w []) (h:Below w0.heap.size w w') (c:w.heap.size<=w'.heap.size) (e:D=[]):aM D G w0 w' [] where
 fr:=⟨h.os.trans H.fr.os,h.tape.trans H.fr.tape,h.output.trans H.fr.output,DB H.fr.size c,λk a d=>(h.block k a).trans (H.fr.block k a d)⟩
 dj:=λb=>by grind
 own:=λb=>by grind
 nd:=F7
 qc:=λb=>by grind
theorem At.abu (i:Nat) (c:At G w0 wb []) {e:El} {s:Option A2×Nat×Nat} {xs:List e.T} (f:lR w0 wb e s xs) (H:At [] wb w Lb)
 {b:Nat} {l:List AL} (x:e.T) (g:Lb[i]? =some (b,l)) (h:l=cellsOf e x) (j:gY e=true) {t:Eo} {size bytes:Nat} {z:Array AL} (m:size=aF e) (n:z.size=aF e) (hb:(xs.length+1)*bytes<=140737488355328)
 {R:Option A2×Nat×Nat->A1->Prop} (k: ∀s' w',At G w0 w' []->lR w0 w' e s' (xs++[x])->R s' w'):
 mF w t size bytes z s (some ⟨b,0,none⟩,1,1) R:=by
 subst m;subst h;have a:=DB c.fr.size H.fr.size;have o:=(f.ext H.all).toN.of (Nat.le_of_eq (iG a));refine lH (ys:=[x]) o (qt a) j rfl ?_ n hb λs' w' p q _ d _=>k s' w' ((c.then H).below (Aj a q d) d rfl) ?_
 ·refine(H.get g).oW (aG e _) λr=>?_;simp[flat]
 ·have:=p.toN;rw[iG a] at this;exact this
theorem aj.fG (H:aM D G w0 w L) {b o:Nat} {l:List AL} (h:bK w0 b l) (hb:b∉G) {g:Option Bool} {el:El} {K:el.T->Prop} {x:el.T} (hv:k9 l o el=some x) (k:K x):aj w g (some ⟨b,o,none⟩) el K:=
 .of x (dW (H.fG h hb) hv) k
theorem aj.k_ (H:aM D G w0 w L) {b o n:Nat} {l:List AL} (h:bK w0 b l) (hb:b∉G) {g:Option Bool} {el:El} {K:el.T->Prop} {x:el.T} (hv:k9 l (o+n) el=some x) (k:K x):aj w g (ad (some ⟨b,o,none⟩) n) el K:=by
 rw[aW];exact .fG H h hb hv k
theorem lR.start (w0 w:A1) (e:El):lR w0 w e (none,0,0) []:=lR.nil w0 w e
theorem aM.more (H:aM D G w0 w L) (h:Ext w w') {b:Nat} {l:List AL} (hb:w.heap.size<=b) (k:bK w' b l):aM D G w0 w' ((b,l)::L):=by
 have c:=H.ext h;refine⟨c.fr,λx a=>?_,λx a=>?_,?_,c.qc⟩
 ·rcases B2.1 a with rfl|a
  ·grind
  ·exact c.dj x a
 ·rcases B2.1 a with rfl|a
  ·exact .inl (DB H.fr.size hb)
  ·exact c.own x a
 ·refine B5.2 ⟨λd=>?_,H.nd⟩;obtain⟨x,a,e⟩:=AP.1 d;have:=(H.dj x a).lt
  grind
theorem aM.got (H:aM D G w0 w L) (h:Ext w w') {e:El} {r:Option A2×Nat×Nat} {xs:List e.T} (a:lR w w' e r xs) (i:xs≠[]):
 ∃b c rest,r=(some ⟨b,0,none⟩,xs.length,c)/\aM D G w0 w' ((b,flat e xs++rest)::L):=by
 obtain⟨h1,j,d⟩:=a;obtain⟨p,n,c⟩:=r;rcases d with ⟨⟩|⟨b,l,a1,f,k, _,g⟩
 grind
 ·subst a1;subst h1;refine⟨b,c,l.drop (xs.length*aF e),rfl,H.more h f ?_⟩;have el:l=flat e xs++l.drop (xs.length*aF e):=by rw[<-g,Dn]
  grind
theorem jJ {α:Sort _} {e:α} {K:α->Prop} (k:K e): ∀x,x=e->K x:=by grind
def Uu (P:DA) (c:DD) (args:Nat->List AL) (n:Nat) (b:Nat->Option (List AL)) (St:A1->Prop):Prop:=
 ∀(y:Nat) (w:A1) (J:Nat->A1->Prop) (a:A1->Prop),
  (∀i w w',J i w->Ext w w'->J i w')->(∀w w',a w->Ext w w'->a w')->(∀i w,J i w->St w)->
  (∀i,i<n->b i=none-> ∀w,J i w->J (i+1) w)->
  (∀i v,i<n->b i=some v-> ∀w (R:Bool->A1->Prop),J i w->(∀w',J (i+1) w'->R true w')->(∀w',a w'->R false w')->mq P y v w R)->
  J 0 w->Calls P c ⟨args y⟩ w (λe w'=> ∃v,e= .returned v/\(J n w'\/a w'))
section
variable {D G:List Nat} {w0 w:A1} {L:List (Nat×List AL)}
def yq (D G:List Nat) (w0 w:A1) (L:List (Nat×List AL)) (l:Nat) (rec:Loop):Prop:=w0.heap.size<=l/\aM D G w0 w L/\cT w l rec .ready none
def Bsy (D G:List Nat) (w0 w:A1) (L:List (Nat×List AL)) (l:Nat) (rec:Loop):Prop:=w0.heap.size<=l/\aM D G w0 w L/\cT w l rec .busy none
def Yf (D G:List Nat) (w0 w:A1) (L:List (Nat×List AL)) (l:Nat) (rec:Loop) (j:Code):Prop:=w0.heap.size<=l/\aM D G w0 w L/\cT w l rec .done (some j)
theorem sM {l:Nat} {rec:Loop} {st:LoopState} {b:Option Code} (H:aM D G w0 w L) (h:cT w l rec st b):l∉D/\l∉L.map (·.1):=by
 refine⟨λa=>?_,λa=>?_⟩
 ·have:=(H.qc l a).2;rw[h] at this
  grind
 ·obtain⟨x,c,e⟩:=AP.1 a;exact aM.di (H.dj x c) h (by grind) e
theorem aM.tn {l:Nat} {rec:Loop} {st:LoopState} {a:Option Code} (H:aM D G w0 w L) (b:w0.heap.size<=l) (h:cT w l rec st a) (c:LoopState) (d:Option Code):aM D G w0 (RX.tn w l rec c d) L:=
 H.putObj b h (by grind) (sM H h).1
theorem DG.go {l n m:Nat} {rec:Loop} {K:Prop} (h:yq D G w0 w L l rec) (a:n=m) (k:K):DG l rec n m w K:=⟨⟨none,h.2.2⟩,a,k⟩
theorem Cl.go {l:Nat} {rec:Loop} {K:A1->Prop} (h:yq D G w0 w L l rec) (k: ∀wb,At (L.map (·.1)) wb wb L->Bsy D G w0 wb L l rec->K wb):Cl l rec w K:=λg b=>by
 obtain⟨c,H,e⟩:=h;have f:=H.ext b;have a:=e.ext b;have d:=f.tn c a .busy none;exact⟨none,a,k _ d.again ⟨c,d,a.put _ _⟩⟩
theorem sY.go {l:Nat} {rec:Loop} {j:Option Code} {wb d:A1} {L':List (Nat×List AL)} {R:Bool->A1->Prop} (h:Bsy D G w0 wb L l rec) (e:At (L.map (·.1)) wb d L')
 (k: ∀a,w0.heap.size<=l->aM D G w0 a L'->cT a l rec (if j.isNone then .ready else .done) j->R j.isNone a):sY l rec j d R:=λa f=>by
 obtain⟨g,H,b⟩:=h;have i:=(H.join (λx m=>m) e).ext f;have n:=b.same (e.fr.block l b.lt (sM H b).2);have c:=n.ext f;exact⟨.busy,none,c,k _ g (i.tn g c _ _) (c.put _ _)⟩
theorem sY.next {l:Nat} {rec:Loop} {wb e:A1} {L':List (Nat×List AL)} {R:Bool->A1->Prop} (h:Bsy D G w0 wb L l rec) (f:At (L.map (·.1)) wb e L') (k: ∀d,yq D G w0 d L' l rec->R true d):sY l rec none e R:=
 sY.go h f λd a b c=>k d ⟨a,b,c⟩
theorem sY.left {l:Nat} {rec:Loop} {j:Code} {wb e:A1} {L':List (Nat×List AL)} {R:Bool->A1->Prop} (h:Bsy D G w0 wb L l rec) (f:At (L.map (·.1)) wb e L') (k: ∀d,Yf D G w0 d L' l rec j->R false d):sY l rec (some j) e R:=
 sY.go h f λd a b c=>k d ⟨a,b,c⟩
theorem dB.none {l:Nat} {rec:Loop} {Kn Kr:A1->Prop} {Kx:Nat->A1->Prop} (h:yq D G w0 w L l rec) (k: ∀a,aM D G w0 a L->Kn a):dB l rec w Kn Kx Kr:=
 ⟨.ready,.none,h.2.2,by simp,k _ (h.2.1.tn h.1 h.2.2 _ _)⟩
theorem dB.ret {l:Nat} {rec:Loop} {Kn Kr:A1->Prop} {Kx:Nat->A1->Prop} (h:Yf D G w0 w L l rec .ret) (k: ∀a,aM D G w0 a L->Kr a):dB l rec w Kn Kx Kr:=
 ⟨.done,.some _,h.2.2,by simp,k _ (h.2.1.tn h.1 h.2.2 _ _)⟩
theorem wF: ∀(m:Nat) (z:List AL) (i:Nat),i<m*z.length->(FS m z).flatten[i]? =z[i % z.length]?
 |0,z,i,h=>by grind
 |m+1,z,i,h=>by
  rw[List.replicate_succ,List.flatten_cons];by_cases hi:i<z.length
  ·rw[Gn hi,Og hi]
  ·rw[IG (by omega),wF m z _ (by grind), <-Nat.mod_eq_sub_mod (by omega)]
theorem Hs (m:Nat) (z:List AL):nL ⟨z⟩ (m*z.length)=⟨(FS m z).flatten⟩:=by
 have a:(FS m z).flatten.length=m*z.length:=by simp
 apply Kf;apply GF;intro i;unfold nL;by_cases i<m*z.length
 ·grind[wF]
 grind
theorem N8.go (H:aM D G w0 w L) {bytes size:Nat} {n m:Int} {z:List AL} {e:Eo} {K:Nat->A1->Prop} (a:size=z.length) (h0:0<=n) (h1:n<=m) (c:m<4611686018427387904) (d:bytes*m<=281474976710656)
 (k: ∀b w1,aM D G w0 w1 ((b,(FS m.toNat z).flatten)::L)->K b w1):N8 w bytes size n m ⟨z⟩ e K:=λw1 h=>by
 refine⟨⟨h0,by omega⟩,?_⟩;rw[a,Hs];exact k _ _ ((H.ext h).alloc _ e)
theorem lL (e:El) (x:e.T) (m:Nat):flat e (FS m x)=(FS m (cellsOf e x)).flatten:=by
 simp[flat,List.flatMap_replicate]
theorem mF.copy (H:aM D G w0 w L) {e:El} {ys:List e.T} {b n c:Nat} {l:List AL} (hb:bK w b l) (o:l.take (ys.length*aF e)=flat e ys) (d:n=ys.length) (p:ys≠[]) (f:gY e=true) {t:Eo} {size bytes:Nat} {z:Array AL} (g:size=aF e) (h:z.size=aF e) (q:ys.length*bytes<=140737488355328)
 {R:Option A2×Nat×Nat->A1->Prop} (k: ∀a i rest w',aM D G w0 w' ((a,flat e ys++rest)::L)->R (some ⟨a,0,none⟩,n,i) w'):
 mF w t size bytes z (none,0,0) (some ⟨b,0,none⟩,n,c) R:=by
 subst g;subst d;refine lH (lR.nil w w e) (Ext.refl w) f rfl ?_ h (by grind) λs' w' j m _=>?_
 ·refine hb.oW (aG e ys) λhi=>?_
  grind
 ·obtain:=H.got m j
  grind
theorem sZ.go {r:Nat} {K:A1->Prop} (H:aM [r] G w0 w L) (k: ∀w1,At G w0 w1 L->K w1):sZ [r] w K:=λw1 h=>by
 have a:=H.ext h;have b:=a.qc r (by simp);refine⟨⟨b.2,trivial⟩,k _ ?_⟩;have c:At G w0 w1 L:=⟨a.fr,a.dj,a.own,a.nd,by simp⟩;exact c.putObj b.1 b.2 (by grind) (by simp)
theorem An.inv {P:DA} {p:DD} {args:Nat->List AL} {ps:Array Nat} {T:Type} {g:T->List AL} {q:Nat->Loop->T->A1->(Bool->A1->Prop)->Prop} {m:Nat->Loop->A1->Prop} (H:aM D G w0 w L)
 {n:Nat} {f:Nat->Option (List AL)} {St:A1->Prop} (u:Uu P p args n f St) (Inv:Nat->List (Nat×List AL)->Prop) (Q:Code->List (Nat×List AL)->Prop) (h0:Inv 0 L)
 (y: ∀z i w' L',Inv i L'->aM z G w0 w' L'->St w') (J: ∀i L',i<n->f i=none->Inv i L'->Inv (i+1) L') (K: ∀i v,i<n->f i=some v-> ∃x,v=g x)
 (M: ∀i x L',i<n->f i=some (g x)->Inv i L'-> ∀r l rec s (R:Bool->A1->Prop),yq (r::D) G w0 s L' l rec->(∀c w',Inv (i+1) c->yq (r::D) G w0 w' c l rec->R true w')->(∀j c w',Q j c->Yf (r::D) G w0 w' c l rec j->R false w')->q l rec x s R)
 (N: ∀L' r rec d,Inv n L'->yq (r::D) G w0 d L' (r+1) rec->m r rec d) (O: ∀j L' r rec d,Q j L'->Yf (r::D) G w0 d L' (r+1) rec j->m r rec d):An P p args ps w g q m:=by
 intro w1 h1 rec _ _ A B S;have t:=H.ext h1;have sz:(w1.alloc (.deferred (some []))).heap.size=w1.heap.size+1:=lG _ _;have C:rec={rec with state:= .ready,pending:= .none}:=by rw[<-A, <-B]
 have E:w0.heap.size<=w1.heap.size:=t.fr.size;have F:yq (w1.heap.size::D) G w0 ((w1.alloc (.deferred (some []))).alloc (.loop rec)) L (w1.heap.size+1) rec:=by
  refine⟨by omega,?_,?_⟩
  ·have e:=(t.sd (.deferred (some []))).sd (.loop rec);refine⟨e.fr,e.dj,e.own,e.nd,λr o=>?_⟩;rcases B2.1 o with rfl|o
   ·exact⟨E,(Ext.alloc _ _).obj (fD w1 _)⟩
   ·exact e.qc r o
  ·have:=fD (w1.alloc (.deferred (some []))) (.loop rec);rw[sz] at this;unfold cT;rw[this,C]
 refine Calls.mono (u _ _ (λi w'=> ∃L',Inv i L'/\yq (w1.heap.size::D) G w0 w' L' _ rec) (λw'=> ∃j L',Q j L'/\Yf (w1.heap.size::D) G w0 w' L' (w1.heap.size+1) rec j) ?_ ?_ ?_ ?_ ?_ ⟨L,h0,F⟩) ?_
 ·exact λi a b ⟨L',hi,h⟩ k=>⟨L',hi,h.1,h.2.1.ext k,h.2.2.ext k⟩
 ·exact λa b ⟨j,L',I,h⟩ k=>⟨j,L',I,h.1,h.2.1.ext k,h.2.2.ext k⟩
 ·exact λi a ⟨L',hi,h⟩=>y _ i a L' hi h.2.1
 ·grind
 grind
 grind
theorem An.go {P:DA} {e:DD} {args:Nat->List AL} {ps:Array Nat} {T:Type} {c:T->List AL} {f:Nat->Loop->T->A1->(Bool->A1->Prop)->Prop} {d:Nat->Loop->A1->Prop} (H:aM D G w0 w L)
 {n:Nat} {b:Nat->Option (List AL)} {St:A1->Prop} (h:Uu P e args n b St) (Ls:Nat->List (Nat×List AL)) (Q:Code->List (Nat×List AL)->Prop) (h0:Ls 0=L)
 (p: ∀k i w',aM k G w0 w' (Ls i)->St w') (q: ∀i,i<n->b i=none->Ls (i+1)=Ls i) (m: ∀i v,i<n->b i=some v-> ∃x,v=c x)
 (s: ∀i x,i<n->b i=some (c x)-> ∀r l rec g (R:Bool->A1->Prop),yq (r::D) G w0 g (Ls i) l rec->(∀w',yq (r::D) G w0 w' (Ls (i+1)) l rec->R true w')->(∀j L' w',Q j L'->Yf (r::D) G w0 w' L' l rec j->R false w')->f l rec x g R)
 (t: ∀r rec a,yq (r::D) G w0 a (Ls n) (r+1) rec->d r rec a) (o: ∀j L' r rec a,Q j L'->Yf (r::D) G w0 a L' (r+1) rec j->d r rec a):An P e args ps w c f d:=
 An.inv H h (λi L'=>L'=Ls i) Q h0.symm (by grind) (by grind) m
  (by grind) (by grind) o
theorem aM.abv (H:aM D G w0 w L) {b:Nat} (hb:b<w0.heap.size) (d:b∉G):b∉L.map (·.1):=λa=>by
 obtain⟨x,c,e⟩:=AP.1 a;rcases H.own x c
 grind
 grind
theorem aM.dy {wb w1:A1} {L':List (Nat×List AL)} (H:aM D G w0 wb L) (K:At (L.map (·.1)) wb w1 L') {b:Nat} {l:List AL} (h:bK w0 b l) (a:b∉G):bK w1 b l:=
 K.fG (H.fG h a) (H.abv h.lt a)
theorem At.se {b:Nat} {l:List AL} (h:bK w b l):At [b] w w [(b,l)] where
 fr:=Fr.refl _ w
 dj:=λa=>by grind
 own:=λx a=> .inr (by grind)
 nd:=by simp
 qc:=λa=>by grind
theorem fZ {w:A1} {b:Nat} {e:El} {xs:List e.T} {rest:List AL} (h:bK w b (flat e xs++rest)) {i:Nat} {x:e.T} (a:xs[i]? =some x):cC w (ad (some ⟨b,0,none⟩) (i*aF e)) e x:=
 (Sl.jI h (by simp[aG]) i x a).2
theorem zk (e:El): ∀(xs:List e.T) (i:Nat) (y:e.T) (rest:List AL),i<xs.length->(flat e xs++rest).take (i*aF e)++(cellsOf e y++(flat e xs++rest).drop (i*aF e+(cellsOf e y).length))=flat e (xs.set i y)++rest
 |x::xs,0,y,rest, _=>by
  simp[flat];rw[dw, <-dw,List.drop_left]
 |x::xs,i+1,y,rest,h=>by
  have a:=zk e xs i y rest (by grind);have b:(i+1)*aF e=(cellsOf e x).length+i*aF e:=by rw[dw,KA];omega
  simp[flat] at a ⊢;rw[b,List.take_length_add_append,F5,Nat.add_assoc,Km,a]
theorem aC.flat (j:Nat) (H:aM D G w0 w L) {b i:Nat} {e:El} {xs:List e.T} {rest vs:List AL} (y:e.T) {K:A1->Prop} (a:L[j]? =some (b,RX.flat e xs++rest)) (hv:vs=cellsOf e y) (c:gY e=true) (hi:i<xs.length)
 (k: ∀w1,aM D G w0 w1 (L.set j (b,RX.flat e (xs.set i y)++rest))->K w1):aC w (ad (some ⟨b,0,none⟩) (i*aF e)) vs K:=by
 rw[aW,CB];subst hv;refine aC.at j H a ?_ ?_ λw1 h1=>k w1 ?_
 ·have:=jQ e [y] c;simpa[RX.flat]
 ·rw[dw,CD,aG];have:(i+1)*aF e<=xs.length*aF e:=GS _ hi
  grind
 ·rw[zk e xs i y rest hi] at h1;grind
theorem az.DW (H:aM D G w0 w L) (j:Nat) {b:Nat} {l l':List AL} (c:L[j]? =some (b,l)) {P:DA} {f:DD} {s:Sh} {args:List AL} {v:s.T} {K:s.T->A1->Prop}
 (hc: ∀w1,aM D G w0 w1 L->aE P f s args w1 (λx w'=>x=v/\bK w' b l'/\Fr [b] w1 w')) (k: ∀a,aM D G w0 a (L.set j (b,l'))->K v a):az P f s args w K:=λw1 h=>
 (hc w1 (H.ext h)).mono λx a ⟨d,hb,e⟩=>by subst d;exact k a ((H.ext h).mod j c e hb)
theorem az.val (H:aM D G w0 w L) {P:DA} {f:DD} {s:Sh} {args:List AL} (v:s.T) {K:s.T->A1->Prop}
 (hc: ∀w1,aM D G w0 w1 L->aE P f s args w1 (λx w'=>x=v/\Ext w1 w')) (k: ∀a,aM D G w0 a L->K v a):az P f s args w K:=λw1 h=>
 (hc w1 (H.ext h)).mono λx a ⟨b,c⟩=>by subst b;exact k a ((H.ext h).ext c)
theorem ae.of {P:DA} {f:DD} {s:Sh} {args:List AL} {v:s.T} (h: ∀w',Ext w w'->aE P f s args w' (λx a=>x=v/\Ext w' a)):ae P f args w (s.gO v):=
 λw' b=>bV (h w' b)
theorem aM.grow {e:El} {s:Option A2×Nat×Nat} {xs:List e.T} {x:e.T} {b:Nat} {Ls L0:List (Nat×List AL)} (H:aM D G w0 w ((b,cellsOf e x)::(Ls++L0)))
 (q:(s=(none,0,0)/\xs=[]/\Ls=[])\/ ∃bs c rest,s=(some ⟨bs,0,none⟩,xs.length,c)/\Ls=[(bs,flat e xs++rest)]/\(flat e xs++rest).length=c*aF e/\xs.length<=c)
 (Q:gY e=true) {t:Eo} {size bytes:Nat} {z:Array AL} (v:size=aF e) (S:z.size=aF e) (hb:(xs.length+1)*bytes<=140737488355328)
 {R:Option A2×Nat×Nat->A1->Prop} (k: ∀bs c rest w',(flat e (xs++[x])++rest).length=c*aF e->xs.length+1<=c->aM D G w0 w' ((bs,flat e (xs++[x])++rest)::L0)->R (some ⟨bs,0,none⟩,xs.length+1,c) w'):
 mF w t size bytes z s (some ⟨b,0,none⟩,1,1) R:=by
 subst v;have U:(v9 0 w).heap.size=0:=iG (GH _);have V:lR (v9 0 w) w e s xs:=by
  rcases q with ⟨rfl,rfl, _⟩|⟨bs,c,rest,rfl,rfl,h1,m⟩
  ·exact lR.nil _ _ _
  ·refine⟨rfl,m,.inr ⟨bs, _,rfl,by rw[U];exact GH _,H.get (i:=1) rfl,h1,?_⟩⟩;rw[IJ (by rw[aG];exact DM _),IN (by rw[aG];exact DM _)]
 have W:bK w b (cellsOf e x):=H.get (i:=0) rfl;refine lH (ys:=[x]) V (qt (GH _)) Q rfl ?_ S hb λs' w' X g I v J=>?_
 ·refine W.oW (aG e [x]) λj hj=>?_;simp[flat]
 ·obtain⟨p,n,c⟩:=s';obtain⟨h1,m,K⟩:=X;simp only at h1 m K J;have Y:(xs++[x]).length=xs.length+1:=by simp
  rcases K with ⟨_,Z, _⟩|⟨bs,l,a1, _,a3,a4,a5⟩
  ·simp at Z
  ·subst a1;rw[Y] at h1 m;subst h1;have el:l=flat e (xs++[x])++l.drop ((xs++[x]).length*aF e):=by rw[<-a5,Dn]
   refine k bs c (l.drop ((xs++[x]).length*aF e)) w' (by rw[<-el];exact a4) m ?_;rw[<-el];have hG': ∃B,Fr B w w'/\(∀y∈B,y∈Ls.map (·.1)):=by
    rcases q with ⟨rfl, _,rfl⟩|⟨bo,co,L,rfl,rfl, _, _⟩
    ·exact⟨[],⟨g.os,g.tape,g.output,v,λy d _=>I y d (λa C=>by cases C)⟩,λy d=>by cases d⟩
    ·exact⟨[bo],⟨g.os,g.tape,g.output,v,λy d hn=>I y d (λa C=>by cases C;simpa using hn)⟩,λy d=>by simpa using d⟩
   obtain⟨B,M,N⟩:=hG';have E:=H.nd;simp only[Bx,F6,B5,Gp,FU] at E;have O: ∀y∈Ls.map (·.1),w0.heap.size<=y\/y∈G:=λy d=>by
    obtain⟨u,o,rfl⟩:=AP.1 d;exact H.own u (B4 _ (CF _ o))
   have P:bs∈Ls.map (·.1)\/w.heap.size<=bs:=by
    rcases J with ⟨a,f,A⟩|⟨a,f,A⟩|f
    ·cases f;rcases q with ⟨rfl, _, _⟩|⟨bo,co,L,rfl,rfl, _, _⟩
     ·cases A
     ·cases A;exact .inl (by simp)
    ·cases f;exact .inr A
    ·rcases q with ⟨rfl, _, _⟩|⟨bo,co,L,rfl,rfl, _, _⟩
     ·cases f
     grind
   refine H.frame M (λy d=>O y (N y d)) (λr hr d=>?_) (λy d=>?_) (λy d=>?_) ?_
   ·obtain⟨u,o,f⟩:=AP.1 (N r d);exact aM.di (H.dj u (B4 _ (CF _ o))) (H.qc r hr).2 (λ_ _ _ hc=>by cases hc) f
   ·rcases B2.1 d with rfl|d
    ·exact a3
    ·refine M.dj (λF=>?_) (H.dj y (B4 _ (DL _ d)))
     grind
   ·rcases B2.1 d with rfl|d
    ·rcases P with h|h
     ·exact O _ h
     ·exact .inl (DB H.fr.size h)
    ·exact H.own y (B4 _ (DL _ d))
   ·refine B5.2 ⟨λF=>?_,E.2.2.1⟩;rcases P with h|h
    ·exact E.2.2.2 bs h bs F rfl
    ·obtain⟨u,o,f⟩:=AP.1 F;have:=(H.dj u (B4 _ (DL _ o))).lt;simp only at f h;omega
def oq (e:El) (rows:List (Nat×List AL)) (r:Option A2×Nat×Nat) (xs:List e.T):Prop:=
 r.2.1=xs.length/\((xs=[]/\rows=[])\/ ∃b rest,r.1=some ⟨b,0,none⟩/\rows=[(b,RX.flat e xs++rest)])
theorem aM.acv {w':A1} (H:aM D G w0 w L) (h:Ext w w') {e:El} {r:Option A2×Nat×Nat} {xs:List e.T} (a:lR w w' e r xs): ∃rows,aM D G w0 w' (L++rows)/\oq e rows r xs:=by
 by_cases d:xs=[]
 ·exact⟨[],by rw[Gq];exact H.ext h,a.len,by grind⟩
 ·obtain⟨b,c,rest,rfl,f⟩:=H.got h a d;exact⟨[(b,RX.flat e xs++rest)],f.perm (Kt _ _),rfl,by simp⟩
theorem oq.sl {e:El} {rows:List (Nat×List AL)} {r:Option A2×Nat×Nat} {xs:List e.T} (h:oq e rows r xs) (H:aM D G w0 w L) (a: ∀x∈rows,x∈L):Sl w e r.1 xs:=by
 rcases h.2 with ⟨rfl, _⟩|⟨b,rest,h1,rfl⟩
 ·intro;grind
 ·rw[h1];refine Sl.jI (H.dj _ (a _ (DF.2 rfl))) ?_;rw[IJ (by rw[aG];simp),IN (by rw[aG];simp)]
theorem az.Y' (H:aM D G w0 w L) {P:DA} {f:DD} {args:List AL} {e:El} {xs:List e.T} {K:(Option A2×Nat×Nat)->A1->Prop}
 (hc: ∀w',aM D G w0 w' L->aE P f (.el (.one .slice)) args w' (λr a=>lR w' a e r xs/\Ext w' a)) (k: ∀r rows w1,aM D G w0 w1 (L++rows)->oq e rows r xs->K r w1):
 az P f (.el (.one .slice)) args w K:=λw1 h=>(hc w1 (H.ext h)).mono λx d ⟨b,c⟩=>by
 obtain:=(H.ext h).acv c b
 grind
end
def NC (o:AY):Prop:= ∀a t f,o≠ .cells a t f
def Ob (l:Nat) (w w':A1):Prop:= ∀r o,r≠l->NC o->w.heap[r]? =some o->w'.heap[r]? =some o
theorem Ob.trans {l:Nat} {a b c:A1} (h:Ob l a b) (k:Ob l b c):Ob l a c:=λr o d e f=>k r o d e (h r o d e f)
theorem Ob.vp {l:Nat} {a b:A1} (h:Ext a b):Ob l a b:=λ_ _ _ _ c=>h.obj c
theorem Ob.put (l:Nat) (w:A1) (o:AY):Ob l w (w.putObj l o):=λr o' a _ b=>by rw[fO a];grind
structure JK {T:Type} (bm:Nat) (mc:List AL->Prop) (J:List T->List (Nat×List AL)->List (Nat×AY)->A1->Prop):Prop where
 step: ∀{a X O w w' l' Y},J a X O w->Fr [bm] w w'->bK w' bm l'->mc l'->(∀y∈Y,w.heap.size<=y.1/\bK w' y.1 y.2)->(Y.map (·.1)).Nodup->J a (Y++X) O w'
 mem: ∀{a X O w},J a X O w-> ∃l,mc l/\bK w bm l
 dj: ∀{a X O w x},J a X O w->x∈X->x.1≠bm/\bK w x.1 x.2
 obj: ∀{a X O w r o},J a X O w->(r,o)∈O->w.heap[r]? =some o
 alO: ∀{a X O w o},J a X O w->NC o->J a X ((w.heap.size,o)::O) (w.alloc o)
 puO: ∀{a X O w r o o'},J a X ((r,o)::O) w->NC o'->J a X ((r,o')::O) (w.putObj r o')
 sub: ∀{a X O X' O' w},J a X O w->(∀x∈X',x∈X)->O'.Sublist O->J a X' O' w
 perm: ∀{a X O O' w},J a X O w->O'.Perm O->J a X O' w
def Yd {T:Type} (P:DA) (y:Nat) (b:T->List AL) (N:Nat) (J:List T->List (Nat×List AL)->List (Nat×AY)->A1->Prop):Prop:=
 ∀a x X O w (R:Bool->A1->Prop),a.length<N->J a X O w->(∀w',J (a++[x]) X O w'->R true w')->mq P y (b x) w R
def ItJ {T:Type} (P:DA) (b:DD) (args:Nat->List AL) (c:T->List AL) (N bm:Nat) (mc:List AL->Prop) (d:List (Nat×List AL)) (xs:List T):Prop:=
 ∀(y:Nat) (J:List T->List (Nat×List AL)->List (Nat×AY)->A1->Prop),JK bm mc J->Yd P y c N J-> ∀a X O w,a.length+xs.length<=N->(∀x∈d,x∈X)->J a X O w->
  Calls P b ⟨args y⟩ w (λe w'=> ∃v,e= .returned v/\J (a++xs) X O w')
section
variable {T:Type} {bm:Nat} {mc:List AL->Prop} {J:List T->List (Nat×List AL)->List (Nat×AY)->A1->Prop} {a:List T} {X:List (Nat×List AL)} {O:List (Nat×AY)} {w w':A1}
theorem JK.ext (K:JK bm mc J) (j:J a X O w) (h:Ext w w'):J a X O w':=by
 obtain⟨l,h1,b⟩:=K.mem j;exact K.step (Y:=[]) j (.vp h) (b.ext h) h1 (by grind) (by grind)
theorem JK.tI (K:JK bm mc J) (j:J a X O w) {Y:List (Nat×List AL)} {l':List AL} (H:At [bm] w w' (Y++[(bm,l')])) (c:mc l'):J a (Y++X) O w':=by
 have b:=H.nd;rw[F6,Gp] at b;refine K.step j H.fr (H.dj (bm,l') (by simp)) c (λy d=>⟨?_,H.dj y (by grind)⟩) b.1;rcases H.own y (by grind)
 ·grind
 grind
theorem JK.at0 (K:JK bm mc J) (j:J a X O w): ∃l,mc l/\At [bm] w w [(bm,l)]:=by
 obtain⟨l,h1,b⟩:=K.mem j;exact⟨l,h1,At.se b⟩
theorem JK.close (K:JK bm mc J): ∀(D:List Nat) {w:A1},J a X (D.map (λr=>(r,Obj.deferred (some [])))++O) w->Ec D w/\J a X O (mw D w)
 |[], _,j=>⟨trivial,j⟩
 |r::D,w,j=>by
  have h:=K.obj j (r:=r) (o:= .deferred (some [])) (by simp);have b:=K.puO (o':= .deferred none) j λ_=>by grind
  obtain⟨h1,c⟩:=K.close D (K.sub b (λ_ h=>h) (Do _ _));exact⟨⟨h,h1⟩,c⟩
theorem JK.sZ (K:JK bm mc J) (D:List Nat) (j:J a X (D.map (λr=>(r,Obj.deferred (some [])))++O) w) {Q:A1->Prop} (k: ∀w1,J a X O w1->Q w1):sZ D w Q:=λw1 h1=>by
 obtain:=K.close D (K.ext j h1)
 grind
abbrev Of (rec:Loop):AY:= .loop {rec with state:= .ready,pending:=none}
abbrev lpB (rec:Loop):AY:= .loop {rec with state:= .busy,pending:=none}
theorem IW (rec:Loop) (st:LoopState) (a:Option Code):NC (.loop {rec with state:=st,pending:=a}):=λe=>by grind
theorem DG.Yi (K:JK bm mc J) {l n m:Nat} {rec:Loop} (j:J a X ((l,Of rec)::O) w) {Q:Prop} (b:n=m) (k:Q):DG l rec n m w Q:=⟨⟨none,K.obj j (by simp)⟩,b,k⟩
theorem Cl.Yi (K:JK bm mc J) {l:Nat} {rec:Loop} (j:J a X ((l,Of rec)::O) w) {Q:A1->Prop} (k: ∀wb,J a X ((l,lpB rec)::O) wb->Q wb):Cl l rec w Q:=λd c=>by
 have b:=K.ext j c;exact⟨none,K.obj b (by simp),k _ (K.puO b (IW rec _ _))⟩
theorem sY.Yi (K:JK bm mc J) {l:Nat} {rec:Loop} (j:J a X ((l,lpB rec)::O) w) {R:Bool->A1->Prop} (k: ∀b,J a X ((l,Of rec)::O) b->R true b):sY l rec none w R:=λe d=>by
 have c:=K.ext j d;exact⟨.busy,none,K.obj c (by simp),k _ (K.puO c (IW rec _ _))⟩
theorem dB.Yi (K:JK bm mc J) {l:Nat} {rec:Loop} (j:J a X ((l,Of rec)::O) w) {Kn Kr:A1->Prop} {Kx:Nat->A1->Prop} (k: ∀b,J a X O b->Kn b):dB l rec w Kn Kx Kr:=
 ⟨.ready,.none,K.obj j (by simp),by simp,k _ (K.sub (K.puO j (IW rec _ _)) (λ_ h=>h) (by grind))⟩
end
section
variable {D G:List Nat} {w0 w:A1} {L:List (Nat×List AL)}
theorem Cl.goO {l:Nat} {rec:Loop} {K:A1->Prop} (h:yq D G w0 w L l rec) (k: ∀wb,At (L.map (·.1)) wb wb L->Bsy D G w0 wb L l rec->Ob l w wb->K wb):Cl l rec w K:=λg a=>by
 obtain⟨c,H,e⟩:=h;have f:=H.ext a;have b:=e.ext a;have d:=f.tn c b .busy none;exact⟨none,b,k _ d.again ⟨c,d,b.put _ _⟩ ((Ob.vp a).trans (Ob.put _ _ _))⟩
theorem Ob.tI {l:Nat} {wb a:A1} {L':List (Nat×List AL)} (H:aM D G w0 wb L) (c:At (L.map (·.1)) wb a L'):Ob l wb a:=λr o _ d b=>by
 rw[c.fr.block r (DR.1 b).1 λf=>?_]
 ·grind
 ·obtain⟨x,g,e⟩:=AP.1 f;exact aM.di (H.dj x g) b d e
theorem sY.ll {l:Nat} {rec:Loop} {wb f:A1} {L':List (Nat×List AL)} {R:Bool->A1->Prop} (h:Bsy D G w0 wb L l rec) (b:At (L.map (·.1)) wb f L') (k: ∀a,yq D G w0 a L' l rec->Ob l wb a->R true a):sY l rec none f R:=λa c=>by
 obtain⟨g,H,d⟩:=h;have i:=(H.join (λx j=>j) b).ext c;have m:=d.same (b.fr.block l d.lt (sM H d).2);have e:=m.ext c;exact⟨.busy,none,e,k _ ⟨g,i.tn g e _ _,e.put _ _⟩ (((Ob.tI H b).trans (Ob.vp c)).trans (Ob.put _ _ _))⟩
theorem An.OD {T:Type} {P:DA} {gg:DD} {args:Nat->List AL} {ps:Array Nat} {em:T->List AL} {Rd:Nat->Loop->T->A1->(Bool->A1->Prop)->Prop} {Af:Nat->Loop->A1->Prop} {N bm:Nat} {mc:List AL->Prop} {X0:List (Nat×List AL)} {xs:List T}
 {F:List AL} {Rg0 Lb:List (Nat×List AL)} (H:aM D G w0 w (Rg0++((bm,F)::Lb))) (hm0:mc F) (It:ItJ P gg args em N bm mc X0 xs) (hX: ∀x∈X0,x∈Lb) (hN:xs.length<=N) (B:List T->List (Nat×List AL)->Prop) (h0:B [] Rg0)
 (yF: ∀b x c Z r l rec p (R:Bool->A1->Prop),b.length<N->B b c->yq (r::D) G w0 p (c++Z) l rec->(∀I w',B (b++[x]) I->yq (r::D) G w0 w' (I++Z) l rec->Ob l p w'->R true w')->Rd l rec x p R)
 (haf: ∀r rec M l' c,mc l'->B xs c->yq (r::D) G w0 M (c++((bm,l')::Lb)) (r+1) rec->Af r rec M):An P gg args ps w em Rd Af:=by
 intro w1 h1 rec _ _ vP X7 pH;have H1:=H.ext h1;have sz:(w1.alloc (.deferred (some []))).heap.size=w1.heap.size+1:=lG _ _;have AF:rec={rec with state:= .ready,pending:= .none}:=by rw[<-vP, <-X7]
 have h_:w0.heap.size<=w1.heap.size:=H1.fr.size;have hW:yq (w1.heap.size::D) G w0 ((w1.alloc (.deferred (some []))).alloc (.loop rec)) (Rg0++((bm,F)::Lb)) (w1.heap.size+1) rec:=by
  refine⟨by omega,?_,?_⟩
  ·have C:=(H1.sd (.deferred (some []))).sd (.loop rec);refine⟨C.fr,C.dj,C.own,C.nd,λr f=>?_⟩;rcases B2.1 f with rfl|f
   ·exact⟨h_,(Ext.alloc _ _).obj (fD w1 _)⟩
   ·exact C.qc r f
  ·have:=fD (w1.alloc (.deferred (some []))) (.loop rec);rw[sz] at this;unfold cT;rw[this, <-AF]
 generalize hR:w1.heap.size=rr at*
 let J:List T->List (Nat×List AL)->List (Nat×AY)->A1->Prop:=λb X O w'=> ∃l' c Y,mc l'/\B b c/\yq (rr::D) G w0 w' (c++((bm,l')::(Y++Lb))) (rr+1) rec/\(∀x∈X,x∈Y++Lb)/\(∀x∈O,w'.heap[x.1]? =some x.2/\NC x.2/\w0.heap.size<=x.1/\x.1≠rr+1/\x.1∉rr::D)/\(O.map (·.1)).Nodup
 have K:JK bm mc J:=by
  refine⟨?_,?_,?_,?_,?_,?_,?_,?_⟩
  ·rintro b X O k p Q t ⟨l',c,Y,hm,i,⟨h1,d,q⟩,a,g,j⟩ S hb hl hy hyn;have u:(bm,l')∈c++((bm,l')::(Y++Lb)):=by simp
   have dy: ∀x∈c++(Y++Lb),bK p x.1 x.2/\x.1<k.heap.size:=λx a=>by
    have vQ:x∈c++((bm,l')::(Y++Lb)):=by
     rcases FU.1 a with h|h
     ·exact CF _ h
     ·exact DL _ (B4 _ h)
    have hk:=d.dj x vQ;refine⟨S.dj ?_ hk,hk.lt⟩;intro hc;rw[DF] at hc;have y:=d.nd;have s:((bm,l')::(c++(Y++Lb))).Perm (c++((bm,l')::(Y++Lb))):=B1.symm;have A:=((s.map (·.1)).nodup_iff).2 y;rw[Bx,B5] at A;exact A.1 (AP.2 ⟨x,a,hc⟩)
   refine⟨Q,c,t++Y,hl,i,⟨h1,?_,?_⟩,λx m=>?_,λx m=>?_,j⟩
   ·have y:=d.nd;have s:((bm,l')::(c++(Y++Lb))).Perm (c++((bm,l')::(Y++Lb))):=B1.symm;have A:=((s.map (·.1)).nodup_iff).2 y;have s_:((bm,Q)::(t++(c++(Y++Lb)))).Perm (c++((bm,Q)::(t++Y++Lb))):=by
     refine List.Perm.trans (Cp _ ?_) B1.symm;rw[F5, <-F5 t c, <-F5 c t];exact List.perm_append_comm.append_right _
    refine aM.perm (L:=(bm,Q)::(t++(c++(Y++Lb)))) ?_ s_.symm;refine d.frame S (λx a=>?_) (λr f a=>?_) (λx a=>?_) (λx a=>?_) ?_
    ·rw[DF.1 a];exact d.own (bm,l') u
    ·rw[DF] at a;exact aM.di (d.dj (bm,l') u) (d.qc r f).2 (λ_ _ _ hc=>by cases hc) a.symm
    ·rcases B2.1 a with rfl|a
     ·exact hb
     ·rcases FU.1 a with a|a
      ·exact(hy x a).2
      ·exact(dy x a).1
    ·rcases B2.1 a with rfl|a
     ·exact d.own (bm,l') u
     ·rcases FU.1 a with a|a
      ·exact .inl (DB d.fr.size (hy x a).1)
      ·refine d.own x ?_;rcases FU.1 a with h|h
       ·exact CF _ h
       ·exact DL _ (B4 _ h)
    ·rw[Bx,B5] at A;rw[Bx,F6,B5,Gp];have fresh: ∀x∈t, ∀z,z<k.heap.size->x.1≠z:=λx a z hz e=>by
      have:=(hy x a).1;omega
     refine⟨λhm=>?_,hyn,A.2,λx a z hz e=>?_⟩
     ·rcases FU.1 hm with hm|hm
      ·obtain⟨x,a,e⟩:=AP.1 hm;exact fresh x a bm (d.dj (bm,l') u).lt e
      ·exact A.1 hm
     ·obtain⟨x1,oJ,e1⟩:=AP.1 a;obtain⟨z1,W9,e2⟩:=AP.1 hz;exact fresh x1 oJ z1.1 (dy z1 W9).2 (by rw[e1,e2,e])
   ·refine q.same (S.block _ q.lt (λhc=>?_));rw[DF] at hc;exact aM.di (d.dj (bm,l') u) q (λ_ _ _ hc=>by cases hc) hc.symm
   grind
   ·obtain⟨o1,n,E⟩:=g x m;refine⟨?_,n,E⟩;rw[S.block x.1 (DR.1 o1).1 (λhc=>?_)]
    ·exact o1
    ·rw[DF] at hc;exact aM.di (d.dj (bm,l') u) o1 n hc.symm
  ·rintro b X O k ⟨l',c,Y,hm,i,f,a,g,j⟩;exact⟨l',hm,f.2.1.dj (bm,l') (by simp)⟩
  ·rintro b X O k x ⟨l',c,Y,hm,i,f,a,g,j⟩ m;have s:((bm,l')::(c++(Y++Lb))).Perm (c++((bm,l')::(Y++Lb))):=B1.symm;have d:=f.2.1.perm s;have U:x∈c++(Y++Lb):=DL _ (a x m);refine⟨λe=>?_,d.dj x (B4 _ U)⟩;have y:=d.nd;rw[Bx,B5] at y;exact y.1 (AP.2 ⟨x,U,e⟩)
  ·rintro b X O k r o ⟨l',c,Y,hm,i,f,a,g,j⟩ U;exact(g (r,o) U).1
  ·rintro b X O k o ⟨l',c,Y,hm,i,⟨h1,d,q⟩,a,g,j⟩ XZ;have V:=Ext.alloc k o;refine⟨l',c,Y,hm,i,⟨h1,d.sd o,q.ext V⟩,a,λx m=>?_,?_⟩
   ·rcases B2.1 m with rfl|m
    ·refine⟨fD k o,XZ,d.fr.size,λe=>?_,λhc=>?_⟩
     ·have:=q.lt;simp only at e;omega
     ·have:=(DR.1 (d.qc _ hc).2).1;simp only at this;omega
    ·obtain⟨o1,n⟩:=g x m;exact⟨V.obj o1,n⟩
   ·rw[Bx,B5];refine⟨λhc=>?_,j⟩;obtain⟨x,m,e⟩:=AP.1 hc;have:=(DR.1 (g x m).1).1;simp only at e;omega
  ·rintro b X O k r o o' ⟨l',c,Y,hm,i,⟨h1,d,q⟩,a,g,j⟩ XZ;obtain⟨o1,n,E,W,o5⟩:=g (r,o) Cf;rw[Bx,B5] at j;refine⟨l',c,Y,hm,i,⟨h1,d.putObj E o1 n o5,?_⟩,a,λx m=>?_,?_⟩
   ·unfold cT;rw[fO (λe=>W e.symm)];exact q
   ·grind[j9,B4,fO]
   ·rw[Bx,B5];exact j
  ·rintro b X O X' O' k ⟨l',c,Y,hm,i,f,a,g,j⟩ hs hO;exact⟨l',c,Y,hm,i,f,λx h=>a x (hs x h),λx h=>g x (hO.subset h),(hO.map _).nodup j⟩
  ·rintro b X O O' k ⟨l',c,Y,hm,i,f,a,g,j⟩ s;exact⟨l',c,Y,hm,i,f,a,λx h=>g x (s.subset h),(s.map _).nodup_iff.2 j⟩
 have Y:Yd P (rr+1) em N J:=by
  rintro b x X O p R hb ⟨l',c,Y,hm,i,f,a,g,j⟩ hR;refine pH x p R (yF b x c _ rr (rr+1) rec p R hb i f λI w' u7 TI hO=>hR w' ⟨l',I,Y,hm,u7,TI,a,λx h=>?_,j⟩);obtain⟨o1,n,E,W,o5⟩:=g x h;exact⟨hO _ _ W n o1,n,E,W,o5⟩
 refine Calls.mono (It (rr+1) J K Y [] Lb [] _ (by simpa using hN) hX ⟨F,Rg0,[],hm0,h0,hW,λx h=>h,λx h=>(by cases h),F7⟩) ?_;rintro e M ⟨v,V,l',c,Y,hm,i,f,a,g,j⟩;refine⟨v,V,haf rr rec M l' c hm i ⟨f.1,f.2.1.sub ?_,f.2.2⟩⟩;exact List.Sublist.append (Pn _) (Pp _ (LL _ _))
end
end Go.RX
namespace Go.Proofs.YtlcenllcmeebhaaGreat
set_option maxRecDepth 100000
open Go.RX
def dx (e:El) (s:Option A2×Nat×Nat) (xs:List e.T) (Ls:List (Nat×List AL)):Prop:=
 s.2.1=xs.length/\xs.length<=s.2.2/\((s.1=none/\s.2.2=0/\Ls=[])\/ ∃bs rest,s.1=some ⟨bs,0,none⟩/\Ls=[(bs,flat e xs++rest)]/\s.2.2*aF e<=(flat e xs++rest).length)
theorem dx.nil (e:El):dx e (none,0,0) [] []:=⟨rfl,DM _,.inl ⟨rfl,rfl,rfl⟩⟩
section
variable {D G:List Nat} {w0 w w1:A1} {L L0 Ls:List (Nat×List AL)} {e:El} {s:Option A2×Nat×Nat} {xs:List e.T}
theorem dx.sl (h:dx e s xs Ls) (H:aM D G w0 w L) (b: ∀x∈Ls,x∈L):Sl w e s.1 xs:=by
 obtain⟨h1,f,⟨a1,a,c⟩|⟨bs,rest,a1,a,c⟩⟩:=h
 ·have:xs=[]:=Gr (by omega);subst this;intro i x d;simp at d
 ·rw[a1];refine Sl.jI (H.dj _ (b _ (by rw[a];exact DF.2 rfl))) ?_;rw[IJ (by rw[aG];exact DM _),IN (by rw[aG];exact DM _)]
theorem dx.oW (h:dx e s xs Ls) (H:aM D G w0 w L) (b: ∀x∈Ls,x∈L):oW w s.1 (s.2.1*aF e) (flat e xs):=by
 obtain⟨h1,d,⟨a1,a,c⟩|⟨bs,rest,a1,a,c⟩⟩:=h
 ·have:xs=[]:=Gr (by omega);subst this;rw[a1];rfl
 ·rw[a1];refine bK.oW (vs:=flat e xs) (H.dj _ (b _ (by rw[a];exact DF.2 rfl))) (by rw[aG,h1]) λi hi=>?_;rw[CB,Gn (by rw[aG, <-h1];exact hi)]
theorem aM.Uv (H:aM D G w0 w (Ls++L0)) (m:dx e s xs Ls) (u:gY e=true) {q:Option A2×Nat×Nat} {ys:List e.T} (a:q.2.1=ys.length) (v:Go.RX.oW w q.1 (q.2.1*aF e) (flat e ys))
 {t:Eo} {size bytes:Nat} {z:Array AL} (y:size=aF e) (A:z.size=aF e) (hb:(xs.length+ys.length)*bytes<=140737488355328) {R:Option A2×Nat×Nat->A1->Prop}
 (k: ∀s' n w',dx e s' (xs++ys) n->aM D G w0 w' (n++L0)->R s' w'):mF w t size bytes z s q R:=by
 subst y;have B:=m.oW H (λx g=>CF _ g);obtain⟨h1,K,C⟩:=m;have h:=aG e xs;have E:=aG e ys;refine⟨flat e xs,flat e ys,B,v,λb=>?_,λb=>⟨growslice_fits b (by rw[h1,a];exact hb),λc hc=>?_⟩⟩
 ·rcases C with ⟨a1,d,f⟩|⟨bs,rest,a1,d,f⟩
  ·rw[d] at b;have F:ys=[]:=Gr (by omega);have g:xs=[]:=Gr (by omega);subst F;subst g;subst f;refine⟨.inl rfl,?_⟩;rw[a1];exact k _ [] _ ⟨by rw[h1,a];rfl,GH _,.inl ⟨rfl,d,rfl⟩⟩ H
  ·subst d;have I:s.1.map (·.add (s.2.1*aF e))=some ⟨bs,xs.length*aF e,none⟩:=by rw[a1,h1];simp[Oz]
   rw[I];have j:xs.length*aF e+(flat e ys).length<=(flat e xs++rest).length:=by
    rw[E, <-KA];exact DB (GS _ (by rw[<-h1, <-a];exact b)) f
   refine⟨.inr ⟨(H.get (i:=0) rfl).st j,jQ e ys u⟩,?_⟩;have p:=H.put 0 (o:=xs.length*aF e) rfl (flat e ys) j;have l:(flat e xs++rest).take (xs.length*aF e)=flat e xs:=List.take_left' h;have J:(flat e xs++rest).drop (xs.length*aF e+(flat e ys).length)=rest.drop (flat e ys).length:=by rw[<-h,Km]
   rw[l,J, <-F5, <-dO] at p;refine k (s.1,s.2.1+q.2.1,s.2.2) [(bs,flat e (xs++ys)++rest.drop (flat e ys).length)] _ ⟨by rw[h1,a,CD],by rw[CD, <-h1, <-a];exact b,.inr ⟨bs, _,a1,rfl,?_⟩⟩ p;refine DB f ?_;rw[dO];simp only[CD,FX];simp only[CD,h] at j;omega
 ·have r:=(H.ext (Ext.drew w)).alloc (flat e xs++flat e ys++(Gi z (c - (s.2.1+q.2.1))).toList) t;have l:(Kg (flat e xs)++Kg (flat e ys)++Gi z (c - (s.2.1+q.2.1)))=⟨flat e xs++flat e ys++(Gi z (c - (s.2.1+q.2.1))).toList⟩:=by
   apply Kf;simp
  rw[l];rw[<-dO] at r ⊢;refine k _ [(w.heap.size,flat e (xs++ys)++(Gi z (c - (s.2.1+q.2.1))).toList)] _ ⟨by rw[h1,a,CD],by rw[CD, <-h1, <-a];exact hc,.inr ⟨_, _,rfl,rfl,?_⟩⟩ (r.sub ((LL Ls L0).cons_cons _));simp only[CD,aG,Gi,Array.length_toList,Array.size_map,Array.size_range,A];rw[<-KA];exact GS _ (by omega)
theorem dx.st {i:Nat} (h:dx e s xs Ls) (H:aM D G w0 w (Ls++L0)) (hi:i<xs.length) (y:e.T) {vs:List AL} (hv:vs=cellsOf e y) (d:gY e=true) {K:A1->Prop}
 (k: ∀b w1,dx e s (xs.set i y) b->aM D G w0 w1 (b++L0)->K w1):aC w (ad s.1 (i*aF e)) vs K:=by
 obtain⟨h1,f,⟨a1,c,a⟩|⟨bs,rest,a1,c,a⟩⟩:=h
 ·omega
 ·subst c;rw[a1];refine aC.flat 0 H y rfl hv d hi λw1 g=>k [(bs,flat e (xs.set i y)++rest)] w1 ⟨by rw[IQ];exact h1,by rw[IQ];exact f,.inr ⟨bs,rest,a1,rfl,?_⟩⟩ g;rw[CD,aG] at a ⊢;rw[IQ];exact a
theorem aj.kN (H:aM D G w0 w L) {b n:Nat} {l:List AL} (a:(b,l)∈L) {g:Option Bool} {el:El} {K:el.T->Prop} {x:el.T} (hv:k9 l n el=some x) (k:K x):aj w g (ad (af b) n) el K:=by
 obtain⟨j,c⟩:=GD a;exact aj.cw j H c (by rw[CB];exact hv) k
end
end Go.Proofs.YtlcenllcmeebhaaGreat
namespace Go.Proofs.YtlcenllcmeebhaaGreat.Mu
set_option maxRecDepth 100000
open Go.RX
abbrev sLn:List Sc:=[.int .i64,.int .i64,.int .i64,.int .i64]
abbrev jP:El:= .agg sLn
noncomputable def U0:dJ AC:={C0 with quiet:=[140,150,204,149,148,106,114,237]}
noncomputable def U1:dJ AC:={U0 with quiet:=236::116::U0.quiet}
theorem KQ (t p f r:Int) (w:A1) (j:Bool->A1->Prop):(aK U0 (λ_=>[]) 204 [.agg ⟨[aa t,aa p,aa f,aa r]⟩] w j)=(
 aN w ⟨[aa t,aa p,aa f,aa r]⟩ 96 λb d=>true=true/\aU d (ad (af b) 0) λx=>(decide (x>=1)=true->true=true)/\aj d (some (decide (x>=1))) (ad (af b) 0) aS λ(a:Int)=>((decide (x>=1)&&decide (a<=16))=true->true=true)/\aj d (some (decide (x>=1)&&decide (a<=16))) (ad (af b) 1) aS λ(c:Int)=>((decide (x>=1)&&decide (a<=16)&&decide (c>=0))=true->true=true)/\aj d (some (decide (x>=1)&&decide (a<=16)&&decide (c>=0))) (ad (af b) 1) aS λ(e:Int)=>((decide
 (x>=1)&&decide (a<=16)&&decide (c>=0)&&decide (e<65536))=true->true=true)/\aj d (some (decide (x>=1)&&decide (a<=16)&&decide (c>=0)&&decide (e<65536))) (ad (af b) 2) aS λ(g:Int)=>((decide (x>=1)&&decide (a<=16)&&decide (c>=0)&&decide (e<65536)&&decide (g>=0))=true->true=true)/\aj d (some (decide (x>=1)&&decide (a<=16)&&decide (c>=0)&&decide (e<65536)&&decide (g>=0))) (ad (af b) 2) aS λ(h:Int)=>((decide (x>=1)&&decide (a<=16)&&decide (c>=0)&&decide (e<
 65536)&&decide (g>=0)&&decide (h<4096))=true->true=true)/\aj d (some (decide (x>=1)&&decide (a<=16)&&decide (c>=0)&&decide (e<65536)&&decide (g>=0)&&decide (h<4096))) (ad (af b) 3) aS λ(i:Int)=>((decide (x>=1)&&decide (a<=16)&&decide (c>=0)&&decide (e<65536)&&decide (g>=0)&&decide (h<4096)&&decide (i>=1))=true->true=true)/\aj d (some (decide (x>=1)&&decide (a<=16)&&decide (c>=0)&&decide (e<65536)&&decide (g>=0)&&decide (h<4096)&&decide (i>=1))) (ad (af b)
 3) aS λ(k:Int)=>au d (j (decide (x>=1)&&decide (a<=16)&&decide (c>=0)&&decide (e<65536)&&decide (g>=0)&&decide (h<4096)&&decide (i>=1)&&decide (k<=7)))):=by kernel_rfl
theorem ZL (t p f r a b:Int) (w:A1) (e:Bool->A1->Prop):(aK U0 (λ_=>[]) 150 [.agg ⟨[aa t,aa p,aa f,aa r]⟩,aa a,aa b] w e)=(
 aN w ⟨[aa t,aa p,aa f,aa r]⟩ 96 λd c=>aj c none (af d) dR λ(x:Int×Int×Int×Int×Unit)=>true=true/\aU c (ad (af d) 2) λg=>true=true/\aU c (ad (af d) 3) λh=>au c λw1=>e (x.1==a&&(x.2.1==b&&(x.2.2.1==g&&(x.2.2.2.1==h&&true)))) w1):=by kernel_rfl
theorem KR (p:Option A2) (w:A1) (a:Bool->A1->Prop):(aK U0 (λ_=>[]) 140 [ag p] w a)=(
 ((!p.isNone)=true->p.isSome=true)/\((!p.isNone)=true->p.isSome=true)/\aj w (some !p.isNone) (ad p 1) aS λ(x:Int)=>au w (a (!p.isNone&&decide (x>0)))):=by kernel_rfl
theorem UT (p:Option A2) (i:Int) (w:A1) (c:Unit->A1->Prop):(aK U0 (λ_=>[]) 196 [ag p,aa i] w c)=(
 fi p 0 w λx=>(0<=(↑0:Int)/\(↑0:Int)<=i/\i<=i/\i<=(↑x.2.2:Int))/\fi p 0 w λa=>(0<=aH .i64 i 1/\aH .i64 i 1<=(↑a.2.1:Int)/\(↑a.2.1:Int)<=(↑a.2.2:Int)/\(↑a.2.2:Int)<=(↑a.2.2:Int))/\ ∀w1,Ext w w1->mF w1 96 4 32 ⟨[aa 0,aa 0,aa 0,aa 0]⟩ (G1 (λ(h:i.toNat=(↑0:Int).toNat->False)=>ad x.1 0) (λ(h:i.toNat=(↑0:Int).toNat)=>x.1) (instDecidableEqNat i.toNat 0),i.toNat - 0,i.toNat - 0) (G1 (λ(h:(↑a.2.2:Int).toNat=(aH .i64 i 1).toNat->False)=>ad
 a.1 ((aH .i64 i 1).toNat*4)) (λ(h:(↑a.2.2:Int).toNat=(aH .i64 i 1).toNat)=>a.1) (instDecidableEqNat (↑a.2.2:Int).toNat (aH .i64 i 1).toNat),(↑a.2.1:Int).toNat - (aH .i64 i 1).toNat,(↑a.2.2:Int).toNat - (aH .i64 i 1).toNat) λ(r:Option A2×Nat×Nat) b=>p.isSome=true/\p.isSome=true/\aC b (ad p 0) [.slice r.1 r.2.1 r.2.2] λb=>au b (c ())):=by kernel_rfl
theorem Ht (t p f r:Int) (c d:Option A2) (w:A1) (e:Bool->A1->Prop):(aK U0 (λ_=>[]) 149 [.agg ⟨[aa t,aa p,aa f,aa r]⟩,ag c,ag d] w e)=(
 aN w ⟨[aa t,aa p,aa f,aa r]⟩ 96 λb a=>aj a none (af b) dR λ(x:Int×Int×Int×Int×Unit)=>aU a c λh=>aU a d λi=> ∃g,ae AC 150 [.agg ⟨[aa x.1,aa x.2.1,aa x.2.2.1,aa x.2.2.2.1]⟩,aa h,aa i] a (.bool g)/\au a (e g)):=by kernel_rfl
theorem KS (t p f r:Int) (c:Option A2) (w:A1) (d:Bool->A1->Prop):(aK U0 (λ_=>[]) 148 [.agg ⟨[aa t,aa p,aa f,aa r]⟩,ag c] w d)=(
 aN w ⟨[aa t,aa p,aa f,aa r]⟩ 96 λb a=>true=true/\aU a (ad (af b) 0) λx=>aU a c λe=>au a (d (x==e))):=by kernel_rfl
def p8:Nat->a6:=(λ|5=>[(5,Go.RX.El.one (Go.RX.Sc.int Am)),(6,Go.RX.El.one (Go.RX.Sc.int Am))]| _=>[])
theorem Hu (p c d:Option A2) (w:A1) (e:Int->A1->Prop):(aK U0 p8 147 [ag p,.func (.func 149) #[] #[ag c,ag d]] w e)=(
 ∃x,ae AC 140 [ag p] w (.bool x)/\aI (!x) (au w (e 0)) (fi p 0 w λx=> ∃(I:Nat->Int×Int×Unit->A1->Prop),(∃n, ∀w1,Ext w w1->I n (0,aZ .i64 (↑x.2.1:Int) 1,()) w1)/\ ∀(n:Nat) (s:Int×Int×Unit) (w1:A1),I n s w1->aI (decide (s.2.1>=0)) (fi p 0 w1 λx=>(x.1.isSome=true/\0<=s.2.1/\s.2.1<(↑x.2.1:Int))/\aj w1 none (ad x.1 (Ap s.2.1*4)) dR λ(x:Int×Int×Int×Int×Unit)=> ∃f,ae AC 149 [.agg ⟨[aa x.1,aa x.2.1,aa x.2.2.1,aa x.2.2.2.1]⟩,.pointer
 c,ag d] w1 (.bool f)/\aI f (az AC 196 (.bu []) [ag p,aa s.2.1] w1 λx g=> ∀a,Ext g a-> ∃(b:Nat),b<n/\I b (aH .i64 s.1 1,aZ .i64 s.2.1 1,()) a) (∀a,Ext w1 a-> ∃(b:Nat),b<n/\I b (s.1,aZ .i64 s.2.1 1,()) a)) (au w1 (e s.1)))):=by kernel_rfl
def p9:Nat->a6:=(λ|5=>[(5,Go.RX.El.one (Go.RX.Sc.int Am)),(6,Go.RX.El.one (Go.RX.Sc.int Am))]| _=>[])
theorem Hv (p c:Option A2) (w:A1) (d:Int->A1->Prop):(aK U0 p9 147 [ag p,.func (.func 148) #[] #[ag c]] w d)=(
 ∃x,ae AC 140 [ag p] w (.bool x)/\aI (!x) (au w (d 0)) (fi p 0 w λx=> ∃(I:Nat->Int×Int×Unit->A1->Prop),(∃n, ∀w1,Ext w w1->I n (0,aZ .i64 (↑x.2.1:Int) 1,()) w1)/\ ∀(n:Nat) (s:Int×Int×Unit) (w1:A1),I n s w1->aI (decide (s.2.1>=0)) (fi p 0 w1 λx=>(x.1.isSome=true/\0<=s.2.1/\s.2.1<(↑x.2.1:Int))/\aj w1 none (ad x.1 (Ap s.2.1*4)) dR λ(x:Int×Int×Int×Int×Unit)=> ∃e,ae AC 148 [.agg ⟨[aa x.1,aa x.2.1,aa x.2.2.1,aa x.2.2.2.1]⟩,.pointer
 c] w1 (.bool e)/\aI e (az AC 196 (.bu []) [ag p,aa s.2.1] w1 λx f=> ∀a,Ext f a-> ∃(b:Nat),b<n/\I b (aH .i64 s.1 1,aZ .i64 s.2.1 1,()) a) (∀a,Ext w1 a-> ∃(b:Nat),b<n/\I b (s.1,aZ .i64 s.2.1 1,()) a)) (au w1 (d s.1)))):=by kernel_rfl
theorem KT (p:Option A2) (t g:Int) (w:A1) (c:Bool->A1->Prop):(aK U0 (λ_=>[]) 108 [ag p,aa t,aa g] w c)=(
 aN w ⟨[aa t]⟩ 3 λb a=>aN a ⟨[aa g]⟩ 3 λd a=>az AC 147 (.el aS) [ag p,.func (.func 149) ⟨[]⟩ {toList:=[ag (af b),ag (af d)]}] a λ(x:Int) a=>au a (c (decide (x>0)))):=by kernel_rfl
theorem Hw (p:Option A2) (t:Int) (w:A1) (c:Int->A1->Prop):(aK U0 (λ_=>[]) 107 [ag p,aa t] w c)=(
 aN w ⟨[aa t]⟩ 3 λb a=>az AC 147 (.el aS) [ag p,.func (.func 148) ⟨[]⟩ {toList:=[ag (af b)]}] a λ(x:Int) a=>au a (c x)):=by kernel_rfl
abbrev wG (p:Option A2) (e:Int->A1->Prop) (d:A1) (f:Nat):Prop:=
 fi p 0 d λx=>aj d none (af f) dR λ(c:Int×Int×Int×Int×Unit)=>aN d ⟨[aa c.1,aa c.2.1,aa c.2.2.1,aa c.2.2.2.1]⟩ 96 λb a=> ∀w1,Ext a w1->mF w1 96 4 32 ⟨[aa 0,aa 0,aa 0,aa 0]⟩ (x.1,x.2.1,x.2.2) (some ⟨b,0,none⟩,1,1) λ(r:Option A2×Nat×Nat) a=>p.isSome=true/\p.isSome=true/\aC a (ad p 0) [.slice r.1 r.2.1 r.2.2] λa=>au a (e 0)
theorem Qv (p:Option A2) (t g f r:Int) (w:A1) (c:Int->A1->Prop):(aK U0 (λ_=>[]) 159 [ag p,.agg ⟨[aa t,aa g,aa f,aa r]⟩] w c)=(
 aN w ⟨[aa t,aa g,aa f,aa r]⟩ 96 λb a=> ∃x,ae AC 140 [ag p] a (.bool x)/\aI (!x) (au a (c 10)) (aj a none (af b) dR λ(x:Int×Int×Int×Int×Unit)=> ∃d,ae AC 204 [.agg ⟨[aa x.1,aa x.2.1,aa x.2.2.1,aa x.2.2.2.1]⟩] a (.bool d)/\aI (!d) (au a (c 1)) (true=true/\aU a (ad (af b) 0) λx=>true=true/\aU a (ad (af b) 1) λe=>az AC 108 (.el qO) [ag p,aa x,aa e] a λx a=>((!x)=true->p.isSome=true)/\
 ((!x)=true->p.isSome=true)/\aj a (some !x) (ad p 0) eY λh=>((!x)=true->p.isSome=true)/\((!x)=true->p.isSome=true)/\aj a (some !x) (ad p 1) aS λ(i:Int)=>aI (!x&&(↑h.2.1:Int)==i) (az AC 196 (.bu []) [ag p,aa 0] a λx a=>wG p c a b) (wG p c a b)))):=by kernel_rfl
def uA:Nat->a6:=(λ|4=>[(20,Go.RX.El.one (Go.RX.Sc.int Am))]| _=>[])
theorem Qw (p:Option A2) (t g k:Int) (w:A1) (c:Int×Int×Unit->A1->Prop):(aK U0 uA 201 [ag p,aa t,aa g,aa k] w c)=(
 ∃x,ae AC 140 [ag p] w (.bool x)/\aI (!x) (au w (c (0,10,()))) (fi p 0 w λx=> ∃(I:Nat->Int×Unit->A1->Prop),(∃n, ∀w1,Ext w w1->I n (0,()) w1)/\ ∀(n:Nat) (s:Int×Unit) (w1:A1),I n s w1->aI (decide (s.1<(↑x.2.1:Int))) ((x.1.isSome=true/\0<=s.1/\s.1<(↑x.2.1:Int))/\aj w1 none (ad x.1 (Ap s.1*4)) dR λ(x:Int×Int×Int×Int×Unit)=>aN w1 ⟨[aa 0,aa 0,aa 0,aa 0]⟩ 96 λb a=>aC a (af b) [aa x.1,aa x.2.1,aa x.2.2.1,.int .i64
 x.2.2.2.1] λa=>aj a none (af b) dR λ(x:Int×Int×Int×Int×Unit)=> ∃d,ae AC 150 [.agg ⟨[aa x.1,aa x.2.1,aa x.2.2.1,aa x.2.2.2.1]⟩,aa t,aa g] a (.bool d)/\aI (!d) (∀e,Ext a e-> ∃(f:Nat),f<n/\I f (aH .i64 s.1 1,()) e) (((!(decide (k<0)||decide (k>7)))=true->true=true)/\aj a (some !(decide (k<0)||decide (k>7))) (ad (af b) 3) aS λ(x:Int)=>aI (decide (k<0)||decide (k>7)||gL .i64 k x != 0) (au a (c (0,7,()))) (true=true/\
 aU a (ad (af b) 2) λx=>au a (c (x,0,()))))) (au w1 (c (0,4,()))))):=by kernel_rfl
theorem UU (n:Int) (w:A1) (a:Option A2×Int×Unit->A1->Prop):(aK U0 (λ_=>[]) 86 [aa n] w a)=(
 aI (decide (n<1)||decide (n>64)) (au w (a (none,1,()))) (aN w ⟨[.slice none 0 0,aa n]⟩ 227 λb c=>au c (a (some ⟨b,0,none⟩,0,())))):=by kernel_rfl
theorem KU (p:Option A2) (w:A1) (a:Option A2×Nat×Nat->A1->Prop):(aK U0 (λ_=>[]) 83 [ag p] w a)=(
 ∃x,ae AC 140 [ag p] w (.bool x)/\aI (!x) (au w (a (none,0,0))) (fi p 0 w λx=> ∀w1,Ext w w1->mF w1 96 4 32 ⟨[aa 0,aa 0,aa 0,aa 0]⟩ (none,0,0) (x.1,x.2.1,x.2.2) λ(r:Option A2×Nat×Nat) b=>au b (a (r.1,r.2.1,r.2.2)))):=by kernel_rfl
theorem UW (p:Option A2) (i:Int) (w:A1) (a:Bool->A1->Prop):(aK U0 (λ_=>[]) 106 [ag p,aa i] w a)=(
 ((!p.isNone&&decide (i>=0))=true->p.isSome=true)/\((!p.isNone&&decide (i>=0))=true->p.isSome=true)/\aj w (some (!p.isNone&&decide (i>=0))) (ad p 0) eY λx=>au w λw1=>a (!p.isNone&&decide (i>=0)&&decide (i<(↑x.2.1:Int))) w1):=by kernel_rfl
theorem Hx (p:Option A2) (i:Int) (w:A1) (b:Option A2×Nat×Nat->A1->Prop):(aK U0 (λ_=>[]) 202 [ag p,aa i] w b)=(
 fi p 0 w λx=>(0<=(↑0:Int)/\(↑0:Int)<=i/\i<=(↑x.2.2:Int)/\(↑x.2.2:Int)<=(↑x.2.2:Int))/\ ∀w1,Ext w w1->mF w1 202 1 8 ⟨[H5 none]⟩ (none,0,0) (G1 (λ(h:(↑x.2.2:Int).toNat=(↑0:Int).toNat->False)=>ad x.1 0) (λ(h:(↑x.2.2:Int).toNat=(↑0:Int).toNat)=>x.1) (instDecidableEqNat (↑x.2.2:Int).toNat 0),i.toNat - 0,(↑x.2.2:Int).toNat - 0) λ(r:Option A2×Nat×Nat) a=>fi p 0 a λx=>(0<=aH .i64 i 1/\aH .i64 i 1<=(↑x.2.1:Int)/\(↑x.2.1:Int)<=(↑x.2.2:Int)/\(↑x.2.2:Int)<=(↑x.2.2:Int))/\ ∀w1,
 Ext a w1->mF w1 202 1 8 ⟨[H5 none]⟩ (r.1,r.2.1,r.2.2) (G1 (λ(h:(↑x.2.2:Int).toNat=(aH .i64 i 1).toNat->False)=>ad x.1 ((aH .i64 i 1).toNat*1)) (λ(h:(↑x.2.2:Int).toNat=(aH .i64 i 1).toNat)=>x.1) (instDecidableEqNat (↑x.2.2:Int).toNat (aH .i64 i 1).toNat),(↑x.2.1:Int).toNat - (aH .i64 i 1).toNat,(↑x.2.2:Int).toNat - (aH .i64 i 1).toNat) λ(r:Option A2×Nat×Nat) a=>au a (b (r.1,r.2.1,r.2.2))):=by kernel_rfl
def wH:Nat->a6:=(λ|5=>[(14,Go.RX.El.one (Go.RX.Sc.int Am))]| _=>[])
theorem UX (n:Int) (w:A1) (c:Option A2×Int×Unit->A1->Prop):(aK U0 wH 85 [aa n] w c)=(
 aI (decide (n<1)||decide (n>8)) (au w (c (none,1,()))) (aN w ⟨[.slice none 0 0,.slice none 0 0]⟩ 205 λb a=> ∃(I:Nat->Int×Unit->A1->Prop),(∃n, ∀w1,Ext a w1->I n (0,()) w1)/\ ∀(e:Nat) (s:Int×Unit) (w1:A1),I e s w1->aI (decide (s.1<n)) (true=true/\true=true/\tq w1 (ad (af b) 0) λx=> ∀d,Ext w1 d->aN (d.alloc (Obj.chan 16 ⟨[]⟩ false 0 0 false)) ⟨[H5 (some d.heap.size)]⟩ 202 λh a=> ∀w1,Ext a w1->mF w1 202 1 8 ⟨[H5 none]⟩ (x.1,x.2.1,x.2.2) (some ⟨h,0,none⟩,1,1)
 λ(r:Option A2×Nat×Nat) a=>true=true/\true=true/\aC a (ad (af b) 0) [.slice r.1 r.2.1 r.2.2] λa=> ∀f,Ext a f-> ∃(g:Nat),g<e/\I g (aH .i64 s.1 1,()) f) (au w1 (c (some ⟨b,0,none⟩,0,()))))):=by kernel_rfl
theorem Qx (p:Option A2) (i:Int) (w:A1) (d:(Int×Int×Int×Unit)×Bool×Unit->A1->Prop):(bS U0 (λ_=>[]) 66 [ag p,aa i] w d)=(
 aN w ⟨[aa 0,aa 0,aa 0]⟩ 147 λb a=> ∃x,ae AC 106 [ag p,aa i] a (.bool x)/\aI (!x) (aC a (af b) [aa 0,aa 0,aa 0] λa=>au a λw1=>aj w1 none (af b) xD λ(x:Int×Int×Int×Unit)=>d ((x.1,x.2.1,x.2.2.1,()),false,()) w1) (fi p 0 a λx=>(x.1.isSome=true/\0<=i/\i<(↑x.2.1:Int))/\aj a none (ad x.1 (i.toNat*1)) (.one .chan) λx=> ∀w1,Ext a w1-> ∃(r:Nat), ∃(cap:Nat), ∃(e:List AL), ∃(s:Nat), ∃(m:Nat),x=some r/\ChO w1 r cap
 e s m/\(e=[]->aC w1 (af b) [aa 0,aa 0,aa 0] λa=>au a λw1=>aj w1 none (af b) xD λ(x:Int×Int×Int×Unit)=>d ((x.1,x.2.1,x.2.2.1,()),false,()) w1)/\ ∀v (vs:List AL),e=v::vs-> ∃(x:Int×Int×Int×Unit),v= .agg ⟨[aa x.1,aa x.2.1,aa x.2.2.1]⟩/\aN (w1.putObj r (Obj.chan cap {toList:=vs} false s (m+1) false)) ⟨[aa 0,aa 0,aa 0]⟩ 147 λf a=>aC a (af f) [aa x.1,aa x.2.1,aa x.2.2.1] λa=>fi p 1 a λx=>
 true=true/\aU a (ad (af f) 0) λc=>(x.1.isSome=true/\0<=aZ .i64 c 1/\aZ .i64 c 1<(↑x.2.1:Int))/\aj a none (ad x.1 ((aZ .i64 c 1).toNat*1)) aS λ(g:Int)=>(x.1.isSome=true/\0<=aZ .i64 c 1/\aZ .i64 c 1<(↑x.2.1:Int))/\aC a (ad x.1 ((aZ .i64 c 1).toNat*1)) [aa (aZ .i64 g 1)] λa=>aj a none (af f) xD λ(x:Int×Int×Int×Unit)=>aC a (af b) [aa x.1,aa x.2.1,aa x.2.2.1] λa=>au a λw1=>aj w1 none (af b) xD λ(x:Int×Int×Int×Unit)=>d
 ((x.1,x.2.1,x.2.2.1,()),true,()) w1)):=by kernel_rfl
def uB:Nat->a6:=(λ|9=>[(52,Go.RX.El.one (Go.RX.Sc.int Am))]|17=>[(78,Go.RX.El.one (Go.RX.Sc.int Am))]| _=>[])
theorem Qy (p:Option A2) (i t g:Int) (w:A1) (c:Int×Int×Unit->A1->Prop):(aK U0 uB 157 [ag p,aa i,aa t,aa g] w c)=(
 ((!p.isNone)=true->p.isSome=true)/\((!p.isNone)=true->p.isSome=true)/\aj w (some !p.isNone) (ad p 0) eY λx=>aI (p.isNone||(↑x.2.1:Int)==0) (au w (c (0,10,()))) (∃x,ae AC 106 [ag p,aa i] w (.bool x)/\aI (!x) (au w (c (0,2,()))) (aI (decide (t<1)||decide (t>16)||decide (g< -1)||decide (g>=65536)) (au w (c (0,1,()))) (az AC 202 (.el eY) [ag p,aa i] w λx a=> ∃(I:Nat->Int×Unit->A1->Prop),(∃n, ∀w1,Ext a w1->I n (0,()) w1)/\ ∀(n:Nat) (s
 :Int×Unit) (w1:A1),I n s w1->aI (decide (s.1<(↑x.2.1:Int))) ((x.1.isSome=true/\0<=s.1/\s.1<(↑x.2.1:Int))/\aj w1 none (ad x.1 (Ap s.1*1)) (.one .chan) λx=> ∃k,ChL w1 x k/\aI ((↑k:Int)==16) (au w1 (c (0,3,()))) (∀d,Ext w1 d-> ∃(e:Nat),e<n/\I e (aH .i64 s.1 1,()) d)) (fi p 1 w1 λf=>aN w1 ⟨[aa (↑x.2.1:Int)]⟩ 3 λb a=> ∀w1,Ext a w1->mF w1 3 1 8 ⟨[aa 0]⟩ (f.1,f.2.1,f.2.2) (some ⟨b,0,none⟩,1,1) λ(r:Option A2×Nat×Nat) a=>p.isSome=true/\p.isSome=
 true/\aC a (ad p 1) [.slice r.1 r.2.1 r.2.2] λa=>fi p 1 a λl=> ∃(I:Nat->Int×Unit->A1->Prop),(∃n, ∀w1,Ext a w1->I n (0,()) w1)/\ ∀(n:Nat) (s:Int×Unit) (w1:A1),I n s w1->aI (decide (s.1<(↑x.2.1:Int))) ((x.1.isSome=true/\0<=s.1/\s.1<(↑x.2.1:Int))/\aj w1 none (ad x.1 (Ap s.1*1)) (.one .chan) λx=> ∀h,Ext w1 h-> ∃(r:Nat), ∃(cap:Nat), ∃(j:List AL), ∃(o:Nat), ∃(m:Nat),x=some r/\ChO h r cap j o m/\j.length<cap/\ ∀d,Ext (h.putObj r (Obj.chan cap {toList:=j.append [.agg
 ⟨[aa (↑l.2.1:Int),aa t,aa g]⟩]} false (o+1) m false)) d-> ∃(e:Nat),e<n/\I e (aH .i64 s.1 1,()) d) (au w1 (c ((↑l.2.1:Int),0,())))))))):=by kernel_rfl
theorem KW (p:Option A2) (i:Int) (w:A1) (a:Int->A1->Prop):(aK U0 (λ_=>[]) 82 [ag p,aa i] w a)=(
 ∃x,ae AC 106 [ag p,aa i] w (.bool x)/\aI (!x) (au w (a 0)) (fi p 0 w λx=>(x.1.isSome=true/\0<=i/\i<(↑x.2.1:Int))/\aj w none (ad x.1 (i.toNat*1)) (.one .chan) λx=> ∃n,ChL w x n/\au w (a (↑n:Int)))):=by kernel_rfl
theorem Qz (p:Option A2) (i:Int) (w:A1) (b:Bool->A1->Prop):(aK U0 (λ_=>[]) 161 [ag p,aa i] w b)=(
 ((!p.isNone&&decide (i>=1))=true->p.isSome=true)/\((!p.isNone&&decide (i>=1))=true->p.isSome=true)/\aj w (some (!p.isNone&&decide (i>=1))) (ad p 1) eY λx=>((!p.isNone&&decide (i>=1)&&decide (i<=(↑x.2.1:Int)))=true->p.isSome=true)/\((!p.isNone&&decide (i>=1)&&decide (i<=(↑x.2.1:Int)))=true->p.isSome=true)/\aj w (some (!p.isNone&&decide (i>=1)&&decide (i<=(↑x.2.1:Int)))) (ad p 1) eY λa=>((!p.isNone&&decide (i>=1)&&decide (i<=(↑x.2.1:Int)))=true->a.1.isSome=true/\0<=aZ .i64 i 1/\aZ .i64 i 1<
 (↑a.2.1:Int))/\aj w (some (!p.isNone&&decide (i>=1)&&decide (i<=(↑x.2.1:Int)))) (ad a.1 ((aZ .i64 i 1).toNat*1)) aS λ(c:Int)=>au w λw1=>b (!p.isNone&&decide (i>=1)&&decide (i<=(↑x.2.1:Int))&&c==0) w1):=by kernel_rfl
def wI:Nat->a6:=(λ|5=>[(15,Go.RX.El.one (Go.RX.Sc.int Am))]| _=>[])
theorem CY (n:Int) (w:A1) (c:Option A2×Int×Unit->A1->Prop):(aK U0 wI 84 [aa n] w c)=(
 aI (decide (n<1)||decide (n>8)) (au w (c (none,1,()))) (∀w1,Ext w w1->aN (w1.alloc (Obj.map ⟨[]⟩ 0)) ⟨[aa 0,.slice none 0 0,.map (some w1.heap.size)]⟩ 210 λb a=> ∃(I:Nat->Int×Unit->A1->Prop),(∃n, ∀w1,Ext a w1->I n (0,()) w1)/\ ∀(d:Nat) (s:Int×Unit) (w1:A1),I d s w1->aI (decide (s.1<n)) (true=true/\true=true/\tq w1 (ad (af b) 1) λx=>aN w1 ⟨[aa (-1)]⟩ 3 λg a=> ∀w1,Ext a w1->mF w1 3 1 8 ⟨[aa 0]⟩ (x.1,x.2.1,x.2.2) (some ⟨g,0,none⟩,1,1) λ(r:Option A2×Nat×
 Nat) a=>true=true/\true=true/\aC a (ad (af b) 1) [.slice r.1 r.2.1 r.2.2] λa=> ∀e,Ext a e-> ∃(f:Nat),f<d/\I f (aH .i64 s.1 1,()) e) (au w1 (c (some ⟨b,0,none⟩,0,()))))):=by kernel_rfl
theorem KX (p:Option A2) (w:A1) (a:Bool->A1->Prop):(aK U0 (λ_=>[]) 114 [ag p] w a)=(
 ((!p.isNone)=true->p.isSome=true)/\((!p.isNone)=true->p.isSome=true)/\aj w (some !p.isNone) (ad p 2) OA λx=>au w (a (!p.isNone&& !x.isNone))):=by kernel_rfl
theorem UY (p:Option A2) (w:A1) (a:Int->A1->Prop):(aK U0 (λ_=>[]) 237 [ag p] w a)=(
 ∃x,ae AC 114 [ag p] w (.bool x)/\aI (!x) (au w (a 0)) (cN p 0 w λx=>au w (a x))):=by kernel_rfl
theorem UZ (p:Option A2) (c a:Int) (w:A1) (b:Int->A1->Prop):(aK U0 (λ_=>[]) 203 [ag p,aa c,aa a] w b)=(
 ∃x,ae AC 114 [ag p] w (.bool x)/\aI (!x) (au w (b 10)) (((!decide (c<0))=true->p.isSome=true)/\((!decide (c<0))=true->p.isSome=true)/\aj w (some !decide (c<0)) (ad p 1) eY λx=>aI (decide (c<0)||decide (c>=(↑x.2.1:Int))) (au w (b 2)) (fi p 1 w λx=>(x.1.isSome=true/\0<=c/\c<(↑x.2.1:Int))/\aU w (ad x.1 (c.toNat*1)) λx=>aI ((x== -1)==(a== -1)) (au w (b 6)) (fi p 1 w λx=>(x.1.isSome=true/\0<=c/\c<(↑x.2.1:Int))/\aC w (ad x.1 (c.toNat*1)) [aa a] λd=>au d (b 0))))):=by kernel_rfl
theorem U7 (p:Option A2) (c:Int) (w:A1) (a:Int->A1->Prop):(aK U0 (λ_=>[]) 200 [ag p,aa c] w a)=(
 ∃(x:Int),ae AC 237 [ag p] w (aa x)/\az AC 203 (.el aS) [ag p,aa c,aa x] w λ(x:Int) b=>au b (a x)):=by kernel_rfl
theorem KY (p:Option A2) (c:Int) (w:A1) (a:Int->A1->Prop):(aK U0 (λ_=>[]) 158 [ag p,aa c] w a)=(
 az AC 203 (.el aS) [ag p,aa c,aa (-1)] w λ(x:Int) b=>au b (a x)):=by kernel_rfl
theorem U8 (p:Option A2) (f:Int) (w:A1) (a:Int->A1->Prop):(aK U0 (λ_=>[]) 162 [ag p,aa f] w a)=(
 ∃x,ae AC 114 [ag p] w (.bool x)/\aI (!x) (au w (a 10)) (aI (decide (f<0)) (au w (a 1)) (tu p 2 w λx=> ∃(d:Int), ∃(b:Bool),mr w x .i64 f (aa 0) (aa d) b/\aI b (au w (a 5)) (tu p 2 w λx=>cN p 0 w λe=> ∀w1,Ext w w1-> ∃(r:Nat), ∃(es:Array Az), ∃(c:Nat),x=some r/\bF w1 r es c/\gX w1 r .i64 f (aa e) es c λg=>au g (a 0))))):=by kernel_rfl
def wJ:Nat->a6:=(λ|4=>[(13,Go.RX.El.one (Go.RX.Sc.int Am))]| _=>[])
theorem U9 (p:Option A2) (w:A1) (a:Bool->A1->Prop):(aK U0 wJ 197 [ag p] w a)=(
 ∃x,ae AC 114 [ag p] w (.bool x)/\aI (!x) (au w (a false)) (fi p 1 w λx=> ∃(I:Nat->Int×Unit->A1->Prop),(∃n, ∀w1,Ext w w1->I n (0,()) w1)/\ ∀(n:Nat) (s:Int×Unit) (w1:A1),I n s w1->aI (decide (s.1<(↑x.2.1:Int))) ((x.1.isSome=true/\0<=s.1/\s.1<(↑x.2.1:Int))/\aU w1 (ad x.1 (Ap s.1*1)) λx=>((x != -1)=true->p.isSome=true)/\((x != -1)=true->p.isSome=true)/\aj w1 (some (x != -1)) (ad p 0) aS λ(d:Int)=>aI (x != -1&&x != d) (au w1 (a false)) (∀b,Ext w1 b-> ∃(c:
 Nat),c<n/\I c (aH .i64 s.1 1,()) b)) (cN p 0 w1 λx=>p.isSome=true/\p.isSome=true/\aC w1 (ad p 0) [aa (aH .i64 x 1)] λe=>au e (a true)))):=by kernel_rfl
theorem KZ (a:Int) (c:Option A2) (w:A1) (b:Bool->A1->Prop):(aK U0 (λ_=>[]) 236 [aa a,ag c] w b)=(
 gi w c λx=>cN x 0 w λx=>au w (b (decide (aH .i64 a 2<=x)))):=by kernel_rfl
theorem K8 (a:Int) (w:A1) (b:Bool->A1->Prop):(aK U0 (λ_=>[]) 116 [aa a] w b)=(
 au w (b true)):=by kernel_rfl
def rj:Nat->a6:=(λ|3=>[(5,Go.RX.El.one Go.RX.Sc.slice)]|8=>[(8,Go.RX.El.one (Go.RX.Sc.int Am))]| _=>[])
theorem K9 (m:Option Nat) (c:Option A2) (w:A1) (g:Option A2×Nat×Nat->A1->Prop):(aK U1 rj 115 [.map m,.func (.func 236) #[] #[ag c]] w g)=(
 RgP w m λb a=> ∃(I:Nat->(Option A2×Nat×Nat)×Unit->A1->Prop),(∃n, ∀w1,Ext a w1->I n ((none,0,0),()) w1)/\ ∀(n:Nat) (s:(Option A2×Nat×Nat)×Unit) (w1:A1),I n s w1->NxP w1 (af b) (λa=>au a (g (s.1.1,s.1.2.1,s.1.2.2))) λ(k v:AL) a=> ∃(x:Int), ∃(y:Int),AE a (af b) (aa x) (aa y)/\ ∃h,ae AC 236 [aa y,ag c] a (.bool h)/\aI (!h) (∀d,Ext a d-> ∃(e:Nat),e<n/\I e ((s.1.1,s.1.2.1,s.1.2.2),()) d) (aN a ⟨[aa x]⟩ 3 λb a=> ∀w1,
 Ext a w1->mF w1 3 1 8 ⟨[aa 0]⟩ (s.1.1,s.1.2.1,s.1.2.2) (some ⟨b,0,none⟩,1,1) λ(r:Option A2×Nat×Nat) a=> ∃(f:Nat->Int×Unit->A1->Prop),(∃n, ∀w1,Ext a w1->f n ((↑s.1.2.1:Int),()) w1)/\ ∀(i:Nat) (s:Int×Unit) (w1:A1),f i s w1->(decide (s.1>0)=true->r.1.isSome=true/\0<=aZ .i64 s.1 1/\aZ .i64 s.1 1<(↑r.2.1:Int))/\aj w1 (some (decide (s.1>0))) (ad r.1 ((aZ .i64 s.1 1).toNat*1)) aS λ(j:Int)=>aI (decide (s.1>0)&&decide (j>x)) ((r.1.isSome=true/\0<=aZ .i64 s.1 1/\aZ
 .i64 s.1 1<(↑r.2.1:Int))/\aj w1 none (ad r.1 ((aZ .i64 s.1 1).toNat*1)) aS λ(x:Int)=>(r.1.isSome=true/\0<=s.1/\s.1<(↑r.2.1:Int))/\aC w1 (ad r.1 (Ap s.1*1)) [aa x] λa=> ∀d,Ext a d-> ∃(e:Nat),e<i/\f e (aZ .i64 s.1 1,()) d) ((r.1.isSome=true/\0<=s.1/\s.1<(↑r.2.1:Int))/\aC w1 (ad r.1 (Ap s.1*1)) [aa x] λa=> ∀d,Ext a d-> ∃(e:Nat),e<n/\I e ((r.1,r.2.1,r.2.2),()) d))):=by kernel_rfl
def rk:Nat->a6:=(λ|3=>[(5,Go.RX.El.one Go.RX.Sc.slice)]|8=>[(8,Go.RX.El.one (Go.RX.Sc.int Am))]| _=>[])
theorem K_ (m:Option Nat) (w:A1) (f:Option A2×Nat×Nat->A1->Prop):(aK U1 rk 115 [.map m,.func (.func 116) #[] #[]] w f)=(
 RgP w m λb a=> ∃(I:Nat->(Option A2×Nat×Nat)×Unit->A1->Prop),(∃n, ∀w1,Ext a w1->I n ((none,0,0),()) w1)/\ ∀(n:Nat) (s:(Option A2×Nat×Nat)×Unit) (w1:A1),I n s w1->NxP w1 (af b) (λa=>au a (f (s.1.1,s.1.2.1,s.1.2.2))) λ(k v:AL) a=> ∃(x:Int), ∃(y:Int),AE a (af b) (aa x) (aa y)/\ ∃g,ae AC 116 [aa y] a (.bool g)/\aI (!g) (∀c,Ext a c-> ∃(d:Nat),d<n/\I d ((s.1.1,s.1.2.1,s.1.2.2),()) c) (aN a ⟨[aa x]⟩ 3 λb a=> ∀w1,Ext a w1->
 mF w1 3 1 8 ⟨[aa 0]⟩ (s.1.1,s.1.2.1,s.1.2.2) (some ⟨b,0,none⟩,1,1) λ(r:Option A2×Nat×Nat) a=> ∃(e:Nat->Int×Unit->A1->Prop),(∃n, ∀w1,Ext a w1->e n ((↑s.1.2.1:Int),()) w1)/\ ∀(h:Nat) (s:Int×Unit) (w1:A1),e h s w1->(decide (s.1>0)=true->r.1.isSome=true/\0<=aZ .i64 s.1 1/\aZ .i64 s.1 1<(↑r.2.1:Int))/\aj w1 (some (decide (s.1>0))) (ad r.1 ((aZ .i64 s.1 1).toNat*1)) aS λ(i:Int)=>aI (decide (s.1>0)&&decide (i>x)) ((r.1.isSome=true/\0<=aZ .i64 s.1 1/\aZ .i64 s.1 1<
 (↑r.2.1:Int))/\aj w1 none (ad r.1 ((aZ .i64 s.1 1).toNat*1)) aS λ(x:Int)=>(r.1.isSome=true/\0<=s.1/\s.1<(↑r.2.1:Int))/\aC w1 (ad r.1 (Ap s.1*1)) [aa x] λa=> ∀c,Ext a c-> ∃(d:Nat),d<h/\e d (aZ .i64 s.1 1,()) c) ((r.1.isSome=true/\0<=s.1/\s.1<(↑r.2.1:Int))/\aC w1 (ad r.1 (Ap s.1*1)) [aa x] λa=> ∀c,Ext a c-> ∃(d:Nat),d<n/\I d ((r.1,r.2.1,r.2.2),()) c))):=by kernel_rfl
def uC:Nat->a6:=(λ|5=>[(17,Go.RX.El.one (Go.RX.Sc.int Am))]| _=>[])
theorem QA (p:Option A2) (w:A1) (c:Option A2×Nat×Nat->A1->Prop):(aK U0 uC 198 [ag p] w c)=(
 aN w ⟨[ag p]⟩ 98 λb a=>gi a (af b) λx=> ∃e,ae AC 114 [ag x] a (.bool e)/\aI (!e) (au a (c (none,0,0))) (gi a (af b) λx=>tu x 2 a λx=>az AC 115 (.el eY) [.map x,.func (.func 236) ⟨[]⟩ {toList:=[ag (af b)]}] a λx a=> ∃(I:Nat->Int×Unit->A1->Prop),(∃n, ∀w1,Ext a w1->I n (0,()) w1)/\ ∀(n:Nat) (s:Int×Unit) (w1:A1),I n s w1->aI (decide (s.1<(↑x.2.1:Int))) ((x.1.isSome=true/\0<=s.1/\s.1<(↑x.2.1:Int))/\aU w1 (ad x.1 (Ap s.1*1)) λx=>
 gi w1 (af b) λi=>tu i 2 w1 λj=> ∀d,Ext w1 d-> ∃(r:Nat), ∃(es:Array Az), ∃(f:Nat),j=some r/\bF d r es f/\AD d r .i64 x es f λa=> ∀g,Ext a g-> ∃(h:Nat),h<n/\I h (aH .i64 s.1 1,()) g) (au w1 (c (x.1,x.2.1,x.2.2))))):=by kernel_rfl
theorem QB (p:Option A2) (w:A1) (a:Option A2×Nat×Nat->A1->Prop):(aK U0 (λ_=>[]) 69 [ag p] w a)=(
 ∃x,ae AC 114 [ag p] w (.bool x)/\aI (!x) (au w (a (none,0,0))) (tu p 2 w λx=>az AC 115 (.el eY) [.map x,.func (.func 116) ⟨[]⟩ ⟨[]⟩] w λx b=>au b (a (x.1,x.2.1,x.2.2)))):=by kernel_rfl
end Go.Proofs.YtlcenllcmeebhaaGreat.Mu
namespace Go.RX
set_option maxRecDepth 100000
open Go.RowKit
def nP:AY->Prop
 | .cells .. =>False
 | _=>True
theorem nP.ne {o:AY} (h:nP o): ∀a t f,o≠ .cells a t f:=λa t f e=>by subst e;exact h
structure cB (D G:List Nat) (w0 w:A1) (L:List (Nat×List AL)) (M:List (Nat×AY)):Prop where
 base:aM D G w0 w L
 obj: ∀x∈M,w.heap[x.1]? =some x.2/\nP x.2
 own: ∀x∈M,w0.heap.size<=x.1\/x.1∈G
 nd:(M.map (·.1)).Nodup
 nD: ∀x∈M,x.1∉D
namespace cB
variable {D G:List Nat} {w0 w w1:A1} {L L':List (Nat×List AL)} {M M':List (Nat×AY)}
theorem ext (H:cB D G w0 w L M) (h:Ext w w1):cB D G w0 w1 L M:=
 ⟨H.base.ext h,λx a=>⟨h.obj (H.obj x a).1,(H.obj x a).2⟩,H.own,H.nd,H.nD⟩
theorem start (G:List Nat) (w:A1):cB [] G w w [] []:=⟨At.start G w,λx a=>(by cases a),λx a=>(by cases a),F7,λx a=>(by cases a)⟩
theorem of (H:aM D G w0 w L):cB D G w0 w L []:=⟨H,λx a=>(by cases a),λx a=>(by cases a),F7,λx a=>(by cases a)⟩
theorem sub (H:cB D G w0 w L M) (h:L'.Sublist L):cB D G w0 w L' M:=⟨H.base.sub h,H.obj,H.own,H.nd,H.nD⟩
theorem perm (H:cB D G w0 w L M) (h:L'.Perm L):cB D G w0 w L' M:=⟨H.base.perm h,H.obj,H.own,H.nd,H.nD⟩
theorem Gl (H:cB D G w0 w L M) (h:M'.Sublist M):cB D G w0 w L M':=⟨H.base,λx a=>H.obj x (h.subset a),λx a=>H.own x (h.subset a),(h.map _).nodup H.nd,λx a=>H.nD x (h.subset a)⟩
theorem lq (H:cB D G w0 w L M) (h:M'.Perm M):cB D G w0 w L M':=⟨H.base,λx a=>H.obj x (h.subset a),λx a=>H.own x (h.subset a),(h.map _).nodup_iff.2 H.nd,λx a=>H.nD x (h.subset a)⟩
theorem get (H:cB D G w0 w L M) {i r:Nat} {o:AY} (h:M[i]? =some (r,o)):w.heap[r]? =some o:=(H.obj (r,o) (FI h)).1
theorem GQ (H:cB D G w0 w L M) {x:Nat×List AL} (b:x∈L) {y:Nat×AY} (a:y∈M):x.1≠y.1:=
 aM.di (H.base.dj x b) (H.obj y a).1 (H.obj y a).2.ne
theorem join (H:cB D G w0 w L M) (K:At (L.map (·.1)) w w1 L'):cB D G w0 w1 L' M:=by
 refine⟨H.base.join (λx a=>a) K,λy b=>⟨?_,(H.obj y b).2⟩,H.own,H.nd,H.nD⟩;have h1:=(H.obj y b).1;rw[K.fr.block y.1 (DR.1 h1).1 (λc=>?_)]
 ·exact h1
 ·obtain⟨x,a,e⟩:=AP.1 c;exact H.GQ a b e
theorem put (H:cB D G w0 w L M) {i r:Nat} {o:AY} (h:M[i]? =some (r,o)) {o':AY} (m:nP o'):cB D G w0 (w.putObj r o') L (M.set i (r,o')):=by
 have b:=FI h;obtain⟨h1,y⟩:=H.obj _ b;have n:r<w.heap.size:=(DR.1 h1).1;have p:(M.set i (r,o')).map (·.1)=M.map (·.1):=by
  apply GF;intro j;rw[FY,FY];by_cases e:i=j
  ·subst e;rw[FK (Be.1 h).1,h];rfl
  ·rw[DZ e]
 refine⟨⟨⟨H.base.fr.os,H.base.fr.tape,H.base.fr.output,by rw[putObj_size];exact H.base.fr.size,λk s g=>?_⟩,λx a=>(H.base.dj x a).putObj (H.GQ a b) _,H.base.own,H.base.nd,λq d=>⟨(H.base.qc q d).1,?_⟩⟩,λx a=>?_,λx a=>?_,by rw[p];exact H.nd,λx a=>?_⟩
 ·rw[fO (λe=>?_)]
  ·exact H.base.fr.block k s g
  ·subst e;rcases H.own _ b with f|f
   ·simp only at f;omega
   ·exact g f
 ·rw[fO (λe=>H.nD _ b (by rw[<-e];exact d))];exact(H.base.qc q d).2
 ·obtain⟨j,c⟩:=GD a;by_cases e:i=j
  ·subst e;rw[FK (Be.1 h).1] at c;cases c;exact⟨j9 n,m⟩
  ·rw[DZ e] at c;have l:=H.obj x (FI c);refine⟨?_,l.2⟩;rw[fO (λt=>?_)]
   ·exact l.1
   ·have u:(M.map (·.1))[i]? =some r:=by rw[FY,h];rfl
    have v:(M.map (·.1))[j]? =some r:=by rw[FY,c];exact congrArg some t
    have:=(I8 (by rw[M4];exact(Be.1 h).1) H.nd).1 (u.trans v.symm);exact e this
 ·rcases Gj a with a|rfl
  ·exact H.own x a
  ·exact H.own (r,o) b
 ·rcases Gj a with a|rfl
  ·exact H.nD x a
  ·exact H.nD (r,o) b
theorem alloc (H:cB D G w0 w L M) {o:AY} (b:nP o):cB D G w0 (w.alloc o) L ((w.heap.size,o)::M):=by
 have h1:=H.ext (Ext.alloc w o);have c:(w.alloc o).heap[w.heap.size]? =some o:=by
  show(w.heap.push o)[w.heap.size]? =some o;simp
 refine⟨h1.base,λx a=>?_,λx a=>?_,?_,λx a=>?_⟩
 ·rcases B2.1 a with rfl|a
  ·exact⟨c,b⟩
  ·exact h1.obj x a
 ·rcases B2.1 a with rfl|a
  ·exact .inl H.base.fr.size
  ·exact H.own x a
 ·refine B5.2 ⟨λd=>?_,H.nd⟩;obtain⟨y,f,e⟩:=AP.1 d;have:=(DR.1 (H.obj y f).1).1;simp only at e;omega
 ·rcases B2.1 a with rfl|a
  ·intro g;have:=(DR.1 (H.base.qc _ g).2).1;simp only at this;omega
  ·exact H.nD x a
theorem all (H:cB [] [] w0 w L M):Ext w0 w:=H.base.all
end cB
end Go.RX
namespace Go.Proofs.YtlcenllcmeebhaaGreat
set_option maxRecDepth 100000
open Go.RX
abbrev KV:Type:=Int×AL
abbrev kvE (t:KV):AL×AL:=(aa t.1,t.2)
def iC (es:List Az) (ck:Nat) (a:List KV):Prop:=
 (∃p:List KV,p.Perm a/\es.map (λe=>(e.key,e.val))=p.map kvE)/\(es.map (·.born)).Nodup/\(∀e∈es,e.born<ck)/\(a.map (·.1)).Nodup
theorem iC.nil:iC [] 0 []:=⟨⟨[],List.Perm.nil,rfl⟩,F7,λe a=>(by cases a),F7⟩
theorem Jl {es:List Az} {p:List KV} (h:es.map (λe=>(e.key,e.val))=p.map kvE) (g:Int) (i0:Nat):
 GI (.int .i64) (aa g) es i0=some (match p.findIdx? (λt=>t.1==g) with
  |some i=>some (i0+i,(p.getD i (0,undef)).2)
  |none=>none):=by
 induction es generalizing p i0 with
 |nil=>
  cases p with
  |nil=>rfl
  |cons t p=>simp at h
 |cons e es d=>
  cases p with
  |nil=>simp at h
  |cons t p=>
   simp only[Bx,List.cons.injEq] at h;obtain⟨h1,f⟩:=h;have j:e.key=aa t.1:=congrArg (·.1) h1;have hv:e.val=t.2:=congrArg (·.2) h1;unfold GI;rw[j];have k:Instr.sameNow (.int .i64) (aa g) (aa t.1)=some (g==t.1):=by
    show(if Am=Am then some (g==t.1) else none)= _;rw[av rfl]
   rw[k,List.findIdx?_cons];by_cases a:t.1=g
   ·have b:(g==t.1)=true:=by simp[a]
    have c:(t.1==g)=true:=by simp[a]
    rw[b,av c];dsimp only;rw[hv];rfl
   ·have b:(g==t.1)=false:=by simp;exact λe=>a e.symm
    have c: ¬ (t.1==g)=true:=by simp[a]
    rw[b,ao c];dsimp only;rw[d f (i0+1)];cases p.findIdx? (λt=>t.1==g) with
    |none=>rfl
    |some i=>
     show some (some (i0+1+i, _))=some (some (i0+(i+1), _));rw[show i0+1+i=i0+(i+1) by omega];rfl
theorem qu {α β:Type} (f:α->β): ∀(l:List α) (i:Nat),(l.eraseIdx i).map f=(l.map f).eraseIdx i
 |[],i=>by simp
 |a::l,0=>rfl
 |a::l,i+1=>by
  simp only[List.eraseIdx_cons_succ,Bx];rw[qu f l i]
theorem iC.FL {es:List Az} {ck:Nat} {k:List KV} (h:iC es ck k) {g:Int} {v:AL} (A:(g,v)∈k): ∃i,GI (.int .i64) (aa g) es 0=some (some (i,v))/\i<es.length/\iC (es.eraseIdx i) ck (k.filter λt=> !(t.1==g)):=by
 obtain⟨⟨p,h1,l⟩,B,C,n⟩:=h;have o:(p.map (·.1)).Nodup:=(h1.map _).nodup_iff.2 n;have q:=h1.mem_iff.2 A;have r:=Jl l g 0;cases d:p.findIdx? (λt=>t.1==g) with
 |none=>
  have:=M5.1 d _ q;simp at this
 |some i=>
  rw[d] at r;rw[List.findIdx?_eq_some_iff_getElem] at d;obtain⟨hi,b, _⟩:=d;have f:p[i]? =some p[i]:=DU hi;have s:p.getD i (0,undef)=p[i]:=by rw[IR,f];rfl
  obtain⟨t,u⟩: ∃t,t=p[i]:=⟨_,rfl⟩;rw[<-u] at f s b;have b:t.1=g:=by simpa using b
  have D:t=(g,v):=by
   obtain⟨j,m⟩:=GD q;have E:(p.map (·.1))[i]? =some g:=by rw[FY,f];exact congrArg some b
   have F:(p.map (·.1))[j]? =some g:=by rw[FY,m];rfl
   have:=(I8 (by rw[M4];exact hi) o).1 (E.trans F.symm);subst this;rw[f] at m;exact Option.some.inj m
  have J:es.length=p.length:=by
   have:=congrArg List.length l;simpa using this
  refine⟨i,by rw[r];dsimp only;rw[s,D,CB],by omega,⟨p.eraseIdx i,?_,?_⟩,?_,?_,?_⟩
  ·have G:p.eraseIdx i=p.filter λt=> !(t.1==g):=by
    have w:p=p.take i++t::p.drop (i+1):=by
     conv=>lhs;rw[<-Dn i p]
     rw[I2 hi, <-u]
    have y: ∀x∈p.take i++p.drop (i+1),x.1≠g:=by
     intro x c e;have z:=o;rw[w,F6,Bx] at z;have H:=(B1 (a:=t.1) (l₁:=(p.take i).map (·.1)) (l₂:=(p.drop (i+1)).map (·.1))).nodup_iff.1 z;have:=(B5.1 H).1;refine this ?_;rw[b, <-e, <-F6];exact AP.2 ⟨x,c,rfl⟩
    rw[N4]
    conv=>rhs;rw[w]
    rw[List.filter_append,List.filter_cons_of_neg (by simp[b])];rw[In.2 (λx c=>by have:=y x (CF _ c);simpa using this),In.2 (λx c=>by have:=y x (DL _ c);simpa using this)]
   rw[G];exact h1.filter _
  ·rw[qu,l,qu]
  ·rw[qu];exact B.sublist (List.eraseIdx_sublist _ _)
  ·exact λe I=>C e (List.mem_of_mem_eraseIdx I)
  ·exact n.sublist ((List.filter_sublist).map _)
theorem iC.OE {es:List Az} {ck:Nat} {a:List KV} (h:iC es ck a) {g:Int} (c: ∀t∈a,t.1≠g):GI (.int .i64) (aa g) es 0=some none:=by
 obtain⟨⟨p,h1,d⟩, _, _, _⟩:=h;have b:=Jl d g 0;rw[M5.2 λt e=>by have:=c t (h1.mem_iff.1 e);simpa using this] at b;exact b
theorem iC.push {es:List Az} {ck:Nat} {a:List KV} (h:iC es ck a) {g:Int} (v:AL) (f: ∀t∈a,t.1≠g):iC (es++[{key:=aa g,val:=v,born:=ck}]) (ck+1) ((g,v)::a):=by
 obtain⟨⟨p,h1,i⟩,j,c,k⟩:=h;refine⟨⟨p++[(g,v)],(Kt _ _).trans (h1.cons _),?_⟩,?_,?_,?_⟩
 ·rw[F6,i,F6];rfl
 ·rw[F6];refine Gp.2 ⟨j,by simp,λx b y d e=>?_⟩;obtain⟨e',he,rfl⟩:=AP.1 b;have d:y=ck:=by simpa using d
  have:=c e' he;omega
 ·intro e he;rcases FU.1 he with he|he
  ·have:=c e he;omega
  ·have:e={key:=aa g,val:=v,born:=ck}:=by simpa using he
   subst this;exact H7 _
 ·refine B5.2 ⟨λl=>?_,k⟩;obtain⟨x,b,e⟩:=AP.1 l;exact f x b e
theorem iC.acw {es:List Az} {ck:Nat} {b:List KV} (h:iC es ck b):(∀e∈es, ∃t∈b,e.key=aa t.1/\e.val=t.2)/\ ∀t∈b, ∃e∈es,e.key=aa t.1/\e.val=t.2:=by
 obtain⟨⟨p,f,g⟩, _⟩:=h;refine⟨λe c=>?_,λt d=>?_⟩
 ·have:(e.key,e.val)∈p.map kvE:=by rw[<-g];exact AP.2 ⟨e,c,rfl⟩
  obtain⟨t,d,a⟩:=AP.1 this;exact⟨t,f.mem_iff.1 d,(congrArg (·.1) a).symm,(congrArg (·.2) a).symm⟩
 ·have:kvE t∈es.map λe=>(e.key,e.val):=by rw[g];exact AP.2 ⟨t,f.mem_iff.2 d,rfl⟩
  obtain⟨e,c,a⟩:=AP.1 this;exact⟨e,c,congrArg (·.1) a,congrArg (·.2) a⟩
end Go.Proofs.YtlcenllcmeebhaaGreat
namespace Go.Proofs.YtlcenllcmeebhaaGreat.Mu
set_option maxRecDepth 100000
open Go.RX
abbrev eI:El:= .one (.int .i64)
abbrev oM (now:Int) (s:Option A2×Nat×Nat) (mb:Nat):List AL:=[aa now,.slice s.1 s.2.1 s.2.2,.map (some mb)]
section
variable {D G:List Nat} {w0 w:A1} {L Ls:List (Nat×List AL)} {M:List (Nat×AY)} {s:Option A2×Nat×Nat} {pins:List Int} {now:Int} {eb mb:Nat}
theorem mW (H:aM D G w0 w L) (a:(eb,oM now s mb)∈L):ae AC 114 [ag (af eb)] w (.bool true):=by
 refine ae.of (s:= .el (.one .bool)) λw' h'=>ai (C:=U0) (aR:=λ_=>[]) (AM (KX _ w' _) ?_);exact⟨λ_=>rfl,λ_=>rfl,aj.kN (H.ext h') a (show _=some (some mb) from rfl) λw1 h1=>⟨rfl,h1⟩⟩
theorem ZM (H:aM D G w0 w L) (a:(eb,oM now s mb)∈L):ae AC 237 [ag (af eb)] w (aa now):=by
 refine ae.of (s:= .el (.one (.int .i64))) λw' h'=>ai (C:=U0) (aR:=λ_=>[]) (AM (UY _ w' _) ?_);exact⟨_,mW (H.ext h') a,an rfl ⟨rfl,rfl,aj.kN (H.ext h') a (show _=some now from rfl) λw1 h1=>⟨rfl,h1⟩⟩⟩
def AI (pins:List Int) (c:Nat) (a:Int):List Int:=if(pins.getD c 0== -1)=(a== -1) then pins else pins.set c a
theorem IX {e:El} {xs:List e.T} (h:dx e s xs Ls) (H:aM D G w0 w (Ls++L)) {i:Nat} {x:e.T} (a:xs[i]? =some x):s.1.isSome=true/\cC w (ad s.1 (i*aF e)) e x:=
 h.sl H (λy b=>CF _ b) i x a
theorem Jm (H:aM D G w0 w ((eb,oM now s mb)::(Ls++L))) (b:dx eI s pins Ls) (c:Nat) (hc:c<pins.length) (a:Int) {K:Int->A1->Prop}
 (k: ∀v f d,dx eI s (AI pins c a) f->aM D G w0 d ((eb,oM now s mb)::(f++L))->K v d):
 az AC 203 (.el (.one (.int .i64))) [ag (af eb),aa (c:Int),aa a] w K:=by
 refine az.go H λw1 H=>ai (C:=U0) (aR:=λ_=>[]) (AM (UZ _ _ _ w1 K) ?_);have m:=b.1;have h:pins[c]? =some (pins.getD c 0):=by rw[IR,DU hc];rfl
 have h0:(decide ((c:Int)<0))=false:=decide_eq_false (by omega);have g:aM D G w0 w1 (Ls++((eb,oM now s mb)::L)):=H.perm B1;refine⟨_,mW H Cf,an rfl ⟨λ_=>rfl,λ_=>rfl,aj.cw 0 H rfl (show _=some (s.1,s.2.1,s.2.2) from rfl) ?_⟩⟩;refine an (by rw[h0,Bool.false_or,decide_eq_false_iff_not];dsimp only;omega) ⟨rfl,rfl,aj.cw 0 H rfl (show _=some (s.1,s.2.1,s.2.2) from rfl) ⟨⟨(IX b g h).1,by omega,by dsimp only;omega⟩,aj.of (pins.getD c 0) (by dsimp only;rw[Du];exact(IX b g h).2) ?_⟩⟩;refine ab (λe=>au.go H λd H=>?_) (λe=>⟨rfl,rfl,aj.cw 0 H rfl (show _=some (s.1,s.2.1,s.2.2) from rfl) ⟨⟨(IX b g h).1,by omega,by dsimp only;omega⟩,?_⟩⟩)
 ·refine k 6 Ls d ?_ H;unfold AI;rw[av (by simpa using e)];exact b
 ·dsimp only;rw[Du];refine b.st g hc a rfl rfl λf d j i=>au.go i λl i=>k 0 f l ?_ (i.perm B1.symm);unfold AI;rw[ao (by intro c;rw[c] at e;simp at e)];exact j
theorem U_ (H:aM D G w0 w ((eb,oM now s mb)::(Ls++L))) (e:dx eI s pins Ls) (c:Nat) (hc:c<pins.length) {K:Int->A1->Prop}
 (k: ∀v a b,dx eI s (AI pins c now) a->aM D G w0 b ((eb,oM now s mb)::(a++L))->K v b):
 az AC 200 (.el (.one (.int .i64))) [ag (af eb),aa (c:Int)] w K:=by
 refine az.go H λw1 H=>ai (C:=U0) (aR:=λ_=>[]) (AM (U7 _ _ w1 K) ?_);exact⟨now,ZM H Cf,Jm H e c hc now λv a b f d=>au.go d λg d=>k v a g f d⟩
theorem La (H:aM D G w0 w ((eb,oM now s mb)::(Ls++L))) (e:dx eI s pins Ls) (c:Nat) (hc:c<pins.length) {K:Int->A1->Prop}
 (k: ∀v a b,dx eI s (AI pins c (-1)) a->aM D G w0 b ((eb,oM now s mb)::(a++L))->K v b):
 az AC 158 (.el (.one (.int .i64))) [ag (af eb),aa (c:Int)] w K:=by
 refine az.go H λw1 H=>ai (C:=U0) (aR:=λ_=>[]) (AM (KY _ _ w1 K) ?_);exact Jm H e c hc (-1) λv a b f d=>au.go d λg d=>k v a g f d
def KC (pins:List Int) (now:Int):Int:=if pins.all (λp=>p== -1||p==now)=true then now+1 else now
theorem U' (H:aM D G w0 w ((eb,oM now s mb)::(Ls++L))) (g:dx eI s pins Ls) (z:pins.length<=8) (A:0<=now/\now<4611686018427387904) {K:Bool->A1->Prop}
 (k: ∀v a,aM D G w0 a ((eb,oM (KC pins now) s mb)::(Ls++L))->K v a):
 az AC 197 (.el (.one .bool)) [ag (af eb)] w K:=by
 refine az.go H λw1 H=>ai (C:=U0) (aR:=wJ) (AM (U9 _ w1 K) ?_);have m:=g.1;refine⟨_,mW H Cf,an rfl ⟨rfl,rfl,aj.cw 0 H rfl (show _=some (s.1,s.2.1,s.2.2) from rfl) ?_⟩⟩;refine⟨λn st a=> ∃j:Nat,j<=pins.length/\n=pins.length - j/\st.1=(j:Int)/\(pins.take j).all (λp=>p== -1||p==now)=true/\aM D G w0 a ((eb,oM now s mb)::(Ls++L)),⟨pins.length,λa o=>⟨0,GH _,rfl,rfl,rfl,H.ext o⟩⟩,?_⟩;rintro n ⟨i, _⟩ a ⟨j,h,r,hi,b,H⟩;have hi:i=(j:Int):=hi;subst hi r;dsimp only;rw[m];have t:aM D G w0 a (Ls++((eb,oM now s mb)::L)):=H.perm B1;refine ab (λc=>?_) (λc=>?_)
 ·have h:j<pins.length:=by have:=of_decide_eq_true c;omega
  obtain⟨x,d⟩: ∃x,pins[j]? =some x:=⟨_,DU h⟩;have l:=IX g t d;refine⟨⟨l.1,by omega,by omega⟩,aj.of x (by rw[Du];exact l.2) ⟨λ_=>rfl,λ_=>rfl,aj.cw 0 H rfl (show _=some now from rfl) ?_⟩⟩;refine ab (λc=>au.go H λf H=>k false f ?_) (λc f u=>⟨pins.length - (j+1),by omega,j+1,by omega,rfl,?_,?_,H.ext u⟩)
  ·have:KC pins now=now:=by
    unfold KC;refine ao λhc=>?_;have:=List.all_eq_true.1 hc x (FI d);simp only[Hb,bne_iff_ne,Ee,beq_iff_eq] at c this;rcases this with q|q
    ·exact c.1 q
    ·exact c.2 q
   rw[this];exact H
  ·rw[aw (by omega) (by omega)];omega
  ·rw[Gz,d,List.all_append,b,Gd];show([x]:List Int).all _=true;rw[List.all_cons,List.all_nil,Bool.and_true];simp only[Hq,bne_eq_false_iff_eq] at c;simpa using c
 ·have:j=pins.length:=by have:=of_decide_eq_false c;omega
  subst this;rw[J3] at b;have e:KC pins now=now+1:=av b;rw[e] at k;refine⟨rfl,rfl,aj.cw 0 H rfl (show _=some now from rfl) ⟨rfl,rfl,?_⟩⟩;rw[aw (by omega) (by omega)];exact aC.fS 0 H rfl rfl rfl λf H=>au.go H λy H=>k true y H
end
section
variable {D G:List Nat} {w0 w:A1} {L:List (Nat×List AL)} {M:List (Nat×AY)} {s:Option A2×Nat×Nat} {ws:List KV} {es:List Az} {now:Int} {eb mb ck:Nat}
def OF (ws:List KV) (f now:Int):List KV:=if ws.any (λx=>x.1==f)=true then ws else(f,aa now)::ws
theorem Va (H:cB D G w0 w L ((mb,.map ⟨es⟩ ck)::M)) (b:(eb,oM now s mb)∈L) (hv:iC es ck ws) (r: ∀t∈ws, ∃x,t.2=aa x) (f:Int) (B:0<=f) {K:Int->A1->Prop}
 (k: ∀v l m a,iC l m (OF ws f now)->cB D G w0 a L ((mb,.map ⟨l⟩ m)::M)->K v a):
 az AC 162 (.el (.one (.int .i64))) [ag (af eb),aa f] w K:=by
 refine λw1 h1=>ai (C:=U0) (aR:=λ_=>[]) (AM (U8 _ _ w1 K) ?_);have H:=H.ext h1;refine⟨_,mW H.base b,an rfl (an (decide_eq_false (by omega)) ⟨rfl,rfl,aj.kN H.base b (show _=some (some mb) from rfl) ?_⟩)⟩;have n:bF w1 mb ⟨es⟩ ck:=H.get (i:=0) rfl;by_cases o: ∃v,(f,v)∈ws
 ·obtain⟨v,d⟩:=o;obtain⟨x,p⟩:=r _ d;dsimp only at p;subst p;obtain⟨i,hi, _⟩:=hv.FL d;refine⟨x,true,⟨mb, _, _,rfl,n,by rw[hi];exact⟨rfl,rfl⟩⟩,aA rfl λa g=>?_⟩;have e:OF ws f now=ws:=av (K1.2 ⟨_,d,by simp⟩);rw[e] at k;exact k 5 es ck a hv (H.ext g)
 ·have h: ∀t∈ws,t.1≠f:=λt j e=>o ⟨t.2,by rw[<-e];exact j⟩;have q:=hv.OE h;refine⟨0,false,⟨mb, _, _,rfl,n,by rw[q];exact⟨rfl,rfl⟩⟩,an rfl ⟨rfl,rfl,aj.kN H.base b (show _=some (some mb) from rfl) ⟨rfl,rfl,aj.kN H.base b (show _=some now from rfl) λa g=>?_⟩⟩⟩;have H:=H.ext g;refine⟨mb, _, _,rfl,H.get (i:=0) rfl,?_⟩;unfold gX;rw[q];have H:=H.put (i:=0) rfl (o':= .map ⟨es++[{key:=aa f,val:=aa now,born:=ck}]⟩ (ck+1)) trivial;have u:(Kg es).push {key:=aa f,val:=aa now,born:=ck}=⟨es++[{key:=aa f,val:=aa now,born:=ck}]⟩:=by apply Kf;simp
  have e:OF ws f now=(f,aa now)::ws:=ao λc=>by
   obtain⟨t,j,y⟩:=K1.1 c;exact h t j (by simpa using y)
  rw[e] at k;show au _ _;rw[u];exact λz A=>k 0 _ _ z (hv.push _ h) (H.ext A)
end
abbrev DH:Type:=Int×Int×Int×Int×Unit
def lnR (l:DH):Bool:=decide (l.1>=1)&&decide (l.1<=16)&&decide (l.2.1>=0)&&decide (l.2.1<65536)&&decide (l.2.2.1>=0)&&decide (l.2.2.1<4096)&&decide (l.2.2.2.1>=1)&&decide (l.2.2.2.1<=7)
def ml (l:DH) (t p:Int):Bool:=l.1==t&&l.2.1==p
abbrev lnV (l:DH):AL:= .agg ⟨[aa l.1,aa l.2.1,aa l.2.2.1,aa l.2.2.2.1]⟩
theorem QC (l:DH) (w:A1):ae AC 204 [lnV l] w (.bool (lnR l)):=by
 obtain⟨t,p,f,r, _⟩:=l;refine ae.of (s:= .el (.one .bool)) λw' _=>ai (C:=U0) (aR:=λ_=>[]) (AM (KQ t p f r w' _) ?_);have H:=At.start [] w'
 repeat' (first
  |exact Go.RX.aM.all H
  |exact And.intro (by first|rfl|decide+kernel) (Go.RX.aM.all H)
  |simp
  |refine aj.cw 0 H rfl rfl ?_
  |refine aj.at 0 H rfl rfl ?_
  |refine aN.go H λb w1 H=>?_
  |with_reducible refine au.go H λw1 H=>?_
  |refine jJ ?_
  |refine an (by assumption) ?_
  )
theorem XF (l:DH) (a b:Int) (w:A1):ae AC 150 [lnV l,aa a,aa b] w (.bool (ml l a b)):=by
 obtain⟨t,p,f,r, _⟩:=l;refine ae.of (s:= .el (.one .bool)) λw' _=>ai (C:=U0) (aR:=λ_=>[]) (AM (ZL t p f r a b w' _) ?_);have H:=At.start [] w';refine aN.go H λc w1 H=>aj.at 0 H rfl (rfl) ⟨rfl,aj.cw 0 H rfl rfl ⟨rfl,aj.cw 0 H rfl rfl (au.go H λw1 H=>⟨?_,H.all⟩)⟩⟩;show(t==a&&(p==b&&(f==f&&(r==r&&true))))=(t==a&&p==b);simp
abbrev dq (s:Option A2×Nat×Nat) (sz:Int):List AL:=[.slice s.1 s.2.1 s.2.2,aa sz]
section
variable {D G:List Nat} {w0 w:A1} {L Ls:List (Nat×List AL)} {s:Option A2×Nat×Nat} {ls:List DH} {sz:Int} {tb:Nat}
theorem pM (H:aM D G w0 w L) (a:(tb,dq s sz)∈L) (b:0<sz):ae AC 140 [ag (af tb)] w (.bool true):=by
 refine ae.of λw' h'=>ai (AM (KR _ w' _) ?_);refine⟨λ_=>rfl,λ_=>rfl,aj.kN (H.ext h') a rfl λw1 h1=>⟨?_,h1⟩⟩
 grind
theorem Pw {α:Type} {a b:α} {m l:Nat} (h:m=l):(G1 (λ_=>a) (λ_=>b) (instDecidableEqNat m l):α)=b:=by
 generalize instDecidableEqNat m l=d;cases d with
 |isTrue
 |isFalse=>grind
theorem GR {α:Type} {a b:α} {m l:Nat} (h:m≠l):(G1 (λ_=>a) (λ_=>b) (instDecidableEqNat m l):α)=a:=by
 generalize instDecidableEqNat m l=d;cases d with
 |isTrue=>grind
 |isFalse=>rfl
theorem Jn (H:aM D G w0 w ((tb,dq s sz)::(Ls++L))) (h:dx jP s ls Ls) (P:(ls.length:Int)<=64) (i:Nat) (hi:i<ls.length) {K:Unit->A1->Prop}
 (k: ∀s' b a,dx jP s' (ls.eraseIdx i) b->aM D G w0 a ((tb,dq s' sz)::(b++L))->K () a):
 az AC 196 (.bu []) [ag (af tb),aa (i:Int)] w K:=by
 refine az.go H λw1 H=>ai (C:=U0) (aR:=λ_=>[]) (AM (UT _ _ w1 K) ?_);obtain⟨p,n,c⟩:=s;have u:=h;obtain⟨h1,e,l⟩:=h;have h1:n=ls.length:=h1;have e:ls.length<=c:=e;subst h1;have Q:=e;have m:aH .i64 (i:Int) 1=((i+1:Nat):Int):=by rw[aw (by omega) (by omega)];omega
 obtain⟨bs,rest,a1,v,x⟩: ∃bs rest,p=some ⟨bs,0,none⟩/\Ls=[(bs,flat jP ls++rest)]/\c*aF jP<=(flat jP ls++rest).length:=by
  rcases l with ⟨_,q, _⟩|q
  ·have:c=0:=q;omega
  ·exact q
 subst a1 v;refine⟨rfl,rfl,aj.cw 0 H rfl rfl ⟨?_,rfl,rfl,aj.cw 0 H rfl rfl ⟨?_,λa y=>?_⟩⟩⟩
 ·dsimp only;omega
 ·rw[m];dsimp only;omega
 have H:=H.ext y;rw[m];dsimp only;have A:oW a (if((c:Int)).toNat=((i+1:Nat):Int).toNat then(some ⟨bs,0,none⟩:Option A2) else ad (af bs) (((i+1:Nat):Int).toNat*4)) ((((ls.length:Nat):Int).toNat - ((i+1:Nat):Int).toNat)*aF jP) (flat jP (ls.drop (i+1))):=by
  have B:=H.get (i:=1) rfl;by_cases hc:c=i+1
  ·have:ls.drop (i+1)=[]:=I3 (by omega);rw[this,av (by omega),show((((ls.length:Nat):Int).toNat - ((i+1:Nat):Int).toNat))=0 by omega];exact⟨rfl,λj f=>by simp at f⟩
  ·rw[ao (by omega),aW];refine B.oW ?_ λj f=>?_
   ·rw[aG,FX];congr 1
   ·have o:flat jP ls=flat jP (ls.take (i+1))++flat jP (ls.drop (i+1)):=by rw[<-dO,Dn]
    have S:(flat jP (ls.take (i+1))).length=(i+1)*aF jP:=by rw[aG,B3,E5 (by omega)]
    have T:0+((i+1:Nat):Int).toNat*4=(i+1)*aF jP:=by
     show 0+(i+1)*4=(i+1)*4;omega
    have U:j<(flat jP (ls.drop (i+1))).length:=by
     rw[aG,FX];refine H6 f (GS _ (by omega))
    grind
 have E:dx jP (some ⟨bs,0,none⟩,i,i) (ls.take i) [(bs,flat jP (ls.take i)++(flat jP (ls.drop i)++rest))]:=by
  refine⟨by rw[B3,E5 (by omega)],by rw[B3,E5 (by omega)];exact DM _,.inr ⟨bs, _,rfl,rfl,?_⟩⟩;rw[<-F5, <-dO,Dn];exact DB (GS _ (show i<=c by clear e u l;omega)) x
 have F:flat jP ls++rest=flat jP (ls.take i)++(flat jP (ls.drop i)++rest):=by rw[<-F5, <-dO,Dn]
 have I:aM D G w0 a ([(bs,flat jP (ls.take i)++(flat jP (ls.drop i)++rest))]++((tb,dq (some ⟨bs,0,none⟩,ls.length,c) sz)::L)):=by
  rw[<-F];exact H.perm (Ea _ _ _)
 have o:(G1 (λ_=>ad (af bs) (((i+1:Nat):Int).toNat*4)) (λ_=>(some ⟨bs,0,none⟩:Option A2)) (instDecidableEqNat ((c:Int)).toNat ((i+1:Nat):Int).toNat):Option A2)=if((c:Int)).toNat=((i+1:Nat):Int).toNat then(some ⟨bs,0,none⟩:Option A2) else ad (af bs) (((i+1:Nat):Int).toNat*4):=by
  by_cases hc:((c:Int)).toNat=((i+1:Nat):Int).toNat
  ·rw[av hc,Pw hc]
  ·rw[ao hc,GR hc]
 have key:=aM.Uv I E (show gY jP=true from rfl) (q:=(if((c:Int)).toNat=((i+1:Nat):Int).toNat then(some ⟨bs,0,none⟩:Option A2) else ad (af bs) (((i+1:Nat):Int).toNat*4),((ls.length:Nat):Int).toNat - ((i+1:Nat):Int).toNat,((c:Int)).toNat - ((i+1:Nat):Int).toNat)) (ys:=ls.drop (i+1)) (by rw[FX];show((ls.length:Nat):Int).toNat - ((i+1:Nat):Int).toNat= _;omega) A
  (t:=96) (size:=4) (bytes:=32) (z:=⟨[aa 0,aa 0,aa 0,aa 0]⟩) rfl rfl (by rw[B3,FX];omega)
  (R:=λr a=>(some (⟨tb,0,none⟩:A2)).isSome=true/\(some (⟨tb,0,none⟩:A2)).isSome=true/\aC a (ad (af tb) 0) [Value.slice r.1 r.2.1 r.2.2] λa=>au a λw1=>K () w1) λs' b V J g=>?_
 ·rw[o];have:((i:Int)).toNat - 0=i:=by omega
  rw[this];generalize (instDecidableEqNat ((i:Int)).toNat 0:Decidable (((i:Int)).toNat=((0:Nat):Int).toNat))=d;cases d<;>exact key
 ·refine⟨rfl,rfl,?_⟩;have g:=g.perm (L':=(tb,dq (some ⟨bs,0,none⟩,ls.length,c) sz)::(b++L)) B1.symm;refine aC.fS 0 g rfl rfl rfl λW M=>au.go M λN O=>k s' b N ?_ O;rw[N4];exact J
theorem wK {α:Type} {ls:List α} {j:Nat} {x:α} (f:α->Bool) (a:ls[j]? =some x):ls.take (j+1)++(ls.drop (j+1)).filter f=ls.take j++([x]++(ls.drop (j+1)).filter f):=by grind[Gz]
theorem jk {α:Type} {ls:List α} {j:Nat} {x:α} (a:ls[j]? =some x):ls.drop j=x::ls.drop (j+1):=by grind[I2]
def SwI (D G:List Nat) (w0:A1) (L:List (Nat×List AL)) (tb:Nat) (sz:Int) (ls:List DH) (is:DH->Bool) (n:Nat) (s:Int×Int×Unit) (w:A1):Prop:=
 n<=ls.length/\s.1=(((ls.drop n).countP is:Nat):Int)/\s.2.1=(n:Int) - 1/\ ∃sl Ls,dx jP sl (ls.take n++(ls.drop n).filter (λl=> !is l)) Ls/\aM D G w0 w ((tb,dq sl sz)::(Ls++L))
theorem zU {is:DH->Bool} (M:(ls.length:Int)<=64) {n:Nat} {s:Int×Int×Unit} (v:SwI D G w0 L tb sz ls is n s w) {Q:DH->Bool->Prop} {K:Int->A1->Prop} {N:Int->Int->A1->Prop}
 (z: ∀{sl Ls},aM D G w0 w ((tb,dq sl sz)::(Ls++L))-> ∀x,Q x (is x))
 (A: ∀{sl Ls d},dx jP sl (ls.filter (λl=> !is l)) Ls->aM D G w0 d ((tb,dq sl sz)::(Ls++L))->K ((ls.countP is:Nat):Int) d)
 (o: ∀(a b:Int) (d:A1),(∃q,q<n/\SwI D G w0 L tb sz ls is q (a,b,()) d)->N a b d):
 aI (decide (s.2.1>=0)) ((some (⟨tb,0,none⟩:A2)).isSome=true/\(some (⟨tb,0,none⟩:A2)).isSome=true/\aj w none (ad (af tb) 0) (.one .slice) λx=>(x.1.isSome=true/\0<=s.2.1/\s.2.1<((x.2.1:Nat):Int))/\aj w none (ad x.1 (Ap s.2.1*4)) jP λx=> ∃r:Bool,Q x r/\
  aI r (az AC 196 (.bu []) [ag (af tb),aa s.2.1] w λ_ d=> ∀e,Ext d e->N (aH .i64 s.1 1) (aZ .i64 s.2.1 1) e) (∀e,Ext w e->N s.1 (aZ .i64 s.2.1 1) e))
  (au w λw1=>K s.1 w1):=by
 obtain⟨s1,B,O⟩:=s;obtain⟨h1,m,f,sl,Ls,g,H⟩:=v;have m:s1=(((ls.drop n).countP is:Nat):Int):=m;have f:B=(n:Int) - 1:=f;subst m f;refine ab (λc=>?_) (λc=>?_)
 ·obtain⟨j,rfl⟩: ∃j,n=j+1:=⟨n - 1,by have:=of_decide_eq_true c;dsimp only at this;omega⟩;obtain⟨x,h⟩: ∃x,ls[j]? =some x:=⟨_,DU (by omega)⟩;have hc:((((ls.drop (j+1)).countP is:Nat):Int))<=ls.length:=by
   have:=List.countP_le_length (p:=is) (l:=ls.drop (j+1));rw[FX] at this;omega
  have C:((j+1:Nat):Int) - 1=(j:Int):=by omega
  have E:aZ .i64 (j:Int) 1=(j:Int) - 1:=bE (by omega) (by omega);have t:=(g.sl H (λy F=>B4 _ (CF _ F))) j x (by
   rw[wK _ h,IG (by rw[B3];omega),B3,E5 (by omega),Ga];rfl)
  have P:=g.1;dsimp only;rw[C,E];refine⟨rfl,rfl,aj.cw 0 H rfl rfl ⟨⟨t.1,by omega,?_⟩,aj.of x ?_ ⟨is x,z H x,?_⟩⟩⟩
  grind
  ·dsimp only;rw[Du];exact t.2
  rw[wK _ h] at g;have i:(ls.drop j).countP is=(ls.drop (j+1)).countP is+if is x=true then 1 else 0:=by rw[jk h,List.countP_cons]
  cases k:is x with
  |true=>
   rw[k,av rfl] at i;refine aA rfl (Jn H g ?_ j ?_ λs' I d u J e f=>o _ _ _ ⟨j,H7 j,by omega,?_,rfl,s',I,?_,J.ext f⟩)
   grind
   grind
   ·dsimp only;rw[aw (by omega) (by omega),i];omega
   ·rw[List.eraseIdx_append_of_length_le (by rw[B3];omega),B3,E5 (by omega),Ga] at u;rw[jk h,GG,k];exact u
  |false=>
   rw[k,ao (by decide)] at i;refine an rfl λe f=>o _ _ _ ⟨j,H7 j,by omega,?_,rfl,sl,Ls,?_,H.ext f⟩
   ·dsimp only;rw[i];rfl
   ·rw[jk h,GG,k];exact g
 ·have:n=0:=by
   have:=of_decide_eq_false c;dsimp only at this;omega
  subst this;rw[List.drop_zero];exact au.go H λd H=>A g H
theorem Hy (H:aM D G w0 w ((tb,dq s sz)::(Ls++L))) (i:dx jP s ls Ls) (j:(ls.length:Int)<=64) (m:0<sz) {c d:Nat} {t g:Int} (hc:(c,[aa t])∈L) (o:(d,[aa g])∈L) {K:Int->A1->Prop}
 (k: ∀s' f e,dx jP s' (ls.filter λl=> !ml l t g) f->aM D G w0 e ((tb,dq s' sz)::(f++L))->K ((ls.countP (λl=>ml l t g):Nat):Int) e):
 az AC 147 (.el (.one (.int .i64))) [ag (af tb),.func (.func 149) #[] #[ag (af c),ag (af d)]] w K:=by
 refine az.go H λw1 H=>ai (C:=U0) (aR:=p8) (AM (Hu _ _ _ w1 K) ?_);have p:=i.1;refine⟨_,pM H (Cf) m,an rfl ⟨rfl,rfl,aj.cw 0 H rfl rfl ⟨SwI D G w0 L tb sz ls (λl=>ml l t g),⟨ls.length,λe q=>⟨DM _,?_,?_,s,Ls,?_,H.ext q⟩⟩,λn st e r=>?_⟩⟩⟩
 ·rw[H4];rfl
 ·dsimp only;rw[p,bE (by omega) (by omega)]
 grind
 refine zU (is:=λl=>ml l t g) j r (λ{sl Ls} H x=>?_) (λ{sl Ls e} a b=>k sl Ls e a b) (λa b e h=>h);refine ae.of (s:= .el (.one .bool)) λw' h'=>ai (C:=U0) (aR:=λ_=>[]) (AM (Ht _ _ _ _ _ _ w' _) ?_);have u:=(H.ext h').dj _ (B4 _ (DL _ hc));have v:=(H.ext h').dj _ (B4 _ (DL _ o));have H0:=At.start [] w';refine aN.go H0 λb y H0=>aj.at 0 H0 rfl (rfl) (aj.fG H0 u (by simp) rfl (aj.fG H0 v (by simp) rfl ⟨_,XF (x.1,x.2.1,x.2.2.1,x.2.2.2.1,()) t g y,au.go H0 λz H0=>⟨rfl,H0.all⟩⟩))
theorem Hz (H:aM D G w0 w ((tb,dq s sz)::(Ls++L))) (f:dx jP s ls Ls) (g:(ls.length:Int)<=64) (i:0<sz) {c:Nat} {t:Int} (hc:(c,[aa t])∈L) {K:Int->A1->Prop}
 (k: ∀s' e d,dx jP s' (ls.filter λl=> !(l.1==t)) e->aM D G w0 d ((tb,dq s' sz)::(e++L))->K ((ls.countP (λl=>l.1==t):Nat):Int) d):
 az AC 147 (.el (.one (.int .i64))) [ag (af tb),.func (.func 148) #[] #[ag (af c)]] w K:=by
 refine az.go H λw1 H=>ai (C:=U0) (aR:=p9) (AM (Hv _ _ w1 K) ?_);have j:=f.1;refine⟨_,pM H (Cf) i,an rfl ⟨rfl,rfl,aj.cw 0 H rfl rfl ⟨SwI D G w0 L tb sz ls (λl=>l.1==t),⟨ls.length,λd m=>⟨DM _,?_,?_,s,Ls,?_,H.ext m⟩⟩,λn st d o=>?_⟩⟩⟩
 grind
 ·dsimp only;rw[j,bE (by omega) (by omega)]
 grind
 refine zU (is:=λl=>l.1==t) g o (λ{sl Ls} H x=>?_) (λ{sl Ls d} a b=>k sl Ls d a b) (λa b d h=>h);refine ae.of (s:= .el (.one .bool)) λw' h'=>ai (C:=U0) (aR:=λ_=>[]) (AM (KS _ _ _ _ _ w' _) ?_);have p:=(H.ext h').dj _ (B4 _ (DL _ hc));have H0:=At.start [] w';refine aN.go H0 λb q H0=>⟨rfl,aj.cw 0 H0 rfl rfl (aj.fG H0 p (by simp) rfl (au.go H0 λr H0=>⟨rfl,H0.all⟩))⟩
theorem Bu (H:aM D G w0 w ((tb,dq s sz)::(Ls++L))) (h:dx jP s ls Ls) (i:(ls.length:Int)<=64) (j:0<sz) (t g:Int) {K:Bool->A1->Prop}
 (k: ∀s' a b,dx jP s' (ls.filter λl=> !ml l t g) a->aM D G w0 b ((tb,dq s' sz)::(a++L))->K (ls.any λl=>ml l t g) b):
 az AC 108 (.el (.one .bool)) [ag (af tb),aa t,aa g] w K:=by
 refine az.go H λw1 H=>ai (C:=U0) (aR:=λ_=>[]) (AM (KT _ _ _ w1 K) ?_);refine aN.go H λc b H=>aN.go H λd m H=>?_;have n:aM D G w0 m ((tb,dq s sz)::(Ls++((d,[aa g])::(c,[aa t])::L))):=H.perm (by
  have p1:(Ls++((d,[aa g])::(c,[aa t])::L)).Perm _:=B1.trans (Cp _ B1);refine(Cp _ p1).trans ?_;exact(Ea _ _ _).trans (Cp _ (Ea _ _ _)))
 refine Hy n h i j (c:=c) (d:=d) (t:=t) (g:=g) (by grind) Cf λs' a q o f=>au.go f λp f=>?_;have e:decide (((ls.countP (λl=>ml l t g):Nat):Int)>0)=ls.any λl=>ml l t g:=by
  rw[Hr,K1]
  simp_all
 rw[e];exact k s' a p o (f.sub (by grind))
theorem HA (H:aM D G w0 w ((tb,dq s sz)::(Ls++L))) (e:dx jP s ls Ls) (f:(ls.length:Int)<=64) (g:0<sz) (t:Int) {K:Int->A1->Prop}
 (k: ∀v s' a b,dx jP s' (ls.filter λl=> !(l.1==t)) a->aM D G w0 b ((tb,dq s' sz)::(a++L))->K v b):
 az AC 107 (.el (.one (.int .i64))) [ag (af tb),aa t] w K:=by
 refine az.go H λw1 H=>ai (AM (Hw _ _ w1 K) ?_);refine aN.go H λc b H=>?_;have h:=H.perm ((Cp _ B1).trans (Ea _ _ _));refine Hz h e f g (t:=t) (by grind) λs' a m i d=>au.go d λj d=>?_;exact k _ s' a j i (d.sub (by grind))
end
section
variable {D G:List Nat} {w0 w:A1} {L Ls:List (Nat×List AL)} {s:Option A2×Nat×Nat} {ls:List DH} {sz:Int} {tb:Nat}
def Ef (ls:List DH) (sz:Int) (l:DH):List DH:=
 (if ls.any (λx=>ml x l.1 l.2.1)=true then ls.filter (λx=> !ml x l.1 l.2.1) else if(ls.length:Int)=sz then ls.drop 1 else ls)++[l]
def yG (ls:List DH) (t p w:Int):Int×Int×Unit:=match ls.find? (λx=>ml x t p) with
 |none=>(0,4,())
 |some l=>if w<0\/w>7\/gL .i64 w l.2.2.2.1≠0 then(0,7,()) else(l.2.2.1,0,())
theorem Jo {x b:Nat×List AL} {Ls L:List (Nat×List AL)}:(x::(Ls++(b::L))).Perm (b::x::(Ls++L)):=
 (Cp _ B1).trans (Ea _ _ _)
theorem ZN {α:Type} (x y z:α) (A B:List α):(A++(x::y::z::B)).Perm (z::y::x::(A++B)):=by
 refine B1.trans ?_;refine(Cp x (B1.trans (Cp y B1))).trans ?_;refine(Cp x (Ea z y _)).trans ?_;exact(Ea z x _).trans (Cp z (Ea y x _))
theorem QD (H:aM D G w0 w ((tb,dq s sz)::(Ls++L))) (J:dx jP s ls Ls) (hl:(ls.length:Int)<=sz) (A:0<sz/\sz<=64) (l:DH) (M:lnR l=true) {K:Int->A1->Prop}
 (k: ∀s' B a,dx jP s' (Ef ls sz l) B->aM D G w0 a ((tb,dq s' sz)::(B++L))->K 0 a):
 az AC 159 (.el (.one (.int .i64))) [ag (af tb),lnV l] w K:=by
 obtain⟨t,g,f,r, _⟩:=l;refine az.go H λw1 H=>ai (C:=U0) (aR:=λ_=>[]) (AM (Qv _ t g f r w1 K) ?_);refine aN.go H λb a H=>⟨_,pM H (B4 _ Cf) A.1,an rfl (aj.at 0 H rfl (show _=some (t,g,f,r,()) from rfl) ⟨_,QC (t,g,f,r,()) a,?_⟩)⟩;rw[M];refine an rfl ⟨rfl,aj.cw 0 H rfl rfl ⟨rfl,aj.cw 0 H rfl rfl ?_⟩⟩;have d:aM D G w0 a ((tb,dq s sz)::(Ls++((b,[aa t,aa g,aa f,aa r])::L))):=H.perm Jo;refine Bu d J (by omega) A.1 t g λs1 Ls1 w3 j d=>?_;have N:=List.length_filter_le (λl=> !ml l t g) ls;have v: ∀{c:Option A2×Nat×Nat} {o:List DH} {e:List (Nat×List AL)} {h:A1},dx jP c o e->o.length<=ls.length->o++[(t,g,f,r,())]=Ef ls sz (t,g,f,r,())->aM D G w0 h ((tb,dq c sz)::(e++((b,[aa t,aa g,aa f,aa r])::L)))->
  ((some (⟨tb,0,none⟩:A2)).isSome=true/\(some (⟨tb,0,none⟩:A2)).isSome=true/\aj h none (ad (af tb) 0) (.one .slice) λx=>aj h none (af b) jP λp=>aN h ⟨[aa p.1,aa p.2.1,aa p.2.2.1,aa p.2.2.2.1]⟩ 96 λb a=> ∀w1,Ext a w1->
    mF w1 96 4 32 ⟨[aa 0,aa 0,aa 0,aa 0]⟩ (x.1,x.2.1,x.2.2) (some ⟨b,0,none⟩,1,1) λr a=>(some (⟨tb,0,none⟩:A2)).isSome=true/\(some (⟨tb,0,none⟩:A2)).isSome=true/\aC a (ad (af tb) 0) [.slice r.1 r.2.1 r.2.2] λa=>au a λw1=>K 0 w1):=by
  intro c o e h O ade P Q;have m:=Q.perm (L':=(b,[aa t,aa g,aa f,aa r])::(tb,dq c sz)::(e++L)) Jo.symm;refine⟨rfl,rfl,aj.cw 1 m rfl (show _=some (c.1,c.2.1,c.2.2) from rfl) (aj.at 0 m rfl (show _=some (t,g,f,r,()) from rfl) (aN.go m λy w5 m R S=>?_))⟩;have E:=m.ext S;have T:=E.get (i:=0) rfl;have U:aM D G w0 R (e++((tb,dq c sz)::(b,[aa t,aa g,aa f,aa r])::(y,[aa t,aa g,aa f,aa r])::L)):=E.perm (ZN _ _ _ _ _);refine aM.Uv U O rfl (q:=(some ⟨y,0,none⟩,1,1)) (ys:=[(t,g,f,r,())]) rfl ?_ rfl rfl (by simp only[List.length_singleton];omega) λV F w7 I W=>?_
  ·exact bK.oW (vs:=flat jP [(t,g,f,r,())]) T rfl λi hi=>by rw[CB];rfl
  ·rw[P] at I;have n:=W.perm (L':=(tb,dq c sz)::(F++((b,[aa t,aa g,aa f,aa r])::(y,[aa t,aa g,aa f,aa r])::L))) B1.symm;refine⟨rfl,rfl,aC.fS 0 n rfl rfl rfl λw8 n=>au.go n λX n=>k V F X I (n.sub ?_)⟩;exact Pp _ (List.Sublist.append_left (Rg _ (Rg _ (Pn _))) _)
 refine⟨λ_=>rfl,λ_=>rfl,aj.kN d Cf (show _=some (s1.1,s1.2.1,s1.2.2) from rfl) ⟨λ_=>rfl,λ_=>rfl,aj.kN d Cf (show _=some sz from rfl) ?_⟩⟩;dsimp only;have z:=j.1;cases u:ls.any (λl=>ml l t g) with
 |true=>
  refine an rfl (v j N ?_ d);unfold Ef;rw[av u]
 |false=>
  have Y:ls.filter (λl=> !ml l t g)=ls:=In.2 λx Z=>by
   have:=(List.any_eq_false.1 u) x Z;simpa using this
  rw[Y] at j z;by_cases hc:(ls.length:Int)=sz
  ·refine aA (by rw[z,hc];simp) ?_;have h0:0<ls.length:=by omega
   refine Jn d j (by omega) 0 h0 λc e h T4 H2=>v T4 (by rw[List.length_eraseIdx];split<;>omega) ?_ H2;unfold Ef;rw[ao (by rw[u];decide),av hc];cases ls with
   |nil=>exact absurd h0 (by simp)
   |cons x r=>rfl
  ·refine an (by rw[z];simpa using hc) (v j (DM _) ?_ d);unfold Ef;rw[ao (by rw[u];decide),ao hc]
theorem Vb (H:aM D G w0 w ((tb,dq s sz)::(Ls++L))) (h:dx jP s ls Ls) (M:(ls.length:Int)<=64) (r:0<sz) (t g k:Int):
 ae AC 201 [ag (af tb),aa t,aa g,aa k] w ((Sh.bu [.one (.int .i64),.one (.int .i64)]).gO (yG ls t g k)):=by
 refine ae.of (s:= .bu [.one (.int .i64),.one (.int .i64)]) λw1 h1=>ai (C:=U0) (aR:=uA) (AM (Qw _ t g k w1 _) ?_);have H:=H.ext h1;have u:=h.1;have v:=h.sl H (λy z=>B4 _ (CF _ z));refine⟨_,pM H Cf r,an rfl ⟨rfl,rfl,aj.cw 0 H rfl (show _=some (s.1,s.2.1,s.2.2) from rfl) ?_⟩⟩;refine⟨λn st d=> ∃j:Nat,j<=ls.length/\n=ls.length - j/\st.1=(j:Int)/\(ls.take j).find? (λx=>ml x t g)=none/\Ext w1 d,⟨ls.length,λd a=>⟨0,GH _,rfl,rfl,rfl,a⟩⟩,?_⟩;rintro n ⟨i, _⟩ d ⟨j,l,A,hi,e,a⟩;have hi:i=(j:Int):=hi;subst hi A;dsimp only;rw[u];refine ab (λc=>?_) (λc=>?_)
 ·have l:j<ls.length:=by have:=of_decide_eq_true c;omega
  obtain⟨x,f⟩: ∃x,ls[j]? =some x:=⟨_,DU l⟩;have m:=v j x f;have H0:aM [] [] w1 d []:=(At.start [] w1).ext a;refine⟨⟨m.1,by omega,by omega⟩,aj.of x (by rw[Du];exact pL a m.2) (aN.go H0 λb B H0=>aC.all 0 H0 rfl rfl rfl λE H0=>aj.at 0 H0 rfl (show _=some (x.1,x.2.1,x.2.2.1,x.2.2.2.1,()) from rfl) ⟨_,XF (x.1,x.2.1,x.2.2.1,x.2.2.2.1,()) t g E,?_⟩)⟩;have F:ml (x.1,x.2.1,x.2.2.1,x.2.2.2.1,()) t g=ml x t g:=rfl;rw[F];cases o:ml x t g with
  |false=>
   refine aA rfl λp I=>⟨ls.length - (j+1),by omega,j+1,by omega,rfl,?_,?_,(H0.ext I).all⟩
   ·rw[aw (by omega) (by omega)];omega
   ·rw[Gz,f,N7,e];rw[Option.none_or];show List.find? _ [x]=none;rw[N9,o];rfl
  |true=>
   have J:ls.find? (λx=>ml x t g)=some x:=by
    rw[<-Dn j ls,N7,e,jk f,N9,o];rfl
   have hv:yG ls t g k=if k<0\/k>7\/gL .i64 k x.2.2.2.1≠0 then(0,7,()) else(x.2.2.1,0,()):=by
    unfold yG;rw[J]
   rw[hv];refine an rfl ⟨λ_=>rfl,aj.cw 0 H0 rfl rfl ?_⟩;refine ab (λc=>au.go H0 λp H0=>⟨?_,H0.all⟩) (λc=>⟨rfl,aj.cw 0 H0 rfl rfl (au.go H0 λp H0=>⟨?_,H0.all⟩)⟩)
   ·simp only[Ee,decide_eq_true_eq,bne_iff_ne] at c;rw[av ?_];rcases c with (c|c)|c
    ·exact .inl c
    ·exact .inr (.inl c)
    ·exact .inr (.inr c)
   ·simp only[Ek,decide_eq_false_iff_not,bne_eq_false_iff_eq] at c;rw[ao ?_];rintro(q|q|q)
    ·exact c.1.1 q
    ·exact c.1.2 q
    ·exact q c.2
 ·have:j=ls.length:=by have:=of_decide_eq_false c;omega
  subst this;rw[J3] at e;intro B K;refine⟨?_,a.trans K⟩;unfold yG;rw[e]
theorem Ld (H:aM D G w0 w ((tb,dq s sz)::(Ls++L))) (c:dx jP s ls Ls) (m:(ls.length:Int)<=64) (e:0<sz) {K:Option A2×Nat×Nat->A1->Prop}
 (k: ∀r a b,dx jP r ls a->aM D G w0 b (a++((tb,dq s sz)::(Ls++L)))->K r b):
 az AC 83 (.el (.one .slice)) [ag (af tb)] w K:=by
 refine az.go H λw1 H=>ai (C:=U0) (aR:=λ_=>[]) (AM (KU _ w1 K) ?_);refine⟨_,pM H Cf e,an rfl ⟨rfl,rfl,aj.cw 0 H rfl (show _=some (s.1,s.2.1,s.2.2) from rfl) λb f=>?_⟩⟩;have d:=H.ext f;refine aM.Uv (Ls:=[]) d (dx.nil jP) rfl (q:=s) c.1 (c.oW d (λy g=>B4 _ (CF _ g))) rfl rfl (by simp only[N_];omega) λr a n h i=>au.go i λj l=>k _ a j h l
theorem Vc (H:aM D G w0 w L) (n:Int) {K:Option A2×Int×Unit->A1->Prop} (kb:n<1\/n>64-> ∀w1,aM D G w0 w1 L->K (none,1,()) w1)
 (e:1<=n->n<=64-> ∀b w1,aM D G w0 w1 ((b,dq (none,0,0) n)::L)->K (some ⟨b,0,none⟩,0,()) w1):
 az AC 86 (.bu [.one .ptr,.one (.int .i64)]) [aa n] w K:=by
 refine az.go H λw1 H=>ai (C:=U0) (aR:=λ_=>[]) (AM (UU n w1 K) ?_);refine ab (λc=>au.go H λa H=>kb (by simpa using c) a H) (λc=>aN.go H λb a H=>au.go H λf H=>?_);have d:1<=n/\n<=64:=by
  simp only[Ek,decide_eq_false_iff_not] at c;omega
 exact e d.1 d.2 b f H
end
def kI (v:AL):Int:=match v with
 | .int _ n=>n
 | _=>0
abbrev FZ (e:Int×Int):KV:=(e.1,aa e.2)
section
variable {D G:List Nat} {w0 w:A1} {L Ls:List (Nat×List AL)} {M M0:List (Nat×AY)} {es:List Az} {mb ck b:Nat}
theorem stM (H:cB D G w0 w (Ls++L) M) {e:El} {s:Option A2×Nat×Nat} {xs:List e.T} (b:dx e s xs Ls) {i:Nat} (hi:i<xs.length) (y:e.T) {vs:List AL} (hv:vs=cellsOf e y) (c:gY e=true) {K:A1->Prop}
 (k: ∀a w1,dx e s (xs.set i y) a->cB D G w0 w1 (a++L) M->K w1):aC w (ad s.1 (i*aF e)) vs K:=λw1 h1=>
 b.st (H.ext h1).base.again hi y hv c (λa d f g=>k a d f ((H.ext h1).join g)) w1 (Ext.refl w1)
theorem FV (H:cB D G w0 w (Ls++L) M) {e:El} {s:Option A2×Nat×Nat} {xs:List e.T} (b:dx e s xs Ls) (c:gY e=true) {q:Option A2×Nat×Nat} {ys:List e.T} (d:q.2.1=ys.length) (f:Go.RX.oW w q.1 (q.2.1*aF e) (flat e ys))
 {t:Eo} {size bytes:Nat} {z:Array AL} (g:size=aF e) (h:z.size=aF e) (hb:(xs.length+ys.length)*bytes<=140737488355328) {R:Option A2×Nat×Nat->A1->Prop}
 (k: ∀s' a w',dx e s' (xs++ys) a->cB D G w0 w' (a++L) M->R s' w'):mF w t size bytes z s q R:=
 aM.Uv H.base.again b c d f g h hb λs' a w' h1 i=>k s' a w' h1 (H.join i)
theorem sg {e:El} {a:Nat} {x:e.T} (h:bK w a (cellsOf e x)):Go.RX.oW w (af a) (1*aF e) (flat e [x]):=
 bK.oW (vs:=flat e [x]) h (by rw[aG];rfl) λi hi=>by rw[CB];show(cellsOf e x)[i]? =(cellsOf e x++[])[i]?;rw[Gq]
theorem QE {r:Option A2×Nat×Nat} {R:List Int} {x:Int} (H:cB D G w0 w (Ls++L) M) (hs:dx eI r (R++[x]) Ls) (T:R.Pairwise (· <= ·)) (hl:(R.length:Int)<4611686018427387904) {n0:Int} (hn:n0=R.length) {N:A1->Prop}
 (hN: ∀k E b,E.Pairwise (· <= ·)->E.Perm (x::R)->dx eI r E k->cB D G w0 b (k++L) M->N b):
 ∃I:Nat->Int×Unit->A1->Prop,(∃n, ∀w1,Ext w w1->I n (n0,()) w1)/\ ∀(U:Nat) (s:Int×Unit) (w1:A1),I U s w1->
  (decide (s.1>0)=true->r.1.isSome=true/\0<=aZ .i64 s.1 1/\aZ .i64 s.1 1<((r.2.1:Nat):Int))/\aj w1 (some (decide (s.1>0))) (ad r.1 ((aZ .i64 s.1 1).toNat*1)) eI λ(aL:Int)=>
   aI (decide (s.1>0)&&decide (aL>x)) ((r.1.isSome=true/\0<=aZ .i64 s.1 1/\aZ .i64 s.1 1<((r.2.1:Nat):Int))/\aj w1 none (ad r.1 ((aZ .i64 s.1 1).toNat*1)) eI λ(y:Int)=>
    (r.1.isSome=true/\0<=s.1/\s.1<((r.2.1:Nat):Int))/\aC w1 (ad r.1 (Ap s.1*1)) [aa y] λg=> ∀b,Ext g b-> ∃V,V<U/\I V (aZ .i64 s.1 1,()) b)
    ((r.1.isSome=true/\0<=s.1/\s.1<((r.2.1:Nat):Int))/\aC w1 (ad r.1 (Ap s.1*1)) [aa x] λg=> ∀b,Ext g b->N b):=by
 refine⟨λn st w'=> ∃(F:List (Nat×List AL)) (c:Int),n<=R.length/\st.1=(n:Int)/\dx eI r (R.take n++(c::R.drop n)) F/\(∀y∈R.drop n,x<y)/\cB D G w0 w' (F++L) M,⟨R.length,λw1 h1=>⟨Ls,x,DM _,hn,by rw[J3,H4];exact hs,λy e=>(by rw[H4] at e;cases e),H.ext h1⟩⟩,?_⟩;rintro n ⟨i, _⟩ w1 ⟨F,c,u,hi,l,W,v⟩;have hi:i=(n:Int):=hi;subst hi;dsimp only;have m:=l.1;have J:(R.take n++(c::R.drop n)).length=R.length+1:=by
  rw[CD,B3,Nz,FX,E5 u];omega
 rw[J] at m;have cn:(R.take n++(c::R.drop n))[n]? =some c:=by
  rw[IG (by rw[B3];omega),B3,E5 u,Ga];rfl
 have z:=(l.sl v.base (λy e=>CF _ e) n c cn).1;have X:decide ((n:Int)>0)=false\/(∃p,R[n - 1]? =some p/\p<=x)->((r.1.isSome=true/\0<=(n:Int)/\(n:Int)<((r.2.1:Nat):Int))/\aC w1 (ad r.1 (Ap (n:Int)*1)) [aa x] λg=> ∀b,Ext g b->N b):=λK=>by
  refine⟨⟨z,by omega,by rw[m];omega⟩,?_⟩;rw[Du];refine stM v l (i:=n) (by rw[J];omega) x rfl rfl λk g o O b P=>?_;have Q:(R.take n++(c::R.drop n)).set n x=R.take n++(x::R.drop n):=by
   rw[O2 _ _ (by rw[B3];omega),B3,E5 u,Ga];rfl
  rw[Q] at o;refine hN k _ b ?_ ?_ o (O.ext P)
  ·have A:=T;rw[<-Dn n R,OC] at A;refine OC.2 ⟨A.1,List.pairwise_cons.2 ⟨λy e=>Int.le_of_lt (W y e),A.2.1⟩,λa B d S=>?_⟩;rcases B2.1 S with rfl|S
   ·rcases K with K|⟨p,f,Y⟩
    ·have:n=0:=by have:=of_decide_eq_false K;omega
     subst this;rw[OG] at B;cases B
    ·obtain⟨j,t⟩:=GD B;have Oh:j<(R.take n).length:=(Be.1 t).1;rw[B3] at Oh;rw[OI (by omega)] at t;have T5:n - 1<R.length:=(Be.1 f).1;rcases Nat.lt_or_ge j (n - 1) with q|q
     ·have Z:=Be.1 t;have hpa:=Be.1 f;have:=List.pairwise_iff_getElem.1 T j (n - 1) Z.1 T5 q;rw[Z.2,hpa.2] at this;exact Int.le_trans this Y
     ·have:j=n - 1:=by omega
      subst this;rw[f] at t;cases t;exact Y
   ·exact A.2.2 a B d S
  ·exact B1.trans (Cp x (by rw[Dn]))
 cases n with
 |zero=>
  have C:decide (((0:Nat):Int)>0)=false:=by decide
  refine⟨λh=>(by rw[C] at h;cases h),0,λh=>(by rw[C] at h;cases h),an (by rw[C];rfl) (X (.inl C))⟩
 |succ j=>
  have o7:decide (((j+1:Nat):Int)>0)=true:=decide_eq_true (by omega);have Za:aZ .i64 ((j+1:Nat):Int) 1=(j:Int):=by rw[bE (by omega) (by omega)];omega
  obtain⟨p,f⟩: ∃p,R[j]? =some p:=⟨_,DU (by omega)⟩;have hcj:(R.take (j+1)++(c::R.drop (j+1)))[j]? =some p:=by
   rw[Gn (by rw[B3];omega),OI (by omega),f]
  have Ci:=(l.sl v.base (λy e=>CF _ e) j p hcj).2;rw[Za];refine⟨λ_=>⟨z,by omega,by rw[m];omega⟩,aj.of p (by rw[Du];exact Ci) ?_⟩;refine ab (λhc=>?_) (λhc=>X (.inr ⟨p,(show R[j+1 - 1]? =some p from f),?_⟩))
  ·rw[o7,Gd,decide_eq_true_eq] at hc;refine⟨⟨z,by omega,by rw[m];omega⟩,aj.of p (by rw[Du];exact Ci) ⟨⟨z,by omega,by rw[m];omega⟩,?_⟩⟩;rw[Du];refine stM v l (i:=j+1) (by rw[J];omega) p rfl rfl λk g o O b P=>⟨j,H7 j,k,p,by omega,rfl,?_,?_,O.ext P⟩
   ·have Q:(R.take (j+1)++(c::R.drop (j+1))).set (j+1) p=R.take j++(p::R.drop j):=by
     rw[O2 _ _ (by rw[B3];omega),B3,E5 u,Ga];rw[Gz,f,jk f,F5];rfl
    rw[Q] at o;exact o
   ·intro y e;rw[jk f] at e;rcases B2.1 e with rfl|e
    ·exact hc
    ·exact W y e
  ·rw[o7,Gd,decide_eq_false_iff_not] at hc;show p<=x;omega
theorem Bv {e:Az} {seen:Array Nat} {f:Az->Bool} (g:seen.contains e.born=false): ∀{es:List Az},(es.map (·.born)).Nodup->e∈es->
 (es.filter λx=>(seen.push e.born).contains x.born&&f x).Perm (if f e=true then e::es.filter (λx=>seen.contains x.born&&f x) else es.filter (λx=>seen.contains x.born&&f x))
 |[], _,h=>by cases h
 |y::es,a,hm=>by
  rw[Bx,B5] at a;have b: ∀z:Nat,(seen.push e.born).contains z=(seen.contains z||z==e.born):=λz=>by
   rw[Array.contains_push]
  rcases B2.1 hm with rfl|hm
  ·have j: ∀x∈es,(x.born==e.born)=false:=λx d=>by
    have:x.born≠e.born:=λc=>a.1 (by rw[<-c];exact AP.2 ⟨x,d,rfl⟩);simpa using this
   have k:es.filter (λx=>(seen.push e.born).contains x.born&&f x)=es.filter (λx=>seen.contains x.born&&f x):=List.filter_congr λx d=>by
    rw[b,j x d,Bool.or_false]
   rw[GG,GG,b,k,g];cases m:f e
   ·simp
   ·simp
  ·have i:=Bv g (f:=f) a.2 hm;have l:(y.born==e.born)=false:=by
    have:y.born≠e.born:=λc=>a.1 (by rw[c];exact AP.2 ⟨e,hm,rfl⟩);simpa using this
   rw[GG,GG,b,l,Bool.or_false];cases n:(seen.contains y.born&&f y)
   ·simpa using i
   ·simp only[if_true];refine(Cp y i).trans ?_;split
    ·exact Ea _ _ _
    ·exact List.Perm.refl _
end
end Go.Proofs.YtlcenllcmeebhaaGreat.Mu
namespace Go.Proofs.YtlcenllcmeebhaaGreat
set_option maxRecDepth 100000
open Go.RX
abbrev sG:List Sc:=[.int .i64,.int .i64,.int .i64,.bool,.int .i64]
abbrev eG:El:= .agg sG
abbrev GT:Type:=Int×Int×Int×Bool×Int×Unit
def zG:GT:=(0,0,0,false,0,())
def gG (n:Int):Bool:=decide (n>=1)&&decide (n<=16)
def mK (o p t:Int) (b:Bool) (u:Int):Bool:=decide (((o,p,t,b,u,()):GT)=zG)
noncomputable def G0:dJ AC:={C3 with v7:=false}
theorem Le (n:Int) (w:A1) (a:Bool->A1->Prop):(aK G0 (λ_=>[]) 225 [aa n] w a)=(
 au w (a (decide (n>=1)&&decide (n<=16)))):=by kernel_rfl
theorem QF (o p t:Int) (b:Bool) (u:Int) (w:A1) (a:Bool->A1->Prop):(aK G0 (λ_=>[]) 210 [.agg ⟨[aa o,aa p,aa t,.bool b,aa u]⟩] w a)=(
 aN w ⟨[aa o,aa p,aa t,.bool b,aa u]⟩ 255 λb c=>aj c none (af b) (.agg [.int .i64,.int .i64,.int .i64,.bool,.int .i64]) λ(x:Int×Int×Int×Bool×Int×Unit)=>au c λw1=>a (x.1==0&&(x.2.1==0&&(x.2.2.1==0&&(x.2.2.2.1==false&&(x.2.2.2.2.1==0&&true))))) w1):=by kernel_rfl
theorem Lg (n:Int) (w:A1):aE AC 225 (.el (.one .bool)) [aa n] w (λx w'=>x=gG n/\Ext w w'):=by
 refine ai (C:=G0) (aR:=λ_=>[]) (AM (Le n w _) ?_);have H:=At.start [] w
 repeat' (first
  |exact Go.RX.aM.all H
  |exact And.intro (by first|rfl|decide+kernel) (Go.RX.aM.all H)
  |refine And.intro (by first|exact rfl|exact trivial|exact λ_=>rfl|exact λ_=>trivial|exact⟨rfl,by decide,by decide⟩|exact⟨by decide,by decide⟩|decide+kernel|exact λ_=>by decide|exact λ_=>⟨rfl,by decide,by decide⟩|(dsimp only[Nz,N_];exact⟨rfl,by decide,by decide⟩)) ?_
  |refine aj.cw 0 H rfl rfl ?_
  |refine aj.cw 1 H rfl rfl ?_
  |refine aj.at 0 H rfl rfl ?_
  |refine aj.at 1 H rfl rfl ?_
  |refine aN.go H λb w1 H=>?_
  |refine aC.all 0 H rfl rfl rfl λw1 H=>?_
  |refine aC.all 1 H rfl rfl rfl λw1 H=>?_
  |refine aC.fS 0 H rfl rfl rfl λw1 H=>?_
  |refine aC.fS 1 H rfl rfl rfl λw1 H=>?_
  |refine aC.one 0 H rfl rfl rfl λw1 H=>?_
  |refine aC.one 1 H rfl rfl rfl λw1 H=>?_
  |with_reducible refine au.go H λw1 H=>?_
  |refine jJ ?_
  |refine aA (by assumption) ?_
  |refine an (by assumption) ?_
  |refine ab (λc=>?_) (λc=>?_))
theorem QG (o p t:Int) (b:Bool) (u:Int) (w:A1):aE AC 210 (.el (.one .bool)) [.agg ⟨[aa o,aa p,aa t,.bool b,aa u]⟩] w (λx w'=>x=mK o p t b u/\Ext w w'):=by
 refine ai (C:=G0) (aR:=λ_=>[]) (AM (QF o p t b u w _) ?_);have H:=At.start [] w;refine aN.go H λa c H=>aj.at 0 H rfl rfl (au.go H λd H=>⟨?_,H.all⟩);unfold mK zG;rw[Hr];simp
noncomputable def Vd:Entry AC where
 f:=225
 fn l:=match l with
  |[.int .i64 a]=>some (True,.bool (gG a))
  | _=>none
 ok args pre v h b w:=by
  split at h
  ·rename_i a;cases h;exact bV (Lg a w)
  ·cases h
noncomputable def ZO:Entry AC where
 f:=210
 fn l:=match l with
  |[.agg ⟨[.int .i64 o,.int .i64 p,.int .i64 t,.bool b,.int .i64 u]⟩]=>some (True,.bool (mK o p t b u))
  | _=>none
 ok args pre v h a w:=by
  split at h
  ·rename_i o p t b u;cases h;exact bV (QG o p t b u w)
  ·cases h
noncomputable def G3:dJ AC:={G0 with sW:=[Vd,ZO],quiet:=[224,221,226,209],sh:=[]}
theorem Lh (p:Option A2) (w:A1) (a:Bool->A1->Prop):(aK G3 (λ_=>[]) 224 [ag p] w a)=(
 ((!p.isNone)=true->p.isSome=true)/\((!p.isNone)=true->p.isSome=true)/\aj w (some !p.isNone) (ad p 0) eY λx=>au w λw1=>a (!p.isNone&&decide ((↑x.2.1:Int)>0)) w1):=by kernel_rfl
theorem ZP (p:Option A2) (i:Int) (w:A1) (b:Option A2×Int×Unit->A1->Prop):(aK G3 (λ_=>[]) 221 [ag p,aa i] w b)=(
 ∃x,ae AC 224 [ag p] w (.bool x)/\aI (!x) (au w (b (none,10,()))) (((!decide (i<0))=true->p.isSome=true)/\((!decide (i<0))=true->p.isSome=true)/\aj w (some !decide (i<0)) (ad p 0) eY λx=>((!(decide (i<0)||decide (i>=(↑x.2.1:Int))))=true->p.isSome=true)/\((!(decide (i<0)||decide (i>=(↑x.2.1:Int))))=true->p.isSome=true)/\aj w (some !(decide (i<0)||decide (i>=(↑x.2.1:Int)))) (ad p 0) eY λc=>((!(decide (i<0)||decide (i>=(↑x.2.1:Int))))=true->c.1.isSome=true/\0<=i/\i<
 (↑c.2.1:Int))/\aj w (some !(decide (i<0)||decide (i>=(↑x.2.1:Int)))) (ad c.1 (i.toNat*5)) (.agg [.int .i64,.int .i64,.int .i64,.bool,.int .i64]) λ(a:Int×Int×Int×Bool×Int×Unit)=>((!(decide (i<0)||decide (i>=(↑x.2.1:Int))))=true->True)/\aI (decide (i<0)||decide (i>=(↑x.2.1:Int))||mK a.1 a.2.1 a.2.2.1 a.2.2.2.1 a.2.2.2.2.1) (au w (b (none,4,()))) (fi p 0 w λx=>(x.1.isSome=true/\0<=i/\i<(↑x.2.1:Int))/\au w (b (ad x.1 (i.toNat*5),0,()))))):=by kernel_rfl
theorem QH (o q t:Int) (b:Bool) (u:Int) (c:Option A2) (w:A1) (d:Bool->A1->Prop):(aK G3 (λ_=>[]) 226 [.agg ⟨[aa o,aa q,aa t,.bool b,aa u]⟩,ag c] w d)=(
 aN w ⟨[aa o,aa q,aa t,.bool b,aa u]⟩ 255 λb a=>aj a none c (.agg [.int .i64,.int .i64,.int .i64,.bool,.int .i64]) λ(x:Int×Int×Int×Bool×Int×Unit)=>true=true/\aU a (ad (af b) 0) λe=>true=true/\aU a (ad (af b) 1) λf=>true=true/\aU a (ad (af b) 2) λg=>au a λw1=>d (x.1==e&&(x.2.1==f&&(x.2.2.1==g&&(x.2.2.2.1==false&&(x.2.2.2.2.1==0&&true))))) w1):=by kernel_rfl
theorem Li (o q t:Int) (b:Bool) (u:Int) (c:Option A2) (w:A1) (f:Bool->A1->Prop):(aK G3 (λ_=>[]) 209 [.agg ⟨[aa o,aa q,aa t,.bool b,aa u]⟩,ag c] w f)=(
 aN w ⟨[aa o,aa q,aa t,.bool b,aa u]⟩ 255 λb a=>aj a none (af b) (.agg [.int .i64,.int .i64,.int .i64,.bool,.int .i64]) λ(x:Int×Int×Int×Bool×Int×Unit)=>True/\((!mK x.1 x.2.1 x.2.2.1 x.2.2.2.1 x.2.2.2.2.1)=true->true=true)/\aj a (some !mK x.1 x.2.1 x.2.2.1 x.2.2.2.1 x.2.2.2.2.1) (ad (af b) 0) aS λ(d:Int)=>aj a (some !mK x.1 x.2.1 x.2.2.1 x.2.2.2.1 x.2.2.2.2.1) c aS λ(e:Int)=>((!mK x.1 x.2.1 x.2.2.1 x.2.2.2.1 x.2.2.2.2.1&& !d==e)=true->true=true)/\aj a (some (!mK x.1
 x.2.1 x.2.2.1 x.2.2.2.1 x.2.2.2.2.1&& !d==e)) (ad (af b) 2) aS λ(g:Int)=>aj a (some (!mK x.1 x.2.1 x.2.2.1 x.2.2.2.1 x.2.2.2.2.1&& !d==e)) c aS λ(h:Int)=>au a (f (!mK x.1 x.2.1 x.2.2.1 x.2.2.2.1 x.2.2.2.2.1&&(d==e||g==h)))):=by kernel_rfl
def rl:Nat->a6:=(λ|5=>[(5,Go.RX.El.one Go.RX.Sc.slice),(16,Go.RX.El.one (Go.RX.Sc.int Am))]| _=>[])
theorem Lj (p:Option A2) (w:A1) (e:Option A2×Nat×Nat->A1->Prop):(aK G3 rl 208 [ag p,.func (.func 210) #[] #[]] w e)=(
 ∃x,ae AC 224 [ag p] w (.bool x)/\aI (!x) (au w (e (none,0,0))) (fi p 0 w λx=> ∃(I:Nat->(Option A2×Nat×Nat)×Int×Unit->A1->Prop),(∃n, ∀w1,Ext w w1->I n ((none,0,0),0,()) w1)/\ ∀(n:Nat) (s:(Option A2×Nat×Nat)×Int×Unit) (w1:A1),I n s w1->aI (decide (s.2.1<(↑x.2.1:Int))) ((x.1.isSome=true/\0<=s.2.1/\s.2.1<(↑x.2.1:Int))/\aj w1 none (ad x.1 (Ap s.2.1*5)) (.agg [.int .i64,.int .i64,.int .i64,.bool,.int .i64]) λ(x:Int×Int×Int×Bool×Int×Unit)=>aN w1 ⟨[aa 0,
 aa 0,aa 0,.bool false,aa 0]⟩ 255 λb a=>aC a (af b) [aa x.1,aa x.2.1,aa x.2.2.1,.bool x.2.2.2.1,aa x.2.2.2.2.1] λa=>aj a none (af b) (.agg [.int .i64,.int .i64,.int .i64,.bool,.int .i64]) λ(x:Int×Int×Int×Bool×Int×Unit)=>True/\aI (mK x.1 x.2.1 x.2.2.1 x.2.2.2.1 x.2.2.2.2.1) (aN a ⟨[aa s.2.1]⟩ 3 λb a=> ∀w1,Ext a w1->mF w1 3 1 8 ⟨[aa 0]⟩ (s.1.1,s.1.2.1,s.1.2.2) (some ⟨b,0,none⟩,1,1) λ(r:Option A2×Nat×Nat) a=> ∀c,Ext a c-> ∃(d:Nat),d<n/\I d
 ((r.1,r.2.1,r.2.2),aH .i64 s.2.1 1,()) c) (∀c,Ext a c-> ∃(d:Nat),d<n/\I d ((s.1.1,s.1.2.1,s.1.2.2),aH .i64 s.2.1 1,()) c)) (au w1 (e (s.1.1,s.1.2.1,s.1.2.2))))):=by kernel_rfl
def rm:Nat->a6:=(λ|5=>[(5,Go.RX.El.one Go.RX.Sc.slice),(16,Go.RX.El.one (Go.RX.Sc.int Am))]| _=>[])
theorem Ll (p c:Option A2) (w:A1) (f:Option A2×Nat×Nat->A1->Prop):(aK G3 rm 208 [ag p,.func (.func 226) #[] #[ag c]] w f)=(
 ∃x,ae AC 224 [ag p] w (.bool x)/\aI (!x) (au w (f (none,0,0))) (fi p 0 w λx=> ∃(I:Nat->(Option A2×Nat×Nat)×Int×Unit->A1->Prop),(∃n, ∀w1,Ext w w1->I n ((none,0,0),0,()) w1)/\ ∀(n:Nat) (s:(Option A2×Nat×Nat)×Int×Unit) (w1:A1),I n s w1->aI (decide (s.2.1<(↑x.2.1:Int))) ((x.1.isSome=true/\0<=s.2.1/\s.2.1<(↑x.2.1:Int))/\aj w1 none (ad x.1 (Ap s.2.1*5)) (.agg [.int .i64,.int .i64,.int .i64,.bool,.int .i64]) λ(x:Int×Int×Int×Bool×Int×Unit)=>aN w1 ⟨[aa 0,
 aa 0,aa 0,.bool false,aa 0]⟩ 255 λb a=>aC a (af b) [aa x.1,aa x.2.1,aa x.2.2.1,.bool x.2.2.2.1,aa x.2.2.2.2.1] λa=>aj a none (af b) (.agg [.int .i64,.int .i64,.int .i64,.bool,.int .i64]) λ(x:Int×Int×Int×Bool×Int×Unit)=> ∃g,ae AC 226 [.agg ⟨[aa x.1,aa x.2.1,aa x.2.2.1,.bool x.2.2.2.1,aa x.2.2.2.2.1]⟩,ag c] a (.bool g)/\aI g (aN a ⟨[aa s.2.1]⟩ 3 λb a=> ∀w1,Ext a w1->mF w1 3 1 8 ⟨[aa 0]⟩ (s.1.1,s.1.2.1,s.1.2.2)
 (some ⟨b,0,none⟩,1,1) λ(r:Option A2×Nat×Nat) a=> ∀d,Ext a d-> ∃(e:Nat),e<n/\I e ((r.1,r.2.1,r.2.2),aH .i64 s.2.1 1,()) d) (∀d,Ext a d-> ∃(e:Nat),e<n/\I e ((s.1.1,s.1.2.1,s.1.2.2),aH .i64 s.2.1 1,()) d)) (au w1 (f (s.1.1,s.1.2.1,s.1.2.2))))):=by kernel_rfl
def rn:Nat->a6:=(λ|5=>[(5,Go.RX.El.one Go.RX.Sc.slice),(16,Go.RX.El.one (Go.RX.Sc.int Am))]| _=>[])
theorem Ln (p c:Option A2) (w:A1) (f:Option A2×Nat×Nat->A1->Prop):(aK G3 rn 208 [ag p,.func (.func 209) #[] #[ag c]] w f)=(
 ∃x,ae AC 224 [ag p] w (.bool x)/\aI (!x) (au w (f (none,0,0))) (fi p 0 w λx=> ∃(I:Nat->(Option A2×Nat×Nat)×Int×Unit->A1->Prop),(∃n, ∀w1,Ext w w1->I n ((none,0,0),0,()) w1)/\ ∀(n:Nat) (s:(Option A2×Nat×Nat)×Int×Unit) (w1:A1),I n s w1->aI (decide (s.2.1<(↑x.2.1:Int))) ((x.1.isSome=true/\0<=s.2.1/\s.2.1<(↑x.2.1:Int))/\aj w1 none (ad x.1 (Ap s.2.1*5)) (.agg [.int .i64,.int .i64,.int .i64,.bool,.int .i64]) λ(x:Int×Int×Int×Bool×Int×Unit)=>aN w1 ⟨[aa 0,
 aa 0,aa 0,.bool false,aa 0]⟩ 255 λb a=>aC a (af b) [aa x.1,aa x.2.1,aa x.2.2.1,.bool x.2.2.2.1,aa x.2.2.2.2.1] λa=>aj a none (af b) (.agg [.int .i64,.int .i64,.int .i64,.bool,.int .i64]) λ(x:Int×Int×Int×Bool×Int×Unit)=> ∃g,ae AC 209 [.agg ⟨[aa x.1,aa x.2.1,aa x.2.2.1,.bool x.2.2.2.1,aa x.2.2.2.2.1]⟩,ag c] a (.bool g)/\aI g (aN a ⟨[aa s.2.1]⟩ 3 λb a=> ∀w1,Ext a w1->mF w1 3 1 8 ⟨[aa 0]⟩ (s.1.1,s.1.2.1,s.1.2.2)
 (some ⟨b,0,none⟩,1,1) λ(r:Option A2×Nat×Nat) a=> ∀d,Ext a d-> ∃(e:Nat),e<n/\I e ((r.1,r.2.1,r.2.2),aH .i64 s.2.1 1,()) d) (∀d,Ext a d-> ∃(e:Nat),e<n/\I e ((s.1.1,s.1.2.1,s.1.2.2),aH .i64 s.2.1 1,()) d)) (au w1 (f (s.1.1,s.1.2.1,s.1.2.2))))):=by kernel_rfl
theorem Lu (p:Option A2) (o q t:Int) (b:Bool) (w:A1) (c:Int×Int×Unit->A1->Prop):(aK G3 (λ_=>[]) 180 [ag p,aa o,aa q,aa t,.bool b] w c)=(
 ∃x,ae AC 224 [ag p] w (.bool x)/\aI (!x) (au w (c (0,10,()))) (True/\((!!gG o)=true->True)/\aI (!gG o|| !gG t||o==t||decide (q<0)||decide (q>=65536)) (au w (c (0,1,()))) (aN w ⟨[aa 0,aa 0,aa 0,.bool false,aa 0]⟩ 255 λe a=>aC a (af e) [aa o,aa q,aa t,.bool false,aa 0] λa=>az AC 208 (.el eY) [ag p,.func (.func 226) ⟨[]⟩ {toList:=[ag (af e)]}] a λx a=>aI (decide ((↑x.2.1:Int)>0)) (au a (c (0,5,
 ()))) (az AC 208 (.el eY) [ag p,.func (.func 210) ⟨[]⟩ ⟨[]⟩] a λx a=>aI ((↑x.2.1:Int)==0) (au a (c (0,3,()))) (true=true/\aC a (ad (af e) 3) [.bool b] λa=>fi p 0 a λf=>(x.1.isSome=true/\(0:Int)<=0/\0<(↑x.2.1:Int))/\aU a (ad x.1 0) λg=>aj a none (af e) (.agg [.int .i64,.int .i64,.int .i64,.bool,.int .i64]) λ(d:Int×Int×Int×Bool×Int×Unit)=>(f.1.isSome=true/\0<=g/\g<(↑f.2.1:Int))/\aC a (ad f.1 (g.toNat*5)) [aa d.1,aa d.2.1,
 aa d.2.2.1,.bool d.2.2.2.1,aa d.2.2.2.2.1] λa=>(x.1.isSome=true/\(0:Int)<=0/\0<(↑x.2.1:Int))/\aU a (ad x.1 0) λx=>au a (c (x,0,()))))))):=by kernel_rfl
theorem ZQ (p:Option A2) (i:Int) (w:A1) (c:GT×Bool×Unit->A1->Prop):(bS G3 (λ_=>[]) 176 [ag p,aa i] w c)=(
 aN w ⟨[aa 0,aa 0,aa 0,.bool false,aa 0]⟩ 255 λb a=> ∃(x:Option A2×Int×Unit),ae AC 221 [ag p,aa i] a (.tuple ⟨[ag x.1,aa x.2.1]⟩)/\aI (x.2.1 != 0) (aC a (af b) [aa 0,aa 0,aa 0,.bool false,aa 0] λa=>au a λw1=>aj w1 none (af b) (.agg [.int .i64,.int .i64,.int .i64,.bool,.int .i64]) λ(x:Int×Int×Int×Bool×Int×Unit)=>c ((x.1,x.2.1,x.2.2.1,x.2.2.2.1,x.2.2.2.2.1,()),false,()) w1) (x.1.isSome=true/\aj a none x.1
 (.agg [.int .i64,.int .i64,.int .i64,.bool,.int .i64]) λ(x:Int×Int×Int×Bool×Int×Unit)=>aC a (af b) [aa x.1,aa x.2.1,aa x.2.2.1,.bool x.2.2.2.1,aa x.2.2.2.2.1] λa=>au a λw1=>aj w1 none (af b) (.agg [.int .i64,.int .i64,.int .i64,.bool,.int .i64]) λ(x:Int×Int×Int×Bool×Int×Unit)=>c ((x.1,x.2.1,x.2.2.1,x.2.2.2.1,x.2.2.2.2.1,()),true,()) w1)):=by kernel_rfl
theorem QI (p:Option A2) (i g:Int) (b:Bool) (w:A1) (a:Int->A1->Prop):(aK G3 (λ_=>[]) 181 [ag p,aa i,aa g,.bool b] w a)=(
 ∃(x:Option A2×Int×Unit),ae AC 221 [ag p,aa i] w (.tuple ⟨[ag x.1,aa x.2.1]⟩)/\aI (x.2.1 != 0) (au w (a x.2.1)) (cN x.1 2 w λc=>((!c != g&&b)=true->x.1.isSome=true)/\((!c != g&&b)=true->x.1.isSome=true)/\aj w (some (!c != g&&b)) (ad x.1 3) qO λd=>aI (c != g||b&& !d) (au w (a 7)) (cN x.1 4 w λe=>aI (e==1000) (au w (a 3)) (cN x.1 4 w λf=>x.1.isSome=true/\x.1.isSome=true/\aC w (ad x.1 4) [aa (aH .i64 f 1)] λh=>au h (a 0))))):=by kernel_rfl
theorem QJ (p:Option A2) (i g:Int) (w:A1) (a:Int->A1->Prop):(aK G3 (λ_=>[]) 182 [ag p,aa i,aa g] w a)=(
 ∃(x:Option A2×Int×Unit),ae AC 221 [ag p,aa i] w (.tuple ⟨[ag x.1,aa x.2.1]⟩)/\aI (x.2.1 != 0) (au w (a x.2.1)) (cN x.1 2 w λb=>aI (b != g) (au w (a 7)) (cN x.1 4 w λc=>aI (c==0) (au w (a 6)) (cN x.1 4 w λd=>x.1.isSome=true/\x.1.isSome=true/\aC w (ad x.1 4) [aa (aZ .i64 d 1)] λe=>au e (a 0))))):=by kernel_rfl
theorem HD (p:Option A2) (i o:Int) (w:A1) (a:Int->A1->Prop):(aK G3 (λ_=>[]) 184 [ag p,aa i,aa o] w a)=(
 ∃(x:Option A2×Int×Unit),ae AC 221 [ag p,aa i] w (.tuple ⟨[ag x.1,aa x.2.1]⟩)/\aI (x.2.1 != 0) (au w (a x.2.1)) (cN x.1 0 w λb=>aI (b != o) (au w (a 7)) (cN x.1 4 w λc=>aI (decide (c>0)) (au w (a 9)) (x.1.isSome=true/\aC w x.1 [aa 0,aa 0,aa 0,.bool false,aa 0] λd=>au d (a 0))))):=by kernel_rfl
def uD:Nat->a6:=(λ|3=>[(13,Go.RX.El.one (Go.RX.Sc.int Am))]| _=>[])
theorem QK (p:Option A2) (g:Int) (w:A1) (d:Int->A1->Prop):(aK G3 uD 169 [ag p,aa g] w d)=(
 aN w ⟨[aa g]⟩ 3 λb a=>az AC 208 (.el eY) [ag p,.func (.func 209) ⟨[]⟩ {toList:=[ag (af b)]}] a λx a=> ∃(I:Nat->Int×Unit->A1->Prop),(∃n, ∀w1,Ext a w1->I n (0,()) w1)/\ ∀(n:Nat) (s:Int×Unit) (w1:A1),I n s w1->aI (decide (s.1<(↑x.2.1:Int))) ((x.1.isSome=true/\0<=s.1/\s.1<(↑x.2.1:Int))/\aU w1 (ad x.1 (Ap s.1*1)) λx=>fi p 0 w1 λc=>(c.1.isSome=true/\0<=x/\x<(↑c.2.1:Int))/\aC w1 (ad c.1 (x.toNat*5)) [aa 0,aa 0,aa 0,.bool false,
 aa 0] λa=> ∀e,Ext a e-> ∃(f:Nat),f<n/\I f (aH .i64 s.1 1,()) e) (au w1 (d (↑x.2.1:Int)))):=by kernel_rfl
theorem Ve (n:Int) (w:A1) (a:Option A2×Int×Unit->A1->Prop):(aK G3 (λ_=>[]) 73 [aa n] w a)=(
 aI (decide (n<1)||decide (n>64)) (au w (a (none,1,()))) (N8 w 40 5 n n ⟨[aa 0,aa 0,aa 0,.bool false,aa 0]⟩ 255 λb c=>aN c {toList:=[.slice (af b) n.toNat n.toNat]} 215 λb c=>au c (a (some ⟨b,0,none⟩,0,())))):=by kernel_rfl
theorem Bw {lo sz:Int} (h:d_ lo sz=true):lo.toNat+sz.toNat<=64/\1<=sz.toNat:=by
 have:=iM.1 h;omega
theorem QL {w:BitVec 64} {lo sz:Int} (h:d_ lo sz=true):(fp w lo sz).toNat=w.toNat / 2 ^ lo.toNat % 2 ^ sz.toNat:=by
 have a:=Bw h;apply Ox;intro j;rw[GJ,UM h,Pv (by omega),KF,Nat.testBit_div_two_pow,GJ,Nat.add_comm j,Bool.and_comm]
theorem QM {w v:BitVec 64} {lo sz:Int} (h:d_ lo sz=true) (b:w.toNat<2 ^ lo.toNat):(tw w lo sz v).toNat=2 ^ lo.toNat*(v.toNat % 2 ^ sz.toNat)+w.toNat:=by
 have d:=Bw h;apply Ox;intro j;rw[GJ,UN h,Nat.testBit_two_pow_mul_add _ b];by_cases c:j<64
 ·rw[ZG (by omega) c];by_cases h1:j<lo.toNat
  ·rw[if_neg (by omega),if_pos h1,GJ]
  ·rw[if_neg h1,KF,GJ];by_cases e:j<lo.toNat+sz.toNat
   ·rw[if_pos (by omega)];have:j - lo.toNat<sz.toNat:=by omega
    simp[this]
   ·rw[if_neg (by omega)];have a: ¬ j - lo.toNat<sz.toNat:=by omega
    simp only[a,decide_false,Bool.false_and];rw[<-GJ];exact Nat.testBit_lt_two_pow (H6 b (Nat.pow_le_pow_right (by decide) (by omega)))
 ·rw[Pl _ _ (by omega),if_neg (by omega),KF];have a: ¬ j - lo.toNat<sz.toNat:=by omega
  simp[a]
theorem abw (b:BitVec 64):U b=(b.toNat:Int):=rfl
theorem DX {b:BitVec 64} {n:Nat} (h:b.toNat=n):U b=(n:Int):=by rw[abw,h]
def bB (b:Bool):BitVec 64:=if b then 1#64 else 0#64
def nB (b:Bool):Nat:=if b then 1 else 0
theorem Px (b:Bool):(bB b).toNat=nB b:=by cases b<;>rfl
theorem OU (b:Bool):nB b<=1:=by cases b<;>decide
theorem pN {w v:BitVec 64} {lo sz:Int} {a n:Nat} (c:d_ lo sz=true) (b:w.toNat=a) (d:a<2 ^ lo.toNat) (hv:v.toNat=n) (e:n<2 ^ sz.toNat):(tw w lo sz v).toNat=2 ^ lo.toNat*n+a:=by
 rw[QM c (by rw[b];exact d),hv,b,Og e]
theorem Lv {p l:Bool} {r f:BitVec 64} {x y:Nat} (a:r.toNat=x) (i:x<8) (b:f.toNat=y) (j:y<4096):
 (rb 0#64 0 [(bB p,1),(r,3),(bB l,1),(0#64,7),(f,12)]).toNat=nB p+2*x+16*nB l+4096*y:=by
 have k:=OU p;have m:=OU l;simp only[rb];rw[if_pos (by decide),if_pos (by decide),if_pos (by decide),if_pos (by decide),if_pos (by decide)];have c:=pN (w:=0#64) (lo:=0) (sz:=1) (by decide) (rfl:(0#64).toNat=0) (by decide) (Px p) (by show nB p<2;omega);have d:=pN (lo:=0+1) (sz:=3) (by decide) c (by show 1*nB p+0<2;omega) a (by show x<8;omega);have e:=pN (lo:=0+1+3) (sz:=1) (by decide) d (by show 2*x+(1*nB p+0)<16;omega) (Px l) (by show nB l<2;omega);have g:=pN (lo:=0+1+3+1) (sz:=7) (v:=0#64) (by decide) e (by show 16*nB l+(2*x+(1*nB p+0))<32;omega) (rfl:(0#64).toNat=0) (by decide);have h:=pN (lo:=0+1+3+1+7) (sz:=12) (by decide) g (by show 32*0+(16*nB l+(2*x+(1*nB p+0)))<4096;omega) b (by show y<4096;omega);rw[h];show 4096*y+(32*0+(16*nB l+(2*x+(1*nB p+0))))= _;omega
theorem HE (w:BitVec 64):my w 0 [1,3,1,7,12,40]=some [fp w 0 1,fp w 1 3,fp w 4 1,fp w 5 7,fp w 12 12,fp w 24 40]:=by
 simp only[my];rw[if_pos (by decide),if_pos (by decide),if_pos (by decide),if_pos (by decide),if_pos (by decide),if_pos (by decide)];rfl
theorem nQ {w:BitVec 64} {lo sz:Int} (a b:Nat) (h:d_ lo sz=true) (c:2 ^ lo.toNat=a) (hb:2 ^ sz.toNat=b):(fp w lo sz).toNat=w.toNat / a % b:=by
 rw[QL h,c,hb]
noncomputable def D0:dJ AC:={C3 with v7:=true}
theorem Vf (b:Bool) (w:A1) (a:Int->A1->Prop):(aK D0 (λ_=>[]) 249 [.bool b] w a)=(
 aI b (au w (a 1)) (au w (a 0))):=by kernel_rfl
theorem zl (p:Bool) (r:Int) (l:Bool) (f:Int) (w:A1) (d:Bool->A1->Prop):(aK D0 (λ_=>[]) 94 [.agg ⟨[.bool p,aa r,.bool l,aa f]⟩] w d)=(
 aN w ⟨[.bool p,aa r,.bool l,aa f]⟩ 130 λb a=>true=true/\tr a (ad (af b) 0) λx=>aI (!x) (aj a none (af b) kh λ(x:Bool×Int×Bool×Int×Unit)=>au a λw1=>d (x.1==false&&(x.2.1==0&&(x.2.2.1==false&&(x.2.2.2.1==0&&true)))) w1) (true=true/\aU a (ad (af b) 1) λx=>((!decide (x<0))=true->true=true)/\aj a (some !decide (x<0)) (ad (af b) 1) aS λ(c:Int)=>((!(decide (x<0)||decide (c>7)))=true->true=true)/\aj a (some !(decide (x<0)||decide (c>7))) (ad (af b) 3)
 aS λ(e:Int)=>((!(decide (x<0)||decide (c>7)||decide (e<0)))=true->true=true)/\aj a (some !(decide (x<0)||decide (c>7)||decide (e<0))) (ad (af b) 3) aS λ(g:Int)=>aI (decide (x<0)||decide (c>7)||decide (e<0)||decide (g>=4096)) (au a (d false)) (true=true/\aU a (ad (af b) 1) λx=>((!decide (x>0))=true->true=true)/\aj a (some !decide (x>0)) (ad (af b) 2) qO λh=>au a (d (decide (x>0)|| !h))))):=by kernel_rfl
theorem Vg (x:Int) (w:A1) (a:Int->A1->Prop):(aK D0 (λ_=>[]) 100 [aa x] w a)=(
 aI (decide (x<0)||decide (x>=4)) (au w (a 0)) (∀(b:Int),b=iB .i64 4 x->0<=b/\ ∀(x:Int),x=DP .i64 1 b->au w (a x))):=by kernel_rfl
theorem QN (x:Int) (w:A1) (a:Int->A1->Prop):(aK D0 (λ_=>[]) 103 [aa x] w a)=(
 aI (decide (x<0)||decide (x>3)) (au w (a 0)) (aN w ⟨[aa 1,aa 16,aa 256,aa 4096]⟩ 3 λb c=>(true=true/\0<=x/\x<(↑4:Int))/\aU c (ad (af b) (x.toNat*1)) λx=>au c (a x))):=by kernel_rfl
theorem CO {w:A1} {b:Nat} {p:Bool} {r:Int} {l:Bool} {f:Int} (h:bK w b [.bool p,aa r,.bool l,aa f]):
 cC w (ad (af b) 0) (.one .bool) p/\cC w (ad (af b) 1) (.one (.int .i64)) r/\cC w (ad (af b) 2) (.one .bool) l/\cC w (ad (af b) 3) (.one (.int .i64)) f/\
  cC w (af b) (.agg [.bool,.int .i64,.bool,.int .i64]) (p,r,l,f,()):=by
 refine⟨?_,?_,?_,?_,?_⟩
 ·rw[aW];exact h.oK rfl
 ·rw[aW];exact h.oK rfl
 ·rw[aW];exact h.oK rfl
 ·rw[aW];exact h.oK rfl
 ·exact h.rdA λi _=>by rw[CB];rfl
def bT (p:Bool) (r:Int) (l:Bool) (f:Int):Bool:=
 match p with
 |true=>decide (0<=r)&&decide (r<=7)&&decide (0<=f)&&decide (f<4096)&&(decide (r>0)|| !l)
 |false=>decide (r=0)&& !l&&decide (f=0)
theorem zm (p:Bool) (r:Int) (l:Bool) (f:Int) (w:A1):aE AC 94 (.el (.one .bool)) [.agg ⟨[.bool p,aa r,.bool l,aa f]⟩] w (λb w'=>b=bT p r l f/\Ext w w'):=by
 refine ai (C:=D0) (aR:=λ_=>[]) (AM (zl p r l f w _) ?_);intro w1 h1;obtain⟨i,g1,j,e,k⟩:=CO (bK.new w1 [.bool p,aa r,.bool l,aa f] 130);refine⟨rfl,p,i,ab (λh=>⟨_,k,λg a=>⟨?_,(h1.jc _).trans a⟩⟩) (λh=>⟨rfl,r,g1,λ_=>rfl,r,λ_=>g1,λ_=>rfl,f,λ_=>e,λ_=>rfl,f,λ_=>e,ab (λd=>λg a=>⟨?_,(h1.jc _).trans a⟩) (λd=>⟨rfl,r,g1,λ_=>rfl,l,λ_=>j,λg a=>⟨?_,(h1.jc _).trans a⟩⟩)⟩)⟩
 ·have c:p=false:=by simpa using h
  subst c;by_cases c1:r=0<;>by_cases c2:f=0<;>cases l<;>simp[bT,c1,c2]
 ·have c:p=true:=by simpa using h
  subst c;simp only[Ee,decide_eq_true_eq] at d;symm;simp only[bT,Hq,decide_eq_false_iff_not];omega
 ·have c:p=true:=by simpa using h
  subst c;simp only[Ek,decide_eq_false_iff_not] at d;have c1:0<=r:=by omega
  have c2:r<=7:=by omega
  have c3:0<=f:=by omega
  have c4:f<4096:=by omega
  simp[bT,c1,c2,c3,c4]
noncomputable def OV:Entry AC where
 f:=249
 fn l:=match l with
  |[.bool b]=>some (True,.int .u64 (U (bB b)))
  | _=>none
 ok args pre v h a w:=by
  split at h
  ·rename_i b;cases h;refine bV (x:=U (bB b)) (ai (C:=D0) (aR:=λ_=>[]) (AM (Vf b w _) ?_));exact ab (λhb w1 h1=>⟨by subst hb;rfl,h1⟩) (λhb w1 h1=>⟨by subst hb;rfl,h1⟩)
  ·cases h
noncomputable def vq:Entry AC where
 f:=94
 fn l:=match l with
  |[.agg ⟨[.bool p,.int .i64 r,.bool l,.int .i64 f]⟩]=>some (True,.bool (bT p r l f))
  | _=>none
 ok args pre v h a w:=by
  split at h
  ·rename_i p r l f;cases h;exact bV (zm p r l f w)
  ·cases h
def gP (x:Int):Int:=if x=0 then 1 else if x=1 then 16 else if x=2 then 256 else if x=3 then 4096 else 0
theorem Vh (x:Int) (w:A1):aE AC 100 (.el (.one (.int .i64))) [aa x] w (λb w'=>b=gP x/\Ext w w'):=by
 refine ai (C:=D0) (aR:=λ_=>[]) (AM (Vg x w _) ?_);refine ab (λh w1 h1=>⟨?_,h1⟩) (λh y a=>?_)
 ·simp only[Ee,decide_eq_true_eq] at h;unfold gP;rw[ao (by omega),ao (by omega),ao (by omega),ao (by omega)]
 ·simp only[Ek,decide_eq_false_iff_not] at h;rw[eK (by omega) (by omega)] at a;refine⟨by omega,λz c w1 h1=>⟨?_,h1⟩⟩;have:x=0\/x=1\/x=2\/x=3:=by omega
  rcases this with rfl|rfl|rfl|rfl<;>(subst a;rw[c];decide+kernel)
theorem QO (x:Int) (w:A1):aE AC 103 (.el (.one (.int .i64))) [aa x] w (λb w'=>b=gP x/\Ext w w'):=by
 refine ai (C:=D0) (aR:=λ_=>[]) (AM (QN x w _) ?_);refine ab (λh w1 h1=>⟨?_,h1⟩) (λh w1 h1=>?_)
 ·simp only[Ee,decide_eq_true_eq] at h;unfold gP;rw[ao (by omega),ao (by omega),ao (by omega),ao (by omega)]
 ·simp only[Ek,decide_eq_false_iff_not] at h;have sl:Sl (w1.alloc (.cells ⟨[aa 1,aa 16,aa 256,aa 4096]⟩ 3)) eI (af w1.heap.size) [1,16,256,4096]:=Sl.jI (bK.new w1 _ _) rfl;have c:x.toNat<4:=by omega
  have g:[(1:Int),16,256,4096][x.toNat]? =some (gP x):=by
   have:x=0\/x=1\/x=2\/x=3:=by omega
   rcases this with rfl|rfl|rfl|rfl<;>rfl
  exact⟨⟨rfl,by omega,by omega⟩, _,(sl _ _ g).2,λd a=>⟨rfl,(h1.jc _).trans a⟩⟩
noncomputable def OW:Entry AC where
 f:=100
 fn l:=match l with
  |[.int .i64 x]=>some (True,.int .i64 (gP x))
  | _=>none
 ok args pre v h a w:=by
  split at h
  ·rename_i x;cases h;exact bV (Vh x w)
  ·cases h
noncomputable def GU:Entry AC where
 f:=103
 fn l:=match l with
  |[.int .i64 x]=>some (True,.int .i64 (gP x))
  | _=>none
 ok args pre v h a w:=by
  split at h
  ·rename_i x;cases h;exact bV (QO x w)
  ·cases h
noncomputable def D1:dJ AC:={D0 with sW:=[tH,v8,Ge,Gf,OV,vq,OW,GU]}
theorem QP (p:Bool) (r:Int) (l:Bool) (f:Int) (w:A1) (e:Bool->A1->Prop):(aK D1 (λ_=>[]) 96 [.agg ⟨[.bool p,aa r,.bool l,aa f]⟩] w e)=(
 aN w ⟨[.bool p,aa r,.bool l,aa f]⟩ 130 λb a=>true=true/\tr a (ad (af b) 0) λx=>(x=true->true=true)/\aj a (some x) (ad (af b) 1) aS λ(d:Int)=>aj a (some (x&&d==0)) (af b) kh λ(c:Bool×Int×Bool×Int×Unit)=>((x&&d==0)=true->True)/\au a (e (x&&d==0&&bT c.1 c.2.1 c.2.2.1 c.2.2.2.1))):=by kernel_rfl
theorem Lx (p:Bool) (r:Int) (l:Bool) (f:Int) (t:Int) (w:A1) (d:Bool->A1->Prop):(aK D1 (λ_=>[]) 145 [.agg ⟨[.bool p,aa r,.bool l,aa f]⟩,aa t] w d)=(
 aN w ⟨[.bool p,aa r,.bool l,aa f]⟩ 130 λb a=>aj a none (af b) kh λ(x:Bool×Int×Bool×Int×Unit)=>True/\(bT x.1 x.2.1 x.2.2.1 x.2.2.2.1=true->true=true)/\aj a (some (bT x.1 x.2.1 x.2.2.1 x.2.2.2.1)) (ad (af b) 1) aS λ(c:Int)=>((bT x.1 x.2.1 x.2.2.1 x.2.2.2.1&&decide (c>0)&&decide (t>=0)&&decide (t<=7))=true->true=true)/\aj a (some (bT x.1 x.2.1 x.2.2.1 x.2.2.2.1&&decide (c>0)&&decide (t>=0)&&decide (t<=7))) (ad (af b) 1) aS λ(g:Int)=> ∀(e:Int),e=gL .i64 t
 g->au a (d (bT x.1 x.2.1 x.2.2.1 x.2.2.2.1&&decide (c>0)&&decide (t>=0)&&decide (t<=7)&&e==0))):=by kernel_rfl
theorem QQ (x y:Int) (w:A1) (b:Int->A1->Prop):(aK D1 (λ_=>[]) 87 [aa x,aa y] w b)=(
 ((!(decide (x<0)||decide (x>=65536)))=true->True)/\ ∀(c:Int),c=gP y->aI (decide (x<0)||decide (x>=65536)||c==0) (au w (b (-1))) (∀(a:Int),a=aD .u64 x-> ∀(x:Int),x=iB .i64 4 y->U (B a)=a/\ ∀(d:Int),d=U (fp (B a) x 4)-> ∀(x:Int),x=aD .i64 d->au w (b x))):=by kernel_rfl
theorem Ly (x y:Int) (w:A1) (a:Int->A1->Prop):(aK D1 (λ_=>[]) 63 [aa x,aa y] w a)=(
 ((!(decide (x<0)||decide (x>65535)))=true->True)/\ ∀(c:Int),c=gP y->aI (decide (x<0)||decide (x>65535)||c==0) (au w (a (-1))) (True/\ ∀(b:Int),b=gP y->b≠0/\ ∀(d:Int),d=tj .i64 x b-> ∀(x:Int),x=dX d 16->au w (a x))):=by kernel_rfl
theorem QR (p:Bool) (r:Int) (l:Bool) (f:Int) (w:A1) (c:Int×Int×Unit->A1->Prop):(aK D1 (λ_=>[]) 243 [.agg ⟨[.bool p,aa r,.bool l,aa f]⟩] w c)=(
 aN w ⟨[.bool p,aa r,.bool l,aa f]⟩ 130 λb a=>aj a none (af b) kh λ(x:Bool×Int×Bool×Int×Unit)=>True/\aI (!bT x.1 x.2.1 x.2.2.1 x.2.2.2.1) (au a (c (0,11,()))) (true=true/\tr a (ad (af b) 0) λx=>True/\ ∀(d:Int),d=U (bB x)->true=true/\aU a (ad (af b) 1) λx=> ∀(e:Int),e=aD .u64 x->true=true/\tr a (ad (af b) 2) λx=>True/\ ∀(g:Int),g=U (bB x)->true=true/\aU a (ad (af b) 3) λx=> ∀(h:Int),h=aD .u64 x->aN a {toList:=[ay d,
 aa 1,ay e,aa 3,ay g,aa 1,ay 0,aa 7,ay h,aa 12]} 304 λb a=>az AC 248 (.el qN) [.slice (af b) 5 5] a λ(x:Int) a=>au a (c (x,0,())))):=by kernel_rfl
theorem QS (v:Int) (w:A1) (e:(Bool×Int×Bool×Int×Unit)×Bool×Unit->A1->Prop):(bS D1 (λ_=>[]) 59 [ay v] w e)=(
 aN w ⟨[.bool false,aa 0,.bool false,aa 0]⟩ 130 λb a=>aN a ⟨[aa 1,aa 3,aa 1,aa 7,aa 12,aa 40]⟩ 3 λi a=>az AC 93 (.el eY) [ay v,.slice (af i) 6 6] a λx a=>(x.1.isSome=true/\(0:Int)<=0/\0<(↑x.2.1:Int))/\cM a (ad x.1 0) λj=>(x.1.isSome=true/\(0:Int)<=1/\1<(↑x.2.1:Int))/\cM a (ad x.1 1) λk=> ∀(g:Int),g=aD .i64 k->(x.1.isSome=true/\(0:Int)<=2/\2<(↑x.2.1:Int))/\cM a (ad x.1 2) λl=>(x.1.isSome=true/\(0:
 Int)<=4/\4<(↑x.2.1:Int))/\cM a (ad x.1 4) λm=> ∀(h:Int),h=aD .i64 m->aN a ⟨[.bool false,aa 0,.bool false,aa 0]⟩ 130 λf a=>aC a (af f) [.bool (j==1),aa g,.bool (l==1),aa h] λa=>(x.1.isSome=true/\(0:Int)<=3/\3<(↑x.2.1:Int))/\cM a (ad x.1 3) λc=>((!decide (c>0))=true->x.1.isSome=true/\(0:Int)<=5/\5<(↑x.2.1:Int))/\aj a (some !decide (c>0)) (ad x.1 5) qN λ(x:Int)=>aj a (some !(decide (c>0)||decide (x>0))) (af f) kh λ(d
 :Bool×Int×Bool×Int×Unit)=>((!(decide (c>0)||decide (x>0)))=true->True)/\aI (decide (c>0)||decide (x>0)|| !bT d.1 d.2.1 d.2.2.1 d.2.2.2.1) (aC a (af b) [.bool false,aa 0,.bool false,aa 0] λa=>au a λw1=>aj w1 none (af b) kh λ(x:Bool×Int×Bool×Int×Unit)=>e ((x.1,x.2.1,x.2.2.1,x.2.2.2.1,()),false,()) w1) (aj a none (af f) kh λ(x:Bool×Int×Bool×Int×Unit)=>aC a (af b) [.bool x.1,aa x.2.1,.bool x.2.2.1,aa x.2.2.2.1] λa=>au a λw1=>
 aj w1 none (af b) kh λ(x:Bool×Int×Bool×Int×Unit)=>e ((x.1,x.2.1,x.2.2.1,x.2.2.2.1,()),true,()) w1)):=by kernel_rfl
def fV (p:Bool) (r:Int) (l:Bool) (f:Int):Bool:=p&&r==0&&bT p r l f
def gM (p:Bool) (r:Int) (l:Bool) (f t:Int):Bool:=bT p r l f&&decide (r>0)&&decide (t>=0)&&decide (t<=7)&&gL .i64 t r==0
theorem QT (p:Bool) (r:Int) (l:Bool) (f:Int) (w:A1):aE AC 96 (.el (.one .bool)) [.agg ⟨[.bool p,aa r,.bool l,aa f]⟩] w (λb w'=>b=fV p r l f/\Ext w w'):=by
 refine ai (C:=D1) (AM (QP p r l f w _) ?_);intro w1 h1;obtain⟨a,g1,e,g,c⟩:=CO (bK.new w1 _ 130);exact⟨rfl,p,a,λ_=>rfl,r,λ_=>g1, _,λ_=>c,by simp,λh d=>⟨rfl,(h1.jc _).trans d⟩⟩
theorem zn {p:Bool} {r:Int} {l:Bool} {f:Int} (h:bT p r l f=true):0<=r/\r<=7/\0<=f/\f<4096/\(p=false->r=0/\l=false/\f=0):=by
 cases p
 ·grind[bT]
 ·simp[bT] at h
  grind
theorem Lz (p:Bool) (r:Int) (l:Bool) (f t:Int) (w:A1):aE AC 145 (.el (.one .bool)) [.agg ⟨[.bool p,aa r,.bool l,aa f]⟩,aa t] w (λb w'=>b=gM p r l f t/\Ext w w'):=by
 refine ai (AM (Lx p r l f t w _) ?_);intro w1 h1;obtain⟨e,g1,g,h,a⟩:=CO (bK.new w1 _ 130);exact⟨_,a,trivial,λ_=>rfl,r,λ_=>g1,λ_=>rfl,r,λ_=>g1,λx c i d=>⟨by rw[c];rfl,(h1.jc _).trans d⟩⟩
def fw (x y:Int):Int:=if 0<=x/\x<65536/\0<=y/\y<=3 then x / gP y % 16 else -1
theorem By {y:Int}:(gP y==0)= !(decide (0<=y)&&decide (y<=3)):=by
 grind[gP]
theorem Bz {x y:Int} (h: ¬ (0<=x/\x<65536/\0<=y/\y<=3)):fw x y= -1:=ao h
theorem BA {x:Int} (h: -9223372036854775808<=x) (h':x<9223372036854775808):aD .i64 x=x:=gz h h'
theorem BB {x:Int} (h:0<=x) (h':x<18446744073709551616):aD .u64 x=x:=by
 show OK.wrap x=x;rw[wrap_u64];omega
theorem qv {a b c:Int} (m:Nat) (h:0<=a/\a<65536) (d:2 ^ b.toNat=m) (e:d_ b 4=true) (f:c=U (fp (B a) b 4)):c=a / (m:Int) % 16:=by
 have g:(B a).toNat=a:=Cu (by omega) (by omega);rw[f,DX (nQ m 16 e d (by grind)),Int.natCast_emod,Int.natCast_ediv,g];rfl
theorem Fx {a y b c:Int} (d:0<=a/\a<65536) (g:0<=y/\y<=3) (eb:b=4*y) (f:c=U (fp (B a) b 4)):c=fw a y/\0<=c/\c<16:=by
 have e:c=fw a y:=by
  unfold fw;rw[av (by omega)];have:y=0\/y=1\/y=2\/y=3:=by omega
  rcases this with rfl|rfl|rfl|rfl
  ·exact qv 1 d (by grind) (by subst eb;decide) f
  ·exact qv 16 d (by grind) (by subst eb;decide) f
  ·exact qv 256 d (by grind) (by subst eb;decide) f
  ·exact qv 4096 d (by grind) (by subst eb;decide) f
 rw[e];unfold fw;omega
theorem QU (x y:Int) (w:A1):aE AC 87 (.el (.one (.int .i64))) [aa x,aa y] w (λb w'=>b=fw x y/\Ext w w'):=by
 refine ai (C:=D1) (AM (QQ x y w _) ?_);refine⟨λ_=>trivial,λs es=>?_⟩;subst es;rw[By];refine ab (λh w1 h1=>⟨?_,h1⟩) (λh a e b eb=>?_)
 ·simp only[Ee,decide_eq_true_eq,Kh,Hq,decide_eq_false_iff_not] at h;rw[Bz (by omega)]
 ·simp only[Ek,decide_eq_false_iff_not,Oy,Hb,decide_eq_true_eq] at h;rw[BB (by omega) (by omega)] at e;rw[eK (by omega) (by omega)] at eb;subst e;refine⟨Cu (by omega) (by omega),λc f d g w1 h1=>⟨?_,h1⟩⟩;obtain⟨i,j,k⟩:=Fx (y:=y) (by omega) (by omega) eb f;rw[g,BA (by omega) (by omega),i]
theorem LA (x y:Int) (w:A1):aE AC 63 (.el (.one (.int .i64))) [aa x,aa y] w (λb w'=>b=fw x y/\Ext w w'):=by
 refine ai (C:=D1) (AM (Ly x y w _) ?_);refine⟨λ_=>trivial,λs es=>?_⟩;subst es;rw[By];refine ab (λh w1 h1=>⟨?_,h1⟩) (λh=>⟨trivial,λs es=>?_⟩)
 ·simp only[Ee,decide_eq_true_eq,Kh,Hq,decide_eq_false_iff_not] at h;rw[Bz (by omega)]
 ·simp only[Ek,decide_eq_false_iff_not,Oy,Hb,decide_eq_true_eq] at h;have e:y=0\/y=1\/y=2\/y=3:=by omega
  have j:1<=s:=by rcases e with rfl|rfl|rfl|rfl<;>(rw[es];decide)
  refine⟨by omega,λc a d f w1 h1=>⟨?_,h1⟩⟩;have g:tj .i64 x s=x / s:=by
   unfold tj;rw[Int.tdiv_eq_ediv_of_nonneg (by omega)];have h1:0<=x / s:=OR (by omega) (by omega);have k:x / s<=x:=Int.ediv_le_self _ (by omega);exact gz (by omega) (by omega)
  have h1:0<=x / s:=OR (by omega) (by omega);rw[g] at a;have i:dX c 16=c % 16:=Int.tmod_eq_emod_of_nonneg (by omega);rw[f,i,a,es];unfold fw
  grind
def wc (p:Bool) (r:Int) (l:Bool) (f:Int):Int:=(nB p:Int)+2*r+16*(nB l:Int)+4096*f
def F1 (p:Bool) (r:Int) (l:Bool) (f:Int):Int:=if bT p r l f=true then wc p r l f else 0
def pkE (p:Bool) (r:Int) (l:Bool) (f:Int):Int:=if bT p r l f=true then 0 else 11
theorem IY {x:Int} (h:0<=x) (h':x<18446744073709551616):(B x).toNat=x.toNat:=by
 have:((B x).toNat:Int)=x:=Cu h h';omega
theorem HF {p:Bool} {r:Int} {l:Bool} {f:Int} (h:bT p r l f=true):U (rb 0#64 0 [(bB p,1),(B r,3),(bB l,1),(0#64,7),(B f,12)])=wc p r l f:=by
 have b:=zn h;rw[DX (Lv (IY (by omega) (by omega)) (by omega) (IY (by omega) (by omega)) (by omega))];unfold wc;omega
theorem QV (p:Bool) (r:Int) (l:Bool) (f:Int) (w:A1):aE AC 243 (.bu [eU,eI]) [.agg ⟨[.bool p,aa r,.bool l,aa f]⟩] w (λx w'=>x=(F1 p r l f,pkE p r l f,())/\Ext w w'):=by
 refine ai (C:=D1) (aR:=λ_=>[]) (AM (QR p r l f w _) ?_);intro w1 h1;obtain⟨m,g1,o,q,s⟩:=CO (bK.new w1 [.bool p,aa r,.bool l,aa f] 130);refine⟨_,s,trivial,ab (λh a d=>⟨?_,(h1.jc _).trans d⟩) (λh=>⟨rfl,p,m,trivial,λx1 t=>⟨rfl,r,g1,λe i=>⟨rfl,l,o,trivial,λF u=>⟨rfl,f,q,λg j a d v k=>?_⟩⟩⟩⟩)⟩
 ·have h':bT p r l f=false:=by simpa using h
  unfold F1 pkE;rw[h'];rfl
 ·have h':bT p r l f=true:=by simpa using h
  have b:=zn h';rw[BB (by omega) (by omega)] at i j;subst t;subst i;subst u;subst j;have y:U (B e)=e:=Cu (by omega) (by omega);have z:U (B g)=g:=Cu (by omega) (by omega);have sl:Sl v eP (af a.heap.size) (OB [(bB p,1),(B e,3),(bB l,1),(0#64,7),(B g,12)]):=Sl.jI ((bK.new a _ _).ext k) (by
   simp only[OB,Bx,List.map_nil,y,z];rfl)
  refine(US (n:=5) (c:=5) sl rfl (by decide)).mono ?_;rintro x G ⟨A,D⟩ H E;refine⟨?_,((((h1.jc _).trans d).jc _).trans k).trans (D.trans E)⟩;rw[A,HF h'];unfold F1 pkE;rw[av h',av h']
theorem GW {w:A1} {b:Nat} {l:List AL} (h:bK w b l) (vs:List AL) (a:vs.length=l.length):bK (jB w (af b) vs) b vs:=by
 have:=h.put (o:=0) vs (by omega);rw[CB,a,H4,Gq,OG,List.nil_append] at this;exact this
def uY (n:Nat):Bool:=decide (n / 32 % 128=0)&&decide (n / 16777216 % 1099511627776=0)&&bT (n % 2==1) ((n / 2 % 8:Nat):Int) (n / 16 % 2==1) ((n / 4096 % 4096:Nat):Int)
def IF (n:Nat):Bool:=uY n&&n % 2==1
def F2 (n:Nat):Int:=if uY n=true then((n / 2 % 8:Nat):Int) else 0
def Kp (n:Nat):Bool:=uY n&&n / 16 % 2==1
def FM (n:Nat):Int:=if uY n=true then((n / 4096 % 4096:Nat):Int) else 0
theorem ZR {w0 w:A1} {e:El} {s:Option A2×Nat×Nat} {xs:List e.T} (h:lR w0 w e s xs) {a:A2} (d:s.1=some a):a.block<w.heap.size:=by
 obtain⟨_, _,c⟩:=h;rcases c with ⟨c, _⟩|⟨b,l,c, _,f, _⟩
 ·rw[c] at d;cases d
 ·rw[c] at d;cases d;exact f.lt
theorem Jp (n:Nat):(((n:Nat):Int)==1)=(n==1):=by
 rw[Hr,beq_iff_eq,beq_iff_eq];omega
theorem Jq (n:Nat):decide (((n:Nat):Int)>0)= !decide (n=0):=by
 rw[Hr,decide_eq_true_eq,Kh,decide_eq_false_iff_not];omega
theorem QW (v:BitVec 64) (w:A1):aE AC 59 (.bu [.agg [.bool,.int .i64,.bool,.int .i64],.one .bool]) [ay (U v)] w
 (λx w'=>x=((IF v.toNat,F2 v.toNat,Kp v.toNat,FM v.toNat,()),uY v.toNat,())/\Ext w w'):=by
 refine aQ (C:=D1) (aR:=λ_=>[]) (AM (QS (U v) w _) ?_);intro w1 h1 l u r m;have dj:bK l w1.heap.size [Ar false,aa 0,Ar false,aa 0]:=(bK.new w1 _ _).ext u;have H:Ext w l:=(h1.jc _).trans u;have y:Ext w r:=(H.jc _).trans m;have sl:Sl r eI (af l.heap.size) [1,3,1,7,12,40]:=Sl.jI ((bK.new l _ _).ext m) rfl;refine(Qu (v:=v) (c:=6) sl rfl (by decide)).mono ?_;rintro⟨p,n,c⟩ X ⟨e,o⟩;rw[HE] at e;have ln:n=6:=by have:=e.len;simpa[Cv] using this
 subst ln
 let N:=v.toNat
 have I:U (fp v 0 1)=((N % 2:Nat):Int):=by rw[DX (nQ 1 2 (by decide) rfl rfl),Nat.div_one]
 have J:U (fp v 1 3)=((N / 2 % 8:Nat):Int):=DX (nQ 2 8 (by decide) rfl rfl);have K:U (fp v 4 1)=((N / 16 % 2:Nat):Int):=DX (nQ 16 2 (by decide) rfl rfl);have L:U (fp v 5 7)=((N / 32 % 128:Nat):Int):=DX (nQ 32 128 (by decide) rfl rfl);have M:U (fp v 12 12)=((N / 4096 % 4096:Nat):Int):=DX (nQ 4096 4096 (by decide) (by decide) (by decide));have O:U (fp v 24 40)=((N / 16777216 % 1099511627776:Nat):Int):=DX (nQ 16777216 1099511627776 (by decide) (by decide) (by decide));have P:Cv ((some [fp v 0 1,fp v 1 3,fp v 4 1,fp v 5 7,fp v 12 12,fp v 24 40]).getD [])=[((N % 2:Nat):Int),((N / 2 % 8:Nat):Int),((N / 16 % 2:Nat):Int),((N / 32 % 128:Nat):Int),((N / 4096 % 4096:Nat):Int),((N / 16777216 % 1099511627776:Nat):Int)]:=by
  show[U (fp v 0 1),U (fp v 1 3),U (fp v 4 1),U (fp v 5 7),U (fp v 12 12),U (fp v 24 40)]= _;rw[I,J,K,L,M,O]
 rw[P] at e;have Q:p.isSome=true:=(e.sl 0 _ rfl).1;have ix: ∀i:Int,0<=i->i<6->p.isSome=true/\0<=i/\i<((6:Nat):Int):=λi a b=>⟨Q,a,b⟩;refine⟨ix 0 (by decide) (by decide), _,(e.sl 0 _ rfl).2,ix 1 (by decide) (by decide), _,(e.sl 1 _ rfl).2,λY z=>⟨ix 2 (by decide) (by decide), _,(e.sl 2 _ rfl).2,ix 4 (by decide) (by decide), _,(e.sl 4 _ rfl).2,λZ A d f g q=>?_⟩⟩;rw[BA (by omega) (by omega)] at z A;rw[Jp,Jp];subst z;subst A;have bt:bK g d.heap.size [Ar false,aa 0,Ar false,aa 0]:=(bK.new d _ _).ext q;refine⟨⟨rfl,bt.st (by simp)⟩,?_⟩;have bp:=GW bt [Ar (N % 2==1),aa ((N / 2 % 8:Nat):Int),Ar (N / 16 % 2==1),aa ((N / 4096 % 4096:Nat):Int)] rfl;have B:lR r (jB g (af d.heap.size) [Ar (N % 2==1),aa ((N / 2 % 8:Nat):Int),Ar (N / 16 % 2==1),aa ((N / 4096 % 4096:Nat):Int)]) eU (p,6,c) _:=
  ((e.ext f).ext ((Ext.alloc _ _).trans q)).same λa R=>mV _ _ ⟨d.heap.size,0,none⟩ 0 _ (by
    have:=ZR e R;have:=f.size;show a.block≠d.heap.size;omega)
 have S:Ext w g:=(((y.trans o).trans f).jc _).trans q;have D:Ext w (jB g (af d.heap.size) [Ar (N % 2==1),aa ((N / 2 % 8:Nat):Int),Ar (N / 16 % 2==1),aa ((N / 4096 % 4096:Nat):Int)]):=S.jB (a:=⟨d.heap.size,0,none⟩) (((y.trans o).trans f).size) _;have E:cC (jB g (af d.heap.size) [Ar (N % 2==1),aa ((N / 2 % 8:Nat):Int),Ar (N / 16 % 2==1),aa ((N / 4096 % 4096:Nat):Int)]) (af d.heap.size) (.agg [.bool,.int .i64,.bool,.int .i64]) (N % 2==1,((N / 2 % 8:Nat):Int),N / 16 % 2==1,((N / 4096 % 4096:Nat):Int),()):=
  bp.rdA λi _=>by rw[CB];rfl
 have lt1:=dj.lt;have T:w1.heap.size≠d.heap.size:=by
  have a1:=m.size;have a2:=o.size;have a3:=f.size;rw[lG] at a1;omega
 have F:bK (jB g (af d.heap.size) [Ar (N % 2==1),aa ((N / 2 % 8:Nat):Int),Ar (N / 16 % 2==1),aa ((N / 4096 % 4096:Nat):Int)]) w1.heap.size [Ar false,aa 0,Ar false,aa 0]:=
  ((((((dj.ext (Ext.alloc _ _)).ext m).ext o).ext f).ext (Ext.alloc _ _)).ext q).XE (a:=⟨d.heap.size,0,none⟩) T _
 refine⟨ix 3 (by decide) (by decide), _,(B.sl 3 _ rfl).2,λ_=>ix 5 (by decide) (by decide), _,λ_=>(B.sl 5 _ rfl).2, _,λ_=>E,λ_=>trivial,?_⟩;rw[Jq,Jq];have G:uY N= !(!decide (N / 32 % 128=0)|| !decide (N / 16777216 % 1099511627776=0)|| !bT (N % 2==1) ((N / 2 % 8:Nat):Int) (N / 16 % 2==1) ((N / 4096 % 4096:Nat):Int)):=by
  unfold uY;cases decide (N / 32 % 128=0)<;>cases decide (N / 16777216 % 1099511627776=0)<;>cases bT (N % 2==1) ((N / 2 % 8:Nat):Int) (N / 16 % 2==1) ((N / 4096 % 4096:Nat):Int)<;>rfl
 refine ab (λhb V h=>?_) (λhb=>⟨_,E,λV h=>?_⟩)
 ·have s:uY N=false:=by rw[G,hb];rfl
  have j:=F.ext h;refine⟨⟨rfl,j.st (by simp)⟩,λW k=>⟨(false,0,false,0,()),?_,?_,?_⟩⟩
  ·have t:=(GW j [Ar false,aa 0,Ar false,aa 0] rfl).ext k;exact t.rdA λi _=>by rw[CB];rfl
  ·show _=((IF N,F2 N,Kp N,FM N,()),uY N,());unfold IF F2 Kp FM;rw[s];rfl
  ·exact((D.trans h).jB (a:=⟨w1.heap.size,0,none⟩) h1.size _).trans k
 ·have s:uY N=true:=by rw[G,hb];rfl
  have j:=F.ext h;refine⟨⟨rfl,j.st (by simp)⟩,λW k=>⟨(N % 2==1,((N / 2 % 8:Nat):Int),N / 16 % 2==1,((N / 4096 % 4096:Nat):Int),()),?_,?_,?_⟩⟩
  ·have t:=(GW j [Ar (N % 2==1),aa ((N / 2 % 8:Nat):Int),Ar (N / 16 % 2==1),aa ((N / 4096 % 4096:Nat):Int)] rfl).ext k;exact t.rdA λi _=>by rw[CB];rfl
  ·show _=((IF N,F2 N,Kp N,FM N,()),uY N,());unfold IF F2 Kp FM;rw[s,av rfl,av rfl,Gd,Gd]
  ·exact((D.trans h).jB (a:=⟨w1.heap.size,0,none⟩) h1.size _).trans k
noncomputable def Py:Entry AC where
 f:=96
 fn l:=match l with
  |[.agg ⟨[.bool p,.int .i64 r,.bool l,.int .i64 f]⟩]=>some (True,.bool (fV p r l f))
  | _=>none
 ok args pre v h a w:=by
  split at h
  ·rename_i p r l f;cases h;exact bV (QT p r l f w)
  ·cases h
noncomputable def Jr:Entry AC where
 f:=145
 fn l:=match l with
  |[.agg ⟨[.bool p,.int .i64 r,.bool l,.int .i64 f]⟩,.int .i64 t]=>some (True,.bool (gM p r l f t))
  | _=>none
 ok args pre v h a w:=by
  split at h
  ·rename_i p r l f t;cases h;exact bV (Lz p r l f t w)
  ·cases h
noncomputable def Pz:Entry AC where
 f:=87
 fn l:=match l with
  |[.int .i64 x,.int .i64 y]=>some (True,.int .i64 (fw x y))
  | _=>none
 ok args pre v h a w:=by
  split at h
  ·rename_i x y;cases h;exact bV (QU x y w)
  ·cases h
noncomputable def Js:Entry AC where
 f:=63
 fn l:=match l with
  |[.int .i64 x,.int .i64 y]=>some (True,.int .i64 (fw x y))
  | _=>none
 ok args pre v h a w:=by
  split at h
  ·rename_i x y;cases h;exact bV (LA x y w)
  ·cases h
noncomputable def XG:Entry AC where
 f:=243
 fn l:=match l with
  |[.agg ⟨[.bool p,.int .i64 r,.bool l,.int .i64 f]⟩]=>some (True,.tuple ⟨[.int .u64 (F1 p r l f),.int .i64 (pkE p r l f)]⟩)
  | _=>none
 ok args pre v h a w:=by
  split at h
  ·rename_i p r l f;cases h;exact bV (QV p r l f w)
  ·cases h
noncomputable def PA:Entry AC where
 f:=59
 fn l:=match l with
  |[.int .u64 v]=>some (U (B v)=v,.tuple ⟨[.agg ⟨[.bool (IF (B v).toNat),.int .i64 (F2 (B v).toNat),.bool (Kp (B v).toNat),.int .i64 (FM (B v).toNat)]⟩,.bool (uY (B v).toNat)]⟩)
  | _=>none
 ok args pre v h a w:=by
  split at h
  ·rename_i v;cases h;have:=bV (QW (B v) w);rw[a] at this;exact this
  ·cases h
noncomputable def D2:dJ AC:={D0 with sW:=[tH,v8,Ge,Gf,OV,vq,OW,GU,Py,Jr,Pz,Js,XG,PA]}
theorem OX (z x y:Int) (w:A1) (a:Int->A1->Prop):(aK D2 (λ_=>[]) 55 [aa z,aa x,aa y] w a)=(
 True/\ ∀(b:Int),b=fw x y->aI (decide (b<0)||decide (z<0)||decide (z>=4096)) (au w (a (-1))) (∀(x:Int),x=iB .i64 16 z-> ∀(c:Int),c=aH .i64 x b->au w (a c))):=by kernel_rfl
theorem ZS (z x y:Int) (w:A1) (a:Int->A1->Prop):(aK D2 (λ_=>[]) 27 [aa z,aa x,aa y] w a)=(
 True/\ ∀(b:Int),b=fw x y->aI (decide (b<0)||decide (z<0)||decide (z>4095)) (au w (a (-1))) (∀(x:Int),x=iB .i64 16 z-> ∀(c:Int),c=aH .i64 x b->au w (a c))):=by kernel_rfl
def dV (z x y:Int):Int:=if fw x y<0\/z<0\/z>=4096 then -1 else 16*z+fw x y
theorem EA (x y:Int): -1<=fw x y/\fw x y<16:=by
 unfold fw;split
 ·have h1:=Int.emod_nonneg (x / gP y) (show(16:Int)≠0 by decide);have a:=Int.emod_lt_of_pos (x / gP y) (show(0:Int)<16 by decide);omega
 ·omega
theorem Eh (z x y:Int) (w:A1):aE AC 55 (.el (.one (.int .i64))) [aa z,aa x,aa y] w (λb w'=>b=dV z x y/\Ext w w'):=by
 refine ai (C:=D2) (aR:=λ_=>[]) (AM (OX z x y w _) ⟨trivial,λs es=>?_⟩);have hb:=EA x y;subst es;refine ab (λh w1 h1=>⟨?_,h1⟩) (λh a c b eb w1 h1=>⟨?_,h1⟩)
 ·simp only[Ee,decide_eq_true_eq] at h;unfold dV;rw[av (by omega)]
 ·simp only[Ek,decide_eq_false_iff_not] at h;rw[eK (by omega) (by omega)] at c;rw[aw (by omega) (by omega)] at eb;unfold dV;rw[ao (by omega),eb,c]
theorem ZT (z x y:Int) (w:A1):aE AC 27 (.el (.one (.int .i64))) [aa z,aa x,aa y] w (λb w'=>b=dV z x y/\Ext w w'):=by
 refine ai (C:=D2) (aR:=λ_=>[]) (AM (ZS z x y w _) ⟨trivial,λs es=>?_⟩);have hb:=EA x y;subst es;refine ab (λh w1 h1=>⟨?_,h1⟩) (λh a c b eb w1 h1=>⟨?_,h1⟩)
 ·simp only[Ee,decide_eq_true_eq] at h;unfold dV;rw[av (by omega)]
 ·simp only[Ek,decide_eq_false_iff_not] at h;rw[eK (by omega) (by omega)] at c;rw[aw (by omega) (by omega)] at eb;unfold dV;rw[ao (by omega),eb,c]
noncomputable def eAt:Entry AC where
 f:=55
 fn l:=match l with
  |[.int .i64 z,.int .i64 x,.int .i64 y]=>some (True,.int .i64 (dV z x y))
  | _=>none
 ok args pre v h a w:=by
  split at h
  ·rename_i z x y;cases h;exact bV (Eh z x y w)
  ·cases h
noncomputable def acx:Entry AC where
 f:=27
 fn l:=match l with
  |[.int .i64 z,.int .i64 x,.int .i64 y]=>some (True,.int .i64 (dV z x y))
  | _=>none
 ok args pre v h a w:=by
  split at h
  ·rename_i z x y;cases h;exact bV (ZT z x y w)
  ·cases h
noncomputable def D3:dJ AC:={D0 with sW:=[tH,v8,Ge,Gf,OV,vq,OW,GU,Py,Jr,Pz,Js,XG,PA,eAt,acx]}
noncomputable def M0:dJ AC:={D3 with v7:=false,quiet:=[117,118]}
theorem Vi (p:Option A2) (w:A1) (a:Int->A1->Prop):(aK M0 (λ_=>[]) 117 [ag p] w a)=(
 aI p.isNone (au w (a 0)) (p.isSome=true/\p.isSome=true/\(ad p 0).isSome=true/\tq w (ad (ad p 0) 0) λx=>au w (a (↑x.2.1:Int)))):=by kernel_rfl
theorem ZU (p:Option A2) (n c:Nat) (i:Int) (w:A1) (d:Option A2->A1->Prop):(aK M0 (λ_=>[]) 118 [.agg ⟨[.slice p n c]⟩,aa i] w d)=(
 aN w ⟨[.slice p n c]⟩ 157 λb a=>((!decide (i<0))=true->true=true)/\aj a (some !decide (i<0)) (ad (af b) 0) eY λx=>aI (decide (i<0)||decide (i>=(↑x.2.1:Int))) (au a (d none)) (true=true/\tq a (ad (af b) 0) λx=>(x.1.isSome=true/\0<=i/\i<(↑x.2.1:Int))/\au a (d (ad x.1 (i.toNat*1))))):=by kernel_rfl
theorem QX (p:Option A2) (i:Int) (w:A1) (a:Option A2×Int×Unit->A1->Prop):(aK M0 (λ_=>[]) 71 [ag p,aa i] w a)=(
 ∃(x:Int),ae AC 117 [ag p] w (aa x)/\aI (x==0) (au w (a (none,10,()))) (p.isSome=true/\p.isSome=true/\aj w none (ad p 0) (.agg [.slice]) λx=> ∃(b:Option A2),ae AC 118 [.agg ⟨[.slice x.1.1 x.1.2.1 x.1.2.2]⟩,aa i] w (ag b)/\aI b.isNone (au w (a (none,2,()))) (cN p 1 w λx=>p.isSome=true/\p.isSome=true/\aC w (ad p 1) [aa (aH .i64 x 1)] λc=>au c (a (b,0,()))))):=by kernel_rfl
theorem EB (p:Option A2) (i:Int) (w:A1) (a:Int×Int×Unit->A1->Prop):(aK M0 (λ_=>[]) 37 [ag p,aa i] w a)=(
 az AC 71 (.bu [.one .ptr,.one (.int .i64)]) [ag p,aa i] w λ(x:Option A2×Int×Unit) b=>aI (x.2.1 != 0) (au b (a (0,x.2.1,()))) (x.1.isSome=true/\cM b x.1 λx=>au b (a (x,0,())))):=by kernel_rfl
theorem LB (p:Option A2) (i v:Int) (w:A1) (b:Int->A1->Prop):(aK M0 (λ_=>[]) 38 [ag p,aa i,ay v] w b)=(
 az AC 71 (.bu [.one .ptr,.one (.int .i64)]) [ag p,aa i] w λ(x:Option A2×Int×Unit) a=>aI (x.2.1==0) (x.1.isSome=true/\aC a x.1 [ay v] λa=>cN p 2 a λc=>p.isSome=true/\p.isSome=true/\aC a (ad p 2) [aa (aH .i64 c 1)] λa=>au a (b x.2.1)) (au a (b x.2.1))):=by kernel_rfl
theorem Vj (n:Int) (w:A1) (a:Option A2×Int×Unit->A1->Prop):(aK M0 (λ_=>[]) 33 [aa n] w a)=(
 aI (decide (n<1)||decide (n>65536)) (au w (a (none,1,()))) (N8 w 8 1 n n ⟨[ay 0]⟩ 29 λb c=>aN c {toList:=[.slice (af b) n.toNat n.toNat,aa 0,aa 0]} 159 λb c=>au c (a (some ⟨b,0,none⟩,0,())))):=by kernel_rfl
abbrev eW:El:= .one (.int .u64)
abbrev lZ (bw n c:Nat) (ca la:Int):List AL:=[.slice (af bw) n c,aa ca,aa la]
def uZ (ws:List Int) (i:Int):Bool:=decide (0<=i)&&decide (i<ws.length)
def dK (ws:List Int) (i:Int):Int:=if uZ ws i then ws.getD i.toNat 0 else 0
def Cm (ws:List Int) (i:Int):Int:=if uZ ws i then 0 else 2
def xx (ws:List Int) (i x:Int):Int:=if uZ ws i then aH .i64 x 1 else x
def cZ (ws:List Int) (i v:Int):List Int:=if uZ ws i then ws.set i.toNat v else ws
theorem jg {ws:List Int} {i:Int}:uZ ws i=true<->0<=i/\i<ws.length:=by unfold uZ;simp
theorem cG (ws:List Int) (i v:Int):(cZ ws i v).length=ws.length:=by unfold cZ;split<;>simp
theorem IZ: ∀ws:List Int,flat eW ws=ws.map (E4 .u64)
 |[]=>rfl
 |a::l=>by
  show[ay a]++flat eW l= _;rw[IZ l];rfl
section
variable {D G:List Nat} {w0 w:A1} {L:List (Nat×List AL)} {bm bw n c:Nat} {ca la:Int} {ws:List Int} {rest:List AL}
theorem aaN {i:Nat} (hi:i<ws.length):k9 (flat eW ws++rest) (0+i*1) eW=some (ws.getD i 0):=by
 have:(flat eW ws++rest)[0+i*1]? =some (ay (ws.getD i 0)):=by
  have a:(flat eW ws).length=ws.length*1:=aG eW ws;rw[CB,HB,Gn (by omega)];have e:=IZ ws;rw[e,FY,DU hi,IR,DU hi];rfl
 show(match (flat eW ws++rest)[0+i*1]? with|some v=>(Sc.int .u64).proj v|none=>none)= _;rw[this];rfl
theorem Jt (h:bK w bm (lZ bw n c ca la)):aE AC 117 (.el (.one (.int .i64))) [ag (af bm)] w (λx w'=>x=(n:Int)/\Ext w w'):=by
 refine ai (C:=M0) (aR:=λ_=>[]) (AM (Vi _ w _) ?_);refine an rfl ⟨rfl,rfl,rfl,aj.of (some ⟨bw,0,none⟩,n,c) (by rw[aW,aW];exact h.oK rfl) λw1 h1=>⟨rfl,h1⟩⟩
theorem ZV (p:Option A2) (a:n≠0->p.isSome=true) (i:Int) (w:A1):aE AC 118 (.el (.one .ptr)) [.agg ⟨[.slice p n c]⟩,aa i] w (λx w'=>x=(if 0<=i/\i<n then ad p i.toNat else none)/\Ext w w'):=by
 refine ai (C:=M0) (aR:=λ_=>[]) (AM (ZU p n c i w _) ?_);have H:=At.start [] w;refine aN.go H λb e H=>⟨λ_=>rfl,aj.cw 0 H rfl rfl (ab (λc1=>au.go H λd H=>⟨?_,H.all⟩) (λc1=>⟨rfl,aj.cw 0 H rfl rfl ?_⟩))⟩
 ·have: ¬ (0<=i/\i<n):=by simp at c1;omega
  rw[ao this]
 ·have hi:0<=i/\i<n:=by simp at c1;omega
  refine⟨⟨a (by omega),by omega,by show i<((n:Nat):Int);omega⟩,au.go H λd H=>⟨?_,H.all⟩⟩;rw[av hi,HB]
theorem zo (H:aM D G w0 w L) (j:Nat) (b:L[j]? =some (bm,lZ bw n c ca la)) (e:n=ws.length) (h0:0<n) (i:Int) {K:Option A2×Int×Unit->A1->Prop}
 (f:uZ ws i=true-> ∀a,aM D G w0 a (L.set j (bm,lZ bw n c (aH .i64 ca 1) la))->K (ad (af bw) i.toNat,0,()) a) (g:uZ ws i=false-> ∀a,aM D G w0 a L->K (none,2,()) a):
 az AC 71 (.bu [.one .ptr,.one (.int .i64)]) [ag (af bm),aa i] w K:=by
 refine az.go H λw1 H=>ai (C:=M0) (aR:=λ_=>[]) (AM (QX _ i w1 K) ?_);refine⟨_,ae.of (s:= .el (.one (.int .i64))) λw' h'=>Jt ((H.get b).ext h'),an (by simp;omega) ⟨rfl,rfl,aj.cw j H b rfl ⟨_,ae.of (s:= .el (.one .ptr)) λw' h'=>ZV (af bw) (λ_=>rfl) i w',?_⟩⟩⟩;subst e;cases hi:uZ ws i with
 |true=>
  have d:=jg.1 hi;rw[av d];refine an rfl ⟨rfl,rfl,aj.cw j H b rfl ⟨rfl,rfl,aC.fS j H b rfl rfl λa H=>au.go H λk H=>f hi k H⟩⟩
 |false=>
  have d: ¬ (0<=i/\i<(ws.length:Int)):=λh=>by rw[jg.2 h] at hi;cases hi
  rw[ao d];exact aA rfl (au.go H λa H=>g hi a H)
theorem EC (H:aM D G w0 w L) (j a:Nat) (d:L[j]? =some (bm,lZ bw n c ca la)) (g:L[a]? =some (bw,flat eW ws++rest)) (h:j≠a) (l:n=ws.length) (h0:0<n) (i:Int) {K:Int×Int×Unit->A1->Prop}
 (k: ∀b,aM D G w0 b (L.set j (bm,lZ bw n c (xx ws i ca) la))->K (dK ws i,Cm ws i,()) b):
 az AC 37 (.bu [.one (.int .u64),.one (.int .i64)]) [ag (af bm),aa i] w K:=by
 refine az.go H λw1 H=>ai (C:=M0) (aR:=λ_=>[]) (AM (EB _ i w1 K) ?_);refine zo H j d l h0 i (λhi b H=>?_) (λhi b H=>?_)
 ·unfold xx dK Cm at k;rw[hi,av rfl,av rfl,av rfl] at k;have o:(L.set j (bm,lZ bw n c (aH .i64 ca 1) la))[a]? =some (bw,flat eW ws++rest):=by rw[DZ h];exact g
  have p:=jg.1 hi;refine an rfl ⟨rfl,?_⟩;rw[aW];have e:=aaN (ws:=ws) (rest:=rest) (i:=i.toNat) (by omega);rw[HB] at e;exact aj.at a H o e (au.go H λf H=>k f H)
 ·unfold xx dK Cm at k;rw[hi,ao (by decide),ao (by decide),ao (by decide)] at k;refine aA rfl (au.go H λf H=>k f ?_);rw[show L.set j (bm,lZ bw n c ca la)=L from GF λm=>by
   by_cases e:j=m
   ·subst e;rw[FK (Be.1 d).1,d]
   ·rw[DZ e]]
  exact H
theorem aby {i:Nat} (hi:i<ws.length) (v:Int):(flat eW ws++rest).set i (ay v)=flat eW (ws.set i v)++rest:=by
 have h:=zk eW ws i v rest hi;have a:(cellsOf eW v)=[ay v]:=rfl;have b:aF eW=1:=rfl;rw[a,b,HB] at h;rw[<-h];have c:(flat eW ws).length=ws.length*1:=aG eW ws;rw[Kl,av (by rw[CD];omega)];rfl
theorem LC (H:aM D G w0 w L) (j a:Nat) (f:L[j]? =some (bm,lZ bw n c ca la)) (g:L[a]? =some (bw,flat eW ws++rest)) (b:j≠a) (p:n=ws.length) (h0:0<n) (i v:Int) {K:Int->A1->Prop}
 (k: ∀d,aM D G w0 d ((L.set j (bm,lZ bw n c (xx ws i ca) (xx ws i la))).set a (bw,flat eW (cZ ws i v)++rest))->K (Cm ws i) d):
 az AC 38 (.el (.one (.int .i64))) [ag (af bm),aa i,ay v] w K:=by
 refine az.go H λw1 H=>ai (C:=M0) (aR:=λ_=>[]) (AM (LB _ i v w1 K) ?_);have r:j<L.length:=(Be.1 f).1;have y:a<L.length:=(Be.1 g).1;refine zo H j f p h0 i (λhi d H=>?_) (λhi d H=>?_)
 ·unfold xx cZ Cm at k;rw[hi,av rfl,av rfl,av rfl,av rfl] at k;have s:(L.set j (bm,lZ bw n c (aH .i64 ca 1) la))[a]? =some (bw,flat eW ws++rest):=by rw[DZ b];exact g
  have z:=jg.1 hi;have t:i.toNat<ws.length:=by omega
  have A:(flat eW ws).length=ws.length*1:=aG eW ws;refine aA rfl ⟨rfl,aC.fS a H s rfl (by rw[Nat.blt_eq,CD];omega) λl H=>?_⟩;rw[CB,aby t] at H;have o:((L.set j (bm,lZ bw n c (aH .i64 ca 1) la)).set a (bw,flat eW (ws.set i.toNat v)++rest))[j]? =some (bm,lZ bw n c (aH .i64 ca 1) la):=by
   rw[DZ (λe=>b e.symm),FK r]
  refine⟨rfl,rfl,aj.cw j H o rfl ⟨rfl,rfl,aC.fS j H o rfl rfl λB H=>au.go H λu H=>k u ?_⟩⟩;rw[List.set_comm _ _ b,List.set_set] at H;rw[List.set_comm _ _ b];exact H
 ·unfold xx cZ Cm at k;rw[hi,ao (by decide),ao (by decide),ao (by decide),ao (by decide)] at k;refine an rfl (au.go H λl H=>k l ?_);have s1: ∀{m:Nat} {x:Nat×List AL},L[m]? =some x->L.set m x=L:=λ{m x} h=>GF λq=>by
   by_cases e:m=q
   ·subst e;rw[FK (Be.1 h).1,h]
   ·rw[DZ e]
  rw[s1 f,s1 g];exact H
theorem xY (H:aM D G w0 w L) (b:1<=n/\n<=65536) {K:Option A2×Int×Unit->A1->Prop}
 (k: ∀bm bw w1,aM D G w0 w1 ((bm,lZ bw n n 0 0)::(bw,flat eW (FS n 0)++[])::L)->K (some ⟨bm,0,none⟩,0,()) w1):
 az AC 33 (.bu [.one .ptr,.one (.int .i64)]) [aa (n:Int)] w K:=by
 refine az.go H λw1 H=>ai (C:=M0) (aR:=λ_=>[]) (AM (Vj _ w1 K) ?_);refine an (by rw[decide_eq_false (by omega),decide_eq_false (by omega)];rfl) (N8.go H rfl (by omega) (by omega) (by omega) (by omega) λbw c H=>aN.go H λbm d H=>au.go H λa H=>k bm bw a ?_);rw[lL,Gq];exact H
end
abbrev sR:List Sc:=[.int .u64,.bool,.int .i64]
abbrev RT:Type:=Int×Bool×Int×Unit
abbrev sA:List Sc:=[.int .i64,.int .i64,.int .u64,.int .u64]
abbrev sF:List Sc:=[.int .i64,.int .i64,.int .i64,.int .i64]
noncomputable def M1:dJ AC:={M0 with quiet:=[58,24]}
noncomputable def M2:dJ AC:={M1 with dyn:=some (.el (.agg sR))}
noncomputable def M3:dJ AC:={M1 with dyn:=some (.bu [])}
theorem QY (k i a b:Int) (m:Option A2) (w:A1) (d:RT->A1->Prop):(bS M1 (λ_=>[]) 89 [.agg ⟨[aa k,aa i,ay a,ay b]⟩,ag m] w d)=(
 aN w ⟨[aa k,aa i,ay a,ay b]⟩ 191 λb c=>aN c ⟨[ay 0,.bool false,aa 0]⟩ 124 λe c=>true=true/\aU c (ad (af b) 1) λx=>az AC 37 (.bu [.one (.int .u64),.one (.int .i64)]) [ag m,aa x] c λ(x:Int×Int×Unit) c=>aC c (af e) [ay x.1,.bool false,aa x.2.1] λc=>au c λw1=>aj w1 none (af e) (.agg [.int .u64,.bool,.int .i64]) λ(x:Int×Bool×Int×Unit)=>d (x.1,x.2.1,x.2.2.1,()) w1):=by kernel_rfl
abbrev ED (a:RT->A1->Prop) (b:A1) (c:Nat):Prop:=
 au b λw1=>aj w1 none (af c) (.agg [.int .u64,.bool,.int .i64]) λ(x:Int×Bool×Int×Unit)=>a (x.1,x.2.1,x.2.2.1,()) w1
theorem abz (m:Option A2) (k i a b:Int) (w:A1) (f:RT->A1->Prop):(bS M2 (λ_=>[]) 57 [ag m,.agg ⟨[aa k,aa i,ay a,ay b]⟩] w f)=(
 aN w ⟨[aa k,aa i,ay a,ay b]⟩ 127 λb c=>aN c ⟨[ay 0,.bool false,aa 0]⟩ 124 λe c=> ∀w1,Ext c w1-> ∀g,Ext (w1.alloc (Obj.map ⟨[]⟩ 0)) g-> ∃(r:Nat), ∃(es:Array Az), ∃(d:Nat),some w1.heap.size=some r/\bF g r es d/\gX g r .i64 1 (.func (.func 89) ⟨[]⟩ ⟨[]⟩) es d λc=> ∀h,Ext c h-> ∃(r:Nat), ∃(es:Array Az), ∃(d:Nat),some w1.heap.size=some r/\bF h r es d/\gX h r .i64 2 (.func (.func 90) ⟨[]⟩ ⟨[]⟩) es d λc=> ∀j,Ext c j->
 ∃(r:Nat), ∃(es:Array Az), ∃(d:Nat),some w1.heap.size=some r/\bF j r es d/\gX j r .i64 3 (.func (.func 91) ⟨[]⟩ ⟨[]⟩) es d λc=> ∀l,Ext c l-> ∃(r:Nat), ∃(es:Array Az), ∃(d:Nat),some w1.heap.size=some r/\bF l r es d/\gX l r .i64 4 (.func (.func 92) ⟨[]⟩ ⟨[]⟩) es d λc=>true=true/\aU c (ad (af b) 0) λx=> ∃(n:AL), ∃(o:Bool),mr c (some w1.heap.size) .i64 x Oe n o/\aI (!o) (aC c (af e) [ay 0,.bool false,aa 1] λc=>ED
 f c e) (aj c none (af b) (.agg [.int .i64,.int .i64,.int .u64,.int .u64]) λ(x:Int×Int×Int×Int×Unit)=>Ak AC n (.el (.agg [.int .u64,.bool,.int .i64])) [.agg ⟨[aa x.1,aa x.2.1,ay x.2.2.1,ay x.2.2.2.1]⟩,ag m] c λ(x:Int×Bool×Int×Unit) c=>aC c (af e) [ay x.1,.bool x.2.1,aa x.2.2.1] λc=>ED f c e)):=by kernel_rfl
theorem Vk (f p t:Int) (w:A1) (a:Option A2->A1->Prop):(aK M1 (λ_=>[]) 20 [aa f,aa p,aa t] w a)=(
 aN w {toList:=[aa f,aa p,aa t,aa 3,aa 0,aa 0,aa 0,aa 0,.slice none 0 0,.bool true]} 117 λb c=>True/\aI (decide (dV f p (3:Int)<0)||decide (t<0)||decide (t>7)) (au c (a none)) (au c (a (af b)))):=by kernel_rfl
abbrev wL (a:Int×Int×Int×Int×Unit->A1->Prop) (b:A1) (c:Nat):Prop:=
 au b λw1=>aj w1 none (af c) (.agg [.int .i64,.int .i64,.int .u64,.int .u64]) λ(x:Int×Int×Int×Int×Unit)=>a (x.1,x.2.1,x.2.2.1,x.2.2.2.1,()) w1
theorem QZ (p:Option A2) (w:A1) (c:(Int×Int×Int×Int×Unit)->A1->Prop):(bS M1 (λ_=>[]) 58 [ag p] w c)=(
 aN w ⟨[aa 0,aa 0,ay 0,ay 0]⟩ 127 λb a=>((!p.isNone)=true->p.isSome=true)/\((!p.isNone)=true->p.isSome=true)/\aj a (some !p.isNone) (ad p 9) qO λx=>((!(p.isNone|| !x))=true->p.isSome=true)/\((!(p.isNone|| !x))=true->p.isSome=true)/\aj a (some !(p.isNone|| !x)) (ad p 3) aS λ(d:Int)=>aI (p.isNone|| !x||d== -1) (aC a (af b) [aa 0,aa 0,ay 0,ay 0] λa=>wL c a b) (cN p 0 a λx=>cN p 1 a λe=>cN p 3 a λf=>True/\aC a (af b)
 [aa 1,aa (dV x e f),ay 0,ay 0] λa=>wL c a b)):=by kernel_rfl
theorem Vl (p:Option A2) (a b c d:Int) (w:A1) (f:Unit->A1->Prop):(aK M1 (λ_=>[]) 60 [ag p,.agg ⟨[aa a,aa b,aa c,aa d]⟩] w f)=(
 aN w ⟨[aa a,aa b,aa c,aa d]⟩ 48 λb e=>cN p 3 e λx=>true=true/\aC e (ad (af b) 2) [aa x] λe=>aj e none (af b) dR λ(x:Int×Int×Int×Int×Unit)=>p.isSome=true/\p.isSome=true/\aC e (ad p 4) [aa x.1,aa x.2.1,aa x.2.2.1,aa x.2.2.2.1] λe=>p.isSome=true/\p.isSome=true/\aC e (ad p 3) [aa (-1)] λe=>au e (f ())):=by kernel_rfl
theorem ZW (p:Option A2) (fr:Int) (ep:Bool) (er:Int) (el:Bool) (ef:Int) (w:A1) (c:Unit->A1->Prop):(aK M1 (λ_=>[]) 99 [ag p,aa fr,.agg ⟨[.bool ep,aa er,.bool el,aa ef]⟩] w c)=(
 aN w ⟨[.bool ep,aa er,.bool el,aa ef]⟩ 130 λb a=>aI (decide (fr>=4096)) (az AC 60 (.bu []) [ag p,.agg ⟨[aa 0,aa 0,aa 0,aa 11]⟩] a λx a=>au a (c ())) (aj a none (af b) kh λ(x:Bool×Int×Bool×Int×Unit)=>cN p 2 a λd=>True/\aI (!gM x.1 x.2.1 x.2.2.1 x.2.2.2.1 d) (true=true/\aU a (ad (af b) 1) λx=>az AC 60 (.bu []) [ag p,.agg ⟨[aa fr,aa x,aa 0,aa 7]⟩] a λx a=>au a (c ())) (true=true/\aU
 a (ad (af b) 1) λx=>az AC 60 (.bu []) [ag p,.agg ⟨[aa fr,aa x,aa 0,aa 0]⟩] a λx a=>au a (c ())))):=by kernel_rfl
theorem Q0 (a:Option A2) (w:A1) (b:Unit->A1->Prop):(aK M1 (λ_=>[]) 95 [ag a] w b)=(
 gi w a λx=>az AC 60 (.bu []) [ag x,.agg ⟨[aa 0,aa 0,aa 0,aa 4]⟩] w λx c=>au c (b ())):=by kernel_rfl
theorem Q1 (d a:Option A2) (w:A1) (e:Unit->A1->Prop):(aK M1 (λ_=>[]) 97 [ag d,ag a] w e)=(
 gi w a λx=>gi w a λb=>d.isSome=true/\aU w (ad d 3) λf=>gi w a λg=>cN g 3 w λh=>x.isSome=true/\x.isSome=true/\aC w (ad x 0) [aa f] λc=>True/\cC c a kM b/\b.isSome=true/\b.isSome=true/\aC c (ad b 3) [aa (aZ .i64 h 1)] λc=>au c (e ())):=by kernel_rfl
theorem Q2 (c a:Option A2) (w:A1) (Post:Unit->A1->Prop):(aK M1 (λ_=>[]) 98 [ag c,ag a] w Post)=(
 aj w none c (.one .ptr) λx=>a.isSome=true/\aj w none (ad a 3) (.one (.int .i64)) λ(e:Int)=>aj w none c (.one .ptr) λd=>d.isSome=true/\d.isSome=true/\aj w none (ad d 1) (.one (.int .i64)) λ(f:Int)=>True/\gP 1≠0/\aj w none a (.agg [.bool,.int .i64,.bool,.int .i64]) λ(b:Bool×Int×Bool×Int×Unit)=>az AC 99 (.bu []) [ag x,aa (aH .i64 e (dX f (gP 1))),.agg ⟨[.bool b.1,aa b.2.1,.bool b.2.2.1,aa b.2.2.2.1]⟩] w λx g=>au g λw1=>Post () w1)
 :=by kernel_rfl
theorem Q3 (c a:Option A2) (w:A1) (d:Unit->A1->Prop):(aK M1 (λ_=>[]) 101 [ag c,ag a] w d)=(
 gi w c λx=>a.isSome=true/\aU w (ad a 3) λe=>aj w none a kh λ(b:Bool×Int×Bool×Int×Unit)=>az AC 99 (.bu []) [ag x,aa e,.agg ⟨[.bool b.1,aa b.2.1,.bool b.2.2.1,aa b.2.2.2.1]⟩] w λx f=>au f (d ())):=by kernel_rfl
theorem Q4 (a:Option A2) (w:A1) (b:Unit->A1->Prop):(aK M1 (λ_=>[]) 102 [ag a] w b)=(
 gi w a λx=>az AC 60 (.bu []) [ag x,.agg ⟨[aa 0,aa 0,aa 0,aa 11]⟩] w λx c=>au c (b ())):=by kernel_rfl
def wM:Nat->a6:=(λ|3=>[(56,Go.RX.El.one (Go.RX.Sc.int Am))]| _=>[])
theorem Vm (p:Option A2) (ep:Bool) (er:Int) (el:Bool) (ef:Int) (w:A1) (h:Unit->A1->Prop):(aK M3 wM 61 [ag p,.agg ⟨[.bool ep,aa er,.bool el,aa ef]⟩] w h)=(
 aN w ⟨[ag p]⟩ 40 λb a=>aN a ⟨[.bool ep,aa er,.bool el,aa ef]⟩ 130 λd a=>true=true/\tr a (ad (af d) 0) λx=>aj a none (af d) kh λ(c:Bool×Int×Bool×Int×Unit)=>True/\aj a (some (fV c.1 c.2.1 c.2.2.1 c.2.2.2.1)) (af b) kM λi=>(fV c.1 c.2.1 c.2.2.1 c.2.2.2.1=true->i.isSome=true)/\(fV c.1 c.2.1 c.2.2.1 c.2.2.2.1=true->i.isSome=true)/\aj a (some (fV c.1 c.2.1 c.2.2.1 c.2.2.2.1)) (ad i 3) aS λ(o:Int)=>true=true/\tr a (ad
 (af d) 2) λf=>aj a (some f) (af b) kM λj=>(f=true->j.isSome=true)/\(f=true->j.isSome=true)/\aj a (some f) (ad j 3) aS λ(q:Int)=>true=true/\tr a (ad (af d) 2) λe=>((!e)=true->true=true)/\aj a (some !e) (ad (af d) 1) aS λ(g:Int)=>aj a (some (!e&&decide (g>0))) (af b) kM λk=>((!e&&decide (g>0))=true->k.isSome=true)/\((!e&&decide (g>0))=true->k.isSome=true)/\aj a (some (!e&&decide (g>0))) (ad k 3) aS λ(r:Int)=>
 aN a {toList:=[.bool !x,.func (.func 95) ⟨[]⟩ {toList:=[ag (af b)]},.bool (fV c.1 c.2.1 c.2.2.1 c.2.2.2.1&&decide (o>0)),.func (.func 97) ⟨[]⟩ {toList:=[ag (af d),ag (af b)]},.bool (f&&q==1),.func (.func 98) ⟨[]⟩ {toList:=[ag (af b),ag (af d)]},.bool (!e&&decide (g>0)&&r==0),.func (.func 101) ⟨[]⟩ {toList:=[ag (af b),ag (af d)]},.bool true,.func (.func 102) ⟨[]⟩ {toList:=[ag (af b)]}]} 197 λb a=> ∃(I:Nat->Int×Unit->A1->Prop),(∃n, ∀w1,
 Ext a w1->I n (0,()) w1)/\ ∀(n:Nat) (s:Int×Unit) (w1:A1),I n s w1->aI (decide (s.1<(↑5:Int))) ((true=true/\0<=s.1/\s.1<(↑5:Int))/\aj w1 none (ad (af b) (Ap s.1*2)) (.agg [.bool,.func]) λx=>aN w1 ⟨[.bool false,Oe]⟩ 197 λb a=>aC a (af b) [.bool x.1,x.2.1] λa=>true=true/\tr a (ad (af b) 0) λx=>aI x (true=true/\aj a none (ad (af b) 1) (.one .func) λx=>Ak AC x (.bu []) [] a λx a=>au a (h ())) (∀l,Ext a l-> ∃(m:Nat),m<n/\I m (aH .i64 s.1 1,
 ()) l)) (au w1 (h ()))):=by kernel_rfl
theorem Q5 (p m:Option A2) (w:A1) (c:Bool->A1->Prop):(aK M1 (λ_=>[]) 22 [ag p,ag m] w c)=(
 ((!p.isNone)=true->p.isSome=true)/\((!p.isNone)=true->p.isSome=true)/\aj w (some !p.isNone) (ad p 9) qO λx=>aI (p.isNone|| !x) (au w (c false)) (cN p 3 w λx=>aI (x== -1) (au w (c true)) (∃(x:Int×Int×Int×Int×Unit),ae AC 58 [ag p] w (.agg ⟨[aa x.1,aa x.2.1,ay x.2.2.1,ay x.2.2.2.1]⟩)/\az AC 57 (.el (.agg [.int .u64,.bool,.int .i64])) [ag m,.agg ⟨[aa x.1,aa x.2.1,ay x.2.2.1,ay x.2.2.2.1]⟩] w λ(x:Int×Bool×Int×Unit) a=>aN a ⟨[.int .u64
 0,.bool false,aa 0]⟩ 124 λb a=>aC a (af b) [ay x.1,.bool x.2.1,aa x.2.2.1] λa=>fi p 8 a λx=>cN p 0 a λe=>aN a ⟨[aa e]⟩ 3 λf a=> ∀w1,Ext a w1->mF w1 3 1 8 ⟨[aa 0]⟩ (x.1,x.2.1,x.2.2) (some ⟨f,0,none⟩,1,1) λ(r:Option A2×Nat×Nat) a=>p.isSome=true/\p.isSome=true/\aC a (ad p 8) [.slice r.1 r.2.1 r.2.2] λa=>true=true/\cM a (ad (af b) 0) λx=>U (B x)=x/\aN a ⟨[.bool false,aa 0,.bool false,aa 0]⟩ 130 λd a=>aC a (af d) [.bool (IF
 (B x).toNat),aa (F2 (B x).toNat),.bool (Kp (B x).toNat),aa (FM (B x).toNat)] λa=>((!!uY (B x).toNat)=true->true=true)/\aj a (some !!uY (B x).toNat) (ad (af b) 2) aS λ(g:Int)=>aI (!uY (B x).toNat||g != 0) (az AC 60 (.bu []) [ag p,.agg ⟨[aa 0,aa 0,aa 0,aa 11]⟩] a λx a=>au a (c true)) (aj a none (af d) kh λ(x:Bool×Int×Bool×Int×Unit)=>az AC 61 (.bu []) [ag p,.agg ⟨[.bool x.1,aa x.2.1,.bool x.2.2.1,aa x.2.2.2.1]⟩] a λx a=>
 cN p 3 a λx=>au a (c (x== -1)))))):=by kernel_rfl
theorem Vn (p:Option A2) (w:A1) (c:(Int×Int×Int×Int×Unit)×Bool×Unit->A1->Prop):(bS M1 (λ_=>[]) 24 [ag p] w c)=(
 aN w ⟨[aa 0,aa 0,aa 0,aa 0]⟩ 48 λb a=>((!p.isNone)=true->p.isSome=true)/\((!p.isNone)=true->p.isSome=true)/\aj a (some !p.isNone) (ad p 9) qO λx=>((!(p.isNone|| !x))=true->p.isSome=true)/\((!(p.isNone|| !x))=true->p.isSome=true)/\aj a (some !(p.isNone|| !x)) (ad p 3) aS λ(d:Int)=>aI (p.isNone|| !x||d != -1) (aC a (af b) [aa 0,aa 0,aa 0,aa 0] λa=>au a λw1=>aj w1 none (af b) dR λ(x:Int×Int×Int×Int×Unit)=>c ((x.1,x.2.1,x.2.2.1,
 x.2.2.2.1,()),false,()) w1) (p.isSome=true/\p.isSome=true/\aj a none (ad p 4) dR λ(x:Int×Int×Int×Int×Unit)=>aC a (af b) [aa x.1,aa x.2.1,aa x.2.2.1,aa x.2.2.2.1] λa=>au a λw1=>aj w1 none (af b) dR λ(x:Int×Int×Int×Int×Unit)=>c ((x.1,x.2.1,x.2.2.1,x.2.2.2.1,()),true,()) w1)):=by kernel_rfl
def wN:Nat->a6:=(λ|4=>[]| _=>[])
theorem Vo (m:Option A2) (f p t:Int) (w:A1) (c:(Int×Int×Int×Int×Unit)->A1->Prop):(bS M1 wN 223 [ag m,aa f,aa p,aa t] w c)=(
 aN w ⟨[aa 0,aa 0,aa 0,aa 0]⟩ 48 λb a=>az AC 20 (.el kM) [aa f,aa p,aa t] a λx a=>aI x.isNone (aC a (af b) [aa 0,aa 0,aa 0,aa 1] λa=>au a λw1=>aj w1 none (af b) dR λ(x:Int×Int×Int×Int×Unit)=>c (x.1,x.2.1,x.2.2.1,x.2.2.2.1,()) w1) (∃(I:Nat->Unit->A1->Prop),(∃n, ∀w1,Ext a w1->I n () w1)/\ ∀(n:Nat) (s:Unit) (w1:A1),I n s w1->az AC 22 (.el qO) [ag x,ag m] w1 λg a=>aI (!g) (∀
 d,Ext a d-> ∃(e:Nat),e<n/\I e () d) (x.isSome=true/\x.isSome=true/\aj a none (ad x 4) dR λ(x:Int×Int×Int×Int×Unit)=>aC a (af b) [aa x.1,aa x.2.1,aa x.2.2.1,aa x.2.2.2.1] λa=>au a λw1=>aj w1 none (af b) dR λ(x:Int×Int×Int×Int×Unit)=>c (x.1,x.2.1,x.2.2.1,x.2.2.2.1,()) w1))):=by kernel_rfl
abbrev FT:Type:=Int×Int×Int×Int×Unit
abbrev lS (fr pg wt lv:Int) (fd:FT) (s:Option A2×Nat×Nat):List AL:=
 [aa fr,aa pg,aa wt,aa lv,aa fd.1,aa fd.2.1,aa fd.2.2.1,aa fd.2.2.2.1,.slice s.1 s.2.1 s.2.2,.bool true]
def xE (lv e:Int):FT:=(0,0,lv,e,())
def yr (lv wt fr:Int) (ep:Bool) (er:Int) (el:Bool) (ef:Int):FT:=if fr>=4096 then(0,0,lv,11,()) else if gM ep er el ef wt then(fr,er,lv,0,()) else(fr,er,lv,7,())
theorem xZ {w:A1} {r:Nat} {k:IntKind} {n:Int} {val:AL} {es:Array Az} {a:Nat} {K:A1->Prop} (h:GI (.int k) (.int k n) es.toList 0=some none)
 (b:K (w.putObj r (.map (es.push {key:= .int k n,val,born:=a}) (a+1)))):gX w r k n val es a K:=by
 unfold gX;rw[h];exact b
section
variable {D G:List Nat} {w0 w:A1} {L:List (Nat×List AL)} {bm bw n c:Nat} {ca la:Int} {ws:List Int} {rest:List AL}
theorem Q6 (H:aM D G w0 w L) (j d:Nat) (f:L[j]? =some (bm,lZ bw n c ca la)) (g:L[d]? =some (bw,flat eW ws++rest)) (m:j≠d) (h:n=ws.length) (h0:0<n) (kd i a b:Int) {K:RT->A1->Prop}
 (k: ∀e,aM D G w0 e (L.set j (bm,lZ bw n c (xx ws i ca) la))->K (dK ws i,false,Cm ws i,()) e):
 aE AC 89 (.el (.agg sR)) [.agg ⟨[aa kd,aa i,ay a,ay b]⟩,ag (af bm)] w K:=by
 refine aQ (C:=M1) (aR:=λ_=>[]) (AM (QY kd i a b _ w K) ?_);refine aN.go H λo e H=>aN.go H λp q H=>⟨rfl,aj.cw 1 H rfl rfl ?_⟩;refine EC H (j+2) (d+2) f g (by omega) h h0 i λr H=>?_;refine aC.all 0 H rfl rfl rfl λs H=>au.go H λl H=>aj.at 0 H rfl rfl (k l ?_);exact(H.sub (Do _ _)).sub (Do _ _)
theorem vr (H:aM D G w0 w L) {r:Nat} {es:Array Az} {a:Nat} (f:w0.heap.size<=r) (g:r∉D) (b:bF w r es a) {n:Int} {val:AL} {K:A1->Prop} (h:GI (.int .i64) (aa n) es.toList 0=some none)
 (k: ∀c,aM D G w0 c L->bF c r (es.push {key:=aa n,val,born:=a}) (a+1)->K c):
 ∃r' d e,some r=some r'/\bF w r' d e/\gX w r' .i64 n val d e K:=
 ⟨r,es,a,rfl,b,xZ h (k _ (H.putObj f b (λ_ _ _ hc=>by cases hc) g) (j9 (DR.1 b).1))⟩
theorem abA (H:aM D G w0 w L) (q:D=[]) (j f:Nat) (r:L[j]? =some (bm,lZ bw n c ca la)) (s:L[f]? =some (bw,flat eW ws++rest)) (E:j≠f) (t:n=ws.length) (h0:0<n) (i a b:Int) {K:RT->A1->Prop}
 (k: ∀g,aM D G w0 g (L.set j (bm,lZ bw n c (xx ws i ca) la))->K (dK ws i,false,Cm ws i,()) g):
 az AC 57 (.el (.agg sR)) [ag (af bm),.agg ⟨[aa 1,aa i,ay a,ay b]⟩] w K:=by
 subst q;refine az.go H λw1 H=>aQ (C:=M2) (aR:=λ_=>[]) (AM (abz _ 1 i a b w1 K) ?_);refine aN.go H λF g H=>aN.go H λI J H=>λd h u l=>?_;have H:=(((H.ext h).sd (.map ⟨[]⟩ 0)).ext l);have e:w0.heap.size<=d.heap.size:=by have:=(aM.ext (w1:=d) (by assumption) h:aM [] G w0 d _).fr.size;exact this
 have m0:bF u d.heap.size ⟨[]⟩ 0:=l.obj (fD d _);refine vr H e (by simp) m0 rfl λM H v N m=>?_;refine vr (H.ext m) e (by simp) (m.obj v) rfl λO H x P o=>?_;refine vr (H.ext o) e (by simp) (o.obj x) rfl λQ H y R p=>?_;refine vr (H.ext p) e (by simp) (p.obj y) rfl λS H z=>?_;refine⟨rfl,aj.cw 1 H rfl rfl ⟨.func (.func 89) #[] #[],true,⟨_, _, _,rfl,z,?_⟩,an rfl (aj.at 1 H rfl rfl ?_)⟩⟩
 ·exact⟨rfl,rfl⟩
 ·unfold Ak;refine λT A=>⟨_, #[], #[],rfl,by kernel_rfl,?_⟩;refine Q6 (H.ext A) (j+2) (f+2) r s (by omega) t h0 1 i a b λU H=>?_;refine aC.all 0 H rfl rfl rfl λV H=>au.go H λB H=>aj.at 0 H rfl rfl (k B ?_);exact(H.sub (Do _ _)).sub (Do _ _)
end
section
variable {D G:List Nat} {w0 w:A1} {L:List (Nat×List AL)} {bk:Nat} {fr pg wt lv:Int} {fd:FT} {s:Option A2×Nat×Nat}
theorem qh (H:aM D G w0 w L) (j:Nat) (d:L[j]? =some (bk,lS fr pg wt lv fd s)) (x1 a f c:Int) {K:Unit->A1->Prop}
 (k: ∀g,aM D G w0 g (L.set j (bk,lS fr pg wt (-1) (x1,a,lv,c,()) s))->K () g):
 az AC 60 (.bu []) [ag (af bk),.agg ⟨[aa x1,aa a,aa f,aa c]⟩] w K:=by
 refine az.go H λw1 H=>ai (C:=M1) (aR:=λ_=>[]) (AM (Vl _ x1 a f c w1 K) ?_);have h:j<L.length:=(Be.1 d).1;refine aN.go H λb g H=>?_;have i:((b,[aa x1,aa a,aa f,aa c])::L)[j+1]? =some (bk,lS fr pg wt lv fd s):=d;refine⟨rfl,rfl,aj.cw (j+1) H i rfl ⟨rfl,aC.fS 0 H rfl rfl rfl λm H=>aj.at 0 H rfl rfl ⟨rfl,rfl,?_⟩⟩⟩;rw[aW,aW];refine aC.at (j+1) H d rfl (Nat.le_of_ble_eq_true rfl) λn H=>⟨rfl,rfl,?_⟩;refine aC.one (j+1) H (FK (Nat.succ_lt_succ h)) rfl rfl λo H=>au.go H λl H=>k l ?_;have H:=H.sub (Do _ _);have e:(L.set j (bk,lS fr pg wt lv (x1,a,lv,c,()) s)).set j (bk,lS fr pg wt (-1) (x1,a,lv,c,()) s)=L.set j (bk,lS fr pg wt (-1) (x1,a,lv,c,()) s):=List.set_set ..;rw[<-e];exact H
theorem PB (H:aM D G w0 w L) (j:Nat) (i:L[j]? =some (bk,lS fr pg wt lv fd s)) (f:Int) (ep:Bool) (er:Int) (el:Bool) (ef:Int) {K:Unit->A1->Prop}
 (k: ∀g,aM D G w0 g (L.set j (bk,lS fr pg wt (-1) (yr lv wt f ep er el ef) s))->K () g):
 az AC 99 (.bu []) [ag (af bk),aa f,.agg ⟨[.bool ep,aa er,.bool el,aa ef]⟩] w K:=by
 refine az.go H λw1 H=>ai (C:=M1) (aR:=λ_=>[]) (AM (ZW _ f ep er el ef w1 K) ?_);refine aN.go H λb g H=>?_;have d:((b,[Ar ep,aa er,.bool el,aa ef])::L)[j+1]? =some (bk,lS fr pg wt lv fd s):=i;refine ab (λc=>?_) (λc=>aj.at 0 H rfl rfl ⟨rfl,rfl,aj.cw (j+1) H d rfl ⟨trivial,ab (λc2=>?_) (λc2=>?_)⟩⟩)
 ·refine qh H (j+1) d 0 0 0 11 λh H=>au.go H λa H=>k a ?_;have e:yr lv wt f ep er el ef=(0,0,lv,11,()):=av (of_decide_eq_true c);rw[e];exact H.sub (Do _ _)
 ·refine⟨rfl,aj.cw 0 H rfl rfl (qh H (j+1) d f er 0 7 λh H=>au.go H λa H=>k a ?_)⟩;have e:yr lv wt f ep er el ef=(f,er,lv,7,()):=by
   have c3:gM ep er el ef wt=false:=by simpa using c2
   unfold yr;rw[ao (of_decide_eq_false c),c3];rfl
  rw[e];exact H.sub (Do _ _)
 ·refine⟨rfl,aj.cw 0 H rfl rfl (qh H (j+1) d f er 0 0 λh H=>au.go H λa H=>k a ?_)⟩;have e:yr lv wt f ep er el ef=(f,er,lv,0,()):=by
   have c3:gM ep er el ef wt=true:=by simpa using c2
   unfold yr;rw[ao (of_decide_eq_false c),av c3]
  rw[e];exact H.sub (Do _ _)
end
end Go.Proofs.YtlcenllcmeebhaaGreat
