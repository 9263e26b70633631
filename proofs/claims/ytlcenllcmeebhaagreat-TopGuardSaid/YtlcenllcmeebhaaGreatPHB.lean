import Derived.Test.YtlcenllcmeebhaaGreatPHA
/-! What the statement leans on: texts joined and shortened by a program of mine. -/
set_option linter.unusedVariables false
set_option linter.unusedSimpArgs false
open Go renaming World->A2,Addr->AC,Value->Ad,Obj->B1,MapEntry->B5,Program->C7,FuncId->CP,TypeId->E4
open Go.Proofs.Tryz renaming prog->Ab
open Eq renaming mpr->Ae
open List renaming mem_map->Av,perm_middle->BJ,mem_cons->BK,sublist_cons_self->BL,length_take->BN,nodup_cons->BO,mem_cons_of_mem->Bp,getElem?_eq_some_iff->Bs,map_cons->Bv,length_append->Bz,mem_append_left->CH,mem_cons_self->CN,getElem?_set_ne->CV,mem_singleton->CX,mem_append_right->Cb,getElem?_eq_getElem->Da,take_append_drop->Db,getElem?_set_self->E5,append_assoc->E6,map_append->E9,nodup_nil->EO,mem_of_getElem?->EU,replicate->EW,mem_append->EY,length_drop->F0,getElem?_map->FF,getElem?_of_mem->Ff,ext_getElem?->Fs,filter_cons->Fu,mem_or_eq_of_mem_set->Gi,getElem?_append_left->H4,nodup_append->H5,append_nil->H6,eq_nil_of_length_eq_zero->H7,take_add_one->HB,drop_length->HE,drop_eq_nil_of_le->I1,getElem?_inj->I2,getElem?_append_right->IR,take_append_of_le_length->In,take_of_length_le->J3,length_set->JC,getD_eq_getElem?_getD->JD,filter_eq_self->JJ,take_length->JL,any_eq_true->JP,set_set->JS,set_eq_take_append_cons_drop->M4,drop_length_add_append->M5,perm_append_singleton->M7,sublist_append_right->MO,length_map->MQ,findIdx?_eq_none_iff->MV,drop_eq_getElem_cons->MW,eraseIdx_eq_take_drop_succ->MZ,find?_append->NA,find?_cons->ND,length_cons->NE,set_append_right->NF,pairwise_append->NO,take_zero->NQ,getElem?_take_of_lt->Nd
open Go.IntKind renaming i64->B2,u64->Jn
open Go.Value renaming bool->B3,int->Dc,chan->HG,nilFunc->Nk
open Int renaming toNat->B4,toNat_natCast->De,ediv_nonneg->Nl
open Nat renaming zero_add->Bx,le_trans->CO,le_refl->DA,min_eq_left->Dl,zero_le->Fv,mul_le_mul_right->G1,sub_self->GS,lt_of_lt_of_le->HM,lt_succ_self->HZ,mul_one->Hb,add_mul->Jo,testBit_mod_two_pow->Jq,mod_eq_of_lt->No,eq_of_testBit_eq->Np
open List.Perm renaming cons->C6,swap->Dn
open Array renaming getElem?_eq_some_iff->DB,ext'->Jt,mk->K1
open Bool renaming or_eq_true->Do,or_eq_false_iff->Dv,true_and->Ga,and_eq_true->Hq,and_eq_false_iff->Hr,eq_iff_iff->Ht,not_eq_true'->Kg,not_eq_false'->Nq
open Decidable renaming rec->FS
open Go.Instr renaming findNow->Fw
open BitVec renaming testBit_toNat->Fx,getLsbD_and->Hy,getLsbD_ushiftRight->LL,allOnes->Nu,getLsbD_shiftLeft->Ny,getLsbD_of_ge->O2
open Go.Builtin renaming zeroCells->Gd
open List.Sublist renaming refl->Ok,cons_cons->PP,cons->PS
namespace Go.Proofs.YtlcenllcmeebhaaGreat
set_option maxRecDepth 100000
open Go.RX
def dW (lo sz:Int):Bool:=decide (lo>=0)&&decide (lo<64)&&decide (sz>=1)&&decide (sz<=64 - lo)
theorem iF {lo sz:Int}:dW lo sz=true<->0<=lo/\lo<64/\1<=sz/\sz<=64 - lo:=by
 simp only[dW,Hq,decide_eq_true_eq];omega
def Mk (lo n:Nat):BitVec 64:=(Nu 64 >>> (64 - n)) <<< lo
theorem BX {lo n j:Nat} (c:n<=64):(Mk lo n).getLsbD j=(decide (lo<=j)&&decide (j<lo+n)&&decide (j<64)):=by
 unfold Mk;rw[Ny,LL,BitVec.getLsbD_allOnes];by_cases h1:j<64<;>by_cases a:lo<=j<;>by_cases b:j<lo+n<;>simp[h1,a,b]<;>omega
def fJ (lo sz:Int):BitVec 64:=if dW lo sz=true then Mk lo.toNat sz.toNat else 0#64
def fh (w:BitVec 64) (lo sz:Int):BitVec 64:=(w &&& fJ lo sz) >>> (C5 0 (kl lo 63)).toNat
def sy (w:BitVec 64) (lo sz:Int) (v:BitVec 64):BitVec 64:=if fJ lo sz=0#64 then w else w &&& ~~~ fJ lo sz ||| v <<< lo.toNat &&& fJ lo sz
theorem Gc {lo sz:Int} (h:dW lo sz=true):C4 .u64 (JG .u64 18446744073709551615 (aY .i64 64 sz)) lo=U (fJ lo sz):=by
 have h':=iF.1 h;rw[show(18446744073709551615:Int)=U (Nu 64) from rfl,Oq,Oo,bD (by omega) (by omega)];unfold fJ Mk;rw[if_pos h];congr 4;omega
theorem Pm {lo sz:Int} (h:dW lo sz=true):fJ lo sz≠0#64:=by
 intro h0;have h':=iF.1 h;have:=congrArg (λb=>b.getLsbD lo.toNat) h0;simp only[fJ,if_pos h] at this;rw[BX (by omega)] at this;simp at this;omega
theorem za {lo sz:Int} (h:dW lo sz=false):fJ lo sz=0#64:=by simp[fJ,h]
def Gk (w:BitVec 64) (lo k:Nat):BitVec 64:=(w >>> lo) &&& Mk 0 k
theorem Ot {w:BitVec 64} {lo k j:Nat} (a:k<=64):(Gk w lo k).getLsbD j=(w.getLsbD (lo+j)&&decide (j<k)):=by
 unfold Gk;rw[Hy,LL,BX a];by_cases h:j<k<;>simp[h];omega
def Pk (w v:BitVec 64) (lo k:Nat):BitVec 64:=w &&& ~~~ Mk lo k ||| v <<< lo &&& Mk lo k
theorem YH {w v:BitVec 64} {lo k j:Nat} (a:k<=64) (b:j<64):(Pk w v lo k).getLsbD j=if lo<=j/\j<lo+k then v.getLsbD (j - lo) else w.getLsbD j:=by
 unfold Pk;rw[BitVec.getLsbD_or,Hy,Hy,BitVec.getLsbD_not,Ny,BX a];by_cases h1:lo<=j<;>by_cases c:j<lo+k<;>simp[h1,c,b]
 all_goals omega
theorem TQ {w:BitVec 64} {lo sz:Int} (h:dW lo sz=true):fh w lo sz=Gk w lo.toNat sz.toNat:=by
 have h':=iF.1 h;unfold fh fJ;rw[if_pos h];have e:(C5 0 (kl lo 63)).toNat=lo.toNat:=by unfold C5 kl;split<;>split<;>omega
 rw[e];apply BitVec.eq_of_getLsbD_eq;intro j b;rw[Ot (by omega),LL,Hy,BX (by omega)];by_cases h1:lo.toNat+j<64
 ·by_cases a:j<sz.toNat<;>simp[h1,a]
 ·rw[O2 w _ (by omega)];simp
theorem TS {w v:BitVec 64} {lo sz:Int} (h:dW lo sz=true):sy w lo sz v=Pk w v lo.toNat sz.toNat:=by
 unfold sy Pk;rw[if_neg (Pm h)];simp only[fJ,if_pos h]
theorem mx:Ab.follows .mixedOrders=true:=by kernel_rfl
noncomputable def C0:dj Ab:={rX:=[],quiet:=[],sh:=[],mixed:=mx}
theorem TT (low size:Int) (w:A2) (a:Bool->A2->Prop):(aN C0 (λ_=>[]) 144 [.int .i64 low,.int .i64 size] w a)=(
 ao w (a (decide (low>=0)&&decide (low<64)&&decide (size>=1)&&decide (size<=aY .i64 64 low)))):=by kernel_rfl
theorem Pn (lo sz:Int):(decide (lo>=0)&&decide (lo<64)&&decide (sz>=1)&&decide (sz<=aY .i64 64 lo))=dW lo sz:=by
 unfold dW;by_cases h:0<=lo/\lo<64
 ·rw[bD (by omega) (by omega)]
 ·by_cases h1:lo>=0<;>by_cases a:lo<64<;>simp[h1,a]<;>omega
noncomputable def sK:Entry Ab where
 f:=144
 fn l:=match l with
  |[.int .i64 lo,.int .i64 sz]=>some (True,.bool (dW lo sz))
  | _=>none
 ok args pre v h _ w:=by
  split at h
  ·rename_i lo sz;cases h;refine bW (x:=dW lo sz) (ai (C:=C0) (aT:=λ_=>[]) (Ae (TT lo sz w _) λw1 h1=>⟨Pn lo sz,h1⟩))
  ·cases h
noncomputable def C1:dj Ab:={C0 with rX:=[sK]}
theorem TU (low size:Int) (w:A2) (a:Int->A2->Prop):(aN C1 (λ_=>[]) 195 [.int .i64 low,.int .i64 size] w a)=(
 True/\aL (!dW low size) (ao w (a 0)) (0<=aY .i64 64 size/\0<=low/\ao w λw1=>a (C4 .u64 (JG .u64 18446744073709551615 (aY .i64 64 size)) low) w1)):=by kernel_rfl
theorem TV (lo sz:Int) (w:A2):aE Ab 195 (.el (.one (.int .u64))) [.int .i64 lo,.int .i64 sz] w (λx w'=>x=U (fJ lo sz)/\Ext w w'):=by
 refine ai (C:=C1) (aT:=λ_=>[]) (Ae (TU lo sz w _) ⟨trivial,?_⟩);refine ab (λh=>?_) (λh=>?_)
 ·intro w1 h1;refine⟨?_,h1⟩;rw[za (by simpa using h)];rfl
 ·have h':dW lo sz=true:=by simpa using h
  have a:=iF.1 h';refine⟨by rw[bD (by omega) (by omega)];omega,a.1,λw1 h1=>⟨Gc h',h1⟩⟩
noncomputable def vj:Entry Ab where
 f:=195
 fn l:=match l with
  |[.int .i64 lo,.int .i64 sz]=>some (True,.int .u64 (U (fJ lo sz)))
  | _=>none
 ok args pre v h a w:=by
  split at h
  ·rename_i lo sz;cases h;exact bW (TV lo sz w)
  ·cases h
noncomputable def C2:dj Ab:={C0 with rX:=[sK,vj]}
theorem YI (v low size:Int) (w:A2) (a:Int->A2->Prop):(aN C2 (λ_=>[]) 141 [.int .u64 v,.int .i64 low,.int .i64 size] w a)=(
 True/\0<=C5 0 (kl low 63)/\ao w λw1=>a (JG .u64 (wE .u64 v (U (fJ low size))) (C5 0 (kl low 63))) w1):=by kernel_rfl
theorem YJ (v low size x:Int) (w:A2) (a:Int->A2->Prop):(aN C2 (λ_=>[]) 250 [.int .u64 v,.int .i64 low,.int .i64 size,.int .u64 x] w a)=(
 True/\aL (U (fJ low size)==0) (ao w (a v)) (0<=low/\ao w λw1=>a (ZC .u64 (gD .u64 v (U (fJ low size))) (wE .u64 (C4 .u64 x low) (U (fJ low size)))) w1)):=by kernel_rfl
theorem YK (v:BitVec 64) (lo sz:Int) (w:A2):aE Ab 141 (.el (.one (.int .u64))) [.int .u64 (U v),.int .i64 lo,.int .i64 sz] w (λx w'=>x=U (fh v lo sz)/\Ext w w'):=by
 refine ai (C:=C2) (aT:=λ_=>[]) (Ae (YI (U v) lo sz w _) ⟨trivial,by unfold C5;split<;>omega,λw1 h1=>⟨?_,h1⟩⟩);rw[On,Oq];rfl
theorem YL (v:BitVec 64) (lo sz:Int) (x:BitVec 64) (w:A2):aE Ab 250 (.el (.one (.int .u64))) [.int .u64 (U v),.int .i64 lo,.int .i64 sz,.int .u64 (U x)] w (λy w'=>y=U (sy v lo sz x)/\Ext w w'):=by
 refine ai (C:=C2) (aT:=λ_=>[]) (Ae (YJ (U v) lo sz (U x) w _) ⟨trivial,?_⟩);have b:(U (fJ lo sz)==0)=decide (fJ lo sz=0#64):=by
  have:(U (fJ lo sz)=0)<->fJ lo sz=0#64:=by rw[show(0:Int)=U 0#64 from rfl,aaT]
  by_cases h:fJ lo sz=0#64
  ·rw[this.2 h,h];rfl
  ·have h': ¬ U (fJ lo sz)=0:=λe=>h (this.1 e);simp[h,h']
 rw[b];refine ab (λh=>λw1 h1=>⟨?_,h1⟩) (λh=>?_)
 ·simp only[decide_eq_true_eq] at h;unfold sy;rw[if_pos h]
 ·simp only[decide_eq_false_iff_not] at h;have a:dW lo sz=true:=by
   cases a:dW lo sz with
   |true=>rfl
   |false=>exact absurd (za a) h
  refine⟨(iF.1 a).1,λw1 h1=>⟨?_,h1⟩⟩;rw[J1,Oo,On,aaU];unfold sy;rw[if_neg h]
noncomputable def Fm:Entry Ab where
 f:=141
 fn l:=match l with
  |[.int .u64 v,.int .i64 lo,.int .i64 sz]=>some (U (B v)=v,.int .u64 (U (fh (B v) lo sz)))
  | _=>none
 ok args pre v h a w:=by
  split at h
  ·rename_i v lo sz;cases h;have:=bW (YK (B v) lo sz w);rw[a] at this;exact this
  ·cases h
noncomputable def Fo:Entry Ab where
 f:=250
 fn l:=match l with
  |[.int .u64 v,.int .i64 lo,.int .i64 sz,.int .u64 x]=>some (U (B v)=v/\U (B x)=x,.int .u64 (U (sy (B v) lo sz (B x))))
  | _=>none
 ok args pre v h a w:=by
  split at h
  ·rename_i v lo sz x;cases h;have:=bW (YL (B v) lo sz (B x) w);rw[a.1,a.2] at this;exact this
  ·cases h
noncomputable def C3:dj Ab:={C0 with rX:=[sK,vj,Fm,Fo]}
def vE:Nat->aZ:=(λ|4=>[(3,Go.RX.El.one (Go.RX.Sc.int Jn)),(4,Go.RX.El.one (Go.RX.Sc.int B2)),(9,Go.RX.El.one (Go.RX.Sc.int B2))]| _=>[])
theorem TW (p:Option AC) (n c:Nat) (w:A2) (d:Int->A2->Prop):(aN C3 vE 248 [.slice p n c] w d)=(
 ∃(I:Nat->Int×Int×Int×Unit->A2->Prop),(∃n, ∀w1,Ext w w1->I n (0,0,0,()) w1)/\ ∀(f:Nat) (s:Int×Int×Int×Unit) (w1:A2),I f s w1->aL (decide (s.2.2.1<(↑n:Int))) ((p.isSome=true/\0<=s.2.2.1/\s.2.2.1<(↑n:Int))/\aj w1 none (ad p (B4 s.2.2.1*2)) cK λ(x:Int×Int×Unit)=>aK w1 ⟨[.int .u64 0,.int .i64 0]⟩ 304 λb a=>aC a (ae b) [.int .u64 x.1,.int .i64 x.2.1] λa=>true=true/\aU a (ad (ae b) 1) λx=>True/\aL (!dW s.2.1 x) (ao a (d 0)) (true=true/\aU a (ad (ae b) 1) λ
 x=>true=true/\cB a (ad (ae b) 0) λe=>(U (B s.1)=s.1/\U (B e)=e)/\true=true/\aU a (ad (ae b) 1) λi=> ∀g,Ext a g-> ∃(h:Nat),h<f/\I h (U (sy (B s.1) s.2.1 x (B e)),aB .i64 s.2.1 i,aB .i64 s.2.2.1 1,()) g)) (ao w1 (d s.1))):=by kernel_rfl
def tE:Nat->aZ:=(λ|4=>[(5,Go.RX.El.one Go.RX.Sc.slice),(6,Go.RX.El.one (Go.RX.Sc.int B2)),(11,Go.RX.El.one (Go.RX.Sc.int B2))]| _=>[])
theorem Pq (v:Int) (p:Option AC) (n c:Nat) (w:A2) (a:Option AC×Nat×Nat->A2->Prop):(aN C3 tE 93 [.int .u64 v,.slice p n c] w a)=(
 ∃(I:Nat->(Option AC×Nat×Nat)×Int×Int×Unit->A2->Prop),(∃n, ∀w1,Ext w w1->I n ((none,0,0),0,0,()) w1)/\ ∀(e:Nat) (s:(Option AC×Nat×Nat)×Int×Int×Unit) (w1:A2),I e s w1->aL (decide (s.2.2.1<(↑n:Int))) ((p.isSome=true/\0<=s.2.2.1/\s.2.2.1<(↑n:Int))/\aU w1 (ad p (B4 s.2.2.1*1)) λx=>True/\aL (!dW s.2.1 x) (ao w1 (a (none,0,0))) (U (B v)=v/\aK w1 ⟨[.int .u64 (U (fh (B v) s.2.1 x))]⟩ 29 λb d=> ∀w1,Ext d w1->m7 w1 29 1 8 ⟨[.int .u64 0]⟩ (s.1.1,s.1.2.1,s.1.2.2) (some ⟨b,0,
 none⟩,1,1) λ(r:Option AC×Nat×Nat) d=> ∀f,Ext d f-> ∃(g:Nat),g<e/\I g ((r.1,r.2.1,r.2.2),aB .i64 s.2.1 x,aB .i64 s.2.2.1 1,()) f)) (ao w1 (a (s.1.1,s.1.2.1,s.1.2.2)))):=by kernel_rfl
abbrev eI:El:= .one (.int .i64)
abbrev eU:El:= .one (.int .u64)
abbrev eP:El:= .agg [.int .u64,.int .i64]
def qG:BitVec 64->Int->List (BitVec 64×Int)->BitVec 64
 |w, _,[]=>w
 |w,lo,(v,sz)::r=>if dW lo sz=true then qG (sy w lo sz v) (lo+sz) r else 0#64
def Nt (l:List (BitVec 64×Int)):List (Int×Int×Unit):=l.map λx=>(U x.1,x.2,())
theorem i_ {α:Type} {l:List α} {i:Nat} (h:i<l.length):l.drop i=l[i]::l.drop (i+1):=by simp_all
theorem TX {p:Option AC} {n c:Nat} {w:A2} {xs:List (BitVec 64×Int)} (z:Sl w eP p (Nt xs)) (K:n=xs.length) (hb:n<4611686018427387904):
 aE Ab 248 (.el eU) [.slice p n c] w (λx w'=>x=U (qG 0#64 0 xs)/\Ext w w'):=by
 refine ai (C:=C3) (aT:=vE) (Ae (TW p n c w _) ?_);refine⟨λk s w'=>Ext w w'/\ ∃(i:Nat) (b:BitVec 64),s.1=U b/\s.2.2.1=i/\k+i=n/\0<=s.2.1/\s.2.1<=64/\qG b s.2.1 (xs.drop i)=qG 0#64 0 xs,⟨n,λw1 h1=>⟨h1,0,0#64,rfl,rfl,rfl,by decide,by decide,rfl⟩⟩,?_⟩;rintro k ⟨x,lo,L,u⟩ w1 ⟨l,i,b,h1,g,M,A,B,e⟩;simp only at h1 g A B e;subst h1;subst g;dsimp only;refine ab (λh=>?_) (λh=>λD g=>⟨?_,l.trans g⟩)
 ·simp only[decide_eq_true_eq] at h;have hi:i<xs.length:=by omega
  have E:(Nt xs)[i]? =some (U xs[i].1,xs[i].2,()):=by simp[Nt,hi]
  have a1:=(z.ext l) i _ E;rw[i_ hi] at e;refine⟨⟨a1.1,by omega,by omega⟩, _,a1.2,λd F f t=>?_⟩;have dp:bM f d.heap.size [.int .u64 0,.int .i64 0]:=(bM.new d _ _).ext t;have v:Ext w d:=l.trans F;have G:Ext w f:=(v.iV _).trans t;have m:=dp.put (o:=0) [Dc .u64 (U xs[i].1),Dc .i64 xs[i].2] (by simp);simp at m;have y:Ext w (ju f (some ⟨d.heap.size,0,none⟩) [Dc .u64 (U xs[i].1),Dc .i64 xs[i].2]):=G.ju (a:=⟨d.heap.size,0,none⟩) v.size _;have H:cP (ju f (some ⟨d.heap.size,0,none⟩) [Dc .u64 (U xs[i].1),Dc .i64 xs[i].2]) (ad (some ⟨d.heap.size,0,none⟩) 0) (.one (.int .u64)) (U xs[i].1):=by
   rw[aR];exact m.lM rfl
  have q:cP (ju f (some ⟨d.heap.size,0,none⟩) [Dc .u64 (U xs[i].1),Dc .i64 xs[i].2]) (ad (some ⟨d.heap.size,0,none⟩) 1) (.one (.int .i64)) xs[i].2:=by
   rw[aR];exact m.lM rfl
  refine⟨⟨rfl,dp.st (by simp)⟩,rfl, _,q,trivial,ab (λr D I=>⟨?_,y.trans I⟩) (λr=>⟨rfl, _,q,rfl, _,H,⟨by rw[EP],by rw[EP]⟩,rfl, _,q,λN J=>⟨k - 1,by omega,y.trans J,i+1,sy b lo xs[i].2 xs[i].1,?_,?_,by omega,?_,?_,?_⟩⟩)⟩
  ·have j:dW lo xs[i].2=false:=by simpa using r
   rw[<-e];simp only[qG,j];rfl
  all_goals
   have j:dW lo xs[i].2=true:=by simpa using r
   have O:=iF.1 j
  ·show U _= _;rw[EP,EP]
  ·show aB _ _ _= _;rw[ax (by omega) (by omega)];rfl
  ·show 0<=aB .i64 lo _;rw[ax (by omega) (by omega)];omega
  ·show aB .i64 lo _<=64;rw[ax (by omega) (by omega)];omega
  ·show qG _ (aB .i64 lo _) _= _;rw[ax (by omega) (by omega), <-e];simp only[qG,j,if_true]
 ·simp only[decide_eq_false_iff_not] at h;rw[I1 (by omega)] at e;rw[<-e];rfl
def mj (w:BitVec 64):Int->List Int->Option (List (BitVec 64))
 | _,[]=>some []
 |lo,sz::r=>if dW lo sz=true then(mj w (lo+sz) r).map (fh w lo sz:: ·) else none
def BE (l:List (BitVec 64)):List Int:=l.map U
theorem Pr {v:BitVec 64} {p:Option AC} {n c:Nat} {w:A2} {xs:List Int} (y:Sl w eI p xs) (J:n=xs.length) (hb:n<=1000):
 aE Ab 93 (.el (.one .slice)) [.int .u64 (U v),.slice p n c] w (λr w'=>lD w w' eU r (BE ((mj v 0 xs).getD []))/\Ext w w'):=by
 refine ai (C:=C3) (aT:=tE) (Ae (Pq (U v) p n c w _) ?_);refine⟨λk s w'=>Ext w w'/\ ∃(i:Nat) (a:List (BitVec 64)),s.2.2.1=i/\k+i=n/\0<=s.2.1/\s.2.1<=64/\a.length=i/\lD w w' eU s.1 (BE a)/\mj v 0 xs=(mj v s.2.1 (xs.drop i)).map (a++ ·),⟨n,λw1 h1=>⟨h1,0,[],rfl,rfl,by decide,by decide,rfl,lD.nil w w1 eU,by simp⟩⟩,?_⟩;rintro k ⟨s,lo,K,u⟩ w1 ⟨f,i,a,d,L,z,A,D,m,b⟩;simp only at d m z A b;subst d;dsimp only;refine ab (λh=>?_) (λh=>λo d=>⟨?_,f.trans d⟩)
 ·simp only[decide_eq_true_eq] at h;have hi:i<xs.length:=by omega
  have a1:=(y.ext f) i _ (Da hi);have i1:p.isSome=true/\(0:Int)<=i/\(i:Int)<n:=⟨a1.1,by omega,by omega⟩;rw[i_ hi] at b;refine⟨i1, _,a1.2,trivial,ab (λg o E=>⟨?_,f.trans E⟩) (λg=>⟨by rw[EP],λM F N G=>?_⟩)⟩
  ·have j:dW lo xs[i]=false:=by simpa using g
   simp only[mj,j] at b;rw[b];exact lD.nil w o eU
  ·have j:dW lo xs[i]=true:=by simpa using g
   have O:=iF.1 j;have P:(BE a).length<=1000:=by simp[BE];omega
   refine Pj (e:=eU) (x:=U (fh (B (U v)) lo xs[i])) m f rfl F G rfl (by omega) λs' w' q H g Q R t=>⟨k - 1,by omega,H.trans t,i+1,a++[fh v lo xs[i]],?_,by omega,?_,?_,by simp[D],?_,?_⟩
   ·show aB _ _ _= _;rw[ax (by omega) (by omega)];rfl
   ·show 0<=aB .i64 lo _;rw[ax (by omega) (by omega)];omega
   ·show aB .i64 lo _<=64;rw[ax (by omega) (by omega)];omega
   ·rw[EP] at q;have I:BE (a++[fh v lo xs[i]])=BE a++[U (fh v lo xs[i])]:=by simp[BE]
    rw[I];exact q.ext t
   ·show _=(mj v (aB .i64 lo _) _).map _;rw[ax (by omega) (by omega),b];simp only[mj,j,if_true,Option.map_map];congr 1;funext l;simp
 ·simp only[decide_eq_false_iff_not] at h;rw[I1 (by omega)] at b;rw[b];simp[mj];exact m.ext d
end Go.Proofs.YtlcenllcmeebhaaGreat
namespace Go.RX
open Go.RowKit
def X9 (n:Nat) (w:A2) (e:El) (s:Option AC×Nat×Nat) (xs:List e.T):Prop:=
 s.2.1=xs.length/\xs.length<=s.2.2/\
 ((s.1=none/\xs=[]/\s.2.2=0)\/ ∃b l,s.1=some ⟨b,0,none⟩/\n<=b/\bM w b l/\l.length=s.2.2*aG e/\l.take (xs.length*aG e)=flat e xs)
theorem lD.toN {w0 w:A2} {e:El} {s:Option AC×Nat×Nat} {xs:List e.T} (h:lD w0 w e s xs):X9 w0.heap.size w e s xs:=h
theorem X9.of {w0 w:A2} {e:El} {s:Option AC×Nat×Nat} {xs:List e.T} {n:Nat} (h:X9 n w e s xs) (a:w0.heap.size<=n):lD w0 w e s xs:=by
 obtain⟨h1,b,c⟩:=h;refine⟨h1,?_⟩
 grind
def vk (n:Nat) (w:A2):A2:={w with heap:=w.heap.extract 0 n}
theorem iz {n:Nat} {w:A2} (h:n<=w.heap.size):(vk n w).heap.size=n:=by grind[vk]
theorem p_ {n:Nat} {w:A2} (h:n<=w.heap.size):Ext (vk n w) w:=by
 refine⟨rfl,rfl,rfl,?_,λk a=>?_⟩
 ·rw[iz h];grind
 ·rw[iz h] at a;show w.heap[k]? =(w.heap.extract 0 n)[k]?
  grind
theorem zx {n:Nat} {w w':A2} (h:n<=w.heap.size) (k:Ext (vk n w) w') (a:w.heap.size<=w'.heap.size):Below n w w':=
 ⟨k.os,k.tape,k.output,a,λj b=>by
  have h1:=k.block (by rw[iz h];exact b);have c:=(p_ h).block (k:=j)
  grind⟩
end Go.RX
namespace Go.RowKit
open Go.RX
end Go.RowKit
namespace Go.RX
open Go.RowKit
structure Fr (G:List Nat) (w w':A2):Prop where
 os:w'.os=w.os
 tape:w'.tape=w.tape
 output:w'.output=w.output
 size:w.heap.size<=w'.heap.size
 block: ∀k,k<w.heap.size->k∉G->w'.heap[k]? =w.heap[k]?
theorem Fr.refl (G:List Nat) (w:A2):Fr G w w:=⟨rfl,rfl,rfl,by simp,λ_ _ _=>rfl⟩
theorem Fr.trans {G:List Nat} {a b c:A2} (h:Fr G a b) (k:Fr G b c):Fr G a c:=
 ⟨k.os.trans h.os,k.tape.trans h.tape,k.output.trans h.output,CO h.size k.size,λj d e=>(k.block j (HM d h.size) e).trans (h.block j d e)⟩
theorem Fr.uE {G:List Nat} {w w':A2} (h:Ext w w'):Fr G w w':=⟨h.os,h.tape,h.output,h.size,λ_ a _=>h.block a⟩
theorem Fr.ext {w w':A2} (h:Fr [] w w'):Ext w w':=⟨h.os,h.tape,h.output,h.size,λk a=>h.block k a (by simp)⟩
theorem Fr.dp {G:List Nat} {w w':A2} (h:Fr G w w') {b:Nat} {l:List Ad} (hb:b∉G) (k:bM w b l):bM w' b l:=k.same (h.block b k.lt hb)
theorem Fr.ju {G:List Nat} {w0 w:A2} (h:Fr G w0 w) {a:AC} (l:w0.heap.size<=a.block\/a.block∈G) (vs:List Ad):Fr G w0 (ju w (some a) vs):=by
 have env: ∀(vs) (w) (i),(putAt w a vs i).os=w.os/\(putAt w a vs i).tape=w.tape/\(putAt w a vs i).output=w.output:=by
  intro vs
  induction vs with
  |nil=>intro w i;exact⟨rfl,rfl,rfl⟩
  |cons v r b=>
   intro w i;have:=b (w.setCell (a.add i) v) (i+1);exact this
 obtain⟨c,d,e⟩:=env vs w 0;refine⟨c.trans h.os,d.trans h.tape,e.trans h.output,?_,λk f g=>?_⟩
 ·show _<=(putAt w a vs 0).heap.size;rw[rN];exact h.size
 ·have j:k≠a.block:=by
   grind
  exact(mN vs w a 0 k j).trans (h.block k f g)
structure aJ (D G:List Nat) (w0 w:A2) (L:List (Nat×List Ad)):Prop where
 fr:Fr G w0 w
 dp: ∀x∈L,bM w x.1 x.2
 own: ∀x∈L,w0.heap.size<=x.1\/x.1∈G
 nd:(L.map (·.1)).Nodup
 pM: ∀r∈D,w0.heap.size<=r/\w.heap[r]? =some (.deferred (some []))
abbrev At:=aJ []
theorem At.start (G:List Nat) (w:A2):At G w w [] where
 fr:=Fr.refl G w
 dp:=λx=>by grind
 own:=λa=>by grind
 nd:=EO
 pM:=λa=>by grind
namespace aJ
variable {D G:List Nat} {w0 w w1:A2} {L:List (Nat×List Ad)}
theorem ext (H:aJ D G w0 w L) (h:Ext w w1):aJ D G w0 w1 L:=
 ⟨H.fr.trans (.uE h),λx b=>(H.dp x b).ext h,H.own,H.nd,λr a=>⟨(H.pM r a).1,h.obj (H.pM r a).2⟩⟩
theorem all (H:aJ D [] w0 w L):Ext w0 w:=H.fr.ext
theorem get (H:aJ D G w0 w L) {i b:Nat} {l:List Ad} (h:L[i]? =some (b,l)):bM w b l:=H.dp _ (EU h)
theorem ne (H:aJ D G w0 w L) {i j b c:Nat} {l m:List Ad} (h:L[i]? =some (b,l)) (k:L[j]? =some (c,m)) (a:i≠j):b≠c:=by
 intro;have h1:(L.map (·.1))[i]? =some b:=by grind
 have d:(L.map (·.1))[j]? =some b:=by grind
 exact a ((I2 (by grind) H.nd).1 (h1.trans d.symm))
theorem alloc (H:aJ D G w0 w L) (cs:List Ad) (t:E4):aJ D G w0 (w.alloc (.cells ⟨cs⟩ t)) ((w.heap.size,cs)::L):=by
 have b:=H.ext (Ext.alloc w (.cells ⟨cs⟩ t));refine⟨b.fr,λx a=>?_,λx a=>?_,?_,b.pM⟩
 ·rcases BK.1 a with rfl|a
  ·exact bM.new w cs t
  ·exact b.dp x a
 ·rcases BK.1 a with rfl|a
  ·exact .inl H.fr.size
  ·exact b.own x a
 ·refine BO.2 ⟨λc=>?_,H.nd⟩;obtain⟨x,a,e⟩:=Av.1 c;have:=(H.dp x a).lt
  grind
theorem o7 (H:aJ D G w0 w L) (o:B1):aJ D G w0 (w.alloc o) L:=H.ext (Ext.alloc w o)
theorem da {b r:Nat} {l:List Ad} {o:B1} (h:bM w b l) (k:w.heap[r]? =some o) (c: ∀a t f,o≠ .cells a t f):b≠r:=by
 obtain⟨⟩:=h
 grind
theorem put (H:aJ D G w0 w L) (i:Nat) {b o:Nat} {l:List Ad} (h:L[i]? =some (b,l)) (vs:List Ad) (m:o+vs.length<=l.length):
 aJ D G w0 (ju w (some ⟨b,o,none⟩) vs) (L.set i (b,l.take o++(vs++l.drop (o+vs.length)))):=by
 have hi:i<L.length:=(Bs.1 h).1;have f:=EU h;refine⟨H.fr.ju (H.own _ f) vs,λx a=>?_,λx a=>?_,?_,λr g=>⟨(H.pM r g).1,?_⟩⟩
 ·obtain⟨j,c⟩:=Ff a;by_cases e:i=j
  ·subst e;rw[E5 hi] at c;cases c;exact(H.get h).put vs m
  ·rw[CV e] at c;have d:x.1≠b:=λe'=>by
    exact H.ne c h (λn=>e n.symm) e'
   exact(H.dp x (by grind)).Wz d vs
 ·rcases Gi a with a|rfl
  ·exact H.own x a
  ·exact H.own (b,l) f
 ·have:(L.set i (b,l.take o++(vs++l.drop (o+vs.length)))).map (·.1)=L.map (·.1):=by
   apply Fs;intro j
   grind
  rw[this];exact H.nd
 ·have k:=(H.pM r g).2;have d:r≠b:=λe=>da (H.get h) k (by grind) e.symm;rw[<-k];exact mN vs w _ 0 r d
theorem fa (H:aJ D G w0 w L) {b:Nat} {l:List Ad} (h:bM w0 b l) (hb:b∉G):bM w b l:=H.fr.dp hb h
theorem sub (H:aJ D G w0 w L) {L':List (Nat×List Ad)} (h:L'.Sublist L):aJ D G w0 w L':=
 ⟨H.fr,λx a=>H.dp x (h.subset a),λx a=>H.own x (h.subset a),(h.map _).nodup H.nd,H.pM⟩
theorem perm (H:aJ D G w0 w L) {L':List (Nat×List Ad)} (h:L'.Perm L):aJ D G w0 w L':=
 ⟨H.fr,λx a=>H.dp x (h.subset a),λx a=>H.own x (h.subset a),(h.map _).nodup_iff.2 H.nd,H.pM⟩
theorem frame (H:aJ D G w0 w L) {b:List Nat} {L':List (Nat×List Ad)} (h:Fr b w w1) (i: ∀x∈b,w0.heap.size<=x\/x∈G) (d: ∀r∈D,r∉b) (hb: ∀x∈L',bM w1 x.1 x.2) (e: ∀x∈L',w0.heap.size<=x.1\/x.1∈G) (f:(L'.map (·.1)).Nodup):aJ D G w0 w1 L':=
 ⟨⟨h.os.trans H.fr.os,h.tape.trans H.fr.tape,h.output.trans H.fr.output,CO H.fr.size h.size,λk c g=>(h.block k (HM c H.fr.size) (by grind)).trans (H.fr.block k c g)⟩,hb,e,f,λr a=>⟨(H.pM r a).1,by rw[h.block r (DB.1 (H.pM r a).2).1 (d r a)];exact(H.pM r a).2⟩⟩
theorem mod (H:aJ D G w0 w L) (i:Nat) {b:Nat} {l l':List Ad} (c:L[i]? =some (b,l)) (h:Fr [b] w w1) (hb:bM w1 b l'):aJ D G w0 w1 (L.set i (b,l')):=by
 have d:=EU c;refine H.frame h (λx a=>by rw[CX.1 a];exact H.own (b,l) d) (λr g a=>?_) (λx a=>?_) (λx a=>?_) ?_
 ·rw[CX] at a;exact da (H.get c) (H.pM r g).2 (by grind) a.symm
 ·obtain⟨j,f⟩:=Ff a;by_cases e:i=j
  grind
  ·rw[CV e] at f;obtain⟨x1,k⟩:=x;have n:x1≠b:=H.ne f c (λm=>e m.symm);exact h.dp (by grind) (H.dp (x1,k) (by grind))
 ·rcases Gi a with a|rfl
  ·exact H.own x a
  ·exact H.own (b,l) d
 ·have:(L.set i (b,l')).map (·.1)=L.map (·.1):=by
   apply Fs;intro j
   grind
  rw[this];exact H.nd
theorem again (H:aJ D G w0 w L):At (L.map (·.1)) w w L where
 fr:=Fr.refl _ w
 dp:=H.dp
 own:=λx a=> .inr (by grind)
 nd:=H.nd
 pM:=λa=>by grind
theorem join {b:List Nat} {L':List (Nat×List Ad)} (H:aJ D G w0 w L) (d: ∀x∈b,x∈L.map (·.1)) (K:At b w w1 L'):aJ D G w0 w1 L':=by
 have f: ∀x∈b,w0.heap.size<=x\/x∈G:=λx a=>by
  obtain⟨y,c,e⟩:=Av.1 (d x a);rw[<-e];exact H.own y c
 refine H.frame K.fr f (λr g a=>?_) K.dp (λx a=>?_) K.nd
 ·obtain⟨y,c,e⟩:=Av.1 (d r a);exact da (H.dp y c) (H.pM r g).2 (by grind) e
 ·rcases K.own x a with h1|h1
  ·exact .inl (CO H.fr.size h1)
  grind
theorem putObj (H:aJ D G w0 w L) {l:Nat} (h:w0.heap.size<=l) {o o':B1} (d:w.heap[l]? =some o) (hc: ∀a t f,o≠ .cells a t f) (i:l∉D):aJ D G w0 (w.putObj l o') L:=by
 refine⟨⟨H.fr.os,H.fr.tape,H.fr.output,by rw[putObj_size];grind,λk e g=>?_⟩,λx b=>(H.dp x b).putObj (da (H.dp x b) d hc) _,H.own,H.nd,λr c=>⟨(H.pM r c).1,?_⟩⟩
 ·rw[fx (by omega)];exact H.fr.block k e g
 ·rw[fx (by grind)];exact(H.pM r c).2
end aJ
def lI (l:List Ad) (o:Nat):(el:El)->Option el.T
 | .one s=>match l[o]? with
   |some v=>s.proj v
   |none=>none
 | .agg ss=>lT ss ((l.drop o).take ss.length)
theorem dI {w:A2} {b o:Nat} {l:List Ad} (h:bM w b l) {el:El} {x:el.T} (a:lI l o el=some x):cP w (some ⟨b,o,none⟩) el x:=by
 cases el with
 |one=>
  simp[lI] at a;split at a
  ·rename_i hv;exact h.lM (by rw[hv,Sc.fZ a])
  grind
 |agg=>
  have e:=pA a;refine h.ZN λhi=>?_
  grind
theorem aj.of {w:A2} {g:Option Bool} {p:Option AC} {el:El} {K:el.T->Prop} (x:el.T) (h:cP w p el x) (k:K x):aj w g p el K:=
 ⟨x,by cases g<;>first|exact h|exact λ_=>h,k⟩
theorem aF {b:Bool} {x y:Prop} (e:b=true) (h:x):aL b x y:=by grind[ab]
theorem an {b:Bool} {x y:Prop} (e:b=false) (h:y):aL b x y:=by grind[ab]
section
variable {D G:List Nat} {w0 w:A2} {L:List (Nat×List Ad)}
theorem aj.at (i:Nat) (H:aJ D G w0 w L) {g:Option Bool} {el:El} {K:el.T->Prop} {b o:Nat} {l:List Ad} {x:el.T} (a:L[i]? =some (b,l)) (hv:lI l o el=some x) (k:K x):aj w g (some ⟨b,o,none⟩) el K:=
 .of x (dI (H.get a) hv) k
theorem aj.bP (i:Nat) (H:aJ D G w0 w L) {g:Option Bool} {el:El} {K:el.T->Prop} {b o n:Nat} {l:List Ad} {x:el.T} (a:L[i]? =some (b,l)) (hv:lI l (o+n) el=some x) (k:K x):aj w g (ad (some ⟨b,o,none⟩) n) el K:=by
 rw[aR];exact .at i H a hv k
theorem aK.go (H:aJ D G w0 w L) {cs:List Ad} {e:E4} {K:Nat->A2->Prop} (k: ∀b w1,aJ D G w0 w1 ((b,cs)::L)->K b w1):aK w ⟨cs⟩ e K:=
 λ_ h=>k _ _ ((H.ext h).alloc cs e)
theorem aC.at (i:Nat) (H:aJ D G w0 w L) {b o:Nat} {l vs:List Ad} {K:A2->Prop} (a:L[i]? =some (b,l)) (d:vs.all (·.oneCell')=true) (c:o+vs.length<=l.length)
 (k: ∀w1,aJ D G w0 w1 (L.set i (b,l.take o++(vs++l.drop (o+vs.length))))->K w1):aC w (some ⟨b,o,none⟩) vs K:=
 λ_ h=>⟨⟨d,((H.ext h).get a).st c⟩,k _ ((H.ext h).put i a vs c)⟩
theorem aC.all (i:Nat) (H:aJ D G w0 w L) {b:Nat} {l vs:List Ad} {K:A2->Prop} (a:L[i]? =some (b,l)) (c:vs.all (·.oneCell')=true) (d:vs.length=l.length)
 (k: ∀w1,aJ D G w0 w1 (L.set i (b,vs))->K w1):aC w (some ⟨b,0,none⟩) vs K:=by
 refine aC.at i H a c (by omega) λw1 h1=>k w1 ?_
 grind
theorem aC.one (i:Nat) (H:aJ D G w0 w L) {b o:Nat} {l:List Ad} {x:Ad} {K:A2->Prop} (c:L[i]? =some (b,l)) (d:x.oneCell'=true) (a:Nat.blt o l.length=true)
 (k: ∀w1,aJ D G w0 w1 (L.set i (b,l.set o x))->K w1):aC w (some ⟨b,o,none⟩) [x] K:=by
 have a:o<l.length:=by simp_all
 refine aC.at i H c (by grind) (by grind) λw1 h1=>k w1 ?_;rw[show l.set o x=l.take o++([x]++l.drop (o+[x].length)) from by simp[M4,a]]
 grind
theorem aC.fb (i:Nat) (H:aJ D G w0 w L) {b o n:Nat} {l:List Ad} {x:Ad} {K:A2->Prop} (a:L[i]? =some (b,l)) (c:x.oneCell'=true) (d:Nat.blt (o+n) l.length=true)
 (k: ∀w1,aJ D G w0 w1 (L.set i (b,l.set (o+n) x))->K w1):aC w (ad (some ⟨b,o,none⟩) n) [x] K:=by
 rw[aR];exact aC.one i H a c d k
theorem ao.go (H:aJ D G w0 w L) {K:A2->Prop} (k: ∀w1,aJ D G w0 w1 L->K w1):ao w K:=λ_ h=>k _ (H.ext h)
theorem aD.go (H:aJ D G w0 w L) {P:C7} {f:CP} {s:Sh} {args:List Ad} {K:s.T->A2->Prop} (k: ∀w1,aJ D G w0 w1 L->aE P f s args w1 K):aD P f s args w K:=λ_ h=>k _ (H.ext h)
end
open Go.RowKit
variable {D G:List Nat} {w0 wb w w' w1:A2} {L Lb:List (Nat×List Ad)}
theorem aJ.then (a:aJ D G w0 wb L) (H:At [] wb w Lb):aJ D G w0 w L:=a.ext H.all
theorem aJ.below (H:aJ D G w0 w []) (h:Below w0.heap.size w w') (c:w.heap.size<=w'.heap.size) (e:D=[]):aJ D G w0 w' [] where
 fr:=⟨h.os.trans H.fr.os,h.tape.trans H.fr.tape,h.output.trans H.fr.output,CO H.fr.size c,λk a d=>(h.block k a).trans (H.fr.block k a d)⟩
 dp:=λb=>by grind
 own:=λb=>by grind
 nd:=EO
 pM:=λb=>by grind
theorem At.aaV (i:Nat) (c:At G w0 wb []) {e:El} {s:Option AC×Nat×Nat} {xs:List e.T} (f:lD w0 wb e s xs) (H:At [] wb w Lb)
 {b:Nat} {l:List Ad} (x:e.T) (g:Lb[i]? =some (b,l)) (h:l=cellsOf e x) (j:gU e=true) {t:E4} {size bytes:Nat} {z:Array Ad} (m:size=aG e) (n:z.size=aG e) (hb:(xs.length+1)*bytes<=140737488355328)
 {R:Option AC×Nat×Nat->A2->Prop} (k: ∀s' w',At G w0 w' []->lD w0 w' e s' (xs++[x])->R s' w'):
 m7 w t size bytes z s (some ⟨b,0,none⟩,1,1) R:=by
 subst m;subst h;have a:=CO c.fr.size H.fr.size;have o:=(f.ext H.all).toN.of (Nat.le_of_eq (iz a));refine lu (ys:=[x]) o (p_ a) j rfl ?_ n hb λs' w' p q _ d _=>k s' w' ((c.then H).below (zx a q d) d rfl) ?_
 ·refine(H.get g).qn (aI e _) λr=>?_;simp[flat]
 ·have:=p.toN;rw[iz a] at this;exact this
theorem aj.fa (H:aJ D G w0 w L) {b o:Nat} {l:List Ad} (h:bM w0 b l) (hb:b∉G) {g:Option Bool} {el:El} {K:el.T->Prop} {x:el.T} (hv:lI l o el=some x) (k:K x):aj w g (some ⟨b,o,none⟩) el K:=
 .of x (dI (H.fa h hb) hv) k
theorem aj.kR (H:aJ D G w0 w L) {b o n:Nat} {l:List Ad} (h:bM w0 b l) (hb:b∉G) {g:Option Bool} {el:El} {K:el.T->Prop} {x:el.T} (hv:lI l (o+n) el=some x) (k:K x):aj w g (ad (some ⟨b,o,none⟩) n) el K:=by
 rw[aR];exact .fa H h hb hv k
theorem lD.start (w0 w:A2) (e:El):lD w0 w e (none,0,0) []:=lD.nil w0 w e
theorem aJ.more (H:aJ D G w0 w L) (h:Ext w w') {b:Nat} {l:List Ad} (hb:w.heap.size<=b) (k:bM w' b l):aJ D G w0 w' ((b,l)::L):=by
 have c:=H.ext h;refine⟨c.fr,λx a=>?_,λx a=>?_,?_,c.pM⟩
 ·rcases BK.1 a with rfl|a
  ·grind
  ·exact c.dp x a
 ·rcases BK.1 a with rfl|a
  ·exact .inl (CO H.fr.size hb)
  ·exact c.own x a
 ·refine BO.2 ⟨λd=>?_,H.nd⟩;obtain⟨x,a,e⟩:=Av.1 d;have:=(H.dp x a).lt
  grind
theorem aJ.got (H:aJ D G w0 w L) (h:Ext w w') {e:El} {r:Option AC×Nat×Nat} {xs:List e.T} (a:lD w w' e r xs) (i:xs≠[]):
 ∃b c rest,r=(some ⟨b,0,none⟩,xs.length,c)/\aJ D G w0 w' ((b,flat e xs++rest)::L):=by
 obtain⟨h1,j,d⟩:=a;obtain⟨p,n,c⟩:=r;rcases d with ⟨⟩|⟨b,l,a1,f,k, _,g⟩
 grind
 ·subst a1;subst h1;refine⟨b,c,l.drop (xs.length*aG e),rfl,H.more h f ?_⟩;have el:l=flat e xs++l.drop (xs.length*aG e):=by rw[<-g,Db]
  grind
theorem j8 {α:Sort _} {e:α} {K:α->Prop} (k:K e): ∀x,x=e->K x:=by grind
def Tx (P:C7) (c:CP) (args:Nat->List Ad) (n:Nat) (b:Nat->Option (List Ad)) (St:A2->Prop):Prop:=
 ∀(y:Nat) (w:A2) (J:Nat->A2->Prop) (a:A2->Prop),
  (∀i w w',J i w->Ext w w'->J i w')->(∀w w',a w->Ext w w'->a w')->(∀i w,J i w->St w)->
  (∀i,i<n->b i=none-> ∀w,J i w->J (i+1) w)->
  (∀i v,i<n->b i=some v-> ∀w (R:Bool->A2->Prop),J i w->(∀w',J (i+1) w'->R true w')->(∀w',a w'->R false w')->ma P y v w R)->
  J 0 w->Calls P c ⟨args y⟩ w (λe w'=> ∃v,e= .returned v/\(J n w'\/a w'))
section
variable {D G:List Nat} {w0 w:A2} {L:List (Nat×List Ad)}
def xB (D G:List Nat) (w0 w:A2) (L:List (Nat×List Ad)) (l:Nat) (rec:Loop):Prop:=w0.heap.size<=l/\aJ D G w0 w L/\cU w l rec .ready none
def ZP (D G:List Nat) (w0 w:A2) (L:List (Nat×List Ad)) (l:Nat) (rec:Loop):Prop:=w0.heap.size<=l/\aJ D G w0 w L/\cU w l rec .busy none
def Xh (D G:List Nat) (w0 w:A2) (L:List (Nat×List Ad)) (l:Nat) (rec:Loop) (j:Code):Prop:=w0.heap.size<=l/\aJ D G w0 w L/\cU w l rec .done (some j)
theorem rO {l:Nat} {rec:Loop} {st:LoopState} {b:Option Code} (H:aJ D G w0 w L) (h:cU w l rec st b):l∉D/\l∉L.map (·.1):=by
 refine⟨λa=>?_,λa=>?_⟩
 ·have:=(H.pM l a).2;rw[h] at this
  grind
 ·obtain⟨x,c,e⟩:=Av.1 a;exact aJ.da (H.dp x c) h (by grind) e
theorem aJ.sv {l:Nat} {rec:Loop} {st:LoopState} {a:Option Code} (H:aJ D G w0 w L) (b:w0.heap.size<=l) (h:cU w l rec st a) (c:LoopState) (d:Option Code):aJ D G w0 (RX.sv w l rec c d) L:=
 H.putObj b h (by grind) (rO H h).1
theorem CQ.go {l n m:Nat} {rec:Loop} {K:Prop} (h:xB D G w0 w L l rec) (a:n=m) (k:K):CQ l rec n m w K:=⟨⟨none,h.2.2⟩,a,k⟩
theorem Bu.go {l:Nat} {rec:Loop} {K:A2->Prop} (h:xB D G w0 w L l rec) (k: ∀wb,At (L.map (·.1)) wb wb L->ZP D G w0 wb L l rec->K wb):Bu l rec w K:=λg b=>by
 obtain⟨c,H,e⟩:=h;have f:=H.ext b;have a:=e.ext b;have d:=f.sv c a .busy none;exact⟨none,a,k _ d.again ⟨c,d,a.put _ _⟩⟩
theorem rY.go {l:Nat} {rec:Loop} {j:Option Code} {wb d:A2} {L':List (Nat×List Ad)} {R:Bool->A2->Prop} (h:ZP D G w0 wb L l rec) (e:At (L.map (·.1)) wb d L')
 (k: ∀a,w0.heap.size<=l->aJ D G w0 a L'->cU a l rec (if j.isNone then .ready else .done) j->R j.isNone a):rY l rec j d R:=λa f=>by
 obtain⟨g,H,b⟩:=h;have i:=(H.join (λx m=>m) e).ext f;have n:=b.same (e.fr.block l b.lt (rO H b).2);have c:=n.ext f;exact⟨.busy,none,c,k _ g (i.sv g c _ _) (c.put _ _)⟩
theorem rY.next {l:Nat} {rec:Loop} {wb e:A2} {L':List (Nat×List Ad)} {R:Bool->A2->Prop} (h:ZP D G w0 wb L l rec) (f:At (L.map (·.1)) wb e L') (k: ∀d,xB D G w0 d L' l rec->R true d):rY l rec none e R:=
 rY.go h f λd a b c=>k d ⟨a,b,c⟩
theorem rY.left {l:Nat} {rec:Loop} {j:Code} {wb e:A2} {L':List (Nat×List Ad)} {R:Bool->A2->Prop} (h:ZP D G w0 wb L l rec) (f:At (L.map (·.1)) wb e L') (k: ∀d,Xh D G w0 d L' l rec j->R false d):rY l rec (some j) e R:=
 rY.go h f λd a b c=>k d ⟨a,b,c⟩
theorem dv.none {l:Nat} {rec:Loop} {Kn Kr:A2->Prop} {Kx:Nat->A2->Prop} (h:xB D G w0 w L l rec) (k: ∀a,aJ D G w0 a L->Kn a):dv l rec w Kn Kx Kr:=
 ⟨.ready,.none,h.2.2,by simp,k _ (h.2.1.sv h.1 h.2.2 _ _)⟩
theorem dv.ret {l:Nat} {rec:Loop} {Kn Kr:A2->Prop} {Kx:Nat->A2->Prop} (h:Xh D G w0 w L l rec .ret) (k: ∀a,aJ D G w0 a L->Kr a):dv l rec w Kn Kx Kr:=
 ⟨.done,.some _,h.2.2,by simp,k _ (h.2.1.sv h.1 h.2.2 _ _)⟩
theorem vF: ∀(m:Nat) (z:List Ad) (i:Nat),i<m*z.length->(EW m z).flatten[i]? =z[i % z.length]?
 |0,z,i,h=>by grind
 |m+1,z,i,h=>by
  rw[List.replicate_succ,List.flatten_cons];by_cases hi:i<z.length
  ·rw[H4 hi,No hi]
  ·rw[IR (by omega),vF m z _ (by grind), <-Nat.mod_eq_sub_mod (by omega)]
theorem Ge (m:Nat) (z:List Ad):nA ⟨z⟩ (m*z.length)=⟨(EW m z).flatten⟩:=by
 have a:(EW m z).flatten.length=m*z.length:=by simp
 apply Jt;apply Fs;intro i;unfold nA;by_cases i<m*z.length
 ·grind[vF]
 grind
theorem E7.go (H:aJ D G w0 w L) {bytes size:Nat} {n m:Int} {z:List Ad} {e:E4} {K:Nat->A2->Prop} (a:size=z.length) (h0:0<=n) (h1:n<=m) (c:m<4611686018427387904) (d:bytes*m<=281474976710656)
 (k: ∀b w1,aJ D G w0 w1 ((b,(EW m.toNat z).flatten)::L)->K b w1):E7 w bytes size n m ⟨z⟩ e K:=λw1 h=>by
 refine⟨⟨h0,by omega⟩,?_⟩;rw[a,Ge];exact k _ _ ((H.ext h).alloc _ e)
theorem gq (e:El) (x:e.T) (m:Nat):flat e (EW m x)=(EW m (cellsOf e x)).flatten:=by
 simp[flat,List.flatMap_replicate]
theorem m7.copy (H:aJ D G w0 w L) {e:El} {ys:List e.T} {b n c:Nat} {l:List Ad} (hb:bM w b l) (o:l.take (ys.length*aG e)=flat e ys) (d:n=ys.length) (p:ys≠[]) (f:gU e=true) {t:E4} {size bytes:Nat} {z:Array Ad} (g:size=aG e) (h:z.size=aG e) (q:ys.length*bytes<=140737488355328)
 {R:Option AC×Nat×Nat->A2->Prop} (k: ∀a i rest w',aJ D G w0 w' ((a,flat e ys++rest)::L)->R (some ⟨a,0,none⟩,n,i) w'):
 m7 w t size bytes z (none,0,0) (some ⟨b,0,none⟩,n,c) R:=by
 subst g;subst d;refine lu (lD.nil w w e) (Ext.refl w) f rfl ?_ h (by grind) λs' w' j m _=>?_
 ·refine hb.qn (aI e ys) λhi=>?_
  grind
 ·obtain:=H.got m j
  grind
theorem rZ.go {r:Nat} {K:A2->Prop} (H:aJ [r] G w0 w L) (k: ∀w1,At G w0 w1 L->K w1):rZ [r] w K:=λw1 h=>by
 have a:=H.ext h;have b:=a.pM r (by simp);refine⟨⟨b.2,trivial⟩,k _ ?_⟩;have c:At G w0 w1 L:=⟨a.fr,a.dp,a.own,a.nd,by simp⟩;exact c.putObj b.1 b.2 (by grind) (by simp)
theorem zz.inv {P:C7} {p:CP} {args:Nat->List Ad} {ps:Array Nat} {T:Type} {g:T->List Ad} {q:Nat->Loop->T->A2->(Bool->A2->Prop)->Prop} {m:Nat->Loop->A2->Prop} (H:aJ D G w0 w L)
 {n:Nat} {f:Nat->Option (List Ad)} {St:A2->Prop} (u:Tx P p args n f St) (Inv:Nat->List (Nat×List Ad)->Prop) (Q:Code->List (Nat×List Ad)->Prop) (h0:Inv 0 L)
 (y: ∀z i w' L',Inv i L'->aJ z G w0 w' L'->St w') (J: ∀i L',i<n->f i=none->Inv i L'->Inv (i+1) L') (K: ∀i v,i<n->f i=some v-> ∃x,v=g x)
 (M: ∀i x L',i<n->f i=some (g x)->Inv i L'-> ∀r l rec s (R:Bool->A2->Prop),xB (r::D) G w0 s L' l rec->(∀c w',Inv (i+1) c->xB (r::D) G w0 w' c l rec->R true w')->(∀j c w',Q j c->Xh (r::D) G w0 w' c l rec j->R false w')->q l rec x s R)
 (N: ∀L' r rec d,Inv n L'->xB (r::D) G w0 d L' (r+1) rec->m r rec d) (O: ∀j L' r rec d,Q j L'->Xh (r::D) G w0 d L' (r+1) rec j->m r rec d):zz P p args ps w g q m:=by
 intro w1 h1 rec _ _ A B S;have t:=H.ext h1;have sz:(w1.alloc (.deferred (some []))).heap.size=w1.heap.size+1:=lr _ _;have C:rec={rec with state:= .ready,pending:= .none}:=by rw[<-A, <-B]
 have E:w0.heap.size<=w1.heap.size:=t.fr.size;have F:xB (w1.heap.size::D) G w0 ((w1.alloc (.deferred (some []))).alloc (.loop rec)) L (w1.heap.size+1) rec:=by
  refine⟨by omega,?_,?_⟩
  ·have e:=(t.o7 (.deferred (some []))).o7 (.loop rec);refine⟨e.fr,e.dp,e.own,e.nd,λr o=>?_⟩;rcases BK.1 o with rfl|o
   ·exact⟨E,(Ext.alloc _ _).obj (eO w1 _)⟩
   ·exact e.pM r o
  ·have:=eO (w1.alloc (.deferred (some []))) (.loop rec);rw[sz] at this;unfold cU;rw[this,C]
 refine Calls.mono (u _ _ (λi w'=> ∃L',Inv i L'/\xB (w1.heap.size::D) G w0 w' L' _ rec) (λw'=> ∃j L',Q j L'/\Xh (w1.heap.size::D) G w0 w' L' (w1.heap.size+1) rec j) ?_ ?_ ?_ ?_ ?_ ⟨L,h0,F⟩) ?_
 ·exact λi a b ⟨L',hi,h⟩ k=>⟨L',hi,h.1,h.2.1.ext k,h.2.2.ext k⟩
 ·exact λa b ⟨j,L',I,h⟩ k=>⟨j,L',I,h.1,h.2.1.ext k,h.2.2.ext k⟩
 ·exact λi a ⟨L',hi,h⟩=>y _ i a L' hi h.2.1
 ·grind
 grind
 grind
theorem zz.go {P:C7} {e:CP} {args:Nat->List Ad} {ps:Array Nat} {T:Type} {c:T->List Ad} {f:Nat->Loop->T->A2->(Bool->A2->Prop)->Prop} {d:Nat->Loop->A2->Prop} (H:aJ D G w0 w L)
 {n:Nat} {b:Nat->Option (List Ad)} {St:A2->Prop} (h:Tx P e args n b St) (Ls:Nat->List (Nat×List Ad)) (Q:Code->List (Nat×List Ad)->Prop) (h0:Ls 0=L)
 (p: ∀k i w',aJ k G w0 w' (Ls i)->St w') (q: ∀i,i<n->b i=none->Ls (i+1)=Ls i) (m: ∀i v,i<n->b i=some v-> ∃x,v=c x)
 (s: ∀i x,i<n->b i=some (c x)-> ∀r l rec g (R:Bool->A2->Prop),xB (r::D) G w0 g (Ls i) l rec->(∀w',xB (r::D) G w0 w' (Ls (i+1)) l rec->R true w')->(∀j L' w',Q j L'->Xh (r::D) G w0 w' L' l rec j->R false w')->f l rec x g R)
 (t: ∀r rec a,xB (r::D) G w0 a (Ls n) (r+1) rec->d r rec a) (o: ∀j L' r rec a,Q j L'->Xh (r::D) G w0 a L' (r+1) rec j->d r rec a):zz P e args ps w c f d:=
 zz.inv H h (λi L'=>L'=Ls i) Q h0.symm (by grind) (by grind) m
  (by grind) (by grind) o
theorem aJ.aaW (H:aJ D G w0 w L) {b:Nat} (hb:b<w0.heap.size) (d:b∉G):b∉L.map (·.1):=λa=>by
 obtain⟨x,c,e⟩:=Av.1 a;rcases H.own x c
 grind
 grind
theorem aJ.dq {wb w1:A2} {L':List (Nat×List Ad)} (H:aJ D G w0 wb L) (K:At (L.map (·.1)) wb w1 L') {b:Nat} {l:List Ad} (h:bM w0 b l) (a:b∉G):bM w1 b l:=
 K.fa (H.fa h a) (H.aaW h.lt a)
theorem At.rE {b:Nat} {l:List Ad} (h:bM w b l):At [b] w w [(b,l)] where
 fr:=Fr.refl _ w
 dp:=λa=>by grind
 own:=λx a=> .inr (by grind)
 nd:=by simp
 pM:=λa=>by grind
theorem eh {w:A2} {b:Nat} {e:El} {xs:List e.T} {rest:List Ad} (h:bM w b (flat e xs++rest)) {i:Nat} {x:e.T} (a:xs[i]? =some x):cP w (ad (some ⟨b,0,none⟩) (i*aG e)) e x:=
 (Sl.jC h (by simp[aI]) i x a).2
theorem yE (e:El): ∀(xs:List e.T) (i:Nat) (y:e.T) (rest:List Ad),i<xs.length->(flat e xs++rest).take (i*aG e)++(cellsOf e y++(flat e xs++rest).drop (i*aG e+(cellsOf e y).length))=flat e (xs.set i y)++rest
 |x::xs,0,y,rest, _=>by
  simp[flat];rw[dm, <-dm,List.drop_left]
 |x::xs,i+1,y,rest,h=>by
  have a:=yE e xs i y rest (by grind);have b:(i+1)*aG e=(cellsOf e x).length+i*aG e:=by rw[dm,Jo];omega
  simp[flat] at a ⊢;rw[b,List.take_length_add_append,E6,Nat.add_assoc,M5,a]
theorem aC.flat (j:Nat) (H:aJ D G w0 w L) {b i:Nat} {e:El} {xs:List e.T} {rest vs:List Ad} (y:e.T) {K:A2->Prop} (a:L[j]? =some (b,RX.flat e xs++rest)) (hv:vs=cellsOf e y) (c:gU e=true) (hi:i<xs.length)
 (k: ∀w1,aJ D G w0 w1 (L.set j (b,RX.flat e (xs.set i y)++rest))->K w1):aC w (ad (some ⟨b,0,none⟩) (i*aG e)) vs K:=by
 rw[aR,Bx];subst hv;refine aC.at j H a ?_ ?_ λw1 h1=>k w1 ?_
 ·have:=jJ e [y] c;simpa[RX.flat]
 ·rw[dm,Bz,aI];have:(i+1)*aG e<=xs.length*aG e:=G1 _ hi
  grind
 ·rw[yE e xs i y rest hi] at h1;grind
theorem aD.C_ (H:aJ D G w0 w L) (j:Nat) {b:Nat} {l l':List Ad} (c:L[j]? =some (b,l)) {P:C7} {f:CP} {s:Sh} {args:List Ad} {v:s.T} {K:s.T->A2->Prop}
 (hc: ∀w1,aJ D G w0 w1 L->aE P f s args w1 (λx w'=>x=v/\bM w' b l'/\Fr [b] w1 w')) (k: ∀a,aJ D G w0 a (L.set j (b,l'))->K v a):aD P f s args w K:=λw1 h=>
 (hc w1 (H.ext h)).mono λx a ⟨d,hb,e⟩=>by subst d;exact k a ((H.ext h).mod j c e hb)
theorem aD.val (H:aJ D G w0 w L) {P:C7} {f:CP} {s:Sh} {args:List Ad} (v:s.T) {K:s.T->A2->Prop}
 (hc: ∀w1,aJ D G w0 w1 L->aE P f s args w1 (λx w'=>x=v/\Ext w1 w')) (k: ∀a,aJ D G w0 a L->K v a):aD P f s args w K:=λw1 h=>
 (hc w1 (H.ext h)).mono λx a ⟨b,c⟩=>by subst b;exact k a ((H.ext h).ext c)
theorem ah.of {P:C7} {f:CP} {s:Sh} {args:List Ad} {v:s.T} (h: ∀w',Ext w w'->aE P f s args w' (λx a=>x=v/\Ext w' a)):ah P f args w (s.gR v):=
 λw' b=>bW (h w' b)
theorem aJ.grow {e:El} {s:Option AC×Nat×Nat} {xs:List e.T} {x:e.T} {b:Nat} {Ls L0:List (Nat×List Ad)} (H:aJ D G w0 w ((b,cellsOf e x)::(Ls++L0)))
 (q:(s=(none,0,0)/\xs=[]/\Ls=[])\/ ∃bs c rest,s=(some ⟨bs,0,none⟩,xs.length,c)/\Ls=[(bs,flat e xs++rest)]/\(flat e xs++rest).length=c*aG e/\xs.length<=c)
 (Q:gU e=true) {t:E4} {size bytes:Nat} {z:Array Ad} (v:size=aG e) (S:z.size=aG e) (hb:(xs.length+1)*bytes<=140737488355328)
 {R:Option AC×Nat×Nat->A2->Prop} (k: ∀bs c rest w',(flat e (xs++[x])++rest).length=c*aG e->xs.length+1<=c->aJ D G w0 w' ((bs,flat e (xs++[x])++rest)::L0)->R (some ⟨bs,0,none⟩,xs.length+1,c) w'):
 m7 w t size bytes z s (some ⟨b,0,none⟩,1,1) R:=by
 subst v;have U:(vk 0 w).heap.size=0:=iz (Fv _);have V:lD (vk 0 w) w e s xs:=by
  rcases q with ⟨rfl,rfl, _⟩|⟨bs,c,rest,rfl,rfl,h1,m⟩
  ·exact lD.nil _ _ _
  ·refine⟨rfl,m,.inr ⟨bs, _,rfl,by rw[U];exact Fv _,H.get (i:=1) rfl,h1,?_⟩⟩;rw[In (by rw[aI];exact DA _),J3 (by rw[aI];exact DA _)]
 have W:bM w b (cellsOf e x):=H.get (i:=0) rfl;refine lu (ys:=[x]) V (p_ (Fv _)) Q rfl ?_ S hb λs' w' X g I v J=>?_
 ·refine W.qn (aI e [x]) λj hj=>?_;simp[flat]
 ·obtain⟨p,n,c⟩:=s';obtain⟨h1,m,K⟩:=X;simp only at h1 m K J;have Y:(xs++[x]).length=xs.length+1:=by simp
  rcases K with ⟨_,Z, _⟩|⟨bs,l,a1, _,a3,a4,a5⟩
  ·simp at Z
  ·subst a1;rw[Y] at h1 m;subst h1;have el:l=flat e (xs++[x])++l.drop ((xs++[x]).length*aG e):=by rw[<-a5,Db]
   refine k bs c (l.drop ((xs++[x]).length*aG e)) w' (by rw[<-el];exact a4) m ?_;rw[<-el];have hG': ∃B,Fr B w w'/\(∀y∈B,y∈Ls.map (·.1)):=by
    rcases q with ⟨rfl, _,rfl⟩|⟨bo,co,L,rfl,rfl, _, _⟩
    ·exact⟨[],⟨g.os,g.tape,g.output,v,λy d _=>I y d (λa C=>by cases C)⟩,λy d=>by cases d⟩
    ·exact⟨[bo],⟨g.os,g.tape,g.output,v,λy d hn=>I y d (λa C=>by cases C;simpa using hn)⟩,λy d=>by simpa using d⟩
   obtain⟨B,M,N⟩:=hG';have E:=H.nd;simp only[Bv,E9,BO,H5,EY] at E;have O: ∀y∈Ls.map (·.1),w0.heap.size<=y\/y∈G:=λy d=>by
    obtain⟨u,o,rfl⟩:=Av.1 d;exact H.own u (Bp _ (CH _ o))
   have P:bs∈Ls.map (·.1)\/w.heap.size<=bs:=by
    rcases J with ⟨a,f,A⟩|⟨a,f,A⟩|f
    ·cases f;rcases q with ⟨rfl, _, _⟩|⟨bo,co,L,rfl,rfl, _, _⟩
     ·cases A
     ·cases A;exact .inl (by simp)
    ·cases f;exact .inr A
    ·rcases q with ⟨rfl, _, _⟩|⟨bo,co,L,rfl,rfl, _, _⟩
     ·cases f
     grind
   refine H.frame M (λy d=>O y (N y d)) (λr hr d=>?_) (λy d=>?_) (λy d=>?_) ?_
   ·obtain⟨u,o,f⟩:=Av.1 (N r d);exact aJ.da (H.dp u (Bp _ (CH _ o))) (H.pM r hr).2 (λ_ _ _ hc=>by cases hc) f
   ·rcases BK.1 d with rfl|d
    ·exact a3
    ·refine M.dp (λF=>?_) (H.dp y (Bp _ (Cb _ d)))
     grind
   ·rcases BK.1 d with rfl|d
    ·rcases P with h|h
     ·exact O _ h
     ·exact .inl (CO H.fr.size h)
    ·exact H.own y (Bp _ (Cb _ d))
   ·refine BO.2 ⟨λF=>?_,E.2.2.1⟩;rcases P with h|h
    ·exact E.2.2.2 bs h bs F rfl
    ·obtain⟨u,o,f⟩:=Av.1 F;have:=(H.dp u (Bp _ (Cb _ o))).lt;simp only at f h;omega
def n5 (e:El) (rows:List (Nat×List Ad)) (r:Option AC×Nat×Nat) (xs:List e.T):Prop:=
 r.2.1=xs.length/\((xs=[]/\rows=[])\/ ∃b rest,r.1=some ⟨b,0,none⟩/\rows=[(b,RX.flat e xs++rest)])
theorem aJ.abP {w':A2} (H:aJ D G w0 w L) (h:Ext w w') {e:El} {r:Option AC×Nat×Nat} {xs:List e.T} (a:lD w w' e r xs): ∃rows,aJ D G w0 w' (L++rows)/\n5 e rows r xs:=by
 by_cases d:xs=[]
 ·exact⟨[],by rw[H6];exact H.ext h,a.len,by grind⟩
 ·obtain⟨b,c,rest,rfl,f⟩:=H.got h a d;exact⟨[(b,RX.flat e xs++rest)],f.perm (M7 _ _),rfl,by simp⟩
theorem n5.sl {e:El} {rows:List (Nat×List Ad)} {r:Option AC×Nat×Nat} {xs:List e.T} (h:n5 e rows r xs) (H:aJ D G w0 w L) (a: ∀x∈rows,x∈L):Sl w e r.1 xs:=by
 rcases h.2 with ⟨rfl, _⟩|⟨b,rest,h1,rfl⟩
 ·intro;grind
 ·rw[h1];refine Sl.jC (H.dp _ (a _ (CX.2 rfl))) ?_;rw[In (by rw[aI];simp),J3 (by rw[aI];simp)]
theorem aD.X_ (H:aJ D G w0 w L) {P:C7} {f:CP} {args:List Ad} {e:El} {xs:List e.T} {K:(Option AC×Nat×Nat)->A2->Prop}
 (hc: ∀w',aJ D G w0 w' L->aE P f (.el (.one .slice)) args w' (λr a=>lD w' a e r xs/\Ext w' a)) (k: ∀r rows w1,aJ D G w0 w1 (L++rows)->n5 e rows r xs->K r w1):
 aD P f (.el (.one .slice)) args w K:=λw1 h=>(hc w1 (H.ext h)).mono λx d ⟨b,c⟩=>by
 obtain:=(H.ext h).abP c b
 grind
end
def NC (o:B1):Prop:= ∀a t f,o≠ .cells a t f
def Ob (l:Nat) (w w':A2):Prop:= ∀r o,r≠l->NC o->w.heap[r]? =some o->w'.heap[r]? =some o
theorem Ob.trans {l:Nat} {a b c:A2} (h:Ob l a b) (k:Ob l b c):Ob l a c:=λr o d e f=>k r o d e (h r o d e f)
theorem Ob.uE {l:Nat} {a b:A2} (h:Ext a b):Ob l a b:=λ_ _ _ _ c=>h.obj c
theorem Ob.put (l:Nat) (w:A2) (o:B1):Ob l w (w.putObj l o):=λr o' a _ b=>by rw[fx a];grind
structure JK {T:Type} (bm:Nat) (mc:List Ad->Prop) (J:List T->List (Nat×List Ad)->List (Nat×B1)->A2->Prop):Prop where
 step: ∀{a X O w w' l' Y},J a X O w->Fr [bm] w w'->bM w' bm l'->mc l'->(∀y∈Y,w.heap.size<=y.1/\bM w' y.1 y.2)->(Y.map (·.1)).Nodup->J a (Y++X) O w'
 mem: ∀{a X O w},J a X O w-> ∃l,mc l/\bM w bm l
 dp: ∀{a X O w x},J a X O w->x∈X->x.1≠bm/\bM w x.1 x.2
 obj: ∀{a X O w r o},J a X O w->(r,o)∈O->w.heap[r]? =some o
 alO: ∀{a X O w o},J a X O w->NC o->J a X ((w.heap.size,o)::O) (w.alloc o)
 ZR: ∀{a X O w r o o'},J a X ((r,o)::O) w->NC o'->J a X ((r,o')::O) (w.putObj r o')
 sub: ∀{a X O X' O' w},J a X O w->(∀x∈X',x∈X)->O'.Sublist O->J a X' O' w
 perm: ∀{a X O O' w},J a X O w->O'.Perm O->J a X O' w
def Yd {T:Type} (P:C7) (y:Nat) (b:T->List Ad) (N:Nat) (J:List T->List (Nat×List Ad)->List (Nat×B1)->A2->Prop):Prop:=
 ∀a x X O w (R:Bool->A2->Prop),a.length<N->J a X O w->(∀w',J (a++[x]) X O w'->R true w')->ma P y (b x) w R
def ItJ {T:Type} (P:C7) (b:CP) (args:Nat->List Ad) (c:T->List Ad) (N bm:Nat) (mc:List Ad->Prop) (d:List (Nat×List Ad)) (xs:List T):Prop:=
 ∀(y:Nat) (J:List T->List (Nat×List Ad)->List (Nat×B1)->A2->Prop),JK bm mc J->Yd P y c N J-> ∀a X O w,a.length+xs.length<=N->(∀x∈d,x∈X)->J a X O w->
  Calls P b ⟨args y⟩ w (λe w'=> ∃v,e= .returned v/\J (a++xs) X O w')
section
variable {T:Type} {bm:Nat} {mc:List Ad->Prop} {J:List T->List (Nat×List Ad)->List (Nat×B1)->A2->Prop} {a:List T} {X:List (Nat×List Ad)} {O:List (Nat×B1)} {w w':A2}
theorem JK.ext (K:JK bm mc J) (j:J a X O w) (h:Ext w w'):J a X O w':=by
 obtain⟨l,h1,b⟩:=K.mem j;exact K.step (Y:=[]) j (.uE h) (b.ext h) h1 (by grind) (by grind)
theorem JK.sL (K:JK bm mc J) (j:J a X O w) {Y:List (Nat×List Ad)} {l':List Ad} (H:At [bm] w w' (Y++[(bm,l')])) (c:mc l'):J a (Y++X) O w':=by
 have b:=H.nd;rw[E9,H5] at b;refine K.step j H.fr (H.dp (bm,l') (by simp)) c (λy d=>⟨?_,H.dp y (by grind)⟩) b.1;rcases H.own y (by grind)
 ·grind
 grind
theorem JK.at0 (K:JK bm mc J) (j:J a X O w): ∃l,mc l/\At [bm] w w [(bm,l)]:=by
 obtain⟨l,h1,b⟩:=K.mem j;exact⟨l,h1,At.rE b⟩
theorem JK.close (K:JK bm mc J): ∀(D:List Nat) {w:A2},J a X (D.map (λr=>(r,Obj.deferred (some [])))++O) w->Dp D w/\J a X O (mi D w)
 |[], _,j=>⟨trivial,j⟩
 |r::D,w,j=>by
  have h:=K.obj j (r:=r) (o:= .deferred (some [])) (by simp);have b:=K.ZR (o':= .deferred none) j λ_=>by grind
  obtain⟨h1,c⟩:=K.close D (K.sub b (λ_ h=>h) (BL _ _));exact⟨⟨h,h1⟩,c⟩
theorem JK.rZ (K:JK bm mc J) (D:List Nat) (j:J a X (D.map (λr=>(r,Obj.deferred (some [])))++O) w) {Q:A2->Prop} (k: ∀w1,J a X O w1->Q w1):rZ D w Q:=λw1 h1=>by
 obtain:=K.close D (K.ext j h1)
 grind
abbrev M6 (rec:Loop):B1:= .loop {rec with state:= .ready,pending:=none}
abbrev lpB (rec:Loop):B1:= .loop {rec with state:= .busy,pending:=none}
theorem HO (rec:Loop) (st:LoopState) (a:Option Code):NC (.loop {rec with state:=st,pending:=a}):=λe=>by grind
theorem CQ.Xk (K:JK bm mc J) {l n m:Nat} {rec:Loop} (j:J a X ((l,M6 rec)::O) w) {Q:Prop} (b:n=m) (k:Q):CQ l rec n m w Q:=⟨⟨none,K.obj j (by simp)⟩,b,k⟩
theorem Bu.Xk (K:JK bm mc J) {l:Nat} {rec:Loop} (j:J a X ((l,M6 rec)::O) w) {Q:A2->Prop} (k: ∀wb,J a X ((l,lpB rec)::O) wb->Q wb):Bu l rec w Q:=λd c=>by
 have b:=K.ext j c;exact⟨none,K.obj b (by simp),k _ (K.ZR b (HO rec _ _))⟩
theorem rY.Xk (K:JK bm mc J) {l:Nat} {rec:Loop} (j:J a X ((l,lpB rec)::O) w) {R:Bool->A2->Prop} (k: ∀b,J a X ((l,M6 rec)::O) b->R true b):rY l rec none w R:=λe d=>by
 have c:=K.ext j d;exact⟨.busy,none,K.obj c (by simp),k _ (K.ZR c (HO rec _ _))⟩
theorem dv.Xk (K:JK bm mc J) {l:Nat} {rec:Loop} (j:J a X ((l,M6 rec)::O) w) {Kn Kr:A2->Prop} {Kx:Nat->A2->Prop} (k: ∀b,J a X O b->Kn b):dv l rec w Kn Kx Kr:=
 ⟨.ready,.none,K.obj j (by simp),by simp,k _ (K.sub (K.ZR j (HO rec _ _)) (λ_ h=>h) (by grind))⟩
end
section
variable {D G:List Nat} {w0 w:A2} {L:List (Nat×List Ad)}
theorem Bu.goO {l:Nat} {rec:Loop} {K:A2->Prop} (h:xB D G w0 w L l rec) (k: ∀wb,At (L.map (·.1)) wb wb L->ZP D G w0 wb L l rec->Ob l w wb->K wb):Bu l rec w K:=λg a=>by
 obtain⟨c,H,e⟩:=h;have f:=H.ext a;have b:=e.ext a;have d:=f.sv c b .busy none;exact⟨none,b,k _ d.again ⟨c,d,b.put _ _⟩ ((Ob.uE a).trans (Ob.put _ _ _))⟩
theorem Ob.sL {l:Nat} {wb a:A2} {L':List (Nat×List Ad)} (H:aJ D G w0 wb L) (c:At (L.map (·.1)) wb a L'):Ob l wb a:=λr o _ d b=>by
 rw[c.fr.block r (DB.1 b).1 λf=>?_]
 ·grind
 ·obtain⟨x,g,e⟩:=Av.1 f;exact aJ.da (H.dp x g) b d e
theorem rY.kV {l:Nat} {rec:Loop} {wb f:A2} {L':List (Nat×List Ad)} {R:Bool->A2->Prop} (h:ZP D G w0 wb L l rec) (b:At (L.map (·.1)) wb f L') (k: ∀a,xB D G w0 a L' l rec->Ob l wb a->R true a):rY l rec none f R:=λa c=>by
 obtain⟨g,H,d⟩:=h;have i:=(H.join (λx j=>j) b).ext c;have m:=d.same (b.fr.block l d.lt (rO H d).2);have e:=m.ext c;exact⟨.busy,none,e,k _ ⟨g,i.sv g e _ _,e.put _ _⟩ (((Ob.sL H b).trans (Ob.uE c)).trans (Ob.put _ _ _))⟩
theorem zz.Nv {T:Type} {P:C7} {fQ:CP} {args:Nat->List Ad} {ps:Array Nat} {em:T->List Ad} {Rd:Nat->Loop->T->A2->(Bool->A2->Prop)->Prop} {Af:Nat->Loop->A2->Prop} {N bm:Nat} {mc:List Ad->Prop} {X0:List (Nat×List Ad)} {xs:List T}
 {E:List Ad} {ZS Lb:List (Nat×List Ad)} (H:aJ D G w0 w (ZS++((bm,E)::Lb))) (hm0:mc E) (It:ItJ P fQ args em N bm mc X0 xs) (hX: ∀x∈X0,x∈Lb) (hN:xs.length<=N) (A:List T->List (Nat×List Ad)->Prop) (h0:A [] ZS)
 (xO: ∀b x c Z r l rec n (R:Bool->A2->Prop),b.length<N->A b c->xB (r::D) G w0 n (c++Z) l rec->(∀F w',A (b++[x]) F->xB (r::D) G w0 w' (F++Z) l rec->Ob l n w'->R true w')->Rd l rec x n R)
 (haf: ∀r rec I l' c,mc l'->A xs c->xB (r::D) G w0 I (c++((bm,l')::Lb)) (r+1) rec->Af r rec I):zz P fQ args ps w em Rd Af:=by
 intro w1 h1 rec _ _ u9 Xc o8;have H1:=H.ext h1;have sz:(w1.alloc (.deferred (some []))).heap.size=w1.heap.size+1:=lr _ _;have zT:rec={rec with state:= .ready,pending:= .none}:=by rw[<-u9, <-Xc]
 have gx:w0.heap.size<=w1.heap.size:=H1.fr.size;have hW:xB (w1.heap.size::D) G w0 ((w1.alloc (.deferred (some []))).alloc (.loop rec)) (ZS++((bm,E)::Lb)) (w1.heap.size+1) rec:=by
  refine⟨by omega,?_,?_⟩
  ·have B:=(H1.o7 (.deferred (some []))).o7 (.loop rec);refine⟨B.fr,B.dp,B.own,B.nd,λr f=>?_⟩;rcases BK.1 f with rfl|f
   ·exact⟨gx,(Ext.alloc _ _).obj (eO w1 _)⟩
   ·exact B.pM r f
  ·have:=eO (w1.alloc (.deferred (some []))) (.loop rec);rw[sz] at this;unfold cU;rw[this, <-zT]
 generalize hR:w1.heap.size=rr at*
 let J:List T->List (Nat×List Ad)->List (Nat×B1)->A2->Prop:=λb X O w'=> ∃l' c Y,mc l'/\A b c/\xB (rr::D) G w0 w' (c++((bm,l')::(Y++Lb))) (rr+1) rec/\(∀x∈X,x∈Y++Lb)/\(∀x∈O,w'.heap[x.1]? =some x.2/\NC x.2/\w0.heap.size<=x.1/\x.1≠rr+1/\x.1∉rr::D)/\(O.map (·.1)).Nodup
 have K:JK bm mc J:=by
  refine⟨?_,?_,?_,?_,?_,?_,?_,?_⟩
  ·rintro b X O k n M s ⟨l',c,Y,hm,i,⟨h1,d,p⟩,a,g,j⟩ Q hb hl hy hyn;have t:(bm,l')∈c++((bm,l')::(Y++Lb)):=by simp
   have dq: ∀x∈c++(Y++Lb),bM n x.1 x.2/\x.1<k.heap.size:=λx a=>by
    have u_:x∈c++((bm,l')::(Y++Lb)):=by
     rcases EY.1 a with h|h
     ·exact CH _ h
     ·exact Cb _ (Bp _ h)
    have hk:=d.dp x u_;refine⟨Q.dp ?_ hk,hk.lt⟩;intro hc;rw[CX] at hc;have u:=d.nd;have q:((bm,l')::(c++(Y++Lb))).Perm (c++((bm,l')::(Y++Lb))):=BJ.symm;have y:=((q.map (·.1)).nodup_iff).2 u;rw[Bv,BO] at y;exact y.1 (Av.2 ⟨x,a,hc⟩)
   refine⟨M,c,s++Y,hl,i,⟨h1,?_,?_⟩,λx EQ=>?_,λx EQ=>?_,j⟩
   ·have u:=d.nd;have q:((bm,l')::(c++(Y++Lb))).Perm (c++((bm,l')::(Y++Lb))):=BJ.symm;have y:=((q.map (·.1)).nodup_iff).2 u;have rh:((bm,M)::(s++(c++(Y++Lb)))).Perm (c++((bm,M)::(s++Y++Lb))):=by
     refine List.Perm.trans (C6 _ ?_) BJ.symm;rw[E6, <-E6 s c, <-E6 c s];exact List.perm_append_comm.append_right _
    refine aJ.perm (L:=(bm,M)::(s++(c++(Y++Lb)))) ?_ rh.symm;refine d.frame Q (λx a=>?_) (λr f a=>?_) (λx a=>?_) (λx a=>?_) ?_
    ·rw[CX.1 a];exact d.own (bm,l') t
    ·rw[CX] at a;exact aJ.da (d.dp (bm,l') t) (d.pM r f).2 (λ_ _ _ hc=>by cases hc) a.symm
    ·rcases BK.1 a with rfl|a
     ·exact hb
     ·rcases EY.1 a with a|a
      ·exact(hy x a).2
      ·exact(dq x a).1
    ·rcases BK.1 a with rfl|a
     ·exact d.own (bm,l') t
     ·rcases EY.1 a with a|a
      ·exact .inl (CO d.fr.size (hy x a).1)
      ·refine d.own x ?_;rcases EY.1 a with h|h
       ·exact CH _ h
       ·exact Cb _ (Bp _ h)
    ·rw[Bv,BO] at y;rw[Bv,E9,BO,H5];have fresh: ∀x∈s, ∀z,z<k.heap.size->x.1≠z:=λx a z hz e=>by
      have:=(hy x a).1;omega
     refine⟨λhm=>?_,hyn,y.2,λx a z hz e=>?_⟩
     ·rcases EY.1 hm with hm|hm
      ·obtain⟨x,a,e⟩:=Av.1 hm;exact fresh x a bm (d.dp (bm,l') t).lt e
      ·exact y.1 hm
     ·obtain⟨x1,oC,e1⟩:=Av.1 a;obtain⟨z1,V3,e2⟩:=Av.1 hz;exact fresh x1 oC z1.1 (dq z1 V3).2 (by rw[e1,e2,e])
   ·refine p.same (Q.block _ p.lt (λhc=>?_));rw[CX] at hc;exact aJ.da (d.dp (bm,l') t) p (λ_ _ _ hc=>by cases hc) hc.symm
   grind
   ·obtain⟨o1,m,C⟩:=g x EQ;refine⟨?_,m,C⟩;rw[Q.block x.1 (DB.1 o1).1 (λhc=>?_)]
    ·exact o1
    ·rw[CX] at hc;exact aJ.da (d.dp (bm,l') t) o1 m hc.symm
  ·rintro b X O k ⟨l',c,Y,hm,i,f,a,g,j⟩;exact⟨l',hm,f.2.1.dp (bm,l') (by simp)⟩
  ·rintro b X O k x ⟨l',c,Y,hm,i,f,a,g,j⟩ EQ;have q:((bm,l')::(c++(Y++Lb))).Perm (c++((bm,l')::(Y++Lb))):=BJ.symm;have d:=f.2.1.perm q;have S:x∈c++(Y++Lb):=Cb _ (a x EQ);refine⟨λe=>?_,d.dp x (Bp _ S)⟩;have u:=d.nd;rw[Bv,BO] at u;exact u.1 (Av.2 ⟨x,S,e⟩)
  ·rintro b X O k r o ⟨l',c,Y,hm,i,f,a,g,j⟩ S;exact(g (r,o) S).1
  ·rintro b X O k o ⟨l',c,Y,hm,i,⟨h1,d,p⟩,a,g,j⟩ W7;have U:=Ext.alloc k o;refine⟨l',c,Y,hm,i,⟨h1,d.o7 o,p.ext U⟩,a,λx EQ=>?_,?_⟩
   ·rcases BK.1 EQ with rfl|EQ
    ·refine⟨eO k o,W7,d.fr.size,λe=>?_,λhc=>?_⟩
     ·have:=p.lt;simp only at e;omega
     ·have:=(DB.1 (d.pM _ hc).2).1;simp only at this;omega
    ·obtain⟨o1,m⟩:=g x EQ;exact⟨U.obj o1,m⟩
   ·rw[Bv,BO];refine⟨λhc=>?_,j⟩;obtain⟨x,EQ,e⟩:=Av.1 hc;have:=(DB.1 (g x EQ).1).1;simp only at e;omega
  ·rintro b X O k r o o' ⟨l',c,Y,hm,i,⟨h1,d,p⟩,a,g,j⟩ W7;obtain⟨o1,m,C,V,o5⟩:=g (r,o) CN;rw[Bv,BO] at j;refine⟨l',c,Y,hm,i,⟨h1,d.putObj C o1 m o5,?_⟩,a,λx EQ=>?_,?_⟩
   ·unfold cU;rw[fx (λe=>V e.symm)];exact p
   ·grind[jV,Bp,fx]
   ·rw[Bv,BO];exact j
  ·rintro b X O X' O' k ⟨l',c,Y,hm,i,f,a,g,j⟩ hs W;exact⟨l',c,Y,hm,i,f,λx h=>a x (hs x h),λx h=>g x (W.subset h),(W.map _).nodup j⟩
  ·rintro b X O O' k ⟨l',c,Y,hm,i,f,a,g,j⟩ q;exact⟨l',c,Y,hm,i,f,a,λx h=>g x (q.subset h),(q.map _).nodup_iff.2 j⟩
 have Y:Yd P (rr+1) em N J:=by
  rintro b x X O n R hb ⟨l',c,Y,hm,i,f,a,g,j⟩ hR;refine o8 x n R (xO b x c _ rr (rr+1) rec n R hb i f λF w' qB SG W=>hR w' ⟨l',F,Y,hm,qB,SG,a,λx h=>?_,j⟩);obtain⟨o1,m,C,V,o5⟩:=g x h;exact⟨W _ _ V m o1,m,C,V,o5⟩
 refine Calls.mono (It (rr+1) J K Y [] Lb [] _ (by simpa using hN) hX ⟨E,ZS,[],hm0,h0,hW,λx h=>h,λx h=>(by cases h),EO⟩) ?_;rintro e I ⟨v,U,l',c,Y,hm,i,f,a,g,j⟩;refine⟨v,U,haf rr rec I l' c hm i ⟨f.1,f.2.1.sub ?_,f.2.2⟩⟩;exact List.Sublist.append (Ok _) (PP _ (MO _ _))
end
end Go.RX
namespace Go.Proofs.YtlcenllcmeebhaaGreat
set_option maxRecDepth 100000
open Go.RX
def dU (e:El) (s:Option AC×Nat×Nat) (xs:List e.T) (Ls:List (Nat×List Ad)):Prop:=
 s.2.1=xs.length/\xs.length<=s.2.2/\((s.1=none/\s.2.2=0/\Ls=[])\/ ∃bs rest,s.1=some ⟨bs,0,none⟩/\Ls=[(bs,flat e xs++rest)]/\s.2.2*aG e<=(flat e xs++rest).length)
theorem dU.nil (e:El):dU e (none,0,0) [] []:=⟨rfl,DA _,.inl ⟨rfl,rfl,rfl⟩⟩
section
variable {D G:List Nat} {w0 w w1:A2} {L L0 Ls:List (Nat×List Ad)} {e:El} {s:Option AC×Nat×Nat} {xs:List e.T}
theorem dU.sl (h:dU e s xs Ls) (H:aJ D G w0 w L) (b: ∀x∈Ls,x∈L):Sl w e s.1 xs:=by
 obtain⟨h1,f,⟨a1,a,c⟩|⟨bs,rest,a1,a,c⟩⟩:=h
 ·have:xs=[]:=H7 (by omega);subst this;intro i x d;simp at d
 ·rw[a1];refine Sl.jC (H.dp _ (b _ (by rw[a];exact CX.2 rfl))) ?_;rw[In (by rw[aI];exact DA _),J3 (by rw[aI];exact DA _)]
theorem dU.qn (h:dU e s xs Ls) (H:aJ D G w0 w L) (b: ∀x∈Ls,x∈L):qn w s.1 (s.2.1*aG e) (flat e xs):=by
 obtain⟨h1,d,⟨a1,a,c⟩|⟨bs,rest,a1,a,c⟩⟩:=h
 ·have:xs=[]:=H7 (by omega);subst this;rw[a1];rfl
 ·rw[a1];refine bM.qn (vs:=flat e xs) (H.dp _ (b _ (by rw[a];exact CX.2 rfl))) (by rw[aI,h1]) λi hi=>?_;rw[Bx,H4 (by rw[aI, <-h1];exact hi)]
theorem aJ.Ya (H:aJ D G w0 w (Ls++L0)) (m:dU e s xs Ls) (u:gU e=true) {q:Option AC×Nat×Nat} {ys:List e.T} (a:q.2.1=ys.length) (v:Go.RX.qn w q.1 (q.2.1*aG e) (flat e ys))
 {t:E4} {size bytes:Nat} {z:Array Ad} (y:size=aG e) (A:z.size=aG e) (hb:(xs.length+ys.length)*bytes<=140737488355328) {R:Option AC×Nat×Nat->A2->Prop}
 (k: ∀s' n w',dU e s' (xs++ys) n->aJ D G w0 w' (n++L0)->R s' w'):m7 w t size bytes z s q R:=by
 subst y;have B:=m.qn H (λx g=>CH _ g);obtain⟨h1,K,C⟩:=m;have h:=aI e xs;have E:=aI e ys;refine⟨flat e xs,flat e ys,B,v,λb=>?_,λb=>⟨growslice_fits b (by rw[h1,a];exact hb),λc hc=>?_⟩⟩
 ·rcases C with ⟨a1,d,f⟩|⟨bs,rest,a1,d,f⟩
  ·rw[d] at b;have F:ys=[]:=H7 (by omega);have g:xs=[]:=H7 (by omega);subst F;subst g;subst f;refine⟨.inl rfl,?_⟩;rw[a1];exact k _ [] _ ⟨by rw[h1,a];rfl,Fv _,.inl ⟨rfl,d,rfl⟩⟩ H
  ·subst d;have I:s.1.map (·.add (s.2.1*aG e))=some ⟨bs,xs.length*aG e,none⟩:=by rw[a1,h1];simp[Nr]
   rw[I];have j:xs.length*aG e+(flat e ys).length<=(flat e xs++rest).length:=by
    rw[E, <-Jo];exact CO (G1 _ (by rw[<-h1, <-a];exact b)) f
   refine⟨.inr ⟨(H.get (i:=0) rfl).st j,jJ e ys u⟩,?_⟩;have p:=H.put 0 (o:=xs.length*aG e) rfl (flat e ys) j;have l:(flat e xs++rest).take (xs.length*aG e)=flat e xs:=List.take_left' h;have J:(flat e xs++rest).drop (xs.length*aG e+(flat e ys).length)=rest.drop (flat e ys).length:=by rw[<-h,M5]
   rw[l,J, <-E6, <-dM] at p;refine k (s.1,s.2.1+q.2.1,s.2.2) [(bs,flat e (xs++ys)++rest.drop (flat e ys).length)] _ ⟨by rw[h1,a,Bz],by rw[Bz, <-h1, <-a];exact b,.inr ⟨bs, _,a1,rfl,?_⟩⟩ p;refine CO f ?_;rw[dM];simp only[Bz,F0];simp only[Bz,h] at j;omega
 ·have r:=(H.ext (Ext.drew w)).alloc (flat e xs++flat e ys++(Gd z (c - (s.2.1+q.2.1))).toList) t;have l:(K1 (flat e xs)++K1 (flat e ys)++Gd z (c - (s.2.1+q.2.1)))=⟨flat e xs++flat e ys++(Gd z (c - (s.2.1+q.2.1))).toList⟩:=by
   apply Jt;simp
  rw[l];rw[<-dM] at r ⊢;refine k _ [(w.heap.size,flat e (xs++ys)++(Gd z (c - (s.2.1+q.2.1))).toList)] _ ⟨by rw[h1,a,Bz],by rw[Bz, <-h1, <-a];exact hc,.inr ⟨_, _,rfl,rfl,?_⟩⟩ (r.sub ((MO Ls L0).cons_cons _));simp only[Bz,aI,Gd,Array.length_toList,Array.size_map,Array.size_range,A];rw[<-Jo];exact G1 _ (by omega)
theorem dU.st {i:Nat} (h:dU e s xs Ls) (H:aJ D G w0 w (Ls++L0)) (hi:i<xs.length) (y:e.T) {vs:List Ad} (hv:vs=cellsOf e y) (d:gU e=true) {K:A2->Prop}
 (k: ∀b w1,dU e s (xs.set i y) b->aJ D G w0 w1 (b++L0)->K w1):aC w (ad s.1 (i*aG e)) vs K:=by
 obtain⟨h1,f,⟨a1,c,a⟩|⟨bs,rest,a1,c,a⟩⟩:=h
 ·omega
 ·subst c;rw[a1];refine aC.flat 0 H y rfl hv d hi λw1 g=>k [(bs,flat e (xs.set i y)++rest)] w1 ⟨by rw[JC];exact h1,by rw[JC];exact f,.inr ⟨bs,rest,a1,rfl,?_⟩⟩ g;rw[Bz,aI] at a ⊢;rw[JC];exact a
theorem aj.lJ (H:aJ D G w0 w L) {b n:Nat} {l:List Ad} (a:(b,l)∈L) {g:Option Bool} {el:El} {K:el.T->Prop} {x:el.T} (hv:lI l n el=some x) (k:K x):aj w g (ad (ae b) n) el K:=by
 obtain⟨j,c⟩:=Ff a;exact aj.bP j H c (by rw[Bx];exact hv) k
end
end Go.Proofs.YtlcenllcmeebhaaGreat
namespace Go.Proofs.YtlcenllcmeebhaaGreat.Mu
set_option maxRecDepth 100000
open Go.RX
abbrev sLn:List Sc:=[.int .i64,.int .i64,.int .i64,.int .i64]
abbrev lE:El:= .agg sLn
noncomputable def U0:dj Ab:={C0 with quiet:=[140,150,204,149,148,106,114,237]}
noncomputable def U1:dj Ab:={U0 with quiet:=236::116::U0.quiet}
theorem J4 (t p f r:Int) (w:A2) (j:Bool->A2->Prop):(aN U0 (λ_=>[]) 204 [.agg ⟨[aa t,aa p,aa f,aa r]⟩] w j)=(
 aK w ⟨[aa t,aa p,aa f,aa r]⟩ 96 λb d=>true=true/\aU d (ad (ae b) 0) λx=>(decide (x>=1)=true->true=true)/\aj d (some (decide (x>=1))) (ad (ae b) 0) aV λ(a:Int)=>((decide (x>=1)&&decide (a<=16))=true->true=true)/\aj d (some (decide (x>=1)&&decide (a<=16))) (ad (ae b) 1) aV λ(c:Int)=>((decide (x>=1)&&decide (a<=16)&&decide (c>=0))=true->true=true)/\aj d (some (decide (x>=1)&&decide (a<=16)&&decide (c>=0))) (ad (ae b) 1) aV λ(e:Int)=>((decide
 (x>=1)&&decide (a<=16)&&decide (c>=0)&&decide (e<65536))=true->true=true)/\aj d (some (decide (x>=1)&&decide (a<=16)&&decide (c>=0)&&decide (e<65536))) (ad (ae b) 2) aV λ(g:Int)=>((decide (x>=1)&&decide (a<=16)&&decide (c>=0)&&decide (e<65536)&&decide (g>=0))=true->true=true)/\aj d (some (decide (x>=1)&&decide (a<=16)&&decide (c>=0)&&decide (e<65536)&&decide (g>=0))) (ad (ae b) 2) aV λ(h:Int)=>((decide (x>=1)&&decide (a<=16)&&decide (c>=0)&&decide (e<
 65536)&&decide (g>=0)&&decide (h<4096))=true->true=true)/\aj d (some (decide (x>=1)&&decide (a<=16)&&decide (c>=0)&&decide (e<65536)&&decide (g>=0)&&decide (h<4096))) (ad (ae b) 3) aV λ(i:Int)=>((decide (x>=1)&&decide (a<=16)&&decide (c>=0)&&decide (e<65536)&&decide (g>=0)&&decide (h<4096)&&decide (i>=1))=true->true=true)/\aj d (some (decide (x>=1)&&decide (a<=16)&&decide (c>=0)&&decide (e<65536)&&decide (g>=0)&&decide (h<4096)&&decide (i>=1))) (ad (ae b)
 3) aV λ(k:Int)=>ao d (j (decide (x>=1)&&decide (a<=16)&&decide (c>=0)&&decide (e<65536)&&decide (g>=0)&&decide (h<4096)&&decide (i>=1)&&decide (k<=7)))):=by kernel_rfl
theorem YM (t p f r a b:Int) (w:A2) (e:Bool->A2->Prop):(aN U0 (λ_=>[]) 150 [.agg ⟨[aa t,aa p,aa f,aa r]⟩,aa a,aa b] w e)=(
 aK w ⟨[aa t,aa p,aa f,aa r]⟩ 96 λd c=>aj c none (ae d) dO λ(x:Int×Int×Int×Int×Unit)=>true=true/\aU c (ad (ae d) 2) λg=>true=true/\aU c (ad (ae d) 3) λh=>ao c λw1=>e (x.1==a&&(x.2.1==b&&(x.2.2.1==g&&(x.2.2.2.1==h&&true)))) w1):=by kernel_rfl
theorem J5 (p:Option AC) (w:A2) (a:Bool->A2->Prop):(aN U0 (λ_=>[]) 140 [ag p] w a)=(
 ((!p.isNone)=true->p.isSome=true)/\((!p.isNone)=true->p.isSome=true)/\aj w (some !p.isNone) (ad p 1) aV λ(x:Int)=>ao w (a (!p.isNone&&decide (x>0)))):=by kernel_rfl
theorem TY (p:Option AC) (i:Int) (w:A2) (c:Unit->A2->Prop):(aN U0 (λ_=>[]) 196 [ag p,aa i] w c)=(
 fC p 0 w λx=>(0<=(↑0:Int)/\(↑0:Int)<=i/\i<=i/\i<=(↑x.2.2:Int))/\fC p 0 w λa=>(0<=aB .i64 i 1/\aB .i64 i 1<=(↑a.2.1:Int)/\(↑a.2.1:Int)<=(↑a.2.2:Int)/\(↑a.2.2:Int)<=(↑a.2.2:Int))/\ ∀w1,Ext w w1->m7 w1 96 4 32 ⟨[aa 0,aa 0,aa 0,aa 0]⟩ (FS (λ(h:i.toNat=(↑0:Int).toNat->False)=>ad x.1 0) (λ(h:i.toNat=(↑0:Int).toNat)=>x.1) (instDecidableEqNat i.toNat 0),i.toNat - 0,i.toNat - 0) (FS (λ(h:(↑a.2.2:Int).toNat=(aB .i64 i 1).toNat->False)=>ad
 a.1 ((aB .i64 i 1).toNat*4)) (λ(h:(↑a.2.2:Int).toNat=(aB .i64 i 1).toNat)=>a.1) (instDecidableEqNat (↑a.2.2:Int).toNat (aB .i64 i 1).toNat),(↑a.2.1:Int).toNat - (aB .i64 i 1).toNat,(↑a.2.2:Int).toNat - (aB .i64 i 1).toNat) λ(r:Option AC×Nat×Nat) b=>p.isSome=true/\p.isSome=true/\aC b (ad p 0) [.slice r.1 r.2.1 r.2.2] λb=>ao b (c ())):=by kernel_rfl
theorem Gf (t p f r:Int) (c d:Option AC) (w:A2) (e:Bool->A2->Prop):(aN U0 (λ_=>[]) 149 [.agg ⟨[aa t,aa p,aa f,aa r]⟩,ag c,ag d] w e)=(
 aK w ⟨[aa t,aa p,aa f,aa r]⟩ 96 λb a=>aj a none (ae b) dO λ(x:Int×Int×Int×Int×Unit)=>aU a c λh=>aU a d λi=> ∃g,ah Ab 150 [.agg ⟨[aa x.1,aa x.2.1,aa x.2.2.1,aa x.2.2.2.1]⟩,aa h,aa i] a (.bool g)/\ao a (e g)):=by kernel_rfl
theorem J6 (t p f r:Int) (c:Option AC) (w:A2) (d:Bool->A2->Prop):(aN U0 (λ_=>[]) 148 [.agg ⟨[aa t,aa p,aa f,aa r]⟩,ag c] w d)=(
 aK w ⟨[aa t,aa p,aa f,aa r]⟩ 96 λb a=>true=true/\aU a (ad (ae b) 0) λx=>aU a c λe=>ao a (d (x==e))):=by kernel_rfl
def pG:Nat->aZ:=(λ|5=>[(5,Go.RX.El.one (Go.RX.Sc.int B2)),(6,Go.RX.El.one (Go.RX.Sc.int B2))]| _=>[])
theorem Gg (p c d:Option AC) (w:A2) (e:Int->A2->Prop):(aN U0 pG 147 [ag p,.func (.func 149) #[] #[ag c,ag d]] w e)=(
 ∃x,ah Ab 140 [ag p] w (.bool x)/\aL (!x) (ao w (e 0)) (fC p 0 w λx=> ∃(I:Nat->Int×Int×Unit->A2->Prop),(∃n, ∀w1,Ext w w1->I n (0,aY .i64 (↑x.2.1:Int) 1,()) w1)/\ ∀(n:Nat) (s:Int×Int×Unit) (w1:A2),I n s w1->aL (decide (s.2.1>=0)) (fC p 0 w1 λx=>(x.1.isSome=true/\0<=s.2.1/\s.2.1<(↑x.2.1:Int))/\aj w1 none (ad x.1 (B4 s.2.1*4)) dO λ(x:Int×Int×Int×Int×Unit)=> ∃f,ah Ab 149 [.agg ⟨[aa x.1,aa x.2.1,aa x.2.2.1,aa x.2.2.2.1]⟩,.pointer
 c,ag d] w1 (.bool f)/\aL f (aD Ab 196 (.bu []) [ag p,aa s.2.1] w1 λx g=> ∀a,Ext g a-> ∃(b:Nat),b<n/\I b (aB .i64 s.1 1,aY .i64 s.2.1 1,()) a) (∀a,Ext w1 a-> ∃(b:Nat),b<n/\I b (s.1,aY .i64 s.2.1 1,()) a)) (ao w1 (e s.1)))):=by kernel_rfl
def pH:Nat->aZ:=(λ|5=>[(5,Go.RX.El.one (Go.RX.Sc.int B2)),(6,Go.RX.El.one (Go.RX.Sc.int B2))]| _=>[])
theorem Gj (p c:Option AC) (w:A2) (d:Int->A2->Prop):(aN U0 pH 147 [ag p,.func (.func 148) #[] #[ag c]] w d)=(
 ∃x,ah Ab 140 [ag p] w (.bool x)/\aL (!x) (ao w (d 0)) (fC p 0 w λx=> ∃(I:Nat->Int×Int×Unit->A2->Prop),(∃n, ∀w1,Ext w w1->I n (0,aY .i64 (↑x.2.1:Int) 1,()) w1)/\ ∀(n:Nat) (s:Int×Int×Unit) (w1:A2),I n s w1->aL (decide (s.2.1>=0)) (fC p 0 w1 λx=>(x.1.isSome=true/\0<=s.2.1/\s.2.1<(↑x.2.1:Int))/\aj w1 none (ad x.1 (B4 s.2.1*4)) dO λ(x:Int×Int×Int×Int×Unit)=> ∃e,ah Ab 148 [.agg ⟨[aa x.1,aa x.2.1,aa x.2.2.1,aa x.2.2.2.1]⟩,.pointer
 c] w1 (.bool e)/\aL e (aD Ab 196 (.bu []) [ag p,aa s.2.1] w1 λx f=> ∀a,Ext f a-> ∃(b:Nat),b<n/\I b (aB .i64 s.1 1,aY .i64 s.2.1 1,()) a) (∀a,Ext w1 a-> ∃(b:Nat),b<n/\I b (s.1,aY .i64 s.2.1 1,()) a)) (ao w1 (d s.1)))):=by kernel_rfl
theorem J7 (p:Option AC) (t g:Int) (w:A2) (c:Bool->A2->Prop):(aN U0 (λ_=>[]) 108 [ag p,aa t,aa g] w c)=(
 aK w ⟨[aa t]⟩ 3 λb a=>aK a ⟨[aa g]⟩ 3 λd a=>aD Ab 147 (.el aV) [ag p,.func (.func 149) ⟨[]⟩ {toList:=[ag (ae b),ag (ae d)]}] a λ(x:Int) a=>ao a (c (decide (x>0)))):=by kernel_rfl
theorem Gl (p:Option AC) (t:Int) (w:A2) (c:Int->A2->Prop):(aN U0 (λ_=>[]) 107 [ag p,aa t] w c)=(
 aK w ⟨[aa t]⟩ 3 λb a=>aD Ab 147 (.el aV) [ag p,.func (.func 148) ⟨[]⟩ {toList:=[ag (ae b)]}] a λ(x:Int) a=>ao a (c x)):=by kernel_rfl
abbrev vG (p:Option AC) (e:Int->A2->Prop) (d:A2) (f:Nat):Prop:=
 fC p 0 d λx=>aj d none (ae f) dO λ(c:Int×Int×Int×Int×Unit)=>aK d ⟨[aa c.1,aa c.2.1,aa c.2.2.1,aa c.2.2.2.1]⟩ 96 λb a=> ∀w1,Ext a w1->m7 w1 96 4 32 ⟨[aa 0,aa 0,aa 0,aa 0]⟩ (x.1,x.2.1,x.2.2) (some ⟨b,0,none⟩,1,1) λ(r:Option AC×Nat×Nat) a=>p.isSome=true/\p.isSome=true/\aC a (ad p 0) [.slice r.1 r.2.1 r.2.2] λa=>ao a (e 0)
theorem Ps (p:Option AC) (t g f r:Int) (w:A2) (c:Int->A2->Prop):(aN U0 (λ_=>[]) 159 [ag p,.agg ⟨[aa t,aa g,aa f,aa r]⟩] w c)=(
 aK w ⟨[aa t,aa g,aa f,aa r]⟩ 96 λb a=> ∃x,ah Ab 140 [ag p] a (.bool x)/\aL (!x) (ao a (c 10)) (aj a none (ae b) dO λ(x:Int×Int×Int×Int×Unit)=> ∃d,ah Ab 204 [.agg ⟨[aa x.1,aa x.2.1,aa x.2.2.1,aa x.2.2.2.1]⟩] a (.bool d)/\aL (!d) (ao a (c 1)) (true=true/\aU a (ad (ae b) 0) λx=>true=true/\aU a (ad (ae b) 1) λe=>aD Ab 108 (.el oI) [ag p,aa x,aa e] a λx a=>((!x)=true->p.isSome=true)/\
 ((!x)=true->p.isSome=true)/\aj a (some !x) (ad p 0) iu λh=>((!x)=true->p.isSome=true)/\((!x)=true->p.isSome=true)/\aj a (some !x) (ad p 1) aV λ(i:Int)=>aL (!x&&(↑h.2.1:Int)==i) (aD Ab 196 (.bu []) [ag p,aa 0] a λx a=>vG p c a b) (vG p c a b)))):=by kernel_rfl
def tF:Nat->aZ:=(λ|4=>[(20,Go.RX.El.one (Go.RX.Sc.int B2))]| _=>[])
theorem Pt (p:Option AC) (t g k:Int) (w:A2) (c:Int×Int×Unit->A2->Prop):(aN U0 tF 201 [ag p,aa t,aa g,aa k] w c)=(
 ∃x,ah Ab 140 [ag p] w (.bool x)/\aL (!x) (ao w (c (0,10,()))) (fC p 0 w λx=> ∃(I:Nat->Int×Unit->A2->Prop),(∃n, ∀w1,Ext w w1->I n (0,()) w1)/\ ∀(n:Nat) (s:Int×Unit) (w1:A2),I n s w1->aL (decide (s.1<(↑x.2.1:Int))) ((x.1.isSome=true/\0<=s.1/\s.1<(↑x.2.1:Int))/\aj w1 none (ad x.1 (B4 s.1*4)) dO λ(x:Int×Int×Int×Int×Unit)=>aK w1 ⟨[aa 0,aa 0,aa 0,aa 0]⟩ 96 λb a=>aC a (ae b) [aa x.1,aa x.2.1,aa x.2.2.1,.int .i64
 x.2.2.2.1] λa=>aj a none (ae b) dO λ(x:Int×Int×Int×Int×Unit)=> ∃d,ah Ab 150 [.agg ⟨[aa x.1,aa x.2.1,aa x.2.2.1,aa x.2.2.2.1]⟩,aa t,aa g] a (.bool d)/\aL (!d) (∀e,Ext a e-> ∃(f:Nat),f<n/\I f (aB .i64 s.1 1,()) e) (((!(decide (k<0)||decide (k>7)))=true->true=true)/\aj a (some !(decide (k<0)||decide (k>7))) (ad (ae b) 3) aV λ(x:Int)=>aL (decide (k<0)||decide (k>7)||gD .i64 k x != 0) (ao a (c (0,7,()))) (true=true/\
 aU a (ad (ae b) 2) λx=>ao a (c (x,0,()))))) (ao w1 (c (0,4,()))))):=by kernel_rfl
theorem TZ (n:Int) (w:A2) (a:Option AC×Int×Unit->A2->Prop):(aN U0 (λ_=>[]) 86 [aa n] w a)=(
 aL (decide (n<1)||decide (n>64)) (ao w (a (none,1,()))) (aK w ⟨[.slice none 0 0,aa n]⟩ 227 λb c=>ao c (a (some ⟨b,0,none⟩,0,())))):=by kernel_rfl
theorem T1 (p:Option AC) (i:Int) (w:A2) (a:Bool->A2->Prop):(aN U0 (λ_=>[]) 106 [ag p,aa i] w a)=(
 ((!p.isNone&&decide (i>=0))=true->p.isSome=true)/\((!p.isNone&&decide (i>=0))=true->p.isSome=true)/\aj w (some (!p.isNone&&decide (i>=0))) (ad p 0) iu λx=>ao w λw1=>a (!p.isNone&&decide (i>=0)&&decide (i<(↑x.2.1:Int))) w1):=by kernel_rfl
theorem Gm (p:Option AC) (i:Int) (w:A2) (b:Option AC×Nat×Nat->A2->Prop):(aN U0 (λ_=>[]) 202 [ag p,aa i] w b)=(
 fC p 0 w λx=>(0<=(↑0:Int)/\(↑0:Int)<=i/\i<=(↑x.2.2:Int)/\(↑x.2.2:Int)<=(↑x.2.2:Int))/\ ∀w1,Ext w w1->m7 w1 202 1 8 ⟨[HG none]⟩ (none,0,0) (FS (λ(h:(↑x.2.2:Int).toNat=(↑0:Int).toNat->False)=>ad x.1 0) (λ(h:(↑x.2.2:Int).toNat=(↑0:Int).toNat)=>x.1) (instDecidableEqNat (↑x.2.2:Int).toNat 0),i.toNat - 0,(↑x.2.2:Int).toNat - 0) λ(r:Option AC×Nat×Nat) a=>fC p 0 a λx=>(0<=aB .i64 i 1/\aB .i64 i 1<=(↑x.2.1:Int)/\(↑x.2.1:Int)<=(↑x.2.2:Int)/\(↑x.2.2:Int)<=(↑x.2.2:Int))/\ ∀w1,
 Ext a w1->m7 w1 202 1 8 ⟨[HG none]⟩ (r.1,r.2.1,r.2.2) (FS (λ(h:(↑x.2.2:Int).toNat=(aB .i64 i 1).toNat->False)=>ad x.1 ((aB .i64 i 1).toNat*1)) (λ(h:(↑x.2.2:Int).toNat=(aB .i64 i 1).toNat)=>x.1) (instDecidableEqNat (↑x.2.2:Int).toNat (aB .i64 i 1).toNat),(↑x.2.1:Int).toNat - (aB .i64 i 1).toNat,(↑x.2.2:Int).toNat - (aB .i64 i 1).toNat) λ(r:Option AC×Nat×Nat) a=>ao a (b (r.1,r.2.1,r.2.2))):=by kernel_rfl
def vH:Nat->aZ:=(λ|5=>[(14,Go.RX.El.one (Go.RX.Sc.int B2))]| _=>[])
theorem T2 (n:Int) (w:A2) (c:Option AC×Int×Unit->A2->Prop):(aN U0 vH 85 [aa n] w c)=(
 aL (decide (n<1)||decide (n>8)) (ao w (c (none,1,()))) (aK w ⟨[.slice none 0 0,.slice none 0 0]⟩ 205 λb a=> ∃(I:Nat->Int×Unit->A2->Prop),(∃n, ∀w1,Ext a w1->I n (0,()) w1)/\ ∀(e:Nat) (s:Int×Unit) (w1:A2),I e s w1->aL (decide (s.1<n)) (true=true/\true=true/\sw w1 (ad (ae b) 0) λx=> ∀d,Ext w1 d->aK (d.alloc (Obj.chan 16 ⟨[]⟩ false 0 0 false)) ⟨[HG (some d.heap.size)]⟩ 202 λh a=> ∀w1,Ext a w1->m7 w1 202 1 8 ⟨[HG none]⟩ (x.1,x.2.1,x.2.2) (some ⟨h,0,none⟩,1,1)
 λ(r:Option AC×Nat×Nat) a=>true=true/\true=true/\aC a (ad (ae b) 0) [.slice r.1 r.2.1 r.2.2] λa=> ∀f,Ext a f-> ∃(g:Nat),g<e/\I g (aB .i64 s.1 1,()) f) (ao w1 (c (some ⟨b,0,none⟩,0,()))))):=by kernel_rfl
theorem Pu (p:Option AC) (i:Int) (w:A2) (d:(Int×Int×Int×Unit)×Bool×Unit->A2->Prop):(bQ U0 (λ_=>[]) 66 [ag p,aa i] w d)=(
 aK w ⟨[aa 0,aa 0,aa 0]⟩ 147 λb a=> ∃x,ah Ab 106 [ag p,aa i] a (.bool x)/\aL (!x) (aC a (ae b) [aa 0,aa 0,aa 0] λa=>ao a λw1=>aj w1 none (ae b) wH λ(x:Int×Int×Int×Unit)=>d ((x.1,x.2.1,x.2.2.1,()),false,()) w1) (fC p 0 a λx=>(x.1.isSome=true/\0<=i/\i<(↑x.2.1:Int))/\aj a none (ad x.1 (i.toNat*1)) (.one .chan) λx=> ∀w1,Ext a w1-> ∃(r:Nat), ∃(cap:Nat), ∃(e:List Ad), ∃(s:Nat), ∃(m:Nat),x=some r/\ChO w1 r cap
 e s m/\(e=[]->aC w1 (ae b) [aa 0,aa 0,aa 0] λa=>ao a λw1=>aj w1 none (ae b) wH λ(x:Int×Int×Int×Unit)=>d ((x.1,x.2.1,x.2.2.1,()),false,()) w1)/\ ∀v (vs:List Ad),e=v::vs-> ∃(x:Int×Int×Int×Unit),v= .agg ⟨[aa x.1,aa x.2.1,aa x.2.2.1]⟩/\aK (w1.putObj r (Obj.chan cap {toList:=vs} false s (m+1) false)) ⟨[aa 0,aa 0,aa 0]⟩ 147 λf a=>aC a (ae f) [aa x.1,aa x.2.1,aa x.2.2.1] λa=>fC p 1 a λx=>
 true=true/\aU a (ad (ae f) 0) λc=>(x.1.isSome=true/\0<=aY .i64 c 1/\aY .i64 c 1<(↑x.2.1:Int))/\aj a none (ad x.1 ((aY .i64 c 1).toNat*1)) aV λ(g:Int)=>(x.1.isSome=true/\0<=aY .i64 c 1/\aY .i64 c 1<(↑x.2.1:Int))/\aC a (ad x.1 ((aY .i64 c 1).toNat*1)) [aa (aY .i64 g 1)] λa=>aj a none (ae f) wH λ(x:Int×Int×Int×Unit)=>aC a (ae b) [aa x.1,aa x.2.1,aa x.2.2.1] λa=>ao a λw1=>aj w1 none (ae b) wH λ(x:Int×Int×Int×Unit)=>d
 ((x.1,x.2.1,x.2.2.1,()),true,()) w1)):=by kernel_rfl
def tG:Nat->aZ:=(λ|9=>[(52,Go.RX.El.one (Go.RX.Sc.int B2))]|17=>[(78,Go.RX.El.one (Go.RX.Sc.int B2))]| _=>[])
theorem Pv (p:Option AC) (i t g:Int) (w:A2) (c:Int×Int×Unit->A2->Prop):(aN U0 tG 157 [ag p,aa i,aa t,aa g] w c)=(
 ((!p.isNone)=true->p.isSome=true)/\((!p.isNone)=true->p.isSome=true)/\aj w (some !p.isNone) (ad p 0) iu λx=>aL (p.isNone||(↑x.2.1:Int)==0) (ao w (c (0,10,()))) (∃x,ah Ab 106 [ag p,aa i] w (.bool x)/\aL (!x) (ao w (c (0,2,()))) (aL (decide (t<1)||decide (t>16)||decide (g< -1)||decide (g>=65536)) (ao w (c (0,1,()))) (aD Ab 202 (.el iu) [ag p,aa i] w λx a=> ∃(I:Nat->Int×Unit->A2->Prop),(∃n, ∀w1,Ext a w1->I n (0,()) w1)/\ ∀(n:Nat) (s
 :Int×Unit) (w1:A2),I n s w1->aL (decide (s.1<(↑x.2.1:Int))) ((x.1.isSome=true/\0<=s.1/\s.1<(↑x.2.1:Int))/\aj w1 none (ad x.1 (B4 s.1*1)) (.one .chan) λx=> ∃k,ChL w1 x k/\aL ((↑k:Int)==16) (ao w1 (c (0,3,()))) (∀d,Ext w1 d-> ∃(e:Nat),e<n/\I e (aB .i64 s.1 1,()) d)) (fC p 1 w1 λf=>aK w1 ⟨[aa (↑x.2.1:Int)]⟩ 3 λb a=> ∀w1,Ext a w1->m7 w1 3 1 8 ⟨[aa 0]⟩ (f.1,f.2.1,f.2.2) (some ⟨b,0,none⟩,1,1) λ(r:Option AC×Nat×Nat) a=>p.isSome=true/\p.isSome=
 true/\aC a (ad p 1) [.slice r.1 r.2.1 r.2.2] λa=>fC p 1 a λl=> ∃(I:Nat->Int×Unit->A2->Prop),(∃n, ∀w1,Ext a w1->I n (0,()) w1)/\ ∀(n:Nat) (s:Int×Unit) (w1:A2),I n s w1->aL (decide (s.1<(↑x.2.1:Int))) ((x.1.isSome=true/\0<=s.1/\s.1<(↑x.2.1:Int))/\aj w1 none (ad x.1 (B4 s.1*1)) (.one .chan) λx=> ∀h,Ext w1 h-> ∃(r:Nat), ∃(cap:Nat), ∃(j:List Ad), ∃(o:Nat), ∃(m:Nat),x=some r/\ChO h r cap j o m/\j.length<cap/\ ∀d,Ext (h.putObj r (Obj.chan cap {toList:=j.append [.agg
 ⟨[aa (↑l.2.1:Int),aa t,aa g]⟩]} false (o+1) m false)) d-> ∃(e:Nat),e<n/\I e (aB .i64 s.1 1,()) d) (ao w1 (c ((↑l.2.1:Int),0,())))))))):=by kernel_rfl
theorem Pw (p:Option AC) (i:Int) (w:A2) (b:Bool->A2->Prop):(aN U0 (λ_=>[]) 161 [ag p,aa i] w b)=(
 ((!p.isNone&&decide (i>=1))=true->p.isSome=true)/\((!p.isNone&&decide (i>=1))=true->p.isSome=true)/\aj w (some (!p.isNone&&decide (i>=1))) (ad p 1) iu λx=>((!p.isNone&&decide (i>=1)&&decide (i<=(↑x.2.1:Int)))=true->p.isSome=true)/\((!p.isNone&&decide (i>=1)&&decide (i<=(↑x.2.1:Int)))=true->p.isSome=true)/\aj w (some (!p.isNone&&decide (i>=1)&&decide (i<=(↑x.2.1:Int)))) (ad p 1) iu λa=>((!p.isNone&&decide (i>=1)&&decide (i<=(↑x.2.1:Int)))=true->a.1.isSome=true/\0<=aY .i64 i 1/\aY .i64 i 1<
 (↑a.2.1:Int))/\aj w (some (!p.isNone&&decide (i>=1)&&decide (i<=(↑x.2.1:Int)))) (ad a.1 ((aY .i64 i 1).toNat*1)) aV λ(c:Int)=>ao w λw1=>b (!p.isNone&&decide (i>=1)&&decide (i<=(↑x.2.1:Int))&&c==0) w1):=by kernel_rfl
def vI:Nat->aZ:=(λ|5=>[(15,Go.RX.El.one (Go.RX.Sc.int B2))]| _=>[])
theorem Cc (n:Int) (w:A2) (c:Option AC×Int×Unit->A2->Prop):(aN U0 vI 84 [aa n] w c)=(
 aL (decide (n<1)||decide (n>8)) (ao w (c (none,1,()))) (∀w1,Ext w w1->aK (w1.alloc (Obj.map ⟨[]⟩ 0)) ⟨[aa 0,.slice none 0 0,.map (some w1.heap.size)]⟩ 210 λb a=> ∃(I:Nat->Int×Unit->A2->Prop),(∃n, ∀w1,Ext a w1->I n (0,()) w1)/\ ∀(d:Nat) (s:Int×Unit) (w1:A2),I d s w1->aL (decide (s.1<n)) (true=true/\true=true/\sw w1 (ad (ae b) 1) λx=>aK w1 ⟨[aa (-1)]⟩ 3 λg a=> ∀w1,Ext a w1->m7 w1 3 1 8 ⟨[aa 0]⟩ (x.1,x.2.1,x.2.2) (some ⟨g,0,none⟩,1,1) λ(r:Option AC×Nat×
 Nat) a=>true=true/\true=true/\aC a (ad (ae b) 1) [.slice r.1 r.2.1 r.2.2] λa=> ∀e,Ext a e-> ∃(f:Nat),f<d/\I f (aB .i64 s.1 1,()) e) (ao w1 (c (some ⟨b,0,none⟩,0,()))))):=by kernel_rfl
theorem J8 (p:Option AC) (w:A2) (a:Bool->A2->Prop):(aN U0 (λ_=>[]) 114 [ag p] w a)=(
 ((!p.isNone)=true->p.isSome=true)/\((!p.isNone)=true->p.isSome=true)/\aj w (some !p.isNone) (ad p 2) Ns λx=>ao w (a (!p.isNone&& !x.isNone))):=by kernel_rfl
theorem T4 (p:Option AC) (w:A2) (a:Int->A2->Prop):(aN U0 (λ_=>[]) 237 [ag p] w a)=(
 ∃x,ah Ab 114 [ag p] w (.bool x)/\aL (!x) (ao w (a 0)) (cv p 0 w λx=>ao w (a x))):=by kernel_rfl
theorem T5 (p:Option AC) (c a:Int) (w:A2) (b:Int->A2->Prop):(aN U0 (λ_=>[]) 203 [ag p,aa c,aa a] w b)=(
 ∃x,ah Ab 114 [ag p] w (.bool x)/\aL (!x) (ao w (b 10)) (((!decide (c<0))=true->p.isSome=true)/\((!decide (c<0))=true->p.isSome=true)/\aj w (some !decide (c<0)) (ad p 1) iu λx=>aL (decide (c<0)||decide (c>=(↑x.2.1:Int))) (ao w (b 2)) (fC p 1 w λx=>(x.1.isSome=true/\0<=c/\c<(↑x.2.1:Int))/\aU w (ad x.1 (c.toNat*1)) λx=>aL ((x== -1)==(a== -1)) (ao w (b 6)) (fC p 1 w λx=>(x.1.isSome=true/\0<=c/\c<(↑x.2.1:Int))/\aC w (ad x.1 (c.toNat*1)) [aa a] λd=>ao d (b 0))))):=by kernel_rfl
theorem T6 (p:Option AC) (c:Int) (w:A2) (a:Int->A2->Prop):(aN U0 (λ_=>[]) 200 [ag p,aa c] w a)=(
 ∃(x:Int),ah Ab 237 [ag p] w (aa x)/\aD Ab 203 (.el aV) [ag p,aa c,aa x] w λ(x:Int) b=>ao b (a x)):=by kernel_rfl
theorem J9 (p:Option AC) (c:Int) (w:A2) (a:Int->A2->Prop):(aN U0 (λ_=>[]) 158 [ag p,aa c] w a)=(
 aD Ab 203 (.el aV) [ag p,aa c,aa (-1)] w λ(x:Int) b=>ao b (a x)):=by kernel_rfl
theorem T7 (p:Option AC) (f:Int) (w:A2) (a:Int->A2->Prop):(aN U0 (λ_=>[]) 162 [ag p,aa f] w a)=(
 ∃x,ah Ab 114 [ag p] w (.bool x)/\aL (!x) (ao w (a 10)) (aL (decide (f<0)) (ao w (a 1)) (uv p 2 w λx=> ∃(d:Int), ∃(b:Bool),mg w x .i64 f (aa 0) (aa d) b/\aL b (ao w (a 5)) (uv p 2 w λx=>cv p 0 w λe=> ∀w1,Ext w w1-> ∃(r:Nat), ∃(es:Array B5), ∃(c:Nat),x=some r/\bE w1 r es c/\gS w1 r .i64 f (aa e) es c λg=>ao g (a 0))))):=by kernel_rfl
def vJ:Nat->aZ:=(λ|4=>[(13,Go.RX.El.one (Go.RX.Sc.int B2))]| _=>[])
theorem T8 (p:Option AC) (w:A2) (a:Bool->A2->Prop):(aN U0 vJ 197 [ag p] w a)=(
 ∃x,ah Ab 114 [ag p] w (.bool x)/\aL (!x) (ao w (a false)) (fC p 1 w λx=> ∃(I:Nat->Int×Unit->A2->Prop),(∃n, ∀w1,Ext w w1->I n (0,()) w1)/\ ∀(n:Nat) (s:Int×Unit) (w1:A2),I n s w1->aL (decide (s.1<(↑x.2.1:Int))) ((x.1.isSome=true/\0<=s.1/\s.1<(↑x.2.1:Int))/\aU w1 (ad x.1 (B4 s.1*1)) λx=>((x != -1)=true->p.isSome=true)/\((x != -1)=true->p.isSome=true)/\aj w1 (some (x != -1)) (ad p 0) aV λ(d:Int)=>aL (x != -1&&x != d) (ao w1 (a false)) (∀b,Ext w1 b-> ∃(c:
 Nat),c<n/\I c (aB .i64 s.1 1,()) b)) (cv p 0 w1 λx=>p.isSome=true/\p.isSome=true/\aC w1 (ad p 0) [aa (aB .i64 x 1)] λe=>ao e (a true)))):=by kernel_rfl
theorem J_ (a:Int) (c:Option AC) (w:A2) (b:Bool->A2->Prop):(aN U0 (λ_=>[]) 236 [aa a,ag c] w b)=(
 fR w c λx=>cv x 0 w λx=>ao w (b (decide (aB .i64 a 2<=x)))):=by kernel_rfl
def qK:Nat->aZ:=(λ|3=>[(5,Go.RX.El.one Go.RX.Sc.slice)]|8=>[(8,Go.RX.El.one (Go.RX.Sc.int B2))]| _=>[])
theorem J' (m:Option Nat) (c:Option AC) (w:A2) (g:Option AC×Nat×Nat->A2->Prop):(aN U1 qK 115 [.map m,.func (.func 236) #[] #[ag c]] w g)=(
 RgP w m λb a=> ∃(I:Nat->(Option AC×Nat×Nat)×Unit->A2->Prop),(∃n, ∀w1,Ext a w1->I n ((none,0,0),()) w1)/\ ∀(n:Nat) (s:(Option AC×Nat×Nat)×Unit) (w1:A2),I n s w1->NxP w1 (ae b) (λa=>ao a (g (s.1.1,s.1.2.1,s.1.2.2))) λ(k v:Ad) a=> ∃(x:Int), ∃(y:Int),BB a (ae b) (aa x) (aa y)/\ ∃h,ah Ab 236 [aa y,ag c] a (.bool h)/\aL (!h) (∀d,Ext a d-> ∃(e:Nat),e<n/\I e ((s.1.1,s.1.2.1,s.1.2.2),()) d) (aK a ⟨[aa x]⟩ 3 λb a=> ∀w1,
 Ext a w1->m7 w1 3 1 8 ⟨[aa 0]⟩ (s.1.1,s.1.2.1,s.1.2.2) (some ⟨b,0,none⟩,1,1) λ(r:Option AC×Nat×Nat) a=> ∃(f:Nat->Int×Unit->A2->Prop),(∃n, ∀w1,Ext a w1->f n ((↑s.1.2.1:Int),()) w1)/\ ∀(i:Nat) (s:Int×Unit) (w1:A2),f i s w1->(decide (s.1>0)=true->r.1.isSome=true/\0<=aY .i64 s.1 1/\aY .i64 s.1 1<(↑r.2.1:Int))/\aj w1 (some (decide (s.1>0))) (ad r.1 ((aY .i64 s.1 1).toNat*1)) aV λ(j:Int)=>aL (decide (s.1>0)&&decide (j>x)) ((r.1.isSome=true/\0<=aY .i64 s.1 1/\aY
 .i64 s.1 1<(↑r.2.1:Int))/\aj w1 none (ad r.1 ((aY .i64 s.1 1).toNat*1)) aV λ(x:Int)=>(r.1.isSome=true/\0<=s.1/\s.1<(↑r.2.1:Int))/\aC w1 (ad r.1 (B4 s.1*1)) [aa x] λa=> ∀d,Ext a d-> ∃(e:Nat),e<i/\f e (aY .i64 s.1 1,()) d) ((r.1.isSome=true/\0<=s.1/\s.1<(↑r.2.1:Int))/\aC w1 (ad r.1 (B4 s.1*1)) [aa x] λa=> ∀d,Ext a d-> ∃(e:Nat),e<n/\I e ((r.1,r.2.1,r.2.2),()) d))):=by kernel_rfl
def tH:Nat->aZ:=(λ|5=>[(17,Go.RX.El.one (Go.RX.Sc.int B2))]| _=>[])
theorem Px (p:Option AC) (w:A2) (c:Option AC×Nat×Nat->A2->Prop):(aN U0 tH 198 [ag p] w c)=(
 aK w ⟨[ag p]⟩ 98 λb a=>fR a (ae b) λx=> ∃e,ah Ab 114 [ag x] a (.bool e)/\aL (!e) (ao a (c (none,0,0))) (fR a (ae b) λx=>uv x 2 a λx=>aD Ab 115 (.el iu) [.map x,.func (.func 236) ⟨[]⟩ {toList:=[ag (ae b)]}] a λx a=> ∃(I:Nat->Int×Unit->A2->Prop),(∃n, ∀w1,Ext a w1->I n (0,()) w1)/\ ∀(n:Nat) (s:Int×Unit) (w1:A2),I n s w1->aL (decide (s.1<(↑x.2.1:Int))) ((x.1.isSome=true/\0<=s.1/\s.1<(↑x.2.1:Int))/\aU w1 (ad x.1 (B4 s.1*1)) λx=>
 fR w1 (ae b) λi=>uv i 2 w1 λj=> ∀d,Ext w1 d-> ∃(r:Nat), ∃(es:Array B5), ∃(f:Nat),j=some r/\bE d r es f/\zS d r .i64 x es f λa=> ∀g,Ext a g-> ∃(h:Nat),h<n/\I h (aB .i64 s.1 1,()) g) (ao w1 (c (x.1,x.2.1,x.2.2))))):=by kernel_rfl
end Go.Proofs.YtlcenllcmeebhaaGreat.Mu
namespace Go.RX
set_option maxRecDepth 100000
open Go.RowKit
def nF:B1->Prop
 | .cells .. =>False
 | _=>True
theorem nF.ne {o:B1} (h:nF o): ∀a t f,o≠ .cells a t f:=λa t f e=>by subst e;exact h
structure cM (D G:List Nat) (w0 w:A2) (L:List (Nat×List Ad)) (M:List (Nat×B1)):Prop where
 base:aJ D G w0 w L
 obj: ∀x∈M,w.heap[x.1]? =some x.2/\nF x.2
 own: ∀x∈M,w0.heap.size<=x.1\/x.1∈G
 nd:(M.map (·.1)).Nodup
 nD: ∀x∈M,x.1∉D
namespace cM
variable {D G:List Nat} {w0 w w1:A2} {L L':List (Nat×List Ad)} {M M':List (Nat×B1)}
theorem ext (H:cM D G w0 w L M) (h:Ext w w1):cM D G w0 w1 L M:=
 ⟨H.base.ext h,λx a=>⟨h.obj (H.obj x a).1,(H.obj x a).2⟩,H.own,H.nd,H.nD⟩
theorem start (G:List Nat) (w:A2):cM [] G w w [] []:=⟨At.start G w,λx a=>(by cases a),λx a=>(by cases a),EO,λx a=>(by cases a)⟩
theorem of (H:aJ D G w0 w L):cM D G w0 w L []:=⟨H,λx a=>(by cases a),λx a=>(by cases a),EO,λx a=>(by cases a)⟩
theorem sub (H:cM D G w0 w L M) (h:L'.Sublist L):cM D G w0 w L' M:=⟨H.base.sub h,H.obj,H.own,H.nd,H.nD⟩
theorem perm (H:cM D G w0 w L M) (h:L'.Perm L):cM D G w0 w L' M:=⟨H.base.perm h,H.obj,H.own,H.nd,H.nD⟩
theorem Fq (H:cM D G w0 w L M) (h:M'.Sublist M):cM D G w0 w L M':=⟨H.base,λx a=>H.obj x (h.subset a),λx a=>H.own x (h.subset a),(h.map _).nodup H.nd,λx a=>H.nD x (h.subset a)⟩
theorem kW (H:cM D G w0 w L M) (h:M'.Perm M):cM D G w0 w L M':=⟨H.base,λx a=>H.obj x (h.subset a),λx a=>H.own x (h.subset a),(h.map _).nodup_iff.2 H.nd,λx a=>H.nD x (h.subset a)⟩
theorem get (H:cM D G w0 w L M) {i r:Nat} {o:B1} (h:M[i]? =some (r,o)):w.heap[r]? =some o:=(H.obj (r,o) (EU h)).1
theorem FL (H:cM D G w0 w L M) {x:Nat×List Ad} (b:x∈L) {y:Nat×B1} (a:y∈M):x.1≠y.1:=
 aJ.da (H.base.dp x b) (H.obj y a).1 (H.obj y a).2.ne
theorem join (H:cM D G w0 w L M) (K:At (L.map (·.1)) w w1 L'):cM D G w0 w1 L' M:=by
 refine⟨H.base.join (λx a=>a) K,λy b=>⟨?_,(H.obj y b).2⟩,H.own,H.nd,H.nD⟩;have h1:=(H.obj y b).1;rw[K.fr.block y.1 (DB.1 h1).1 (λc=>?_)]
 ·exact h1
 ·obtain⟨x,a,e⟩:=Av.1 c;exact H.FL a b e
theorem put (H:cM D G w0 w L M) {i r:Nat} {o:B1} (h:M[i]? =some (r,o)) {o':B1} (m:nF o'):cM D G w0 (w.putObj r o') L (M.set i (r,o')):=by
 have b:=EU h;obtain⟨h1,y⟩:=H.obj _ b;have n:r<w.heap.size:=(DB.1 h1).1;have p:(M.set i (r,o')).map (·.1)=M.map (·.1):=by
  apply Fs;intro j;rw[FF,FF];by_cases e:i=j
  ·subst e;rw[E5 (Bs.1 h).1,h];rfl
  ·rw[CV e]
 refine⟨⟨⟨H.base.fr.os,H.base.fr.tape,H.base.fr.output,by rw[putObj_size];exact H.base.fr.size,λk s g=>?_⟩,λx a=>(H.base.dp x a).putObj (H.FL a b) _,H.base.own,H.base.nd,λq d=>⟨(H.base.pM q d).1,?_⟩⟩,λx a=>?_,λx a=>?_,by rw[p];exact H.nd,λx a=>?_⟩
 ·rw[fx (λe=>?_)]
  ·exact H.base.fr.block k s g
  ·subst e;rcases H.own _ b with f|f
   ·simp only at f;omega
   ·exact g f
 ·rw[fx (λe=>H.nD _ b (by rw[<-e];exact d))];exact(H.base.pM q d).2
 ·obtain⟨j,c⟩:=Ff a;by_cases e:i=j
  ·subst e;rw[E5 (Bs.1 h).1] at c;cases c;exact⟨jV n,m⟩
  ·rw[CV e] at c;have l:=H.obj x (EU c);refine⟨?_,l.2⟩;rw[fx (λt=>?_)]
   ·exact l.1
   ·have u:(M.map (·.1))[i]? =some r:=by rw[FF,h];rfl
    have v:(M.map (·.1))[j]? =some r:=by rw[FF,c];exact congrArg some t
    have:=(I2 (by rw[MQ];exact(Bs.1 h).1) H.nd).1 (u.trans v.symm);exact e this
 ·rcases Gi a with a|rfl
  ·exact H.own x a
  ·exact H.own (r,o) b
 ·rcases Gi a with a|rfl
  ·exact H.nD x a
  ·exact H.nD (r,o) b
theorem alloc (H:cM D G w0 w L M) {o:B1} (b:nF o):cM D G w0 (w.alloc o) L ((w.heap.size,o)::M):=by
 have h1:=H.ext (Ext.alloc w o);have c:(w.alloc o).heap[w.heap.size]? =some o:=by
  show(w.heap.push o)[w.heap.size]? =some o;simp
 refine⟨h1.base,λx a=>?_,λx a=>?_,?_,λx a=>?_⟩
 ·rcases BK.1 a with rfl|a
  ·exact⟨c,b⟩
  ·exact h1.obj x a
 ·rcases BK.1 a with rfl|a
  ·exact .inl H.base.fr.size
  ·exact H.own x a
 ·refine BO.2 ⟨λd=>?_,H.nd⟩;obtain⟨y,f,e⟩:=Av.1 d;have:=(DB.1 (H.obj y f).1).1;simp only at e;omega
 ·rcases BK.1 a with rfl|a
  ·intro g;have:=(DB.1 (H.base.pM _ g).2).1;simp only at this;omega
  ·exact H.nD x a
theorem all (H:cM [] [] w0 w L M):Ext w0 w:=H.base.all
end cM
end Go.RX
namespace Go.Proofs.YtlcenllcmeebhaaGreat
set_option maxRecDepth 100000
open Go.RX
abbrev KV:Type:=Int×Ad
abbrev kvE (t:KV):Ad×Ad:=(aa t.1,t.2)
def iQ (es:List B5) (ck:Nat) (a:List KV):Prop:=
 (∃p:List KV,p.Perm a/\es.map (λe=>(e.key,e.val))=p.map kvE)/\(es.map (·.born)).Nodup/\(∀e∈es,e.born<ck)/\(a.map (·.1)).Nodup
theorem iQ.nil:iQ [] 0 []:=⟨⟨[],List.Perm.nil,rfl⟩,EO,λe a=>(by cases a),EO⟩
theorem Im {es:List B5} {p:List KV} (h:es.map (λe=>(e.key,e.val))=p.map kvE) (g:Int) (i0:Nat):
 Fw (.int .i64) (aa g) es i0=some (match p.findIdx? (λt=>t.1==g) with
  |some i=>some (i0+i,(p.getD i (0,undef)).2)
  |none=>none):=by
 induction es generalizing p i0 with
 |nil=>
  cases p with
  |nil=>rfl
  |cons t p=>simp at h
 |cons e es d=>
  cases p with
  |nil=>simp at h
  |cons t p=>
   simp only[Bv,List.cons.injEq] at h;obtain⟨h1,f⟩:=h;have j:e.key=aa t.1:=congrArg (·.1) h1;have hv:e.val=t.2:=congrArg (·.2) h1;unfold Fw;rw[j];have k:Instr.sameNow (.int .i64) (aa g) (aa t.1)=some (g==t.1):=by
    show(if B2=B2 then some (g==t.1) else none)= _;rw[az rfl]
   rw[k,List.findIdx?_cons];by_cases a:t.1=g
   ·have b:(g==t.1)=true:=by simp[a]
    have c:(t.1==g)=true:=by simp[a]
    rw[b,az c];dsimp only;rw[hv];rfl
   ·have b:(g==t.1)=false:=by simp;exact λe=>a e.symm
    have c: ¬ (t.1==g)=true:=by simp[a]
    rw[b,au c];dsimp only;rw[d f (i0+1)];cases p.findIdx? (λt=>t.1==g) with
    |none=>rfl
    |some i=>
     show some (some (i0+1+i, _))=some (some (i0+(i+1), _));rw[show i0+1+i=i0+(i+1) by omega];rfl
theorem qa {α β:Type} (f:α->β): ∀(l:List α) (i:Nat),(l.eraseIdx i).map f=(l.map f).eraseIdx i
 |[],i=>by simp
 |a::l,0=>rfl
 |a::l,i+1=>by
  simp only[List.eraseIdx_cons_succ,Bv];rw[qa f l i]
theorem iQ.Fa {es:List B5} {ck:Nat} {k:List KV} (h:iQ es ck k) {g:Int} {v:Ad} (A:(g,v)∈k): ∃i,Fw (.int .i64) (aa g) es 0=some (some (i,v))/\i<es.length/\iQ (es.eraseIdx i) ck (k.filter λt=> !(t.1==g)):=by
 obtain⟨⟨p,h1,l⟩,B,C,n⟩:=h;have o:(p.map (·.1)).Nodup:=(h1.map _).nodup_iff.2 n;have q:=h1.mem_iff.2 A;have r:=Im l g 0;cases d:p.findIdx? (λt=>t.1==g) with
 |none=>
  have:=MV.1 d _ q;simp at this
 |some i=>
  rw[d] at r;rw[List.findIdx?_eq_some_iff_getElem] at d;obtain⟨hi,b, _⟩:=d;have f:p[i]? =some p[i]:=Da hi;have s:p.getD i (0,undef)=p[i]:=by rw[JD,f];rfl
  obtain⟨t,u⟩: ∃t,t=p[i]:=⟨_,rfl⟩;rw[<-u] at f s b;have b:t.1=g:=by simpa using b
  have D:t=(g,v):=by
   obtain⟨j,m⟩:=Ff q;have E:(p.map (·.1))[i]? =some g:=by rw[FF,f];exact congrArg some b
   have F:(p.map (·.1))[j]? =some g:=by rw[FF,m];rfl
   have:=(I2 (by rw[MQ];exact hi) o).1 (E.trans F.symm);subst this;rw[f] at m;exact Option.some.inj m
  have J:es.length=p.length:=by
   have:=congrArg List.length l;simpa using this
  refine⟨i,by rw[r];dsimp only;rw[s,D,Bx],by omega,⟨p.eraseIdx i,?_,?_⟩,?_,?_,?_⟩
  ·have G:p.eraseIdx i=p.filter λt=> !(t.1==g):=by
    have w:p=p.take i++t::p.drop (i+1):=by
     conv=>lhs;rw[<-Db i p]
     rw[MW hi, <-u]
    have y: ∀x∈p.take i++p.drop (i+1),x.1≠g:=by
     intro x c e;have z:=o;rw[w,E9,Bv] at z;have H:=(BJ (a:=t.1) (l₁:=(p.take i).map (·.1)) (l₂:=(p.drop (i+1)).map (·.1))).nodup_iff.1 z;have:=(BO.1 H).1;refine this ?_;rw[b, <-e, <-E9];exact Av.2 ⟨x,c,rfl⟩
    rw[MZ]
    conv=>rhs;rw[w]
    rw[List.filter_append,List.filter_cons_of_neg (by simp[b])];rw[JJ.2 (λx c=>by have:=y x (CH _ c);simpa using this),JJ.2 (λx c=>by have:=y x (Cb _ c);simpa using this)]
   rw[G];exact h1.filter _
  ·rw[qa,l,qa]
  ·rw[qa];exact B.sublist (List.eraseIdx_sublist _ _)
  ·exact λe I=>C e (List.mem_of_mem_eraseIdx I)
  ·exact n.sublist ((List.filter_sublist).map _)
theorem iQ.Nw {es:List B5} {ck:Nat} {a:List KV} (h:iQ es ck a) {g:Int} (c: ∀t∈a,t.1≠g):Fw (.int .i64) (aa g) es 0=some none:=by
 obtain⟨⟨p,h1,d⟩, _, _, _⟩:=h;have b:=Im d g 0;rw[MV.2 λt e=>by have:=c t (h1.mem_iff.1 e);simpa using this] at b;exact b
theorem iQ.push {es:List B5} {ck:Nat} {a:List KV} (h:iQ es ck a) {g:Int} (v:Ad) (f: ∀t∈a,t.1≠g):iQ (es++[{key:=aa g,val:=v,born:=ck}]) (ck+1) ((g,v)::a):=by
 obtain⟨⟨p,h1,i⟩,j,c,k⟩:=h;refine⟨⟨p++[(g,v)],(M7 _ _).trans (h1.cons _),?_⟩,?_,?_,?_⟩
 ·rw[E9,i,E9];rfl
 ·rw[E9];refine H5.2 ⟨j,by simp,λx b y d e=>?_⟩;obtain⟨e',he,rfl⟩:=Av.1 b;have d:y=ck:=by simpa using d
  have:=c e' he;omega
 ·intro e he;rcases EY.1 he with he|he
  ·have:=c e he;omega
  ·have:e={key:=aa g,val:=v,born:=ck}:=by simpa using he
   subst this;exact HZ _
 ·refine BO.2 ⟨λl=>?_,k⟩;obtain⟨x,b,e⟩:=Av.1 l;exact f x b e
theorem iQ.abQ {es:List B5} {ck:Nat} {b:List KV} (h:iQ es ck b):(∀e∈es, ∃t∈b,e.key=aa t.1/\e.val=t.2)/\ ∀t∈b, ∃e∈es,e.key=aa t.1/\e.val=t.2:=by
 obtain⟨⟨p,f,g⟩, _⟩:=h;refine⟨λe c=>?_,λt d=>?_⟩
 ·have:(e.key,e.val)∈p.map kvE:=by rw[<-g];exact Av.2 ⟨e,c,rfl⟩
  obtain⟨t,d,a⟩:=Av.1 this;exact⟨t,f.mem_iff.1 d,(congrArg (·.1) a).symm,(congrArg (·.2) a).symm⟩
 ·have:kvE t∈es.map λe=>(e.key,e.val):=by rw[g];exact Av.2 ⟨t,f.mem_iff.2 d,rfl⟩
  obtain⟨e,c,a⟩:=Av.1 this;exact⟨e,c,congrArg (·.1) a,congrArg (·.2) a⟩
end Go.Proofs.YtlcenllcmeebhaaGreat
namespace Go.Proofs.YtlcenllcmeebhaaGreat.Mu
set_option maxRecDepth 100000
open Go.RX
abbrev eI:El:= .one (.int .i64)
abbrev oB (now:Int) (s:Option AC×Nat×Nat) (mb:Nat):List Ad:=[aa now,.slice s.1 s.2.1 s.2.2,.map (some mb)]
section
variable {D G:List Nat} {w0 w:A2} {L Ls:List (Nat×List Ad)} {M:List (Nat×B1)} {s:Option AC×Nat×Nat} {pins:List Int} {now:Int} {eb mb:Nat}
theorem pj (H:aJ D G w0 w L) (a:(eb,oB now s mb)∈L):ah Ab 114 [ag (ae eb)] w (.bool true):=by
 refine ah.of (s:= .el (.one .bool)) λw' h'=>ai (C:=U0) (aT:=λ_=>[]) (Ae (J8 _ w' _) ?_);exact⟨λ_=>rfl,λ_=>rfl,aj.lJ (H.ext h') a (show _=some (some mb) from rfl) λw1 h1=>⟨rfl,h1⟩⟩
theorem YN (H:aJ D G w0 w L) (a:(eb,oB now s mb)∈L):ah Ab 237 [ag (ae eb)] w (aa now):=by
 refine ah.of (s:= .el (.one (.int .i64))) λw' h'=>ai (C:=U0) (aT:=λ_=>[]) (Ae (T4 _ w' _) ?_);exact⟨_,pj (H.ext h') a,an rfl ⟨rfl,rfl,aj.lJ (H.ext h') a (show _=some now from rfl) λw1 h1=>⟨rfl,h1⟩⟩⟩
def zW (pins:List Int) (c:Nat) (a:Int):List Int:=if(pins.getD c 0== -1)=(a== -1) then pins else pins.set c a
theorem HP {e:El} {xs:List e.T} (h:dU e s xs Ls) (H:aJ D G w0 w (Ls++L)) {i:Nat} {x:e.T} (a:xs[i]? =some x):s.1.isSome=true/\cP w (ad s.1 (i*aG e)) e x:=
 h.sl H (λy b=>CH _ b) i x a
theorem Io (H:aJ D G w0 w ((eb,oB now s mb)::(Ls++L))) (b:dU eI s pins Ls) (c:Nat) (hc:c<pins.length) (a:Int) {K:Int->A2->Prop}
 (k: ∀v f d,dU eI s (zW pins c a) f->aJ D G w0 d ((eb,oB now s mb)::(f++L))->K v d):
 aD Ab 203 (.el (.one (.int .i64))) [ag (ae eb),aa (c:Int),aa a] w K:=by
 refine aD.go H λw1 H=>ai (C:=U0) (aT:=λ_=>[]) (Ae (T5 _ _ _ w1 K) ?_);have m:=b.1;have h:pins[c]? =some (pins.getD c 0):=by rw[JD,Da hc];rfl
 have h0:(decide ((c:Int)<0))=false:=decide_eq_false (by omega);have g:aJ D G w0 w1 (Ls++((eb,oB now s mb)::L)):=H.perm BJ;refine⟨_,pj H CN,an rfl ⟨λ_=>rfl,λ_=>rfl,aj.bP 0 H rfl (show _=some (s.1,s.2.1,s.2.2) from rfl) ?_⟩⟩;refine an (by rw[h0,Bool.false_or,decide_eq_false_iff_not];dsimp only;omega) ⟨rfl,rfl,aj.bP 0 H rfl (show _=some (s.1,s.2.1,s.2.2) from rfl) ⟨⟨(HP b g h).1,by omega,by dsimp only;omega⟩,aj.of (pins.getD c 0) (by dsimp only;rw[De];exact(HP b g h).2) ?_⟩⟩;refine ab (λe=>ao.go H λd H=>?_) (λe=>⟨rfl,rfl,aj.bP 0 H rfl (show _=some (s.1,s.2.1,s.2.2) from rfl) ⟨⟨(HP b g h).1,by omega,by dsimp only;omega⟩,?_⟩⟩)
 ·refine k 6 Ls d ?_ H;unfold zW;rw[az (by simpa using e)];exact b
 ·dsimp only;rw[De];refine b.st g hc a rfl rfl λf d j i=>ao.go i λl i=>k 0 f l ?_ (i.perm BJ.symm);unfold zW;rw[au (by intro c;rw[c] at e;simp at e)];exact j
theorem T9 (H:aJ D G w0 w ((eb,oB now s mb)::(Ls++L))) (e:dU eI s pins Ls) (c:Nat) (hc:c<pins.length) {K:Int->A2->Prop}
 (k: ∀v a b,dU eI s (zW pins c now) a->aJ D G w0 b ((eb,oB now s mb)::(a++L))->K v b):
 aD Ab 200 (.el (.one (.int .i64))) [ag (ae eb),aa (c:Int)] w K:=by
 refine aD.go H λw1 H=>ai (C:=U0) (aT:=λ_=>[]) (Ae (T6 _ _ w1 K) ?_);exact⟨now,YN H CN,Io H e c hc now λv a b f d=>ao.go d λg d=>k v a g f d⟩
theorem Ka (H:aJ D G w0 w ((eb,oB now s mb)::(Ls++L))) (e:dU eI s pins Ls) (c:Nat) (hc:c<pins.length) {K:Int->A2->Prop}
 (k: ∀v a b,dU eI s (zW pins c (-1)) a->aJ D G w0 b ((eb,oB now s mb)::(a++L))->K v b):
 aD Ab 158 (.el (.one (.int .i64))) [ag (ae eb),aa (c:Int)] w K:=by
 refine aD.go H λw1 H=>ai (C:=U0) (aT:=λ_=>[]) (Ae (J9 _ _ w1 K) ?_);exact Io H e c hc (-1) λv a b f d=>ao.go d λg d=>k v a g f d
def JN (pins:List Int) (now:Int):Int:=if pins.all (λp=>p== -1||p==now)=true then now+1 else now
theorem T_ (H:aJ D G w0 w ((eb,oB now s mb)::(Ls++L))) (g:dU eI s pins Ls) (z:pins.length<=8) (A:0<=now/\now<4611686018427387904) {K:Bool->A2->Prop}
 (k: ∀v a,aJ D G w0 a ((eb,oB (JN pins now) s mb)::(Ls++L))->K v a):
 aD Ab 197 (.el (.one .bool)) [ag (ae eb)] w K:=by
 refine aD.go H λw1 H=>ai (C:=U0) (aT:=vJ) (Ae (T8 _ w1 K) ?_);have m:=g.1;refine⟨_,pj H CN,an rfl ⟨rfl,rfl,aj.bP 0 H rfl (show _=some (s.1,s.2.1,s.2.2) from rfl) ?_⟩⟩;refine⟨λn st a=> ∃j:Nat,j<=pins.length/\n=pins.length - j/\st.1=(j:Int)/\(pins.take j).all (λp=>p== -1||p==now)=true/\aJ D G w0 a ((eb,oB now s mb)::(Ls++L)),⟨pins.length,λa o=>⟨0,Fv _,rfl,rfl,rfl,H.ext o⟩⟩,?_⟩;rintro n ⟨i, _⟩ a ⟨j,h,r,hi,b,H⟩;have hi:i=(j:Int):=hi;subst hi r;dsimp only;rw[m];have t:aJ D G w0 a (Ls++((eb,oB now s mb)::L)):=H.perm BJ;refine ab (λc=>?_) (λc=>?_)
 ·have h:j<pins.length:=by have:=of_decide_eq_true c;omega
  obtain⟨x,d⟩: ∃x,pins[j]? =some x:=⟨_,Da h⟩;have l:=HP g t d;refine⟨⟨l.1,by omega,by omega⟩,aj.of x (by rw[De];exact l.2) ⟨λ_=>rfl,λ_=>rfl,aj.bP 0 H rfl (show _=some now from rfl) ?_⟩⟩;refine ab (λc=>ao.go H λf H=>k false f ?_) (λc f u=>⟨pins.length - (j+1),by omega,j+1,by omega,rfl,?_,?_,H.ext u⟩)
  ·have:JN pins now=now:=by
    unfold JN;refine au λhc=>?_;have:=List.all_eq_true.1 hc x (EU d);simp only[Hq,bne_iff_ne,Do,beq_iff_eq] at c this;rcases this with q|q
    ·exact c.1 q
    ·exact c.2 q
   rw[this];exact H
  ·rw[ax (by omega) (by omega)];omega
  ·rw[HB,d,List.all_append,b,Ga];show([x]:List Int).all _=true;rw[List.all_cons,List.all_nil,Bool.and_true];simp only[Hr,bne_eq_false_iff_eq] at c;simpa using c
 ·have:j=pins.length:=by have:=of_decide_eq_false c;omega
  subst this;rw[JL] at b;have e:JN pins now=now+1:=az b;rw[e] at k;refine⟨rfl,rfl,aj.bP 0 H rfl (show _=some now from rfl) ⟨rfl,rfl,?_⟩⟩;rw[ax (by omega) (by omega)];exact aC.fb 0 H rfl rfl rfl λf H=>ao.go H λy H=>k true y H
end
section
variable {D G:List Nat} {w0 w:A2} {L:List (Nat×List Ad)} {M:List (Nat×B1)} {s:Option AC×Nat×Nat} {ws:List KV} {es:List B5} {now:Int} {eb mb ck:Nat}
def Nx (ws:List KV) (f now:Int):List KV:=if ws.any (λx=>x.1==f)=true then ws else(f,aa now)::ws
theorem Ua (H:cM D G w0 w L ((mb,.map ⟨es⟩ ck)::M)) (b:(eb,oB now s mb)∈L) (hv:iQ es ck ws) (r: ∀t∈ws, ∃x,t.2=aa x) (f:Int) (B:0<=f) {K:Int->A2->Prop}
 (k: ∀v l m a,iQ l m (Nx ws f now)->cM D G w0 a L ((mb,.map ⟨l⟩ m)::M)->K v a):
 aD Ab 162 (.el (.one (.int .i64))) [ag (ae eb),aa f] w K:=by
 refine λw1 h1=>ai (C:=U0) (aT:=λ_=>[]) (Ae (T7 _ _ w1 K) ?_);have H:=H.ext h1;refine⟨_,pj H.base b,an rfl (an (decide_eq_false (by omega)) ⟨rfl,rfl,aj.lJ H.base b (show _=some (some mb) from rfl) ?_⟩)⟩;have n:bE w1 mb ⟨es⟩ ck:=H.get (i:=0) rfl;by_cases o: ∃v,(f,v)∈ws
 ·obtain⟨v,d⟩:=o;obtain⟨x,p⟩:=r _ d;dsimp only at p;subst p;obtain⟨i,hi, _⟩:=hv.Fa d;refine⟨x,true,⟨mb, _, _,rfl,n,by rw[hi];exact⟨rfl,rfl⟩⟩,aF rfl λa g=>?_⟩;have e:Nx ws f now=ws:=az (JP.2 ⟨_,d,by simp⟩);rw[e] at k;exact k 5 es ck a hv (H.ext g)
 ·have h: ∀t∈ws,t.1≠f:=λt j e=>o ⟨t.2,by rw[<-e];exact j⟩;have q:=hv.Nw h;refine⟨0,false,⟨mb, _, _,rfl,n,by rw[q];exact⟨rfl,rfl⟩⟩,an rfl ⟨rfl,rfl,aj.lJ H.base b (show _=some (some mb) from rfl) ⟨rfl,rfl,aj.lJ H.base b (show _=some now from rfl) λa g=>?_⟩⟩⟩;have H:=H.ext g;refine⟨mb, _, _,rfl,H.get (i:=0) rfl,?_⟩;unfold gS;rw[q];have H:=H.put (i:=0) rfl (o':= .map ⟨es++[{key:=aa f,val:=aa now,born:=ck}]⟩ (ck+1)) trivial;have u:(K1 es).push {key:=aa f,val:=aa now,born:=ck}=⟨es++[{key:=aa f,val:=aa now,born:=ck}]⟩:=by apply Jt;simp
  have e:Nx ws f now=(f,aa now)::ws:=au λc=>by
   obtain⟨t,j,y⟩:=JP.1 c;exact h t j (by simpa using y)
  rw[e] at k;show ao _ _;rw[u];exact λz A=>k 0 _ _ z (hv.push _ h) (H.ext A)
end
abbrev CS:Type:=Int×Int×Int×Int×Unit
def ZU (l:CS):Bool:=decide (l.1>=1)&&decide (l.1<=16)&&decide (l.2.1>=0)&&decide (l.2.1<65536)&&decide (l.2.2.1>=0)&&decide (l.2.2.1<4096)&&decide (l.2.2.2.1>=1)&&decide (l.2.2.2.1<=7)
def l7 (l:CS) (t p:Int):Bool:=l.1==t&&l.2.1==p
abbrev lnV (l:CS):Ad:= .agg ⟨[aa l.1,aa l.2.1,aa l.2.2.1,aa l.2.2.2.1]⟩
theorem Py (l:CS) (w:A2):ah Ab 204 [lnV l] w (.bool (ZU l)):=by
 obtain⟨t,p,f,r, _⟩:=l;refine ah.of (s:= .el (.one .bool)) λw' _=>ai (C:=U0) (aT:=λ_=>[]) (Ae (J4 t p f r w' _) ?_);have H:=At.start [] w'
 repeat' (first
  |exact Go.RX.aJ.all H
  |exact And.intro (by first|rfl|decide+kernel) (Go.RX.aJ.all H)
  |simp
  |refine aj.bP 0 H rfl rfl ?_
  |refine aj.at 0 H rfl rfl ?_
  |refine aK.go H λb w1 H=>?_
  |with_reducible refine ao.go H λw1 H=>?_
  |refine j8 ?_
  |refine an (by assumption) ?_
  )
theorem WA (l:CS) (a b:Int) (w:A2):ah Ab 150 [lnV l,aa a,aa b] w (.bool (l7 l a b)):=by
 obtain⟨t,p,f,r, _⟩:=l;refine ah.of (s:= .el (.one .bool)) λw' _=>ai (C:=U0) (aT:=λ_=>[]) (Ae (YM t p f r a b w' _) ?_);have H:=At.start [] w';refine aK.go H λc w1 H=>aj.at 0 H rfl (rfl) ⟨rfl,aj.bP 0 H rfl rfl ⟨rfl,aj.bP 0 H rfl rfl (ao.go H λw1 H=>⟨?_,H.all⟩)⟩⟩;show(t==a&&(p==b&&(f==f&&(r==r&&true))))=(t==a&&p==b);simp
abbrev dx (s:Option AC×Nat×Nat) (sz:Int):List Ad:=[.slice s.1 s.2.1 s.2.2,aa sz]
section
variable {D G:List Nat} {w0 w:A2} {L Ls:List (Nat×List Ad)} {s:Option AC×Nat×Nat} {ls:List CS} {sz:Int} {tb:Nat}
theorem sX (H:aJ D G w0 w L) (a:(tb,dx s sz)∈L) (b:0<sz):ah Ab 140 [ag (ae tb)] w (.bool true):=by
 refine ah.of λw' h'=>ai (Ae (J5 _ w' _) ?_);refine⟨λ_=>rfl,λ_=>rfl,aj.lJ (H.ext h') a rfl λw1 h1=>⟨?_,h1⟩⟩
 grind
theorem Ou {α:Type} {a b:α} {m l:Nat} (h:m=l):(FS (λ_=>a) (λ_=>b) (instDecidableEqNat m l):α)=b:=by
 generalize instDecidableEqNat m l=d;cases d with
 |isTrue
 |isFalse=>grind
theorem FM {α:Type} {a b:α} {m l:Nat} (h:m≠l):(FS (λ_=>a) (λ_=>b) (instDecidableEqNat m l):α)=a:=by
 generalize instDecidableEqNat m l=d;cases d with
 |isTrue=>grind
 |isFalse=>rfl
theorem Ip (H:aJ D G w0 w ((tb,dx s sz)::(Ls++L))) (h:dU lE s ls Ls) (P:(ls.length:Int)<=64) (i:Nat) (hi:i<ls.length) {K:Unit->A2->Prop}
 (k: ∀s' b a,dU lE s' (ls.eraseIdx i) b->aJ D G w0 a ((tb,dx s' sz)::(b++L))->K () a):
 aD Ab 196 (.bu []) [ag (ae tb),aa (i:Int)] w K:=by
 refine aD.go H λw1 H=>ai (C:=U0) (aT:=λ_=>[]) (Ae (TY _ _ w1 K) ?_);obtain⟨p,n,c⟩:=s;have u:=h;obtain⟨h1,e,l⟩:=h;have h1:n=ls.length:=h1;have e:ls.length<=c:=e;subst h1;have Q:=e;have m:aB .i64 (i:Int) 1=((i+1:Nat):Int):=by rw[ax (by omega) (by omega)];omega
 obtain⟨bs,rest,a1,v,x⟩: ∃bs rest,p=some ⟨bs,0,none⟩/\Ls=[(bs,flat lE ls++rest)]/\c*aG lE<=(flat lE ls++rest).length:=by
  rcases l with ⟨_,q, _⟩|q
  ·have:c=0:=q;omega
  ·exact q
 subst a1 v;refine⟨rfl,rfl,aj.bP 0 H rfl rfl ⟨?_,rfl,rfl,aj.bP 0 H rfl rfl ⟨?_,λa y=>?_⟩⟩⟩
 ·dsimp only;omega
 ·rw[m];dsimp only;omega
 have H:=H.ext y;rw[m];dsimp only;have A:qn a (if((c:Int)).toNat=((i+1:Nat):Int).toNat then(some ⟨bs,0,none⟩:Option AC) else ad (ae bs) (((i+1:Nat):Int).toNat*4)) ((((ls.length:Nat):Int).toNat - ((i+1:Nat):Int).toNat)*aG lE) (flat lE (ls.drop (i+1))):=by
  have B:=H.get (i:=1) rfl;by_cases hc:c=i+1
  ·have:ls.drop (i+1)=[]:=I1 (by omega);rw[this,az (by omega),show((((ls.length:Nat):Int).toNat - ((i+1:Nat):Int).toNat))=0 by omega];exact⟨rfl,λj f=>by simp at f⟩
  ·rw[au (by omega),aR];refine B.qn ?_ λj f=>?_
   ·rw[aI,F0];congr 1
   ·have o:flat lE ls=flat lE (ls.take (i+1))++flat lE (ls.drop (i+1)):=by rw[<-dM,Db]
    have S:(flat lE (ls.take (i+1))).length=(i+1)*aG lE:=by rw[aI,BN,Dl (by omega)]
    have T:0+((i+1:Nat):Int).toNat*4=(i+1)*aG lE:=by
     show 0+(i+1)*4=(i+1)*4;omega
    have U:j<(flat lE (ls.drop (i+1))).length:=by
     rw[aI,F0];refine HM f (G1 _ (by omega))
    grind
 have E:dU lE (some ⟨bs,0,none⟩,i,i) (ls.take i) [(bs,flat lE (ls.take i)++(flat lE (ls.drop i)++rest))]:=by
  refine⟨by rw[BN,Dl (by omega)],by rw[BN,Dl (by omega)];exact DA _,.inr ⟨bs, _,rfl,rfl,?_⟩⟩;rw[<-E6, <-dM,Db];exact CO (G1 _ (show i<=c by clear e u l;omega)) x
 have F:flat lE ls++rest=flat lE (ls.take i)++(flat lE (ls.drop i)++rest):=by rw[<-E6, <-dM,Db]
 have I:aJ D G w0 a ([(bs,flat lE (ls.take i)++(flat lE (ls.drop i)++rest))]++((tb,dx (some ⟨bs,0,none⟩,ls.length,c) sz)::L)):=by
  rw[<-F];exact H.perm (Dn _ _ _)
 have o:(FS (λ_=>ad (ae bs) (((i+1:Nat):Int).toNat*4)) (λ_=>(some ⟨bs,0,none⟩:Option AC)) (instDecidableEqNat ((c:Int)).toNat ((i+1:Nat):Int).toNat):Option AC)=if((c:Int)).toNat=((i+1:Nat):Int).toNat then(some ⟨bs,0,none⟩:Option AC) else ad (ae bs) (((i+1:Nat):Int).toNat*4):=by
  by_cases hc:((c:Int)).toNat=((i+1:Nat):Int).toNat
  ·rw[az hc,Ou hc]
  ·rw[au hc,FM hc]
 have key:=aJ.Ya I E (show gU lE=true from rfl) (q:=(if((c:Int)).toNat=((i+1:Nat):Int).toNat then(some ⟨bs,0,none⟩:Option AC) else ad (ae bs) (((i+1:Nat):Int).toNat*4),((ls.length:Nat):Int).toNat - ((i+1:Nat):Int).toNat,((c:Int)).toNat - ((i+1:Nat):Int).toNat)) (ys:=ls.drop (i+1)) (by rw[F0];show((ls.length:Nat):Int).toNat - ((i+1:Nat):Int).toNat= _;omega) A
  (t:=96) (size:=4) (bytes:=32) (z:=⟨[aa 0,aa 0,aa 0,aa 0]⟩) rfl rfl (by rw[BN,F0];omega)
  (R:=λr a=>(some (⟨tb,0,none⟩:AC)).isSome=true/\(some (⟨tb,0,none⟩:AC)).isSome=true/\aC a (ad (ae tb) 0) [Value.slice r.1 r.2.1 r.2.2] λa=>ao a λw1=>K () w1) λs' b V J g=>?_
 ·rw[o];have:((i:Int)).toNat - 0=i:=by omega
  rw[this];generalize (instDecidableEqNat ((i:Int)).toNat 0:Decidable (((i:Int)).toNat=((0:Nat):Int).toNat))=d;cases d<;>exact key
 ·refine⟨rfl,rfl,?_⟩;have g:=g.perm (L':=(tb,dx (some ⟨bs,0,none⟩,ls.length,c) sz)::(b++L)) BJ.symm;refine aC.fb 0 g rfl rfl rfl λW M=>ao.go M λN O=>k s' b N ?_ O;rw[MZ];exact J
theorem vK {α:Type} {ls:List α} {j:Nat} {x:α} (f:α->Bool) (a:ls[j]? =some x):ls.take (j+1)++(ls.drop (j+1)).filter f=ls.take j++([x]++(ls.drop (j+1)).filter f):=by grind[HB]
theorem i_ {α:Type} {ls:List α} {j:Nat} {x:α} (a:ls[j]? =some x):ls.drop j=x::ls.drop (j+1):=by grind[MW]
def SwI (D G:List Nat) (w0:A2) (L:List (Nat×List Ad)) (tb:Nat) (sz:Int) (ls:List CS) (is:CS->Bool) (n:Nat) (s:Int×Int×Unit) (w:A2):Prop:=
 n<=ls.length/\s.1=(((ls.drop n).countP is:Nat):Int)/\s.2.1=(n:Int) - 1/\ ∃sl Ls,dU lE sl (ls.take n++(ls.drop n).filter (λl=> !is l)) Ls/\aJ D G w0 w ((tb,dx sl sz)::(Ls++L))
theorem zb {is:CS->Bool} (J:(ls.length:Int)<=64) {n:Nat} {s:Int×Int×Unit} (v:SwI D G w0 L tb sz ls is n s w) {Q:CS->Bool->Prop} {K:Int->A2->Prop} {N:Int->Int->A2->Prop}
 (z: ∀{sl Ls},aJ D G w0 w ((tb,dx sl sz)::(Ls++L))-> ∀x,Q x (is x))
 (A: ∀{sl Ls d},dU lE sl (ls.filter (λl=> !is l)) Ls->aJ D G w0 d ((tb,dx sl sz)::(Ls++L))->K ((ls.countP is:Nat):Int) d)
 (o: ∀(a b:Int) (d:A2),(∃q,q<n/\SwI D G w0 L tb sz ls is q (a,b,()) d)->N a b d):
 aL (decide (s.2.1>=0)) ((some (⟨tb,0,none⟩:AC)).isSome=true/\(some (⟨tb,0,none⟩:AC)).isSome=true/\aj w none (ad (ae tb) 0) (.one .slice) λx=>(x.1.isSome=true/\0<=s.2.1/\s.2.1<((x.2.1:Nat):Int))/\aj w none (ad x.1 (B4 s.2.1*4)) lE λx=> ∃r:Bool,Q x r/\
  aL r (aD Ab 196 (.bu []) [ag (ae tb),aa s.2.1] w λ_ d=> ∀e,Ext d e->N (aB .i64 s.1 1) (aY .i64 s.2.1 1) e) (∀e,Ext w e->N s.1 (aY .i64 s.2.1 1) e))
  (ao w λw1=>K s.1 w1):=by
 obtain⟨s1,s2,M⟩:=s;obtain⟨h1,m,f,sl,Ls,g,H⟩:=v;have m:s1=(((ls.drop n).countP is:Nat):Int):=m;have f:s2=(n:Int) - 1:=f;subst m f;refine ab (λc=>?_) (λc=>?_)
 ·obtain⟨j,rfl⟩: ∃j,n=j+1:=⟨n - 1,by have:=of_decide_eq_true c;dsimp only at this;omega⟩;obtain⟨x,h⟩: ∃x,ls[j]? =some x:=⟨_,Da (by omega)⟩;have hc:((((ls.drop (j+1)).countP is:Nat):Int))<=ls.length:=by
   have:=List.countP_le_length (p:=is) (l:=ls.drop (j+1));rw[F0] at this;omega
  have B:((j+1:Nat):Int) - 1=(j:Int):=by omega
  have C:aY .i64 (j:Int) 1=(j:Int) - 1:=bD (by omega) (by omega);have t:=(g.sl H (λy E=>Bp _ (CH _ E))) j x (by
   rw[vK _ h,IR (by rw[BN];omega),BN,Dl (by omega),GS];rfl)
  have O:=g.1;dsimp only;rw[B,C];refine⟨rfl,rfl,aj.bP 0 H rfl rfl ⟨⟨t.1,by omega,?_⟩,aj.of x ?_ ⟨is x,z H x,?_⟩⟩⟩
  grind
  ·dsimp only;rw[De];exact t.2
  rw[vK _ h] at g;have i:(ls.drop j).countP is=(ls.drop (j+1)).countP is+if is x=true then 1 else 0:=by rw[i_ h,List.countP_cons]
  cases k:is x with
  |true=>
   rw[k,az rfl] at i;refine aF rfl (Ip H g ?_ j ?_ λs' F d u I e f=>o _ _ _ ⟨j,HZ j,by omega,?_,rfl,s',F,?_,I.ext f⟩)
   grind
   grind
   ·dsimp only;rw[ax (by omega) (by omega),i];omega
   ·rw[List.eraseIdx_append_of_length_le (by rw[BN];omega),BN,Dl (by omega),GS] at u;rw[i_ h,Fu,k];exact u
  |false=>
   rw[k,au (by decide)] at i;refine an rfl λe f=>o _ _ _ ⟨j,HZ j,by omega,?_,rfl,sl,Ls,?_,H.ext f⟩
   ·dsimp only;rw[i];rfl
   ·rw[i_ h,Fu,k];exact g
 ·have:n=0:=by
   have:=of_decide_eq_false c;dsimp only at this;omega
  subst this;rw[List.drop_zero];exact ao.go H λd H=>A g H
theorem Gn (H:aJ D G w0 w ((tb,dx s sz)::(Ls++L))) (i:dU lE s ls Ls) (j:(ls.length:Int)<=64) (m:0<sz) {c d:Nat} {t g:Int} (hc:(c,[aa t])∈L) (o:(d,[aa g])∈L) {K:Int->A2->Prop}
 (k: ∀s' f e,dU lE s' (ls.filter λl=> !l7 l t g) f->aJ D G w0 e ((tb,dx s' sz)::(f++L))->K ((ls.countP (λl=>l7 l t g):Nat):Int) e):
 aD Ab 147 (.el (.one (.int .i64))) [ag (ae tb),.func (.func 149) #[] #[ag (ae c),ag (ae d)]] w K:=by
 refine aD.go H λw1 H=>ai (C:=U0) (aT:=pG) (Ae (Gg _ _ _ w1 K) ?_);have p:=i.1;refine⟨_,sX H (CN) m,an rfl ⟨rfl,rfl,aj.bP 0 H rfl rfl ⟨SwI D G w0 L tb sz ls (λl=>l7 l t g),⟨ls.length,λe q=>⟨DA _,?_,?_,s,Ls,?_,H.ext q⟩⟩,λn st e r=>?_⟩⟩⟩
 ·rw[HE];rfl
 ·dsimp only;rw[p,bD (by omega) (by omega)]
 grind
 refine zb (is:=λl=>l7 l t g) j r (λ{sl Ls} H x=>?_) (λ{sl Ls e} a b=>k sl Ls e a b) (λa b e h=>h);refine ah.of (s:= .el (.one .bool)) λw' h'=>ai (C:=U0) (aT:=λ_=>[]) (Ae (Gf _ _ _ _ _ _ w' _) ?_);have u:=(H.ext h').dp _ (Bp _ (Cb _ hc));have v:=(H.ext h').dp _ (Bp _ (Cb _ o));have H0:=At.start [] w';refine aK.go H0 λb y H0=>aj.at 0 H0 rfl (rfl) (aj.fa H0 u (by simp) rfl (aj.fa H0 v (by simp) rfl ⟨_,WA (x.1,x.2.1,x.2.2.1,x.2.2.2.1,()) t g y,ao.go H0 λz H0=>⟨rfl,H0.all⟩⟩))
theorem Gp (H:aJ D G w0 w ((tb,dx s sz)::(Ls++L))) (f:dU lE s ls Ls) (g:(ls.length:Int)<=64) (i:0<sz) {c:Nat} {t:Int} (hc:(c,[aa t])∈L) {K:Int->A2->Prop}
 (k: ∀s' e d,dU lE s' (ls.filter λl=> !(l.1==t)) e->aJ D G w0 d ((tb,dx s' sz)::(e++L))->K ((ls.countP (λl=>l.1==t):Nat):Int) d):
 aD Ab 147 (.el (.one (.int .i64))) [ag (ae tb),.func (.func 148) #[] #[ag (ae c)]] w K:=by
 refine aD.go H λw1 H=>ai (C:=U0) (aT:=pH) (Ae (Gj _ _ w1 K) ?_);have j:=f.1;refine⟨_,sX H (CN) i,an rfl ⟨rfl,rfl,aj.bP 0 H rfl rfl ⟨SwI D G w0 L tb sz ls (λl=>l.1==t),⟨ls.length,λd m=>⟨DA _,?_,?_,s,Ls,?_,H.ext m⟩⟩,λn st d o=>?_⟩⟩⟩
 grind
 ·dsimp only;rw[j,bD (by omega) (by omega)]
 grind
 refine zb (is:=λl=>l.1==t) g o (λ{sl Ls} H x=>?_) (λ{sl Ls d} a b=>k sl Ls d a b) (λa b d h=>h);refine ah.of (s:= .el (.one .bool)) λw' h'=>ai (C:=U0) (aT:=λ_=>[]) (Ae (J6 _ _ _ _ _ w' _) ?_);have p:=(H.ext h').dp _ (Bp _ (Cb _ hc));have H0:=At.start [] w';refine aK.go H0 λb q H0=>⟨rfl,aj.bP 0 H0 rfl rfl (aj.fa H0 p (by simp) rfl (ao.go H0 λr H0=>⟨rfl,H0.all⟩))⟩
theorem AH (H:aJ D G w0 w ((tb,dx s sz)::(Ls++L))) (h:dU lE s ls Ls) (i:(ls.length:Int)<=64) (j:0<sz) (t g:Int) {K:Bool->A2->Prop}
 (k: ∀s' a b,dU lE s' (ls.filter λl=> !l7 l t g) a->aJ D G w0 b ((tb,dx s' sz)::(a++L))->K (ls.any λl=>l7 l t g) b):
 aD Ab 108 (.el (.one .bool)) [ag (ae tb),aa t,aa g] w K:=by
 refine aD.go H λw1 H=>ai (C:=U0) (aT:=λ_=>[]) (Ae (J7 _ _ _ w1 K) ?_);refine aK.go H λc b H=>aK.go H λd m H=>?_;have n:aJ D G w0 m ((tb,dx s sz)::(Ls++((d,[aa g])::(c,[aa t])::L))):=H.perm (by
  have p1:(Ls++((d,[aa g])::(c,[aa t])::L)).Perm _:=BJ.trans (C6 _ BJ);refine(C6 _ p1).trans ?_;exact(Dn _ _ _).trans (C6 _ (Dn _ _ _)))
 refine Gn n h i j (c:=c) (d:=d) (t:=t) (g:=g) (by grind) CN λs' a q o f=>ao.go f λp f=>?_;have e:decide (((ls.countP (λl=>l7 l t g):Nat):Int)>0)=ls.any λl=>l7 l t g:=by
  rw[Ht,JP]
  simp_all
 rw[e];exact k s' a p o (f.sub (by grind))
theorem Gq (H:aJ D G w0 w ((tb,dx s sz)::(Ls++L))) (e:dU lE s ls Ls) (f:(ls.length:Int)<=64) (g:0<sz) (t:Int) {K:Int->A2->Prop}
 (k: ∀v s' a b,dU lE s' (ls.filter λl=> !(l.1==t)) a->aJ D G w0 b ((tb,dx s' sz)::(a++L))->K v b):
 aD Ab 107 (.el (.one (.int .i64))) [ag (ae tb),aa t] w K:=by
 refine aD.go H λw1 H=>ai (Ae (Gl _ _ w1 K) ?_);refine aK.go H λc b H=>?_;have h:=H.perm ((C6 _ BJ).trans (Dn _ _ _));refine Gp h e f g (t:=t) (by grind) λs' a m i d=>ao.go d λj d=>?_;exact k _ s' a j i (d.sub (by grind))
end
section
variable {D G:List Nat} {w0 w:A2} {L Ls:List (Nat×List Ad)} {s:Option AC×Nat×Nat} {ls:List CS} {sz:Int} {tb:Nat}
def Dq (ls:List CS) (sz:Int) (l:CS):List CS:=
 (if ls.any (λx=>l7 x l.1 l.2.1)=true then ls.filter (λx=> !l7 x l.1 l.2.1) else if(ls.length:Int)=sz then ls.drop 1 else ls)++[l]
def xQ (ls:List CS) (t p w:Int):Int×Int×Unit:=match ls.find? (λx=>l7 x t p) with
 |none=>(0,4,())
 |some l=>if w<0\/w>7\/gD .i64 w l.2.2.2.1≠0 then(0,7,()) else(l.2.2.1,0,())
theorem Iq {x b:Nat×List Ad} {Ls L:List (Nat×List Ad)}:(x::(Ls++(b::L))).Perm (b::x::(Ls++L)):=
 (C6 _ BJ).trans (Dn _ _ _)
theorem YO {α:Type} (x y z:α) (A B:List α):(A++(x::y::z::B)).Perm (z::y::x::(A++B)):=by
 refine BJ.trans ?_;refine(C6 x (BJ.trans (C6 y BJ))).trans ?_;refine(C6 x (Dn z y _)).trans ?_;exact(Dn z x _).trans (C6 z (Dn y x _))
theorem Pz (H:aJ D G w0 w ((tb,dx s sz)::(Ls++L))) (I:dU lE s ls Ls) (hl:(ls.length:Int)<=sz) (z:0<sz/\sz<=64) (l:CS) (J:ZU l=true) {K:Int->A2->Prop}
 (k: ∀s' A a,dU lE s' (Dq ls sz l) A->aJ D G w0 a ((tb,dx s' sz)::(A++L))->K 0 a):
 aD Ab 159 (.el (.one (.int .i64))) [ag (ae tb),lnV l] w K:=by
 obtain⟨t,g,f,r, _⟩:=l;refine aD.go H λw1 H=>ai (C:=U0) (aT:=λ_=>[]) (Ae (Ps _ t g f r w1 K) ?_);refine aK.go H λb a H=>⟨_,sX H (Bp _ CN) z.1,an rfl (aj.at 0 H rfl (show _=some (t,g,f,r,()) from rfl) ⟨_,Py (t,g,f,r,()) a,?_⟩)⟩;rw[J];refine an rfl ⟨rfl,aj.bP 0 H rfl rfl ⟨rfl,aj.bP 0 H rfl rfl ?_⟩⟩;have c:aJ D G w0 a ((tb,dx s sz)::(Ls++((b,[aa t,aa g,aa f,aa r])::L))):=H.perm Iq;refine AH c I (by omega) z.1 t g λs1 Ls1 w3 h c=>?_;have M:=List.length_filter_le (λl=> !l7 l t g) ls;have u: ∀{s2:Option AC×Nat×Nat} {n:List CS} {d:List (Nat×List Ad)} {e:A2},dU lE s2 n d->n.length<=ls.length->n++[(t,g,f,r,())]=Dq ls sz (t,g,f,r,())->aJ D G w0 e ((tb,dx s2 sz)::(d++((b,[aa t,aa g,aa f,aa r])::L)))->
  ((some (⟨tb,0,none⟩:AC)).isSome=true/\(some (⟨tb,0,none⟩:AC)).isSome=true/\aj e none (ad (ae tb) 0) (.one .slice) λx=>aj e none (ae b) lE λo=>aK e ⟨[aa o.1,aa o.2.1,aa o.2.2.1,aa o.2.2.2.1]⟩ 96 λb a=> ∀w1,Ext a w1->
    m7 w1 96 4 32 ⟨[aa 0,aa 0,aa 0,aa 0]⟩ (x.1,x.2.1,x.2.2) (some ⟨b,0,none⟩,1,1) λr a=>(some (⟨tb,0,none⟩:AC)).isSome=true/\(some (⟨tb,0,none⟩:AC)).isSome=true/\aC a (ad (ae tb) 0) [.slice r.1 r.2.1 r.2.2] λa=>ao a λw1=>K 0 w1):=by
  intro s2 n d e N acr O P;have j:=P.perm (L':=(b,[aa t,aa g,aa f,aa r])::(tb,dx s2 sz)::(d++L)) Iq.symm;refine⟨rfl,rfl,aj.bP 1 j rfl (show _=some (s2.1,s2.2.1,s2.2.2) from rfl) (aj.at 0 j rfl (show _=some (t,g,f,r,()) from rfl) (aK.go j λv w5 j Q R=>?_))⟩;have B:=j.ext R;have S:=B.get (i:=0) rfl;have T:aJ D G w0 Q (d++((tb,dx s2 sz)::(b,[aa t,aa g,aa f,aa r])::(v,[aa t,aa g,aa f,aa r])::L)):=B.perm (YO _ _ _ _ _);refine aJ.Ya T N rfl (q:=(some ⟨v,0,none⟩,1,1)) (ys:=[(t,g,f,r,())]) rfl ?_ rfl rfl (by simp only[List.length_singleton];omega) λs3 E w7 F U=>?_
  ·exact bM.qn (vs:=flat lE [(t,g,f,r,())]) S rfl λi hi=>by rw[Bx];rfl
  ·rw[O] at F;have m:=U.perm (L':=(tb,dx s2 sz)::(E++((b,[aa t,aa g,aa f,aa r])::(v,[aa t,aa g,aa f,aa r])::L))) BJ.symm;refine⟨rfl,rfl,aC.fb 0 m rfl rfl rfl λw8 m=>ao.go m λV m=>k s3 E V F (m.sub ?_)⟩;exact PP _ (List.Sublist.append_left (PS _ (PS _ (Ok _))) _)
 refine⟨λ_=>rfl,λ_=>rfl,aj.lJ c CN (show _=some (s1.1,s1.2.1,s1.2.2) from rfl) ⟨λ_=>rfl,λ_=>rfl,aj.lJ c CN (show _=some sz from rfl) ?_⟩⟩;dsimp only;have y:=h.1;cases p:ls.any (λl=>l7 l t g) with
 |true=>
  refine an rfl (u h M ?_ c);unfold Dq;rw[az p]
 |false=>
  have W:ls.filter (λl=> !l7 l t g)=ls:=JJ.2 λx X=>by
   have:=(List.any_eq_false.1 p) x X;simpa using this
  rw[W] at h y;by_cases hc:(ls.length:Int)=sz
  ·refine aF (by rw[y,hc];simp) ?_;have h0:0<ls.length:=by omega
   refine Ip c h (by omega) 0 h0 λs2 d e Y Z=>u Y (by rw[List.length_eraseIdx];split<;>omega) ?_ Z;unfold Dq;rw[au (by rw[p];decide),az hc];cases ls with
   |nil=>exact absurd h0 (by simp)
   |cons x r=>rfl
  ·refine an (by rw[y];simpa using hc) (u h (DA _) ?_ c);unfold Dq;rw[au (by rw[p];decide),au hc]
theorem Ub (H:aJ D G w0 w ((tb,dx s sz)::(Ls++L))) (h:dU lE s ls Ls) (M:(ls.length:Int)<=64) (r:0<sz) (t g k:Int):
 ah Ab 201 [ag (ae tb),aa t,aa g,aa k] w ((Sh.bu [.one (.int .i64),.one (.int .i64)]).gR (xQ ls t g k)):=by
 refine ah.of (s:= .bu [.one (.int .i64),.one (.int .i64)]) λw1 h1=>ai (C:=U0) (aT:=tF) (Ae (Pt _ t g k w1 _) ?_);have H:=H.ext h1;have u:=h.1;have v:=h.sl H (λy z=>Bp _ (CH _ z));refine⟨_,sX H CN r,an rfl ⟨rfl,rfl,aj.bP 0 H rfl (show _=some (s.1,s.2.1,s.2.2) from rfl) ?_⟩⟩;refine⟨λn st d=> ∃j:Nat,j<=ls.length/\n=ls.length - j/\st.1=(j:Int)/\(ls.take j).find? (λx=>l7 x t g)=none/\Ext w1 d,⟨ls.length,λd a=>⟨0,Fv _,rfl,rfl,rfl,a⟩⟩,?_⟩;rintro n ⟨i, _⟩ d ⟨j,l,A,hi,e,a⟩;have hi:i=(j:Int):=hi;subst hi A;dsimp only;rw[u];refine ab (λc=>?_) (λc=>?_)
 ·have l:j<ls.length:=by have:=of_decide_eq_true c;omega
  obtain⟨x,f⟩: ∃x,ls[j]? =some x:=⟨_,Da l⟩;have m:=v j x f;have H0:aJ [] [] w1 d []:=(At.start [] w1).ext a;refine⟨⟨m.1,by omega,by omega⟩,aj.of x (by rw[De];exact sP a m.2) (aK.go H0 λb B H0=>aC.all 0 H0 rfl rfl rfl λE H0=>aj.at 0 H0 rfl (show _=some (x.1,x.2.1,x.2.2.1,x.2.2.2.1,()) from rfl) ⟨_,WA (x.1,x.2.1,x.2.2.1,x.2.2.2.1,()) t g E,?_⟩)⟩;have F:l7 (x.1,x.2.1,x.2.2.1,x.2.2.2.1,()) t g=l7 x t g:=rfl;rw[F];cases o:l7 x t g with
  |false=>
   refine aF rfl λp I=>⟨ls.length - (j+1),by omega,j+1,by omega,rfl,?_,?_,(H0.ext I).all⟩
   ·rw[ax (by omega) (by omega)];omega
   ·rw[HB,f,NA,e];rw[Option.none_or];show List.find? _ [x]=none;rw[ND,o];rfl
  |true=>
   have J:ls.find? (λx=>l7 x t g)=some x:=by
    rw[<-Db j ls,NA,e,i_ f,ND,o];rfl
   have hv:xQ ls t g k=if k<0\/k>7\/gD .i64 k x.2.2.2.1≠0 then(0,7,()) else(x.2.2.1,0,()):=by
    unfold xQ;rw[J]
   rw[hv];refine an rfl ⟨λ_=>rfl,aj.bP 0 H0 rfl rfl ?_⟩;refine ab (λc=>ao.go H0 λp H0=>⟨?_,H0.all⟩) (λc=>⟨rfl,aj.bP 0 H0 rfl rfl (ao.go H0 λp H0=>⟨?_,H0.all⟩)⟩)
   ·simp only[Do,decide_eq_true_eq,bne_iff_ne] at c;rw[az ?_];rcases c with (c|c)|c
    ·exact .inl c
    ·exact .inr (.inl c)
    ·exact .inr (.inr c)
   ·simp only[Dv,decide_eq_false_iff_not,bne_eq_false_iff_eq] at c;rw[au ?_];rintro(q|q|q)
    ·exact c.1.1 q
    ·exact c.1.2 q
    ·exact q c.2
 ·have:j=ls.length:=by have:=of_decide_eq_false c;omega
  subst this;rw[JL] at e;intro B K;refine⟨?_,a.trans K⟩;unfold xQ;rw[e]
theorem Uc (H:aJ D G w0 w L) (n:Int) {K:Option AC×Int×Unit->A2->Prop} (kb:n<1\/n>64-> ∀w1,aJ D G w0 w1 L->K (none,1,()) w1)
 (e:1<=n->n<=64-> ∀b w1,aJ D G w0 w1 ((b,dx (none,0,0) n)::L)->K (some ⟨b,0,none⟩,0,()) w1):
 aD Ab 86 (.bu [.one .ptr,.one (.int .i64)]) [aa n] w K:=by
 refine aD.go H λw1 H=>ai (C:=U0) (aT:=λ_=>[]) (Ae (TZ n w1 K) ?_);refine ab (λc=>ao.go H λa H=>kb (by simpa using c) a H) (λc=>aK.go H λb a H=>ao.go H λf H=>?_);have d:1<=n/\n<=64:=by
  simp only[Dv,decide_eq_false_iff_not] at c;omega
 exact e d.1 d.2 b f H
end
def kI (v:Ad):Int:=match v with
 | .int _ n=>n
 | _=>0
abbrev Jv (e:Int×Int):KV:=(e.1,aa e.2)
section
variable {D G:List Nat} {w0 w:A2} {L Ls:List (Nat×List Ad)} {M M0:List (Nat×B1)} {es:List B5} {mb ck b:Nat}
theorem stM (H:cM D G w0 w (Ls++L) M) {e:El} {s:Option AC×Nat×Nat} {xs:List e.T} (b:dU e s xs Ls) {i:Nat} (hi:i<xs.length) (y:e.T) {vs:List Ad} (hv:vs=cellsOf e y) (c:gU e=true) {K:A2->Prop}
 (k: ∀a w1,dU e s (xs.set i y) a->cM D G w0 w1 (a++L) M->K w1):aC w (ad s.1 (i*aG e)) vs K:=λw1 h1=>
 b.st (H.ext h1).base.again hi y hv c (λa d f g=>k a d f ((H.ext h1).join g)) w1 (Ext.refl w1)
theorem Ho (H:cM D G w0 w (Ls++L) M) {e:El} {s:Option AC×Nat×Nat} {xs:List e.T} (b:dU e s xs Ls) (c:gU e=true) {q:Option AC×Nat×Nat} {ys:List e.T} (d:q.2.1=ys.length) (f:Go.RX.qn w q.1 (q.2.1*aG e) (flat e ys))
 {t:E4} {size bytes:Nat} {z:Array Ad} (g:size=aG e) (h:z.size=aG e) (hb:(xs.length+ys.length)*bytes<=140737488355328) {R:Option AC×Nat×Nat->A2->Prop}
 (k: ∀s' a w',dU e s' (xs++ys) a->cM D G w0 w' (a++L) M->R s' w'):m7 w t size bytes z s q R:=
 aJ.Ya H.base.again b c d f g h hb λs' a w' h1 i=>k s' a w' h1 (H.join i)
theorem rF {e:El} {a:Nat} {x:e.T} (h:bM w a (cellsOf e x)):Go.RX.qn w (ae a) (1*aG e) (flat e [x]):=
 bM.qn (vs:=flat e [x]) h (by rw[aI];rfl) λi hi=>by rw[Bx];show(cellsOf e x)[i]? =(cellsOf e x++[])[i]?;rw[H6]
theorem PA {r:Option AC×Nat×Nat} {R:List Int} {x:Int} (H:cM D G w0 w (Ls++L) M) (hs:dU eI r (R++[x]) Ls) (T:R.Pairwise (· <= ·)) (hl:(R.length:Int)<4611686018427387904) {n0:Int} (hn:n0=R.length) {N:A2->Prop}
 (hN: ∀k E b,E.Pairwise (· <= ·)->E.Perm (x::R)->dU eI r E k->cM D G w0 b (k++L) M->N b):
 ∃I:Nat->Int×Unit->A2->Prop,(∃n, ∀w1,Ext w w1->I n (n0,()) w1)/\ ∀(U:Nat) (s:Int×Unit) (w1:A2),I U s w1->
  (decide (s.1>0)=true->r.1.isSome=true/\0<=aY .i64 s.1 1/\aY .i64 s.1 1<((r.2.1:Nat):Int))/\aj w1 (some (decide (s.1>0))) (ad r.1 ((aY .i64 s.1 1).toNat*1)) eI λ(aO:Int)=>
   aL (decide (s.1>0)&&decide (aO>x)) ((r.1.isSome=true/\0<=aY .i64 s.1 1/\aY .i64 s.1 1<((r.2.1:Nat):Int))/\aj w1 none (ad r.1 ((aY .i64 s.1 1).toNat*1)) eI λ(y:Int)=>
    (r.1.isSome=true/\0<=s.1/\s.1<((r.2.1:Nat):Int))/\aC w1 (ad r.1 (B4 s.1*1)) [aa y] λg=> ∀b,Ext g b-> ∃V,V<U/\I V (aY .i64 s.1 1,()) b)
    ((r.1.isSome=true/\0<=s.1/\s.1<((r.2.1:Nat):Int))/\aC w1 (ad r.1 (B4 s.1*1)) [aa x] λg=> ∀b,Ext g b->N b):=by
 refine⟨λn st w'=> ∃(F:List (Nat×List Ad)) (c:Int),n<=R.length/\st.1=(n:Int)/\dU eI r (R.take n++(c::R.drop n)) F/\(∀y∈R.drop n,x<y)/\cM D G w0 w' (F++L) M,⟨R.length,λw1 h1=>⟨Ls,x,DA _,hn,by rw[JL,HE];exact hs,λy e=>(by rw[HE] at e;cases e),H.ext h1⟩⟩,?_⟩;rintro n ⟨i, _⟩ w1 ⟨F,c,u,hi,l,W,v⟩;have hi:i=(n:Int):=hi;subst hi;dsimp only;have m:=l.1;have J:(R.take n++(c::R.drop n)).length=R.length+1:=by
  rw[Bz,BN,NE,F0,Dl u];omega
 rw[J] at m;have cn:(R.take n++(c::R.drop n))[n]? =some c:=by
  rw[IR (by rw[BN];omega),BN,Dl u,GS];rfl
 have z:=(l.sl v.base (λy e=>CH _ e) n c cn).1;have X:decide ((n:Int)>0)=false\/(∃p,R[n - 1]? =some p/\p<=x)->((r.1.isSome=true/\0<=(n:Int)/\(n:Int)<((r.2.1:Nat):Int))/\aC w1 (ad r.1 (B4 (n:Int)*1)) [aa x] λg=> ∀b,Ext g b->N b):=λK=>by
  refine⟨⟨z,by omega,by rw[m];omega⟩,?_⟩;rw[De];refine stM v l (i:=n) (by rw[J];omega) x rfl rfl λk g o O b P=>?_;have Q:(R.take n++(c::R.drop n)).set n x=R.take n++(x::R.drop n):=by
   rw[NF _ _ (by rw[BN];omega),BN,Dl u,GS];rfl
  rw[Q] at o;refine hN k _ b ?_ ?_ o (O.ext P)
  ·have A:=T;rw[<-Db n R,NO] at A;refine NO.2 ⟨A.1,List.pairwise_cons.2 ⟨λy e=>Int.le_of_lt (W y e),A.2.1⟩,λa B d S=>?_⟩;rcases BK.1 S with rfl|S
   ·rcases K with K|⟨p,f,Y⟩
    ·have:n=0:=by have:=of_decide_eq_false K;omega
     subst this;rw[NQ] at B;cases B
    ·obtain⟨j,t⟩:=Ff B;have Jw:j<(R.take n).length:=(Bs.1 t).1;rw[BN] at Jw;rw[Nd (by omega)] at t;have S9:n - 1<R.length:=(Bs.1 f).1;rcases Nat.lt_or_ge j (n - 1) with q|q
     ·have Z:=Bs.1 t;have hpa:=Bs.1 f;have:=List.pairwise_iff_getElem.1 T j (n - 1) Z.1 S9 q;rw[Z.2,hpa.2] at this;exact Int.le_trans this Y
     ·have:j=n - 1:=by omega
      subst this;rw[f] at t;cases t;exact Y
   ·exact A.2.2 a B d S
  ·exact BJ.trans (C6 x (by rw[Db]))
 cases n with
 |zero=>
  have C:decide (((0:Nat):Int)>0)=false:=by decide
  refine⟨λh=>(by rw[C] at h;cases h),0,λh=>(by rw[C] at h;cases h),an (by rw[C];rfl) (X (.inl C))⟩
 |succ j=>
  have oJ:decide (((j+1:Nat):Int)>0)=true:=decide_eq_true (by omega);have Yb:aY .i64 ((j+1:Nat):Int) 1=(j:Int):=by rw[bD (by omega) (by omega)];omega
  obtain⟨p,f⟩: ∃p,R[j]? =some p:=⟨_,Da (by omega)⟩;have hcj:(R.take (j+1)++(c::R.drop (j+1)))[j]? =some p:=by
   rw[H4 (by rw[BN];omega),Nd (by omega),f]
  have Br:=(l.sl v.base (λy e=>CH _ e) j p hcj).2;rw[Yb];refine⟨λ_=>⟨z,by omega,by rw[m];omega⟩,aj.of p (by rw[De];exact Br) ?_⟩;refine ab (λhc=>?_) (λhc=>X (.inr ⟨p,(show R[j+1 - 1]? =some p from f),?_⟩))
  ·rw[oJ,Ga,decide_eq_true_eq] at hc;refine⟨⟨z,by omega,by rw[m];omega⟩,aj.of p (by rw[De];exact Br) ⟨⟨z,by omega,by rw[m];omega⟩,?_⟩⟩;rw[De];refine stM v l (i:=j+1) (by rw[J];omega) p rfl rfl λk g o O b P=>⟨j,HZ j,k,p,by omega,rfl,?_,?_,O.ext P⟩
   ·have Q:(R.take (j+1)++(c::R.drop (j+1))).set (j+1) p=R.take j++(p::R.drop j):=by
     rw[NF _ _ (by rw[BN];omega),BN,Dl u,GS];rw[HB,f,i_ f,E6];rfl
    rw[Q] at o;exact o
   ·intro y e;rw[i_ f] at e;rcases BK.1 e with rfl|e
    ·exact hc
    ·exact W y e
  ·rw[oJ,Ga,decide_eq_false_iff_not] at hc;show p<=x;omega
theorem AI {e:B5} {seen:Array Nat} {f:B5->Bool} (g:seen.contains e.born=false): ∀{es:List B5},(es.map (·.born)).Nodup->e∈es->
 (es.filter λx=>(seen.push e.born).contains x.born&&f x).Perm (if f e=true then e::es.filter (λx=>seen.contains x.born&&f x) else es.filter (λx=>seen.contains x.born&&f x))
 |[], _,h=>by cases h
 |y::es,a,hm=>by
  rw[Bv,BO] at a;have b: ∀z:Nat,(seen.push e.born).contains z=(seen.contains z||z==e.born):=λz=>by
   rw[Array.contains_push]
  rcases BK.1 hm with rfl|hm
  ·have j: ∀x∈es,(x.born==e.born)=false:=λx d=>by
    have:x.born≠e.born:=λc=>a.1 (by rw[<-c];exact Av.2 ⟨x,d,rfl⟩);simpa using this
   have k:es.filter (λx=>(seen.push e.born).contains x.born&&f x)=es.filter (λx=>seen.contains x.born&&f x):=List.filter_congr λx d=>by
    rw[b,j x d,Bool.or_false]
   rw[Fu,Fu,b,k,g];cases m:f e
   ·simp
   ·simp
  ·have i:=AI g (f:=f) a.2 hm;have l:(y.born==e.born)=false:=by
    have:y.born≠e.born:=λc=>a.1 (by rw[c];exact Av.2 ⟨e,hm,rfl⟩);simpa using this
   rw[Fu,Fu,b,l,Bool.or_false];cases n:(seen.contains y.born&&f y)
   ·simpa using i
   ·simp only[if_true];refine(C6 y i).trans ?_;split
    ·exact Dn _ _ _
    ·exact List.Perm.refl _
end
end Go.Proofs.YtlcenllcmeebhaaGreat.Mu
namespace Go.Proofs.YtlcenllcmeebhaaGreat
set_option maxRecDepth 100000
open Go.RX
abbrev sG:List Sc:=[.int .i64,.int .i64,.int .i64,.bool,.int .i64]
abbrev eG:El:= .agg sG
abbrev GT:Type:=Int×Int×Int×Bool×Int×Unit
def zG:GT:=(0,0,0,false,0,())
def gG (n:Int):Bool:=decide (n>=1)&&decide (n<=16)
def mC (o p t:Int) (b:Bool) (u:Int):Bool:=decide (((o,p,t,b,u,()):GT)=zG)
noncomputable def G0:dj Ab:={C3 with vi:=false}
theorem Kb (n:Int) (w:A2) (a:Bool->A2->Prop):(aN G0 (λ_=>[]) 225 [aa n] w a)=(
 ao w (a (decide (n>=1)&&decide (n<=16)))):=by kernel_rfl
theorem PB (o p t:Int) (b:Bool) (u:Int) (w:A2) (a:Bool->A2->Prop):(aN G0 (λ_=>[]) 210 [.agg ⟨[aa o,aa p,aa t,.bool b,aa u]⟩] w a)=(
 aK w ⟨[aa o,aa p,aa t,.bool b,aa u]⟩ 255 λb c=>aj c none (ae b) (.agg [.int .i64,.int .i64,.int .i64,.bool,.int .i64]) λ(x:Int×Int×Int×Bool×Int×Unit)=>ao c λw1=>a (x.1==0&&(x.2.1==0&&(x.2.2.1==0&&(x.2.2.2.1==false&&(x.2.2.2.2.1==0&&true))))) w1):=by kernel_rfl
theorem Kc (n:Int) (w:A2):aE Ab 225 (.el (.one .bool)) [aa n] w (λx w'=>x=gG n/\Ext w w'):=by
 refine ai (C:=G0) (aT:=λ_=>[]) (Ae (Kb n w _) ?_);have H:=At.start [] w
 repeat' (first
  |exact Go.RX.aJ.all H
  |exact And.intro (by first|rfl|decide+kernel) (Go.RX.aJ.all H)
  |refine And.intro (by first|exact rfl|exact trivial|exact λ_=>rfl|exact λ_=>trivial|exact⟨rfl,by decide,by decide⟩|exact⟨by decide,by decide⟩|decide+kernel|exact λ_=>by decide|exact λ_=>⟨rfl,by decide,by decide⟩|(dsimp only[NE,List.length_nil];exact⟨rfl,by decide,by decide⟩)) ?_
  |refine aj.bP 0 H rfl rfl ?_
  |refine aj.bP 1 H rfl rfl ?_
  |refine aj.at 0 H rfl rfl ?_
  |refine aj.at 1 H rfl rfl ?_
  |refine aK.go H λb w1 H=>?_
  |refine aC.all 0 H rfl rfl rfl λw1 H=>?_
  |refine aC.all 1 H rfl rfl rfl λw1 H=>?_
  |refine aC.fb 0 H rfl rfl rfl λw1 H=>?_
  |refine aC.fb 1 H rfl rfl rfl λw1 H=>?_
  |refine aC.one 0 H rfl rfl rfl λw1 H=>?_
  |refine aC.one 1 H rfl rfl rfl λw1 H=>?_
  |with_reducible refine ao.go H λw1 H=>?_
  |refine j8 ?_
  |refine aF (by assumption) ?_
  |refine an (by assumption) ?_
  |refine ab (λc=>?_) (λc=>?_))
theorem PC (o p t:Int) (b:Bool) (u:Int) (w:A2):aE Ab 210 (.el (.one .bool)) [.agg ⟨[aa o,aa p,aa t,.bool b,aa u]⟩] w (λx w'=>x=mC o p t b u/\Ext w w'):=by
 refine ai (C:=G0) (aT:=λ_=>[]) (Ae (PB o p t b u w _) ?_);have H:=At.start [] w;refine aK.go H λa c H=>aj.at 0 H rfl rfl (ao.go H λd H=>⟨?_,H.all⟩);unfold mC zG;rw[Ht];simp
noncomputable def Ud:Entry Ab where
 f:=225
 fn l:=match l with
  |[.int .i64 a]=>some (True,.bool (gG a))
  | _=>none
 ok args pre v h b w:=by
  split at h
  ·rename_i a;cases h;exact bW (Kc a w)
  ·cases h
noncomputable def YP:Entry Ab where
 f:=210
 fn l:=match l with
  |[.agg ⟨[.int .i64 o,.int .i64 p,.int .i64 t,.bool b,.int .i64 u]⟩]=>some (True,.bool (mC o p t b u))
  | _=>none
 ok args pre v h a w:=by
  split at h
  ·rename_i o p t b u;cases h;exact bW (PC o p t b u w)
  ·cases h
noncomputable def G3:dj Ab:={G0 with rX:=[Ud,YP],quiet:=[224,221,226,209],sh:=[]}
theorem Kd (p:Option AC) (w:A2) (a:Bool->A2->Prop):(aN G3 (λ_=>[]) 224 [ag p] w a)=(
 ((!p.isNone)=true->p.isSome=true)/\((!p.isNone)=true->p.isSome=true)/\aj w (some !p.isNone) (ad p 0) iu λx=>ao w λw1=>a (!p.isNone&&decide ((↑x.2.1:Int)>0)) w1):=by kernel_rfl
theorem YQ (p:Option AC) (i:Int) (w:A2) (b:Option AC×Int×Unit->A2->Prop):(aN G3 (λ_=>[]) 221 [ag p,aa i] w b)=(
 ∃x,ah Ab 224 [ag p] w (.bool x)/\aL (!x) (ao w (b (none,10,()))) (((!decide (i<0))=true->p.isSome=true)/\((!decide (i<0))=true->p.isSome=true)/\aj w (some !decide (i<0)) (ad p 0) iu λx=>((!(decide (i<0)||decide (i>=(↑x.2.1:Int))))=true->p.isSome=true)/\((!(decide (i<0)||decide (i>=(↑x.2.1:Int))))=true->p.isSome=true)/\aj w (some !(decide (i<0)||decide (i>=(↑x.2.1:Int)))) (ad p 0) iu λc=>((!(decide (i<0)||decide (i>=(↑x.2.1:Int))))=true->c.1.isSome=true/\0<=i/\i<
 (↑c.2.1:Int))/\aj w (some !(decide (i<0)||decide (i>=(↑x.2.1:Int)))) (ad c.1 (i.toNat*5)) (.agg [.int .i64,.int .i64,.int .i64,.bool,.int .i64]) λ(a:Int×Int×Int×Bool×Int×Unit)=>((!(decide (i<0)||decide (i>=(↑x.2.1:Int))))=true->True)/\aL (decide (i<0)||decide (i>=(↑x.2.1:Int))||mC a.1 a.2.1 a.2.2.1 a.2.2.2.1 a.2.2.2.2.1) (ao w (b (none,4,()))) (fC p 0 w λx=>(x.1.isSome=true/\0<=i/\i<(↑x.2.1:Int))/\ao w (b (ad x.1 (i.toNat*5),0,()))))):=by kernel_rfl
theorem PD (o q t:Int) (b:Bool) (u:Int) (c:Option AC) (w:A2) (d:Bool->A2->Prop):(aN G3 (λ_=>[]) 226 [.agg ⟨[aa o,aa q,aa t,.bool b,aa u]⟩,ag c] w d)=(
 aK w ⟨[aa o,aa q,aa t,.bool b,aa u]⟩ 255 λb a=>aj a none c (.agg [.int .i64,.int .i64,.int .i64,.bool,.int .i64]) λ(x:Int×Int×Int×Bool×Int×Unit)=>true=true/\aU a (ad (ae b) 0) λe=>true=true/\aU a (ad (ae b) 1) λf=>true=true/\aU a (ad (ae b) 2) λg=>ao a λw1=>d (x.1==e&&(x.2.1==f&&(x.2.2.1==g&&(x.2.2.2.1==false&&(x.2.2.2.2.1==0&&true))))) w1):=by kernel_rfl
theorem Ke (o q t:Int) (b:Bool) (u:Int) (c:Option AC) (w:A2) (f:Bool->A2->Prop):(aN G3 (λ_=>[]) 209 [.agg ⟨[aa o,aa q,aa t,.bool b,aa u]⟩,ag c] w f)=(
 aK w ⟨[aa o,aa q,aa t,.bool b,aa u]⟩ 255 λb a=>aj a none (ae b) (.agg [.int .i64,.int .i64,.int .i64,.bool,.int .i64]) λ(x:Int×Int×Int×Bool×Int×Unit)=>True/\((!mC x.1 x.2.1 x.2.2.1 x.2.2.2.1 x.2.2.2.2.1)=true->true=true)/\aj a (some !mC x.1 x.2.1 x.2.2.1 x.2.2.2.1 x.2.2.2.2.1) (ad (ae b) 0) aV λ(d:Int)=>aj a (some !mC x.1 x.2.1 x.2.2.1 x.2.2.2.1 x.2.2.2.2.1) c aV λ(e:Int)=>((!mC x.1 x.2.1 x.2.2.1 x.2.2.2.1 x.2.2.2.2.1&& !d==e)=true->true=true)/\aj a (some (!mC x.1
 x.2.1 x.2.2.1 x.2.2.2.1 x.2.2.2.2.1&& !d==e)) (ad (ae b) 2) aV λ(g:Int)=>aj a (some (!mC x.1 x.2.1 x.2.2.1 x.2.2.2.1 x.2.2.2.2.1&& !d==e)) c aV λ(h:Int)=>ao a (f (!mC x.1 x.2.1 x.2.2.1 x.2.2.2.1 x.2.2.2.2.1&&(d==e||g==h)))):=by kernel_rfl
def qL:Nat->aZ:=(λ|5=>[(5,Go.RX.El.one Go.RX.Sc.slice),(16,Go.RX.El.one (Go.RX.Sc.int B2))]| _=>[])
theorem Kf (p:Option AC) (w:A2) (e:Option AC×Nat×Nat->A2->Prop):(aN G3 qL 208 [ag p,.func (.func 210) #[] #[]] w e)=(
 ∃x,ah Ab 224 [ag p] w (.bool x)/\aL (!x) (ao w (e (none,0,0))) (fC p 0 w λx=> ∃(I:Nat->(Option AC×Nat×Nat)×Int×Unit->A2->Prop),(∃n, ∀w1,Ext w w1->I n ((none,0,0),0,()) w1)/\ ∀(n:Nat) (s:(Option AC×Nat×Nat)×Int×Unit) (w1:A2),I n s w1->aL (decide (s.2.1<(↑x.2.1:Int))) ((x.1.isSome=true/\0<=s.2.1/\s.2.1<(↑x.2.1:Int))/\aj w1 none (ad x.1 (B4 s.2.1*5)) (.agg [.int .i64,.int .i64,.int .i64,.bool,.int .i64]) λ(x:Int×Int×Int×Bool×Int×Unit)=>aK w1 ⟨[aa 0,
 aa 0,aa 0,.bool false,aa 0]⟩ 255 λb a=>aC a (ae b) [aa x.1,aa x.2.1,aa x.2.2.1,.bool x.2.2.2.1,aa x.2.2.2.2.1] λa=>aj a none (ae b) (.agg [.int .i64,.int .i64,.int .i64,.bool,.int .i64]) λ(x:Int×Int×Int×Bool×Int×Unit)=>True/\aL (mC x.1 x.2.1 x.2.2.1 x.2.2.2.1 x.2.2.2.2.1) (aK a ⟨[aa s.2.1]⟩ 3 λb a=> ∀w1,Ext a w1->m7 w1 3 1 8 ⟨[aa 0]⟩ (s.1.1,s.1.2.1,s.1.2.2) (some ⟨b,0,none⟩,1,1) λ(r:Option AC×Nat×Nat) a=> ∀c,Ext a c-> ∃(d:Nat),d<n/\I d
 ((r.1,r.2.1,r.2.2),aB .i64 s.2.1 1,()) c) (∀c,Ext a c-> ∃(d:Nat),d<n/\I d ((s.1.1,s.1.2.1,s.1.2.2),aB .i64 s.2.1 1,()) c)) (ao w1 (e (s.1.1,s.1.2.1,s.1.2.2))))):=by kernel_rfl
def qM:Nat->aZ:=(λ|5=>[(5,Go.RX.El.one Go.RX.Sc.slice),(16,Go.RX.El.one (Go.RX.Sc.int B2))]| _=>[])
theorem Kh (p c:Option AC) (w:A2) (f:Option AC×Nat×Nat->A2->Prop):(aN G3 qM 208 [ag p,.func (.func 226) #[] #[ag c]] w f)=(
 ∃x,ah Ab 224 [ag p] w (.bool x)/\aL (!x) (ao w (f (none,0,0))) (fC p 0 w λx=> ∃(I:Nat->(Option AC×Nat×Nat)×Int×Unit->A2->Prop),(∃n, ∀w1,Ext w w1->I n ((none,0,0),0,()) w1)/\ ∀(n:Nat) (s:(Option AC×Nat×Nat)×Int×Unit) (w1:A2),I n s w1->aL (decide (s.2.1<(↑x.2.1:Int))) ((x.1.isSome=true/\0<=s.2.1/\s.2.1<(↑x.2.1:Int))/\aj w1 none (ad x.1 (B4 s.2.1*5)) (.agg [.int .i64,.int .i64,.int .i64,.bool,.int .i64]) λ(x:Int×Int×Int×Bool×Int×Unit)=>aK w1 ⟨[aa 0,
 aa 0,aa 0,.bool false,aa 0]⟩ 255 λb a=>aC a (ae b) [aa x.1,aa x.2.1,aa x.2.2.1,.bool x.2.2.2.1,aa x.2.2.2.2.1] λa=>aj a none (ae b) (.agg [.int .i64,.int .i64,.int .i64,.bool,.int .i64]) λ(x:Int×Int×Int×Bool×Int×Unit)=> ∃g,ah Ab 226 [.agg ⟨[aa x.1,aa x.2.1,aa x.2.2.1,.bool x.2.2.2.1,aa x.2.2.2.2.1]⟩,ag c] a (.bool g)/\aL g (aK a ⟨[aa s.2.1]⟩ 3 λb a=> ∀w1,Ext a w1->m7 w1 3 1 8 ⟨[aa 0]⟩ (s.1.1,s.1.2.1,s.1.2.2)
 (some ⟨b,0,none⟩,1,1) λ(r:Option AC×Nat×Nat) a=> ∀d,Ext a d-> ∃(e:Nat),e<n/\I e ((r.1,r.2.1,r.2.2),aB .i64 s.2.1 1,()) d) (∀d,Ext a d-> ∃(e:Nat),e<n/\I e ((s.1.1,s.1.2.1,s.1.2.2),aB .i64 s.2.1 1,()) d)) (ao w1 (f (s.1.1,s.1.2.1,s.1.2.2))))):=by kernel_rfl
def qN:Nat->aZ:=(λ|5=>[(5,Go.RX.El.one Go.RX.Sc.slice),(16,Go.RX.El.one (Go.RX.Sc.int B2))]| _=>[])
theorem Ki (p c:Option AC) (w:A2) (f:Option AC×Nat×Nat->A2->Prop):(aN G3 qN 208 [ag p,.func (.func 209) #[] #[ag c]] w f)=(
 ∃x,ah Ab 224 [ag p] w (.bool x)/\aL (!x) (ao w (f (none,0,0))) (fC p 0 w λx=> ∃(I:Nat->(Option AC×Nat×Nat)×Int×Unit->A2->Prop),(∃n, ∀w1,Ext w w1->I n ((none,0,0),0,()) w1)/\ ∀(n:Nat) (s:(Option AC×Nat×Nat)×Int×Unit) (w1:A2),I n s w1->aL (decide (s.2.1<(↑x.2.1:Int))) ((x.1.isSome=true/\0<=s.2.1/\s.2.1<(↑x.2.1:Int))/\aj w1 none (ad x.1 (B4 s.2.1*5)) (.agg [.int .i64,.int .i64,.int .i64,.bool,.int .i64]) λ(x:Int×Int×Int×Bool×Int×Unit)=>aK w1 ⟨[aa 0,
 aa 0,aa 0,.bool false,aa 0]⟩ 255 λb a=>aC a (ae b) [aa x.1,aa x.2.1,aa x.2.2.1,.bool x.2.2.2.1,aa x.2.2.2.2.1] λa=>aj a none (ae b) (.agg [.int .i64,.int .i64,.int .i64,.bool,.int .i64]) λ(x:Int×Int×Int×Bool×Int×Unit)=> ∃g,ah Ab 209 [.agg ⟨[aa x.1,aa x.2.1,aa x.2.2.1,.bool x.2.2.2.1,aa x.2.2.2.2.1]⟩,ag c] a (.bool g)/\aL g (aK a ⟨[aa s.2.1]⟩ 3 λb a=> ∀w1,Ext a w1->m7 w1 3 1 8 ⟨[aa 0]⟩ (s.1.1,s.1.2.1,s.1.2.2)
 (some ⟨b,0,none⟩,1,1) λ(r:Option AC×Nat×Nat) a=> ∀d,Ext a d-> ∃(e:Nat),e<n/\I e ((r.1,r.2.1,r.2.2),aB .i64 s.2.1 1,()) d) (∀d,Ext a d-> ∃(e:Nat),e<n/\I e ((s.1.1,s.1.2.1,s.1.2.2),aB .i64 s.2.1 1,()) d)) (ao w1 (f (s.1.1,s.1.2.1,s.1.2.2))))):=by kernel_rfl
theorem Kj (p:Option AC) (o q t:Int) (b:Bool) (w:A2) (c:Int×Int×Unit->A2->Prop):(aN G3 (λ_=>[]) 180 [ag p,aa o,aa q,aa t,.bool b] w c)=(
 ∃x,ah Ab 224 [ag p] w (.bool x)/\aL (!x) (ao w (c (0,10,()))) (True/\((!!gG o)=true->True)/\aL (!gG o|| !gG t||o==t||decide (q<0)||decide (q>=65536)) (ao w (c (0,1,()))) (aK w ⟨[aa 0,aa 0,aa 0,.bool false,aa 0]⟩ 255 λe a=>aC a (ae e) [aa o,aa q,aa t,.bool false,aa 0] λa=>aD Ab 208 (.el iu) [ag p,.func (.func 226) ⟨[]⟩ {toList:=[ag (ae e)]}] a λx a=>aL (decide ((↑x.2.1:Int)>0)) (ao a (c (0,5,
 ()))) (aD Ab 208 (.el iu) [ag p,.func (.func 210) ⟨[]⟩ ⟨[]⟩] a λx a=>aL ((↑x.2.1:Int)==0) (ao a (c (0,3,()))) (true=true/\aC a (ad (ae e) 3) [.bool b] λa=>fC p 0 a λf=>(x.1.isSome=true/\(0:Int)<=0/\0<(↑x.2.1:Int))/\aU a (ad x.1 0) λg=>aj a none (ae e) (.agg [.int .i64,.int .i64,.int .i64,.bool,.int .i64]) λ(d:Int×Int×Int×Bool×Int×Unit)=>(f.1.isSome=true/\0<=g/\g<(↑f.2.1:Int))/\aC a (ad f.1 (g.toNat*5)) [aa d.1,aa d.2.1,
 aa d.2.2.1,.bool d.2.2.2.1,aa d.2.2.2.2.1] λa=>(x.1.isSome=true/\(0:Int)<=0/\0<(↑x.2.1:Int))/\aU a (ad x.1 0) λx=>ao a (c (x,0,()))))))):=by kernel_rfl
theorem YR (p:Option AC) (i:Int) (w:A2) (c:GT×Bool×Unit->A2->Prop):(bQ G3 (λ_=>[]) 176 [ag p,aa i] w c)=(
 aK w ⟨[aa 0,aa 0,aa 0,.bool false,aa 0]⟩ 255 λb a=> ∃(x:Option AC×Int×Unit),ah Ab 221 [ag p,aa i] a (.tuple ⟨[ag x.1,aa x.2.1]⟩)/\aL (x.2.1 != 0) (aC a (ae b) [aa 0,aa 0,aa 0,.bool false,aa 0] λa=>ao a λw1=>aj w1 none (ae b) (.agg [.int .i64,.int .i64,.int .i64,.bool,.int .i64]) λ(x:Int×Int×Int×Bool×Int×Unit)=>c ((x.1,x.2.1,x.2.2.1,x.2.2.2.1,x.2.2.2.2.1,()),false,()) w1) (x.1.isSome=true/\aj a none x.1
 (.agg [.int .i64,.int .i64,.int .i64,.bool,.int .i64]) λ(x:Int×Int×Int×Bool×Int×Unit)=>aC a (ae b) [aa x.1,aa x.2.1,aa x.2.2.1,.bool x.2.2.2.1,aa x.2.2.2.2.1] λa=>ao a λw1=>aj w1 none (ae b) (.agg [.int .i64,.int .i64,.int .i64,.bool,.int .i64]) λ(x:Int×Int×Int×Bool×Int×Unit)=>c ((x.1,x.2.1,x.2.2.1,x.2.2.2.1,x.2.2.2.2.1,()),true,()) w1)):=by kernel_rfl
theorem PE (p:Option AC) (i g:Int) (b:Bool) (w:A2) (a:Int->A2->Prop):(aN G3 (λ_=>[]) 181 [ag p,aa i,aa g,.bool b] w a)=(
 ∃(x:Option AC×Int×Unit),ah Ab 221 [ag p,aa i] w (.tuple ⟨[ag x.1,aa x.2.1]⟩)/\aL (x.2.1 != 0) (ao w (a x.2.1)) (cv x.1 2 w λc=>((!c != g&&b)=true->x.1.isSome=true)/\((!c != g&&b)=true->x.1.isSome=true)/\aj w (some (!c != g&&b)) (ad x.1 3) oI λd=>aL (c != g||b&& !d) (ao w (a 7)) (cv x.1 4 w λe=>aL (e==1000) (ao w (a 3)) (cv x.1 4 w λf=>x.1.isSome=true/\x.1.isSome=true/\aC w (ad x.1 4) [aa (aB .i64 f 1)] λh=>ao h (a 0))))):=by kernel_rfl
theorem PF (p:Option AC) (i g:Int) (w:A2) (a:Int->A2->Prop):(aN G3 (λ_=>[]) 182 [ag p,aa i,aa g] w a)=(
 ∃(x:Option AC×Int×Unit),ah Ab 221 [ag p,aa i] w (.tuple ⟨[ag x.1,aa x.2.1]⟩)/\aL (x.2.1 != 0) (ao w (a x.2.1)) (cv x.1 2 w λb=>aL (b != g) (ao w (a 7)) (cv x.1 4 w λc=>aL (c==0) (ao w (a 6)) (cv x.1 4 w λd=>x.1.isSome=true/\x.1.isSome=true/\aC w (ad x.1 4) [aa (aY .i64 d 1)] λe=>ao e (a 0))))):=by kernel_rfl
theorem Gr (p:Option AC) (i o:Int) (w:A2) (a:Int->A2->Prop):(aN G3 (λ_=>[]) 184 [ag p,aa i,aa o] w a)=(
 ∃(x:Option AC×Int×Unit),ah Ab 221 [ag p,aa i] w (.tuple ⟨[ag x.1,aa x.2.1]⟩)/\aL (x.2.1 != 0) (ao w (a x.2.1)) (cv x.1 0 w λb=>aL (b != o) (ao w (a 7)) (cv x.1 4 w λc=>aL (decide (c>0)) (ao w (a 9)) (x.1.isSome=true/\aC w x.1 [aa 0,aa 0,aa 0,.bool false,aa 0] λd=>ao d (a 0))))):=by kernel_rfl
def tI:Nat->aZ:=(λ|3=>[(13,Go.RX.El.one (Go.RX.Sc.int B2))]| _=>[])
theorem PG (p:Option AC) (g:Int) (w:A2) (d:Int->A2->Prop):(aN G3 tI 169 [ag p,aa g] w d)=(
 aK w ⟨[aa g]⟩ 3 λb a=>aD Ab 208 (.el iu) [ag p,.func (.func 209) ⟨[]⟩ {toList:=[ag (ae b)]}] a λx a=> ∃(I:Nat->Int×Unit->A2->Prop),(∃n, ∀w1,Ext a w1->I n (0,()) w1)/\ ∀(n:Nat) (s:Int×Unit) (w1:A2),I n s w1->aL (decide (s.1<(↑x.2.1:Int))) ((x.1.isSome=true/\0<=s.1/\s.1<(↑x.2.1:Int))/\aU w1 (ad x.1 (B4 s.1*1)) λx=>fC p 0 w1 λc=>(c.1.isSome=true/\0<=x/\x<(↑c.2.1:Int))/\aC w1 (ad c.1 (x.toNat*5)) [aa 0,aa 0,aa 0,.bool false,
 aa 0] λa=> ∀e,Ext a e-> ∃(f:Nat),f<n/\I f (aB .i64 s.1 1,()) e) (ao w1 (d (↑x.2.1:Int)))):=by kernel_rfl
theorem Ue (n:Int) (w:A2) (a:Option AC×Int×Unit->A2->Prop):(aN G3 (λ_=>[]) 73 [aa n] w a)=(
 aL (decide (n<1)||decide (n>64)) (ao w (a (none,1,()))) (E7 w 40 5 n n ⟨[aa 0,aa 0,aa 0,.bool false,aa 0]⟩ 255 λb c=>aK c {toList:=[.slice (ae b) n.toNat n.toNat]} 215 λb c=>ao c (a (some ⟨b,0,none⟩,0,())))):=by kernel_rfl
theorem AJ {lo sz:Int} (h:dW lo sz=true):lo.toNat+sz.toNat<=64/\1<=sz.toNat:=by
 have:=iF.1 h;omega
theorem PH {w:BitVec 64} {lo sz:Int} (h:dW lo sz=true):(fh w lo sz).toNat=w.toNat / 2 ^ lo.toNat % 2 ^ sz.toNat:=by
 have a:=AJ h;apply Np;intro j;rw[Fx,TQ h,Ot (by omega),Jq,Nat.testBit_div_two_pow,Fx,Nat.add_comm j,Bool.and_comm]
theorem PI {w v:BitVec 64} {lo sz:Int} (h:dW lo sz=true) (b:w.toNat<2 ^ lo.toNat):(sy w lo sz v).toNat=2 ^ lo.toNat*(v.toNat % 2 ^ sz.toNat)+w.toNat:=by
 have d:=AJ h;apply Np;intro j;rw[Fx,TS h,Nat.testBit_two_pow_mul_add _ b];by_cases c:j<64
 ·rw[YH (by omega) c];by_cases h1:j<lo.toNat
  ·rw[if_neg (by omega),if_pos h1,Fx]
  ·rw[if_neg h1,Jq,Fx];by_cases e:j<lo.toNat+sz.toNat
   ·rw[if_pos (by omega)];have:j - lo.toNat<sz.toNat:=by omega
    simp[this]
   ·rw[if_neg (by omega)];have a: ¬ j - lo.toNat<sz.toNat:=by omega
    simp only[a,decide_false,Bool.false_and];rw[<-Fx];exact Nat.testBit_lt_two_pow (HM b (Nat.pow_le_pow_right (by decide) (by omega)))
 ·rw[O2 _ _ (by omega),if_neg (by omega),Jq];have a: ¬ j - lo.toNat<sz.toNat:=by omega
  simp[a]
theorem aaX (b:BitVec 64):U b=(b.toNat:Int):=rfl
theorem C' {b:BitVec 64} {n:Nat} (h:b.toNat=n):U b=(n:Int):=by rw[aaX,h]
def bB (b:Bool):BitVec 64:=if b then 1#64 else 0#64
def nB (b:Bool):Nat:=if b then 1 else 0
theorem Ov (b:Bool):(bB b).toNat=nB b:=by cases b<;>rfl
theorem NR (b:Bool):nB b<=1:=by cases b<;>decide
theorem pk {w v:BitVec 64} {lo sz:Int} {a n:Nat} (c:dW lo sz=true) (b:w.toNat=a) (d:a<2 ^ lo.toNat) (hv:v.toNat=n) (e:n<2 ^ sz.toNat):(sy w lo sz v).toNat=2 ^ lo.toNat*n+a:=by
 rw[PI c (by rw[b];exact d),hv,b,No e]
theorem Kk {p l:Bool} {r f:BitVec 64} {x y:Nat} (a:r.toNat=x) (i:x<8) (b:f.toNat=y) (j:y<4096):
 (qG 0#64 0 [(bB p,1),(r,3),(bB l,1),(0#64,7),(f,12)]).toNat=nB p+2*x+16*nB l+4096*y:=by
 have k:=NR p;have m:=NR l;simp only[qG];rw[if_pos (by decide),if_pos (by decide),if_pos (by decide),if_pos (by decide),if_pos (by decide)];have c:=pk (w:=0#64) (lo:=0) (sz:=1) (by decide) (rfl:(0#64).toNat=0) (by decide) (Ov p) (by show nB p<2;omega);have d:=pk (lo:=0+1) (sz:=3) (by decide) c (by show 1*nB p+0<2;omega) a (by show x<8;omega);have e:=pk (lo:=0+1+3) (sz:=1) (by decide) d (by show 2*x+(1*nB p+0)<16;omega) (Ov l) (by show nB l<2;omega);have g:=pk (lo:=0+1+3+1) (sz:=7) (v:=0#64) (by decide) e (by show 16*nB l+(2*x+(1*nB p+0))<32;omega) (rfl:(0#64).toNat=0) (by decide);have h:=pk (lo:=0+1+3+1+7) (sz:=12) (by decide) g (by show 32*0+(16*nB l+(2*x+(1*nB p+0)))<4096;omega) b (by show y<4096;omega);rw[h];show 4096*y+(32*0+(16*nB l+(2*x+(1*nB p+0))))= _;omega
theorem Gs (w:BitVec 64):mj w 0 [1,3,1,7,12,40]=some [fh w 0 1,fh w 1 3,fh w 4 1,fh w 5 7,fh w 12 12,fh w 24 40]:=by
 simp only[mj];rw[if_pos (by decide),if_pos (by decide),if_pos (by decide),if_pos (by decide),if_pos (by decide),if_pos (by decide)];rfl
theorem nG {w:BitVec 64} {lo sz:Int} (a b:Nat) (h:dW lo sz=true) (c:2 ^ lo.toNat=a) (hb:2 ^ sz.toNat=b):(fh w lo sz).toNat=w.toNat / a % b:=by
 rw[PH h,c,hb]
noncomputable def D0:dj Ab:={C3 with vi:=true}
theorem Uf (b:Bool) (w:A2) (a:Int->A2->Prop):(aN D0 (λ_=>[]) 249 [.bool b] w a)=(
 aL b (ao w (a 1)) (ao w (a 0))):=by kernel_rfl
theorem yF (p:Bool) (r:Int) (l:Bool) (f:Int) (w:A2) (d:Bool->A2->Prop):(aN D0 (λ_=>[]) 94 [.agg ⟨[.bool p,aa r,.bool l,aa f]⟩] w d)=(
 aK w ⟨[.bool p,aa r,.bool l,aa f]⟩ 130 λb a=>true=true/\uu a (ad (ae b) 0) λx=>aL (!x) (aj a none (ae b) jX λ(x:Bool×Int×Bool×Int×Unit)=>ao a λw1=>d (x.1==false&&(x.2.1==0&&(x.2.2.1==false&&(x.2.2.2.1==0&&true)))) w1) (true=true/\aU a (ad (ae b) 1) λx=>((!decide (x<0))=true->true=true)/\aj a (some !decide (x<0)) (ad (ae b) 1) aV λ(c:Int)=>((!(decide (x<0)||decide (c>7)))=true->true=true)/\aj a (some !(decide (x<0)||decide (c>7))) (ad (ae b) 3)
 aV λ(e:Int)=>((!(decide (x<0)||decide (c>7)||decide (e<0)))=true->true=true)/\aj a (some !(decide (x<0)||decide (c>7)||decide (e<0))) (ad (ae b) 3) aV λ(g:Int)=>aL (decide (x<0)||decide (c>7)||decide (e<0)||decide (g>=4096)) (ao a (d false)) (true=true/\aU a (ad (ae b) 1) λx=>((!decide (x>0))=true->true=true)/\aj a (some !decide (x>0)) (ad (ae b) 2) oI λh=>ao a (d (decide (x>0)|| !h))))):=by kernel_rfl
theorem Ug (x:Int) (w:A2) (a:Int->A2->Prop):(aN D0 (λ_=>[]) 100 [aa x] w a)=(
 aL (decide (x<0)||decide (x>=4)) (ao w (a 0)) (∀(b:Int),b=ir .i64 4 x->0<=b/\ ∀(x:Int),x=C4 .i64 1 b->ao w (a x))):=by kernel_rfl
theorem PJ (x:Int) (w:A2) (a:Int->A2->Prop):(aN D0 (λ_=>[]) 103 [aa x] w a)=(
 aL (decide (x<0)||decide (x>3)) (ao w (a 0)) (aK w ⟨[aa 1,aa 16,aa 256,aa 4096]⟩ 3 λb c=>(true=true/\0<=x/\x<(↑4:Int))/\aU c (ad (ae b) (x.toNat*1)) λx=>ao c (a x))):=by kernel_rfl
theorem BY {w:A2} {b:Nat} {p:Bool} {r:Int} {l:Bool} {f:Int} (h:bM w b [.bool p,aa r,.bool l,aa f]):
 cP w (ad (ae b) 0) (.one .bool) p/\cP w (ad (ae b) 1) (.one (.int .i64)) r/\cP w (ad (ae b) 2) (.one .bool) l/\cP w (ad (ae b) 3) (.one (.int .i64)) f/\
  cP w (ae b) (.agg [.bool,.int .i64,.bool,.int .i64]) (p,r,l,f,()):=by
 refine⟨?_,?_,?_,?_,?_⟩
 ·rw[aR];exact h.lM rfl
 ·rw[aR];exact h.lM rfl
 ·rw[aR];exact h.lM rfl
 ·rw[aR];exact h.lM rfl
 ·exact h.ZN λi _=>by rw[Bx];rfl
def bU (p:Bool) (r:Int) (l:Bool) (f:Int):Bool:=
 match p with
 |true=>decide (0<=r)&&decide (r<=7)&&decide (0<=f)&&decide (f<4096)&&(decide (r>0)|| !l)
 |false=>decide (r=0)&& !l&&decide (f=0)
theorem yG (p:Bool) (r:Int) (l:Bool) (f:Int) (w:A2):aE Ab 94 (.el (.one .bool)) [.agg ⟨[.bool p,aa r,.bool l,aa f]⟩] w (λb w'=>b=bU p r l f/\Ext w w'):=by
 refine ai (C:=D0) (aT:=λ_=>[]) (Ae (yF p r l f w _) ?_);intro w1 h1;obtain⟨i,g1,j,e,k⟩:=BY (bM.new w1 [.bool p,aa r,.bool l,aa f] 130);refine⟨rfl,p,i,ab (λh=>⟨_,k,λg a=>⟨?_,(h1.iV _).trans a⟩⟩) (λh=>⟨rfl,r,g1,λ_=>rfl,r,λ_=>g1,λ_=>rfl,f,λ_=>e,λ_=>rfl,f,λ_=>e,ab (λd=>λg a=>⟨?_,(h1.iV _).trans a⟩) (λd=>⟨rfl,r,g1,λ_=>rfl,l,λ_=>j,λg a=>⟨?_,(h1.iV _).trans a⟩⟩)⟩)⟩
 ·have c:p=false:=by simpa using h
  subst c;by_cases c1:r=0<;>by_cases c2:f=0<;>cases l<;>simp[bU,c1,c2]
 ·have c:p=true:=by simpa using h
  subst c;simp only[Do,decide_eq_true_eq] at d;symm;simp only[bU,Hr,decide_eq_false_iff_not];omega
 ·have c:p=true:=by simpa using h
  subst c;simp only[Dv,decide_eq_false_iff_not] at d;have c1:0<=r:=by omega
  have c2:r<=7:=by omega
  have c3:0<=f:=by omega
  have c4:f<4096:=by omega
  simp[bU,c1,c2,c3,c4]
noncomputable def NS:Entry Ab where
 f:=249
 fn l:=match l with
  |[.bool b]=>some (True,.int .u64 (U (bB b)))
  | _=>none
 ok args pre v h a w:=by
  split at h
  ·rename_i b;cases h;refine bW (x:=U (bB b)) (ai (C:=D0) (aT:=λ_=>[]) (Ae (Uf b w _) ?_));exact ab (λhb w1 h1=>⟨by subst hb;rfl,h1⟩) (λhb w1 h1=>⟨by subst hb;rfl,h1⟩)
  ·cases h
noncomputable def uF:Entry Ab where
 f:=94
 fn l:=match l with
  |[.agg ⟨[.bool p,.int .i64 r,.bool l,.int .i64 f]⟩]=>some (True,.bool (bU p r l f))
  | _=>none
 ok args pre v h a w:=by
  split at h
  ·rename_i p r l f;cases h;exact bW (yG p r l f w)
  ·cases h
def gK (x:Int):Int:=if x=0 then 1 else if x=1 then 16 else if x=2 then 256 else if x=3 then 4096 else 0
theorem Uh (x:Int) (w:A2):aE Ab 100 (.el (.one (.int .i64))) [aa x] w (λb w'=>b=gK x/\Ext w w'):=by
 refine ai (C:=D0) (aT:=λ_=>[]) (Ae (Ug x w _) ?_);refine ab (λh w1 h1=>⟨?_,h1⟩) (λh y a=>?_)
 ·simp only[Do,decide_eq_true_eq] at h;unfold gK;rw[au (by omega),au (by omega),au (by omega),au (by omega)]
 ·simp only[Dv,decide_eq_false_iff_not] at h;rw[eo (by omega) (by omega)] at a;refine⟨by omega,λz c w1 h1=>⟨?_,h1⟩⟩;have:x=0\/x=1\/x=2\/x=3:=by omega
  rcases this with rfl|rfl|rfl|rfl<;>(subst a;rw[c];decide+kernel)
theorem PK (x:Int) (w:A2):aE Ab 103 (.el (.one (.int .i64))) [aa x] w (λb w'=>b=gK x/\Ext w w'):=by
 refine ai (C:=D0) (aT:=λ_=>[]) (Ae (PJ x w _) ?_);refine ab (λh w1 h1=>⟨?_,h1⟩) (λh w1 h1=>?_)
 ·simp only[Do,decide_eq_true_eq] at h;unfold gK;rw[au (by omega),au (by omega),au (by omega),au (by omega)]
 ·simp only[Dv,decide_eq_false_iff_not] at h;have sl:Sl (w1.alloc (.cells ⟨[aa 1,aa 16,aa 256,aa 4096]⟩ 3)) eI (ae w1.heap.size) [1,16,256,4096]:=Sl.jC (bM.new w1 _ _) rfl;have c:x.toNat<4:=by omega
  have g:[(1:Int),16,256,4096][x.toNat]? =some (gK x):=by
   have:x=0\/x=1\/x=2\/x=3:=by omega
   rcases this with rfl|rfl|rfl|rfl<;>rfl
  exact⟨⟨rfl,by omega,by omega⟩, _,(sl _ _ g).2,λd a=>⟨rfl,(h1.iV _).trans a⟩⟩
noncomputable def NT:Entry Ab where
 f:=100
 fn l:=match l with
  |[.int .i64 x]=>some (True,.int .i64 (gK x))
  | _=>none
 ok args pre v h a w:=by
  split at h
  ·rename_i x;cases h;exact bW (Uh x w)
  ·cases h
noncomputable def FN:Entry Ab where
 f:=103
 fn l:=match l with
  |[.int .i64 x]=>some (True,.int .i64 (gK x))
  | _=>none
 ok args pre v h a w:=by
  split at h
  ·rename_i x;cases h;exact bW (PK x w)
  ·cases h
noncomputable def D1:dj Ab:={D0 with rX:=[sK,vj,Fm,Fo,NS,uF,NT,FN]}
theorem PL (p:Bool) (r:Int) (l:Bool) (f:Int) (w:A2) (e:Bool->A2->Prop):(aN D1 (λ_=>[]) 96 [.agg ⟨[.bool p,aa r,.bool l,aa f]⟩] w e)=(
 aK w ⟨[.bool p,aa r,.bool l,aa f]⟩ 130 λb a=>true=true/\uu a (ad (ae b) 0) λx=>(x=true->true=true)/\aj a (some x) (ad (ae b) 1) aV λ(d:Int)=>aj a (some (x&&d==0)) (ae b) jX λ(c:Bool×Int×Bool×Int×Unit)=>((x&&d==0)=true->True)/\ao a (e (x&&d==0&&bU c.1 c.2.1 c.2.2.1 c.2.2.2.1))):=by kernel_rfl
theorem Kl (p:Bool) (r:Int) (l:Bool) (f:Int) (t:Int) (w:A2) (d:Bool->A2->Prop):(aN D1 (λ_=>[]) 145 [.agg ⟨[.bool p,aa r,.bool l,aa f]⟩,aa t] w d)=(
 aK w ⟨[.bool p,aa r,.bool l,aa f]⟩ 130 λb a=>aj a none (ae b) jX λ(x:Bool×Int×Bool×Int×Unit)=>True/\(bU x.1 x.2.1 x.2.2.1 x.2.2.2.1=true->true=true)/\aj a (some (bU x.1 x.2.1 x.2.2.1 x.2.2.2.1)) (ad (ae b) 1) aV λ(c:Int)=>((bU x.1 x.2.1 x.2.2.1 x.2.2.2.1&&decide (c>0)&&decide (t>=0)&&decide (t<=7))=true->true=true)/\aj a (some (bU x.1 x.2.1 x.2.2.1 x.2.2.2.1&&decide (c>0)&&decide (t>=0)&&decide (t<=7))) (ad (ae b) 1) aV λ(g:Int)=> ∀(e:Int),e=gD .i64 t
 g->ao a (d (bU x.1 x.2.1 x.2.2.1 x.2.2.2.1&&decide (c>0)&&decide (t>=0)&&decide (t<=7)&&e==0))):=by kernel_rfl
theorem PM (x y:Int) (w:A2) (b:Int->A2->Prop):(aN D1 (λ_=>[]) 87 [aa x,aa y] w b)=(
 ((!(decide (x<0)||decide (x>=65536)))=true->True)/\ ∀(c:Int),c=gK y->aL (decide (x<0)||decide (x>=65536)||c==0) (ao w (b (-1))) (∀(a:Int),a=aw .u64 x-> ∀(x:Int),x=ir .i64 4 y->U (B a)=a/\ ∀(d:Int),d=U (fh (B a) x 4)-> ∀(x:Int),x=aw .i64 d->ao w (b x))):=by kernel_rfl
theorem Km (x y:Int) (w:A2) (a:Int->A2->Prop):(aN D1 (λ_=>[]) 63 [aa x,aa y] w a)=(
 ((!(decide (x<0)||decide (x>65535)))=true->True)/\ ∀(c:Int),c=gK y->aL (decide (x<0)||decide (x>65535)||c==0) (ao w (a (-1))) (True/\ ∀(b:Int),b=gK y->b≠0/\ ∀(d:Int),d=wD .i64 x b-> ∀(x:Int),x=bH d 16->ao w (a x))):=by kernel_rfl
theorem PN (p:Bool) (r:Int) (l:Bool) (f:Int) (w:A2) (c:Int×Int×Unit->A2->Prop):(aN D1 (λ_=>[]) 243 [.agg ⟨[.bool p,aa r,.bool l,aa f]⟩] w c)=(
 aK w ⟨[.bool p,aa r,.bool l,aa f]⟩ 130 λb a=>aj a none (ae b) jX λ(x:Bool×Int×Bool×Int×Unit)=>True/\aL (!bU x.1 x.2.1 x.2.2.1 x.2.2.2.1) (ao a (c (0,11,()))) (true=true/\uu a (ad (ae b) 0) λx=>True/\ ∀(d:Int),d=U (bB x)->true=true/\aU a (ad (ae b) 1) λx=> ∀(e:Int),e=aw .u64 x->true=true/\uu a (ad (ae b) 2) λx=>True/\ ∀(g:Int),g=U (bB x)->true=true/\aU a (ad (ae b) 3) λx=> ∀(h:Int),h=aw .u64 x->aK a {toList:=[ay d,
 aa 1,ay e,aa 3,ay g,aa 1,ay 0,aa 7,ay h,aa 12]} 304 λb a=>aD Ab 248 (.el ou) [.slice (ae b) 5 5] a λ(x:Int) a=>ao a (c (x,0,())))):=by kernel_rfl
theorem PO (v:Int) (w:A2) (e:(Bool×Int×Bool×Int×Unit)×Bool×Unit->A2->Prop):(bQ D1 (λ_=>[]) 59 [ay v] w e)=(
 aK w ⟨[.bool false,aa 0,.bool false,aa 0]⟩ 130 λb a=>aK a ⟨[aa 1,aa 3,aa 1,aa 7,aa 12,aa 40]⟩ 3 λi a=>aD Ab 93 (.el iu) [ay v,.slice (ae i) 6 6] a λx a=>(x.1.isSome=true/\(0:Int)<=0/\0<(↑x.2.1:Int))/\cB a (ad x.1 0) λj=>(x.1.isSome=true/\(0:Int)<=1/\1<(↑x.2.1:Int))/\cB a (ad x.1 1) λk=> ∀(g:Int),g=aw .i64 k->(x.1.isSome=true/\(0:Int)<=2/\2<(↑x.2.1:Int))/\cB a (ad x.1 2) λl=>(x.1.isSome=true/\(0:
 Int)<=4/\4<(↑x.2.1:Int))/\cB a (ad x.1 4) λm=> ∀(h:Int),h=aw .i64 m->aK a ⟨[.bool false,aa 0,.bool false,aa 0]⟩ 130 λf a=>aC a (ae f) [.bool (j==1),aa g,.bool (l==1),aa h] λa=>(x.1.isSome=true/\(0:Int)<=3/\3<(↑x.2.1:Int))/\cB a (ad x.1 3) λc=>((!decide (c>0))=true->x.1.isSome=true/\(0:Int)<=5/\5<(↑x.2.1:Int))/\aj a (some !decide (c>0)) (ad x.1 5) ou λ(x:Int)=>aj a (some !(decide (c>0)||decide (x>0))) (ae f) jX λ(d
 :Bool×Int×Bool×Int×Unit)=>((!(decide (c>0)||decide (x>0)))=true->True)/\aL (decide (c>0)||decide (x>0)|| !bU d.1 d.2.1 d.2.2.1 d.2.2.2.1) (aC a (ae b) [.bool false,aa 0,.bool false,aa 0] λa=>ao a λw1=>aj w1 none (ae b) jX λ(x:Bool×Int×Bool×Int×Unit)=>e ((x.1,x.2.1,x.2.2.1,x.2.2.2.1,()),false,()) w1) (aj a none (ae f) jX λ(x:Bool×Int×Bool×Int×Unit)=>aC a (ae b) [.bool x.1,aa x.2.1,.bool x.2.2.1,aa x.2.2.2.1] λa=>ao a λw1=>
 aj w1 none (ae b) jX λ(x:Bool×Int×Bool×Int×Unit)=>e ((x.1,x.2.1,x.2.2.1,x.2.2.2.1,()),true,()) w1)):=by kernel_rfl
def fH (p:Bool) (r:Int) (l:Bool) (f:Int):Bool:=p&&r==0&&bU p r l f
def gE (p:Bool) (r:Int) (l:Bool) (f t:Int):Bool:=bU p r l f&&decide (r>0)&&decide (t>=0)&&decide (t<=7)&&gD .i64 t r==0
theorem PQ (p:Bool) (r:Int) (l:Bool) (f:Int) (w:A2):aE Ab 96 (.el (.one .bool)) [.agg ⟨[.bool p,aa r,.bool l,aa f]⟩] w (λb w'=>b=fH p r l f/\Ext w w'):=by
 refine ai (C:=D1) (Ae (PL p r l f w _) ?_);intro w1 h1;obtain⟨a,g1,e,g,c⟩:=BY (bM.new w1 _ 130);exact⟨rfl,p,a,λ_=>rfl,r,λ_=>g1, _,λ_=>c,by simp,λh d=>⟨rfl,(h1.iV _).trans d⟩⟩
theorem yH {p:Bool} {r:Int} {l:Bool} {f:Int} (h:bU p r l f=true):0<=r/\r<=7/\0<=f/\f<4096/\(p=false->r=0/\l=false/\f=0):=by
 cases p
 ·grind[bU]
 ·simp[bU] at h
  grind
theorem Ko (p:Bool) (r:Int) (l:Bool) (f t:Int) (w:A2):aE Ab 145 (.el (.one .bool)) [.agg ⟨[.bool p,aa r,.bool l,aa f]⟩,aa t] w (λb w'=>b=gE p r l f t/\Ext w w'):=by
 refine ai (Ae (Kl p r l f t w _) ?_);intro w1 h1;obtain⟨e,g1,g,h,a⟩:=BY (bM.new w1 _ 130);exact⟨_,a,trivial,λ_=>rfl,r,λ_=>g1,λ_=>rfl,r,λ_=>g1,λx c i d=>⟨by rw[c];rfl,(h1.iV _).trans d⟩⟩
def fl (x y:Int):Int:=if 0<=x/\x<65536/\0<=y/\y<=3 then x / gK y % 16 else -1
theorem AL {y:Int}:(gK y==0)= !(decide (0<=y)&&decide (y<=3)):=by
 grind[gK]
theorem AM {x y:Int} (h: ¬ (0<=x/\x<65536/\0<=y/\y<=3)):fl x y= -1:=au h
theorem AN {x:Int} (h: -9223372036854775808<=x) (h':x<9223372036854775808):aw .i64 x=x:=gm h h'
theorem AO {x:Int} (h:0<=x) (h':x<18446744073709551616):aw .u64 x=x:=by
 show Jn.wrap x=x;rw[wrap_u64];omega
theorem qb {a b c:Int} (m:Nat) (h:0<=a/\a<65536) (d:2 ^ b.toNat=m) (e:dW b 4=true) (f:c=U (fh (B a) b 4)):c=a / (m:Int) % 16:=by
 have g:(B a).toNat=a:=BD (by omega) (by omega);rw[f,C' (nG m 16 e d (by grind)),Int.natCast_emod,Int.natCast_ediv,g];rfl
theorem ED {a y b c:Int} (d:0<=a/\a<65536) (g:0<=y/\y<=3) (eb:b=4*y) (f:c=U (fh (B a) b 4)):c=fl a y/\0<=c/\c<16:=by
 have e:c=fl a y:=by
  unfold fl;rw[az (by omega)];have:y=0\/y=1\/y=2\/y=3:=by omega
  rcases this with rfl|rfl|rfl|rfl
  ·exact qb 1 d (by grind) (by subst eb;decide) f
  ·exact qb 16 d (by grind) (by subst eb;decide) f
  ·exact qb 256 d (by grind) (by subst eb;decide) f
  ·exact qb 4096 d (by grind) (by subst eb;decide) f
 rw[e];unfold fl;omega
theorem PU (x y:Int) (w:A2):aE Ab 87 (.el (.one (.int .i64))) [aa x,aa y] w (λb w'=>b=fl x y/\Ext w w'):=by
 refine ai (C:=D1) (Ae (PM x y w _) ?_);refine⟨λ_=>trivial,λs es=>?_⟩;subst es;rw[AL];refine ab (λh w1 h1=>⟨?_,h1⟩) (λh a e b eb=>?_)
 ·simp only[Do,decide_eq_true_eq,Kg,Hr,decide_eq_false_iff_not] at h;rw[AM (by omega)]
 ·simp only[Dv,decide_eq_false_iff_not,Nq,Hq,decide_eq_true_eq] at h;rw[AO (by omega) (by omega)] at e;rw[eo (by omega) (by omega)] at eb;subst e;refine⟨BD (by omega) (by omega),λc f d g w1 h1=>⟨?_,h1⟩⟩;obtain⟨i,j,k⟩:=ED (y:=y) (by omega) (by omega) eb f;rw[g,AN (by omega) (by omega),i]
theorem Kp (x y:Int) (w:A2):aE Ab 63 (.el (.one (.int .i64))) [aa x,aa y] w (λb w'=>b=fl x y/\Ext w w'):=by
 refine ai (C:=D1) (Ae (Km x y w _) ?_);refine⟨λ_=>trivial,λs es=>?_⟩;subst es;rw[AL];refine ab (λh w1 h1=>⟨?_,h1⟩) (λh=>⟨trivial,λs es=>?_⟩)
 ·simp only[Do,decide_eq_true_eq,Kg,Hr,decide_eq_false_iff_not] at h;rw[AM (by omega)]
 ·simp only[Dv,decide_eq_false_iff_not,Nq,Hq,decide_eq_true_eq] at h;have e:y=0\/y=1\/y=2\/y=3:=by omega
  have j:1<=s:=by rcases e with rfl|rfl|rfl|rfl<;>(rw[es];decide)
  refine⟨by omega,λc a d f w1 h1=>⟨?_,h1⟩⟩;have g:wD .i64 x s=x / s:=by
   unfold wD;rw[Int.tdiv_eq_ediv_of_nonneg (by omega)];have h1:0<=x / s:=Nl (by omega) (by omega);have k:x / s<=x:=Int.ediv_le_self _ (by omega);exact gm (by omega) (by omega)
  have h1:0<=x / s:=Nl (by omega) (by omega);rw[g] at a;have i:bH c 16=c % 16:=Int.tmod_eq_emod_of_nonneg (by omega);rw[f,i,a,es];unfold fl
  grind
def vn (p:Bool) (r:Int) (l:Bool) (f:Int):Int:=(nB p:Int)+2*r+16*(nB l:Int)+4096*f
def Fb (p:Bool) (r:Int) (l:Bool) (f:Int):Int:=if bU p r l f=true then vn p r l f else 0
def pkE (p:Bool) (r:Int) (l:Bool) (f:Int):Int:=if bU p r l f=true then 0 else 11
theorem HQ {x:Int} (h:0<=x) (h':x<18446744073709551616):(B x).toNat=x.toNat:=by
 have:((B x).toNat:Int)=x:=BD h h';omega
theorem Gt {p:Bool} {r:Int} {l:Bool} {f:Int} (h:bU p r l f=true):U (qG 0#64 0 [(bB p,1),(B r,3),(bB l,1),(0#64,7),(B f,12)])=vn p r l f:=by
 have b:=yH h;rw[C' (Kk (HQ (by omega) (by omega)) (by omega) (HQ (by omega) (by omega)) (by omega))];unfold vn;omega
theorem PV (p:Bool) (r:Int) (l:Bool) (f:Int) (w:A2):aE Ab 243 (.bu [eU,eI]) [.agg ⟨[.bool p,aa r,.bool l,aa f]⟩] w (λx w'=>x=(Fb p r l f,pkE p r l f,())/\Ext w w'):=by
 refine ai (C:=D1) (aT:=λ_=>[]) (Ae (PN p r l f w _) ?_);intro w1 h1;obtain⟨m,g1,o,q,s⟩:=BY (bM.new w1 [.bool p,aa r,.bool l,aa f] 130);refine⟨_,s,trivial,ab (λh a d=>⟨?_,(h1.iV _).trans d⟩) (λh=>⟨rfl,p,m,trivial,λx1 t=>⟨rfl,r,g1,λe i=>⟨rfl,l,o,trivial,λF u=>⟨rfl,f,q,λg j a d v k=>?_⟩⟩⟩⟩)⟩
 ·have h':bU p r l f=false:=by simpa using h
  unfold Fb pkE;rw[h'];rfl
 ·have h':bU p r l f=true:=by simpa using h
  have b:=yH h';rw[AO (by omega) (by omega)] at i j;subst t;subst i;subst u;subst j;have y:U (B e)=e:=BD (by omega) (by omega);have z:U (B g)=g:=BD (by omega) (by omega);have sl:Sl v eP (ae a.heap.size) (Nt [(bB p,1),(B e,3),(bB l,1),(0#64,7),(B g,12)]):=Sl.jC ((bM.new a _ _).ext k) (by
   simp only[Nt,Bv,List.map_nil,y,z];rfl)
  refine(TX (n:=5) (c:=5) sl rfl (by decide)).mono ?_;rintro x G ⟨A,D⟩ H E;refine⟨?_,((((h1.iV _).trans d).iV _).trans k).trans (D.trans E)⟩;rw[A,Gt h'];unfold Fb pkE;rw[az h',az h']
theorem yI {x y:Int} (h:0<=x+y) (h':x+y<18446744073709551616):aB .u64 x y=x+y:=by
 show Jn.wrap (x+y)= _;rw[wrap_u64];omega
theorem FO {w:A2} {b:Nat} {l:List Ad} (h:bM w b l) (vs:List Ad) (a:vs.length=l.length):bM (ju w (ae b) vs) b vs:=by
 have:=h.put (o:=0) vs (by omega);rw[Bx,a,HE,H6,NQ,List.nil_append] at this;exact this
def ua (n:Nat):Bool:=decide (n / 32 % 128=0)&&decide (n / 16777216 % 1099511627776=0)&&bU (n % 2==1) ((n / 2 % 8:Nat):Int) (n / 16 % 2==1) ((n / 4096 % 4096:Nat):Int)
def Hs (n:Nat):Bool:=ua n&&n % 2==1
def Fc (n:Nat):Int:=if ua n=true then((n / 2 % 8:Nat):Int) else 0
def Jx (n:Nat):Bool:=ua n&&n / 16 % 2==1
def ES (n:Nat):Int:=if ua n=true then((n / 4096 % 4096:Nat):Int) else 0
theorem YS {w0 w:A2} {e:El} {s:Option AC×Nat×Nat} {xs:List e.T} (h:lD w0 w e s xs) {a:AC} (d:s.1=some a):a.block<w.heap.size:=by
 obtain⟨_, _,c⟩:=h;rcases c with ⟨c, _⟩|⟨b,l,c, _,f, _⟩
 ·rw[c] at d;cases d
 ·rw[c] at d;cases d;exact f.lt
theorem Ir (n:Nat):(((n:Nat):Int)==1)=(n==1):=by
 rw[Ht,beq_iff_eq,beq_iff_eq];omega
theorem Is (n:Nat):decide (((n:Nat):Int)>0)= !decide (n=0):=by
 rw[Ht,decide_eq_true_eq,Kg,decide_eq_false_iff_not];omega
theorem PW (v:BitVec 64) (w:A2):aE Ab 59 (.bu [.agg [.bool,.int .i64,.bool,.int .i64],.one .bool]) [ay (U v)] w
 (λx w'=>x=((Hs v.toNat,Fc v.toNat,Jx v.toNat,ES v.toNat,()),ua v.toNat,())/\Ext w w'):=by
 refine aQ (C:=D1) (aT:=λ_=>[]) (Ae (PO (U v) w _) ?_);intro w1 h1 l u r m;have dp:bM l w1.heap.size [B3 false,aa 0,B3 false,aa 0]:=(bM.new w1 _ _).ext u;have H:Ext w l:=(h1.iV _).trans u;have y:Ext w r:=(H.iV _).trans m;have sl:Sl r eI (ae l.heap.size) [1,3,1,7,12,40]:=Sl.jC ((bM.new l _ _).ext m) rfl;refine(Pr (v:=v) (c:=6) sl rfl (by decide)).mono ?_;rintro⟨p,n,c⟩ X ⟨e,o⟩;rw[Gs] at e;have ln:n=6:=by have:=e.len;simpa[BE] using this
 subst ln
 let N:=v.toNat
 have I:U (fh v 0 1)=((N % 2:Nat):Int):=by rw[C' (nG 1 2 (by decide) rfl rfl),Nat.div_one]
 have J:U (fh v 1 3)=((N / 2 % 8:Nat):Int):=C' (nG 2 8 (by decide) rfl rfl);have K:U (fh v 4 1)=((N / 16 % 2:Nat):Int):=C' (nG 16 2 (by decide) rfl rfl);have L:U (fh v 5 7)=((N / 32 % 128:Nat):Int):=C' (nG 32 128 (by decide) rfl rfl);have M:U (fh v 12 12)=((N / 4096 % 4096:Nat):Int):=C' (nG 4096 4096 (by decide) (by decide) (by decide));have O:U (fh v 24 40)=((N / 16777216 % 1099511627776:Nat):Int):=C' (nG 16777216 1099511627776 (by decide) (by decide) (by decide));have P:BE ((some [fh v 0 1,fh v 1 3,fh v 4 1,fh v 5 7,fh v 12 12,fh v 24 40]).getD [])=[((N % 2:Nat):Int),((N / 2 % 8:Nat):Int),((N / 16 % 2:Nat):Int),((N / 32 % 128:Nat):Int),((N / 4096 % 4096:Nat):Int),((N / 16777216 % 1099511627776:Nat):Int)]:=by
  show[U (fh v 0 1),U (fh v 1 3),U (fh v 4 1),U (fh v 5 7),U (fh v 12 12),U (fh v 24 40)]= _;rw[I,J,K,L,M,O]
 rw[P] at e;have Q:p.isSome=true:=(e.sl 0 _ rfl).1;have ix: ∀i:Int,0<=i->i<6->p.isSome=true/\0<=i/\i<((6:Nat):Int):=λi a b=>⟨Q,a,b⟩;refine⟨ix 0 (by decide) (by decide), _,(e.sl 0 _ rfl).2,ix 1 (by decide) (by decide), _,(e.sl 1 _ rfl).2,λY z=>⟨ix 2 (by decide) (by decide), _,(e.sl 2 _ rfl).2,ix 4 (by decide) (by decide), _,(e.sl 4 _ rfl).2,λZ A d f g q=>?_⟩⟩;rw[AN (by omega) (by omega)] at z A;rw[Ir,Ir];subst z;subst A;have bt:bM g d.heap.size [B3 false,aa 0,B3 false,aa 0]:=(bM.new d _ _).ext q;refine⟨⟨rfl,bt.st (by simp)⟩,?_⟩;have bp:=FO bt [B3 (N % 2==1),aa ((N / 2 % 8:Nat):Int),B3 (N / 16 % 2==1),aa ((N / 4096 % 4096:Nat):Int)] rfl;have B:lD r (ju g (ae d.heap.size) [B3 (N % 2==1),aa ((N / 2 % 8:Nat):Int),B3 (N / 16 % 2==1),aa ((N / 4096 % 4096:Nat):Int)]) eU (p,6,c) _:=
  ((e.ext f).ext ((Ext.alloc _ _).trans q)).same λa R=>mN _ _ ⟨d.heap.size,0,none⟩ 0 _ (by
    have:=YS e R;have:=f.size;show a.block≠d.heap.size;omega)
 have S:Ext w g:=(((y.trans o).trans f).iV _).trans q;have D:Ext w (ju g (ae d.heap.size) [B3 (N % 2==1),aa ((N / 2 % 8:Nat):Int),B3 (N / 16 % 2==1),aa ((N / 4096 % 4096:Nat):Int)]):=S.ju (a:=⟨d.heap.size,0,none⟩) (((y.trans o).trans f).size) _;have E:cP (ju g (ae d.heap.size) [B3 (N % 2==1),aa ((N / 2 % 8:Nat):Int),B3 (N / 16 % 2==1),aa ((N / 4096 % 4096:Nat):Int)]) (ae d.heap.size) (.agg [.bool,.int .i64,.bool,.int .i64]) (N % 2==1,((N / 2 % 8:Nat):Int),N / 16 % 2==1,((N / 4096 % 4096:Nat):Int),()):=
  bp.ZN λi _=>by rw[Bx];rfl
 have lt1:=dp.lt;have T:w1.heap.size≠d.heap.size:=by
  have a1:=m.size;have a2:=o.size;have a3:=f.size;rw[lr] at a1;omega
 have F:bM (ju g (ae d.heap.size) [B3 (N % 2==1),aa ((N / 2 % 8:Nat):Int),B3 (N / 16 % 2==1),aa ((N / 4096 % 4096:Nat):Int)]) w1.heap.size [B3 false,aa 0,B3 false,aa 0]:=
  ((((((dp.ext (Ext.alloc _ _)).ext m).ext o).ext f).ext (Ext.alloc _ _)).ext q).Wz (a:=⟨d.heap.size,0,none⟩) T _
 refine⟨ix 3 (by decide) (by decide), _,(B.sl 3 _ rfl).2,λ_=>ix 5 (by decide) (by decide), _,λ_=>(B.sl 5 _ rfl).2, _,λ_=>E,λ_=>trivial,?_⟩;rw[Is,Is];have G:ua N= !(!decide (N / 32 % 128=0)|| !decide (N / 16777216 % 1099511627776=0)|| !bU (N % 2==1) ((N / 2 % 8:Nat):Int) (N / 16 % 2==1) ((N / 4096 % 4096:Nat):Int)):=by
  unfold ua;cases decide (N / 32 % 128=0)<;>cases decide (N / 16777216 % 1099511627776=0)<;>cases bU (N % 2==1) ((N / 2 % 8:Nat):Int) (N / 16 % 2==1) ((N / 4096 % 4096:Nat):Int)<;>rfl
 refine ab (λhb V h=>?_) (λhb=>⟨_,E,λV h=>?_⟩)
 ·have s:ua N=false:=by rw[G,hb];rfl
  have j:=F.ext h;refine⟨⟨rfl,j.st (by simp)⟩,λW k=>⟨(false,0,false,0,()),?_,?_,?_⟩⟩
  ·have t:=(FO j [B3 false,aa 0,B3 false,aa 0] rfl).ext k;exact t.ZN λi _=>by rw[Bx];rfl
  ·show _=((Hs N,Fc N,Jx N,ES N,()),ua N,());unfold Hs Fc Jx ES;rw[s];rfl
  ·exact((D.trans h).ju (a:=⟨w1.heap.size,0,none⟩) h1.size _).trans k
 ·have s:ua N=true:=by rw[G,hb];rfl
  have j:=F.ext h;refine⟨⟨rfl,j.st (by simp)⟩,λW k=>⟨(N % 2==1,((N / 2 % 8:Nat):Int),N / 16 % 2==1,((N / 4096 % 4096:Nat):Int),()),?_,?_,?_⟩⟩
  ·have t:=(FO j [B3 (N % 2==1),aa ((N / 2 % 8:Nat):Int),B3 (N / 16 % 2==1),aa ((N / 4096 % 4096:Nat):Int)] rfl).ext k;exact t.ZN λi _=>by rw[Bx];rfl
  ·show _=((Hs N,Fc N,Jx N,ES N,()),ua N,());unfold Hs Fc Jx ES;rw[s,az rfl,az rfl,Ga,Ga]
  ·exact((D.trans h).ju (a:=⟨w1.heap.size,0,none⟩) h1.size _).trans k
noncomputable def Ow:Entry Ab where
 f:=96
 fn l:=match l with
  |[.agg ⟨[.bool p,.int .i64 r,.bool l,.int .i64 f]⟩]=>some (True,.bool (fH p r l f))
  | _=>none
 ok args pre v h a w:=by
  split at h
  ·rename_i p r l f;cases h;exact bW (PQ p r l f w)
  ·cases h
noncomputable def Iu:Entry Ab where
 f:=145
 fn l:=match l with
  |[.agg ⟨[.bool p,.int .i64 r,.bool l,.int .i64 f]⟩,.int .i64 t]=>some (True,.bool (gE p r l f t))
  | _=>none
 ok args pre v h a w:=by
  split at h
  ·rename_i p r l f t;cases h;exact bW (Ko p r l f t w)
  ·cases h
noncomputable def Ox:Entry Ab where
 f:=87
 fn l:=match l with
  |[.int .i64 x,.int .i64 y]=>some (True,.int .i64 (fl x y))
  | _=>none
 ok args pre v h a w:=by
  split at h
  ·rename_i x y;cases h;exact bW (PU x y w)
  ·cases h
noncomputable def Iv:Entry Ab where
 f:=63
 fn l:=match l with
  |[.int .i64 x,.int .i64 y]=>some (True,.int .i64 (fl x y))
  | _=>none
 ok args pre v h a w:=by
  split at h
  ·rename_i x y;cases h;exact bW (Kp x y w)
  ·cases h
noncomputable def WB:Entry Ab where
 f:=243
 fn l:=match l with
  |[.agg ⟨[.bool p,.int .i64 r,.bool l,.int .i64 f]⟩]=>some (True,.tuple ⟨[.int .u64 (Fb p r l f),.int .i64 (pkE p r l f)]⟩)
  | _=>none
 ok args pre v h a w:=by
  split at h
  ·rename_i p r l f;cases h;exact bW (PV p r l f w)
  ·cases h
noncomputable def Oy:Entry Ab where
 f:=59
 fn l:=match l with
  |[.int .u64 v]=>some (U (B v)=v,.tuple ⟨[.agg ⟨[.bool (Hs (B v).toNat),.int .i64 (Fc (B v).toNat),.bool (Jx (B v).toNat),.int .i64 (ES (B v).toNat)]⟩,.bool (ua (B v).toNat)]⟩)
  | _=>none
 ok args pre v h a w:=by
  split at h
  ·rename_i v;cases h;have:=bW (PW (B v) w);rw[a] at this;exact this
  ·cases h
noncomputable def D2:dj Ab:={D0 with rX:=[sK,vj,Fm,Fo,NS,uF,NT,FN,Ow,Iu,Ox,Iv,WB,Oy]}
theorem NU (z x y:Int) (w:A2) (a:Int->A2->Prop):(aN D2 (λ_=>[]) 55 [aa z,aa x,aa y] w a)=(
 True/\ ∀(b:Int),b=fl x y->aL (decide (b<0)||decide (z<0)||decide (z>=4096)) (ao w (a (-1))) (∀(x:Int),x=ir .i64 16 z-> ∀(c:Int),c=aB .i64 x b->ao w (a c))):=by kernel_rfl
theorem YT (z x y:Int) (w:A2) (a:Int->A2->Prop):(aN D2 (λ_=>[]) 27 [aa z,aa x,aa y] w a)=(
 True/\ ∀(b:Int),b=fl x y->aL (decide (b<0)||decide (z<0)||decide (z>4095)) (ao w (a (-1))) (∀(x:Int),x=ir .i64 16 z-> ∀(c:Int),c=aB .i64 x b->ao w (a c))):=by kernel_rfl
def dY (z x y:Int):Int:=if fl x y<0\/z<0\/z>=4096 then -1 else 16*z+fl x y
theorem DJ (x y:Int): -1<=fl x y/\fl x y<16:=by
 unfold fl;split
 ·have h1:=Int.emod_nonneg (x / gK y) (show(16:Int)≠0 by decide);have a:=Int.emod_lt_of_pos (x / gK y) (show(0:Int)<16 by decide);omega
 ·omega
theorem Ds (z x y:Int) (w:A2):aE Ab 55 (.el (.one (.int .i64))) [aa z,aa x,aa y] w (λb w'=>b=dY z x y/\Ext w w'):=by
 refine ai (C:=D2) (aT:=λ_=>[]) (Ae (NU z x y w _) ⟨trivial,λs es=>?_⟩);have hb:=DJ x y;subst es;refine ab (λh w1 h1=>⟨?_,h1⟩) (λh a c b eb w1 h1=>⟨?_,h1⟩)
 ·simp only[Do,decide_eq_true_eq] at h;unfold dY;rw[az (by omega)]
 ·simp only[Dv,decide_eq_false_iff_not] at h;rw[eo (by omega) (by omega)] at c;rw[ax (by omega) (by omega)] at eb;unfold dY;rw[au (by omega),eb,c]
theorem YU (z x y:Int) (w:A2):aE Ab 27 (.el (.one (.int .i64))) [aa z,aa x,aa y] w (λb w'=>b=dY z x y/\Ext w w'):=by
 refine ai (C:=D2) (aT:=λ_=>[]) (Ae (YT z x y w _) ⟨trivial,λs es=>?_⟩);have hb:=DJ x y;subst es;refine ab (λh w1 h1=>⟨?_,h1⟩) (λh a c b eb w1 h1=>⟨?_,h1⟩)
 ·simp only[Do,decide_eq_true_eq] at h;unfold dY;rw[az (by omega)]
 ·simp only[Dv,decide_eq_false_iff_not] at h;rw[eo (by omega) (by omega)] at c;rw[ax (by omega) (by omega)] at eb;unfold dY;rw[au (by omega),eb,c]
noncomputable def eAt:Entry Ab where
 f:=55
 fn l:=match l with
  |[.int .i64 z,.int .i64 x,.int .i64 y]=>some (True,.int .i64 (dY z x y))
  | _=>none
 ok args pre v h a w:=by
  split at h
  ·rename_i z x y;cases h;exact bW (Ds z x y w)
  ·cases h
noncomputable def abR:Entry Ab where
 f:=27
 fn l:=match l with
  |[.int .i64 z,.int .i64 x,.int .i64 y]=>some (True,.int .i64 (dY z x y))
  | _=>none
 ok args pre v h a w:=by
  split at h
  ·rename_i z x y;cases h;exact bW (YU z x y w)
  ·cases h
noncomputable def D3:dj Ab:={D0 with rX:=[sK,vj,Fm,Fo,NS,uF,NT,FN,Ow,Iu,Ox,Iv,WB,Oy,eAt,abR]}
noncomputable def M0:dj Ab:={D3 with vi:=false,quiet:=[117,118]}
theorem Ui (p:Option AC) (w:A2) (a:Int->A2->Prop):(aN M0 (λ_=>[]) 117 [ag p] w a)=(
 aL p.isNone (ao w (a 0)) (p.isSome=true/\p.isSome=true/\(ad p 0).isSome=true/\sw w (ad (ad p 0) 0) λx=>ao w (a (↑x.2.1:Int)))):=by kernel_rfl
theorem YV (p:Option AC) (n c:Nat) (i:Int) (w:A2) (d:Option AC->A2->Prop):(aN M0 (λ_=>[]) 118 [.agg ⟨[.slice p n c]⟩,aa i] w d)=(
 aK w ⟨[.slice p n c]⟩ 157 λb a=>((!decide (i<0))=true->true=true)/\aj a (some !decide (i<0)) (ad (ae b) 0) iu λx=>aL (decide (i<0)||decide (i>=(↑x.2.1:Int))) (ao a (d none)) (true=true/\sw a (ad (ae b) 0) λx=>(x.1.isSome=true/\0<=i/\i<(↑x.2.1:Int))/\ao a (d (ad x.1 (i.toNat*1))))):=by kernel_rfl
theorem PX (p:Option AC) (i:Int) (w:A2) (a:Option AC×Int×Unit->A2->Prop):(aN M0 (λ_=>[]) 71 [ag p,aa i] w a)=(
 ∃(x:Int),ah Ab 117 [ag p] w (aa x)/\aL (x==0) (ao w (a (none,10,()))) (p.isSome=true/\p.isSome=true/\aj w none (ad p 0) (.agg [.slice]) λx=> ∃(b:Option AC),ah Ab 118 [.agg ⟨[.slice x.1.1 x.1.2.1 x.1.2.2]⟩,aa i] w (ag b)/\aL b.isNone (ao w (a (none,2,()))) (cv p 1 w λx=>p.isSome=true/\p.isSome=true/\aC w (ad p 1) [aa (aB .i64 x 1)] λc=>ao c (a (b,0,()))))):=by kernel_rfl
theorem DK (p:Option AC) (i:Int) (w:A2) (a:Int×Int×Unit->A2->Prop):(aN M0 (λ_=>[]) 37 [ag p,aa i] w a)=(
 aD Ab 71 (.bu [.one .ptr,.one (.int .i64)]) [ag p,aa i] w λ(x:Option AC×Int×Unit) b=>aL (x.2.1 != 0) (ao b (a (0,x.2.1,()))) (x.1.isSome=true/\cB b x.1 λx=>ao b (a (x,0,())))):=by kernel_rfl
theorem Kq (p:Option AC) (i v:Int) (w:A2) (b:Int->A2->Prop):(aN M0 (λ_=>[]) 38 [ag p,aa i,ay v] w b)=(
 aD Ab 71 (.bu [.one .ptr,.one (.int .i64)]) [ag p,aa i] w λ(x:Option AC×Int×Unit) a=>aL (x.2.1==0) (x.1.isSome=true/\aC a x.1 [ay v] λa=>cv p 2 a λc=>p.isSome=true/\p.isSome=true/\aC a (ad p 2) [aa (aB .i64 c 1)] λa=>ao a (b x.2.1)) (ao a (b x.2.1))):=by kernel_rfl
theorem Uj (n:Int) (w:A2) (a:Option AC×Int×Unit->A2->Prop):(aN M0 (λ_=>[]) 33 [aa n] w a)=(
 aL (decide (n<1)||decide (n>65536)) (ao w (a (none,1,()))) (E7 w 8 1 n n ⟨[ay 0]⟩ 29 λb c=>aK c {toList:=[.slice (ae b) n.toNat n.toNat,aa 0,aa 0]} 159 λb c=>ao c (a (some ⟨b,0,none⟩,0,())))):=by kernel_rfl
abbrev eW:El:= .one (.int .u64)
abbrev iP (bw n c:Nat) (ca la:Int):List Ad:=[.slice (ae bw) n c,aa ca,aa la]
def ri (ws:List Int) (i:Int):Bool:=decide (0<=i)&&decide (i<ws.length)
def dJ (ws:List Int) (i:Int):Int:=if ri ws i then ws.getD i.toNat 0 else 0
def zM (ws:List Int) (i:Int):Int:=if ri ws i then 0 else 2
def qo (ws:List Int) (i x:Int):Int:=if ri ws i then aB .i64 x 1 else x
def dK (ws:List Int) (i v:Int):List Int:=if ri ws i then ws.set i.toNat v else ws
theorem gF {ws:List Int} {i:Int}:ri ws i=true<->0<=i/\i<ws.length:=by unfold ri;simp
theorem cF (ws:List Int) (i v:Int):(dK ws i v).length=ws.length:=by unfold dK;split<;>simp
theorem HR: ∀ws:List Int,flat eW ws=ws.map (Dc .u64)
 |[]=>rfl
 |a::l=>by
  show[ay a]++flat eW l= _;rw[HR l];rfl
section
variable {D G:List Nat} {w0 w:A2} {L:List (Nat×List Ad)} {bm bw n c:Nat} {ca la:Int} {ws:List Int} {rest:List Ad}
theorem Yc {i:Nat} (hi:i<ws.length):lI (flat eW ws++rest) (0+i*1) eW=some (ws.getD i 0):=by
 have:(flat eW ws++rest)[0+i*1]? =some (ay (ws.getD i 0)):=by
  have a:(flat eW ws).length=ws.length*1:=aI eW ws;rw[Bx,Hb,H4 (by omega)];have e:=HR ws;rw[e,FF,Da hi,JD,Da hi];rfl
 show(match (flat eW ws++rest)[0+i*1]? with|some v=>(Sc.int .u64).proj v|none=>none)= _;rw[this];rfl
theorem Iw (h:bM w bm (iP bw n c ca la)):aE Ab 117 (.el (.one (.int .i64))) [ag (ae bm)] w (λx w'=>x=(n:Int)/\Ext w w'):=by
 refine ai (C:=M0) (aT:=λ_=>[]) (Ae (Ui _ w _) ?_);refine an rfl ⟨rfl,rfl,rfl,aj.of (some ⟨bw,0,none⟩,n,c) (by rw[aR,aR];exact h.lM rfl) λw1 h1=>⟨rfl,h1⟩⟩
theorem YW (p:Option AC) (a:n≠0->p.isSome=true) (i:Int) (w:A2):aE Ab 118 (.el (.one .ptr)) [.agg ⟨[.slice p n c]⟩,aa i] w (λx w'=>x=(if 0<=i/\i<n then ad p i.toNat else none)/\Ext w w'):=by
 refine ai (C:=M0) (aT:=λ_=>[]) (Ae (YV p n c i w _) ?_);have H:=At.start [] w;refine aK.go H λb e H=>⟨λ_=>rfl,aj.bP 0 H rfl rfl (ab (λc1=>ao.go H λd H=>⟨?_,H.all⟩) (λc1=>⟨rfl,aj.bP 0 H rfl rfl ?_⟩))⟩
 ·have: ¬ (0<=i/\i<n):=by simp at c1;omega
  rw[au this]
 ·have hi:0<=i/\i<n:=by simp at c1;omega
  refine⟨⟨a (by omega),by omega,by show i<((n:Nat):Int);omega⟩,ao.go H λd H=>⟨?_,H.all⟩⟩;rw[az hi,Hb]
theorem sY (H:aJ D G w0 w L) (j:Nat) (b:L[j]? =some (bm,iP bw n c ca la)) (e:n=ws.length) (h0:0<n) (i:Int) {K:Option AC×Int×Unit->A2->Prop}
 (f:ri ws i=true-> ∀a,aJ D G w0 a (L.set j (bm,iP bw n c (aB .i64 ca 1) la))->K (ad (ae bw) i.toNat,0,()) a) (g:ri ws i=false-> ∀a,aJ D G w0 a L->K (none,2,()) a):
 aD Ab 71 (.bu [.one .ptr,.one (.int .i64)]) [ag (ae bm),aa i] w K:=by
 refine aD.go H λw1 H=>ai (C:=M0) (aT:=λ_=>[]) (Ae (PX _ i w1 K) ?_);refine⟨_,ah.of (s:= .el (.one (.int .i64))) λw' h'=>Iw ((H.get b).ext h'),an (by simp;omega) ⟨rfl,rfl,aj.bP j H b rfl ⟨_,ah.of (s:= .el (.one .ptr)) λw' h'=>YW (ae bw) (λ_=>rfl) i w',?_⟩⟩⟩;subst e;cases hi:ri ws i with
 |true=>
  have d:=gF.1 hi;rw[az d];refine an rfl ⟨rfl,rfl,aj.bP j H b rfl ⟨rfl,rfl,aC.fb j H b rfl rfl λa H=>ao.go H λk H=>f hi k H⟩⟩
 |false=>
  have d: ¬ (0<=i/\i<(ws.length:Int)):=λh=>by rw[gF.2 h] at hi;cases hi
  rw[au d];exact aF rfl (ao.go H λa H=>g hi a H)
theorem sZ (H:aJ D G w0 w L) (j a:Nat) (d:L[j]? =some (bm,iP bw n c ca la)) (g:L[a]? =some (bw,flat eW ws++rest)) (h:j≠a) (l:n=ws.length) (h0:0<n) (i:Int) {K:Int×Int×Unit->A2->Prop}
 (k: ∀b,aJ D G w0 b (L.set j (bm,iP bw n c (qo ws i ca) la))->K (dJ ws i,zM ws i,()) b):
 aD Ab 37 (.bu [.one (.int .u64),.one (.int .i64)]) [ag (ae bm),aa i] w K:=by
 refine aD.go H λw1 H=>ai (C:=M0) (aT:=λ_=>[]) (Ae (DK _ i w1 K) ?_);refine sY H j d l h0 i (λhi b H=>?_) (λhi b H=>?_)
 ·unfold qo dJ zM at k;rw[hi,az rfl,az rfl,az rfl] at k;have o:(L.set j (bm,iP bw n c (aB .i64 ca 1) la))[a]? =some (bw,flat eW ws++rest):=by rw[CV h];exact g
  have p:=gF.1 hi;refine an rfl ⟨rfl,?_⟩;rw[aR];have e:=Yc (ws:=ws) (rest:=rest) (i:=i.toNat) (by omega);rw[Hb] at e;exact aj.at a H o e (ao.go H λf H=>k f H)
 ·unfold qo dJ zM at k;rw[hi,au (by decide),au (by decide),au (by decide)] at k;refine aF rfl (ao.go H λf H=>k f ?_);rw[show L.set j (bm,iP bw n c ca la)=L from Fs λm=>by
   by_cases e:j=m
   ·subst e;rw[E5 (Bs.1 d).1,d]
   ·rw[CV e]]
  exact H
theorem WC {i:Nat} (hi:i<ws.length) (v:Int):(flat eW ws++rest).set i (ay v)=flat eW (ws.set i v)++rest:=by
 have h:=yE eW ws i v rest hi;have a:(cellsOf eW v)=[ay v]:=rfl;have b:aG eW=1:=rfl;rw[a,b,Hb] at h;rw[<-h];have c:(flat eW ws).length=ws.length*1:=aI eW ws;rw[M4,az (by rw[Bz];omega)];rfl
theorem uO (H:aJ D G w0 w L) (j a:Nat) (f:L[j]? =some (bm,iP bw n c ca la)) (g:L[a]? =some (bw,flat eW ws++rest)) (b:j≠a) (p:n=ws.length) (h0:0<n) (i v:Int) {K:Int->A2->Prop}
 (k: ∀d,aJ D G w0 d ((L.set j (bm,iP bw n c (qo ws i ca) (qo ws i la))).set a (bw,flat eW (dK ws i v)++rest))->K (zM ws i) d):
 aD Ab 38 (.el (.one (.int .i64))) [ag (ae bm),aa i,ay v] w K:=by
 refine aD.go H λw1 H=>ai (C:=M0) (aT:=λ_=>[]) (Ae (Kq _ i v w1 K) ?_);have r:j<L.length:=(Bs.1 f).1;have y:a<L.length:=(Bs.1 g).1;refine sY H j f p h0 i (λhi d H=>?_) (λhi d H=>?_)
 ·unfold qo dK zM at k;rw[hi,az rfl,az rfl,az rfl,az rfl] at k;have s:(L.set j (bm,iP bw n c (aB .i64 ca 1) la))[a]? =some (bw,flat eW ws++rest):=by rw[CV b];exact g
  have z:=gF.1 hi;have t:i.toNat<ws.length:=by omega
  have A:(flat eW ws).length=ws.length*1:=aI eW ws;refine aF rfl ⟨rfl,aC.fb a H s rfl (by rw[Nat.blt_eq,Bz];omega) λl H=>?_⟩;rw[Bx,WC t] at H;have o:((L.set j (bm,iP bw n c (aB .i64 ca 1) la)).set a (bw,flat eW (ws.set i.toNat v)++rest))[j]? =some (bm,iP bw n c (aB .i64 ca 1) la):=by
   rw[CV (λe=>b e.symm),E5 r]
  refine⟨rfl,rfl,aj.bP j H o rfl ⟨rfl,rfl,aC.fb j H o rfl rfl λB H=>ao.go H λu H=>k u ?_⟩⟩;rw[List.set_comm _ _ b,JS] at H;rw[List.set_comm _ _ b];exact H
 ·unfold qo dK zM at k;rw[hi,au (by decide),au (by decide),au (by decide),au (by decide)] at k;refine an rfl (ao.go H λl H=>k l ?_);have s1: ∀{m:Nat} {x:Nat×List Ad},L[m]? =some x->L.set m x=L:=λ{m x} h=>Fs λq=>by
   by_cases e:m=q
   ·subst e;rw[E5 (Bs.1 h).1,h]
   ·rw[CV e]
  rw[s1 f,s1 g];exact H
theorem wY (H:aJ D G w0 w L) (b:1<=n/\n<=65536) {K:Option AC×Int×Unit->A2->Prop}
 (k: ∀bm bw w1,aJ D G w0 w1 ((bm,iP bw n n 0 0)::(bw,flat eW (EW n 0)++[])::L)->K (some ⟨bm,0,none⟩,0,()) w1):
 aD Ab 33 (.bu [.one .ptr,.one (.int .i64)]) [aa (n:Int)] w K:=by
 refine aD.go H λw1 H=>ai (C:=M0) (aT:=λ_=>[]) (Ae (Uj _ w1 K) ?_);refine an (by rw[decide_eq_false (by omega),decide_eq_false (by omega)];rfl) (E7.go H rfl (by omega) (by omega) (by omega) (by omega) λbw c H=>aK.go H λbm d H=>ao.go H λa H=>k bm bw a ?_);rw[gq,H6];exact H
end
abbrev sR:List Sc:=[.int .u64,.bool,.int .i64]
abbrev RT:Type:=Int×Bool×Int×Unit
abbrev sA:List Sc:=[.int .i64,.int .i64,.int .u64,.int .u64]
abbrev sF:List Sc:=[.int .i64,.int .i64,.int .i64,.int .i64]
noncomputable def M1:dj Ab:={M0 with quiet:=[58,24]}
noncomputable def M2:dj Ab:={M1 with ZF:=some (.el (.agg sR))}
noncomputable def M3:dj Ab:={M1 with ZF:=some (.bu [])}
theorem PY (k i a b:Int) (m:Option AC) (w:A2) (d:RT->A2->Prop):(bQ M1 (λ_=>[]) 89 [.agg ⟨[aa k,aa i,ay a,ay b]⟩,ag m] w d)=(
 aK w ⟨[aa k,aa i,ay a,ay b]⟩ 191 λb c=>aK c ⟨[ay 0,.bool false,aa 0]⟩ 124 λe c=>true=true/\aU c (ad (ae b) 1) λx=>aD Ab 37 (.bu [.one (.int .u64),.one (.int .i64)]) [ag m,aa x] c λ(x:Int×Int×Unit) c=>aC c (ae e) [ay x.1,.bool false,aa x.2.1] λc=>ao c λw1=>aj w1 none (ae e) (.agg [.int .u64,.bool,.int .i64]) λ(x:Int×Bool×Int×Unit)=>d (x.1,x.2.1,x.2.2.1,()) w1):=by kernel_rfl
abbrev DL (a:RT->A2->Prop) (b:A2) (c:Nat):Prop:=
 ao b λw1=>aj w1 none (ae c) (.agg [.int .u64,.bool,.int .i64]) λ(x:Int×Bool×Int×Unit)=>a (x.1,x.2.1,x.2.2.1,()) w1
theorem WE (m:Option AC) (k i a b:Int) (w:A2) (f:RT->A2->Prop):(bQ M2 (λ_=>[]) 57 [ag m,.agg ⟨[aa k,aa i,ay a,ay b]⟩] w f)=(
 aK w ⟨[aa k,aa i,ay a,ay b]⟩ 127 λb c=>aK c ⟨[ay 0,.bool false,aa 0]⟩ 124 λe c=> ∀w1,Ext c w1-> ∀g,Ext (w1.alloc (Obj.map ⟨[]⟩ 0)) g-> ∃(r:Nat), ∃(es:Array B5), ∃(d:Nat),some w1.heap.size=some r/\bE g r es d/\gS g r .i64 1 (.func (.func 89) ⟨[]⟩ ⟨[]⟩) es d λc=> ∀h,Ext c h-> ∃(r:Nat), ∃(es:Array B5), ∃(d:Nat),some w1.heap.size=some r/\bE h r es d/\gS h r .i64 2 (.func (.func 90) ⟨[]⟩ ⟨[]⟩) es d λc=> ∀j,Ext c j->
 ∃(r:Nat), ∃(es:Array B5), ∃(d:Nat),some w1.heap.size=some r/\bE j r es d/\gS j r .i64 3 (.func (.func 91) ⟨[]⟩ ⟨[]⟩) es d λc=> ∀l,Ext c l-> ∃(r:Nat), ∃(es:Array B5), ∃(d:Nat),some w1.heap.size=some r/\bE l r es d/\gS l r .i64 4 (.func (.func 92) ⟨[]⟩ ⟨[]⟩) es d λc=>true=true/\aU c (ad (ae b) 0) λx=> ∃(n:Ad), ∃(o:Bool),mg c (some w1.heap.size) .i64 x Nk n o/\aL (!o) (aC c (ae e) [ay 0,.bool false,aa 1] λc=>DL
 f c e) (aj c none (ae b) (.agg [.int .i64,.int .i64,.int .u64,.int .u64]) λ(x:Int×Int×Int×Int×Unit)=>wR Ab n (.el (.agg [.int .u64,.bool,.int .i64])) [.agg ⟨[aa x.1,aa x.2.1,ay x.2.2.1,ay x.2.2.2.1]⟩,ag m] c λ(x:Int×Bool×Int×Unit) c=>aC c (ae e) [ay x.1,.bool x.2.1,aa x.2.2.1] λc=>DL f c e)):=by kernel_rfl
theorem Uk (f p t:Int) (w:A2) (a:Option AC->A2->Prop):(aN M1 (λ_=>[]) 20 [aa f,aa p,aa t] w a)=(
 aK w {toList:=[aa f,aa p,aa t,aa 3,aa 0,aa 0,aa 0,aa 0,.slice none 0 0,.bool true]} 117 λb c=>True/\aL (decide (dY f p (3:Int)<0)||decide (t<0)||decide (t>7)) (ao c (a none)) (ao c (a (ae b)))):=by kernel_rfl
abbrev vL (a:Int×Int×Int×Int×Unit->A2->Prop) (b:A2) (c:Nat):Prop:=
 ao b λw1=>aj w1 none (ae c) (.agg [.int .i64,.int .i64,.int .u64,.int .u64]) λ(x:Int×Int×Int×Int×Unit)=>a (x.1,x.2.1,x.2.2.1,x.2.2.2.1,()) w1
theorem PZ (p:Option AC) (w:A2) (c:(Int×Int×Int×Int×Unit)->A2->Prop):(bQ M1 (λ_=>[]) 58 [ag p] w c)=(
 aK w ⟨[aa 0,aa 0,ay 0,ay 0]⟩ 127 λb a=>((!p.isNone)=true->p.isSome=true)/\((!p.isNone)=true->p.isSome=true)/\aj a (some !p.isNone) (ad p 9) oI λx=>((!(p.isNone|| !x))=true->p.isSome=true)/\((!(p.isNone|| !x))=true->p.isSome=true)/\aj a (some !(p.isNone|| !x)) (ad p 3) aV λ(d:Int)=>aL (p.isNone|| !x||d== -1) (aC a (ae b) [aa 0,aa 0,ay 0,ay 0] λa=>vL c a b) (cv p 0 a λx=>cv p 1 a λe=>cv p 3 a λf=>True/\aC a (ae b)
 [aa 1,aa (dY x e f),ay 0,ay 0] λa=>vL c a b)):=by kernel_rfl
theorem Ul (p:Option AC) (a b c d:Int) (w:A2) (f:Unit->A2->Prop):(aN M1 (λ_=>[]) 60 [ag p,.agg ⟨[aa a,aa b,aa c,aa d]⟩] w f)=(
 aK w ⟨[aa a,aa b,aa c,aa d]⟩ 48 λb e=>cv p 3 e λx=>true=true/\aC e (ad (ae b) 2) [aa x] λe=>aj e none (ae b) dO λ(x:Int×Int×Int×Int×Unit)=>p.isSome=true/\p.isSome=true/\aC e (ad p 4) [aa x.1,aa x.2.1,aa x.2.2.1,aa x.2.2.2.1] λe=>p.isSome=true/\p.isSome=true/\aC e (ad p 3) [aa (-1)] λe=>ao e (f ())):=by kernel_rfl
theorem YX (p:Option AC) (fr:Int) (ep:Bool) (er:Int) (el:Bool) (ef:Int) (w:A2) (c:Unit->A2->Prop):(aN M1 (λ_=>[]) 99 [ag p,aa fr,.agg ⟨[.bool ep,aa er,.bool el,aa ef]⟩] w c)=(
 aK w ⟨[.bool ep,aa er,.bool el,aa ef]⟩ 130 λb a=>aL (decide (fr>=4096)) (aD Ab 60 (.bu []) [ag p,.agg ⟨[aa 0,aa 0,aa 0,aa 11]⟩] a λx a=>ao a (c ())) (aj a none (ae b) jX λ(x:Bool×Int×Bool×Int×Unit)=>cv p 2 a λd=>True/\aL (!gE x.1 x.2.1 x.2.2.1 x.2.2.2.1 d) (true=true/\aU a (ad (ae b) 1) λx=>aD Ab 60 (.bu []) [ag p,.agg ⟨[aa fr,aa x,aa 0,aa 7]⟩] a λx a=>ao a (c ())) (true=true/\aU
 a (ad (ae b) 1) λx=>aD Ab 60 (.bu []) [ag p,.agg ⟨[aa fr,aa x,aa 0,aa 0]⟩] a λx a=>ao a (c ())))):=by kernel_rfl
theorem P0 (a:Option AC) (w:A2) (b:Unit->A2->Prop):(aN M1 (λ_=>[]) 95 [ag a] w b)=(
 fR w a λx=>aD Ab 60 (.bu []) [ag x,.agg ⟨[aa 0,aa 0,aa 0,aa 4]⟩] w λx c=>ao c (b ())):=by kernel_rfl
theorem P1 (d a:Option AC) (w:A2) (e:Unit->A2->Prop):(aN M1 (λ_=>[]) 97 [ag d,ag a] w e)=(
 fR w a λx=>fR w a λb=>d.isSome=true/\aU w (ad d 3) λf=>fR w a λg=>cv g 3 w λh=>x.isSome=true/\x.isSome=true/\aC w (ad x 0) [aa f] λc=>True/\cP c a kQ b/\b.isSome=true/\b.isSome=true/\aC c (ad b 3) [aa (aY .i64 h 1)] λc=>ao c (e ())):=by kernel_rfl
theorem P2 (c a:Option AC) (w:A2) (Post:Unit->A2->Prop):(aN M1 (λ_=>[]) 98 [ag c,ag a] w Post)=(
 aj w none c (.one .ptr) λx=>a.isSome=true/\aj w none (ad a 3) (.one (.int .i64)) λ(e:Int)=>aj w none c (.one .ptr) λd=>d.isSome=true/\d.isSome=true/\aj w none (ad d 1) (.one (.int .i64)) λ(f:Int)=>True/\gK 1≠0/\aj w none a (.agg [.bool,.int .i64,.bool,.int .i64]) λ(b:Bool×Int×Bool×Int×Unit)=>aD Ab 99 (.bu []) [ag x,aa (aB .i64 e (bH f (gK 1))),.agg ⟨[.bool b.1,aa b.2.1,.bool b.2.2.1,aa b.2.2.2.1]⟩] w λx g=>ao g λw1=>Post () w1)
 :=by kernel_rfl
theorem P3 (c a:Option AC) (w:A2) (d:Unit->A2->Prop):(aN M1 (λ_=>[]) 101 [ag c,ag a] w d)=(
 fR w c λx=>a.isSome=true/\aU w (ad a 3) λe=>aj w none a jX λ(b:Bool×Int×Bool×Int×Unit)=>aD Ab 99 (.bu []) [ag x,aa e,.agg ⟨[.bool b.1,aa b.2.1,.bool b.2.2.1,aa b.2.2.2.1]⟩] w λx f=>ao f (d ())):=by kernel_rfl
theorem P4 (a:Option AC) (w:A2) (b:Unit->A2->Prop):(aN M1 (λ_=>[]) 102 [ag a] w b)=(
 fR w a λx=>aD Ab 60 (.bu []) [ag x,.agg ⟨[aa 0,aa 0,aa 0,aa 11]⟩] w λx c=>ao c (b ())):=by kernel_rfl
def vM:Nat->aZ:=(λ|3=>[(56,Go.RX.El.one (Go.RX.Sc.int B2))]| _=>[])
theorem Um (p:Option AC) (ep:Bool) (er:Int) (el:Bool) (ef:Int) (w:A2) (h:Unit->A2->Prop):(aN M3 vM 61 [ag p,.agg ⟨[.bool ep,aa er,.bool el,aa ef]⟩] w h)=(
 aK w ⟨[ag p]⟩ 40 λb a=>aK a ⟨[.bool ep,aa er,.bool el,aa ef]⟩ 130 λd a=>true=true/\uu a (ad (ae d) 0) λx=>aj a none (ae d) jX λ(c:Bool×Int×Bool×Int×Unit)=>True/\aj a (some (fH c.1 c.2.1 c.2.2.1 c.2.2.2.1)) (ae b) kQ λi=>(fH c.1 c.2.1 c.2.2.1 c.2.2.2.1=true->i.isSome=true)/\(fH c.1 c.2.1 c.2.2.1 c.2.2.2.1=true->i.isSome=true)/\aj a (some (fH c.1 c.2.1 c.2.2.1 c.2.2.2.1)) (ad i 3) aV λ(o:Int)=>true=true/\uu a (ad
 (ae d) 2) λf=>aj a (some f) (ae b) kQ λj=>(f=true->j.isSome=true)/\(f=true->j.isSome=true)/\aj a (some f) (ad j 3) aV λ(q:Int)=>true=true/\uu a (ad (ae d) 2) λe=>((!e)=true->true=true)/\aj a (some !e) (ad (ae d) 1) aV λ(g:Int)=>aj a (some (!e&&decide (g>0))) (ae b) kQ λk=>((!e&&decide (g>0))=true->k.isSome=true)/\((!e&&decide (g>0))=true->k.isSome=true)/\aj a (some (!e&&decide (g>0))) (ad k 3) aV λ(r:Int)=>
 aK a {toList:=[.bool !x,.func (.func 95) ⟨[]⟩ {toList:=[ag (ae b)]},.bool (fH c.1 c.2.1 c.2.2.1 c.2.2.2.1&&decide (o>0)),.func (.func 97) ⟨[]⟩ {toList:=[ag (ae d),ag (ae b)]},.bool (f&&q==1),.func (.func 98) ⟨[]⟩ {toList:=[ag (ae b),ag (ae d)]},.bool (!e&&decide (g>0)&&r==0),.func (.func 101) ⟨[]⟩ {toList:=[ag (ae b),ag (ae d)]},.bool true,.func (.func 102) ⟨[]⟩ {toList:=[ag (ae b)]}]} 197 λb a=> ∃(I:Nat->Int×Unit->A2->Prop),(∃n, ∀w1,
 Ext a w1->I n (0,()) w1)/\ ∀(n:Nat) (s:Int×Unit) (w1:A2),I n s w1->aL (decide (s.1<(↑5:Int))) ((true=true/\0<=s.1/\s.1<(↑5:Int))/\aj w1 none (ad (ae b) (B4 s.1*2)) (.agg [.bool,.func]) λx=>aK w1 ⟨[.bool false,Nk]⟩ 197 λb a=>aC a (ae b) [.bool x.1,x.2.1] λa=>true=true/\uu a (ad (ae b) 0) λx=>aL x (true=true/\aj a none (ad (ae b) 1) (.one .func) λx=>wR Ab x (.bu []) [] a λx a=>ao a (h ())) (∀l,Ext a l-> ∃(m:Nat),m<n/\I m (aB .i64 s.1 1,
 ()) l)) (ao w1 (h ()))):=by kernel_rfl
theorem P5 (p m:Option AC) (w:A2) (c:Bool->A2->Prop):(aN M1 (λ_=>[]) 22 [ag p,ag m] w c)=(
 ((!p.isNone)=true->p.isSome=true)/\((!p.isNone)=true->p.isSome=true)/\aj w (some !p.isNone) (ad p 9) oI λx=>aL (p.isNone|| !x) (ao w (c false)) (cv p 3 w λx=>aL (x== -1) (ao w (c true)) (∃(x:Int×Int×Int×Int×Unit),ah Ab 58 [ag p] w (.agg ⟨[aa x.1,aa x.2.1,ay x.2.2.1,ay x.2.2.2.1]⟩)/\aD Ab 57 (.el (.agg [.int .u64,.bool,.int .i64])) [ag m,.agg ⟨[aa x.1,aa x.2.1,ay x.2.2.1,ay x.2.2.2.1]⟩] w λ(x:Int×Bool×Int×Unit) a=>aK a ⟨[.int .u64
 0,.bool false,aa 0]⟩ 124 λb a=>aC a (ae b) [ay x.1,.bool x.2.1,aa x.2.2.1] λa=>fC p 8 a λx=>cv p 0 a λe=>aK a ⟨[aa e]⟩ 3 λf a=> ∀w1,Ext a w1->m7 w1 3 1 8 ⟨[aa 0]⟩ (x.1,x.2.1,x.2.2) (some ⟨f,0,none⟩,1,1) λ(r:Option AC×Nat×Nat) a=>p.isSome=true/\p.isSome=true/\aC a (ad p 8) [.slice r.1 r.2.1 r.2.2] λa=>true=true/\cB a (ad (ae b) 0) λx=>U (B x)=x/\aK a ⟨[.bool false,aa 0,.bool false,aa 0]⟩ 130 λd a=>aC a (ae d) [.bool (Hs
 (B x).toNat),aa (Fc (B x).toNat),.bool (Jx (B x).toNat),aa (ES (B x).toNat)] λa=>((!!ua (B x).toNat)=true->true=true)/\aj a (some !!ua (B x).toNat) (ad (ae b) 2) aV λ(g:Int)=>aL (!ua (B x).toNat||g != 0) (aD Ab 60 (.bu []) [ag p,.agg ⟨[aa 0,aa 0,aa 0,aa 11]⟩] a λx a=>ao a (c true)) (aj a none (ae d) jX λ(x:Bool×Int×Bool×Int×Unit)=>aD Ab 61 (.bu []) [ag p,.agg ⟨[.bool x.1,aa x.2.1,.bool x.2.2.1,aa x.2.2.2.1]⟩] a λx a=>
 cv p 3 a λx=>ao a (c (x== -1)))))):=by kernel_rfl
theorem Un (p:Option AC) (w:A2) (c:(Int×Int×Int×Int×Unit)×Bool×Unit->A2->Prop):(bQ M1 (λ_=>[]) 24 [ag p] w c)=(
 aK w ⟨[aa 0,aa 0,aa 0,aa 0]⟩ 48 λb a=>((!p.isNone)=true->p.isSome=true)/\((!p.isNone)=true->p.isSome=true)/\aj a (some !p.isNone) (ad p 9) oI λx=>((!(p.isNone|| !x))=true->p.isSome=true)/\((!(p.isNone|| !x))=true->p.isSome=true)/\aj a (some !(p.isNone|| !x)) (ad p 3) aV λ(d:Int)=>aL (p.isNone|| !x||d != -1) (aC a (ae b) [aa 0,aa 0,aa 0,aa 0] λa=>ao a λw1=>aj w1 none (ae b) dO λ(x:Int×Int×Int×Int×Unit)=>c ((x.1,x.2.1,x.2.2.1,
 x.2.2.2.1,()),false,()) w1) (p.isSome=true/\p.isSome=true/\aj a none (ad p 4) dO λ(x:Int×Int×Int×Int×Unit)=>aC a (ae b) [aa x.1,aa x.2.1,aa x.2.2.1,aa x.2.2.2.1] λa=>ao a λw1=>aj w1 none (ae b) dO λ(x:Int×Int×Int×Int×Unit)=>c ((x.1,x.2.1,x.2.2.1,x.2.2.2.1,()),true,()) w1)):=by kernel_rfl
def vN:Nat->aZ:=(λ|4=>[]| _=>[])
theorem Uo (m:Option AC) (f p t:Int) (w:A2) (c:(Int×Int×Int×Int×Unit)->A2->Prop):(bQ M1 vN 223 [ag m,aa f,aa p,aa t] w c)=(
 aK w ⟨[aa 0,aa 0,aa 0,aa 0]⟩ 48 λb a=>aD Ab 20 (.el kQ) [aa f,aa p,aa t] a λx a=>aL x.isNone (aC a (ae b) [aa 0,aa 0,aa 0,aa 1] λa=>ao a λw1=>aj w1 none (ae b) dO λ(x:Int×Int×Int×Int×Unit)=>c (x.1,x.2.1,x.2.2.1,x.2.2.2.1,()) w1) (∃(I:Nat->Unit->A2->Prop),(∃n, ∀w1,Ext a w1->I n () w1)/\ ∀(n:Nat) (s:Unit) (w1:A2),I n s w1->aD Ab 22 (.el oI) [ag x,ag m] w1 λg a=>aL (!g) (∀
 d,Ext a d-> ∃(e:Nat),e<n/\I e () d) (x.isSome=true/\x.isSome=true/\aj a none (ad x 4) dO λ(x:Int×Int×Int×Int×Unit)=>aC a (ae b) [aa x.1,aa x.2.1,aa x.2.2.1,aa x.2.2.2.1] λa=>ao a λw1=>aj w1 none (ae b) dO λ(x:Int×Int×Int×Int×Unit)=>c (x.1,x.2.1,x.2.2.1,x.2.2.2.1,()) w1))):=by kernel_rfl
abbrev FT:Type:=Int×Int×Int×Int×Unit
abbrev lF (fr pg wt lv:Int) (fd:FT) (s:Option AC×Nat×Nat):List Ad:=
 [aa fr,aa pg,aa wt,aa lv,aa fd.1,aa fd.2.1,aa fd.2.2.1,aa fd.2.2.2.1,.slice s.1 s.2.1 s.2.2,.bool true]
def wI (lv e:Int):FT:=(0,0,lv,e,())
def xD (lv wt fr:Int) (ep:Bool) (er:Int) (el:Bool) (ef:Int):FT:=if fr>=4096 then(0,0,lv,11,()) else if gE ep er el ef wt then(fr,er,lv,0,()) else(fr,er,lv,7,())
theorem wZ {w:A2} {r:Nat} {k:IntKind} {n:Int} {val:Ad} {es:Array B5} {a:Nat} {K:A2->Prop} (h:Fw (.int k) (.int k n) es.toList 0=some none)
 (b:K (w.putObj r (.map (es.push {key:= .int k n,val,born:=a}) (a+1)))):gS w r k n val es a K:=by
 unfold gS;rw[h];exact b
section
variable {D G:List Nat} {w0 w:A2} {L:List (Nat×List Ad)} {bm bw n c:Nat} {ca la:Int} {ws:List Int} {rest:List Ad}
theorem P6 (H:aJ D G w0 w L) (j d:Nat) (f:L[j]? =some (bm,iP bw n c ca la)) (g:L[d]? =some (bw,flat eW ws++rest)) (m:j≠d) (h:n=ws.length) (h0:0<n) (kd i a b:Int) {K:RT->A2->Prop}
 (k: ∀e,aJ D G w0 e (L.set j (bm,iP bw n c (qo ws i ca) la))->K (dJ ws i,false,zM ws i,()) e):
 aE Ab 89 (.el (.agg sR)) [.agg ⟨[aa kd,aa i,ay a,ay b]⟩,ag (ae bm)] w K:=by
 refine aQ (C:=M1) (aT:=λ_=>[]) (Ae (PY kd i a b _ w K) ?_);refine aK.go H λo e H=>aK.go H λp q H=>⟨rfl,aj.bP 1 H rfl rfl ?_⟩;refine sZ H (j+2) (d+2) f g (by omega) h h0 i λr H=>?_;refine aC.all 0 H rfl rfl rfl λs H=>ao.go H λl H=>aj.at 0 H rfl rfl (k l ?_);exact(H.sub (BL _ _)).sub (BL _ _)
theorem ml (H:aJ D G w0 w L) {r:Nat} {es:Array B5} {a:Nat} (f:w0.heap.size<=r) (g:r∉D) (b:bE w r es a) {n:Int} {val:Ad} {K:A2->Prop} (h:Fw (.int .i64) (aa n) es.toList 0=some none)
 (k: ∀c,aJ D G w0 c L->bE c r (es.push {key:=aa n,val,born:=a}) (a+1)->K c):
 ∃r' d e,some r=some r'/\bE w r' d e/\gS w r' .i64 n val d e K:=
 ⟨r,es,a,rfl,b,wZ h (k _ (H.putObj f b (λ_ _ _ hc=>by cases hc) g) (jV (DB.1 b).1))⟩
theorem WG (H:aJ D G w0 w L) (q:D=[]) (j f:Nat) (r:L[j]? =some (bm,iP bw n c ca la)) (s:L[f]? =some (bw,flat eW ws++rest)) (E:j≠f) (t:n=ws.length) (h0:0<n) (i a b:Int) {K:RT->A2->Prop}
 (k: ∀g,aJ D G w0 g (L.set j (bm,iP bw n c (qo ws i ca) la))->K (dJ ws i,false,zM ws i,()) g):
 aD Ab 57 (.el (.agg sR)) [ag (ae bm),.agg ⟨[aa 1,aa i,ay a,ay b]⟩] w K:=by
 subst q;refine aD.go H λw1 H=>aQ (C:=M2) (aT:=λ_=>[]) (Ae (WE _ 1 i a b w1 K) ?_);refine aK.go H λF g H=>aK.go H λI J H=>λd h u l=>?_;have H:=(((H.ext h).o7 (.map ⟨[]⟩ 0)).ext l);have e:w0.heap.size<=d.heap.size:=by have:=(aJ.ext (w1:=d) (by assumption) h:aJ [] G w0 d _).fr.size;exact this
 have m0:bE u d.heap.size ⟨[]⟩ 0:=l.obj (eO d _);refine ml H e (by simp) m0 rfl λM H v N m=>?_;refine ml (H.ext m) e (by simp) (m.obj v) rfl λO H x P o=>?_;refine ml (H.ext o) e (by simp) (o.obj x) rfl λQ H y R p=>?_;refine ml (H.ext p) e (by simp) (p.obj y) rfl λS H z=>?_;refine⟨rfl,aj.bP 1 H rfl rfl ⟨.func (.func 89) #[] #[],true,⟨_, _, _,rfl,z,?_⟩,an rfl (aj.at 1 H rfl rfl ?_)⟩⟩
 ·exact⟨rfl,rfl⟩
 ·unfold wR;refine λT A=>⟨_, #[], #[],rfl,by kernel_rfl,?_⟩;refine P6 (H.ext A) (j+2) (f+2) r s (by omega) t h0 1 i a b λU H=>?_;refine aC.all 0 H rfl rfl rfl λV H=>ao.go H λB H=>aj.at 0 H rfl rfl (k B ?_);exact(H.sub (BL _ _)).sub (BL _ _)
end
section
variable {D G:List Nat} {w0 w:A2} {L:List (Nat×List Ad)} {bk:Nat} {fr pg wt lv:Int} {fd:FT} {s:Option AC×Nat×Nat}
theorem pT (H:aJ D G w0 w L) (j:Nat) (d:L[j]? =some (bk,lF fr pg wt lv fd s)) (x1 a f c:Int) {K:Unit->A2->Prop}
 (k: ∀g,aJ D G w0 g (L.set j (bk,lF fr pg wt (-1) (x1,a,lv,c,()) s))->K () g):
 aD Ab 60 (.bu []) [ag (ae bk),.agg ⟨[aa x1,aa a,aa f,aa c]⟩] w K:=by
 refine aD.go H λw1 H=>ai (C:=M1) (aT:=λ_=>[]) (Ae (Ul _ x1 a f c w1 K) ?_);have h:j<L.length:=(Bs.1 d).1;refine aK.go H λb g H=>?_;have i:((b,[aa x1,aa a,aa f,aa c])::L)[j+1]? =some (bk,lF fr pg wt lv fd s):=d;refine⟨rfl,rfl,aj.bP (j+1) H i rfl ⟨rfl,aC.fb 0 H rfl rfl rfl λm H=>aj.at 0 H rfl rfl ⟨rfl,rfl,?_⟩⟩⟩;rw[aR,aR];refine aC.at (j+1) H d rfl (Nat.le_of_ble_eq_true rfl) λn H=>⟨rfl,rfl,?_⟩;refine aC.one (j+1) H (E5 (Nat.succ_lt_succ h)) rfl rfl λo H=>ao.go H λl H=>k l ?_;have H:=H.sub (BL _ _);have e:(L.set j (bk,lF fr pg wt lv (x1,a,lv,c,()) s)).set j (bk,lF fr pg wt (-1) (x1,a,lv,c,()) s)=L.set j (bk,lF fr pg wt (-1) (x1,a,lv,c,()) s):=JS ..;rw[<-e];exact H
theorem Oz (H:aJ D G w0 w L) (j:Nat) (i:L[j]? =some (bk,lF fr pg wt lv fd s)) (f:Int) (ep:Bool) (er:Int) (el:Bool) (ef:Int) {K:Unit->A2->Prop}
 (k: ∀g,aJ D G w0 g (L.set j (bk,lF fr pg wt (-1) (xD lv wt f ep er el ef) s))->K () g):
 aD Ab 99 (.bu []) [ag (ae bk),aa f,.agg ⟨[.bool ep,aa er,.bool el,aa ef]⟩] w K:=by
 refine aD.go H λw1 H=>ai (C:=M1) (aT:=λ_=>[]) (Ae (YX _ f ep er el ef w1 K) ?_);refine aK.go H λb g H=>?_;have d:((b,[B3 ep,aa er,.bool el,aa ef])::L)[j+1]? =some (bk,lF fr pg wt lv fd s):=i;refine ab (λc=>?_) (λc=>aj.at 0 H rfl rfl ⟨rfl,rfl,aj.bP (j+1) H d rfl ⟨trivial,ab (λc2=>?_) (λc2=>?_)⟩⟩)
 ·refine pT H (j+1) d 0 0 0 11 λh H=>ao.go H λa H=>k a ?_;have e:xD lv wt f ep er el ef=(0,0,lv,11,()):=az (of_decide_eq_true c);rw[e];exact H.sub (BL _ _)
 ·refine⟨rfl,aj.bP 0 H rfl rfl (pT H (j+1) d f er 0 7 λh H=>ao.go H λa H=>k a ?_)⟩;have e:xD lv wt f ep er el ef=(f,er,lv,7,()):=by
   have c3:gE ep er el ef wt=false:=by simpa using c2
   unfold xD;rw[au (of_decide_eq_false c),c3];rfl
  rw[e];exact H.sub (BL _ _)
 ·refine⟨rfl,aj.bP 0 H rfl rfl (pT H (j+1) d f er 0 0 λh H=>ao.go H λa H=>k a ?_)⟩;have e:xD lv wt f ep er el ef=(f,er,lv,0,()):=by
   have c3:gE ep er el ef wt=true:=by simpa using c2
   unfold xD;rw[au (of_decide_eq_false c),az c3]
  rw[e];exact H.sub (BL _ _)
end
def tookS (fr pg wt lv:Int) (fd:FT) (ep:Bool) (er:Int) (el:Bool) (ef:Int):Int×Int×FT:=
 if(!ep)=true then(fr,-1,wI lv 4)
 else if(fH ep er el ef&&decide (lv>0))=true then(ef,aY .i64 lv 1,fd)
 else if(el&&lv==1)=true then(fr,-1,xD lv wt (aB .i64 ef (bH pg 16)) ep er el ef)
 else if(!el&&decide (er>0)&&lv==0)=true then(fr,-1,xD lv wt ef ep er el ef)
 else(fr,-1,wI lv 11)
section
variable {D G:List Nat} {w0 w:A2} {L:List (Nat×List Ad)} {bk bp be:Nat} {fr pg wt lv:Int} {fd:FT} {s:Option AC×Nat×Nat} {ep:Bool} {er:Int} {el:Bool} {ef:Int}
theorem P7 (H:aJ D G w0 w L) (a j:Nat) (c:L[a]? =some (bp,[ag (ae bk)])) (d:L[j]? =some (bk,lF fr pg wt lv fd s)) {K:Unit->A2->Prop}
 (k: ∀b,aJ D G w0 b (L.set j (bk,lF fr pg wt (-1) (wI lv 4) s))->K () b):aE Ab 95 (.bu []) [ag (ae bp)] w K:=by
 refine ai (C:=M1) (aT:=λ_=>[]) (Ae (P0 _ w K) ?_);exact aj.at a H c rfl (pT H j d 0 0 0 4 λf H=>ao.go H λe H=>k e H)
theorem P8 (H:aJ D G w0 w L) (a j:Nat) (c:L[a]? =some (bp,[ag (ae bk)])) (d:L[j]? =some (bk,lF fr pg wt lv fd s)) {K:Unit->A2->Prop}
 (k: ∀b,aJ D G w0 b (L.set j (bk,lF fr pg wt (-1) (wI lv 11) s))->K () b):aE Ab 102 (.bu []) [ag (ae bp)] w K:=by
 refine ai (C:=M1) (aT:=λ_=>[]) (Ae (P4 _ w K) ?_);exact aj.at a H c rfl (pT H j d 0 0 0 11 λf H=>ao.go H λe H=>k e H)
theorem P9 (H:aJ D G w0 w L) (e a j:Nat) (f:L[e]? =some (be,[.bool ep,aa er,.bool el,aa ef])) (b:L[a]? =some (bp,[ag (ae bk)])) (c:L[j]? =some (bk,lF fr pg wt lv fd s)) (g:j≠a) {K:Unit->A2->Prop}
 (k: ∀d,aJ D G w0 d (L.set j (bk,lF ef pg wt (aY .i64 lv 1) fd s))->K () d):aE Ab 97 (.bu []) [ag (ae be),ag (ae bp)] w K:=by
 refine ai (C:=M1) (aT:=λ_=>[]) (Ae (P1 _ _ w K) ?_);have h:j<L.length:=(Bs.1 c).1;refine aj.at a H b rfl (aj.at a H b rfl ⟨rfl,aj.bP e H f rfl (aj.at a H b rfl ⟨rfl,rfl,aj.bP j H c rfl ⟨rfl,rfl,?_⟩⟩)⟩);refine aC.fb j H c rfl rfl λd H=>⟨trivial,?_,rfl,rfl,?_⟩
 ·exact dI (H.get (i:=a) (by rw[CV g];exact b)) rfl
 ·refine aC.fb j H (E5 h) rfl rfl λm H=>ao.go H λl H=>k l ?_;rw[JS] at H;exact H
theorem P_ (H:aJ D G w0 w L) (a b j:Nat) (c:L[a]? =some (be,[.bool ep,aa er,.bool el,aa ef])) (d:L[b]? =some (bp,[ag (ae bk)])) (e:L[j]? =some (bk,lF fr pg wt lv fd s)) {K:Unit->A2->Prop}
 (k: ∀f,aJ D G w0 f (L.set j (bk,lF fr pg wt (-1) (xD lv wt (aB .i64 ef (bH pg 16)) ep er el ef) s))->K () f):aE Ab 98 (.bu []) [ag (ae bp),ag (ae be)] w K:=by
 refine ai (C:=M1) (aT:=λ_=>[]) (Ae (P2 _ _ w K) ?_);have g:gK 1=16:=rfl;rw[g];refine aj.at b H d rfl ⟨rfl,aj.bP a H c rfl (aj.at b H d rfl ⟨rfl,rfl,aj.bP j H e rfl ⟨trivial,by decide,aj.at a H c rfl ?_⟩⟩)⟩;exact Oz H j e _ ep er el ef λi H=>ao.go H λh H=>k h H
theorem Qa (H:aJ D G w0 w L) (a b j:Nat) (c:L[a]? =some (be,[.bool ep,aa er,.bool el,aa ef])) (e:L[b]? =some (bp,[ag (ae bk)])) (f:L[j]? =some (bk,lF fr pg wt lv fd s)) {K:Unit->A2->Prop}
 (k: ∀d,aJ D G w0 d (L.set j (bk,lF fr pg wt (-1) (xD lv wt ef ep er el ef) s))->K () d):aE Ab 101 (.bu []) [ag (ae bp),ag (ae be)] w K:=by
 refine ai (C:=M1) (aT:=λ_=>[]) (Ae (P3 _ _ w K) ?_);refine aj.at b H e rfl ⟨rfl,aj.bP a H c rfl (aj.at a H c rfl ?_)⟩;exact Oz H j f _ ep er el ef λh H=>ao.go H λg H=>k g H
theorem Uq (H:aJ D G w0 w L) (j:Nat) (o:L[j]? =some (bk,lF fr pg wt lv fd s)) (ep:Bool) (er:Int) (el:Bool) (ef:Int) {K:Unit->A2->Prop}
 (k: ∀E,aJ D G w0 E (L.set j (bk,lF (tookS fr pg wt lv fd ep er el ef).1 pg wt (tookS fr pg wt lv fd ep er el ef).2.1 (tookS fr pg wt lv fd ep er el ef).2.2 s))->K () E):
 aD Ab 61 (.bu []) [ag (ae bk),.agg ⟨[.bool ep,aa er,.bool el,aa ef]⟩] w K:=by
 refine aD.go H λw1 H=>ai (C:=M3) (aT:=vM) (Ae (Um _ ep er el ef w1 K) ?_);refine aK.go H λbp E H=>aK.go H λbe V H=>⟨rfl,aj.bP 0 H rfl rfl (aj.at 0 H rfl rfl ⟨trivial,aj.at 1 H rfl rfl ⟨λ_=>rfl,λ_=>rfl,aj.bP (j+2) H o rfl ⟨rfl,aj.bP 0 H rfl rfl (aj.at 1 H rfl rfl ⟨λ_=>rfl,λ_=>rfl,aj.bP (j+2) H o rfl ⟨rfl,aj.bP 0 H rfl rfl ⟨λ_=>rfl,aj.bP 0 H rfl rfl (aj.at 1 H rfl rfl ⟨λ_=>rfl,λ_=>rfl,aj.bP (j+2) H o rfl ?_⟩)⟩⟩⟩)⟩⟩⟩)⟩;refine aK.go H λbs W H=>?_;dsimp only at H ⊢;generalize J:(!ep)=c0 at H;generalize M:(fH ep er el ef&&decide (lv>0))=c1 at H;generalize N:(el&&lv==1)=c2 at H;generalize O:(!el&&decide (er>0)&&lv==0)=c3 at H;have g:tookS fr pg wt lv fd ep er el ef=if c0=true then(fr,-1,wI lv 4) else if c1=true then(ef,aY .i64 lv 1,fd) else if c2=true then(fr,-1,xD lv wt (aB .i64 ef (bH pg 16)) ep er el ef) else if c3=true then(fr,-1,xD lv wt ef ep er el ef) else(fr,-1,wI lv 11):=by
  unfold tookS;rw[J,M,N,O]
 clear J M N O;refine⟨λn s' w'=> ∃i:Nat,s'.1=i/\n+i=5/\((0<i->c0=false)/\(1<i->c1=false)/\(2<i->c2=false)/\(3<i->c3=false)/\i<5)/\aJ D G w0 w' ((bs,[.bool c0,.func (.func 95) ⟨[]⟩ ⟨[ag (ae bp)]⟩,.bool c1,.func (.func 97) ⟨[]⟩ ⟨[ag (ae be),ag (ae bp)]⟩,
  .bool c2,.func (.func 98) ⟨[]⟩ ⟨[ag (ae bp),ag (ae be)]⟩,.bool c3,.func (.func 101) ⟨[]⟩ ⟨[ag (ae bp),ag (ae be)]⟩,.bool true,.func (.func 102) ⟨[]⟩ ⟨[ag (ae bp)]⟩])::(be,[.bool ep,aa er,.bool el,aa ef])::(bp,[ag (ae bk)])::L),
  ⟨5,λS T=>⟨0,rfl,rfl,⟨λh=>absurd h (by decide),λh=>absurd h (by decide),λh=>absurd h (by decide),λh=>absurd h (by decide),by decide⟩,H.ext T⟩⟩,?_⟩
 clear H;rintro n ⟨X,u⟩ S ⟨i,hi,Y,⟨b,l,F,U,Z⟩,H⟩;simp only at hi;subst hi;dsimp only;have m: ∀{x y z q:Nat×List Ad},(x::y::z::q::L)[j+4]? =some (bk,lF fr pg wt lv fd s):=o;have fin: ∀{x y z q:Nat×List Ad} {d:A2} {P Q:Int} {R:FT},tookS fr pg wt lv fd ep er el ef=(P,Q,R)->aJ D G w0 d (x::y::z::q::L.set j (bk,lF P pg wt Q R s))->K () d:=λe H=>by
  rw[e] at k;exact k _ ((((H.sub (BL _ _)).sub (BL _ _)).sub (BL _ _)).sub (BL _ _))
 have p:aB .i64 (i:Int) 1=((i+1:Nat):Int):=by rw[ax (by omega) (by omega)];rfl
 rcases(by omega:i=0\/i=1\/i=2\/i=3\/i=4) with rfl|rfl|rfl|rfl|rfl
 ·refine aF rfl ⟨⟨rfl,by decide,by decide⟩,aj.bP 0 H rfl rfl (aK.go H λr t H=>aC.all 0 H rfl rfl rfl λv H=>⟨rfl,aj.bP 0 H rfl rfl (ab (λc=>⟨rfl,aj.bP 0 H rfl rfl ?_⟩) (λc I f=>⟨n - 1,by omega,1,p,by omega,⟨λ_=>c,λh=>absurd h (by decide),λh=>absurd h (by decide),λh=>absurd h (by decide),by decide⟩,(H.sub (BL _ _)).ext f⟩))⟩)⟩;unfold wR;refine λd a=>⟨_,⟨[]⟩,⟨[ag (ae bp)]⟩,rfl,by kernel_rfl,P7 (H.ext a) 3 (j+4) rfl m λA H=>ao.go H λB H=>fin ?_ H⟩;rw[g,az c]
 ·refine aF rfl ⟨⟨rfl,by decide,by decide⟩,aj.bP 0 H rfl rfl (aK.go H λr t H=>aC.all 0 H rfl rfl rfl λv H=>⟨rfl,aj.bP 0 H rfl rfl (ab (λc=>⟨rfl,aj.bP 0 H rfl rfl ?_⟩) (λc I f=>⟨n - 1,by omega,2,p,by omega,⟨λ_=>b (by decide),λ_=>c,λh=>absurd h (by decide),λh=>absurd h (by decide),by decide⟩,(H.sub (BL _ _)).ext f⟩))⟩)⟩;unfold wR;refine λd a=>⟨_,⟨[]⟩,⟨[ag (ae be),ag (ae bp)]⟩,rfl,by kernel_rfl,P9 (H.ext a) 2 3 (j+4) rfl rfl m (by omega) λA H=>ao.go H λB H=>fin ?_ H⟩;rw[g,au (by rw[b (by decide)];decide),az c]
 ·refine aF rfl ⟨⟨rfl,by decide,by decide⟩,aj.bP 0 H rfl rfl (aK.go H λr t H=>aC.all 0 H rfl rfl rfl λv H=>⟨rfl,aj.bP 0 H rfl rfl (ab (λc=>⟨rfl,aj.bP 0 H rfl rfl ?_⟩) (λc I f=>⟨n - 1,by omega,3,p,by omega,⟨λ_=>b (by decide),λ_=>l (by decide),λ_=>c,λh=>absurd h (by decide),by decide⟩,(H.sub (BL _ _)).ext f⟩))⟩)⟩;unfold wR;refine λd a=>⟨_,⟨[]⟩,⟨[ag (ae bp),ag (ae be)]⟩,rfl,by kernel_rfl,P_ (H.ext a) 2 3 (j+4) rfl rfl m λA H=>ao.go H λB H=>fin ?_ H⟩;rw[g,au (by rw[b (by decide)];decide),au (by rw[l (by decide)];decide),az c]
 ·refine aF rfl ⟨⟨rfl,by decide,by decide⟩,aj.bP 0 H rfl rfl (aK.go H λr t H=>aC.all 0 H rfl rfl rfl λv H=>⟨rfl,aj.bP 0 H rfl rfl (ab (λc=>⟨rfl,aj.bP 0 H rfl rfl ?_⟩) (λc I f=>⟨n - 1,by omega,4,p,by omega,⟨λ_=>b (by decide),λ_=>l (by decide),λ_=>F (by decide),λ_=>c,by decide⟩,(H.sub (BL _ _)).ext f⟩))⟩)⟩;unfold wR;refine λd a=>⟨_,⟨[]⟩,⟨[ag (ae bp),ag (ae be)]⟩,rfl,by kernel_rfl,Qa (H.ext a) 2 3 (j+4) rfl rfl m λA H=>ao.go H λB H=>fin ?_ H⟩;rw[g,au (by rw[b (by decide)];decide),au (by rw[l (by decide)];decide),au (by rw[F (by decide)];decide),az c]
 ·refine aF rfl ⟨⟨rfl,by decide,by decide⟩,aj.bP 0 H rfl rfl (aK.go H λr t H=>aC.all 0 H rfl rfl rfl λv H=>⟨rfl,aj.bP 0 H rfl rfl (aF rfl ⟨rfl,aj.bP 0 H rfl rfl ?_⟩)⟩)⟩;unfold wR;refine λd a=>⟨_,⟨[]⟩,⟨[ag (ae bp)]⟩,rfl,by kernel_rfl,P8 (H.ext a) 3 (j+4) rfl m λA H=>ao.go H λB H=>fin ?_ H⟩;rw[g,au (by rw[b (by decide)];decide),au (by rw[l (by decide)];decide),au (by rw[F (by decide)];decide),au (by rw[U (by decide)];decide)]
end
end Go.Proofs.YtlcenllcmeebhaaGreat
