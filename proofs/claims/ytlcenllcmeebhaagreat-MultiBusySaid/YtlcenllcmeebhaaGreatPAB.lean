import Derived.Test.YtlcenllcmeebhaaGreatPAA
/-! What the statement leans on: texts joined and shortened by a program of mine. -/
set_option linter.unusedVariables false
set_option linter.unusedSimpArgs false
open Go renaming World->A2,Addr->AB,Value->AF,Obj->AT,MapEntry->B2,Program->DA,FuncId->DE,TypeId->FQ
open Go.Proofs.Tryz renaming prog->AC
open Eq renaming mpr->AG
open List renaming mem_map->AH,length_take->B1,perm_middle->B3,mem_cons->B4,mem_cons_of_mem->B5,length_append->BO,nodup_cons->BX,getElem?_eq_some_iff->Bs,mem_cons_self->Bx,map_cons->C5,mem_append_left->Cc,mem_singleton->DH,append_assoc->DN,mem_append_right->DQ,getElem?_eq_getElem->Dl,getElem?_set_ne->Dn,take_append_drop->Do,sublist_cons_self->Dr,map_append->FR,length_drop->FS,nodup_nil->FU,mem_of_getElem?->FV,getElem?_set_self->Fh,replicate->Ft,mem_append->Fw,getElem?_map->Fx,drop_length->G1,getElem?_of_mem->GF,ext_getElem?->GG,append_nil->GH,filter_cons->GI,getElem?_append_left->Gd,take_length->Gi,mem_or_eq_of_mem_set->Hb,getElem?_append_right->Hq,nodup_append->Hr,eq_nil_of_length_eq_zero->I1,take_add_one->I2,length_singleton->IE,drop_eq_getElem_cons->J_,drop_eq_nil_of_le->JP,getElem?_inj->JQ,take_append_of_le_length->JS,take_of_length_le->JU,length_set->JW,getD_eq_getElem?_getD->K1,filter_eq_self->Kc,any_eq_true->LL,length_cons->M4,length_nil->M5,take_zero->N7,set_eq_take_append_cons_drop->NR,drop_length_add_append->NS,perm_append_singleton->Nv,sublist_append_right->O2,length_map->OX,findIdx?_eq_none_iff->Oc,eraseIdx_eq_take_drop_succ->Og,length_filter_le->Oi,nil_append->Ok,drop_zero->Ow,filter_nil->PP,find?_append->PS,find?_cons->Pl,set_append_right->Pp,pairwise_append->Rg,getElem?_take_of_lt->S0
open Go.IntKind renaming i64->Ae,u64->S1
open Int renaming toNat->Ap,toNat_natCast->Dw,emod_nonneg->S2,emod_lt_of_pos->T0,ediv_nonneg->T3
open Go.Value renaming bool->Aq,int->E4,chan->IR,nilFunc->T5
open Nat renaming zero_add->Ca,le_trans->DB,le_refl->Db,min_eq_left->Dd,zero_le->GJ,mul_le_mul_right->Gj,sub_self->H4,lt_of_lt_of_le->Ij,lt_succ_self->Im,mul_one->In,add_mul->N8,testBit_mod_two_pow->NA,mod_eq_of_lt->T6,eq_of_testBit_eq->TA
open List.Perm renaming cons->Cd,swap->E5
open Array renaming getElem?_eq_some_iff->Dh,ext'->NF,mk->NI
open Bool renaming or_eq_true->F4,or_eq_false_iff->FC,true_and->H5,and_eq_true->Io,and_eq_false_iff->J0,eq_iff_iff->J1,not_eq_true'->NK,not_eq_false'->TF
open Decidable renaming rec->GD
open Go.Instr renaming findNow->GS
open BitVec renaming testBit_toNat->Ga,getLsbD_and->J3,getLsbD_ushiftRight->NL,allOnes->TG,getLsbD_shiftLeft->TO,getLsbD_of_ge->TP
open Go.Builtin renaming zeroCells->H7
open List.Sublist renaming cons->HB,refl->J4,cons_cons->J5,append_left->NO
namespace Go.Proofs.YtlcenllcmeebhaaGreat
set_option maxRecDepth 100000
open Go.RX
def ee (lo sz:Int):Bool:=decide (lo>=0)&&decide (lo<64)&&decide (sz>=1)&&decide (sz<=64 - lo)
theorem iM {lo sz:Int}:ee lo sz=true<->0<=lo/\lo<64/\1<=sz/\sz<=64 - lo:=by
 simp only[ee,Io,decide_eq_true_eq];omega
def Mk (lo n:Nat):BitVec 64:=(TG 64 >>> (64 - n)) <<< lo
theorem Co {lo n j:Nat} (c:n<=64):(Mk lo n).getLsbD j=(decide (lo<=j)&&decide (j<lo+n)&&decide (j<64)):=by
 unfold Mk;rw[TO,NL,BitVec.getLsbD_allOnes];by_cases h1:j<64<;>by_cases a:lo<=j<;>by_cases b:j<lo+n<;>simp[h1,a,b]<;>omega
def fR (lo sz:Int):BitVec 64:=if ee lo sz=true then Mk lo.toNat sz.toNat else 0#64
def fm (w:BitVec 64) (lo sz:Int):BitVec 64:=(w &&& fR lo sz) >>> (Dq 0 (kr lo 63)).toNat
def s9 (w:BitVec 64) (lo sz:Int) (v:BitVec 64):BitVec 64:=if fR lo sz=0#64 then w else w &&& ~~~ fR lo sz ||| v <<< lo.toNat &&& fR lo sz
theorem GW {lo sz:Int} (h:ee lo sz=true):Dp .u64 (J7 .u64 18446744073709551615 (aY .i64 64 sz)) lo=U (fR lo sz):=by
 have h':=iM.1 h;rw[show(18446744073709551615:Int)=U (TG 64) from rfl,O3,O1,bD (by omega) (by omega)];unfold fR Mk;rw[if_pos h];congr 4;omega
theorem P3 {lo sz:Int} (h:ee lo sz=true):fR lo sz≠0#64:=by
 intro h0;have h':=iM.1 h;have:=congrArg (λb=>b.getLsbD lo.toNat) h0;simp only[fR,if_pos h] at this;rw[Co (by omega)] at this;simp at this;omega
theorem zw {lo sz:Int} (h:ee lo sz=false):fR lo sz=0#64:=by simp[fR,h]
def Gk (w:BitVec 64) (lo k:Nat):BitVec 64:=(w >>> lo) &&& Mk 0 k
theorem O4 {w:BitVec 64} {lo k j:Nat} (a:k<=64):(Gk w lo k).getLsbD j=(w.getLsbD (lo+j)&&decide (j<k)):=by
 unfold Gk;rw[J3,NL,Co a];by_cases h:j<k<;>simp[h];omega
def Pk (w v:BitVec 64) (lo k:Nat):BitVec 64:=w &&& ~~~ Mk lo k ||| v <<< lo &&& Mk lo k
theorem Y9 {w v:BitVec 64} {lo k j:Nat} (a:k<=64) (b:j<64):(Pk w v lo k).getLsbD j=if lo<=j/\j<lo+k then v.getLsbD (j - lo) else w.getLsbD j:=by
 unfold Pk;rw[BitVec.getLsbD_or,J3,J3,BitVec.getLsbD_not,TO,Co a];by_cases h1:lo<=j<;>by_cases c:j<lo+k<;>simp[h1,c,b]
 all_goals omega
theorem Ui {w:BitVec 64} {lo sz:Int} (h:ee lo sz=true):fm w lo sz=Gk w lo.toNat sz.toNat:=by
 have h':=iM.1 h;unfold fm fR;rw[if_pos h];have e:(Dq 0 (kr lo 63)).toNat=lo.toNat:=by unfold Dq kr;split<;>split<;>omega
 rw[e];apply BitVec.eq_of_getLsbD_eq;intro j b;rw[O4 (by omega),NL,J3,Co (by omega)];by_cases h1:lo.toNat+j<64
 ·by_cases a:j<sz.toNat<;>simp[h1,a]
 ·rw[TP w _ (by omega)];simp
theorem Uj {w v:BitVec 64} {lo sz:Int} (h:ee lo sz=true):s9 w lo sz v=Pk w v lo.toNat sz.toNat:=by
 unfold s9 Pk;rw[if_neg (P3 h)];simp only[fR,if_pos h]
theorem mx:AC.follows .mixedOrders=true:=by kernel_rfl
noncomputable def C0:dJ AC:={sr:=[],quiet:=[],sh:=[],mixed:=mx}
theorem Uk (low size:Int) (w:A2) (a:Bool->A2->Prop):(aK C0 (λ_=>[]) 144 [.int .i64 low,.int .i64 size] w a)=(
 au w (a (decide (low>=0)&&decide (low<64)&&decide (size>=1)&&decide (size<=aY .i64 64 low)))):=by kernel_rfl
theorem P4 (lo sz:Int):(decide (lo>=0)&&decide (lo<64)&&decide (sz>=1)&&decide (sz<=aY .i64 64 lo))=ee lo sz:=by
 unfold ee;by_cases h:0<=lo/\lo<64
 ·rw[bD (by omega) (by omega)]
 ·by_cases h1:lo>=0<;>by_cases a:lo<64<;>simp[h1,a]<;>omega
noncomputable def tn:Entry AC where
 f:=144
 fn l:=match l with
  |[.int .i64 lo,.int .i64 sz]=>some (True,.bool (ee lo sz))
  | _=>none
 ok args pre v h _ w:=by
  split at h
  ·rename_i lo sz;cases h;refine bU (x:=ee lo sz) (ai (C:=C0) (aQ:=λ_=>[]) (AG (Uk lo sz w _) λw1 h1=>⟨P4 lo sz,h1⟩))
  ·cases h
noncomputable def C1:dJ AC:={C0 with sr:=[tn]}
theorem Ul (low size:Int) (w:A2) (a:Int->A2->Prop):(aK C1 (λ_=>[]) 195 [.int .i64 low,.int .i64 size] w a)=(
 True/\aI (!ee low size) (au w (a 0)) (0<=aY .i64 64 size/\0<=low/\au w λw1=>a (Dp .u64 (J7 .u64 18446744073709551615 (aY .i64 64 size)) low) w1)):=by kernel_rfl
theorem Um (lo sz:Int) (w:A2):aC AC 195 (.el (.one (.int .u64))) [.int .i64 lo,.int .i64 sz] w (λx w'=>x=U (fR lo sz)/\Ext w w'):=by
 refine ai (C:=C1) (aQ:=λ_=>[]) (AG (Ul lo sz w _) ⟨trivial,?_⟩);refine ab (λh=>?_) (λh=>?_)
 ·intro w1 h1;refine⟨?_,h1⟩;rw[zw (by simpa using h)];rfl
 ·have h':ee lo sz=true:=by simpa using h
  have a:=iM.1 h';refine⟨by rw[bD (by omega) (by omega)];omega,a.1,λw1 h1=>⟨GW h',h1⟩⟩
noncomputable def vF:Entry AC where
 f:=195
 fn l:=match l with
  |[.int .i64 lo,.int .i64 sz]=>some (True,.int .u64 (U (fR lo sz)))
  | _=>none
 ok args pre v h a w:=by
  split at h
  ·rename_i lo sz;cases h;exact bU (Um lo sz w)
  ·cases h
noncomputable def C2:dJ AC:={C0 with sr:=[tn,vF]}
theorem Y_ (v low size:Int) (w:A2) (a:Int->A2->Prop):(aK C2 (λ_=>[]) 141 [.int .u64 v,.int .i64 low,.int .i64 size] w a)=(
 True/\0<=Dq 0 (kr low 63)/\au w λw1=>a (J7 .u64 (wT .u64 v (U (fR low size))) (Dq 0 (kr low 63))) w1):=by kernel_rfl
theorem Y' (v low size x:Int) (w:A2) (a:Int->A2->Prop):(aK C2 (λ_=>[]) 250 [.int .u64 v,.int .i64 low,.int .i64 size,.int .u64 x] w a)=(
 True/\aI (U (fR low size)==0) (au w (a v)) (0<=low/\au w λw1=>a (Z3 .u64 (gF .u64 v (U (fR low size))) (wT .u64 (Dp .u64 x low) (U (fR low size)))) w1)):=by kernel_rfl
theorem Za (v:BitVec 64) (lo sz:Int) (w:A2):aC AC 141 (.el (.one (.int .u64))) [.int .u64 (U v),.int .i64 lo,.int .i64 sz] w (λx w'=>x=U (fm v lo sz)/\Ext w w'):=by
 refine ai (C:=C2) (aQ:=λ_=>[]) (AG (Y_ (U v) lo sz w _) ⟨trivial,by unfold Dq;split<;>omega,λw1 h1=>⟨?_,h1⟩⟩);rw[O0,O3];rfl
theorem Zb (v:BitVec 64) (lo sz:Int) (x:BitVec 64) (w:A2):aC AC 250 (.el (.one (.int .u64))) [.int .u64 (U v),.int .i64 lo,.int .i64 sz,.int .u64 (U x)] w (λy w'=>y=U (s9 v lo sz x)/\Ext w w'):=by
 refine ai (C:=C2) (aQ:=λ_=>[]) (AG (Y' (U v) lo sz (U x) w _) ⟨trivial,?_⟩);have b:(U (fR lo sz)==0)=decide (fR lo sz=0#64):=by
  have:(U (fR lo sz)=0)<->fR lo sz=0#64:=by rw[show(0:Int)=U 0#64 from rfl,aaW]
  by_cases h:fR lo sz=0#64
  ·rw[this.2 h,h];rfl
  ·have h': ¬ U (fR lo sz)=0:=λe=>h (this.1 e);simp[h,h']
 rw[b];refine ab (λh=>λw1 h1=>⟨?_,h1⟩) (λh=>?_)
 ·simp only[decide_eq_true_eq] at h;unfold s9;rw[if_pos h]
 ·simp only[decide_eq_false_iff_not] at h;have a:ee lo sz=true:=by
   cases a:ee lo sz with
   |true=>rfl
   |false=>exact absurd (zw a) h
  refine⟨(iM.1 a).1,λw1 h1=>⟨?_,h1⟩⟩;rw[Kp,O1,O0,aaX];unfold s9;rw[if_neg h]
noncomputable def FL:Entry AC where
 f:=141
 fn l:=match l with
  |[.int .u64 v,.int .i64 lo,.int .i64 sz]=>some (U (B v)=v,.int .u64 (U (fm (B v) lo sz)))
  | _=>none
 ok args pre v h a w:=by
  split at h
  ·rename_i v lo sz;cases h;have:=bU (Za (B v) lo sz w);rw[a] at this;exact this
  ·cases h
noncomputable def FM:Entry AC where
 f:=250
 fn l:=match l with
  |[.int .u64 v,.int .i64 lo,.int .i64 sz,.int .u64 x]=>some (U (B v)=v/\U (B x)=x,.int .u64 (U (s9 (B v) lo sz (B x))))
  | _=>none
 ok args pre v h a w:=by
  split at h
  ·rename_i v lo sz x;cases h;have:=bU (Zb (B v) lo sz (B x) w);rw[a.1,a.2] at this;exact this
  ·cases h
noncomputable def C3:dJ AC:={C0 with sr:=[tn,vF,FL,FM]}
def vT:Nat->aZ:=(λ|4=>[(3,Go.RX.El.one (Go.RX.Sc.int S1)),(4,Go.RX.El.one (Go.RX.Sc.int Ae)),(9,Go.RX.El.one (Go.RX.Sc.int Ae))]| _=>[])
theorem Un (p:Option AB) (n c:Nat) (w:A2) (d:Int->A2->Prop):(aK C3 vT 248 [.slice p n c] w d)=(
 ∃(I:Nat->Int×Int×Int×Unit->A2->Prop),(∃n, ∀w1,Ext w w1->I n (0,0,0,()) w1)/\ ∀(f:Nat) (s:Int×Int×Int×Unit) (w1:A2),I f s w1->aI (decide (s.2.2.1<(↑n:Int))) ((p.isSome=true/\0<=s.2.2.1/\s.2.2.1<(↑n:Int))/\aj w1 none (ad p (Ap s.2.2.1*2)) cF λ(x:Int×Int×Unit)=>aN w1 ⟨[.int .u64 0,.int .i64 0]⟩ 304 λb a=>az a (af b) [.int .u64 x.1,.int .i64 x.2.1] λa=>true=true/\aU a (ad (af b) 1) λx=>True/\aI (!ee s.2.1 x) (au a (d 0)) (true=true/\aU a (ad (af b) 1) λ
 x=>true=true/\cK a (ad (af b) 0) λe=>(U (B s.1)=s.1/\U (B e)=e)/\true=true/\aU a (ad (af b) 1) λi=> ∀g,Ext a g-> ∃(h:Nat),h<f/\I h (U (s9 (B s.1) s.2.1 x (B e)),aJ .i64 s.2.1 i,aJ .i64 s.2.2.1 1,()) g)) (au w1 (d s.1))):=by kernel_rfl
def uc:Nat->aZ:=(λ|4=>[(5,Go.RX.El.one Go.RX.Sc.slice),(6,Go.RX.El.one (Go.RX.Sc.int Ae)),(11,Go.RX.El.one (Go.RX.Sc.int Ae))]| _=>[])
theorem P5 (v:Int) (p:Option AB) (n c:Nat) (w:A2) (a:Option AB×Nat×Nat->A2->Prop):(aK C3 uc 93 [.int .u64 v,.slice p n c] w a)=(
 ∃(I:Nat->(Option AB×Nat×Nat)×Int×Int×Unit->A2->Prop),(∃n, ∀w1,Ext w w1->I n ((none,0,0),0,0,()) w1)/\ ∀(e:Nat) (s:(Option AB×Nat×Nat)×Int×Int×Unit) (w1:A2),I e s w1->aI (decide (s.2.2.1<(↑n:Int))) ((p.isSome=true/\0<=s.2.2.1/\s.2.2.1<(↑n:Int))/\aU w1 (ad p (Ap s.2.2.1*1)) λx=>True/\aI (!ee s.2.1 x) (au w1 (a (none,0,0))) (U (B v)=v/\aN w1 ⟨[.int .u64 (U (fm (B v) s.2.1 x))]⟩ 29 λb d=> ∀w1,Ext d w1->mz w1 29 1 8 ⟨[.int .u64 0]⟩ (s.1.1,s.1.2.1,s.1.2.2) (some ⟨b,0,
 none⟩,1,1) λ(r:Option AB×Nat×Nat) d=> ∀f,Ext d f-> ∃(g:Nat),g<e/\I g ((r.1,r.2.1,r.2.2),aJ .i64 s.2.1 x,aJ .i64 s.2.2.1 1,()) f)) (au w1 (a (s.1.1,s.1.2.1,s.1.2.2)))):=by kernel_rfl
abbrev eI:El:= .one (.int .i64)
abbrev eU:El:= .one (.int .u64)
abbrev eP:El:= .agg [.int .u64,.int .i64]
def qO:BitVec 64->Int->List (BitVec 64×Int)->BitVec 64
 |w, _,[]=>w
 |w,lo,(v,sz)::r=>if ee lo sz=true then qO (s9 w lo sz v) (lo+sz) r else 0#64
def Oa (l:List (BitVec 64×Int)):List (Int×Int×Unit):=l.map λx=>(U x.1,x.2,())
theorem ji {α:Type} {l:List α} {i:Nat} (h:i<l.length):l.drop i=l[i]::l.drop (i+1):=J_ h
theorem Uo {p:Option AB} {n c:Nat} {w:A2} {xs:List (BitVec 64×Int)} (z:Sl w eP p (Oa xs)) (K:n=xs.length) (hb:n<4611686018427387904):
 aC AC 248 (.el eU) [.slice p n c] w (λx w'=>x=U (qO 0#64 0 xs)/\Ext w w'):=by
 refine ai (C:=C3) (aQ:=vT) (AG (Un p n c w _) ?_);refine⟨λk s w'=>Ext w w'/\ ∃(i:Nat) (b:BitVec 64),s.1=U b/\s.2.2.1=i/\k+i=n/\0<=s.2.1/\s.2.1<=64/\qO b s.2.1 (xs.drop i)=qO 0#64 0 xs,⟨n,λw1 h1=>⟨h1,0,0#64,rfl,rfl,rfl,by decide,by decide,rfl⟩⟩,?_⟩;rintro k ⟨x,lo,L,u⟩ w1 ⟨l,i,b,h1,g,M,A,B,e⟩;simp only at h1 g A B e;subst h1;subst g;dsimp only;refine ab (λh=>?_) (λh=>λD g=>⟨?_,l.trans g⟩)
 ·simp only[decide_eq_true_eq] at h;have hi:i<xs.length:=by omega
  have E:(Oa xs)[i]? =some (U xs[i].1,xs[i].2,()):=by simp[Oa,hi]
  have a1:=(z.ext l) i _ E;rw[ji hi] at e;refine⟨⟨a1.1,by omega,by omega⟩, _,a1.2,λd F f t=>?_⟩;have dk:bK f d.heap.size [.int .u64 0,.int .i64 0]:=(bK.new d _ _).ext t;have v:Ext w d:=l.trans F;have G:Ext w f:=(v.iZ _).trans t;have m:=dk.put (o:=0) [E4 .u64 (U xs[i].1),E4 .i64 xs[i].2] (by simp);simp at m;have y:Ext w (jA f (some ⟨d.heap.size,0,none⟩) [E4 .u64 (U xs[i].1),E4 .i64 xs[i].2]):=G.jA (a:=⟨d.heap.size,0,none⟩) v.size _;have H:cI (jA f (some ⟨d.heap.size,0,none⟩) [E4 .u64 (U xs[i].1),E4 .i64 xs[i].2]) (ad (some ⟨d.heap.size,0,none⟩) 0) (.one (.int .u64)) (U xs[i].1):=by
   rw[aW];exact m.ow rfl
  have q:cI (jA f (some ⟨d.heap.size,0,none⟩) [E4 .u64 (U xs[i].1),E4 .i64 xs[i].2]) (ad (some ⟨d.heap.size,0,none⟩) 1) (.one (.int .i64)) xs[i].2:=by
   rw[aW];exact m.ow rfl
  refine⟨⟨rfl,dk.st (by simp)⟩,rfl, _,q,trivial,ab (λr D I=>⟨?_,y.trans I⟩) (λr=>⟨rfl, _,q,rfl, _,H,⟨by rw[Fg],by rw[Fg]⟩,rfl, _,q,λN J=>⟨k - 1,by omega,y.trans J,i+1,s9 b lo xs[i].2 xs[i].1,?_,?_,by omega,?_,?_,?_⟩⟩)⟩
  ·have j:ee lo xs[i].2=false:=by simpa using r
   rw[<-e];simp only[qO,j];rfl
  all_goals
   have j:ee lo xs[i].2=true:=by simpa using r
   have O:=iM.1 j
  ·show U _= _;rw[Fg,Fg]
  ·show aJ _ _ _= _;rw[ax (by omega) (by omega)];rfl
  ·show 0<=aJ .i64 lo _;rw[ax (by omega) (by omega)];omega
  ·show aJ .i64 lo _<=64;rw[ax (by omega) (by omega)];omega
  ·show qO _ (aJ .i64 lo _) _= _;rw[ax (by omega) (by omega), <-e];simp only[qO,j,if_true]
 ·simp only[decide_eq_false_iff_not] at h;rw[JP (by omega)] at e;rw[<-e];rfl
def mo (w:BitVec 64):Int->List Int->Option (List (BitVec 64))
 | _,[]=>some []
 |lo,sz::r=>if ee lo sz=true then(mo w (lo+sz) r).map (fm w lo sz:: ·) else none
def B6 (l:List (BitVec 64)):List Int:=l.map U
theorem P6 {v:BitVec 64} {p:Option AB} {n c:Nat} {w:A2} {xs:List Int} (y:Sl w eI p xs) (J:n=xs.length) (hb:n<=1000):
 aC AC 93 (.el (.one .slice)) [.int .u64 (U v),.slice p n c] w (λr w'=>lN w w' eU r (B6 ((mo v 0 xs).getD []))/\Ext w w'):=by
 refine ai (C:=C3) (aQ:=uc) (AG (P5 (U v) p n c w _) ?_);refine⟨λk s w'=>Ext w w'/\ ∃(i:Nat) (a:List (BitVec 64)),s.2.2.1=i/\k+i=n/\0<=s.2.1/\s.2.1<=64/\a.length=i/\lN w w' eU s.1 (B6 a)/\mo v 0 xs=(mo v s.2.1 (xs.drop i)).map (a++ ·),⟨n,λw1 h1=>⟨h1,0,[],rfl,rfl,by decide,by decide,rfl,lN.nil w w1 eU,by simp⟩⟩,?_⟩;rintro k ⟨s,lo,K,u⟩ w1 ⟨f,i,a,d,L,z,A,D,m,b⟩;simp only at d m z A b;subst d;dsimp only;refine ab (λh=>?_) (λh=>λo d=>⟨?_,f.trans d⟩)
 ·simp only[decide_eq_true_eq] at h;have hi:i<xs.length:=by omega
  have a1:=(y.ext f) i _ (Dl hi);have i1:p.isSome=true/\(0:Int)<=i/\(i:Int)<n:=⟨a1.1,by omega,by omega⟩;rw[ji hi] at b;refine⟨i1, _,a1.2,trivial,ab (λg o E=>⟨?_,f.trans E⟩) (λg=>⟨by rw[Fg],λM F N G=>?_⟩)⟩
  ·have j:ee lo xs[i]=false:=by simpa using g
   simp only[mo,j] at b;rw[b];exact lN.nil w o eU
  ·have j:ee lo xs[i]=true:=by simpa using g
   have O:=iM.1 j;have P:(B6 a).length<=1000:=by simp[B6];omega
   refine P2 (e:=eU) (x:=U (fm (B (U v)) lo xs[i])) m f rfl F G rfl (by omega) λs' w' q H g Q R t=>⟨k - 1,by omega,H.trans t,i+1,a++[fm v lo xs[i]],?_,by omega,?_,?_,by simp[D],?_,?_⟩
   ·show aJ _ _ _= _;rw[ax (by omega) (by omega)];rfl
   ·show 0<=aJ .i64 lo _;rw[ax (by omega) (by omega)];omega
   ·show aJ .i64 lo _<=64;rw[ax (by omega) (by omega)];omega
   ·rw[Fg] at q;have I:B6 (a++[fm v lo xs[i]])=B6 a++[U (fm v lo xs[i])]:=by simp[B6]
    rw[I];exact q.ext t
   ·show _=(mo v (aJ .i64 lo _) _).map _;rw[ax (by omega) (by omega),b];simp only[mo,j,if_true,Option.map_map];congr 1;funext l;simp
 ·simp only[decide_eq_false_iff_not] at h;rw[JP (by omega)] at b;rw[b];simp[mo];exact m.ext d
end Go.Proofs.YtlcenllcmeebhaaGreat
namespace Go.RX
open Go.RowKit
def YB (n:Nat) (w:A2) (e:El) (s:Option AB×Nat×Nat) (xs:List e.T):Prop:=
 s.2.1=xs.length/\xs.length<=s.2.2/\
 ((s.1=none/\xs=[]/\s.2.2=0)\/ ∃b l,s.1=some ⟨b,0,none⟩/\n<=b/\bK w b l/\l.length=s.2.2*aD e/\l.take (xs.length*aD e)=flat e xs)
theorem lN.toN {w0 w:A2} {e:El} {s:Option AB×Nat×Nat} {xs:List e.T} (h:lN w0 w e s xs):YB w0.heap.size w e s xs:=h
theorem YB.of {w0 w:A2} {e:El} {s:Option AB×Nat×Nat} {xs:List e.T} {n:Nat} (h:YB n w e s xs) (a:w0.heap.size<=n):lN w0 w e s xs:=by
 obtain⟨h1,b,c⟩:=h;refine⟨h1,?_⟩
 grind
def vG (n:Nat) (w:A2):A2:={w with heap:=w.heap.extract 0 n}
theorem iE {n:Nat} {w:A2} (h:n<=w.heap.size):(vG n w).heap.size=n:=by grind[vG]
theorem qe {n:Nat} {w:A2} (h:n<=w.heap.size):Ext (vG n w) w:=by
 refine⟨rfl,rfl,rfl,?_,λk a=>?_⟩
 ·rw[iE h];grind
 ·rw[iE h] at a;show w.heap[k]? =(w.heap.extract 0 n)[k]?
  grind
theorem zX {n:Nat} {w w':A2} (h:n<=w.heap.size) (k:Ext (vG n w) w') (a:w.heap.size<=w'.heap.size):Below n w w':=
 ⟨k.os,k.tape,k.output,a,λj b=>by
  have h1:=k.block (by rw[iE h];exact b);have c:=(qe h).block (k:=j)
  grind⟩
end Go.RX
namespace Go.RowKit
open Go.RX
end Go.RowKit
namespace Go.RX
open Go.RowKit
structure Fr (G:List Nat) (w w':A2):Prop where
 os:w'.os=w.os
 tape:w'.tape=w.tape
 output:w'.output=w.output
 size:w.heap.size<=w'.heap.size
 block: ∀k,k<w.heap.size->k∉G->w'.heap[k]? =w.heap[k]?
theorem Fr.refl (G:List Nat) (w:A2):Fr G w w:=⟨rfl,rfl,rfl,by simp,λ_ _ _=>rfl⟩
theorem Fr.trans {G:List Nat} {a b c:A2} (h:Fr G a b) (k:Fr G b c):Fr G a c:=
 ⟨k.os.trans h.os,k.tape.trans h.tape,k.output.trans h.output,DB h.size k.size,λj d e=>(k.block j (Ij d h.size) e).trans (h.block j d e)⟩
theorem Fr.u5 {G:List Nat} {w w':A2} (h:Ext w w'):Fr G w w':=⟨h.os,h.tape,h.output,h.size,λ_ a _=>h.block a⟩
theorem Fr.ext {w w':A2} (h:Fr [] w w'):Ext w w':=⟨h.os,h.tape,h.output,h.size,λk a=>h.block k a (by simp)⟩
theorem Fr.dk {G:List Nat} {w w':A2} (h:Fr G w w') {b:Nat} {l:List AF} (hb:b∉G) (k:bK w b l):bK w' b l:=k.same (h.block b k.lt hb)
theorem Fr.jA {G:List Nat} {w0 w:A2} (h:Fr G w0 w) {a:AB} (l:w0.heap.size<=a.block\/a.block∈G) (vs:List AF):Fr G w0 (jA w (some a) vs):=by
 have env: ∀(vs) (w) (i),(putAt w a vs i).os=w.os/\(putAt w a vs i).tape=w.tape/\(putAt w a vs i).output=w.output:=by
  intro vs
  induction vs with
  |nil=>intro w i;exact⟨rfl,rfl,rfl⟩
  |cons v r b=>
   intro w i;have:=b (w.setCell (a.add i) v) (i+1);exact this
 obtain⟨c,d,e⟩:=env vs w 0;refine⟨c.trans h.os,d.trans h.tape,e.trans h.output,?_,λk f g=>?_⟩
 ·show _<=(putAt w a vs 0).heap.size;rw[r_];exact h.size
 ·have j:k≠a.block:=by
   grind
  exact(mR vs w a 0 k j).trans (h.block k f g)
structure aL (D G:List Nat) (w0 w:A2) (L:List (Nat×List AF)):Prop where
 fr:Fr G w0 w
 dk: ∀x∈L,bK w x.1 x.2
 own: ∀x∈L,w0.heap.size<=x.1\/x.1∈G
 nd:(L.map (·.1)).Nodup
 pQ: ∀r∈D,w0.heap.size<=r/\w.heap[r]? =some (.deferred (some []))
abbrev At:=aL []
theorem At.start (G:List Nat) (w:A2):At G w w [] where
 fr:=Fr.refl G w
 dk:=λx=>by grind
 own:=λa=>by grind
 nd:=FU
 pQ:=λa=>by grind
namespace aL
variable {D G:List Nat} {w0 w w1:A2} {L:List (Nat×List AF)}
theorem ext (H:aL D G w0 w L) (h:Ext w w1):aL D G w0 w1 L:=
 ⟨H.fr.trans (.u5 h),λx b=>(H.dk x b).ext h,H.own,H.nd,λr a=>⟨(H.pQ r a).1,h.obj (H.pQ r a).2⟩⟩
theorem all (H:aL D [] w0 w L):Ext w0 w:=H.fr.ext
theorem get (H:aL D G w0 w L) {i b:Nat} {l:List AF} (h:L[i]? =some (b,l)):bK w b l:=H.dk _ (FV h)
theorem ne (H:aL D G w0 w L) {i j b c:Nat} {l m:List AF} (h:L[i]? =some (b,l)) (k:L[j]? =some (c,m)) (a:i≠j):b≠c:=by
 intro;have h1:(L.map (·.1))[i]? =some b:=by grind
 have d:(L.map (·.1))[j]? =some b:=by grind
 exact a ((JQ (by grind) H.nd).1 (h1.trans d.symm))
theorem alloc (H:aL D G w0 w L) (cs:List AF) (t:FQ):aL D G w0 (w.alloc (.cells ⟨cs⟩ t)) ((w.heap.size,cs)::L):=by
 have b:=H.ext (Ext.alloc w (.cells ⟨cs⟩ t));refine⟨b.fr,λx a=>?_,λx a=>?_,?_,b.pQ⟩
 ·rcases B4.1 a with rfl|a
  ·exact bK.new w cs t
  ·exact b.dk x a
 ·rcases B4.1 a with rfl|a
  ·exact .inl H.fr.size
  ·exact b.own x a
 ·refine BX.2 ⟨λc=>?_,H.nd⟩;obtain⟨x,a,e⟩:=AH.1 c;have:=(H.dk x a).lt
  grind
theorem rP (H:aL D G w0 w L) (o:AT):aL D G w0 (w.alloc o) L:=H.ext (Ext.alloc w o)
theorem dj {b r:Nat} {l:List AF} {o:AT} (h:bK w b l) (k:w.heap[r]? =some o) (c: ∀a t f,o≠ .cells a t f):b≠r:=by
 obtain⟨⟩:=h
 grind
theorem put (H:aL D G w0 w L) (i:Nat) {b o:Nat} {l:List AF} (h:L[i]? =some (b,l)) (vs:List AF) (m:o+vs.length<=l.length):
 aL D G w0 (jA w (some ⟨b,o,none⟩) vs) (L.set i (b,l.take o++(vs++l.drop (o+vs.length)))):=by
 have hi:i<L.length:=(Bs.1 h).1;have f:=FV h;refine⟨H.fr.jA (H.own _ f) vs,λx a=>?_,λx a=>?_,?_,λr g=>⟨(H.pQ r g).1,?_⟩⟩
 ·obtain⟨j,c⟩:=GF a;by_cases e:i=j
  ·subst e;rw[Fh hi] at c;cases c;exact(H.get h).put vs m
  ·rw[Dn e] at c;have d:x.1≠b:=λe'=>by
    exact H.ne c h (λn=>e n.symm) e'
   exact(H.dk x (by grind)).W7 d vs
 ·rcases Hb a with a|rfl
  ·exact H.own x a
  ·exact H.own (b,l) f
 ·have:(L.set i (b,l.take o++(vs++l.drop (o+vs.length)))).map (·.1)=L.map (·.1):=by
   apply GG;intro j
   grind
  rw[this];exact H.nd
 ·have k:=(H.pQ r g).2;have d:r≠b:=λe=>dj (H.get h) k (by grind) e.symm;rw[<-k];exact mR vs w _ 0 r d
theorem fQ (H:aL D G w0 w L) {b:Nat} {l:List AF} (h:bK w0 b l) (hb:b∉G):bK w b l:=H.fr.dk hb h
theorem sub (H:aL D G w0 w L) {L':List (Nat×List AF)} (h:L'.Sublist L):aL D G w0 w L':=
 ⟨H.fr,λx a=>H.dk x (h.subset a),λx a=>H.own x (h.subset a),(h.map _).nodup H.nd,H.pQ⟩
theorem perm (H:aL D G w0 w L) {L':List (Nat×List AF)} (h:L'.Perm L):aL D G w0 w L':=
 ⟨H.fr,λx a=>H.dk x (h.subset a),λx a=>H.own x (h.subset a),(h.map _).nodup_iff.2 H.nd,H.pQ⟩
theorem frame (H:aL D G w0 w L) {b:List Nat} {L':List (Nat×List AF)} (h:Fr b w w1) (i: ∀x∈b,w0.heap.size<=x\/x∈G) (d: ∀r∈D,r∉b) (hb: ∀x∈L',bK w1 x.1 x.2) (e: ∀x∈L',w0.heap.size<=x.1\/x.1∈G) (f:(L'.map (·.1)).Nodup):aL D G w0 w1 L':=
 ⟨⟨h.os.trans H.fr.os,h.tape.trans H.fr.tape,h.output.trans H.fr.output,DB H.fr.size h.size,λk c g=>(h.block k (Ij c H.fr.size) (by grind)).trans (H.fr.block k c g)⟩,hb,e,f,λr a=>⟨(H.pQ r a).1,by rw[h.block r (Dh.1 (H.pQ r a).2).1 (d r a)];exact(H.pQ r a).2⟩⟩
theorem mod (H:aL D G w0 w L) (i:Nat) {b:Nat} {l l':List AF} (c:L[i]? =some (b,l)) (h:Fr [b] w w1) (hb:bK w1 b l'):aL D G w0 w1 (L.set i (b,l')):=by
 have d:=FV c;refine H.frame h (λx a=>by rw[DH.1 a];exact H.own (b,l) d) (λr g a=>?_) (λx a=>?_) (λx a=>?_) ?_
 ·rw[DH] at a;exact dj (H.get c) (H.pQ r g).2 (by grind) a.symm
 ·obtain⟨j,f⟩:=GF a;by_cases e:i=j
  grind
  ·rw[Dn e] at f;obtain⟨x1,k⟩:=x;have n:x1≠b:=H.ne f c (λm=>e m.symm);exact h.dk (by grind) (H.dk (x1,k) (by grind))
 ·rcases Hb a with a|rfl
  ·exact H.own x a
  ·exact H.own (b,l) d
 ·have:(L.set i (b,l')).map (·.1)=L.map (·.1):=by
   apply GG;intro j
   grind
  rw[this];exact H.nd
theorem again (H:aL D G w0 w L):At (L.map (·.1)) w w L where
 fr:=Fr.refl _ w
 dk:=H.dk
 own:=λx a=> .inr (by grind)
 nd:=H.nd
 pQ:=λa=>by grind
theorem join {b:List Nat} {L':List (Nat×List AF)} (H:aL D G w0 w L) (d: ∀x∈b,x∈L.map (·.1)) (K:At b w w1 L'):aL D G w0 w1 L':=by
 have f: ∀x∈b,w0.heap.size<=x\/x∈G:=λx a=>by
  obtain⟨y,c,e⟩:=AH.1 (d x a);rw[<-e];exact H.own y c
 refine H.frame K.fr f (λr g a=>?_) K.dk (λx a=>?_) K.nd
 ·obtain⟨y,c,e⟩:=AH.1 (d r a);exact dj (H.dk y c) (H.pQ r g).2 (by grind) e
 ·rcases K.own x a with h1|h1
  ·exact .inl (DB H.fr.size h1)
  grind
theorem putObj (H:aL D G w0 w L) {l:Nat} (h:w0.heap.size<=l) {o o':AT} (d:w.heap[l]? =some o) (hc: ∀a t f,o≠ .cells a t f) (i:l∉D):aL D G w0 (w.putObj l o') L:=by
 refine⟨⟨H.fr.os,H.fr.tape,H.fr.output,by rw[putObj_size];grind,λk e g=>?_⟩,λx b=>(H.dk x b).putObj (dj (H.dk x b) d hc) _,H.own,H.nd,λr c=>⟨(H.pQ r c).1,?_⟩⟩
 ·rw[fJ (by omega)];exact H.fr.block k e g
 ·rw[fJ (by grind)];exact(H.pQ r c).2
end aL
def kx (l:List AF) (o:Nat):(el:El)->Option el.T
 | .one s=>match l[o]? with
   |some v=>s.proj v
   |none=>none
 | .agg ss=>lZ ss ((l.drop o).take ss.length)
theorem dV {w:A2} {b o:Nat} {l:List AF} (h:bK w b l) {el:El} {x:el.T} (a:kx l o el=some x):cI w (some ⟨b,o,none⟩) el x:=by
 cases el with
 |one=>
  simp[kx] at a;split at a
  ·rename_i hv;exact h.ow (by rw[hv,Sc.il a])
  grind
 |agg=>
  have e:=pD a;refine h.rdA λhi=>?_
  grind
theorem aj.of {w:A2} {g:Option Bool} {p:Option AB} {el:El} {K:el.T->Prop} (x:el.T) (h:cI w p el x) (k:K x):aj w g p el K:=
 ⟨x,by cases g<;>first|exact h|exact λ_=>h,k⟩
theorem aB {b:Bool} {x y:Prop} (e:b=true) (h:x):aI b x y:=by grind[ab]
theorem an {b:Bool} {x y:Prop} (e:b=false) (h:y):aI b x y:=by grind[ab]
section
variable {D G:List Nat} {w0 w:A2} {L:List (Nat×List AF)}
theorem aj.at (i:Nat) (H:aL D G w0 w L) {g:Option Bool} {el:El} {K:el.T->Prop} {b o:Nat} {l:List AF} {x:el.T} (a:L[i]? =some (b,l)) (hv:kx l o el=some x) (k:K x):aj w g (some ⟨b,o,none⟩) el K:=
 .of x (dV (H.get a) hv) k
theorem aj.cv (i:Nat) (H:aL D G w0 w L) {g:Option Bool} {el:El} {K:el.T->Prop} {b o n:Nat} {l:List AF} {x:el.T} (a:L[i]? =some (b,l)) (hv:kx l (o+n) el=some x) (k:K x):aj w g (ad (some ⟨b,o,none⟩) n) el K:=by
 rw[aW];exact .at i H a hv k
theorem aN.go (H:aL D G w0 w L) {cs:List AF} {e:FQ} {K:Nat->A2->Prop} (k: ∀b w1,aL D G w0 w1 ((b,cs)::L)->K b w1):aN w ⟨cs⟩ e K:=
 λ_ h=>k _ _ ((H.ext h).alloc cs e)
theorem az.at (i:Nat) (H:aL D G w0 w L) {b o:Nat} {l vs:List AF} {K:A2->Prop} (a:L[i]? =some (b,l)) (d:vs.all (·.oneCell')=true) (c:o+vs.length<=l.length)
 (k: ∀w1,aL D G w0 w1 (L.set i (b,l.take o++(vs++l.drop (o+vs.length))))->K w1):az w (some ⟨b,o,none⟩) vs K:=
 λ_ h=>⟨⟨d,((H.ext h).get a).st c⟩,k _ ((H.ext h).put i a vs c)⟩
theorem az.all (i:Nat) (H:aL D G w0 w L) {b:Nat} {l vs:List AF} {K:A2->Prop} (a:L[i]? =some (b,l)) (c:vs.all (·.oneCell')=true) (d:vs.length=l.length)
 (k: ∀w1,aL D G w0 w1 (L.set i (b,vs))->K w1):az w (some ⟨b,0,none⟩) vs K:=by
 refine az.at i H a c (by omega) λw1 h1=>k w1 ?_
 grind
theorem az.one (i:Nat) (H:aL D G w0 w L) {b o:Nat} {l:List AF} {x:AF} {K:A2->Prop} (c:L[i]? =some (b,l)) (d:x.oneCell'=true) (a:Nat.blt o l.length=true)
 (k: ∀w1,aL D G w0 w1 (L.set i (b,l.set o x))->K w1):az w (some ⟨b,o,none⟩) [x] K:=by
 have a:o<l.length:=by simp_all
 refine az.at i H c (by grind) (by grind) λw1 h1=>k w1 ?_;rw[show l.set o x=l.take o++([x]++l.drop (o+[x].length)) from by simp[NR,a]]
 grind
theorem az.e8 (i:Nat) (H:aL D G w0 w L) {b o n:Nat} {l:List AF} {x:AF} {K:A2->Prop} (a:L[i]? =some (b,l)) (c:x.oneCell'=true) (d:Nat.blt (o+n) l.length=true)
 (k: ∀w1,aL D G w0 w1 (L.set i (b,l.set (o+n) x))->K w1):az w (ad (some ⟨b,o,none⟩) n) [x] K:=by
 rw[aW];exact az.one i H a c d k
theorem au.go (H:aL D G w0 w L) {K:A2->Prop} (k: ∀w1,aL D G w0 w1 L->K w1):au w K:=λ_ h=>k _ (H.ext h)
theorem aA.go (H:aL D G w0 w L) {P:DA} {f:DE} {s:Sh} {args:List AF} {K:s.T->A2->Prop} (k: ∀w1,aL D G w0 w1 L->aC P f s args w1 K):aA P f s args w K:=λ_ h=>k _ (H.ext h)
end
open Go.RowKit
variable {D G:List Nat} {w0 wb w w' w1:A2} {L Lb:List (Nat×List AF)}
theorem aL.then (a:aL D G w0 wb L) (H:At [] wb w Lb):aL D G w0 w L:=a.ext H.all
theorem aL.below (H:aL D G w0 w []) (h:Below w0.heap.size w w') (c:w.heap.size<=w'.heap.size) (e:D=[]):aL D G w0 w' [] where
 fr:=⟨h.os.trans H.fr.os,h.tape.trans H.fr.tape,h.output.trans H.fr.output,DB H.fr.size c,λk a d=>(h.block k a).trans (H.fr.block k a d)⟩
 dk:=λb=>by grind
 own:=λb=>by grind
 nd:=FU
 pQ:=λb=>by grind
theorem At.aaY (i:Nat) (c:At G w0 wb []) {e:El} {s:Option AB×Nat×Nat} {xs:List e.T} (f:lN w0 wb e s xs) (H:At [] wb w Lb)
 {b:Nat} {l:List AF} (x:e.T) (g:Lb[i]? =some (b,l)) (h:l=cellsOf e x) (j:gT e=true) {t:FQ} {size bytes:Nat} {z:Array AF} (m:size=aD e) (n:z.size=aD e) (hb:(xs.length+1)*bytes<=140737488355328)
 {R:Option AB×Nat×Nat->A2->Prop} (k: ∀s' w',At G w0 w' []->lN w0 w' e s' (xs++[x])->R s' w'):
 mz w t size bytes z s (some ⟨b,0,none⟩,1,1) R:=by
 subst m;subst h;have a:=DB c.fr.size H.fr.size;have o:=(f.ext H.all).toN.of (Nat.le_of_eq (iE a));refine lD (ys:=[x]) o (qe a) j rfl ?_ n hb λs' w' p q _ d _=>k s' w' ((c.then H).below (zX a q d) d rfl) ?_
 ·refine(H.get g).oI (aG e _) λr=>?_;simp[flat]
 ·have:=p.toN;rw[iE a] at this;exact this
theorem aj.fQ (H:aL D G w0 w L) {b o:Nat} {l:List AF} (h:bK w0 b l) (hb:b∉G) {g:Option Bool} {el:El} {K:el.T->Prop} {x:el.T} (hv:kx l o el=some x) (k:K x):aj w g (some ⟨b,o,none⟩) el K:=
 .of x (dV (H.fQ h hb) hv) k
theorem aj.kX (H:aL D G w0 w L) {b o n:Nat} {l:List AF} (h:bK w0 b l) (hb:b∉G) {g:Option Bool} {el:El} {K:el.T->Prop} {x:el.T} (hv:kx l (o+n) el=some x) (k:K x):aj w g (ad (some ⟨b,o,none⟩) n) el K:=by
 rw[aW];exact .fQ H h hb hv k
theorem lN.start (w0 w:A2) (e:El):lN w0 w e (none,0,0) []:=lN.nil w0 w e
theorem aL.more (H:aL D G w0 w L) (h:Ext w w') {b:Nat} {l:List AF} (hb:w.heap.size<=b) (k:bK w' b l):aL D G w0 w' ((b,l)::L):=by
 have c:=H.ext h;refine⟨c.fr,λx a=>?_,λx a=>?_,?_,c.pQ⟩
 ·rcases B4.1 a with rfl|a
  ·grind
  ·exact c.dk x a
 ·rcases B4.1 a with rfl|a
  ·exact .inl (DB H.fr.size hb)
  ·exact c.own x a
 ·refine BX.2 ⟨λd=>?_,H.nd⟩;obtain⟨x,a,e⟩:=AH.1 d;have:=(H.dk x a).lt
  grind
theorem aL.got (H:aL D G w0 w L) (h:Ext w w') {e:El} {r:Option AB×Nat×Nat} {xs:List e.T} (a:lN w w' e r xs) (i:xs≠[]):
 ∃b c rest,r=(some ⟨b,0,none⟩,xs.length,c)/\aL D G w0 w' ((b,flat e xs++rest)::L):=by
 obtain⟨h1,j,d⟩:=a;obtain⟨p,n,c⟩:=r;rcases d with ⟨⟩|⟨b,l,a1,f,k, _,g⟩
 grind
 ·subst a1;subst h1;refine⟨b,c,l.drop (xs.length*aD e),rfl,H.more h f ?_⟩;have el:l=flat e xs++l.drop (xs.length*aD e):=by rw[<-g,Do]
  grind
theorem jJ {α:Sort _} {e:α} {K:α->Prop} (k:K e): ∀x,x=e->K x:=by grind
def TZ (P:DA) (c:DE) (args:Nat->List AF) (n:Nat) (b:Nat->Option (List AF)) (St:A2->Prop):Prop:=
 ∀(y:Nat) (w:A2) (J:Nat->A2->Prop) (a:A2->Prop),
  (∀i w w',J i w->Ext w w'->J i w')->(∀w w',a w->Ext w w'->a w')->(∀i w,J i w->St w)->
  (∀i,i<n->b i=none-> ∀w,J i w->J (i+1) w)->
  (∀i v,i<n->b i=some v-> ∀w (R:Bool->A2->Prop),J i w->(∀w',J (i+1) w'->R true w')->(∀w',a w'->R false w')->mj P y v w R)->
  J 0 w->Calls P c ⟨args y⟩ w (λe w'=> ∃v,e= .returned v/\(J n w'\/a w'))
section
variable {D G:List Nat} {w0 w:A2} {L:List (Nat×List AF)}
def xV (D G:List Nat) (w0 w:A2) (L:List (Nat×List AF)) (l:Nat) (rec:Loop):Prop:=w0.heap.size<=l/\aL D G w0 w L/\cT w l rec .ready none
def Bsy (D G:List Nat) (w0 w:A2) (L:List (Nat×List AF)) (l:Nat) (rec:Loop):Prop:=w0.heap.size<=l/\aL D G w0 w L/\cT w l rec .busy none
def XG (D G:List Nat) (w0 w:A2) (L:List (Nat×List AF)) (l:Nat) (rec:Loop) (j:Code):Prop:=w0.heap.size<=l/\aL D G w0 w L/\cT w l rec .done (some j)
theorem sa {l:Nat} {rec:Loop} {st:LoopState} {b:Option Code} (H:aL D G w0 w L) (h:cT w l rec st b):l∉D/\l∉L.map (·.1):=by
 refine⟨λa=>?_,λa=>?_⟩
 ·have:=(H.pQ l a).2;rw[h] at this
  grind
 ·obtain⟨x,c,e⟩:=AH.1 a;exact aL.dj (H.dk x c) h (by grind) e
theorem aL.sY {l:Nat} {rec:Loop} {st:LoopState} {a:Option Code} (H:aL D G w0 w L) (b:w0.heap.size<=l) (h:cT w l rec st a) (c:LoopState) (d:Option Code):aL D G w0 (RX.sY w l rec c d) L:=
 H.putObj b h (by grind) (sa H h).1
theorem De.go {l n m:Nat} {rec:Loop} {K:Prop} (h:xV D G w0 w L l rec) (a:n=m) (k:K):De l rec n m w K:=⟨⟨none,h.2.2⟩,a,k⟩
theorem BS.go {l:Nat} {rec:Loop} {K:A2->Prop} (h:xV D G w0 w L l rec) (k: ∀wb,At (L.map (·.1)) wb wb L->Bsy D G w0 wb L l rec->K wb):BS l rec w K:=λg b=>by
 obtain⟨c,H,e⟩:=h;have f:=H.ext b;have a:=e.ext b;have d:=f.sY c a .busy none;exact⟨none,a,k _ d.again ⟨c,d,a.put _ _⟩⟩
theorem sw.go {l:Nat} {rec:Loop} {j:Option Code} {wb d:A2} {L':List (Nat×List AF)} {R:Bool->A2->Prop} (h:Bsy D G w0 wb L l rec) (e:At (L.map (·.1)) wb d L')
 (k: ∀a,w0.heap.size<=l->aL D G w0 a L'->cT a l rec (if j.isNone then .ready else .done) j->R j.isNone a):sw l rec j d R:=λa f=>by
 obtain⟨g,H,b⟩:=h;have i:=(H.join (λx m=>m) e).ext f;have n:=b.same (e.fr.block l b.lt (sa H b).2);have c:=n.ext f;exact⟨.busy,none,c,k _ g (i.sY g c _ _) (c.put _ _)⟩
theorem sw.next {l:Nat} {rec:Loop} {wb e:A2} {L':List (Nat×List AF)} {R:Bool->A2->Prop} (h:Bsy D G w0 wb L l rec) (f:At (L.map (·.1)) wb e L') (k: ∀d,xV D G w0 d L' l rec->R true d):sw l rec none e R:=
 sw.go h f λd a b c=>k d ⟨a,b,c⟩
theorem sw.left {l:Nat} {rec:Loop} {j:Code} {wb e:A2} {L':List (Nat×List AF)} {R:Bool->A2->Prop} (h:Bsy D G w0 wb L l rec) (f:At (L.map (·.1)) wb e L') (k: ∀d,XG D G w0 d L' l rec j->R false d):sw l rec (some j) e R:=
 sw.go h f λd a b c=>k d ⟨a,b,c⟩
theorem dz.none {l:Nat} {rec:Loop} {Kn Kr:A2->Prop} {Kx:Nat->A2->Prop} (h:xV D G w0 w L l rec) (k: ∀a,aL D G w0 a L->Kn a):dz l rec w Kn Kx Kr:=
 ⟨.ready,.none,h.2.2,by simp,k _ (h.2.1.sY h.1 h.2.2 _ _)⟩
theorem dz.ret {l:Nat} {rec:Loop} {Kn Kr:A2->Prop} {Kx:Nat->A2->Prop} (h:XG D G w0 w L l rec .ret) (k: ∀a,aL D G w0 a L->Kr a):dz l rec w Kn Kx Kr:=
 ⟨.done,.some _,h.2.2,by simp,k _ (h.2.1.sY h.1 h.2.2 _ _)⟩
theorem vU: ∀(m:Nat) (z:List AF) (i:Nat),i<m*z.length->(Ft m z).flatten[i]? =z[i % z.length]?
 |0,z,i,h=>by grind
 |m+1,z,i,h=>by
  rw[List.replicate_succ,List.flatten_cons];by_cases hi:i<z.length
  ·rw[Gd hi,T6 hi]
  ·rw[Hq (by omega),vU m z _ (by grind), <-Nat.mod_eq_sub_mod (by omega)]
theorem GX (m:Nat) (z:List AF):nC ⟨z⟩ (m*z.length)=⟨(Ft m z).flatten⟩:=by
 have a:(Ft m z).flatten.length=m*z.length:=by simp
 apply NF;apply GG;intro i;unfold nC;by_cases i<m*z.length
 ·grind[vU]
 grind
theorem NJ.go (H:aL D G w0 w L) {bytes size:Nat} {n m:Int} {z:List AF} {e:FQ} {K:Nat->A2->Prop} (a:size=z.length) (h0:0<=n) (h1:n<=m) (c:m<4611686018427387904) (d:bytes*m<=281474976710656)
 (k: ∀b w1,aL D G w0 w1 ((b,(Ft m.toNat z).flatten)::L)->K b w1):NJ w bytes size n m ⟨z⟩ e K:=λw1 h=>by
 refine⟨⟨h0,by omega⟩,?_⟩;rw[a,GX];exact k _ _ ((H.ext h).alloc _ e)
theorem lH (e:El) (x:e.T) (m:Nat):flat e (Ft m x)=(Ft m (cellsOf e x)).flatten:=by
 simp[flat,List.flatMap_replicate]
theorem mz.copy (H:aL D G w0 w L) {e:El} {ys:List e.T} {b n c:Nat} {l:List AF} (hb:bK w b l) (o:l.take (ys.length*aD e)=flat e ys) (d:n=ys.length) (p:ys≠[]) (f:gT e=true) {t:FQ} {size bytes:Nat} {z:Array AF} (g:size=aD e) (h:z.size=aD e) (q:ys.length*bytes<=140737488355328)
 {R:Option AB×Nat×Nat->A2->Prop} (k: ∀a i rest w',aL D G w0 w' ((a,flat e ys++rest)::L)->R (some ⟨a,0,none⟩,n,i) w'):
 mz w t size bytes z (none,0,0) (some ⟨b,0,none⟩,n,c) R:=by
 subst g;subst d;refine lD (lN.nil w w e) (Ext.refl w) f rfl ?_ h (by grind) λs' w' j m _=>?_
 ·refine hb.oI (aG e ys) λhi=>?_
  grind
 ·obtain:=H.got m j
  grind
theorem sy.go {r:Nat} {K:A2->Prop} (H:aL [r] G w0 w L) (k: ∀w1,At G w0 w1 L->K w1):sy [r] w K:=λw1 h=>by
 have a:=H.ext h;have b:=a.pQ r (by simp);refine⟨⟨b.2,trivial⟩,k _ ?_⟩;have c:At G w0 w1 L:=⟨a.fr,a.dk,a.own,a.nd,by simp⟩;exact c.putObj b.1 b.2 (by grind) (by simp)
theorem z5.inv {P:DA} {p:DE} {args:Nat->List AF} {ps:Array Nat} {T:Type} {g:T->List AF} {q:Nat->Loop->T->A2->(Bool->A2->Prop)->Prop} {m:Nat->Loop->A2->Prop} (H:aL D G w0 w L)
 {n:Nat} {f:Nat->Option (List AF)} {St:A2->Prop} (u:TZ P p args n f St) (Inv:Nat->List (Nat×List AF)->Prop) (Q:Code->List (Nat×List AF)->Prop) (h0:Inv 0 L)
 (y: ∀z i w' L',Inv i L'->aL z G w0 w' L'->St w') (J: ∀i L',i<n->f i=none->Inv i L'->Inv (i+1) L') (K: ∀i v,i<n->f i=some v-> ∃x,v=g x)
 (M: ∀i x L',i<n->f i=some (g x)->Inv i L'-> ∀r l rec s (R:Bool->A2->Prop),xV (r::D) G w0 s L' l rec->(∀c w',Inv (i+1) c->xV (r::D) G w0 w' c l rec->R true w')->(∀j c w',Q j c->XG (r::D) G w0 w' c l rec j->R false w')->q l rec x s R)
 (N: ∀L' r rec d,Inv n L'->xV (r::D) G w0 d L' (r+1) rec->m r rec d) (O: ∀j L' r rec d,Q j L'->XG (r::D) G w0 d L' (r+1) rec j->m r rec d):z5 P p args ps w g q m:=by
 intro w1 h1 rec _ _ A B S;have t:=H.ext h1;have sz:(w1.alloc (.deferred (some []))).heap.size=w1.heap.size+1:=lC _ _;have C:rec={rec with state:= .ready,pending:= .none}:=by rw[<-A, <-B]
 have E:w0.heap.size<=w1.heap.size:=t.fr.size;have F:xV (w1.heap.size::D) G w0 ((w1.alloc (.deferred (some []))).alloc (.loop rec)) L (w1.heap.size+1) rec:=by
  refine⟨by omega,?_,?_⟩
  ·have e:=(t.rP (.deferred (some []))).rP (.loop rec);refine⟨e.fr,e.dk,e.own,e.nd,λr o=>?_⟩;rcases B4.1 o with rfl|o
   ·exact⟨E,(Ext.alloc _ _).obj (fB w1 _)⟩
   ·exact e.pQ r o
  ·have:=fB (w1.alloc (.deferred (some []))) (.loop rec);rw[sz] at this;unfold cT;rw[this,C]
 refine Calls.mono (u _ _ (λi w'=> ∃L',Inv i L'/\xV (w1.heap.size::D) G w0 w' L' _ rec) (λw'=> ∃j L',Q j L'/\XG (w1.heap.size::D) G w0 w' L' (w1.heap.size+1) rec j) ?_ ?_ ?_ ?_ ?_ ⟨L,h0,F⟩) ?_
 ·exact λi a b ⟨L',hi,h⟩ k=>⟨L',hi,h.1,h.2.1.ext k,h.2.2.ext k⟩
 ·exact λa b ⟨j,L',I,h⟩ k=>⟨j,L',I,h.1,h.2.1.ext k,h.2.2.ext k⟩
 ·exact λi a ⟨L',hi,h⟩=>y _ i a L' hi h.2.1
 ·grind
 grind
 grind
theorem z5.go {P:DA} {e:DE} {args:Nat->List AF} {ps:Array Nat} {T:Type} {c:T->List AF} {f:Nat->Loop->T->A2->(Bool->A2->Prop)->Prop} {d:Nat->Loop->A2->Prop} (H:aL D G w0 w L)
 {n:Nat} {b:Nat->Option (List AF)} {St:A2->Prop} (h:TZ P e args n b St) (Ls:Nat->List (Nat×List AF)) (Q:Code->List (Nat×List AF)->Prop) (h0:Ls 0=L)
 (p: ∀k i w',aL k G w0 w' (Ls i)->St w') (q: ∀i,i<n->b i=none->Ls (i+1)=Ls i) (m: ∀i v,i<n->b i=some v-> ∃x,v=c x)
 (s: ∀i x,i<n->b i=some (c x)-> ∀r l rec g (R:Bool->A2->Prop),xV (r::D) G w0 g (Ls i) l rec->(∀w',xV (r::D) G w0 w' (Ls (i+1)) l rec->R true w')->(∀j L' w',Q j L'->XG (r::D) G w0 w' L' l rec j->R false w')->f l rec x g R)
 (t: ∀r rec a,xV (r::D) G w0 a (Ls n) (r+1) rec->d r rec a) (o: ∀j L' r rec a,Q j L'->XG (r::D) G w0 a L' (r+1) rec j->d r rec a):z5 P e args ps w c f d:=
 z5.inv H h (λi L'=>L'=Ls i) Q h0.symm (by grind) (by grind) m
  (by grind) (by grind) o
theorem aL.aaZ (H:aL D G w0 w L) {b:Nat} (hb:b<w0.heap.size) (d:b∉G):b∉L.map (·.1):=λa=>by
 obtain⟨x,c,e⟩:=AH.1 a;rcases H.own x c
 grind
 grind
theorem aL.dv {wb w1:A2} {L':List (Nat×List AF)} (H:aL D G w0 wb L) (K:At (L.map (·.1)) wb w1 L') {b:Nat} {l:List AF} (h:bK w0 b l) (a:b∉G):bK w1 b l:=
 K.fQ (H.fQ h a) (H.aaZ h.lt a)
theorem At.rQ {b:Nat} {l:List AF} (h:bK w b l):At [b] w w [(b,l)] where
 fr:=Fr.refl _ w
 dk:=λa=>by grind
 own:=λx a=> .inr (by grind)
 nd:=by simp
 pQ:=λa=>by grind
theorem fV {w:A2} {b:Nat} {e:El} {xs:List e.T} {rest:List AF} (h:bK w b (flat e xs++rest)) {i:Nat} {x:e.T} (a:xs[i]? =some x):cI w (ad (some ⟨b,0,none⟩) (i*aD e)) e x:=
 (Sl.jI h (by simp[aG]) i x a).2
theorem yX (e:El): ∀(xs:List e.T) (i:Nat) (y:e.T) (rest:List AF),i<xs.length->(flat e xs++rest).take (i*aD e)++(cellsOf e y++(flat e xs++rest).drop (i*aD e+(cellsOf e y).length))=flat e (xs.set i y)++rest
 |x::xs,0,y,rest, _=>by
  simp[flat];rw[dt, <-dt,List.drop_left]
 |x::xs,i+1,y,rest,h=>by
  have a:=yX e xs i y rest (by grind);have b:(i+1)*aD e=(cellsOf e x).length+i*aD e:=by rw[dt,N8];omega
  simp[flat] at a ⊢;rw[b,List.take_length_add_append,DN,Nat.add_assoc,NS,a]
theorem az.flat (j:Nat) (H:aL D G w0 w L) {b i:Nat} {e:El} {xs:List e.T} {rest vs:List AF} (y:e.T) {K:A2->Prop} (a:L[j]? =some (b,RX.flat e xs++rest)) (hv:vs=cellsOf e y) (c:gT e=true) (hi:i<xs.length)
 (k: ∀w1,aL D G w0 w1 (L.set j (b,RX.flat e (xs.set i y)++rest))->K w1):az w (ad (some ⟨b,0,none⟩) (i*aD e)) vs K:=by
 rw[aW,Ca];subst hv;refine az.at j H a ?_ ?_ λw1 h1=>k w1 ?_
 ·have:=jP e [y] c;simpa[RX.flat]
 ·rw[dt,BO,aG];have:(i+1)*aD e<=xs.length*aD e:=Gj _ hi
  grind
 ·rw[yX e xs i y rest hi] at h1;grind
theorem aA.Dt (H:aL D G w0 w L) (j:Nat) {b:Nat} {l l':List AF} (c:L[j]? =some (b,l)) {P:DA} {f:DE} {s:Sh} {args:List AF} {v:s.T} {K:s.T->A2->Prop}
 (hc: ∀w1,aL D G w0 w1 L->aC P f s args w1 (λx w'=>x=v/\bK w' b l'/\Fr [b] w1 w')) (k: ∀a,aL D G w0 a (L.set j (b,l'))->K v a):aA P f s args w K:=λw1 h=>
 (hc w1 (H.ext h)).mono λx a ⟨d,hb,e⟩=>by subst d;exact k a ((H.ext h).mod j c e hb)
theorem aA.val (H:aL D G w0 w L) {P:DA} {f:DE} {s:Sh} {args:List AF} (v:s.T) {K:s.T->A2->Prop}
 (hc: ∀w1,aL D G w0 w1 L->aC P f s args w1 (λx w'=>x=v/\Ext w1 w')) (k: ∀a,aL D G w0 a L->K v a):aA P f s args w K:=λw1 h=>
 (hc w1 (H.ext h)).mono λx a ⟨b,c⟩=>by subst b;exact k a ((H.ext h).ext c)
theorem ae.of {P:DA} {f:DE} {s:Sh} {args:List AF} {v:s.T} (h: ∀w',Ext w w'->aC P f s args w' (λx a=>x=v/\Ext w' a)):ae P f args w (s.gK v):=
 λw' b=>bU (h w' b)
theorem aL.grow {e:El} {s:Option AB×Nat×Nat} {xs:List e.T} {x:e.T} {b:Nat} {Ls L0:List (Nat×List AF)} (H:aL D G w0 w ((b,cellsOf e x)::(Ls++L0)))
 (q:(s=(none,0,0)/\xs=[]/\Ls=[])\/ ∃bs c rest,s=(some ⟨bs,0,none⟩,xs.length,c)/\Ls=[(bs,flat e xs++rest)]/\(flat e xs++rest).length=c*aD e/\xs.length<=c)
 (Q:gT e=true) {t:FQ} {size bytes:Nat} {z:Array AF} (v:size=aD e) (S:z.size=aD e) (hb:(xs.length+1)*bytes<=140737488355328)
 {R:Option AB×Nat×Nat->A2->Prop} (k: ∀bs c rest w',(flat e (xs++[x])++rest).length=c*aD e->xs.length+1<=c->aL D G w0 w' ((bs,flat e (xs++[x])++rest)::L0)->R (some ⟨bs,0,none⟩,xs.length+1,c) w'):
 mz w t size bytes z s (some ⟨b,0,none⟩,1,1) R:=by
 subst v;have U:(vG 0 w).heap.size=0:=iE (GJ _);have V:lN (vG 0 w) w e s xs:=by
  rcases q with ⟨rfl,rfl, _⟩|⟨bs,c,rest,rfl,rfl,h1,m⟩
  ·exact lN.nil _ _ _
  ·refine⟨rfl,m,.inr ⟨bs, _,rfl,by rw[U];exact GJ _,H.get (i:=1) rfl,h1,?_⟩⟩;rw[JS (by rw[aG];exact Db _),JU (by rw[aG];exact Db _)]
 have W:bK w b (cellsOf e x):=H.get (i:=0) rfl;refine lD (ys:=[x]) V (qe (GJ _)) Q rfl ?_ S hb λs' w' X g I v J=>?_
 ·refine W.oI (aG e [x]) λj hj=>?_;simp[flat]
 ·obtain⟨p,n,c⟩:=s';obtain⟨h1,m,K⟩:=X;simp only at h1 m K J;have Y:(xs++[x]).length=xs.length+1:=by simp
  rcases K with ⟨_,Z, _⟩|⟨bs,l,a1, _,a3,a4,a5⟩
  ·simp at Z
  ·subst a1;rw[Y] at h1 m;subst h1;have el:l=flat e (xs++[x])++l.drop ((xs++[x]).length*aD e):=by rw[<-a5,Do]
   refine k bs c (l.drop ((xs++[x]).length*aD e)) w' (by rw[<-el];exact a4) m ?_;rw[<-el];have hG': ∃B,Fr B w w'/\(∀y∈B,y∈Ls.map (·.1)):=by
    rcases q with ⟨rfl, _,rfl⟩|⟨bo,co,L,rfl,rfl, _, _⟩
    ·exact⟨[],⟨g.os,g.tape,g.output,v,λy d _=>I y d (λa C=>by cases C)⟩,λy d=>by cases d⟩
    ·exact⟨[bo],⟨g.os,g.tape,g.output,v,λy d hn=>I y d (λa C=>by cases C;simpa using hn)⟩,λy d=>by simpa using d⟩
   obtain⟨B,M,N⟩:=hG';have E:=H.nd;simp only[C5,FR,BX,Hr,Fw] at E;have O: ∀y∈Ls.map (·.1),w0.heap.size<=y\/y∈G:=λy d=>by
    obtain⟨u,o,rfl⟩:=AH.1 d;exact H.own u (B5 _ (Cc _ o))
   have P:bs∈Ls.map (·.1)\/w.heap.size<=bs:=by
    rcases J with ⟨a,f,A⟩|⟨a,f,A⟩|f
    ·cases f;rcases q with ⟨rfl, _, _⟩|⟨bo,co,L,rfl,rfl, _, _⟩
     ·cases A
     ·cases A;exact .inl (by simp)
    ·cases f;exact .inr A
    ·rcases q with ⟨rfl, _, _⟩|⟨bo,co,L,rfl,rfl, _, _⟩
     ·cases f
     grind
   refine H.frame M (λy d=>O y (N y d)) (λr hr d=>?_) (λy d=>?_) (λy d=>?_) ?_
   ·obtain⟨u,o,f⟩:=AH.1 (N r d);exact aL.dj (H.dk u (B5 _ (Cc _ o))) (H.pQ r hr).2 (λ_ _ _ hc=>by cases hc) f
   ·rcases B4.1 d with rfl|d
    ·exact a3
    ·refine M.dk (λF=>?_) (H.dk y (B5 _ (DQ _ d)))
     grind
   ·rcases B4.1 d with rfl|d
    ·rcases P with h|h
     ·exact O _ h
     ·exact .inl (DB H.fr.size h)
    ·exact H.own y (B5 _ (DQ _ d))
   ·refine BX.2 ⟨λF=>?_,E.2.2.1⟩;rcases P with h|h
    ·exact E.2.2.2 bs h bs F rfl
    ·obtain⟨u,o,f⟩:=AH.1 F;have:=(H.dk u (B5 _ (DQ _ o))).lt;simp only at f h;omega
def n9 (e:El) (rows:List (Nat×List AF)) (r:Option AB×Nat×Nat) (xs:List e.T):Prop:=
 r.2.1=xs.length/\((xs=[]/\rows=[])\/ ∃b rest,r.1=some ⟨b,0,none⟩/\rows=[(b,RX.flat e xs++rest)])
theorem aL.abW {w':A2} (H:aL D G w0 w L) (h:Ext w w') {e:El} {r:Option AB×Nat×Nat} {xs:List e.T} (a:lN w w' e r xs): ∃rows,aL D G w0 w' (L++rows)/\n9 e rows r xs:=by
 by_cases d:xs=[]
 ·exact⟨[],by rw[GH];exact H.ext h,a.len,by grind⟩
 ·obtain⟨b,c,rest,rfl,f⟩:=H.got h a d;exact⟨[(b,RX.flat e xs++rest)],f.perm (Nv _ _),rfl,by simp⟩
theorem n9.sl {e:El} {rows:List (Nat×List AF)} {r:Option AB×Nat×Nat} {xs:List e.T} (h:n9 e rows r xs) (H:aL D G w0 w L) (a: ∀x∈rows,x∈L):Sl w e r.1 xs:=by
 rcases h.2 with ⟨rfl, _⟩|⟨b,rest,h1,rfl⟩
 ·intro;grind
 ·rw[h1];refine Sl.jI (H.dk _ (a _ (DH.2 rfl))) ?_;rw[JS (by rw[aG];simp),JU (by rw[aG];simp)]
theorem aA.YC (H:aL D G w0 w L) {P:DA} {f:DE} {args:List AF} {e:El} {xs:List e.T} {K:(Option AB×Nat×Nat)->A2->Prop}
 (hc: ∀w',aL D G w0 w' L->aC P f (.el (.one .slice)) args w' (λr a=>lN w' a e r xs/\Ext w' a)) (k: ∀r rows w1,aL D G w0 w1 (L++rows)->n9 e rows r xs->K r w1):
 aA P f (.el (.one .slice)) args w K:=λw1 h=>(hc w1 (H.ext h)).mono λx d ⟨b,c⟩=>by
 obtain:=(H.ext h).abW c b
 grind
end
def NC (o:AT):Prop:= ∀a t f,o≠ .cells a t f
def Ob (l:Nat) (w w':A2):Prop:= ∀r o,r≠l->NC o->w.heap[r]? =some o->w'.heap[r]? =some o
theorem Ob.trans {l:Nat} {a b c:A2} (h:Ob l a b) (k:Ob l b c):Ob l a c:=λr o d e f=>k r o d e (h r o d e f)
theorem Ob.u5 {l:Nat} {a b:A2} (h:Ext a b):Ob l a b:=λ_ _ _ _ c=>h.obj c
theorem Ob.put (l:Nat) (w:A2) (o:AT):Ob l w (w.putObj l o):=λr o' a _ b=>by rw[fJ a];grind
structure JK {T:Type} (bm:Nat) (mc:List AF->Prop) (J:List T->List (Nat×List AF)->List (Nat×AT)->A2->Prop):Prop where
 step: ∀{a X O w w' l' Y},J a X O w->Fr [bm] w w'->bK w' bm l'->mc l'->(∀y∈Y,w.heap.size<=y.1/\bK w' y.1 y.2)->(Y.map (·.1)).Nodup->J a (Y++X) O w'
 mem: ∀{a X O w},J a X O w-> ∃l,mc l/\bK w bm l
 dk: ∀{a X O w x},J a X O w->x∈X->x.1≠bm/\bK w x.1 x.2
 obj: ∀{a X O w r o},J a X O w->(r,o)∈O->w.heap[r]? =some o
 alO: ∀{a X O w o},J a X O w->NC o->J a X ((w.heap.size,o)::O) (w.alloc o)
 puO: ∀{a X O w r o o'},J a X ((r,o)::O) w->NC o'->J a X ((r,o')::O) (w.putObj r o')
 sub: ∀{a X O X' O' w},J a X O w->(∀x∈X',x∈X)->O'.Sublist O->J a X' O' w
 perm: ∀{a X O O' w},J a X O w->O'.Perm O->J a X O' w
def Yd {T:Type} (P:DA) (y:Nat) (b:T->List AF) (N:Nat) (J:List T->List (Nat×List AF)->List (Nat×AT)->A2->Prop):Prop:=
 ∀a x X O w (R:Bool->A2->Prop),a.length<N->J a X O w->(∀w',J (a++[x]) X O w'->R true w')->mj P y (b x) w R
def ItJ {T:Type} (P:DA) (b:DE) (args:Nat->List AF) (c:T->List AF) (N bm:Nat) (mc:List AF->Prop) (d:List (Nat×List AF)) (xs:List T):Prop:=
 ∀(y:Nat) (J:List T->List (Nat×List AF)->List (Nat×AT)->A2->Prop),JK bm mc J->Yd P y c N J-> ∀a X O w,a.length+xs.length<=N->(∀x∈d,x∈X)->J a X O w->
  Calls P b ⟨args y⟩ w (λe w'=> ∃v,e= .returned v/\J (a++xs) X O w')
section
variable {T:Type} {bm:Nat} {mc:List AF->Prop} {J:List T->List (Nat×List AF)->List (Nat×AT)->A2->Prop} {a:List T} {X:List (Nat×List AF)} {O:List (Nat×AT)} {w w':A2}
theorem JK.ext (K:JK bm mc J) (j:J a X O w) (h:Ext w w'):J a X O w':=by
 obtain⟨l,h1,b⟩:=K.mem j;exact K.step (Y:=[]) j (.u5 h) (b.ext h) h1 (by grind) (by grind)
theorem JK.tq (K:JK bm mc J) (j:J a X O w) {Y:List (Nat×List AF)} {l':List AF} (H:At [bm] w w' (Y++[(bm,l')])) (c:mc l'):J a (Y++X) O w':=by
 have b:=H.nd;rw[FR,Hr] at b;refine K.step j H.fr (H.dk (bm,l') (by simp)) c (λy d=>⟨?_,H.dk y (by grind)⟩) b.1;rcases H.own y (by grind)
 ·grind
 grind
theorem JK.at0 (K:JK bm mc J) (j:J a X O w): ∃l,mc l/\At [bm] w w [(bm,l)]:=by
 obtain⟨l,h1,b⟩:=K.mem j;exact⟨l,h1,At.rQ b⟩
theorem JK.close (K:JK bm mc J): ∀(D:List Nat) {w:A2},J a X (D.map (λr=>(r,Obj.deferred (some [])))++O) w->DG D w/\J a X O (mn D w)
 |[], _,j=>⟨trivial,j⟩
 |r::D,w,j=>by
  have h:=K.obj j (r:=r) (o:= .deferred (some [])) (by simp);have b:=K.puO (o':= .deferred none) j λ_=>by grind
  obtain⟨h1,c⟩:=K.close D (K.sub b (λ_ h=>h) (Dr _ _));exact⟨⟨h,h1⟩,c⟩
theorem JK.sy (K:JK bm mc J) (D:List Nat) (j:J a X (D.map (λr=>(r,Obj.deferred (some [])))++O) w) {Q:A2->Prop} (k: ∀w1,J a X O w1->Q w1):sy D w Q:=λw1 h1=>by
 obtain:=K.close D (K.ext j h1)
 grind
abbrev JV (rec:Loop):AT:= .loop {rec with state:= .ready,pending:=none}
abbrev lpB (rec:Loop):AT:= .loop {rec with state:= .busy,pending:=none}
theorem Iu (rec:Loop) (st:LoopState) (a:Option Code):NC (.loop {rec with state:=st,pending:=a}):=λe=>by grind
theorem De.XJ (K:JK bm mc J) {l n m:Nat} {rec:Loop} (j:J a X ((l,JV rec)::O) w) {Q:Prop} (b:n=m) (k:Q):De l rec n m w Q:=⟨⟨none,K.obj j (by simp)⟩,b,k⟩
theorem BS.XJ (K:JK bm mc J) {l:Nat} {rec:Loop} (j:J a X ((l,JV rec)::O) w) {Q:A2->Prop} (k: ∀wb,J a X ((l,lpB rec)::O) wb->Q wb):BS l rec w Q:=λd c=>by
 have b:=K.ext j c;exact⟨none,K.obj b (by simp),k _ (K.puO b (Iu rec _ _))⟩
theorem sw.XJ (K:JK bm mc J) {l:Nat} {rec:Loop} (j:J a X ((l,lpB rec)::O) w) {R:Bool->A2->Prop} (k: ∀b,J a X ((l,JV rec)::O) b->R true b):sw l rec none w R:=λe d=>by
 have c:=K.ext j d;exact⟨.busy,none,K.obj c (by simp),k _ (K.puO c (Iu rec _ _))⟩
theorem dz.XJ (K:JK bm mc J) {l:Nat} {rec:Loop} (j:J a X ((l,JV rec)::O) w) {Kn Kr:A2->Prop} {Kx:Nat->A2->Prop} (k: ∀b,J a X O b->Kn b):dz l rec w Kn Kx Kr:=
 ⟨.ready,.none,K.obj j (by simp),by simp,k _ (K.sub (K.puO j (Iu rec _ _)) (λ_ h=>h) (by grind))⟩
end
section
variable {D G:List Nat} {w0 w:A2} {L:List (Nat×List AF)}
theorem BS.goO {l:Nat} {rec:Loop} {K:A2->Prop} (h:xV D G w0 w L l rec) (k: ∀wb,At (L.map (·.1)) wb wb L->Bsy D G w0 wb L l rec->Ob l w wb->K wb):BS l rec w K:=λg a=>by
 obtain⟨c,H,e⟩:=h;have f:=H.ext a;have b:=e.ext a;have d:=f.sY c b .busy none;exact⟨none,b,k _ d.again ⟨c,d,b.put _ _⟩ ((Ob.u5 a).trans (Ob.put _ _ _))⟩
theorem Ob.tq {l:Nat} {wb a:A2} {L':List (Nat×List AF)} (H:aL D G w0 wb L) (c:At (L.map (·.1)) wb a L'):Ob l wb a:=λr o _ d b=>by
 rw[c.fr.block r (Dh.1 b).1 λf=>?_]
 ·grind
 ·obtain⟨x,g,e⟩:=AH.1 f;exact aL.dj (H.dk x g) b d e
theorem sw.k_ {l:Nat} {rec:Loop} {wb f:A2} {L':List (Nat×List AF)} {R:Bool->A2->Prop} (h:Bsy D G w0 wb L l rec) (b:At (L.map (·.1)) wb f L') (k: ∀a,xV D G w0 a L' l rec->Ob l wb a->R true a):sw l rec none f R:=λa c=>by
 obtain⟨g,H,d⟩:=h;have i:=(H.join (λx j=>j) b).ext c;have m:=d.same (b.fr.block l d.lt (sa H d).2);have e:=m.ext c;exact⟨.busy,none,e,k _ ⟨g,i.sY g e _ _,e.put _ _⟩ (((Ob.tq H b).trans (Ob.u5 c)).trans (Ob.put _ _ _))⟩
theorem z5.Od {T:Type} {P:DA} {fY:DE} {args:Nat->List AF} {ps:Array Nat} {em:T->List AF} {Rd:Nat->Loop->T->A2->(Bool->A2->Prop)->Prop} {Af:Nat->Loop->A2->Prop} {N bm:Nat} {mc:List AF->Prop} {X0:List (Nat×List AF)} {xs:List T}
 {F:List AF} {Rg0 Lb:List (Nat×List AF)} (H:aL D G w0 w (Rg0++((bm,F)::Lb))) (hm0:mc F) (It:ItJ P fY args em N bm mc X0 xs) (hX: ∀x∈X0,x∈Lb) (hN:xs.length<=N) (B:List T->List (Nat×List AF)->Prop) (h0:B [] Rg0)
 (yi: ∀b x c Z r l rec p (R:Bool->A2->Prop),b.length<N->B b c->xV (r::D) G w0 p (c++Z) l rec->(∀I w',B (b++[x]) I->xV (r::D) G w0 w' (I++Z) l rec->Ob l p w'->R true w')->Rd l rec x p R)
 (haf: ∀r rec M l' c,mc l'->B xs c->xV (r::D) G w0 M (c++((bm,l')::Lb)) (r+1) rec->Af r rec M):z5 P fY args ps w em Rd Af:=by
 intro w1 h1 rec _ _ vw Xy o_;have H1:=H.ext h1;have sz:(w1.alloc (.deferred (some []))).heap.size=w1.heap.size+1:=lC _ _;have xZ:rec={rec with state:= .ready,pending:= .none}:=by rw[<-vw, <-Xy]
 have gW:w0.heap.size<=w1.heap.size:=H1.fr.size;have hW:xV (w1.heap.size::D) G w0 ((w1.alloc (.deferred (some []))).alloc (.loop rec)) (Rg0++((bm,F)::Lb)) (w1.heap.size+1) rec:=by
  refine⟨by omega,?_,?_⟩
  ·have C:=(H1.rP (.deferred (some []))).rP (.loop rec);refine⟨C.fr,C.dk,C.own,C.nd,λr f=>?_⟩;rcases B4.1 f with rfl|f
   ·exact⟨gW,(Ext.alloc _ _).obj (fB w1 _)⟩
   ·exact C.pQ r f
  ·have:=fB (w1.alloc (.deferred (some []))) (.loop rec);rw[sz] at this;unfold cT;rw[this, <-xZ]
 generalize hR:w1.heap.size=rr at*
 let J:List T->List (Nat×List AF)->List (Nat×AT)->A2->Prop:=λb X O w'=> ∃l' c Y,mc l'/\B b c/\xV (rr::D) G w0 w' (c++((bm,l')::(Y++Lb))) (rr+1) rec/\(∀x∈X,x∈Y++Lb)/\(∀x∈O,w'.heap[x.1]? =some x.2/\NC x.2/\w0.heap.size<=x.1/\x.1≠rr+1/\x.1∉rr::D)/\(O.map (·.1)).Nodup
 have K:JK bm mc J:=by
  refine⟨?_,?_,?_,?_,?_,?_,?_,?_⟩
  ·rintro b X O k p Q t ⟨l',c,Y,hm,i,⟨h1,d,q⟩,a,g,j⟩ S hb hl hy hyn;have u:(bm,l')∈c++((bm,l')::(Y++Lb)):=by simp
   have dv: ∀x∈c++(Y++Lb),bK p x.1 x.2/\x.1<k.heap.size:=λx a=>by
    have vx:x∈c++((bm,l')::(Y++Lb)):=by
     rcases Fw.1 a with h|h
     ·exact Cc _ h
     ·exact DQ _ (B5 _ h)
    have hk:=d.dk x vx;refine⟨S.dk ?_ hk,hk.lt⟩;intro hc;rw[DH] at hc;have y:=d.nd;have s:((bm,l')::(c++(Y++Lb))).Perm (c++((bm,l')::(Y++Lb))):=B3.symm;have A:=((s.map (·.1)).nodup_iff).2 y;rw[C5,BX] at A;exact A.1 (AH.2 ⟨x,a,hc⟩)
   refine⟨Q,c,t++Y,hl,i,⟨h1,?_,?_⟩,λx m=>?_,λx m=>?_,j⟩
   ·have y:=d.nd;have s:((bm,l')::(c++(Y++Lb))).Perm (c++((bm,l')::(Y++Lb))):=B3.symm;have A:=((s.map (·.1)).nodup_iff).2 y;have sS:((bm,Q)::(t++(c++(Y++Lb)))).Perm (c++((bm,Q)::(t++Y++Lb))):=by
     refine List.Perm.trans (Cd _ ?_) B3.symm;rw[DN, <-DN t c, <-DN c t];exact List.perm_append_comm.append_right _
    refine aL.perm (L:=(bm,Q)::(t++(c++(Y++Lb)))) ?_ sS.symm;refine d.frame S (λx a=>?_) (λr f a=>?_) (λx a=>?_) (λx a=>?_) ?_
    ·rw[DH.1 a];exact d.own (bm,l') u
    ·rw[DH] at a;exact aL.dj (d.dk (bm,l') u) (d.pQ r f).2 (λ_ _ _ hc=>by cases hc) a.symm
    ·rcases B4.1 a with rfl|a
     ·exact hb
     ·rcases Fw.1 a with a|a
      ·exact(hy x a).2
      ·exact(dv x a).1
    ·rcases B4.1 a with rfl|a
     ·exact d.own (bm,l') u
     ·rcases Fw.1 a with a|a
      ·exact .inl (DB d.fr.size (hy x a).1)
      ·refine d.own x ?_;rcases Fw.1 a with h|h
       ·exact Cc _ h
       ·exact DQ _ (B5 _ h)
    ·rw[C5,BX] at A;rw[C5,FR,BX,Hr];have fresh: ∀x∈t, ∀z,z<k.heap.size->x.1≠z:=λx a z hz e=>by
      have:=(hy x a).1;omega
     refine⟨λhm=>?_,hyn,A.2,λx a z hz e=>?_⟩
     ·rcases Fw.1 hm with hm|hm
      ·obtain⟨x,a,e⟩:=AH.1 hm;exact fresh x a bm (d.dk (bm,l') u).lt e
      ·exact A.1 hm
     ·obtain⟨x1,ov,e1⟩:=AH.1 a;obtain⟨z1,Ws,e2⟩:=AH.1 hz;exact fresh x1 ov z1.1 (dv z1 Ws).2 (by rw[e1,e2,e])
   ·refine q.same (S.block _ q.lt (λhc=>?_));rw[DH] at hc;exact aL.dj (d.dk (bm,l') u) q (λ_ _ _ hc=>by cases hc) hc.symm
   grind
   ·obtain⟨o1,n,E⟩:=g x m;refine⟨?_,n,E⟩;rw[S.block x.1 (Dh.1 o1).1 (λhc=>?_)]
    ·exact o1
    ·rw[DH] at hc;exact aL.dj (d.dk (bm,l') u) o1 n hc.symm
  ·rintro b X O k ⟨l',c,Y,hm,i,f,a,g,j⟩;exact⟨l',hm,f.2.1.dk (bm,l') (by simp)⟩
  ·rintro b X O k x ⟨l',c,Y,hm,i,f,a,g,j⟩ m;have s:((bm,l')::(c++(Y++Lb))).Perm (c++((bm,l')::(Y++Lb))):=B3.symm;have d:=f.2.1.perm s;have U:x∈c++(Y++Lb):=DQ _ (a x m);refine⟨λe=>?_,d.dk x (B5 _ U)⟩;have y:=d.nd;rw[C5,BX] at y;exact y.1 (AH.2 ⟨x,U,e⟩)
  ·rintro b X O k r o ⟨l',c,Y,hm,i,f,a,g,j⟩ U;exact(g (r,o) U).1
  ·rintro b X O k o ⟨l',c,Y,hm,i,⟨h1,d,q⟩,a,g,j⟩ Xs;have V:=Ext.alloc k o;refine⟨l',c,Y,hm,i,⟨h1,d.rP o,q.ext V⟩,a,λx m=>?_,?_⟩
   ·rcases B4.1 m with rfl|m
    ·refine⟨fB k o,Xs,d.fr.size,λe=>?_,λhc=>?_⟩
     ·have:=q.lt;simp only at e;omega
     ·have:=(Dh.1 (d.pQ _ hc).2).1;simp only at this;omega
    ·obtain⟨o1,n⟩:=g x m;exact⟨V.obj o1,n⟩
   ·rw[C5,BX];refine⟨λhc=>?_,j⟩;obtain⟨x,m,e⟩:=AH.1 hc;have:=(Dh.1 (g x m).1).1;simp only at e;omega
  ·rintro b X O k r o o' ⟨l',c,Y,hm,i,⟨h1,d,q⟩,a,g,j⟩ Xs;obtain⟨o1,n,E,W,o5⟩:=g (r,o) Bx;rw[C5,BX] at j;refine⟨l',c,Y,hm,i,⟨h1,d.putObj E o1 n o5,?_⟩,a,λx m=>?_,?_⟩
   ·unfold cT;rw[fJ (λe=>W e.symm)];exact q
   ·grind[jY,B5,fJ]
   ·rw[C5,BX];exact j
  ·rintro b X O X' O' k ⟨l',c,Y,hm,i,f,a,g,j⟩ hs hO;exact⟨l',c,Y,hm,i,f,λx h=>a x (hs x h),λx h=>g x (hO.subset h),(hO.map _).nodup j⟩
  ·rintro b X O O' k ⟨l',c,Y,hm,i,f,a,g,j⟩ s;exact⟨l',c,Y,hm,i,f,a,λx h=>g x (s.subset h),(s.map _).nodup_iff.2 j⟩
 have Y:Yd P (rr+1) em N J:=by
  rintro b x X O p R hb ⟨l',c,Y,hm,i,f,a,g,j⟩ hR;refine o_ x p R (yi b x c _ rr (rr+1) rec p R hb i f λI w' uL Tk hO=>hR w' ⟨l',I,Y,hm,uL,Tk,a,λx h=>?_,j⟩);obtain⟨o1,n,E,W,o5⟩:=g x h;exact⟨hO _ _ W n o1,n,E,W,o5⟩
 refine Calls.mono (It (rr+1) J K Y [] Lb [] _ (by simpa using hN) hX ⟨F,Rg0,[],hm0,h0,hW,λx h=>h,λx h=>(by cases h),FU⟩) ?_;rintro e M ⟨v,V,l',c,Y,hm,i,f,a,g,j⟩;refine⟨v,V,haf rr rec M l' c hm i ⟨f.1,f.2.1.sub ?_,f.2.2⟩⟩;exact List.Sublist.append (J4 _) (J5 _ (O2 _ _))
end
end Go.RX
namespace Go.Proofs.YtlcenllcmeebhaaGreat
set_option maxRecDepth 100000
open Go.RX
def du (e:El) (s:Option AB×Nat×Nat) (xs:List e.T) (Ls:List (Nat×List AF)):Prop:=
 s.2.1=xs.length/\xs.length<=s.2.2/\((s.1=none/\s.2.2=0/\Ls=[])\/ ∃bs rest,s.1=some ⟨bs,0,none⟩/\Ls=[(bs,flat e xs++rest)]/\s.2.2*aD e<=(flat e xs++rest).length)
theorem du.nil (e:El):du e (none,0,0) [] []:=⟨rfl,Db _,.inl ⟨rfl,rfl,rfl⟩⟩
section
variable {D G:List Nat} {w0 w w1:A2} {L L0 Ls:List (Nat×List AF)} {e:El} {s:Option AB×Nat×Nat} {xs:List e.T}
theorem du.sl (h:du e s xs Ls) (H:aL D G w0 w L) (b: ∀x∈Ls,x∈L):Sl w e s.1 xs:=by
 obtain⟨h1,f,⟨a1,a,c⟩|⟨bs,rest,a1,a,c⟩⟩:=h
 ·have:xs=[]:=I1 (by omega);subst this;intro i x d;simp at d
 ·rw[a1];refine Sl.jI (H.dk _ (b _ (by rw[a];exact DH.2 rfl))) ?_;rw[JS (by rw[aG];exact Db _),JU (by rw[aG];exact Db _)]
theorem du.oI (h:du e s xs Ls) (H:aL D G w0 w L) (b: ∀x∈Ls,x∈L):oI w s.1 (s.2.1*aD e) (flat e xs):=by
 obtain⟨h1,d,⟨a1,a,c⟩|⟨bs,rest,a1,a,c⟩⟩:=h
 ·have:xs=[]:=I1 (by omega);subst this;rw[a1];rfl
 ·rw[a1];refine bK.oI (vs:=flat e xs) (H.dk _ (b _ (by rw[a];exact DH.2 rfl))) (by rw[aG,h1]) λi hi=>?_;rw[Ca,Gd (by rw[aG, <-h1];exact hi)]
theorem aL.T1 (H:aL D G w0 w (Ls++L0)) (m:du e s xs Ls) (u:gT e=true) {q:Option AB×Nat×Nat} {ys:List e.T} (a:q.2.1=ys.length) (v:Go.RX.oI w q.1 (q.2.1*aD e) (flat e ys))
 {t:FQ} {size bytes:Nat} {z:Array AF} (y:size=aD e) (A:z.size=aD e) (hb:(xs.length+ys.length)*bytes<=140737488355328) {R:Option AB×Nat×Nat->A2->Prop}
 (k: ∀s' n w',du e s' (xs++ys) n->aL D G w0 w' (n++L0)->R s' w'):mz w t size bytes z s q R:=by
 subst y;have B:=m.oI H (λx g=>Cc _ g);obtain⟨h1,K,C⟩:=m;have h:=aG e xs;have E:=aG e ys;refine⟨flat e xs,flat e ys,B,v,λb=>?_,λb=>⟨growslice_fits b (by rw[h1,a];exact hb),λc hc=>?_⟩⟩
 ·rcases C with ⟨a1,d,f⟩|⟨bs,rest,a1,d,f⟩
  ·rw[d] at b;have F:ys=[]:=I1 (by omega);have g:xs=[]:=I1 (by omega);subst F;subst g;subst f;refine⟨.inl rfl,?_⟩;rw[a1];exact k _ [] _ ⟨by rw[h1,a];rfl,GJ _,.inl ⟨rfl,d,rfl⟩⟩ H
  ·subst d;have I:s.1.map (·.add (s.2.1*aD e))=some ⟨bs,xs.length*aD e,none⟩:=by rw[a1,h1];simp[N9]
   rw[I];have j:xs.length*aD e+(flat e ys).length<=(flat e xs++rest).length:=by
    rw[E, <-N8];exact DB (Gj _ (by rw[<-h1, <-a];exact b)) f
   refine⟨.inr ⟨(H.get (i:=0) rfl).st j,jP e ys u⟩,?_⟩;have p:=H.put 0 (o:=xs.length*aD e) rfl (flat e ys) j;have l:(flat e xs++rest).take (xs.length*aD e)=flat e xs:=List.take_left' h;have J:(flat e xs++rest).drop (xs.length*aD e+(flat e ys).length)=rest.drop (flat e ys).length:=by rw[<-h,NS]
   rw[l,J, <-DN, <-dP] at p;refine k (s.1,s.2.1+q.2.1,s.2.2) [(bs,flat e (xs++ys)++rest.drop (flat e ys).length)] _ ⟨by rw[h1,a,BO],by rw[BO, <-h1, <-a];exact b,.inr ⟨bs, _,a1,rfl,?_⟩⟩ p;refine DB f ?_;rw[dP];simp only[BO,FS];simp only[BO,h] at j;omega
 ·have r:=(H.ext (Ext.drew w)).alloc (flat e xs++flat e ys++(H7 z (c - (s.2.1+q.2.1))).toList) t;have l:(NI (flat e xs)++NI (flat e ys)++H7 z (c - (s.2.1+q.2.1)))=⟨flat e xs++flat e ys++(H7 z (c - (s.2.1+q.2.1))).toList⟩:=by
   apply NF;simp
  rw[l];rw[<-dP] at r ⊢;refine k _ [(w.heap.size,flat e (xs++ys)++(H7 z (c - (s.2.1+q.2.1))).toList)] _ ⟨by rw[h1,a,BO],by rw[BO, <-h1, <-a];exact hc,.inr ⟨_, _,rfl,rfl,?_⟩⟩ (r.sub ((O2 Ls L0).cons_cons _));simp only[BO,aG,H7,Array.length_toList,Array.size_map,Array.size_range,A];rw[<-N8];exact Gj _ (by omega)
theorem du.st {i:Nat} (h:du e s xs Ls) (H:aL D G w0 w (Ls++L0)) (hi:i<xs.length) (y:e.T) {vs:List AF} (hv:vs=cellsOf e y) (d:gT e=true) {K:A2->Prop}
 (k: ∀b w1,du e s (xs.set i y) b->aL D G w0 w1 (b++L0)->K w1):az w (ad s.1 (i*aD e)) vs K:=by
 obtain⟨h1,f,⟨a1,c,a⟩|⟨bs,rest,a1,c,a⟩⟩:=h
 ·omega
 ·subst c;rw[a1];refine az.flat 0 H y rfl hv d hi λw1 g=>k [(bs,flat e (xs.set i y)++rest)] w1 ⟨by rw[JW];exact h1,by rw[JW];exact f,.inr ⟨bs,rest,a1,rfl,?_⟩⟩ g;rw[BO,aG] at a ⊢;rw[JW];exact a
theorem aj.ky (H:aL D G w0 w L) {b n:Nat} {l:List AF} (a:(b,l)∈L) {g:Option Bool} {el:El} {K:el.T->Prop} {x:el.T} (hv:kx l n el=some x) (k:K x):aj w g (ad (af b) n) el K:=by
 obtain⟨j,c⟩:=GF a;exact aj.cv j H c (by rw[Ca];exact hv) k
end
end Go.Proofs.YtlcenllcmeebhaaGreat
namespace Go.Proofs.YtlcenllcmeebhaaGreat.Mu
set_option maxRecDepth 100000
open Go.RX
abbrev sLn:List Sc:=[.int .i64,.int .i64,.int .i64,.int .i64]
abbrev jQ:El:= .agg sLn
noncomputable def U0:dJ AC:={C0 with quiet:=[140,150,204,149,148,106,114,237]}
noncomputable def U1:dJ AC:={U0 with quiet:=236::116::U0.quiet}
theorem Kq (t p f r:Int) (w:A2) (j:Bool->A2->Prop):(aK U0 (λ_=>[]) 204 [.agg ⟨[aa t,aa p,aa f,aa r]⟩] w j)=(
 aN w ⟨[aa t,aa p,aa f,aa r]⟩ 96 λb d=>true=true/\aU d (ad (af b) 0) λx=>(decide (x>=1)=true->true=true)/\aj d (some (decide (x>=1))) (ad (af b) 0) aT λ(a:Int)=>((decide (x>=1)&&decide (a<=16))=true->true=true)/\aj d (some (decide (x>=1)&&decide (a<=16))) (ad (af b) 1) aT λ(c:Int)=>((decide (x>=1)&&decide (a<=16)&&decide (c>=0))=true->true=true)/\aj d (some (decide (x>=1)&&decide (a<=16)&&decide (c>=0))) (ad (af b) 1) aT λ(e:Int)=>((decide
 (x>=1)&&decide (a<=16)&&decide (c>=0)&&decide (e<65536))=true->true=true)/\aj d (some (decide (x>=1)&&decide (a<=16)&&decide (c>=0)&&decide (e<65536))) (ad (af b) 2) aT λ(g:Int)=>((decide (x>=1)&&decide (a<=16)&&decide (c>=0)&&decide (e<65536)&&decide (g>=0))=true->true=true)/\aj d (some (decide (x>=1)&&decide (a<=16)&&decide (c>=0)&&decide (e<65536)&&decide (g>=0))) (ad (af b) 2) aT λ(h:Int)=>((decide (x>=1)&&decide (a<=16)&&decide (c>=0)&&decide (e<
 65536)&&decide (g>=0)&&decide (h<4096))=true->true=true)/\aj d (some (decide (x>=1)&&decide (a<=16)&&decide (c>=0)&&decide (e<65536)&&decide (g>=0)&&decide (h<4096))) (ad (af b) 3) aT λ(i:Int)=>((decide (x>=1)&&decide (a<=16)&&decide (c>=0)&&decide (e<65536)&&decide (g>=0)&&decide (h<4096)&&decide (i>=1))=true->true=true)/\aj d (some (decide (x>=1)&&decide (a<=16)&&decide (c>=0)&&decide (e<65536)&&decide (g>=0)&&decide (h<4096)&&decide (i>=1))) (ad (af b)
 3) aT λ(k:Int)=>au d (j (decide (x>=1)&&decide (a<=16)&&decide (c>=0)&&decide (e<65536)&&decide (g>=0)&&decide (h<4096)&&decide (i>=1)&&decide (k<=7)))):=by kernel_rfl
theorem Zc (t p f r a b:Int) (w:A2) (e:Bool->A2->Prop):(aK U0 (λ_=>[]) 150 [.agg ⟨[aa t,aa p,aa f,aa r]⟩,aa a,aa b] w e)=(
 aN w ⟨[aa t,aa p,aa f,aa r]⟩ 96 λd c=>aj c none (af d) dS λ(x:Int×Int×Int×Int×Unit)=>true=true/\aU c (ad (af d) 2) λg=>true=true/\aU c (ad (af d) 3) λh=>au c λw1=>e (x.1==a&&(x.2.1==b&&(x.2.2.1==g&&(x.2.2.2.1==h&&true)))) w1):=by kernel_rfl
theorem Ks (p:Option AB) (w:A2) (a:Bool->A2->Prop):(aK U0 (λ_=>[]) 140 [ag p] w a)=(
 ((!p.isNone)=true->p.isSome=true)/\((!p.isNone)=true->p.isSome=true)/\aj w (some !p.isNone) (ad p 1) aT λ(x:Int)=>au w (a (!p.isNone&&decide (x>0)))):=by kernel_rfl
theorem Uq (p:Option AB) (i:Int) (w:A2) (c:Unit->A2->Prop):(aK U0 (λ_=>[]) 196 [ag p,aa i] w c)=(
 fg p 0 w λx=>(0<=(↑0:Int)/\(↑0:Int)<=i/\i<=i/\i<=(↑x.2.2:Int))/\fg p 0 w λa=>(0<=aJ .i64 i 1/\aJ .i64 i 1<=(↑a.2.1:Int)/\(↑a.2.1:Int)<=(↑a.2.2:Int)/\(↑a.2.2:Int)<=(↑a.2.2:Int))/\ ∀w1,Ext w w1->mz w1 96 4 32 ⟨[aa 0,aa 0,aa 0,aa 0]⟩ (GD (λ(h:i.toNat=(↑0:Int).toNat->False)=>ad x.1 0) (λ(h:i.toNat=(↑0:Int).toNat)=>x.1) (instDecidableEqNat i.toNat 0),i.toNat - 0,i.toNat - 0) (GD (λ(h:(↑a.2.2:Int).toNat=(aJ .i64 i 1).toNat->False)=>ad
 a.1 ((aJ .i64 i 1).toNat*4)) (λ(h:(↑a.2.2:Int).toNat=(aJ .i64 i 1).toNat)=>a.1) (instDecidableEqNat (↑a.2.2:Int).toNat (aJ .i64 i 1).toNat),(↑a.2.1:Int).toNat - (aJ .i64 i 1).toNat,(↑a.2.2:Int).toNat - (aJ .i64 i 1).toNat) λ(r:Option AB×Nat×Nat) b=>p.isSome=true/\p.isSome=true/\az b (ad p 0) [.slice r.1 r.2.1 r.2.2] λb=>au b (c ())):=by kernel_rfl
theorem GY (t p f r:Int) (c d:Option AB) (w:A2) (e:Bool->A2->Prop):(aK U0 (λ_=>[]) 149 [.agg ⟨[aa t,aa p,aa f,aa r]⟩,ag c,ag d] w e)=(
 aN w ⟨[aa t,aa p,aa f,aa r]⟩ 96 λb a=>aj a none (af b) dS λ(x:Int×Int×Int×Int×Unit)=>aU a c λh=>aU a d λi=> ∃g,ae AC 150 [.agg ⟨[aa x.1,aa x.2.1,aa x.2.2.1,aa x.2.2.2.1]⟩,aa h,aa i] a (.bool g)/\au a (e g)):=by kernel_rfl
theorem Kt (t p f r:Int) (c:Option AB) (w:A2) (d:Bool->A2->Prop):(aK U0 (λ_=>[]) 148 [.agg ⟨[aa t,aa p,aa f,aa r]⟩,ag c] w d)=(
 aN w ⟨[aa t,aa p,aa f,aa r]⟩ 96 λb a=>true=true/\aU a (ad (af b) 0) λx=>aU a c λe=>au a (d (x==e))):=by kernel_rfl
def pL:Nat->aZ:=(λ|5=>[(5,Go.RX.El.one (Go.RX.Sc.int Ae)),(6,Go.RX.El.one (Go.RX.Sc.int Ae))]| _=>[])
theorem GZ (p c d:Option AB) (w:A2) (e:Int->A2->Prop):(aK U0 pL 147 [ag p,.func (.func 149) #[] #[ag c,ag d]] w e)=(
 ∃x,ae AC 140 [ag p] w (.bool x)/\aI (!x) (au w (e 0)) (fg p 0 w λx=> ∃(I:Nat->Int×Int×Unit->A2->Prop),(∃n, ∀w1,Ext w w1->I n (0,aY .i64 (↑x.2.1:Int) 1,()) w1)/\ ∀(n:Nat) (s:Int×Int×Unit) (w1:A2),I n s w1->aI (decide (s.2.1>=0)) (fg p 0 w1 λx=>(x.1.isSome=true/\0<=s.2.1/\s.2.1<(↑x.2.1:Int))/\aj w1 none (ad x.1 (Ap s.2.1*4)) dS λ(x:Int×Int×Int×Int×Unit)=> ∃f,ae AC 149 [.agg ⟨[aa x.1,aa x.2.1,aa x.2.2.1,aa x.2.2.2.1]⟩,.pointer
 c,ag d] w1 (.bool f)/\aI f (aA AC 196 (.bu []) [ag p,aa s.2.1] w1 λx g=> ∀a,Ext g a-> ∃(b:Nat),b<n/\I b (aJ .i64 s.1 1,aY .i64 s.2.1 1,()) a) (∀a,Ext w1 a-> ∃(b:Nat),b<n/\I b (s.1,aY .i64 s.2.1 1,()) a)) (au w1 (e s.1)))):=by kernel_rfl
def pM:Nat->aZ:=(λ|5=>[(5,Go.RX.El.one (Go.RX.Sc.int Ae)),(6,Go.RX.El.one (Go.RX.Sc.int Ae))]| _=>[])
theorem G4 (p c:Option AB) (w:A2) (d:Int->A2->Prop):(aK U0 pM 147 [ag p,.func (.func 148) #[] #[ag c]] w d)=(
 ∃x,ae AC 140 [ag p] w (.bool x)/\aI (!x) (au w (d 0)) (fg p 0 w λx=> ∃(I:Nat->Int×Int×Unit->A2->Prop),(∃n, ∀w1,Ext w w1->I n (0,aY .i64 (↑x.2.1:Int) 1,()) w1)/\ ∀(n:Nat) (s:Int×Int×Unit) (w1:A2),I n s w1->aI (decide (s.2.1>=0)) (fg p 0 w1 λx=>(x.1.isSome=true/\0<=s.2.1/\s.2.1<(↑x.2.1:Int))/\aj w1 none (ad x.1 (Ap s.2.1*4)) dS λ(x:Int×Int×Int×Int×Unit)=> ∃e,ae AC 148 [.agg ⟨[aa x.1,aa x.2.1,aa x.2.2.1,aa x.2.2.2.1]⟩,.pointer
 c] w1 (.bool e)/\aI e (aA AC 196 (.bu []) [ag p,aa s.2.1] w1 λx f=> ∀a,Ext f a-> ∃(b:Nat),b<n/\I b (aJ .i64 s.1 1,aY .i64 s.2.1 1,()) a) (∀a,Ext w1 a-> ∃(b:Nat),b<n/\I b (s.1,aY .i64 s.2.1 1,()) a)) (au w1 (d s.1)))):=by kernel_rfl
theorem Ku (p:Option AB) (t g:Int) (w:A2) (c:Bool->A2->Prop):(aK U0 (λ_=>[]) 108 [ag p,aa t,aa g] w c)=(
 aN w ⟨[aa t]⟩ 3 λb a=>aN a ⟨[aa g]⟩ 3 λd a=>aA AC 147 (.el aT) [ag p,.func (.func 149) ⟨[]⟩ {toList:=[ag (af b),ag (af d)]}] a λ(x:Int) a=>au a (c (decide (x>0)))):=by kernel_rfl
theorem G5 (p:Option AB) (t:Int) (w:A2) (c:Int->A2->Prop):(aK U0 (λ_=>[]) 107 [ag p,aa t] w c)=(
 aN w ⟨[aa t]⟩ 3 λb a=>aA AC 147 (.el aT) [ag p,.func (.func 148) ⟨[]⟩ {toList:=[ag (af b)]}] a λ(x:Int) a=>au a (c x)):=by kernel_rfl
abbrev vV (p:Option AB) (e:Int->A2->Prop) (d:A2) (f:Nat):Prop:=
 fg p 0 d λx=>aj d none (af f) dS λ(c:Int×Int×Int×Int×Unit)=>aN d ⟨[aa c.1,aa c.2.1,aa c.2.2.1,aa c.2.2.2.1]⟩ 96 λb a=> ∀w1,Ext a w1->mz w1 96 4 32 ⟨[aa 0,aa 0,aa 0,aa 0]⟩ (x.1,x.2.1,x.2.2) (some ⟨b,0,none⟩,1,1) λ(r:Option AB×Nat×Nat) a=>p.isSome=true/\p.isSome=true/\az a (ad p 0) [.slice r.1 r.2.1 r.2.2] λa=>au a (e 0)
theorem P7 (p:Option AB) (t g f r:Int) (w:A2) (c:Int->A2->Prop):(aK U0 (λ_=>[]) 159 [ag p,.agg ⟨[aa t,aa g,aa f,aa r]⟩] w c)=(
 aN w ⟨[aa t,aa g,aa f,aa r]⟩ 96 λb a=> ∃x,ae AC 140 [ag p] a (.bool x)/\aI (!x) (au a (c 10)) (aj a none (af b) dS λ(x:Int×Int×Int×Int×Unit)=> ∃d,ae AC 204 [.agg ⟨[aa x.1,aa x.2.1,aa x.2.2.1,aa x.2.2.2.1]⟩] a (.bool d)/\aI (!d) (au a (c 1)) (true=true/\aU a (ad (af b) 0) λx=>true=true/\aU a (ad (af b) 1) λe=>aA AC 108 (.el rE) [ag p,aa x,aa e] a λx a=>((!x)=true->p.isSome=true)/\
 ((!x)=true->p.isSome=true)/\aj a (some !x) (ad p 0) ff λh=>((!x)=true->p.isSome=true)/\((!x)=true->p.isSome=true)/\aj a (some !x) (ad p 1) aT λ(i:Int)=>aI (!x&&(↑h.2.1:Int)==i) (aA AC 196 (.bu []) [ag p,aa 0] a λx a=>vV p c a b) (vV p c a b)))):=by kernel_rfl
def ud:Nat->aZ:=(λ|4=>[(20,Go.RX.El.one (Go.RX.Sc.int Ae))]| _=>[])
theorem P8 (p:Option AB) (t g k:Int) (w:A2) (c:Int×Int×Unit->A2->Prop):(aK U0 ud 201 [ag p,aa t,aa g,aa k] w c)=(
 ∃x,ae AC 140 [ag p] w (.bool x)/\aI (!x) (au w (c (0,10,()))) (fg p 0 w λx=> ∃(I:Nat->Int×Unit->A2->Prop),(∃n, ∀w1,Ext w w1->I n (0,()) w1)/\ ∀(n:Nat) (s:Int×Unit) (w1:A2),I n s w1->aI (decide (s.1<(↑x.2.1:Int))) ((x.1.isSome=true/\0<=s.1/\s.1<(↑x.2.1:Int))/\aj w1 none (ad x.1 (Ap s.1*4)) dS λ(x:Int×Int×Int×Int×Unit)=>aN w1 ⟨[aa 0,aa 0,aa 0,aa 0]⟩ 96 λb a=>az a (af b) [aa x.1,aa x.2.1,aa x.2.2.1,.int .i64
 x.2.2.2.1] λa=>aj a none (af b) dS λ(x:Int×Int×Int×Int×Unit)=> ∃d,ae AC 150 [.agg ⟨[aa x.1,aa x.2.1,aa x.2.2.1,aa x.2.2.2.1]⟩,aa t,aa g] a (.bool d)/\aI (!d) (∀e,Ext a e-> ∃(f:Nat),f<n/\I f (aJ .i64 s.1 1,()) e) (((!(decide (k<0)||decide (k>7)))=true->true=true)/\aj a (some !(decide (k<0)||decide (k>7))) (ad (af b) 3) aT λ(x:Int)=>aI (decide (k<0)||decide (k>7)||gF .i64 k x != 0) (au a (c (0,7,()))) (true=true/\
 aU a (ad (af b) 2) λx=>au a (c (x,0,()))))) (au w1 (c (0,4,()))))):=by kernel_rfl
theorem Ur (n:Int) (w:A2) (a:Option AB×Int×Unit->A2->Prop):(aK U0 (λ_=>[]) 86 [aa n] w a)=(
 aI (decide (n<1)||decide (n>64)) (au w (a (none,1,()))) (aN w ⟨[.slice none 0 0,aa n]⟩ 227 λb c=>au c (a (some ⟨b,0,none⟩,0,())))):=by kernel_rfl
theorem Kv (p:Option AB) (w:A2) (a:Option AB×Nat×Nat->A2->Prop):(aK U0 (λ_=>[]) 83 [ag p] w a)=(
 ∃x,ae AC 140 [ag p] w (.bool x)/\aI (!x) (au w (a (none,0,0))) (fg p 0 w λx=> ∀w1,Ext w w1->mz w1 96 4 32 ⟨[aa 0,aa 0,aa 0,aa 0]⟩ (none,0,0) (x.1,x.2.1,x.2.2) λ(r:Option AB×Nat×Nat) b=>au b (a (r.1,r.2.1,r.2.2)))):=by kernel_rfl
theorem Us (p:Option AB) (i:Int) (w:A2) (a:Bool->A2->Prop):(aK U0 (λ_=>[]) 106 [ag p,aa i] w a)=(
 ((!p.isNone&&decide (i>=0))=true->p.isSome=true)/\((!p.isNone&&decide (i>=0))=true->p.isSome=true)/\aj w (some (!p.isNone&&decide (i>=0))) (ad p 0) ff λx=>au w λw1=>a (!p.isNone&&decide (i>=0)&&decide (i<(↑x.2.1:Int))) w1):=by kernel_rfl
theorem G6 (p:Option AB) (i:Int) (w:A2) (b:Option AB×Nat×Nat->A2->Prop):(aK U0 (λ_=>[]) 202 [ag p,aa i] w b)=(
 fg p 0 w λx=>(0<=(↑0:Int)/\(↑0:Int)<=i/\i<=(↑x.2.2:Int)/\(↑x.2.2:Int)<=(↑x.2.2:Int))/\ ∀w1,Ext w w1->mz w1 202 1 8 ⟨[IR none]⟩ (none,0,0) (GD (λ(h:(↑x.2.2:Int).toNat=(↑0:Int).toNat->False)=>ad x.1 0) (λ(h:(↑x.2.2:Int).toNat=(↑0:Int).toNat)=>x.1) (instDecidableEqNat (↑x.2.2:Int).toNat 0),i.toNat - 0,(↑x.2.2:Int).toNat - 0) λ(r:Option AB×Nat×Nat) a=>fg p 0 a λx=>(0<=aJ .i64 i 1/\aJ .i64 i 1<=(↑x.2.1:Int)/\(↑x.2.1:Int)<=(↑x.2.2:Int)/\(↑x.2.2:Int)<=(↑x.2.2:Int))/\ ∀w1,
 Ext a w1->mz w1 202 1 8 ⟨[IR none]⟩ (r.1,r.2.1,r.2.2) (GD (λ(h:(↑x.2.2:Int).toNat=(aJ .i64 i 1).toNat->False)=>ad x.1 ((aJ .i64 i 1).toNat*1)) (λ(h:(↑x.2.2:Int).toNat=(aJ .i64 i 1).toNat)=>x.1) (instDecidableEqNat (↑x.2.2:Int).toNat (aJ .i64 i 1).toNat),(↑x.2.1:Int).toNat - (aJ .i64 i 1).toNat,(↑x.2.2:Int).toNat - (aJ .i64 i 1).toNat) λ(r:Option AB×Nat×Nat) a=>au a (b (r.1,r.2.1,r.2.2))):=by kernel_rfl
def vW:Nat->aZ:=(λ|5=>[(14,Go.RX.El.one (Go.RX.Sc.int Ae))]| _=>[])
theorem Ut (n:Int) (w:A2) (c:Option AB×Int×Unit->A2->Prop):(aK U0 vW 85 [aa n] w c)=(
 aI (decide (n<1)||decide (n>8)) (au w (c (none,1,()))) (aN w ⟨[.slice none 0 0,.slice none 0 0]⟩ 205 λb a=> ∃(I:Nat->Int×Unit->A2->Prop),(∃n, ∀w1,Ext a w1->I n (0,()) w1)/\ ∀(e:Nat) (s:Int×Unit) (w1:A2),I e s w1->aI (decide (s.1<n)) (true=true/\true=true/\sZ w1 (ad (af b) 0) λx=> ∀d,Ext w1 d->aN (d.alloc (Obj.chan 16 ⟨[]⟩ false 0 0 false)) ⟨[IR (some d.heap.size)]⟩ 202 λh a=> ∀w1,Ext a w1->mz w1 202 1 8 ⟨[IR none]⟩ (x.1,x.2.1,x.2.2) (some ⟨h,0,none⟩,1,1)
 λ(r:Option AB×Nat×Nat) a=>true=true/\true=true/\az a (ad (af b) 0) [.slice r.1 r.2.1 r.2.2] λa=> ∀f,Ext a f-> ∃(g:Nat),g<e/\I g (aJ .i64 s.1 1,()) f) (au w1 (c (some ⟨b,0,none⟩,0,()))))):=by kernel_rfl
theorem P9 (p:Option AB) (i:Int) (w:A2) (d:(Int×Int×Int×Unit)×Bool×Unit->A2->Prop):(bQ U0 (λ_=>[]) 66 [ag p,aa i] w d)=(
 aN w ⟨[aa 0,aa 0,aa 0]⟩ 147 λb a=> ∃x,ae AC 106 [ag p,aa i] a (.bool x)/\aI (!x) (az a (af b) [aa 0,aa 0,aa 0] λa=>au a λw1=>aj w1 none (af b) wV λ(x:Int×Int×Int×Unit)=>d ((x.1,x.2.1,x.2.2.1,()),false,()) w1) (fg p 0 a λx=>(x.1.isSome=true/\0<=i/\i<(↑x.2.1:Int))/\aj a none (ad x.1 (i.toNat*1)) (.one .chan) λx=> ∀w1,Ext a w1-> ∃(r:Nat), ∃(cap:Nat), ∃(e:List AF), ∃(s:Nat), ∃(m:Nat),x=some r/\ChO w1 r cap
 e s m/\(e=[]->az w1 (af b) [aa 0,aa 0,aa 0] λa=>au a λw1=>aj w1 none (af b) wV λ(x:Int×Int×Int×Unit)=>d ((x.1,x.2.1,x.2.2.1,()),false,()) w1)/\ ∀v (vs:List AF),e=v::vs-> ∃(x:Int×Int×Int×Unit),v= .agg ⟨[aa x.1,aa x.2.1,aa x.2.2.1]⟩/\aN (w1.putObj r (Obj.chan cap {toList:=vs} false s (m+1) false)) ⟨[aa 0,aa 0,aa 0]⟩ 147 λf a=>az a (af f) [aa x.1,aa x.2.1,aa x.2.2.1] λa=>fg p 1 a λx=>
 true=true/\aU a (ad (af f) 0) λc=>(x.1.isSome=true/\0<=aY .i64 c 1/\aY .i64 c 1<(↑x.2.1:Int))/\aj a none (ad x.1 ((aY .i64 c 1).toNat*1)) aT λ(g:Int)=>(x.1.isSome=true/\0<=aY .i64 c 1/\aY .i64 c 1<(↑x.2.1:Int))/\az a (ad x.1 ((aY .i64 c 1).toNat*1)) [aa (aY .i64 g 1)] λa=>aj a none (af f) wV λ(x:Int×Int×Int×Unit)=>az a (af b) [aa x.1,aa x.2.1,aa x.2.2.1] λa=>au a λw1=>aj w1 none (af b) wV λ(x:Int×Int×Int×Unit)=>d
 ((x.1,x.2.1,x.2.2.1,()),true,()) w1)):=by kernel_rfl
def uf:Nat->aZ:=(λ|9=>[(52,Go.RX.El.one (Go.RX.Sc.int Ae))]|17=>[(78,Go.RX.El.one (Go.RX.Sc.int Ae))]| _=>[])
theorem P_ (p:Option AB) (i t g:Int) (w:A2) (c:Int×Int×Unit->A2->Prop):(aK U0 uf 157 [ag p,aa i,aa t,aa g] w c)=(
 ((!p.isNone)=true->p.isSome=true)/\((!p.isNone)=true->p.isSome=true)/\aj w (some !p.isNone) (ad p 0) ff λx=>aI (p.isNone||(↑x.2.1:Int)==0) (au w (c (0,10,()))) (∃x,ae AC 106 [ag p,aa i] w (.bool x)/\aI (!x) (au w (c (0,2,()))) (aI (decide (t<1)||decide (t>16)||decide (g< -1)||decide (g>=65536)) (au w (c (0,1,()))) (aA AC 202 (.el ff) [ag p,aa i] w λx a=> ∃(I:Nat->Int×Unit->A2->Prop),(∃n, ∀w1,Ext a w1->I n (0,()) w1)/\ ∀(n:Nat) (s
 :Int×Unit) (w1:A2),I n s w1->aI (decide (s.1<(↑x.2.1:Int))) ((x.1.isSome=true/\0<=s.1/\s.1<(↑x.2.1:Int))/\aj w1 none (ad x.1 (Ap s.1*1)) (.one .chan) λx=> ∃k,ChL w1 x k/\aI ((↑k:Int)==16) (au w1 (c (0,3,()))) (∀d,Ext w1 d-> ∃(e:Nat),e<n/\I e (aJ .i64 s.1 1,()) d)) (fg p 1 w1 λf=>aN w1 ⟨[aa (↑x.2.1:Int)]⟩ 3 λb a=> ∀w1,Ext a w1->mz w1 3 1 8 ⟨[aa 0]⟩ (f.1,f.2.1,f.2.2) (some ⟨b,0,none⟩,1,1) λ(r:Option AB×Nat×Nat) a=>p.isSome=true/\p.isSome=
 true/\az a (ad p 1) [.slice r.1 r.2.1 r.2.2] λa=>fg p 1 a λl=> ∃(I:Nat->Int×Unit->A2->Prop),(∃n, ∀w1,Ext a w1->I n (0,()) w1)/\ ∀(n:Nat) (s:Int×Unit) (w1:A2),I n s w1->aI (decide (s.1<(↑x.2.1:Int))) ((x.1.isSome=true/\0<=s.1/\s.1<(↑x.2.1:Int))/\aj w1 none (ad x.1 (Ap s.1*1)) (.one .chan) λx=> ∀h,Ext w1 h-> ∃(r:Nat), ∃(cap:Nat), ∃(j:List AF), ∃(o:Nat), ∃(m:Nat),x=some r/\ChO h r cap j o m/\j.length<cap/\ ∀d,Ext (h.putObj r (Obj.chan cap {toList:=j.append [.agg
 ⟨[aa (↑l.2.1:Int),aa t,aa g]⟩]} false (o+1) m false)) d-> ∃(e:Nat),e<n/\I e (aJ .i64 s.1 1,()) d) (au w1 (c ((↑l.2.1:Int),0,())))))))):=by kernel_rfl
theorem Kw (p:Option AB) (i:Int) (w:A2) (a:Int->A2->Prop):(aK U0 (λ_=>[]) 82 [ag p,aa i] w a)=(
 ∃x,ae AC 106 [ag p,aa i] w (.bool x)/\aI (!x) (au w (a 0)) (fg p 0 w λx=>(x.1.isSome=true/\0<=i/\i<(↑x.2.1:Int))/\aj w none (ad x.1 (i.toNat*1)) (.one .chan) λx=> ∃n,ChL w x n/\au w (a (↑n:Int)))):=by kernel_rfl
theorem Qa (p:Option AB) (i:Int) (w:A2) (b:Bool->A2->Prop):(aK U0 (λ_=>[]) 161 [ag p,aa i] w b)=(
 ((!p.isNone&&decide (i>=1))=true->p.isSome=true)/\((!p.isNone&&decide (i>=1))=true->p.isSome=true)/\aj w (some (!p.isNone&&decide (i>=1))) (ad p 1) ff λx=>((!p.isNone&&decide (i>=1)&&decide (i<=(↑x.2.1:Int)))=true->p.isSome=true)/\((!p.isNone&&decide (i>=1)&&decide (i<=(↑x.2.1:Int)))=true->p.isSome=true)/\aj w (some (!p.isNone&&decide (i>=1)&&decide (i<=(↑x.2.1:Int)))) (ad p 1) ff λa=>((!p.isNone&&decide (i>=1)&&decide (i<=(↑x.2.1:Int)))=true->a.1.isSome=true/\0<=aY .i64 i 1/\aY .i64 i 1<
 (↑a.2.1:Int))/\aj w (some (!p.isNone&&decide (i>=1)&&decide (i<=(↑x.2.1:Int)))) (ad a.1 ((aY .i64 i 1).toNat*1)) aT λ(c:Int)=>au w λw1=>b (!p.isNone&&decide (i>=1)&&decide (i<=(↑x.2.1:Int))&&c==0) w1):=by kernel_rfl
def vX:Nat->aZ:=(λ|5=>[(15,Go.RX.El.one (Go.RX.Sc.int Ae))]| _=>[])
theorem Cx (n:Int) (w:A2) (c:Option AB×Int×Unit->A2->Prop):(aK U0 vX 84 [aa n] w c)=(
 aI (decide (n<1)||decide (n>8)) (au w (c (none,1,()))) (∀w1,Ext w w1->aN (w1.alloc (Obj.map ⟨[]⟩ 0)) ⟨[aa 0,.slice none 0 0,.map (some w1.heap.size)]⟩ 210 λb a=> ∃(I:Nat->Int×Unit->A2->Prop),(∃n, ∀w1,Ext a w1->I n (0,()) w1)/\ ∀(d:Nat) (s:Int×Unit) (w1:A2),I d s w1->aI (decide (s.1<n)) (true=true/\true=true/\sZ w1 (ad (af b) 1) λx=>aN w1 ⟨[aa (-1)]⟩ 3 λg a=> ∀w1,Ext a w1->mz w1 3 1 8 ⟨[aa 0]⟩ (x.1,x.2.1,x.2.2) (some ⟨g,0,none⟩,1,1) λ(r:Option AB×Nat×
 Nat) a=>true=true/\true=true/\az a (ad (af b) 1) [.slice r.1 r.2.1 r.2.2] λa=> ∀e,Ext a e-> ∃(f:Nat),f<d/\I f (aJ .i64 s.1 1,()) e) (au w1 (c (some ⟨b,0,none⟩,0,()))))):=by kernel_rfl
theorem Ky (p:Option AB) (w:A2) (a:Bool->A2->Prop):(aK U0 (λ_=>[]) 114 [ag p] w a)=(
 ((!p.isNone)=true->p.isSome=true)/\((!p.isNone)=true->p.isSome=true)/\aj w (some !p.isNone) (ad p 2) N_ λx=>au w (a (!p.isNone&& !x.isNone))):=by kernel_rfl
theorem Uu (p:Option AB) (w:A2) (a:Int->A2->Prop):(aK U0 (λ_=>[]) 237 [ag p] w a)=(
 ∃x,ae AC 114 [ag p] w (.bool x)/\aI (!x) (au w (a 0)) (cM p 0 w λx=>au w (a x))):=by kernel_rfl
theorem Uv (p:Option AB) (c a:Int) (w:A2) (b:Int->A2->Prop):(aK U0 (λ_=>[]) 203 [ag p,aa c,aa a] w b)=(
 ∃x,ae AC 114 [ag p] w (.bool x)/\aI (!x) (au w (b 10)) (((!decide (c<0))=true->p.isSome=true)/\((!decide (c<0))=true->p.isSome=true)/\aj w (some !decide (c<0)) (ad p 1) ff λx=>aI (decide (c<0)||decide (c>=(↑x.2.1:Int))) (au w (b 2)) (fg p 1 w λx=>(x.1.isSome=true/\0<=c/\c<(↑x.2.1:Int))/\aU w (ad x.1 (c.toNat*1)) λx=>aI ((x== -1)==(a== -1)) (au w (b 6)) (fg p 1 w λx=>(x.1.isSome=true/\0<=c/\c<(↑x.2.1:Int))/\az w (ad x.1 (c.toNat*1)) [aa a] λd=>au d (b 0))))):=by kernel_rfl
theorem Uw (p:Option AB) (c:Int) (w:A2) (a:Int->A2->Prop):(aK U0 (λ_=>[]) 200 [ag p,aa c] w a)=(
 ∃(x:Int),ae AC 237 [ag p] w (aa x)/\aA AC 203 (.el aT) [ag p,aa c,aa x] w λ(x:Int) b=>au b (a x)):=by kernel_rfl
theorem Kz (p:Option AB) (c:Int) (w:A2) (a:Int->A2->Prop):(aK U0 (λ_=>[]) 158 [ag p,aa c] w a)=(
 aA AC 203 (.el aT) [ag p,aa c,aa (-1)] w λ(x:Int) b=>au b (a x)):=by kernel_rfl
theorem Ux (p:Option AB) (f:Int) (w:A2) (a:Int->A2->Prop):(aK U0 (λ_=>[]) 162 [ag p,aa f] w a)=(
 ∃x,ae AC 114 [ag p] w (.bool x)/\aI (!x) (au w (a 10)) (aI (decide (f<0)) (au w (a 1)) (s7 p 2 w λx=> ∃(d:Int), ∃(b:Bool),ml w x .i64 f (aa 0) (aa d) b/\aI b (au w (a 5)) (s7 p 2 w λx=>cM p 0 w λe=> ∀w1,Ext w w1-> ∃(r:Nat), ∃(es:Array B2), ∃(c:Nat),x=some r/\bF w1 r es c/\gR w1 r .i64 f (aa e) es c λg=>au g (a 0))))):=by kernel_rfl
def vY:Nat->aZ:=(λ|4=>[(13,Go.RX.El.one (Go.RX.Sc.int Ae))]| _=>[])
theorem Uy (p:Option AB) (w:A2) (a:Bool->A2->Prop):(aK U0 vY 197 [ag p] w a)=(
 ∃x,ae AC 114 [ag p] w (.bool x)/\aI (!x) (au w (a false)) (fg p 1 w λx=> ∃(I:Nat->Int×Unit->A2->Prop),(∃n, ∀w1,Ext w w1->I n (0,()) w1)/\ ∀(n:Nat) (s:Int×Unit) (w1:A2),I n s w1->aI (decide (s.1<(↑x.2.1:Int))) ((x.1.isSome=true/\0<=s.1/\s.1<(↑x.2.1:Int))/\aU w1 (ad x.1 (Ap s.1*1)) λx=>((x != -1)=true->p.isSome=true)/\((x != -1)=true->p.isSome=true)/\aj w1 (some (x != -1)) (ad p 0) aT λ(d:Int)=>aI (x != -1&&x != d) (au w1 (a false)) (∀b,Ext w1 b-> ∃(c:
 Nat),c<n/\I c (aJ .i64 s.1 1,()) b)) (cM p 0 w1 λx=>p.isSome=true/\p.isSome=true/\az w1 (ad p 0) [aa (aJ .i64 x 1)] λe=>au e (a true)))):=by kernel_rfl
theorem KA (a:Int) (c:Option AB) (w:A2) (b:Bool->A2->Prop):(aK U0 (λ_=>[]) 236 [aa a,ag c] w b)=(
 fZ w c λx=>cM x 0 w λx=>au w (b (decide (aJ .i64 a 2<=x)))):=by kernel_rfl
theorem KB (a:Int) (w:A2) (b:Bool->A2->Prop):(aK U0 (λ_=>[]) 116 [aa a] w b)=(
 au w (b true)):=by kernel_rfl
def qR:Nat->aZ:=(λ|3=>[(5,Go.RX.El.one Go.RX.Sc.slice)]|8=>[(8,Go.RX.El.one (Go.RX.Sc.int Ae))]| _=>[])
theorem KC (m:Option Nat) (c:Option AB) (w:A2) (g:Option AB×Nat×Nat->A2->Prop):(aK U1 qR 115 [.map m,.func (.func 236) #[] #[ag c]] w g)=(
 RgP w m λb a=> ∃(I:Nat->(Option AB×Nat×Nat)×Unit->A2->Prop),(∃n, ∀w1,Ext a w1->I n ((none,0,0),()) w1)/\ ∀(n:Nat) (s:(Option AB×Nat×Nat)×Unit) (w1:A2),I n s w1->NxP w1 (af b) (λa=>au a (g (s.1.1,s.1.2.1,s.1.2.2))) λ(k v:AF) a=> ∃(x:Int), ∃(y:Int),Ak a (af b) (aa x) (aa y)/\ ∃h,ae AC 236 [aa y,ag c] a (.bool h)/\aI (!h) (∀d,Ext a d-> ∃(e:Nat),e<n/\I e ((s.1.1,s.1.2.1,s.1.2.2),()) d) (aN a ⟨[aa x]⟩ 3 λb a=> ∀w1,
 Ext a w1->mz w1 3 1 8 ⟨[aa 0]⟩ (s.1.1,s.1.2.1,s.1.2.2) (some ⟨b,0,none⟩,1,1) λ(r:Option AB×Nat×Nat) a=> ∃(f:Nat->Int×Unit->A2->Prop),(∃n, ∀w1,Ext a w1->f n ((↑s.1.2.1:Int),()) w1)/\ ∀(i:Nat) (s:Int×Unit) (w1:A2),f i s w1->(decide (s.1>0)=true->r.1.isSome=true/\0<=aY .i64 s.1 1/\aY .i64 s.1 1<(↑r.2.1:Int))/\aj w1 (some (decide (s.1>0))) (ad r.1 ((aY .i64 s.1 1).toNat*1)) aT λ(j:Int)=>aI (decide (s.1>0)&&decide (j>x)) ((r.1.isSome=true/\0<=aY .i64 s.1 1/\aY
 .i64 s.1 1<(↑r.2.1:Int))/\aj w1 none (ad r.1 ((aY .i64 s.1 1).toNat*1)) aT λ(x:Int)=>(r.1.isSome=true/\0<=s.1/\s.1<(↑r.2.1:Int))/\az w1 (ad r.1 (Ap s.1*1)) [aa x] λa=> ∀d,Ext a d-> ∃(e:Nat),e<i/\f e (aY .i64 s.1 1,()) d) ((r.1.isSome=true/\0<=s.1/\s.1<(↑r.2.1:Int))/\az w1 (ad r.1 (Ap s.1*1)) [aa x] λa=> ∀d,Ext a d-> ∃(e:Nat),e<n/\I e ((r.1,r.2.1,r.2.2),()) d))):=by kernel_rfl
def qS:Nat->aZ:=(λ|3=>[(5,Go.RX.El.one Go.RX.Sc.slice)]|8=>[(8,Go.RX.El.one (Go.RX.Sc.int Ae))]| _=>[])
theorem KE (m:Option Nat) (w:A2) (f:Option AB×Nat×Nat->A2->Prop):(aK U1 qS 115 [.map m,.func (.func 116) #[] #[]] w f)=(
 RgP w m λb a=> ∃(I:Nat->(Option AB×Nat×Nat)×Unit->A2->Prop),(∃n, ∀w1,Ext a w1->I n ((none,0,0),()) w1)/\ ∀(n:Nat) (s:(Option AB×Nat×Nat)×Unit) (w1:A2),I n s w1->NxP w1 (af b) (λa=>au a (f (s.1.1,s.1.2.1,s.1.2.2))) λ(k v:AF) a=> ∃(x:Int), ∃(y:Int),Ak a (af b) (aa x) (aa y)/\ ∃g,ae AC 116 [aa y] a (.bool g)/\aI (!g) (∀c,Ext a c-> ∃(d:Nat),d<n/\I d ((s.1.1,s.1.2.1,s.1.2.2),()) c) (aN a ⟨[aa x]⟩ 3 λb a=> ∀w1,Ext a w1->
 mz w1 3 1 8 ⟨[aa 0]⟩ (s.1.1,s.1.2.1,s.1.2.2) (some ⟨b,0,none⟩,1,1) λ(r:Option AB×Nat×Nat) a=> ∃(e:Nat->Int×Unit->A2->Prop),(∃n, ∀w1,Ext a w1->e n ((↑s.1.2.1:Int),()) w1)/\ ∀(h:Nat) (s:Int×Unit) (w1:A2),e h s w1->(decide (s.1>0)=true->r.1.isSome=true/\0<=aY .i64 s.1 1/\aY .i64 s.1 1<(↑r.2.1:Int))/\aj w1 (some (decide (s.1>0))) (ad r.1 ((aY .i64 s.1 1).toNat*1)) aT λ(i:Int)=>aI (decide (s.1>0)&&decide (i>x)) ((r.1.isSome=true/\0<=aY .i64 s.1 1/\aY .i64 s.1 1<
 (↑r.2.1:Int))/\aj w1 none (ad r.1 ((aY .i64 s.1 1).toNat*1)) aT λ(x:Int)=>(r.1.isSome=true/\0<=s.1/\s.1<(↑r.2.1:Int))/\az w1 (ad r.1 (Ap s.1*1)) [aa x] λa=> ∀c,Ext a c-> ∃(d:Nat),d<h/\e d (aY .i64 s.1 1,()) c) ((r.1.isSome=true/\0<=s.1/\s.1<(↑r.2.1:Int))/\az w1 (ad r.1 (Ap s.1*1)) [aa x] λa=> ∀c,Ext a c-> ∃(d:Nat),d<n/\I d ((r.1,r.2.1,r.2.2),()) c))):=by kernel_rfl
def ug:Nat->aZ:=(λ|5=>[(17,Go.RX.El.one (Go.RX.Sc.int Ae))]| _=>[])
theorem Qb (p:Option AB) (w:A2) (c:Option AB×Nat×Nat->A2->Prop):(aK U0 ug 198 [ag p] w c)=(
 aN w ⟨[ag p]⟩ 98 λb a=>fZ a (af b) λx=> ∃e,ae AC 114 [ag x] a (.bool e)/\aI (!e) (au a (c (none,0,0))) (fZ a (af b) λx=>s7 x 2 a λx=>aA AC 115 (.el ff) [.map x,.func (.func 236) ⟨[]⟩ {toList:=[ag (af b)]}] a λx a=> ∃(I:Nat->Int×Unit->A2->Prop),(∃n, ∀w1,Ext a w1->I n (0,()) w1)/\ ∀(n:Nat) (s:Int×Unit) (w1:A2),I n s w1->aI (decide (s.1<(↑x.2.1:Int))) ((x.1.isSome=true/\0<=s.1/\s.1<(↑x.2.1:Int))/\aU w1 (ad x.1 (Ap s.1*1)) λx=>
 fZ w1 (af b) λi=>s7 i 2 w1 λj=> ∀d,Ext w1 d-> ∃(r:Nat), ∃(es:Array B2), ∃(f:Nat),j=some r/\bF d r es f/\Aj d r .i64 x es f λa=> ∀g,Ext a g-> ∃(h:Nat),h<n/\I h (aJ .i64 s.1 1,()) g) (au w1 (c (x.1,x.2.1,x.2.2))))):=by kernel_rfl
theorem Qc (p:Option AB) (w:A2) (a:Option AB×Nat×Nat->A2->Prop):(aK U0 (λ_=>[]) 69 [ag p] w a)=(
 ∃x,ae AC 114 [ag p] w (.bool x)/\aI (!x) (au w (a (none,0,0))) (s7 p 2 w λx=>aA AC 115 (.el ff) [.map x,.func (.func 116) ⟨[]⟩ ⟨[]⟩] w λx b=>au b (a (x.1,x.2.1,x.2.2)))):=by kernel_rfl
end Go.Proofs.YtlcenllcmeebhaaGreat.Mu
namespace Go.RX
set_option maxRecDepth 100000
open Go.RowKit
def nH:AT->Prop
 | .cells .. =>False
 | _=>True
theorem nH.ne {o:AT} (h:nH o): ∀a t f,o≠ .cells a t f:=λa t f e=>by subst e;exact h
structure cw (D G:List Nat) (w0 w:A2) (L:List (Nat×List AF)) (M:List (Nat×AT)):Prop where
 base:aL D G w0 w L
 obj: ∀x∈M,w.heap[x.1]? =some x.2/\nH x.2
 own: ∀x∈M,w0.heap.size<=x.1\/x.1∈G
 nd:(M.map (·.1)).Nodup
 nD: ∀x∈M,x.1∉D
namespace cw
variable {D G:List Nat} {w0 w w1:A2} {L L':List (Nat×List AF)} {M M':List (Nat×AT)}
theorem ext (H:cw D G w0 w L M) (h:Ext w w1):cw D G w0 w1 L M:=
 ⟨H.base.ext h,λx a=>⟨h.obj (H.obj x a).1,(H.obj x a).2⟩,H.own,H.nd,H.nD⟩
theorem start (G:List Nat) (w:A2):cw [] G w w [] []:=⟨At.start G w,λx a=>(by cases a),λx a=>(by cases a),FU,λx a=>(by cases a)⟩
theorem of (H:aL D G w0 w L):cw D G w0 w L []:=⟨H,λx a=>(by cases a),λx a=>(by cases a),FU,λx a=>(by cases a)⟩
theorem sub (H:cw D G w0 w L M) (h:L'.Sublist L):cw D G w0 w L' M:=⟨H.base.sub h,H.obj,H.own,H.nd,H.nD⟩
theorem perm (H:cw D G w0 w L M) (h:L'.Perm L):cw D G w0 w L' M:=⟨H.base.perm h,H.obj,H.own,H.nd,H.nD⟩
theorem FO (H:cw D G w0 w L M) (h:M'.Sublist M):cw D G w0 w L M':=⟨H.base,λx a=>H.obj x (h.subset a),λx a=>H.own x (h.subset a),(h.map _).nodup H.nd,λx a=>H.nD x (h.subset a)⟩
theorem lf (H:cw D G w0 w L M) (h:M'.Perm M):cw D G w0 w L M':=⟨H.base,λx a=>H.obj x (h.subset a),λx a=>H.own x (h.subset a),(h.map _).nodup_iff.2 H.nd,λx a=>H.nD x (h.subset a)⟩
theorem get (H:cw D G w0 w L M) {i r:Nat} {o:AT} (h:M[i]? =some (r,o)):w.heap[r]? =some o:=(H.obj (r,o) (FV h)).1
theorem Gb (H:cw D G w0 w L M) {x:Nat×List AF} (b:x∈L) {y:Nat×AT} (a:y∈M):x.1≠y.1:=
 aL.dj (H.base.dk x b) (H.obj y a).1 (H.obj y a).2.ne
theorem join (H:cw D G w0 w L M) (K:At (L.map (·.1)) w w1 L'):cw D G w0 w1 L' M:=by
 refine⟨H.base.join (λx a=>a) K,λy b=>⟨?_,(H.obj y b).2⟩,H.own,H.nd,H.nD⟩;have h1:=(H.obj y b).1;rw[K.fr.block y.1 (Dh.1 h1).1 (λc=>?_)]
 ·exact h1
 ·obtain⟨x,a,e⟩:=AH.1 c;exact H.Gb a b e
theorem put (H:cw D G w0 w L M) {i r:Nat} {o:AT} (h:M[i]? =some (r,o)) {o':AT} (m:nH o'):cw D G w0 (w.putObj r o') L (M.set i (r,o')):=by
 have b:=FV h;obtain⟨h1,y⟩:=H.obj _ b;have n:r<w.heap.size:=(Dh.1 h1).1;have p:(M.set i (r,o')).map (·.1)=M.map (·.1):=by
  apply GG;intro j;rw[Fx,Fx];by_cases e:i=j
  ·subst e;rw[Fh (Bs.1 h).1,h];rfl
  ·rw[Dn e]
 refine⟨⟨⟨H.base.fr.os,H.base.fr.tape,H.base.fr.output,by rw[putObj_size];exact H.base.fr.size,λk s g=>?_⟩,λx a=>(H.base.dk x a).putObj (H.Gb a b) _,H.base.own,H.base.nd,λq d=>⟨(H.base.pQ q d).1,?_⟩⟩,λx a=>?_,λx a=>?_,by rw[p];exact H.nd,λx a=>?_⟩
 ·rw[fJ (λe=>?_)]
  ·exact H.base.fr.block k s g
  ·subst e;rcases H.own _ b with f|f
   ·simp only at f;omega
   ·exact g f
 ·rw[fJ (λe=>H.nD _ b (by rw[<-e];exact d))];exact(H.base.pQ q d).2
 ·obtain⟨j,c⟩:=GF a;by_cases e:i=j
  ·subst e;rw[Fh (Bs.1 h).1] at c;cases c;exact⟨jY n,m⟩
  ·rw[Dn e] at c;have l:=H.obj x (FV c);refine⟨?_,l.2⟩;rw[fJ (λt=>?_)]
   ·exact l.1
   ·have u:(M.map (·.1))[i]? =some r:=by rw[Fx,h];rfl
    have v:(M.map (·.1))[j]? =some r:=by rw[Fx,c];exact congrArg some t
    have:=(JQ (by rw[OX];exact(Bs.1 h).1) H.nd).1 (u.trans v.symm);exact e this
 ·rcases Hb a with a|rfl
  ·exact H.own x a
  ·exact H.own (r,o) b
 ·rcases Hb a with a|rfl
  ·exact H.nD x a
  ·exact H.nD (r,o) b
theorem alloc (H:cw D G w0 w L M) {o:AT} (b:nH o):cw D G w0 (w.alloc o) L ((w.heap.size,o)::M):=by
 have h1:=H.ext (Ext.alloc w o);have c:(w.alloc o).heap[w.heap.size]? =some o:=by
  show(w.heap.push o)[w.heap.size]? =some o;simp
 refine⟨h1.base,λx a=>?_,λx a=>?_,?_,λx a=>?_⟩
 ·rcases B4.1 a with rfl|a
  ·exact⟨c,b⟩
  ·exact h1.obj x a
 ·rcases B4.1 a with rfl|a
  ·exact .inl H.base.fr.size
  ·exact H.own x a
 ·refine BX.2 ⟨λd=>?_,H.nd⟩;obtain⟨y,f,e⟩:=AH.1 d;have:=(Dh.1 (H.obj y f).1).1;simp only at e;omega
 ·rcases B4.1 a with rfl|a
  ·intro g;have:=(Dh.1 (H.base.pQ _ g).2).1;simp only at this;omega
  ·exact H.nD x a
theorem all (H:cw [] [] w0 w L M):Ext w0 w:=H.base.all
end cw
end Go.RX
namespace Go.Proofs.YtlcenllcmeebhaaGreat
set_option maxRecDepth 100000
open Go.RX
abbrev KV:Type:=Int×AF
abbrev kvE (t:KV):AF×AF:=(aa t.1,t.2)
def iz (es:List B2) (ck:Nat) (a:List KV):Prop:=
 (∃p:List KV,p.Perm a/\es.map (λe=>(e.key,e.val))=p.map kvE)/\(es.map (·.born)).Nodup/\(∀e∈es,e.born<ck)/\(a.map (·.1)).Nodup
theorem iz.nil:iz [] 0 []:=⟨⟨[],List.Perm.nil,rfl⟩,FU,λe a=>(by cases a),FU⟩
theorem IT {es:List B2} {p:List KV} (h:es.map (λe=>(e.key,e.val))=p.map kvE) (g:Int) (i0:Nat):
 GS (.int .i64) (aa g) es i0=some (match p.findIdx? (λt=>t.1==g) with
  |some i=>some (i0+i,(p.getD i (0,undef)).2)
  |none=>none):=by
 induction es generalizing p i0 with
 |nil=>
  cases p with
  |nil=>rfl
  |cons t p=>simp at h
 |cons e es d=>
  cases p with
  |nil=>simp at h
  |cons t p=>
   simp only[C5,List.cons.injEq] at h;obtain⟨h1,f⟩:=h;have j:e.key=aa t.1:=congrArg (·.1) h1;have hv:e.val=t.2:=congrArg (·.2) h1;unfold GS;rw[j];have k:Instr.sameNow (.int .i64) (aa g) (aa t.1)=some (g==t.1):=by
    show(if Ae=Ae then some (g==t.1) else none)= _;rw[av rfl]
   rw[k,List.findIdx?_cons];by_cases a:t.1=g
   ·have b:(g==t.1)=true:=by simp[a]
    have c:(t.1==g)=true:=by simp[a]
    rw[b,av c];dsimp only;rw[hv];rfl
   ·have b:(g==t.1)=false:=by simp;exact λe=>a e.symm
    have c: ¬ (t.1==g)=true:=by simp[a]
    rw[b,ao c];dsimp only;rw[d f (i0+1)];cases p.findIdx? (λt=>t.1==g) with
    |none=>rfl
    |some i=>
     show some (some (i0+1+i, _))=some (some (i0+(i+1), _));rw[show i0+1+i=i0+(i+1) by omega];rfl
theorem qf {α β:Type} (f:α->β): ∀(l:List α) (i:Nat),(l.eraseIdx i).map f=(l.map f).eraseIdx i
 |[],i=>by simp
 |a::l,0=>rfl
 |a::l,i+1=>by
  simp only[List.eraseIdx_cons_succ,C5];rw[qf f l i]
theorem iz.Fi {es:List B2} {ck:Nat} {k:List KV} (h:iz es ck k) {g:Int} {v:AF} (A:(g,v)∈k): ∃i,GS (.int .i64) (aa g) es 0=some (some (i,v))/\i<es.length/\iz (es.eraseIdx i) ck (k.filter λt=> !(t.1==g)):=by
 obtain⟨⟨p,h1,l⟩,B,C,n⟩:=h;have o:(p.map (·.1)).Nodup:=(h1.map _).nodup_iff.2 n;have q:=h1.mem_iff.2 A;have r:=IT l g 0;cases d:p.findIdx? (λt=>t.1==g) with
 |none=>
  have:=Oc.1 d _ q;simp at this
 |some i=>
  rw[d] at r;rw[List.findIdx?_eq_some_iff_getElem] at d;obtain⟨hi,b, _⟩:=d;have f:p[i]? =some p[i]:=Dl hi;have s:p.getD i (0,undef)=p[i]:=by rw[K1,f];rfl
  obtain⟨t,u⟩: ∃t,t=p[i]:=⟨_,rfl⟩;rw[<-u] at f s b;have b:t.1=g:=by simpa using b
  have D:t=(g,v):=by
   obtain⟨j,m⟩:=GF q;have E:(p.map (·.1))[i]? =some g:=by rw[Fx,f];exact congrArg some b
   have F:(p.map (·.1))[j]? =some g:=by rw[Fx,m];rfl
   have:=(JQ (by rw[OX];exact hi) o).1 (E.trans F.symm);subst this;rw[f] at m;exact Option.some.inj m
  have J:es.length=p.length:=by
   have:=congrArg List.length l;simpa using this
  refine⟨i,by rw[r];dsimp only;rw[s,D,Ca],by omega,⟨p.eraseIdx i,?_,?_⟩,?_,?_,?_⟩
  ·have G:p.eraseIdx i=p.filter λt=> !(t.1==g):=by
    have w:p=p.take i++t::p.drop (i+1):=by
     conv=>lhs;rw[<-Do i p]
     rw[J_ hi, <-u]
    have y: ∀x∈p.take i++p.drop (i+1),x.1≠g:=by
     intro x c e;have z:=o;rw[w,FR,C5] at z;have H:=(B3 (a:=t.1) (l₁:=(p.take i).map (·.1)) (l₂:=(p.drop (i+1)).map (·.1))).nodup_iff.1 z;have:=(BX.1 H).1;refine this ?_;rw[b, <-e, <-FR];exact AH.2 ⟨x,c,rfl⟩
    rw[Og]
    conv=>rhs;rw[w]
    rw[List.filter_append,List.filter_cons_of_neg (by simp[b])];rw[Kc.2 (λx c=>by have:=y x (Cc _ c);simpa using this),Kc.2 (λx c=>by have:=y x (DQ _ c);simpa using this)]
   rw[G];exact h1.filter _
  ·rw[qf,l,qf]
  ·rw[qf];exact B.sublist (List.eraseIdx_sublist _ _)
  ·exact λe I=>C e (List.mem_of_mem_eraseIdx I)
  ·exact n.sublist ((List.filter_sublist).map _)
theorem iz.Oe {es:List B2} {ck:Nat} {a:List KV} (h:iz es ck a) {g:Int} (c: ∀t∈a,t.1≠g):GS (.int .i64) (aa g) es 0=some none:=by
 obtain⟨⟨p,h1,d⟩, _, _, _⟩:=h;have b:=IT d g 0;rw[Oc.2 λt e=>by have:=c t (h1.mem_iff.1 e);simpa using this] at b;exact b
theorem iz.push {es:List B2} {ck:Nat} {a:List KV} (h:iz es ck a) {g:Int} (v:AF) (f: ∀t∈a,t.1≠g):iz (es++[{key:=aa g,val:=v,born:=ck}]) (ck+1) ((g,v)::a):=by
 obtain⟨⟨p,h1,i⟩,j,c,k⟩:=h;refine⟨⟨p++[(g,v)],(Nv _ _).trans (h1.cons _),?_⟩,?_,?_,?_⟩
 ·rw[FR,i,FR];rfl
 ·rw[FR];refine Hr.2 ⟨j,by simp,λx b y d e=>?_⟩;obtain⟨e',he,rfl⟩:=AH.1 b;have d:y=ck:=by simpa using d
  have:=c e' he;omega
 ·intro e he;rcases Fw.1 he with he|he
  ·have:=c e he;omega
  ·have:e={key:=aa g,val:=v,born:=ck}:=by simpa using he
   subst this;exact Im _
 ·refine BX.2 ⟨λl=>?_,k⟩;obtain⟨x,b,e⟩:=AH.1 l;exact f x b e
theorem iz.abX {es:List B2} {ck:Nat} {b:List KV} (h:iz es ck b):(∀e∈es, ∃t∈b,e.key=aa t.1/\e.val=t.2)/\ ∀t∈b, ∃e∈es,e.key=aa t.1/\e.val=t.2:=by
 obtain⟨⟨p,f,g⟩, _⟩:=h;refine⟨λe c=>?_,λt d=>?_⟩
 ·have:(e.key,e.val)∈p.map kvE:=by rw[<-g];exact AH.2 ⟨e,c,rfl⟩
  obtain⟨t,d,a⟩:=AH.1 this;exact⟨t,f.mem_iff.1 d,(congrArg (·.1) a).symm,(congrArg (·.2) a).symm⟩
 ·have:kvE t∈es.map λe=>(e.key,e.val):=by rw[g];exact AH.2 ⟨t,f.mem_iff.2 d,rfl⟩
  obtain⟨e,c,a⟩:=AH.1 this;exact⟨e,c,congrArg (·.1) a,congrArg (·.2) a⟩
end Go.Proofs.YtlcenllcmeebhaaGreat
namespace Go.Proofs.YtlcenllcmeebhaaGreat.Mu
set_option maxRecDepth 100000
open Go.RX
abbrev eI:El:= .one (.int .i64)
abbrev m_ (now:Int) (s:Option AB×Nat×Nat) (mb:Nat):List AF:=[aa now,.slice s.1 s.2.1 s.2.2,.map (some mb)]
section
variable {D G:List Nat} {w0 w:A2} {L Ls:List (Nat×List AF)} {M:List (Nat×AT)} {s:Option AB×Nat×Nat} {pins:List Int} {now:Int} {eb mb:Nat}
theorem mS (H:aL D G w0 w L) (a:(eb,m_ now s mb)∈L):ae AC 114 [ag (af eb)] w (.bool true):=by
 refine ae.of (s:= .el (.one .bool)) λw' h'=>ai (C:=U0) (aQ:=λ_=>[]) (AG (Ky _ w' _) ?_);exact⟨λ_=>rfl,λ_=>rfl,aj.ky (H.ext h') a (show _=some (some mb) from rfl) λw1 h1=>⟨rfl,h1⟩⟩
theorem Zd (H:aL D G w0 w L) (a:(eb,m_ now s mb)∈L):ae AC 237 [ag (af eb)] w (aa now):=by
 refine ae.of (s:= .el (.one (.int .i64))) λw' h'=>ai (C:=U0) (aQ:=λ_=>[]) (AG (Uu _ w' _) ?_);exact⟨_,mS (H.ext h') a,an rfl ⟨rfl,rfl,aj.ky (H.ext h') a (show _=some now from rfl) λw1 h1=>⟨rfl,h1⟩⟩⟩
def An (pins:List Int) (c:Nat) (a:Int):List Int:=if(pins.getD c 0== -1)=(a== -1) then pins else pins.set c a
theorem Iv {e:El} {xs:List e.T} (h:du e s xs Ls) (H:aL D G w0 w (Ls++L)) {i:Nat} {x:e.T} (a:xs[i]? =some x):s.1.isSome=true/\cI w (ad s.1 (i*aD e)) e x:=
 h.sl H (λy b=>Cc _ b) i x a
theorem IU (H:aL D G w0 w ((eb,m_ now s mb)::(Ls++L))) (b:du eI s pins Ls) (c:Nat) (hc:c<pins.length) (a:Int) {K:Int->A2->Prop}
 (k: ∀v f d,du eI s (An pins c a) f->aL D G w0 d ((eb,m_ now s mb)::(f++L))->K v d):
 aA AC 203 (.el (.one (.int .i64))) [ag (af eb),aa (c:Int),aa a] w K:=by
 refine aA.go H λw1 H=>ai (C:=U0) (aQ:=λ_=>[]) (AG (Uv _ _ _ w1 K) ?_);have m:=b.1;have h:pins[c]? =some (pins.getD c 0):=by rw[K1,Dl hc];rfl
 have h0:(decide ((c:Int)<0))=false:=decide_eq_false (by omega);have g:aL D G w0 w1 (Ls++((eb,m_ now s mb)::L)):=H.perm B3;refine⟨_,mS H Bx,an rfl ⟨λ_=>rfl,λ_=>rfl,aj.cv 0 H rfl (show _=some (s.1,s.2.1,s.2.2) from rfl) ?_⟩⟩;refine an (by rw[h0,Bool.false_or,decide_eq_false_iff_not];dsimp only;omega) ⟨rfl,rfl,aj.cv 0 H rfl (show _=some (s.1,s.2.1,s.2.2) from rfl) ⟨⟨(Iv b g h).1,by omega,by dsimp only;omega⟩,aj.of (pins.getD c 0) (by dsimp only;rw[Dw];exact(Iv b g h).2) ?_⟩⟩;refine ab (λe=>au.go H λd H=>?_) (λe=>⟨rfl,rfl,aj.cv 0 H rfl (show _=some (s.1,s.2.1,s.2.2) from rfl) ⟨⟨(Iv b g h).1,by omega,by dsimp only;omega⟩,?_⟩⟩)
 ·refine k 6 Ls d ?_ H;unfold An;rw[av (by simpa using e)];exact b
 ·dsimp only;rw[Dw];refine b.st g hc a rfl rfl λf d j i=>au.go i λl i=>k 0 f l ?_ (i.perm B3.symm);unfold An;rw[ao (by intro c;rw[c] at e;simp at e)];exact j
theorem Uz (H:aL D G w0 w ((eb,m_ now s mb)::(Ls++L))) (e:du eI s pins Ls) (c:Nat) (hc:c<pins.length) {K:Int->A2->Prop}
 (k: ∀v a b,du eI s (An pins c now) a->aL D G w0 b ((eb,m_ now s mb)::(a++L))->K v b):
 aA AC 200 (.el (.one (.int .i64))) [ag (af eb),aa (c:Int)] w K:=by
 refine aA.go H λw1 H=>ai (C:=U0) (aQ:=λ_=>[]) (AG (Uw _ _ w1 K) ?_);exact⟨now,Zd H Bx,IU H e c hc now λv a b f d=>au.go d λg d=>k v a g f d⟩
theorem KF (H:aL D G w0 w ((eb,m_ now s mb)::(Ls++L))) (e:du eI s pins Ls) (c:Nat) (hc:c<pins.length) {K:Int->A2->Prop}
 (k: ∀v a b,du eI s (An pins c (-1)) a->aL D G w0 b ((eb,m_ now s mb)::(a++L))->K v b):
 aA AC 158 (.el (.one (.int .i64))) [ag (af eb),aa (c:Int)] w K:=by
 refine aA.go H λw1 H=>ai (C:=U0) (aQ:=λ_=>[]) (AG (Kz _ _ w1 K) ?_);exact IU H e c hc (-1) λv a b f d=>au.go d λg d=>k v a g f d
def Ka (pins:List Int) (now:Int):Int:=if pins.all (λp=>p== -1||p==now)=true then now+1 else now
theorem UA (H:aL D G w0 w ((eb,m_ now s mb)::(Ls++L))) (g:du eI s pins Ls) (z:pins.length<=8) (A:0<=now/\now<4611686018427387904) {K:Bool->A2->Prop}
 (k: ∀v a,aL D G w0 a ((eb,m_ (Ka pins now) s mb)::(Ls++L))->K v a):
 aA AC 197 (.el (.one .bool)) [ag (af eb)] w K:=by
 refine aA.go H λw1 H=>ai (C:=U0) (aQ:=vY) (AG (Uy _ w1 K) ?_);have m:=g.1;refine⟨_,mS H Bx,an rfl ⟨rfl,rfl,aj.cv 0 H rfl (show _=some (s.1,s.2.1,s.2.2) from rfl) ?_⟩⟩;refine⟨λn st a=> ∃j:Nat,j<=pins.length/\n=pins.length - j/\st.1=(j:Int)/\(pins.take j).all (λp=>p== -1||p==now)=true/\aL D G w0 a ((eb,m_ now s mb)::(Ls++L)),⟨pins.length,λa o=>⟨0,GJ _,rfl,rfl,rfl,H.ext o⟩⟩,?_⟩;rintro n ⟨i, _⟩ a ⟨j,h,r,hi,b,H⟩;have hi:i=(j:Int):=hi;subst hi r;dsimp only;rw[m];have t:aL D G w0 a (Ls++((eb,m_ now s mb)::L)):=H.perm B3;refine ab (λc=>?_) (λc=>?_)
 ·have h:j<pins.length:=by have:=of_decide_eq_true c;omega
  obtain⟨x,d⟩: ∃x,pins[j]? =some x:=⟨_,Dl h⟩;have l:=Iv g t d;refine⟨⟨l.1,by omega,by omega⟩,aj.of x (by rw[Dw];exact l.2) ⟨λ_=>rfl,λ_=>rfl,aj.cv 0 H rfl (show _=some now from rfl) ?_⟩⟩;refine ab (λc=>au.go H λf H=>k false f ?_) (λc f u=>⟨pins.length - (j+1),by omega,j+1,by omega,rfl,?_,?_,H.ext u⟩)
  ·have:Ka pins now=now:=by
    unfold Ka;refine ao λhc=>?_;have:=List.all_eq_true.1 hc x (FV d);simp only[Io,bne_iff_ne,F4,beq_iff_eq] at c this;rcases this with q|q
    ·exact c.1 q
    ·exact c.2 q
   rw[this];exact H
  ·rw[ax (by omega) (by omega)];omega
  ·rw[I2,d,List.all_append,b,H5];show([x]:List Int).all _=true;rw[List.all_cons,List.all_nil,Bool.and_true];simp only[J0,bne_eq_false_iff_eq] at c;simpa using c
 ·have:j=pins.length:=by have:=of_decide_eq_false c;omega
  subst this;rw[Gi] at b;have e:Ka pins now=now+1:=av b;rw[e] at k;refine⟨rfl,rfl,aj.cv 0 H rfl (show _=some now from rfl) ⟨rfl,rfl,?_⟩⟩;rw[ax (by omega) (by omega)];exact az.e8 0 H rfl rfl rfl λf H=>au.go H λy H=>k true y H
end
section
variable {D G:List Nat} {w0 w:A2} {L:List (Nat×List AF)} {M:List (Nat×AT)} {s:Option AB×Nat×Nat} {ws:List KV} {es:List B2} {now:Int} {eb mb ck:Nat}
def Of (ws:List KV) (f now:Int):List KV:=if ws.any (λx=>x.1==f)=true then ws else(f,aa now)::ws
theorem UB (H:cw D G w0 w L ((mb,.map ⟨es⟩ ck)::M)) (b:(eb,m_ now s mb)∈L) (hv:iz es ck ws) (r: ∀t∈ws, ∃x,t.2=aa x) (f:Int) (B:0<=f) {K:Int->A2->Prop}
 (k: ∀v l m a,iz l m (Of ws f now)->cw D G w0 a L ((mb,.map ⟨l⟩ m)::M)->K v a):
 aA AC 162 (.el (.one (.int .i64))) [ag (af eb),aa f] w K:=by
 refine λw1 h1=>ai (C:=U0) (aQ:=λ_=>[]) (AG (Ux _ _ w1 K) ?_);have H:=H.ext h1;refine⟨_,mS H.base b,an rfl (an (decide_eq_false (by omega)) ⟨rfl,rfl,aj.ky H.base b (show _=some (some mb) from rfl) ?_⟩)⟩;have n:bF w1 mb ⟨es⟩ ck:=H.get (i:=0) rfl;by_cases o: ∃v,(f,v)∈ws
 ·obtain⟨v,d⟩:=o;obtain⟨x,p⟩:=r _ d;dsimp only at p;subst p;obtain⟨i,hi, _⟩:=hv.Fi d;refine⟨x,true,⟨mb, _, _,rfl,n,by rw[hi];exact⟨rfl,rfl⟩⟩,aB rfl λa g=>?_⟩;have e:Of ws f now=ws:=av (LL.2 ⟨_,d,by simp⟩);rw[e] at k;exact k 5 es ck a hv (H.ext g)
 ·have h: ∀t∈ws,t.1≠f:=λt j e=>o ⟨t.2,by rw[<-e];exact j⟩;have q:=hv.Oe h;refine⟨0,false,⟨mb, _, _,rfl,n,by rw[q];exact⟨rfl,rfl⟩⟩,an rfl ⟨rfl,rfl,aj.ky H.base b (show _=some (some mb) from rfl) ⟨rfl,rfl,aj.ky H.base b (show _=some now from rfl) λa g=>?_⟩⟩⟩;have H:=H.ext g;refine⟨mb, _, _,rfl,H.get (i:=0) rfl,?_⟩;unfold gR;rw[q];have H:=H.put (i:=0) rfl (o':= .map ⟨es++[{key:=aa f,val:=aa now,born:=ck}]⟩ (ck+1)) trivial;have u:(NI es).push {key:=aa f,val:=aa now,born:=ck}=⟨es++[{key:=aa f,val:=aa now,born:=ck}]⟩:=by apply NF;simp
  have e:Of ws f now=(f,aa now)::ws:=ao λc=>by
   obtain⟨t,j,y⟩:=LL.1 c;exact h t j (by simpa using y)
  rw[e] at k;show au _ _;rw[u];exact λz A=>k 0 _ _ z (hv.push _ h) (H.ext A)
end
abbrev Dg:Type:=Int×Int×Int×Int×Unit
def lnR (l:Dg):Bool:=decide (l.1>=1)&&decide (l.1<=16)&&decide (l.2.1>=0)&&decide (l.2.1<65536)&&decide (l.2.2.1>=0)&&decide (l.2.2.1<4096)&&decide (l.2.2.2.1>=1)&&decide (l.2.2.2.1<=7)
def kY (l:Dg) (t p:Int):Bool:=l.1==t&&l.2.1==p
abbrev lnV (l:Dg):AF:= .agg ⟨[aa l.1,aa l.2.1,aa l.2.2.1,aa l.2.2.2.1]⟩
theorem Qd (l:Dg) (w:A2):ae AC 204 [lnV l] w (.bool (lnR l)):=by
 obtain⟨t,p,f,r, _⟩:=l;refine ae.of (s:= .el (.one .bool)) λw' _=>ai (C:=U0) (aQ:=λ_=>[]) (AG (Kq t p f r w' _) ?_);have H:=At.start [] w'
 repeat' (first
  |exact Go.RX.aL.all H
  |exact And.intro (by first|rfl|decide+kernel) (Go.RX.aL.all H)
  |refine And.intro (by first|exact rfl|exact trivial|exact λ_=>rfl|exact λ_=>trivial|exact⟨rfl,by decide,by decide⟩|exact⟨by decide,by decide⟩|decide+kernel|exact λ_=>by decide|exact λ_=>⟨rfl,by decide,by decide⟩|(dsimp only[M4,M5];exact⟨rfl,by decide,by decide⟩)) ?_
  |refine aj.cv 0 H rfl rfl ?_
  |refine aj.at 0 H rfl rfl ?_
  |refine aN.go H λb w1 H=>?_
  |refine az.all 0 H rfl rfl rfl λw1 H=>?_
  |refine az.e8 0 H rfl rfl rfl λw1 H=>?_
  |refine az.one 0 H rfl rfl rfl λw1 H=>?_
  |with_reducible refine au.go H λw1 H=>?_
  |refine jJ ?_
  |refine aB (by assumption) ?_
  |refine an (by assumption) ?_
  |refine ab (λc=>?_) (λc=>?_))
theorem W8 (l:Dg) (a b:Int) (w:A2):ae AC 150 [lnV l,aa a,aa b] w (.bool (kY l a b)):=by
 obtain⟨t,p,f,r, _⟩:=l;refine ae.of (s:= .el (.one .bool)) λw' _=>ai (C:=U0) (aQ:=λ_=>[]) (AG (Zc t p f r a b w' _) ?_);have H:=At.start [] w';refine aN.go H λc w1 H=>aj.at 0 H rfl (show _=some (t,p,f,r,()) from rfl) ⟨rfl,aj.cv 0 H rfl rfl ⟨rfl,aj.cv 0 H rfl rfl (au.go H λw1 H=>⟨?_,H.all⟩)⟩⟩;show(t==a&&(p==b&&(f==f&&(r==r&&true))))=(t==a&&p==b);simp
abbrev db (s:Option AB×Nat×Nat) (sz:Int):List AF:=[.slice s.1 s.2.1 s.2.2,aa sz]
section
variable {D G:List Nat} {w0 w:A2} {L Ls:List (Nat×List AF)} {s:Option AB×Nat×Nat} {ls:List Dg} {sz:Int} {tb:Nat}
theorem pv (H:aL D G w0 w L) (a:(tb,db s sz)∈L) (b:0<sz):ae AC 140 [ag (af tb)] w (.bool true):=by
 refine ae.of (s:= .el (.one .bool)) λw' h'=>ai (C:=U0) (aQ:=λ_=>[]) (AG (Ks _ w' _) ?_);refine⟨λ_=>rfl,λ_=>rfl,aj.ky (H.ext h') a rfl λw1 h1=>⟨?_,h1⟩⟩;rw[decide_eq_true b];rfl
theorem O5 {α:Type} {a b:α} {m l:Nat} (h:m=l):(GD (λ_=>a) (λ_=>b) (instDecidableEqNat m l):α)=b:=by
 generalize instDecidableEqNat m l=d;cases d with
 |isTrue _=>rfl
 |isFalse c=>exact absurd h c
theorem Gc {α:Type} {a b:α} {m l:Nat} (h:m≠l):(GD (λ_=>a) (λ_=>b) (instDecidableEqNat m l):α)=a:=by
 generalize instDecidableEqNat m l=d;cases d with
 |isTrue c=>exact absurd c h
 |isFalse _=>rfl
theorem IV (H:aL D G w0 w ((tb,db s sz)::(Ls++L))) (l:du jQ s ls Ls) (T:(ls.length:Int)<=64) (i:Nat) (hi:i<ls.length) {K:Unit->A2->Prop}
 (k: ∀s' b a,du jQ s' (ls.eraseIdx i) b->aL D G w0 a ((tb,db s' sz)::(b++L))->K () a):
 aA AC 196 (.bu []) [ag (af tb),aa (i:Int)] w K:=by
 refine aA.go H λw1 H=>ai (C:=U0) (aQ:=λ_=>[]) (AG (Uq _ _ w1 K) ?_);obtain⟨p,n,c⟩:=s;have v:=l;obtain⟨h1,e,m⟩:=l;have h1:n=ls.length:=h1;have e:ls.length<=c:=e;subst h1;have U:=e;have o:aJ .i64 (i:Int) 1=((i+1:Nat):Int):=by rw[ax (by omega) (by omega)];omega
 obtain⟨bs,rest,a1,x,y⟩: ∃bs rest,p=some ⟨bs,0,none⟩/\Ls=[(bs,flat jQ ls++rest)]/\c*aD jQ<=(flat jQ ls++rest).length:=by
  rcases m with ⟨_,q, _⟩|q
  ·have:c=0:=q;omega
  ·exact q
 subst a1 x;refine⟨rfl,rfl,aj.cv 0 H rfl rfl ⟨?_,rfl,rfl,aj.cv 0 H rfl rfl ⟨?_,λa A=>?_⟩⟩⟩
 ·dsimp only;omega
 ·rw[o];dsimp only;omega
 have H:=H.ext A;rw[o];dsimp only;have B:oI a (if((c:Int)).toNat=((i+1:Nat):Int).toNat then(some ⟨bs,0,none⟩:Option AB) else ad (af bs) (((i+1:Nat):Int).toNat*4)) ((((ls.length:Nat):Int).toNat - ((i+1:Nat):Int).toNat)*aD jQ) (flat jQ (ls.drop (i+1))):=by
  have E:=H.get (i:=1) rfl;by_cases hc:c=i+1
  ·have:ls.drop (i+1)=[]:=JP (by omega);rw[this,av (by omega),show((((ls.length:Nat):Int).toNat - ((i+1:Nat):Int).toNat))=0 by omega];exact⟨rfl,λj f=>by simp at f⟩
  ·rw[ao (by omega),aW];refine E.oI ?_ λj f=>?_
   ·rw[aG,FS];congr 1
   ·have g:flat jQ ls=flat jQ (ls.take (i+1))++flat jQ (ls.drop (i+1)):=by rw[<-dP,Do]
    have u:(flat jQ (ls.take (i+1))).length=(i+1)*aD jQ:=by rw[aG,B1,Dd (by omega)]
    have F:0+((i+1:Nat):Int).toNat*4=(i+1)*aD jQ:=by
     show 0+(i+1)*4=(i+1)*4;omega
    have I:j<(flat jQ (ls.drop (i+1))).length:=by
     rw[aG,FS];refine Ij f (Gj _ (by omega))
    rw[F,g,DN,Hq (by rw[u];omega),u,Nat.add_sub_cancel_left,Gd I]
 have J:du jQ (some ⟨bs,0,none⟩,i,i) (ls.take i) [(bs,flat jQ (ls.take i)++(flat jQ (ls.drop i)++rest))]:=by
  refine⟨by rw[B1,Dd (by omega)],by rw[B1,Dd (by omega)];exact Db _,.inr ⟨bs, _,rfl,rfl,?_⟩⟩;rw[<-DN, <-dP,Do];exact DB (Gj _ (show i<=c by clear e v m;omega)) y
 have M:flat jQ ls++rest=flat jQ (ls.take i)++(flat jQ (ls.drop i)++rest):=by rw[<-DN, <-dP,Do]
 have N:aL D G w0 a ([(bs,flat jQ (ls.take i)++(flat jQ (ls.drop i)++rest))]++((tb,db (some ⟨bs,0,none⟩,ls.length,c) sz)::L)):=by
  rw[<-M];exact H.perm (E5 _ _ _)
 have g:(GD (λ_=>ad (af bs) (((i+1:Nat):Int).toNat*4)) (λ_=>(some ⟨bs,0,none⟩:Option AB)) (instDecidableEqNat ((c:Int)).toNat ((i+1:Nat):Int).toNat):Option AB)=if((c:Int)).toNat=((i+1:Nat):Int).toNat then(some ⟨bs,0,none⟩:Option AB) else ad (af bs) (((i+1:Nat):Int).toNat*4):=by
  by_cases hc:((c:Int)).toNat=((i+1:Nat):Int).toNat
  ·rw[av hc,O5 hc]
  ·rw[ao hc,Gc hc]
 have key:=aL.T1 N J (show gT jQ=true from rfl) (q:=(if((c:Int)).toNat=((i+1:Nat):Int).toNat then(some ⟨bs,0,none⟩:Option AB) else ad (af bs) (((i+1:Nat):Int).toNat*4),((ls.length:Nat):Int).toNat - ((i+1:Nat):Int).toNat,((c:Int)).toNat - ((i+1:Nat):Int).toNat)) (ys:=ls.drop (i+1)) (by rw[FS];show((ls.length:Nat):Int).toNat - ((i+1:Nat):Int).toNat= _;omega) B
  (t:=96) (size:=4) (bytes:=32) (z:=⟨[aa 0,aa 0,aa 0,aa 0]⟩) rfl rfl (by rw[B1,FS];omega)
  (R:=λr a=>(some (⟨tb,0,none⟩:AB)).isSome=true/\(some (⟨tb,0,none⟩:AB)).isSome=true/\az a (ad (af tb) 0) [Value.slice r.1 r.2.1 r.2.2] λa=>au a λw1=>K () w1) λs' b V O h=>?_
 ·rw[g];have:((i:Int)).toNat - 0=i:=by omega
  rw[this];generalize (instDecidableEqNat ((i:Int)).toNat 0:Decidable (((i:Int)).toNat=((0:Nat):Int).toNat))=d;cases d<;>exact key
 ·refine⟨rfl,rfl,?_⟩;have h:=h.perm (L':=(tb,db (some ⟨bs,0,none⟩,ls.length,c) sz)::(b++L)) B3.symm;refine az.e8 0 h rfl rfl rfl λW P=>au.go P λQ S=>k s' b Q ?_ S;rw[Og];exact O
theorem pG {α:Type} {ls:List α} {j:Nat} {x:α} (f:α->Bool) (a:ls[j]? =some x):ls.take (j+1)++(ls.drop (j+1)).filter f=ls.take j++([x]++(ls.drop (j+1)).filter f):=by
 rw[I2,a,DN];rfl
theorem ji {α:Type} {ls:List α} {j:Nat} {x:α} (a:ls[j]? =some x):ls.drop j=x::ls.drop (j+1):=by
 obtain⟨h,e⟩:=Bs.1 a;rw[J_ h,e]
def SwI (D G:List Nat) (w0:A2) (L:List (Nat×List AF)) (tb:Nat) (sz:Int) (ls:List Dg) (is:Dg->Bool) (n:Nat) (s:Int×Int×Unit) (w:A2):Prop:=
 n<=ls.length/\s.1=(((ls.drop n).countP is:Nat):Int)/\s.2.1=(n:Int) - 1/\ ∃sl Ls,du jQ sl (ls.take n++(ls.drop n).filter (λl=> !is l)) Ls/\aL D G w0 w ((tb,db sl sz)::(Ls++L))
theorem zx {is:Dg->Bool} (O:(ls.length:Int)<=64) {n:Nat} {s:Int×Int×Unit} (v:SwI D G w0 L tb sz ls is n s w) {Q:Dg->Bool->Prop} {K:Int->A2->Prop} {N:Int->Int->A2->Prop}
 (z: ∀{sl Ls},aL D G w0 w ((tb,db sl sz)::(Ls++L))-> ∀x,Q x (is x))
 (A: ∀{sl Ls d},du jQ sl (ls.filter (λl=> !is l)) Ls->aL D G w0 d ((tb,db sl sz)::(Ls++L))->K ((ls.countP is:Nat):Int) d)
 (o: ∀(a b:Int) (d:A2),(∃q,q<n/\SwI D G w0 L tb sz ls is q (a,b,()) d)->N a b d):
 aI (decide (s.2.1>=0)) ((some (⟨tb,0,none⟩:AB)).isSome=true/\(some (⟨tb,0,none⟩:AB)).isSome=true/\aj w none (ad (af tb) 0) (.one .slice) λx=>(x.1.isSome=true/\0<=s.2.1/\s.2.1<((x.2.1:Nat):Int))/\aj w none (ad x.1 (Ap s.2.1*4)) jQ λx=> ∃r:Bool,Q x r/\
  aI r (aA AC 196 (.bu []) [ag (af tb),aa s.2.1] w λ_ d=> ∀e,Ext d e->N (aJ .i64 s.1 1) (aY .i64 s.2.1 1) e) (∀e,Ext w e->N s.1 (aY .i64 s.2.1 1) e))
  (au w λw1=>K s.1 w1):=by
 obtain⟨s1,B,P⟩:=s;obtain⟨h1,m,f,sl,Ls,g,H⟩:=v;have m:s1=(((ls.drop n).countP is:Nat):Int):=m;have f:B=(n:Int) - 1:=f;subst m f;refine ab (λc=>?_) (λc=>?_)
 ·obtain⟨j,rfl⟩: ∃j,n=j+1:=⟨n - 1,by have:=of_decide_eq_true c;dsimp only at this;omega⟩;obtain⟨x,h⟩: ∃x,ls[j]? =some x:=⟨_,Dl (by omega)⟩;have hc:((((ls.drop (j+1)).countP is:Nat):Int))<=ls.length:=by
   have:=List.countP_le_length (p:=is) (l:=ls.drop (j+1));rw[FS] at this;omega
  have C:((j+1:Nat):Int) - 1=(j:Int):=by omega
  have E:aY .i64 (j:Int) 1=(j:Int) - 1:=bD (by omega) (by omega);have t:=(g.sl H (λy F=>B5 _ (Cc _ F))) j x (by
   rw[pG _ h,Hq (by rw[B1];omega),B1,Dd (by omega),H4];rfl)
  have I:=g.1;dsimp only;rw[C,E];refine⟨rfl,rfl,aj.cv 0 H rfl rfl ⟨⟨t.1,by omega,?_⟩,aj.of x ?_ ⟨is x,z H x,?_⟩⟩⟩
  ·dsimp only;rw[I,pG _ h,BO,BO,B1,Dd (by omega),IE];omega
  ·dsimp only;rw[Dw];exact t.2
  rw[pG _ h] at g;have i:(ls.drop j).countP is=(ls.drop (j+1)).countP is+if is x=true then 1 else 0:=by rw[ji h,List.countP_cons]
  cases k:is x with
  |true=>
   rw[k,av rfl] at i;refine aB rfl (IV H g ?_ j ?_ λs' J d u M e f=>o _ _ _ ⟨j,Im j,by omega,?_,rfl,s',J,?_,M.ext f⟩)
   ·have:=Oi (λl=> !is l) (ls.drop (j+1));rw[FS] at this;simp only[BO,B1,IE];omega
   ·simp only[BO,B1,IE];omega
   ·dsimp only;rw[ax (by omega) (by omega),i];omega
   ·rw[List.eraseIdx_append_of_length_le (by rw[B1];omega),B1,Dd (by omega),H4] at u;rw[ji h,GI,k];exact u
  |false=>
   rw[k,ao (by decide)] at i;refine an rfl λe f=>o _ _ _ ⟨j,Im j,by omega,?_,rfl,sl,Ls,?_,H.ext f⟩
   ·dsimp only;rw[i];rfl
   ·rw[ji h,GI,k];exact g
 ·have:n=0:=by
   have:=of_decide_eq_false c;dsimp only at this;omega
  subst this;rw[N7,Ok,Ow] at g;rw[Ow];exact au.go H λd H=>A g H
theorem G7 (H:aL D G w0 w ((tb,db s sz)::(Ls++L))) (i:du jQ s ls Ls) (o:(ls.length:Int)<=64) (p:0<sz) {c d:Nat} {t g:Int} (hc:(c,[aa t])∈L) (q:(d,[aa g])∈L) {K:Int->A2->Prop}
 (k: ∀s' j e,du jQ s' (ls.filter λl=> !kY l t g) j->aL D G w0 e ((tb,db s' sz)::(j++L))->K ((ls.countP (λl=>kY l t g):Nat):Int) e):
 aA AC 147 (.el (.one (.int .i64))) [ag (af tb),.func (.func 149) #[] #[ag (af c),ag (af d)]] w K:=by
 refine aA.go H λw1 H=>ai (C:=U0) (aQ:=pL) (AG (GZ _ _ _ w1 K) ?_);have r:=i.1;refine⟨_,pv H (Bx) p,an rfl ⟨rfl,rfl,aj.cv 0 H rfl rfl ⟨SwI D G w0 L tb sz ls (λl=>kY l t g),⟨ls.length,λe u=>⟨Db _,?_,?_,s,Ls,?_,H.ext u⟩⟩,λn st e v=>?_⟩⟩⟩
 ·rw[G1];rfl
 ·dsimp only;rw[r,bD (by omega) (by omega)]
 ·rw[G1,Gi,PP,GH];exact i
 refine zx (is:=λl=>kY l t g) o v (Q:=λx b=>ae AC 149 [lnV x,ag (af c),ag (af d)] e (.bool b)) (N:=λa b f=> ∃m,m<n/\SwI D G w0 L tb sz ls (λl=>kY l t g) m (a,b,()) f) (λ{sl Ls} H x=>?_) (λ{sl Ls e} a b=>k sl Ls e a b) (λa b e h=>h);refine ae.of (s:= .el (.one .bool)) λw' h'=>ai (C:=U0) (aQ:=λ_=>[]) (AG (GY _ _ _ _ _ _ w' _) ?_);have y:=(H.ext h').dk _ (B5 _ (DQ _ hc));have z:=(H.ext h').dk _ (B5 _ (DQ _ q));have H0:=At.start [] w';refine aN.go H0 λb f H0=>aj.at 0 H0 rfl (show _=some (x.1,x.2.1,x.2.2.1,x.2.2.2.1,()) from rfl) (aj.fQ H0 y (by simp) rfl (aj.fQ H0 z (by simp) rfl ⟨_,W8 (x.1,x.2.1,x.2.2.1,x.2.2.2.1,()) t g f,au.go H0 λA H0=>⟨rfl,H0.all⟩⟩))
theorem G8 (H:aL D G w0 w ((tb,db s sz)::(Ls++L))) (e:du jQ s ls Ls) (j:(ls.length:Int)<=64) (m:0<sz) {c:Nat} {t:Int} (hc:(c,[aa t])∈L) {K:Int->A2->Prop}
 (k: ∀s' f d,du jQ s' (ls.filter λl=> !(l.1==t)) f->aL D G w0 d ((tb,db s' sz)::(f++L))->K ((ls.countP (λl=>l.1==t):Nat):Int) d):
 aA AC 147 (.el (.one (.int .i64))) [ag (af tb),.func (.func 148) #[] #[ag (af c)]] w K:=by
 refine aA.go H λw1 H=>ai (C:=U0) (aQ:=pM) (AG (G4 _ _ w1 K) ?_);have o:=e.1;refine⟨_,pv H (Bx) m,an rfl ⟨rfl,rfl,aj.cv 0 H rfl rfl ⟨SwI D G w0 L tb sz ls (λl=>l.1==t),⟨ls.length,λd p=>⟨Db _,?_,?_,s,Ls,?_,H.ext p⟩⟩,λn st d q=>?_⟩⟩⟩
 ·rw[G1];rfl
 ·dsimp only;rw[o,bD (by omega) (by omega)]
 ·rw[G1,Gi,PP,GH];exact e
 refine zx (is:=λl=>l.1==t) j q (Q:=λx b=>ae AC 148 [lnV x,ag (af c)] d (.bool b)) (N:=λa b g=> ∃i,i<n/\SwI D G w0 L tb sz ls (λl=>l.1==t) i (a,b,()) g) (λ{sl Ls} H x=>?_) (λ{sl Ls d} a b=>k sl Ls d a b) (λa b d h=>h);refine ae.of (s:= .el (.one .bool)) λw' h'=>ai (C:=U0) (aQ:=λ_=>[]) (AG (Kt _ _ _ _ _ w' _) ?_);have r:=(H.ext h').dk _ (B5 _ (DQ _ hc));have H0:=At.start [] w';refine aN.go H0 λb g H0=>⟨rfl,aj.cv 0 H0 rfl rfl (aj.fQ H0 r (by simp) rfl (au.go H0 λu H0=>⟨rfl,H0.all⟩))⟩
theorem A6 (H:aL D G w0 w ((tb,db s sz)::(Ls++L))) (i:du jQ s ls Ls) (j:(ls.length:Int)<=64) (m:0<sz) (t g:Int) {K:Bool->A2->Prop}
 (k: ∀s' a b,du jQ s' (ls.filter λl=> !kY l t g) a->aL D G w0 b ((tb,db s' sz)::(a++L))->K (ls.any λl=>kY l t g) b):
 aA AC 108 (.el (.one .bool)) [ag (af tb),aa t,aa g] w K:=by
 refine aA.go H λw1 H=>ai (C:=U0) (aQ:=λ_=>[]) (AG (Ku _ _ _ w1 K) ?_);refine aN.go H λc b H=>aN.go H λd n H=>?_;have o:aL D G w0 n ((tb,db s sz)::(Ls++((d,[aa g])::(c,[aa t])::L))):=H.perm (by
  have p1:(Ls++((d,[aa g])::(c,[aa t])::L)).Perm ((d,[aa g])::(c,[aa t])::(Ls++L)):=B3.trans (Cd _ B3);refine(Cd _ p1).trans ?_;exact(E5 _ _ _).trans (Cd _ (E5 _ _ _)))
 refine G7 o i j m (c:=c) (d:=d) (t:=t) (g:=g) (B5 _ Bx) Bx λs' a u q f=>au.go f λr f=>?_;have e:decide (((ls.countP (λl=>kY l t g):Nat):Int)>0)=ls.any λl=>kY l t g:=by
  rw[J1,decide_eq_true_eq,LL];have:=List.countP_pos_iff (p:=λl=>kY l t g) (l:=ls);constructor
  ·intro h;exact this.1 (by omega)
  ·intro h;have:=this.2 h;omega
 rw[e];exact k s' a r q (f.sub (J5 _ (NO (HB _ (HB _ (J4 _))) _)))
theorem G9 (H:aL D G w0 w ((tb,db s sz)::(Ls++L))) (e:du jQ s ls Ls) (f:(ls.length:Int)<=64) (g:0<sz) (t:Int) {K:Int->A2->Prop}
 (k: ∀v s' a b,du jQ s' (ls.filter λl=> !(l.1==t)) a->aL D G w0 b ((tb,db s' sz)::(a++L))->K v b):
 aA AC 107 (.el (.one (.int .i64))) [ag (af tb),aa t] w K:=by
 refine aA.go H λw1 H=>ai (C:=U0) (aQ:=λ_=>[]) (AG (G5 _ _ w1 K) ?_);refine aN.go H λc b H=>?_;have h:aL D G w0 b ((tb,db s sz)::(Ls++((c,[aa t])::L))):=H.perm ((Cd _ B3).trans (E5 _ _ _));refine G8 h e f g (c:=c) (t:=t) Bx λs' a m i d=>au.go d λj d=>?_;exact k _ s' a j i (d.sub (J5 _ (NO (HB _ (J4 _)) _)))
end
section
variable {D G:List Nat} {w0 w:A2} {L Ls:List (Nat×List AF)} {s:Option AB×Nat×Nat} {ls:List Dg} {sz:Int} {tb:Nat}
def DI (ls:List Dg) (sz:Int) (l:Dg):List Dg:=
 (if ls.any (λx=>kY x l.1 l.2.1)=true then ls.filter (λx=> !kY x l.1 l.2.1) else if(ls.length:Int)=sz then ls.drop 1 else ls)++[l]
def yj (ls:List Dg) (t p w:Int):Int×Int×Unit:=match ls.find? (λx=>kY x t p) with
 |none=>(0,4,())
 |some l=>if w<0\/w>7\/gF .i64 w l.2.2.2.1≠0 then(0,7,()) else(l.2.2.1,0,())
theorem IW {x b:Nat×List AF} {Ls L:List (Nat×List AF)}:(x::(Ls++(b::L))).Perm (b::x::(Ls++L)):=
 (Cd _ B3).trans (E5 _ _ _)
theorem Ze {α:Type} (x y z:α) (A B:List α):(A++(x::y::z::B)).Perm (z::y::x::(A++B)):=by
 refine B3.trans ?_;refine(Cd x (B3.trans (Cd y B3))).trans ?_;refine(Cd x (E5 z y _)).trans ?_;exact(E5 z x _).trans (Cd z (E5 y x _))
theorem Qe (H:aL D G w0 w ((tb,db s sz)::(Ls++L))) (J:du jQ s ls Ls) (hl:(ls.length:Int)<=sz) (A:0<sz/\sz<=64) (l:Dg) (M:lnR l=true) {K:Int->A2->Prop}
 (k: ∀s' B a,du jQ s' (DI ls sz l) B->aL D G w0 a ((tb,db s' sz)::(B++L))->K 0 a):
 aA AC 159 (.el (.one (.int .i64))) [ag (af tb),lnV l] w K:=by
 obtain⟨t,g,f,r, _⟩:=l;refine aA.go H λw1 H=>ai (C:=U0) (aQ:=λ_=>[]) (AG (P7 _ t g f r w1 K) ?_);refine aN.go H λb a H=>⟨_,pv H (B5 _ Bx) A.1,an rfl (aj.at 0 H rfl (show _=some (t,g,f,r,()) from rfl) ⟨_,Qd (t,g,f,r,()) a,?_⟩)⟩;rw[M];refine an rfl ⟨rfl,aj.cv 0 H rfl rfl ⟨rfl,aj.cv 0 H rfl rfl ?_⟩⟩;have d:aL D G w0 a ((tb,db s sz)::(Ls++((b,[aa t,aa g,aa f,aa r])::L))):=H.perm IW;refine A6 d J (by omega) A.1 t g λs1 Ls1 w3 j d=>?_;have N:=Oi (λl=> !kY l t g) ls;have v: ∀{c:Option AB×Nat×Nat} {o:List Dg} {e:List (Nat×List AF)} {h:A2},du jQ c o e->o.length<=ls.length->o++[(t,g,f,r,())]=DI ls sz (t,g,f,r,())->aL D G w0 h ((tb,db c sz)::(e++((b,[aa t,aa g,aa f,aa r])::L)))->
  ((some (⟨tb,0,none⟩:AB)).isSome=true/\(some (⟨tb,0,none⟩:AB)).isSome=true/\aj h none (ad (af tb) 0) (.one .slice) λx=>aj h none (af b) jQ λp=>aN h ⟨[aa p.1,aa p.2.1,aa p.2.2.1,aa p.2.2.2.1]⟩ 96 λb a=> ∀w1,Ext a w1->
    mz w1 96 4 32 ⟨[aa 0,aa 0,aa 0,aa 0]⟩ (x.1,x.2.1,x.2.2) (some ⟨b,0,none⟩,1,1) λr a=>(some (⟨tb,0,none⟩:AB)).isSome=true/\(some (⟨tb,0,none⟩:AB)).isSome=true/\az a (ad (af tb) 0) [.slice r.1 r.2.1 r.2.2] λa=>au a λw1=>K 0 w1):=by
  intro c o e h O acG P Q;have m:=Q.perm (L':=(b,[aa t,aa g,aa f,aa r])::(tb,db c sz)::(e++L)) IW.symm;refine⟨rfl,rfl,aj.cv 1 m rfl (show _=some (c.1,c.2.1,c.2.2) from rfl) (aj.at 0 m rfl (show _=some (t,g,f,r,()) from rfl) (aN.go m λy w5 m R S=>?_))⟩;have E:=m.ext S;have T:=E.get (i:=0) rfl;have U:aL D G w0 R (e++((tb,db c sz)::(b,[aa t,aa g,aa f,aa r])::(y,[aa t,aa g,aa f,aa r])::L)):=E.perm (Ze _ _ _ _ _);refine aL.T1 U O rfl (q:=(some ⟨y,0,none⟩,1,1)) (ys:=[(t,g,f,r,())]) rfl ?_ rfl rfl (by simp only[IE];omega) λV F w7 I W=>?_
  ·exact bK.oI (vs:=flat jQ [(t,g,f,r,())]) T rfl λi hi=>by rw[Ca];rfl
  ·rw[P] at I;have n:=W.perm (L':=(tb,db c sz)::(F++((b,[aa t,aa g,aa f,aa r])::(y,[aa t,aa g,aa f,aa r])::L))) B3.symm;refine⟨rfl,rfl,az.e8 0 n rfl rfl rfl λw8 n=>au.go n λX n=>k V F X I (n.sub ?_)⟩;exact J5 _ (NO (HB _ (HB _ (J4 _))) _)
 refine⟨λ_=>rfl,λ_=>rfl,aj.ky d Bx (show _=some (s1.1,s1.2.1,s1.2.2) from rfl) ⟨λ_=>rfl,λ_=>rfl,aj.ky d Bx (show _=some sz from rfl) ?_⟩⟩;dsimp only;have z:=j.1;cases u:ls.any (λl=>kY l t g) with
 |true=>
  refine an rfl (v j N ?_ d);unfold DI;rw[av u]
 |false=>
  have Y:ls.filter (λl=> !kY l t g)=ls:=Kc.2 λx Z=>by
   have:=(List.any_eq_false.1 u) x Z;simpa using this
  rw[Y] at j z;by_cases hc:(ls.length:Int)=sz
  ·refine aB (by rw[z,hc];simp) ?_;have h0:0<ls.length:=by omega
   refine IV d j (by omega) 0 h0 λc e h TB H2=>v TB (by rw[List.length_eraseIdx];split<;>omega) ?_ H2;unfold DI;rw[ao (by rw[u];decide),av hc];cases ls with
   |nil=>exact absurd h0 (by simp)
   |cons x r=>rfl
  ·refine an (by rw[z];simpa using hc) (v j (Db _) ?_ d);unfold DI;rw[ao (by rw[u];decide),ao hc]
theorem UC (H:aL D G w0 w ((tb,db s sz)::(Ls++L))) (h:du jQ s ls Ls) (M:(ls.length:Int)<=64) (r:0<sz) (t g k:Int):
 ae AC 201 [ag (af tb),aa t,aa g,aa k] w ((Sh.bu [.one (.int .i64),.one (.int .i64)]).gK (yj ls t g k)):=by
 refine ae.of (s:= .bu [.one (.int .i64),.one (.int .i64)]) λw1 h1=>ai (C:=U0) (aQ:=ud) (AG (P8 _ t g k w1 _) ?_);have H:=H.ext h1;have u:=h.1;have v:=h.sl H (λy z=>B5 _ (Cc _ z));refine⟨_,pv H Bx r,an rfl ⟨rfl,rfl,aj.cv 0 H rfl (show _=some (s.1,s.2.1,s.2.2) from rfl) ?_⟩⟩;refine⟨λn st d=> ∃j:Nat,j<=ls.length/\n=ls.length - j/\st.1=(j:Int)/\(ls.take j).find? (λx=>kY x t g)=none/\Ext w1 d,⟨ls.length,λd a=>⟨0,GJ _,rfl,rfl,rfl,a⟩⟩,?_⟩;rintro n ⟨i, _⟩ d ⟨j,l,A,hi,e,a⟩;have hi:i=(j:Int):=hi;subst hi A;dsimp only;rw[u];refine ab (λc=>?_) (λc=>?_)
 ·have l:j<ls.length:=by have:=of_decide_eq_true c;omega
  obtain⟨x,f⟩: ∃x,ls[j]? =some x:=⟨_,Dl l⟩;have m:=v j x f;have H0:aL [] [] w1 d []:=(At.start [] w1).ext a;refine⟨⟨m.1,by omega,by omega⟩,aj.of x (by rw[Dw];exact pk a m.2) (aN.go H0 λb B H0=>az.all 0 H0 rfl rfl rfl λE H0=>aj.at 0 H0 rfl (show _=some (x.1,x.2.1,x.2.2.1,x.2.2.2.1,()) from rfl) ⟨_,W8 (x.1,x.2.1,x.2.2.1,x.2.2.2.1,()) t g E,?_⟩)⟩;have F:kY (x.1,x.2.1,x.2.2.1,x.2.2.2.1,()) t g=kY x t g:=rfl;rw[F];cases o:kY x t g with
  |false=>
   refine aB rfl λp I=>⟨ls.length - (j+1),by omega,j+1,by omega,rfl,?_,?_,(H0.ext I).all⟩
   ·rw[ax (by omega) (by omega)];omega
   ·rw[I2,f,PS,e];rw[Option.none_or];show List.find? _ [x]=none;rw[Pl,o];rfl
  |true=>
   have J:ls.find? (λx=>kY x t g)=some x:=by
    rw[<-Do j ls,PS,e,ji f,Pl,o];rfl
   have hv:yj ls t g k=if k<0\/k>7\/gF .i64 k x.2.2.2.1≠0 then(0,7,()) else(x.2.2.1,0,()):=by
    unfold yj;rw[J]
   rw[hv];refine an rfl ⟨λ_=>rfl,aj.cv 0 H0 rfl rfl ?_⟩;refine ab (λc=>au.go H0 λp H0=>⟨?_,H0.all⟩) (λc=>⟨rfl,aj.cv 0 H0 rfl rfl (au.go H0 λp H0=>⟨?_,H0.all⟩)⟩)
   ·simp only[F4,decide_eq_true_eq,bne_iff_ne] at c;rw[av ?_];rcases c with (c|c)|c
    ·exact .inl c
    ·exact .inr (.inl c)
    ·exact .inr (.inr c)
   ·simp only[FC,decide_eq_false_iff_not,bne_eq_false_iff_eq] at c;rw[ao ?_];rintro(q|q|q)
    ·exact c.1.1 q
    ·exact c.1.2 q
    ·exact q c.2
 ·have:j=ls.length:=by have:=of_decide_eq_false c;omega
  subst this;rw[Gi] at e;intro B K;refine⟨?_,a.trans K⟩;unfold yj;rw[e]
theorem KG (H:aL D G w0 w ((tb,db s sz)::(Ls++L))) (c:du jQ s ls Ls) (m:(ls.length:Int)<=64) (e:0<sz) {K:Option AB×Nat×Nat->A2->Prop}
 (k: ∀r a b,du jQ r ls a->aL D G w0 b (a++((tb,db s sz)::(Ls++L)))->K r b):
 aA AC 83 (.el (.one .slice)) [ag (af tb)] w K:=by
 refine aA.go H λw1 H=>ai (C:=U0) (aQ:=λ_=>[]) (AG (Kv _ w1 K) ?_);refine⟨_,pv H Bx e,an rfl ⟨rfl,rfl,aj.cv 0 H rfl (show _=some (s.1,s.2.1,s.2.2) from rfl) λb f=>?_⟩⟩;have d:=H.ext f;refine aL.T1 (Ls:=[]) d (du.nil jQ) rfl (q:=s) c.1 (c.oI d (λy g=>B5 _ (Cc _ g))) rfl rfl (by simp only[M5];omega) λr a n h i=>au.go i λj l=>k _ a j h l
theorem UD (H:aL D G w0 w L) (n:Int) {K:Option AB×Int×Unit->A2->Prop} (kb:n<1\/n>64-> ∀w1,aL D G w0 w1 L->K (none,1,()) w1)
 (e:1<=n->n<=64-> ∀b w1,aL D G w0 w1 ((b,db (none,0,0) n)::L)->K (some ⟨b,0,none⟩,0,()) w1):
 aA AC 86 (.bu [.one .ptr,.one (.int .i64)]) [aa n] w K:=by
 refine aA.go H λw1 H=>ai (C:=U0) (aQ:=λ_=>[]) (AG (Ur n w1 K) ?_);refine ab (λc=>au.go H λa H=>kb (by simpa using c) a H) (λc=>aN.go H λb a H=>au.go H λf H=>?_);have d:1<=n/\n<=64:=by
  simp only[FC,decide_eq_false_iff_not] at c;omega
 exact e d.1 d.2 b f H
end
def kI (v:AF):Int:=match v with
 | .int _ n=>n
 | _=>0
abbrev Fy (e:Int×Int):KV:=(e.1,aa e.2)
section
variable {D G:List Nat} {w0 w:A2} {L Ls:List (Nat×List AF)} {M M0:List (Nat×AT)} {es:List B2} {mb ck b:Nat}
theorem stM (H:cw D G w0 w (Ls++L) M) {e:El} {s:Option AB×Nat×Nat} {xs:List e.T} (b:du e s xs Ls) {i:Nat} (hi:i<xs.length) (y:e.T) {vs:List AF} (hv:vs=cellsOf e y) (c:gT e=true) {K:A2->Prop}
 (k: ∀a w1,du e s (xs.set i y) a->cw D G w0 w1 (a++L) M->K w1):az w (ad s.1 (i*aD e)) vs K:=λw1 h1=>
 b.st (H.ext h1).base.again hi y hv c (λa d f g=>k a d f ((H.ext h1).join g)) w1 (Ext.refl w1)
theorem Fu (H:cw D G w0 w (Ls++L) M) {e:El} {s:Option AB×Nat×Nat} {xs:List e.T} (b:du e s xs Ls) (c:gT e=true) {q:Option AB×Nat×Nat} {ys:List e.T} (d:q.2.1=ys.length) (f:Go.RX.oI w q.1 (q.2.1*aD e) (flat e ys))
 {t:FQ} {size bytes:Nat} {z:Array AF} (g:size=aD e) (h:z.size=aD e) (hb:(xs.length+ys.length)*bytes<=140737488355328) {R:Option AB×Nat×Nat->A2->Prop}
 (k: ∀s' a w',du e s' (xs++ys) a->cw D G w0 w' (a++L) M->R s' w'):mz w t size bytes z s q R:=
 aL.T1 H.base.again b c d f g h hb λs' a w' h1 i=>k s' a w' h1 (H.join i)
theorem rR {e:El} {a:Nat} {x:e.T} (h:bK w a (cellsOf e x)):Go.RX.oI w (af a) (1*aD e) (flat e [x]):=
 bK.oI (vs:=flat e [x]) h (by rw[aG];rfl) λi hi=>by rw[Ca];show(cellsOf e x)[i]? =(cellsOf e x++[])[i]?;rw[GH]
theorem Qf {r:Option AB×Nat×Nat} {R:List Int} {x:Int} (H:cw D G w0 w (Ls++L) M) (hs:du eI r (R++[x]) Ls) (T:R.Pairwise (· <= ·)) (hl:(R.length:Int)<4611686018427387904) {n0:Int} (hn:n0=R.length) {N:A2->Prop}
 (hN: ∀k E b,E.Pairwise (· <= ·)->E.Perm (x::R)->du eI r E k->cw D G w0 b (k++L) M->N b):
 ∃I:Nat->Int×Unit->A2->Prop,(∃n, ∀w1,Ext w w1->I n (n0,()) w1)/\ ∀(U:Nat) (s:Int×Unit) (w1:A2),I U s w1->
  (decide (s.1>0)=true->r.1.isSome=true/\0<=aY .i64 s.1 1/\aY .i64 s.1 1<((r.2.1:Nat):Int))/\aj w1 (some (decide (s.1>0))) (ad r.1 ((aY .i64 s.1 1).toNat*1)) eI λ(aM:Int)=>
   aI (decide (s.1>0)&&decide (aM>x)) ((r.1.isSome=true/\0<=aY .i64 s.1 1/\aY .i64 s.1 1<((r.2.1:Nat):Int))/\aj w1 none (ad r.1 ((aY .i64 s.1 1).toNat*1)) eI λ(y:Int)=>
    (r.1.isSome=true/\0<=s.1/\s.1<((r.2.1:Nat):Int))/\az w1 (ad r.1 (Ap s.1*1)) [aa y] λg=> ∀b,Ext g b-> ∃V,V<U/\I V (aY .i64 s.1 1,()) b)
    ((r.1.isSome=true/\0<=s.1/\s.1<((r.2.1:Nat):Int))/\az w1 (ad r.1 (Ap s.1*1)) [aa x] λg=> ∀b,Ext g b->N b):=by
 refine⟨λn st w'=> ∃(F:List (Nat×List AF)) (c:Int),n<=R.length/\st.1=(n:Int)/\du eI r (R.take n++(c::R.drop n)) F/\(∀y∈R.drop n,x<y)/\cw D G w0 w' (F++L) M,⟨R.length,λw1 h1=>⟨Ls,x,Db _,hn,by rw[Gi,G1];exact hs,λy e=>(by rw[G1] at e;cases e),H.ext h1⟩⟩,?_⟩;rintro n ⟨i, _⟩ w1 ⟨F,c,u,hi,l,W,v⟩;have hi:i=(n:Int):=hi;subst hi;dsimp only;have m:=l.1;have J:(R.take n++(c::R.drop n)).length=R.length+1:=by
  rw[BO,B1,M4,FS,Dd u];omega
 rw[J] at m;have cn:(R.take n++(c::R.drop n))[n]? =some c:=by
  rw[Hq (by rw[B1];omega),B1,Dd u,H4];rfl
 have z:=(l.sl v.base (λy e=>Cc _ e) n c cn).1;have X:decide ((n:Int)>0)=false\/(∃p,R[n - 1]? =some p/\p<=x)->((r.1.isSome=true/\0<=(n:Int)/\(n:Int)<((r.2.1:Nat):Int))/\az w1 (ad r.1 (Ap (n:Int)*1)) [aa x] λg=> ∀b,Ext g b->N b):=λK=>by
  refine⟨⟨z,by omega,by rw[m];omega⟩,?_⟩;rw[Dw];refine stM v l (i:=n) (by rw[J];omega) x rfl rfl λk g o O b P=>?_;have Q:(R.take n++(c::R.drop n)).set n x=R.take n++(x::R.drop n):=by
   rw[Pp _ _ (by rw[B1];omega),B1,Dd u,H4];rfl
  rw[Q] at o;refine hN k _ b ?_ ?_ o (O.ext P)
  ·have A:=T;rw[<-Do n R,Rg] at A;refine Rg.2 ⟨A.1,List.pairwise_cons.2 ⟨λy e=>Int.le_of_lt (W y e),A.2.1⟩,λa B d S=>?_⟩;rcases B4.1 S with rfl|S
   ·rcases K with K|⟨p,f,Y⟩
    ·have:n=0:=by have:=of_decide_eq_false K;omega
     subst this;rw[N7] at B;cases B
    ·obtain⟨j,t⟩:=GF B;have NU:j<(R.take n).length:=(Bs.1 t).1;rw[B1] at NU;rw[S0 (by omega)] at t;have TC:n - 1<R.length:=(Bs.1 f).1;rcases Nat.lt_or_ge j (n - 1) with q|q
     ·have Z:=Bs.1 t;have hpa:=Bs.1 f;have:=List.pairwise_iff_getElem.1 T j (n - 1) Z.1 TC q;rw[Z.2,hpa.2] at this;exact Int.le_trans this Y
     ·have:j=n - 1:=by omega
      subst this;rw[f] at t;cases t;exact Y
   ·exact A.2.2 a B d S
  ·exact B3.trans (Cd x (by rw[Do]))
 cases n with
 |zero=>
  have C:decide (((0:Nat):Int)>0)=false:=by decide
  refine⟨λh=>(by rw[C] at h;cases h),0,λh=>(by rw[C] at h;cases h),an (by rw[C];rfl) (X (.inl C))⟩
 |succ j=>
  have oz:decide (((j+1:Nat):Int)>0)=true:=decide_eq_true (by omega);have YD:aY .i64 ((j+1:Nat):Int) 1=(j:Int):=by rw[bD (by omega) (by omega)];omega
  obtain⟨p,f⟩: ∃p,R[j]? =some p:=⟨_,Dl (by omega)⟩;have hcj:(R.take (j+1)++(c::R.drop (j+1)))[j]? =some p:=by
   rw[Gd (by rw[B1];omega),S0 (by omega),f]
  have BQ:=(l.sl v.base (λy e=>Cc _ e) j p hcj).2;rw[YD];refine⟨λ_=>⟨z,by omega,by rw[m];omega⟩,aj.of p (by rw[Dw];exact BQ) ?_⟩;refine ab (λhc=>?_) (λhc=>X (.inr ⟨p,(show R[j+1 - 1]? =some p from f),?_⟩))
  ·rw[oz,H5,decide_eq_true_eq] at hc;refine⟨⟨z,by omega,by rw[m];omega⟩,aj.of p (by rw[Dw];exact BQ) ⟨⟨z,by omega,by rw[m];omega⟩,?_⟩⟩;rw[Dw];refine stM v l (i:=j+1) (by rw[J];omega) p rfl rfl λk g o O b P=>⟨j,Im j,k,p,by omega,rfl,?_,?_,O.ext P⟩
   ·have Q:(R.take (j+1)++(c::R.drop (j+1))).set (j+1) p=R.take j++(p::R.drop j):=by
     rw[Pp _ _ (by rw[B1];omega),B1,Dd u,H4];rw[I2,f,ji f,DN];rfl
    rw[Q] at o;exact o
   ·intro y e;rw[ji f] at e;rcases B4.1 e with rfl|e
    ·exact hc
    ·exact W y e
  ·rw[oz,H5,decide_eq_false_iff_not] at hc;show p<=x;omega
theorem A7 {e:B2} {seen:Array Nat} {f:B2->Bool} (g:seen.contains e.born=false): ∀{es:List B2},(es.map (·.born)).Nodup->e∈es->
 (es.filter λx=>(seen.push e.born).contains x.born&&f x).Perm (if f e=true then e::es.filter (λx=>seen.contains x.born&&f x) else es.filter (λx=>seen.contains x.born&&f x))
 |[], _,h=>by cases h
 |y::es,a,hm=>by
  rw[C5,BX] at a;have b: ∀z:Nat,(seen.push e.born).contains z=(seen.contains z||z==e.born):=λz=>by
   rw[Array.contains_push]
  rcases B4.1 hm with rfl|hm
  ·have j: ∀x∈es,(x.born==e.born)=false:=λx d=>by
    have:x.born≠e.born:=λc=>a.1 (by rw[<-c];exact AH.2 ⟨x,d,rfl⟩);simpa using this
   have k:es.filter (λx=>(seen.push e.born).contains x.born&&f x)=es.filter (λx=>seen.contains x.born&&f x):=List.filter_congr λx d=>by
    rw[b,j x d,Bool.or_false]
   rw[GI,GI,b,k,g];cases m:f e
   ·simp
   ·simp
  ·have i:=A7 g (f:=f) a.2 hm;have l:(y.born==e.born)=false:=by
    have:y.born≠e.born:=λc=>a.1 (by rw[c];exact AH.2 ⟨e,hm,rfl⟩);simpa using this
   rw[GI,GI,b,l,Bool.or_false];cases n:(seen.contains y.born&&f y)
   ·simpa using i
   ·simp only[if_true];refine(Cd y i).trans ?_;split
    ·exact E5 _ _ _
    ·exact List.Perm.refl _
end
end Go.Proofs.YtlcenllcmeebhaaGreat.Mu
namespace Go.Proofs.YtlcenllcmeebhaaGreat
set_option maxRecDepth 100000
open Go.RX
abbrev sG:List Sc:=[.int .i64,.int .i64,.int .i64,.bool,.int .i64]
abbrev eG:El:= .agg sG
abbrev GT:Type:=Int×Int×Int×Bool×Int×Unit
def zG:GT:=(0,0,0,false,0,())
def gG (n:Int):Bool:=decide (n>=1)&&decide (n<=16)
def mG (o p t:Int) (b:Bool) (u:Int):Bool:=decide (((o,p,t,b,u,()):GT)=zG)
noncomputable def G0:dJ AC:={C3 with vE:=false}
theorem KH (n:Int) (w:A2) (a:Bool->A2->Prop):(aK G0 (λ_=>[]) 225 [aa n] w a)=(
 au w (a (decide (n>=1)&&decide (n<=16)))):=by kernel_rfl
theorem Qg (o p t:Int) (b:Bool) (u:Int) (w:A2) (a:Bool->A2->Prop):(aK G0 (λ_=>[]) 210 [.agg ⟨[aa o,aa p,aa t,.bool b,aa u]⟩] w a)=(
 aN w ⟨[aa o,aa p,aa t,.bool b,aa u]⟩ 255 λb c=>aj c none (af b) (.agg [.int .i64,.int .i64,.int .i64,.bool,.int .i64]) λ(x:Int×Int×Int×Bool×Int×Unit)=>au c λw1=>a (x.1==0&&(x.2.1==0&&(x.2.2.1==0&&(x.2.2.2.1==false&&(x.2.2.2.2.1==0&&true))))) w1):=by kernel_rfl
theorem KI (n:Int) (w:A2):aC AC 225 (.el (.one .bool)) [aa n] w (λx w'=>x=gG n/\Ext w w'):=by
 refine ai (C:=G0) (aQ:=λ_=>[]) (AG (KH n w _) ?_);have H:=At.start [] w
 repeat' (first
  |exact Go.RX.aL.all H
  |exact And.intro (by first|rfl|decide+kernel) (Go.RX.aL.all H)
  |refine And.intro (by first|exact rfl|exact trivial|exact λ_=>rfl|exact λ_=>trivial|exact⟨rfl,by decide,by decide⟩|exact⟨by decide,by decide⟩|decide+kernel|exact λ_=>by decide|exact λ_=>⟨rfl,by decide,by decide⟩|(dsimp only[M4,M5];exact⟨rfl,by decide,by decide⟩)) ?_
  |refine aj.cv 0 H rfl rfl ?_
  |refine aj.cv 1 H rfl rfl ?_
  |refine aj.at 0 H rfl rfl ?_
  |refine aj.at 1 H rfl rfl ?_
  |refine aN.go H λb w1 H=>?_
  |refine az.all 0 H rfl rfl rfl λw1 H=>?_
  |refine az.all 1 H rfl rfl rfl λw1 H=>?_
  |refine az.e8 0 H rfl rfl rfl λw1 H=>?_
  |refine az.e8 1 H rfl rfl rfl λw1 H=>?_
  |refine az.one 0 H rfl rfl rfl λw1 H=>?_
  |refine az.one 1 H rfl rfl rfl λw1 H=>?_
  |with_reducible refine au.go H λw1 H=>?_
  |refine jJ ?_
  |refine aB (by assumption) ?_
  |refine an (by assumption) ?_
  |refine ab (λc=>?_) (λc=>?_))
theorem Qh (o p t:Int) (b:Bool) (u:Int) (w:A2):aC AC 210 (.el (.one .bool)) [.agg ⟨[aa o,aa p,aa t,.bool b,aa u]⟩] w (λx w'=>x=mG o p t b u/\Ext w w'):=by
 refine ai (C:=G0) (aQ:=λ_=>[]) (AG (Qg o p t b u w _) ?_);have H:=At.start [] w;refine aN.go H λa c H=>aj.at 0 H rfl rfl (au.go H λd H=>⟨?_,H.all⟩);unfold mG zG;rw[J1];simp
noncomputable def UE:Entry AC where
 f:=225
 fn l:=match l with
  |[.int .i64 a]=>some (True,.bool (gG a))
  | _=>none
 ok args pre v h b w:=by
  split at h
  ·rename_i a;cases h;exact bU (KI a w)
  ·cases h
noncomputable def Zf:Entry AC where
 f:=210
 fn l:=match l with
  |[.agg ⟨[.int .i64 o,.int .i64 p,.int .i64 t,.bool b,.int .i64 u]⟩]=>some (True,.bool (mG o p t b u))
  | _=>none
 ok args pre v h a w:=by
  split at h
  ·rename_i o p t b u;cases h;exact bU (Qh o p t b u w)
  ·cases h
noncomputable def G3:dJ AC:={G0 with sr:=[UE,Zf],quiet:=[224,221,226,209],sh:=[]}
theorem KJ (p:Option AB) (w:A2) (a:Bool->A2->Prop):(aK G3 (λ_=>[]) 224 [ag p] w a)=(
 ((!p.isNone)=true->p.isSome=true)/\((!p.isNone)=true->p.isSome=true)/\aj w (some !p.isNone) (ad p 0) ff λx=>au w λw1=>a (!p.isNone&&decide ((↑x.2.1:Int)>0)) w1):=by kernel_rfl
theorem Zg (p:Option AB) (i:Int) (w:A2) (b:Option AB×Int×Unit->A2->Prop):(aK G3 (λ_=>[]) 221 [ag p,aa i] w b)=(
 ∃x,ae AC 224 [ag p] w (.bool x)/\aI (!x) (au w (b (none,10,()))) (((!decide (i<0))=true->p.isSome=true)/\((!decide (i<0))=true->p.isSome=true)/\aj w (some !decide (i<0)) (ad p 0) ff λx=>((!(decide (i<0)||decide (i>=(↑x.2.1:Int))))=true->p.isSome=true)/\((!(decide (i<0)||decide (i>=(↑x.2.1:Int))))=true->p.isSome=true)/\aj w (some !(decide (i<0)||decide (i>=(↑x.2.1:Int)))) (ad p 0) ff λc=>((!(decide (i<0)||decide (i>=(↑x.2.1:Int))))=true->c.1.isSome=true/\0<=i/\i<
 (↑c.2.1:Int))/\aj w (some !(decide (i<0)||decide (i>=(↑x.2.1:Int)))) (ad c.1 (i.toNat*5)) (.agg [.int .i64,.int .i64,.int .i64,.bool,.int .i64]) λ(a:Int×Int×Int×Bool×Int×Unit)=>((!(decide (i<0)||decide (i>=(↑x.2.1:Int))))=true->True)/\aI (decide (i<0)||decide (i>=(↑x.2.1:Int))||mG a.1 a.2.1 a.2.2.1 a.2.2.2.1 a.2.2.2.2.1) (au w (b (none,4,()))) (fg p 0 w λx=>(x.1.isSome=true/\0<=i/\i<(↑x.2.1:Int))/\au w (b (ad x.1 (i.toNat*5),0,()))))):=by kernel_rfl
theorem Qi (o q t:Int) (b:Bool) (u:Int) (c:Option AB) (w:A2) (d:Bool->A2->Prop):(aK G3 (λ_=>[]) 226 [.agg ⟨[aa o,aa q,aa t,.bool b,aa u]⟩,ag c] w d)=(
 aN w ⟨[aa o,aa q,aa t,.bool b,aa u]⟩ 255 λb a=>aj a none c (.agg [.int .i64,.int .i64,.int .i64,.bool,.int .i64]) λ(x:Int×Int×Int×Bool×Int×Unit)=>true=true/\aU a (ad (af b) 0) λe=>true=true/\aU a (ad (af b) 1) λf=>true=true/\aU a (ad (af b) 2) λg=>au a λw1=>d (x.1==e&&(x.2.1==f&&(x.2.2.1==g&&(x.2.2.2.1==false&&(x.2.2.2.2.1==0&&true))))) w1):=by kernel_rfl
theorem KK (o q t:Int) (b:Bool) (u:Int) (c:Option AB) (w:A2) (f:Bool->A2->Prop):(aK G3 (λ_=>[]) 209 [.agg ⟨[aa o,aa q,aa t,.bool b,aa u]⟩,ag c] w f)=(
 aN w ⟨[aa o,aa q,aa t,.bool b,aa u]⟩ 255 λb a=>aj a none (af b) (.agg [.int .i64,.int .i64,.int .i64,.bool,.int .i64]) λ(x:Int×Int×Int×Bool×Int×Unit)=>True/\((!mG x.1 x.2.1 x.2.2.1 x.2.2.2.1 x.2.2.2.2.1)=true->true=true)/\aj a (some !mG x.1 x.2.1 x.2.2.1 x.2.2.2.1 x.2.2.2.2.1) (ad (af b) 0) aT λ(d:Int)=>aj a (some !mG x.1 x.2.1 x.2.2.1 x.2.2.2.1 x.2.2.2.2.1) c aT λ(e:Int)=>((!mG x.1 x.2.1 x.2.2.1 x.2.2.2.1 x.2.2.2.2.1&& !d==e)=true->true=true)/\aj a (some (!mG x.1
 x.2.1 x.2.2.1 x.2.2.2.1 x.2.2.2.2.1&& !d==e)) (ad (af b) 2) aT λ(g:Int)=>aj a (some (!mG x.1 x.2.1 x.2.2.1 x.2.2.2.1 x.2.2.2.2.1&& !d==e)) c aT λ(h:Int)=>au a (f (!mG x.1 x.2.1 x.2.2.1 x.2.2.2.1 x.2.2.2.2.1&&(d==e||g==h)))):=by kernel_rfl
def qT:Nat->aZ:=(λ|5=>[(5,Go.RX.El.one Go.RX.Sc.slice),(16,Go.RX.El.one (Go.RX.Sc.int Ae))]| _=>[])
theorem KL (p:Option AB) (w:A2) (e:Option AB×Nat×Nat->A2->Prop):(aK G3 qT 208 [ag p,.func (.func 210) #[] #[]] w e)=(
 ∃x,ae AC 224 [ag p] w (.bool x)/\aI (!x) (au w (e (none,0,0))) (fg p 0 w λx=> ∃(I:Nat->(Option AB×Nat×Nat)×Int×Unit->A2->Prop),(∃n, ∀w1,Ext w w1->I n ((none,0,0),0,()) w1)/\ ∀(n:Nat) (s:(Option AB×Nat×Nat)×Int×Unit) (w1:A2),I n s w1->aI (decide (s.2.1<(↑x.2.1:Int))) ((x.1.isSome=true/\0<=s.2.1/\s.2.1<(↑x.2.1:Int))/\aj w1 none (ad x.1 (Ap s.2.1*5)) (.agg [.int .i64,.int .i64,.int .i64,.bool,.int .i64]) λ(x:Int×Int×Int×Bool×Int×Unit)=>aN w1 ⟨[aa 0,
 aa 0,aa 0,.bool false,aa 0]⟩ 255 λb a=>az a (af b) [aa x.1,aa x.2.1,aa x.2.2.1,.bool x.2.2.2.1,aa x.2.2.2.2.1] λa=>aj a none (af b) (.agg [.int .i64,.int .i64,.int .i64,.bool,.int .i64]) λ(x:Int×Int×Int×Bool×Int×Unit)=>True/\aI (mG x.1 x.2.1 x.2.2.1 x.2.2.2.1 x.2.2.2.2.1) (aN a ⟨[aa s.2.1]⟩ 3 λb a=> ∀w1,Ext a w1->mz w1 3 1 8 ⟨[aa 0]⟩ (s.1.1,s.1.2.1,s.1.2.2) (some ⟨b,0,none⟩,1,1) λ(r:Option AB×Nat×Nat) a=> ∀c,Ext a c-> ∃(d:Nat),d<n/\I d
 ((r.1,r.2.1,r.2.2),aJ .i64 s.2.1 1,()) c) (∀c,Ext a c-> ∃(d:Nat),d<n/\I d ((s.1.1,s.1.2.1,s.1.2.2),aJ .i64 s.2.1 1,()) c)) (au w1 (e (s.1.1,s.1.2.1,s.1.2.2))))):=by kernel_rfl
def qU:Nat->aZ:=(λ|5=>[(5,Go.RX.El.one Go.RX.Sc.slice),(16,Go.RX.El.one (Go.RX.Sc.int Ae))]| _=>[])
theorem KM (p c:Option AB) (w:A2) (f:Option AB×Nat×Nat->A2->Prop):(aK G3 qU 208 [ag p,.func (.func 226) #[] #[ag c]] w f)=(
 ∃x,ae AC 224 [ag p] w (.bool x)/\aI (!x) (au w (f (none,0,0))) (fg p 0 w λx=> ∃(I:Nat->(Option AB×Nat×Nat)×Int×Unit->A2->Prop),(∃n, ∀w1,Ext w w1->I n ((none,0,0),0,()) w1)/\ ∀(n:Nat) (s:(Option AB×Nat×Nat)×Int×Unit) (w1:A2),I n s w1->aI (decide (s.2.1<(↑x.2.1:Int))) ((x.1.isSome=true/\0<=s.2.1/\s.2.1<(↑x.2.1:Int))/\aj w1 none (ad x.1 (Ap s.2.1*5)) (.agg [.int .i64,.int .i64,.int .i64,.bool,.int .i64]) λ(x:Int×Int×Int×Bool×Int×Unit)=>aN w1 ⟨[aa 0,
 aa 0,aa 0,.bool false,aa 0]⟩ 255 λb a=>az a (af b) [aa x.1,aa x.2.1,aa x.2.2.1,.bool x.2.2.2.1,aa x.2.2.2.2.1] λa=>aj a none (af b) (.agg [.int .i64,.int .i64,.int .i64,.bool,.int .i64]) λ(x:Int×Int×Int×Bool×Int×Unit)=> ∃g,ae AC 226 [.agg ⟨[aa x.1,aa x.2.1,aa x.2.2.1,.bool x.2.2.2.1,aa x.2.2.2.2.1]⟩,ag c] a (.bool g)/\aI g (aN a ⟨[aa s.2.1]⟩ 3 λb a=> ∀w1,Ext a w1->mz w1 3 1 8 ⟨[aa 0]⟩ (s.1.1,s.1.2.1,s.1.2.2)
 (some ⟨b,0,none⟩,1,1) λ(r:Option AB×Nat×Nat) a=> ∀d,Ext a d-> ∃(e:Nat),e<n/\I e ((r.1,r.2.1,r.2.2),aJ .i64 s.2.1 1,()) d) (∀d,Ext a d-> ∃(e:Nat),e<n/\I e ((s.1.1,s.1.2.1,s.1.2.2),aJ .i64 s.2.1 1,()) d)) (au w1 (f (s.1.1,s.1.2.1,s.1.2.2))))):=by kernel_rfl
def qV:Nat->aZ:=(λ|5=>[(5,Go.RX.El.one Go.RX.Sc.slice),(16,Go.RX.El.one (Go.RX.Sc.int Ae))]| _=>[])
theorem KN (p c:Option AB) (w:A2) (f:Option AB×Nat×Nat->A2->Prop):(aK G3 qV 208 [ag p,.func (.func 209) #[] #[ag c]] w f)=(
 ∃x,ae AC 224 [ag p] w (.bool x)/\aI (!x) (au w (f (none,0,0))) (fg p 0 w λx=> ∃(I:Nat->(Option AB×Nat×Nat)×Int×Unit->A2->Prop),(∃n, ∀w1,Ext w w1->I n ((none,0,0),0,()) w1)/\ ∀(n:Nat) (s:(Option AB×Nat×Nat)×Int×Unit) (w1:A2),I n s w1->aI (decide (s.2.1<(↑x.2.1:Int))) ((x.1.isSome=true/\0<=s.2.1/\s.2.1<(↑x.2.1:Int))/\aj w1 none (ad x.1 (Ap s.2.1*5)) (.agg [.int .i64,.int .i64,.int .i64,.bool,.int .i64]) λ(x:Int×Int×Int×Bool×Int×Unit)=>aN w1 ⟨[aa 0,
 aa 0,aa 0,.bool false,aa 0]⟩ 255 λb a=>az a (af b) [aa x.1,aa x.2.1,aa x.2.2.1,.bool x.2.2.2.1,aa x.2.2.2.2.1] λa=>aj a none (af b) (.agg [.int .i64,.int .i64,.int .i64,.bool,.int .i64]) λ(x:Int×Int×Int×Bool×Int×Unit)=> ∃g,ae AC 209 [.agg ⟨[aa x.1,aa x.2.1,aa x.2.2.1,.bool x.2.2.2.1,aa x.2.2.2.2.1]⟩,ag c] a (.bool g)/\aI g (aN a ⟨[aa s.2.1]⟩ 3 λb a=> ∀w1,Ext a w1->mz w1 3 1 8 ⟨[aa 0]⟩ (s.1.1,s.1.2.1,s.1.2.2)
 (some ⟨b,0,none⟩,1,1) λ(r:Option AB×Nat×Nat) a=> ∀d,Ext a d-> ∃(e:Nat),e<n/\I e ((r.1,r.2.1,r.2.2),aJ .i64 s.2.1 1,()) d) (∀d,Ext a d-> ∃(e:Nat),e<n/\I e ((s.1.1,s.1.2.1,s.1.2.2),aJ .i64 s.2.1 1,()) d)) (au w1 (f (s.1.1,s.1.2.1,s.1.2.2))))):=by kernel_rfl
theorem KO (p:Option AB) (o q t:Int) (b:Bool) (w:A2) (c:Int×Int×Unit->A2->Prop):(aK G3 (λ_=>[]) 180 [ag p,aa o,aa q,aa t,.bool b] w c)=(
 ∃x,ae AC 224 [ag p] w (.bool x)/\aI (!x) (au w (c (0,10,()))) (True/\((!!gG o)=true->True)/\aI (!gG o|| !gG t||o==t||decide (q<0)||decide (q>=65536)) (au w (c (0,1,()))) (aN w ⟨[aa 0,aa 0,aa 0,.bool false,aa 0]⟩ 255 λe a=>az a (af e) [aa o,aa q,aa t,.bool false,aa 0] λa=>aA AC 208 (.el ff) [ag p,.func (.func 226) ⟨[]⟩ {toList:=[ag (af e)]}] a λx a=>aI (decide ((↑x.2.1:Int)>0)) (au a (c (0,5,
 ()))) (aA AC 208 (.el ff) [ag p,.func (.func 210) ⟨[]⟩ ⟨[]⟩] a λx a=>aI ((↑x.2.1:Int)==0) (au a (c (0,3,()))) (true=true/\az a (ad (af e) 3) [.bool b] λa=>fg p 0 a λf=>(x.1.isSome=true/\(0:Int)<=0/\0<(↑x.2.1:Int))/\aU a (ad x.1 0) λg=>aj a none (af e) (.agg [.int .i64,.int .i64,.int .i64,.bool,.int .i64]) λ(d:Int×Int×Int×Bool×Int×Unit)=>(f.1.isSome=true/\0<=g/\g<(↑f.2.1:Int))/\az a (ad f.1 (g.toNat*5)) [aa d.1,aa d.2.1,
 aa d.2.2.1,.bool d.2.2.2.1,aa d.2.2.2.2.1] λa=>(x.1.isSome=true/\(0:Int)<=0/\0<(↑x.2.1:Int))/\aU a (ad x.1 0) λx=>au a (c (x,0,()))))))):=by kernel_rfl
theorem Zh (p:Option AB) (i:Int) (w:A2) (c:GT×Bool×Unit->A2->Prop):(bQ G3 (λ_=>[]) 176 [ag p,aa i] w c)=(
 aN w ⟨[aa 0,aa 0,aa 0,.bool false,aa 0]⟩ 255 λb a=> ∃(x:Option AB×Int×Unit),ae AC 221 [ag p,aa i] a (.tuple ⟨[ag x.1,aa x.2.1]⟩)/\aI (x.2.1 != 0) (az a (af b) [aa 0,aa 0,aa 0,.bool false,aa 0] λa=>au a λw1=>aj w1 none (af b) (.agg [.int .i64,.int .i64,.int .i64,.bool,.int .i64]) λ(x:Int×Int×Int×Bool×Int×Unit)=>c ((x.1,x.2.1,x.2.2.1,x.2.2.2.1,x.2.2.2.2.1,()),false,()) w1) (x.1.isSome=true/\aj a none x.1
 (.agg [.int .i64,.int .i64,.int .i64,.bool,.int .i64]) λ(x:Int×Int×Int×Bool×Int×Unit)=>az a (af b) [aa x.1,aa x.2.1,aa x.2.2.1,.bool x.2.2.2.1,aa x.2.2.2.2.1] λa=>au a λw1=>aj w1 none (af b) (.agg [.int .i64,.int .i64,.int .i64,.bool,.int .i64]) λ(x:Int×Int×Int×Bool×Int×Unit)=>c ((x.1,x.2.1,x.2.2.1,x.2.2.2.1,x.2.2.2.2.1,()),true,()) w1)):=by kernel_rfl
theorem Qj (p:Option AB) (i g:Int) (b:Bool) (w:A2) (a:Int->A2->Prop):(aK G3 (λ_=>[]) 181 [ag p,aa i,aa g,.bool b] w a)=(
 ∃(x:Option AB×Int×Unit),ae AC 221 [ag p,aa i] w (.tuple ⟨[ag x.1,aa x.2.1]⟩)/\aI (x.2.1 != 0) (au w (a x.2.1)) (cM x.1 2 w λc=>((!c != g&&b)=true->x.1.isSome=true)/\((!c != g&&b)=true->x.1.isSome=true)/\aj w (some (!c != g&&b)) (ad x.1 3) rE λd=>aI (c != g||b&& !d) (au w (a 7)) (cM x.1 4 w λe=>aI (e==1000) (au w (a 3)) (cM x.1 4 w λf=>x.1.isSome=true/\x.1.isSome=true/\az w (ad x.1 4) [aa (aJ .i64 f 1)] λh=>au h (a 0))))):=by kernel_rfl
theorem Qk (p:Option AB) (i g:Int) (w:A2) (a:Int->A2->Prop):(aK G3 (λ_=>[]) 182 [ag p,aa i,aa g] w a)=(
 ∃(x:Option AB×Int×Unit),ae AC 221 [ag p,aa i] w (.tuple ⟨[ag x.1,aa x.2.1]⟩)/\aI (x.2.1 != 0) (au w (a x.2.1)) (cM x.1 2 w λb=>aI (b != g) (au w (a 7)) (cM x.1 4 w λc=>aI (c==0) (au w (a 6)) (cM x.1 4 w λd=>x.1.isSome=true/\x.1.isSome=true/\az w (ad x.1 4) [aa (aY .i64 d 1)] λe=>au e (a 0))))):=by kernel_rfl
theorem G_ (p:Option AB) (i o:Int) (w:A2) (a:Int->A2->Prop):(aK G3 (λ_=>[]) 184 [ag p,aa i,aa o] w a)=(
 ∃(x:Option AB×Int×Unit),ae AC 221 [ag p,aa i] w (.tuple ⟨[ag x.1,aa x.2.1]⟩)/\aI (x.2.1 != 0) (au w (a x.2.1)) (cM x.1 0 w λb=>aI (b != o) (au w (a 7)) (cM x.1 4 w λc=>aI (decide (c>0)) (au w (a 9)) (x.1.isSome=true/\az w x.1 [aa 0,aa 0,aa 0,.bool false,aa 0] λd=>au d (a 0))))):=by kernel_rfl
def uh:Nat->aZ:=(λ|3=>[(13,Go.RX.El.one (Go.RX.Sc.int Ae))]| _=>[])
theorem Ql (p:Option AB) (g:Int) (w:A2) (d:Int->A2->Prop):(aK G3 uh 169 [ag p,aa g] w d)=(
 aN w ⟨[aa g]⟩ 3 λb a=>aA AC 208 (.el ff) [ag p,.func (.func 209) ⟨[]⟩ {toList:=[ag (af b)]}] a λx a=> ∃(I:Nat->Int×Unit->A2->Prop),(∃n, ∀w1,Ext a w1->I n (0,()) w1)/\ ∀(n:Nat) (s:Int×Unit) (w1:A2),I n s w1->aI (decide (s.1<(↑x.2.1:Int))) ((x.1.isSome=true/\0<=s.1/\s.1<(↑x.2.1:Int))/\aU w1 (ad x.1 (Ap s.1*1)) λx=>fg p 0 w1 λc=>(c.1.isSome=true/\0<=x/\x<(↑c.2.1:Int))/\az w1 (ad c.1 (x.toNat*5)) [aa 0,aa 0,aa 0,.bool false,
 aa 0] λa=> ∀e,Ext a e-> ∃(f:Nat),f<n/\I f (aJ .i64 s.1 1,()) e) (au w1 (d (↑x.2.1:Int)))):=by kernel_rfl
theorem UF (n:Int) (w:A2) (a:Option AB×Int×Unit->A2->Prop):(aK G3 (λ_=>[]) 73 [aa n] w a)=(
 aI (decide (n<1)||decide (n>64)) (au w (a (none,1,()))) (NJ w 40 5 n n ⟨[aa 0,aa 0,aa 0,.bool false,aa 0]⟩ 255 λb c=>aN c {toList:=[.slice (af b) n.toNat n.toNat]} 215 λb c=>au c (a (some ⟨b,0,none⟩,0,())))):=by kernel_rfl
theorem A8 {lo sz:Int} (h:ee lo sz=true):lo.toNat+sz.toNat<=64/\1<=sz.toNat:=by
 have:=iM.1 h;omega
theorem Qm {w:BitVec 64} {lo sz:Int} (h:ee lo sz=true):(fm w lo sz).toNat=w.toNat / 2 ^ lo.toNat % 2 ^ sz.toNat:=by
 have a:=A8 h;apply TA;intro j;rw[Ga,Ui h,O4 (by omega),NA,Nat.testBit_div_two_pow,Ga,Nat.add_comm j,Bool.and_comm]
theorem Qn {w v:BitVec 64} {lo sz:Int} (h:ee lo sz=true) (b:w.toNat<2 ^ lo.toNat):(s9 w lo sz v).toNat=2 ^ lo.toNat*(v.toNat % 2 ^ sz.toNat)+w.toNat:=by
 have d:=A8 h;apply TA;intro j;rw[Ga,Uj h,Nat.testBit_two_pow_mul_add _ b];by_cases c:j<64
 ·rw[Y9 (by omega) c];by_cases h1:j<lo.toNat
  ·rw[if_neg (by omega),if_pos h1,Ga]
  ·rw[if_neg h1,NA,Ga];by_cases e:j<lo.toNat+sz.toNat
   ·rw[if_pos (by omega)];have:j - lo.toNat<sz.toNat:=by omega
    simp[this]
   ·rw[if_neg (by omega)];have a: ¬ j - lo.toNat<sz.toNat:=by omega
    simp only[a,decide_false,Bool.false_and];rw[<-Ga];exact Nat.testBit_lt_two_pow (Ij b (Nat.pow_le_pow_right (by decide) (by omega)))
 ·rw[TP _ _ (by omega),if_neg (by omega),NA];have a: ¬ j - lo.toNat<sz.toNat:=by omega
  simp[a]
theorem aa0 (b:BitVec 64):U b=(b.toNat:Int):=rfl
theorem Du {b:BitVec 64} {n:Nat} (h:b.toNat=n):U b=(n:Int):=by rw[aa0,h]
def bB (b:Bool):BitVec 64:=if b then 1#64 else 0#64
def nB (b:Bool):Nat:=if b then 1 else 0
theorem O6 (b:Bool):(bB b).toNat=nB b:=by cases b<;>rfl
theorem Oz (b:Bool):nB b<=1:=by cases b<;>decide
theorem py {w v:BitVec 64} {lo sz:Int} {a n:Nat} (c:ee lo sz=true) (b:w.toNat=a) (d:a<2 ^ lo.toNat) (hv:v.toNat=n) (e:n<2 ^ sz.toNat):(s9 w lo sz v).toNat=2 ^ lo.toNat*n+a:=by
 rw[Qn c (by rw[b];exact d),hv,b,T6 e]
theorem KP {p l:Bool} {r f:BitVec 64} {x y:Nat} (a:r.toNat=x) (i:x<8) (b:f.toNat=y) (j:y<4096):
 (qO 0#64 0 [(bB p,1),(r,3),(bB l,1),(0#64,7),(f,12)]).toNat=nB p+2*x+16*nB l+4096*y:=by
 have k:=Oz p;have m:=Oz l;simp only[qO];rw[if_pos (by decide),if_pos (by decide),if_pos (by decide),if_pos (by decide),if_pos (by decide)];have c:=py (w:=0#64) (lo:=0) (sz:=1) (by decide) (rfl:(0#64).toNat=0) (by decide) (O6 p) (by show nB p<2;omega);have d:=py (lo:=0+1) (sz:=3) (by decide) c (by show 1*nB p+0<2;omega) a (by show x<8;omega);have e:=py (lo:=0+1+3) (sz:=1) (by decide) d (by show 2*x+(1*nB p+0)<16;omega) (O6 l) (by show nB l<2;omega);have g:=py (lo:=0+1+3+1) (sz:=7) (v:=0#64) (by decide) e (by show 16*nB l+(2*x+(1*nB p+0))<32;omega) (rfl:(0#64).toNat=0) (by decide);have h:=py (lo:=0+1+3+1+7) (sz:=12) (by decide) g (by show 32*0+(16*nB l+(2*x+(1*nB p+0)))<4096;omega) b (by show y<4096;omega);rw[h];show 4096*y+(32*0+(16*nB l+(2*x+(1*nB p+0))))= _;omega
theorem Ha (w:BitVec 64):mo w 0 [1,3,1,7,12,40]=some [fm w 0 1,fm w 1 3,fm w 4 1,fm w 5 7,fm w 12 12,fm w 24 40]:=by
 simp only[mo];rw[if_pos (by decide),if_pos (by decide),if_pos (by decide),if_pos (by decide),if_pos (by decide),if_pos (by decide)];rfl
theorem nI {w:BitVec 64} {lo sz:Int} (a b:Nat) (h:ee lo sz=true) (c:2 ^ lo.toNat=a) (hb:2 ^ sz.toNat=b):(fm w lo sz).toNat=w.toNat / a % b:=by
 rw[Qm h,c,hb]
noncomputable def D0:dJ AC:={C3 with vE:=true}
theorem UG (b:Bool) (w:A2) (a:Int->A2->Prop):(aK D0 (λ_=>[]) 249 [.bool b] w a)=(
 aI b (au w (a 1)) (au w (a 0))):=by kernel_rfl
theorem yY (p:Bool) (r:Int) (l:Bool) (f:Int) (w:A2) (d:Bool->A2->Prop):(aK D0 (λ_=>[]) 94 [.agg ⟨[.bool p,aa r,.bool l,aa f]⟩] w d)=(
 aN w ⟨[.bool p,aa r,.bool l,aa f]⟩ 130 λb a=>true=true/\s6 a (ad (af b) 0) λx=>aI (!x) (aj a none (af b) j_ λ(x:Bool×Int×Bool×Int×Unit)=>au a λw1=>d (x.1==false&&(x.2.1==0&&(x.2.2.1==false&&(x.2.2.2.1==0&&true)))) w1) (true=true/\aU a (ad (af b) 1) λx=>((!decide (x<0))=true->true=true)/\aj a (some !decide (x<0)) (ad (af b) 1) aT λ(c:Int)=>((!(decide (x<0)||decide (c>7)))=true->true=true)/\aj a (some !(decide (x<0)||decide (c>7))) (ad (af b) 3)
 aT λ(e:Int)=>((!(decide (x<0)||decide (c>7)||decide (e<0)))=true->true=true)/\aj a (some !(decide (x<0)||decide (c>7)||decide (e<0))) (ad (af b) 3) aT λ(g:Int)=>aI (decide (x<0)||decide (c>7)||decide (e<0)||decide (g>=4096)) (au a (d false)) (true=true/\aU a (ad (af b) 1) λx=>((!decide (x>0))=true->true=true)/\aj a (some !decide (x>0)) (ad (af b) 2) rE λh=>au a (d (decide (x>0)|| !h))))):=by kernel_rfl
theorem UH (x:Int) (w:A2) (a:Int->A2->Prop):(aK D0 (λ_=>[]) 100 [aa x] w a)=(
 aI (decide (x<0)||decide (x>=4)) (au w (a 0)) (∀(b:Int),b=iy .i64 4 x->0<=b/\ ∀(x:Int),x=Dp .i64 1 b->au w (a x))):=by kernel_rfl
theorem Qo (x:Int) (w:A2) (a:Int->A2->Prop):(aK D0 (λ_=>[]) 103 [aa x] w a)=(
 aI (decide (x<0)||decide (x>3)) (au w (a 0)) (aN w ⟨[aa 1,aa 16,aa 256,aa 4096]⟩ 3 λb c=>(true=true/\0<=x/\x<(↑4:Int))/\aU c (ad (af b) (x.toNat*1)) λx=>au c (a x))):=by kernel_rfl
theorem Cp {w:A2} {b:Nat} {p:Bool} {r:Int} {l:Bool} {f:Int} (h:bK w b [.bool p,aa r,.bool l,aa f]):
 cI w (ad (af b) 0) (.one .bool) p/\cI w (ad (af b) 1) (.one (.int .i64)) r/\cI w (ad (af b) 2) (.one .bool) l/\cI w (ad (af b) 3) (.one (.int .i64)) f/\
  cI w (af b) (.agg [.bool,.int .i64,.bool,.int .i64]) (p,r,l,f,()):=by
 refine⟨?_,?_,?_,?_,?_⟩
 ·rw[aW];exact h.ow rfl
 ·rw[aW];exact h.ow rfl
 ·rw[aW];exact h.ow rfl
 ·rw[aW];exact h.ow rfl
 ·exact h.rdA λi _=>by rw[Ca];rfl
def bR (p:Bool) (r:Int) (l:Bool) (f:Int):Bool:=
 match p with
 |true=>decide (0<=r)&&decide (r<=7)&&decide (0<=f)&&decide (f<4096)&&(decide (r>0)|| !l)
 |false=>decide (r=0)&& !l&&decide (f=0)
theorem yZ (p:Bool) (r:Int) (l:Bool) (f:Int) (w:A2):aC AC 94 (.el (.one .bool)) [.agg ⟨[.bool p,aa r,.bool l,aa f]⟩] w (λb w'=>b=bR p r l f/\Ext w w'):=by
 refine ai (C:=D0) (aQ:=λ_=>[]) (AG (yY p r l f w _) ?_);intro w1 h1;obtain⟨i,g1,j,e,k⟩:=Cp (bK.new w1 [.bool p,aa r,.bool l,aa f] 130);refine⟨rfl,p,i,ab (λh=>⟨_,k,λg a=>⟨?_,(h1.iZ _).trans a⟩⟩) (λh=>⟨rfl,r,g1,λ_=>rfl,r,λ_=>g1,λ_=>rfl,f,λ_=>e,λ_=>rfl,f,λ_=>e,ab (λd=>λg a=>⟨?_,(h1.iZ _).trans a⟩) (λd=>⟨rfl,r,g1,λ_=>rfl,l,λ_=>j,λg a=>⟨?_,(h1.iZ _).trans a⟩⟩)⟩)⟩
 ·have c:p=false:=by simpa using h
  subst c;by_cases c1:r=0<;>by_cases c2:f=0<;>cases l<;>simp[bR,c1,c2]
 ·have c:p=true:=by simpa using h
  subst c;simp only[F4,decide_eq_true_eq] at d;symm;simp only[bR,J0,decide_eq_false_iff_not];omega
 ·have c:p=true:=by simpa using h
  subst c;simp only[FC,decide_eq_false_iff_not] at d;have c1:0<=r:=by omega
  have c2:r<=7:=by omega
  have c3:0<=f:=by omega
  have c4:f<4096:=by omega
  simp[bR,c1,c2,c3,c4]
noncomputable def OA:Entry AC where
 f:=249
 fn l:=match l with
  |[.bool b]=>some (True,.int .u64 (U (bB b)))
  | _=>none
 ok args pre v h a w:=by
  split at h
  ·rename_i b;cases h;refine bU (x:=U (bB b)) (ai (C:=D0) (aQ:=λ_=>[]) (AG (UG b w _) ?_));exact ab (λhb w1 h1=>⟨by subst hb;rfl,h1⟩) (λhb w1 h1=>⟨by subst hb;rfl,h1⟩)
  ·cases h
noncomputable def u6:Entry AC where
 f:=94
 fn l:=match l with
  |[.agg ⟨[.bool p,.int .i64 r,.bool l,.int .i64 f]⟩]=>some (True,.bool (bR p r l f))
  | _=>none
 ok args pre v h a w:=by
  split at h
  ·rename_i p r l f;cases h;exact bU (yZ p r l f w)
  ·cases h
def fS (x:Int):Int:=if x=0 then 1 else if x=1 then 16 else if x=2 then 256 else if x=3 then 4096 else 0
theorem UI (x:Int) (w:A2):aC AC 100 (.el (.one (.int .i64))) [aa x] w (λb w'=>b=fS x/\Ext w w'):=by
 refine ai (C:=D0) (aQ:=λ_=>[]) (AG (UH x w _) ?_);refine ab (λh w1 h1=>⟨?_,h1⟩) (λh y a=>?_)
 ·simp only[F4,decide_eq_true_eq] at h;unfold fS;rw[ao (by omega),ao (by omega),ao (by omega),ao (by omega)]
 ·simp only[FC,decide_eq_false_iff_not] at h;rw[eJ (by omega) (by omega)] at a;refine⟨by omega,λz c w1 h1=>⟨?_,h1⟩⟩;have:x=0\/x=1\/x=2\/x=3:=by omega
  rcases this with rfl|rfl|rfl|rfl<;>(subst a;rw[c];decide+kernel)
theorem Qq (x:Int) (w:A2):aC AC 103 (.el (.one (.int .i64))) [aa x] w (λb w'=>b=fS x/\Ext w w'):=by
 refine ai (C:=D0) (aQ:=λ_=>[]) (AG (Qo x w _) ?_);refine ab (λh w1 h1=>⟨?_,h1⟩) (λh w1 h1=>?_)
 ·simp only[F4,decide_eq_true_eq] at h;unfold fS;rw[ao (by omega),ao (by omega),ao (by omega),ao (by omega)]
 ·simp only[FC,decide_eq_false_iff_not] at h;have sl:Sl (w1.alloc (.cells ⟨[aa 1,aa 16,aa 256,aa 4096]⟩ 3)) eI (af w1.heap.size) [1,16,256,4096]:=Sl.jI (bK.new w1 _ _) rfl;have c:x.toNat<4:=by omega
  have g:[(1:Int),16,256,4096][x.toNat]? =some (fS x):=by
   have:x=0\/x=1\/x=2\/x=3:=by omega
   rcases this with rfl|rfl|rfl|rfl<;>rfl
  exact⟨⟨rfl,by omega,by omega⟩, _,(sl _ _ g).2,λd a=>⟨rfl,(h1.iZ _).trans a⟩⟩
noncomputable def OB:Entry AC where
 f:=100
 fn l:=match l with
  |[.int .i64 x]=>some (True,.int .i64 (fS x))
  | _=>none
 ok args pre v h a w:=by
  split at h
  ·rename_i x;cases h;exact bU (UI x w)
  ·cases h
noncomputable def Ge:Entry AC where
 f:=103
 fn l:=match l with
  |[.int .i64 x]=>some (True,.int .i64 (fS x))
  | _=>none
 ok args pre v h a w:=by
  split at h
  ·rename_i x;cases h;exact bU (Qq x w)
  ·cases h
noncomputable def D1:dJ AC:={D0 with sr:=[tn,vF,FL,FM,OA,u6,OB,Ge]}
theorem Qr (p:Bool) (r:Int) (l:Bool) (f:Int) (w:A2) (e:Bool->A2->Prop):(aK D1 (λ_=>[]) 96 [.agg ⟨[.bool p,aa r,.bool l,aa f]⟩] w e)=(
 aN w ⟨[.bool p,aa r,.bool l,aa f]⟩ 130 λb a=>true=true/\s6 a (ad (af b) 0) λx=>(x=true->true=true)/\aj a (some x) (ad (af b) 1) aT λ(d:Int)=>aj a (some (x&&d==0)) (af b) j_ λ(c:Bool×Int×Bool×Int×Unit)=>((x&&d==0)=true->True)/\au a (e (x&&d==0&&bR c.1 c.2.1 c.2.2.1 c.2.2.2.1))):=by kernel_rfl
theorem KQ (p:Bool) (r:Int) (l:Bool) (f:Int) (t:Int) (w:A2) (d:Bool->A2->Prop):(aK D1 (λ_=>[]) 145 [.agg ⟨[.bool p,aa r,.bool l,aa f]⟩,aa t] w d)=(
 aN w ⟨[.bool p,aa r,.bool l,aa f]⟩ 130 λb a=>aj a none (af b) j_ λ(x:Bool×Int×Bool×Int×Unit)=>True/\(bR x.1 x.2.1 x.2.2.1 x.2.2.2.1=true->true=true)/\aj a (some (bR x.1 x.2.1 x.2.2.1 x.2.2.2.1)) (ad (af b) 1) aT λ(c:Int)=>((bR x.1 x.2.1 x.2.2.1 x.2.2.2.1&&decide (c>0)&&decide (t>=0)&&decide (t<=7))=true->true=true)/\aj a (some (bR x.1 x.2.1 x.2.2.1 x.2.2.2.1&&decide (c>0)&&decide (t>=0)&&decide (t<=7))) (ad (af b) 1) aT λ(g:Int)=> ∀(e:Int),e=gF .i64 t
 g->au a (d (bR x.1 x.2.1 x.2.2.1 x.2.2.2.1&&decide (c>0)&&decide (t>=0)&&decide (t<=7)&&e==0))):=by kernel_rfl
theorem Qs (x y:Int) (w:A2) (b:Int->A2->Prop):(aK D1 (λ_=>[]) 87 [aa x,aa y] w b)=(
 ((!(decide (x<0)||decide (x>=65536)))=true->True)/\ ∀(c:Int),c=fS y->aI (decide (x<0)||decide (x>=65536)||c==0) (au w (b (-1))) (∀(a:Int),a=aF .u64 x-> ∀(x:Int),x=iy .i64 4 y->U (B a)=a/\ ∀(d:Int),d=U (fm (B a) x 4)-> ∀(x:Int),x=aF .i64 d->au w (b x))):=by kernel_rfl
theorem KR (x y:Int) (w:A2) (a:Int->A2->Prop):(aK D1 (λ_=>[]) 63 [aa x,aa y] w a)=(
 ((!(decide (x<0)||decide (x>65535)))=true->True)/\ ∀(c:Int),c=fS y->aI (decide (x<0)||decide (x>65535)||c==0) (au w (a (-1))) (True/\ ∀(b:Int),b=fS y->b≠0/\ ∀(d:Int),d=wS .i64 x b-> ∀(x:Int),x=eZ d 16->au w (a x))):=by kernel_rfl
theorem Qt (p:Bool) (r:Int) (l:Bool) (f:Int) (w:A2) (c:Int×Int×Unit->A2->Prop):(aK D1 (λ_=>[]) 243 [.agg ⟨[.bool p,aa r,.bool l,aa f]⟩] w c)=(
 aN w ⟨[.bool p,aa r,.bool l,aa f]⟩ 130 λb a=>aj a none (af b) j_ λ(x:Bool×Int×Bool×Int×Unit)=>True/\aI (!bR x.1 x.2.1 x.2.2.1 x.2.2.2.1) (au a (c (0,11,()))) (true=true/\s6 a (ad (af b) 0) λx=>True/\ ∀(d:Int),d=U (bB x)->true=true/\aU a (ad (af b) 1) λx=> ∀(e:Int),e=aF .u64 x->true=true/\s6 a (ad (af b) 2) λx=>True/\ ∀(g:Int),g=U (bB x)->true=true/\aU a (ad (af b) 3) λx=> ∀(h:Int),h=aF .u64 x->aN a {toList:=[ay d,
 aa 1,ay e,aa 3,ay g,aa 1,ay 0,aa 7,ay h,aa 12]} 304 λb a=>aA AC 248 (.el rD) [.slice (af b) 5 5] a λ(x:Int) a=>au a (c (x,0,())))):=by kernel_rfl
theorem Qu (v:Int) (w:A2) (e:(Bool×Int×Bool×Int×Unit)×Bool×Unit->A2->Prop):(bQ D1 (λ_=>[]) 59 [ay v] w e)=(
 aN w ⟨[.bool false,aa 0,.bool false,aa 0]⟩ 130 λb a=>aN a ⟨[aa 1,aa 3,aa 1,aa 7,aa 12,aa 40]⟩ 3 λi a=>aA AC 93 (.el ff) [ay v,.slice (af i) 6 6] a λx a=>(x.1.isSome=true/\(0:Int)<=0/\0<(↑x.2.1:Int))/\cK a (ad x.1 0) λj=>(x.1.isSome=true/\(0:Int)<=1/\1<(↑x.2.1:Int))/\cK a (ad x.1 1) λk=> ∀(g:Int),g=aF .i64 k->(x.1.isSome=true/\(0:Int)<=2/\2<(↑x.2.1:Int))/\cK a (ad x.1 2) λl=>(x.1.isSome=true/\(0:
 Int)<=4/\4<(↑x.2.1:Int))/\cK a (ad x.1 4) λm=> ∀(h:Int),h=aF .i64 m->aN a ⟨[.bool false,aa 0,.bool false,aa 0]⟩ 130 λf a=>az a (af f) [.bool (j==1),aa g,.bool (l==1),aa h] λa=>(x.1.isSome=true/\(0:Int)<=3/\3<(↑x.2.1:Int))/\cK a (ad x.1 3) λc=>((!decide (c>0))=true->x.1.isSome=true/\(0:Int)<=5/\5<(↑x.2.1:Int))/\aj a (some !decide (c>0)) (ad x.1 5) rD λ(x:Int)=>aj a (some !(decide (c>0)||decide (x>0))) (af f) j_ λ(d
 :Bool×Int×Bool×Int×Unit)=>((!(decide (c>0)||decide (x>0)))=true->True)/\aI (decide (c>0)||decide (x>0)|| !bR d.1 d.2.1 d.2.2.1 d.2.2.2.1) (az a (af b) [.bool false,aa 0,.bool false,aa 0] λa=>au a λw1=>aj w1 none (af b) j_ λ(x:Bool×Int×Bool×Int×Unit)=>e ((x.1,x.2.1,x.2.2.1,x.2.2.2.1,()),false,()) w1) (aj a none (af f) j_ λ(x:Bool×Int×Bool×Int×Unit)=>az a (af b) [.bool x.1,aa x.2.1,.bool x.2.2.1,aa x.2.2.2.1] λa=>au a λw1=>
 aj w1 none (af b) j_ λ(x:Bool×Int×Bool×Int×Unit)=>e ((x.1,x.2.1,x.2.2.1,x.2.2.2.1,()),true,()) w1)):=by kernel_rfl
def fO (p:Bool) (r:Int) (l:Bool) (f:Int):Bool:=p&&r==0&&bR p r l f
def gH (p:Bool) (r:Int) (l:Bool) (f t:Int):Bool:=bR p r l f&&decide (r>0)&&decide (t>=0)&&decide (t<=7)&&gF .i64 t r==0
theorem Qv (p:Bool) (r:Int) (l:Bool) (f:Int) (w:A2):aC AC 96 (.el (.one .bool)) [.agg ⟨[.bool p,aa r,.bool l,aa f]⟩] w (λb w'=>b=fO p r l f/\Ext w w'):=by
 refine ai (C:=D1) (aQ:=λ_=>[]) (AG (Qr p r l f w _) ?_);intro w1 h1;obtain⟨a,g1,e,g,c⟩:=Cp (bK.new w1 [.bool p,aa r,.bool l,aa f] 130);exact⟨rfl,p,a,λ_=>rfl,r,λ_=>g1, _,λ_=>c,λ_=>trivial,λh d=>⟨rfl,(h1.iZ _).trans d⟩⟩
theorem y6 {p:Bool} {r:Int} {l:Bool} {f:Int} (h:bR p r l f=true):0<=r/\r<=7/\0<=f/\f<4096/\(p=false->r=0/\l=false/\f=0):=by
 cases p
 ·simp[bR] at h;obtain⟨⟨h1,a⟩,b⟩:=h;subst h1;subst b;exact⟨by decide,by decide,by decide,by decide,λ_=>⟨rfl,a,rfl⟩⟩
 ·simp[bR] at h;exact⟨h.1.1.1.1,h.1.1.1.2,h.1.1.2,h.1.2,λe=>by cases e⟩
theorem KS (p:Bool) (r:Int) (l:Bool) (f t:Int) (w:A2):aC AC 145 (.el (.one .bool)) [.agg ⟨[.bool p,aa r,.bool l,aa f]⟩,aa t] w (λb w'=>b=gH p r l f t/\Ext w w'):=by
 refine ai (C:=D1) (aQ:=λ_=>[]) (AG (KQ p r l f t w _) ?_);intro w1 h1;obtain⟨e,g1,g,h,a⟩:=Cp (bK.new w1 [.bool p,aa r,.bool l,aa f] 130);exact⟨_,a,trivial,λ_=>rfl,r,λ_=>g1,λ_=>rfl,r,λ_=>g1,λx c i d=>⟨by rw[c];rfl,(h1.iZ _).trans d⟩⟩
def fv (x y:Int):Int:=if 0<=x/\x<65536/\0<=y/\y<=3 then x / fS y % 16 else -1
theorem A9 {y:Int}:(fS y==0)= !(decide (0<=y)&&decide (y<=3)):=by
 by_cases h:0<=y/\y<=3
 ·have:y=0\/y=1\/y=2\/y=3:=by omega
  rcases this with rfl|rfl|rfl|rfl<;>rfl
 ·have e:fS y=0:=by
   unfold fS;rw[ao (by omega),ao (by omega),ao (by omega),ao (by omega)]
  rw[e];by_cases h1:0<=y
  ·have: ¬ y<=3:=λa=>h ⟨h1,a⟩;simp[this]
  ·simp[h1]
theorem A_ {x y:Int} (h: ¬ (0<=x/\x<65536/\0<=y/\y<=3)):fv x y= -1:=ao h
theorem Ba {x:Int} (h: -9223372036854775808<=x) (h':x<9223372036854775808):aF .i64 x=x:=gu h h'
theorem Bb {x:Int} (h:0<=x) (h':x<18446744073709551616):aF .u64 x=x:=by
 show S1.wrap x=x;rw[wrap_u64];omega
theorem qg {a b c:Int} (m:Nat) (h:0<=a/\a<65536) (d:2 ^ b.toNat=m) (e:ee b 4=true) (f:c=U (fm (B a) b 4)):c=a / (m:Int) % 16:=by
 have g:((B a).toNat:Int)=a:=BZ (by omega) (by omega);rw[f,Du (nI m 16 e d (by decide)),Int.natCast_emod,Int.natCast_ediv,g];rfl
theorem E6 {a y b c:Int} (d:0<=a/\a<65536) (g:0<=y/\y<=3) (eb:b=4*y) (f:c=U (fm (B a) b 4)):c=fv a y/\0<=c/\c<16:=by
 have e:c=fv a y:=by
  unfold fv;rw[av (by omega)];have:y=0\/y=1\/y=2\/y=3:=by omega
  rcases this with rfl|rfl|rfl|rfl
  ·exact qg 1 d (by subst eb;decide) (by subst eb;decide) f
  ·exact qg 16 d (by subst eb;decide) (by subst eb;decide) f
  ·exact qg 256 d (by subst eb;decide) (by subst eb;decide) f
  ·rw[show fS 3=((4096:Nat):Int) by decide];exact qg 4096 d (by subst eb;decide) (by subst eb;decide) f
 refine⟨e,?_⟩;rw[e];unfold fv;rw[av (by omega)];exact⟨S2 _ (by decide),T0 _ (by decide)⟩
theorem Qw (x y:Int) (w:A2):aC AC 87 (.el (.one (.int .i64))) [aa x,aa y] w (λb w'=>b=fv x y/\Ext w w'):=by
 refine ai (C:=D1) (aQ:=λ_=>[]) (AG (Qs x y w _) ?_);refine⟨λ_=>trivial,λs es=>?_⟩;subst es;rw[A9];refine ab (λh w1 h1=>⟨?_,h1⟩) (λh a e b eb=>?_)
 ·simp only[F4,decide_eq_true_eq,NK,J0,decide_eq_false_iff_not] at h;rw[A_ (by omega)]
 ·simp only[FC,decide_eq_false_iff_not,TF,Io,decide_eq_true_eq] at h;rw[Bb (by omega) (by omega)] at e;rw[eJ (by omega) (by omega)] at eb;subst e;refine⟨BZ (by omega) (by omega),λc f d g w1 h1=>⟨?_,h1⟩⟩;obtain⟨i,j,k⟩:=E6 (y:=y) (by omega) (by omega) eb f;rw[g,Ba (by omega) (by omega),i]
theorem KT (x y:Int) (w:A2):aC AC 63 (.el (.one (.int .i64))) [aa x,aa y] w (λb w'=>b=fv x y/\Ext w w'):=by
 refine ai (C:=D1) (aQ:=λ_=>[]) (AG (KR x y w _) ?_);refine⟨λ_=>trivial,λs es=>?_⟩;subst es;rw[A9];refine ab (λh w1 h1=>⟨?_,h1⟩) (λh=>⟨trivial,λs es=>?_⟩)
 ·simp only[F4,decide_eq_true_eq,NK,J0,decide_eq_false_iff_not] at h;rw[A_ (by omega)]
 ·simp only[FC,decide_eq_false_iff_not,TF,Io,decide_eq_true_eq] at h;have e:y=0\/y=1\/y=2\/y=3:=by omega
  have j:1<=s:=by rcases e with rfl|rfl|rfl|rfl<;>(rw[es];decide)
  refine⟨by omega,λc a d f w1 h1=>⟨?_,h1⟩⟩;have g:wS .i64 x s=x / s:=by
   unfold wS;rw[Int.tdiv_eq_ediv_of_nonneg (by omega)];have h1:0<=x / s:=T3 (by omega) (by omega);have k:x / s<=x:=Int.ediv_le_self _ (by omega);exact gu (by omega) (by omega)
  have h1:0<=x / s:=T3 (by omega) (by omega);rw[g] at a;have i:eZ c 16=c % 16:=Int.tmod_eq_emod_of_nonneg (by omega);rw[f,i,a,es];unfold fv;rw[av (by omega)]
def vI (p:Bool) (r:Int) (l:Bool) (f:Int):Int:=(nB p:Int)+2*r+16*(nB l:Int)+4096*f
def Fz (p:Bool) (r:Int) (l:Bool) (f:Int):Int:=if bR p r l f=true then vI p r l f else 0
def pkE (p:Bool) (r:Int) (l:Bool) (f:Int):Int:=if bR p r l f=true then 0 else 11
theorem Iw {x:Int} (h:0<=x) (h':x<18446744073709551616):(B x).toNat=x.toNat:=by
 have:((B x).toNat:Int)=x:=BZ h h';omega
theorem Hc {p:Bool} {r:Int} {l:Bool} {f:Int} (h:bR p r l f=true):U (qO 0#64 0 [(bB p,1),(B r,3),(bB l,1),(0#64,7),(B f,12)])=vI p r l f:=by
 have b:=y6 h;rw[Du (KP (Iw (by omega) (by omega)) (by omega) (Iw (by omega) (by omega)) (by omega))];unfold vI;omega
theorem Qx (p:Bool) (r:Int) (l:Bool) (f:Int) (w:A2):aC AC 243 (.bu [eU,eI]) [.agg ⟨[.bool p,aa r,.bool l,aa f]⟩] w (λx w'=>x=(Fz p r l f,pkE p r l f,())/\Ext w w'):=by
 refine ai (C:=D1) (aQ:=λ_=>[]) (AG (Qt p r l f w _) ?_);intro w1 h1;obtain⟨m,g1,o,q,s⟩:=Cp (bK.new w1 [.bool p,aa r,.bool l,aa f] 130);refine⟨_,s,trivial,ab (λh a d=>⟨?_,(h1.iZ _).trans d⟩) (λh=>⟨rfl,p,m,trivial,λx1 t=>⟨rfl,r,g1,λe i=>⟨rfl,l,o,trivial,λF u=>⟨rfl,f,q,λg j a d v k=>?_⟩⟩⟩⟩)⟩
 ·have h':bR p r l f=false:=by simpa using h
  unfold Fz pkE;rw[h'];rfl
 ·have h':bR p r l f=true:=by simpa using h
  have b:=y6 h';rw[Bb (by omega) (by omega)] at i j;subst t;subst i;subst u;subst j;have y:U (B e)=e:=BZ (by omega) (by omega);have z:U (B g)=g:=BZ (by omega) (by omega);have sl:Sl v eP (af a.heap.size) (Oa [(bB p,1),(B e,3),(bB l,1),(0#64,7),(B g,12)]):=Sl.jI ((bK.new a _ _).ext k) (by
   simp only[Oa,C5,List.map_nil,y,z];rfl)
  refine(Uo (n:=5) (c:=5) sl rfl (by decide)).mono ?_;rintro x G ⟨A,D⟩ H E;refine⟨?_,((((h1.iZ _).trans d).iZ _).trans k).trans (D.trans E)⟩;rw[A,Hc h'];unfold Fz pkE;rw[av h',av h']
theorem Gf {w:A2} {b:Nat} {l:List AF} (h:bK w b l) (vs:List AF) (a:vs.length=l.length):bK (jA w (af b) vs) b vs:=by
 have:=h.put (o:=0) vs (by omega);rw[Ca,a,G1,GH,N7,Ok] at this;exact this
def uG (n:Nat):Bool:=decide (n / 32 % 128=0)&&decide (n / 16777216 % 1099511627776=0)&&bR (n % 2==1) ((n / 2 % 8:Nat):Int) (n / 16 % 2==1) ((n / 4096 % 4096:Nat):Int)
def Ic (n:Nat):Bool:=uG n&&n % 2==1
def FA (n:Nat):Int:=if uG n=true then((n / 2 % 8:Nat):Int) else 0
def JY (n:Nat):Bool:=uG n&&n / 16 % 2==1
def Fj (n:Nat):Int:=if uG n=true then((n / 4096 % 4096:Nat):Int) else 0
theorem Zi {w0 w:A2} {e:El} {s:Option AB×Nat×Nat} {xs:List e.T} (h:lN w0 w e s xs) {a:AB} (d:s.1=some a):a.block<w.heap.size:=by
 obtain⟨_, _,c⟩:=h;rcases c with ⟨c, _⟩|⟨b,l,c, _,f, _⟩
 ·rw[c] at d;cases d
 ·rw[c] at d;cases d;exact f.lt
theorem IX (n:Nat):(((n:Nat):Int)==1)=(n==1):=by
 rw[J1,beq_iff_eq,beq_iff_eq];omega
theorem IY (n:Nat):decide (((n:Nat):Int)>0)= !decide (n=0):=by
 rw[J1,decide_eq_true_eq,NK,decide_eq_false_iff_not];omega
theorem Qy (v:BitVec 64) (w:A2):aC AC 59 (.bu [.agg [.bool,.int .i64,.bool,.int .i64],.one .bool]) [ay (U v)] w
 (λx w'=>x=((Ic v.toNat,FA v.toNat,JY v.toNat,Fj v.toNat,()),uG v.toNat,())/\Ext w w'):=by
 refine aR (C:=D1) (aQ:=λ_=>[]) (AG (Qu (U v) w _) ?_);intro w1 h1 l u r m;have dk:bK l w1.heap.size [Aq false,aa 0,Aq false,aa 0]:=(bK.new w1 _ _).ext u;have H:Ext w l:=(h1.iZ _).trans u;have y:Ext w r:=(H.iZ _).trans m;have sl:Sl r eI (af l.heap.size) [1,3,1,7,12,40]:=Sl.jI ((bK.new l _ _).ext m) rfl;refine(P6 (v:=v) (c:=6) sl rfl (by decide)).mono ?_;rintro⟨p,n,c⟩ X ⟨e,o⟩;rw[Ha] at e;have ln:n=6:=by have:=e.len;simpa[B6] using this
 subst ln
 let N:=v.toNat
 have I:U (fm v 0 1)=((N % 2:Nat):Int):=by rw[Du (nI 1 2 (by decide) rfl rfl),Nat.div_one]
 have J:U (fm v 1 3)=((N / 2 % 8:Nat):Int):=Du (nI 2 8 (by decide) rfl rfl);have K:U (fm v 4 1)=((N / 16 % 2:Nat):Int):=Du (nI 16 2 (by decide) rfl rfl);have L:U (fm v 5 7)=((N / 32 % 128:Nat):Int):=Du (nI 32 128 (by decide) rfl rfl);have M:U (fm v 12 12)=((N / 4096 % 4096:Nat):Int):=Du (nI 4096 4096 (by decide) (by decide) (by decide));have O:U (fm v 24 40)=((N / 16777216 % 1099511627776:Nat):Int):=Du (nI 16777216 1099511627776 (by decide) (by decide) (by decide));have P:B6 ((some [fm v 0 1,fm v 1 3,fm v 4 1,fm v 5 7,fm v 12 12,fm v 24 40]).getD [])=[((N % 2:Nat):Int),((N / 2 % 8:Nat):Int),((N / 16 % 2:Nat):Int),((N / 32 % 128:Nat):Int),((N / 4096 % 4096:Nat):Int),((N / 16777216 % 1099511627776:Nat):Int)]:=by
  show[U (fm v 0 1),U (fm v 1 3),U (fm v 4 1),U (fm v 5 7),U (fm v 12 12),U (fm v 24 40)]= _;rw[I,J,K,L,M,O]
 rw[P] at e;have Q:p.isSome=true:=(e.sl 0 _ rfl).1;have ix: ∀i:Int,0<=i->i<6->p.isSome=true/\0<=i/\i<((6:Nat):Int):=λi a b=>⟨Q,a,b⟩;refine⟨ix 0 (by decide) (by decide), _,(e.sl 0 _ rfl).2,ix 1 (by decide) (by decide), _,(e.sl 1 _ rfl).2,λY z=>⟨ix 2 (by decide) (by decide), _,(e.sl 2 _ rfl).2,ix 4 (by decide) (by decide), _,(e.sl 4 _ rfl).2,λZ A d f g q=>?_⟩⟩;rw[Ba (by omega) (by omega)] at z A;rw[IX,IX];subst z;subst A;have bt:bK g d.heap.size [Aq false,aa 0,Aq false,aa 0]:=(bK.new d _ _).ext q;refine⟨⟨rfl,bt.st (by simp)⟩,?_⟩;have bp:=Gf bt [Aq (N % 2==1),aa ((N / 2 % 8:Nat):Int),Aq (N / 16 % 2==1),aa ((N / 4096 % 4096:Nat):Int)] rfl;have B:lN r (jA g (af d.heap.size) [Aq (N % 2==1),aa ((N / 2 % 8:Nat):Int),Aq (N / 16 % 2==1),aa ((N / 4096 % 4096:Nat):Int)]) eU (p,6,c) _:=
  ((e.ext f).ext ((Ext.alloc _ _).trans q)).same λa R=>mR _ _ ⟨d.heap.size,0,none⟩ 0 _ (by
    have:=Zi e R;have:=f.size;show a.block≠d.heap.size;omega)
 have S:Ext w g:=(((y.trans o).trans f).iZ _).trans q;have D:Ext w (jA g (af d.heap.size) [Aq (N % 2==1),aa ((N / 2 % 8:Nat):Int),Aq (N / 16 % 2==1),aa ((N / 4096 % 4096:Nat):Int)]):=S.jA (a:=⟨d.heap.size,0,none⟩) (((y.trans o).trans f).size) _;have E:cI (jA g (af d.heap.size) [Aq (N % 2==1),aa ((N / 2 % 8:Nat):Int),Aq (N / 16 % 2==1),aa ((N / 4096 % 4096:Nat):Int)]) (af d.heap.size) (.agg [.bool,.int .i64,.bool,.int .i64]) (N % 2==1,((N / 2 % 8:Nat):Int),N / 16 % 2==1,((N / 4096 % 4096:Nat):Int),()):=
  bp.rdA λi _=>by rw[Ca];rfl
 have lt1:=dk.lt;have T:w1.heap.size≠d.heap.size:=by
  have a1:=m.size;have a2:=o.size;have a3:=f.size;rw[lC] at a1;omega
 have F:bK (jA g (af d.heap.size) [Aq (N % 2==1),aa ((N / 2 % 8:Nat):Int),Aq (N / 16 % 2==1),aa ((N / 4096 % 4096:Nat):Int)]) w1.heap.size [Aq false,aa 0,Aq false,aa 0]:=
  ((((((dk.ext (Ext.alloc _ _)).ext m).ext o).ext f).ext (Ext.alloc _ _)).ext q).W7 (a:=⟨d.heap.size,0,none⟩) T _
 refine⟨ix 3 (by decide) (by decide), _,(B.sl 3 _ rfl).2,λ_=>ix 5 (by decide) (by decide), _,λ_=>(B.sl 5 _ rfl).2, _,λ_=>E,λ_=>trivial,?_⟩;rw[IY,IY];have G:uG N= !(!decide (N / 32 % 128=0)|| !decide (N / 16777216 % 1099511627776=0)|| !bR (N % 2==1) ((N / 2 % 8:Nat):Int) (N / 16 % 2==1) ((N / 4096 % 4096:Nat):Int)):=by
  unfold uG;cases decide (N / 32 % 128=0)<;>cases decide (N / 16777216 % 1099511627776=0)<;>cases bR (N % 2==1) ((N / 2 % 8:Nat):Int) (N / 16 % 2==1) ((N / 4096 % 4096:Nat):Int)<;>rfl
 refine ab (λhb V h=>?_) (λhb=>⟨_,E,λV h=>?_⟩)
 ·have s:uG N=false:=by rw[G,hb];rfl
  have j:=F.ext h;refine⟨⟨rfl,j.st (by simp)⟩,λW k=>⟨(false,0,false,0,()),?_,?_,?_⟩⟩
  ·have t:=(Gf j [Aq false,aa 0,Aq false,aa 0] rfl).ext k;exact t.rdA λi _=>by rw[Ca];rfl
  ·show _=((Ic N,FA N,JY N,Fj N,()),uG N,());unfold Ic FA JY Fj;rw[s];rfl
  ·exact((D.trans h).jA (a:=⟨w1.heap.size,0,none⟩) h1.size _).trans k
 ·have s:uG N=true:=by rw[G,hb];rfl
  have j:=F.ext h;refine⟨⟨rfl,j.st (by simp)⟩,λW k=>⟨(N % 2==1,((N / 2 % 8:Nat):Int),N / 16 % 2==1,((N / 4096 % 4096:Nat):Int),()),?_,?_,?_⟩⟩
  ·have t:=(Gf j [Aq (N % 2==1),aa ((N / 2 % 8:Nat):Int),Aq (N / 16 % 2==1),aa ((N / 4096 % 4096:Nat):Int)] rfl).ext k;exact t.rdA λi _=>by rw[Ca];rfl
  ·show _=((Ic N,FA N,JY N,Fj N,()),uG N,());unfold Ic FA JY Fj;rw[s,av rfl,av rfl,H5,H5]
  ·exact((D.trans h).jA (a:=⟨w1.heap.size,0,none⟩) h1.size _).trans k
noncomputable def O7:Entry AC where
 f:=96
 fn l:=match l with
  |[.agg ⟨[.bool p,.int .i64 r,.bool l,.int .i64 f]⟩]=>some (True,.bool (fO p r l f))
  | _=>none
 ok args pre v h a w:=by
  split at h
  ·rename_i p r l f;cases h;exact bU (Qv p r l f w)
  ·cases h
noncomputable def IZ:Entry AC where
 f:=145
 fn l:=match l with
  |[.agg ⟨[.bool p,.int .i64 r,.bool l,.int .i64 f]⟩,.int .i64 t]=>some (True,.bool (gH p r l f t))
  | _=>none
 ok args pre v h a w:=by
  split at h
  ·rename_i p r l f t;cases h;exact bU (KS p r l f t w)
  ·cases h
noncomputable def O8:Entry AC where
 f:=87
 fn l:=match l with
  |[.int .i64 x,.int .i64 y]=>some (True,.int .i64 (fv x y))
  | _=>none
 ok args pre v h a w:=by
  split at h
  ·rename_i x y;cases h;exact bU (Qw x y w)
  ·cases h
noncomputable def I0:Entry AC where
 f:=63
 fn l:=match l with
  |[.int .i64 x,.int .i64 y]=>some (True,.int .i64 (fv x y))
  | _=>none
 ok args pre v h a w:=by
  split at h
  ·rename_i x y;cases h;exact bU (KT x y w)
  ·cases h
noncomputable def W9:Entry AC where
 f:=243
 fn l:=match l with
  |[.agg ⟨[.bool p,.int .i64 r,.bool l,.int .i64 f]⟩]=>some (True,.tuple ⟨[.int .u64 (Fz p r l f),.int .i64 (pkE p r l f)]⟩)
  | _=>none
 ok args pre v h a w:=by
  split at h
  ·rename_i p r l f;cases h;exact bU (Qx p r l f w)
  ·cases h
noncomputable def O9:Entry AC where
 f:=59
 fn l:=match l with
  |[.int .u64 v]=>some (U (B v)=v,.tuple ⟨[.agg ⟨[.bool (Ic (B v).toNat),.int .i64 (FA (B v).toNat),.bool (JY (B v).toNat),.int .i64 (Fj (B v).toNat)]⟩,.bool (uG (B v).toNat)]⟩)
  | _=>none
 ok args pre v h a w:=by
  split at h
  ·rename_i v;cases h;have:=bU (Qy (B v) w);rw[a] at this;exact this
  ·cases h
noncomputable def D2:dJ AC:={D0 with sr:=[tn,vF,FL,FM,OA,u6,OB,Ge,O7,IZ,O8,I0,W9,O9]}
theorem OC (z x y:Int) (w:A2) (a:Int->A2->Prop):(aK D2 (λ_=>[]) 55 [aa z,aa x,aa y] w a)=(
 True/\ ∀(b:Int),b=fv x y->aI (decide (b<0)||decide (z<0)||decide (z>=4096)) (au w (a (-1))) (∀(x:Int),x=iy .i64 16 z-> ∀(c:Int),c=aJ .i64 x b->au w (a c))):=by kernel_rfl
theorem Zj (z x y:Int) (w:A2) (a:Int->A2->Prop):(aK D2 (λ_=>[]) 27 [aa z,aa x,aa y] w a)=(
 True/\ ∀(b:Int),b=fv x y->aI (decide (b<0)||decide (z<0)||decide (z>4095)) (au w (a (-1))) (∀(x:Int),x=iy .i64 16 z-> ∀(c:Int),c=aJ .i64 x b->au w (a c))):=by kernel_rfl
def dQ (z x y:Int):Int:=if fv x y<0\/z<0\/z>=4096 then -1 else 16*z+fv x y
theorem D7 (x y:Int): -1<=fv x y/\fv x y<16:=by
 unfold fv;split
 ·have h1:=S2 (x / fS y) (show(16:Int)≠0 by decide);have a:=T0 (x / fS y) (show(0:Int)<16 by decide);omega
 ·omega
theorem DK (z x y:Int) (w:A2):aC AC 55 (.el (.one (.int .i64))) [aa z,aa x,aa y] w (λb w'=>b=dQ z x y/\Ext w w'):=by
 refine ai (C:=D2) (aQ:=λ_=>[]) (AG (OC z x y w _) ⟨trivial,λs es=>?_⟩);have hb:=D7 x y;subst es;refine ab (λh w1 h1=>⟨?_,h1⟩) (λh a c b eb w1 h1=>⟨?_,h1⟩)
 ·simp only[F4,decide_eq_true_eq] at h;unfold dQ;rw[av (by omega)]
 ·simp only[FC,decide_eq_false_iff_not] at h;rw[eJ (by omega) (by omega)] at c;rw[ax (by omega) (by omega)] at eb;unfold dQ;rw[ao (by omega),eb,c]
theorem Zk (z x y:Int) (w:A2):aC AC 27 (.el (.one (.int .i64))) [aa z,aa x,aa y] w (λb w'=>b=dQ z x y/\Ext w w'):=by
 refine ai (C:=D2) (aQ:=λ_=>[]) (AG (Zj z x y w _) ⟨trivial,λs es=>?_⟩);have hb:=D7 x y;subst es;refine ab (λh w1 h1=>⟨?_,h1⟩) (λh a c b eb w1 h1=>⟨?_,h1⟩)
 ·simp only[F4,decide_eq_true_eq] at h;unfold dQ;rw[av (by omega)]
 ·simp only[FC,decide_eq_false_iff_not] at h;rw[eJ (by omega) (by omega)] at c;rw[ax (by omega) (by omega)] at eb;unfold dQ;rw[ao (by omega),eb,c]
noncomputable def eAt:Entry AC where
 f:=55
 fn l:=match l with
  |[.int .i64 z,.int .i64 x,.int .i64 y]=>some (True,.int .i64 (dQ z x y))
  | _=>none
 ok args pre v h a w:=by
  split at h
  ·rename_i z x y;cases h;exact bU (DK z x y w)
  ·cases h
noncomputable def abY:Entry AC where
 f:=27
 fn l:=match l with
  |[.int .i64 z,.int .i64 x,.int .i64 y]=>some (True,.int .i64 (dQ z x y))
  | _=>none
 ok args pre v h a w:=by
  split at h
  ·rename_i z x y;cases h;exact bU (Zk z x y w)
  ·cases h
noncomputable def D3:dJ AC:={D0 with sr:=[tn,vF,FL,FM,OA,u6,OB,Ge,O7,IZ,O8,I0,W9,O9,eAt,abY]}
noncomputable def M0:dJ AC:={D3 with vE:=false,quiet:=[117,118]}
theorem UJ (p:Option AB) (w:A2) (a:Int->A2->Prop):(aK M0 (λ_=>[]) 117 [ag p] w a)=(
 aI p.isNone (au w (a 0)) (p.isSome=true/\p.isSome=true/\(ad p 0).isSome=true/\sZ w (ad (ad p 0) 0) λx=>au w (a (↑x.2.1:Int)))):=by kernel_rfl
theorem Zl (p:Option AB) (n c:Nat) (i:Int) (w:A2) (d:Option AB->A2->Prop):(aK M0 (λ_=>[]) 118 [.agg ⟨[.slice p n c]⟩,aa i] w d)=(
 aN w ⟨[.slice p n c]⟩ 157 λb a=>((!decide (i<0))=true->true=true)/\aj a (some !decide (i<0)) (ad (af b) 0) ff λx=>aI (decide (i<0)||decide (i>=(↑x.2.1:Int))) (au a (d none)) (true=true/\sZ a (ad (af b) 0) λx=>(x.1.isSome=true/\0<=i/\i<(↑x.2.1:Int))/\au a (d (ad x.1 (i.toNat*1))))):=by kernel_rfl
theorem Qz (p:Option AB) (i:Int) (w:A2) (a:Option AB×Int×Unit->A2->Prop):(aK M0 (λ_=>[]) 71 [ag p,aa i] w a)=(
 ∃(x:Int),ae AC 117 [ag p] w (aa x)/\aI (x==0) (au w (a (none,10,()))) (p.isSome=true/\p.isSome=true/\aj w none (ad p 0) (.agg [.slice]) λx=> ∃(b:Option AB),ae AC 118 [.agg ⟨[.slice x.1.1 x.1.2.1 x.1.2.2]⟩,aa i] w (ag b)/\aI b.isNone (au w (a (none,2,()))) (cM p 1 w λx=>p.isSome=true/\p.isSome=true/\az w (ad p 1) [aa (aJ .i64 x 1)] λc=>au c (a (b,0,()))))):=by kernel_rfl
theorem D8 (p:Option AB) (i:Int) (w:A2) (a:Int×Int×Unit->A2->Prop):(aK M0 (λ_=>[]) 37 [ag p,aa i] w a)=(
 aA AC 71 (.bu [.one .ptr,.one (.int .i64)]) [ag p,aa i] w λ(x:Option AB×Int×Unit) b=>aI (x.2.1 != 0) (au b (a (0,x.2.1,()))) (x.1.isSome=true/\cK b x.1 λx=>au b (a (x,0,())))):=by kernel_rfl
theorem KU (p:Option AB) (i v:Int) (w:A2) (b:Int->A2->Prop):(aK M0 (λ_=>[]) 38 [ag p,aa i,ay v] w b)=(
 aA AC 71 (.bu [.one .ptr,.one (.int .i64)]) [ag p,aa i] w λ(x:Option AB×Int×Unit) a=>aI (x.2.1==0) (x.1.isSome=true/\az a x.1 [ay v] λa=>cM p 2 a λc=>p.isSome=true/\p.isSome=true/\az a (ad p 2) [aa (aJ .i64 c 1)] λa=>au a (b x.2.1)) (au a (b x.2.1))):=by kernel_rfl
theorem UK (n:Int) (w:A2) (a:Option AB×Int×Unit->A2->Prop):(aK M0 (λ_=>[]) 33 [aa n] w a)=(
 aI (decide (n<1)||decide (n>65536)) (au w (a (none,1,()))) (NJ w 8 1 n n ⟨[ay 0]⟩ 29 λb c=>aN c {toList:=[.slice (af b) n.toNat n.toNat,aa 0,aa 0]} 159 λb c=>au c (a (some ⟨b,0,none⟩,0,())))):=by kernel_rfl
abbrev eW:El:= .one (.int .u64)
abbrev lT (bw n c:Nat) (ca la:Int):List AF:=[.slice (af bw) n c,aa ca,aa la]
def uH (ws:List Int) (i:Int):Bool:=decide (0<=i)&&decide (i<ws.length)
def dC (ws:List Int) (i:Int):Int:=if uH ws i then ws.getD i.toNat 0 else 0
def BT (ws:List Int) (i:Int):Int:=if uH ws i then 0 else 2
def wO (ws:List Int) (i x:Int):Int:=if uH ws i then aJ .i64 x 1 else x
def cW (ws:List Int) (i v:Int):List Int:=if uH ws i then ws.set i.toNat v else ws
theorem jd {ws:List Int} {i:Int}:uH ws i=true<->0<=i/\i<ws.length:=by unfold uH;simp
theorem cG (ws:List Int) (i v:Int):(cW ws i v).length=ws.length:=by unfold cW;split<;>simp
theorem Ix: ∀ws:List Int,flat eW ws=ws.map (E4 .u64)
 |[]=>rfl
 |a::l=>by
  show[ay a]++flat eW l= _;rw[Ix l];rfl
section
variable {D G:List Nat} {w0 w:A2} {L:List (Nat×List AF)} {bm bw n c:Nat} {ca la:Int} {ws:List Int} {rest:List AF}
theorem aal {i:Nat} (hi:i<ws.length):kx (flat eW ws++rest) (0+i*1) eW=some (ws.getD i 0):=by
 have:(flat eW ws++rest)[0+i*1]? =some (ay (ws.getD i 0)):=by
  have a:(flat eW ws).length=ws.length*1:=aG eW ws;rw[Ca,In,Gd (by omega)];have e:=Ix ws;rw[e,Fx,Dl hi,K1,Dl hi];rfl
 show(match (flat eW ws++rest)[0+i*1]? with|some v=>(Sc.int .u64).proj v|none=>none)= _;rw[this];rfl
theorem I3 (h:bK w bm (lT bw n c ca la)):aC AC 117 (.el (.one (.int .i64))) [ag (af bm)] w (λx w'=>x=(n:Int)/\Ext w w'):=by
 refine ai (C:=M0) (aQ:=λ_=>[]) (AG (UJ _ w _) ?_);refine an rfl ⟨rfl,rfl,rfl,aj.of (some ⟨bw,0,none⟩,n,c) (by rw[aW,aW];exact h.ow rfl) λw1 h1=>⟨rfl,h1⟩⟩
theorem Zm (p:Option AB) (a:n≠0->p.isSome=true) (i:Int) (w:A2):aC AC 118 (.el (.one .ptr)) [.agg ⟨[.slice p n c]⟩,aa i] w (λx w'=>x=(if 0<=i/\i<n then ad p i.toNat else none)/\Ext w w'):=by
 refine ai (C:=M0) (aQ:=λ_=>[]) (AG (Zl p n c i w _) ?_);have H:=At.start [] w;refine aN.go H λb e H=>⟨λ_=>rfl,aj.cv 0 H rfl rfl (ab (λc1=>au.go H λd H=>⟨?_,H.all⟩) (λc1=>⟨rfl,aj.cv 0 H rfl rfl ?_⟩))⟩
 ·have: ¬ (0<=i/\i<n):=by simp at c1;omega
  rw[ao this]
 ·have hi:0<=i/\i<n:=by simp at c1;omega
  refine⟨⟨a (by omega),by omega,by show i<((n:Nat):Int);omega⟩,au.go H λd H=>⟨?_,H.all⟩⟩;rw[av hi,In]
theorem y7 (H:aL D G w0 w L) (j:Nat) (b:L[j]? =some (bm,lT bw n c ca la)) (e:n=ws.length) (h0:0<n) (i:Int) {K:Option AB×Int×Unit->A2->Prop}
 (f:uH ws i=true-> ∀a,aL D G w0 a (L.set j (bm,lT bw n c (aJ .i64 ca 1) la))->K (ad (af bw) i.toNat,0,()) a) (g:uH ws i=false-> ∀a,aL D G w0 a L->K (none,2,()) a):
 aA AC 71 (.bu [.one .ptr,.one (.int .i64)]) [ag (af bm),aa i] w K:=by
 refine aA.go H λw1 H=>ai (C:=M0) (aQ:=λ_=>[]) (AG (Qz _ i w1 K) ?_);refine⟨_,ae.of (s:= .el (.one (.int .i64))) λw' h'=>I3 ((H.get b).ext h'),an (by simp;omega) ⟨rfl,rfl,aj.cv j H b rfl ⟨_,ae.of (s:= .el (.one .ptr)) λw' h'=>Zm (af bw) (λ_=>rfl) i w',?_⟩⟩⟩;subst e;cases hi:uH ws i with
 |true=>
  have d:=jd.1 hi;rw[av d];refine an rfl ⟨rfl,rfl,aj.cv j H b rfl ⟨rfl,rfl,az.e8 j H b rfl rfl λa H=>au.go H λk H=>f hi k H⟩⟩
 |false=>
  have d: ¬ (0<=i/\i<(ws.length:Int)):=λh=>by rw[jd.2 h] at hi;cases hi
  rw[ao d];exact aB rfl (au.go H λa H=>g hi a H)
theorem D9 (H:aL D G w0 w L) (j a:Nat) (d:L[j]? =some (bm,lT bw n c ca la)) (g:L[a]? =some (bw,flat eW ws++rest)) (h:j≠a) (l:n=ws.length) (h0:0<n) (i:Int) {K:Int×Int×Unit->A2->Prop}
 (k: ∀b,aL D G w0 b (L.set j (bm,lT bw n c (wO ws i ca) la))->K (dC ws i,BT ws i,()) b):
 aA AC 37 (.bu [.one (.int .u64),.one (.int .i64)]) [ag (af bm),aa i] w K:=by
 refine aA.go H λw1 H=>ai (C:=M0) (aQ:=λ_=>[]) (AG (D8 _ i w1 K) ?_);refine y7 H j d l h0 i (λhi b H=>?_) (λhi b H=>?_)
 ·unfold wO dC BT at k;rw[hi,av rfl,av rfl,av rfl] at k;have o:(L.set j (bm,lT bw n c (aJ .i64 ca 1) la))[a]? =some (bw,flat eW ws++rest):=by rw[Dn h];exact g
  have p:=jd.1 hi;refine an rfl ⟨rfl,?_⟩;rw[aW];have e:=aal (ws:=ws) (rest:=rest) (i:=i.toNat) (by omega);rw[In] at e;exact aj.at a H o e (au.go H λf H=>k f H)
 ·unfold wO dC BT at k;rw[hi,ao (by decide),ao (by decide),ao (by decide)] at k;refine aB rfl (au.go H λf H=>k f ?_);rw[show L.set j (bm,lT bw n c ca la)=L from GG λm=>by
   by_cases e:j=m
   ·subst e;rw[Fh (Bs.1 d).1,d]
   ·rw[Dn e]]
  exact H
theorem aa2 {i:Nat} (hi:i<ws.length) (v:Int):(flat eW ws++rest).set i (ay v)=flat eW (ws.set i v)++rest:=by
 have h:=yX eW ws i v rest hi;have a:(cellsOf eW v)=[ay v]:=rfl;have b:aD eW=1:=rfl;rw[a,b,In] at h;rw[<-h];have c:(flat eW ws).length=ws.length*1:=aG eW ws;rw[NR,av (by rw[BO];omega)];rfl
theorem KW (H:aL D G w0 w L) (j a:Nat) (f:L[j]? =some (bm,lT bw n c ca la)) (g:L[a]? =some (bw,flat eW ws++rest)) (b:j≠a) (p:n=ws.length) (h0:0<n) (i v:Int) {K:Int->A2->Prop}
 (k: ∀d,aL D G w0 d ((L.set j (bm,lT bw n c (wO ws i ca) (wO ws i la))).set a (bw,flat eW (cW ws i v)++rest))->K (BT ws i) d):
 aA AC 38 (.el (.one (.int .i64))) [ag (af bm),aa i,ay v] w K:=by
 refine aA.go H λw1 H=>ai (C:=M0) (aQ:=λ_=>[]) (AG (KU _ i v w1 K) ?_);have r:j<L.length:=(Bs.1 f).1;have y:a<L.length:=(Bs.1 g).1;refine y7 H j f p h0 i (λhi d H=>?_) (λhi d H=>?_)
 ·unfold wO cW BT at k;rw[hi,av rfl,av rfl,av rfl,av rfl] at k;have s:(L.set j (bm,lT bw n c (aJ .i64 ca 1) la))[a]? =some (bw,flat eW ws++rest):=by rw[Dn b];exact g
  have z:=jd.1 hi;have t:i.toNat<ws.length:=by omega
  have A:(flat eW ws).length=ws.length*1:=aG eW ws;refine aB rfl ⟨rfl,az.e8 a H s rfl (by rw[Nat.blt_eq,BO];omega) λl H=>?_⟩;rw[Ca,aa2 t] at H;have o:((L.set j (bm,lT bw n c (aJ .i64 ca 1) la)).set a (bw,flat eW (ws.set i.toNat v)++rest))[j]? =some (bm,lT bw n c (aJ .i64 ca 1) la):=by
   rw[Dn (λe=>b e.symm),Fh r]
  refine⟨rfl,rfl,aj.cv j H o rfl ⟨rfl,rfl,az.e8 j H o rfl rfl λB H=>au.go H λu H=>k u ?_⟩⟩;rw[List.set_comm _ _ b,List.set_set] at H;rw[List.set_comm _ _ b];exact H
 ·unfold wO cW BT at k;rw[hi,ao (by decide),ao (by decide),ao (by decide),ao (by decide)] at k;refine an rfl (au.go H λl H=>k l ?_);have s1: ∀{m:Nat} {x:Nat×List AF},L[m]? =some x->L.set m x=L:=λ{m x} h=>GG λq=>by
   by_cases e:m=q
   ·subst e;rw[Fh (Bs.1 h).1,h]
   ·rw[Dn e]
  rw[s1 f,s1 g];exact H
theorem xz (H:aL D G w0 w L) (b:1<=n/\n<=65536) {K:Option AB×Int×Unit->A2->Prop}
 (k: ∀bm bw w1,aL D G w0 w1 ((bm,lT bw n n 0 0)::(bw,flat eW (Ft n 0)++[])::L)->K (some ⟨bm,0,none⟩,0,()) w1):
 aA AC 33 (.bu [.one .ptr,.one (.int .i64)]) [aa (n:Int)] w K:=by
 refine aA.go H λw1 H=>ai (C:=M0) (aQ:=λ_=>[]) (AG (UK _ w1 K) ?_);refine an (by rw[decide_eq_false (by omega),decide_eq_false (by omega)];rfl) (NJ.go H rfl (by omega) (by omega) (by omega) (by omega) λbw c H=>aN.go H λbm d H=>au.go H λa H=>k bm bw a ?_);rw[lH,GH];exact H
end
abbrev sR:List Sc:=[.int .u64,.bool,.int .i64]
abbrev RT:Type:=Int×Bool×Int×Unit
abbrev sA:List Sc:=[.int .i64,.int .i64,.int .u64,.int .u64]
abbrev sF:List Sc:=[.int .i64,.int .i64,.int .i64,.int .i64]
noncomputable def M1:dJ AC:={M0 with quiet:=[58,24]}
noncomputable def M2:dJ AC:={M1 with Z7:=some (.el (.agg sR))}
noncomputable def M3:dJ AC:={M1 with Z7:=some (.bu [])}
theorem QA (k i a b:Int) (m:Option AB) (w:A2) (d:RT->A2->Prop):(bQ M1 (λ_=>[]) 89 [.agg ⟨[aa k,aa i,ay a,ay b]⟩,ag m] w d)=(
 aN w ⟨[aa k,aa i,ay a,ay b]⟩ 191 λb c=>aN c ⟨[ay 0,.bool false,aa 0]⟩ 124 λe c=>true=true/\aU c (ad (af b) 1) λx=>aA AC 37 (.bu [.one (.int .u64),.one (.int .i64)]) [ag m,aa x] c λ(x:Int×Int×Unit) c=>az c (af e) [ay x.1,.bool false,aa x.2.1] λc=>au c λw1=>aj w1 none (af e) (.agg [.int .u64,.bool,.int .i64]) λ(x:Int×Bool×Int×Unit)=>d (x.1,x.2.1,x.2.2.1,()) w1):=by kernel_rfl
abbrev D_ (a:RT->A2->Prop) (b:A2) (c:Nat):Prop:=
 au b λw1=>aj w1 none (af c) (.agg [.int .u64,.bool,.int .i64]) λ(x:Int×Bool×Int×Unit)=>a (x.1,x.2.1,x.2.2.1,()) w1
theorem aa3 (m:Option AB) (k i a b:Int) (w:A2) (f:RT->A2->Prop):(bQ M2 (λ_=>[]) 57 [ag m,.agg ⟨[aa k,aa i,ay a,ay b]⟩] w f)=(
 aN w ⟨[aa k,aa i,ay a,ay b]⟩ 127 λb c=>aN c ⟨[ay 0,.bool false,aa 0]⟩ 124 λe c=> ∀w1,Ext c w1-> ∀g,Ext (w1.alloc (Obj.map ⟨[]⟩ 0)) g-> ∃(r:Nat), ∃(es:Array B2), ∃(d:Nat),some w1.heap.size=some r/\bF g r es d/\gR g r .i64 1 (.func (.func 89) ⟨[]⟩ ⟨[]⟩) es d λc=> ∀h,Ext c h-> ∃(r:Nat), ∃(es:Array B2), ∃(d:Nat),some w1.heap.size=some r/\bF h r es d/\gR h r .i64 2 (.func (.func 90) ⟨[]⟩ ⟨[]⟩) es d λc=> ∀j,Ext c j->
 ∃(r:Nat), ∃(es:Array B2), ∃(d:Nat),some w1.heap.size=some r/\bF j r es d/\gR j r .i64 3 (.func (.func 91) ⟨[]⟩ ⟨[]⟩) es d λc=> ∀l,Ext c l-> ∃(r:Nat), ∃(es:Array B2), ∃(d:Nat),some w1.heap.size=some r/\bF l r es d/\gR l r .i64 4 (.func (.func 92) ⟨[]⟩ ⟨[]⟩) es d λc=>true=true/\aU c (ad (af b) 0) λx=> ∃(n:AF), ∃(o:Bool),ml c (some w1.heap.size) .i64 x T5 n o/\aI (!o) (az c (af e) [ay 0,.bool false,aa 1] λc=>D_
 f c e) (aj c none (af b) (.agg [.int .i64,.int .i64,.int .u64,.int .u64]) λ(x:Int×Int×Int×Int×Unit)=>zZ AC n (.el (.agg [.int .u64,.bool,.int .i64])) [.agg ⟨[aa x.1,aa x.2.1,ay x.2.2.1,ay x.2.2.2.1]⟩,ag m] c λ(x:Int×Bool×Int×Unit) c=>az c (af e) [ay x.1,.bool x.2.1,aa x.2.2.1] λc=>D_ f c e)):=by kernel_rfl
theorem UL (f p t:Int) (w:A2) (a:Option AB->A2->Prop):(aK M1 (λ_=>[]) 20 [aa f,aa p,aa t] w a)=(
 aN w {toList:=[aa f,aa p,aa t,aa 3,aa 0,aa 0,aa 0,aa 0,.slice none 0 0,.bool true]} 117 λb c=>True/\aI (decide (dQ f p (3:Int)<0)||decide (t<0)||decide (t>7)) (au c (a none)) (au c (a (af b)))):=by kernel_rfl
abbrev vZ (a:Int×Int×Int×Int×Unit->A2->Prop) (b:A2) (c:Nat):Prop:=
 au b λw1=>aj w1 none (af c) (.agg [.int .i64,.int .i64,.int .u64,.int .u64]) λ(x:Int×Int×Int×Int×Unit)=>a (x.1,x.2.1,x.2.2.1,x.2.2.2.1,()) w1
theorem QB (p:Option AB) (w:A2) (c:(Int×Int×Int×Int×Unit)->A2->Prop):(bQ M1 (λ_=>[]) 58 [ag p] w c)=(
 aN w ⟨[aa 0,aa 0,ay 0,ay 0]⟩ 127 λb a=>((!p.isNone)=true->p.isSome=true)/\((!p.isNone)=true->p.isSome=true)/\aj a (some !p.isNone) (ad p 9) rE λx=>((!(p.isNone|| !x))=true->p.isSome=true)/\((!(p.isNone|| !x))=true->p.isSome=true)/\aj a (some !(p.isNone|| !x)) (ad p 3) aT λ(d:Int)=>aI (p.isNone|| !x||d== -1) (az a (af b) [aa 0,aa 0,ay 0,ay 0] λa=>vZ c a b) (cM p 0 a λx=>cM p 1 a λe=>cM p 3 a λf=>True/\az a (af b)
 [aa 1,aa (dQ x e f),ay 0,ay 0] λa=>vZ c a b)):=by kernel_rfl
theorem UM (p:Option AB) (a b c d:Int) (w:A2) (f:Unit->A2->Prop):(aK M1 (λ_=>[]) 60 [ag p,.agg ⟨[aa a,aa b,aa c,aa d]⟩] w f)=(
 aN w ⟨[aa a,aa b,aa c,aa d]⟩ 48 λb e=>cM p 3 e λx=>true=true/\az e (ad (af b) 2) [aa x] λe=>aj e none (af b) dS λ(x:Int×Int×Int×Int×Unit)=>p.isSome=true/\p.isSome=true/\az e (ad p 4) [aa x.1,aa x.2.1,aa x.2.2.1,aa x.2.2.2.1] λe=>p.isSome=true/\p.isSome=true/\az e (ad p 3) [aa (-1)] λe=>au e (f ())):=by kernel_rfl
theorem Zn (p:Option AB) (fr:Int) (ep:Bool) (er:Int) (el:Bool) (ef:Int) (w:A2) (c:Unit->A2->Prop):(aK M1 (λ_=>[]) 99 [ag p,aa fr,.agg ⟨[.bool ep,aa er,.bool el,aa ef]⟩] w c)=(
 aN w ⟨[.bool ep,aa er,.bool el,aa ef]⟩ 130 λb a=>aI (decide (fr>=4096)) (aA AC 60 (.bu []) [ag p,.agg ⟨[aa 0,aa 0,aa 0,aa 11]⟩] a λx a=>au a (c ())) (aj a none (af b) j_ λ(x:Bool×Int×Bool×Int×Unit)=>cM p 2 a λd=>True/\aI (!gH x.1 x.2.1 x.2.2.1 x.2.2.2.1 d) (true=true/\aU a (ad (af b) 1) λx=>aA AC 60 (.bu []) [ag p,.agg ⟨[aa fr,aa x,aa 0,aa 7]⟩] a λx a=>au a (c ())) (true=true/\aU
 a (ad (af b) 1) λx=>aA AC 60 (.bu []) [ag p,.agg ⟨[aa fr,aa x,aa 0,aa 0]⟩] a λx a=>au a (c ())))):=by kernel_rfl
theorem QC (a:Option AB) (w:A2) (b:Unit->A2->Prop):(aK M1 (λ_=>[]) 95 [ag a] w b)=(
 fZ w a λx=>aA AC 60 (.bu []) [ag x,.agg ⟨[aa 0,aa 0,aa 0,aa 4]⟩] w λx c=>au c (b ())):=by kernel_rfl
theorem QD (d a:Option AB) (w:A2) (e:Unit->A2->Prop):(aK M1 (λ_=>[]) 97 [ag d,ag a] w e)=(
 fZ w a λx=>fZ w a λb=>d.isSome=true/\aU w (ad d 3) λf=>fZ w a λg=>cM g 3 w λh=>x.isSome=true/\x.isSome=true/\az w (ad x 0) [aa f] λc=>True/\cI c a kW b/\b.isSome=true/\b.isSome=true/\az c (ad b 3) [aa (aY .i64 h 1)] λc=>au c (e ())):=by kernel_rfl
theorem QE (c a:Option AB) (w:A2) (Post:Unit->A2->Prop):(aK M1 (λ_=>[]) 98 [ag c,ag a] w Post)=(
 aj w none c (.one .ptr) λx=>a.isSome=true/\aj w none (ad a 3) (.one (.int .i64)) λ(e:Int)=>aj w none c (.one .ptr) λd=>d.isSome=true/\d.isSome=true/\aj w none (ad d 1) (.one (.int .i64)) λ(f:Int)=>True/\fS 1≠0/\aj w none a (.agg [.bool,.int .i64,.bool,.int .i64]) λ(b:Bool×Int×Bool×Int×Unit)=>aA AC 99 (.bu []) [ag x,aa (aJ .i64 e (eZ f (fS 1))),.agg ⟨[.bool b.1,aa b.2.1,.bool b.2.2.1,aa b.2.2.2.1]⟩] w λx g=>au g λw1=>Post () w1)
 :=by kernel_rfl
theorem QF (c a:Option AB) (w:A2) (d:Unit->A2->Prop):(aK M1 (λ_=>[]) 101 [ag c,ag a] w d)=(
 fZ w c λx=>a.isSome=true/\aU w (ad a 3) λe=>aj w none a j_ λ(b:Bool×Int×Bool×Int×Unit)=>aA AC 99 (.bu []) [ag x,aa e,.agg ⟨[.bool b.1,aa b.2.1,.bool b.2.2.1,aa b.2.2.2.1]⟩] w λx f=>au f (d ())):=by kernel_rfl
theorem QG (a:Option AB) (w:A2) (b:Unit->A2->Prop):(aK M1 (λ_=>[]) 102 [ag a] w b)=(
 fZ w a λx=>aA AC 60 (.bu []) [ag x,.agg ⟨[aa 0,aa 0,aa 0,aa 11]⟩] w λx c=>au c (b ())):=by kernel_rfl
def v7:Nat->aZ:=(λ|3=>[(56,Go.RX.El.one (Go.RX.Sc.int Ae))]| _=>[])
theorem UN (p:Option AB) (ep:Bool) (er:Int) (el:Bool) (ef:Int) (w:A2) (h:Unit->A2->Prop):(aK M3 v7 61 [ag p,.agg ⟨[.bool ep,aa er,.bool el,aa ef]⟩] w h)=(
 aN w ⟨[ag p]⟩ 40 λb a=>aN a ⟨[.bool ep,aa er,.bool el,aa ef]⟩ 130 λd a=>true=true/\s6 a (ad (af d) 0) λx=>aj a none (af d) j_ λ(c:Bool×Int×Bool×Int×Unit)=>True/\aj a (some (fO c.1 c.2.1 c.2.2.1 c.2.2.2.1)) (af b) kW λi=>(fO c.1 c.2.1 c.2.2.1 c.2.2.2.1=true->i.isSome=true)/\(fO c.1 c.2.1 c.2.2.1 c.2.2.2.1=true->i.isSome=true)/\aj a (some (fO c.1 c.2.1 c.2.2.1 c.2.2.2.1)) (ad i 3) aT λ(o:Int)=>true=true/\s6 a (ad
 (af d) 2) λf=>aj a (some f) (af b) kW λj=>(f=true->j.isSome=true)/\(f=true->j.isSome=true)/\aj a (some f) (ad j 3) aT λ(q:Int)=>true=true/\s6 a (ad (af d) 2) λe=>((!e)=true->true=true)/\aj a (some !e) (ad (af d) 1) aT λ(g:Int)=>aj a (some (!e&&decide (g>0))) (af b) kW λk=>((!e&&decide (g>0))=true->k.isSome=true)/\((!e&&decide (g>0))=true->k.isSome=true)/\aj a (some (!e&&decide (g>0))) (ad k 3) aT λ(r:Int)=>
 aN a {toList:=[.bool !x,.func (.func 95) ⟨[]⟩ {toList:=[ag (af b)]},.bool (fO c.1 c.2.1 c.2.2.1 c.2.2.2.1&&decide (o>0)),.func (.func 97) ⟨[]⟩ {toList:=[ag (af d),ag (af b)]},.bool (f&&q==1),.func (.func 98) ⟨[]⟩ {toList:=[ag (af b),ag (af d)]},.bool (!e&&decide (g>0)&&r==0),.func (.func 101) ⟨[]⟩ {toList:=[ag (af b),ag (af d)]},.bool true,.func (.func 102) ⟨[]⟩ {toList:=[ag (af b)]}]} 197 λb a=> ∃(I:Nat->Int×Unit->A2->Prop),(∃n, ∀w1,
 Ext a w1->I n (0,()) w1)/\ ∀(n:Nat) (s:Int×Unit) (w1:A2),I n s w1->aI (decide (s.1<(↑5:Int))) ((true=true/\0<=s.1/\s.1<(↑5:Int))/\aj w1 none (ad (af b) (Ap s.1*2)) (.agg [.bool,.func]) λx=>aN w1 ⟨[.bool false,T5]⟩ 197 λb a=>az a (af b) [.bool x.1,x.2.1] λa=>true=true/\s6 a (ad (af b) 0) λx=>aI x (true=true/\aj a none (ad (af b) 1) (.one .func) λx=>zZ AC x (.bu []) [] a λx a=>au a (h ())) (∀l,Ext a l-> ∃(m:Nat),m<n/\I m (aJ .i64 s.1 1,
 ()) l)) (au w1 (h ()))):=by kernel_rfl
theorem QH (p m:Option AB) (w:A2) (c:Bool->A2->Prop):(aK M1 (λ_=>[]) 22 [ag p,ag m] w c)=(
 ((!p.isNone)=true->p.isSome=true)/\((!p.isNone)=true->p.isSome=true)/\aj w (some !p.isNone) (ad p 9) rE λx=>aI (p.isNone|| !x) (au w (c false)) (cM p 3 w λx=>aI (x== -1) (au w (c true)) (∃(x:Int×Int×Int×Int×Unit),ae AC 58 [ag p] w (.agg ⟨[aa x.1,aa x.2.1,ay x.2.2.1,ay x.2.2.2.1]⟩)/\aA AC 57 (.el (.agg [.int .u64,.bool,.int .i64])) [ag m,.agg ⟨[aa x.1,aa x.2.1,ay x.2.2.1,ay x.2.2.2.1]⟩] w λ(x:Int×Bool×Int×Unit) a=>aN a ⟨[.int .u64
 0,.bool false,aa 0]⟩ 124 λb a=>az a (af b) [ay x.1,.bool x.2.1,aa x.2.2.1] λa=>fg p 8 a λx=>cM p 0 a λe=>aN a ⟨[aa e]⟩ 3 λf a=> ∀w1,Ext a w1->mz w1 3 1 8 ⟨[aa 0]⟩ (x.1,x.2.1,x.2.2) (some ⟨f,0,none⟩,1,1) λ(r:Option AB×Nat×Nat) a=>p.isSome=true/\p.isSome=true/\az a (ad p 8) [.slice r.1 r.2.1 r.2.2] λa=>true=true/\cK a (ad (af b) 0) λx=>U (B x)=x/\aN a ⟨[.bool false,aa 0,.bool false,aa 0]⟩ 130 λd a=>az a (af d) [.bool (Ic
 (B x).toNat),aa (FA (B x).toNat),.bool (JY (B x).toNat),aa (Fj (B x).toNat)] λa=>((!!uG (B x).toNat)=true->true=true)/\aj a (some !!uG (B x).toNat) (ad (af b) 2) aT λ(g:Int)=>aI (!uG (B x).toNat||g != 0) (aA AC 60 (.bu []) [ag p,.agg ⟨[aa 0,aa 0,aa 0,aa 11]⟩] a λx a=>au a (c true)) (aj a none (af d) j_ λ(x:Bool×Int×Bool×Int×Unit)=>aA AC 61 (.bu []) [ag p,.agg ⟨[.bool x.1,aa x.2.1,.bool x.2.2.1,aa x.2.2.2.1]⟩] a λx a=>
 cM p 3 a λx=>au a (c (x== -1)))))):=by kernel_rfl
theorem UO (p:Option AB) (w:A2) (c:(Int×Int×Int×Int×Unit)×Bool×Unit->A2->Prop):(bQ M1 (λ_=>[]) 24 [ag p] w c)=(
 aN w ⟨[aa 0,aa 0,aa 0,aa 0]⟩ 48 λb a=>((!p.isNone)=true->p.isSome=true)/\((!p.isNone)=true->p.isSome=true)/\aj a (some !p.isNone) (ad p 9) rE λx=>((!(p.isNone|| !x))=true->p.isSome=true)/\((!(p.isNone|| !x))=true->p.isSome=true)/\aj a (some !(p.isNone|| !x)) (ad p 3) aT λ(d:Int)=>aI (p.isNone|| !x||d != -1) (az a (af b) [aa 0,aa 0,aa 0,aa 0] λa=>au a λw1=>aj w1 none (af b) dS λ(x:Int×Int×Int×Int×Unit)=>c ((x.1,x.2.1,x.2.2.1,
 x.2.2.2.1,()),false,()) w1) (p.isSome=true/\p.isSome=true/\aj a none (ad p 4) dS λ(x:Int×Int×Int×Int×Unit)=>az a (af b) [aa x.1,aa x.2.1,aa x.2.2.1,aa x.2.2.2.1] λa=>au a λw1=>aj w1 none (af b) dS λ(x:Int×Int×Int×Int×Unit)=>c ((x.1,x.2.1,x.2.2.1,x.2.2.2.1,()),true,()) w1)):=by kernel_rfl
def v8:Nat->aZ:=(λ|4=>[]| _=>[])
theorem UP (m:Option AB) (f p t:Int) (w:A2) (c:(Int×Int×Int×Int×Unit)->A2->Prop):(bQ M1 v8 223 [ag m,aa f,aa p,aa t] w c)=(
 aN w ⟨[aa 0,aa 0,aa 0,aa 0]⟩ 48 λb a=>aA AC 20 (.el kW) [aa f,aa p,aa t] a λx a=>aI x.isNone (az a (af b) [aa 0,aa 0,aa 0,aa 1] λa=>au a λw1=>aj w1 none (af b) dS λ(x:Int×Int×Int×Int×Unit)=>c (x.1,x.2.1,x.2.2.1,x.2.2.2.1,()) w1) (∃(I:Nat->Unit->A2->Prop),(∃n, ∀w1,Ext a w1->I n () w1)/\ ∀(n:Nat) (s:Unit) (w1:A2),I n s w1->aA AC 22 (.el rE) [ag x,ag m] w1 λg a=>aI (!g) (∀
 d,Ext a d-> ∃(e:Nat),e<n/\I e () d) (x.isSome=true/\x.isSome=true/\aj a none (ad x 4) dS λ(x:Int×Int×Int×Int×Unit)=>az a (af b) [aa x.1,aa x.2.1,aa x.2.2.1,aa x.2.2.2.1] λa=>au a λw1=>aj w1 none (af b) dS λ(x:Int×Int×Int×Int×Unit)=>c (x.1,x.2.1,x.2.2.1,x.2.2.2.1,()) w1))):=by kernel_rfl
abbrev FT:Type:=Int×Int×Int×Int×Unit
abbrev lO (fr pg wt lv:Int) (fd:FT) (s:Option AB×Nat×Nat):List AF:=
 [aa fr,aa pg,aa wt,aa lv,aa fd.1,aa fd.2.1,aa fd.2.2.1,aa fd.2.2.2.1,.slice s.1 s.2.1 s.2.2,.bool true]
def wW (lv e:Int):FT:=(0,0,lv,e,())
def xX (lv wt fr:Int) (ep:Bool) (er:Int) (el:Bool) (ef:Int):FT:=if fr>=4096 then(0,0,lv,11,()) else if gH ep er el ef wt then(fr,er,lv,0,()) else(fr,er,lv,7,())
theorem xA {w:A2} {r:Nat} {k:IntKind} {n:Int} {val:AF} {es:Array B2} {a:Nat} {K:A2->Prop} (h:GS (.int k) (.int k n) es.toList 0=some none)
 (b:K (w.putObj r (.map (es.push {key:= .int k n,val,born:=a}) (a+1)))):gR w r k n val es a K:=by
 unfold gR;rw[h];exact b
section
variable {D G:List Nat} {w0 w:A2} {L:List (Nat×List AF)} {bm bw n c:Nat} {ca la:Int} {ws:List Int} {rest:List AF}
theorem QI (H:aL D G w0 w L) (j d:Nat) (f:L[j]? =some (bm,lT bw n c ca la)) (g:L[d]? =some (bw,flat eW ws++rest)) (m:j≠d) (h:n=ws.length) (h0:0<n) (kd i a b:Int) {K:RT->A2->Prop}
 (k: ∀e,aL D G w0 e (L.set j (bm,lT bw n c (wO ws i ca) la))->K (dC ws i,false,BT ws i,()) e):
 aC AC 89 (.el (.agg sR)) [.agg ⟨[aa kd,aa i,ay a,ay b]⟩,ag (af bm)] w K:=by
 refine aR (C:=M1) (aQ:=λ_=>[]) (AG (QA kd i a b _ w K) ?_);refine aN.go H λo e H=>aN.go H λp q H=>⟨rfl,aj.cv 1 H rfl rfl ?_⟩;refine D9 H (j+2) (d+2) f g (by omega) h h0 i λr H=>?_;refine az.all 0 H rfl rfl rfl λs H=>au.go H λl H=>aj.at 0 H rfl rfl (k l ?_);exact(H.sub (Dr _ _)).sub (Dr _ _)
theorem u7 (H:aL D G w0 w L) {r:Nat} {es:Array B2} {a:Nat} (f:w0.heap.size<=r) (g:r∉D) (b:bF w r es a) {n:Int} {val:AF} {K:A2->Prop} (h:GS (.int .i64) (aa n) es.toList 0=some none)
 (k: ∀c,aL D G w0 c L->bF c r (es.push {key:=aa n,val,born:=a}) (a+1)->K c):
 ∃r' d e,some r=some r'/\bF w r' d e/\gR w r' .i64 n val d e K:=
 ⟨r,es,a,rfl,b,xA h (k _ (H.putObj f b (λ_ _ _ hc=>by cases hc) g) (jY (Dh.1 b).1))⟩
theorem aa4 (H:aL D G w0 w L) (q:D=[]) (j f:Nat) (r:L[j]? =some (bm,lT bw n c ca la)) (s:L[f]? =some (bw,flat eW ws++rest)) (E:j≠f) (t:n=ws.length) (h0:0<n) (i a b:Int) {K:RT->A2->Prop}
 (k: ∀g,aL D G w0 g (L.set j (bm,lT bw n c (wO ws i ca) la))->K (dC ws i,false,BT ws i,()) g):
 aA AC 57 (.el (.agg sR)) [ag (af bm),.agg ⟨[aa 1,aa i,ay a,ay b]⟩] w K:=by
 subst q;refine aA.go H λw1 H=>aR (C:=M2) (aQ:=λ_=>[]) (AG (aa3 _ 1 i a b w1 K) ?_);refine aN.go H λF g H=>aN.go H λI J H=>λd h u l=>?_;have H:=(((H.ext h).rP (.map ⟨[]⟩ 0)).ext l);have e:w0.heap.size<=d.heap.size:=by have:=(aL.ext (w1:=d) (by assumption) h:aL [] G w0 d _).fr.size;exact this
 have m0:bF u d.heap.size ⟨[]⟩ 0:=l.obj (fB d _);refine u7 H e (by simp) m0 rfl λM H v N m=>?_;refine u7 (H.ext m) e (by simp) (m.obj v) rfl λO H x P o=>?_;refine u7 (H.ext o) e (by simp) (o.obj x) rfl λQ H y R p=>?_;refine u7 (H.ext p) e (by simp) (p.obj y) rfl λS H z=>?_;refine⟨rfl,aj.cv 1 H rfl rfl ⟨.func (.func 89) #[] #[],true,⟨_, _, _,rfl,z,?_⟩,an rfl (aj.at 1 H rfl rfl ?_)⟩⟩
 ·exact⟨rfl,rfl⟩
 ·unfold zZ;refine λT A=>⟨_, #[], #[],rfl,by kernel_rfl,?_⟩;refine QI (H.ext A) (j+2) (f+2) r s (by omega) t h0 1 i a b λU H=>?_;refine az.all 0 H rfl rfl rfl λV H=>au.go H λB H=>aj.at 0 H rfl rfl (k B ?_);exact(H.sub (Dr _ _)).sub (Dr _ _)
end
section
variable {D G:List Nat} {w0 w:A2} {L:List (Nat×List AF)} {bk:Nat} {fr pg wt lv:Int} {fd:FT} {s:Option AB×Nat×Nat}
theorem pV (H:aL D G w0 w L) (j:Nat) (d:L[j]? =some (bk,lO fr pg wt lv fd s)) (x1 a f c:Int) {K:Unit->A2->Prop}
 (k: ∀g,aL D G w0 g (L.set j (bk,lO fr pg wt (-1) (x1,a,lv,c,()) s))->K () g):
 aA AC 60 (.bu []) [ag (af bk),.agg ⟨[aa x1,aa a,aa f,aa c]⟩] w K:=by
 refine aA.go H λw1 H=>ai (C:=M1) (aQ:=λ_=>[]) (AG (UM _ x1 a f c w1 K) ?_);have h:j<L.length:=(Bs.1 d).1;refine aN.go H λb g H=>?_;have i:((b,[aa x1,aa a,aa f,aa c])::L)[j+1]? =some (bk,lO fr pg wt lv fd s):=d;refine⟨rfl,rfl,aj.cv (j+1) H i rfl ⟨rfl,az.e8 0 H rfl rfl rfl λm H=>aj.at 0 H rfl rfl ⟨rfl,rfl,?_⟩⟩⟩;rw[aW,aW];refine az.at (j+1) H d rfl (Nat.le_of_ble_eq_true rfl) λn H=>⟨rfl,rfl,?_⟩;refine az.one (j+1) H (Fh (Nat.succ_lt_succ h)) rfl rfl λo H=>au.go H λl H=>k l ?_;have H:=H.sub (Dr _ _);have e:(L.set j (bk,lO fr pg wt lv (x1,a,lv,c,()) s)).set j (bk,lO fr pg wt (-1) (x1,a,lv,c,()) s)=L.set j (bk,lO fr pg wt (-1) (x1,a,lv,c,()) s):=List.set_set ..;rw[<-e];exact H
theorem O_ (H:aL D G w0 w L) (j:Nat) (i:L[j]? =some (bk,lO fr pg wt lv fd s)) (f:Int) (ep:Bool) (er:Int) (el:Bool) (ef:Int) {K:Unit->A2->Prop}
 (k: ∀g,aL D G w0 g (L.set j (bk,lO fr pg wt (-1) (xX lv wt f ep er el ef) s))->K () g):
 aA AC 99 (.bu []) [ag (af bk),aa f,.agg ⟨[.bool ep,aa er,.bool el,aa ef]⟩] w K:=by
 refine aA.go H λw1 H=>ai (C:=M1) (aQ:=λ_=>[]) (AG (Zn _ f ep er el ef w1 K) ?_);refine aN.go H λb g H=>?_;have d:((b,[Aq ep,aa er,.bool el,aa ef])::L)[j+1]? =some (bk,lO fr pg wt lv fd s):=i;refine ab (λc=>?_) (λc=>aj.at 0 H rfl rfl ⟨rfl,rfl,aj.cv (j+1) H d rfl ⟨trivial,ab (λc2=>?_) (λc2=>?_)⟩⟩)
 ·refine pV H (j+1) d 0 0 0 11 λh H=>au.go H λa H=>k a ?_;have e:xX lv wt f ep er el ef=(0,0,lv,11,()):=av (of_decide_eq_true c);rw[e];exact H.sub (Dr _ _)
 ·refine⟨rfl,aj.cv 0 H rfl rfl (pV H (j+1) d f er 0 7 λh H=>au.go H λa H=>k a ?_)⟩;have e:xX lv wt f ep er el ef=(f,er,lv,7,()):=by
   have c3:gH ep er el ef wt=false:=by simpa using c2
   unfold xX;rw[ao (of_decide_eq_false c),c3];rfl
  rw[e];exact H.sub (Dr _ _)
 ·refine⟨rfl,aj.cv 0 H rfl rfl (pV H (j+1) d f er 0 0 λh H=>au.go H λa H=>k a ?_)⟩;have e:xX lv wt f ep er el ef=(f,er,lv,0,()):=by
   have c3:gH ep er el ef wt=true:=by simpa using c2
   unfold xX;rw[ao (of_decide_eq_false c),av c3]
  rw[e];exact H.sub (Dr _ _)
end
end Go.Proofs.YtlcenllcmeebhaaGreat
