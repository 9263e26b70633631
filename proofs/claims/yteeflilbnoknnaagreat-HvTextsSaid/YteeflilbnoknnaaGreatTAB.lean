import Derived.Test.YteeflilbnoknnaaGreatTAA
/-! What the statement leans on: texts joined and shortened by a program of mine. -/
set_option linter.unusedVariables false
set_option linter.unusedSimpArgs false
open Go renaming World->A1,Value->A3,Addr->A9,Program->Bg,FuncId->DA,TypeId->ED,MapEntry->Et
open Go.Proofs.Tryz renaming prog->A2
open Eq renaming mpr->A_
open Go.Value renaming bool->AC,int->Dn,nilFunc->Hu
open List renaming mem_map->AX,sublist_cons_self->B2,append_assoc->B4,mem_cons->B5,mem_cons_of_mem->BA,nodup_cons->Bb,getElem?_eq_getElem->Bd,getElem?_eq_some_iff->Bo,getElem?_set_ne->Bp,mem_singleton->Bq,mem_append_left->Br,mem_append_right->C7,getElem?_set_self->DB,map_cons->DS,mem_append->Do,getElem?_map->E5,ext_getElem?->EE,replicate->EF,length_append->Ev,mem_of_getElem?->H5,map_append->H6,getD_eq_getElem?_getD->H7,getElem?_eq_none->HH,nodup_nil->HL,append_nil->HO,getElem?_append_left->HP,take_append_of_le_length->HQ,take_of_length_le->HT,nodup_append->Hb,perm_middle->Hc,range->Hf,mem_range->Ho,take_zero->Hz,nil_append->I1,take_append_drop->I2,getElem?_append_right->I_,perm_append_comm->IG,length_cons->IR,length_nil->Ia,set_set->Ib,drop_eq_nil_of_le->L9,getElem?_of_mem->L_,mem_or_eq_of_mem_set->LL,getElem?_take_of_lt->LZ,drop_length->Lr,length_singleton->M4,set_eq_take_append_cons_drop->M5,flatMap_cons->MD,filter_cons->MH,find?_range_eq_some->MI
open Go.IntKind renaming i64->B1,u64->EH
open Nat renaming zero_add->B3,le_trans->Di,le_refl->E4,add_mul->Eo,zero_le->Ey,mul_one->Hq,lt_of_lt_of_le->Ic,blt_eq->Ih,zero_mul->In,testBit_mod_two_pow->Ix,mod_eq_of_lt->MJ,eq_of_testBit_eq->MU
open Int renaming toNat->Bc,toNat_natCast->J3,tdiv_eq_ediv_of_nonneg->Mr,tmod_eq_emod_of_nonneg->Ms,emod_nonneg->My,emod_lt_of_pos->Mz,ediv_nonneg->O0
open Bool renaming or_eq_true->EA,or_eq_false_iff->EB,and_eq_true->FS,eq_iff_iff->GS,true_and->Gi,not_eq_true'->Hr,and_comm->K1,and_eq_false_iff->K2,false_and->O1,not_eq_false'->O2
open Array renaming getElem?_eq_some_iff->Es
open And renaming intro->H2
open BitVec renaming testBit_toNat->H4,eq_of_getLsbD_eq->H9,getLsbD_and->HB,getLsbD_ushiftRight->Ht,getLsbD_shiftLeft->L7,allOnes->O3,getLsbD_or->OS,getLsbD_of_ge->OY
open List.Perm renaming trans->P0,append_right->P1
namespace Go.Proofs.YteeflilbnoknnaaGreat
set_option maxRecDepth 100000
open Go.RX
def bX (lo sz:Int):Bool:=decide (lo>=0)&&decide (lo<64)&&decide (sz>=1)&&decide (sz<=64 - lo)
theorem fL {lo sz:Int}:bX lo sz=true<->0<=lo/\lo<64/\1<=sz/\sz<=64 - lo:=by
 simp only[bX,FS,decide_eq_true_eq];omega
def Mk (lo n:Nat):BitVec 64:=(O3 64 >>> (64 - n)) <<< lo
theorem ug {lo n j:Nat} (c:n<=64):(Mk lo n).getLsbD j=(decide (lo<=j)&&decide (j<lo+n)&&decide (j<64)):=by
 unfold Mk;rw[L7,Ht,BitVec.getLsbD_allOnes];by_cases a:j<64<;>by_cases h2:lo<=j<;>by_cases b:j<lo+n<;>simp[a,h2,b]<;>omega
def fe (lo sz:Int):BitVec 64:=if bX lo sz=true then Mk lo.toNat sz.toNat else 0#64
def c_ (w:BitVec 64) (lo sz:Int):BitVec 64:=(w &&& fe lo sz) >>> (zl 0 (iO lo 63)).toNat
def oU (w:BitVec 64) (lo sz:Int) (v:BitVec 64):BitVec 64:=if fe lo sz=0#64 then w else w &&& ~~~ fe lo sz ||| v <<< lo.toNat &&& fe lo sz
theorem B_ {lo sz:Int} (h:bX lo sz=true):zk .u64 (Be .u64 18446744073709551615 (bK .i64 64 sz)) lo=U (fe lo sz):=by
 have h':=fL.1 h;rw[show(18446744073709551615:Int)=U (O3 64) from rfl,IL,IK,bU (by omega) (by omega)];unfold fe Mk;rw[if_pos h];congr 4;omega
theorem JA {lo sz:Int} (h:bX lo sz=true):fe lo sz≠0#64:=by
 intro h0;have h':=fL.1 h;have:=congrArg (λb=>b.getLsbD lo.toNat) h0;simp only[fe,if_pos h] at this;rw[ug (by omega)] at this;simp at this;omega
theorem oy {lo sz:Int} (h:bX lo sz=false):fe lo sz=0#64:=by simp[fe,h]
def tD (i:Nat):BitVec 64:=1#64 <<< i
theorem z_ (i j:Nat):(tD i).getLsbD j=(decide (i=j)&&decide (j<64)):=by
 unfold tD;rw[L7,BitVec.getLsbD_one];by_cases a:j<64<;>by_cases h2:i=j<;>simp[a,h2]<;>omega
theorem ES (i:Nat):2#64*tD i=tD (i+1):=by
 unfold tD;rw[BitVec.shiftLeft_add];apply BitVec.eq_of_toNat_eq;simp[BitVec.toNat_shiftLeft,Nat.shiftLeft_eq];omega
theorem half (w:BitVec 64):nh .u64 (U w) 2=U (w >>> 1):=by
 unfold nh;rw[wrap_u64];unfold U;rw[BitVec.toNat_ushiftRight,Nat.shiftRight_eq_div_pow,Mr (by omega)];have:=w.isLt;omega
theorem ZP (w:BitVec 64):(gu (U w) 2==1)=w.getLsbD 0:=by
 unfold gu U;rw[Ms (by omega),BitVec.getLsbD,Nat.testBit_zero];have:((w.toNat:Int) % 2==1)=decide (w.toNat % 2=1):=by
  by_cases h:w.toNat % 2=1<;>simp[h]<;>omega
 rw[this]
theorem MV (lo:Nat):Mk lo 0=0#64:=by
 apply H9;intro j a;rw[ug (by omega)];simp;omega
def Gk (w:BitVec 64) (lo k:Nat):BitVec 64:=(w >>> lo) &&& Mk 0 k
theorem MW (w:BitVec 64) (lo:Nat):Gk w lo 0=0#64:=by simp[Gk,MV]
theorem od {w:BitVec 64} {lo k j:Nat} (a:k<=64):(Gk w lo k).getLsbD j=(w.getLsbD (lo+j)&&decide (j<k)):=by
 unfold Gk;rw[HB,Ht,ug a];by_cases h:j<k<;>simp[h];omega
theorem Q_ {w:BitVec 64} {lo k:Nat} (h:lo+k<64) (hb:w.getLsbD (lo+k)=true):Gk w lo k+tD k=Gk w lo (k+1):=by
 rw[BitVec.add_eq_or_of_and_eq_zero]
 ·apply H9;intro j b;rw[OS,od (by omega),od (by omega),z_];simp only[b,decide_true,Bool.and_true];by_cases a:k=j
  ·subst a;simp[hb]
  ·have:(j<k+1)=(j<k):=by apply propext;omega
   simp[a,this]
 ·apply H9;intro j b;rw[HB,od (by omega),z_];by_cases a:k=j<;>simp[a]
theorem MX {w:BitVec 64} {lo k:Nat} (h:lo+k<64) (hb:w.getLsbD (lo+k)=false):Gk w lo k=Gk w lo (k+1):=by
 apply H9;intro j b;rw[od (by omega),od (by omega)];by_cases a:k=j
 ·subst a;simp[hb]
 ·have:(j<k+1)=(j<k):=by apply propext;omega
  simp[this]
def Pk (w v:BitVec 64) (lo k:Nat):BitVec 64:=w &&& ~~~ Mk lo k ||| v <<< lo &&& Mk lo k
theorem Ra {w v:BitVec 64} {lo k j:Nat} (a:k<=64) (b:j<64):(Pk w v lo k).getLsbD j=if lo<=j/\j<lo+k then v.getLsbD (j - lo) else w.getLsbD j:=by
 unfold Pk;rw[OS,HB,HB,BitVec.getLsbD_not,L7,ug a];by_cases c:lo<=j<;>by_cases h2:j<lo+k<;>simp[c,h2,b]
 all_goals omega
theorem Dx {w:BitVec 64} {lo sz:Int} (h:bX lo sz=true):c_ w lo sz=Gk w lo.toNat sz.toNat:=by
 have h':=fL.1 h;unfold c_ fe;rw[if_pos h];have e:(zl 0 (iO lo 63)).toNat=lo.toNat:=by unfold zl iO;split<;>split<;>omega
 rw[e];apply H9;intro j b;rw[od (by omega),Ht,HB,ug (by omega)];by_cases a:lo.toNat+j<64
 ·by_cases h2:j<sz.toNat<;>simp[a,h2]
 ·rw[OY w _ (by omega)];simp
theorem EU {w:BitVec 64} {lo sz:Int} (h:bX lo sz=false):c_ w lo sz=0#64:=by
 unfold c_;rw[oy h];simp
theorem MY {w v:BitVec 64} {lo sz:Int} (h:bX lo sz=true):oU w lo sz v=Pk w v lo.toNat sz.toNat:=by
 unfold oU Pk;rw[if_neg (JA h)];simp only[fe,if_pos h]
theorem mx:A2.follows .mixedOrders=true:=by kernel_rfl
noncomputable def C0:dn A2:={oG:=[],quiet:=[],sh:=[],mixed:=mx}
theorem MZ (low size:Int) (w:A1) (a:Bool->A1->Prop):(aJ C0 (λ_=>[]) 367 [.int .i64 low,.int .i64 size] w a)=(
 ak w (a (decide (low>=0)&&decide (low<64)&&decide (size>=1)&&decide (size<=bK .i64 64 low)))):=by kernel_rfl
theorem Ut (low size:Int) (w:A1) (a:Bool->A1->Prop):(aJ C0 (λ_=>[]) 359 [.int .i64 low,.int .i64 size] w a)=(
 ak w (a (decide (low>=0)&&decide (low<64)&&decide (size>=1)&&decide (size<=64)&&decide (aC .i64 low size<=64)))):=by kernel_rfl
def u5:Nat->aV:=(λ|2=>[(0,Go.RX.El.one (Go.RX.Sc.int EH)),(5,Go.RX.El.one (Go.RX.Sc.int B1))]| _=>[])
theorem Rb (v i:Int) (w:A1) (a:Bool->A1->Prop):(aJ C0 u5 360 [.int .u64 v,.int .i64 i] w a)=(
 ∃(I:Nat->Int×Int×Unit->A1->Prop),(∃n, ∀w1,Ext w w1->I n (v,0,()) w1)/\ ∀(n:Nat) (s:Int×Int×Unit) (w1:A1),I n s w1->aF (decide (s.2.1<i)) (∀b,Ext w1 b-> ∃(c:Nat),c<n/\I c (nh .u64 s.1 2,aC .i64 s.2.1 1,()) b) (ak w1 (a (gu s.1 2==1)))):=by kernel_rfl
def u6:Nat->aV:=(λ|3=>[(3,Go.RX.El.one (Go.RX.Sc.int EH)),(4,Go.RX.El.one (Go.RX.Sc.int B1))]| _=>[])
theorem Re (i:Int) (w:A1) (a:Int->A1->Prop):(aJ C0 u6 361 [.int .i64 i] w a)=(
 ∃(I:Nat->Int×Int×Unit->A1->Prop),(∃n, ∀w1,Ext w w1->I n (1,0,()) w1)/\ ∀(n:Nat) (s:Int×Int×Unit) (w1:A1),I n s w1->aF (decide (s.2.1<i)) (∀b,Ext w1 b-> ∃(c:Nat),c<n/\I c (dO .u64 2 s.1,aC .i64 s.2.1 1,()) b) (ak w1 (a s.1))):=by kernel_rfl
theorem JB (lo sz:Int):(decide (lo>=0)&&decide (lo<64)&&decide (sz>=1)&&decide (sz<=bK .i64 64 lo))=bX lo sz:=by
 unfold bX;by_cases h:0<=lo/\lo<64
 ·rw[bU (by omega) (by omega)]
 ·by_cases a:lo>=0<;>by_cases h2:lo<64<;>simp[a,h2]<;>omega
noncomputable def o_:Entry A2 where
 f:=367
 fn l:=match l with
  |[.int .i64 lo,.int .i64 sz]=>some (True,.bool (bX lo sz))
  | _=>none
 ok args pre v h _ w:=by
  split at h
  ·rename_i lo sz;cases h;refine aS (x:=bX lo sz) (ai (C:=C0) (aM:=λ_=>[]) (A_ (MZ lo sz w _) λw1 a=>⟨JB lo sz,a⟩))
  ·cases h
theorem Rf (lo sz:Int):(decide (lo>=0)&&decide (lo<64)&&decide (sz>=1)&&decide (sz<=64)&&decide (aC .i64 lo sz<=64))=bX lo sz:=by
 unfold bX;by_cases h:0<=lo/\lo<64/\1<=sz/\sz<=64
 ·rw[av (by omega) (by omega)];obtain⟨a,h2,b,c⟩:=h;simp[a,h2,b,c];omega
 ·by_cases a:lo>=0<;>by_cases h2:lo<64<;>by_cases b:sz>=1<;>by_cases c:sz<=64<;>simp[a,h2,b,c]<;>omega
noncomputable def Mj:Entry A2 where
 f:=359
 fn l:=match l with
  |[.int .i64 lo,.int .i64 sz]=>some (True,.bool (bX lo sz))
  | _=>none
 ok args pre v h _ w:=by
  split at h
  ·rename_i lo sz;cases h;refine aS (x:=bX lo sz) (ai (C:=C0) (aM:=λ_=>[]) (A_ (Ut lo sz w _) λw1 a=>⟨Rf lo sz,a⟩))
  ·cases h
theorem Rh (b:BitVec 64) (i:Int) (hi:i<=64) (w:A1):ar A2 360 (.el (.one .bool)) [.int .u64 (U b),.int .i64 i] w (λx w'=>x=b.getLsbD i.toNat/\Ext w w'):=by
 refine ai (C:=C0) (aM:=u5) (A_ (Rb (U b) i w _) ?_);refine⟨λn s w'=>Ext w w'/\ ∃k:Nat,s.2.1=k/\n+k=i.toNat/\s.1=U (b >>> k),⟨i.toNat,λw1 e=>⟨e,0,rfl,rfl,by simp⟩⟩,?_⟩;rintro n ⟨x,j,u⟩ w1 ⟨a,k,c,g,d⟩;simp only at c d;subst c;subst d;dsimp only;refine ab (λh=>?_) (λh=>?_)
 ·simp only[decide_eq_true_eq] at h;intro l f;refine⟨n - 1,by omega,a.trans f,k+1,?_,by omega,?_⟩
  ·show aC _ _ _= _;rw[av (by omega) (by omega)];rfl
  ·show nh .u64 _ 2= _;rw[half,BitVec.shiftRight_add]
 ·simp only[decide_eq_false_iff_not] at h;intro m h2;refine⟨?_,a.trans h2⟩;show(gu _ 2==1)= _;rw[ZP];simp only[Ht,Nat.add_zero];congr 1;omega
noncomputable def xS:Entry A2 where
 f:=360
 fn l:=match l with
  |[.int .u64 b,.int .i64 i]=>some (U (B b)=b/\i<=64,.bool ((B b).getLsbD i.toNat))
  | _=>none
 ok args pre v h a w:=by
  split at h
  ·rename_i b i;cases h;obtain⟨c,h2⟩:=a;have:=aS (Rh (B b) i h2 w);rw[c] at this;exact this
  ·cases h
theorem Ri (i:Int) (hi:i<=64) (w:A1):ar A2 361 (.el (.one (.int .u64))) [.int .i64 i] w (λx w'=>x=U (tD i.toNat)/\Ext w w'):=by
 refine ai (C:=C0) (aM:=u6) (A_ (Re i w _) ?_);refine⟨λn s w'=>Ext w w'/\ ∃k:Nat,s.2.1=k/\n+k=i.toNat/\s.1=U (tD k),⟨i.toNat,λw1 d=>⟨d,0,rfl,rfl,rfl⟩⟩,?_⟩;rintro n ⟨x,j,u⟩ w1 ⟨a,k,b,f,c⟩;simp only at b c;subst b;subst c;dsimp only;refine ab (λh=>?_) (λh=>?_)
 ·simp only[decide_eq_true_eq] at h;intro g e;refine⟨n - 1,by omega,a.trans e,k+1,?_,by omega,?_⟩
  ·show aC _ _ _= _;rw[av (by omega) (by omega)];rfl
  ·show dO .u64 2 _= _;rw[show(2:Int)=U 2#64 from rfl,Q9,ES]
 ·simp only[decide_eq_false_iff_not] at h;intro l h2;refine⟨?_,a.trans h2⟩;show U (tD k)= _;congr 2;omega
noncomputable def xT:Entry A2 where
 f:=361
 fn l:=match l with
  |[.int .i64 i]=>some (i<=64,.int .u64 (U (tD i.toNat)))
  | _=>none
 ok args pre v h a w:=by
  split at h
  ·rename_i i;cases h;exact aS (Ri i a w)
  ·cases h
noncomputable def C1:dn A2:={C0 with oG:=[o_,Mj,xS,xT]}
theorem M6 (low size:Int) (w:A1) (a:Int->A1->Prop):(aJ C1 (λ_=>[]) 372 [.int .i64 low,.int .i64 size] w a)=(
 True/\aF (!bX low size) (ak w (a 0)) (0<=bK .i64 64 size/\0<=low/\ak w λw1=>a (zk .u64 (Be .u64 18446744073709551615 (bK .i64 64 size)) low) w1)):=by kernel_rfl
def rT:Nat->aV:=(λ|3=>[(7,Go.RX.El.one (Go.RX.Sc.int EH)),(8,Go.RX.El.one (Go.RX.Sc.int B1))]| _=>[])
theorem M7 (v low size:Int) (w:A1) (Post:Int->A1->Prop):(aJ C1 rT 329 [.int .u64 v,.int .i64 low,.int .i64 size] w Post)=(
 ∃(I:Nat->Int×Int×Unit->A1->Prop),(∃n, ∀w1,Ext w w1->I n (0,0,()) w1)/\ ∀(n:Nat) (s:Int×Int×Unit) (w1:A1),I n s w1->(decide (s.2.1<size)=true->True)/\aF (decide (s.2.1<size)&&bX low size) ((U (B v)=v/\aC .i64 low s.2.1<=64)/\aF ((B v).getLsbD (aC .i64 low s.2.1).toNat) (s.2.1<=64/\ ∀a,Ext w1 a-> ∃(b:Nat),b<n/\I b (aC .u64 s.1 (U (tD (Bc s.2.1))),aC .i64 s.2.1 1,()) a) (∀a,Ext w1 a-> ∃(b:Nat),b<n/\I b (s.1,aC .i64 s.2.1 1,()) a)) (ak w1 λw1=>Post s.1 w1)):=
 by kernel_rfl
theorem M8 (lo sz:Int) (w:A1):ar A2 372 (.el (.one (.int .u64))) [.int .i64 lo,.int .i64 sz] w (λx w'=>x=U (fe lo sz)/\Ext w w'):=by
 refine ai (C:=C1) (aM:=λ_=>[]) (A_ (M6 lo sz w _) ⟨trivial,?_⟩);refine ab (λh=>?_) (λh=>?_)
 ·intro w1 a;refine⟨?_,a⟩;rw[oy (by simpa using h)];rfl
 ·have h':bX lo sz=true:=by simpa using h
  have h2:=fL.1 h';refine⟨by rw[bU (by omega) (by omega)];omega,h2.1,λw1 a=>⟨B_ h',a⟩⟩
noncomputable def rB:Entry A2 where
 f:=372
 fn l:=match l with
  |[.int .i64 lo,.int .i64 sz]=>some (True,.int .u64 (U (fe lo sz)))
  | _=>none
 ok args pre v h a w:=by
  split at h
  ·rename_i lo sz;cases h;exact aS (M8 lo sz w)
  ·cases h
theorem upto {lo sz:Int} (k:Nat) (h:(decide ((k:Int)<sz)&&bX lo sz)=true):bX lo sz=true/\lo.toNat+k<64/\k<sz.toNat/\aC .i64 lo (k:Int)=((lo.toNat+k:Nat):Int)/\aC .i64 (k:Int) 1=((k+1:Nat):Int):=by
 simp only[FS,decide_eq_true_eq] at h;obtain⟨a,h2⟩:=h;have b:=fL.1 h2;refine⟨h2,by omega,by omega,?_,?_⟩
 ·rw[av (by omega) (by omega)];omega
 ·rw[av (by omega) (by omega)];omega
theorem JC {lo sz:Int} {k:Nat} (b:k<=sz.toNat) (h:(decide ((k:Int)<sz)&&bX lo sz)=false) (a:bX lo sz=true):k=sz.toNat:=by
 simp only[a,Bool.and_true,decide_eq_false_iff_not] at h;omega
theorem M9 (v:BitVec 64) (lo sz:Int) (w:A1):ar A2 329 (.el (.one (.int .u64))) [.int .u64 (U v),.int .i64 lo,.int .i64 sz] w (λx w'=>x=U (c_ v lo sz)/\Ext w w'):=by
 refine ai (C:=C1) (aM:=rT) (A_ (M7 (U v) lo sz w _) ?_);refine⟨λn s w'=>Ext w w'/\ ∃k:Nat,s.2.1=k/\n+k=sz.toNat/\s.1=U (if bX lo sz=true then Gk v lo.toNat k else 0#64),⟨sz.toNat,λw1 b=>⟨b,0,rfl,rfl,by rw[MW];simp;rfl⟩⟩,?_⟩;rintro n ⟨x,j,u⟩ w1 ⟨c,k,e,m,f⟩;simp only at e f;subst e;subst f;dsimp only;refine⟨λ_=>trivial,ab (λh=>?_) (λh=>?_)⟩
 ·obtain⟨a,b,h2,i,g⟩:=upto k h;rw[if_pos a,i,tq];refine⟨⟨rfl,by omega⟩,ab (λhb=>⟨by omega,λl d=>⟨n - 1,by omega,c.trans d,k+1,g,by omega,?_⟩⟩) (λhb=>λl d=>⟨n - 1,by omega,c.trans d,k+1,g,by omega,?_⟩)⟩
  ·show aC .u64 _ _= _;rw[Q8,if_pos a,J3,Q_ b (by rw[J3] at hb;exact hb)]
  ·show U _= _;rw[if_pos a,MX b (by rw[J3] at hb;exact hb)]
 ·intro o h2;refine⟨?_,c.trans h2⟩;by_cases a:bX lo sz=true
  ·rw[if_pos a,Dx a,JC (by omega) h a]
  ·rw[if_neg a,EU (by simpa using a)]
noncomputable def rC:Entry A2 where
 f:=329
 fn l:=match l with
  |[.int .u64 v,.int .i64 lo,.int .i64 sz]=>some (U (B v)=v,.int .u64 (U (c_ (B v) lo sz)))
  | _=>none
 ok args pre v h a w:=by
  split at h
  ·rename_i v lo sz;cases h;have:=aS (M9 (B v) lo sz w);rw[a] at this;exact this
  ·cases h
noncomputable def C2:dn A2:={C0 with oG:=[o_,Mj,xS,xT,rB,rC]}
theorem Rj (v low size:Int) (w:A1) (a:Int->A1->Prop):(aJ C2 (λ_=>[]) 366 [.int .u64 v,.int .i64 low,.int .i64 size] w a)=(
 True/\0<=zl 0 (iO low 63)/\ak w λw1=>a (Be .u64 (lY .u64 v (U (fe low size))) (zl 0 (iO low 63))) w1):=by kernel_rfl
theorem Rk (v low size x:Int) (w:A1) (a:Int->A1->Prop):(aJ C2 (λ_=>[]) 371 [.int .u64 v,.int .i64 low,.int .i64 size,.int .u64 x] w a)=(
 True/\aF (U (fe low size)==0) (ak w (a v)) (0<=low/\ak w λw1=>a (Pz .u64 (iV .u64 v (U (fe low size))) (lY .u64 (zk .u64 x low) (U (fe low size)))) w1)):=by kernel_rfl
theorem Rl (v:BitVec 64) (lo sz:Int) (w:A1):ar A2 366 (.el (.one (.int .u64))) [.int .u64 (U v),.int .i64 lo,.int .i64 sz] w (λx w'=>x=U (c_ v lo sz)/\Ext w w'):=by
 refine ai (C:=C2) (aM:=λ_=>[]) (A_ (Rj (U v) lo sz w _) ⟨trivial,by unfold zl;split<;>omega,λw1 a=>⟨?_,a⟩⟩);rw[IJ,IL];rfl
theorem Rm (v:BitVec 64) (lo sz:Int) (x:BitVec 64) (w:A1):ar A2 371 (.el (.one (.int .u64))) [.int .u64 (U v),.int .i64 lo,.int .i64 sz,.int .u64 (U x)] w (λy w'=>y=U (oU v lo sz x)/\Ext w w'):=by
 refine ai (C:=C2) (aM:=λ_=>[]) (A_ (Rk (U v) lo sz (U x) w _) ⟨trivial,?_⟩);have c:(U (fe lo sz)==0)=decide (fe lo sz=0#64):=by
  have:(U (fe lo sz)=0)<->fe lo sz=0#64:=by rw[show(0:Int)=U 0#64 from rfl,Uo]
  by_cases h:fe lo sz=0#64
  ·rw[this.2 h,h];rfl
  ·have h': ¬ U (fe lo sz)=0:=λe=>h (this.1 e);simp[h,h']
 rw[c];refine ab (λh=>λw1 a=>⟨?_,a⟩) (λh=>?_)
 ·simp only[decide_eq_true_eq] at h;unfold oU;rw[if_pos h]
 ·simp only[decide_eq_false_iff_not] at h;have b:bX lo sz=true:=by
   cases b:bX lo sz with
   |true=>rfl
   |false=>exact absurd (oy b) h
  refine⟨(fL.1 b).1,λw1 a=>⟨?_,a⟩⟩;rw[ER,IK,IJ,Uq];unfold oU;rw[if_neg h]
noncomputable def Bl:Entry A2 where
 f:=366
 fn l:=match l with
  |[.int .u64 v,.int .i64 lo,.int .i64 sz]=>some (U (B v)=v,.int .u64 (U (c_ (B v) lo sz)))
  | _=>none
 ok args pre v h a w:=by
  split at h
  ·rename_i v lo sz;cases h;have:=aS (Rl (B v) lo sz w);rw[a] at this;exact this
  ·cases h
noncomputable def Bm:Entry A2 where
 f:=371
 fn l:=match l with
  |[.int .u64 v,.int .i64 lo,.int .i64 sz,.int .u64 x]=>some (U (B v)=v/\U (B x)=x,.int .u64 (U (oU (B v) lo sz (B x))))
  | _=>none
 ok args pre v h a w:=by
  split at h
  ·rename_i v lo sz x;cases h;have:=aS (Rm (B v) lo sz (B x) w);rw[a.1,a.2] at this;exact this
  ·cases h
noncomputable def C3:dn A2:={C0 with oG:=[o_,Mj,xS,xT,rB,rC,Bl,Bm]}
def rU:Nat->aV:=(λ|4=>[(3,Go.RX.El.one (Go.RX.Sc.int EH)),(4,Go.RX.El.one (Go.RX.Sc.int B1)),(9,Go.RX.El.one (Go.RX.Sc.int B1))]| _=>[])
theorem M_ (p:Option A9) (n c:Nat) (w:A1) (d:Int->A1->Prop):(aJ C3 rU 364 [.slice p n c] w d)=(
 ∃(I:Nat->Int×Int×Int×Unit->A1->Prop),(∃n, ∀w1,Ext w w1->I n (0,0,0,()) w1)/\ ∀(f:Nat) (s:Int×Int×Int×Unit) (w1:A1),I f s w1->aF (decide (s.2.2.1<(↑n:Int))) ((p.isSome=true/\0<=s.2.2.1/\s.2.2.1<(↑n:Int))/\aj w1 none (ae p (Bc s.2.2.1*2)) aY λ(x:Int×Int×Unit)=>aA w1 ⟨[.int .u64 0,.int .i64 0]⟩ 429 λb a=>aw a (ad b) [.int .u64 x.1,.int .i64 x.2.1] λa=>true=true/\aQ a (ae (ad b) 1) λx=>True/\aF (!bX s.2.1 x) (ak a (d 0)) (true=true/\aQ a (ae (ad b) 1) λ
 x=>true=true/\cg a (ae (ad b) 0) λe=>(U (B s.1)=s.1/\U (B e)=e)/\true=true/\aQ a (ae (ad b) 1) λi=> ∀g,Ext a g-> ∃(h:Nat),h<f/\I h (U (oU (B s.1) s.2.1 x (B e)),aC .i64 s.2.1 i,aC .i64 s.2.2.1 1,()) g)) (ak w1 (d s.1))):=by kernel_rfl
def pY:Nat->aV:=(λ|4=>[(5,Go.RX.El.one Go.RX.Sc.slice),(6,Go.RX.El.one (Go.RX.Sc.int B1)),(11,Go.RX.El.one (Go.RX.Sc.int B1))]| _=>[])
theorem JD (v:Int) (p:Option A9) (n c:Nat) (w:A1) (a:Option A9×Nat×Nat->A1->Prop):(aJ C3 pY 346 [.int .u64 v,.slice p n c] w a)=(
 ∃(I:Nat->(Option A9×Nat×Nat)×Int×Int×Unit->A1->Prop),(∃n, ∀w1,Ext w w1->I n ((none,0,0),0,0,()) w1)/\ ∀(e:Nat) (s:(Option A9×Nat×Nat)×Int×Int×Unit) (w1:A1),I e s w1->aF (decide (s.2.2.1<(↑n:Int))) ((p.isSome=true/\0<=s.2.2.1/\s.2.2.1<(↑n:Int))/\aQ w1 (ae p (Bc s.2.2.1*1)) λx=>True/\aF (!bX s.2.1 x) (ak w1 (a (none,0,0))) (U (B v)=v/\aA w1 ⟨[.int .u64 (U (c_ (B v) s.2.1 x))]⟩ 32 λb d=> ∀w1,Ext d w1->vp w1 32 1 8 ⟨[.int .u64 0]⟩ (s.1.1,s.1.2.1,s.1.2.2) (some ⟨b,0,
 none⟩,1,1) λ(r:Option A9×Nat×Nat) d=> ∀f,Ext d f-> ∃(g:Nat),g<e/\I g ((r.1,r.2.1,r.2.2),aC .i64 s.2.1 x,aC .i64 s.2.2.1 1,()) f)) (ak w1 (a (s.1.1,s.1.2.1,s.1.2.2)))):=by kernel_rfl
def pZ:Nat->aV:=(λ|4=>[(5,Go.RX.El.one (Go.RX.Sc.int B1))]| _=>[])
theorem JE (p q:Option A9) (n c m d:Nat) (w:A1) (a:Bool->A1->Prop):(aJ C3 pZ 15 [.slice p n c,.slice q m d] w a)=(
 aF ((↑n:Int) != (↑m:Int)) (ak w (a false)) (∃(I:Nat->Int×Unit->A1->Prop),(∃n, ∀w1,Ext w w1->I n (0,()) w1)/\ ∀(b:Nat) (s:Int×Unit) (w1:A1),I b s w1->aF (decide (s.1<(↑n:Int))) ((p.isSome=true/\0<=s.1/\s.1<(↑n:Int))/\cg w1 (ae p (Bc s.1*1)) λx=>(q.isSome=true/\0<=s.1/\s.1<(↑m:Int))/\cg w1 (ae q (Bc s.1*1)) λg=>aF (x != g) (ak w1 (a false)) (∀e,Ext w1 e-> ∃(f:Nat),f<b/\I f (aC .i64 s.1 1,()) e)) (ak w1 (a true)))):=by kernel_rfl
abbrev eI:El:= .one (.int .i64)
abbrev eU:El:= .one (.int .u64)
abbrev eP:El:= .agg [.int .u64,.int .i64]
theorem JF {p q:Option A9} {n c m d:Nat} {w:A1} {xs ys:List Int} (t:Sl w eU p xs) (v:n=xs.length) (x:Sl w eU q ys) (y:m=ys.length) (hb:n<4611686018427387904):
 ar A2 15 (.el (.one .bool)) [.slice p n c,.slice q m d] w (λb w'=>b=decide (xs=ys)/\Ext w w'):=by
 refine ai (C:=C3) (aM:=pZ) (A_ (JE p q n c m d w _) ?_);refine ab (λh w1 a=>⟨?_,a⟩) (λh=>?_)
 ·have:xs≠ys:=λe=>by subst e;simp[v,y] at h
  simp[this]
 ·have B:n=m:=by simp at h;omega
  refine⟨λk s w'=>Ext w w'/\ ∃i:Nat,s.1=i/\k+i=n/\ ∀j,j<i->xs[j]? =ys[j]?,⟨n,λw1 a=>⟨a,0,rfl,rfl,λj g=>absurd g (by omega)⟩⟩,?_⟩;rintro k ⟨D,u⟩ w1 ⟨f,i,hi,E,g⟩;simp only at hi;subst hi;dsimp only;refine ab (λh=>?_) (λh=>λo h2=>⟨?_,f.trans h2⟩)
  ·simp only[decide_eq_true_eq] at h;have a:i<xs.length:=by omega
   have h2:i<ys.length:=by omega
   have a1:=(t.ext f) i xs[i] (Bd a);have r:=(x.ext f) i ys[i] (Bd h2);refine⟨⟨a1.1,by omega,by omega⟩,xs[i],a1.2,⟨r.1,by omega,by omega⟩,ys[i],r.2,ab (λz o l=>⟨?_,f.trans l⟩) (λA o l=>⟨k - 1,by omega,f.trans l,i+1,?_,by omega,?_⟩)⟩
   ·have:xs≠ys:=λe=>by subst e;simp at z
    simp[this]
   ·show aC _ _ _= _;rw[av (by omega) (by omega)];rfl
   ·intro j F;by_cases e:j=i
    ·subst e;rw[Bd a,Bd h2];simpa using A
    ·exact g j (by omega)
  ·simp only[decide_eq_false_iff_not] at h;have:xs=ys:=by
    apply EE;intro j;by_cases e:j<i
    ·exact g j e
    ·rw[HH (by omega),HH (by omega)]
   simp[this]
def nC:BitVec 64->Int->List (BitVec 64×Int)->BitVec 64
 |w, _,[]=>w
 |w,lo,(v,sz)::r=>if bX lo sz=true then nC (oU w lo sz v) (lo+sz) r else 0#64
def HR (l:List (BitVec 64×Int)):List (Int×Int×Unit):=l.map λx=>(U x.1,x.2,())
theorem Aa {α:Type} {l:List α} {i:Nat} (h:i<l.length):l.drop i=l[i]::l.drop (i+1):=List.drop_eq_getElem_cons h
theorem Na {p:Option A9} {n c:Nat} {w:A1} {xs:List (BitVec 64×Int)} (z:Sl w eP p (HR xs)) (K:n=xs.length) (hb:n<4611686018427387904):
 ar A2 364 (.el eU) [.slice p n c] w (λx w'=>x=U (nC 0#64 0 xs)/\Ext w w'):=by
 refine ai (C:=C3) (aM:=rU) (A_ (M_ p n c w _) ?_);refine⟨λk s w'=>Ext w w'/\ ∃(i:Nat) (b:BitVec 64),s.1=U b/\s.2.2.1=i/\k+i=n/\0<=s.2.1/\s.2.1<=64/\nC b s.2.1 (xs.drop i)=nC 0#64 0 xs,⟨n,λw1 g=>⟨g,0,0#64,rfl,rfl,rfl,by decide,by decide,rfl⟩⟩,?_⟩;rintro k ⟨x,lo,L,u⟩ w1 ⟨l,i,b,g,h2,M,A,B,e⟩;simp only at g h2 A B e;subst g;subst h2;dsimp only;refine ab (λh=>?_) (λh=>λD h2=>⟨?_,l.trans h2⟩)
 ·simp only[decide_eq_true_eq] at h;have hi:i<xs.length:=by omega
  have E:(HR xs)[i]? =some (U xs[i].1,xs[i].2,()):=by simp[HR,hi]
  have a1:=(z.ext l) i _ E;rw[Aa hi] at e;refine⟨⟨a1.1,by omega,by omega⟩, _,a1.2,λd F f t=>?_⟩;have cX:bh f d.heap.size [.int .u64 0,.int .i64 0]:=(bh.new d _ _).ext t;have v:Ext w d:=l.trans F;have G:Ext w f:=(v.da _).trans t;have m:=cX.put (o:=0) [Dn .u64 (U xs[i].1),Dn .i64 xs[i].2] (by simp);simp at m;have y:Ext w (fo f (some ⟨d.heap.size,0,none⟩) [Dn .u64 (U xs[i].1),Dn .i64 xs[i].2]):=G.fo (a:=⟨d.heap.size,0,none⟩) v.size _;have H:cI (fo f (some ⟨d.heap.size,0,none⟩) [Dn .u64 (U xs[i].1),Dn .i64 xs[i].2]) (ae (some ⟨d.heap.size,0,none⟩) 0) (.one (.int .u64)) (U xs[i].1):=by
   rw[aL];exact m.lJ rfl
  have q:cI (fo f (some ⟨d.heap.size,0,none⟩) [Dn .u64 (U xs[i].1),Dn .i64 xs[i].2]) (ae (some ⟨d.heap.size,0,none⟩) 1) (.one (.int .i64)) xs[i].2:=by
   rw[aL];exact m.lJ rfl
  refine⟨⟨rfl,cX.st (by simp)⟩,rfl, _,q,trivial,ab (λr D I=>⟨?_,y.trans I⟩) (λr=>⟨rfl, _,q,rfl, _,H,⟨by rw[tq],by rw[tq]⟩,rfl, _,q,λN J=>⟨k - 1,by omega,y.trans J,i+1,oU b lo xs[i].2 xs[i].1,?_,?_,by omega,?_,?_,?_⟩⟩)⟩
  ·have j:bX lo xs[i].2=false:=by simpa using r
   rw[<-e];simp only[nC,j];rfl
  all_goals
   have j:bX lo xs[i].2=true:=by simpa using r
   have O:=fL.1 j
  ·show U _= _;rw[tq,tq]
  ·show aC _ _ _= _;rw[av (by omega) (by omega)];rfl
  ·show 0<=aC .i64 lo _;rw[av (by omega) (by omega)];omega
  ·show aC .i64 lo _<=64;rw[av (by omega) (by omega)];omega
  ·show nC _ (aC .i64 lo _) _= _;rw[av (by omega) (by omega), <-e];simp only[nC,j,if_true]
 ·simp only[decide_eq_false_iff_not] at h;rw[L9 (by omega)] at e;rw[<-e];rfl
def j9 (w:BitVec 64):Int->List Int->Option (List (BitVec 64))
 | _,[]=>some []
 |lo,sz::r=>if bX lo sz=true then(j9 w (lo+sz) r).map (c_ w lo sz:: ·) else none
def xU (l:List (BitVec 64)):List Int:=l.map U
theorem JG {v:BitVec 64} {p:Option A9} {n c:Nat} {w:A1} {xs:List Int} (t:Sl w eI p xs) (J:n=xs.length) (hb:n<=1000):
 ar A2 346 (.el (.one .slice)) [.int .u64 (U v),.slice p n c] w (λr w'=>jz w w' eU r (xU ((j9 v 0 xs).getD []))/\Ext w w'):=by
 refine ai (C:=C3) (aM:=pY) (A_ (JD (U v) p n c w _) ?_);refine⟨λk s w'=>Ext w w'/\ ∃(i:Nat) (a:List (BitVec 64)),s.2.2.1=i/\k+i=n/\0<=s.2.1/\s.2.1<=64/\a.length=i/\jz w w' eU s.1 (xU a)/\j9 v 0 xs=(j9 v s.2.1 (xs.drop i)).map (a++ ·),⟨n,λw1 y=>⟨y,0,[],rfl,rfl,by decide,by decide,rfl,jz.nil w w1 eU,by simp⟩⟩,?_⟩;rintro k ⟨s,lo,K,u⟩ w1 ⟨d,i,a,h2,L,z,A,D,j,b⟩;simp only at h2 j z A b;subst h2;dsimp only;refine ab (λh=>?_) (λh=>λm h2=>⟨?_,d.trans h2⟩)
 ·simp only[decide_eq_true_eq] at h;have hi:i<xs.length:=by omega
  have a1:=(t.ext d) i _ (Bd hi);have i1:p.isSome=true/\(0:Int)<=i/\(i:Int)<n:=⟨a1.1,by omega,by omega⟩;rw[Aa hi] at b;refine⟨i1, _,a1.2,trivial,ab (λf m E=>⟨?_,d.trans E⟩) (λf=>⟨by rw[tq],λM F N G=>?_⟩)⟩
  ·have g:bX lo xs[i]=false:=by simpa using f
   simp only[j9,g] at b;rw[b];exact jz.nil w m eU
  ·have g:bX lo xs[i]=true:=by simpa using f
   have O:=fL.1 g;have P:(xU a).length<=1000:=by simp[xU];omega
   refine Jz (e:=eU) (x:=U (c_ (B (U v)) lo xs[i])) j d rfl F G rfl (by omega) λs' w' o H f Q R q=>⟨k - 1,by omega,H.trans q,i+1,a++[c_ v lo xs[i]],?_,by omega,?_,?_,by simp[D],?_,?_⟩
   ·show aC _ _ _= _;rw[av (by omega) (by omega)];rfl
   ·show 0<=aC .i64 lo _;rw[av (by omega) (by omega)];omega
   ·show aC .i64 lo _<=64;rw[av (by omega) (by omega)];omega
   ·rw[tq] at o;have I:xU (a++[c_ v lo xs[i]])=xU a++[U (c_ v lo xs[i])]:=by simp[xU]
    rw[I];exact o.ext q
   ·show _=(j9 v (aC .i64 lo _) _).map _;rw[av (by omega) (by omega),b];simp only[j9,g,if_true,Option.map_map];congr 1;funext l;simp
 ·simp only[decide_eq_false_iff_not] at h;rw[L9 (by omega)] at b;rw[b];simp[j9];exact j.ext h2
end Go.Proofs.YteeflilbnoknnaaGreat
namespace Go.RX
open Go.RowKit
def QE (n:Nat) (w:A1) (e:El) (s:Option A9×Nat×Nat) (xs:List e.T):Prop:=
 s.2.1=xs.length/\xs.length<=s.2.2/\
 ((s.1=none/\xs=[]/\s.2.2=0)\/ ∃b l,s.1=some ⟨b,0,none⟩/\n<=b/\bh w b l/\l.length=s.2.2*aK e/\l.take (xs.length*aK e)=flat e xs)
theorem jz.YF {w0 w:A1} {e:El} {s:Option A9×Nat×Nat} {xs:List e.T} (h:jz w0 w e s xs):QE w0.heap.size w e s xs:=h
theorem QE.of {w0 w:A1} {e:El} {s:Option A9×Nat×Nat} {xs:List e.T} {n:Nat} (h:QE n w e s xs) (g:w0.heap.size<=n):jz w0 w e s xs:=by
 obtain⟨c,h2,a⟩:=h;refine⟨c,h2,?_⟩;rcases a with a|⟨b,l,a1,i,d,f⟩
 ·exact .inl a
 ·exact .inr ⟨b,l,a1,by omega,d,f⟩
def pa (n:Nat) (w:A1):A1:={w with heap:=w.heap.extract 0 n}
theorem fB {n:Nat} {w:A1} (h:n<=w.heap.size):(pa n w).heap.size=n:=by
 simp[pa];omega
theorem mY {n:Nat} {w:A1} (h:n<=w.heap.size):Ext (pa n w) w:=by
 refine⟨rfl,rfl,rfl,?_,λk a=>?_⟩
 ·rw[fB h];exact h
 ·rw[fB h] at a;show w.heap[k]? =(w.heap.extract 0 n)[k]?;rw[Array.getElem?_extract,if_pos (by omega),B3]
theorem vn {n:Nat} {w w':A1} (h:n<=w.heap.size) (k:Ext (pa n w) w') (b:w.heap.size<=w'.heap.size):Below n w w':=
 ⟨k.os,k.tape,k.output,b,λj a=>by
  have c:=k.block (k:=j) (by rw[fB h];exact a);have h2:=(mY h).block (k:=j) (by rw[fB h];exact a);rw[c,h2]⟩
end Go.RX
namespace Go.RowKit
open Go.RX
end Go.RowKit
namespace Go.RX
open Go.RowKit
structure Fr (G:List Nat) (w w':A1):Prop where
 os:w'.os=w.os
 tape:w'.tape=w.tape
 output:w'.output=w.output
 size:w.heap.size<=w'.heap.size
 block: ∀k,k<w.heap.size->k∉G->w'.heap[k]? =w.heap[k]?
theorem Fr.refl (G:List Nat) (w:A1):Fr G w w:=⟨rfl,rfl,rfl,E4 _,λ_ _ _=>rfl⟩
theorem Fr.trans {G:List Nat} {a b c:A1} (h:Fr G a b) (k:Fr G b c):Fr G a c:=
 ⟨k.os.trans h.os,k.tape.trans h.tape,k.output.trans h.output,Di h.size k.size,λj d e=>(k.block j (Ic d h.size) e).trans (h.block j d e)⟩
theorem Fr.qH {G:List Nat} {w w':A1} (h:Ext w w'):Fr G w w':=⟨h.os,h.tape,h.output,h.size,λ_ a _=>h.block a⟩
theorem Fr.ext {w w':A1} (h:Fr [] w w'):Ext w w':=⟨h.os,h.tape,h.output,h.size,λk a=>h.block k a (by simp)⟩
theorem Fr.cX {G:List Nat} {w w':A1} (h:Fr G w w') {b:Nat} {l:List A3} (hb:b∉G) (k:bh w b l):bh w' b l:=k.same (h.block b k.lt hb)
theorem Fr.fo {G:List Nat} {w0 w:A1} (h:Fr G w0 w) {a:A9} (c:w0.heap.size<=a.block\/a.block∈G) (b:List A3):Fr G w0 (fo w (some a) b):=by
 have env: ∀(b:List A3) (w:A1) (i:Nat),(putAt w a b i).os=w.os/\(putAt w a b i).tape=w.tape/\(putAt w a b i).output=w.output:=by
  intro b
  induction b with
  |nil=>intro w i;exact⟨rfl,rfl,rfl⟩
  |cons v r f=>
   intro w i;have:=f (w.setCell (a.add i) v) (i+1);simp only[putAt];exact this
 obtain⟨g,j,l⟩:=env b w 0;refine⟨g.trans h.os,j.trans h.tape,l.trans h.output,?_,λk m d=>?_⟩
 ·show _<=(putAt w a b 0).heap.size;rw[ox];exact h.size
 ·have n:k≠a.block:=by
   intro e;rcases c with c|c
   ·omega
   ·rw[<-e] at c;exact d c
  exact(kB b w a 0 k n).trans (h.block k m d)
structure aH (D G:List Nat) (w0 w:A1) (L:List (Nat×List A3)):Prop where
 fr:Fr G w0 w
 cX: ∀x∈L,bh w x.1 x.2
 own: ∀x∈L,w0.heap.size<=x.1\/x.1∈G
 nd:(L.map (·.1)).Nodup
 nv: ∀r∈D,w0.heap.size<=r/\w.heap[r]? =some (.deferred (some []))
abbrev At:=aH []
theorem At.start (G:List Nat) (w:A1):At G w w [] where
 fr:=Fr.refl G w
 cX:=λx a=>by cases a
 own:=λx a=>by cases a
 nd:=HL
 nv:=λx a=>by cases a
namespace aH
variable {D G:List Nat} {w0 w w1:A1} {L:List (Nat×List A3)}
theorem ext (H:aH D G w0 w L) (h:Ext w w1):aH D G w0 w1 L:=
 ⟨H.fr.trans (.qH h),λx b=>(H.cX x b).ext h,H.own,H.nd,λr a=>⟨(H.nv r a).1,h.obj (H.nv r a).2⟩⟩
theorem all (H:aH D [] w0 w L):Ext w0 w:=H.fr.ext
theorem get (H:aH D G w0 w L) {i b:Nat} {l:List A3} (h:L[i]? =some (b,l)):bh w b l:=H.cX _ (H5 h)
theorem ne (H:aH D G w0 w L) {i j b c:Nat} {l m:List A3} (h:L[i]? =some (b,l)) (k:L[j]? =some (c,m)) (a:i≠j):b≠c:=by
 intro e;subst e;have hi:i<L.length:=(Bo.1 h).1;have d:(L.map (·.1))[i]? =some b:=by rw[E5,h];rfl
 have h2:(L.map (·.1))[j]? =some b:=by rw[E5,k];rfl
 exact a ((List.getElem?_inj (by simpa using hi) H.nd).1 (d.trans h2.symm))
theorem alloc (H:aH D G w0 w L) (cs:List A3) (t:ED):aH D G w0 (w.alloc (.cells ⟨cs⟩ t)) ((w.heap.size,cs)::L):=by
 have b:=H.ext (Ext.alloc w (.cells ⟨cs⟩ t));refine⟨b.fr,λx a=>?_,λx a=>?_,?_,b.nv⟩
 ·rcases B5.1 a with rfl|a
  ·exact bh.new w cs t
  ·exact b.cX x a
 ·rcases B5.1 a with rfl|a
  ·exact .inl H.fr.size
  ·exact b.own x a
 ·refine Bb.2 ⟨λc=>?_,H.nd⟩;obtain⟨x,a,e⟩:=AX.1 c;have:=(H.cX x a).lt;rw[e] at this;exact Nat.lt_irrefl _ this
theorem qI (H:aH D G w0 w L) (o:Obj):aH D G w0 (w.alloc o) L:=H.ext (Ext.alloc w o)
theorem cN {b r:Nat} {l:List A3} {o:Obj} (h:bh w b l) (k:w.heap[r]? =some o) (c: ∀a t f,o≠ .cells a t f):b≠r:=by
 intro e;subst e;obtain⟨t,h⟩:=h;rw[h] at k;cases k;exact c _ _ _ rfl
theorem put (H:aH D G w0 w L) (i:Nat) {b o:Nat} {l:List A3} (h:L[i]? =some (b,l)) (c:List A3) (p:o+c.length<=l.length):
 aH D G w0 (fo w (some ⟨b,o,none⟩) c) (L.set i (b,l.take o++(c++l.drop (o+c.length)))):=by
 have hi:i<L.length:=(Bo.1 h).1;have k:(b,l)∈L:=H5 h;refine⟨H.fr.fo (a:=⟨b,o,none⟩) (H.own _ k) c,λx d=>?_,λx d=>?_,?_,λr m=>⟨(H.nv r m).1,?_⟩⟩
 ·obtain⟨j,f⟩:=L_ d;by_cases e:i=j
  ·subst e;rw[DB hi] at f;cases f;exact(H.get h).put c p
  ·rw[Bp e] at f;have g:x.1≠b:=λq=>by
    obtain⟨t,u⟩:=x;exact H.ne f h (λs=>e s.symm) q
   exact(H.cX x (H5 f)).Il (a:=⟨b,o,none⟩) g c
 ·rcases LL d with d|rfl
  ·exact H.own x d
  ·exact H.own (b,l) k
 ·have:(L.set i (b,l.take o++(c++l.drop (o+c.length)))).map (·.1)=L.map (·.1):=by
   apply EE;intro j;rw[E5,E5];by_cases e:i=j
   ·subst e;rw[DB hi,h];rfl
   ·rw[Bp e]
  rw[this];exact H.nd
 ·have n:=(H.nv r m).2;have g:r≠b:=λe=>cN (H.get h) n (λ_ _ _ hc=>by cases hc) e.symm;rw[<-n];exact kB c w ⟨b,o,none⟩ 0 r g
theorem gm (H:aH D G w0 w L) {b:Nat} {l:List A3} (h:bh w0 b l) (hb:b∉G):bh w b l:=H.fr.cX hb h
theorem sub (H:aH D G w0 w L) {L':List (Nat×List A3)} (h:L'.Sublist L):aH D G w0 w L':=
 ⟨H.fr,λx a=>H.cX x (h.subset a),λx a=>H.own x (h.subset a),(h.map _).nodup H.nd,H.nv⟩
theorem perm (H:aH D G w0 w L) {L':List (Nat×List A3)} (h:L'.Perm L):aH D G w0 w L':=
 ⟨H.fr,λx a=>H.cX x (h.subset a),λx a=>H.own x (h.subset a),(h.map _).nodup_iff.2 H.nd,H.nv⟩
theorem frame (H:aH D G w0 w L) {b:List Nat} {L':List (Nat×List A3)} (h:Fr b w w1) (f: ∀x∈b,w0.heap.size<=x\/x∈G) (g: ∀r∈D,r∉b) (hb: ∀x∈L',bh w1 x.1 x.2) (i: ∀x∈L',w0.heap.size<=x.1\/x.1∈G) (j:(L'.map (·.1)).Nodup):aH D G w0 w1 L':=
 ⟨⟨h.os.trans H.fr.os,h.tape.trans H.fr.tape,h.output.trans H.fr.output,Di H.fr.size h.size,λk c d=>(h.block k (Ic c H.fr.size) (λl=>by
   rcases f k l with e|e
   ·omega
   ·exact d e)).trans (H.fr.block k c d)⟩,hb,i,j,λr a=>⟨(H.nv r a).1,by rw[h.block r (Es.1 (H.nv r a).2).1 (g r a)];exact(H.nv r a).2⟩⟩
theorem mod (H:aH D G w0 w L) (i:Nat) {b:Nat} {l l':List A3} (c:L[i]? =some (b,l)) (h:Fr [b] w w1) (hb:bh w1 b l'):aH D G w0 w1 (L.set i (b,l')):=by
 have hi:i<L.length:=(Bo.1 c).1;have f:(b,l)∈L:=H5 c;refine H.frame h (λx a=>by rw[Bq.1 a];exact H.own (b,l) f) (λr k a=>?_) (λx a=>?_) (λx a=>?_) ?_
 ·rw[Bq] at a;exact cN (H.get c) (H.nv r k).2 (λ_ _ _ hc=>by cases hc) a.symm
 ·obtain⟨j,d⟩:=L_ a;by_cases e:i=j
  ·subst e;rw[DB hi] at d;cases d;exact hb
  ·rw[Bp e] at d;obtain⟨g,m⟩:=x;have n:g≠b:=H.ne d c (λo=>e o.symm);exact h.cX (by simpa using n) (H.cX (g,m) (H5 d))
 ·rcases LL a with a|rfl
  ·exact H.own x a
  ·exact H.own (b,l) f
 ·have:(L.set i (b,l')).map (·.1)=L.map (·.1):=by
   apply EE;intro j;rw[E5,E5];by_cases e:i=j
   ·subst e;rw[DB hi,c];rfl
   ·rw[Bp e]
  rw[this];exact H.nd
theorem again (H:aH D G w0 w L):At (L.map (·.1)) w w L where
 fr:=Fr.refl _ w
 cX:=H.cX
 own:=λx a=> .inr (AX.2 ⟨x,a,rfl⟩)
 nd:=H.nd
 nv:=λx a=>by cases a
theorem join {b:List Nat} {L':List (Nat×List A3)} (H:aH D G w0 w L) (f: ∀x∈b,x∈L.map (·.1)) (K:At b w w1 L'):aH D G w0 w1 L':=by
 have g: ∀x∈b,w0.heap.size<=x\/x∈G:=λx a=>by
  obtain⟨y,c,e⟩:=AX.1 (f x a);rw[<-e];exact H.own y c
 refine H.frame K.fr g (λr h a=>?_) K.cX (λx a=>?_) K.nd
 ·obtain⟨y,c,e⟩:=AX.1 (f r a);exact cN (H.cX y c) (H.nv r h).2 (λ_ _ _ hc=>by cases hc) e
 ·rcases K.own x a with d|d
  ·exact .inl (Di H.fr.size d)
  ·exact g _ d
theorem putObj (H:aH D G w0 w L) {l:Nat} (j:w0.heap.size<=l) {o o':Obj} (d:w.heap[l]? =some o) (hc: ∀a t f,o≠ .cells a t f) (g:l∉D):aH D G w0 (w.putObj l o') L:=by
 refine⟨⟨H.fr.os,H.fr.tape,H.fr.output,by rw[putObj_size];exact H.fr.size,λk h i=>?_⟩,λx c=>(H.cX x c).putObj (cN (H.cX x c) d hc) _,H.own,H.nd,λr b=>⟨(H.nv r b).1,?_⟩⟩
 ·rw[eR (by omega)];exact H.fr.block k h i
 ·rw[eR (λe=>g (by rw[<-e];exact b))];exact(H.nv r b).2
end aH
def l5 (l:List A3) (o:Nat):(el:El)->Option el.T
 | .one s=>match l[o]? with
   |some v=>s.proj v
   |none=>none
 | .agg ss=>jN ss ((l.drop o).take ss.length)
theorem bI {w:A1} {b o:Nat} {l:List A3} (h:bh w b l) {el:El} {x:el.T} (a:l5 l o el=some x):cI w (some ⟨b,o,none⟩) el x:=by
 cases el with
 |one s=>
  simp only[l5] at a;split at a
  ·rename_i v hv;exact h.lJ (by rw[hv,Sc.gi a])
  ·cases a
 |agg ss=>
  simp only[l5] at a;have e:=my a;refine h.Mi λi hi=>?_;rw[e,LZ hi,List.getElem?_drop]
theorem aj.of {w:A1} {g:Option Bool} {p:Option A9} {el:El} {K:el.T->Prop} (x:el.T) (h:cI w p el x) (k:K x):aj w g p el K:=
 ⟨x,by cases g<;>first|exact h|exact λ_=>h,k⟩
theorem ay {b:Bool} {x y:Prop} (e:b=true) (h:x):aF b x y:=ab (λ_=>h) (λc=>by rw[e] at c;cases c)
theorem an {b:Bool} {x y:Prop} (e:b=false) (h:y):aF b x y:=ab (λc=>by rw[e] at c;cases c) (λ_=>h)
section
variable {D G:List Nat} {w0 w:A1} {L:List (Nat×List A3)}
theorem aj.at (i:Nat) (H:aH D G w0 w L) {g:Option Bool} {el:El} {K:el.T->Prop} {b o:Nat} {l:List A3} {x:el.T} (a:L[i]? =some (b,l)) (hv:l5 l o el=some x) (k:K x):aj w g (some ⟨b,o,none⟩) el K:=
 .of x (bI (H.get a) hv) k
theorem aj.bN (i:Nat) (H:aH D G w0 w L) {g:Option Bool} {el:El} {K:el.T->Prop} {b o n:Nat} {l:List A3} {x:el.T} (a:L[i]? =some (b,l)) (hv:l5 l (o+n) el=some x) (k:K x):aj w g (ae (some ⟨b,o,none⟩) n) el K:=by
 rw[aL];exact .at i H a hv k
theorem aA.go (H:aH D G w0 w L) {cs:List A3} {e:ED} {K:Nat->A1->Prop} (k: ∀b w1,aH D G w0 w1 ((b,cs)::L)->K b w1):aA w ⟨cs⟩ e K:=
 λ_ h=>k _ _ ((H.ext h).alloc cs e)
theorem aw.at (i:Nat) (H:aH D G w0 w L) {b o:Nat} {l a:List A3} {K:A1->Prop} (c:L[i]? =some (b,l)) (e:a.all (·.oneCell')=true) (d:o+a.length<=l.length)
 (k: ∀w1,aH D G w0 w1 (L.set i (b,l.take o++(a++l.drop (o+a.length))))->K w1):aw w (some ⟨b,o,none⟩) a K:=
 λ_ h=>⟨⟨e,((H.ext h).get c).st d⟩,k _ ((H.ext h).put i c a d)⟩
theorem aw.all (i:Nat) (H:aH D G w0 w L) {b:Nat} {l a:List A3} {K:A1->Prop} (d:L[i]? =some (b,l)) (e:a.all (·.oneCell')=true) (f:a.length=l.length)
 (k: ∀w1,aH D G w0 w1 (L.set i (b,a))->K w1):aw w (some ⟨b,0,none⟩) a K:=by
 refine aw.at i H d e (by omega) λw1 c=>k w1 ?_;rw[B3,f,Lr,HO,Hz,I1] at c;exact c
theorem aw.one (i:Nat) (H:aH D G w0 w L) {b o:Nat} {l:List A3} {x:A3} {K:A1->Prop} (c:L[i]? =some (b,l)) (d:x.oneCell'=true) (a:Nat.blt o l.length=true)
 (k: ∀w1,aH D G w0 w1 (L.set i (b,l.set o x))->K w1):aw w (some ⟨b,o,none⟩) [x] K:=by
 have a:o<l.length:=by simpa[Ih] using a
 refine aw.at i H c (by simp[d]) (by simp only[M4];omega) λw1 e=>k w1 ?_;rw[show l.set o x=l.take o++([x]++l.drop (o+[x].length)) from by simp[M5,a]];exact e
theorem aw.dF (i:Nat) (H:aH D G w0 w L) {b o n:Nat} {l:List A3} {x:A3} {K:A1->Prop} (a:L[i]? =some (b,l)) (c:x.oneCell'=true) (d:Nat.blt (o+n) l.length=true)
 (k: ∀w1,aH D G w0 w1 (L.set i (b,l.set (o+n) x))->K w1):aw w (ae (some ⟨b,o,none⟩) n) [x] K:=by
 rw[aL];exact aw.one i H a c d k
theorem ak.go (H:aH D G w0 w L) {K:A1->Prop} (k: ∀w1,aH D G w0 w1 L->K w1):ak w K:=λ_ h=>k _ (H.ext h)
theorem aB.go (H:aH D G w0 w L) {P:Bg} {f:DA} {s:Sh} {args:List A3} {K:s.T->A1->Prop} (k: ∀w1,aH D G w0 w1 L->ar P f s args w1 K):aB P f s args w K:=λ_ h=>k _ (H.ext h)
end
open Go.RowKit
variable {D G:List Nat} {w0 wb w w' w1:A1} {L Lb:List (Nat×List A3)}
theorem aH.then (a:aH D G w0 wb L) (H:At [] wb w Lb):aH D G w0 w L:=a.ext H.all
theorem aH.below (H:aH D G w0 w []) (h:Below w0.heap.size w w') (c:w.heap.size<=w'.heap.size) (d:D=[]):aH D G w0 w' [] where
 fr:=⟨h.os.trans H.fr.os,h.tape.trans H.fr.tape,h.output.trans H.fr.output,Di H.fr.size c,λk b e=>(h.block k b).trans (H.fr.block k b e)⟩
 cX:=λx a=>by cases a
 own:=λx a=>by cases a
 nd:=HL
 nv:=λx a=>by rw[d] at a;cases a
theorem At.Uu (i:Nat) (c:At G w0 wb []) {e:El} {s:Option A9×Nat×Nat} {xs:List e.T} (f:jz w0 wb e s xs) (H:At [] wb w Lb)
 {b:Nat} {l:List A3} (x:e.T) (g:Lb[i]? =some (b,l)) (h:l=cellsOf e x) (m:j8 e=true) {t:ED} {size bytes:Nat} {z:Array A3} (n:size=aK e) (o:z.size=aK e) (hb:(xs.length+1)*bytes<=140737488355328)
 {R:Option A9×Nat×Nat->A1->Prop} (k: ∀s' w',At G w0 w' []->jz w0 w' e s' (xs++[x])->R s' w'):
 vp w t size bytes z s (some ⟨b,0,none⟩,1,1) R:=by
 subst n;subst h;have a:w0.heap.size<=w.heap.size:=Di c.fr.size H.fr.size;have p:jz (pa w0.heap.size w) w e s xs:=((f.ext H.all).YF).of (Nat.le_of_eq (fB a));refine ju (ys:=[x]) p (mY a) m rfl ?_ o hb λs' w' q r _ d _=>k s' w' ((c.then H).below (vn a r d) d rfl) ?_
 ·refine(H.get g).xD (aN e [x]) λj u=>?_;simp[flat]
 ·have:=q.YF;rw[fB a] at this;exact this
theorem aj.gm (H:aH D G w0 w L) {b o:Nat} {l:List A3} (h:bh w0 b l) (hb:b∉G) {g:Option Bool} {el:El} {K:el.T->Prop} {x:el.T} (hv:l5 l o el=some x) (k:K x):aj w g (some ⟨b,o,none⟩) el K:=
 .of x (bI (H.gm h hb) hv) k
theorem aj.iQ (H:aH D G w0 w L) {b o n:Nat} {l:List A3} (h:bh w0 b l) (hb:b∉G) {g:Option Bool} {el:El} {K:el.T->Prop} {x:el.T} (hv:l5 l (o+n) el=some x) (k:K x):aj w g (ae (some ⟨b,o,none⟩) n) el K:=by
 rw[aL];exact .gm H h hb hv k
theorem jz.start (w0 w:A1) (e:El):jz w0 w e (none,0,0) []:=jz.nil w0 w e
theorem aH.more (H:aH D G w0 w L) (h:Ext w w') {b:Nat} {l:List A3} (hb:w.heap.size<=b) (k:bh w' b l):aH D G w0 w' ((b,l)::L):=by
 have c:=H.ext h;refine⟨c.fr,λx a=>?_,λx a=>?_,?_,c.nv⟩
 ·rcases B5.1 a with rfl|a
  ·exact k
  ·exact c.cX x a
 ·rcases B5.1 a with rfl|a
  ·exact .inl (Di H.fr.size hb)
  ·exact c.own x a
 ·refine Bb.2 ⟨λd=>?_,H.nd⟩;obtain⟨x,a,e⟩:=AX.1 d;have:=(H.cX x a).lt;rw[e] at this;exact absurd this (Nat.not_lt.2 hb)
theorem aH.got (H:aH D G w0 w L) (h:Ext w w') {e:El} {r:Option A9×Nat×Nat} {xs:List e.T} (f:jz w w' e r xs) (g:xs≠[]):
 ∃b c rest,r=(some ⟨b,0,none⟩,xs.length,c)/\aH D G w0 w' ((b,flat e xs++rest)::L):=by
 obtain⟨d,h2,a⟩:=f;obtain⟨p,n,c⟩:=r;rcases a with ⟨_,a, _⟩|⟨b,l,a1,i,j, _,k⟩
 ·exact absurd a g
 ·simp only at a1 d;subst a1;subst d;refine⟨b,c,l.drop (xs.length*aK e),rfl,H.more h i ?_⟩;have el:l=flat e xs++l.drop (xs.length*aK e):=by rw[<-k,I2]
  rw[<-el];exact j
theorem fS {α:Sort _} {e:α} {K:α->Prop} (k:K e): ∀x,x=e->K x:=λx a=>by rw[a];exact k
def MC (P:Bg) (c:DA) (args:Nat->List A3) (n:Nat) (b:Nat->Option (List A3)) (d:A1->Prop):Prop:=
 ∀(y:Nat) (w:A1) (J:Nat->A1->Prop) (a:A1->Prop),
  (∀i w w',J i w->Ext w w'->J i w')->(∀w w',a w->Ext w w'->a w')->(∀i w,J i w->d w)->
  (∀i,i<n->b i=none-> ∀w,J i w->J (i+1) w)->
  (∀i v,i<n->b i=some v-> ∀w (R:Bool->A1->Prop),J i w->(∀w',J (i+1) w'->R true w')->(∀w',a w'->R false w')->jZ P y v w R)->
  J 0 w->Calls P c ⟨args y⟩ w (λe w'=> ∃v,e= .returned v/\(J n w'\/a w'))
section
variable {D G:List Nat} {w0 w:A1} {L:List (Nat×List A3)}
def tr (D G:List Nat) (w0 w:A1) (L:List (Nat×List A3)) (l:Nat) (rec:Loop):Prop:=w0.heap.size<=l/\aH D G w0 w L/\bZ w l rec .ready none
def SD (D G:List Nat) (w0 w:A1) (L:List (Nat×List A3)) (l:Nat) (rec:Loop):Prop:=w0.heap.size<=l/\aH D G w0 w L/\bZ w l rec .busy none
def PN (D G:List Nat) (w0 w:A1) (L:List (Nat×List A3)) (l:Nat) (rec:Loop) (j:Code):Prop:=w0.heap.size<=l/\aH D G w0 w L/\bZ w l rec .done (some j)
theorem oz {l:Nat} {rec:Loop} {st:LoopState} {b:Option Code} (H:aH D G w0 w L) (h:bZ w l rec st b):l∉D/\l∉L.map (·.1):=by
 refine⟨λa=>?_,λa=>?_⟩
 ·have:=(H.nv l a).2;unfold bZ at h;rw[h] at this;cases this
 ·obtain⟨x,c,e⟩:=AX.1 a;exact aH.cN (H.cX x c) h (λ_ _ _ hc=>by cases hc) e
theorem aH.oS {l:Nat} {rec:Loop} {st:LoopState} {a:Option Code} (H:aH D G w0 w L) (b:w0.heap.size<=l) (h:bZ w l rec st a) (c:LoopState) (d:Option Code):aH D G w0 (RX.oS w l rec c d) L:=
 H.putObj b h (λ_ _ _ hc=>by cases hc) (oz H h).1
theorem zd.go {l n m:Nat} {rec:Loop} {K:Prop} (h:tr D G w0 w L l rec) (a:n=m) (k:K):zd l rec n m w K:=⟨⟨none,h.2.2⟩,a,k⟩
theorem xG.go {l:Nat} {rec:Loop} {K:A1->Prop} (h:tr D G w0 w L l rec) (k: ∀wb,At (L.map (·.1)) wb wb L->SD D G w0 wb L l rec->K wb):xG l rec w K:=λg b=>by
 obtain⟨c,H,e⟩:=h;have f:=H.ext b;have a:=e.ext b;have d:=f.oS c a .busy none;exact⟨none,a,k _ d.again ⟨c,d,a.put .busy none⟩⟩
theorem oJ.go {l:Nat} {rec:Loop} {j:Option Code} {wb b:A1} {L':List (Nat×List A3)} {R:Bool->A1->Prop} (h:SD D G w0 wb L l rec) (e:At (L.map (·.1)) wb b L')
 (k: ∀a,w0.heap.size<=l->aH D G w0 a L'->bZ a l rec (if j.isNone then .ready else .done) j->R j.isNone a):oJ l rec j b R:=λa f=>by
 obtain⟨g,H,c⟩:=h;have i:=(H.join (λx m=>m) e).ext f;have n:bZ b l rec .busy none:=c.same (e.fr.block l c.lt (oz H c).2);have d:=n.ext f;exact⟨.busy,none,d,k _ g (i.oS g d _ _) (d.put _ _)⟩
theorem oJ.next {l:Nat} {rec:Loop} {wb e:A1} {L':List (Nat×List A3)} {R:Bool->A1->Prop} (h:SD D G w0 wb L l rec) (f:At (L.map (·.1)) wb e L') (k: ∀d,tr D G w0 d L' l rec->R true d):oJ l rec none e R:=
 oJ.go h f λd a b c=>k d ⟨a,b,c⟩
theorem oJ.left {l:Nat} {rec:Loop} {j:Code} {wb e:A1} {L':List (Nat×List A3)} {R:Bool->A1->Prop} (h:SD D G w0 wb L l rec) (f:At (L.map (·.1)) wb e L') (k: ∀d,PN D G w0 d L' l rec j->R false d):oJ l rec (some j) e R:=
 oJ.go h f λd a b c=>k d ⟨a,b,c⟩
theorem c9.none {l:Nat} {rec:Loop} {Kn Kr:A1->Prop} {Kx:Nat->A1->Prop} (h:tr D G w0 w L l rec) (k: ∀a,aH D G w0 a L->Kn a):c9 l rec w Kn Kx Kr:=
 ⟨.ready,.none,h.2.2,by simp,k _ (h.2.1.oS h.1 h.2.2 _ _)⟩
theorem c9.ret {l:Nat} {rec:Loop} {Kn Kr:A1->Prop} {Kx:Nat->A1->Prop} (h:PN D G w0 w L l rec .ret) (k: ∀a,aH D G w0 a L->Kr a):c9 l rec w Kn Kx Kr:=
 ⟨.done,.some .ret,h.2.2,by simp,k _ (h.2.1.oS h.1 h.2.2 _ _)⟩
theorem rV: ∀(m:Nat) (z:List A3) (i:Nat),i<m*z.length->(EF m z).flatten[i]? =z[i % z.length]?
 |0,z,i,h=>by simp at h
 |m+1,z,i,h=>by
  rw[List.replicate_succ,List.flatten_cons];by_cases hi:i<z.length
  ·rw[HP hi,MJ hi]
  ·rw[I_ (by omega),rV m z (i - z.length) (by rw[Eo] at h;omega), <-Nat.mod_eq_sub_mod (by omega)]
theorem Ca (m:Nat) (z:List A3):k8 ⟨z⟩ (m*z.length)=⟨(EF m z).flatten⟩:=by
 have b:(EF m z).flatten.length=m*z.length:=by simp
 apply Array.ext';apply EE;intro i;unfold k8;by_cases h:i<m*z.length
 ·have h0: ¬ m*z.length=0:=by omega
  have c:0<z.length:=by
   rcases Nat.eq_zero_or_pos z.length with e|e
   ·rw[e,Nat.mul_zero] at h;omega
   ·exact e
  rw[rV m z i h];have a:i % z.length<z.length:=Nat.mod_lt _ c;simp only[if_neg h0,Array.toList_map,Array.toList_range,E5,List.getElem?_range h,Option.map_some];show some ((Array.mk z)[i % z.length]!)= _;rw[Bd a];simp[a]
 ·rw[HH (by simp;omega),HH (by rw[b];omega)]
theorem Hp.go (H:aH D G w0 w L) {bytes size:Nat} {n m:Int} {z:List A3} {e:ED} {K:Nat->A1->Prop} (a:size=z.length) (h0:0<=n) (c:n<=m) (h2:m<4611686018427387904) (d:bytes*m<=281474976710656)
 (k: ∀b w1,aH D G w0 w1 ((b,(EF m.toNat z).flatten)::L)->K b w1):Hp w bytes size n m ⟨z⟩ e K:=λw1 h=>by
 refine⟨⟨h0,c,by omega,d⟩,?_⟩;rw[a,Ca];exact k _ _ ((H.ext h).alloc _ e)
theorem jv (e:El) (x:e.T) (m:Nat):flat e (EF m x)=(EF m (cellsOf e x)).flatten:=by
 simp[flat,List.flatMap_replicate]
theorem vp.copy (H:aH D G w0 w L) {e:El} {ys:List e.T} {b n c:Nat} {l:List A3} (hb:bh w b l) (f:l.take (ys.length*aK e)=flat e ys) (g:n=ys.length) (h:ys≠[]) (j:j8 e=true) {t:ED} {size bytes:Nat} {z:Array A3} (m:size=aK e) (o:z.size=aK e) (p:ys.length*bytes<=140737488355328)
 {R:Option A9×Nat×Nat->A1->Prop} (k: ∀a d rest w',aH D G w0 w' ((a,flat e ys++rest)::L)->R (some ⟨a,0,none⟩,n,d) w'):
 vp w t size bytes z (none,0,0) (some ⟨b,0,none⟩,n,c) R:=by
 subst m;subst g;refine ju (w0:=w) (xs:=[]) (ys:=ys) (jz.nil w w e) (Ext.refl w) j rfl ?_ o (by simpa using p) λs' w' q r _ _ _=>?_
 ·refine hb.xD (aN e ys) λi hi=>?_;rw[<-f,B3,LZ hi]
 ·obtain⟨a,d,rest,rfl,s⟩:=H.got r q (by simpa using h);exact k a d rest w' (by simpa using s)
theorem oN.go {r:Nat} {K:A1->Prop} (H:aH [r] G w0 w L) (k: ∀w1,At G w0 w1 L->K w1):oN [r] w K:=λw1 h=>by
 have a:=H.ext h;have b:=a.nv r (by simp);refine⟨⟨b.2,trivial⟩,k _ ?_⟩;have c:At G w0 w1 L:=⟨a.fr,a.cX,a.own,a.nd,λx d=>by cases d⟩;exact c.putObj b.1 b.2 (λ_ _ _ hc=>by cases hc) (by simp)
theorem vr.inv {P:Bg} {u:DA} {args:Nat->List A3} {ps:Array Nat} {T:Type} {s:T->List A3} {y:Nat->Loop->T->A1->(Bool->A1->Prop)->Prop} {t:Nat->Loop->A1->Prop} (H:aH D G w0 w L)
 {n:Nat} {p:Nat->Option (List A3)} {z:A1->Prop} (E:MC P u args n p z) (Inv:Nat->List (Nat×List A3)->Prop) (Q:Code->List (Nat×List A3)->Prop) (h0:Inv 0 L)
 (F: ∀I i w' L',Inv i L'->aH I G w0 w' L'->z w') (J: ∀i L',i<n->p i=none->Inv i L'->Inv (i+1) L') (K: ∀i v,i<n->p i=some v-> ∃x,v=s x)
 (M: ∀i x L',i<n->p i=some (s x)->Inv i L'-> ∀r l rec A (R:Bool->A1->Prop),tr (r::D) G w0 A L' l rec->(∀c w',Inv (i+1) c->tr (r::D) G w0 w' c l rec->R true w')->(∀j c w',Q j c->PN (r::D) G w0 w' c l rec j->R false w')->y l rec x A R)
 (N: ∀L' r rec d,Inv n L'->tr (r::D) G w0 d L' (r+1) rec->t r rec d) (O: ∀j L' r rec d,Q j L'->PN (r::D) G w0 d L' (r+1) rec j->t r rec d):vr P u args ps w s y t:=by
 intro w1 S rec _ _ U V W;have B:=H.ext S;have sz:(w1.alloc (.deferred (some []))).heap.size=w1.heap.size+1:=jt _ _;have X:rec={rec with state:= .ready,pending:= .none}:=by rw[<-U, <-V]
 have Y:w0.heap.size<=w1.heap.size:=B.fr.size;have Z:tr (w1.heap.size::D) G w0 ((w1.alloc (.deferred (some []))).alloc (.loop rec)) L (w1.heap.size+1) rec:=by
  refine⟨by omega,?_,?_⟩
  ·have f:=(B.qI (.deferred (some []))).qI (.loop rec);refine⟨f.fr,f.cX,f.own,f.nd,λr g=>?_⟩;rcases B5.1 g with rfl|g
   ·exact⟨Y,(Ext.alloc _ _).obj (fA w1 _)⟩
   ·exact f.nv r g
  ·have:=fA (w1.alloc (.deferred (some []))) (.loop rec);rw[sz] at this;unfold bZ;rw[this, <-X]
 refine Calls.mono (E (w1.heap.size+1) _ (λi w'=> ∃L',Inv i L'/\tr (w1.heap.size::D) G w0 w' L' (w1.heap.size+1) rec) (λw'=> ∃j L',Q j L'/\PN (w1.heap.size::D) G w0 w' L' (w1.heap.size+1) rec j) ?_ ?_ ?_ ?_ ?_ ⟨L,h0,Z⟩) ?_
 ·exact λi a b ⟨L',hi,h⟩ k=>⟨L',hi,h.1,h.2.1.ext k,h.2.2.ext k⟩
 ·exact λa b ⟨j,L',m,h⟩ k=>⟨j,L',m,h.1,h.2.1.ext k,h.2.2.ext k⟩
 ·exact λi a ⟨L',hi,h⟩=>F _ i a L' hi h.2.1
 ·exact λi hi q a ⟨L',o,h⟩=>⟨L',J i L' hi q o,h⟩
 ·intro i v hi q a R ⟨L',o,hJ⟩ ZS ZT;obtain⟨x,rfl⟩:=K i v hi q;exact W x a R (M i x L' hi q o _ _ _ _ R hJ (λc w' Tg g=>ZS w' ⟨c,Tg,g⟩) λj L' w' m hl=>ZT w' ⟨j,L',m,hl⟩)
 ·rintro e a ⟨v,C,⟨L',o,h⟩|⟨j,L',m,h⟩⟩
  ·exact⟨v,C,N L' _ _ _ o h⟩
  ·exact⟨v,C,O j L' _ _ _ m h⟩
theorem vr.go {P:Bg} {m:DA} {args:Nat->List A3} {ps:Array Nat} {T:Type} {e:T->List A3} {o:Nat->Loop->T->A1->(Bool->A1->Prop)->Prop} {f:Nat->Loop->A1->Prop} (H:aH D G w0 w L)
 {n:Nat} {c:Nat->Option (List A3)} {p:A1->Prop} (q:MC P m args n c p) (Ls:Nat->List (Nat×List A3)) (Q:Code->List (Nat×List A3)->Prop) (h0:Ls 0=L)
 (s: ∀g i w',aH g G w0 w' (Ls i)->p w') (t: ∀i,i<n->c i=none->Ls (i+1)=Ls i) (u: ∀i v,i<n->c i=some v-> ∃x,v=e x)
 (y: ∀i x,i<n->c i=some (e x)-> ∀r l rec d (R:Bool->A1->Prop),tr (r::D) G w0 d (Ls i) l rec->(∀w',tr (r::D) G w0 w' (Ls (i+1)) l rec->R true w')->(∀j L' w',Q j L'->PN (r::D) G w0 w' L' l rec j->R false w')->o l rec x d R)
 (z: ∀r rec a,tr (r::D) G w0 a (Ls n) (r+1) rec->f r rec a) (A: ∀j L' r rec a,Q j L'->PN (r::D) G w0 a L' (r+1) rec j->f r rec a):vr P m args ps w e o f:=
 vr.inv H q (λi L'=>L'=Ls i) Q h0.symm (λg i w' L' b h=>s g i w' (by rw[<-b];exact h)) (λi L' hi k b=>by rw[t i hi k];exact b) u
  (λi x L' hi k b r l rec d R B C h2=>y i x hi k r l rec d R (by rw[<-b];exact B) (λw' h=>C _ w' rfl h) h2) (λL' r rec a b h=>z r rec a (by rw[<-b];exact h)) A
theorem aH.Uv (H:aH D G w0 w L) {b:Nat} (hb:b<w0.heap.size) (a:b∉G):b∉L.map (·.1):=λc=>by
 obtain⟨x,d,e⟩:=AX.1 c;rcases H.own x d with h|h
 ·rw[e] at h;omega
 ·rw[e] at h;exact a h
theorem aH.eK {wb w1:A1} {L':List (Nat×List A3)} (H:aH D G w0 wb L) (K:At (L.map (·.1)) wb w1 L') {b:Nat} {l:List A3} (h:bh w0 b l) (a:b∉G):bh w1 b l:=
 K.gm (H.gm h a) (H.Uv h.lt a)
theorem At.oe {b:Nat} {l:List A3} (h:bh w b l):At [b] w w [(b,l)] where
 fr:=Fr.refl _ w
 cX:=λx a=>by rw[Bq.1 a];exact h
 own:=λx a=> .inr (by rw[Bq.1 a];simp)
 nd:=by simp
 nv:=λx a=>by cases a
theorem eC {w:A1} {b:Nat} {e:El} {xs:List e.T} {rest:List A3} (h:bh w b (flat e xs++rest)) {i:Nat} {x:e.T} (a:xs[i]? =some x):cI w (ae (some ⟨b,0,none⟩) (i*aK e)) e x:=
 (Sl.iB h (by rw[HQ (by rw[aN];exact E4 _),HT (by rw[aN];exact E4 _)]) i x a).2
theorem uA (e:El): ∀(xs:List e.T) (i:Nat) (y:e.T) (rest:List A3),i<xs.length->(flat e xs++rest).take (i*aK e)++(cellsOf e y++(flat e xs++rest).drop (i*aK e+(cellsOf e y).length))=flat e (xs.set i y)++rest
 |[],i,y,rest,h=>by simp at h
 |x::xs,0,y,rest, _=>by
  simp only[flat,MD,In,Hz,I1,B3,List.set_cons_zero,B4];congr 1;rw[cT, <-cT e x,List.drop_left]
 |x::xs,i+1,y,rest,h=>by
  have a:=uA e xs i y rest (by simpa using h);have b:(i+1)*aK e=(cellsOf e x).length+i*aK e:=by rw[cT,Eo];omega
  simp only[flat,MD,List.set_cons_succ,B4] at a ⊢;rw[b,List.take_length_add_append,B4,Nat.add_assoc,List.drop_length_add_append,a]
theorem aw.flat (j:Nat) (H:aH D G w0 w L) {b i:Nat} {e:El} {xs:List e.T} {rest a:List A3} (y:e.T) {K:A1->Prop} (d:L[j]? =some (b,RX.flat e xs++rest)) (hv:a=cellsOf e y) (f:j8 e=true) (hi:i<xs.length)
 (k: ∀w1,aH D G w0 w1 (L.set j (b,RX.flat e (xs.set i y)++rest))->K w1):aw w (ae (some ⟨b,0,none⟩) (i*aK e)) a K:=by
 rw[aL,B3];subst hv;refine aw.at j H d ?_ ?_ λw1 c=>k w1 ?_
 ·have:=kf e [y] f;simpa[RX.flat] using this
 ·rw[cT,Ev,aN];have:(i+1)*aK e<=xs.length*aK e:=Nat.mul_le_mul_right _ hi;rw[Eo] at this;omega
 ·rw[uA e xs i y rest hi] at c;exact c
theorem aB.zv (H:aH D G w0 w L) (j:Nat) {b:Nat} {l l':List A3} (c:L[j]? =some (b,l)) {P:Bg} {f:DA} {s:Sh} {args:List A3} {v:s.T} {K:s.T->A1->Prop}
 (hc: ∀w1,aH D G w0 w1 L->ar P f s args w1 (λx w'=>x=v/\bh w' b l'/\Fr [b] w1 w')) (k: ∀a,aH D G w0 a (L.set j (b,l'))->K v a):aB P f s args w K:=λw1 h=>
 (hc w1 (H.ext h)).mono λx a ⟨d,hb,e⟩=>by subst d;exact k a ((H.ext h).mod j c e hb)
theorem aB.val (H:aH D G w0 w L) {P:Bg} {f:DA} {s:Sh} {args:List A3} (v:s.T) {K:s.T->A1->Prop}
 (hc: ∀w1,aH D G w0 w1 L->ar P f s args w1 (λx w'=>x=v/\Ext w1 w')) (k: ∀a,aH D G w0 a L->K v a):aB P f s args w K:=λw1 h=>
 (hc w1 (H.ext h)).mono λx a ⟨b,c⟩=>by subst b;exact k a ((H.ext h).ext c)
theorem ag.of {P:Bg} {f:DA} {s:Sh} {args:List A3} {v:s.T} (h: ∀w',Ext w w'->ar P f s args w' (λx a=>x=v/\Ext w' a)):ag P f args w (s.gj v):=
 λw' b=>aS (h w' b)
theorem aH.grow {e:El} {s:Option A9×Nat×Nat} {xs:List e.T} {x:e.T} {b:Nat} {Ls L0:List (Nat×List A3)} (H:aH D G w0 w ((b,cellsOf e x)::(Ls++L0)))
 (q:(s=(none,0,0)/\xs=[]/\Ls=[])\/ ∃bs c rest,s=(some ⟨bs,0,none⟩,xs.length,c)/\Ls=[(bs,flat e xs++rest)]/\(flat e xs++rest).length=c*aK e/\xs.length<=c)
 (S:j8 e=true) {t:ED} {size bytes:Nat} {z:Array A3} (v:size=aK e) (U:z.size=aK e) (hb:(xs.length+1)*bytes<=140737488355328)
 {R:Option A9×Nat×Nat->A1->Prop} (k: ∀bs c rest w',(flat e (xs++[x])++rest).length=c*aK e->xs.length+1<=c->aH D G w0 w' ((bs,flat e (xs++[x])++rest)::L0)->R (some ⟨bs,0,none⟩,xs.length+1,c) w'):
 vp w t size bytes z s (some ⟨b,0,none⟩,1,1) R:=by
 subst v;have V:(pa 0 w).heap.size=0:=fB (Ey _);have W:jz (pa 0 w) w e s xs:=by
  rcases q with ⟨rfl,rfl, _⟩|⟨bs,c,rest,rfl,rfl,m,h2⟩
  ·exact jz.nil _ _ _
  ·refine⟨rfl,h2,.inr ⟨bs, _,rfl,by rw[V];exact Ey _,H.get (i:=1) rfl,m,?_⟩⟩;rw[HQ (by rw[aN];exact E4 _),HT (by rw[aN];exact E4 _)]
 have X:bh w b (cellsOf e x):=H.get (i:=0) rfl;refine ju (ys:=[x]) W (mY (Ey _)) S rfl ?_ U hb λs' w' Y g K v L=>?_
 ·refine X.xD (aN e [x]) λj hj=>?_;simp[flat]
 ·obtain⟨p,n,c⟩:=s';obtain⟨m,h2,M⟩:=Y;simp only at m h2 M L;have Z:(xs++[x]).length=xs.length+1:=by simp
  rcases M with ⟨_,hx, _⟩|⟨bs,l,a1, _,a3,a4,a5⟩
  ·simp at hx
  ·subst a1;rw[Z] at m h2;subst m;have el:l=flat e (xs++[x])++l.drop ((xs++[x]).length*aK e):=by rw[<-a5,I2]
   refine k bs c (l.drop ((xs++[x]).length*aK e)) w' (by rw[<-el];exact a4) h2 ?_;rw[<-el];have Ws: ∃E,Fr E w w'/\(∀y∈E,y∈Ls.map (·.1)):=by
    rcases q with ⟨rfl, _,rfl⟩|⟨F,co,N,rfl,rfl, _, _⟩
    ·exact⟨[],⟨g.os,g.tape,g.output,v,λy d _=>K y d (λa I=>by cases I)⟩,λy d=>by cases d⟩
    ·exact⟨[F],⟨g.os,g.tape,g.output,v,λy d hn=>K y d (λa I=>by cases I;simpa using hn)⟩,λy d=>by simpa using d⟩
   obtain⟨E,O,J⟩:=Ws;have A:=H.nd;simp only[DS,H6,Bb,Hb,Do] at A;have P: ∀y∈Ls.map (·.1),w0.heap.size<=y\/y∈G:=λy d=>by
    obtain⟨u,o,rfl⟩:=AX.1 d;exact H.own u (BA _ (Br _ o))
   have Q:bs∈Ls.map (·.1)\/w.heap.size<=bs:=by
    rcases L with ⟨a,f,B⟩|⟨a,f,B⟩|f
    ·cases f;rcases q with ⟨rfl, _, _⟩|⟨F,co,N,rfl,rfl, _, _⟩
     ·cases B
     ·cases B;exact .inl (by simp)
    ·cases f;exact .inr B
    ·rcases q with ⟨rfl, _, _⟩|⟨F,co,N,rfl,rfl, _, _⟩
     ·cases f
     ·exact absurd (congrArg (λz=>z.2.1) f) (by simp)
   refine H.frame O (λy d=>P y (J y d)) (λr hr d=>?_) (λy d=>?_) (λy d=>?_) ?_
   ·obtain⟨u,o,f⟩:=AX.1 (J r d);exact aH.cN (H.cX u (BA _ (Br _ o))) (H.nv r hr).2 (λ_ _ _ hc=>by cases hc) f
   ·rcases B5.1 d with rfl|d
    ·exact a3
    ·refine O.cX (λC=>?_) (H.cX y (BA _ (C7 _ d)));exact A.2.2.2 y.1 (J _ C) y.1 (AX.2 ⟨y,d,rfl⟩) rfl
   ·rcases B5.1 d with rfl|d
    ·rcases Q with h|h
     ·exact P _ h
     ·exact .inl (Di H.fr.size h)
    ·exact H.own y (BA _ (C7 _ d))
   ·refine Bb.2 ⟨λC=>?_,A.2.2.1⟩;rcases Q with h|h
    ·exact A.2.2.2 bs h bs C rfl
    ·obtain⟨u,o,f⟩:=AX.1 C;have:=(H.cX u (BA _ (C7 _ o))).lt;simp only at f h;omega
def jh (e:El) (rows:List (Nat×List A3)) (r:Option A9×Nat×Nat) (xs:List e.T):Prop:=
 r.2.1=xs.length/\((xs=[]/\rows=[])\/ ∃b rest,r.1=some ⟨b,0,none⟩/\rows=[(b,RX.flat e xs++rest)])
theorem aH.XN {w':A1} (H:aH D G w0 w L) (h:Ext w w') {e:El} {r:Option A9×Nat×Nat} {xs:List e.T} (a:jz w w' e r xs): ∃rows,aH D G w0 w' (L++rows)/\jh e rows r xs:=by
 by_cases d:xs=[]
 ·exact⟨[],by rw[HO];exact H.ext h,a.len,.inl ⟨d,rfl⟩⟩
 ·obtain⟨b,c,rest,rfl,f⟩:=H.got h a d;exact⟨[(b,RX.flat e xs++rest)],f.perm (List.perm_append_singleton _ _),rfl,.inr ⟨b,rest,rfl,rfl⟩⟩
theorem jh.sl {e:El} {rows:List (Nat×List A3)} {r:Option A9×Nat×Nat} {xs:List e.T} (h:jh e rows r xs) (H:aH D G w0 w L) (a: ∀x∈rows,x∈L):Sl w e r.1 xs:=by
 rcases h.2 with ⟨rfl, _⟩|⟨b,rest,c,rfl⟩
 ·intro i x d;simp at d
 ·rw[c];refine Sl.iB (H.cX _ (a _ (Bq.2 rfl))) ?_;rw[HQ (by rw[aN];exact E4 _),HT (by rw[aN];exact E4 _)]
theorem aB.QF (H:aH D G w0 w L) {P:Bg} {f:DA} {args:List A3} {e:El} {xs:List e.T} {K:(Option A9×Nat×Nat)->A1->Prop}
 (hc: ∀w',aH D G w0 w' L->ar P f (.el (.one .slice)) args w' (λr a=>jz w' a e r xs/\Ext w' a)) (k: ∀r rows w1,aH D G w0 w1 (L++rows)->jh e rows r xs->K r w1):
 aB P f (.el (.one .slice)) args w K:=λw1 h=>(hc w1 (H.ext h)).mono λx b ⟨c,d⟩=>by
 obtain⟨rows,g,i⟩:=(H.ext h).XN d c;exact k x rows b g i
end
def NC (o:Obj):Prop:= ∀a t f,o≠ .cells a t f
def Ob (l:Nat) (w w':A1):Prop:= ∀r o,r≠l->NC o->w.heap[r]? =some o->w'.heap[r]? =some o
theorem Ob.trans {l:Nat} {a b c:A1} (h:Ob l a b) (k:Ob l b c):Ob l a c:=λr o d e f=>k r o d e (h r o d e f)
theorem Ob.qH {l:Nat} {a b:A1} (h:Ext a b):Ob l a b:=λ_ _ _ _ c=>h.obj c
theorem Ob.put (l:Nat) (w:A1) (o:Obj):Ob l w (w.putObj l o):=λr o' a _ b=>by rw[eR a];exact b
structure JK {T:Type} (bm:Nat) (mc:List A3->Prop) (J:List T->List (Nat×List A3)->List (Nat×Obj)->A1->Prop):Prop where
 step: ∀{a X O w w' l' Y},J a X O w->Fr [bm] w w'->bh w' bm l'->mc l'->(∀y∈Y,w.heap.size<=y.1/\bh w' y.1 y.2)->(Y.map (·.1)).Nodup->J a (Y++X) O w'
 mem: ∀{a X O w},J a X O w-> ∃l,mc l/\bh w bm l
 cX: ∀{a X O w x},J a X O w->x∈X->x.1≠bm/\bh w x.1 x.2
 obj: ∀{a X O w r o},J a X O w->(r,o)∈O->w.heap[r]? =some o
 VA: ∀{a X O w o},J a X O w->NC o->J a X ((w.heap.size,o)::O) (w.alloc o)
 SE: ∀{a X O w r o o'},J a X ((r,o)::O) w->NC o'->J a X ((r,o')::O) (w.putObj r o')
 sub: ∀{a X O X' O' w},J a X O w->(∀x∈X',x∈X)->O'.Sublist O->J a X' O' w
 perm: ∀{a X O O' w},J a X O w->O'.Perm O->J a X O' w
def Yd {T:Type} (P:Bg) (y:Nat) (b:T->List A3) (N:Nat) (J:List T->List (Nat×List A3)->List (Nat×Obj)->A1->Prop):Prop:=
 ∀a x X O w (R:Bool->A1->Prop),a.length<N->J a X O w->(∀w',J (a++[x]) X O w'->R true w')->jZ P y (b x) w R
def VB {T:Type} (P:Bg) (b:DA) (args:Nat->List A3) (c:T->List A3) (N bm:Nat) (mc:List A3->Prop) (d:List (Nat×List A3)) (xs:List T):Prop:=
 ∀(y:Nat) (J:List T->List (Nat×List A3)->List (Nat×Obj)->A1->Prop),JK bm mc J->Yd P y c N J-> ∀a X O w,a.length+xs.length<=N->(∀x∈d,x∈X)->J a X O w->
  Calls P b ⟨args y⟩ w (λe w'=> ∃v,e= .returned v/\J (a++xs) X O w')
section
variable {T:Type} {bm:Nat} {mc:List A3->Prop} {J:List T->List (Nat×List A3)->List (Nat×Obj)->A1->Prop} {a:List T} {X:List (Nat×List A3)} {O:List (Nat×Obj)} {w w':A1}
theorem JK.ext (K:JK bm mc J) (j:J a X O w) (h:Ext w w'):J a X O w':=by
 obtain⟨l,b,h2⟩:=K.mem j;exact K.step (Y:=[]) j (.qH h) (h2.ext h) b (λ_ c=>by cases c) HL
theorem JK.pf (K:JK bm mc J) (j:J a X O w) {Y:List (Nat×List A3)} {l':List A3} (H:At [bm] w w' (Y++[(bm,l')])) (d:mc l'):J a (Y++X) O w':=by
 have b:=H.nd;rw[H6,Hb] at b;refine K.step j H.fr (H.cX (bm,l') (by simp)) d (λy c=>⟨?_,H.cX y (Br _ c)⟩) b.1;rcases H.own y (Br _ c) with h|h
 ·exact h
 ·exfalso;rw[Bq] at h;exact b.2.2 y.1 (AX.2 ⟨y,c,rfl⟩) bm (by simp) h
theorem JK.VC (K:JK bm mc J) (j:J a X O w): ∃l,mc l/\At [bm] w w [(bm,l)]:=by
 obtain⟨l,b,h2⟩:=K.mem j;exact⟨l,b,At.oe h2⟩
theorem JK.close (K:JK bm mc J): ∀(D:List Nat) {w:A1},J a X (D.map (λr=>(r,Obj.deferred (some [])))++O) w->zK D w/\J a X O (j7 D w)
 |[], _,j=>⟨trivial,j⟩
 |r::D,w,j=>by
  have h:=K.obj j (r:=r) (o:= .deferred (some [])) (by simp);have b:J a X ((r,.deferred none)::(D.map (λr=>(r,Obj.deferred (some [])))++O)) (w.putObj r (.deferred none)):=K.SE (o':= .deferred none) j (λ_ _ _ e=>by cases e);obtain⟨c,h2⟩:=K.close D (K.sub b (λ_ h=>h) (B2 _ _));exact⟨⟨h,c⟩,h2⟩
theorem JK.oN (K:JK bm mc J) (D:List Nat) (j:J a X (D.map (λr=>(r,Obj.deferred (some [])))++O) w) {Q:A1->Prop} (k: ∀w1,J a X O w1->Q w1):oN D w Q:=λw1 b=>by
 obtain⟨h2,c⟩:=K.close D (K.ext j b);exact⟨h2,k _ c⟩
abbrev Ex (rec:Loop):Obj:= .loop {rec with state:= .ready,pending:=none}
abbrev YH (rec:Loop):Obj:= .loop {rec with state:= .busy,pending:=none}
theorem C' (rec:Loop) (st:LoopState) (a:Option Code):NC (.loop {rec with state:=st,pending:=a}):=λ_ _ _ e=>by cases e
theorem zd.PW (K:JK bm mc J) {l n m:Nat} {rec:Loop} (j:J a X ((l,Ex rec)::O) w) {Q:Prop} (b:n=m) (k:Q):zd l rec n m w Q:=⟨⟨none,K.obj j (by simp)⟩,b,k⟩
theorem xG.PW (K:JK bm mc J) {l:Nat} {rec:Loop} (j:J a X ((l,Ex rec)::O) w) {Q:A1->Prop} (k: ∀wb,J a X ((l,YH rec)::O) wb->Q wb):xG l rec w Q:=λd c=>by
 have b:=K.ext j c;exact⟨none,K.obj b (by simp),k _ (K.SE b (C' rec _ _))⟩
theorem oJ.PW (K:JK bm mc J) {l:Nat} {rec:Loop} (j:J a X ((l,YH rec)::O) w) {R:Bool->A1->Prop} (k: ∀b,J a X ((l,Ex rec)::O) b->R true b):oJ l rec none w R:=λe d=>by
 have c:=K.ext j d;exact⟨.busy,none,K.obj c (by simp),k _ (K.SE c (C' rec _ _))⟩
theorem c9.PW (K:JK bm mc J) {l:Nat} {rec:Loop} (j:J a X ((l,Ex rec)::O) w) {Kn Kr:A1->Prop} {Kx:Nat->A1->Prop} (k: ∀b,J a X O b->Kn b):c9 l rec w Kn Kx Kr:=
 ⟨.ready,.none,K.obj j (by simp),by simp,k _ (K.sub (K.SE j (C' rec _ _)) (λ_ h=>h) (B2 _ _))⟩
end
section
variable {D G:List Nat} {w0 w:A1} {L:List (Nat×List A3)}
theorem xG.YI {l:Nat} {rec:Loop} {K:A1->Prop} (h:tr D G w0 w L l rec) (k: ∀wb,At (L.map (·.1)) wb wb L->SD D G w0 wb L l rec->Ob l w wb->K wb):xG l rec w K:=λg a=>by
 obtain⟨c,H,e⟩:=h;have f:=H.ext a;have b:=e.ext a;have d:=f.oS c b .busy none;exact⟨none,b,k _ d.again ⟨c,d,b.put .busy none⟩ ((Ob.qH a).trans (Ob.put _ _ _))⟩
theorem Ob.pf {l:Nat} {wb b:A1} {L':List (Nat×List A3)} (H:aH D G w0 wb L) (c:At (L.map (·.1)) wb b L'):Ob l wb b:=λr o _ d a=>by
 rw[c.fr.block r (Es.1 a).1 (λf=>?_)]
 ·exact a
 ·obtain⟨x,g,e⟩:=AX.1 f;exact aH.cN (H.cX x g) a d e
theorem oJ.fZ {l:Nat} {rec:Loop} {wb b:A1} {L':List (Nat×List A3)} {R:Bool->A1->Prop} (h:SD D G w0 wb L l rec) (c:At (L.map (·.1)) wb b L') (k: ∀a,tr D G w0 a L' l rec->Ob l wb a->R true a):oJ l rec none b R:=λa d=>by
 obtain⟨g,H,e⟩:=h;have i:=(H.join (λx j=>j) c).ext d;have m:bZ b l rec .busy none:=e.same (c.fr.block l e.lt (oz H e).2);have f:=m.ext d;exact⟨.busy,none,f,k _ ⟨g,i.oS g f _ _,f.put _ _⟩ (((Ob.pf H c).trans (Ob.qH d)).trans (Ob.put _ _ _))⟩
theorem vr.HU {T:Type} {P:Bg} {fU:DA} {args:Nat->List A3} {ps:Array Nat} {em:T->List A3} {Rd:Nat->Loop->T->A1->(Bool->A1->Prop)->Prop} {Af:Nat->Loop->A1->Prop} {N bm:Nat} {mc:List A3->Prop} {X0:List (Nat×List A3)} {xs:List T}
 {M:List A3} {SF Lb:List (Nat×List A3)} (H:aH D G w0 w (SF++((bm,M)::Lb))) (ZU:mc M) (It:VB P fU args em N bm mc X0 xs) (hX: ∀x∈X0,x∈Lb) (hN:xs.length<=N) (E:List T->List (Nat×List A3)->Prop) (h0:E [] SF)
 (o9: ∀b x c Z r l rec p (R:Bool->A1->Prop),b.length<N->E b c->tr (r::D) G w0 p (c++Z) l rec->(∀Q w',E (b++[x]) Q->tr (r::D) G w0 w' (Q++Z) l rec->Ob l p w'->R true w')->Rd l rec x p R)
 (Wt: ∀r rec S l' c,mc l'->E xs c->tr (r::D) G w0 S (c++((bm,l')::Lb)) (r+1) rec->Af r rec S):vr P fU args ps w em Rd Af:=by
 intro w1 t rec _ _ qu PF kY;have H1:=H.ext t;have sz:(w1.alloc (.deferred (some []))).heap.size=w1.heap.size+1:=jt _ _;have tA:rec={rec with state:= .ready,pending:= .none}:=by rw[<-qu, <-PF]
 have kN:w0.heap.size<=w1.heap.size:=H1.fr.size;have hW:tr (w1.heap.size::D) G w0 ((w1.alloc (.deferred (some []))).alloc (.loop rec)) (SF++((bm,M)::Lb)) (w1.heap.size+1) rec:=by
  refine⟨by omega,?_,?_⟩
  ·have F:=(H1.qI (.deferred (some []))).qI (.loop rec);refine⟨F.fr,F.cX,F.own,F.nd,λr d=>?_⟩;rcases B5.1 d with rfl|d
   ·exact⟨kN,(Ext.alloc _ _).obj (fA w1 _)⟩
   ·exact F.nv r d
  ·have:=fA (w1.alloc (.deferred (some []))) (.loop rec);rw[sz] at this;unfold bZ;rw[this, <-tA]
 generalize hR:w1.heap.size=rr at*
 let J:List T->List (Nat×List A3)->List (Nat×Obj)->A1->Prop:=λb X O w'=> ∃l' c Y,mc l'/\E b c/\tr (rr::D) G w0 w' (c++((bm,l')::(Y++Lb))) (rr+1) rec/\(∀x∈X,x∈Y++Lb)/\(∀x∈O,w'.heap[x.1]? =some x.2/\NC x.2/\w0.heap.size<=x.1/\x.1≠rr+1/\x.1∉rr::D)/\(O.map (·.1)).Nodup
 have K:JK bm mc J:=by
  refine⟨?_,?_,?_,?_,?_,?_,?_,?_⟩
  ·rintro b X O k p l2 u ⟨l',c,Y,hm,i,⟨t,h2,q⟩,a,f,g⟩ U hb hl hy ZV;have y:(bm,l')∈c++((bm,l')::(Y++Lb)):=by simp
   have eK: ∀x∈c++(Y++Lb),bh p x.1 x.2/\x.1<k.heap.size:=λx a=>by
    have AY:x∈c++((bm,l')::(Y++Lb)):=by
     rcases Do.1 a with h|h
     ·exact Br _ h
     ·exact C7 _ (BA _ h)
    have hk:=h2.cX x AY;refine⟨U.cX ?_ hk,hk.lt⟩;intro hc;rw[Bq] at hc;have A:=h2.nd;have s:((bm,l')::(c++(Y++Lb))).Perm (c++((bm,l')::(Y++Lb))):=Hc.symm;have B:=((s.map (·.1)).nodup_iff).2 A;rw[DS,Bb] at B;exact B.1 (AX.2 ⟨x,a,hc⟩)
   refine⟨l2,c,u++Y,hl,i,⟨t,?_,?_⟩,λx j=>?_,λx j=>?_,g⟩
   ·have A:=h2.nd;have s:((bm,l')::(c++(Y++Lb))).Perm (c++((bm,l')::(Y++Lb))):=Hc.symm;have B:=((s.map (·.1)).nodup_iff).2 A;have rn:((bm,l2)::(u++(c++(Y++Lb)))).Perm (c++((bm,l2)::(u++Y++Lb))):=by
     refine P0 (List.Perm.cons _ ?_) Hc.symm;rw[B4, <-B4 u c, <-B4 c u];exact IG.append_right _
    refine aH.perm (L:=(bm,l2)::(u++(c++(Y++Lb)))) ?_ rn.symm;refine h2.frame U (λx a=>?_) (λr d a=>?_) (λx a=>?_) (λx a=>?_) ?_
    ·rw[Bq.1 a];exact h2.own (bm,l') y
    ·rw[Bq] at a;exact aH.cN (h2.cX (bm,l') y) (h2.nv r d).2 (λ_ _ _ hc=>by cases hc) a.symm
    ·rcases B5.1 a with rfl|a
     ·exact hb
     ·rcases Do.1 a with a|a
      ·exact(hy x a).2
      ·exact(eK x a).1
    ·rcases B5.1 a with rfl|a
     ·exact h2.own (bm,l') y
     ·rcases Do.1 a with a|a
      ·exact .inl (Di h2.fr.size (hy x a).1)
      ·refine h2.own x ?_;rcases Do.1 a with h|h
       ·exact Br _ h
       ·exact C7 _ (BA _ h)
    ·rw[DS,Bb] at B;rw[DS,H6,Bb,Hb];have fresh: ∀x∈u, ∀z,z<k.heap.size->x.1≠z:=λx a z hz e=>by
      have:=(hy x a).1;omega
     refine⟨λhm=>?_,ZV,B.2,λx a z hz e=>?_⟩
     ·rcases Do.1 hm with hm|hm
      ·obtain⟨x,a,e⟩:=AX.1 hm;exact fresh x a bm (h2.cX (bm,l') y).lt e
      ·exact B.1 hm
     ·obtain⟨x1,y9,e1⟩:=AX.1 a;obtain⟨z1,PX,e2⟩:=AX.1 hz;exact fresh x1 y9 z1.1 (eK z1 PX).2 (by rw[e1,e2,e])
   ·refine q.same (U.block _ q.lt (λhc=>?_));rw[Bq] at hc;exact aH.cN (h2.cX (bm,l') y) q (λ_ _ _ hc=>by cases hc) hc.symm
   ·rcases Do.1 j with h|h
    ·exact Br _ (Br _ h)
    ·rcases Do.1 (a x h) with h|h
     ·exact Br _ (C7 _ h)
     ·exact C7 _ h
   ·obtain⟨m,n,C⟩:=f x j;refine⟨?_,n,C⟩;rw[U.block x.1 (Es.1 m).1 (λhc=>?_)]
    ·exact m
    ·rw[Bq] at hc;exact aH.cN (h2.cX (bm,l') y) m n hc.symm
  ·rintro b X O k ⟨l',c,Y,hm,i,d,a,f,g⟩;exact⟨l',hm,d.2.1.cX (bm,l') (by simp)⟩
  ·rintro b X O k x ⟨l',c,Y,hm,i,d,a,f,g⟩ j;have s:((bm,l')::(c++(Y++Lb))).Perm (c++((bm,l')::(Y++Lb))):=Hc.symm;have h2:=d.2.1.perm s;have V:x∈c++(Y++Lb):=C7 _ (a x j);refine⟨λe=>?_,h2.cX x (BA _ V)⟩;have A:=h2.nd;rw[DS,Bb] at A;exact A.1 (AX.2 ⟨x,V,e⟩)
  ·rintro b X O k r o ⟨l',c,Y,hm,i,d,a,f,g⟩ V;exact(f (r,o) V).1
  ·rintro b X O k o ⟨l',c,Y,hm,i,⟨t,h2,q⟩,a,f,g⟩ Sq;have W:=Ext.alloc k o;refine⟨l',c,Y,hm,i,⟨t,h2.qI o,q.ext W⟩,a,λx j=>?_,?_⟩
   ·rcases B5.1 j with rfl|j
    ·refine⟨fA k o,Sq,h2.fr.size,λe=>?_,λhc=>?_⟩
     ·have:=q.lt;simp only at e;omega
     ·have:=(Es.1 (h2.nv _ hc).2).1;simp only at this;omega
    ·obtain⟨m,n⟩:=f x j;exact⟨W.obj m,n⟩
   ·rw[DS,Bb];refine⟨λhc=>?_,g⟩;obtain⟨x,j,e⟩:=AX.1 hc;have:=(Es.1 (f x j).1).1;simp only at e;omega
  ·rintro b X O k r o o' ⟨l',c,Y,hm,i,⟨t,h2,q⟩,a,f,g⟩ Sq;obtain⟨m,n,C,I,o5⟩:=f (r,o) List.mem_cons_self;rw[DS,Bb] at g;refine⟨l',c,Y,hm,i,⟨t,h2.putObj C m n o5,?_⟩,a,λx j=>?_,?_⟩
   ·unfold bZ;rw[eR (λe=>I e.symm)];exact q
   ·rcases B5.1 j with rfl|j
    ·refine⟨?_,Sq,C,I,o5⟩;have fD:=(Es.1 m).1;exact iq fD
    ·obtain⟨p1,p2⟩:=f x (BA _ j);refine⟨?_,p2⟩;rw[eR (λe=>g.1 (AX.2 ⟨x,j,e⟩))];exact p1
   ·rw[DS,Bb];exact g
  ·rintro b X O X' O' k ⟨l',c,Y,hm,i,d,a,f,g⟩ hs hO;exact⟨l',c,Y,hm,i,d,λx h=>a x (hs x h),λx h=>f x (hO.subset h),(hO.map _).nodup g⟩
  ·rintro b X O O' k ⟨l',c,Y,hm,i,d,a,f,g⟩ s;exact⟨l',c,Y,hm,i,d,a,λx h=>f x (s.subset h),(s.map _).nodup_iff.2 g⟩
 have Y:Yd P (rr+1) em N J:=by
  rintro b x X O p R hb ⟨l',c,Y,hm,i,d,a,f,g⟩ hR;refine kY x p R (o9 b x c _ rr (rr+1) rec p R hb i d λQ w' rl L3 hO=>hR w' ⟨l',Q,Y,hm,rl,L3,a,λx h=>?_,g⟩);obtain⟨m,n,C,I,o5⟩:=f x h;exact⟨hO _ _ I n m,n,C,I,o5⟩
 refine Calls.mono (It (rr+1) J K Y [] Lb [] _ (by simpa using hN) hX ⟨M,SF,[],ZU,h0,hW,λx h=>h,λx h=>(by cases h),HL⟩) ?_;rintro e S ⟨v,W,l',c,Y,hm,i,d,a,f,g⟩;refine⟨v,W,Wt rr rec S l' c hm i ⟨d.1,d.2.1.sub ?_,d.2.2⟩⟩;exact List.Sublist.append (List.Sublist.refl _) (List.Sublist.cons_cons _ (List.sublist_append_right _ _))
end
end Go.RX
namespace Go.Proofs.YteeflilbnoknnaaGreat
set_option maxRecDepth 100000
open Go.RX
abbrev sG:List Sc:=[.int .i64,.int .i64,.int .i64,.bool,.int .i64]
abbrev eG:El:= .agg sG
abbrev GT:Type:=Int×Int×Int×Bool×Int×Unit
def zG:GT:=(0,0,0,false,0,())
def gG (n:Int):Bool:=decide (n>=1)&&decide (n<=16)
def jL (o p t:Int) (b:Bool) (u:Int):Bool:=decide (((o,p,t,b,u,()):GT)=zG)
noncomputable def G0:dn A2:={C3 with rz:=false}
theorem EV (n:Int) (w:A1) (a:Bool->A1->Prop):(aJ G0 (λ_=>[]) 171 [aa n] w a)=(
 ak w (a (decide (n>=1)&&decide (n<=16)))):=by kernel_rfl
theorem JH (o p t:Int) (b:Bool) (u:Int) (w:A1) (a:Bool->A1->Prop):(aJ G0 (λ_=>[]) 173 [.agg ⟨[aa o,aa p,aa t,.bool b,aa u]⟩] w a)=(
 aA w ⟨[aa o,aa p,aa t,.bool b,aa u]⟩ 308 λb c=>aj c none (ad b) (.agg [.int .i64,.int .i64,.int .i64,.bool,.int .i64]) λ(x:Int×Int×Int×Bool×Int×Unit)=>ak c λw1=>a (x.1==0&&(x.2.1==0&&(x.2.2.1==0&&(x.2.2.2.1==false&&(x.2.2.2.2.1==0&&true))))) w1):=by kernel_rfl
theorem EW (n:Int) (w:A1):ar A2 171 (.el (.one .bool)) [aa n] w (λx w'=>x=gG n/\Ext w w'):=by
 refine ai (C:=G0) (aM:=λ_=>[]) (A_ (EV n w _) ?_);have H:=At.start [] w
 repeat' (first
  |exact Go.RX.aH.all H
  |exact H2 (by first|rfl|decide+kernel) (Go.RX.aH.all H)
  |refine H2 (by first|exact rfl|exact trivial|exact λ_=>rfl|exact λ_=>trivial|exact⟨rfl,by decide,by decide⟩|exact⟨by decide,by decide⟩|decide+kernel|exact λ_=>by decide|exact λ_=>⟨rfl,by decide,by decide⟩|(dsimp only[IR,Ia];exact⟨rfl,by decide,by decide⟩)) ?_
  |refine aj.bN 0 H rfl rfl ?_
  |refine aj.bN 1 H rfl rfl ?_
  |refine aj.at 0 H rfl rfl ?_
  |refine aj.at 1 H rfl rfl ?_
  |refine aA.go H λb w1 H=>?_
  |refine aw.all 0 H rfl rfl rfl λw1 H=>?_
  |refine aw.all 1 H rfl rfl rfl λw1 H=>?_
  |refine aw.dF 0 H rfl rfl rfl λw1 H=>?_
  |refine aw.dF 1 H rfl rfl rfl λw1 H=>?_
  |refine aw.one 0 H rfl rfl rfl λw1 H=>?_
  |refine aw.one 1 H rfl rfl rfl λw1 H=>?_
  |with_reducible refine ak.go H λw1 H=>?_
  |refine fS ?_
  |refine ay (by assumption) ?_
  |refine an (by assumption) ?_
  |refine ab (λc=>?_) (λc=>?_))
theorem JI (o p t:Int) (b:Bool) (u:Int) (w:A1):ar A2 173 (.el (.one .bool)) [.agg ⟨[aa o,aa p,aa t,.bool b,aa u]⟩] w (λx w'=>x=jL o p t b u/\Ext w w'):=by
 refine ai (C:=G0) (aM:=λ_=>[]) (A_ (JH o p t b u w _) ?_);have H:=At.start [] w;refine aA.go H λa c H=>aj.at 0 H rfl rfl (ak.go H λd H=>⟨?_,H.all⟩);unfold jL zG;rw[GS];simp
noncomputable def Nb:Entry A2 where
 f:=171
 fn l:=match l with
  |[.int .i64 a]=>some (True,.bool (gG a))
  | _=>none
 ok args pre v h b w:=by
  split at h
  ·rename_i a;cases h;exact aS (EW a w)
  ·cases h
noncomputable def Rn:Entry A2 where
 f:=173
 fn l:=match l with
  |[.agg ⟨[.int .i64 o,.int .i64 p,.int .i64 t,.bool b,.int .i64 u]⟩]=>some (True,.bool (jL o p t b u))
  | _=>none
 ok args pre v h a w:=by
  split at h
  ·rename_i o p t b u;cases h;exact aS (JI o p t b u w)
  ·cases h
noncomputable def G3:dn A2:={G0 with oG:=[Nb,Rn],quiet:=[170,293,296,283],sh:=[(87,.el (.one .bool))]}
noncomputable def G4:dn A2:={G3 with cl:=[(183,.qq 172 3)]}
theorem EX (p:Option A9) (w:A1) (a:Bool->A1->Prop):(aJ G3 (λ_=>[]) 170 [ah p] w a)=(
 ((!p.isNone)=true->p.isSome=true)/\((!p.isNone)=true->p.isSome=true)/\aj w (some !p.isNone) (ae p 0) jD λx=>ak w λw1=>a (!p.isNone&&decide ((↑x.2.1:Int)>0)) w1):=by kernel_rfl
theorem Ro (p:Option A9) (i:Int) (w:A1) (b:Option A9×Int×Unit->A1->Prop):(aJ G3 (λ_=>[]) 293 [ah p,aa i] w b)=(
 ∃x,ag A2 170 [ah p] w (.bool x)/\aF (!x) (ak w (b (none,10,()))) (((!decide (i<0))=true->p.isSome=true)/\((!decide (i<0))=true->p.isSome=true)/\aj w (some !decide (i<0)) (ae p 0) jD λx=>((!(decide (i<0)||decide (i>=(↑x.2.1:Int))))=true->p.isSome=true)/\((!(decide (i<0)||decide (i>=(↑x.2.1:Int))))=true->p.isSome=true)/\aj w (some !(decide (i<0)||decide (i>=(↑x.2.1:Int)))) (ae p 0) jD λc=>((!(decide (i<0)||decide (i>=(↑x.2.1:Int))))=true->c.1.isSome=true/\0<=i/\i<
 (↑c.2.1:Int))/\aj w (some !(decide (i<0)||decide (i>=(↑x.2.1:Int)))) (ae c.1 (i.toNat*5)) (.agg [.int .i64,.int .i64,.int .i64,.bool,.int .i64]) λ(a:Int×Int×Int×Bool×Int×Unit)=>((!(decide (i<0)||decide (i>=(↑x.2.1:Int))))=true->True)/\aF (decide (i<0)||decide (i>=(↑x.2.1:Int))||jL a.1 a.2.1 a.2.2.1 a.2.2.2.1 a.2.2.2.2.1) (ak w (b (none,4,()))) (l4 p 0 w λx=>(x.1.isSome=true/\0<=i/\i<(↑x.2.1:Int))/\ak w (b (ae x.1 (i.toNat*5),0,()))))):=by kernel_rfl
theorem JJ (o q t:Int) (b:Bool) (u:Int) (c:Option A9) (w:A1) (d:Bool->A1->Prop):(aJ G3 (λ_=>[]) 296 [.agg ⟨[aa o,aa q,aa t,.bool b,aa u]⟩,ah c] w d)=(
 aA w ⟨[aa o,aa q,aa t,.bool b,aa u]⟩ 308 λb a=>aj a none c (.agg [.int .i64,.int .i64,.int .i64,.bool,.int .i64]) λ(x:Int×Int×Int×Bool×Int×Unit)=>true=true/\aQ a (ae (ad b) 0) λe=>true=true/\aQ a (ae (ad b) 1) λf=>true=true/\aQ a (ae (ad b) 2) λg=>ak a λw1=>d (x.1==e&&(x.2.1==f&&(x.2.2.1==g&&(x.2.2.2.1==false&&(x.2.2.2.2.1==0&&true))))) w1):=by kernel_rfl
theorem EY (o q t:Int) (b:Bool) (u:Int) (c:Option A9) (w:A1) (f:Bool->A1->Prop):(aJ G3 (λ_=>[]) 283 [.agg ⟨[aa o,aa q,aa t,.bool b,aa u]⟩,ah c] w f)=(
 aA w ⟨[aa o,aa q,aa t,.bool b,aa u]⟩ 308 λb a=>aj a none (ad b) (.agg [.int .i64,.int .i64,.int .i64,.bool,.int .i64]) λ(x:Int×Int×Int×Bool×Int×Unit)=>True/\((!jL x.1 x.2.1 x.2.2.1 x.2.2.2.1 x.2.2.2.2.1)=true->true=true)/\aj a (some !jL x.1 x.2.1 x.2.2.1 x.2.2.2.1 x.2.2.2.2.1) (ae (ad b) 0) aT λ(d:Int)=>aj a (some !jL x.1 x.2.1 x.2.2.1 x.2.2.2.1 x.2.2.2.2.1) c aT λ(e:Int)=>((!jL x.1 x.2.1 x.2.2.1 x.2.2.2.1 x.2.2.2.2.1&& !d==e)=true->true=true)/\aj a (some (!jL x.1
 x.2.1 x.2.2.1 x.2.2.2.1 x.2.2.2.2.1&& !d==e)) (ae (ad b) 2) aT λ(g:Int)=>aj a (some (!jL x.1 x.2.1 x.2.2.1 x.2.2.2.1 x.2.2.2.2.1&& !d==e)) c aT λ(h:Int)=>ak a (f (!jL x.1 x.2.1 x.2.2.1 x.2.2.2.1 x.2.2.2.2.1&&(d==e||g==h)))):=by kernel_rfl
def nH:Nat->aV:=(λ|5=>[(5,Go.RX.El.one Go.RX.Sc.slice),(16,Go.RX.El.one (Go.RX.Sc.int B1))]| _=>[])
theorem EZ (p:Option A9) (w:A1) (e:Option A9×Nat×Nat->A1->Prop):(aJ G3 nH 282 [ah p,.func (.func 173) #[] #[]] w e)=(
 ∃x,ag A2 170 [ah p] w (.bool x)/\aF (!x) (ak w (e (none,0,0))) (l4 p 0 w λx=> ∃(I:Nat->(Option A9×Nat×Nat)×Int×Unit->A1->Prop),(∃n, ∀w1,Ext w w1->I n ((none,0,0),0,()) w1)/\ ∀(n:Nat) (s:(Option A9×Nat×Nat)×Int×Unit) (w1:A1),I n s w1->aF (decide (s.2.1<(↑x.2.1:Int))) ((x.1.isSome=true/\0<=s.2.1/\s.2.1<(↑x.2.1:Int))/\aj w1 none (ae x.1 (Bc s.2.1*5)) (.agg [.int .i64,.int .i64,.int .i64,.bool,.int .i64]) λ(x:Int×Int×Int×Bool×Int×Unit)=>aA w1 ⟨[aa 0,
 aa 0,aa 0,.bool false,aa 0]⟩ 308 λb a=>aw a (ad b) [aa x.1,aa x.2.1,aa x.2.2.1,.bool x.2.2.2.1,aa x.2.2.2.2.1] λa=>aj a none (ad b) (.agg [.int .i64,.int .i64,.int .i64,.bool,.int .i64]) λ(x:Int×Int×Int×Bool×Int×Unit)=>True/\aF (jL x.1 x.2.1 x.2.2.1 x.2.2.2.1 x.2.2.2.2.1) (aA a ⟨[aa s.2.1]⟩ 3 λb a=> ∀w1,Ext a w1->vp w1 3 1 8 ⟨[aa 0]⟩ (s.1.1,s.1.2.1,s.1.2.2) (some ⟨b,0,none⟩,1,1) λ(r:Option A9×Nat×Nat) a=> ∀c,Ext a c-> ∃(d:Nat),d<n/\I d
 ((r.1,r.2.1,r.2.2),aC .i64 s.2.1 1,()) c) (∀c,Ext a c-> ∃(d:Nat),d<n/\I d ((s.1.1,s.1.2.1,s.1.2.2),aC .i64 s.2.1 1,()) c)) (ak w1 (e (s.1.1,s.1.2.1,s.1.2.2))))):=by kernel_rfl
def nI:Nat->aV:=(λ|5=>[(5,Go.RX.El.one Go.RX.Sc.slice),(16,Go.RX.El.one (Go.RX.Sc.int B1))]| _=>[])
theorem E6 (p c:Option A9) (w:A1) (f:Option A9×Nat×Nat->A1->Prop):(aJ G3 nI 282 [ah p,.func (.func 296) #[] #[ah c]] w f)=(
 ∃x,ag A2 170 [ah p] w (.bool x)/\aF (!x) (ak w (f (none,0,0))) (l4 p 0 w λx=> ∃(I:Nat->(Option A9×Nat×Nat)×Int×Unit->A1->Prop),(∃n, ∀w1,Ext w w1->I n ((none,0,0),0,()) w1)/\ ∀(n:Nat) (s:(Option A9×Nat×Nat)×Int×Unit) (w1:A1),I n s w1->aF (decide (s.2.1<(↑x.2.1:Int))) ((x.1.isSome=true/\0<=s.2.1/\s.2.1<(↑x.2.1:Int))/\aj w1 none (ae x.1 (Bc s.2.1*5)) (.agg [.int .i64,.int .i64,.int .i64,.bool,.int .i64]) λ(x:Int×Int×Int×Bool×Int×Unit)=>aA w1 ⟨[aa 0,
 aa 0,aa 0,.bool false,aa 0]⟩ 308 λb a=>aw a (ad b) [aa x.1,aa x.2.1,aa x.2.2.1,.bool x.2.2.2.1,aa x.2.2.2.2.1] λa=>aj a none (ad b) (.agg [.int .i64,.int .i64,.int .i64,.bool,.int .i64]) λ(x:Int×Int×Int×Bool×Int×Unit)=> ∃g,ag A2 296 [.agg ⟨[aa x.1,aa x.2.1,aa x.2.2.1,.bool x.2.2.2.1,aa x.2.2.2.2.1]⟩,ah c] a (.bool g)/\aF g (aA a ⟨[aa s.2.1]⟩ 3 λb a=> ∀w1,Ext a w1->vp w1 3 1 8 ⟨[aa 0]⟩ (s.1.1,s.1.2.1,s.1.2.2)
 (some ⟨b,0,none⟩,1,1) λ(r:Option A9×Nat×Nat) a=> ∀d,Ext a d-> ∃(e:Nat),e<n/\I e ((r.1,r.2.1,r.2.2),aC .i64 s.2.1 1,()) d) (∀d,Ext a d-> ∃(e:Nat),e<n/\I e ((s.1.1,s.1.2.1,s.1.2.2),aC .i64 s.2.1 1,()) d)) (ak w1 (f (s.1.1,s.1.2.1,s.1.2.2))))):=by kernel_rfl
def nJ:Nat->aV:=(λ|5=>[(5,Go.RX.El.one Go.RX.Sc.slice),(16,Go.RX.El.one (Go.RX.Sc.int B1))]| _=>[])
theorem E7 (p c:Option A9) (w:A1) (f:Option A9×Nat×Nat->A1->Prop):(aJ G3 nJ 282 [ah p,.func (.func 283) #[] #[ah c]] w f)=(
 ∃x,ag A2 170 [ah p] w (.bool x)/\aF (!x) (ak w (f (none,0,0))) (l4 p 0 w λx=> ∃(I:Nat->(Option A9×Nat×Nat)×Int×Unit->A1->Prop),(∃n, ∀w1,Ext w w1->I n ((none,0,0),0,()) w1)/\ ∀(n:Nat) (s:(Option A9×Nat×Nat)×Int×Unit) (w1:A1),I n s w1->aF (decide (s.2.1<(↑x.2.1:Int))) ((x.1.isSome=true/\0<=s.2.1/\s.2.1<(↑x.2.1:Int))/\aj w1 none (ae x.1 (Bc s.2.1*5)) (.agg [.int .i64,.int .i64,.int .i64,.bool,.int .i64]) λ(x:Int×Int×Int×Bool×Int×Unit)=>aA w1 ⟨[aa 0,
 aa 0,aa 0,.bool false,aa 0]⟩ 308 λb a=>aw a (ad b) [aa x.1,aa x.2.1,aa x.2.2.1,.bool x.2.2.2.1,aa x.2.2.2.2.1] λa=>aj a none (ad b) (.agg [.int .i64,.int .i64,.int .i64,.bool,.int .i64]) λ(x:Int×Int×Int×Bool×Int×Unit)=> ∃g,ag A2 283 [.agg ⟨[aa x.1,aa x.2.1,aa x.2.2.1,.bool x.2.2.2.1,aa x.2.2.2.2.1]⟩,ah c] a (.bool g)/\aF g (aA a ⟨[aa s.2.1]⟩ 3 λb a=> ∀w1,Ext a w1->vp w1 3 1 8 ⟨[aa 0]⟩ (s.1.1,s.1.2.1,s.1.2.2)
 (some ⟨b,0,none⟩,1,1) λ(r:Option A9×Nat×Nat) a=> ∀d,Ext a d-> ∃(e:Nat),e<n/\I e ((r.1,r.2.1,r.2.2),aC .i64 s.2.1 1,()) d) (∀d,Ext a d-> ∃(e:Nat),e<n/\I e ((s.1.1,s.1.2.1,s.1.2.2),aC .i64 s.2.1 1,()) d)) (ak w1 (f (s.1.1,s.1.2.1,s.1.2.2))))):=by kernel_rfl
theorem E8 (p:Option A9) (o q t:Int) (b:Bool) (w:A1) (c:Int×Int×Unit->A1->Prop):(aJ G3 (λ_=>[]) 223 [ah p,aa o,aa q,aa t,.bool b] w c)=(
 ∃x,ag A2 170 [ah p] w (.bool x)/\aF (!x) (ak w (c (0,10,()))) (True/\((!!gG o)=true->True)/\aF (!gG o|| !gG t||o==t||decide (q<0)||decide (q>=65536)) (ak w (c (0,1,()))) (aA w ⟨[aa 0,aa 0,aa 0,.bool false,aa 0]⟩ 308 λe a=>aw a (ad e) [aa o,aa q,aa t,.bool false,aa 0] λa=>aB A2 282 (.el jD) [ah p,.func (.func 296) ⟨[]⟩ {toList:=[ah (ad e)]}] a λx a=>aF (decide ((↑x.2.1:Int)>0)) (ak a (c (0,5,
 ()))) (aB A2 282 (.el jD) [ah p,.func (.func 173) ⟨[]⟩ ⟨[]⟩] a λx a=>aF ((↑x.2.1:Int)==0) (ak a (c (0,3,()))) (true=true/\aw a (ae (ad e) 3) [.bool b] λa=>l4 p 0 a λf=>(x.1.isSome=true/\(0:Int)<=0/\0<(↑x.2.1:Int))/\aQ a (ae x.1 0) λg=>aj a none (ad e) (.agg [.int .i64,.int .i64,.int .i64,.bool,.int .i64]) λ(d:Int×Int×Int×Bool×Int×Unit)=>(f.1.isSome=true/\0<=g/\g<(↑f.2.1:Int))/\aw a (ae f.1 (g.toNat*5)) [aa d.1,aa d.2.1,
 aa d.2.2.1,.bool d.2.2.2.1,aa d.2.2.2.2.1] λa=>(x.1.isSome=true/\(0:Int)<=0/\0<(↑x.2.1:Int))/\aQ a (ae x.1 0) λx=>ak a (c (x,0,()))))))):=by kernel_rfl
theorem Rp (p:Option A9) (i:Int) (w:A1) (c:GT×Bool×Unit->A1->Prop):(bO G3 (λ_=>[]) 218 [ah p,aa i] w c)=(
 aA w ⟨[aa 0,aa 0,aa 0,.bool false,aa 0]⟩ 308 λb a=> ∃(x:Option A9×Int×Unit),ag A2 293 [ah p,aa i] a (.tuple ⟨[ah x.1,aa x.2.1]⟩)/\aF (x.2.1 != 0) (aw a (ad b) [aa 0,aa 0,aa 0,.bool false,aa 0] λa=>ak a λw1=>aj w1 none (ad b) (.agg [.int .i64,.int .i64,.int .i64,.bool,.int .i64]) λ(x:Int×Int×Int×Bool×Int×Unit)=>c ((x.1,x.2.1,x.2.2.1,x.2.2.2.1,x.2.2.2.2.1,()),false,()) w1) (x.1.isSome=true/\aj a none x.1
 (.agg [.int .i64,.int .i64,.int .i64,.bool,.int .i64]) λ(x:Int×Int×Int×Bool×Int×Unit)=>aw a (ad b) [aa x.1,aa x.2.1,aa x.2.2.1,.bool x.2.2.2.1,aa x.2.2.2.2.1] λa=>ak a λw1=>aj w1 none (ad b) (.agg [.int .i64,.int .i64,.int .i64,.bool,.int .i64]) λ(x:Int×Int×Int×Bool×Int×Unit)=>c ((x.1,x.2.1,x.2.2.1,x.2.2.2.1,x.2.2.2.2.1,()),true,()) w1)):=by kernel_rfl
theorem JL (p:Option A9) (i g:Int) (b:Bool) (w:A1) (a:Int->A1->Prop):(aJ G3 (λ_=>[]) 224 [ah p,aa i,aa g,.bool b] w a)=(
 ∃(x:Option A9×Int×Unit),ag A2 293 [ah p,aa i] w (.tuple ⟨[ah x.1,aa x.2.1]⟩)/\aF (x.2.1 != 0) (ak w (a x.2.1)) (ee x.1 2 w λc=>((!c != g&&b)=true->x.1.isSome=true)/\((!c != g&&b)=true->x.1.isSome=true)/\aj w (some (!c != g&&b)) (ae x.1 3) nk λd=>aF (c != g||b&& !d) (ak w (a 7)) (ee x.1 4 w λe=>aF (e==1000) (ak w (a 3)) (ee x.1 4 w λf=>x.1.isSome=true/\x.1.isSome=true/\aw w (ae x.1 4) [aa (aC .i64 f 1)] λh=>ak h (a 0))))):=by kernel_rfl
theorem JM (p:Option A9) (i g:Int) (w:A1) (a:Int->A1->Prop):(aJ G3 (λ_=>[]) 225 [ah p,aa i,aa g] w a)=(
 ∃(x:Option A9×Int×Unit),ag A2 293 [ah p,aa i] w (.tuple ⟨[ah x.1,aa x.2.1]⟩)/\aF (x.2.1 != 0) (ak w (a x.2.1)) (ee x.1 2 w λb=>aF (b != g) (ak w (a 7)) (ee x.1 4 w λc=>aF (c==0) (ak w (a 6)) (ee x.1 4 w λd=>x.1.isSome=true/\x.1.isSome=true/\aw w (ae x.1 4) [aa (bK .i64 d 1)] λe=>ak e (a 0))))):=by kernel_rfl
theorem Cb (p:Option A9) (i o:Int) (w:A1) (a:Int->A1->Prop):(aJ G3 (λ_=>[]) 227 [ah p,aa i,aa o] w a)=(
 ∃(x:Option A9×Int×Unit),ag A2 293 [ah p,aa i] w (.tuple ⟨[ah x.1,aa x.2.1]⟩)/\aF (x.2.1 != 0) (ak w (a x.2.1)) (ee x.1 0 w λb=>aF (b != o) (ak w (a 7)) (ee x.1 4 w λc=>aF (decide (c>0)) (ak w (a 9)) (x.1.isSome=true/\aw w x.1 [aa 0,aa 0,aa 0,.bool false,aa 0] λd=>ak d (a 0))))):=by kernel_rfl
def p8:Nat->aV:=(λ|3=>[(13,Go.RX.El.one (Go.RX.Sc.int B1))]| _=>[])
theorem JN (p:Option A9) (g:Int) (w:A1) (d:Int->A1->Prop):(aJ G3 p8 208 [ah p,aa g] w d)=(
 aA w ⟨[aa g]⟩ 3 λb a=>aB A2 282 (.el jD) [ah p,.func (.func 283) ⟨[]⟩ {toList:=[ah (ad b)]}] a λx a=> ∃(I:Nat->Int×Unit->A1->Prop),(∃n, ∀w1,Ext a w1->I n (0,()) w1)/\ ∀(n:Nat) (s:Int×Unit) (w1:A1),I n s w1->aF (decide (s.1<(↑x.2.1:Int))) ((x.1.isSome=true/\0<=s.1/\s.1<(↑x.2.1:Int))/\aQ w1 (ae x.1 (Bc s.1*1)) λx=>l4 p 0 w1 λc=>(c.1.isSome=true/\0<=x/\x<(↑c.2.1:Int))/\aw w1 (ae c.1 (x.toNat*5)) [aa 0,aa 0,aa 0,.bool false,
 aa 0] λa=> ∀e,Ext a e-> ∃(f:Nat),f<n/\I f (aC .i64 s.1 1,()) e) (ak w1 (d (↑x.2.1:Int)))):=by kernel_rfl
theorem Cc (p:Option A9) (a b:Int) (w:A1) (e:Bool->A1->Prop):(aJ G4 (λ_=>[]) 87 [ah p,aa a,aa b] w e)=(
 aA w ⟨[ah p]⟩ 126 λg c=>fQ c (ad g) λx=> ∃d,ag A2 170 [ah x] c (.bool d)/\((!!d)=true->True)/\((!(!d|| !gG a))=true->True)/\aF (!d|| !gG a|| !gG b) (ak c (e false)) (aA c {toList:=[.bool false,.bool false,.bool false,.bool false,.bool false,.bool false,.bool false,.bool false,.bool false,.bool false,.bool false,.bool false,.bool false,.bool false,.bool false,.bool false,.bool false]} 182 λh c=>aA c ⟨[Hu]⟩ 183 λf c=>aw c (ad f) [.func (.func 172) ⟨[]⟩ {toList:=[.pointer
 (ad h),ah (ad g),ah (ad f)]}] λc=>aj c none (ad f) (.one (.qq 172 3)) λx=>aB A2 172 (.bH []) [aa a,ah x.1,ah x.2.1,ah x.2.2.1] c λx c=>(true=true/\0<=b/\b<(↑17:Int))/\jE c (ae (ad h) (b.toNat*1)) λx=>ak c (e x))):=by kernel_rfl
def iG:Nat->aV:=(λ|3=>[(17,Go.RX.El.one (Go.RX.Sc.int B1))]| _=>[])
theorem rW (n:Int) (c d e:Option A9) (w:A1) (i:Unit->A1->Prop):(aJ G4 iG 172 [aa n,ah c,ah d,ah e] w i)=(
 (c.isSome=true/\0<=n/\n<(↑17:Int))/\jE w (ae c (n.toNat*1)) λx=>aF x (ak w (i ())) ((c.isSome=true/\0<=n/\n<(↑17:Int))/\aw w (ae c (n.toNat*1)) [.bool true] λa=>fQ a d λx=>l4 x 0 a λx=> ∃(I:Nat->Int×Unit->A1->Prop),(∃n, ∀w1,Ext a w1->I n (0,()) w1)/\ ∀(h:Nat) (s:Int×Unit) (w1:A1),I h s w1->aF (decide (s.1<(↑x.2.1:Int))) ((x.1.isSome=true/\0<=s.1/\s.1<(↑x.2.1:Int))/\aj w1 none (ae x.1 (Bc s.1*5)) (.agg [.int .i64,.int .i64,.int .i64,.bool,.int .i64])
 λ(x:Int×Int×Int×Bool×Int×Unit)=>aA w1 ⟨[aa 0,aa 0,aa 0,.bool false,aa 0]⟩ 308 λb a=>aw a (ad b) [aa x.1,aa x.2.1,aa x.2.2.1,.bool x.2.2.2.1,aa x.2.2.2.2.1] λa=>aj a none (ad b) (.agg [.int .i64,.int .i64,.int .i64,.bool,.int .i64]) λ(x:Int×Int×Int×Bool×Int×Unit)=>True/\aF (jL x.1 x.2.1 x.2.2.1 x.2.2.2.1 x.2.2.2.2.1) (∀f,Ext a f-> ∃(g:Nat),g<h/\I g (aC .i64 s.1 1,()) f) (true=true/\aQ a (ae (ad b) 0) λx=>aF (x==n) (aj a
 none e (.one (.qq 172 3)) λx=>true=true/\aQ a (ae (ad b) 2) λj=>aB A2 172 (.bH []) [aa j,ah x.1,ah x.2.1,ah x.2.2.1] a λx a=> ∀f,Ext a f-> ∃(g:Nat),g<h/\I g (aC .i64 s.1 1,()) f) (true=true/\aQ a (ae (ad b) 2) λx=>aF (x==n) (aj a none e (.one (.qq 172 3)) λx=>true=true/\aQ a (ae (ad b) 0) λj=>aB A2 172 (.bH []) [aa j,ah x.1,ah x.2.1,ah x.2.2.1] a λx a=> ∀f,Ext a f-> ∃(g:Nat),g<h/\I g (aC .i64 s.1
 1,()) f) (∀f,Ext a f-> ∃(g:Nat),g<h/\I g (aC .i64 s.1 1,()) f)))) (ak w1 (i ())))):=by kernel_rfl
theorem Nc (n:Int) (w:A1) (a:Option A9×Int×Unit->A1->Prop):(aJ G3 (λ_=>[]) 55 [aa n] w a)=(
 aF (decide (n<1)||decide (n>64)) (ak w (a (none,1,()))) (Hp w 40 5 n n ⟨[aa 0,aa 0,aa 0,.bool false,aa 0]⟩ 308 λb c=>aA c {toList:=[.slice (ad b) n.toNat n.toNat]} 260 λb c=>ak c (a (some ⟨b,0,none⟩,0,())))):=by kernel_rfl
theorem wK {lo sz:Int} (h:bX lo sz=true):lo.toNat+sz.toNat<=64/\1<=sz.toNat:=by
 have:=fL.1 h;omega
theorem JO {w:BitVec 64} {lo sz:Int} (h:bX lo sz=true):(c_ w lo sz).toNat=w.toNat / 2 ^ lo.toNat % 2 ^ sz.toNat:=by
 have a:=wK h;apply MU;intro j;rw[H4,Dx h,od (by omega),Ix,Nat.testBit_div_two_pow,H4,Nat.add_comm j,K1]
theorem JP {w v:BitVec 64} {lo sz:Int} (h:bX lo sz=true) (b:w.toNat<2 ^ lo.toNat):(oU w lo sz v).toNat=2 ^ lo.toNat*(v.toNat % 2 ^ sz.toNat)+w.toNat:=by
 have e:=wK h;apply MU;intro j;rw[H4,MY h,Nat.testBit_two_pow_mul_add _ b];by_cases d:j<64
 ·rw[Ra (by omega) d];by_cases c:j<lo.toNat
  ·rw[if_neg (by omega),if_pos c,H4]
  ·rw[if_neg c,Ix,H4];by_cases h2:j<lo.toNat+sz.toNat
   ·rw[if_pos (by omega)];have:j - lo.toNat<sz.toNat:=by omega
    simp[this]
   ·rw[if_neg (by omega)];have a: ¬ j - lo.toNat<sz.toNat:=by omega
    simp only[a,decide_false,O1];rw[<-H4];exact Nat.testBit_lt_two_pow (Ic b (Nat.pow_le_pow_right (by decide) (by omega)))
 ·rw[OY _ _ (by omega),if_neg (by omega),Ix];have a: ¬ j - lo.toNat<sz.toNat:=by omega
  simp[a]
theorem Uw (b:BitVec 64):U b=(b.toNat:Int):=rfl
theorem sE {b:BitVec 64} {n:Nat} (h:b.toNat=n):U b=(n:Int):=by rw[Uw,h]
def bB (b:Bool):BitVec 64:=if b then 1#64 else 0#64
def nB (b:Bool):Nat:=if b then 1 else 0
theorem IM (b:Bool):(bB b).toNat=nB b:=by cases b<;>rfl
theorem zL (b:Bool):nB b<=1:=by cases b<;>decide
theorem mr {w v:BitVec 64} {lo sz:Int} {a n:Nat} (c:bX lo sz=true) (b:w.toNat=a) (d:a<2 ^ lo.toNat) (hv:v.toNat=n) (e:n<2 ^ sz.toNat):(oU w lo sz v).toNat=2 ^ lo.toNat*n+a:=by
 rw[JP c (by rw[b];exact d),hv,b,MJ e]
theorem E9 {p l:Bool} {r f:BitVec 64} {x y:Nat} (a:r.toNat=x) (i:x<8) (b:f.toNat=y) (j:y<4096):
 (nC 0#64 0 [(bB p,1),(r,3),(bB l,1),(0#64,7),(f,12)]).toNat=nB p+2*x+16*nB l+4096*y:=by
 have k:=zL p;have m:=zL l;simp only[nC];rw[if_pos (by decide),if_pos (by decide),if_pos (by decide),if_pos (by decide),if_pos (by decide)];have c:=mr (w:=0#64) (lo:=0) (sz:=1) (by decide) (rfl:(0#64).toNat=0) (by decide) (IM p) (by show nB p<2;omega);have d:=mr (lo:=0+1) (sz:=3) (by decide) c (by show 1*nB p+0<2;omega) a (by show x<8;omega);have e:=mr (lo:=0+1+3) (sz:=1) (by decide) d (by show 2*x+(1*nB p+0)<16;omega) (IM l) (by show nB l<2;omega);have g:=mr (lo:=0+1+3+1) (sz:=7) (v:=0#64) (by decide) e (by show 16*nB l+(2*x+(1*nB p+0))<32;omega) (rfl:(0#64).toNat=0) (by decide);have h:=mr (lo:=0+1+3+1+7) (sz:=12) (by decide) g (by show 32*0+(16*nB l+(2*x+(1*nB p+0)))<4096;omega) b (by show y<4096;omega);rw[h];show 4096*y+(32*0+(16*nB l+(2*x+(1*nB p+0))))= _;omega
theorem Cd (w:BitVec 64):j9 w 0 [1,3,1,7,12,40]=some [c_ w 0 1,c_ w 1 3,c_ w 4 1,c_ w 5 7,c_ w 12 12,c_ w 24 40]:=by
 simp only[j9];rw[if_pos (by decide),if_pos (by decide),if_pos (by decide),if_pos (by decide),if_pos (by decide),if_pos (by decide)];rfl
theorem gL {w:BitVec 64} {lo sz:Int} (a b:Nat) (h:bX lo sz=true) (c:2 ^ lo.toNat=a) (hb:2 ^ sz.toNat=b):(c_ w lo sz).toNat=w.toNat / a % b:=by
 rw[JO h,c,hb]
noncomputable def D0:dn A2:={C3 with rz:=true}
theorem Nd (b:Bool) (w:A1) (a:Int->A1->Prop):(aJ D0 (λ_=>[]) 365 [.bool b] w a)=(
 aF b (ak w (a 1)) (ak w (a 0))):=by kernel_rfl
theorem uB (p:Bool) (r:Int) (l:Bool) (f:Int) (w:A1) (d:Bool->A1->Prop):(aJ D0 (λ_=>[]) 345 [.agg ⟨[.bool p,aa r,.bool l,aa f]⟩] w d)=(
 aA w ⟨[.bool p,aa r,.bool l,aa f]⟩ 301 λb a=>true=true/\jE a (ae (ad b) 0) λx=>aF (!x) (aj a none (ad b) fW λ(x:Bool×Int×Bool×Int×Unit)=>ak a λw1=>d (x.1==false&&(x.2.1==0&&(x.2.2.1==false&&(x.2.2.2.1==0&&true)))) w1) (true=true/\aQ a (ae (ad b) 1) λx=>((!decide (x<0))=true->true=true)/\aj a (some !decide (x<0)) (ae (ad b) 1) aT λ(c:Int)=>((!(decide (x<0)||decide (c>7)))=true->true=true)/\aj a (some !(decide (x<0)||decide (c>7))) (ae (ad b) 3)
 aT λ(e:Int)=>((!(decide (x<0)||decide (c>7)||decide (e<0)))=true->true=true)/\aj a (some !(decide (x<0)||decide (c>7)||decide (e<0))) (ae (ad b) 3) aT λ(g:Int)=>aF (decide (x<0)||decide (c>7)||decide (e<0)||decide (g>=4096)) (ak a (d false)) (true=true/\aQ a (ae (ad b) 1) λx=>((!decide (x>0))=true->true=true)/\aj a (some !decide (x>0)) (ae (ad b) 2) nk λh=>ak a (d (decide (x>0)|| !h))))):=by kernel_rfl
theorem qS (p:Bool) (r:Int) (l:Bool) (f:Int) (w:A1) (g:Bool->A1->Prop):(aJ D0 (λ_=>[]) 330 [.agg ⟨[.bool p,aa r,.bool l,aa f]⟩] w g)=(
 aA w ⟨[.bool p,aa r,.bool l,aa f]⟩ 305 λb c=>true=true/\jE c (ae (ad b) 0) λx=>aF (!x) (true=true/\aQ c (ae (ad b) 1) λx=>((x==0)=true->true=true)/\aj c (some (x==0)) (ae (ad b) 2) nk λa=>((x==0&& !a)=true->true=true)/\aj c (some (x==0&& !a)) (ae (ad b) 3) aT λ(d:Int)=>ak c (g (x==0&& !a&&d==0))) (true=true/\aQ c (ae (ad b) 1) λx=>(decide (x>=0)=true->true=true)/\aj c (some (decide (x>=0))) (ae (ad b) 1) aT λ(a:Int)=>((decide (x>=
 0)&&decide (a<=7))=true->true=true)/\aj c (some (decide (x>=0)&&decide (a<=7))) (ae (ad b) 3) aT λ(d:Int)=>((decide (x>=0)&&decide (a<=7)&&decide (d>=0))=true->true=true)/\aj c (some (decide (x>=0)&&decide (a<=7)&&decide (d>=0))) (ae (ad b) 3) aT λ(e:Int)=>((decide (x>=0)&&decide (a<=7)&&decide (d>=0)&&decide (e<=4095))=true->true=true)/\aj c (some (decide (x>=0)&&decide (a<=7)&&decide (d>=0)&&decide (e<=4095))) (ae (ad b) 2) nk λh=>((decide (x>=0)&&decide (a<=
 7)&&decide (d>=0)&&decide (e<=4095)&& !!h)=true->true=true)/\aj c (some (decide (x>=0)&&decide (a<=7)&&decide (d>=0)&&decide (e<=4095)&& !!h)) (ae (ad b) 1) aT λ(i:Int)=>ak c λw1=>g (decide (x>=0)&&decide (a<=7)&&decide (d>=0)&&decide (e<=4095)&&(!h||decide (i>0))) w1)):=by kernel_rfl
theorem Nf (x:Int) (w:A1) (a:Int->A1->Prop):(aJ D0 (λ_=>[]) 253 [aa x] w a)=(
 aF (decide (x<0)||decide (x>=4)) (ak w (a 0)) (∀(b:Int),b=dO .i64 4 x->0<=b/\ ∀(x:Int),x=zk .i64 1 b->ak w (a x))):=by kernel_rfl
theorem JQ (x:Int) (w:A1) (a:Int->A1->Prop):(aJ D0 (λ_=>[]) 343 [aa x] w a)=(
 aF (decide (x<0)||decide (x>3)) (ak w (a 0)) (aA w ⟨[aa 1,aa 16,aa 256,aa 4096]⟩ 3 λb c=>(true=true/\0<=x/\x<(↑4:Int))/\aQ c (ae (ad b) (x.toNat*1)) λx=>ak c (a x))):=by kernel_rfl
theorem ml {w:A1} {b:Nat} {p:Bool} {r:Int} {l:Bool} {f:Int} (h:bh w b [.bool p,aa r,.bool l,aa f]):
 cI w (ae (ad b) 0) (.one .bool) p/\cI w (ae (ad b) 1) (.one (.int .i64)) r/\cI w (ae (ad b) 2) (.one .bool) l/\cI w (ae (ad b) 3) (.one (.int .i64)) f/\
  cI w (ad b) (.agg [.bool,.int .i64,.bool,.int .i64]) (p,r,l,f,()):=by
 refine⟨?_,?_,?_,?_,?_⟩
 ·rw[aL];exact h.lJ rfl
 ·rw[aL];exact h.lJ rfl
 ·rw[aL];exact h.lJ rfl
 ·rw[aL];exact h.lJ rfl
 ·exact h.Mi λi _=>by rw[B3];rfl
def aP (p:Bool) (r:Int) (l:Bool) (f:Int):Bool:=
 match p with
 |true=>decide (0<=r)&&decide (r<=7)&&decide (0<=f)&&decide (f<4096)&&(decide (r>0)|| !l)
 |false=>decide (r=0)&& !l&&decide (f=0)
theorem uC (p:Bool) (r:Int) (l:Bool) (f:Int) (w:A1):ar A2 345 (.el (.one .bool)) [.agg ⟨[.bool p,aa r,.bool l,aa f]⟩] w (λb w'=>b=aP p r l f/\Ext w w'):=by
 refine ai (C:=D0) (aM:=λ_=>[]) (A_ (uB p r l f w _) ?_);intro w1 c;obtain⟨k,g1,m,i,n⟩:=ml (bh.new w1 [.bool p,aa r,.bool l,aa f] 301);refine⟨rfl,p,k,ab (λh=>⟨_,n,λj h2=>⟨?_,(c.da _).trans h2⟩⟩) (λh=>⟨rfl,r,g1,λ_=>rfl,r,λ_=>g1,λ_=>rfl,f,λ_=>i,λ_=>rfl,f,λ_=>i,ab (λd=>λj h2=>⟨?_,(c.da _).trans h2⟩) (λd=>⟨rfl,r,g1,λ_=>rfl,l,λ_=>m,λj h2=>⟨?_,(c.da _).trans h2⟩⟩)⟩)⟩
 ·have a:p=false:=by simpa using h
  subst a;by_cases e:r=0<;>by_cases g:f=0<;>cases l<;>simp[aP,e,g]
 ·have a:p=true:=by simpa using h
  subst a;simp only[EA,decide_eq_true_eq] at d;symm;simp only[aP,K2,decide_eq_false_iff_not];omega
 ·have a:p=true:=by simpa using h
  subst a;simp only[EB,decide_eq_false_iff_not] at d;have e:0<=r:=by omega
  have g:r<=7:=by omega
  have o:0<=f:=by omega
  have q:f<4096:=by omega
  simp[aP,e,g,o,q]
theorem qT (p:Bool) (r:Int) (l:Bool) (f:Int) (w:A1):ar A2 330 (.el (.one .bool)) [.agg ⟨[.bool p,aa r,.bool l,aa f]⟩] w (λb w'=>b=aP p r l f/\Ext w w'):=by
 refine ai (C:=D0) (aM:=λ_=>[]) (A_ (qS p r l f w _) ?_);intro w1 g;obtain⟨j,g1,i,a,o⟩:=ml (bh.new w1 [.bool p,aa r,.bool l,aa f] 305);refine⟨rfl,p,j,ab (λh=>⟨rfl,r,g1,λ_=>rfl,l,λ_=>i,λ_=>rfl,f,λ_=>a,λk h2=>⟨?_,(g.da _).trans h2⟩⟩) (λh=>⟨rfl,r,g1,λ_=>rfl,r,λ_=>g1,λ_=>rfl,f,λ_=>a,λ_=>rfl,f,λ_=>a,λ_=>rfl,l,λ_=>i,λ_=>rfl,r,λ_=>g1,λk h2=>⟨?_,(g.da _).trans h2⟩⟩)⟩
 ·have d:p=false:=by simpa using h
  subst d;by_cases m:r=0<;>by_cases n:f=0<;>cases l<;>simp[aP,m,n]
 ·have d:p=true:=by simpa using h
  subst d;have e:decide (f<=4095)=decide (f<4096):=by
   by_cases c:f<4096
   ·have:f<=4095:=by omega
    simp[c,this]
   ·have: ¬ f<=4095:=by omega
    simp[c,this]
  show(decide (0<=r)&&decide (r<=7)&&decide (0<=f)&&decide (f<=4095)&&(!l||decide (r>0)))= _;rw[e,Bool.or_comm];rfl
noncomputable def Im:Entry A2 where
 f:=365
 fn l:=match l with
  |[.bool b]=>some (True,.int .u64 (U (bB b)))
  | _=>none
 ok args pre v h c w:=by
  split at h
  ·rename_i b;cases h;refine aS (x:=U (bB b)) (ai (C:=D0) (aM:=λ_=>[]) (A_ (Nd b w _) ?_));exact ab (λhb w1 a=>⟨by subst hb;rfl,a⟩) (λhb w1 a=>⟨by subst hb;rfl,a⟩)
  ·cases h
noncomputable def qJ:Entry A2 where
 f:=345
 fn l:=match l with
  |[.agg ⟨[.bool p,.int .i64 r,.bool l,.int .i64 f]⟩]=>some (True,.bool (aP p r l f))
  | _=>none
 ok args pre v h a w:=by
  split at h
  ·rename_i p r l f;cases h;exact aS (uC p r l f w)
  ·cases h
noncomputable def mP:Entry A2 where
 f:=330
 fn l:=match l with
  |[.agg ⟨[.bool p,.int .i64 r,.bool l,.int .i64 f]⟩]=>some (True,.bool (aP p r l f))
  | _=>none
 ok args pre v h a w:=by
  split at h
  ·rename_i p r l f;cases h;exact aS (qT p r l f w)
  ·cases h
def ff (x:Int):Int:=if x=0 then 1 else if x=1 then 16 else if x=2 then 256 else if x=3 then 4096 else 0
theorem Ng (x:Int) (w:A1):ar A2 253 (.el (.one (.int .i64))) [aa x] w (λb w'=>b=ff x/\Ext w w'):=by
 refine ai (C:=D0) (aM:=λ_=>[]) (A_ (Nf x w _) ?_);refine ab (λh w1 a=>⟨?_,a⟩) (λh y c=>?_)
 ·simp only[EA,decide_eq_true_eq] at h;unfold ff;rw[ao (by omega),ao (by omega),ao (by omega),ao (by omega)]
 ·simp only[EB,decide_eq_false_iff_not] at h;rw[dI (by omega) (by omega)] at c;refine⟨by omega,λz d w1 a=>⟨?_,a⟩⟩;have:x=0\/x=1\/x=2\/x=3:=by omega
  rcases this with rfl|rfl|rfl|rfl<;>(subst c;rw[d];decide+kernel)
theorem JR (x:Int) (w:A1):ar A2 343 (.el (.one (.int .i64))) [aa x] w (λb w'=>b=ff x/\Ext w w'):=by
 refine ai (C:=D0) (aM:=λ_=>[]) (A_ (JQ x w _) ?_);refine ab (λh w1 a=>⟨?_,a⟩) (λh w1 a=>?_)
 ·simp only[EA,decide_eq_true_eq] at h;unfold ff;rw[ao (by omega),ao (by omega),ao (by omega),ao (by omega)]
 ·simp only[EB,decide_eq_false_iff_not] at h;have sl:Sl (w1.alloc (.cells ⟨[aa 1,aa 16,aa 256,aa 4096]⟩ 3)) eI (ad w1.heap.size) [1,16,256,4096]:=Sl.iB (bh.new w1 _ _) rfl;have c:x.toNat<4:=by omega
  have g:[(1:Int),16,256,4096][x.toNat]? =some (ff x):=by
   have:x=0\/x=1\/x=2\/x=3:=by omega
   rcases this with rfl|rfl|rfl|rfl<;>rfl
  exact⟨⟨rfl,by omega,by omega⟩, _,(sl _ _ g).2,λd h2=>⟨rfl,(a.da _).trans h2⟩⟩
noncomputable def Io:Entry A2 where
 f:=253
 fn l:=match l with
  |[.int .i64 x]=>some (True,.int .i64 (ff x))
  | _=>none
 ok args pre v h a w:=by
  split at h
  ·rename_i x;cases h;exact aS (Ng x w)
  ·cases h
noncomputable def BG:Entry A2 where
 f:=343
 fn l:=match l with
  |[.int .i64 x]=>some (True,.int .i64 (ff x))
  | _=>none
 ok args pre v h a w:=by
  split at h
  ·rename_i x;cases h;exact aS (JR x w)
  ·cases h
noncomputable def D1:dn A2:={D0 with oG:=[o_,Mj,xS,xT,rB,rC,Bl,Bm,Im,qJ,mP,Io,BG]}
theorem JS (p:Bool) (r:Int) (l:Bool) (f:Int) (w:A1) (e:Bool->A1->Prop):(aJ D1 (λ_=>[]) 313 [.agg ⟨[.bool p,aa r,.bool l,aa f]⟩] w e)=(
 aA w ⟨[.bool p,aa r,.bool l,aa f]⟩ 301 λb a=>true=true/\jE a (ae (ad b) 0) λx=>(x=true->true=true)/\aj a (some x) (ae (ad b) 1) aT λ(d:Int)=>aj a (some (x&&d==0)) (ad b) fW λ(c:Bool×Int×Bool×Int×Unit)=>((x&&d==0)=true->True)/\ak a (e (x&&d==0&&aP c.1 c.2.1 c.2.2.1 c.2.2.2.1))):=by kernel_rfl
theorem E_ (p:Bool) (r:Int) (l:Bool) (f:Int) (w:A1) (d:Bool->A1->Prop):(aJ D1 (λ_=>[]) 275 [.agg ⟨[.bool p,aa r,.bool l,aa f]⟩] w d)=(
 aA w ⟨[.bool p,aa r,.bool l,aa f]⟩ 305 λb a=>aj a none (ad b) fW λ(x:Bool×Int×Bool×Int×Unit)=>True/\(aP x.1 x.2.1 x.2.2.1 x.2.2.2.1=true->true=true)/\aj a (some (aP x.1 x.2.1 x.2.2.1 x.2.2.2.1)) (ae (ad b) 0) nk λc=>((aP x.1 x.2.1 x.2.2.1 x.2.2.2.1&&c)=true->true=true)/\aj a (some (aP x.1 x.2.1 x.2.2.1 x.2.2.2.1&&c)) (ae (ad b) 1) aT λ(e:Int)=>ak a (d (aP x.1 x.2.1 x.2.2.1 x.2.2.2.1&&c&&e==0))):=by kernel_rfl
theorem E' (p:Bool) (r:Int) (l:Bool) (f:Int) (t:Int) (w:A1) (d:Bool->A1->Prop):(aJ D1 (λ_=>[]) 370 [.agg ⟨[.bool p,aa r,.bool l,aa f]⟩,aa t] w d)=(
 aA w ⟨[.bool p,aa r,.bool l,aa f]⟩ 301 λb a=>aj a none (ad b) fW λ(x:Bool×Int×Bool×Int×Unit)=>True/\(aP x.1 x.2.1 x.2.2.1 x.2.2.2.1=true->true=true)/\aj a (some (aP x.1 x.2.1 x.2.2.1 x.2.2.2.1)) (ae (ad b) 1) aT λ(c:Int)=>((aP x.1 x.2.1 x.2.2.1 x.2.2.2.1&&decide (c>0)&&decide (t>=0)&&decide (t<=7))=true->true=true)/\aj a (some (aP x.1 x.2.1 x.2.2.1 x.2.2.2.1&&decide (c>0)&&decide (t>=0)&&decide (t<=7))) (ae (ad b) 1) aT λ(g:Int)=> ∀(e:Int),e=iV .i64 t
 g->ak a (d (aP x.1 x.2.1 x.2.2.1 x.2.2.2.1&&decide (c>0)&&decide (t>=0)&&decide (t<=7)&&e==0))):=by kernel_rfl
theorem Ce (p:Bool) (r:Int) (l:Bool) (f:Int) (t:Int) (w:A1) (e:Bool->A1->Prop):(aJ D1 (λ_=>[]) 331 [.agg ⟨[.bool p,aa r,.bool l,aa f]⟩,aa t] w e)=(
 aA w ⟨[.bool p,aa r,.bool l,aa f]⟩ 305 λb a=>aj a none (ad b) fW λ(x:Bool×Int×Bool×Int×Unit)=>True/\(aP x.1 x.2.1 x.2.2.1 x.2.2.2.1=true->true=true)/\aj a (some (aP x.1 x.2.1 x.2.2.1 x.2.2.2.1)) (ae (ad b) 0) nk λc=>((aP x.1 x.2.1 x.2.2.1 x.2.2.2.1&&c)=true->true=true)/\aj a (some (aP x.1 x.2.1 x.2.2.1 x.2.2.2.1&&c)) (ae (ad b) 1) aT λ(d:Int)=>((aP x.1 x.2.1 x.2.2.1 x.2.2.2.1&&c&&decide (d>0)&&decide (t>=0)&&decide (t<=7))=true->true=true)/\aj a (some
 (aP x.1 x.2.1 x.2.2.1 x.2.2.2.1&&c&&decide (d>0)&&decide (t>=0)&&decide (t<=7))) (ae (ad b) 1) aT λ(h:Int)=> ∀(g:Int),g=lY .i64 h t->ak a (e (aP x.1 x.2.1 x.2.2.1 x.2.2.2.1&&c&&decide (d>0)&&decide (t>=0)&&decide (t<=7)&&g==t))):=by kernel_rfl
theorem JT (x y:Int) (w:A1) (b:Int->A1->Prop):(aJ D1 (λ_=>[]) 344 [aa x,aa y] w b)=(
 ((!(decide (x<0)||decide (x>=65536)))=true->True)/\ ∀(c:Int),c=ff y->aF (decide (x<0)||decide (x>=65536)||c==0) (ak w (b (-1))) (∀(a:Int),a=aD .u64 x-> ∀(x:Int),x=dO .i64 4 y->U (B a)=a/\ ∀(d:Int),d=U (c_ (B a) x 4)-> ∀(x:Int),x=aD .i64 d->ak w (b x))):=by kernel_rfl
theorem Fa (x y:Int) (w:A1) (a:Int->A1->Prop):(aJ D1 (λ_=>[]) 307 [aa x,aa y] w a)=(
 ((!(decide (x<0)||decide (x>65535)))=true->True)/\ ∀(c:Int),c=ff y->aF (decide (x<0)||decide (x>65535)||c==0) (ak w (a (-1))) (True/\ ∀(b:Int),b=ff y->b≠0/\ ∀(d:Int),d=nh .i64 x b-> ∀(x:Int),x=gu d 16->ak w (a x))):=by kernel_rfl
theorem JU (p:Bool) (r:Int) (l:Bool) (f:Int) (w:A1) (c:Int×Int×Unit->A1->Prop):(aJ D1 (λ_=>[]) 341 [.agg ⟨[.bool p,aa r,.bool l,aa f]⟩] w c)=(
 aA w ⟨[.bool p,aa r,.bool l,aa f]⟩ 301 λb a=>aj a none (ad b) fW λ(x:Bool×Int×Bool×Int×Unit)=>True/\aF (!aP x.1 x.2.1 x.2.2.1 x.2.2.2.1) (ak a (c (0,11,()))) (true=true/\jE a (ae (ad b) 0) λx=>True/\ ∀(d:Int),d=U (bB x)->true=true/\aQ a (ae (ad b) 1) λx=> ∀(e:Int),e=aD .u64 x->true=true/\jE a (ae (ad b) 2) λx=>True/\ ∀(g:Int),g=U (bB x)->true=true/\aQ a (ae (ad b) 3) λx=> ∀(h:Int),h=aD .u64 x->aA a {toList:=[aq d,
 aa 1,aq e,aa 3,aq g,aa 1,aq 0,aa 7,aq h,aa 12]} 429 λb a=>aB A2 364 (.el oT) [.slice (ad b) 5 5] a λ(x:Int) a=>ak a (c (x,0,())))):=by kernel_rfl
abbrev ly (d:Int×Int×Unit->A1->Prop) (a:A1) (e:Nat) (f:Int):Prop:=
 true=true/\aQ a (ae (ad e) 3) λx=> ∀(b:Int),b=aD .u64 x-> ∀(x:Int),x=dO .u64 4096 b-> ∀(c:Int),c=aC .u64 f x->ak a (d (c,0,()))
abbrev p9 (e:Int×Int×Unit->A1->Prop) (a:A1) (b:Nat) (f:Int):Prop:=
 true=true/\aQ a (ae (ad b) 1) λx=> ∀(c:Int),c=aD .u64 x-> ∀(x:Int),x=dO .u64 2 c-> ∀(d:Int),d=aC .u64 f x->ly e a b d
theorem Fb (p:Bool) (r:Int) (l:Bool) (f:Int) (w:A1) (c:Int×Int×Unit->A1->Prop):(aJ D1 (λ_=>[]) 306 [.agg ⟨[.bool p,aa r,.bool l,aa f]⟩] w c)=(
 aA w ⟨[.bool p,aa r,.bool l,aa f]⟩ 305 λb a=>aj a none (ad b) fW λ(x:Bool×Int×Bool×Int×Unit)=>True/\aF (!aP x.1 x.2.1 x.2.2.1 x.2.2.2.1) (ak a (c (0,11,()))) (true=true/\jE a (ae (ad b) 0) λx=>aF x (true=true/\jE a (ae (ad b) 2) λx=>aF x (∀(x:Int),x=aC .u64 1 16->p9 c a b x) (true=true/\aQ a (ae (ad b) 1) λx=> ∀(d:Int),d=aD .u64 x-> ∀(x:Int),x=dO .u64 2 d-> ∀(e:Int),e=aC .u64 1 x->ly c a b e)) (true=true/\jE a
 (ae (ad b) 2) λx=>aF x (∀(x:Int),x=aC .u64 0 16->p9 c a b x) (true=true/\aQ a (ae (ad b) 1) λx=> ∀(d:Int),d=aD .u64 x-> ∀(x:Int),x=dO .u64 2 d-> ∀(e:Int),e=aC .u64 0 x->ly c a b e)))):=by kernel_rfl
theorem JV (v:Int) (w:A1) (e:(Bool×Int×Bool×Int×Unit)×Bool×Unit->A1->Prop):(bO D1 (λ_=>[]) 314 [aq v] w e)=(
 aA w ⟨[.bool false,aa 0,.bool false,aa 0]⟩ 301 λb a=>aA a ⟨[aa 1,aa 3,aa 1,aa 7,aa 12,aa 40]⟩ 3 λi a=>aB A2 346 (.el jD) [aq v,.slice (ad i) 6 6] a λx a=>(x.1.isSome=true/\(0:Int)<=0/\0<(↑x.2.1:Int))/\cg a (ae x.1 0) λj=>(x.1.isSome=true/\(0:Int)<=1/\1<(↑x.2.1:Int))/\cg a (ae x.1 1) λk=> ∀(g:Int),g=aD .i64 k->(x.1.isSome=true/\(0:Int)<=2/\2<(↑x.2.1:Int))/\cg a (ae x.1 2) λl=>(x.1.isSome=true/\(0
 :Int)<=4/\4<(↑x.2.1:Int))/\cg a (ae x.1 4) λm=> ∀(h:Int),h=aD .i64 m->aA a ⟨[.bool false,aa 0,.bool false,aa 0]⟩ 301 λf a=>aw a (ad f) [.bool (j==1),aa g,.bool (l==1),aa h] λa=>(x.1.isSome=true/\(0:Int)<=3/\3<(↑x.2.1:Int))/\cg a (ae x.1 3) λc=>((!decide (c>0))=true->x.1.isSome=true/\(0:Int)<=5/\5<(↑x.2.1:Int))/\aj a (some !decide (c>0)) (ae x.1 5) oT λ(x:Int)=>aj a (some !(decide (c>0)||decide (x>0))) (ad f) fW λ
 (d:Bool×Int×Bool×Int×Unit)=>((!(decide (c>0)||decide (x>0)))=true->True)/\aF (decide (c>0)||decide (x>0)|| !aP d.1 d.2.1 d.2.2.1 d.2.2.2.1) (aw a (ad b) [.bool false,aa 0,.bool false,aa 0] λa=>ak a λw1=>aj w1 none (ad b) fW λ(x:Bool×Int×Bool×Int×Unit)=>e ((x.1,x.2.1,x.2.2.1,x.2.2.2.1,()),false,()) w1) (aj a none (ad f) fW λ(x:Bool×Int×Bool×Int×Unit)=>aw a (ad b) [.bool x.1,aa x.2.1,.bool x.2.2.1,aa x.2.2.2.1] λa=>ak a λ
 w1=>aj w1 none (ad b) fW λ(x:Bool×Int×Bool×Int×Unit)=>e ((x.1,x.2.1,x.2.2.1,x.2.2.2.1,()),true,()) w1)):=by kernel_rfl
def fa (p:Bool) (r:Int) (l:Bool) (f:Int):Bool:=p&&r==0&&aP p r l f
def gq (p:Bool) (r:Int) (l:Bool) (f t:Int):Bool:=aP p r l f&&decide (r>0)&&decide (t>=0)&&decide (t<=7)&&iV .i64 t r==0
theorem JW (p:Bool) (r:Int) (l:Bool) (f:Int) (w:A1):ar A2 313 (.el (.one .bool)) [.agg ⟨[.bool p,aa r,.bool l,aa f]⟩] w (λb w'=>b=fa p r l f/\Ext w w'):=by
 refine ai (C:=D1) (aM:=λ_=>[]) (A_ (JS p r l f w _) ?_);intro w1 a;obtain⟨c,g1,e,g,d⟩:=ml (bh.new w1 [.bool p,aa r,.bool l,aa f] 301);exact⟨rfl,p,c,λ_=>rfl,r,λ_=>g1, _,λ_=>d,λ_=>trivial,λh h2=>⟨rfl,(a.da _).trans h2⟩⟩
theorem Fc (p:Bool) (r:Int) (l:Bool) (f:Int) (w:A1):ar A2 275 (.el (.one .bool)) [.agg ⟨[.bool p,aa r,.bool l,aa f]⟩] w (λb w'=>b=fa p r l f/\Ext w w'):=by
 refine ai (C:=D1) (aM:=λ_=>[]) (A_ (E_ p r l f w _) ?_);intro w1 a;obtain⟨c,g1,e,g,d⟩:=ml (bh.new w1 [.bool p,aa r,.bool l,aa f] 305);refine⟨_,d,trivial,λ_=>rfl,p,λ_=>c,λ_=>rfl,r,λ_=>g1,λh h2=>⟨?_,(a.da _).trans h2⟩⟩;show(aP p r l f&&p&&r==0)=(p&&r==0&&aP p r l f);rw[Bool.and_assoc,K1]
theorem Fe: ∀r t:Fin 8,(iV .i64 (t.val:Int) (r.val:Int)==0)=(lY .i64 (r.val:Int) (t.val:Int)==(t.val:Int)):=by decide+kernel
theorem IN {x:Int} (h:0<=x) (h':x<=7): ∃k:Fin 8,x=(k.val:Int):=⟨⟨x.toNat,by omega⟩,by show x=(x.toNat:Int);omega⟩
theorem mu {p:Bool} {r:Int} {l:Bool} {f:Int} (h:aP p r l f=true):0<=r/\r<=7/\0<=f/\f<4096/\(p=false->r=0/\l=false/\f=0):=by
 cases p
 ·simp[aP] at h;obtain⟨⟨a,h2⟩,b⟩:=h;subst a;subst b;exact⟨by decide,by decide,by decide,by decide,λ_=>⟨rfl,h2,rfl⟩⟩
 ·simp[aP] at h;exact⟨h.1.1.1.1,h.1.1.1.2,h.1.1.2,h.1.2,λe=>by cases e⟩
theorem Cf {r t:Int} (a:0<=r) (h2:r<=7) (b:0<=t) (c:t<=7):(lY .i64 r t==t)=(iV .i64 t r==0):=by
 obtain⟨k,d⟩:=IN a h2;obtain⟨j,e⟩:=IN b c;rw[d,e];exact(Fe k j).symm
theorem yQ (p:Bool) (r:Int) (l:Bool) (f t:Int):(aP p r l f&&p&&decide (r>0)&&decide (t>=0)&&decide (t<=7)&&lY .i64 r t==t)=gq p r l f t:=by
 unfold gq;cases e:aP p r l f with
 |false=>simp only[O1]
 |true=>
  have b:=mu e;by_cases g:r>0
  ·have a:p=true:=by
    cases a:p with
    |true=>rfl
    |false=>have:=(b.2.2.2.2 a).1;omega
   by_cases c:t>=0
   ·by_cases d:t<=7
    ·rw[a,Cf b.1 b.2.1 c d,Gi]
    ·rw[decide_eq_false d];simp
   ·rw[decide_eq_false c];simp
  ·rw[decide_eq_false g];simp
theorem Ff (p:Bool) (r:Int) (l:Bool) (f t:Int) (w:A1):ar A2 370 (.el (.one .bool)) [.agg ⟨[.bool p,aa r,.bool l,aa f]⟩,aa t] w (λb w'=>b=gq p r l f t/\Ext w w'):=by
 refine ai (C:=D1) (aM:=λ_=>[]) (A_ (E' p r l f t w _) ?_);intro w1 a;obtain⟨e,g1,g,h,c⟩:=ml (bh.new w1 [.bool p,aa r,.bool l,aa f] 301);exact⟨_,c,trivial,λ_=>rfl,r,λ_=>g1,λ_=>rfl,r,λ_=>g1,λx d i h2=>⟨by rw[d];rfl,(a.da _).trans h2⟩⟩
theorem Cg (p:Bool) (r:Int) (l:Bool) (f t:Int) (w:A1):ar A2 331 (.el (.one .bool)) [.agg ⟨[.bool p,aa r,.bool l,aa f]⟩,aa t] w (λb w'=>b=gq p r l f t/\Ext w w'):=by
 refine ai (C:=D1) (aM:=λ_=>[]) (A_ (Ce p r l f t w _) ?_);intro w1 a;obtain⟨c,g1,g,h,d⟩:=ml (bh.new w1 [.bool p,aa r,.bool l,aa f] 305);refine⟨_,d,trivial,λ_=>rfl,p,λ_=>c,λ_=>rfl,r,λ_=>g1,λ_=>rfl,r,λ_=>g1,λx e i h2=>⟨?_,(a.da _).trans h2⟩⟩;rw[e];exact yQ p r l f t
def eB (x y:Int):Int:=if 0<=x/\x<65536/\0<=y/\y<=3 then x / ff y % 16 else -1
theorem wL {y:Int}:(ff y==0)= !(decide (0<=y)&&decide (y<=3)):=by
 by_cases h:0<=y/\y<=3
 ·have:y=0\/y=1\/y=2\/y=3:=by omega
  rcases this with rfl|rfl|rfl|rfl<;>rfl
 ·have e:ff y=0:=by
   unfold ff;rw[ao (by omega),ao (by omega),ao (by omega),ao (by omega)]
  rw[e];by_cases a:0<=y
  ·have: ¬ y<=3:=λh2=>h ⟨a,h2⟩;simp[this]
  ·simp[a]
theorem wM {x y:Int} (h: ¬ (0<=x/\x<65536/\0<=y/\y<=3)):eB x y= -1:=ao h
theorem qU {x:Int} (h: -9223372036854775808<=x) (h':x<9223372036854775808):aD .i64 x=x:=dZ h h'
theorem qV {x:Int} (h:0<=x) (h':x<18446744073709551616):aD .u64 x=x:=by
 show EH.wrap x=x;rw[wrap_u64];omega
theorem mZ {a b c:Int} (m:Nat) (h:0<=a/\a<65536) (d:2 ^ b.toNat=m) (e:bX b 4=true) (f:c=U (c_ (B a) b 4)):c=a / (m:Int) % 16:=by
 have g:((B a).toNat:Int)=a:=xR (by omega) (by omega);rw[f,sE (gL m 16 e d (by decide)),Int.natCast_emod,Int.natCast_ediv,g];rfl
theorem AP {a y b c:Int} (f:0<=a/\a<65536) (h:0<=y/\y<=3) (d:b=4*y) (g:c=U (c_ (B a) b 4)):c=eB a y/\0<=c/\c<16:=by
 have e:c=eB a y:=by
  unfold eB;rw[ax (by omega)];have:y=0\/y=1\/y=2\/y=3:=by omega
  rcases this with rfl|rfl|rfl|rfl
  ·exact mZ 1 f (by subst d;decide) (by subst d;decide) g
  ·exact mZ 16 f (by subst d;decide) (by subst d;decide) g
  ·exact mZ 256 f (by subst d;decide) (by subst d;decide) g
  ·rw[show ff 3=((4096:Nat):Int) by decide];exact mZ 4096 f (by subst d;decide) (by subst d;decide) g
 refine⟨e,?_⟩;rw[e];unfold eB;rw[ax (by omega)];exact⟨My _ (by decide),Mz _ (by decide)⟩
theorem JX (x y:Int) (w:A1):ar A2 344 (.el (.one (.int .i64))) [aa x,aa y] w (λb w'=>b=eB x y/\Ext w w'):=by
 refine ai (C:=D1) (aM:=λ_=>[]) (A_ (JT x y w _) ?_);refine⟨λ_=>trivial,λs es=>?_⟩;subst es;rw[wL];refine ab (λh w1 e=>⟨?_,e⟩) (λh a f b g=>?_)
 ·simp only[EA,decide_eq_true_eq,Hr,K2,decide_eq_false_iff_not] at h;rw[wM (by omega)]
 ·simp only[EB,decide_eq_false_iff_not,O2,FS,decide_eq_true_eq] at h;rw[qV (by omega) (by omega)] at f;rw[dI (by omega) (by omega)] at g;subst f;refine⟨xR (by omega) (by omega),λc i d j w1 e=>⟨?_,e⟩⟩;obtain⟨k,l,m⟩:=AP (y:=y) (by omega) (by omega) g i;rw[j,qU (by omega) (by omega),k]
theorem Fg (x y:Int) (w:A1):ar A2 307 (.el (.one (.int .i64))) [aa x,aa y] w (λb w'=>b=eB x y/\Ext w w'):=by
 refine ai (C:=D1) (aM:=λ_=>[]) (A_ (Fa x y w _) ?_);refine⟨λ_=>trivial,λs es=>?_⟩;subst es;rw[wL];refine ab (λh w1 a=>⟨?_,a⟩) (λh=>⟨trivial,λs es=>?_⟩)
 ·simp only[EA,decide_eq_true_eq,Hr,K2,decide_eq_false_iff_not] at h;rw[wM (by omega)]
 ·simp only[EB,decide_eq_false_iff_not,O2,FS,decide_eq_true_eq] at h;have f:y=0\/y=1\/y=2\/y=3:=by omega
  have k:1<=s:=by rcases f with rfl|rfl|rfl|rfl<;>(rw[es];decide)
  refine⟨by omega,λc e d g w1 a=>⟨?_,a⟩⟩;have i:nh .i64 x s=x / s:=by
   unfold nh;rw[Mr (by omega)];have a:0<=x / s:=O0 (by omega) (by omega);have h2:x / s<=x:=Int.ediv_le_self _ (by omega);exact dZ (by omega) (by omega)
  have a:0<=x / s:=O0 (by omega) (by omega);rw[i] at e;have j:gu c 16=c % 16:=Ms (by omega);rw[g,j,e,es];unfold eB;rw[ax (by omega)]
def lC (p:Bool) (r:Int) (l:Bool) (f:Int):Int:=(nB p:Int)+2*r+16*(nB l:Int)+4096*f
def tu (p:Bool) (r:Int) (l:Bool) (f:Int):Int:=if aP p r l f=true then lC p r l f else 0
def He (p:Bool) (r:Int) (l:Bool) (f:Int):Int:=if aP p r l f=true then 0 else 11
theorem Da {x:Int} (h:0<=x) (h':x<18446744073709551616):(B x).toNat=x.toNat:=by
 have:((B x).toNat:Int)=x:=xR h h';omega
theorem Ch {p:Bool} {r:Int} {l:Bool} {f:Int} (h:aP p r l f=true):U (nC 0#64 0 [(bB p,1),(B r,3),(bB l,1),(0#64,7),(B f,12)])=lC p r l f:=by
 have b:=mu h;rw[sE (E9 (Da (by omega) (by omega)) (by omega) (Da (by omega) (by omega)) (by omega))];unfold lC;omega
theorem JY (p:Bool) (r:Int) (l:Bool) (f:Int) (w:A1):ar A2 341 (.bH [eU,eI]) [.agg ⟨[.bool p,aa r,.bool l,aa f]⟩] w (λx w'=>x=(tu p r l f,He p r l f,())/\Ext w w'):=by
 refine ai (C:=D1) (aM:=λ_=>[]) (A_ (JU p r l f w _) ?_);intro w1 g;obtain⟨m,g1,o,q,s⟩:=ml (bh.new w1 [.bool p,aa r,.bool l,aa f] 301);refine⟨_,s,trivial,ab (λh a h2=>⟨?_,(g.da _).trans h2⟩) (λh=>⟨rfl,p,m,trivial,λF t=>⟨rfl,r,g1,λd i=>⟨rfl,l,o,trivial,λG u=>⟨rfl,f,q,λe j a h2 v k=>?_⟩⟩⟩⟩)⟩
 ·have h':aP p r l f=false:=by simpa using h
  unfold tu He;rw[h'];rfl
 ·have h':aP p r l f=true:=by simpa using h
  have b:=mu h';rw[qV (by omega) (by omega)] at i j;subst t;subst i;subst u;subst j;have y:U (B d)=d:=xR (by omega) (by omega);have z:U (B e)=e:=xR (by omega) (by omega);have sl:Sl v eP (ad a.heap.size) (HR [(bB p,1),(B d,3),(bB l,1),(0#64,7),(B e,12)]):=Sl.iB ((bh.new a _ _).ext k) (by
   simp only[HR,DS,List.map_nil,y,z];rfl)
  refine(Na (n:=5) (c:=5) sl rfl (by decide)).mono ?_;rintro x H ⟨A,D⟩ I E;refine⟨?_,((((g.da _).trans h2).da _).trans k).trans (D.trans E)⟩;rw[A,Ch h'];unfold tu He;rw[ax h',ax h']
theorem pI {x y:Int} (h:0<=x+y) (h':x+y<18446744073709551616):aC .u64 x y=x+y:=by
 show EH.wrap (x+y)= _;rw[wrap_u64];omega
theorem JZ {x y:Int} (h:0<=x*y) (h':x*y<18446744073709551616):dO .u64 x y=x*y:=by
 show EH.wrap (x*y)= _;rw[wrap_u64];omega
theorem Fh (p:Bool) (r:Int) (l:Bool) (f:Int) (w:A1):ar A2 306 (.bH [eU,eI]) [.agg ⟨[.bool p,aa r,.bool l,aa f]⟩] w (λx w'=>x=(tu p r l f,He p r l f,())/\Ext w w'):=by
 refine ai (C:=D1) (aM:=λ_=>[]) (A_ (Fb p r l f w _) ?_);intro w1 u;obtain⟨D,g1,B,y,E⟩:=ml (bh.new w1 [.bool p,aa r,.bool l,aa f] 305);have fin: ∀(h:aP p r l f=true) (s:Int),s=(nB p:Int)+16*(nB l:Int)-> ∀(A a c d e g:Int),a=aD .u64 A->A=r->c=dO .u64 2 a->d=aC .u64 s c->e=aD .u64 f->g=dO .u64 4096 e-> ∀i,i=aC .u64 d g->((i,(0:Int),()):Int×Int×Unit)=(tu p r l f,He p r l f,()):=by
  intro h s es A a c d e g j F k m n o i q;have b:=mu h;have G:=zL p;have H:=zL l;subst F;rw[qV (by omega) (by omega)] at j n;rw[JZ (by omega) (by omega)] at k o;rw[pI (by omega) (by omega)] at m;rw[pI (by omega) (by omega)] at q;unfold tu He lC;rw[ax h,ax h];congr 1;omega
 refine⟨_,E,trivial,ab (λh z h2=>⟨?_,(u.da _).trans h2⟩) (λh=>?_)⟩
 ·have h':aP p r l f=false:=by simpa using h
  unfold tu He;rw[h'];rfl
 ·have h':aP p r l f=true:=by simpa using h
  refine⟨rfl,p,D,ab (λv=>⟨rfl,l,B,ab (λt s es=>⟨rfl,r,g1,λa j c k d m=>⟨rfl,f,y,λe n g o i q z h2=>⟨?_,(u.da _).trans h2⟩⟩⟩) (λt=>⟨rfl,r,g1,λa j c k d m=>⟨rfl,f,y,λe n g o i q z h2=>⟨?_,(u.da _).trans h2⟩⟩⟩)⟩) (λv=>⟨rfl,l,B,ab (λt s es=>⟨rfl,r,g1,λa j c k d m=>⟨rfl,f,y,λe n g o i q z h2=>⟨?_,(u.da _).trans h2⟩⟩⟩) (λt=>⟨rfl,r,g1,λa j c k d m=>⟨rfl,f,y,λe n g o i q z h2=>⟨?_,(u.da _).trans h2⟩⟩⟩)⟩)⟩
  ·refine fin h' s ?_ r a c d e g j rfl k m n o i q;rw[es,v,t,pI (by decide) (by decide)];decide
  ·refine fin h' 1 ?_ r a c d e g j rfl k m n o i q;rw[v,t];decide
  ·refine fin h' s ?_ r a c d e g j rfl k m n o i q;rw[es,v,t,pI (by decide) (by decide)];decide
  ·refine fin h' 0 ?_ r a c d e g j rfl k m n o i q;rw[v,t];decide
theorem qK {w:A1} {b:Nat} {l:List A3} (h:bh w b l) (a:List A3) (c:a.length=l.length):bh (fo w (ad b) a) b a:=by
 have:=h.put (o:=0) a (by omega);rw[B3,c,Lr,HO,Hz,I1] at this;exact this
def mK (n:Nat):Bool:=decide (n / 32 % 128=0)&&decide (n / 16777216 % 1099511627776=0)&&aP (n % 2==1) ((n / 2 % 8:Nat):Int) (n / 16 % 2==1) ((n / 4096 % 4096:Nat):Int)
def vY (n:Nat):Bool:=mK n&&n % 2==1
def xI (n:Nat):Int:=if mK n=true then((n / 2 % 8:Nat):Int) else 0
def xJ (n:Nat):Bool:=mK n&&n / 16 % 2==1
def vt (n:Nat):Int:=if mK n=true then((n / 4096 % 4096:Nat):Int) else 0
theorem Rq {w0 w:A1} {e:El} {s:Option A9×Nat×Nat} {xs:List e.T} (h:jz w0 w e s xs) {a:A9} (d:s.1=some a):a.block<w.heap.size:=by
 obtain⟨_, _,c⟩:=h;rcases c with ⟨c, _⟩|⟨b,l,c, _,f, _⟩
 ·rw[c] at d;cases d
 ·rw[c] at d;cases d;exact f.lt
theorem sZ (n:Nat):(((n:Nat):Int)==1)=(n==1):=by
 rw[GS,beq_iff_eq,beq_iff_eq];omega
theorem Dy (n:Nat):decide (((n:Nat):Int)>0)= !decide (n=0):=by
 rw[GS,decide_eq_true_eq,Hr,decide_eq_false_iff_not];omega
theorem J0 (v:BitVec 64) (w:A1):ar A2 314 (.bH [.agg [.bool,.int .i64,.bool,.int .i64],.one .bool]) [aq (U v)] w
 (λx w'=>x=((vY v.toNat,xI v.toNat,xJ v.toNat,vt v.toNat,()),mK v.toNat,())/\Ext w w'):=by
 refine aO (C:=D1) (aM:=λ_=>[]) (A_ (JV (U v) w _) ?_);intro w1 r l h2 s m;have cX:bh l w1.heap.size [AC false,aa 0,AC false,aa 0]:=(bh.new w1 _ _).ext h2;have H:Ext w l:=(r.da _).trans h2;have y:Ext w s:=(H.da _).trans m;have sl:Sl s eI (ad l.heap.size) [1,3,1,7,12,40]:=Sl.iB ((bh.new l _ _).ext m) rfl;refine(JG (v:=v) (c:=6) sl rfl (by decide)).mono ?_;rintro⟨p,n,c⟩ X ⟨e,o⟩;rw[Cd] at e;have ln:n=6:=by have:=e.len;simpa[xU] using this
 subst ln
 let N:=v.toNat
 have I:U (c_ v 0 1)=((N % 2:Nat):Int):=by rw[sE (gL 1 2 (by decide) rfl rfl),Nat.div_one]
 have J:U (c_ v 1 3)=((N / 2 % 8:Nat):Int):=sE (gL 2 8 (by decide) rfl rfl);have K:U (c_ v 4 1)=((N / 16 % 2:Nat):Int):=sE (gL 16 2 (by decide) rfl rfl);have L:U (c_ v 5 7)=((N / 32 % 128:Nat):Int):=sE (gL 32 128 (by decide) rfl rfl);have M:U (c_ v 12 12)=((N / 4096 % 4096:Nat):Int):=sE (gL 4096 4096 (by decide) (by decide) (by decide));have O:U (c_ v 24 40)=((N / 16777216 % 1099511627776:Nat):Int):=sE (gL 16777216 1099511627776 (by decide) (by decide) (by decide));have P:xU ((some [c_ v 0 1,c_ v 1 3,c_ v 4 1,c_ v 5 7,c_ v 12 12,c_ v 24 40]).getD [])=[((N % 2:Nat):Int),((N / 2 % 8:Nat):Int),((N / 16 % 2:Nat):Int),((N / 32 % 128:Nat):Int),((N / 4096 % 4096:Nat):Int),((N / 16777216 % 1099511627776:Nat):Int)]:=by
  show[U (c_ v 0 1),U (c_ v 1 3),U (c_ v 4 1),U (c_ v 5 7),U (c_ v 12 12),U (c_ v 24 40)]= _;rw[I,J,K,L,M,O]
 rw[P] at e;have Q:p.isSome=true:=(e.sl 0 _ rfl).1;have ix: ∀i:Int,0<=i->i<6->p.isSome=true/\0<=i/\i<((6:Nat):Int):=λi a b=>⟨Q,a,b⟩;refine⟨ix 0 (by decide) (by decide), _,(e.sl 0 _ rfl).2,ix 1 (by decide) (by decide), _,(e.sl 1 _ rfl).2,λY z=>⟨ix 2 (by decide) (by decide), _,(e.sl 2 _ rfl).2,ix 4 (by decide) (by decide), _,(e.sl 4 _ rfl).2,λZ A d f g q=>?_⟩⟩;rw[qU (by omega) (by omega)] at z A;rw[sZ,sZ];subst z;subst A;have bt:bh g d.heap.size [AC false,aa 0,AC false,aa 0]:=(bh.new d _ _).ext q;refine⟨⟨rfl,bt.st (by simp)⟩,?_⟩;have bp:=qK bt [AC (N % 2==1),aa ((N / 2 % 8:Nat):Int),AC (N / 16 % 2==1),aa ((N / 4096 % 4096:Nat):Int)] rfl;have B:jz s (fo g (ad d.heap.size) [AC (N % 2==1),aa ((N / 2 % 8:Nat):Int),AC (N / 16 % 2==1),aa ((N / 4096 % 4096:Nat):Int)]) eU (p,6,c) _:=
  ((e.ext f).ext ((Ext.alloc _ _).trans q)).same λa R=>kB _ _ ⟨d.heap.size,0,none⟩ 0 _ (by
    have:=Rq e R;have:=f.size;show a.block≠d.heap.size;omega)
 have S:Ext w g:=(((y.trans o).trans f).da _).trans q;have D:Ext w (fo g (ad d.heap.size) [AC (N % 2==1),aa ((N / 2 % 8:Nat):Int),AC (N / 16 % 2==1),aa ((N / 4096 % 4096:Nat):Int)]):=S.fo (a:=⟨d.heap.size,0,none⟩) (((y.trans o).trans f).size) _;have E:cI (fo g (ad d.heap.size) [AC (N % 2==1),aa ((N / 2 % 8:Nat):Int),AC (N / 16 % 2==1),aa ((N / 4096 % 4096:Nat):Int)]) (ad d.heap.size) (.agg [.bool,.int .i64,.bool,.int .i64]) (N % 2==1,((N / 2 % 8:Nat):Int),N / 16 % 2==1,((N / 4096 % 4096:Nat):Int),()):=
  bp.Mi λi _=>by rw[B3];rfl
 have Wu:=cX.lt;have T:w1.heap.size≠d.heap.size:=by
  have a1:=m.size;have a2:=o.size;have a3:=f.size;rw[jt] at a1;omega
 have F:bh (fo g (ad d.heap.size) [AC (N % 2==1),aa ((N / 2 % 8:Nat):Int),AC (N / 16 % 2==1),aa ((N / 4096 % 4096:Nat):Int)]) w1.heap.size [AC false,aa 0,AC false,aa 0]:=
  ((((((cX.ext (Ext.alloc _ _)).ext m).ext o).ext f).ext (Ext.alloc _ _)).ext q).Il (a:=⟨d.heap.size,0,none⟩) T _
 refine⟨ix 3 (by decide) (by decide), _,(B.sl 3 _ rfl).2,λ_=>ix 5 (by decide) (by decide), _,λ_=>(B.sl 5 _ rfl).2, _,λ_=>E,λ_=>trivial,?_⟩;rw[Dy,Dy];have G:mK N= !(!decide (N / 32 % 128=0)|| !decide (N / 16777216 % 1099511627776=0)|| !aP (N % 2==1) ((N / 2 % 8:Nat):Int) (N / 16 % 2==1) ((N / 4096 % 4096:Nat):Int)):=by
  unfold mK;cases decide (N / 32 % 128=0)<;>cases decide (N / 16777216 % 1099511627776=0)<;>cases aP (N % 2==1) ((N / 2 % 8:Nat):Int) (N / 16 % 2==1) ((N / 4096 % 4096:Nat):Int)<;>rfl
 refine ab (λhb V h=>?_) (λhb=>⟨_,E,λV h=>?_⟩)
 ·have t:mK N=false:=by rw[G,hb];rfl
  have j:=F.ext h;refine⟨⟨rfl,j.st (by simp)⟩,λW k=>⟨(false,0,false,0,()),?_,?_,?_⟩⟩
  ·have u:=(qK j [AC false,aa 0,AC false,aa 0] rfl).ext k;exact u.Mi λi _=>by rw[B3];rfl
  ·show _=((vY N,xI N,xJ N,vt N,()),mK N,());unfold vY xI xJ vt;rw[t];rfl
  ·exact((D.trans h).fo (a:=⟨w1.heap.size,0,none⟩) r.size _).trans k
 ·have t:mK N=true:=by rw[G,hb];rfl
  have j:=F.ext h;refine⟨⟨rfl,j.st (by simp)⟩,λW k=>⟨(N % 2==1,((N / 2 % 8:Nat):Int),N / 16 % 2==1,((N / 4096 % 4096:Nat):Int),()),?_,?_,?_⟩⟩
  ·have u:=(qK j [AC (N % 2==1),aa ((N / 2 % 8:Nat):Int),AC (N / 16 % 2==1),aa ((N / 4096 % 4096:Nat):Int)] rfl).ext k;exact u.Mi λi _=>by rw[B3];rfl
  ·show _=((vY N,xI N,xJ N,vt N,()),mK N,());unfold vY xI xJ vt;rw[t,ax rfl,ax rfl,Gi,Gi]
  ·exact((D.trans h).fo (a:=⟨w1.heap.size,0,none⟩) r.size _).trans k
noncomputable def IP:Entry A2 where
 f:=313
 fn l:=match l with
  |[.agg ⟨[.bool p,.int .i64 r,.bool l,.int .i64 f]⟩]=>some (True,.bool (fa p r l f))
  | _=>none
 ok args pre v h a w:=by
  split at h
  ·rename_i p r l f;cases h;exact aS (JW p r l f w)
  ·cases h
noncomputable def Dz:Entry A2 where
 f:=275
 fn l:=match l with
  |[.agg ⟨[.bool p,.int .i64 r,.bool l,.int .i64 f]⟩]=>some (True,.bool (fa p r l f))
  | _=>none
 ok args pre v h a w:=by
  split at h
  ·rename_i p r l f;cases h;exact aS (Fc p r l f w)
  ·cases h
noncomputable def DC:Entry A2 where
 f:=370
 fn l:=match l with
  |[.agg ⟨[.bool p,.int .i64 r,.bool l,.int .i64 f]⟩,.int .i64 t]=>some (True,.bool (gq p r l f t))
  | _=>none
 ok args pre v h a w:=by
  split at h
  ·rename_i p r l f t;cases h;exact aS (Ff p r l f t w)
  ·cases h
noncomputable def Ab:Entry A2 where
 f:=331
 fn l:=match l with
  |[.agg ⟨[.bool p,.int .i64 r,.bool l,.int .i64 f]⟩,.int .i64 t]=>some (True,.bool (gq p r l f t))
  | _=>none
 ok args pre v h a w:=by
  split at h
  ·rename_i p r l f t;cases h;exact aS (Cg p r l f t w)
  ·cases h
noncomputable def IQ:Entry A2 where
 f:=344
 fn l:=match l with
  |[.int .i64 x,.int .i64 y]=>some (True,.int .i64 (eB x y))
  | _=>none
 ok args pre v h a w:=by
  split at h
  ·rename_i x y;cases h;exact aS (JX x y w)
  ·cases h
noncomputable def DD:Entry A2 where
 f:=307
 fn l:=match l with
  |[.int .i64 x,.int .i64 y]=>some (True,.int .i64 (eB x y))
  | _=>none
 ok args pre v h a w:=by
  split at h
  ·rename_i x y;cases h;exact aS (Fg x y w)
  ·cases h
noncomputable def Pf:Entry A2 where
 f:=341
 fn l:=match l with
  |[.agg ⟨[.bool p,.int .i64 r,.bool l,.int .i64 f]⟩]=>some (True,.tuple ⟨[.int .u64 (tu p r l f),.int .i64 (He p r l f)]⟩)
  | _=>none
 ok args pre v h a w:=by
  split at h
  ·rename_i p r l f;cases h;exact aS (JY p r l f w)
  ·cases h
noncomputable def IS:Entry A2 where
 f:=306
 fn l:=match l with
  |[.agg ⟨[.bool p,.int .i64 r,.bool l,.int .i64 f]⟩]=>some (True,.tuple ⟨[.int .u64 (tu p r l f),.int .i64 (He p r l f)]⟩)
  | _=>none
 ok args pre v h a w:=by
  split at h
  ·rename_i p r l f;cases h;exact aS (Fh p r l f w)
  ·cases h
noncomputable def IT:Entry A2 where
 f:=314
 fn l:=match l with
  |[.int .u64 v]=>some (U (B v)=v,.tuple ⟨[.agg ⟨[.bool (vY (B v).toNat),.int .i64 (xI (B v).toNat),.bool (xJ (B v).toNat),.int .i64 (vt (B v).toNat)]⟩,.bool (mK (B v).toNat)]⟩)
  | _=>none
 ok args pre v h a w:=by
  split at h
  ·rename_i v;cases h;have:=aS (J0 (B v) w);rw[a] at this;exact this
  ·cases h
noncomputable def D2:dn A2:={D0 with oG:=[o_,Mj,xS,xT,rB,rC,Bl,Bm,Im,qJ,mP,Io,BG,IP,Dz,DC,Ab,IQ,DD,Pf,IS,IT]}
theorem Ip (z x y:Int) (w:A1) (a:Int->A1->Prop):(aJ D2 (λ_=>[]) 312 [aa z,aa x,aa y] w a)=(
 True/\ ∀(b:Int),b=eB x y->aF (decide (b<0)||decide (z<0)||decide (z>=4096)) (ak w (a (-1))) (∀(x:Int),x=dO .i64 16 z-> ∀(c:Int),c=aC .i64 x b->ak w (a c))):=by kernel_rfl
theorem Rr (z x y:Int) (w:A1) (a:Int->A1->Prop):(aJ D2 (λ_=>[]) 241 [aa z,aa x,aa y] w a)=(
 True/\ ∀(b:Int),b=eB x y->aF (decide (b<0)||decide (z<0)||decide (z>4095)) (ak w (a (-1))) (∀(x:Int),x=dO .i64 16 z-> ∀(c:Int),c=aC .i64 x b->ak w (a c))):=by kernel_rfl
theorem Fi (v:Int) (w:A1) (c:(Bool×Int×Bool×Int×Unit)×Bool×Unit->A1->Prop):(bO D2 (λ_=>[]) 273 [aq v] w c)=(
 aA w ⟨[.bool false,aa 0,.bool false,aa 0]⟩ 305 λb a=>U (B v)=v/\ ∀(x:Int),x=U (c_ (B v) 0 1)->U (B v)=v/\ ∀(e:Int),e=U (c_ (B v) 1 3)-> ∀(f:Int),f=aD .i64 e->U (B v)=v/\ ∀(g:Int),g=U (c_ (B v) 4 1)->U (B v)=v/\ ∀(h:Int),h=U (c_ (B v) 12 12)-> ∀(i:Int),i=aD .i64 h->aA a ⟨[.bool false,aa 0,.bool false,aa 0]⟩ 305 λd a=>aw a (ad d) [.bool (x==1),aa f,.bool (g==1),aa i] λa=>aj a none (ad d) fW λ(x:Bool×Int×
 Bool×Int×Unit)=>True/\aF (He x.1 x.2.1 x.2.2.1 x.2.2.2.1 != 0||tu x.1 x.2.1 x.2.2.1 x.2.2.2.1 != v) (aw a (ad b) [.bool false,aa 0,.bool false,aa 0] λa=>ak a λw1=>aj w1 none (ad b) fW λ(x:Bool×Int×Bool×Int×Unit)=>c ((x.1,x.2.1,x.2.2.1,x.2.2.2.1,()),false,()) w1) (aj a none (ad d) fW λ(x:Bool×Int×Bool×Int×Unit)=>aw a (ad b) [.bool x.1,aa x.2.1,.bool x.2.2.1,aa x.2.2.2.1] λa=>ak a λw1=>aj w1 none (ad b) fW λ(x:Bool×Int×Bool×Int×Unit)=>
 c ((x.1,x.2.1,x.2.2.1,x.2.2.2.1,()),true,()) w1)):=by kernel_rfl
def dN (z x y:Int):Int:=if eB x y<0\/z<0\/z>=4096 then -1 else 16*z+eB x y
theorem Ac (x y:Int): -1<=eB x y/\eB x y<16:=by
 unfold eB;split
 ·have a:=My (x / ff y) (show(16:Int)≠0 by decide);have h2:=Mz (x / ff y) (show(0:Int)<16 by decide);omega
 ·omega
theorem wq (z x y:Int) (w:A1):ar A2 312 (.el (.one (.int .i64))) [aa z,aa x,aa y] w (λb w'=>b=dN z x y/\Ext w w'):=by
 refine ai (C:=D2) (aM:=λ_=>[]) (A_ (Ip z x y w _) ⟨trivial,λs es=>?_⟩);have hb:=Ac x y;subst es;refine ab (λh w1 c=>⟨?_,c⟩) (λh a d b e w1 c=>⟨?_,c⟩)
 ·simp only[EA,decide_eq_true_eq] at h;unfold dN;rw[ax (by omega)]
 ·simp only[EB,decide_eq_false_iff_not] at h;rw[dI (by omega) (by omega)] at d;rw[av (by omega) (by omega)] at e;unfold dN;rw[ao (by omega),e,d]
theorem Rs (z x y:Int) (w:A1):ar A2 241 (.el (.one (.int .i64))) [aa z,aa x,aa y] w (λb w'=>b=dN z x y/\Ext w w'):=by
 refine ai (C:=D2) (aM:=λ_=>[]) (A_ (Rr z x y w _) ⟨trivial,λs es=>?_⟩);have hb:=Ac x y;subst es;refine ab (λh w1 c=>⟨?_,c⟩) (λh a d b e w1 c=>⟨?_,c⟩)
 ·simp only[EA,decide_eq_true_eq] at h;unfold dN;rw[ax (by omega)]
 ·simp only[EB,decide_eq_false_iff_not] at h;rw[dI (by omega) (by omega)] at d;rw[av (by omega) (by omega)] at e;unfold dN;rw[ao (by omega),e,d]
theorem IU (n:Nat) (h:n<=1):nB (n==1)=n:=by
 have:n=0\/n=1:=by omega
 rcases this with rfl|rfl<;>rfl
theorem Nh (n:Nat):lC (n % 2==1) ((n / 2 % 8:Nat):Int) (n / 16 % 2==1) ((n / 4096 % 4096:Nat):Int)=((n % 2+2*(n / 2 % 8)+16*(n / 16 % 2)+4096*(n / 4096 % 4096):Nat):Int):=by
 unfold lC;rw[IU _ (by omega),IU _ (by omega)];omega
theorem Fj (n:Nat) (h:n<18446744073709551616):n=n % 2+2*(n / 2 % 8)+16*(n / 16 % 2)+32*(n / 32 % 128)+4096*(n / 4096 % 4096)+16777216*(n / 16777216 % 1099511627776):=by
 omega
theorem Ni (n:Nat) (h:n<18446744073709551616):mK n=(aP (n % 2==1) ((n / 2 % 8:Nat):Int) (n / 16 % 2==1) ((n / 4096 % 4096:Nat):Int)&&decide (lC (n % 2==1) ((n / 2 % 8:Nat):Int) (n / 16 % 2==1) ((n / 4096 % 4096:Nat):Int)=(n:Int))):=by
 rw[Nh];have a:=Fj n h;unfold mK;rw[K1];congr 1;rw[GS,FS,decide_eq_true_eq,decide_eq_true_eq,decide_eq_true_eq];omega
theorem Ci (v:BitVec 64):(He (v.toNat % 2==1) ((v.toNat / 2 % 8:Nat):Int) (v.toNat / 16 % 2==1) ((v.toNat / 4096 % 4096:Nat):Int) != 0||tu (v.toNat % 2==1) ((v.toNat / 2 % 8:Nat):Int) (v.toNat / 16 % 2==1) ((v.toNat / 4096 % 4096:Nat):Int) != U v)= !mK v.toNat:=by
 rw[Ni _ v.isLt];unfold He tu;cases aP (v.toNat % 2==1) ((v.toNat / 2 % 8:Nat):Int) (v.toNat / 16 % 2==1) ((v.toNat / 4096 % 4096:Nat):Int) with
 |false=>rfl
 |true=>
  rw[ax rfl,ax rfl,Gi];show(((0:Int) != 0)|| _)= _;rw[show((0:Int) != 0)=false from rfl,Bool.false_or];rw[GS,bne_iff_ne,Hr,decide_eq_false_iff_not];rfl
theorem Fk (v:BitVec 64) (w:A1):ar A2 273 (.bH [.agg [.bool,.int .i64,.bool,.int .i64],.one .bool]) [aq (U v)] w
 (λx w'=>x=((vY v.toNat,xI v.toNat,xJ v.toNat,vt v.toNat,()),mK v.toNat,())/\Ext w w'):=by
 refine aO (C:=D2) (aM:=λ_=>[]) (A_ (Fi (U v) w _) ?_)
 let N:=v.toNat
 have z:U (c_ v 0 1)=((N % 2:Nat):Int):=by rw[sE (gL 1 2 (by decide) rfl rfl),Nat.div_one]
 have A:U (c_ v 1 3)=((N / 2 % 8:Nat):Int):=sE (gL 2 8 (by decide) rfl rfl);have B:U (c_ v 4 1)=((N / 16 % 2:Nat):Int):=sE (gL 16 2 (by decide) rfl rfl);have D:U (c_ v 12 12)=((N / 4096 % 4096:Nat):Int):=sE (gL 4096 4096 (by decide) (by decide) (by decide));intro w1 g;rw[tq];refine⟨rfl,λH l=>⟨rfl,λI m J n=>⟨rfl,λK o=>⟨rfl,λL p M q b h2 c h=>?_⟩⟩⟩⟩;rw[z] at l;rw[A] at m;rw[B] at o;rw[D] at p;rw[qU (by omega) (by omega)] at n q;subst l;subst n;subst o;subst q;subst m;subst p;rw[sZ,sZ];have cX:bh b w1.heap.size [AC false,aa 0,AC false,aa 0]:=(bh.new w1 _ _).ext h2;have r:Ext w b:=(g.da _).trans h2;have bt:bh c b.heap.size [AC false,aa 0,AC false,aa 0]:=(bh.new b _ _).ext h;have bp:=qK bt [AC (N % 2==1),aa ((N / 2 % 8:Nat):Int),AC (N / 16 % 2==1),aa ((N / 4096 % 4096:Nat):Int)] rfl;have E:Ext w c:=(r.da _).trans h;have s:Ext w (fo c (ad b.heap.size) [AC (N % 2==1),aa ((N / 2 % 8:Nat):Int),AC (N / 16 % 2==1),aa ((N / 4096 % 4096:Nat):Int)]):=E.fo (a:=⟨b.heap.size,0,none⟩) r.size _;have t:cI (fo c (ad b.heap.size) [AC (N % 2==1),aa ((N / 2 % 8:Nat):Int),AC (N / 16 % 2==1),aa ((N / 4096 % 4096:Nat):Int)]) (ad b.heap.size) (.agg [.bool,.int .i64,.bool,.int .i64]) (N % 2==1,((N / 2 % 8:Nat):Int),N / 16 % 2==1,((N / 4096 % 4096:Nat):Int),()):=
  bp.Mi λi _=>by rw[B3];rfl
 have O:=cX.lt;have u:bh (fo c (ad b.heap.size) [AC (N % 2==1),aa ((N / 2 % 8:Nat):Int),AC (N / 16 % 2==1),aa ((N / 4096 % 4096:Nat):Int)]) w1.heap.size [AC false,aa 0,AC false,aa 0]:=
  ((cX.ext (Ext.alloc _ _)).ext h).Il (a:=⟨b.heap.size,0,none⟩) (by show w1.heap.size≠b.heap.size;omega) _
 refine⟨⟨rfl,bt.st (by simp)⟩, _,t,trivial,?_⟩;have y:=Ci v;refine ab (λhb F d=>?_) (λhb=>⟨_,t,λF d=>?_⟩)
 ·have j:mK N=false:=by
   have:=y.symm.trans hb;simpa using this
  have e:=u.ext d;refine⟨⟨rfl,e.st (by simp)⟩,λG f=>⟨(false,0,false,0,()),?_,?_,?_⟩⟩
  ·have k:=(qK e [AC false,aa 0,AC false,aa 0] rfl).ext f;exact k.Mi λi _=>by rw[B3];rfl
  ·show _=((vY N,xI N,xJ N,vt N,()),mK N,());unfold vY xI xJ vt;rw[j];rfl
  ·exact((s.trans d).fo (a:=⟨w1.heap.size,0,none⟩) g.size _).trans f
 ·have j:mK N=true:=by
   have:=y.symm.trans hb;simpa using this
  have e:=u.ext d;refine⟨⟨rfl,e.st (by simp)⟩,λG f=>⟨(N % 2==1,((N / 2 % 8:Nat):Int),N / 16 % 2==1,((N / 4096 % 4096:Nat):Int),()),?_,?_,?_⟩⟩
  ·have k:=(qK e [AC (N % 2==1),aa ((N / 2 % 8:Nat):Int),AC (N / 16 % 2==1),aa ((N / 4096 % 4096:Nat):Int)] rfl).ext f;exact k.Mi λi _=>by rw[B3];rfl
  ·show _=((vY N,xI N,xJ N,vt N,()),mK N,());unfold vY xI xJ vt;rw[j,ax rfl,ax rfl,Gi,Gi]
  ·exact((s.trans d).fo (a:=⟨w1.heap.size,0,none⟩) g.size _).trans f
noncomputable def ZY:Entry A2 where
 f:=312
 fn l:=match l with
  |[.int .i64 z,.int .i64 x,.int .i64 y]=>some (True,.int .i64 (dN z x y))
  | _=>none
 ok args pre v h a w:=by
  split at h
  ·rename_i z x y;cases h;exact aS (wq z x y w)
  ·cases h
noncomputable def XO:Entry A2 where
 f:=241
 fn l:=match l with
  |[.int .i64 z,.int .i64 x,.int .i64 y]=>some (True,.int .i64 (dN z x y))
  | _=>none
 ok args pre v h a w:=by
  split at h
  ·rename_i z x y;cases h;exact aS (Rs z x y w)
  ·cases h
noncomputable def Nj:Entry A2 where
 f:=273
 fn l:=match l with
  |[.int .u64 v]=>some (U (B v)=v,.tuple ⟨[.agg ⟨[.bool (vY (B v).toNat),.int .i64 (xI (B v).toNat),.bool (xJ (B v).toNat),.int .i64 (vt (B v).toNat)]⟩,.bool (mK (B v).toNat)]⟩)
  | _=>none
 ok args pre v h a w:=by
  split at h
  ·rename_i v;cases h;have:=aS (Fk (B v) w);rw[a] at this;exact this
  ·cases h
noncomputable def D3:dn A2:={D0 with oG:=[o_,Mj,xS,xT,rB,rC,Bl,Bm,Im,qJ,mP,Io,BG,IP,Dz,DC,Ab,IQ,DD,Pf,IS,IT,ZY,XO,Nj]}
noncomputable def M0:dn A2:={D3 with rz:=false,quiet:=[17,339,244]}
theorem Nk (p:Option A9) (w:A1) (a:Int->A1->Prop):(aJ M0 (λ_=>[]) 17 [ah p] w a)=(
 aF p.isNone (ak w (a 0)) (p.isSome=true/\p.isSome=true/\(ae p 0).isSome=true/\tC w (ae (ae p 0) 0) λx=>ak w (a (↑x.2.1:Int)))):=by kernel_rfl
theorem Ru (p:Option A9) (n c:Nat) (i:Int) (w:A1) (d:Option A9->A1->Prop):(aJ M0 (λ_=>[]) 339 [.agg ⟨[.slice p n c]⟩,aa i] w d)=(
 aA w ⟨[.slice p n c]⟩ 168 λb a=>((!decide (i<0))=true->true=true)/\aj a (some !decide (i<0)) (ae (ad b) 0) jD λx=>aF (decide (i<0)||decide (i>=(↑x.2.1:Int))) (ak a (d none)) (true=true/\tC a (ae (ad b) 0) λx=>(x.1.isSome=true/\0<=i/\i<(↑x.2.1:Int))/\ak a (d (ae x.1 (i.toNat*1))))):=by kernel_rfl
theorem J1 (p:Option A9) (i:Int) (w:A1) (a:Option A9×Int×Unit->A1->Prop):(aJ M0 (λ_=>[]) 290 [ah p,aa i] w a)=(
 ∃(x:Int),ag A2 17 [ah p] w (aa x)/\aF (x==0) (ak w (a (none,10,()))) (p.isSome=true/\p.isSome=true/\aj w none (ae p 0) (.agg [.slice]) λx=> ∃(b:Option A9),ag A2 339 [.agg ⟨[.slice x.1.1 x.1.2.1 x.1.2.2]⟩,aa i] w (ah b)/\aF b.isNone (ak w (a (none,2,()))) (ee p 1 w λx=>p.isSome=true/\p.isSome=true/\aw w (ae p 1) [aa (aC .i64 x 1)] λc=>ak c (a (b,0,()))))):=by kernel_rfl
theorem Ad (p:Option A9) (i:Int) (w:A1) (a:Int×Int×Unit->A1->Prop):(aJ M0 (λ_=>[]) 221 [ah p,aa i] w a)=(
 aB A2 290 (.bH [.one .ptr,.one (.int .i64)]) [ah p,aa i] w λ(x:Option A9×Int×Unit) b=>aF (x.2.1 != 0) (ak b (a (0,x.2.1,()))) (x.1.isSome=true/\cg b x.1 λx=>ak b (a (x,0,())))):=by kernel_rfl
theorem Fl (p:Option A9) (i v:Int) (w:A1) (b:Int->A1->Prop):(aJ M0 (λ_=>[]) 216 [ah p,aa i,aq v] w b)=(
 aB A2 290 (.bH [.one .ptr,.one (.int .i64)]) [ah p,aa i] w λ(x:Option A9×Int×Unit) a=>aF (x.2.1==0) (x.1.isSome=true/\aw a x.1 [aq v] λa=>ee p 2 a λc=>p.isSome=true/\p.isSome=true/\aw a (ae p 2) [aa (aC .i64 c 1)] λa=>ak a (b x.2.1)) (ak a (b x.2.1))):=by kernel_rfl
theorem Nl (n:Int) (w:A1) (a:Option A9×Int×Unit->A1->Prop):(aJ M0 (λ_=>[]) 53 [aa n] w a)=(
 aF (decide (n<1)||decide (n>65536)) (ak w (a (none,1,()))) (Hp w 8 1 n n ⟨[aq 0]⟩ 32 λb c=>aA c {toList:=[.slice (ad b) n.toNat n.toNat,aa 0,aa 0]} 170 λb c=>ak c (a (some ⟨b,0,none⟩,0,())))):=by kernel_rfl
abbrev eW:El:= .one (.int .u64)
abbrev kh (bw n c:Nat) (ca la:Int):List A3:=[.slice (ad bw) n c,aa ca,aa la]
def vu (ws:List Int) (i:Int):Bool:=decide (0<=i)&&decide (i<ws.length)
def dB (ws:List Int) (i:Int):Int:=if vu ws i then ws.getD i.toNat 0 else 0
def yX (ws:List Int) (i:Int):Int:=if vu ws i then 0 else 2
def sw (ws:List Int) (i x:Int):Int:=if vu ws i then aC .i64 x 1 else x
def cW (ws:List Int) (i v:Int):List Int:=if vu ws i then ws.set i.toNat v else ws
theorem gM {ws:List Int} {i:Int}:vu ws i=true<->0<=i/\i<ws.length:=by unfold vu;simp
theorem cu (ws:List Int) (i v:Int):(cW ws i v).length=ws.length:=by unfold cW;split<;>simp
theorem Db: ∀ws:List Int,flat eW ws=ws.map (Dn .u64)
 |[]=>rfl
 |a::l=>by
  show[aq a]++flat eW l= _;rw[Db l];rfl
section
variable {D G:List Nat} {w0 w:A1} {L:List (Nat×List A3)} {bm bw n c:Nat} {ca la:Int} {ws:List Int} {rest:List A3}
theorem TN {i:Nat} (hi:i<ws.length):l5 (flat eW ws++rest) (0+i*1) eW=some (ws.getD i 0):=by
 have:(flat eW ws++rest)[0+i*1]? =some (aq (ws.getD i 0)):=by
  have a:(flat eW ws).length=ws.length*1:=aN eW ws;rw[B3,Hq,HP (by omega)];have e:=Db ws;rw[e,E5,Bd hi,H7,Bd hi];rfl
 show(match (flat eW ws++rest)[0+i*1]? with|some v=>(Sc.int .u64).proj v|none=>none)= _;rw[this];rfl
theorem DE (h:bh w bm (kh bw n c ca la)):ar A2 17 (.el (.one (.int .i64))) [ah (ad bm)] w (λx w'=>x=(n:Int)/\Ext w w'):=by
 refine ai (C:=M0) (aM:=λ_=>[]) (A_ (Nk _ w _) ?_);refine an rfl ⟨rfl,rfl,rfl,aj.of (some ⟨bw,0,none⟩,n,c) (by rw[aL,aL];exact h.lJ rfl) λw1 a=>⟨rfl,a⟩⟩
theorem Rv (p:Option A9) (d:n≠0->p.isSome=true) (i:Int) (w:A1):ar A2 339 (.el (.one .ptr)) [.agg ⟨[.slice p n c]⟩,aa i] w (λx w'=>x=(if 0<=i/\i<n then ae p i.toNat else none)/\Ext w w'):=by
 refine ai (C:=M0) (aM:=λ_=>[]) (A_ (Ru p n c i w _) ?_);have H:=At.start [] w;refine aA.go H λb f H=>⟨λ_=>rfl,aj.bN 0 H rfl rfl (ab (λa=>ak.go H λe H=>⟨?_,H.all⟩) (λa=>⟨rfl,aj.bN 0 H rfl rfl ?_⟩))⟩
 ·have: ¬ (0<=i/\i<n):=by simp at a;omega
  rw[ao this]
 ·have hi:0<=i/\i<n:=by simp at a;omega
  refine⟨⟨d (by omega),by omega,by show i<((n:Nat):Int);omega⟩,ak.go H λe H=>⟨?_,H.all⟩⟩;rw[ax hi,Hq]
theorem uD (H:aH D G w0 w L) (j:Nat) (b:L[j]? =some (bm,kh bw n c ca la)) (e:n=ws.length) (h0:0<n) (i:Int) {K:Option A9×Int×Unit->A1->Prop}
 (f:vu ws i=true-> ∀a,aH D G w0 a (L.set j (bm,kh bw n c (aC .i64 ca 1) la))->K (ae (ad bw) i.toNat,0,()) a) (g:vu ws i=false-> ∀a,aH D G w0 a L->K (none,2,()) a):
 aB A2 290 (.bH [.one .ptr,.one (.int .i64)]) [ah (ad bm),aa i] w K:=by
 refine aB.go H λw1 H=>ai (C:=M0) (aM:=λ_=>[]) (A_ (J1 _ i w1 K) ?_);refine⟨_,ag.of (s:= .el (.one (.int .i64))) λw' h'=>DE ((H.get b).ext h'),an (by simp;omega) ⟨rfl,rfl,aj.bN j H b rfl ⟨_,ag.of (s:= .el (.one .ptr)) λw' h'=>Rv (ad bw) (λ_=>rfl) i w',?_⟩⟩⟩;subst e;cases hi:vu ws i with
 |true=>
  have d:=gM.1 hi;rw[ax d];refine an rfl ⟨rfl,rfl,aj.bN j H b rfl ⟨rfl,rfl,aw.dF j H b rfl rfl λa H=>ak.go H λk H=>f hi k H⟩⟩
 |false=>
  have d: ¬ (0<=i/\i<(ws.length:Int)):=λh=>by rw[gM.2 h] at hi;cases hi
  rw[ao d];exact ay rfl (ak.go H λa H=>g hi a H)
theorem Ae (H:aH D G w0 w L) (j a:Nat) (d:L[j]? =some (bm,kh bw n c ca la)) (g:L[a]? =some (bw,flat eW ws++rest)) (h:j≠a) (l:n=ws.length) (h0:0<n) (i:Int) {K:Int×Int×Unit->A1->Prop}
 (k: ∀b,aH D G w0 b (L.set j (bm,kh bw n c (sw ws i ca) la))->K (dB ws i,yX ws i,()) b):
 aB A2 221 (.bH [.one (.int .u64),.one (.int .i64)]) [ah (ad bm),aa i] w K:=by
 refine aB.go H λw1 H=>ai (C:=M0) (aM:=λ_=>[]) (A_ (Ad _ i w1 K) ?_);refine uD H j d l h0 i (λhi b H=>?_) (λhi b H=>?_)
 ·unfold sw dB yX at k;rw[hi,ax rfl,ax rfl,ax rfl] at k;have o:(L.set j (bm,kh bw n c (aC .i64 ca 1) la))[a]? =some (bw,flat eW ws++rest):=by rw[Bp h];exact g
  have p:=gM.1 hi;refine an rfl ⟨rfl,?_⟩;rw[aL];have e:=TN (ws:=ws) (rest:=rest) (i:=i.toNat) (by omega);rw[Hq] at e;exact aj.at a H o e (ak.go H λf H=>k f H)
 ·unfold sw dB yX at k;rw[hi,ao (by decide),ao (by decide),ao (by decide)] at k;refine ay rfl (ak.go H λf H=>k f ?_);rw[show L.set j (bm,kh bw n c ca la)=L from EE λm=>by
   by_cases e:j=m
   ·subst e;rw[DB (Bo.1 d).1,d]
   ·rw[Bp e]]
  exact H
theorem Uy {i:Nat} (hi:i<ws.length) (v:Int):(flat eW ws++rest).set i (aq v)=flat eW (ws.set i v)++rest:=by
 have h:=uA eW ws i v rest hi;have a:(cellsOf eW v)=[aq v]:=rfl;have b:aK eW=1:=rfl;rw[a,b,Hq] at h;rw[<-h];have c:(flat eW ws).length=ws.length*1:=aN eW ws;rw[M5,ax (by rw[Ev];omega)];rfl
theorem Fm (H:aH D G w0 w L) (j a:Nat) (f:L[j]? =some (bm,kh bw n c ca la)) (g:L[a]? =some (bw,flat eW ws++rest)) (b:j≠a) (p:n=ws.length) (h0:0<n) (i v:Int) {K:Int->A1->Prop}
 (k: ∀d,aH D G w0 d ((L.set j (bm,kh bw n c (sw ws i ca) (sw ws i la))).set a (bw,flat eW (cW ws i v)++rest))->K (yX ws i) d):
 aB A2 216 (.el (.one (.int .i64))) [ah (ad bm),aa i,aq v] w K:=by
 refine aB.go H λw1 H=>ai (C:=M0) (aM:=λ_=>[]) (A_ (Fl _ i v w1 K) ?_);have r:j<L.length:=(Bo.1 f).1;have y:a<L.length:=(Bo.1 g).1;refine uD H j f p h0 i (λhi d H=>?_) (λhi d H=>?_)
 ·unfold sw cW yX at k;rw[hi,ax rfl,ax rfl,ax rfl,ax rfl] at k;have s:(L.set j (bm,kh bw n c (aC .i64 ca 1) la))[a]? =some (bw,flat eW ws++rest):=by rw[Bp b];exact g
  have z:=gM.1 hi;have t:i.toNat<ws.length:=by omega
  have A:(flat eW ws).length=ws.length*1:=aN eW ws;refine ay rfl ⟨rfl,aw.dF a H s rfl (by rw[Ih,Ev];omega) λl H=>?_⟩;rw[B3,Uy t] at H;have o:((L.set j (bm,kh bw n c (aC .i64 ca 1) la)).set a (bw,flat eW (ws.set i.toNat v)++rest))[j]? =some (bm,kh bw n c (aC .i64 ca 1) la):=by
   rw[Bp (λe=>b e.symm),DB r]
  refine⟨rfl,rfl,aj.bN j H o rfl ⟨rfl,rfl,aw.dF j H o rfl rfl λB H=>ak.go H λu H=>k u ?_⟩⟩;rw[List.set_comm _ _ b,Ib] at H;rw[List.set_comm _ _ b];exact H
 ·unfold sw cW yX at k;rw[hi,ao (by decide),ao (by decide),ao (by decide),ao (by decide)] at k;refine an rfl (ak.go H λl H=>k l ?_);have s1: ∀{m:Nat} {x:Nat×List A3},L[m]? =some x->L.set m x=L:=λ{m x} h=>EE λq=>by
   by_cases e:m=q
   ·subst e;rw[DB (Bo.1 h).1,h]
   ·rw[Bp e]
  rw[s1 f,s1 g];exact H
theorem Nm (H:aH D G w0 w L) (b:1<=n/\n<=65536) {K:Option A9×Int×Unit->A1->Prop}
 (k: ∀bm bw w1,aH D G w0 w1 ((bm,kh bw n n 0 0)::(bw,flat eW (EF n 0)++[])::L)->K (some ⟨bm,0,none⟩,0,()) w1):
 aB A2 53 (.bH [.one .ptr,.one (.int .i64)]) [aa (n:Int)] w K:=by
 refine aB.go H λw1 H=>ai (C:=M0) (aM:=λ_=>[]) (A_ (Nl _ w1 K) ?_);refine an (by rw[decide_eq_false (by omega),decide_eq_false (by omega)];rfl) (Hp.go H rfl (by omega) (by omega) (by omega) (by omega) λbw c H=>aA.go H λbm d H=>ak.go H λa H=>k bm bw a ?_);rw[jv,HO];exact H
end
abbrev sR:List Sc:=[.int .u64,.bool,.int .i64]
abbrev RT:Type:=Int×Bool×Int×Unit
abbrev sA:List Sc:=[.int .i64,.int .i64,.int .u64,.int .u64]
abbrev sF:List Sc:=[.int .i64,.int .i64,.int .i64,.int .i64]
noncomputable def M1:dn A2:={M0 with quiet:=[324,267,308]}
noncomputable def M2:dn A2:={M1 with So:=some (.el (.agg sR))}
noncomputable def M3:dn A2:={M1 with So:=some (.bH [])}
theorem J4 (k i a b:Int) (m:Option A9) (w:A1) (d:RT->A1->Prop):(bO M1 (λ_=>[]) 349 [.agg ⟨[aa k,aa i,aq a,aq b]⟩,ah m] w d)=(
 aA w ⟨[aa k,aa i,aq a,aq b]⟩ 419 λb c=>aA c ⟨[aq 0,.bool false,aa 0]⟩ 403 λe c=>true=true/\aQ c (ae (ad b) 1) λx=>aB A2 221 (.bH [.one (.int .u64),.one (.int .i64)]) [ah m,aa x] c λ(x:Int×Int×Unit) c=>aw c (ad e) [aq x.1,.bool false,aa x.2.1] λc=>ak c λw1=>aj w1 none (ad e) (.agg [.int .u64,.bool,.int .i64]) λ(x:Int×Bool×Int×Unit)=>d (x.1,x.2.1,x.2.2.1,()) w1):=by kernel_rfl
abbrev Ag (a:RT->A1->Prop) (b:A1) (c:Nat):Prop:=
 ak b λw1=>aj w1 none (ad c) (.agg [.int .u64,.bool,.int .i64]) λ(x:Int×Bool×Int×Unit)=>a (x.1,x.2.1,x.2.2.1,()) w1
theorem Uz (m:Option A9) (k i a b:Int) (w:A1) (f:RT->A1->Prop):(bO M2 (λ_=>[]) 323 [ah m,.agg ⟨[aa k,aa i,aq a,aq b]⟩] w f)=(
 aA w ⟨[aa k,aa i,aq a,aq b]⟩ 406 λb c=>aA c ⟨[aq 0,.bool false,aa 0]⟩ 403 λe c=> ∀w1,Ext c w1-> ∀g,Ext (w1.alloc (Obj.map ⟨[]⟩ 0)) g-> ∃(r:Nat), ∃(es:Array Et), ∃(d:Nat),some w1.heap.size=some r/\bE g r es d/\gz g r .i64 1 (.func (.func 349) ⟨[]⟩ ⟨[]⟩) es d λc=> ∀h,Ext c h-> ∃(r:Nat), ∃(es:Array Et), ∃(d:Nat),some w1.heap.size=some r/\bE h r es d/\gz h r .i64 2 (.func (.func 350) ⟨[]⟩ ⟨[]⟩) es d λc=> ∀j,Ext c j
 -> ∃(r:Nat), ∃(es:Array Et), ∃(d:Nat),some w1.heap.size=some r/\bE j r es d/\gz j r .i64 3 (.func (.func 351) ⟨[]⟩ ⟨[]⟩) es d λc=> ∀l,Ext c l-> ∃(r:Nat), ∃(es:Array Et), ∃(d:Nat),some w1.heap.size=some r/\bE l r es d/\gz l r .i64 4 (.func (.func 352) ⟨[]⟩ ⟨[]⟩) es d λc=>true=true/\aQ c (ae (ad b) 0) λx=> ∃(n:A3), ∃(o:Bool),kV c (some w1.heap.size) .i64 x Hu n o/\aF (!o) (aw c (ad e) [aq 0,.bool false,aa 1] λc=>
 Ag f c e) (aj c none (ad b) (.agg [.int .i64,.int .i64,.int .u64,.int .u64]) λ(x:Int×Int×Int×Int×Unit)=>A7 A2 n (.el (.agg [.int .u64,.bool,.int .i64])) [.agg ⟨[aa x.1,aa x.2.1,aq x.2.2.1,aq x.2.2.2.1]⟩,ah m] c λ(x:Int×Bool×Int×Unit) c=>aw c (ad e) [aq x.1,.bool x.2.1,aa x.2.2.1] λc=>Ag f c e)):=by kernel_rfl
theorem Nn (f p t:Int) (w:A1) (a:Option A9->A1->Prop):(aJ M1 (λ_=>[]) 321 [aa f,aa p,aa t] w a)=(
 aA w {toList:=[aa f,aa p,aa t,aa 3,aa 0,aa 0,aa 0,aa 0,.slice none 0 0,.bool true]} 401 λb c=>True/\aF (decide (dN f p (3:Int)<0)||decide (t<0)||decide (t>7)) (ak c (a none)) (ak c (a (ad b)))):=by kernel_rfl
abbrev rX (a:Int×Int×Int×Int×Unit->A1->Prop) (b:A1) (c:Nat):Prop:=
 ak b λw1=>aj w1 none (ad c) (.agg [.int .i64,.int .i64,.int .u64,.int .u64]) λ(x:Int×Int×Int×Int×Unit)=>a (x.1,x.2.1,x.2.2.1,x.2.2.2.1,()) w1
theorem J5 (p:Option A9) (w:A1) (c:(Int×Int×Int×Int×Unit)->A1->Prop):(bO M1 (λ_=>[]) 324 [ah p] w c)=(
 aA w ⟨[aa 0,aa 0,aq 0,aq 0]⟩ 406 λb a=>((!p.isNone)=true->p.isSome=true)/\((!p.isNone)=true->p.isSome=true)/\aj a (some !p.isNone) (ae p 9) nk λx=>((!(p.isNone|| !x))=true->p.isSome=true)/\((!(p.isNone|| !x))=true->p.isSome=true)/\aj a (some !(p.isNone|| !x)) (ae p 3) aT λ(d:Int)=>aF (p.isNone|| !x||d== -1) (aw a (ad b) [aa 0,aa 0,aq 0,aq 0] λa=>rX c a b) (ee p 0 a λx=>ee p 1 a λe=>ee p 3 a λf=>True/\aw a (ad b)
 [aa 1,aa (dN x e f),aq 0,aq 0] λa=>rX c a b)):=by kernel_rfl
theorem No (p:Option A9) (a b c d:Int) (w:A1) (f:Unit->A1->Prop):(aJ M1 (λ_=>[]) 325 [ah p,.agg ⟨[aa a,aa b,aa c,aa d]⟩] w f)=(
 aA w ⟨[aa a,aa b,aa c,aa d]⟩ 361 λb e=>ee p 3 e λx=>true=true/\aw e (ae (ad b) 2) [aa x] λe=>aj e none (ad b) cY λ(x:Int×Int×Int×Int×Unit)=>p.isSome=true/\p.isSome=true/\aw e (ae p 4) [aa x.1,aa x.2.1,aa x.2.2.1,aa x.2.2.2.1] λe=>p.isSome=true/\p.isSome=true/\aw e (ae p 3) [aa (-1)] λe=>ak e (f ())):=by kernel_rfl
theorem Rw (p:Option A9) (fr:Int) (ep:Bool) (er:Int) (el:Bool) (ef:Int) (w:A1) (c:Unit->A1->Prop):(aJ M1 (λ_=>[]) 356 [ah p,aa fr,.agg ⟨[.bool ep,aa er,.bool el,aa ef]⟩] w c)=(
 aA w ⟨[.bool ep,aa er,.bool el,aa ef]⟩ 301 λb a=>aF (decide (fr>=4096)) (aB A2 325 (.bH []) [ah p,.agg ⟨[aa 0,aa 0,aa 0,aa 11]⟩] a λx a=>ak a (c ())) (aj a none (ad b) fW λ(x:Bool×Int×Bool×Int×Unit)=>ee p 2 a λd=>True/\aF (!gq x.1 x.2.1 x.2.2.1 x.2.2.2.1 d) (true=true/\aQ a (ae (ad b) 1) λx=>aB A2 325 (.bH []) [ah p,.agg ⟨[aa fr,aa x,aa 0,aa 7]⟩] a λx a=>ak a (c ())) (true=true/\aQ
 a (ae (ad b) 1) λx=>aB A2 325 (.bH []) [ah p,.agg ⟨[aa fr,aa x,aa 0,aa 0]⟩] a λx a=>ak a (c ())))):=by kernel_rfl
theorem J6 (a:Option A9) (w:A1) (b:Unit->A1->Prop):(aJ M1 (λ_=>[]) 353 [ah a] w b)=(
 fQ w a λx=>aB A2 325 (.bH []) [ah x,.agg ⟨[aa 0,aa 0,aa 0,aa 4]⟩] w λx c=>ak c (b ())):=by kernel_rfl
theorem J7 (d a:Option A9) (w:A1) (e:Unit->A1->Prop):(aJ M1 (λ_=>[]) 354 [ah d,ah a] w e)=(
 fQ w a λx=>fQ w a λb=>d.isSome=true/\aQ w (ae d 3) λf=>fQ w a λg=>ee g 3 w λh=>x.isSome=true/\x.isSome=true/\aw w (ae x 0) [aa f] λc=>True/\cI c a jW b/\b.isSome=true/\b.isSome=true/\aw c (ae b 3) [aa (bK .i64 h 1)] λc=>ak c (e ())):=by kernel_rfl
theorem J8 (c a:Option A9) (w:A1) (Post:Unit->A1->Prop):(aJ M1 (λ_=>[]) 355 [ah c,ah a] w Post)=(
 aj w none c (.one .ptr) λx=>a.isSome=true/\aj w none (ae a 3) (.one (.int .i64)) λ(e:Int)=>aj w none c (.one .ptr) λd=>d.isSome=true/\d.isSome=true/\aj w none (ae d 1) (.one (.int .i64)) λ(f:Int)=>True/\ff 1≠0/\aj w none a (.agg [.bool,.int .i64,.bool,.int .i64]) λ(b:Bool×Int×Bool×Int×Unit)=>aB A2 356 (.bH []) [ah x,aa (aC .i64 e (gu f (ff 1))),.agg ⟨[.bool b.1,aa b.2.1,.bool b.2.2.1,aa b.2.2.2.1]⟩] w λx g=>ak g λw1=>Post () w1)
 :=by kernel_rfl
theorem J9 (c a:Option A9) (w:A1) (d:Unit->A1->Prop):(aJ M1 (λ_=>[]) 357 [ah c,ah a] w d)=(
 fQ w c λx=>a.isSome=true/\aQ w (ae a 3) λe=>aj w none a fW λ(b:Bool×Int×Bool×Int×Unit)=>aB A2 356 (.bH []) [ah x,aa e,.agg ⟨[.bool b.1,aa b.2.1,.bool b.2.2.1,aa b.2.2.2.1]⟩] w λx f=>ak f (d ())):=by kernel_rfl
theorem J_ (a:Option A9) (w:A1) (b:Unit->A1->Prop):(aJ M1 (λ_=>[]) 358 [ah a] w b)=(
 fQ w a λx=>aB A2 325 (.bH []) [ah x,.agg ⟨[aa 0,aa 0,aa 0,aa 11]⟩] w λx c=>ak c (b ())):=by kernel_rfl
def rY:Nat->aV:=(λ|3=>[(56,Go.RX.El.one (Go.RX.Sc.int B1))]| _=>[])
theorem Np (p:Option A9) (ep:Bool) (er:Int) (el:Bool) (ef:Int) (w:A1) (h:Unit->A1->Prop):(aJ M3 rY 326 [ah p,.agg ⟨[.bool ep,aa er,.bool el,aa ef]⟩] w h)=(
 aA w ⟨[ah p]⟩ 213 λb a=>aA a ⟨[.bool ep,aa er,.bool el,aa ef]⟩ 301 λd a=>true=true/\jE a (ae (ad d) 0) λx=>aj a none (ad d) fW λ(c:Bool×Int×Bool×Int×Unit)=>True/\aj a (some (fa c.1 c.2.1 c.2.2.1 c.2.2.2.1)) (ad b) jW λi=>(fa c.1 c.2.1 c.2.2.1 c.2.2.2.1=true->i.isSome=true)/\(fa c.1 c.2.1 c.2.2.1 c.2.2.2.1=true->i.isSome=true)/\aj a (some (fa c.1 c.2.1 c.2.2.1 c.2.2.2.1)) (ae i 3) aT λ(o:Int)=>true=true/\jE a (ae
 (ad d) 2) λf=>aj a (some f) (ad b) jW λj=>(f=true->j.isSome=true)/\(f=true->j.isSome=true)/\aj a (some f) (ae j 3) aT λ(q:Int)=>true=true/\jE a (ae (ad d) 2) λe=>((!e)=true->true=true)/\aj a (some !e) (ae (ad d) 1) aT λ(g:Int)=>aj a (some (!e&&decide (g>0))) (ad b) jW λk=>((!e&&decide (g>0))=true->k.isSome=true)/\((!e&&decide (g>0))=true->k.isSome=true)/\aj a (some (!e&&decide (g>0))) (ae k 3) aT λ(r:Int)=>
 aA a {toList:=[.bool !x,.func (.func 353) ⟨[]⟩ {toList:=[ah (ad b)]},.bool (fa c.1 c.2.1 c.2.2.1 c.2.2.2.1&&decide (o>0)),.func (.func 354) ⟨[]⟩ {toList:=[ah (ad d),ah (ad b)]},.bool (f&&q==1),.func (.func 355) ⟨[]⟩ {toList:=[ah (ad b),ah (ad d)]},.bool (!e&&decide (g>0)&&r==0),.func (.func 357) ⟨[]⟩ {toList:=[ah (ad b),ah (ad d)]},.bool true,.func (.func 358) ⟨[]⟩ {toList:=[ah (ad b)]}]} 423 λb a=> ∃(I:Nat->Int×Unit->A1->Prop),(∃n, ∀
 w1,Ext a w1->I n (0,()) w1)/\ ∀(n:Nat) (s:Int×Unit) (w1:A1),I n s w1->aF (decide (s.1<(↑5:Int))) ((true=true/\0<=s.1/\s.1<(↑5:Int))/\aj w1 none (ae (ad b) (Bc s.1*2)) (.agg [.bool,.func]) λx=>aA w1 ⟨[.bool false,Hu]⟩ 423 λb a=>aw a (ad b) [.bool x.1,x.2.1] λa=>true=true/\jE a (ae (ad b) 0) λx=>aF x (true=true/\aj a none (ae (ad b) 1) (.one .func) λx=>A7 A2 x (.bH []) [] a λx a=>ak a (h ())) (∀l,Ext a l-> ∃(m:Nat),m<n/\I m (aC .i64 s.1
 1,()) l)) (ak w1 (h ()))):=by kernel_rfl
theorem J' (p m:Option A9) (w:A1) (c:Bool->A1->Prop):(aJ M1 (λ_=>[]) 266 [ah p,ah m] w c)=(
 ((!p.isNone)=true->p.isSome=true)/\((!p.isNone)=true->p.isSome=true)/\aj w (some !p.isNone) (ae p 9) nk λx=>aF (p.isNone|| !x) (ak w (c false)) (ee p 3 w λx=>aF (x== -1) (ak w (c true)) (∃(x:Int×Int×Int×Int×Unit),ag A2 324 [ah p] w (.agg ⟨[aa x.1,aa x.2.1,aq x.2.2.1,aq x.2.2.2.1]⟩)/\aB A2 323 (.el (.agg [.int .u64,.bool,.int .i64])) [ah m,.agg ⟨[aa x.1,aa x.2.1,aq x.2.2.1,aq x.2.2.2.1]⟩] w λ(x:Int×Bool×Int×Unit) a=>aA a ⟨[.int
 .u64 0,.bool false,aa 0]⟩ 403 λb a=>aw a (ad b) [aq x.1,.bool x.2.1,aa x.2.2.1] λa=>l4 p 8 a λx=>ee p 0 a λe=>aA a ⟨[aa e]⟩ 3 λf a=> ∀w1,Ext a w1->vp w1 3 1 8 ⟨[aa 0]⟩ (x.1,x.2.1,x.2.2) (some ⟨f,0,none⟩,1,1) λ(r:Option A9×Nat×Nat) a=>p.isSome=true/\p.isSome=true/\aw a (ae p 8) [.slice r.1 r.2.1 r.2.2] λa=>true=true/\cg a (ae (ad b) 0) λx=>U (B x)=x/\aA a ⟨[.bool false,aa 0,.bool false,aa 0]⟩ 301 λd a=>aw a (ad d) [.bool
 (vY (B x).toNat),aa (xI (B x).toNat),.bool (xJ (B x).toNat),aa (vt (B x).toNat)] λa=>((!!mK (B x).toNat)=true->true=true)/\aj a (some !!mK (B x).toNat) (ae (ad b) 2) aT λ(g:Int)=>aF (!mK (B x).toNat||g != 0) (aB A2 325 (.bH []) [ah p,.agg ⟨[aa 0,aa 0,aa 0,aa 11]⟩] a λx a=>ak a (c true)) (aj a none (ad d) fW λ(x:Bool×Int×Bool×Int×Unit)=>aB A2 326 (.bH []) [ah p,.agg ⟨[.bool x.1,aa x.2.1,.bool x.2.2.1,aa x.2.2.2.1]⟩] a λx
 a=>ee p 3 a λx=>ak a (c (x== -1)))))):=by kernel_rfl
def rZ:Nat->aV:=(λ|4=>[]| _=>[])
theorem Nq (m:Option A9) (f p t:Int) (w:A1) (c:(Int×Int×Int×Int×Unit)->A1->Prop):(bO M1 rZ 295 [ah m,aa f,aa p,aa t] w c)=(
 aA w ⟨[aa 0,aa 0,aa 0,aa 0]⟩ 361 λb a=>aB A2 321 (.el jW) [aa f,aa p,aa t] a λx a=>aF x.isNone (aw a (ad b) [aa 0,aa 0,aa 0,aa 1] λa=>ak a λw1=>aj w1 none (ad b) cY λ(x:Int×Int×Int×Int×Unit)=>c (x.1,x.2.1,x.2.2.1,x.2.2.2.1,()) w1) (∃(I:Nat->Unit->A1->Prop),(∃n, ∀w1,Ext a w1->I n () w1)/\ ∀(n:Nat) (s:Unit) (w1:A1),I n s w1->aB A2 266 (.el nk) [ah x,ah m] w1 λg a=>aF (!g)
 (∀d,Ext a d-> ∃(e:Nat),e<n/\I e () d) (x.isSome=true/\x.isSome=true/\aj a none (ae x 4) cY λ(x:Int×Int×Int×Int×Unit)=>aw a (ad b) [aa x.1,aa x.2.1,aa x.2.2.1,aa x.2.2.2.1] λa=>ak a λw1=>aj w1 none (ad b) cY λ(x:Int×Int×Int×Int×Unit)=>c (x.1,x.2.1,x.2.2.1,x.2.2.2.1,()) w1))):=by kernel_rfl
abbrev FT:Type:=Int×Int×Int×Int×Unit
abbrev ny (fr pg wt lv:Int) (fd:FT) (s:Option A9×Nat×Nat):List A3:=
 [aa fr,aa pg,aa wt,aa lv,aa fd.1,aa fd.2.1,aa fd.2.2.1,aa fd.2.2.2.1,.slice s.1 s.2.1 s.2.2,.bool true]
def vN (lv e:Int):FT:=(0,0,lv,e,())
def C4 (lv wt fr:Int) (ep:Bool) (er:Int) (el:Bool) (ef:Int):FT:=if fr>=4096 then(0,0,lv,11,()) else if gq ep er el ef wt then(fr,er,lv,0,()) else(fr,er,lv,7,())
theorem yp {w:A1} {r:Nat} {k:IntKind} {n:Int} {val:A3} {es:Array Et} {a:Nat} {K:A1->Prop} (h:Instr.findNow (.int k) (.int k n) es.toList 0=some none)
 (b:K (w.putObj r (.map (es.push {key:= .int k n,val,born:=a}) (a+1)))):gz w r k n val es a K:=by
 unfold gz;rw[h];exact b
section
variable {D G:List Nat} {w0 w:A1} {L:List (Nat×List A3)} {bm bw n c:Nat} {ca la:Int} {ws:List Int} {rest:List A3}
theorem Ka (H:aH D G w0 w L) (j d:Nat) (f:L[j]? =some (bm,kh bw n c ca la)) (g:L[d]? =some (bw,flat eW ws++rest)) (m:j≠d) (h:n=ws.length) (h0:0<n) (kd i a b:Int) {K:RT->A1->Prop}
 (k: ∀e,aH D G w0 e (L.set j (bm,kh bw n c (sw ws i ca) la))->K (dB ws i,false,yX ws i,()) e):
 ar A2 349 (.el (.agg sR)) [.agg ⟨[aa kd,aa i,aq a,aq b]⟩,ah (ad bm)] w K:=by
 refine aO (C:=M1) (aM:=λ_=>[]) (A_ (J4 kd i a b _ w K) ?_);refine aA.go H λo e H=>aA.go H λp q H=>⟨rfl,aj.bN 1 H rfl rfl ?_⟩;refine Ae H (j+2) (d+2) f g (by omega) h h0 i λr H=>?_;refine aw.all 0 H rfl rfl rfl λs H=>ak.go H λl H=>aj.at 0 H rfl rfl (k l ?_);exact(H.sub (B2 _ _)).sub (B2 _ _)
theorem yj (H:aH D G w0 w L) {r:Nat} {es:Array Et} {a:Nat} (f:w0.heap.size<=r) (g:r∉D) (b:bE w r es a) {n:Int} {val:A3} {K:A1->Prop} (h:Instr.findNow (.int .i64) (aa n) es.toList 0=some none)
 (k: ∀c,aH D G w0 c L->bE c r (es.push {key:=aa n,val,born:=a}) (a+1)->K c):
 ∃r' d e,some r=some r'/\bE w r' d e/\gz w r' .i64 n val d e K:=
 ⟨r,es,a,rfl,b,yp h (k _ (H.putObj f b (λ_ _ _ hc=>by cases hc) g) (iq (Es.1 b).1))⟩
theorem UA (H:aH D G w0 w L) (q:D=[]) (j f:Nat) (r:L[j]? =some (bm,kh bw n c ca la)) (s:L[f]? =some (bw,flat eW ws++rest)) (F:j≠f) (t:n=ws.length) (h0:0<n) (i a b:Int) {K:RT->A1->Prop}
 (k: ∀g,aH D G w0 g (L.set j (bm,kh bw n c (sw ws i ca) la))->K (dB ws i,false,yX ws i,()) g):
 aB A2 323 (.el (.agg sR)) [ah (ad bm),.agg ⟨[aa 1,aa i,aq a,aq b]⟩] w K:=by
 subst q;refine aB.go H λw1 H=>aO (C:=M2) (aM:=λ_=>[]) (A_ (Uz _ 1 i a b w1 K) ?_);refine aA.go H λI g H=>aA.go H λJ M H=>λd h u l=>?_;have H:=(((H.ext h).qI (.map ⟨[]⟩ 0)).ext l);have e:w0.heap.size<=d.heap.size:=by have:=(aH.ext (w1:=d) (by assumption) h:aH [] G w0 d _).fr.size;exact this
 have v:bE u d.heap.size ⟨[]⟩ 0:=l.obj (fA d _);refine yj H e (by simp) v rfl λN H x O m=>?_;refine yj (H.ext m) e (by simp) (m.obj x) rfl λP H y Q o=>?_;refine yj (H.ext o) e (by simp) (o.obj y) rfl λR H z S p=>?_;refine yj (H.ext p) e (by simp) (p.obj z) rfl λT H A=>?_;refine⟨rfl,aj.bN 1 H rfl rfl ⟨.func (.func 349) #[] #[],true,⟨_, _, _,rfl,A,?_⟩,an rfl (aj.at 1 H rfl rfl ?_)⟩⟩
 ·exact⟨rfl,rfl⟩
 ·unfold A7;refine λU B=>⟨_, #[], #[],rfl,by kernel_rfl,?_⟩;refine Ka (H.ext B) (j+2) (f+2) r s (by omega) t h0 1 i a b λV H=>?_;refine aw.all 0 H rfl rfl rfl λW H=>ak.go H λE H=>aj.at 0 H rfl rfl (k E ?_);exact(H.sub (B2 _ _)).sub (B2 _ _)
end
section
variable {D G:List Nat} {w0 w:A1} {L:List (Nat×List A3)} {bk:Nat} {fr pg wt lv:Int} {fd:FT} {s:Option A9×Nat×Nat}
theorem mQ (H:aH D G w0 w L) (j:Nat) (f:L[j]? =some (bk,ny fr pg wt lv fd s)) (a c g d:Int) {K:Unit->A1->Prop}
 (k: ∀h,aH D G w0 h (L.set j (bk,ny fr pg wt (-1) (a,c,lv,d,()) s))->K () h):
 aB A2 325 (.bH []) [ah (ad bk),.agg ⟨[aa a,aa c,aa g,aa d]⟩] w K:=by
 refine aB.go H λw1 H=>ai (C:=M1) (aM:=λ_=>[]) (A_ (No _ a c g d w1 K) ?_);have i:j<L.length:=(Bo.1 f).1;refine aA.go H λb h H=>?_;have l:((b,[aa a,aa c,aa g,aa d])::L)[j+1]? =some (bk,ny fr pg wt lv fd s):=f;refine⟨rfl,rfl,aj.bN (j+1) H l rfl ⟨rfl,aw.dF 0 H rfl rfl rfl λn H=>aj.at 0 H rfl rfl ⟨rfl,rfl,?_⟩⟩⟩;rw[aL,aL];refine aw.at (j+1) H f rfl (Nat.le_of_ble_eq_true rfl) λo H=>⟨rfl,rfl,?_⟩;refine aw.one (j+1) H (DB (Nat.succ_lt_succ i)) rfl rfl λp H=>ak.go H λm H=>k m ?_;have H:=H.sub (B2 _ _);have e:(L.set j (bk,ny fr pg wt lv (a,c,lv,d,()) s)).set j (bk,ny fr pg wt (-1) (a,c,lv,d,()) s)=L.set j (bk,ny fr pg wt (-1) (a,c,lv,d,()) s):=Ib ..;rw[<-e];exact H
theorem IV (H:aH D G w0 w L) (j:Nat) (m:L[j]? =some (bk,ny fr pg wt lv fd s)) (f:Int) (ep:Bool) (er:Int) (el:Bool) (ef:Int) {K:Unit->A1->Prop}
 (k: ∀g,aH D G w0 g (L.set j (bk,ny fr pg wt (-1) (C4 lv wt f ep er el ef) s))->K () g):
 aB A2 356 (.bH []) [ah (ad bk),aa f,.agg ⟨[.bool ep,aa er,.bool el,aa ef]⟩] w K:=by
 refine aB.go H λw1 H=>ai (C:=M1) (aM:=λ_=>[]) (A_ (Rw _ f ep er el ef w1 K) ?_);refine aA.go H λb g H=>?_;have d:((b,[AC ep,aa er,.bool el,aa ef])::L)[j+1]? =some (bk,ny fr pg wt lv fd s):=m;refine ab (λc=>?_) (λc=>aj.at 0 H rfl rfl ⟨rfl,rfl,aj.bN (j+1) H d rfl ⟨trivial,ab (λh=>?_) (λh=>?_)⟩⟩)
 ·refine mQ H (j+1) d 0 0 0 11 λl H=>ak.go H λa H=>k a ?_;have e:C4 lv wt f ep er el ef=(0,0,lv,11,()):=ax (of_decide_eq_true c);rw[e];exact H.sub (B2 _ _)
 ·refine⟨rfl,aj.bN 0 H rfl rfl (mQ H (j+1) d f er 0 7 λl H=>ak.go H λa H=>k a ?_)⟩;have e:C4 lv wt f ep er el ef=(f,er,lv,7,()):=by
   have i:gq ep er el ef wt=false:=by simpa using h
   unfold C4;rw[ao (of_decide_eq_false c),i];rfl
  rw[e];exact H.sub (B2 _ _)
 ·refine⟨rfl,aj.bN 0 H rfl rfl (mQ H (j+1) d f er 0 0 λl H=>ak.go H λa H=>k a ?_)⟩;have e:C4 lv wt f ep er el ef=(f,er,lv,0,()):=by
   have i:gq ep er el ef wt=true:=by simpa using h
   unfold C4;rw[ao (of_decide_eq_false c),ax i]
  rw[e];exact H.sub (B2 _ _)
end
def tookS (fr pg wt lv:Int) (fd:FT) (ep:Bool) (er:Int) (el:Bool) (ef:Int):Int×Int×FT:=
 if(!ep)=true then(fr,-1,vN lv 4)
 else if(fa ep er el ef&&decide (lv>0))=true then(ef,bK .i64 lv 1,fd)
 else if(el&&lv==1)=true then(fr,-1,C4 lv wt (aC .i64 ef (gu pg 16)) ep er el ef)
 else if(!el&&decide (er>0)&&lv==0)=true then(fr,-1,C4 lv wt ef ep er el ef)
 else(fr,-1,vN lv 11)
section
variable {D G:List Nat} {w0 w:A1} {L:List (Nat×List A3)} {bk bp be:Nat} {fr pg wt lv:Int} {fd:FT} {s:Option A9×Nat×Nat} {ep:Bool} {er:Int} {el:Bool} {ef:Int}
theorem Kb (H:aH D G w0 w L) (a j:Nat) (c:L[a]? =some (bp,[ah (ad bk)])) (d:L[j]? =some (bk,ny fr pg wt lv fd s)) {K:Unit->A1->Prop}
 (k: ∀b,aH D G w0 b (L.set j (bk,ny fr pg wt (-1) (vN lv 4) s))->K () b):ar A2 353 (.bH []) [ah (ad bp)] w K:=by
 refine ai (C:=M1) (aM:=λ_=>[]) (A_ (J6 _ w K) ?_);exact aj.at a H c rfl (mQ H j d 0 0 0 4 λf H=>ak.go H λe H=>k e H)
theorem Kc (H:aH D G w0 w L) (a j:Nat) (c:L[a]? =some (bp,[ah (ad bk)])) (d:L[j]? =some (bk,ny fr pg wt lv fd s)) {K:Unit->A1->Prop}
 (k: ∀b,aH D G w0 b (L.set j (bk,ny fr pg wt (-1) (vN lv 11) s))->K () b):ar A2 358 (.bH []) [ah (ad bp)] w K:=by
 refine ai (C:=M1) (aM:=λ_=>[]) (A_ (J_ _ w K) ?_);exact aj.at a H c rfl (mQ H j d 0 0 0 11 λf H=>ak.go H λe H=>k e H)
theorem Kd (H:aH D G w0 w L) (e a j:Nat) (f:L[e]? =some (be,[.bool ep,aa er,.bool el,aa ef])) (b:L[a]? =some (bp,[ah (ad bk)])) (c:L[j]? =some (bk,ny fr pg wt lv fd s)) (g:j≠a) {K:Unit->A1->Prop}
 (k: ∀d,aH D G w0 d (L.set j (bk,ny ef pg wt (bK .i64 lv 1) fd s))->K () d):ar A2 354 (.bH []) [ah (ad be),ah (ad bp)] w K:=by
 refine ai (C:=M1) (aM:=λ_=>[]) (A_ (J7 _ _ w K) ?_);have h:j<L.length:=(Bo.1 c).1;refine aj.at a H b rfl (aj.at a H b rfl ⟨rfl,aj.bN e H f rfl (aj.at a H b rfl ⟨rfl,rfl,aj.bN j H c rfl ⟨rfl,rfl,?_⟩⟩)⟩);refine aw.dF j H c rfl rfl λd H=>⟨trivial,?_,rfl,rfl,?_⟩
 ·exact bI (H.get (i:=a) (by rw[Bp g];exact b)) rfl
 ·refine aw.dF j H (DB h) rfl rfl λm H=>ak.go H λl H=>k l ?_;rw[Ib] at H;exact H
theorem Ke (H:aH D G w0 w L) (a b j:Nat) (c:L[a]? =some (be,[.bool ep,aa er,.bool el,aa ef])) (d:L[b]? =some (bp,[ah (ad bk)])) (e:L[j]? =some (bk,ny fr pg wt lv fd s)) {K:Unit->A1->Prop}
 (k: ∀f,aH D G w0 f (L.set j (bk,ny fr pg wt (-1) (C4 lv wt (aC .i64 ef (gu pg 16)) ep er el ef) s))->K () f):ar A2 355 (.bH []) [ah (ad bp),ah (ad be)] w K:=by
 refine ai (C:=M1) (aM:=λ_=>[]) (A_ (J8 _ _ w K) ?_);have g:ff 1=16:=rfl;rw[g];refine aj.at b H d rfl ⟨rfl,aj.bN a H c rfl (aj.at b H d rfl ⟨rfl,rfl,aj.bN j H e rfl ⟨trivial,by decide,aj.at a H c rfl ?_⟩⟩)⟩;exact IV H j e _ ep er el ef λi H=>ak.go H λh H=>k h H
theorem Kf (H:aH D G w0 w L) (a b j:Nat) (c:L[a]? =some (be,[.bool ep,aa er,.bool el,aa ef])) (e:L[b]? =some (bp,[ah (ad bk)])) (f:L[j]? =some (bk,ny fr pg wt lv fd s)) {K:Unit->A1->Prop}
 (k: ∀d,aH D G w0 d (L.set j (bk,ny fr pg wt (-1) (C4 lv wt ef ep er el ef) s))->K () d):ar A2 357 (.bH []) [ah (ad bp),ah (ad be)] w K:=by
 refine ai (C:=M1) (aM:=λ_=>[]) (A_ (J9 _ _ w K) ?_);refine aj.at b H e rfl ⟨rfl,aj.bN a H c rfl (aj.at a H c rfl ?_)⟩;exact IV H j f _ ep er el ef λh H=>ak.go H λg H=>k g H
theorem Nr (H:aH D G w0 w L) (j:Nat) (o:L[j]? =some (bk,ny fr pg wt lv fd s)) (ep:Bool) (er:Int) (el:Bool) (ef:Int) {K:Unit->A1->Prop}
 (k: ∀E,aH D G w0 E (L.set j (bk,ny (tookS fr pg wt lv fd ep er el ef).1 pg wt (tookS fr pg wt lv fd ep er el ef).2.1 (tookS fr pg wt lv fd ep er el ef).2.2 s))->K () E):
 aB A2 326 (.bH []) [ah (ad bk),.agg ⟨[.bool ep,aa er,.bool el,aa ef]⟩] w K:=by
 refine aB.go H λw1 H=>ai (C:=M3) (aM:=rY) (A_ (Np _ ep er el ef w1 K) ?_);refine aA.go H λbp E H=>aA.go H λbe Z H=>⟨rfl,aj.bN 0 H rfl rfl (aj.at 0 H rfl rfl ⟨trivial,aj.at 1 H rfl rfl ⟨λ_=>rfl,λ_=>rfl,aj.bN (j+2) H o rfl ⟨rfl,aj.bN 0 H rfl rfl (aj.at 1 H rfl rfl ⟨λ_=>rfl,λ_=>rfl,aj.bN (j+2) H o rfl ⟨rfl,aj.bN 0 H rfl rfl ⟨λ_=>rfl,aj.bN 0 H rfl rfl (aj.at 1 H rfl rfl ⟨λ_=>rfl,λ_=>rfl,aj.bN (j+2) H o rfl ?_⟩)⟩⟩⟩)⟩⟩⟩)⟩;refine aA.go H λbs w4 H=>?_;dsimp only at H ⊢;generalize P:(!ep)=F at H;generalize Q:(fa ep er el ef&&decide (lv>0))=I at H;generalize R:(el&&lv==1)=J at H;generalize S:(!el&&decide (er>0)&&lv==0)=M at H;have g:tookS fr pg wt lv fd ep er el ef=if F=true then(fr,-1,vN lv 4) else if I=true then(ef,bK .i64 lv 1,fd) else if J=true then(fr,-1,C4 lv wt (aC .i64 ef (gu pg 16)) ep er el ef) else if M=true then(fr,-1,C4 lv wt ef ep er el ef) else(fr,-1,vN lv 11):=by
  unfold tookS;rw[P,Q,R,S]
 clear P Q R S;refine⟨λn s' w'=> ∃i:Nat,s'.1=i/\n+i=5/\((0<i->F=false)/\(1<i->I=false)/\(2<i->J=false)/\(3<i->M=false)/\i<5)/\aH D G w0 w' ((bs,[.bool F,.func (.func 353) ⟨[]⟩ ⟨[ah (ad bp)]⟩,.bool I,.func (.func 354) ⟨[]⟩ ⟨[ah (ad be),ah (ad bp)]⟩,
  .bool J,.func (.func 355) ⟨[]⟩ ⟨[ah (ad bp),ah (ad be)]⟩,.bool M,.func (.func 357) ⟨[]⟩ ⟨[ah (ad bp),ah (ad be)]⟩,.bool true,.func (.func 358) ⟨[]⟩ ⟨[ah (ad bp)]⟩])::(be,[.bool ep,aa er,.bool el,aa ef])::(bp,[ah (ad bk)])::L),
  ⟨5,λW X=>⟨0,rfl,rfl,⟨λh=>absurd h (by decide),λh=>absurd h (by decide),λh=>absurd h (by decide),λh=>absurd h (by decide),by decide⟩,H.ext X⟩⟩,?_⟩
 clear H;rintro n ⟨i',u⟩ W ⟨i,hi,hn,⟨b,l,N,Y,hi5⟩,H⟩;simp only at hi;subst hi;dsimp only;have m: ∀{x y z q:Nat×List A3},(x::y::z::q::L)[j+4]? =some (bk,ny fr pg wt lv fd s):=o;have fin: ∀{x y z q:Nat×List A3} {d:A1} {T U:Int} {V:FT},tookS fr pg wt lv fd ep er el ef=(T,U,V)->aH D G w0 d (x::y::z::q::L.set j (bk,ny T pg wt U V s))->K () d:=λe H=>by
  rw[e] at k;exact k _ ((((H.sub (B2 _ _)).sub (B2 _ _)).sub (B2 _ _)).sub (B2 _ _))
 have p:aC .i64 (i:Int) 1=((i+1:Nat):Int):=by rw[av (by omega) (by omega)];rfl
 rcases(by omega:i=0\/i=1\/i=2\/i=3\/i=4) with rfl|rfl|rfl|rfl|rfl
 ·refine ay rfl ⟨⟨rfl,by decide,by decide⟩,aj.bN 0 H rfl rfl (aA.go H λr t H=>aw.all 0 H rfl rfl rfl λv H=>⟨rfl,aj.bN 0 H rfl rfl (ab (λc=>⟨rfl,aj.bN 0 H rfl rfl ?_⟩) (λc O f=>⟨n - 1,by omega,1,p,by omega,⟨λ_=>c,λh=>absurd h (by decide),λh=>absurd h (by decide),λh=>absurd h (by decide),by decide⟩,(H.sub (B2 _ _)).ext f⟩))⟩)⟩;unfold A7;refine λd a=>⟨_,⟨[]⟩,⟨[ah (ad bp)]⟩,rfl,by kernel_rfl,Kb (H.ext a) 3 (j+4) rfl m λA H=>ak.go H λB H=>fin ?_ H⟩;rw[g,ax c]
 ·refine ay rfl ⟨⟨rfl,by decide,by decide⟩,aj.bN 0 H rfl rfl (aA.go H λr t H=>aw.all 0 H rfl rfl rfl λv H=>⟨rfl,aj.bN 0 H rfl rfl (ab (λc=>⟨rfl,aj.bN 0 H rfl rfl ?_⟩) (λc O f=>⟨n - 1,by omega,2,p,by omega,⟨λ_=>b (by decide),λ_=>c,λh=>absurd h (by decide),λh=>absurd h (by decide),by decide⟩,(H.sub (B2 _ _)).ext f⟩))⟩)⟩;unfold A7;refine λd a=>⟨_,⟨[]⟩,⟨[ah (ad be),ah (ad bp)]⟩,rfl,by kernel_rfl,Kd (H.ext a) 2 3 (j+4) rfl rfl m (by omega) λA H=>ak.go H λB H=>fin ?_ H⟩;rw[g,ao (by rw[b (by decide)];decide),ax c]
 ·refine ay rfl ⟨⟨rfl,by decide,by decide⟩,aj.bN 0 H rfl rfl (aA.go H λr t H=>aw.all 0 H rfl rfl rfl λv H=>⟨rfl,aj.bN 0 H rfl rfl (ab (λc=>⟨rfl,aj.bN 0 H rfl rfl ?_⟩) (λc O f=>⟨n - 1,by omega,3,p,by omega,⟨λ_=>b (by decide),λ_=>l (by decide),λ_=>c,λh=>absurd h (by decide),by decide⟩,(H.sub (B2 _ _)).ext f⟩))⟩)⟩;unfold A7;refine λd a=>⟨_,⟨[]⟩,⟨[ah (ad bp),ah (ad be)]⟩,rfl,by kernel_rfl,Ke (H.ext a) 2 3 (j+4) rfl rfl m λA H=>ak.go H λB H=>fin ?_ H⟩;rw[g,ao (by rw[b (by decide)];decide),ao (by rw[l (by decide)];decide),ax c]
 ·refine ay rfl ⟨⟨rfl,by decide,by decide⟩,aj.bN 0 H rfl rfl (aA.go H λr t H=>aw.all 0 H rfl rfl rfl λv H=>⟨rfl,aj.bN 0 H rfl rfl (ab (λc=>⟨rfl,aj.bN 0 H rfl rfl ?_⟩) (λc O f=>⟨n - 1,by omega,4,p,by omega,⟨λ_=>b (by decide),λ_=>l (by decide),λ_=>N (by decide),λ_=>c,by decide⟩,(H.sub (B2 _ _)).ext f⟩))⟩)⟩;unfold A7;refine λd a=>⟨_,⟨[]⟩,⟨[ah (ad bp),ah (ad be)]⟩,rfl,by kernel_rfl,Kf (H.ext a) 2 3 (j+4) rfl rfl m λA H=>ak.go H λB H=>fin ?_ H⟩;rw[g,ao (by rw[b (by decide)];decide),ao (by rw[l (by decide)];decide),ao (by rw[N (by decide)];decide),ax c]
 ·refine ay rfl ⟨⟨rfl,by decide,by decide⟩,aj.bN 0 H rfl rfl (aA.go H λr t H=>aw.all 0 H rfl rfl rfl λv H=>⟨rfl,aj.bN 0 H rfl rfl (ay rfl ⟨rfl,aj.bN 0 H rfl rfl ?_⟩)⟩)⟩;unfold A7;refine λd a=>⟨_,⟨[]⟩,⟨[ah (ad bp)]⟩,rfl,by kernel_rfl,Kc (H.ext a) 3 (j+4) rfl m λA H=>ak.go H λB H=>fin ?_ H⟩;rw[g,ao (by rw[b (by decide)];decide),ao (by rw[l (by decide)];decide),ao (by rw[N (by decide)];decide),ao (by rw[Y (by decide)];decide)]
end
def A0 (Ls:List (Nat×List A3)) (s:Option A9×Nat×Nat) (xs:List Int):Prop:=
 (s=(none,0,0)/\xs=[]/\Ls=[])\/ ∃bs c rest,s=(some ⟨bs,0,none⟩,xs.length,c)/\Ls=[(bs,flat eI xs++rest)]/\(flat eI xs++rest).length=c*aK eI/\xs.length<=c
def okW (ws:List Int):Prop:= ∀x∈ws,0<=x/\x<18446744073709551616
def iI (ws:List Int) (pg wt:Int) (x:Int×Int×FT):Int×Int×FT:=
 if x.2.1= -1 then x
 else if(!mK (B (dB ws (dN x.1 pg x.2.1))).toNat||yX ws (dN x.1 pg x.2.1) != 0)=true then(x.1,-1,vN x.2.1 11)
 else tookS x.1 pg wt x.2.1 x.2.2 (vY (B (dB ws (dN x.1 pg x.2.1))).toNat) (xI (B (dB ws (dN x.1 pg x.2.1))).toNat) (xJ (B (dB ws (dN x.1 pg x.2.1))).toNat) (vt (B (dB ws (dN x.1 pg x.2.1))).toNat)
theorem BH {ws:List Int} (h:okW ws) (i:Int):0<=dB ws i/\dB ws i<18446744073709551616:=by
 unfold dB;split
 ·rename_i hi;rw[gM] at hi;rw[H7,Bd (by omega)];exact h _ (List.getElem_mem _)
 ·exact⟨by decide,by decide⟩
section
variable {D G:List Nat} {w0 w:A1} {L L0 Ls:List (Nat×List A3)} {bk bm bw n c:Nat} {ca la fr pg wt lv:Int} {fd:FT} {s:Option A9×Nat×Nat} {ws xs:List Int} {rest:List A3}
theorem Kg (hb:bh w bk (ny fr pg wt lv fd s)) (a:lv≠ -1):ar A2 324 (.el (.agg sA)) [ah (ad bk)] w (λx w'=>x=(1,dN fr pg lv,0,0,())/\Ext w w'):=by
 refine aO (C:=M1) (aM:=λ_=>[]) (A_ (J5 _ w _) ?_);have H:=At.start [] w;refine aA.go H λb c H=>⟨λ_=>rfl,λ_=>rfl,aj.iQ H hb (by simp) rfl ⟨λ_=>rfl,λ_=>rfl,aj.iQ H hb (by simp) rfl (an (by simp[a]) ?_)⟩⟩;refine⟨rfl,rfl,aj.iQ H hb (by simp) rfl ⟨rfl,rfl,aj.iQ H hb (by simp) rfl ⟨rfl,rfl,aj.iQ H hb (by simp) rfl ⟨trivial,aw.all 0 H rfl rfl rfl λd H=>ak.go H λe H=>aj.at 0 H rfl rfl ⟨rfl,H.all⟩⟩⟩⟩⟩
theorem Kh (H:At G w0 w ((bk,ny fr pg wt lv fd s)::(bm,kh bw n c ca la)::(bw,flat eW ws++rest)::(Ls++L0))) (t:A0 Ls s xs) (M:xs.length<=1000) (u:n=ws.length) (h0:0<n) (z:okW ws) (d:lv≠ -1) {K:Bool->A1->Prop}
 (k: ∀e h s',A0 h s' (xs++[fr])->At G w0 e ((bk,ny (iI ws pg wt (fr,lv,fd)).1 pg wt (iI ws pg wt (fr,lv,fd)).2.1 (iI ws pg wt (fr,lv,fd)).2.2 s')::(bm,kh bw n c (sw ws (dN fr pg lv) ca) la)::(bw,flat eW ws++rest)::(h++L0))->K ((iI ws pg wt (fr,lv,fd)).2.1== -1) e):
 aB A2 266 (.el (.one .bool)) [ah (ad bk),ah (ad bm)] w K:=by
 refine aB.go H λw1 H=>ai (C:=M1) (aM:=λ_=>[]) (A_ (J' _ _ w1 K) ?_);refine⟨λ_=>rfl,λ_=>rfl,aj.bN 0 H rfl rfl (an rfl ⟨rfl,rfl,aj.bN 0 H rfl rfl (an (by simp[d]) ?_)⟩)⟩;refine⟨(1,dN fr pg lv,0,0,()),ag.of (s:= .el (.agg sA)) λw' h'=>Kg ((H.get (i:=0) rfl).ext h') d,?_⟩;refine UA H rfl 1 2 rfl rfl (by decide) u h0 (dN fr pg lv) 0 0 λe H=>?_;refine aA.go H λb N H=>aw.all 0 H rfl rfl rfl λO H=>⟨rfl,rfl,aj.bN 1 H rfl rfl ⟨rfl,rfl,aj.bN 1 H rfl rfl (aA.go H λj P H=>λA D=>?_)⟩⟩;have H:=H.ext D;dsimp only at H ⊢;generalize hv:dB ws (dN fr pg lv)=v at H ⊢;generalize E:yX ws (dN fr pg lv)=er at H ⊢;have m:0<=v/\v<18446744073709551616:=by rw[<-hv];exact BH z _
 have H:At G w0 A ([(j,cellsOf eI fr)]++([(b,[aq v,.bool false,aa er]),(bk,ny fr pg wt lv fd s),(bm,kh bw n c (sw ws (dN fr pg lv) ca) la),(bw,flat eW ws++rest)]++(Ls++L0))):=H;have H:=H.perm (L':=(j,cellsOf eI fr)::(Ls++([(b,[aq v,.bool false,aa er]),(bk,ny fr pg wt lv fd s),(bm,kh bw n c (sw ws (dN fr pg lv) ca) la),(bw,flat eW ws++rest)]++L0))) (.cons _ (by
  rw[<-B4, <-B4];exact P1 _ IG))
 refine aH.grow H t rfl rfl rfl (by omega) λbs o a Q F I H=>⟨rfl,rfl,aw.dF 2 H rfl rfl rfl λR H=>⟨rfl,aj.bN 1 H rfl rfl ?_⟩⟩;have J:U (B v)=v:=xR m.1 m.2;refine⟨J,aA.go H λS T H=>aw.all 0 H rfl rfl rfl λV H=>⟨λ_=>rfl,aj.bN 2 H rfl rfl ?_⟩⟩;have p:iI ws pg wt (fr,lv,fd)=if(!mK (B v).toNat||er != 0)=true then(fr,-1,vN lv 11) else tookS fr pg wt lv fd (vY (B v).toNat) (xI (B v).toNat) (xJ (B v).toNat) (vt (B v).toNat):=by
  unfold iI;simp only[hv,E];rw[ao d]
 have q:A0 [(bs,flat eI (xs++[fr])++a)] (some ⟨bs,0,none⟩,xs.length+1,o) (xs++[fr]):= .inr ⟨bs,o,a,by rw[Ev];rfl,rfl,F,by rw[Ev];exact I⟩;have r: ∀{w:A1} {x y:Nat×List A3} {l:List A3},At G w0 w (x::(bs,flat eI (xs++[fr])++a)::y::(bk,l)::(bm,kh bw n c (sw ws (dN fr pg lv) ca) la)::(bw,flat eW ws++rest)::L0)->At G w0 w ((bk,l)::(bm,kh bw n c (sw ws (dN fr pg lv) ca) la)::(bw,flat eW ws++rest)::([(bs,flat eI (xs++[fr])++a)]++L0)):=λ{w x y l} H=>by
  have H:=H.sub (B2 _ _);have H:=H.sub (L':=[(bs,flat eI (xs++[fr])++a)]++([(bk,l),(bm,kh bw n c (sw ws (dN fr pg lv) ca) la),(bw,flat eW ws++rest)]++L0)) (.cons_cons _ (B2 _ _));refine H.perm ?_;refine P0 (l₂:=[(bk,l),(bm,kh bw n c (sw ws (dN fr pg lv) ca) la),(bw,flat eW ws++rest)]++([(bs,flat eI (xs++[fr])++a)]++L0)) (.refl _) ?_;rw[<-B4, <-B4];exact P1 _ IG
 refine ab (λf=>?_) (λf=>aj.at 0 H rfl rfl ?_)
 ·rw[p,ax f] at k;exact mQ H 3 rfl 0 0 0 11 λL H=>ak.go H λg H=>k g _ _ q (r H)
 ·rw[p,ao (by rw[f];decide)] at k;refine Nr H 3 rfl _ _ _ _ λL H=>⟨rfl,rfl,aj.bN 3 H rfl rfl (ak.go H λg H=>k g _ _ q (r H))⟩
def HV (f p t:Int):Bool:=decide (dN f p 3<0)||decide (t<0)||decide (t>7)
theorem Ns (H:aH D G w0 w L) (f p t:Int) {K:Option A9->A1->Prop} (hb:HV f p t=true-> ∀w1,aH D G w0 w1 L->K none w1)
 (d:HV f p t=false-> ∀bk w1,aH D G w0 w1 ((bk,ny f p t 3 (0,0,0,0,()) (none,0,0))::L)->K (ad bk) w1):
 aB A2 321 (.el (.one .ptr)) [aa f,aa p,aa t] w K:=by
 refine aB.go H λw1 H=>ai (C:=M1) (aM:=λ_=>[]) (A_ (Nn f p t w1 K) ?_);refine aA.go H λb e H=>⟨trivial,ab (λc=>ak.go H λa H=>hb c a (H.sub (B2 _ _))) (λc=>ak.go H λa H=>d c b a H)⟩
end
section
variable {D G:List Nat} {w0 w:A1}
theorem _root_.Go.RX.aH.UB {e:El} {s:Option A9×Nat×Nat} {xs ys:List e.T} {b U:Nat} {ry:List A3} {Ls L0:List (Nat×List A3)} (H:aH D G w0 w ((b,flat e ys++ry)::(Ls++L0))) (d:ys≠[])
 (o:(s=(none,0,0)/\xs=[]/\Ls=[])\/ ∃bs c rest,s=(some ⟨bs,0,none⟩,xs.length,c)/\Ls=[(bs,flat e xs++rest)]/\(flat e xs++rest).length=c*aK e/\xs.length<=c)
 (V:j8 e=true) {t:ED} {size bytes:Nat} {z:Array A3} (q:size=aK e) (W:z.size=aK e) (hb:(xs.length+ys.length)*bytes<=140737488355328)
 {R:Option A9×Nat×Nat->A1->Prop} (k: ∀bs c rest w',(flat e (xs++ys)++rest).length=c*aK e->(xs++ys).length<=c->aH D G w0 w' ((bs,flat e (xs++ys)++rest)::L0)->R (some ⟨bs,0,none⟩,(xs++ys).length,c) w'):
 vp w t size bytes z s (some ⟨b,0,none⟩,ys.length,U) R:=by
 subst q;have X:(pa 0 w).heap.size=0:=fB (Ey _);have Y:jz (pa 0 w) w e s xs:=by
  rcases o with ⟨rfl,rfl, _⟩|⟨bs,c,rest,rfl,rfl,v,h2⟩
  ·exact jz.nil _ _ _
  ·refine⟨rfl,h2,.inr ⟨bs, _,rfl,by rw[X];exact Ey _,H.get (i:=1) rfl,v,?_⟩⟩;rw[HQ (by rw[aN];exact E4 _),HT (by rw[aN];exact E4 _)]
 have Z:bh w b (flat e ys++ry):=H.get (i:=0) rfl;refine ju (ys:=ys) Y (mY (Ey _)) V rfl ?_ W hb λs' w' vC g J q K=>?_
 ·refine Z.xD (aN e ys) λj hj=>?_;rw[B3,HP (by rw[aN];exact hj)]
 ·obtain⟨p,n,c⟩:=s';obtain⟨v,h2,L⟩:=vC;simp only at v h2 L K;have hyl:0<ys.length:=List.length_pos_iff.2 d;have hlen:(xs++ys).length=xs.length+ys.length:=by simp
  rcases L with ⟨_,M, _⟩|⟨bs,l,a1, _,a3,a4,a5⟩
  ·simp at M;exact absurd M.2 d
  ·subst a1;subst v;have el:l=flat e (xs++ys)++l.drop ((xs++ys).length*aK e):=by rw[<-a5,I2]
   refine k bs c (l.drop ((xs++ys).length*aK e)) w' (by rw[<-el];exact a4) h2 ?_;rw[<-el];have Ws: ∃C,Fr C w w'/\(∀y∈C,y∈Ls.map (·.1)):=by
    rcases o with ⟨rfl, _,rfl⟩|⟨E,co,N,rfl,rfl, _, _⟩
    ·exact⟨[],⟨g.os,g.tape,g.output,q,λy d _=>J y d (λa F=>by cases F)⟩,λy d=>by cases d⟩
    ·exact⟨[E],⟨g.os,g.tape,g.output,q,λy d hn=>J y d (λa F=>by cases F;simpa using hn)⟩,λy d=>by simpa using d⟩
   obtain⟨C,O,I⟩:=Ws;have x:=H.nd;simp only[DS,H6,Bb,Hb,Do] at x;have P: ∀y∈Ls.map (·.1),w0.heap.size<=y\/y∈G:=λy d=>by
    obtain⟨u,m,rfl⟩:=AX.1 d;exact H.own u (BA _ (Br _ m))
   have Q:bs∈Ls.map (·.1)\/w.heap.size<=bs:=by
    rcases K with ⟨a,f,A⟩|⟨a,f,A⟩|f
    ·cases f;rcases o with ⟨rfl, _, _⟩|⟨E,co,N,rfl,rfl, _, _⟩
     ·cases A
     ·cases A;exact .inl (by simp)
    ·cases f;exact .inr A
    ·rcases o with ⟨rfl,rfl, _⟩|⟨E,co,N,rfl,rfl, _, _⟩
     ·cases f
     ·have S:=congrArg (λz=>z.2.1) f;simp at S;exact absurd S d
   refine H.frame O (λy d=>P y (I y d)) (λr hr d=>?_) (λy d=>?_) (λy d=>?_) ?_
   ·obtain⟨u,m,f⟩:=AX.1 (I r d);exact aH.cN (H.cX u (BA _ (Br _ m))) (H.nv r hr).2 (λ_ _ _ hc=>by cases hc) f
   ·rcases B5.1 d with rfl|d
    ·exact a3
    ·refine O.cX (λB=>?_) (H.cX y (BA _ (C7 _ d)));exact x.2.2.2 y.1 (I _ B) y.1 (AX.2 ⟨y,d,rfl⟩) rfl
   ·rcases B5.1 d with rfl|d
    ·rcases Q with h|h
     ·exact P _ h
     ·exact .inl (Di H.fr.size h)
    ·exact H.own y (BA _ (C7 _ d))
   ·refine Bb.2 ⟨λB=>?_,x.2.2.1⟩;rcases Q with h|h
    ·exact x.2.2.2 bs h bs B rfl
    ·obtain⟨u,m,f⟩:=AX.1 B;have:=(H.cX u (BA _ (C7 _ m))).lt;simp only at f h;omega
end
abbrev jU (br n c:Nat):List A3:=[.slice (ad br) n c]
def jK (gs:List GT) (i:Int):Option Nat:=if 0<=i/\i<gs.length/\gs.getD i.toNat zG≠zG then some i.toNat else none
def sH (gs:List GT) (i:Int):GT:=match jK gs i with
 |some k=>gs.getD k zG
 |none=>zG
def fq (gs:List GT) (i g:Int) (b:Bool):Int:=match jK gs i with
 |none=>4
 |some k=>if((gs.getD k zG).2.2.1 != g||b&& !(gs.getD k zG).2.2.2.1)=true then 7 else if(gs.getD k zG).2.2.2.2.1=1000 then 3 else 0
def eo (x:GT) (n:Int):GT:=(x.1,x.2.1,x.2.2.1,x.2.2.2.1,x.2.2.2.2.1+n,())
def db (gs:List GT) (i g:Int) (b:Bool):List GT:=if fq gs i g b=0 then gs.set i.toNat (eo (gs.getD i.toNat zG) 1) else gs
def j_ (gs:List GT) (i g:Int):Int:=match jK gs i with
 |none=>4
 |some k=>if(gs.getD k zG).2.2.1≠g then 7 else if(gs.getD k zG).2.2.2.2.1=0 then 6 else 0
def dK (gs:List GT) (i g:Int):List GT:=if j_ gs i g=0 then gs.set i.toNat (eo (gs.getD i.toNat zG) (-1)) else gs
def nE (gs:List GT) (i o:Int):Int:=match jK gs i with
 |none=>4
 |some k=>if(gs.getD k zG).1≠o then 7 else if(gs.getD k zG).2.2.2.2.1>0 then 9 else 0
def ji (gs:List GT) (i o:Int):List GT:=if nE gs i o=0 then gs.set i.toNat zG else gs
def cq (gs:List GT) (p:GT->Bool) (n:Nat):List Int:=((Hf n).filter λ(i:Nat)=>p (gs.getD i zG)).map λ(i:Nat)=>(i:Int)
def gv (o q t:Int) (x:GT):Bool:=o==x.1&&(q==x.2.1&&t==x.2.2.1)
def dw (x:GT):Bool:=decide (x=zG)
def kj (g:Int) (x:GT):Bool:= !dw x&&(x.1==g||x.2.2.1==g)
def jj (gs:List GT) (o q t:Int):Int:=
 if(!gG o|| !gG t||o==t||decide (q<0)||decide (q>=65536))=true then 1
 else if cq gs (gv o q t) gs.length≠[] then 5 else if cq gs dw gs.length=[] then 3 else 0
def iJ (gs:List GT) (o q t:Int):Int:=if jj gs o q t=0 then(cq gs dw gs.length).headD 0 else 0
def il (gs:List GT) (o q t:Int) (b:Bool):List GT:=if jj gs o q t=0 then gs.set (iJ gs o q t).toNat (o,q,t,b,0,()) else gs
def cr (gs:List GT) (g:Int):List GT:=gs.map λx=>if kj g x=true then zG else x
theorem Ah (x:GT):jL x.1 x.2.1 x.2.2.1 x.2.2.2.1 x.2.2.2.2.1=dw x:=rfl
theorem oA (gs:List GT) (p:GT->Bool) (n:Nat):cq gs p (n+1)=cq gs p n++(if p (gs.getD n zG)=true then[(n:Int)] else[]):=by
 unfold cq;rw[List.range_succ,List.filter_append,H6];by_cases h:p (gs.getD n zG)=true
 ·rw[ax h,MH,ax h];rfl
 ·rw[ao h,MH,ao h];rfl
theorem m5 {gs:List GT} {p:GT->Bool} {n:Nat} {x:Int}:x∈cq gs p n<-> ∃i:Nat,i<n/\p (gs.getD i zG)=true/\x=(i:Int):=by
 unfold cq;simp only[AX,List.mem_filter,Ho];constructor
 ·rintro⟨i,⟨a,h2⟩,rfl⟩;exact⟨i,a,h2,rfl⟩
 ·rintro⟨i,a,h2,rfl⟩;exact⟨i,⟨a,h2⟩,rfl⟩
theorem m6 (gs:List GT) (p:GT->Bool) (n:Nat):(cq gs p n).length<=n:=by
 unfold cq;rw[List.length_map];exact Di (List.length_filter_le _ _) (by simp)
theorem jn {gs:List GT} {i:Int} {k:Nat} (h:jK gs i=some k):0<=i/\i<gs.length/\k=i.toNat/\gs[k]? =some (gs.getD k zG)/\gs.getD k zG≠zG:=by
 unfold jK at h;split at h
 ·rename_i c;cases h;refine⟨c.1,c.2.1,rfl,?_,c.2.2⟩;rw[H7,Bd (by omega)];rfl
 ·cases h
section
variable {D G:List Nat} {w0 w:A1} {L:List (Nat×List A3)} {bg br c:Nat} {gs:List GT} {rest:List A3}
theorem Fo (h:bh w bg (jU br gs.length c)) (h0:0<gs.length):ar A2 170 (.el (.one .bool)) [ah (ad bg)] w (λx w'=>x=true/\Ext w w'):=by
 refine ai (C:=G3) (aM:=λ_=>[]) (A_ (EX _ w _) ?_);refine⟨λ_=>rfl,λ_=>rfl,(some ⟨br,0,none⟩,gs.length,c),λ_=>?_,λw1 a=>⟨?_,a⟩⟩
 ·rw[aL];exact h.lJ rfl
 ·simp;exact h0
theorem kC (h:bh w bg (jU br gs.length c)) (h0:0<gs.length):ag A2 170 [ah (ad bg)] w (.bool true):=
 ag.of (s:= .el (.one .bool)) λw' h'=>Fo (h.ext h') h0
def xV (br:Nat) (gs:List GT) (i:Int):Option A9:=(jK gs i).map λk=>⟨br,k*5,none⟩
def xW (gs:List GT) (i:Int):Int:=if(jK gs i).isSome then 0 else 4
theorem Rx (h:bh w bg (jU br gs.length c)) (l:bh w br (flat eG gs++rest)) (h0:0<gs.length) (i:Int):
 ar A2 293 (.bH [.one .ptr,.one (.int .i64)]) [ah (ad bg),aa i] w (λx w'=>x=(xV br gs i,xW gs i,())/\Ext w w'):=by
 refine ai (C:=G3) (aM:=λ_=>[]) (A_ (Ro _ i w _) ?_);have g:cI w (ae (ad bg) 0) (.one .slice) (some ⟨br,0,none⟩,gs.length,c):=by rw[aL];exact h.lJ rfl
 refine⟨_,kC h h0,an rfl ⟨λ_=>rfl,λ_=>rfl,(some ⟨br,0,none⟩,gs.length,c),λ_=>g,λ_=>rfl,λ_=>rfl,(some ⟨br,0,none⟩,gs.length,c),λ_=>g,?_⟩⟩;dsimp only;have k:(jK gs i=none)->(xV br gs i,xW gs i,())=((none,4,()):Option A9×Int×Unit):=λe=>by
  unfold xV xW;rw[e];rfl
 by_cases b:0<=i/\i<gs.length
 ·have j:(decide (i<0)||decide (i>=((gs.length:Nat):Int)))=false:=by
   rw[EB,decide_eq_false_iff_not,decide_eq_false_iff_not];omega
  have m:gs[i.toNat]? =some (gs.getD i.toNat zG):=by
   rw[H7,Bd (by omega)];rfl
  rw[j];refine⟨λ_=>⟨rfl,b.1,b.2⟩,gs.getD i.toNat zG,λ_=>eC (e:=eG) l m,λ_=>trivial,?_⟩;rw[Ah];refine ab (λd=>λw1 f=>⟨(k ?_).symm,f⟩) (λd=>⟨rfl,rfl,aj.of _ g ⟨⟨rfl,b.1,b.2⟩,λw1 f=>⟨?_,f⟩⟩⟩)
  ·have d:gs.getD i.toNat zG=zG:=by simpa[dw] using d
   unfold jK;rw[ao (λa=>a.2.2 d)]
  ·have d: ¬ gs.getD i.toNat zG=zG:=by simpa[dw] using d
   have e:jK gs i=some i.toNat:=by unfold jK;rw[ax ⟨b.1,b.2,d⟩]
   unfold xV xW;rw[e,aL];simp
 ·have j:(decide (i<0)||decide (i>=((gs.length:Nat):Int)))=true:=by
   rw[EA,decide_eq_true_eq,decide_eq_true_eq];omega
  rw[j];refine⟨λa=>(by cases a),zG,λa=>(by cases a),λ_=>trivial,ay rfl λw1 f=>⟨(k ?_).symm,f⟩⟩;unfold jK;rw[ao (λa=>b ⟨a.1,a.2.1⟩)]
theorem Dc (h:bh w bg (jU br gs.length c)) (a:bh w br (flat eG gs++rest)) (h0:0<gs.length) (i:Int):
 ag A2 293 [ah (ad bg),aa i] w ((Sh.bH [.one .ptr,.one (.int .i64)]).gj (xV br gs i,xW gs i,())):=
 ag.of (s:= .bH [.one .ptr,.one (.int .i64)]) λw' h'=>Rx (h.ext h') (a.ext h') h0 i
theorem Nt {bc:Nat} {o q t:Int} (hc:bh w bc [aa o,aa q,aa t,.bool false,aa 0]) (x:GT):
 ag A2 296 [.agg ⟨[aa x.1,aa x.2.1,aa x.2.2.1,.bool x.2.2.2.1,aa x.2.2.2.2.1]⟩,ah (ad bc)] w (.bool (gv o q t x)):=by
 refine ag.of (s:= .el (.one .bool)) λw' h'=>ai (C:=G3) (aM:=λ_=>[]) (A_ (JJ _ _ _ _ _ _ w' _) ?_);have H:=At.start [] w';refine aA.go H λb a H=>aj.of (o,q,t,false,0,()) (bI ((hc.ext h').ext H.all) rfl) ⟨rfl,aj.bN 0 H rfl rfl ⟨rfl,aj.bN 0 H rfl rfl ⟨rfl,aj.bN 0 H rfl rfl (ak.go H λc H=>⟨?_,H.all⟩)⟩⟩⟩;unfold gv;simp
theorem Ki {bc:Nat} {g:Int} (hc:bh w bc [aa g]) (x:GT):
 ag A2 283 [.agg ⟨[aa x.1,aa x.2.1,aa x.2.2.1,.bool x.2.2.2.1,aa x.2.2.2.2.1]⟩,ah (ad bc)] w (.bool (kj g x)):=by
 refine ag.of (s:= .el (.one .bool)) λw' h'=>ai (C:=G3) (aM:=λ_=>[]) (A_ (EY _ _ _ _ _ _ w' _) ?_);have H:=At.start [] w';refine aA.go H λb c H=>?_;have a:cI c (ad bc) (.one (.int .i64)) g:=bI ((hc.ext h').ext H.all) rfl;refine aj.at 0 H rfl (show _=some x from rfl) ⟨trivial,λ_=>rfl,aj.bN 0 H rfl rfl (aj.of g a ⟨λ_=>rfl,aj.bN 0 H rfl rfl (aj.of g a (ak.go H λd H=>⟨?_,H.all⟩))⟩)⟩;rfl
theorem HW {j:Nat} {x:Nat×List A3} (h:L[j]? =some x):L.set j x=L:=EE λm=>by
 by_cases e:j=m
 ·subst e;rw[DB (Bo.1 h).1,h]
 ·rw[Bp e]
end
end Go.Proofs.YteeflilbnoknnaaGreat
namespace Go.Proofs.YteeflilbnoknnaaGreat.Po
set_option maxRecDepth 100000
open Go.RX
abbrev sQ:List Sc:=[.int .i64,.int .i64,.int .i64,.bool,.bool]
abbrev eQ:El:= .agg sQ
abbrev PT:Type:=Int×Int×Int×Bool×Bool×Unit
def zP:PT:=(0,0,0,false,false,())
def gI (n:Int):Bool:=decide (n>=1)&&decide (n<=16)
noncomputable def R0:dn A2:={C3 with rz:=false}
theorem Kj (n:Int) (w:A1) (a:Bool->A1->Prop):(aJ R0 (λ_=>[]) 175 [aa n] w a)=(
 ak w (a (decide (n>=1)&&decide (n<=16)))):=by kernel_rfl
theorem Fp (n:Int) (w:A1) (a:Bool->A1->Prop):(aJ R0 (λ_=>[]) 178 [aa n] w a)=(
 ak w (a (decide (n>=1)&&decide (n<=16)))):=by kernel_rfl
theorem Kk (n:Int) (w:A1):ar A2 175 (.el (.one .bool)) [aa n] w (λx w'=>x=gI n/\Ext w w'):=by
 refine ai (C:=R0) (aM:=λ_=>[]) (A_ (Kj n w _) ?_);have H:=At.start [] w
 repeat' (first
  |exact Go.RX.aH.all H
  |exact H2 (by first|rfl|decide+kernel) (Go.RX.aH.all H)
  |refine H2 (by first|exact rfl|exact trivial|exact λ_=>rfl|exact λ_=>trivial|exact⟨rfl,by decide,by decide⟩|exact⟨by decide,by decide⟩|decide+kernel|exact λ_=>by decide|exact λ_=>⟨rfl,by decide,by decide⟩|(dsimp only[IR,Ia];exact⟨rfl,by decide,by decide⟩)) ?_
  |refine aj.bN 0 H rfl rfl ?_
  |refine aj.bN 1 H rfl rfl ?_
  |refine aj.at 0 H rfl rfl ?_
  |refine aj.at 1 H rfl rfl ?_
  |refine aA.go H λb w1 H=>?_
  |refine aw.all 0 H rfl rfl rfl λw1 H=>?_
  |refine aw.all 1 H rfl rfl rfl λw1 H=>?_
  |refine aw.dF 0 H rfl rfl rfl λw1 H=>?_
  |refine aw.dF 1 H rfl rfl rfl λw1 H=>?_
  |refine aw.one 0 H rfl rfl rfl λw1 H=>?_
  |refine aw.one 1 H rfl rfl rfl λw1 H=>?_
  |with_reducible refine ak.go H λw1 H=>?_
  |refine fS ?_
  |refine ay (by assumption) ?_
  |refine an (by assumption) ?_
  |refine ab (λc=>?_) (λc=>?_))
theorem Fq (n:Int) (w:A1):ar A2 178 (.el (.one .bool)) [aa n] w (λx w'=>x=gI n/\Ext w w'):=by
 refine ai (C:=R0) (aM:=λ_=>[]) (A_ (Fp n w _) ?_);have H:=At.start [] w
 repeat' (first
  |exact Go.RX.aH.all H
  |exact H2 (by first|rfl|decide+kernel) (Go.RX.aH.all H)
  |refine H2 (by first|exact rfl|exact trivial|exact λ_=>rfl|exact λ_=>trivial|exact⟨rfl,by decide,by decide⟩|exact⟨by decide,by decide⟩|decide+kernel|exact λ_=>by decide|exact λ_=>⟨rfl,by decide,by decide⟩|(dsimp only[IR,Ia];exact⟨rfl,by decide,by decide⟩)) ?_
  |refine aj.bN 0 H rfl rfl ?_
  |refine aj.bN 1 H rfl rfl ?_
  |refine aj.at 0 H rfl rfl ?_
  |refine aj.at 1 H rfl rfl ?_
  |refine aA.go H λb w1 H=>?_
  |refine aw.all 0 H rfl rfl rfl λw1 H=>?_
  |refine aw.all 1 H rfl rfl rfl λw1 H=>?_
  |refine aw.dF 0 H rfl rfl rfl λw1 H=>?_
  |refine aw.dF 1 H rfl rfl rfl λw1 H=>?_
  |refine aw.one 0 H rfl rfl rfl λw1 H=>?_
  |refine aw.one 1 H rfl rfl rfl λw1 H=>?_
  |with_reducible refine ak.go H λw1 H=>?_
  |refine fS ?_
  |refine ay (by assumption) ?_
  |refine an (by assumption) ?_
  |refine ab (λc=>?_) (λc=>?_))
noncomputable def Ry:Entry A2 where
 f:=175
 fn l:=match l with
  |[.int .i64 a]=>some (True,.bool (gI a))
  | _=>none
 ok args pre v h b w:=by
  split at h
  ·rename_i a;cases h;exact aS (Kk a w)
  ·cases h
noncomputable def Nu:Entry A2 where
 f:=178
 fn l:=match l with
  |[.int .i64 a]=>some (True,.bool (gI a))
  | _=>none
 ok args pre v h b w:=by
  split at h
  ·rename_i a;cases h;exact aS (Fq a w)
  ·cases h
noncomputable def R1:dn A2:={R0 with oG:=[Ry,Nu],quiet:=[174,176,299,342,301,248,249]}
theorem Kl (p:Option A9) (w:A1) (a:Bool->A1->Prop):(aJ R1 (λ_=>[]) 174 [ah p] w a)=(
 ((!p.isNone)=true->p.isSome=true)/\((!p.isNone)=true->p.isSome=true)/\aj w (some !p.isNone) (ae p 2560) aT λ(x:Int)=>ak w (a (!p.isNone&&decide (x>0)))):=by kernel_rfl
theorem Ip (p:Option A9) (g i:Int) (w:A1) (a:Option A9->A1->Prop):(aJ R1 (λ_=>[]) 176 [ah p,aa g,aa i] w a)=(
 ∃x,ag A2 174 [ah p] w (.bool x)/\((!!x)=true->True)/\((!(!x|| !gI g||decide (i<0)))=true->p.isSome=true)/\((!(!x|| !gI g||decide (i<0)))=true->p.isSome=true)/\aj w (some !(!x|| !gI g||decide (i<0))) (ae p 2560) aT λ(b:Int)=>aF (!x|| !gI g||decide (i<0)||decide (i>=b)) (ak w (a none)) (p.isSome=true/\p.isSome=true/\((ae p 0).isSome=true/\0<=bK .i64 g 1/\bK .i64 g 1<(↑16:Int))/\((ae (ae p 0) ((bK .i64 g 1).toNat*160)).isSome=true/\0<=i/\i<(↑32:Int))/\(ae (ae (ae p 0)
 ((bK .i64 g 1).toNat*160)) (i.toNat*5)).isSome=true/\aj w none (ae (ae (ae p 0) ((bK .i64 g 1).toNat*160)) (i.toNat*5)) (.agg [.int .i64,.int .i64,.int .i64,.bool,.bool]) λ(x:Int×Int×Int×Bool×Bool×Unit)=>aF (x.1==0&&(x.2.1==0&&(x.2.2.1==0&&(x.2.2.2.1==false&&(x.2.2.2.2.1==false&&true))))) (ak w (a none)) (ak w λw1=>a (ae (ae (ae p 0) ((bK .i64 g 1).toNat*160)) (i.toNat*5)) w1))):=by kernel_rfl
def p_:Nat->aV:=(λ|2=>[(10,Go.RX.El.one (Go.RX.Sc.int B1))]| _=>[])
theorem Km (p:Option A9) (g:Int) (w:A1) (a:Int->A1->Prop):(aJ R1 p_ 342 [ah p,aa g] w a)=(
 ee p 2560 w λx=> ∃(I:Nat->Int×Unit->A1->Prop),(∃n, ∀w1,Ext w w1->I n (0,()) w1)/\ ∀(n:Nat) (s:Int×Unit) (w1:A1),I n s w1->aF (decide (s.1<x)) (∃(x:Option A9),ag A2 176 [ah p,aa g,aa s.1] w1 (ah x)/\aF x.isNone (ak w1 (a s.1)) (∀b,Ext w1 b-> ∃(c:Nat),c<n/\I c (aC .i64 s.1 1,()) b)) (ak w1 (a (-1)))):=by kernel_rfl
theorem Rz (p:Option A9) (g r:Int) (w:A1) (a:Int->A1->Prop):(aJ R1 (λ_=>[]) 299 [ah p,aa g,aa r] w a)=(
 ∃x,ag A2 174 [ah p] w (.bool x)/\aF (!x) (ak w (a 10)) (True/\((!!gI g)=true->True)/\aF (!gI g|| !gI r||g==r) (ak w (a 1)) (ak w (a 0)))):=by kernel_rfl
theorem Nv (p:Option A9) (w:A1) (a:Int->A1->Prop):(aJ R1 (λ_=>[]) 301 [ah p] w a)=(
 ∃x,ag A2 174 [ah p] w (.bool x)/\aF (!x) (ak w (a 10)) (ak w (a 4))):=by kernel_rfl
theorem RA (p:Option A9) (g:Int) (e f h:Int) (i j:Bool) (w:A1) (d:Int×Int×Unit->A1->Prop):(aJ R1 (λ_=>[]) 300 [ah p,aa g,.agg ⟨[aa e,aa f,aa h,.bool i,.bool j]⟩] w d)=(
 aA w ⟨[aa e,aa f,aa h,.bool i,.bool j]⟩ 262 λb a=> ∃(x:Int),ag A2 342 [ah p,aa g] a (aa x)/\aF (x== -1) (ak a (d (0,3,()))) (aj a none (ad b) (.agg [.int .i64,.int .i64,.int .i64,.bool,.bool]) λ(c:Int×Int×Int×Bool×Bool×Unit)=>p.isSome=true/\p.isSome=true/\((ae p 0).isSome=true/\0<=bK .i64 g 1/\bK .i64 g 1<(↑16:Int))/\((ae (ae p 0) ((bK .i64 g 1).toNat*160)).isSome=true/\0<=x/\x<(↑32:Int))/\aw a (ae (ae (ae p 0) ((bK .i64 g
 1).toNat*160)) (x.toNat*5)) [aa c.1,aa c.2.1,aa c.2.2.1,.bool c.2.2.2.1,.bool c.2.2.2.2.1] λa=>ak a (d (x,0,())))):=by kernel_rfl
theorem Ko (p:Option A9) (g r:Int) (w:A1) (a:Int×Int×Unit->A1->Prop):(aJ R1 (λ_=>[]) 228 [ah p,aa g,aa r] w a)=(
 ∃(x:Int),ag A2 299 [ah p,aa g,aa r] w (aa x)/\aF (x != 0) (ak w (a (0,x,()))) (aB A2 300 (.bH [.one (.int .i64),.one (.int .i64)]) [ah p,aa g,.agg ⟨[aa 1,aa r,aa 0,.bool false,.bool false]⟩] w λ(x:Int×Int×Unit) b=>ak b (a (x.1,x.2.1,())))):=by kernel_rfl
theorem Kp (p:Option A9) (g r i:Int) (w:A1) (a:Int×Int×Unit->A1->Prop):(aJ R1 (λ_=>[]) 229 [ah p,aa g,aa r,aa i] w a)=(
 ∃(x:Int),ag A2 299 [ah p,aa g,aa r] w (aa x)/\aF (x != 0) (ak w (a (0,x,()))) (∃(x:Option A9),ag A2 176 [ah p,aa r,aa i] w (ah x)/\aF x.isNone (ak w (a (0,4,()))) (ee x 0 w λd=>aF (d==2) (ak w (a (0,6,()))) (ee x 1 w λe=>aF (e != g) (ak w (a (0,7,()))) (aB A2 300 (.bH [.one (.int .i64),.one (.int .i64)]) [ah p,aa g,.agg ⟨[aa 2,aa r,aa i,.bool false,.bool false]⟩] w λ(b:
 Int×Int×Unit) c=>aF (b.2.1==0) (x.isSome=true/\x.isSome=true/\aw c (ae x 0) [aa 2] λc=>x.isSome=true/\x.isSome=true/\aw c (ae x 2) [aa b.1] λc=>ak c (a (b.1,b.2.1,()))) (ak c (a (b.1,b.2.1,())))))))):=by kernel_rfl
theorem Kq (p:Option A9) (g i:Int) (w:A1) (a:Int->A1->Prop):(aJ R1 (λ_=>[]) 230 [ah p,aa g,aa i] w a)=(
 ∃(x:Option A9),ag A2 176 [ah p,aa g,aa i] w (ah x)/\aF x.isNone (∃(x:Int),ag A2 301 [ah p] w (aa x)/\ak w (a x)) (ee x 0 w λc=>aF (c != 2) (ak w (a 6)) (ee x 1 w λd=>ee x 2 w λx=> ∃(b:Option A9),ag A2 176 [ah p,aa d,aa x] w (ah b)/\b.isSome=true/\b.isSome=true/\aw w (ae b 3) [.bool true] λe=>ak e (a 0)))):=by kernel_rfl
def qa:Nat->aV:=(λ|5=>[(5,Go.RX.El.one Go.RX.Sc.slice),(15,Go.RX.El.one (Go.RX.Sc.int B1))]| _=>[])
theorem Ks (p:Option A9) (g:Int) (w:A1) (e:Option A9×Nat×Nat->A1->Prop):(aJ R1 qa 302 [ah p,aa g] w e)=(
 ∃x,ag A2 174 [ah p] w (.bool x)/\aF (!x) (ak w (e (none,0,0))) (ee p 2560 w λx=> ∃(I:Nat->(Option A9×Nat×Nat)×Int×Unit->A1->Prop),(∃n, ∀w1,Ext w w1->I n ((none,0,0),0,()) w1)/\ ∀(n:Nat) (s:(Option A9×Nat×Nat)×Int×Unit) (w1:A1),I n s w1->aF (decide (s.2.1<x)) (∃(x:Option A9),ag A2 176 [ah p,aa g,aa s.2.1] w1 (ah x)/\((!x.isNone)=true->x.isSome=true)/\((!x.isNone)=true->x.isSome=true)/\aj w1 (some !x.isNone) (ae x 3) nk λd=>
 ((!x.isNone&&d)=true->x.isSome=true)/\((!x.isNone&&d)=true->x.isSome=true)/\aj w1 (some (!x.isNone&&d)) (ae x 4) nk λh=>aF (!x.isNone&&d&& !h) (aA w1 ⟨[aa s.2.1]⟩ 3 λb f=> ∀w1,Ext f w1->vp w1 3 1 8 ⟨[aa 0]⟩ (s.1.1,s.1.2.1,s.1.2.2) (some ⟨b,0,none⟩,1,1) λ(r:Option A9×Nat×Nat) f=> ∀a,Ext f a-> ∃(c:Nat),c<n/\I c ((r.1,r.2.1,r.2.2),aC .i64 s.2.1 1,()) a) (∀a,Ext w1 a-> ∃(c:Nat),c<n/\I c ((s.1.1,s.1.2.1,s.1.2.2),aC .i64 s.2.1 1,()) a)) (ak w1 (e
 (s.1.1,s.1.2.1,s.1.2.2))))):=by kernel_rfl
theorem Kt (p:Option A9) (g:Int) (w:A1) (c:Int×Bool×Unit->A1->Prop):(aJ R1 (λ_=>[]) 231 [ah p,aa g] w c)=(
 aB A2 302 (.el jD) [ah p,aa g] w λx a=>aF ((↑x.2.1:Int)==0) (ak a (c (0,false,()))) ((x.1.isSome=true/\(0:Int)<=0/\0<(↑x.2.1:Int))/\aQ a (ae x.1 0) λd=> ∃(b:Option A9),ag A2 176 [ah p,aa g,aa d] a (ah b)/\b.isSome=true/\b.isSome=true/\aw a (ae b 3) [.bool false] λa=>(x.1.isSome=true/\(0:Int)<=0/\0<(↑x.2.1:Int))/\aQ a (ae x.1 0) λx=>ak a (c (x,true,())))):=by kernel_rfl
theorem Ft (p:Option A9) (g i:Int) (w:A1) (c:Int->A1->Prop):(aJ R1 (λ_=>[]) 232 [ah p,aa g,aa i] w c)=(
 ∃(x:Option A9),ag A2 176 [ah p,aa g,aa i] w (ah x)/\aF x.isNone (∃(x:Int),ag A2 301 [ah p] w (aa x)/\ak w (c x)) (ee x 0 w λd=>aF (d==2) (ee x 1 w λe=>ee x 2 w λf=> ∃(a:Option A9),ag A2 176 [ah p,aa e,aa f] w (ah a)/\a.isSome=true/\a.isSome=true/\aw w (ae a 0) [aa 1] λb=>a.isSome=true/\a.isSome=true/\aw b (ae a 2) [aa 0] λb=>x.isSome=true/\aw b x [aa 0,.int .i64
 0,aa 0,.bool false,.bool false] λb=>ak b (c 0)) (x.isSome=true/\aw w x [aa 0,aa 0,aa 0,.bool false,.bool false] λb=>ak b (c 0)))):=by kernel_rfl
def qb:Nat->aV:=(λ|5=>[(5,Go.RX.El.one (Go.RX.Sc.int B1)),(22,Go.RX.El.one (Go.RX.Sc.int B1))]|11=>[(5,Go.RX.El.one (Go.RX.Sc.int B1)),(7,Go.RX.El.one (Go.RX.Sc.int B1))]|14=>[(5,Go.RX.El.one (Go.RX.Sc.int B1)),(41,Go.RX.El.one (Go.RX.Sc.int B1))]| _=>[])
theorem Ku (p:Option A9) (g:Int) (w:A1) (h:Int->A1->Prop):(aJ R1 qb 209 [ah p,aa g] w h)=(
 ∃x,ag A2 174 [ah p] w (.bool x)/\((!!x)=true->True)/\aF (!x|| !gI g) (ak w (h 0)) (ee p 2560 w λx=> ∃(I:Nat->Int×Int×Unit->A1->Prop),(∃n, ∀w1,Ext w w1->I n (0,0,()) w1)/\ ∀(n:Nat) (s:Int×Int×Unit) (w1:A1),I n s w1->aF (decide (s.2.1<x)) (aB A2 232 (.el aT) [ah p,aa g,aa s.2.1] w1 λ(x:Int) e=>aF (x==0) (∀a,Ext e a-> ∃(b:Nat),b<n/\I b (aC .i64 s.1 1,aC .i64 s.2.1 1,()) a) (∀a,Ext e a-> ∃(b:Nat),b<n/\I b (s.1,aC .i64 s.2.1 1,
 ()) a)) (∃(I:Nat->Int×Int×Unit->A1->Prop),(∃n, ∀d,Ext w1 d->I n (s.1,1,()) d)/\ ∀(n:Nat) (s:Int×Int×Unit) (w1:A1),I n s w1->aF (decide (s.2.1<=16)) (ee p 2560 w1 λx=> ∃(f:Nat->Int×Int×Unit->A1->Prop),(∃n, ∀d,Ext w1 d->f n (s.1,0,()) d)/\ ∀(i:Nat) (c:Int×Int×Unit) (w1:A1),f i c w1->aF (decide (c.2.1<x)) (∃(x:Option A9),ag A2 176 [ah p,aa s.2.1,aa c.2.1] w1 (ah x)/\((!x.isNone)=true->x.isSome=true)/\
 ((!x.isNone)=true->x.isSome=true)/\aj w1 (some !x.isNone) (ae x 1) aT λ(j:Int)=>aF (!x.isNone&&j==g) (x.isSome=true/\aw w1 x [aa 0,aa 0,aa 0,.bool false,.bool false] λe=> ∀a,Ext e a-> ∃(b:Nat),b<i/\f b (aC .i64 c.1 1,aC .i64 c.2.1 1,()) a) (∀a,Ext w1 a-> ∃(b:Nat),b<i/\f b (c.1,aC .i64 c.2.1 1,()) a)) (∀a,Ext w1 a-> ∃(b:Nat),b<n/\I b (c.1,aC .i64 s.2.1 1,()) a)) (ak w1 (h s.1))))):=by kernel_rfl
def mF:Nat->aV:=(λ|6=>[(8,Go.RX.El.one Go.RX.Sc.bool)]|9=>[(8,Go.RX.El.one Go.RX.Sc.bool),(9,Go.RX.El.one (Go.RX.Sc.int B1))]|12=>[(8,Go.RX.El.one Go.RX.Sc.bool),(36,Go.RX.El.one (Go.RX.Sc.int B1))]| _=>[])
theorem Cj (p:Option A9) (a b:Int) (w:A1) (j:Bool->A1->Prop):(aJ R1 mF 88 [ah p,aa a,aa b] w j)=(
 ∃x,ag A2 174 [ah p] w (.bool x)/\((!!x)=true->True)/\((!(!x|| !gI a))=true->True)/\aF (!x|| !gI a|| !gI b) (ak w (j false)) (aA w {toList:=[.bool false,.bool false,.bool false,.bool false,.bool false,.bool false,.bool false,.bool false,.bool false,.bool false,.bool false,.bool false,.bool false,.bool false,.bool false,.bool false,.bool false]} 182 λg e=>(true=true/\0<=a/\a<(↑17:Int))/\aw e (ae (ad g) (a.toNat*1)) [.bool true] λe=> ∃(I:Nat->Bool×Unit->A1->Prop),(∃n, ∀w1,Ext e w1->I n
 (true,()) w1)/\ ∀(n:Nat) (s:Bool×Unit) (w1:A1),I n s w1->aF s.1 (∃(k:Nat->Bool×Int×Unit->A1->Prop),(∃n, ∀h,Ext w1 h->k n (false,1,()) h)/\ ∀(m:Nat) (s:Bool×Int×Unit) (w1:A1),k m s w1->aF (decide (s.2.1<=16)) (ee p 2560 w1 λx=> ∃(I:Nat->Bool×Int×Unit->A1->Prop),(∃n, ∀h,Ext w1 h->I n (s.1,0,()) h)/\ ∀(n:Nat) (f:Bool×Int×Unit) (w1:A1),I n f w1->aF (decide (f.2.1<x)) (∃(x:Option A9),ag A2 176 [ah p,aa s.2.1,.int
 .i64 f.2.1] w1 (ah x)/\((!x.isNone)=true->true=true/\0<=s.2.1/\s.2.1<(↑17:Int))/\aj w1 (some !x.isNone) (ae (ad g) (Bc s.2.1*1)) nk λo=>((!x.isNone)=true->x.isSome=true)/\((!x.isNone)=true->x.isSome=true)/\aj w1 (some !x.isNone) (ae x 1) aT λ(l:Int)=>((!x.isNone)=true->true=true/\0<=l/\l<(↑17:Int))/\aj w1 (some !x.isNone) (ae (ad g) (l.toNat*1)) nk λq=>aF (!x.isNone&& !o==q) (ee x 1 w1 λi=>(true=true/\0<=s.2.1/\s.2.1<(↑17:Int))/\aw w1 (ae (ad g)
 (Bc s.2.1*1)) [.bool true] λe=>cI e (ae x 1) aT i/\True/\True/\(true=true/\0<=i/\i<(↑17:Int))/\aw e (ae (ad g) (i.toNat*1)) [.bool true] λe=> ∀c,Ext e c-> ∃(d:Nat),d<n/\I d (true,aC .i64 f.2.1 1,()) c) (∀c,Ext w1 c-> ∃(d:Nat),d<n/\I d (f.1,aC .i64 f.2.1 1,()) c)) (∀c,Ext w1 c-> ∃(d:Nat),d<m/\k d (f.1,aC .i64 s.2.1 1,()) c)) (∀c,Ext w1 c-> ∃(d:Nat),d<n/\I d (s.1,()) c)) ((true=true/\0<=b/\b<(↑17:Int))/\jE w1 (ae
 (ad g) (b.toNat*1)) λx=>ak w1 (j x)))):=by kernel_rfl
theorem DF {ss:List Sc} {xs:List (iv ss)} {rest:List A3} {k f:Nat} {x:iv ss} (a:xs[k]? =some x) (b:f<ss.length):(flat (.agg ss) xs++rest)[k*ss.length+f]? =(aZ ss x)[f]? :=by
 induction xs generalizing k with
 |nil=>simp at a
 |cons y ys c=>
  cases k with
  |zero=>
   simp at a;subst a;have d:f<(aZ ss y).length:=by rw[bV];exact b
   simp only[In,B3];show((aZ ss y++flat (.agg ss) ys)++rest)[f]? = _;rw[B4,HP d]
  |succ k=>
   have e:ys[k]? =some x:=by simpa using a
   show((aZ ss y++flat (.agg ss) ys)++rest)[(k+1)*ss.length+f]? = _;rw[B4,I_ (by rw[bV,Eo];omega),bV,Eo];rw[show k*ss.length+1*ss.length+f - ss.length=k*ss.length+f by omega];exact c e
theorem wN {ss:List Sc} {xs:List (iv ss)} {rest:List A3} {k f:Nat} {x y:iv ss} {v:A3} (b:xs[k]? =some x) (c:f<ss.length) (d:aZ ss y=(aZ ss x).set f v):(flat (.agg ss) xs++rest).set (k*ss.length+f) v=flat (.agg ss) (xs.set k y)++rest:=by
 induction xs generalizing k with
 |nil=>simp at b
 |cons z a e=>
  cases k with
  |zero=>
   simp at b;subst b;have g:f<(aZ ss z).length:=by rw[bV];exact c
   simp only[In,B3];show((aZ ss z++flat (.agg ss) a)++rest).set f v=(aZ ss y++flat (.agg ss) a)++rest;rw[B4,List.set_append_left _ _ g,d,B4]
  |succ k=>
   have h:a[k]? =some x:=by simpa using b
   show((aZ ss z++flat (.agg ss) a)++rest).set ((k+1)*ss.length+f) v=(aZ ss z++flat (.agg ss) (a.set k y))++rest;rw[B4,List.set_append_right _ _ (by rw[bV,Eo];omega),bV,Eo];rw[show k*ss.length+1*ss.length+f - ss.length=k*ss.length+f by omega,e h,B4]
abbrev fm (room:Int) (ps:List PT):List A3:=flat eQ ps++[aa room]
def ix (g i:Int):Nat:=(g - 1).toNat*32+i.toNat
def lW (room g i:Int):Bool:=gI g&&(decide (0<=i)&&decide (i<room))
def lM (room:Int) (ps:List PT) (g i:Int):Option Nat:=if lW room g i=true/\ps.getD (ix g i) zP≠zP then some (ix g i) else none
structure okS (room:Int) (ps:List PT):Prop where
 len:ps.length=512
 lo:1<=room
 hi:room<=32
theorem iC {g:Int}:gI g=true<->1<=g/\g<=16:=by unfold gI;simp
theorem cf {room g i:Int}:lW room g i=true<->(1<=g/\g<=16)/\0<=i/\i<room:=by unfold lW;rw[FS,iC];simp
theorem lD {room g i:Int} (h:lW room g i=true) (a:room<=32):ix g i<512:=by
 rw[cf] at h;unfold ix;omega
theorem IW {room g i g' a:Int} (h:lW room g i=true) (h':lW room g' a=true) (b:room<=32) (e:ix g i=ix g' a):g=g'/\i=a:=by
 rw[cf] at h h';unfold ix at e;omega
theorem okS.get {room:Int} {ps:List PT} (h:okS room ps) {k:Nat} (a:k<512):ps[k]? =some (ps.getD k zP):=by
 rw[H7,Bd (by rw[h.len];exact a)];rfl
theorem okS.set {room:Int} {ps:List PT} (h:okS room ps) (k:Nat) (x:PT):okS room (ps.set k x):=⟨by rw[List.length_set];exact h.len,h.lo,h.hi⟩
theorem dU {room:Int} {ps:List PT} {g i:Int} {k:Nat} (h:lM room ps g i=some k):lW room g i=true/\k=ix g i/\ps.getD k zP≠zP:=by
 unfold lM at h;split at h
 ·rename_i c;cases h;exact⟨c.1,rfl,c.2⟩
 ·cases h
theorem k_ {room:Int} {ps:List PT} (h:okS room ps):l5 (fm room ps) (0+2560) (.one (.int .i64))=some room:=by
 have:(fm room ps)[2560]? =some (aa room):=by
  show(flat eQ ps++[aa room])[2560]? = _;rw[I_ (by rw[aN,h.len];decide),aN,h.len];rfl
 show(match (fm room ps)[0+2560]? with|some v=>(Sc.int .i64).proj v|none=>none)=some room;rw[B3,this];rfl
theorem Z0 (x:PT):(x.fst==0&&(x.snd.fst==0&&(x.snd.snd.fst==0&&(x.snd.snd.snd.fst==false&&(x.snd.snd.snd.snd.fst==false&&true)))))=decide (x=zP):=by
 obtain⟨a,b,c,d,e,u⟩:=x;rw[GS];simp[zP]
theorem vF {room:Int} {ps:List PT} {k f:Nat} {x:PT} (a:ps[k]? =some x) (b:f<5) {s:Sc} {y:s.T} (c:(match (aZ sQ x)[f]? with|some v=>s.proj v|none=>none)=some y):l5 (fm room ps) (k*5+f) (.one s)=some y:=by
 show(match (fm room ps)[k*5+f]? with|some v=>s.proj v|none=>none)=some y;have:=DF (ss:=sQ) (rest:=[aa room]) a (f:=f) b;rw[show(fm room ps)[k*5+f]? =(aZ sQ x)[f]? from this];exact c
section
variable {D G:List Nat} {w0 w:A1} {L:List (Nat×List A3)}
theorem aw.vF (j:Nat) (H:aH D G w0 w L) {bp k f:Nat} {room:Int} {ps:List PT} {x:PT} (y:PT) {v:A3} {K:A1->Prop} (c:L[j]? =some (bp,fm room ps)) (a:ps[k]? =some x) (d:f<5) (hv:v.oneCell'=true) (g:aZ sQ y=(aZ sQ x).set f v)
 (h: ∀w1,aH D G w0 w1 (L.set j (bp,fm room (ps.set k y)))->K w1):aw w (ae (some ⟨bp,k*5,none⟩) f) [v] K:=by
 refine aw.dF j H c hv ?_ λw1 b=>h w1 ?_
 ·rw[Ih];have i:k<ps.length:=(Bo.1 a).1;have:(flat eQ ps).length=ps.length*5:=aN eQ ps;rw[Ev,this];simp only[M4];omega
 ·have e:(fm room ps).set (k*5+f) v=fm room (ps.set k y):=wN (ss:=sQ) a d g;rw[e] at b;exact b
end
section
variable {w:A1} {bp:Nat} {room:Int} {ps:List PT}
theorem kD (h:bh w bp (fm room ps)) (a:okS room ps):ar A2 174 (.el (.one .bool)) [ah (ad bp)] w (λx w'=>x=true/\Ext w w'):=by
 refine ai (C:=R1) (aM:=λ_=>[]) (A_ (Kl _ w _) ?_);refine⟨λ_=>rfl,λ_=>rfl,aj.iQ (At.start [] w) h (by simp) (k_ a) λw1 b=>⟨?_,b⟩⟩;have:=a.lo;simp;omega
def bN (bp:Nat) (room:Int) (ps:List PT) (g i:Int):Option A9:=(lM room ps g i).map λk=>⟨bp,k*5,none⟩
theorem wq (h:bh w bp (fm room ps)) (a:okS room ps) (g i:Int):ar A2 176 (.el (.one .ptr)) [ah (ad bp),aa g,aa i] w (λx w'=>x=bN bp room ps g i/\Ext w w'):=by
 refine ai (C:=R1) (aM:=λ_=>[]) (A_ (Ip _ g i w _) ?_);refine⟨true,ag.of (s:= .el (.one .bool)) λw' h'=>kD (h.ext h') a,λ_=>trivial,λ_=>rfl,λ_=>rfl,aj.iQ (At.start [] w) h (by simp) (k_ a) ?_⟩;have r:=a.lo;have k:=a.hi;refine ab (λc w1 b=>⟨?_,b⟩) (λc=>?_)
 ·have l: ¬ lW room g i=true:=by
   rw[cf];intro m;have d:gI g=true:=iC.2 m.1;rw[d] at c;simp at c;omega
  unfold bN lM;rw[ao (λhc=>l hc.1)];rfl
 ·have f:lW room g i=true:=by
   rw[cf, <-iC];cases d:gI g with
   |false=>rw[d] at c;simp at c
   |true=>rw[d] at c;simp at c;exact⟨rfl,by omega,by omega⟩
  have t:=cf.1 f;have n:=lD f k;have o:=a.get n;have es:bK .i64 g 1=g - 1:=bU (by omega) (by omega);rw[es];have p:ae (ae (ae (ad bp) 0) ((g - 1).toNat*160)) (i.toNat*5)=some ⟨bp,ix g i*5,none⟩:=by
   rw[aL,aL,aL];unfold ix;congr 2;omega
  have q:ae (ae (ad bp) 0) ((g - 1).toNat*160)=some ⟨bp,0+0+(g - 1).toNat*160,none⟩:=by rw[aL,aL]
  rw[p,q];refine⟨rfl,rfl,⟨rfl,by omega,by omega⟩,⟨rfl,by omega,by omega⟩,rfl,aj.of (ps.getD (ix g i) zP) ?_ ?_⟩
  ·have:=eC (e:=eQ) (rest:=[aa room]) h o;rw[aL,B3] at this;exact this
  ·rw[Z0];refine ab (λj w1 b=>⟨?_,b⟩) (λj w1 b=>⟨?_,b⟩)
   ·unfold bN lM;rw[ao (λhc=>hc.2 (of_decide_eq_true j))];rfl
   ·unfold bN lM;rw[ax ⟨f,of_decide_eq_false j⟩];rfl
def nn (g r:Int):Int:=if !gI g|| !gI r||g==r then 1 else 0
theorem RB (h:bh w bp (fm room ps)) (b:okS room ps) (g r:Int):ar A2 299 (.el (.one (.int .i64))) [ah (ad bp),aa g,aa r] w (λx w'=>x=nn g r/\Ext w w'):=by
 refine ai (C:=R1) (aM:=λ_=>[]) (A_ (Rz _ g r w _) ?_);refine⟨true,ag.of (s:= .el (.one .bool)) λw' h'=>kD (h.ext h') b,an rfl ⟨trivial,λ_=>trivial,ab (λc w1 a=>⟨?_,a⟩) (λc w1 a=>⟨?_,a⟩)⟩⟩
 ·unfold nn;rw[ax c]
 ·unfold nn;rw[ao (by rw[c];decide)]
theorem Nw (h:bh w bp (fm room ps)) (a:okS room ps):ar A2 301 (.el (.one (.int .i64))) [ah (ad bp)] w (λx w'=>x=4/\Ext w w'):=by
 refine ai (C:=R1) (aM:=λ_=>[]) (A_ (Nv _ w _) ?_);exact⟨true,ag.of (s:= .el (.one .bool)) λw' h'=>kD (h.ext h') a,an rfl λw1 b=>⟨rfl,b⟩⟩
def bR (room:Int) (ps:List PT) (g:Int):Int:=match (Hf room.toNat).find? λ(i:Nat)=>(lM room ps g i).isNone with
 |some i=>(i:Int)
 |none=> -1
theorem Kv (h:bh w bp (fm room ps)) (d:okS room ps) (g:Int):ar A2 342 (.el (.one (.int .i64))) [ah (ad bp),aa g] w (λx w'=>x=bR room ps g/\Ext w w'):=by
 refine ai (C:=R1) (aM:=p_) (A_ (Km _ g w _) ?_);have o:=d.lo;have p:=d.hi;refine⟨rfl,rfl,aj.iQ (At.start [] w) h (by simp) (k_ d) ?_⟩;refine⟨λq s w'=> ∃i:Nat,s.1=i/\q+i=room.toNat/\(∀j:Nat,j<i->(lM room ps g j).isNone=false)/\Ext w w',⟨room.toNat,λw1 e=>⟨0,rfl,rfl,λj a=>absurd a (by omega),e⟩⟩,?_⟩;rintro q ⟨r,u⟩ w1 ⟨i,hi,t,k,f⟩;simp only at hi;subst hi;dsimp only;refine ab (λc=>?_) (λc l h2=>⟨?_,f.trans h2⟩)
 ·have m:i<room.toNat:=by simp at c;omega
  refine⟨_,ag.of (s:= .el (.one .ptr)) λw' h'=>wq ((h.ext f).ext h') d g i,ab (λb l h2=>⟨?_,f.trans h2⟩) (λb l h2=>⟨q - 1,by omega,i+1,by rw[av (by omega) (by omega)];rfl,by omega,λj a=>?_,f.trans h2⟩)⟩
  ·have n:(lM room ps g i).isNone=true:=by unfold bN at b;simpa using b
   have:(Hf room.toNat).find? (λ(i:Nat)=>(lM room ps g i).isNone)=some i:=by
    rw[MI];exact⟨n,Ho.2 m,λj a=>by rw[k j a];rfl⟩
   unfold bR;rw[this]
  ·rcases Nat.lt_or_ge j i with e|e
   ·exact k j e
   ·obtain rfl:j=i:=by omega
    unfold bN at b;simpa using b
 ·have:(Hf room.toNat).find? (λ(i:Nat)=>(lM room ps g i).isNone)=none:=by
   rw[List.find?_eq_none];intro j a;have hi:i=room.toNat:=by simp at c;omega
   rw[k j (by rw[hi];exact Ho.1 a)];decide
  unfold bR;rw[this]
theorem kE {room:Int} {ps:List PT} {g:Int} (a:gI g=true) (h:bR room ps g≠ -1):lW room g (bR room ps g)=true/\lM room ps g (bR room ps g)=none:=by
 unfold bR at h ⊢;split at h
 ·rename_i i hi;rw[MI] at hi;have:=Ho.1 hi.2.1;exact⟨cf.2 ⟨iC.1 a,by omega,by omega⟩,by simpa using hi.1⟩
 ·exact absurd rfl h
end
end Go.Proofs.YteeflilbnoknnaaGreat.Po
