import Derived.Test.YteeflilbnoknnaaGreatHAA
/-! What the statement leans on: texts joined and shortened by a program of mine. -/
set_option linter.unusedVariables false
set_option linter.unusedSimpArgs false
open Go renaming World->A2,Addr->AE,Value->AG,Program->Cs,FuncId->Ct,TypeId->Du,MapEntry->E5
open Go.Proofs.Tryz renaming prog->AC
open Eq renaming mpr->AR
open Go.Value renaming bool->AT,int->Da,nilFunc->H7
open Go.IntKind renaming i64->AU,u64->Dx
open List renaming mem_map->AZ,sublist_cons_self->B1,mem_cons_of_mem->B3,mem_cons->B4,nodup_cons->B5,getElem?_set_ne->C7,getElem?_eq_some_iff->Ce,getElem?_set_self->Ch,getElem?_eq_getElem->DA,append_assoc->DB,map_cons->DC,ext_getElem?->Df,mem_append_right->Dl,mem_singleton->Dm,replicate->Dn,mem_append->E4,length_append->FA,mem_append_left->FB,map_append->Fh,nodup_append->Fm,perm_middle->Fz,getD_eq_getElem?_getD->GS,set_set->Gi,range->H2,nodup_nil->H8,mem_of_getElem?->H9,take_append_drop->HB,getElem?_append_left->HD,getElem?_append_right->HF,take_append_of_le_length->HH,take_of_length_le->HQ,append_nil->HY,perm_append_comm->Hb,length_cons->Hr,length_nil->Hz,getElem?_eq_none->Jj,drop_eq_nil_of_le->Jl,getElem?_of_mem->K0,mem_or_eq_of_mem_set->K1,set_eq_take_append_cons_drop->K2,filter_cons->L2,mem_range->LL,find?_range_eq_some->M5
open Nat renaming zero_add->B2,le_trans->DS,zero_le->FC,mul_one->Fk,le_refl->H4,lt_of_lt_of_le->I1,add_mul->I8,testBit_mod_two_pow->I_,blt_eq->IR,mod_eq_of_lt->M6,eq_of_testBit_eq->M9
open Int renaming toNat->C9,toNat_natCast->In,ediv_nonneg->MD
open Bool renaming or_eq_true->Do,or_eq_false_iff->Dt,true_and->FJ,and_eq_true->H5,eq_iff_iff->H6,and_comm->J3,and_eq_false_iff->Jc,not_eq_true'->Jf,false_and->MF,not_eq_false'->MG
open Array renaming getElem?_eq_some_iff->FS
open And renaming intro->Fe
open BitVec renaming testBit_toNat->Ff
open List.Perm renaming trans->MJ,append_right->MM
namespace Go.Proofs.YteeflilbnoknnaaGreat
set_option maxRecDepth 100000
open Go.RX
theorem mx:AC.follows .mixedOrders=true:=by kernel_rfl
noncomputable def C0:fa AC:={oW:=[],quiet:=[],sh:=[],mixed:=mx}
theorem Tq (low size:Int) (w:A2) (a:Bool->A2->Prop):(aL C0 (λ_=>[]) 367 [.int .i64 low,.int .i64 size] w a)=(
 ak w (a (decide (low>=0)&&decide (low<64)&&decide (size>=1)&&decide (size<=aR .i64 64 low)))):=by kernel_rfl
theorem aa0 (low size:Int) (w:A2) (a:Bool->A2->Prop):(aL C0 (λ_=>[]) 359 [.int .i64 low,.int .i64 size] w a)=(
 ak w (a (decide (low>=0)&&decide (low<64)&&decide (size>=1)&&decide (size<=64)&&decide (ay .i64 low size<=64)))):=by kernel_rfl
def z9:Nat->aW:=(λ|2=>[(0,Go.RX.El.one (Go.RX.Sc.int Dx)),(5,Go.RX.El.one (Go.RX.Sc.int AU))]| _=>[])
theorem X6 (v i:Int) (w:A2) (a:Bool->A2->Prop):(aL C0 z9 360 [.int .u64 v,.int .i64 i] w a)=(
 ∃(I:Nat->Int×Int×Unit->A2->Prop),(∃n, ∀w1,Ext w w1->I n (v,0,()) w1)/\ ∀(n:Nat) (s:Int×Int×Unit) (w1:A2),I n s w1->aD (decide (s.2.1<i)) (∀b,Ext w1 b-> ∃(c:Nat),c<n/\I c (pT .u64 s.1 2,ay .i64 s.2.1 1,()) b) (ak w1 (a (gj s.1 2==1)))):=by kernel_rfl
def z_:Nat->aW:=(λ|3=>[(3,Go.RX.El.one (Go.RX.Sc.int Dx)),(4,Go.RX.El.one (Go.RX.Sc.int AU))]| _=>[])
theorem X7 (i:Int) (w:A2) (a:Int->A2->Prop):(aL C0 z_ 361 [.int .i64 i] w a)=(
 ∃(I:Nat->Int×Int×Unit->A2->Prop),(∃n, ∀w1,Ext w w1->I n (1,0,()) w1)/\ ∀(n:Nat) (s:Int×Int×Unit) (w1:A2),I n s w1->aD (decide (s.2.1<i)) (∀b,Ext w1 b-> ∃(c:Nat),c<n/\I c (dk .u64 2 s.1,ay .i64 s.2.1 1,()) b) (ak w1 (a s.1))):=by kernel_rfl
theorem OM (lo sz:Int):(decide (lo>=0)&&decide (lo<64)&&decide (sz>=1)&&decide (sz<=aR .i64 64 lo))=c8 lo sz:=by
 unfold c8;by_cases h:0<=lo/\lo<64
 .rw[aX (by omega) (by omega)]
 .by_cases a:lo>=0<;>by_cases h2:lo<64<;>simp[a,h2]<;>omega
noncomputable def tK:Entry AC where
 f:=367
 fn l:=match l with
  |[.int .i64 lo,.int .i64 sz]=>some (True,.bool (c8 lo sz))
  | _=>none
 ok args pre v h _ w:=by
  split at h
  .rename_i lo sz;cases h;refine a7 (x:=c8 lo sz) (aj (C:=C0) (AR (Tq lo sz w _) λw1 a=>⟨OM lo sz,a⟩))
  .cases h
theorem X8 (lo sz:Int):(decide (lo>=0)&&decide (lo<64)&&decide (sz>=1)&&decide (sz<=64)&&decide (ay .i64 lo sz<=64))=c8 lo sz:=by
 unfold c8;by_cases h:0<=lo/\lo<64/\1<=sz/\sz<=64
 .rw[ao (by omega) (by omega)];have ⟨a,h2,b,c⟩:=h;simp[a,h2,b,c];omega
 .by_cases a:lo>=0<;>by_cases h2:lo<64<;>by_cases b:sz>=1<;>by_cases c:sz<=64<;>simp[a,h2,b,c]<;>omega
noncomputable def SB:Entry AC where
 f:=359
 fn l:=match l with
  |[.int .i64 lo,.int .i64 sz]=>some (True,.bool (c8 lo sz))
  | _=>none
 ok args pre v h _ w:=by
  split at h
  .rename_i lo sz;cases h;refine a7 (x:=c8 lo sz) (aj (C:=C0) (AR (aa0 lo sz w _) λw1 a=>⟨X8 lo sz,a⟩))
  .cases h
theorem X9 (b:BitVec 64) (i:Int) (hi:i<=64) (w:A2):aC AC 360 (.el (.one .bool)) [.int .u64 (U b),.int .i64 i] w (λx w'=>x=b.getLsbD i.toNat/\Ext w w'):=by
 refine aj (C:=C0) (b_:=z9) (AR (X6 (U b) i w _) ?_);refine⟨λn s w'=>Ext w w'/\ ∃k:Nat,s.2.1=k/\n+k=i.toNat/\s.1=U (b >>> k),⟨i.toNat,λw1 e=>⟨e,0,rfl,rfl,by simp⟩⟩,?_⟩;rintro n ⟨x,j,u⟩ w1 ⟨a,k,c,g,d⟩;simp only at c d;subst c;subst d;dsimp only;refine ab (λh=>?_) (λh=>?_)
 .simp only[decide_eq_true_eq] at h;intro l f;refine⟨n - 1,by omega,a.trans f,k+1,?_,by omega,?_⟩
  .show ay _ _ _= _;rw[ao (by omega) (by omega)];rfl
  .show pT .u64 _ 2= _;rw[half,BitVec.shiftRight_add]
 .simp only[decide_eq_false_iff_not] at h;intro m h2;refine⟨?_,a.trans h2⟩;show(gj _ 2==1)= _;rw[odd];simp only[BitVec.getLsbD_ushiftRight,Nat.add_zero];congr 1;omega
noncomputable def Cj:Entry AC where
 f:=360
 fn l:=match l with
  |[.int .u64 b,.int .i64 i]=>some (U (B b)=b/\i<=64,.bool ((B b).getLsbD i.toNat))
  | _=>none
 ok args pre v h a w:=by
  split at h
  .rename_i b i;cases h;have ⟨c,h2⟩:=a;have:=a7 (X9 (B b) i h2 w);rw[c] at this;exact this
  .cases h
theorem X_ (i:Int) (hi:i<=64) (w:A2):aC AC 361 (.el (.one (.int .u64))) [.int .i64 i] w (λx w'=>x=U (yA i.toNat)/\Ext w w'):=by
 refine aj (C:=C0) (b_:=z_) (AR (X7 i w _) ?_);refine⟨λn s w'=>Ext w w'/\ ∃k:Nat,s.2.1=k/\n+k=i.toNat/\s.1=U (yA k),⟨i.toNat,λw1 d=>⟨d,0,rfl,rfl,rfl⟩⟩,?_⟩;rintro n ⟨x,j,u⟩ w1 ⟨a,k,b,f,c⟩;simp only at b c;subst b;subst c;dsimp only;refine ab (λh=>?_) (λh=>?_)
 .simp only[decide_eq_true_eq] at h;intro g e;refine⟨n - 1,by omega,a.trans e,k+1,?_,by omega,?_⟩
  .show ay _ _ _= _;rw[ao (by omega) (by omega)];rfl
  .show dk .u64 2 _= _;rw[show(2:Int)=U 2#64 from rfl,X3,Jw]
 .simp only[decide_eq_false_iff_not] at h;intro l h2;refine⟨?_,a.trans h2⟩;show U (yA k)= _;congr 2;omega
noncomputable def Ck:Entry AC where
 f:=361
 fn l:=match l with
  |[.int .i64 i]=>some (i<=64,.int .u64 (U (yA i.toNat)))
  | _=>none
 ok args pre v h a w:=by
  split at h
  .rename_i i;cases h;exact a7 (X_ i a w)
  .cases h
noncomputable def C1:fa AC:={C0 with oW:=[tK,SB,Cj,Ck]}
theorem Tr (low size:Int) (w:A2) (a:Int->A2->Prop):(aL C1 (λ_=>[]) 372 [.int .i64 low,.int .i64 size] w a)=(
 True/\aD (!c8 low size) (ak w (a 0)) (0<=aR .i64 64 size/\0<=low/\ak w λw1=>a (Di .u64 (Jg .u64 18446744073709551615 (aR .i64 64 size)) low) w1)):=by kernel_rfl
def wL:Nat->aW:=(λ|3=>[(7,Go.RX.El.one (Go.RX.Sc.int Dx)),(8,Go.RX.El.one (Go.RX.Sc.int AU))]| _=>[])
theorem Ts (v low size:Int) (w:A2) (Post:Int->A2->Prop):(aL C1 wL 329 [.int .u64 v,.int .i64 low,.int .i64 size] w Post)=(
 ∃(I:Nat->Int×Int×Unit->A2->Prop),(∃n, ∀w1,Ext w w1->I n (0,0,()) w1)/\ ∀(n:Nat) (s:Int×Int×Unit) (w1:A2),I n s w1->(decide (s.2.1<size)=true->True)/\aD (decide (s.2.1<size)&&c8 low size) ((U (B v)=v/\ay .i64 low s.2.1<=64)/\aD ((B v).getLsbD (ay .i64 low s.2.1).toNat) (s.2.1<=64/\ ∀a,Ext w1 a-> ∃(b:Nat),b<n/\I b (ay .u64 s.1 (U (yA (C9 s.2.1))),ay .i64 s.2.1 1,()) a) (∀a,Ext w1 a-> ∃(b:Nat),b<n/\I b (s.1,ay .i64 s.2.1 1,()) a)) (ak w1 λw1=>Post s.1 w1)):=
 by kernel_rfl
theorem Tt (lo sz:Int) (w:A2):aC AC 372 (.el (.one (.int .u64))) [.int .i64 lo,.int .i64 sz] w (λx w'=>x=U (gT lo sz)/\Ext w w'):=by
 refine aj (C:=C1) (AR (Tr lo sz w _) ⟨trivial,?_⟩);refine ab (λh=>?_) (λh=>?_)
 .intro w1 a;refine⟨?_,a⟩;rw[s6 (by simpa using h)];rfl
 .have h':c8 lo sz=true:=by simpa using h
  have h2:=iM.1 h';refine⟨by rw[aX (by omega) (by omega)];omega,h2.1,λw1 a=>⟨Gf h',a⟩⟩
noncomputable def wy:Entry AC where
 f:=372
 fn l:=match l with
  |[.int .i64 lo,.int .i64 sz]=>some (True,.int .u64 (U (gT lo sz)))
  | _=>none
 ok args pre v h a w:=by
  split at h
  .rename_i lo sz;cases h;exact a7 (Tt lo sz w)
  .cases h
theorem upto {lo sz:Int} (k:Nat) (h:(decide ((k:Int)<sz)&&c8 lo sz)=true):c8 lo sz=true/\lo.toNat+k<64/\k<sz.toNat/\ay .i64 lo (k:Int)=((lo.toNat+k:Nat):Int)/\ay .i64 (k:Int) 1=((k+1:Nat):Int):=by
 simp only[H5,decide_eq_true_eq] at h;have ⟨a,h2⟩:=h;have b:=iM.1 h2;refine⟨h2,by omega,by omega,?_,?_⟩
 .rw[ao (by omega) (by omega)];omega
 .rw[ao (by omega) (by omega)];omega
theorem ON {lo sz:Int} {k:Nat} (b:k<=sz.toNat) (h:(decide ((k:Int)<sz)&&c8 lo sz)=false) (a:c8 lo sz=true):k=sz.toNat:=by
 simp only[a,Bool.and_true,decide_eq_false_iff_not] at h;omega
theorem Tu (v:BitVec 64) (lo sz:Int) (w:A2):aC AC 329 (.el (.one (.int .u64))) [.int .u64 (U v),.int .i64 lo,.int .i64 sz] w (λx w'=>x=U (ew v lo sz)/\Ext w w'):=by
 refine aj (C:=C1) (b_:=wL) (AR (Ts (U v) lo sz w _) ?_);refine⟨λn s w'=>Ext w w'/\ ∃k:Nat,s.2.1=k/\n+k=sz.toNat/\s.1=U (if c8 lo sz=true then Gk v lo.toNat k else 0#64),⟨sz.toNat,λw1 b=>⟨b,0,rfl,rfl,by rw[Tn];simp;rfl⟩⟩,?_⟩;rintro n ⟨x,j,u⟩ w1 ⟨c,k,e,m,f⟩;simp only at e f;subst e;subst f;dsimp only;refine⟨λ_=>trivial,ab (λh=>?_) (λh=>?_)⟩
 .have ⟨a,b,h2,i,g⟩:=upto k h;rw[if_pos a,i,C6];refine⟨⟨rfl,by omega⟩,ab (λhb=>⟨by omega,λl d=>⟨n - 1,by omega,c.trans d,k+1,g,by omega,?_⟩⟩) (λhb=>λl d=>⟨n - 1,by omega,c.trans d,k+1,g,by omega,?_⟩)⟩
  .show ay .u64 _ _= _;rw[XZ,if_pos a,In,X4 b (by rw[In] at hb;exact hb)]
  .show U _= _;rw[if_pos a,To b (by rw[In] at hb;exact hb)]
 .intro o h2;refine⟨?_,c.trans h2⟩;by_cases a:c8 lo sz=true
  .rw[if_pos a,Ik a,ON (by omega) h a]
  .rw[if_neg a,Jx (by simpa using a)]
noncomputable def wz:Entry AC where
 f:=329
 fn l:=match l with
  |[.int .u64 v,.int .i64 lo,.int .i64 sz]=>some (U (B v)=v,.int .u64 (U (ew (B v) lo sz)))
  | _=>none
 ok args pre v h a w:=by
  split at h
  .rename_i v lo sz;cases h;have:=a7 (Tu (B v) lo sz w);rw[a] at this;exact this
  .cases h
noncomputable def C2:fa AC:={C0 with oW:=[tK,SB,Cj,Ck,wy,wz]}
theorem Ya (v low size:Int) (w:A2) (a:Int->A2->Prop):(aL C2 (λ_=>[]) 366 [.int .u64 v,.int .i64 low,.int .i64 size] w a)=(
 True/\0<=Dj 0 (lL low 63)/\ak w λw1=>a (Jg .u64 (iF .u64 v (U (gT low size))) (Dj 0 (lL low 63))) w1):=by kernel_rfl
theorem Yb (v low size x:Int) (w:A2) (a:Int->A2->Prop):(aL C2 (λ_=>[]) 371 [.int .u64 v,.int .i64 low,.int .i64 size,.int .u64 x] w a)=(
 True/\aD (U (gT low size)==0) (ak w (a v)) (0<=low/\ak w λw1=>a (Zk .u64 (mV .u64 v (U (gT low size))) (iF .u64 (Di .u64 x low) (U (gT low size)))) w1)):=by kernel_rfl
theorem Yc (v:BitVec 64) (lo sz:Int) (w:A2):aC AC 366 (.el (.one (.int .u64))) [.int .u64 (U v),.int .i64 lo,.int .i64 sz] w (λx w'=>x=U (ew v lo sz)/\Ext w w'):=by
 refine aj (C:=C2) (AR (Ya (U v) lo sz w _) ⟨trivial,by unfold Dj;split<;>omega,λw1 a=>⟨?_,a⟩⟩);rw[NO,NQ];rfl
theorem Ye (v:BitVec 64) (lo sz:Int) (x:BitVec 64) (w:A2):aC AC 371 (.el (.one (.int .u64))) [.int .u64 (U v),.int .i64 lo,.int .i64 sz,.int .u64 (U x)] w (λy w'=>y=U (tB v lo sz x)/\Ext w w'):=by
 refine aj (C:=C2) (AR (Yb (U v) lo sz (U x) w _) ⟨trivial,?_⟩);have c:(U (gT lo sz)==0)=decide (gT lo sz=0#64):=by
  have:(U (gT lo sz)=0)<->gT lo sz=0#64:=by rw[show(0:Int)=U 0#64 from rfl,aaY]
  by_cases h:gT lo sz=0#64
  .rw[this.2 h,h];rfl
  .have h': ¬ U (gT lo sz)=0:=λe=>h (this.1 e);simp[h,h']
 rw[c];refine ab (λh=>λw1 a=>⟨?_,a⟩) (λh=>?_)
 .simp only[decide_eq_true_eq] at h;unfold tB;rw[if_pos h]
 .simp only[decide_eq_false_iff_not] at h;have b:c8 lo sz=true:=by
   cases b:c8 lo sz with
   |true=>rfl
   |false=>exact absurd (s6 b) h
  refine⟨(iM.1 b).1,λw1 a=>⟨?_,a⟩⟩;rw[Jv,NP,NO,aaZ];unfold tB;rw[if_neg h]
noncomputable def Fw:Entry AC where
 f:=366
 fn l:=match l with
  |[.int .u64 v,.int .i64 lo,.int .i64 sz]=>some (U (B v)=v,.int .u64 (U (ew (B v) lo sz)))
  | _=>none
 ok args pre v h a w:=by
  split at h
  .rename_i v lo sz;cases h;have:=a7 (Yc (B v) lo sz w);rw[a] at this;exact this
  .cases h
noncomputable def Fx:Entry AC where
 f:=371
 fn l:=match l with
  |[.int .u64 v,.int .i64 lo,.int .i64 sz,.int .u64 x]=>some (U (B v)=v/\U (B x)=x,.int .u64 (U (tB (B v) lo sz (B x))))
  | _=>none
 ok args pre v h a w:=by
  split at h
  .rename_i v lo sz x;cases h;have:=a7 (Ye (B v) lo sz (B x) w);rw[a.1,a.2] at this;exact this
  .cases h
noncomputable def C3:fa AC:={C0 with oW:=[tK,SB,Cj,Ck,wy,wz,Fw,Fx]}
def wM:Nat->aW:=(λ|4=>[(3,Go.RX.El.one (Go.RX.Sc.int Dx)),(4,Go.RX.El.one (Go.RX.Sc.int AU)),(9,Go.RX.El.one (Go.RX.Sc.int AU))]| _=>[])
theorem Tv (p:Option AE) (n c:Nat) (w:A2) (d:Int->A2->Prop):(aL C3 wM 364 [.slice p n c] w d)=(
 ∃(I:Nat->Int×Int×Int×Unit->A2->Prop),(∃n, ∀w1,Ext w w1->I n (0,0,0,()) w1)/\ ∀(f:Nat) (s:Int×Int×Int×Unit) (w1:A2),I f s w1->aD (decide (s.2.2.1<(↑n:Int))) ((p.isSome=true/\0<=s.2.2.1/\s.2.2.1<(↑n:Int))/\ag w1 none (ad p (C9 s.2.2.1*2)) cT λ(x:Int×Int×Unit)=>aH w1 ⟨[.int .u64 0,.int .i64 0]⟩ 429 λb a=>aw a (ae b) [.int .u64 x.1,.int .i64 x.2.1] λa=>true=true/\aN a (ad (ae b) 1) λx=>True/\aD (!c8 s.2.1 x) (ak a (d 0)) (true=true/\aN a (ad (ae b) 1) λ
 x=>true=true/\bH a (ad (ae b) 0) λe=>(U (B s.1)=s.1/\U (B e)=e)/\true=true/\aN a (ad (ae b) 1) λi=> ∀g,Ext a g-> ∃(h:Nat),h<f/\I h (U (tB (B s.1) s.2.1 x (B e)),ay .i64 s.2.1 i,ay .i64 s.2.2.1 1,()) g)) (ak w1 (d s.1))):=by kernel_rfl
def uJ:Nat->aW:=(λ|4=>[(5,Go.RX.El.one Go.RX.Sc.slice),(6,Go.RX.El.one (Go.RX.Sc.int AU)),(11,Go.RX.El.one (Go.RX.Sc.int AU))]| _=>[])
theorem OO (v:Int) (p:Option AE) (n c:Nat) (w:A2) (a:Option AE×Nat×Nat->A2->Prop):(aL C3 uJ 346 [.int .u64 v,.slice p n c] w a)=(
 ∃(I:Nat->(Option AE×Nat×Nat)×Int×Int×Unit->A2->Prop),(∃n, ∀w1,Ext w w1->I n ((none,0,0),0,0,()) w1)/\ ∀(e:Nat) (s:(Option AE×Nat×Nat)×Int×Int×Unit) (w1:A2),I e s w1->aD (decide (s.2.2.1<(↑n:Int))) ((p.isSome=true/\0<=s.2.2.1/\s.2.2.1<(↑n:Int))/\aN w1 (ad p (C9 s.2.2.1*1)) λx=>True/\aD (!c8 s.2.1 x) (ak w1 (a (none,0,0))) (U (B v)=v/\aH w1 ⟨[.int .u64 (U (ew (B v) s.2.1 x))]⟩ 32 λb d=> ∀w1,Ext d w1->nm w1 32 1 8 ⟨[.int .u64 0]⟩ (s.1.1,s.1.2.1,s.1.2.2) (some ⟨b,0,
 none⟩,1,1) λ(r:Option AE×Nat×Nat) d=> ∀f,Ext d f-> ∃(g:Nat),g<e/\I g ((r.1,r.2.1,r.2.2),ay .i64 s.2.1 x,ay .i64 s.2.2.1 1,()) f)) (ak w1 (a (s.1.1,s.1.2.1,s.1.2.2)))):=by kernel_rfl
def uK:Nat->aW:=(λ|4=>[(5,Go.RX.El.one (Go.RX.Sc.int AU))]| _=>[])
theorem OP (p q:Option AE) (n c m d:Nat) (w:A2) (a:Bool->A2->Prop):(aL C3 uK 15 [.slice p n c,.slice q m d] w a)=(
 aD ((↑n:Int) != (↑m:Int)) (ak w (a false)) (∃(I:Nat->Int×Unit->A2->Prop),(∃n, ∀w1,Ext w w1->I n (0,()) w1)/\ ∀(b:Nat) (s:Int×Unit) (w1:A2),I b s w1->aD (decide (s.1<(↑n:Int))) ((p.isSome=true/\0<=s.1/\s.1<(↑n:Int))/\bH w1 (ad p (C9 s.1*1)) λx=>(q.isSome=true/\0<=s.1/\s.1<(↑m:Int))/\bH w1 (ad q (C9 s.1*1)) λg=>aD (x != g) (ak w1 (a false)) (∀e,Ext w1 e-> ∃(f:Nat),f<b/\I f (ay .i64 s.1 1,()) e)) (ak w1 (a true)))):=by kernel_rfl
abbrev eI:El:= .one (.int .i64)
abbrev eU:El:= .one (.int .u64)
abbrev eP:El:= .agg [.int .u64,.int .i64]
theorem OQ {p q:Option AE} {n c m d:Nat} {w:A2} {xs ys:List Int} (t:Sl w eU p xs) (v:n=xs.length) (x:Sl w eU q ys) (y:m=ys.length) (hb:n<4611686018427387904):
 aC AC 15 (.el (.one .bool)) [.slice p n c,.slice q m d] w (λb w'=>b=decide (xs=ys)/\Ext w w'):=by
 refine aj (C:=C3) (b_:=uK) (AR (OP p q n c m d w _) ?_);refine ab (λh w1 a=>⟨?_,a⟩) (λh=>?_)
 .have:xs≠ys:=λe=>by subst e;simp[v,y] at h
  simp[this]
 .have B:n=m:=by simp at h;omega
  refine⟨λk s w'=>Ext w w'/\ ∃i:Nat,s.1=i/\k+i=n/\ ∀j,j<i->xs[j]? =ys[j]?,⟨n,λw1 a=>⟨a,0,rfl,rfl,λj g=>absurd g (by omega)⟩⟩,?_⟩;rintro k ⟨D,u⟩ w1 ⟨f,i,hi,E,g⟩;simp only at hi;subst hi;dsimp only;refine ab (λh=>?_) (λh=>λo h2=>⟨?_,f.trans h2⟩)
  .simp only[decide_eq_true_eq] at h;have a:i<xs.length:=by omega
   have h2:i<ys.length:=by omega
   have a1:=(t.ext f) i xs[i] (DA a);have r:=(x.ext f) i ys[i] (DA h2);refine⟨⟨a1.1,by omega,by omega⟩,xs[i],a1.2,⟨r.1,by omega,by omega⟩,ys[i],r.2,ab (λz o l=>⟨?_,f.trans l⟩) (λA o l=>⟨k - 1,by omega,f.trans l,i+1,?_,by omega,?_⟩)⟩
   .have:xs≠ys:=λe=>by subst e;simp at z
    simp[this]
   .show ay _ _ _= _;rw[ao (by omega) (by omega)];rfl
   .intro j F;by_cases e:j=i
    .subst e;rw[DA a,DA h2];simpa using A
    .exact g j (by omega)
  .simp only[decide_eq_false_iff_not] at h;have:xs=ys:=by
    apply Df;intro j;by_cases e:j<i
    .exact g j e
    .rw[Jj (by omega),Jj (by omega)]
   simp[this]
def rY:BitVec 64->Int->List (BitVec 64×Int)->BitVec 64
 |w, _,[]=>w
 |w,lo,(v,sz)::r=>if c8 lo sz=true then rY (tB w lo sz v) (lo+sz) r else 0#64
def MZ (l:List (BitVec 64×Int)):List (Int×Int×Unit):=l.map λx=>(U x.1,x.2,())
theorem DU {α:Type} {l:List α} {i:Nat} (h:i<l.length):l.drop i=l[i]::l.drop (i+1):=by simp_all
theorem Tw {p:Option AE} {n c:Nat} {w:A2} {xs:List (BitVec 64×Int)} (z:Sl w eP p (MZ xs)) (K:n=xs.length) (hb:n<4611686018427387904):
 aC AC 364 (.el eU) [.slice p n c] w (λx w'=>x=U (rY 0#64 0 xs)/\Ext w w'):=by
 refine aj (C:=C3) (b_:=wM) (AR (Tv p n c w _) ?_);refine⟨λk s w'=>Ext w w'/\ ∃(i:Nat) (b:BitVec 64),s.1=U b/\s.2.2.1=i/\k+i=n/\0<=s.2.1/\s.2.1<=64/\rY b s.2.1 (xs.drop i)=rY 0#64 0 xs,⟨n,λw1 g=>⟨g,0,0#64,rfl,rfl,rfl,by decide,by decide,rfl⟩⟩,?_⟩;rintro k ⟨x,lo,L,u⟩ w1 ⟨l,i,b,g,h2,M,A,B,e⟩;simp only at g h2 A B e;subst g;subst h2;dsimp only;refine ab (λh=>?_) (λh=>λD h2=>⟨?_,l.trans h2⟩)
 .simp only[decide_eq_true_eq] at h;have hi:i<xs.length:=by omega
  have E:(MZ xs)[i]? =some (U xs[i].1,xs[i].2,()):=by simp[MZ,hi]
  have a1:=(z.ext l) i _ E;rw[DU hi] at e;refine⟨⟨a1.1,by omega,by omega⟩, _,a1.2,λd F f t=>?_⟩;have d_:bq f d.heap.size [.int .u64 0,.int .i64 0]:=(bq.new d _ _).ext t;have v:Ext w d:=l.trans F;have G:Ext w f:=(v.eA _).trans t;have m:=d_.put (o:=0) [Da .u64 (U xs[i].1),Da .i64 xs[i].2] (by simp);simp at m;have y:Ext w (jb f (some ⟨d.heap.size,0,none⟩) [Da .u64 (U xs[i].1),Da .i64 xs[i].2]):=G.jb (a:=⟨d.heap.size,0,none⟩) v.size _;have H:bP (jb f (some ⟨d.heap.size,0,none⟩) [Da .u64 (U xs[i].1),Da .i64 xs[i].2]) (ad (some ⟨d.heap.size,0,none⟩) 0) (.one (.int .u64)) (U xs[i].1):=by
   rw[aS];exact m.mF rfl
  have q:bP (jb f (some ⟨d.heap.size,0,none⟩) [Da .u64 (U xs[i].1),Da .i64 xs[i].2]) (ad (some ⟨d.heap.size,0,none⟩) 1) (.one (.int .i64)) xs[i].2:=by
   rw[aS];exact m.mF rfl
  refine⟨⟨rfl,d_.st (by simp)⟩,rfl, _,q,trivial,ab (λr D I=>⟨?_,y.trans I⟩) (λr=>⟨rfl, _,q,rfl, _,H,⟨by rw[C6],by rw[C6]⟩,rfl, _,q,λN J=>⟨k - 1,by omega,y.trans J,i+1,tB b lo xs[i].2 xs[i].1,?_,?_,by omega,?_,?_,?_⟩⟩)⟩
  .have j:c8 lo xs[i].2=false:=by simpa using r
   rw[<-e];simp only[rY,j];rfl
  all_goals
   have j:c8 lo xs[i].2=true:=by simpa using r
   have O:=iM.1 j
  .show U _= _;rw[C6,C6]
  .show ay _ _ _= _;rw[ao (by omega) (by omega)];rfl
  .show 0<=ay .i64 lo _;rw[ao (by omega) (by omega)];omega
  .show ay .i64 lo _<=64;rw[ao (by omega) (by omega)];omega
  .show rY _ (ay .i64 lo _) _= _;rw[ao (by omega) (by omega), <-e];simp only[rY,j,if_true]
 .simp only[decide_eq_false_iff_not] at h;rw[Jl (by omega)] at e;rw[<-e];rfl
def nG (w:BitVec 64):Int->List Int->Option (List (BitVec 64))
 | _,[]=>some []
 |lo,sz::r=>if c8 lo sz=true then(nG w (lo+sz) r).map (ew w lo sz:: ·) else none
def Cl (l:List (BitVec 64)):List Int:=l.map U
theorem OR {v:BitVec 64} {p:Option AE} {n c:Nat} {w:A2} {xs:List Int} (t:Sl w eI p xs) (J:n=xs.length) (hb:n<=1000):
 aC AC 346 (.el (.one .slice)) [.int .u64 (U v),.slice p n c] w (λr w'=>kx w w' eU r (Cl ((nG v 0 xs).getD []))/\Ext w w'):=by
 refine aj (C:=C3) (b_:=uJ) (AR (OO (U v) p n c w _) ?_);refine⟨λk s w'=>Ext w w'/\ ∃(i:Nat) (a:List (BitVec 64)),s.2.2.1=i/\k+i=n/\0<=s.2.1/\s.2.1<=64/\a.length=i/\kx w w' eU s.1 (Cl a)/\nG v 0 xs=(nG v s.2.1 (xs.drop i)).map (a++ ·),⟨n,λw1 y=>⟨y,0,[],rfl,rfl,by decide,by decide,rfl,kx.nil w w1 eU,by simp⟩⟩,?_⟩;rintro k ⟨s,lo,K,u⟩ w1 ⟨d,i,a,h2,L,z,A,D,j,b⟩;simp only at h2 j z A b;subst h2;dsimp only;refine ab (λh=>?_) (λh=>λm h2=>⟨?_,d.trans h2⟩)
 .simp only[decide_eq_true_eq] at h;have hi:i<xs.length:=by omega
  have a1:=(t.ext d) i _ (DA hi);have i1:p.isSome=true/\(0:Int)<=i/\(i:Int)<n:=⟨a1.1,by omega,by omega⟩;rw[DU hi] at b;refine⟨i1, _,a1.2,trivial,ab (λf m E=>⟨?_,d.trans E⟩) (λf=>⟨by rw[C6],λM F N G=>?_⟩)⟩
  .have g:c8 lo xs[i]=false:=by simpa using f
   simp only[nG,g] at b;rw[b];exact kx.nil w m eU
  .have g:c8 lo xs[i]=true:=by simpa using f
   have O:=iM.1 g;have P:(Cl a).length<=1000:=by simp[Cl];omega
   refine OK (e:=eU) (x:=U (ew (B (U v)) lo xs[i])) j d rfl F G rfl (by omega) λs' w' o H f Q R q=>⟨k - 1,by omega,H.trans q,i+1,a++[ew v lo xs[i]],?_,by omega,?_,?_,by simp[D],?_,?_⟩
   .show ay _ _ _= _;rw[ao (by omega) (by omega)];rfl
   .show 0<=ay .i64 lo _;rw[ao (by omega) (by omega)];omega
   .show ay .i64 lo _<=64;rw[ao (by omega) (by omega)];omega
   .rw[C6] at o;have I:Cl (a++[ew v lo xs[i]])=Cl a++[U (ew v lo xs[i])]:=by simp[Cl]
    rw[I];exact o.ext q
   .show _=(nG v (ay .i64 lo _) _).map _;rw[ao (by omega) (by omega),b];simp only[nG,g,if_true,Option.map_map];congr 1;funext l;simp
 .simp only[decide_eq_false_iff_not] at h;rw[Jl (by omega)] at b;rw[b];simp[nG];exact j.ext h2
end Go.Proofs.YteeflilbnoknnaaGreat
namespace Go.RX
open Go.RowKit
def Xv (n:Nat) (w:A2) (e:El) (s:Option AE×Nat×Nat) (xs:List e.T):Prop:=
 s.2.1=xs.length/\xs.length<=s.2.2/\
 ((s.1=none/\xs=[]/\s.2.2=0)\/ ∃b l,s.1=some ⟨b,0,none⟩/\n<=b/\bq w b l/\l.length=s.2.2*aM e/\l.take (xs.length*aM e)=flat e xs)
theorem kx.toN {w0 w:A2} {e:El} {s:Option AE×Nat×Nat} {xs:List e.T} (h:kx w0 w e s xs):Xv w0.heap.size w e s xs:=h
theorem Xv.of {w0 w:A2} {e:El} {s:Option AE×Nat×Nat} {xs:List e.T} {n:Nat} (h:Xv n w e s xs) (b:w0.heap.size<=n):kx w0 w e s xs:=by
 have ⟨a,h2,c⟩:=h;refine⟨a,?_⟩
 grind
def wC (n:Nat) (w:A2):A2:={w with heap:=w.heap.extract 0 n}
theorem jx {n:Nat} {w:A2} (h:n<=w.heap.size):(wC n w).heap.size=n:=by grind[wC]
theorem qX {n:Nat} {w:A2} (h:n<=w.heap.size):Ext (wC n w) w:=by
 refine⟨rfl,rfl,rfl,?_,λk a=>?_⟩
 .rw[jx h];grind
 .rw[jx h] at a;show w.heap[k]? =(w.heap.extract 0 n)[k]?
  grind
theorem Av {n:Nat} {w w':A2} (h:n<=w.heap.size) (k:Ext (wC n w) w') (a:w.heap.size<=w'.heap.size):Below n w w':=
 ⟨k.os,k.tape,k.output,a,λj b=>by
  have c:=k.block (by rw[jx h];exact b);have h2:=(qX h).block (k:=j)
  grind⟩
end Go.RX
namespace Go.RowKit
open Go.RX
end Go.RowKit
namespace Go.RX
open Go.RowKit
structure Fr (G:List Nat) (w w':A2):Prop where
 os:w'.os=w.os
 tape:w'.tape=w.tape
 output:w'.output=w.output
 size:w.heap.size<=w'.heap.size
 block: ∀k,k<w.heap.size->k∉G->w'.heap[k]? =w.heap[k]?
theorem Fr.refl (G:List Nat) (w:A2):Fr G w w:=⟨rfl,rfl,rfl,by simp,λ_ _ _=>rfl⟩
theorem Fr.trans {G:List Nat} {a b c:A2} (h:Fr G a b) (k:Fr G b c):Fr G a c:=
 ⟨k.os.trans h.os,k.tape.trans h.tape,k.output.trans h.output,DS h.size k.size,λj d e=>(k.block j (I1 d h.size) e).trans (h.block j d e)⟩
theorem Fr.vI {G:List Nat} {w w':A2} (h:Ext w w'):Fr G w w':=⟨h.os,h.tape,h.output,h.size,λ_ a _=>h.block a⟩
theorem Fr.ext {w w':A2} (h:Fr [] w w'):Ext w w':=⟨h.os,h.tape,h.output,h.size,λk a=>h.block k a (by simp)⟩
theorem Fr.d_ {G:List Nat} {w w':A2} (h:Fr G w w') {b:Nat} {l:List AG} (hb:b∉G) (k:bq w b l):bq w' b l:=k.same (h.block b k.lt hb)
theorem Fr.jb {G:List Nat} {w0 w:A2} (h:Fr G w0 w) {a:AE} (l:w0.heap.size<=a.block\/a.block∈G) (vs:List AG):Fr G w0 (jb w (some a) vs):=by
 have env: ∀(vs) (w) (i),(putAt w a vs i).os=w.os/\(putAt w a vs i).tape=w.tape/\(putAt w a vs i).output=w.output:=by
  intro vs
  induction vs with
  |nil=>intro w i;exact⟨rfl,rfl,rfl⟩
  |cons v r b=>
   intro w i;have:=b (w.setCell (a.add i) v) (i+1);exact this
 have ⟨c,d,e⟩:=env vs w 0;refine⟨c.trans h.os,d.trans h.tape,e.trans h.output,?_,λk f g=>?_⟩
 .show _<=(putAt w a vs 0).heap.size;rw[sZ];exact h.size
 .have j:k≠a.block:=by
   grind
  exact(nU vs w a 0 k j).trans (h.block k f g)
structure aJ (D G:List Nat) (w0 w:A2) (L:List (Nat×List AG)):Prop where
 fr:Fr G w0 w
 d_: ∀x∈L,bq w x.1 x.2
 own: ∀x∈L,w0.heap.size<=x.1\/x.1∈G
 nd:(L.map (·.1)).Nodup
 rV: ∀r∈D,w0.heap.size<=r/\w.heap[r]? =some (.deferred (some []))
abbrev At:=aJ []
theorem At.start (G:List Nat) (w:A2):At G w w [] where
 fr:=Fr.refl G w
 d_:=λx=>by grind
 own:=λa=>by grind
 nd:=H8
 rV:=λa=>by grind
namespace aJ
variable {D G:List Nat} {w0 w w1:A2} {L:List (Nat×List AG)}
theorem ext (H:aJ D G w0 w L) (h:Ext w w1):aJ D G w0 w1 L:=
 ⟨H.fr.trans (.vI h),λx b=>(H.d_ x b).ext h,H.own,H.nd,λr a=>⟨(H.rV r a).1,h.obj (H.rV r a).2⟩⟩
theorem all (H:aJ D [] w0 w L):Ext w0 w:=H.fr.ext
theorem get (H:aJ D G w0 w L) {i b:Nat} {l:List AG} (h:L[i]? =some (b,l)):bq w b l:=H.d_ _ (H9 h)
theorem ne (H:aJ D G w0 w L) {i j b c:Nat} {l m:List AG} (h:L[i]? =some (b,l)) (k:L[j]? =some (c,m)) (a:i≠j):b≠c:=by
 intro;have d:(L.map (·.1))[i]? =some b:=by grind
 have h2:(L.map (·.1))[j]? =some b:=by grind
 exact a ((List.getElem?_inj (by grind) H.nd).1 (d.trans h2.symm))
theorem alloc (H:aJ D G w0 w L) (cs:List AG) (t:Du):aJ D G w0 (w.alloc (.cells ⟨cs⟩ t)) ((w.heap.size,cs)::L):=by
 have b:=H.ext (Ext.alloc w (.cells ⟨cs⟩ t));refine⟨b.fr,λx a=>?_,λx a=>?_,?_,b.rV⟩
 .rcases B4.1 a with rfl|a
  .exact bq.new w cs t
  .exact b.d_ x a
 .rcases B4.1 a with rfl|a
  .exact .inl H.fr.size
  .exact b.own x a
 .refine B5.2 ⟨λc=>?_,H.nd⟩;have ⟨x,a,e⟩:=AZ.1 c;have:=(H.d_ x a).lt
  grind
theorem vJ (H:aJ D G w0 w L) (o:Obj):aJ D G w0 (w.alloc o) L:=H.ext (Ext.alloc w o)
theorem dG {b r:Nat} {l:List AG} {o:Obj} (h:bq w b l) (k:w.heap[r]? =some o) (c: ∀a t f,o≠ .cells a t f):b≠r:=by
 obtain⟨⟩:=h
 grind
theorem put (H:aJ D G w0 w L) (i:Nat) {b o:Nat} {l:List AG} (h:L[i]? =some (b,l)) (vs:List AG) (m:o+vs.length<=l.length):
 aJ D G w0 (jb w (some ⟨b,o,none⟩) vs) (L.set i (b,l.take o++(vs++l.drop (o+vs.length)))):=by
 have hi:i<L.length:=(Ce.1 h).1;have f:=H9 h;refine⟨H.fr.jb (H.own _ f) vs,λx a=>?_,λx a=>?_,?_,λr g=>⟨(H.rV r g).1,?_⟩⟩
 .have ⟨j,c⟩:=K0 a;by_cases e:i=j
  .subst e;rw[Ch hi] at c;cases c;exact(H.get h).put vs m
  .rw[C7 e] at c;have d:x.1≠b:=λn=>by
    exact H.ne c h (λp=>e p.symm) n
   exact(H.d_ x (by grind)).Nt d vs
 .rcases K1 a with a|rfl
  .exact H.own x a
  .exact H.own (b,l) f
 .have:(L.set i (b,l.take o++(vs++l.drop (o+vs.length)))).map (·.1)=L.map (·.1):=by
   apply Df;intro j
   grind
  rw[this];exact H.nd
 .have k:=(H.rV r g).2;have d:r≠b:=λe=>dG (H.get h) k (by grind) e.symm;rw[<-k];exact nU vs w _ 0 r d
theorem iQ (H:aJ D G w0 w L) {b:Nat} {l:List AG} (h:bq w0 b l) (hb:b∉G):bq w b l:=H.fr.d_ hb h
theorem sub (H:aJ D G w0 w L) {L':List (Nat×List AG)} (h:L'.Sublist L):aJ D G w0 w L':=
 ⟨H.fr,λx a=>H.d_ x (h.subset a),λx a=>H.own x (h.subset a),(h.map _).nodup H.nd,H.rV⟩
theorem perm (H:aJ D G w0 w L) {L':List (Nat×List AG)} (h:L'.Perm L):aJ D G w0 w L':=
 ⟨H.fr,λx a=>H.d_ x (h.subset a),λx a=>H.own x (h.subset a),(h.map _).nodup_iff.2 H.nd,H.rV⟩
theorem frame (H:aJ D G w0 w L) {b:List Nat} {L':List (Nat×List AG)} (h:Fr b w w1) (i: ∀x∈b,w0.heap.size<=x\/x∈G) (d: ∀r∈D,r∉b) (hb: ∀x∈L',bq w1 x.1 x.2) (e: ∀x∈L',w0.heap.size<=x.1\/x.1∈G) (f:(L'.map (·.1)).Nodup):aJ D G w0 w1 L':=
 ⟨⟨h.os.trans H.fr.os,h.tape.trans H.fr.tape,h.output.trans H.fr.output,DS H.fr.size h.size,λk c g=>(h.block k (I1 c H.fr.size) (by grind)).trans (H.fr.block k c g)⟩,hb,e,f,λr a=>⟨(H.rV r a).1,by rw[h.block r (FS.1 (H.rV r a).2).1 (d r a)];exact(H.rV r a).2⟩⟩
theorem mod (H:aJ D G w0 w L) (i:Nat) {b:Nat} {l l':List AG} (c:L[i]? =some (b,l)) (h:Fr [b] w w1) (hb:bq w1 b l'):aJ D G w0 w1 (L.set i (b,l')):=by
 have d:=H9 c;refine H.frame h (λx a=>by rw[Dm.1 a];exact H.own (b,l) d) (λr k a=>?_) (λx a=>?_) (λx a=>?_) ?_
 .rw[Dm] at a;exact dG (H.get c) (H.rV r k).2 (by grind) a.symm
 .have ⟨j,f⟩:=K0 a;by_cases e:i=j
  grind
  .rw[C7 e] at f;have ⟨g,m⟩:=x;have o:g≠b:=H.ne f c (λn=>e n.symm);exact h.d_ (by grind) (H.d_ (g,m) (by grind))
 .rcases K1 a with a|rfl
  .exact H.own x a
  .exact H.own (b,l) d
 .have:(L.set i (b,l')).map (·.1)=L.map (·.1):=by
   apply Df;intro j
   grind
  rw[this];exact H.nd
theorem again (H:aJ D G w0 w L):At (L.map (·.1)) w w L where
 fr:=Fr.refl _ w
 d_:=H.d_
 own:=λx a=> .inr (by grind)
 nd:=H.nd
 rV:=λa=>by grind
theorem join {b:List Nat} {L':List (Nat×List AG)} (H:aJ D G w0 w L) (d: ∀x∈b,x∈L.map (·.1)) (K:At b w w1 L'):aJ D G w0 w1 L':=by
 have g: ∀x∈b,w0.heap.size<=x\/x∈G:=λx a=>by
  have ⟨y,c,e⟩:=AZ.1 (d x a);rw[<-e];exact H.own y c
 refine H.frame K.fr g (λr h a=>?_) K.d_ (λx a=>?_) K.nd
 .have ⟨y,c,e⟩:=AZ.1 (d r a);exact dG (H.d_ y c) (H.rV r h).2 (by grind) e
 .rcases K.own x a with f|f
  .exact .inl (DS H.fr.size f)
  grind
theorem putObj (H:aJ D G w0 w L) {l:Nat} (h:w0.heap.size<=l) {o o':Obj} (d:w.heap[l]? =some o) (hc: ∀a t f,o≠ .cells a t f) (hd:l∉D):aJ D G w0 (w.putObj l o') L:=by
 refine⟨⟨H.fr.os,H.fr.tape,H.fr.output,by rw[putObj_size];grind,λk e g=>?_⟩,λx b=>(H.d_ x b).putObj (dG (H.d_ x b) d hc) _,H.own,H.nd,λr c=>⟨(H.rV r c).1,?_⟩⟩
 .rw[gM (by omega)];exact H.fr.block k e g
 .rw[gM (by grind)];exact(H.rV r c).2
end aJ
def pV (l:List AG) (o:Nat):(el:El)->Option el.T
 | .one s=>match l[o]? with
   |some v=>s.proj v
   |none=>none
 | .agg ss=>mU ss ((l.drop o).take ss.length)
theorem cK {w:A2} {b o:Nat} {l:List AG} (h:bq w b l) {el:El} {x:el.T} (a:pV l o el=some x):bP w (some ⟨b,o,none⟩) el x:=by
 cases el with
 |one=>
  simp[pV] at a;split at a
  .rename_i hv;exact h.mF (by rw[hv,Sc.jj a])
  grind
 |agg=>
  have e:=qq a;refine h.SA λhi=>?_
  grind
theorem ag.of {w:A2} {g:Option Bool} {p:Option AE} {el:El} {K:el.T->Prop} (x:el.T) (h:bP w p el x) (k:K x):ag w g p el K:=
 ⟨x,by cases g<;>first|exact h|exact λ_=>h,k⟩
theorem ax {b:Bool} {x y:Prop} (e:b=true) (h:x):aD b x y:=by grind[ab]
theorem an {b:Bool} {x y:Prop} (e:b=false) (h:y):aD b x y:=by grind[ab]
section
variable {D G:List Nat} {w0 w:A2} {L:List (Nat×List AG)}
theorem ag.at (i:Nat) (H:aJ D G w0 w L) {g:Option Bool} {el:El} {K:el.T->Prop} {b o:Nat} {l:List AG} {x:el.T} (a:L[i]? =some (b,l)) (hv:pV l o el=some x) (k:K x):ag w g (some ⟨b,o,none⟩) el K:=
 .of x (cK (H.get a) hv) k
theorem ag.bj (i:Nat) (H:aJ D G w0 w L) {g:Option Bool} {el:El} {K:el.T->Prop} {b o n:Nat} {l:List AG} {x:el.T} (a:L[i]? =some (b,l)) (hv:pV l (o+n) el=some x) (k:K x):ag w g (ad (some ⟨b,o,none⟩) n) el K:=by
 rw[aS];exact .at i H a hv k
theorem aH.go (H:aJ D G w0 w L) {cs:List AG} {e:Du} {K:Nat->A2->Prop} (k: ∀b w1,aJ D G w0 w1 ((b,cs)::L)->K b w1):aH w ⟨cs⟩ e K:=
 λ_ h=>k _ _ ((H.ext h).alloc cs e)
theorem aw.at (i:Nat) (H:aJ D G w0 w L) {b o:Nat} {l vs:List AG} {K:A2->Prop} (a:L[i]? =some (b,l)) (d:vs.all (·.oneCell')=true) (c:o+vs.length<=l.length)
 (k: ∀w1,aJ D G w0 w1 (L.set i (b,l.take o++(vs++l.drop (o+vs.length))))->K w1):aw w (some ⟨b,o,none⟩) vs K:=
 λ_ h=>⟨⟨d,((H.ext h).get a).st c⟩,k _ ((H.ext h).put i a vs c)⟩
theorem aw.all (i:Nat) (H:aJ D G w0 w L) {b:Nat} {l vs:List AG} {K:A2->Prop} (a:L[i]? =some (b,l)) (c:vs.all (·.oneCell')=true) (d:vs.length=l.length)
 (k: ∀w1,aJ D G w0 w1 (L.set i (b,vs))->K w1):aw w (some ⟨b,0,none⟩) vs K:=by
 refine aw.at i H a c (by omega) λw1 e=>k w1 ?_
 grind
theorem aw.one (i:Nat) (H:aJ D G w0 w L) {b o:Nat} {l:List AG} {x:AG} {K:A2->Prop} (c:L[i]? =some (b,l)) (d:x.oneCell'=true) (a:Nat.blt o l.length=true)
 (k: ∀w1,aJ D G w0 w1 (L.set i (b,l.set o x))->K w1):aw w (some ⟨b,o,none⟩) [x] K:=by
 have a:o<l.length:=by simp_all
 refine aw.at i H c (by grind) (by grind) λw1 e=>k w1 ?_;rw[show l.set o x=l.take o++([x]++l.drop (o+[x].length)) from by simp[K2,a]]
 grind
theorem aw.c_ (i:Nat) (H:aJ D G w0 w L) {b o n:Nat} {l:List AG} {x:AG} {K:A2->Prop} (a:L[i]? =some (b,l)) (c:x.oneCell'=true) (d:Nat.blt (o+n) l.length=true)
 (k: ∀w1,aJ D G w0 w1 (L.set i (b,l.set (o+n) x))->K w1):aw w (ad (some ⟨b,o,none⟩) n) [x] K:=by
 rw[aS];exact aw.one i H a c d k
theorem ak.go (H:aJ D G w0 w L) {K:A2->Prop} (k: ∀w1,aJ D G w0 w1 L->K w1):ak w K:=λ_ h=>k _ (H.ext h)
theorem aA.go (H:aJ D G w0 w L) {P:Cs} {f:Ct} {s:Sh} {args:List AG} {K:s.T->A2->Prop} (k: ∀w1,aJ D G w0 w1 L->aC P f s args w1 K):aA P f s args w K:=λ_ h=>k _ (H.ext h)
end
open Go.RowKit
variable {D G:List Nat} {w0 wb w w' w1:A2} {L Lb:List (Nat×List AG)}
theorem aJ.then (a:aJ D G w0 wb L) (H:At [] wb w Lb):aJ D G w0 w L:=a.ext H.all
theorem aJ.below (H:aJ D G w0 w []) (h:Below w0.heap.size w w') (c:w.heap.size<=w'.heap.size) (e:D=[]):aJ D G w0 w' [] where
 fr:=⟨h.os.trans H.fr.os,h.tape.trans H.fr.tape,h.output.trans H.fr.output,DS H.fr.size c,λk a d=>(h.block k a).trans (H.fr.block k a d)⟩
 d_:=λb=>by grind
 own:=λb=>by grind
 nd:=H8
 rV:=λb=>by grind
theorem At.VY (i:Nat) (c:At G w0 wb []) {e:El} {s:Option AE×Nat×Nat} {xs:List e.T} (f:kx w0 wb e s xs) (H:At [] wb w Lb)
 {b:Nat} {l:List AG} (x:e.T) (g:Lb[i]? =some (b,l)) (h:l=cellsOf e x) (j:lx e=true) {t:Du} {size bytes:Nat} {z:Array AG} (m:size=aM e) (n:z.size=aM e) (hb:(xs.length+1)*bytes<=140737488355328)
 {R:Option AE×Nat×Nat->A2->Prop} (k: ∀s' w',At G w0 w' []->kx w0 w' e s' (xs++[x])->R s' w'):
 nm w t size bytes z s (some ⟨b,0,none⟩,1,1) R:=by
 subst m;subst h;have a:=DS c.fr.size H.fr.size;have o:=(f.ext H.all).toN.of (Nat.le_of_eq (jx a));refine mB (ys:=[x]) o (qX a) j rfl ?_ n hb λs' w' p q _ d _=>k s' w' ((c.then H).below (Av a q d) d rfl) ?_
 .refine(H.get g).rS (aK e _) λr=>?_;simp[flat]
 .have:=p.toN;rw[jx a] at this;exact this
theorem ag.iQ (H:aJ D G w0 w L) {b o:Nat} {l:List AG} (h:bq w0 b l) (hb:b∉G) {g:Option Bool} {el:El} {K:el.T->Prop} {x:el.T} (hv:pV l o el=some x) (k:K x):ag w g (some ⟨b,o,none⟩) el K:=
 .of x (cK (H.iQ h hb) hv) k
theorem ag.g6 (H:aJ D G w0 w L) {b o n:Nat} {l:List AG} (h:bq w0 b l) (hb:b∉G) {g:Option Bool} {el:El} {K:el.T->Prop} {x:el.T} (hv:pV l (o+n) el=some x) (k:K x):ag w g (ad (some ⟨b,o,none⟩) n) el K:=by
 rw[aS];exact .iQ H h hb hv k
theorem kx.start (w0 w:A2) (e:El):kx w0 w e (none,0,0) []:=kx.nil w0 w e
theorem aJ.more (H:aJ D G w0 w L) (h:Ext w w') {b:Nat} {l:List AG} (hb:w.heap.size<=b) (k:bq w' b l):aJ D G w0 w' ((b,l)::L):=by
 have c:=H.ext h;refine⟨c.fr,λx a=>?_,λx a=>?_,?_,c.rV⟩
 .rcases B4.1 a with rfl|a
  .grind
  .exact c.d_ x a
 .rcases B4.1 a with rfl|a
  .exact .inl (DS H.fr.size hb)
  .exact c.own x a
 .refine B5.2 ⟨λd=>?_,H.nd⟩;have ⟨x,a,e⟩:=AZ.1 d;have:=(H.d_ x a).lt
  grind
theorem aJ.got (H:aJ D G w0 w L) (h:Ext w w') {e:El} {r:Option AE×Nat×Nat} {xs:List e.T} (a:kx w w' e r xs) (j:xs≠[]):
 ∃b c rest,r=(some ⟨b,0,none⟩,xs.length,c)/\aJ D G w0 w' ((b,flat e xs++rest)::L):=by
 have ⟨d,h2,f⟩:=a;have ⟨p,n,c⟩:=r;rcases f with ⟨⟩|⟨b,l,a1,g,k, _,i⟩
 grind
 .subst a1;subst d;refine⟨b,c,l.drop (xs.length*aM e),rfl,H.more h g ?_⟩;have el:l=flat e xs++l.drop (xs.length*aM e):=by rw[<-i,HB]
  grind
theorem im {α:Sort _} {e:α} {K:α->Prop} (k:K e): ∀x,x=e->K x:=by grind
def SZ (P:Cs) (c:Ct) (args:Nat->List AG) (n:Nat) (b:Nat->Option (List AG)) (d:A2->Prop):Prop:=
 ∀(y:Nat) (w:A2) (J:Nat->A2->Prop) (a:A2->Prop),
  (∀i w w',J i w->Ext w w'->J i w')->(∀w w',a w->Ext w w'->a w')->(∀i w,J i w->d w)->
  (∀i,i<n->b i=none-> ∀w,J i w->J (i+1) w)->
  (∀i v,i<n->b i=some v-> ∀w (R:Bool->A2->Prop),J i w->(∀w',J (i+1) w'->R true w')->(∀w',a w'->R false w')->nA P y v w R)->
  J 0 w->Calls P c ⟨args y⟩ w (λe w'=> ∃v,e= .returned v/\(J n w'\/a w'))
section
variable {D G:List Nat} {w0 w:A2} {L:List (Nat×List AG)}
def yq (D G:List Nat) (w0 w:A2) (L:List (Nat×List AG)) (l:Nat) (rec:Loop):Prop:=w0.heap.size<=l/\aJ D G w0 w L/\dt w l rec .ready none
def Zt (D G:List Nat) (w0 w:A2) (L:List (Nat×List AG)) (l:Nat) (rec:Loop):Prop:=w0.heap.size<=l/\aJ D G w0 w L/\dt w l rec .busy none
def WB (D G:List Nat) (w0 w:A2) (L:List (Nat×List AG)) (l:Nat) (rec:Loop) (j:Code):Prop:=w0.heap.size<=l/\aJ D G w0 w L/\dt w l rec .done (some j)
theorem s7 {l:Nat} {rec:Loop} {st:LoopState} {b:Option Code} (H:aJ D G w0 w L) (h:dt w l rec st b):l∉D/\l∉L.map (·.1):=by
 refine⟨λa=>?_,λa=>?_⟩
 .have:=(H.rV l a).2;rw[h] at this
  grind
 .have ⟨x,c,e⟩:=AZ.1 a;exact aJ.dG (H.d_ x c) h (by grind) e
theorem aJ.tx {l:Nat} {rec:Loop} {st:LoopState} {a:Option Code} (H:aJ D G w0 w L) (b:w0.heap.size<=l) (h:dt w l rec st a) (c:LoopState) (d:Option Code):aJ D G w0 (RX.tx w l rec c d) L:=
 H.putObj b h (by grind) (s7 H h).1
theorem De.go {l n m:Nat} {rec:Loop} {K:Prop} (h:yq D G w0 w L l rec) (a:n=m) (k:K):De l rec n m w K:=⟨⟨none,h.2.2⟩,a,k⟩
theorem B_.go {l:Nat} {rec:Loop} {K:A2->Prop} (h:yq D G w0 w L l rec) (k: ∀wb,At (L.map (·.1)) wb wb L->Zt D G w0 wb L l rec->K wb):B_ l rec w K:=λg b=>by
 have ⟨c,H,e⟩:=h;have f:=H.ext b;have a:=e.ext b;have d:=f.tx c a .busy none;exact⟨none,a,k _ d.again ⟨c,d,a.put _ _⟩⟩
theorem tj.go {l:Nat} {rec:Loop} {j:Option Code} {wb d:A2} {L':List (Nat×List AG)} {R:Bool->A2->Prop} (h:Zt D G w0 wb L l rec) (e:At (L.map (·.1)) wb d L')
 (k: ∀a,w0.heap.size<=l->aJ D G w0 a L'->dt a l rec (if j.isNone then .ready else .done) j->R j.isNone a):tj l rec j d R:=λa f=>by
 have ⟨g,H,b⟩:=h;have i:=(H.join (λx m=>m) e).ext f;have n:=b.same (e.fr.block l b.lt (s7 H b).2);have c:=n.ext f;exact⟨.busy,none,c,k _ g (i.tx g c _ _) (c.put _ _)⟩
theorem tj.next {l:Nat} {rec:Loop} {wb e:A2} {L':List (Nat×List AG)} {R:Bool->A2->Prop} (h:Zt D G w0 wb L l rec) (f:At (L.map (·.1)) wb e L') (k: ∀d,yq D G w0 d L' l rec->R true d):tj l rec none e R:=
 tj.go h f λd a b c=>k d ⟨a,b,c⟩
theorem tj.left {l:Nat} {rec:Loop} {j:Code} {wb e:A2} {L':List (Nat×List AG)} {R:Bool->A2->Prop} (h:Zt D G w0 wb L l rec) (f:At (L.map (·.1)) wb e L') (k: ∀d,WB D G w0 d L' l rec j->R false d):tj l rec (some j) e R:=
 tj.go h f λd a b c=>k d ⟨a,b,c⟩
theorem dX.none {l:Nat} {rec:Loop} {Kn Kr:A2->Prop} {Kx:Nat->A2->Prop} (h:yq D G w0 w L l rec) (k: ∀a,aJ D G w0 a L->Kn a):dX l rec w Kn Kx Kr:=
 ⟨.ready,.none,h.2.2,by simp,k _ (h.2.1.tx h.1 h.2.2 _ _)⟩
theorem dX.ret {l:Nat} {rec:Loop} {Kn Kr:A2->Prop} {Kx:Nat->A2->Prop} (h:WB D G w0 w L l rec .ret) (k: ∀a,aJ D G w0 a L->Kr a):dX l rec w Kn Kx Kr:=
 ⟨.done,.some _,h.2.2,by simp,k _ (h.2.1.tx h.1 h.2.2 _ _)⟩
theorem wN: ∀(m:Nat) (z:List AG) (i:Nat),i<m*z.length->(Dn m z).flatten[i]? =z[i % z.length]?
 |0,z,i,h=>by grind
 |m+1,z,i,h=>by
  rw[List.replicate_succ,List.flatten_cons];by_cases hi:i<z.length
  .rw[HD hi,M6 hi]
  .rw[HF (by omega),wN m z _ (by grind), <-Nat.mod_eq_sub_mod (by omega)]
theorem Gg (m:Nat) (z:List AG):oD ⟨z⟩ (m*z.length)=⟨(Dn m z).flatten⟩:=by
 have a:(Dn m z).flatten.length=m*z.length:=by simp
 apply Array.ext';apply Df;intro i;unfold oD;by_cases i<m*z.length
 .grind[wN]
 grind
theorem xG.go (H:aJ D G w0 w L) {bytes size:Nat} {n m:Int} {z:List AG} {e:Du} {K:Nat->A2->Prop} (a:size=z.length) (h0:0<=n) (c:n<=m) (h2:m<4611686018427387904) (d:bytes*m<=281474976710656)
 (k: ∀b w1,aJ D G w0 w1 ((b,(Dn m.toNat z).flatten)::L)->K b w1):xG w bytes size n m ⟨z⟩ e K:=λw1 h=>by
 refine⟨⟨h0,by omega⟩,?_⟩;rw[a,Gg];exact k _ _ ((H.ext h).alloc _ e)
theorem fX (e:El) (x:e.T) (m:Nat):flat e (Dn m x)=(Dn m (cellsOf e x)).flatten:=by
 simp[flat,List.flatMap_replicate]
theorem nm.copy (H:aJ D G w0 w L) {e:El} {ys:List e.T} {b n c:Nat} {l:List AG} (hb:bq w b l) (o:l.take (ys.length*aM e)=flat e ys) (d:n=ys.length) (p:ys≠[]) (f:lx e=true) {t:Du} {size bytes:Nat} {z:Array AG} (g:size=aM e) (h:z.size=aM e) (q:ys.length*bytes<=140737488355328)
 {R:Option AE×Nat×Nat->A2->Prop} (k: ∀a i rest w',aJ D G w0 w' ((a,flat e ys++rest)::L)->R (some ⟨a,0,none⟩,n,i) w'):
 nm w t size bytes z (none,0,0) (some ⟨b,0,none⟩,n,c) R:=by
 subst g;subst d;refine mB (kx.nil w w e) (Ext.refl w) f rfl ?_ h (by grind) λs' w' j m _=>?_
 .refine hb.rS (aK e ys) λhi=>?_
  grind
 .obtain:=H.got m j
  grind
theorem tq.go {r:Nat} {K:A2->Prop} (H:aJ [r] G w0 w L) (k: ∀w1,At G w0 w1 L->K w1):tq [r] w K:=λw1 h=>by
 have a:=H.ext h;have b:=a.rV r (by simp);refine⟨⟨b.2,trivial⟩,k _ ?_⟩;have c:At G w0 w1 L:=⟨a.fr,a.d_,a.own,a.nd,by simp⟩;exact c.putObj b.1 b.2 (by grind) (by simp)
theorem Aw.inv {P:Cs} {p:Ct} {args:Nat->List AG} {ps:Array Nat} {T:Type} {g:T->List AG} {q:Nat->Loop->T->A2->(Bool->A2->Prop)->Prop} {m:Nat->Loop->A2->Prop} (H:aJ D G w0 w L)
 {n:Nat} {f:Nat->Option (List AG)} {s:A2->Prop} (y:SZ P p args n f s) (Inv:Nat->List (Nat×List AG)->Prop) (Q:Code->List (Nat×List AG)->Prop) (h0:Inv 0 L)
 (z: ∀A i w' L',Inv i L'->aJ A G w0 w' L'->s w') (M: ∀i L',i<n->f i=none->Inv i L'->Inv (i+1) L') (N: ∀i v,i<n->f i=some v-> ∃x,v=g x)
 (O: ∀i x L',i<n->f i=some (g x)->Inv i L'-> ∀r l rec t (R:Bool->A2->Prop),yq (r::D) G w0 t L' l rec->(∀c w',Inv (i+1) c->yq (r::D) G w0 w' c l rec->R true w')->(∀j c w',Q j c->WB (r::D) G w0 w' c l rec j->R false w')->q l rec x t R)
 (S: ∀L' r rec d,Inv n L'->yq (r::D) G w0 d L' (r+1) rec->m r rec d) (hd: ∀j L' r rec d,Q j L'->WB (r::D) G w0 d L' (r+1) rec j->m r rec d):Aw P p args ps w g q m:=by
 intro w1 B rec _ _ C E U;have u:=H.ext B;have sz:(w1.alloc (.deferred (some []))).heap.size=w1.heap.size+1:=mA _ _;have F:rec={rec with state:= .ready,pending:= .none}:=by rw[<-C, <-E]
 have I:w0.heap.size<=w1.heap.size:=u.fr.size;have J:yq (w1.heap.size::D) G w0 ((w1.alloc (.deferred (some []))).alloc (.loop rec)) L (w1.heap.size+1) rec:=by
  refine⟨by omega,?_,?_⟩
  .have e:=(u.vJ (.deferred (some []))).vJ (.loop rec);refine⟨e.fr,e.d_,e.own,e.nd,λr o=>?_⟩;rcases B4.1 o with rfl|o
   .exact⟨I,(Ext.alloc _ _).obj (iy w1 _)⟩
   .exact e.rV r o
  .have:=iy (w1.alloc (.deferred (some []))) (.loop rec);rw[sz] at this;unfold dt;rw[this,F]
 refine Calls.mono (y _ _ (λi w'=> ∃L',Inv i L'/\yq (w1.heap.size::D) G w0 w' L' _ rec) (λw'=> ∃j L',Q j L'/\WB (w1.heap.size::D) G w0 w' L' (w1.heap.size+1) rec j) ?_ ?_ ?_ ?_ ?_ ⟨L,h0,J⟩) ?_
 .exact λi a b ⟨L',hi,h⟩ k=>⟨L',hi,h.1,h.2.1.ext k,h.2.2.ext k⟩
 .exact λa b ⟨j,L',K,h⟩ k=>⟨j,L',K,h.1,h.2.1.ext k,h.2.2.ext k⟩
 .exact λi a ⟨L',hi,h⟩=>z _ i a L' hi h.2.1
 .grind
 grind
 grind
theorem Aw.go {P:Cs} {e:Ct} {args:Nat->List AG} {ps:Array Nat} {T:Type} {c:T->List AG} {f:Nat->Loop->T->A2->(Bool->A2->Prop)->Prop} {d:Nat->Loop->A2->Prop} (H:aJ D G w0 w L)
 {n:Nat} {b:Nat->Option (List AG)} {g:A2->Prop} (k:SZ P e args n b g) (Ls:Nat->List (Nat×List AG)) (Q:Code->List (Nat×List AG)->Prop) (h0:Ls 0=L)
 (p: ∀m i w',aJ m G w0 w' (Ls i)->g w') (q: ∀i,i<n->b i=none->Ls (i+1)=Ls i) (o: ∀i v,i<n->b i=some v-> ∃x,v=c x)
 (s: ∀i x,i<n->b i=some (c x)-> ∀r l rec h (R:Bool->A2->Prop),yq (r::D) G w0 h (Ls i) l rec->(∀w',yq (r::D) G w0 w' (Ls (i+1)) l rec->R true w')->(∀j L' w',Q j L'->WB (r::D) G w0 w' L' l rec j->R false w')->f l rec x h R)
 (t: ∀r rec a,yq (r::D) G w0 a (Ls n) (r+1) rec->d r rec a) (hd: ∀j L' r rec a,Q j L'->WB (r::D) G w0 a L' (r+1) rec j->d r rec a):Aw P e args ps w c f d:=
 Aw.inv H k (λi L'=>L'=Ls i) Q h0.symm (by grind) (by grind) o
  (by grind) (by grind) hd
theorem aJ.aa1 (H:aJ D G w0 w L) {b:Nat} (hb:b<w0.heap.size) (d:b∉G):b∉L.map (·.1):=λa=>by
 have ⟨x,c,e⟩:=AZ.1 a;rcases H.own x c
 grind
 grind
theorem aJ.gC {wb w1:A2} {L':List (Nat×List AG)} (H:aJ D G w0 wb L) (K:At (L.map (·.1)) wb w1 L') {b:Nat} {l:List AG} (h:bq w0 b l) (a:b∉G):bq w1 b l:=
 K.iQ (H.iQ h a) (H.aa1 h.lt a)
theorem At.mn {b:Nat} {l:List AG} (h:bq w b l):At [b] w w [(b,l)] where
 fr:=Fr.refl _ w
 d_:=λa=>by grind
 own:=λx a=> .inr (by grind)
 nd:=by simp
 rV:=λa=>by grind
theorem dK {w:A2} {b:Nat} {e:El} {xs:List e.T} {rest:List AG} (h:bq w b (flat e xs++rest)) {i:Nat} {x:e.T} (a:xs[i]? =some x):bP w (ad (some ⟨b,0,none⟩) (i*aM e)) e x:=
 (Sl.jR h (by simp[aK]) i x a).2
theorem uh (e:El): ∀(xs:List e.T) (i:Nat) (y:e.T) (rest:List AG),i<xs.length->(flat e xs++rest).take (i*aM e)++(cellsOf e y++(flat e xs++rest).drop (i*aM e+(cellsOf e y).length))=flat e (xs.set i y)++rest
 |x::xs,0,y,rest, _=>by
  simp[flat];rw[dT, <-dT,List.drop_left]
 |x::xs,i+1,y,rest,h=>by
  have a:=uh e xs i y rest (by grind);have b:(i+1)*aM e=(cellsOf e x).length+i*aM e:=by rw[dT,I8];omega
  simp[flat] at a ⊢;rw[b,List.take_length_add_append,DB,Nat.add_assoc,List.drop_length_add_append,a]
theorem aw.flat (j:Nat) (H:aJ D G w0 w L) {b i:Nat} {e:El} {xs:List e.T} {rest vs:List AG} (y:e.T) {K:A2->Prop} (a:L[j]? =some (b,RX.flat e xs++rest)) (hv:vs=cellsOf e y) (c:lx e=true) (hi:i<xs.length)
 (k: ∀w1,aJ D G w0 w1 (L.set j (b,RX.flat e (xs.set i y)++rest))->K w1):aw w (ad (some ⟨b,0,none⟩) (i*aM e)) vs K:=by
 rw[aS,B2];subst hv;refine aw.at j H a ?_ ?_ λw1 d=>k w1 ?_
 .have:=kR e [y] c;simpa[RX.flat]
 .rw[dT,FA,aK];have:(i+1)*aM e<=xs.length*aM e:=Nat.mul_le_mul_right _ hi
  grind
 .rw[uh e xs i y rest hi] at d;grind
theorem aA.tC (H:aJ D G w0 w L) (j:Nat) {b:Nat} {l l':List AG} (c:L[j]? =some (b,l)) {P:Cs} {f:Ct} {s:Sh} {args:List AG} {v:s.T} {K:s.T->A2->Prop}
 (hc: ∀w1,aJ D G w0 w1 L->aC P f s args w1 (λx w'=>x=v/\bq w' b l'/\Fr [b] w1 w')) (k: ∀a,aJ D G w0 a (L.set j (b,l'))->K v a):aA P f s args w K:=λw1 h=>
 (hc w1 (H.ext h)).mono λx a ⟨d,hb,e⟩=>by subst d;exact k a ((H.ext h).mod j c e hb)
theorem aA.val (H:aJ D G w0 w L) {P:Cs} {f:Ct} {s:Sh} {args:List AG} (v:s.T) {K:s.T->A2->Prop}
 (hc: ∀w1,aJ D G w0 w1 L->aC P f s args w1 (λx w'=>x=v/\Ext w1 w')) (k: ∀a,aJ D G w0 a L->K v a):aA P f s args w K:=λw1 h=>
 (hc w1 (H.ext h)).mono λx a ⟨b,c⟩=>by subst b;exact k a ((H.ext h).ext c)
theorem ai.of {P:Cs} {f:Ct} {s:Sh} {args:List AG} {v:s.T} (h: ∀w',Ext w w'->aC P f s args w' (λx a=>x=v/\Ext w' a)):ai P f args w (s.g9 v):=
 λw' b=>a7 (h w' b)
theorem aJ.grow {e:El} {s:Option AE×Nat×Nat} {xs:List e.T} {x:e.T} {b:Nat} {Ls L0:List (Nat×List AG)} (H:aJ D G w0 w ((b,cellsOf e x)::(Ls++L0)))
 (q:(s=(none,0,0)/\xs=[]/\Ls=[])\/ ∃bs c rest,s=(some ⟨bs,0,none⟩,xs.length,c)/\Ls=[(bs,flat e xs++rest)]/\(flat e xs++rest).length=c*aM e/\xs.length<=c)
 (Q:lx e=true) {t:Du} {size bytes:Nat} {z:Array AG} (v:size=aM e) (S:z.size=aM e) (hb:(xs.length+1)*bytes<=140737488355328)
 {R:Option AE×Nat×Nat->A2->Prop} (k: ∀bs c rest w',(flat e (xs++[x])++rest).length=c*aM e->xs.length+1<=c->aJ D G w0 w' ((bs,flat e (xs++[x])++rest)::L0)->R (some ⟨bs,0,none⟩,xs.length+1,c) w'):
 nm w t size bytes z s (some ⟨b,0,none⟩,1,1) R:=by
 subst v;have U:(wC 0 w).heap.size=0:=jx (FC _);have V:kx (wC 0 w) w e s xs:=by
  rcases q with ⟨rfl,rfl, _⟩|⟨bs,c,rest,rfl,rfl,m,h2⟩
  .exact kx.nil _ _ _
  .refine⟨rfl,h2,.inr ⟨bs, _,rfl,by rw[U];exact FC _,H.get (i:=1) rfl,m,?_⟩⟩;rw[HH (by rw[aK];exact H4 _),HQ (by rw[aK];exact H4 _)]
 have W:bq w b (cellsOf e x):=H.get (i:=0) rfl;refine mB (ys:=[x]) V (qX (FC _)) Q rfl ?_ S hb λs' w' X g J v hd=>?_
 .refine W.rS (aK e [x]) λj hj=>?_;simp[flat]
 .have ⟨p,n,c⟩:=s';have ⟨m,h2,K⟩:=X;simp only at m h2 K hd;have Y:(xs++[x]).length=xs.length+1:=by simp
  rcases K with ⟨_,Z, _⟩|⟨bs,l,a1, _,a3,a4,a5⟩
  .simp at Z
  .subst a1;rw[Y] at m h2;subst m;have el:l=flat e (xs++[x])++l.drop ((xs++[x]).length*aM e):=by rw[<-a5,HB]
   refine k bs c (l.drop ((xs++[x]).length*aM e)) w' (by rw[<-el];exact a4) h2 ?_;rw[<-el];have hG': ∃B,Fr B w w'/\(∀y∈B,y∈Ls.map (·.1)):=by
    rcases q with ⟨rfl, _,rfl⟩|⟨C,co,L,rfl,rfl, _, _⟩
    .exact⟨[],⟨g.os,g.tape,g.output,v,λy d _=>J y d (λa E=>by cases E)⟩,λy d=>by cases d⟩
    .exact⟨[C],⟨g.os,g.tape,g.output,v,λy d hn=>J y d (λa E=>by cases E;simpa using hn)⟩,λy d=>by simpa using d⟩
   have ⟨B,M,N⟩:=hG';have F:=H.nd;simp only[DC,Fh,B5,Fm,E4] at F;have O: ∀y∈Ls.map (·.1),w0.heap.size<=y\/y∈G:=λy d=>by
    obtain⟨u,o,rfl⟩:=AZ.1 d;exact H.own u (B3 _ (FB _ o))
   have P:bs∈Ls.map (·.1)\/w.heap.size<=bs:=by
    rcases hd with ⟨a,f,A⟩|⟨a,f,A⟩|f
    .cases f;rcases q with ⟨rfl, _, _⟩|⟨C,co,L,rfl,rfl, _, _⟩
     .cases A
     .cases A;exact .inl (by simp)
    .cases f;exact .inr A
    .rcases q with ⟨rfl, _, _⟩|⟨C,co,L,rfl,rfl, _, _⟩
     .cases f
     grind
   refine H.frame M (λy d=>O y (N y d)) (λr hr d=>?_) (λy d=>?_) (λy d=>?_) ?_
   .have ⟨u,o,f⟩:=AZ.1 (N r d);exact aJ.dG (H.d_ u (B3 _ (FB _ o))) (H.rV r hr).2 (λ_ _ _ hc=>by cases hc) f
   .rcases B4.1 d with rfl|d
    .exact a3
    .refine M.d_ (λI=>?_) (H.d_ y (B3 _ (Dl _ d)))
     grind
   .rcases B4.1 d with rfl|d
    .rcases P with h|h
     .exact O _ h
     .exact .inl (DS H.fr.size h)
    .exact H.own y (B3 _ (Dl _ d))
   .refine B5.2 ⟨λI=>?_,F.2.2.1⟩;rcases P with h|h
    .exact F.2.2.2 bs h bs I rfl
    .have ⟨u,o,f⟩:=AZ.1 I;have:=(H.d_ u (B3 _ (Dl _ o))).lt;simp only at f h;omega
def ia (e:El) (rows:List (Nat×List AG)) (r:Option AE×Nat×Nat) (xs:List e.T):Prop:=
 r.2.1=xs.length/\((xs=[]/\rows=[])\/ ∃b rest,r.1=some ⟨b,0,none⟩/\rows=[(b,RX.flat e xs++rest)])
theorem aJ.S3 {w':A2} (H:aJ D G w0 w L) (h:Ext w w') {e:El} {r:Option AE×Nat×Nat} {xs:List e.T} (a:kx w w' e r xs): ∃rows,aJ D G w0 w' (L++rows)/\ia e rows r xs:=by
 by_cases d:xs=[]
 .exact⟨[],by rw[HY];exact H.ext h,a.len,by grind⟩
 .obtain⟨b,c,rest,rfl,f⟩:=H.got h a d;exact⟨[(b,RX.flat e xs++rest)],f.perm (List.perm_append_singleton _ _),rfl,by simp⟩
theorem ia.sl {e:El} {rows:List (Nat×List AG)} {r:Option AE×Nat×Nat} {xs:List e.T} (h:ia e rows r xs) (H:aJ D G w0 w L) (a: ∀x∈rows,x∈L):Sl w e r.1 xs:=by
 rcases h.2 with ⟨rfl, _⟩|⟨b,rest,c,rfl⟩
 .intro;grind
 .rw[c];refine Sl.jR (H.d_ _ (a _ (Dm.2 rfl))) ?_;rw[HH (by rw[aK];simp),HQ (by rw[aK];simp)]
theorem aA.M7 (H:aJ D G w0 w L) {P:Cs} {f:Ct} {args:List AG} {e:El} {xs:List e.T} {K:(Option AE×Nat×Nat)->A2->Prop}
 (hc: ∀w',aJ D G w0 w' L->aC P f (.el (.one .slice)) args w' (λr a=>kx w' a e r xs/\Ext w' a)) (k: ∀r rows w1,aJ D G w0 w1 (L++rows)->ia e rows r xs->K r w1):
 aA P f (.el (.one .slice)) args w K:=λw1 h=>(hc w1 (H.ext h)).mono λx d ⟨b,c⟩=>by
 obtain:=(H.ext h).S3 c b
 grind
end
def NC (o:Obj):Prop:= ∀a t f,o≠ .cells a t f
def Ob (l:Nat) (w w':A2):Prop:= ∀r o,r≠l->NC o->w.heap[r]? =some o->w'.heap[r]? =some o
theorem Ob.trans {l:Nat} {a b c:A2} (h:Ob l a b) (k:Ob l b c):Ob l a c:=λr o d e f=>k r o d e (h r o d e f)
theorem Ob.vI {l:Nat} {a b:A2} (h:Ext a b):Ob l a b:=λ_ _ _ _ c=>h.obj c
theorem Ob.put (l:Nat) (w:A2) (o:Obj):Ob l w (w.putObj l o):=λr o' a _ b=>by rw[gM a];grind
structure JK {T:Type} (bm:Nat) (mc:List AG->Prop) (J:List T->List (Nat×List AG)->List (Nat×Obj)->A2->Prop):Prop where
 step: ∀{a X O w w' l' Y},J a X O w->Fr [bm] w w'->bq w' bm l'->mc l'->(∀y∈Y,w.heap.size<=y.1/\bq w' y.1 y.2)->(Y.map (·.1)).Nodup->J a (Y++X) O w'
 mem: ∀{a X O w},J a X O w-> ∃l,mc l/\bq w bm l
 d_: ∀{a X O w x},J a X O w->x∈X->x.1≠bm/\bq w x.1 x.2
 obj: ∀{a X O w r o},J a X O w->(r,o)∈O->w.heap[r]? =some o
 alO: ∀{a X O w o},J a X O w->NC o->J a X ((w.heap.size,o)::O) (w.alloc o)
 Zv: ∀{a X O w r o o'},J a X ((r,o)::O) w->NC o'->J a X ((r,o')::O) (w.putObj r o')
 sub: ∀{a X O X' O' w},J a X O w->(∀x∈X',x∈X)->O'.Sublist O->J a X' O' w
 perm: ∀{a X O O' w},J a X O w->O'.Perm O->J a X O' w
def Yd {T:Type} (P:Cs) (y:Nat) (b:T->List AG) (N:Nat) (J:List T->List (Nat×List AG)->List (Nat×Obj)->A2->Prop):Prop:=
 ∀a x X O w (R:Bool->A2->Prop),a.length<N->J a X O w->(∀w',J (a++[x]) X O w'->R true w')->nA P y (b x) w R
def ItJ {T:Type} (P:Cs) (b:Ct) (args:Nat->List AG) (c:T->List AG) (N bm:Nat) (mc:List AG->Prop) (d:List (Nat×List AG)) (xs:List T):Prop:=
 ∀(y:Nat) (J:List T->List (Nat×List AG)->List (Nat×Obj)->A2->Prop),JK bm mc J->Yd P y c N J-> ∀a X O w,a.length+xs.length<=N->(∀x∈d,x∈X)->J a X O w->
  Calls P b ⟨args y⟩ w (λe w'=> ∃v,e= .returned v/\J (a++xs) X O w')
section
variable {T:Type} {bm:Nat} {mc:List AG->Prop} {J:List T->List (Nat×List AG)->List (Nat×Obj)->A2->Prop} {a:List T} {X:List (Nat×List AG)} {O:List (Nat×Obj)} {w w':A2}
theorem JK.ext (K:JK bm mc J) (j:J a X O w) (h:Ext w w'):J a X O w':=by
 have ⟨l,b,h2⟩:=K.mem j;exact K.step (Y:=[]) j (.vI h) (h2.ext h) b (by grind) (by grind)
theorem JK.tL (K:JK bm mc J) (j:J a X O w) {Y:List (Nat×List AG)} {l':List AG} (H:At [bm] w w' (Y++[(bm,l')])) (c:mc l'):J a (Y++X) O w':=by
 have b:=H.nd;rw[Fh,Fm] at b;refine K.step j H.fr (H.d_ (bm,l') (by simp)) c (λy d=>⟨?_,H.d_ y (by grind)⟩) b.1;rcases H.own y (by grind)
 .grind
 grind
theorem JK.at0 (K:JK bm mc J) (j:J a X O w): ∃l,mc l/\At [bm] w w [(bm,l)]:=by
 have ⟨l,b,h2⟩:=K.mem j;exact⟨l,b,At.mn h2⟩
theorem JK.close (K:JK bm mc J): ∀(D:List Nat) {w:A2},J a X (D.map (λr=>(r,Obj.deferred (some [])))++O) w->Dz D w/\J a X O (nF D w)
 |[], _,j=>⟨trivial,j⟩
 |r::D,w,j=>by
  have h:=K.obj j (r:=r) (o:= .deferred (some [])) (by simp);have b:=K.Zv (o':= .deferred none) j λ_=>by grind
  have ⟨c,h2⟩:=K.close D (K.sub b (λ_ h=>h) (B1 _ _));exact⟨⟨h,c⟩,h2⟩
theorem JK.tq (K:JK bm mc J) (D:List Nat) (j:J a X (D.map (λr=>(r,Obj.deferred (some [])))++O) w) {Q:A2->Prop} (k: ∀w1,J a X O w1->Q w1):tq D w Q:=λw1 b=>by
 obtain:=K.close D (K.ext j b)
 grind
abbrev MC (rec:Loop):Obj:= .loop {rec with state:= .ready,pending:=none}
abbrev lpB (rec:Loop):Obj:= .loop {rec with state:= .busy,pending:=none}
theorem HT (rec:Loop) (st:LoopState) (a:Option Code):NC (.loop {rec with state:=st,pending:=a}):=λe=>by grind
theorem De.WG (K:JK bm mc J) {l n m:Nat} {rec:Loop} (j:J a X ((l,MC rec)::O) w) {Q:Prop} (b:n=m) (k:Q):De l rec n m w Q:=⟨⟨none,K.obj j (by simp)⟩,b,k⟩
theorem B_.WG (K:JK bm mc J) {l:Nat} {rec:Loop} (j:J a X ((l,MC rec)::O) w) {Q:A2->Prop} (k: ∀wb,J a X ((l,lpB rec)::O) wb->Q wb):B_ l rec w Q:=λd c=>by
 have b:=K.ext j c;exact⟨none,K.obj b (by simp),k _ (K.Zv b (HT rec _ _))⟩
theorem tj.WG (K:JK bm mc J) {l:Nat} {rec:Loop} (j:J a X ((l,lpB rec)::O) w) {R:Bool->A2->Prop} (k: ∀b,J a X ((l,MC rec)::O) b->R true b):tj l rec none w R:=λe d=>by
 have c:=K.ext j d;exact⟨.busy,none,K.obj c (by simp),k _ (K.Zv c (HT rec _ _))⟩
theorem dX.WG (K:JK bm mc J) {l:Nat} {rec:Loop} (j:J a X ((l,MC rec)::O) w) {Kn Kr:A2->Prop} {Kx:Nat->A2->Prop} (k: ∀b,J a X O b->Kn b):dX l rec w Kn Kx Kr:=
 ⟨.ready,.none,K.obj j (by simp),by simp,k _ (K.sub (K.Zv j (HT rec _ _)) (λ_ h=>h) (by grind))⟩
end
section
variable {D G:List Nat} {w0 w:A2} {L:List (Nat×List AG)}
theorem B_.goO {l:Nat} {rec:Loop} {K:A2->Prop} (h:yq D G w0 w L l rec) (k: ∀wb,At (L.map (·.1)) wb wb L->Zt D G w0 wb L l rec->Ob l w wb->K wb):B_ l rec w K:=λg a=>by
 have ⟨c,H,e⟩:=h;have f:=H.ext a;have b:=e.ext a;have d:=f.tx c b .busy none;exact⟨none,b,k _ d.again ⟨c,d,b.put _ _⟩ ((Ob.vI a).trans (Ob.put _ _ _))⟩
theorem Ob.tL {l:Nat} {wb a:A2} {L':List (Nat×List AG)} (H:aJ D G w0 wb L) (c:At (L.map (·.1)) wb a L'):Ob l wb a:=λr o _ d b=>by
 rw[c.fr.block r (FS.1 b).1 λf=>?_]
 .grind
 .have ⟨x,g,e⟩:=AZ.1 f;exact aJ.dG (H.d_ x g) b d e
theorem tj.iR {l:Nat} {rec:Loop} {wb f:A2} {L':List (Nat×List AG)} {R:Bool->A2->Prop} (h:Zt D G w0 wb L l rec) (b:At (L.map (·.1)) wb f L') (k: ∀a,yq D G w0 a L' l rec->Ob l wb a->R true a):tj l rec none f R:=λa c=>by
 have ⟨g,H,d⟩:=h;have i:=(H.join (λx j=>j) b).ext c;have m:=d.same (b.fr.block l d.lt (s7 H d).2);have e:=m.ext c;exact⟨.busy,none,e,k _ ⟨g,i.tx g e _ _,e.put _ _⟩ (((Ob.tL H b).trans (Ob.vI c)).trans (Ob.put _ _ _))⟩
theorem Aw.M8 {T:Type} {P:Cs} {ja:Ct} {args:Nat->List AG} {ps:Array Nat} {em:T->List AG} {Rd:Nat->Loop->T->A2->(Bool->A2->Prop)->Prop} {Af:Nat->Loop->A2->Prop} {N bm:Nat} {mc:List AG->Prop} {X0:List (Nat×List AG)} {xs:List T}
 {I:List AG} {Zw Lb:List (Nat×List AG)} (H:aJ D G w0 w (Zw++((bm,I)::Lb))) (hm0:mc I) (It:ItJ P ja args em N bm mc X0 xs) (hX: ∀x∈X0,x∈Lb) (hN:xs.length<=N) (C:List T->List (Nat×List AG)->Prop) (h0:C [] Zw)
 (yL: ∀b x c Z r l rec p (R:Bool->A2->Prop),b.length<N->C b c->yq (r::D) G w0 p (c++Z) l rec->(∀M w',C (b++[x]) M->yq (r::D) G w0 w' (M++Z) l rec->Ob l p w'->R true w')->Rd l rec x p R)
 (haf: ∀r rec Q l' c,mc l'->C xs c->yq (r::D) G w0 Q (c++((bm,l')::Lb)) (r+1) rec->Af r rec Q):Aw P ja args ps w em Rd Af:=by
 intro w1 t rec _ _ EW Wu qh;have H1:=H.ext t;have sz:(w1.alloc (.deferred (some []))).heap.size=w1.heap.size+1:=mA _ _;have AJ:rec={rec with state:= .ready,pending:= .none}:=by rw[<-EW, <-Wu]
 have nL:w0.heap.size<=w1.heap.size:=H1.fr.size;have hW:yq (w1.heap.size::D) G w0 ((w1.alloc (.deferred (some []))).alloc (.loop rec)) (Zw++((bm,I)::Lb)) (w1.heap.size+1) rec:=by
  refine⟨by omega,?_,?_⟩
  .have E:=(H1.vJ (.deferred (some []))).vJ (.loop rec);refine⟨E.fr,E.d_,E.own,E.nd,λr d=>?_⟩;rcases B4.1 d with rfl|d
   .exact⟨nL,(Ext.alloc _ _).obj (iy w1 _)⟩
   .exact E.rV r d
  .have:=iy (w1.alloc (.deferred (some []))) (.loop rec);rw[sz] at this;unfold dt;rw[this, <-AJ]
 generalize hR:w1.heap.size=rr at*
 let J:List T->List (Nat×List AG)->List (Nat×Obj)->A2->Prop:=λb X O w'=> ∃l' c Y,mc l'/\C b c/\yq (rr::D) G w0 w' (c++((bm,l')::(Y++Lb))) (rr+1) rec/\(∀x∈X,x∈Y++Lb)/\(∀x∈O,w'.heap[x.1]? =some x.2/\NC x.2/\w0.heap.size<=x.1/\x.1≠rr+1/\x.1∉rr::D)/\(O.map (·.1)).Nodup
 have K:JK bm mc J:=by
  refine⟨?_,?_,?_,?_,?_,?_,?_,?_⟩
  .rintro b X O j p l2 u ⟨l',c,Y,hm,g,⟨t,h2,q⟩,a,f,i⟩ S hb hl hy hyn;have y:(bm,l')∈c++((bm,l')::(Y++Lb)):=by simp
   have gC: ∀x∈c++(Y++Lb),bq p x.1 x.2/\x.1<j.heap.size:=λx a=>by
    have Cb:x∈c++((bm,l')::(Y++Lb)):=by
     rcases E4.1 a with h|h
     .exact FB _ h
     .exact Dl _ (B3 _ h)
    have hk:=h2.d_ x Cb;refine⟨S.d_ ?_ hk,hk.lt⟩;intro hc;rw[Dm] at hc;have A:=h2.nd;have s:((bm,l')::(c++(Y++Lb))).Perm (c++((bm,l')::(Y++Lb))):=Fz.symm;have B:=((s.map (·.1)).nodup_iff).2 A;rw[DC,B5] at B;exact B.1 (AZ.2 ⟨x,a,hc⟩)
   refine⟨l2,c,u++Y,hl,g,⟨t,?_,?_⟩,λx k=>?_,λx k=>?_,i⟩
   .have A:=h2.nd;have s:((bm,l')::(c++(Y++Lb))).Perm (c++((bm,l')::(Y++Lb))):=Fz.symm;have B:=((s.map (·.1)).nodup_iff).2 A;have Db:((bm,l2)::(u++(c++(Y++Lb)))).Perm (c++((bm,l2)::(u++Y++Lb))):=by
     refine MJ (List.Perm.cons _ ?_) Fz.symm;rw[DB, <-DB u c, <-DB c u];exact Hb.append_right _
    refine aJ.perm (L:=(bm,l2)::(u++(c++(Y++Lb)))) ?_ Db.symm;refine h2.frame S (λx a=>?_) (λr d a=>?_) (λx a=>?_) (λx a=>?_) ?_
    .rw[Dm.1 a];exact h2.own (bm,l') y
    .rw[Dm] at a;exact aJ.dG (h2.d_ (bm,l') y) (h2.rV r d).2 (λ_ _ _ hc=>by cases hc) a.symm
    .rcases B4.1 a with rfl|a
     .exact hb
     .rcases E4.1 a with a|a
      .exact(hy x a).2
      .exact(gC x a).1
    .rcases B4.1 a with rfl|a
     .exact h2.own (bm,l') y
     .rcases E4.1 a with a|a
      .exact .inl (DS h2.fr.size (hy x a).1)
      .refine h2.own x ?_;rcases E4.1 a with h|h
       .exact FB _ h
       .exact Dl _ (B3 _ h)
    .rw[DC,B5] at B;rw[DC,Fh,B5,Fm];have fresh: ∀x∈u, ∀z,z<j.heap.size->x.1≠z:=λx a z hz e=>by
      have:=(hy x a).1;omega
     refine⟨λhm=>?_,hyn,B.2,λx a z hz e=>?_⟩
     .rcases E4.1 hm with hm|hm
      .have ⟨x,a,e⟩:=AZ.1 hm;exact fresh x a bm (h2.d_ (bm,l') y).lt e
      .exact B.1 hm
     .have ⟨x1,ym,e1⟩:=AZ.1 a;have ⟨z1,WH,e2⟩:=AZ.1 hz;exact fresh x1 ym z1.1 (gC z1 WH).2 (by rw[e1,e2,e])
   .refine q.same (S.block _ q.lt (λhc=>?_));rw[Dm] at hc;exact aJ.dG (h2.d_ (bm,l') y) q (λ_ _ _ hc=>by cases hc) hc.symm
   grind
   .have ⟨m,n,F⟩:=f x k;refine⟨?_,n,F⟩;rw[S.block x.1 (FS.1 m).1 (λhc=>?_)]
    .exact m
    .rw[Dm] at hc;exact aJ.dG (h2.d_ (bm,l') y) m n hc.symm
  .rintro b X O j ⟨l',c,Y,hm,g,d,a,f,i⟩;exact⟨l',hm,d.2.1.d_ (bm,l') (by simp)⟩
  .rintro b X O j x ⟨l',c,Y,hm,g,d,a,f,i⟩ k;have s:((bm,l')::(c++(Y++Lb))).Perm (c++((bm,l')::(Y++Lb))):=Fz.symm;have h2:=d.2.1.perm s;have U:x∈c++(Y++Lb):=Dl _ (a x k);refine⟨λe=>?_,h2.d_ x (B3 _ U)⟩;have A:=h2.nd;rw[DC,B5] at A;exact A.1 (AZ.2 ⟨x,U,e⟩)
  .rintro b X O j r o ⟨l',c,Y,hm,g,d,a,f,i⟩ U;exact(f (r,o) U).1
  .rintro b X O j o ⟨l',c,Y,hm,g,⟨t,h2,q⟩,a,f,i⟩ ZQ;have V:=Ext.alloc j o;refine⟨l',c,Y,hm,g,⟨t,h2.vJ o,q.ext V⟩,a,λx k=>?_,?_⟩
   .rcases B4.1 k with rfl|k
    .refine⟨iy j o,ZQ,h2.fr.size,λe=>?_,λhc=>?_⟩
     .have:=q.lt;simp only at e;omega
     .have:=(FS.1 (h2.rV _ hc).2).1;simp only at this;omega
    .have ⟨m,n⟩:=f x k;exact⟨V.obj m,n⟩
   .rw[DC,B5];refine⟨λhc=>?_,i⟩;have ⟨x,k,e⟩:=AZ.1 hc;have:=(FS.1 (f x k).1).1;simp only at e;omega
  .rintro b X O j r o o' ⟨l',c,Y,hm,g,⟨t,h2,q⟩,a,f,i⟩ ZQ;have ⟨m,n,F,W,o5⟩:=f (r,o) List.mem_cons_self;rw[DC,B5] at i;refine⟨l',c,Y,hm,g,⟨t,h2.putObj F m n o5,?_⟩,a,λx k=>?_,?_⟩
   .unfold dt;rw[gM (λe=>W e.symm)];exact q
   .grind[k7,B3,gM]
   .rw[DC,B5];exact i
  .rintro b X O X' O' j ⟨l',c,Y,hm,g,d,a,f,i⟩ hs hO;exact⟨l',c,Y,hm,g,d,λx h=>a x (hs x h),λx h=>f x (hO.subset h),(hO.map _).nodup i⟩
  .rintro b X O O' j ⟨l',c,Y,hm,g,d,a,f,i⟩ s;exact⟨l',c,Y,hm,g,d,a,λx h=>f x (s.subset h),(s.map _).nodup_iff.2 i⟩
 have Y:Yd P (rr+1) em N J:=by
  rintro b x X O p R hb ⟨l',c,Y,hm,g,d,a,f,i⟩ hR;refine qh x p R (yL b x c _ rr (rr+1) rec p R hb g d λM w' vt I6 hO=>hR w' ⟨l',M,Y,hm,vt,I6,a,λx h=>?_,i⟩);have ⟨m,n,F,W,o5⟩:=f x h;exact⟨hO _ _ W n m,n,F,W,o5⟩
 refine Calls.mono (It (rr+1) J K Y [] Lb [] _ (by simpa using hN) hX ⟨I,Zw,[],hm0,h0,hW,λx h=>h,λx h=>(by cases h),H8⟩) ?_;rintro e Q ⟨v,V,l',c,Y,hm,g,d,a,f,i⟩;refine⟨v,V,haf rr rec Q l' c hm g ⟨d.1,d.2.1.sub ?_,d.2.2⟩⟩;exact List.Sublist.append (List.Sublist.refl _) (List.Sublist.cons_cons _ (List.sublist_append_right _ _))
end
end Go.RX
namespace Go.Proofs.YteeflilbnoknnaaGreat
set_option maxRecDepth 100000
open Go.RX
abbrev sG:List Sc:=[aG,aG,aG,.bool,aG]
abbrev eG:El:= .agg sG
abbrev GT:Type:=Int×Int×Int×Bool×Int×Unit
def zG:GT:=(0,0,0,false,0,())
def gG (n:Int):Bool:=decide (n>=1)&&decide (n<=16)
def mP (o p t:Int) (b:Bool) (u:Int):Bool:=decide (((o,p,t,b,u,()):GT)=zG)
noncomputable def G0:fa AC:={C3 with wx:=false}
theorem Jy (n:Int) (w:A2) (a:Bool->A2->Prop):(aL G0 (λ_=>[]) 171 [aa n] w a)=(
 ak w (a (decide (n>=1)&&decide (n<=16)))):=by kernel_rfl
theorem OS (o p t:Int) (b:Bool) (u:Int) (w:A2) (a:Bool->A2->Prop):(aL G0 (λ_=>[]) 173 [.agg ⟨[aa o,aa p,aa t,.bool b,aa u]⟩] w a)=(
 aH w ⟨[aa o,aa p,aa t,.bool b,aa u]⟩ 308 λb c=>ag c none (ae b) (.agg [aG,aG,aG,.bool,aG]) λ(x:Int×Int×Int×Bool×Int×Unit)=>ak c λw1=>a (x.1==0&&(x.2.1==0&&(x.2.2.1==0&&(x.2.2.2.1==false&&(x.2.2.2.2.1==0&&true))))) w1):=by kernel_rfl
theorem Jz (n:Int) (w:A2):aC AC 171 gD [aa n] w (λx w'=>x=gG n/\Ext w w'):=by
 refine aj (C:=G0) (AR (Jy n w _) ?_);have H:=At.start [] w
 repeat' (first
  |exact Go.RX.aJ.all H
  |exact Fe (by first|rfl|decide+kernel) (Go.RX.aJ.all H)
  |refine Fe (by first|exact rfl|exact trivial|exact λ_=>rfl|exact λ_=>trivial|exact⟨rfl,by decide,by decide⟩|exact⟨by decide,by decide⟩|decide+kernel|exact λ_=>by decide|exact λ_=>⟨rfl,by decide,by decide⟩|(dsimp only[Hr,Hz];exact⟨rfl,by decide,by decide⟩)) ?_
  |refine ag.bj 0 H rfl rfl ?_
  |refine ag.bj 1 H rfl rfl ?_
  |refine ag.at 0 H rfl rfl ?_
  |refine ag.at 1 H rfl rfl ?_
  |refine aH.go H λb w1 H=>?_
  |refine aw.all 0 H rfl rfl rfl λw1 H=>?_
  |refine aw.all 1 H rfl rfl rfl λw1 H=>?_
  |refine aw.c_ 0 H rfl rfl rfl λw1 H=>?_
  |refine aw.c_ 1 H rfl rfl rfl λw1 H=>?_
  |refine aw.one 0 H rfl rfl rfl λw1 H=>?_
  |refine aw.one 1 H rfl rfl rfl λw1 H=>?_
  |with_reducible refine ak.go H λw1 H=>?_
  |refine im ?_
  |refine ax (by assumption) ?_
  |refine an (by assumption) ?_
  |refine ab (λc=>?_) (λc=>?_))
theorem OT (o p t:Int) (b:Bool) (u:Int) (w:A2):aC AC 173 gD [.agg ⟨[aa o,aa p,aa t,.bool b,aa u]⟩] w (λx w'=>x=mP o p t b u/\Ext w w'):=by
 refine aj (C:=G0) (AR (OS o p t b u w _) ?_);have H:=At.start [] w;refine aH.go H λb1 a H=>ag.at 0 H rfl rfl (ak.go H λc H=>⟨?_,H.all⟩);unfold mP zG;rw[H6];simp
noncomputable def Tx:Entry AC where
 f:=171
 fn l:=match l with
  |[.int .i64 a]=>some (True,.bool (gG a))
  | _=>none
 ok args pre v h b w:=by
  split at h
  .rename_i a;cases h;exact a7 (Jz a w)
  .cases h
noncomputable def Yf:Entry AC where
 f:=173
 fn l:=match l with
  |[.agg ⟨[.int .i64 o,.int .i64 p,.int .i64 t,.bool b,.int .i64 u]⟩]=>some (True,.bool (mP o p t b u))
  | _=>none
 ok args pre v h a w:=by
  split at h
  .rename_i o p t b u;cases h;exact a7 (OT o p t b u w)
  .cases h
noncomputable def G3:fa AC:={G0 with oW:=[Tx,Yf],quiet:=[170,293,296,283],sh:=[(87,.el cr)]}
noncomputable def G4:fa AC:={G3 with cl:=[(183,.vk 172 3)]}
theorem JA (p:Option AE) (w:A2) (a:Bool->A2->Prop):(aL G3 (λ_=>[]) 170 [ah p] w a)=(
 ((!p.isNone)=true->p.isSome=true)/\((!p.isNone)=true->p.isSome=true)/\ag w (some !p.isNone) (ad p 0) bX λx=>ak w λw1=>a (!p.isNone&&decide ((↑x.2.1:Int)>0)) w1):=by kernel_rfl
theorem Yg (p:Option AE) (i:Int) (w:A2) (b:Option AE×Int×Unit->A2->Prop):(aL G3 (λ_=>[]) 293 [ah p,aa i] w b)=(
 ∃x,ai AC 170 [ah p] w (.bool x)/\aD (!x) (ak w (b (none,10,()))) (((!decide (i<0))=true->p.isSome=true)/\((!decide (i<0))=true->p.isSome=true)/\ag w (some !decide (i<0)) (ad p 0) bX λx=>((!(decide (i<0)||decide (i>=(↑x.2.1:Int))))=true->p.isSome=true)/\((!(decide (i<0)||decide (i>=(↑x.2.1:Int))))=true->p.isSome=true)/\ag w (some !(decide (i<0)||decide (i>=(↑x.2.1:Int)))) (ad p 0) bX λc=>((!(decide (i<0)||decide (i>=(↑x.2.1:Int))))=true->c.1.isSome=true/\0<=i/\i<
 (↑c.2.1:Int))/\ag w (some !(decide (i<0)||decide (i>=(↑x.2.1:Int)))) (ad c.1 (i.toNat*5)) (.agg [aG,aG,aG,.bool,aG]) λ(a:Int×Int×Int×Bool×Int×Unit)=>((!(decide (i<0)||decide (i>=(↑x.2.1:Int))))=true->True)/\aD (decide (i<0)||decide (i>=(↑x.2.1:Int))||mP a.1 a.2.1 a.2.2.1 a.2.2.2.1 a.2.2.2.2.1) (ak w (b (none,4,()))) (bD p 0 w λx=>(x.1.isSome=true/\0<=i/\i<(↑x.2.1:Int))/\ak w (b (ad x.1 (i.toNat*5),0,()))))):=by kernel_rfl
theorem OU (o q t:Int) (b:Bool) (u:Int) (c:Option AE) (w:A2) (d:Bool->A2->Prop):(aL G3 (λ_=>[]) 296 [.agg ⟨[aa o,aa q,aa t,.bool b,aa u]⟩,ah c] w d)=(
 aH w ⟨[aa o,aa q,aa t,.bool b,aa u]⟩ 308 λb a=>ag a none c (.agg [aG,aG,aG,.bool,aG]) λ(x:Int×Int×Int×Bool×Int×Unit)=>true=true/\aN a (ad (ae b) 0) λe=>true=true/\aN a (ad (ae b) 1) λf=>true=true/\aN a (ad (ae b) 2) λg=>ak a λw1=>d (x.1==e&&(x.2.1==f&&(x.2.2.1==g&&(x.2.2.2.1==false&&(x.2.2.2.2.1==0&&true))))) w1):=by kernel_rfl
theorem JB (o q t:Int) (b:Bool) (u:Int) (c:Option AE) (w:A2) (f:Bool->A2->Prop):(aL G3 (λ_=>[]) 283 [.agg ⟨[aa o,aa q,aa t,.bool b,aa u]⟩,ah c] w f)=(
 aH w ⟨[aa o,aa q,aa t,.bool b,aa u]⟩ 308 λb a=>ag a none (ae b) (.agg [aG,aG,aG,.bool,aG]) λ(x:Int×Int×Int×Bool×Int×Unit)=>True/\((!mP x.1 x.2.1 x.2.2.1 x.2.2.2.1 x.2.2.2.2.1)=true->true=true)/\ag a (some !mP x.1 x.2.1 x.2.2.1 x.2.2.2.1 x.2.2.2.2.1) (ad (ae b) 0) aq λ(d:Int)=>ag a (some !mP x.1 x.2.1 x.2.2.1 x.2.2.2.1 x.2.2.2.2.1) c aq λ(e:Int)=>((!mP x.1 x.2.1 x.2.2.1 x.2.2.2.1 x.2.2.2.2.1&& !d==e)=true->true=true)/\ag a (some (!mP x.1
 x.2.1 x.2.2.1 x.2.2.2.1 x.2.2.2.2.1&& !d==e)) (ad (ae b) 2) aq λ(g:Int)=>ag a (some (!mP x.1 x.2.1 x.2.2.1 x.2.2.2.1 x.2.2.2.2.1&& !d==e)) c aq λ(h:Int)=>ak a (f (!mP x.1 x.2.1 x.2.2.1 x.2.2.2.1 x.2.2.2.2.1&&(d==e||g==h)))):=by kernel_rfl
def r_:Nat->aW:=(λ|5=>[(5,Go.RX.El.one Go.RX.Sc.slice),(16,Go.RX.El.one (Go.RX.Sc.int AU))]| _=>[])
theorem JC (p:Option AE) (w:A2) (e:Option AE×Nat×Nat->A2->Prop):(aL G3 r_ 282 [ah p,.func (.func 173) #[] #[]] w e)=(
 ∃x,ai AC 170 [ah p] w (.bool x)/\aD (!x) (ak w (e (none,0,0))) (bD p 0 w λx=> ∃(I:Nat->(Option AE×Nat×Nat)×Int×Unit->A2->Prop),(∃n, ∀w1,Ext w w1->I n ((none,0,0),0,()) w1)/\ ∀(n:Nat) (s:(Option AE×Nat×Nat)×Int×Unit) (w1:A2),I n s w1->aD (decide (s.2.1<(↑x.2.1:Int))) ((x.1.isSome=true/\0<=s.2.1/\s.2.1<(↑x.2.1:Int))/\ag w1 none (ad x.1 (C9 s.2.1*5)) (.agg [aG,aG,aG,.bool,aG]) λ(x:Int×Int×Int×Bool×Int×Unit)=>aH w1 ⟨[aa 0,
 aa 0,aa 0,.bool false,aa 0]⟩ 308 λb a=>aw a (ae b) [aa x.1,aa x.2.1,aa x.2.2.1,.bool x.2.2.2.1,aa x.2.2.2.2.1] λa=>ag a none (ae b) (.agg [aG,aG,aG,.bool,aG]) λ(x:Int×Int×Int×Bool×Int×Unit)=>True/\aD (mP x.1 x.2.1 x.2.2.1 x.2.2.2.1 x.2.2.2.2.1) (aH a ⟨[aa s.2.1]⟩ 3 λb a=> ∀w1,Ext a w1->nm w1 3 1 8 ⟨[aa 0]⟩ (s.1.1,s.1.2.1,s.1.2.2) (some ⟨b,0,none⟩,1,1) λ(r:Option AE×Nat×Nat) a=> ∀c,Ext a c-> ∃(d:Nat),d<n/\I d
 ((r.1,r.2.1,r.2.2),ay .i64 s.2.1 1,()) c) (∀c,Ext a c-> ∃(d:Nat),d<n/\I d ((s.1.1,s.1.2.1,s.1.2.2),ay .i64 s.2.1 1,()) c)) (ak w1 (e (s.1.1,s.1.2.1,s.1.2.2))))):=by kernel_rfl
def sa:Nat->aW:=(λ|5=>[(5,Go.RX.El.one Go.RX.Sc.slice),(16,Go.RX.El.one (Go.RX.Sc.int AU))]| _=>[])
theorem JD (p c:Option AE) (w:A2) (f:Option AE×Nat×Nat->A2->Prop):(aL G3 sa 282 [ah p,.func (.func 296) #[] #[ah c]] w f)=(
 ∃x,ai AC 170 [ah p] w (.bool x)/\aD (!x) (ak w (f (none,0,0))) (bD p 0 w λx=> ∃(I:Nat->(Option AE×Nat×Nat)×Int×Unit->A2->Prop),(∃n, ∀w1,Ext w w1->I n ((none,0,0),0,()) w1)/\ ∀(n:Nat) (s:(Option AE×Nat×Nat)×Int×Unit) (w1:A2),I n s w1->aD (decide (s.2.1<(↑x.2.1:Int))) ((x.1.isSome=true/\0<=s.2.1/\s.2.1<(↑x.2.1:Int))/\ag w1 none (ad x.1 (C9 s.2.1*5)) (.agg [aG,aG,aG,.bool,aG]) λ(x:Int×Int×Int×Bool×Int×Unit)=>aH w1 ⟨[aa 0,
 aa 0,aa 0,.bool false,aa 0]⟩ 308 λb a=>aw a (ae b) [aa x.1,aa x.2.1,aa x.2.2.1,.bool x.2.2.2.1,aa x.2.2.2.2.1] λa=>ag a none (ae b) (.agg [aG,aG,aG,.bool,aG]) λ(x:Int×Int×Int×Bool×Int×Unit)=> ∃g,ai AC 296 [.agg ⟨[aa x.1,aa x.2.1,aa x.2.2.1,.bool x.2.2.2.1,aa x.2.2.2.2.1]⟩,ah c] a (.bool g)/\aD g (aH a ⟨[aa s.2.1]⟩ 3 λb a=> ∀w1,Ext a w1->nm w1 3 1 8 ⟨[aa 0]⟩ (s.1.1,s.1.2.1,s.1.2.2)
 (some ⟨b,0,none⟩,1,1) λ(r:Option AE×Nat×Nat) a=> ∀d,Ext a d-> ∃(e:Nat),e<n/\I e ((r.1,r.2.1,r.2.2),ay .i64 s.2.1 1,()) d) (∀d,Ext a d-> ∃(e:Nat),e<n/\I e ((s.1.1,s.1.2.1,s.1.2.2),ay .i64 s.2.1 1,()) d)) (ak w1 (f (s.1.1,s.1.2.1,s.1.2.2))))):=by kernel_rfl
def sd:Nat->aW:=(λ|5=>[(5,Go.RX.El.one Go.RX.Sc.slice),(16,Go.RX.El.one (Go.RX.Sc.int AU))]| _=>[])
theorem JE (p c:Option AE) (w:A2) (f:Option AE×Nat×Nat->A2->Prop):(aL G3 sd 282 [ah p,.func (.func 283) #[] #[ah c]] w f)=(
 ∃x,ai AC 170 [ah p] w (.bool x)/\aD (!x) (ak w (f (none,0,0))) (bD p 0 w λx=> ∃(I:Nat->(Option AE×Nat×Nat)×Int×Unit->A2->Prop),(∃n, ∀w1,Ext w w1->I n ((none,0,0),0,()) w1)/\ ∀(n:Nat) (s:(Option AE×Nat×Nat)×Int×Unit) (w1:A2),I n s w1->aD (decide (s.2.1<(↑x.2.1:Int))) ((x.1.isSome=true/\0<=s.2.1/\s.2.1<(↑x.2.1:Int))/\ag w1 none (ad x.1 (C9 s.2.1*5)) (.agg [aG,aG,aG,.bool,aG]) λ(x:Int×Int×Int×Bool×Int×Unit)=>aH w1 ⟨[aa 0,
 aa 0,aa 0,.bool false,aa 0]⟩ 308 λb a=>aw a (ae b) [aa x.1,aa x.2.1,aa x.2.2.1,.bool x.2.2.2.1,aa x.2.2.2.2.1] λa=>ag a none (ae b) (.agg [aG,aG,aG,.bool,aG]) λ(x:Int×Int×Int×Bool×Int×Unit)=> ∃g,ai AC 283 [.agg ⟨[aa x.1,aa x.2.1,aa x.2.2.1,.bool x.2.2.2.1,aa x.2.2.2.2.1]⟩,ah c] a (.bool g)/\aD g (aH a ⟨[aa s.2.1]⟩ 3 λb a=> ∀w1,Ext a w1->nm w1 3 1 8 ⟨[aa 0]⟩ (s.1.1,s.1.2.1,s.1.2.2)
 (some ⟨b,0,none⟩,1,1) λ(r:Option AE×Nat×Nat) a=> ∀d,Ext a d-> ∃(e:Nat),e<n/\I e ((r.1,r.2.1,r.2.2),ay .i64 s.2.1 1,()) d) (∀d,Ext a d-> ∃(e:Nat),e<n/\I e ((s.1.1,s.1.2.1,s.1.2.2),ay .i64 s.2.1 1,()) d)) (ak w1 (f (s.1.1,s.1.2.1,s.1.2.2))))):=by kernel_rfl
theorem JF (p:Option AE) (o q t:Int) (b:Bool) (w:A2) (c:Int×Int×Unit->A2->Prop):(aL G3 (λ_=>[]) 223 [ah p,aa o,aa q,aa t,.bool b] w c)=(
 ∃x,ai AC 170 [ah p] w (.bool x)/\aD (!x) (ak w (c (0,10,()))) (True/\((!!gG o)=true->True)/\aD (!gG o|| !gG t||o==t||decide (q<0)||decide (q>=65536)) (ak w (c (0,1,()))) (aH w ⟨[aa 0,aa 0,aa 0,.bool false,aa 0]⟩ 308 λe a=>aw a (ae e) [aa o,aa q,aa t,.bool false,aa 0] λa=>aA AC 282 di [ah p,.func (.func 296) ⟨[]⟩ {toList:=[ah (ae e)]}] a λx a=>aD (decide ((↑x.2.1:Int)>0)) (ak a (c (0,5,
 ()))) (aA AC 282 di [ah p,.func (.func 173) ⟨[]⟩ ⟨[]⟩] a λx a=>aD ((↑x.2.1:Int)==0) (ak a (c (0,3,()))) (true=true/\aw a (ad (ae e) 3) [.bool b] λa=>bD p 0 a λf=>(x.1.isSome=true/\(0:Int)<=0/\0<(↑x.2.1:Int))/\aN a (ad x.1 0) λg=>ag a none (ae e) (.agg [aG,aG,aG,.bool,aG]) λ(d:Int×Int×Int×Bool×Int×Unit)=>(f.1.isSome=true/\0<=g/\g<(↑f.2.1:Int))/\aw a (ad f.1 (g.toNat*5)) [aa d.1,aa d.2.1,
 aa d.2.2.1,.bool d.2.2.2.1,aa d.2.2.2.2.1] λa=>(x.1.isSome=true/\(0:Int)<=0/\0<(↑x.2.1:Int))/\aN a (ad x.1 0) λx=>ak a (c (x,0,()))))))):=by kernel_rfl
theorem Yh (p:Option AE) (i:Int) (w:A2) (c:GT×Bool×Unit->A2->Prop):(bO G3 (λ_=>[]) 218 [ah p,aa i] w c)=(
 aH w ⟨[aa 0,aa 0,aa 0,.bool false,aa 0]⟩ 308 λb a=> ∃(x:Option AE×Int×Unit),ai AC 293 [ah p,aa i] a (.tuple ⟨[ah x.1,aa x.2.1]⟩)/\aD (x.2.1 != 0) (aw a (ae b) [aa 0,aa 0,aa 0,.bool false,aa 0] λa=>ak a λw1=>ag w1 none (ae b) (.agg [aG,aG,aG,.bool,aG]) λ(x:Int×Int×Int×Bool×Int×Unit)=>c ((x.1,x.2.1,x.2.2.1,x.2.2.2.1,x.2.2.2.2.1,()),false,()) w1) (x.1.isSome=true/\ag a none x.1
 (.agg [aG,aG,aG,.bool,aG]) λ(x:Int×Int×Int×Bool×Int×Unit)=>aw a (ae b) [aa x.1,aa x.2.1,aa x.2.2.1,.bool x.2.2.2.1,aa x.2.2.2.2.1] λa=>ak a λw1=>ag w1 none (ae b) (.agg [aG,aG,aG,.bool,aG]) λ(x:Int×Int×Int×Bool×Int×Unit)=>c ((x.1,x.2.1,x.2.2.1,x.2.2.2.1,x.2.2.2.2.1,()),true,()) w1)):=by kernel_rfl
theorem OV (p:Option AE) (i g:Int) (b:Bool) (w:A2) (a:Int->A2->Prop):(aL G3 (λ_=>[]) 224 [ah p,aa i,aa g,.bool b] w a)=(
 ∃(x:Option AE×Int×Unit),ai AC 293 [ah p,aa i] w (.tuple ⟨[ah x.1,aa x.2.1]⟩)/\aD (x.2.1 != 0) (ak w (a x.2.1)) (dw x.1 2 w λc=>((!c != g&&b)=true->x.1.isSome=true)/\((!c != g&&b)=true->x.1.isSome=true)/\ag w (some (!c != g&&b)) (ad x.1 3) cr λd=>aD (c != g||b&& !d) (ak w (a 7)) (dw x.1 4 w λe=>aD (e==1000) (ak w (a 3)) (dw x.1 4 w λf=>x.1.isSome=true/\x.1.isSome=true/\aw w (ad x.1 4) [aa (ay .i64 f 1)] λh=>ak h (a 0))))):=by kernel_rfl
theorem OW (p:Option AE) (i g:Int) (w:A2) (a:Int->A2->Prop):(aL G3 (λ_=>[]) 225 [ah p,aa i,aa g] w a)=(
 ∃(x:Option AE×Int×Unit),ai AC 293 [ah p,aa i] w (.tuple ⟨[ah x.1,aa x.2.1]⟩)/\aD (x.2.1 != 0) (ak w (a x.2.1)) (dw x.1 2 w λb=>aD (b != g) (ak w (a 7)) (dw x.1 4 w λc=>aD (c==0) (ak w (a 6)) (dw x.1 4 w λd=>x.1.isSome=true/\x.1.isSome=true/\aw w (ad x.1 4) [aa (aR .i64 d 1)] λe=>ak e (a 0))))):=by kernel_rfl
theorem Gj (p:Option AE) (i o:Int) (w:A2) (a:Int->A2->Prop):(aL G3 (λ_=>[]) 227 [ah p,aa i,aa o] w a)=(
 ∃(x:Option AE×Int×Unit),ai AC 293 [ah p,aa i] w (.tuple ⟨[ah x.1,aa x.2.1]⟩)/\aD (x.2.1 != 0) (ak w (a x.2.1)) (dw x.1 0 w λb=>aD (b != o) (ak w (a 7)) (dw x.1 4 w λc=>aD (decide (c>0)) (ak w (a 9)) (x.1.isSome=true/\aw w x.1 [aa 0,aa 0,aa 0,.bool false,aa 0] λd=>ak d (a 0))))):=by kernel_rfl
def uM:Nat->aW:=(λ|3=>[(13,Go.RX.El.one (Go.RX.Sc.int AU))]| _=>[])
theorem OX (p:Option AE) (g:Int) (w:A2) (d:Int->A2->Prop):(aL G3 uM 208 [ah p,aa g] w d)=(
 aH w ⟨[aa g]⟩ 3 λb a=>aA AC 282 di [ah p,.func (.func 283) ⟨[]⟩ {toList:=[ah (ae b)]}] a λx a=> ∃(I:Nat->Int×Unit->A2->Prop),(∃n, ∀w1,Ext a w1->I n (0,()) w1)/\ ∀(n:Nat) (s:Int×Unit) (w1:A2),I n s w1->aD (decide (s.1<(↑x.2.1:Int))) ((x.1.isSome=true/\0<=s.1/\s.1<(↑x.2.1:Int))/\aN w1 (ad x.1 (C9 s.1*1)) λx=>bD p 0 w1 λc=>(c.1.isSome=true/\0<=x/\x<(↑c.2.1:Int))/\aw w1 (ad c.1 (x.toNat*5)) [aa 0,aa 0,aa 0,.bool false,
 aa 0] λa=> ∀e,Ext a e-> ∃(f:Nat),f<n/\I f (ay .i64 s.1 1,()) e) (ak w1 (d (↑x.2.1:Int)))):=by kernel_rfl
theorem Gl (p:Option AE) (a b:Int) (w:A2) (e:Bool->A2->Prop):(aL G4 (λ_=>[]) 87 [ah p,aa a,aa b] w e)=(
 aH w ⟨[ah p]⟩ 126 λg c=>eJ c (ae g) λx=> ∃d,ai AC 170 [ah x] c (.bool d)/\((!!d)=true->True)/\((!(!d|| !gG a))=true->True)/\aD (!d|| !gG a|| !gG b) (ak c (e false)) (aH c {toList:=[.bool false,.bool false,.bool false,.bool false,.bool false,.bool false,.bool false,.bool false,.bool false,.bool false,.bool false,.bool false,.bool false,.bool false,.bool false,.bool false,.bool false]} 182 λh c=>aH c ⟨[H7]⟩ 183 λf c=>aw c (ae f) [.func (.func 172) ⟨[]⟩ {toList:=[.pointer
 (ae h),ah (ae g),ah (ae f)]}] λc=>ag c none (ae f) (.one (.vk 172 3)) λx=>aA AC 172 (.bu []) [aa a,ah x.1,ah x.2.1,ah x.2.2.1] c λx c=>(true=true/\0<=b/\b<(↑17:Int))/\jc c (ad (ae h) (b.toNat*1)) λx=>ak c (e x))):=by kernel_rfl
def lB:Nat->aW:=(λ|3=>[(17,Go.RX.El.one (Go.RX.Sc.int AU))]| _=>[])
theorem wO (n:Int) (c d e:Option AE) (w:A2) (i:Unit->A2->Prop):(aL G4 lB 172 [aa n,ah c,ah d,ah e] w i)=(
 (c.isSome=true/\0<=n/\n<(↑17:Int))/\jc w (ad c (n.toNat*1)) λx=>aD x (ak w (i ())) ((c.isSome=true/\0<=n/\n<(↑17:Int))/\aw w (ad c (n.toNat*1)) [.bool true] λa=>eJ a d λx=>bD x 0 a λx=> ∃(I:Nat->Int×Unit->A2->Prop),(∃n, ∀w1,Ext a w1->I n (0,()) w1)/\ ∀(h:Nat) (s:Int×Unit) (w1:A2),I h s w1->aD (decide (s.1<(↑x.2.1:Int))) ((x.1.isSome=true/\0<=s.1/\s.1<(↑x.2.1:Int))/\ag w1 none (ad x.1 (C9 s.1*5)) (.agg [aG,aG,aG,.bool,aG])
 λ(x:Int×Int×Int×Bool×Int×Unit)=>aH w1 ⟨[aa 0,aa 0,aa 0,.bool false,aa 0]⟩ 308 λb a=>aw a (ae b) [aa x.1,aa x.2.1,aa x.2.2.1,.bool x.2.2.2.1,aa x.2.2.2.2.1] λa=>ag a none (ae b) (.agg [aG,aG,aG,.bool,aG]) λ(x:Int×Int×Int×Bool×Int×Unit)=>True/\aD (mP x.1 x.2.1 x.2.2.1 x.2.2.2.1 x.2.2.2.2.1) (∀f,Ext a f-> ∃(g:Nat),g<h/\I g (ay .i64 s.1 1,()) f) (true=true/\aN a (ad (ae b) 0) λx=>aD (x==n) (ag a
 none e (.one (.vk 172 3)) λx=>true=true/\aN a (ad (ae b) 2) λj=>aA AC 172 (.bu []) [aa j,ah x.1,ah x.2.1,ah x.2.2.1] a λx a=> ∀f,Ext a f-> ∃(g:Nat),g<h/\I g (ay .i64 s.1 1,()) f) (true=true/\aN a (ad (ae b) 2) λx=>aD (x==n) (ag a none e (.one (.vk 172 3)) λx=>true=true/\aN a (ad (ae b) 0) λj=>aA AC 172 (.bu []) [aa j,ah x.1,ah x.2.1,ah x.2.2.1] a λx a=> ∀f,Ext a f-> ∃(g:Nat),g<h/\I g (ay .i64 s.1
 1,()) f) (∀f,Ext a f-> ∃(g:Nat),g<h/\I g (ay .i64 s.1 1,()) f)))) (ak w1 (i ())))):=by kernel_rfl
theorem Ty (n:Int) (w:A2) (a:Option AE×Int×Unit->A2->Prop):(aL G3 (λ_=>[]) 55 [aa n] w a)=(
 aD (decide (n<1)||decide (n>64)) (ak w (a (none,1,()))) (xG w 40 5 n n ⟨[aa 0,aa 0,aa 0,.bool false,aa 0]⟩ 308 λb c=>aH c {toList:=[.slice (ae b) n.toNat n.toNat]} 260 λb c=>ak c (a (some ⟨b,0,none⟩,0,())))):=by kernel_rfl
theorem Bq {lo sz:Int} (h:c8 lo sz=true):lo.toNat+sz.toNat<=64/\1<=sz.toNat:=by
 have:=iM.1 h;omega
theorem OY {w:BitVec 64} {lo sz:Int} (h:c8 lo sz=true):(ew w lo sz).toNat=w.toNat / 2 ^ lo.toNat % 2 ^ sz.toNat:=by
 have a:=Bq h;apply M9;intro j;rw[Ff,Ik h,sO (by omega),I_,Nat.testBit_div_two_pow,Ff,Nat.add_comm j,J3]
theorem OZ {w v:BitVec 64} {lo sz:Int} (h:c8 lo sz=true) (b:w.toNat<2 ^ lo.toNat):(tB w lo sz v).toNat=2 ^ lo.toNat*(v.toNat % 2 ^ sz.toNat)+w.toNat:=by
 have e:=Bq h;apply M9;intro j;rw[Ff,Tp h,Nat.testBit_two_pow_mul_add _ b];by_cases d:j<64
 .rw[X5 (by omega) d];by_cases c:j<lo.toNat
  .rw[if_neg (by omega),if_pos c,Ff]
  .rw[if_neg c,I_,Ff];by_cases h2:j<lo.toNat+sz.toNat
   .rw[if_pos (by omega)];have:j - lo.toNat<sz.toNat:=by omega
    simp[this]
   .rw[if_neg (by omega)];have a: ¬ j - lo.toNat<sz.toNat:=by omega
    simp only[a,decide_false,MF];rw[<-Ff];exact Nat.testBit_lt_two_pow (I1 b (Nat.pow_le_pow_right (by decide) (by omega)))
 .rw[BitVec.getLsbD_of_ge _ _ (by omega),if_neg (by omega),I_];have a: ¬ j - lo.toNat<sz.toNat:=by omega
  simp[a]
theorem aa2 (b:BitVec 64):U b=(b.toNat:Int):=rfl
theorem xO {b:BitVec 64} {n:Nat} (h:b.toNat=n):U b=(n:Int):=by rw[aa2,h]
def bB (b:Bool):BitVec 64:=if b then 1#64 else 0#64
def nB (b:Bool):Nat:=if b then 1 else 0
theorem NR (b:Bool):(bB b).toNat=nB b:=by cases b<;>rfl
theorem DD (b:Bool):nB b<=1:=by cases b<;>decide
theorem qm {w v:BitVec 64} {lo sz:Int} {a n:Nat} (c:c8 lo sz=true) (b:w.toNat=a) (d:a<2 ^ lo.toNat) (hv:v.toNat=n) (e:n<2 ^ sz.toNat):(tB w lo sz v).toNat=2 ^ lo.toNat*n+a:=by
 rw[OZ c (by rw[b];exact d),hv,b,M6 e]
theorem JG {p l:Bool} {r f:BitVec 64} {x y:Nat} (a:r.toNat=x) (i:x<8) (b:f.toNat=y) (j:y<4096):
 (rY 0#64 0 [(bB p,1),(r,3),(bB l,1),(0#64,7),(f,12)]).toNat=nB p+2*x+16*nB l+4096*y:=by
 have k:=DD p;have m:=DD l;simp only[rY];rw[if_pos (by decide),if_pos (by decide),if_pos (by decide),if_pos (by decide),if_pos (by decide)];have c:=qm (w:=0#64) (lo:=0) (sz:=1) rfl (rfl:(0#64).toNat=0) (by decide) (NR p) (by show nB p<2;omega);have d:=qm (lo:=0+1) (sz:=3) rfl c (by show 1*nB p+0<2;omega) a (by show x<8;omega);have e:=qm (lo:=0+1+3) (sz:=1) rfl d (by show 2*x+(1*nB p+0)<16;omega) (NR l) (by show nB l<2;omega);have g:=qm (lo:=0+1+3+1) (sz:=7) (v:=0#64) rfl e (by show 16*nB l+(2*x+(1*nB p+0))<32;omega) (rfl:(0#64).toNat=0) (by decide);have h:=qm (lo:=0+1+3+1+7) (sz:=12) rfl g (by show 32*0+(16*nB l+(2*x+(1*nB p+0)))<4096;omega) b (by show y<4096;omega);rw[h];show 4096*y+(32*0+(16*nB l+(2*x+(1*nB p+0))))= _;omega
theorem Gm (w:BitVec 64):nG w 0 [1,3,1,7,12,40]=some [ew w 0 1,ew w 1 3,ew w 4 1,ew w 5 7,ew w 12 12,ew w 24 40]:=by
 simp only[nG];rw[if_pos (by decide),if_pos (by decide),if_pos (by decide),if_pos (by decide),if_pos (by decide),if_pos (by decide)];rfl
theorem jW {w:BitVec 64} {lo sz:Int} (a b:Nat) (h:c8 lo sz=true) (c:2 ^ lo.toNat=a) (hb:2 ^ sz.toNat=b):(ew w lo sz).toNat=w.toNat / a % b:=by
 rw[OY h,c,hb]
noncomputable def D0:fa AC:={C3 with wx:=true}
theorem Tz (b:Bool) (w:A2) (a:Int->A2->Prop):(aL D0 (λ_=>[]) 365 [.bool b] w a)=(
 aD b (ak w (a 1)) (ak w (a 0))):=by kernel_rfl
theorem zv (p:Bool) (r:Int) (l:Bool) (f:Int) (w:A2) (d:Bool->A2->Prop):(aL D0 (λ_=>[]) 345 [.agg ⟨[.bool p,aa r,.bool l,aa f]⟩] w d)=(
 aH w ⟨[.bool p,aa r,.bool l,aa f]⟩ 301 λb a=>true=true/\jc a (ad (ae b) 0) λx=>aD (!x) (ag a none (ae b) fp λ(x:Bool×Int×Bool×Int×Unit)=>ak a λw1=>d (x.1==false&&(x.2.1==0&&(x.2.2.1==false&&(x.2.2.2.1==0&&true)))) w1) (true=true/\aN a (ad (ae b) 1) λx=>((!decide (x<0))=true->true=true)/\ag a (some !decide (x<0)) (ad (ae b) 1) aq λ(c:Int)=>((!(decide (x<0)||decide (c>7)))=true->true=true)/\ag a (some !(decide (x<0)||decide (c>7))) (ad (ae b) 3)
 aq λ(e:Int)=>((!(decide (x<0)||decide (c>7)||decide (e<0)))=true->true=true)/\ag a (some !(decide (x<0)||decide (c>7)||decide (e<0))) (ad (ae b) 3) aq λ(g:Int)=>aD (decide (x<0)||decide (c>7)||decide (e<0)||decide (g>=4096)) (ak a (d false)) (true=true/\aN a (ad (ae b) 1) λx=>((!decide (x>0))=true->true=true)/\ag a (some !decide (x>0)) (ad (ae b) 2) cr λh=>ak a (d (decide (x>0)|| !h))))):=by kernel_rfl
theorem vT (p:Bool) (r:Int) (l:Bool) (f:Int) (w:A2) (g:Bool->A2->Prop):(aL D0 (λ_=>[]) 330 [.agg ⟨[.bool p,aa r,.bool l,aa f]⟩] w g)=(
 aH w ⟨[.bool p,aa r,.bool l,aa f]⟩ 305 λb c=>true=true/\jc c (ad (ae b) 0) λx=>aD (!x) (true=true/\aN c (ad (ae b) 1) λx=>((x==0)=true->true=true)/\ag c (some (x==0)) (ad (ae b) 2) cr λa=>((x==0&& !a)=true->true=true)/\ag c (some (x==0&& !a)) (ad (ae b) 3) aq λ(d:Int)=>ak c (g (x==0&& !a&&d==0))) (true=true/\aN c (ad (ae b) 1) λx=>(decide (x>=0)=true->true=true)/\ag c (some (decide (x>=0))) (ad (ae b) 1) aq λ(a:Int)=>((decide (x>=
 0)&&decide (a<=7))=true->true=true)/\ag c (some (decide (x>=0)&&decide (a<=7))) (ad (ae b) 3) aq λ(d:Int)=>((decide (x>=0)&&decide (a<=7)&&decide (d>=0))=true->true=true)/\ag c (some (decide (x>=0)&&decide (a<=7)&&decide (d>=0))) (ad (ae b) 3) aq λ(e:Int)=>((decide (x>=0)&&decide (a<=7)&&decide (d>=0)&&decide (e<=4095))=true->true=true)/\ag c (some (decide (x>=0)&&decide (a<=7)&&decide (d>=0)&&decide (e<=4095))) (ad (ae b) 2) cr λh=>((decide (x>=0)&&decide (a<=
 7)&&decide (d>=0)&&decide (e<=4095)&& !!h)=true->true=true)/\ag c (some (decide (x>=0)&&decide (a<=7)&&decide (d>=0)&&decide (e<=4095)&& !!h)) (ad (ae b) 1) aq λ(i:Int)=>ak c λw1=>g (decide (x>=0)&&decide (a<=7)&&decide (d>=0)&&decide (e<=4095)&&(!h||decide (i>0))) w1)):=by kernel_rfl
theorem TA (x:Int) (w:A2) (a:Int->A2->Prop):(aL D0 (λ_=>[]) 253 [aa x] w a)=(
 aD (decide (x<0)||decide (x>=4)) (ak w (a 0)) (∀(b:Int),b=dk .i64 4 x->0<=b/\ ∀(x:Int),x=Di .i64 1 b->ak w (a x))):=by kernel_rfl
theorem O0 (x:Int) (w:A2) (a:Int->A2->Prop):(aL D0 (λ_=>[]) 343 [aa x] w a)=(
 aD (decide (x<0)||decide (x>3)) (ak w (a 0)) (aH w ⟨[aa 1,aa 16,aa 256,aa 4096]⟩ 3 λb c=>(true=true/\0<=x/\x<(↑4:Int))/\aN c (ad (ae b) (x.toNat*1)) λx=>ak c (a x))):=by kernel_rfl
theorem qi {w:A2} {b:Nat} {p:Bool} {r:Int} {l:Bool} {f:Int} (h:bq w b [.bool p,aa r,.bool l,aa f]):
 bP w (ad (ae b) 0) cr p/\bP w (ad (ae b) 1) aq r/\bP w (ad (ae b) 2) cr l/\bP w (ad (ae b) 3) aq f/\
  bP w (ae b) (.agg [.bool,aG,.bool,aG]) (p,r,l,f,()):=by
 refine⟨?_,?_,?_,?_,?_⟩
 .rw[aS];exact h.mF rfl
 .rw[aS];exact h.mF rfl
 .rw[aS];exact h.mF rfl
 .rw[aS];exact h.mF rfl
 .exact h.SA λi _=>by rw[B2];rfl
def aZ (p:Bool) (r:Int) (l:Bool) (f:Int):Bool:=
 match p with
 |true=>decide (0<=r)&&decide (r<=7)&&decide (0<=f)&&decide (f<4096)&&(decide (r>0)|| !l)
 |false=>decide (r=0)&& !l&&decide (f=0)
theorem zw (p:Bool) (r:Int) (l:Bool) (f:Int) (w:A2):aC AC 345 gD [.agg ⟨[.bool p,aa r,.bool l,aa f]⟩] w (λb w'=>b=aZ p r l f/\Ext w w'):=by
 refine aj (C:=D0) (AR (zv p r l f w _) ?_);intro w1 c;have ⟨k,g1,m,i,n⟩:=qi (bq.new w1 [.bool p,aa r,.bool l,aa f] 301);refine⟨rfl,p,k,ab (λh=>⟨_,n,λj h2=>⟨?_,(c.eA _).trans h2⟩⟩) (λh=>⟨rfl,r,g1,λ_=>rfl,r,λ_=>g1,λ_=>rfl,f,λ_=>i,λ_=>rfl,f,λ_=>i,ab (λd=>λj h2=>⟨?_,(c.eA _).trans h2⟩) (λd=>⟨rfl,r,g1,λ_=>rfl,l,λ_=>m,λj h2=>⟨?_,(c.eA _).trans h2⟩⟩)⟩)⟩
 .have a:p=false:=by simpa using h
  subst a;by_cases e:r=0<;>by_cases g:f=0<;>cases l<;>simp[aZ,e,g]
 .have a:p=true:=by simpa using h
  subst a;simp only[Do,decide_eq_true_eq] at d;symm;simp only[aZ,Jc,decide_eq_false_iff_not];omega
 .have a:p=true:=by simpa using h
  subst a;simp only[Dt,decide_eq_false_iff_not] at d;have e:0<=r:=by omega
  have g:r<=7:=by omega
  have o:0<=f:=by omega
  have q:f<4096:=by omega
  simp[aZ,e,g,o,q]
theorem vU (p:Bool) (r:Int) (l:Bool) (f:Int) (w:A2):aC AC 330 gD [.agg ⟨[.bool p,aa r,.bool l,aa f]⟩] w (λb w'=>b=aZ p r l f/\Ext w w'):=by
 refine aj (C:=D0) (AR (vT p r l f w _) ?_);intro w1 g;have ⟨j,g1,i,a,o⟩:=qi (bq.new w1 [.bool p,aa r,.bool l,aa f] 305);refine⟨rfl,p,j,ab (λh=>⟨rfl,r,g1,λ_=>rfl,l,λ_=>i,λ_=>rfl,f,λ_=>a,λk h2=>⟨?_,(g.eA _).trans h2⟩⟩) (λh=>⟨rfl,r,g1,λ_=>rfl,r,λ_=>g1,λ_=>rfl,f,λ_=>a,λ_=>rfl,f,λ_=>a,λ_=>rfl,l,λ_=>i,λ_=>rfl,r,λ_=>g1,λk h2=>⟨?_,(g.eA _).trans h2⟩⟩)⟩
 .have d:p=false:=by simpa using h
  subst d;by_cases m:r=0<;>by_cases n:f=0<;>cases l<;>simp[aZ,m,n]
 .have d:p=true:=by simpa using h
  subst d;have e:decide (f<=4095)=decide (f<4096):=by
   by_cases c:f<4096
   .have:f<=4095:=by omega
    simp[c,this]
   .have: ¬ f<=4095:=by omega
    simp[c,this]
  show(decide (0<=r)&&decide (r<=7)&&decide (0<=f)&&decide (f<=4095)&&(!l||decide (r>0)))= _;rw[e,Bool.or_comm];rfl
noncomputable def Nu:Entry AC where
 f:=365
 fn l:=match l with
  |[.bool b]=>some (True,.int .u64 (U (bB b)))
  | _=>none
 ok args pre v h c w:=by
  split at h
  .rename_i b;cases h;refine a7 (x:=U (bB b)) (aj (C:=D0) (AR (Tz b w _) ?_));exact ab (λhb w1 a=>⟨by subst hb;rfl,a⟩) (λhb w1 a=>⟨by subst hb;rfl,a⟩)
  .cases h
noncomputable def vK:Entry AC where
 f:=345
 fn l:=match l with
  |[.agg ⟨[.bool p,.int .i64 r,.bool l,.int .i64 f]⟩]=>some (True,.bool (aZ p r l f))
  | _=>none
 ok args pre v h a w:=by
  split at h
  .rename_i p r l f;cases h;exact a7 (zw p r l f w)
  .cases h
noncomputable def qL:Entry AC where
 f:=330
 fn l:=match l with
  |[.agg ⟨[.bool p,.int .i64 r,.bool l,.int .i64 f]⟩]=>some (True,.bool (aZ p r l f))
  | _=>none
 ok args pre v h a w:=by
  split at h
  .rename_i p r l f;cases h;exact a7 (vU p r l f w)
  .cases h
def iS (x:Int):Int:=if x=0 then 1 else if x=1 then 16 else if x=2 then 256 else if x=3 then 4096 else 0
theorem TB (x:Int) (w:A2):aC AC 253 aT [aa x] w (λb w'=>b=iS x/\Ext w w'):=by
 refine aj (C:=D0) (AR (TA x w _) ?_);refine ab (λh w1 a=>⟨?_,a⟩) (λh y c=>?_)
 .simp only[Do,decide_eq_true_eq] at h;unfold iS;rw[ar (by omega),ar (by omega),ar (by omega),ar (by omega)]
 .simp only[Dt,decide_eq_false_iff_not] at h;rw[da (by omega) (by omega)] at c;refine⟨by omega,λz d w1 a=>⟨?_,a⟩⟩;have:x=0\/x=1\/x=2\/x=3:=by omega
  rcases this with rfl|rfl|rfl|rfl<;>(subst c;rw[d];decide+kernel)
theorem O1 (x:Int) (w:A2):aC AC 343 aT [aa x] w (λb w'=>b=iS x/\Ext w w'):=by
 refine aj (C:=D0) (AR (O0 x w _) ?_);refine ab (λh w1 a=>⟨?_,a⟩) (λh w1 a=>?_)
 .simp only[Do,decide_eq_true_eq] at h;unfold iS;rw[ar (by omega),ar (by omega),ar (by omega),ar (by omega)]
 .simp only[Dt,decide_eq_false_iff_not] at h;have sl:Sl (w1.alloc (.cells ⟨[aa 1,aa 16,aa 256,aa 4096]⟩ 3)) eI (ae w1.heap.size) [1,16,256,4096]:=Sl.jR (bq.new w1 _ _) rfl;have c:x.toNat<4:=by omega
  have g:[(1:Int),16,256,4096][x.toNat]? =some (iS x):=by
   have:x=0\/x=1\/x=2\/x=3:=by omega
   rcases this with rfl|rfl|rfl|rfl<;>rfl
  exact⟨⟨rfl,by omega,by omega⟩, _,(sl _ _ g).2,λd h2=>⟨rfl,(a.eA _).trans h2⟩⟩
noncomputable def Nv:Entry AC where
 f:=253
 fn l:=match l with
  |[.int .i64 x]=>some (True,.int .i64 (iS x))
  | _=>none
 ok args pre v h a w:=by
  split at h
  .rename_i x;cases h;exact a7 (TB x w)
  .cases h
noncomputable def FQ:Entry AC where
 f:=343
 fn l:=match l with
  |[.int .i64 x]=>some (True,.int .i64 (iS x))
  | _=>none
 ok args pre v h a w:=by
  split at h
  .rename_i x;cases h;exact a7 (O1 x w)
  .cases h
noncomputable def D1:fa AC:={D0 with oW:=[tK,SB,Cj,Ck,wy,wz,Fw,Fx,Nu,vK,qL,Nv,FQ]}
theorem O3 (p:Bool) (r:Int) (l:Bool) (f:Int) (w:A2) (e:Bool->A2->Prop):(aL D1 (λ_=>[]) 313 [.agg ⟨[.bool p,aa r,.bool l,aa f]⟩] w e)=(
 aH w ⟨[.bool p,aa r,.bool l,aa f]⟩ 301 λb a=>true=true/\jc a (ad (ae b) 0) λx=>(x=true->true=true)/\ag a (some x) (ad (ae b) 1) aq λ(d:Int)=>ag a (some (x&&d==0)) (ae b) fp λ(c:Bool×Int×Bool×Int×Unit)=>((x&&d==0)=true->True)/\ak a (e (x&&d==0&&aZ c.1 c.2.1 c.2.2.1 c.2.2.2.1))):=by kernel_rfl
theorem JH (p:Bool) (r:Int) (l:Bool) (f:Int) (w:A2) (d:Bool->A2->Prop):(aL D1 (λ_=>[]) 275 [.agg ⟨[.bool p,aa r,.bool l,aa f]⟩] w d)=(
 aH w ⟨[.bool p,aa r,.bool l,aa f]⟩ 305 λb a=>ag a none (ae b) fp λ(x:Bool×Int×Bool×Int×Unit)=>True/\(aZ x.1 x.2.1 x.2.2.1 x.2.2.2.1=true->true=true)/\ag a (some (aZ x.1 x.2.1 x.2.2.1 x.2.2.2.1)) (ad (ae b) 0) cr λc=>((aZ x.1 x.2.1 x.2.2.1 x.2.2.2.1&&c)=true->true=true)/\ag a (some (aZ x.1 x.2.1 x.2.2.1 x.2.2.2.1&&c)) (ad (ae b) 1) aq λ(e:Int)=>ak a (d (aZ x.1 x.2.1 x.2.2.1 x.2.2.2.1&&c&&e==0))):=by kernel_rfl
theorem JI (p:Bool) (r:Int) (l:Bool) (f:Int) (t:Int) (w:A2) (d:Bool->A2->Prop):(aL D1 (λ_=>[]) 370 [.agg ⟨[.bool p,aa r,.bool l,aa f]⟩,aa t] w d)=(
 aH w ⟨[.bool p,aa r,.bool l,aa f]⟩ 301 λb a=>ag a none (ae b) fp λ(x:Bool×Int×Bool×Int×Unit)=>True/\(aZ x.1 x.2.1 x.2.2.1 x.2.2.2.1=true->true=true)/\ag a (some (aZ x.1 x.2.1 x.2.2.1 x.2.2.2.1)) (ad (ae b) 1) aq λ(c:Int)=>((aZ x.1 x.2.1 x.2.2.1 x.2.2.2.1&&decide (c>0)&&decide (t>=0)&&decide (t<=7))=true->true=true)/\ag a (some (aZ x.1 x.2.1 x.2.2.1 x.2.2.2.1&&decide (c>0)&&decide (t>=0)&&decide (t<=7))) (ad (ae b) 1) aq λ(g:Int)=> ∀(e:Int),e=mV .i64 t
 g->ak a (d (aZ x.1 x.2.1 x.2.2.1 x.2.2.2.1&&decide (c>0)&&decide (t>=0)&&decide (t<=7)&&e==0))):=by kernel_rfl
theorem Gn (p:Bool) (r:Int) (l:Bool) (f:Int) (t:Int) (w:A2) (e:Bool->A2->Prop):(aL D1 (λ_=>[]) 331 [.agg ⟨[.bool p,aa r,.bool l,aa f]⟩,aa t] w e)=(
 aH w ⟨[.bool p,aa r,.bool l,aa f]⟩ 305 λb a=>ag a none (ae b) fp λ(x:Bool×Int×Bool×Int×Unit)=>True/\(aZ x.1 x.2.1 x.2.2.1 x.2.2.2.1=true->true=true)/\ag a (some (aZ x.1 x.2.1 x.2.2.1 x.2.2.2.1)) (ad (ae b) 0) cr λc=>((aZ x.1 x.2.1 x.2.2.1 x.2.2.2.1&&c)=true->true=true)/\ag a (some (aZ x.1 x.2.1 x.2.2.1 x.2.2.2.1&&c)) (ad (ae b) 1) aq λ(d:Int)=>((aZ x.1 x.2.1 x.2.2.1 x.2.2.2.1&&c&&decide (d>0)&&decide (t>=0)&&decide (t<=7))=true->true=true)/\ag a (some
 (aZ x.1 x.2.1 x.2.2.1 x.2.2.2.1&&c&&decide (d>0)&&decide (t>=0)&&decide (t<=7))) (ad (ae b) 1) aq λ(h:Int)=> ∀(g:Int),g=iF .i64 h t->ak a (e (aZ x.1 x.2.1 x.2.2.1 x.2.2.2.1&&c&&decide (d>0)&&decide (t>=0)&&decide (t<=7)&&g==t))):=by kernel_rfl
theorem O4 (x y:Int) (w:A2) (b:Int->A2->Prop):(aL D1 (λ_=>[]) 344 [aa x,aa y] w b)=(
 ((!(decide (x<0)||decide (x>=65536)))=true->True)/\ ∀(c:Int),c=iS y->aD (decide (x<0)||decide (x>=65536)||c==0) (ak w (b (-1))) (∀(a:Int),a=aB .u64 x-> ∀(x:Int),x=dk .i64 4 y->U (B a)=a/\ ∀(d:Int),d=U (ew (B a) x 4)-> ∀(x:Int),x=aB .i64 d->ak w (b x))):=by kernel_rfl
theorem JJ (x y:Int) (w:A2) (a:Int->A2->Prop):(aL D1 (λ_=>[]) 307 [aa x,aa y] w a)=(
 ((!(decide (x<0)||decide (x>65535)))=true->True)/\ ∀(c:Int),c=iS y->aD (decide (x<0)||decide (x>65535)||c==0) (ak w (a (-1))) (True/\ ∀(b:Int),b=iS y->b≠0/\ ∀(d:Int),d=pT .i64 x b-> ∀(x:Int),x=gj d 16->ak w (a x))):=by kernel_rfl
theorem O5 (p:Bool) (r:Int) (l:Bool) (f:Int) (w:A2) (c:Int×Int×Unit->A2->Prop):(aL D1 (λ_=>[]) 341 [.agg ⟨[.bool p,aa r,.bool l,aa f]⟩] w c)=(
 aH w ⟨[.bool p,aa r,.bool l,aa f]⟩ 301 λb a=>ag a none (ae b) fp λ(x:Bool×Int×Bool×Int×Unit)=>True/\aD (!aZ x.1 x.2.1 x.2.2.1 x.2.2.2.1) (ak a (c (0,11,()))) (true=true/\jc a (ad (ae b) 0) λx=>True/\ ∀(d:Int),d=U (bB x)->true=true/\aN a (ad (ae b) 1) λx=> ∀(e:Int),e=aB .u64 x->true=true/\jc a (ad (ae b) 2) λx=>True/\ ∀(g:Int),g=U (bB x)->true=true/\aN a (ad (ae b) 3) λx=> ∀(h:Int),h=aB .u64 x->aH a {toList:=[av d,
 aa 1,av e,aa 3,av g,aa 1,av 0,aa 7,av h,aa 12]} 429 λb a=>aA AC 364 (.el gZ) [.slice (ae b) 5 5] a λ(x:Int) a=>ak a (c (x,0,())))):=by kernel_rfl
abbrev oR (d:Int×Int×Unit->A2->Prop) (a:A2) (e:Nat) (f:Int):Prop:=
 true=true/\aN a (ad (ae e) 3) λx=> ∀(b:Int),b=aB .u64 x-> ∀(x:Int),x=dk .u64 4096 b-> ∀(c:Int),c=ay .u64 f x->ak a (d (c,0,()))
abbrev uN (e:Int×Int×Unit->A2->Prop) (a:A2) (b:Nat) (f:Int):Prop:=
 true=true/\aN a (ad (ae b) 1) λx=> ∀(c:Int),c=aB .u64 x-> ∀(x:Int),x=dk .u64 2 c-> ∀(d:Int),d=ay .u64 f x->oR e a b d
theorem JL (p:Bool) (r:Int) (l:Bool) (f:Int) (w:A2) (c:Int×Int×Unit->A2->Prop):(aL D1 (λ_=>[]) 306 [.agg ⟨[.bool p,aa r,.bool l,aa f]⟩] w c)=(
 aH w ⟨[.bool p,aa r,.bool l,aa f]⟩ 305 λb a=>ag a none (ae b) fp λ(x:Bool×Int×Bool×Int×Unit)=>True/\aD (!aZ x.1 x.2.1 x.2.2.1 x.2.2.2.1) (ak a (c (0,11,()))) (true=true/\jc a (ad (ae b) 0) λx=>aD x (true=true/\jc a (ad (ae b) 2) λx=>aD x (∀(x:Int),x=ay .u64 1 16->uN c a b x) (true=true/\aN a (ad (ae b) 1) λx=> ∀(d:Int),d=aB .u64 x-> ∀(x:Int),x=dk .u64 2 d-> ∀(e:Int),e=ay .u64 1 x->oR c a b e)) (true=true/\jc a
 (ad (ae b) 2) λx=>aD x (∀(x:Int),x=ay .u64 0 16->uN c a b x) (true=true/\aN a (ad (ae b) 1) λx=> ∀(d:Int),d=aB .u64 x-> ∀(x:Int),x=dk .u64 2 d-> ∀(e:Int),e=ay .u64 0 x->oR c a b e)))):=by kernel_rfl
theorem O6 (v:Int) (w:A2) (e:(Bool×Int×Bool×Int×Unit)×Bool×Unit->A2->Prop):(bO D1 (λ_=>[]) 314 [av v] w e)=(
 aH w ⟨[.bool false,aa 0,.bool false,aa 0]⟩ 301 λb a=>aH a ⟨[aa 1,aa 3,aa 1,aa 7,aa 12,aa 40]⟩ 3 λi a=>aA AC 346 di [av v,.slice (ae i) 6 6] a λx a=>(x.1.isSome=true/\(0:Int)<=0/\0<(↑x.2.1:Int))/\bH a (ad x.1 0) λj=>(x.1.isSome=true/\(0:Int)<=1/\1<(↑x.2.1:Int))/\bH a (ad x.1 1) λk=> ∀(g:Int),g=aB .i64 k->(x.1.isSome=true/\(0:Int)<=2/\2<(↑x.2.1:Int))/\bH a (ad x.1 2) λl=>(x.1.isSome=true/\(0
 :Int)<=4/\4<(↑x.2.1:Int))/\bH a (ad x.1 4) λm=> ∀(h:Int),h=aB .i64 m->aH a ⟨[.bool false,aa 0,.bool false,aa 0]⟩ 301 λf a=>aw a (ae f) [.bool (j==1),aa g,.bool (l==1),aa h] λa=>(x.1.isSome=true/\(0:Int)<=3/\3<(↑x.2.1:Int))/\bH a (ad x.1 3) λc=>((!decide (c>0))=true->x.1.isSome=true/\(0:Int)<=5/\5<(↑x.2.1:Int))/\ag a (some !decide (c>0)) (ad x.1 5) gZ λ(x:Int)=>ag a (some !(decide (c>0)||decide (x>0))) (ae f) fp λ
 (d:Bool×Int×Bool×Int×Unit)=>((!(decide (c>0)||decide (x>0)))=true->True)/\aD (decide (c>0)||decide (x>0)|| !aZ d.1 d.2.1 d.2.2.1 d.2.2.2.1) (aw a (ae b) [.bool false,aa 0,.bool false,aa 0] λa=>ak a λw1=>ag w1 none (ae b) fp λ(x:Bool×Int×Bool×Int×Unit)=>e ((x.1,x.2.1,x.2.2.1,x.2.2.2.1,()),false,()) w1) (ag a none (ae f) fp λ(x:Bool×Int×Bool×Int×Unit)=>aw a (ae b) [.bool x.1,aa x.2.1,.bool x.2.2.1,aa x.2.2.2.1] λa=>ak a λ
 w1=>ag w1 none (ae b) fp λ(x:Bool×Int×Bool×Int×Unit)=>e ((x.1,x.2.1,x.2.2.1,x.2.2.2.1,()),true,()) w1)):=by kernel_rfl
def cP (p:Bool) (r:Int) (l:Bool) (f:Int):Bool:=p&&r==0&&aZ p r l f
def gy (p:Bool) (r:Int) (l:Bool) (f t:Int):Bool:=aZ p r l f&&decide (r>0)&&decide (t>=0)&&decide (t<=7)&&mV .i64 t r==0
theorem O7 (p:Bool) (r:Int) (l:Bool) (f:Int) (w:A2):aC AC 313 gD [.agg ⟨[.bool p,aa r,.bool l,aa f]⟩] w (λb w'=>b=cP p r l f/\Ext w w'):=by
 refine aj (C:=D1) (AR (O3 p r l f w _) ?_);intro w1 a;have ⟨c,g1,e,g,d⟩:=qi (bq.new w1 [.bool p,aa r,.bool l,aa f] 301);exact⟨rfl,p,c,λ_=>rfl,r,λ_=>g1, _,λ_=>d,λ_=>trivial,λh h2=>⟨rfl,(a.eA _).trans h2⟩⟩
theorem JM (p:Bool) (r:Int) (l:Bool) (f:Int) (w:A2):aC AC 275 gD [.agg ⟨[.bool p,aa r,.bool l,aa f]⟩] w (λb w'=>b=cP p r l f/\Ext w w'):=by
 refine aj (C:=D1) (AR (JH p r l f w _) ?_);intro w1 a;have ⟨c,g1,e,g,d⟩:=qi (bq.new w1 [.bool p,aa r,.bool l,aa f] 305);refine⟨_,d,trivial,λ_=>rfl,p,λ_=>c,λ_=>rfl,r,λ_=>g1,λh h2=>⟨?_,(a.eA _).trans h2⟩⟩;show(aZ p r l f&&p&&r==0)=(p&&r==0&&aZ p r l f);rw[Bool.and_assoc,J3]
theorem JN: ∀r t:Fin 8,(mV .i64 (t.val:Int) (r.val:Int)==0)=(iF .i64 (r.val:Int) (t.val:Int)==(t.val:Int)):=by decide+kernel
theorem NS {x:Int} (h:0<=x) (h':x<=7): ∃k:Fin 8,x=(k.val:Int):=⟨⟨x.toNat,by omega⟩,by show x=(x.toNat:Int);omega⟩
theorem nV {p:Bool} {r:Int} {l:Bool} {f:Int} (h:aZ p r l f=true):0<=r/\r<=7/\0<=f/\f<4096/\(p=false->r=0/\l=false/\f=0):=by
 cases p
 .grind[aZ]
 .simp[aZ] at h
  grind
theorem Gp {r t:Int} (a:0<=r) (h2:r<=7) (b:0<=t) (c:t<=7):(iF .i64 r t==t)=(mV .i64 t r==0):=by
 have ⟨k,d⟩:=NS a h2;have ⟨j,e⟩:=NS b c;rw[d,e];exact(JN k j).symm
theorem CV (p:Bool) (r:Int) (l:Bool) (f t:Int):(aZ p r l f&&p&&decide (r>0)&&decide (t>=0)&&decide (t<=7)&&iF .i64 r t==t)=gy p r l f t:=by
 unfold gy;cases e:aZ p r l f with
 |false=>simp only[MF]
 |true=>
  have b:=nV e;by_cases g:r>0
  .have a:p=true:=by
    cases a:p with
    |true=>rfl
    |false=>have:=(b.2.2.2.2 a).1;omega
   by_cases c:t>=0
   .by_cases d:t<=7
    .rw[a,Gp b.1 b.2.1 c d,FJ]
    .rw[decide_eq_false d];simp
   .rw[decide_eq_false c];simp
  .rw[decide_eq_false g];simp
theorem JO (p:Bool) (r:Int) (l:Bool) (f t:Int) (w:A2):aC AC 370 gD [.agg ⟨[.bool p,aa r,.bool l,aa f]⟩,aa t] w (λb w'=>b=gy p r l f t/\Ext w w'):=by
 refine aj (C:=D1) (AR (JI p r l f t w _) ?_);intro w1 a;have ⟨e,g1,g,h,c⟩:=qi (bq.new w1 [.bool p,aa r,.bool l,aa f] 301);exact⟨_,c,trivial,λ_=>rfl,r,λ_=>g1,λ_=>rfl,r,λ_=>g1,λx d i h2=>⟨by rw[d];rfl,(a.eA _).trans h2⟩⟩
theorem Gq (p:Bool) (r:Int) (l:Bool) (f t:Int) (w:A2):aC AC 331 gD [.agg ⟨[.bool p,aa r,.bool l,aa f]⟩,aa t] w (λb w'=>b=gy p r l f t/\Ext w w'):=by
 refine aj (C:=D1) (AR (Gn p r l f t w _) ?_);intro w1 a;have ⟨c,g1,g,h,d⟩:=qi (bq.new w1 [.bool p,aa r,.bool l,aa f] 305);refine⟨_,d,trivial,λ_=>rfl,p,λ_=>c,λ_=>rfl,r,λ_=>g1,λ_=>rfl,r,λ_=>g1,λx e i h2=>⟨?_,(a.eA _).trans h2⟩⟩;rw[e];exact CV p r l f t
def fh (x y:Int):Int:=if 0<=x/\x<65536/\0<=y/\y<=3 then x / iS y % 16 else -1
theorem Br {y:Int}:(iS y==0)= !(decide (0<=y)&&decide (y<=3)):=by
 grind[iS]
theorem Bs {x y:Int} (h: ¬ (0<=x/\x<65536/\0<=y/\y<=3)):fh x y= -1:=ar h
theorem vV {x:Int} (h: -9223372036854775808<=x) (h':x<9223372036854775808):aB .i64 x=x:=gg h h'
theorem vW {x:Int} (h:0<=x) (h':x<18446744073709551616):aB .u64 x=x:=by
 show Dx.wrap x=x;rw[wrap_u64];omega
theorem qY {a b c:Int} (m:Nat) (h:0<=a/\a<65536) (d:2 ^ b.toNat=m) (e:c8 b 4=true) (f:c=U (ew (B a) b 4)):c=a / (m:Int) % 16:=by
 have g:(B a).toNat=a:=yz (by omega) (by omega);rw[f,xO (jW m 16 e d (by grind)),Int.natCast_emod,Int.natCast_ediv,g];rfl
theorem EF {a y b c:Int} (d:0<=a/\a<65536) (h:0<=y/\y<=3) (f:b=4*y) (g:c=U (ew (B a) b 4)):c=fh a y/\0<=c/\c<16:=by
 have e:c=fh a y:=by
  unfold fh;rw[az (by omega)];have:y=0\/y=1\/y=2\/y=3:=by omega
  rcases this with rfl|rfl|rfl|rfl
  .exact qY 1 d (by grind) (by subst f;decide) g
  .exact qY 16 d (by grind) (by subst f;decide) g
  .exact qY 256 d (by grind) (by subst f;decide) g
  .exact qY 4096 d (by grind) (by subst f;decide) g
 rw[e];unfold fh;omega
theorem O8 (x y:Int) (w:A2):aC AC 344 aT [aa x,aa y] w (λb w'=>b=fh x y/\Ext w w'):=by
 refine aj (C:=D1) (AR (O4 x y w _) ?_);refine⟨λ_=>trivial,λs es=>?_⟩;subst es;rw[Br];refine ab (λh w1 e=>⟨?_,e⟩) (λh a f b g=>?_)
 .simp only[Do,decide_eq_true_eq,Jf,Jc,decide_eq_false_iff_not] at h;rw[Bs (by omega)]
 .simp only[Dt,decide_eq_false_iff_not,MG,H5,decide_eq_true_eq] at h;rw[vW (by omega) (by omega)] at f;rw[da (by omega) (by omega)] at g;subst f;refine⟨yz (by omega) (by omega),λc i d j w1 e=>⟨?_,e⟩⟩;have ⟨k,l,m⟩:=EF (y:=y) (by omega) (by omega) g i;rw[j,vV (by omega) (by omega),k]
theorem JP (x y:Int) (w:A2):aC AC 307 aT [aa x,aa y] w (λb w'=>b=fh x y/\Ext w w'):=by
 refine aj (C:=D1) (AR (JJ x y w _) ?_);refine⟨λ_=>trivial,λs es=>?_⟩;subst es;rw[Br];refine ab (λh w1 a=>⟨?_,a⟩) (λh=>⟨trivial,λs es=>?_⟩)
 .simp only[Do,decide_eq_true_eq,Jf,Jc,decide_eq_false_iff_not] at h;rw[Bs (by omega)]
 .simp only[Dt,decide_eq_false_iff_not,MG,H5,decide_eq_true_eq] at h;have f:y=0\/y=1\/y=2\/y=3:=by omega
  have k:1<=s:=by rcases f with rfl|rfl|rfl|rfl<;>(rw[es];decide)
  refine⟨by omega,λc e d g w1 a=>⟨?_,a⟩⟩;have i:pT .i64 x s=x / s:=by
   unfold pT;rw[Int.tdiv_eq_ediv_of_nonneg (by omega)];have a:0<=x / s:=MD (by omega) (by omega);have h2:x / s<=x:=Int.ediv_le_self _ (by omega);exact gg (by omega) (by omega)
  have a:0<=x / s:=MD (by omega) (by omega);rw[i] at e;have j:gj c 16=c % 16:=Int.tmod_eq_emod_of_nonneg (by omega);rw[g,j,e,es];unfold fh
  grind
def o_ (p:Bool) (r:Int) (l:Bool) (f:Int):Int:=(nB p:Int)+2*r+16*(nB l:Int)+4096*f
def xU (p:Bool) (r:Int) (l:Bool) (f:Int):Int:=if aZ p r l f=true then o_ p r l f else 0
def Mn (p:Bool) (r:Int) (l:Bool) (f:Int):Int:=if aZ p r l f=true then 0 else 11
theorem HU {x:Int} (h:0<=x) (h':x<18446744073709551616):(B x).toNat=x.toNat:=by grind[B]
theorem Gr {p:Bool} {r:Int} {l:Bool} {f:Int} (h:aZ p r l f=true):U (rY 0#64 0 [(bB p,1),(B r,3),(bB l,1),(0#64,7),(B f,12)])=o_ p r l f:=by
 have b:=nV h;rw[xO (JG (HU (by omega) (by omega)) (by omega) (HU (by omega) (by omega)) (by omega))];unfold o_;omega
theorem O9 (p:Bool) (r:Int) (l:Bool) (f:Int) (w:A2):aC AC 341 (.bu [eU,eI]) [.agg ⟨[.bool p,aa r,.bool l,aa f]⟩] w (λx w'=>x=(xU p r l f,Mn p r l f,())/\Ext w w'):=by
 refine aj (C:=D1) (AR (O5 p r l f w _) ?_);intro w1 g;have ⟨m,g1,o,q,s⟩:=qi (bq.new w1 [.bool p,aa r,.bool l,aa f] 301);refine⟨_,s,trivial,ab (λh a h2=>⟨?_,(g.eA _).trans h2⟩) (λh=>⟨rfl,p,m,trivial,λF t=>⟨rfl,r,g1,λd i=>⟨rfl,l,o,trivial,λG u=>⟨rfl,f,q,λe j a h2 v k=>?_⟩⟩⟩⟩)⟩
 .have h':aZ p r l f=false:=by simpa using h
  unfold xU Mn;rw[h'];rfl
 .have h':aZ p r l f=true:=by simpa using h
  have b:=nV h';rw[vW (by omega) (by omega)] at i j;subst t;subst i;subst u;subst j;have y:U (B d)=d:=yz (by omega) (by omega);have z:U (B e)=e:=yz (by omega) (by omega);have sl:Sl v eP (ae a.heap.size) (MZ [(bB p,1),(B d,3),(bB l,1),(0#64,7),(B e,12)]):=Sl.jR ((bq.new a _ _).ext k) (by
   simp only[MZ,DC,List.map_nil,y,z];rfl)
  refine(Tw (n:=5) (c:=5) sl rfl (by decide)).mono ?_;rintro x H ⟨A,D⟩ I E;refine⟨?_,((((g.eA _).trans h2).eA _).trans k).trans (D.trans E)⟩;rw[A,Gr h'];unfold xU Mn;rw[az h',az h']
theorem ui {x y:Int} (h:0<=x+y) (h':x+y<18446744073709551616):ay .u64 x y=x+y:=by
 show Dx.wrap (x+y)= _;rw[wrap_u64];omega
theorem O_ {x y:Int} (h:0<=x*y) (h':x*y<18446744073709551616):dk .u64 x y=x*y:=by
 show Dx.wrap (x*y)= _;rw[wrap_u64];omega
theorem JQ (p:Bool) (r:Int) (l:Bool) (f:Int) (w:A2):aC AC 306 (.bu [eU,eI]) [.agg ⟨[.bool p,aa r,.bool l,aa f]⟩] w (λx w'=>x=(xU p r l f,Mn p r l f,())/\Ext w w'):=by
 refine aj (C:=D1) (AR (JL p r l f w _) ?_);intro w1 u;have ⟨D,g1,B,y,E⟩:=qi (bq.new w1 [.bool p,aa r,.bool l,aa f] 305);have fin: ∀(h:aZ p r l f=true) (s:Int),s=(nB p:Int)+16*(nB l:Int)-> ∀(A a c d e g:Int),a=aB .u64 A->A=r->c=dk .u64 2 a->d=ay .u64 s c->e=aB .u64 f->g=dk .u64 4096 e-> ∀i,i=ay .u64 d g->((i,(0:Int),()):Int×Int×Unit)=(xU p r l f,Mn p r l f,()):=by
  intro h s es A a c d e g j F k m n o i q;have b:=nV h;have b1:=DD p;have b2:=DD l;subst F;rw[vW (by omega) (by omega)] at j n;rw[O_ (by omega) (by omega)] at k o;rw[ui (by omega) (by omega)] at m;rw[ui (by omega) (by omega)] at q;unfold xU Mn o_;rw[az h,az h];congr 1;omega
 refine⟨_,E,trivial,ab (λh z h2=>⟨?_,(u.eA _).trans h2⟩) (λh=>?_)⟩
 .have h':aZ p r l f=false:=by simpa using h
  unfold xU Mn;rw[h'];rfl
 .have h':aZ p r l f=true:=by simpa using h
  refine⟨rfl,p,D,ab (λv=>⟨rfl,l,B,ab (λt s es=>⟨rfl,r,g1,λa j c k d m=>⟨rfl,f,y,λe n g o i q z h2=>⟨?_,(u.eA _).trans h2⟩⟩⟩) (λt=>⟨rfl,r,g1,λa j c k d m=>⟨rfl,f,y,λe n g o i q z h2=>⟨?_,(u.eA _).trans h2⟩⟩⟩)⟩) (λv=>⟨rfl,l,B,ab (λt s es=>⟨rfl,r,g1,λa j c k d m=>⟨rfl,f,y,λe n g o i q z h2=>⟨?_,(u.eA _).trans h2⟩⟩⟩) (λt=>⟨rfl,r,g1,λa j c k d m=>⟨rfl,f,y,λe n g o i q z h2=>⟨?_,(u.eA _).trans h2⟩⟩⟩)⟩)⟩
  .refine fin h' s ?_ r a c d e g j rfl k m n o i q;rw[es,v,t,ui (by decide) (by decide)];decide
  .refine fin h' 1 ?_ r a c d e g j rfl k m n o i q;rw[v,t];decide
  .refine fin h' s ?_ r a c d e g j rfl k m n o i q;rw[es,v,t,ui (by decide) (by decide)];decide
  .refine fin h' 0 ?_ r a c d e g j rfl k m n o i q;rw[v,t];decide
theorem vL {w:A2} {b:Nat} {l:List AG} (h:bq w b l) (vs:List AG) (a:vs.length=l.length):bq (jb w (ae b) vs) b vs:=by
 have:=h.put (o:=0)
 grind
def oh (n:Nat):Bool:=decide (n / 32 % 128=0)&&decide (n / 16777216 % 1099511627776=0)&&aZ (n % 2==1) ((n / 2 % 8:Nat):Int) (n / 16 % 2==1) ((n / 4096 % 4096:Nat):Int)
def vo (n:Nat):Bool:=oh n&&n % 2==1
def vp (n:Nat):Int:=if oh n=true then((n / 2 % 8:Nat):Int) else 0
def wk (n:Nat):Bool:=oh n&&n / 16 % 2==1
def tr (n:Nat):Int:=if oh n=true then((n / 4096 % 4096:Nat):Int) else 0
theorem Yi {w0 w:A2} {e:El} {s:Option AE×Nat×Nat} {xs:List e.T} (h:kx w0 w e s xs) {a:AE} (d:s.1=some a):a.block<w.heap.size:=by
 have ⟨_, _,c⟩:=h;rcases c with ⟨⟩|⟨b,l,c, _,f, _⟩
 grind
 .rw[c] at d;cases d;exact f.lt
theorem xZ (n:Nat):(((n:Nat):Int)==1)=(n==1):=by
 grind
theorem Il (n:Nat):decide (((n:Nat):Int)>0)= !decide (n=0):=by
 grind
theorem Pa (v:BitVec 64) (w:A2):aC AC 314 (.bu [.agg [.bool,aG,.bool,aG],cr]) [av (U v)] w
 (λx w'=>x=((vo v.toNat,vp v.toNat,wk v.toNat,tr v.toNat,()),oh v.toNat,())/\Ext w w'):=by
 refine aQ (C:=D1) (AR (O6 (U v) w _) ?_);intro w1 r l h2 s m;have d_:bq l w1.heap.size [AT false,aa 0,AT false,aa 0]:=(bq.new w1 _ _).ext h2;have H:Ext w l:=(r.eA _).trans h2;have y:Ext w s:=(H.eA _).trans m;have sl:Sl s eI (ae l.heap.size) [1,3,1,7,12,40]:=Sl.jR ((bq.new l _ _).ext m) rfl;refine(OR (v:=v) (c:=6) sl rfl (by decide)).mono ?_;rintro⟨p,n,c⟩ X ⟨e,o⟩;rw[Gm] at e;have ln:n=6:=by have:=e.len;simpa[Cl] using this
 subst ln
 let N:=v.toNat
 have I:U (ew v 0 1)=((N % 2:Nat):Int):=by rw[xO (jW 1 2 rfl rfl rfl),Nat.div_one]
 have J:U (ew v 1 3)=((N / 2 % 8:Nat):Int):=xO (jW 2 8 rfl rfl rfl);have K:U (ew v 4 1)=((N / 16 % 2:Nat):Int):=xO (jW 16 2 rfl rfl rfl);have L:U (ew v 5 7)=((N / 32 % 128:Nat):Int):=xO (jW 32 128 rfl rfl rfl);have M:U (ew v 12 12)=((N / 4096 % 4096:Nat):Int):=xO (jW 4096 4096 rfl rfl rfl);have O:U (ew v 24 40)=((N / 16777216 % 1099511627776:Nat):Int):=xO (jW 16777216 1099511627776 rfl rfl rfl);have P:Cl ((some [ew v 0 1,ew v 1 3,ew v 4 1,ew v 5 7,ew v 12 12,ew v 24 40]).getD [])=[((N % 2:Nat):Int),((N / 2 % 8:Nat):Int),((N / 16 % 2:Nat):Int),((N / 32 % 128:Nat):Int),((N / 4096 % 4096:Nat):Int),((N / 16777216 % 1099511627776:Nat):Int)]:=by
  show[U (ew v 0 1),U (ew v 1 3),U (ew v 4 1),U (ew v 5 7),U (ew v 12 12),U (ew v 24 40)]= _;rw[I,J,K,L,M,O]
 rw[P] at e;have Q:p.isSome=true:=(e.sl 0 _ rfl).1;have ix: ∀i:Int,0<=i->i<6->p.isSome=true/\0<=i/\i<((6:Nat):Int):=λi a b=>⟨Q,a,b⟩;refine⟨ix 0 (by decide) (by decide), _,(e.sl 0 _ rfl).2,ix 1 (by decide) (by decide), _,(e.sl 1 _ rfl).2,λY z=>⟨ix 2 (by decide) (by decide), _,(e.sl 2 _ rfl).2,ix 4 (by decide) (by decide), _,(e.sl 4 _ rfl).2,λZ A d f g q=>?_⟩⟩;rw[vV (by omega) (by omega)] at z A;rw[xZ,xZ];subst z;subst A;have bt:bq g d.heap.size [AT false,aa 0,AT false,aa 0]:=(bq.new d _ _).ext q;refine⟨⟨rfl,bt.st (by simp)⟩,?_⟩;have bp:=vL bt [AT (N % 2==1),aa ((N / 2 % 8:Nat):Int),AT (N / 16 % 2==1),aa ((N / 4096 % 4096:Nat):Int)] rfl;have B:kx s (jb g (ae d.heap.size) [AT (N % 2==1),aa ((N / 2 % 8:Nat):Int),AT (N / 16 % 2==1),aa ((N / 4096 % 4096:Nat):Int)]) eU (p,6,c) _:=
  ((e.ext f).ext ((Ext.alloc _ _).trans q)).same λa R=>nU _ _ ⟨d.heap.size,0,none⟩ 0 _ (by
    have:=Yi e R;have:=f.size;show a.block≠d.heap.size;omega)
 have S:Ext w g:=(((y.trans o).trans f).eA _).trans q;have D:Ext w (jb g (ae d.heap.size) [AT (N % 2==1),aa ((N / 2 % 8:Nat):Int),AT (N / 16 % 2==1),aa ((N / 4096 % 4096:Nat):Int)]):=S.jb (a:=⟨d.heap.size,0,none⟩) (((y.trans o).trans f).size) _;have E:bP _ (ae d.heap.size) (.agg [.bool,aG,.bool,aG]) (N % 2==1,((N / 2 % 8:Nat):Int),N / 16 % 2==1,((N / 4096 % 4096:Nat):Int),()):=
  bp.SA λi _=>by rw[B2];rfl
 have lt1:=d_.lt;have T:w1.heap.size≠d.heap.size:=by
  have a1:=m.size;have a2:=o.size;have a3:=f.size;rw[mA] at a1;omega
 have F:bq (jb g (ae d.heap.size) [AT (N % 2==1),aa ((N / 2 % 8:Nat):Int),AT (N / 16 % 2==1),aa ((N / 4096 % 4096:Nat):Int)]) w1.heap.size [AT false,aa 0,AT false,aa 0]:=
  ((((((d_.ext (Ext.alloc _ _)).ext m).ext o).ext f).ext (Ext.alloc _ _)).ext q).Nt (a:=⟨d.heap.size,0,none⟩) T _
 refine⟨ix 3 (by decide) (by decide), _,(B.sl 3 _ rfl).2,λ_=>ix 5 (by decide) (by decide), _,λ_=>(B.sl 5 _ rfl).2, _,λ_=>E,λ_=>trivial,?_⟩;rw[Il,Il];have G:oh N= !(!decide (N / 32 % 128=0)|| !decide (N / 16777216 % 1099511627776=0)|| !aZ (N % 2==1) ((N / 2 % 8:Nat):Int) (N / 16 % 2==1) ((N / 4096 % 4096:Nat):Int)):=by
  simp[oh,aZ]
 refine ab (λhb V h=>?_) (λhb=>⟨_,E,λV h=>?_⟩)
 .have t:oh N=false:=by rw[G,hb];rfl
  have j:=F.ext h;refine⟨⟨rfl,j.st (by simp)⟩,λW k=>⟨(false,0,false,0,()),?_,?_,?_⟩⟩
  .have u:=(vL j [AT false,aa 0,AT false,aa 0] rfl).ext k;exact u.SA λi _=>by rw[B2];rfl
  .show _=((vo N,vp N,wk N,tr N,()),oh N,());unfold vo vp wk tr;rw[t];rfl
  .exact((D.trans h).jb (a:=⟨w1.heap.size,0,none⟩) r.size _).trans k
 .have t:oh N=true:=by rw[G,hb];rfl
  have j:=F.ext h;refine⟨⟨rfl,j.st (by simp)⟩,λW k=>⟨(N % 2==1,((N / 2 % 8:Nat):Int),N / 16 % 2==1,((N / 4096 % 4096:Nat):Int),()),?_,?_,?_⟩⟩
  .have u:=(vL j [AT (N % 2==1),aa ((N / 2 % 8:Nat):Int),AT (N / 16 % 2==1),aa ((N / 4096 % 4096:Nat):Int)] rfl).ext k;exact u.SA λi _=>by rw[B2];rfl
  .show _=((vo N,vp N,wk N,tr N,()),oh N,());unfold vo vp wk tr;rw[t,az rfl,az rfl,FJ,FJ]
  .exact((D.trans h).jb (a:=⟨w1.heap.size,0,none⟩) r.size _).trans k
noncomputable def NT:Entry AC where
 f:=313
 fn l:=match l with
  |[.agg ⟨[.bool p,.int .i64 r,.bool l,.int .i64 f]⟩]=>some (True,.bool (cP p r l f))
  | _=>none
 ok args pre v h a w:=by
  split at h
  .rename_i p r l f;cases h;exact a7 (O7 p r l f w)
  .cases h
noncomputable def Im:Entry AC where
 f:=275
 fn l:=match l with
  |[.agg ⟨[.bool p,.int .i64 r,.bool l,.int .i64 f]⟩]=>some (True,.bool (cP p r l f))
  | _=>none
 ok args pre v h a w:=by
  split at h
  .rename_i p r l f;cases h;exact a7 (JM p r l f w)
  .cases h
noncomputable def Io:Entry AC where
 f:=370
 fn l:=match l with
  |[.agg ⟨[.bool p,.int .i64 r,.bool l,.int .i64 f]⟩,.int .i64 t]=>some (True,.bool (gy p r l f t))
  | _=>none
 ok args pre v h a w:=by
  split at h
  .rename_i p r l f t;cases h;exact a7 (JO p r l f t w)
  .cases h
noncomputable def DV:Entry AC where
 f:=331
 fn l:=match l with
  |[.agg ⟨[.bool p,.int .i64 r,.bool l,.int .i64 f]⟩,.int .i64 t]=>some (True,.bool (gy p r l f t))
  | _=>none
 ok args pre v h a w:=by
  split at h
  .rename_i p r l f t;cases h;exact a7 (Gq p r l f t w)
  .cases h
noncomputable def NU:Entry AC where
 f:=344
 fn l:=match l with
  |[.int .i64 x,.int .i64 y]=>some (True,.int .i64 (fh x y))
  | _=>none
 ok args pre v h a w:=by
  split at h
  .rename_i x y;cases h;exact a7 (O8 x y w)
  .cases h
noncomputable def Ip:Entry AC where
 f:=307
 fn l:=match l with
  |[.int .i64 x,.int .i64 y]=>some (True,.int .i64 (fh x y))
  | _=>none
 ok args pre v h a w:=by
  split at h
  .rename_i x y;cases h;exact a7 (JP x y w)
  .cases h
noncomputable def VZ:Entry AC where
 f:=341
 fn l:=match l with
  |[.agg ⟨[.bool p,.int .i64 r,.bool l,.int .i64 f]⟩]=>some (True,.tuple ⟨[.int .u64 (xU p r l f),.int .i64 (Mn p r l f)]⟩)
  | _=>none
 ok args pre v h a w:=by
  split at h
  .rename_i p r l f;cases h;exact a7 (O9 p r l f w)
  .cases h
noncomputable def NV:Entry AC where
 f:=306
 fn l:=match l with
  |[.agg ⟨[.bool p,.int .i64 r,.bool l,.int .i64 f]⟩]=>some (True,.tuple ⟨[.int .u64 (xU p r l f),.int .i64 (Mn p r l f)]⟩)
  | _=>none
 ok args pre v h a w:=by
  split at h
  .rename_i p r l f;cases h;exact a7 (JQ p r l f w)
  .cases h
noncomputable def NW:Entry AC where
 f:=314
 fn l:=match l with
  |[.int .u64 v]=>some (U (B v)=v,.tuple ⟨[.agg ⟨[.bool (vo (B v).toNat),.int .i64 (vp (B v).toNat),.bool (wk (B v).toNat),.int .i64 (tr (B v).toNat)]⟩,.bool (oh (B v).toNat)]⟩)
  | _=>none
 ok args pre v h a w:=by
  split at h
  .rename_i v;cases h;have:=a7 (Pa (B v) w);rw[a] at this;exact this
  .cases h
noncomputable def D2:fa AC:={D0 with oW:=[tK,SB,Cj,Ck,wy,wz,Fw,Fx,Nu,vK,qL,Nv,FQ,NT,Im,Io,DV,NU,Ip,VZ,NV,NW]}
theorem Nw (z x y:Int) (w:A2) (a:Int->A2->Prop):(aL D2 (λ_=>[]) 312 [aa z,aa x,aa y] w a)=(
 True/\ ∀(b:Int),b=fh x y->aD (decide (b<0)||decide (z<0)||decide (z>=4096)) (ak w (a (-1))) (∀(x:Int),x=dk .i64 16 z-> ∀(c:Int),c=ay .i64 x b->ak w (a c))):=by kernel_rfl
theorem Yj (z x y:Int) (w:A2) (a:Int->A2->Prop):(aL D2 (λ_=>[]) 241 [aa z,aa x,aa y] w a)=(
 True/\ ∀(b:Int),b=fh x y->aD (decide (b<0)||decide (z<0)||decide (z>4095)) (ak w (a (-1))) (∀(x:Int),x=dk .i64 16 z-> ∀(c:Int),c=ay .i64 x b->ak w (a c))):=by kernel_rfl
theorem JR (v:Int) (w:A2) (c:(Bool×Int×Bool×Int×Unit)×Bool×Unit->A2->Prop):(bO D2 (λ_=>[]) 273 [av v] w c)=(
 aH w ⟨[.bool false,aa 0,.bool false,aa 0]⟩ 305 λb a=>U (B v)=v/\ ∀(x:Int),x=U (ew (B v) 0 1)->U (B v)=v/\ ∀(e:Int),e=U (ew (B v) 1 3)-> ∀(f:Int),f=aB .i64 e->U (B v)=v/\ ∀(g:Int),g=U (ew (B v) 4 1)->U (B v)=v/\ ∀(h:Int),h=U (ew (B v) 12 12)-> ∀(i:Int),i=aB .i64 h->aH a ⟨[.bool false,aa 0,.bool false,aa 0]⟩ 305 λd a=>aw a (ae d) [.bool (x==1),aa f,.bool (g==1),aa i] λa=>ag a none (ae d) fp λ(x:Bool×Int×
 Bool×Int×Unit)=>True/\aD (Mn x.1 x.2.1 x.2.2.1 x.2.2.2.1 != 0||xU x.1 x.2.1 x.2.2.1 x.2.2.2.1 != v) (aw a (ae b) [.bool false,aa 0,.bool false,aa 0] λa=>ak a λw1=>ag w1 none (ae b) fp λ(x:Bool×Int×Bool×Int×Unit)=>c ((x.1,x.2.1,x.2.2.1,x.2.2.2.1,()),false,()) w1) (ag a none (ae d) fp λ(x:Bool×Int×Bool×Int×Unit)=>aw a (ae b) [.bool x.1,aa x.2.1,.bool x.2.2.1,aa x.2.2.2.1] λa=>ak a λw1=>ag w1 none (ae b) fp λ(x:Bool×Int×Bool×Int×Unit)=>
 c ((x.1,x.2.1,x.2.2.1,x.2.2.2.1,()),true,()) w1)):=by kernel_rfl
def c9 (z x y:Int):Int:=if fh x y<0\/z<0\/z>=4096 then -1 else 16*z+fh x y
theorem DW (x y:Int): -1<=fh x y/\fh x y<16:=by
 unfold fh;split
 .have a:=Int.emod_nonneg (x / iS y) (show(16:Int)≠0 by decide);have h2:=Int.emod_lt_of_pos (x / iS y) (show(0:Int)<16 by decide);omega
 .omega
theorem Bb (z x y:Int) (w:A2):aC AC 312 aT [aa z,aa x,aa y] w (λb w'=>b=c9 z x y/\Ext w w'):=by
 refine aj (C:=D2) (AR (Nw z x y w _) ⟨trivial,λs es=>?_⟩);have hb:=DW x y;subst es;refine ab (λh w1 c=>⟨?_,c⟩) (λh a d b e w1 c=>⟨?_,c⟩)
 .simp only[Do,decide_eq_true_eq] at h;unfold c9;rw[az (by omega)]
 .simp only[Dt,decide_eq_false_iff_not] at h;rw[da (by omega) (by omega)] at d;rw[ao (by omega) (by omega)] at e;unfold c9;rw[ar (by omega),e,d]
theorem Yk (z x y:Int) (w:A2):aC AC 241 aT [aa z,aa x,aa y] w (λb w'=>b=c9 z x y/\Ext w w'):=by
 refine aj (C:=D2) (AR (Yj z x y w _) ⟨trivial,λs es=>?_⟩);have hb:=DW x y;subst es;refine ab (λh w1 c=>⟨?_,c⟩) (λh a d b e w1 c=>⟨?_,c⟩)
 .simp only[Do,decide_eq_true_eq] at h;unfold c9;rw[az (by omega)]
 .simp only[Dt,decide_eq_false_iff_not] at h;rw[da (by omega) (by omega)] at d;rw[ao (by omega) (by omega)] at e;unfold c9;rw[ar (by omega),e,d]
theorem NX (n:Nat) (h:n<=1):nB (n==1)=n:=by
 have:n=0\/n=1:=by omega
 rcases this with rfl|rfl<;>rfl
theorem TC (n:Nat):o_ (n % 2==1) ((n / 2 % 8:Nat):Int) (n / 16 % 2==1) ((n / 4096 % 4096:Nat):Int)=((n % 2+2*(n / 2 % 8)+16*(n / 16 % 2)+4096*(n / 4096 % 4096):Nat):Int):=by
 unfold o_;rw[NX _ (by omega),NX _ (by omega)];omega
theorem JS (n:Nat) (h:n<18446744073709551616):n=n % 2+2*(n / 2 % 8)+16*(n / 16 % 2)+32*(n / 32 % 128)+4096*(n / 4096 % 4096)+16777216*(n / 16777216 % 1099511627776):=by
 omega
theorem TD (n:Nat) (h:n<18446744073709551616):oh n=(aZ (n % 2==1) ((n / 2 % 8:Nat):Int) (n / 16 % 2==1) ((n / 4096 % 4096:Nat):Int)&&decide (o_ (n % 2==1) ((n / 2 % 8:Nat):Int) (n / 16 % 2==1) ((n / 4096 % 4096:Nat):Int)=(n:Int))):=by
 rw[TC];have a:=JS n h;unfold oh;rw[J3];congr 1;rw[H6,H5,decide_eq_true_eq,decide_eq_true_eq,decide_eq_true_eq];omega
theorem Gs (v:BitVec 64):(Mn (v.toNat % 2==1) ((v.toNat / 2 % 8:Nat):Int) (v.toNat / 16 % 2==1) ((v.toNat / 4096 % 4096:Nat):Int) != 0||xU (v.toNat % 2==1) ((v.toNat / 2 % 8:Nat):Int) (v.toNat / 16 % 2==1) ((v.toNat / 4096 % 4096:Nat):Int) != U v)= !oh v.toNat:=by
 rw[TD _ v.isLt];unfold Mn xU;cases aZ (v.toNat % 2==1) ((v.toNat / 2 % 8:Nat):Int) (v.toNat / 16 % 2==1) ((v.toNat / 4096 % 4096:Nat):Int) with
 |false=>rfl
 |true=>
  rw[az rfl,az rfl,FJ];show(((0:Int) != 0)|| _)= _;rw[show((0:Int) != 0)=false from rfl,Bool.false_or];rw[H6,bne_iff_ne,Jf,decide_eq_false_iff_not];rfl
theorem JT (v:BitVec 64) (w:A2):aC AC 273 (.bu [.agg [.bool,aG,.bool,aG],cr]) [av (U v)] w
 (λx w'=>x=((vo v.toNat,vp v.toNat,wk v.toNat,tr v.toNat,()),oh v.toNat,())/\Ext w w'):=by
 refine aQ (C:=D2) (AR (JR (U v) w _) ?_)
 let N:=v.toNat
 have z:U (ew v 0 1)=((N % 2:Nat):Int):=by rw[xO (jW 1 2 rfl rfl rfl),Nat.div_one]
 have A:U (ew v 1 3)=((N / 2 % 8:Nat):Int):=xO (jW 2 8 rfl rfl rfl);have B:U (ew v 4 1)=((N / 16 % 2:Nat):Int):=xO (jW 16 2 rfl rfl rfl);have D:U (ew v 12 12)=((N / 4096 % 4096:Nat):Int):=xO (jW 4096 4096 rfl rfl rfl);intro w1 g;rw[C6];refine⟨rfl,λH l=>⟨rfl,λI m J n=>⟨rfl,λK o=>⟨rfl,λL p M q b h2 c h=>?_⟩⟩⟩⟩;rw[z] at l;rw[A] at m;rw[B] at o;rw[D] at p;rw[vV (by omega) (by omega)] at n q;subst l;subst n;subst o;subst q;subst m;subst p;rw[xZ,xZ];have d_:bq b w1.heap.size [AT false,aa 0,AT false,aa 0]:=(bq.new w1 _ _).ext h2;have r:Ext w b:=(g.eA _).trans h2;have bt:bq c b.heap.size [AT false,aa 0,AT false,aa 0]:=(bq.new b _ _).ext h;have bp:=vL bt [AT (N % 2==1),aa ((N / 2 % 8:Nat):Int),AT (N / 16 % 2==1),aa ((N / 4096 % 4096:Nat):Int)] rfl;have E:Ext w c:=(r.eA _).trans h;have s:Ext w (jb c (ae b.heap.size) [AT (N % 2==1),aa ((N / 2 % 8:Nat):Int),AT (N / 16 % 2==1),aa ((N / 4096 % 4096:Nat):Int)]):=E.jb (a:=⟨b.heap.size,0,none⟩) r.size _;have t:bP (jb c (ae b.heap.size) [AT (N % 2==1),aa ((N / 2 % 8:Nat):Int),AT (N / 16 % 2==1),aa ((N / 4096 % 4096:Nat):Int)]) (ae b.heap.size) (.agg [.bool,aG,.bool,aG]) (N % 2==1,((N / 2 % 8:Nat):Int),N / 16 % 2==1,((N / 4096 % 4096:Nat):Int),()):=
  bp.SA λi _=>by rw[B2];rfl
 have O:=d_.lt;have u:bq (jb c (ae b.heap.size) [AT (N % 2==1),aa ((N / 2 % 8:Nat):Int),AT (N / 16 % 2==1),aa ((N / 4096 % 4096:Nat):Int)]) w1.heap.size [AT false,aa 0,AT false,aa 0]:=
  ((d_.ext (Ext.alloc _ _)).ext h).Nt (a:=⟨b.heap.size,0,none⟩) (by show w1.heap.size≠b.heap.size;omega) _
 refine⟨⟨rfl,bt.st (by simp)⟩, _,t,trivial,?_⟩;have y:=Gs v;refine ab (λhb F d=>?_) (λhb=>⟨_,t,λF d=>?_⟩)
 .have j:oh N=false:=by
   have:=y.symm.trans hb;simpa using this
  have e:=u.ext d;refine⟨⟨rfl,e.st (by simp)⟩,λG f=>⟨(false,0,false,0,()),?_,?_,?_⟩⟩
  .have k:=(vL e [AT false,aa 0,AT false,aa 0] rfl).ext f;exact k.SA λi _=>by rw[B2];rfl
  .show _=((vo N,vp N,wk N,tr N,()),oh N,());unfold vo vp wk tr;rw[j];rfl
  .exact((s.trans d).jb (a:=⟨w1.heap.size,0,none⟩) g.size _).trans f
 .have j:oh N=true:=by
   have:=y.symm.trans hb;simpa using this
  have e:=u.ext d;refine⟨⟨rfl,e.st (by simp)⟩,λG f=>⟨(N % 2==1,((N / 2 % 8:Nat):Int),N / 16 % 2==1,((N / 4096 % 4096:Nat):Int),()),?_,?_,?_⟩⟩
  .have k:=(vL e [AT (N % 2==1),aa ((N / 2 % 8:Nat):Int),AT (N / 16 % 2==1),aa ((N / 4096 % 4096:Nat):Int)] rfl).ext f;exact k.SA λi _=>by rw[B2];rfl
  .show _=((vo N,vp N,wk N,tr N,()),oh N,());unfold vo vp wk tr;rw[j,az rfl,az rfl,FJ,FJ]
  .exact((s.trans d).jb (a:=⟨w1.heap.size,0,none⟩) g.size _).trans f
noncomputable def eAt:Entry AC where
 f:=312
 fn l:=match l with
  |[.int .i64 z,.int .i64 x,.int .i64 y]=>some (True,.int .i64 (c9 z x y))
  | _=>none
 ok args pre v h a w:=by
  split at h
  .rename_i z x y;cases h;exact a7 (Bb z x y w)
  .cases h
noncomputable def ab7:Entry AC where
 f:=241
 fn l:=match l with
  |[.int .i64 z,.int .i64 x,.int .i64 y]=>some (True,.int .i64 (c9 z x y))
  | _=>none
 ok args pre v h a w:=by
  split at h
  .rename_i z x y;cases h;exact a7 (Yk z x y w)
  .cases h
noncomputable def TE:Entry AC where
 f:=273
 fn l:=match l with
  |[.int .u64 v]=>some (U (B v)=v,.tuple ⟨[.agg ⟨[.bool (vo (B v).toNat),.int .i64 (vp (B v).toNat),.bool (wk (B v).toNat),.int .i64 (tr (B v).toNat)]⟩,.bool (oh (B v).toNat)]⟩)
  | _=>none
 ok args pre v h a w:=by
  split at h
  .rename_i v;cases h;have:=a7 (JT (B v) w);rw[a] at this;exact this
  .cases h
noncomputable def D3:fa AC:={D0 with oW:=[tK,SB,Cj,Ck,wy,wz,Fw,Fx,Nu,vK,qL,Nv,FQ,NT,Im,Io,DV,NU,Ip,VZ,NV,NW,eAt,ab7,TE]}
noncomputable def M0:fa AC:={D3 with wx:=false,quiet:=[17,339,244]}
theorem TF (p:Option AE) (w:A2) (a:Int->A2->Prop):(aL M0 (λ_=>[]) 17 [ah p] w a)=(
 aD p.isNone (ak w (a 0)) (p.isSome=true/\p.isSome=true/\(ad p 0).isSome=true/\pJ w (ad (ad p 0) 0) λx=>ak w (a (↑x.2.1:Int)))):=by kernel_rfl
theorem Yl (p:Option AE) (n c:Nat) (i:Int) (w:A2) (d:Option AE->A2->Prop):(aL M0 (λ_=>[]) 339 [.agg ⟨[.slice p n c]⟩,aa i] w d)=(
 aH w ⟨[.slice p n c]⟩ 168 λb a=>((!decide (i<0))=true->true=true)/\ag a (some !decide (i<0)) (ad (ae b) 0) bX λx=>aD (decide (i<0)||decide (i>=(↑x.2.1:Int))) (ak a (d none)) (true=true/\pJ a (ad (ae b) 0) λx=>(x.1.isSome=true/\0<=i/\i<(↑x.2.1:Int))/\ak a (d (ad x.1 (i.toNat*1))))):=by kernel_rfl
theorem Pb (p:Option AE) (i:Int) (w:A2) (a:Option AE×Int×Unit->A2->Prop):(aL M0 (λ_=>[]) 290 [ah p,aa i] w a)=(
 ∃(x:Int),ai AC 17 [ah p] w (aa x)/\aD (x==0) (ak w (a (none,10,()))) (p.isSome=true/\p.isSome=true/\ag w none (ad p 0) (.agg [.slice]) λx=> ∃(b:Option AE),ai AC 339 [.agg ⟨[.slice x.1.1 x.1.2.1 x.1.2.2]⟩,aa i] w (ah b)/\aD b.isNone (ak w (a (none,2,()))) (dw p 1 w λx=>p.isSome=true/\p.isSome=true/\aw w (ad p 1) [aa (ay .i64 x 1)] λc=>ak c (a (b,0,()))))):=by kernel_rfl
theorem DY (p:Option AE) (i:Int) (w:A2) (a:Int×Int×Unit->A2->Prop):(aL M0 (λ_=>[]) 221 [ah p,aa i] w a)=(
 aA AC 290 (.bu [bF,aq]) [ah p,aa i] w λ(x:Option AE×Int×Unit) b=>aD (x.2.1 != 0) (ak b (a (0,x.2.1,()))) (x.1.isSome=true/\bH b x.1 λx=>ak b (a (x,0,())))):=by kernel_rfl
theorem JU (p:Option AE) (i v:Int) (w:A2) (b:Int->A2->Prop):(aL M0 (λ_=>[]) 216 [ah p,aa i,av v] w b)=(
 aA AC 290 (.bu [bF,aq]) [ah p,aa i] w λ(x:Option AE×Int×Unit) a=>aD (x.2.1==0) (x.1.isSome=true/\aw a x.1 [av v] λa=>dw p 2 a λc=>p.isSome=true/\p.isSome=true/\aw a (ad p 2) [aa (ay .i64 c 1)] λa=>ak a (b x.2.1)) (ak a (b x.2.1))):=by kernel_rfl
theorem TG (n:Int) (w:A2) (a:Option AE×Int×Unit->A2->Prop):(aL M0 (λ_=>[]) 53 [aa n] w a)=(
 aD (decide (n<1)||decide (n>65536)) (ak w (a (none,1,()))) (xG w 8 1 n n ⟨[av 0]⟩ 32 λb c=>aH c {toList:=[.slice (ae b) n.toNat n.toNat,aa 0,aa 0]} 170 λb c=>ak c (a (some ⟨b,0,none⟩,0,())))):=by kernel_rfl
theorem JV (p:Option AE) (i:Int) (w:A2) (a:Bool->A2->Prop):(aL M0 (λ_=>[]) 244 [ah p,aa i] w a)=(
 (decide (i>=0)=true->p.isSome=true)/\(decide (i>=0)=true->p.isSome=true)/\ag w (some (decide (i>=0))) (ad p 0) bX λx=>ak w λw1=>a (decide (i>=0)&&decide (i<(↑x.2.1:Int))) w1):=by kernel_rfl
theorem Pc (p:Option AE) (i:Int) (w:A2) (a:Int×Int×Unit->A2->Prop):(aL M0 (λ_=>[]) 153 [ah p,aa i] w a)=(
 ∃x,ai AC 244 [ah p,aa i] w (.bool x)/\aD (!x) (ak w (a (0,2,()))) (dw p 1 w λx=>p.isSome=true/\p.isSome=true/\aw w (ad p 1) [aa (ay .i64 x 1)] λb=>bD p 0 b λx=>(x.1.isSome=true/\0<=i/\i<(↑x.2.1:Int))/\bH b (ad x.1 (i.toNat*1)) λx=>ak b (a (x,0,())))):=by kernel_rfl
theorem JW (p:Option AE) (i v:Int) (w:A2) (b:Int->A2->Prop):(aL M0 (λ_=>[]) 154 [ah p,aa i,av v] w b)=(
 ∃x,ai AC 244 [ah p,aa i] w (.bool x)/\aD (!x) (ak w (b 2)) (dw p 1 w λx=>p.isSome=true/\p.isSome=true/\aw w (ad p 1) [aa (ay .i64 x 1)] λa=>dw p 2 a λx=>p.isSome=true/\p.isSome=true/\aw a (ad p 2) [aa (ay .i64 x 1)] λa=>bD p 0 a λx=>(x.1.isSome=true/\0<=i/\i<(↑x.2.1:Int))/\aw a (ad x.1 (i.toNat*1)) [av v] λa=>ak a (b 0))):=by kernel_rfl
theorem TH (n:Int) (w:A2) (c:Option AE×Int×Unit->A2->Prop):(aL M0 (λ_=>[]) 57 [aa n] w c)=(
 aD (decide (n<1)||decide (n>65536)) (aH w ⟨[.slice none 0 0,aa 0,aa 0]⟩ 64 λb a=>ak a (c (some ⟨b,0,none⟩,1,()))) (xG w 8 1 n n ⟨[av 0]⟩ 32 λb a=>aH a {toList:=[.slice (ae b) n.toNat n.toNat,aa 0,aa 0]} 64 λb a=>ak a (c (some ⟨b,0,none⟩,0,())))):=by kernel_rfl
abbrev eW:El:= .one eh
abbrev gi (bw n c:Nat) (ca la:Int):List AG:=[.slice (ae bw) n c,aa ca,aa la]
def oX (ws:List Int) (i:Int):Bool:=decide (0<=i)&&decide (i<ws.length)
def eY (ws:List Int) (i:Int):Int:=if oX ws i then ws.getD i.toNat 0 else 0
def vy (ws:List Int) (i:Int):Int:=if oX ws i then 0 else 2
def pM (ws:List Int) (i x:Int):Int:=if oX ws i then ay .i64 x 1 else x
def fm (ws:List Int) (i v:Int):List Int:=if oX ws i then ws.set i.toNat v else ws
theorem gz {ws:List Int} {i:Int}:oX ws i=true<->0<=i/\i<ws.length:=by unfold oX;simp
theorem cL (ws:List Int) (i v:Int):(fm ws i v).length=ws.length:=by unfold fm;split<;>simp
theorem HV: ∀ws:List Int,flat eW ws=ws.map (Da .u64)
 |[]=>rfl
 |a::l=>by
  show[av a]++flat eW l= _;rw[HV l];rfl
section
variable {D G:List Nat} {w0 w:A2} {L:List (Nat×List AG)} {bm bw n c:Nat} {ca la:Int} {ws:List Int} {rest:List AG}
theorem S4 {i:Nat} (hi:i<ws.length):pV (flat eW ws++rest) (0+i*1) eW=some (ws.getD i 0):=by
 have:(flat eW ws++rest)[0+i*1]? =some (av (ws.getD i 0)):=by
  have a:(flat eW ws).length=ws.length*1:=aK eW ws;rw[B2,Fk,HD (by omega)];have e:=HV ws;rw[e,List.getElem?_map,DA hi,GS,DA hi];rfl
 show(match (flat eW ws++rest)[0+i*1]? with|some v=>eh.proj v|none=>none)= _;rw[this];rfl
theorem CE (h:bq w bm (gi bw n c ca la)):aC AC 17 aT [ah (ae bm)] w (λx w'=>x=(n:Int)/\Ext w w'):=by
 refine aj (C:=M0) (AR (TF _ w _) ?_);refine an rfl ⟨rfl,rfl,rfl,ag.of (some ⟨bw,0,none⟩,n,c) (by rw[aS,aS];exact h.mF rfl) λw1 a=>⟨rfl,a⟩⟩
theorem Ym (p:Option AE) (d:n≠0->p.isSome=true) (i:Int) (w:A2):aC AC 339 oq [.agg ⟨[.slice p n c]⟩,aa i] w (λx w'=>x=(if 0<=i/\i<n then ad p i.toNat else none)/\Ext w w'):=by
 refine aj (C:=M0) (AR (Yl p n c i w _) ?_);have H:=At.start [] w;refine aH.go H λb f H=>⟨λ_=>rfl,ag.bj 0 H rfl rfl (ab (λa=>ak.go H λe H=>⟨?_,H.all⟩) (λa=>⟨rfl,ag.bj 0 H rfl rfl ?_⟩))⟩
 .have: ¬ (0<=i/\i<n):=by simp at a;omega
  rw[ar this]
 .have hi:0<=i/\i<n:=by simp at a;omega
  refine⟨⟨d (by omega),by omega,by show i<((n:Nat):Int);omega⟩,ak.go H λe H=>⟨?_,H.all⟩⟩;rw[az hi,Fk]
theorem zx (H:aJ D G w0 w L) (j:Nat) (b:L[j]? =some (bm,gi bw n c ca la)) (e:n=ws.length) (h0:0<n) (i:Int) {K:Option AE×Int×Unit->A2->Prop}
 (f:oX ws i=true-> ∀a,aJ D G w0 a (L.set j (bm,gi bw n c (ay .i64 ca 1) la))->K (ad (ae bw) i.toNat,0,()) a) (g:oX ws i=false-> ∀a,aJ D G w0 a L->K (none,2,()) a):
 aA AC 290 (.bu [bF,aq]) [ah (ae bm),aa i] w K:=by
 refine aA.go H λw1 H=>aj (C:=M0) (AR (Pb _ i w1 K) ?_);refine⟨_,ai.of (s:= .el aq) λw' h'=>CE ((H.get b).ext h'),an (by simp;omega) ⟨rfl,rfl,ag.bj j H b rfl ⟨_,ai.of (s:= .el bF) λw' h'=>Ym (ae bw) (λ_=>rfl) i w',?_⟩⟩⟩;subst e;cases hi:oX ws i with
 |true=>
  have d:=gz.1 hi;rw[az d];refine an rfl ⟨rfl,rfl,ag.bj j H b rfl ⟨rfl,rfl,aw.c_ j H b rfl rfl λa H=>ak.go H λk H=>f hi k H⟩⟩
 |false=>
  have d: ¬ (0<=i/\i<(ws.length:Int)):=λh=>by rw[gz.2 h] at hi;cases hi
  rw[ar d];exact ax rfl (ak.go H λa H=>g hi a H)
theorem DZ (H:aJ D G w0 w L) (j a:Nat) (d:L[j]? =some (bm,gi bw n c ca la)) (g:L[a]? =some (bw,flat eW ws++rest)) (h:j≠a) (l:n=ws.length) (h0:0<n) (i:Int) {K:Int×Int×Unit->A2->Prop}
 (k: ∀b,aJ D G w0 b (L.set j (bm,gi bw n c (pM ws i ca) la))->K (eY ws i,vy ws i,()) b):
 aA AC 221 (.bu [.one eh,aq]) [ah (ae bm),aa i] w K:=by
 refine aA.go H λw1 H=>aj (C:=M0) (AR (DY _ i w1 K) ?_);refine zx H j d l h0 i (λhi b H=>?_) (λhi b H=>?_)
 .unfold pM eY vy at k;rw[hi,az rfl,az rfl,az rfl] at k;have o:(L.set j (bm,gi bw n c (ay .i64 ca 1) la))[a]? =some (bw,flat eW ws++rest):=by rw[C7 h];exact g
  have p:=gz.1 hi;refine an rfl ⟨rfl,?_⟩;rw[aS];have e:=S4 (ws:=ws) (rest:=rest) (i:=i.toNat) (by omega);rw[Fk] at e;exact ag.at a H o e (ak.go H λf H=>k f H)
 .unfold pM eY vy at k;rw[hi,ar (by decide),ar (by decide),ar (by decide)] at k;refine ax rfl (ak.go H λf H=>k f ?_);rw[show L.set j (bm,gi bw n c ca la)=L from Df λm=>by
   by_cases e:j=m
   .subst e;rw[Ch (Ce.1 d).1,d]
   .rw[C7 e]]
  exact H
theorem V3 {i:Nat} (hi:i<ws.length) (v:Int):(flat eW ws++rest).set i (av v)=flat eW (ws.set i v)++rest:=by
 have h:=uh eW ws i v rest hi;have a:(cellsOf eW v)=[av v]:=rfl;have b:aM eW=1:=rfl;rw[a,b,Fk] at h;rw[<-h];have c:(flat eW ws).length=ws.length*1:=aK eW ws;rw[K2,az (by rw[FA];omega)];rfl
theorem JX (H:aJ D G w0 w L) (j a:Nat) (f:L[j]? =some (bm,gi bw n c ca la)) (g:L[a]? =some (bw,flat eW ws++rest)) (b:j≠a) (p:n=ws.length) (h0:0<n) (i v:Int) {K:Int->A2->Prop}
 (k: ∀d,aJ D G w0 d ((L.set j (bm,gi bw n c (pM ws i ca) (pM ws i la))).set a (bw,flat eW (fm ws i v)++rest))->K (vy ws i) d):
 aA AC 216 aT [ah (ae bm),aa i,av v] w K:=by
 refine aA.go H λw1 H=>aj (C:=M0) (AR (JU _ i v w1 K) ?_);have r:j<L.length:=(Ce.1 f).1;have y:a<L.length:=(Ce.1 g).1;refine zx H j f p h0 i (λhi d H=>?_) (λhi d H=>?_)
 .unfold pM fm vy at k;rw[hi,az rfl,az rfl,az rfl,az rfl] at k;have s:(L.set j (bm,gi bw n c (ay .i64 ca 1) la))[a]? =some (bw,flat eW ws++rest):=by rw[C7 b];exact g
  have z:=gz.1 hi;have t:i.toNat<ws.length:=by omega
  have A:(flat eW ws).length=ws.length*1:=aK eW ws;refine ax rfl ⟨rfl,aw.c_ a H s rfl (by rw[IR,FA];omega) λl H=>?_⟩;rw[B2,V3 t] at H;have o:((L.set j (bm,gi bw n c (ay .i64 ca 1) la)).set a (bw,flat eW (ws.set i.toNat v)++rest))[j]? =some (bm,gi bw n c (ay .i64 ca 1) la):=by
   rw[C7 (λe=>b e.symm),Ch r]
  refine⟨rfl,rfl,ag.bj j H o rfl ⟨rfl,rfl,aw.c_ j H o rfl rfl λB H=>ak.go H λu H=>k u ?_⟩⟩;rw[List.set_comm _ _ b,Gi] at H;rw[List.set_comm _ _ b];exact H
 .unfold pM fm vy at k;rw[hi,ar (by decide),ar (by decide),ar (by decide),ar (by decide)] at k;refine an rfl (ak.go H λl H=>k l ?_);have s1: ∀{m:Nat} {x:Nat×List AG},L[m]? =some x->L.set m x=L:=λ{m x} h=>Df λq=>by
   by_cases e:m=q
   .subst e;rw[Ch (Ce.1 h).1,h]
   .rw[C7 e]
  rw[s1 f,s1 g];exact H
theorem TI (H:aJ D G w0 w L) (b:1<=n/\n<=65536) {K:Option AE×Int×Unit->A2->Prop}
 (k: ∀bm bw w1,aJ D G w0 w1 ((bm,gi bw n n 0 0)::(bw,flat eW (Dn n 0)++[])::L)->K (some ⟨bm,0,none⟩,0,()) w1):
 aA AC 53 (.bu [bF,aq]) [aa (n:Int)] w K:=by
 refine aA.go H λw1 H=>aj (C:=M0) (AR (TG _ w1 K) ?_);refine an (by rw[decide_eq_false (by omega),decide_eq_false (by omega)];rfl) (xG.go H rfl (by omega) (by omega) (by omega) (by omega) λbw c H=>aH.go H λbm d H=>ak.go H λa H=>k bm bw a ?_);rw[fX,HY];exact H
theorem TJ (H:aJ D G w0 w L) (b:1<=n/\n<=65536) {K:Option AE×Int×Unit->A2->Prop}
 (k: ∀bm bw w1,aJ D G w0 w1 ((bm,gi bw n n 0 0)::(bw,flat eW (Dn n 0)++[])::L)->K (some ⟨bm,0,none⟩,0,()) w1):
 aA AC 57 (.bu [bF,aq]) [aa (n:Int)] w K:=by
 refine aA.go H λw1 H=>aj (C:=M0) (AR (TH _ w1 K) ?_);refine an (by rw[decide_eq_false (by omega),decide_eq_false (by omega)];rfl) (xG.go H rfl (by omega) (by omega) (by omega) (by omega) λbw c H=>aH.go H λbm d H=>ak.go H λa H=>k bm bw a ?_);rw[fX,HY];exact H
theorem D4 (H:aJ D G w0 w L) (j:Nat) (a:L[j]? =some (bm,gi bw n c ca la)) (b:n=ws.length) (i:Int):ai AC 244 [ah (ae bm),aa i] w (.bool (oX ws i)):=
 ai.of (s:= .el cr) λw' h'=>by
  refine aj (C:=M0) (AR (JV _ i w' _) ?_);have h:=(H.get a).ext h';refine⟨λ_=>rfl,λ_=>rfl,ag.of (some ⟨bw,0,none⟩,n,c) (by rw[aS];exact h.mF rfl) λw1 d=>⟨?_,d⟩⟩;unfold oX;rw[b]
theorem D5 (H:aJ D G w0 w L) (j b:Nat) (a:L[j]? =some (bm,gi bw n c ca la)) (g:L[b]? =some (bw,flat eW ws++rest)) (h:j≠b) (l:n=ws.length) (i:Int) {K:Int×Int×Unit->A2->Prop}
 (k: ∀d,aJ D G w0 d (L.set j (bm,gi bw n c (pM ws i ca) la))->K (eY ws i,vy ws i,()) d):
 aA AC 153 (.bu [.one eh,aq]) [ah (ae bm),aa i] w K:=by
 refine aA.go H λw1 H=>aj (C:=M0) (AR (Pc _ i w1 K) ?_);refine⟨_,D4 H j a l i,?_⟩;unfold pM eY vy at k;cases hi:oX ws i with
 |true=>
  rw[hi,az rfl,az rfl,az rfl] at k;have r:=gz.1 hi;have o:j<L.length:=(Ce.1 a).1;refine an rfl ⟨rfl,rfl,ag.bj j H a rfl ⟨rfl,rfl,aw.c_ j H a rfl rfl λd H=>?_⟩⟩;have H:aJ D G w0 d (L.set j (bm,gi bw n c (ay .i64 ca 1) la)):=H;have p:(L.set j (bm,gi bw n c (ay .i64 ca 1) la))[j]? =some (bm,gi bw n c (ay .i64 ca 1) la):=Ch o;have q:(L.set j (bm,gi bw n c (ay .i64 ca 1) la))[b]? =some (bw,flat eW ws++rest):=by rw[C7 h];exact g
  refine⟨rfl,rfl,ag.bj j H p rfl ⟨⟨rfl,by omega,by show i<((n:Nat):Int);omega⟩,?_⟩⟩;exact ag.bj b H q (S4 (by omega)) (ak.go H λf H=>k f H)
 |false=>
  rw[hi,ar (by decide),ar (by decide),ar (by decide)] at k;refine ax rfl (ak.go H λf H=>k f ?_);rw[show L.set j (bm,gi bw n c ca la)=L from Df λm=>by
   by_cases e:j=m
   .subst e;rw[Ch (Ce.1 a).1,a]
   .rw[C7 e]]
  exact H
theorem JY (H:aJ D G w0 w L) (j a:Nat) (b:L[j]? =some (bm,gi bw n c ca la)) (g:L[a]? =some (bw,flat eW ws++rest)) (p:j≠a) (r:n=ws.length) (i v:Int) {K:Int->A2->Prop}
 (k: ∀d,aJ D G w0 d ((L.set j (bm,gi bw n c (pM ws i ca) (pM ws i la))).set a (bw,flat eW (fm ws i v)++rest))->K (vy ws i) d):
 aA AC 154 aT [ah (ae bm),aa i,av v] w K:=by
 refine aA.go H λw1 H=>aj (C:=M0) (AR (JW _ i v w1 K) ?_);have l:j<L.length:=(Ce.1 b).1;refine⟨_,D4 H j b r i,?_⟩;unfold pM fm vy at k;cases hi:oX ws i with
 |true=>
  rw[hi,az rfl,az rfl,az rfl,az rfl] at k;have y:=gz.1 hi;refine an rfl ⟨rfl,rfl,ag.bj j H b rfl ⟨rfl,rfl,aw.c_ j H b rfl rfl λd H=>?_⟩⟩;have H:aJ D G w0 d (L.set j (bm,gi bw n c (ay .i64 ca 1) la)):=H;have o:(L.set j (bm,gi bw n c (ay .i64 ca 1) la))[j]? =some (bm,gi bw n c (ay .i64 ca 1) la):=Ch l;refine⟨rfl,rfl,ag.bj j H o rfl ⟨rfl,rfl,aw.c_ j H o rfl rfl λf H=>?_⟩⟩;rw[Gi] at H;have H:aJ D G w0 f (L.set j (bm,gi bw n c (ay .i64 ca 1) (ay .i64 la 1))):=H;have s:(L.set j (bm,gi bw n c (ay .i64 ca 1) (ay .i64 la 1)))[j]? =some (bm,gi bw n c (ay .i64 ca 1) (ay .i64 la 1)):=Ch l;have t:(L.set j (bm,gi bw n c (ay .i64 ca 1) (ay .i64 la 1)))[a]? =some (bw,flat eW ws++rest):=by rw[C7 p];exact g
  have z:(flat eW ws).length=ws.length*1:=aK eW ws;refine⟨rfl,rfl,ag.bj j H s rfl ⟨⟨rfl,by omega,by show i<((n:Nat):Int);omega⟩,aw.c_ a H t rfl (by rw[IR,FA];omega) λA H=>ak.go H λu H=>k u ?_⟩⟩;rw[B2,Fk,V3 (by omega)] at H;exact H
 |false=>
  rw[hi,ar (by decide),ar (by decide),ar (by decide),ar (by decide)] at k;refine ax rfl (ak.go H λf H=>k f ?_);have s1: ∀{m:Nat} {x:Nat×List AG},L[m]? =some x->L.set m x=L:=λ{m x} h=>Df λq=>by
   by_cases e:m=q
   .subst e;rw[Ch (Ce.1 h).1,h]
   .rw[C7 e]
  rw[s1 b,s1 g];exact H
end
abbrev sR:List Sc:=[eh,.bool,aG]
abbrev RT:Type:=Int×Bool×Int×Unit
abbrev sA:List Sc:=[aG,aG,eh,eh]
abbrev sF:List Sc:=[aG,aG,aG,aG]
noncomputable def M1:fa AC:={M0 with quiet:=[324,267,308]}
noncomputable def M2:fa AC:={M1 with ZP:=some (.el (.agg sR))}
noncomputable def M3:fa AC:={M1 with ZP:=some (.bu [])}
theorem Pd (k i a b:Int) (m:Option AE) (w:A2) (d:RT->A2->Prop):(bO M1 (λ_=>[]) 349 [.agg ⟨[aa k,aa i,av a,av b]⟩,ah m] w d)=(
 aH w ⟨[aa k,aa i,av a,av b]⟩ 419 λb c=>aH c ⟨[av 0,.bool false,aa 0]⟩ 403 λe c=>true=true/\aN c (ad (ae b) 1) λx=>aA AC 221 (.bu [.one eh,aq]) [ah m,aa x] c λ(x:Int×Int×Unit) c=>aw c (ae e) [av x.1,.bool false,aa x.2.1] λc=>ak c λw1=>ag w1 none (ae e) (.agg [eh,.bool,aG]) λ(x:Int×Bool×Int×Unit)=>d (x.1,x.2.1,x.2.2.1,()) w1):=by kernel_rfl
abbrev D6 (a:RT->A2->Prop) (b:A2) (c:Nat):Prop:=
 ak b λw1=>ag w1 none (ae c) (.agg [eh,.bool,aG]) λ(x:Int×Bool×Int×Unit)=>a (x.1,x.2.1,x.2.2.1,()) w1
theorem aa4 (m:Option AE) (k i a b:Int) (w:A2) (f:RT->A2->Prop):(bO M2 (λ_=>[]) 323 [ah m,.agg ⟨[aa k,aa i,av a,av b]⟩] w f)=(
 aH w ⟨[aa k,aa i,av a,av b]⟩ 406 λb c=>aH c ⟨[av 0,.bool false,aa 0]⟩ 403 λe c=> ∀w1,Ext c w1-> ∀g,Ext (w1.alloc (Obj.map ⟨[]⟩ 0)) g-> ∃(r:Nat), ∃(es:Array E5), ∃(d:Nat),some w1.heap.size=some r/\cd g r es d/\jE g r .i64 1 (.func (.func 349) ⟨[]⟩ ⟨[]⟩) es d λc=> ∀h,Ext c h-> ∃(r:Nat), ∃(es:Array E5), ∃(d:Nat),some w1.heap.size=some r/\cd h r es d/\jE h r .i64 2 (.func (.func 350) ⟨[]⟩ ⟨[]⟩) es d λc=> ∀j,Ext c j
 -> ∃(r:Nat), ∃(es:Array E5), ∃(d:Nat),some w1.heap.size=some r/\cd j r es d/\jE j r .i64 3 (.func (.func 351) ⟨[]⟩ ⟨[]⟩) es d λc=> ∀l,Ext c l-> ∃(r:Nat), ∃(es:Array E5), ∃(d:Nat),some w1.heap.size=some r/\cd l r es d/\jE l r .i64 4 (.func (.func 352) ⟨[]⟩ ⟨[]⟩) es d λc=>true=true/\aN c (ad (ae b) 0) λx=> ∃(n:AG), ∃(o:Bool),ox c (some w1.heap.size) .i64 x H7 n o/\aD (!o) (aw c (ae e) [av 0,.bool false,aa 1] λc=>
 D6 f c e) (ag c none (ae b) (.agg [aG,aG,eh,eh]) λ(x:Int×Int×Int×Int×Unit)=>Hx AC n (.el (.agg [eh,.bool,aG])) [.agg ⟨[aa x.1,aa x.2.1,av x.2.2.1,av x.2.2.2.1]⟩,ah m] c λ(x:Int×Bool×Int×Unit) c=>aw c (ae e) [av x.1,.bool x.2.1,aa x.2.2.1] λc=>D6 f c e)):=by kernel_rfl
theorem TL (f p t:Int) (w:A2) (a:Option AE->A2->Prop):(aL M1 (λ_=>[]) 321 [aa f,aa p,aa t] w a)=(
 aH w {toList:=[aa f,aa p,aa t,aa 3,aa 0,aa 0,aa 0,aa 0,.slice none 0 0,.bool true]} 401 λb c=>True/\aD (decide (c9 f p (3:Int)<0)||decide (t<0)||decide (t>7)) (ak c (a none)) (ak c (a (ae b)))):=by kernel_rfl
abbrev wP (a:Int×Int×Int×Int×Unit->A2->Prop) (b:A2) (c:Nat):Prop:=
 ak b λw1=>ag w1 none (ae c) (.agg [aG,aG,eh,eh]) λ(x:Int×Int×Int×Int×Unit)=>a (x.1,x.2.1,x.2.2.1,x.2.2.2.1,()) w1
theorem Pe (p:Option AE) (w:A2) (c:(Int×Int×Int×Int×Unit)->A2->Prop):(bO M1 (λ_=>[]) 324 [ah p] w c)=(
 aH w ⟨[aa 0,aa 0,av 0,av 0]⟩ 406 λb a=>((!p.isNone)=true->p.isSome=true)/\((!p.isNone)=true->p.isSome=true)/\ag a (some !p.isNone) (ad p 9) cr λx=>((!(p.isNone|| !x))=true->p.isSome=true)/\((!(p.isNone|| !x))=true->p.isSome=true)/\ag a (some !(p.isNone|| !x)) (ad p 3) aq λ(d:Int)=>aD (p.isNone|| !x||d== -1) (aw a (ae b) [aa 0,aa 0,av 0,av 0] λa=>wP c a b) (dw p 0 a λx=>dw p 1 a λe=>dw p 3 a λf=>True/\aw a (ae b)
 [aa 1,aa (c9 x e f),av 0,av 0] λa=>wP c a b)):=by kernel_rfl
theorem TM (p:Option AE) (a b c d:Int) (w:A2) (f:Unit->A2->Prop):(aL M1 (λ_=>[]) 325 [ah p,.agg ⟨[aa a,aa b,aa c,aa d]⟩] w f)=(
 aH w ⟨[aa a,aa b,aa c,aa d]⟩ 361 λb e=>dw p 3 e λx=>true=true/\aw e (ad (ae b) 2) [aa x] λe=>ag e none (ae b) dh λ(x:Int×Int×Int×Int×Unit)=>p.isSome=true/\p.isSome=true/\aw e (ad p 4) [aa x.1,aa x.2.1,aa x.2.2.1,aa x.2.2.2.1] λe=>p.isSome=true/\p.isSome=true/\aw e (ad p 3) [aa (-1)] λe=>ak e (f ())):=by kernel_rfl
theorem Yn (p:Option AE) (fr:Int) (ep:Bool) (er:Int) (el:Bool) (ef:Int) (w:A2) (c:Unit->A2->Prop):(aL M1 (λ_=>[]) 356 [ah p,aa fr,.agg ⟨[.bool ep,aa er,.bool el,aa ef]⟩] w c)=(
 aH w ⟨[.bool ep,aa er,.bool el,aa ef]⟩ 301 λb a=>aD (decide (fr>=4096)) (aA AC 325 (.bu []) [ah p,.agg ⟨[aa 0,aa 0,aa 0,aa 11]⟩] a λx a=>ak a (c ())) (ag a none (ae b) fp λ(x:Bool×Int×Bool×Int×Unit)=>dw p 2 a λd=>True/\aD (!gy x.1 x.2.1 x.2.2.1 x.2.2.2.1 d) (true=true/\aN a (ad (ae b) 1) λx=>aA AC 325 (.bu []) [ah p,.agg ⟨[aa fr,aa x,aa 0,aa 7]⟩] a λx a=>ak a (c ())) (true=true/\aN
 a (ad (ae b) 1) λx=>aA AC 325 (.bu []) [ah p,.agg ⟨[aa fr,aa x,aa 0,aa 0]⟩] a λx a=>ak a (c ())))):=by kernel_rfl
theorem Pf (a:Option AE) (w:A2) (b:Unit->A2->Prop):(aL M1 (λ_=>[]) 353 [ah a] w b)=(
 eJ w a λx=>aA AC 325 (.bu []) [ah x,.agg ⟨[aa 0,aa 0,aa 0,aa 4]⟩] w λx c=>ak c (b ())):=by kernel_rfl
theorem Pg (d a:Option AE) (w:A2) (e:Unit->A2->Prop):(aL M1 (λ_=>[]) 354 [ah d,ah a] w e)=(
 eJ w a λx=>eJ w a λb=>d.isSome=true/\aN w (ad d 3) λf=>eJ w a λg=>dw g 3 w λh=>x.isSome=true/\x.isSome=true/\aw w (ad x 0) [aa f] λc=>True/\bP c a bF b/\b.isSome=true/\b.isSome=true/\aw c (ad b 3) [aa (aR .i64 h 1)] λc=>ak c (e ())):=by kernel_rfl
theorem Ph (c a:Option AE) (w:A2) (Post:Unit->A2->Prop):(aL M1 (λ_=>[]) 355 [ah c,ah a] w Post)=(
 ag w none c bF λx=>a.isSome=true/\ag w none (ad a 3) aq λ(e:Int)=>ag w none c bF λd=>d.isSome=true/\d.isSome=true/\ag w none (ad d 1) aq λ(f:Int)=>True/\iS 1≠0/\ag w none a (.agg [.bool,aG,.bool,aG]) λ(b:Bool×Int×Bool×Int×Unit)=>aA AC 356 (.bu []) [ah x,aa (ay .i64 e (gj f (iS 1))),.agg ⟨[.bool b.1,aa b.2.1,.bool b.2.2.1,aa b.2.2.2.1]⟩] w λx g=>ak g λw1=>Post () w1)
 :=by kernel_rfl
theorem Pj (c a:Option AE) (w:A2) (d:Unit->A2->Prop):(aL M1 (λ_=>[]) 357 [ah c,ah a] w d)=(
 eJ w c λx=>a.isSome=true/\aN w (ad a 3) λe=>ag w none a fp λ(b:Bool×Int×Bool×Int×Unit)=>aA AC 356 (.bu []) [ah x,aa e,.agg ⟨[.bool b.1,aa b.2.1,.bool b.2.2.1,aa b.2.2.2.1]⟩] w λx f=>ak f (d ())):=by kernel_rfl
theorem Pm (a:Option AE) (w:A2) (b:Unit->A2->Prop):(aL M1 (λ_=>[]) 358 [ah a] w b)=(
 eJ w a λx=>aA AC 325 (.bu []) [ah x,.agg ⟨[aa 0,aa 0,aa 0,aa 11]⟩] w λx c=>ak c (b ())):=by kernel_rfl
def wQ:Nat->aW:=(λ|3=>[(56,Go.RX.El.one (Go.RX.Sc.int AU))]| _=>[])
theorem TN (p:Option AE) (ep:Bool) (er:Int) (el:Bool) (ef:Int) (w:A2) (h:Unit->A2->Prop):(aL M3 wQ 326 [ah p,.agg ⟨[.bool ep,aa er,.bool el,aa ef]⟩] w h)=(
 aH w ⟨[ah p]⟩ 213 λb a=>aH a ⟨[.bool ep,aa er,.bool el,aa ef]⟩ 301 λd a=>true=true/\jc a (ad (ae d) 0) λx=>ag a none (ae d) fp λ(c:Bool×Int×Bool×Int×Unit)=>True/\ag a (some (cP c.1 c.2.1 c.2.2.1 c.2.2.2.1)) (ae b) bF λi=>(cP c.1 c.2.1 c.2.2.1 c.2.2.2.1=true->i.isSome=true)/\(cP c.1 c.2.1 c.2.2.1 c.2.2.2.1=true->i.isSome=true)/\ag a (some (cP c.1 c.2.1 c.2.2.1 c.2.2.2.1)) (ad i 3) aq λ(o:Int)=>true=true/\jc a (ad
 (ae d) 2) λf=>ag a (some f) (ae b) bF λj=>(f=true->j.isSome=true)/\(f=true->j.isSome=true)/\ag a (some f) (ad j 3) aq λ(q:Int)=>true=true/\jc a (ad (ae d) 2) λe=>((!e)=true->true=true)/\ag a (some !e) (ad (ae d) 1) aq λ(g:Int)=>ag a (some (!e&&decide (g>0))) (ae b) bF λk=>((!e&&decide (g>0))=true->k.isSome=true)/\((!e&&decide (g>0))=true->k.isSome=true)/\ag a (some (!e&&decide (g>0))) (ad k 3) aq λ(r:Int)=>
 aH a {toList:=[.bool !x,.func (.func 353) ⟨[]⟩ {toList:=[ah (ae b)]},.bool (cP c.1 c.2.1 c.2.2.1 c.2.2.2.1&&decide (o>0)),.func (.func 354) ⟨[]⟩ {toList:=[ah (ae d),ah (ae b)]},.bool (f&&q==1),.func (.func 355) ⟨[]⟩ {toList:=[ah (ae b),ah (ae d)]},.bool (!e&&decide (g>0)&&r==0),.func (.func 357) ⟨[]⟩ {toList:=[ah (ae b),ah (ae d)]},.bool true,.func (.func 358) ⟨[]⟩ {toList:=[ah (ae b)]}]} 423 λb a=> ∃(I:Nat->Int×Unit->A2->Prop),(∃n, ∀
 w1,Ext a w1->I n (0,()) w1)/\ ∀(n:Nat) (s:Int×Unit) (w1:A2),I n s w1->aD (decide (s.1<(↑5:Int))) ((true=true/\0<=s.1/\s.1<(↑5:Int))/\ag w1 none (ad (ae b) (C9 s.1*2)) (.agg [.bool,.func]) λx=>aH w1 ⟨[.bool false,H7]⟩ 423 λb a=>aw a (ae b) [.bool x.1,x.2.1] λa=>true=true/\jc a (ad (ae b) 0) λx=>aD x (true=true/\ag a none (ad (ae b) 1) (.one .func) λx=>Hx AC x (.bu []) [] a λx a=>ak a (h ())) (∀l,Ext a l-> ∃(m:Nat),m<n/\I m (ay .i64 s.1
 1,()) l)) (ak w1 (h ()))):=by kernel_rfl
theorem Pn (p m:Option AE) (w:A2) (c:Bool->A2->Prop):(aL M1 (λ_=>[]) 266 [ah p,ah m] w c)=(
 ((!p.isNone)=true->p.isSome=true)/\((!p.isNone)=true->p.isSome=true)/\ag w (some !p.isNone) (ad p 9) cr λx=>aD (p.isNone|| !x) (ak w (c false)) (dw p 3 w λx=>aD (x== -1) (ak w (c true)) (∃(x:Int×Int×Int×Int×Unit),ai AC 324 [ah p] w (.agg ⟨[aa x.1,aa x.2.1,av x.2.2.1,av x.2.2.2.1]⟩)/\aA AC 323 (.el (.agg [eh,.bool,aG])) [ah m,.agg ⟨[aa x.1,aa x.2.1,av x.2.2.1,av x.2.2.2.1]⟩] w λ(x:Int×Bool×Int×Unit) a=>aH a ⟨[.int
 .u64 0,.bool false,aa 0]⟩ 403 λb a=>aw a (ae b) [av x.1,.bool x.2.1,aa x.2.2.1] λa=>bD p 8 a λx=>dw p 0 a λe=>aH a ⟨[aa e]⟩ 3 λf a=> ∀w1,Ext a w1->nm w1 3 1 8 ⟨[aa 0]⟩ (x.1,x.2.1,x.2.2) (some ⟨f,0,none⟩,1,1) λ(r:Option AE×Nat×Nat) a=>p.isSome=true/\p.isSome=true/\aw a (ad p 8) [.slice r.1 r.2.1 r.2.2] λa=>true=true/\bH a (ad (ae b) 0) λx=>U (B x)=x/\aH a ⟨[.bool false,aa 0,.bool false,aa 0]⟩ 301 λd a=>aw a (ae d) [.bool
 (vo (B x).toNat),aa (vp (B x).toNat),.bool (wk (B x).toNat),aa (tr (B x).toNat)] λa=>((!!oh (B x).toNat)=true->true=true)/\ag a (some !!oh (B x).toNat) (ad (ae b) 2) aq λ(g:Int)=>aD (!oh (B x).toNat||g != 0) (aA AC 325 (.bu []) [ah p,.agg ⟨[aa 0,aa 0,aa 0,aa 11]⟩] a λx a=>ak a (c true)) (ag a none (ae d) fp λ(x:Bool×Int×Bool×Int×Unit)=>aA AC 326 (.bu []) [ah p,.agg ⟨[.bool x.1,aa x.2.1,.bool x.2.2.1,aa x.2.2.2.1]⟩] a λx
 a=>dw p 3 a λx=>ak a (c (x== -1)))))):=by kernel_rfl
def wR:Nat->aW:=(λ|4=>[]| _=>[])
theorem TO (m:Option AE) (f p t:Int) (w:A2) (c:(Int×Int×Int×Int×Unit)->A2->Prop):(bO M1 wR 295 [ah m,aa f,aa p,aa t] w c)=(
 aH w ⟨[aa 0,aa 0,aa 0,aa 0]⟩ 361 λb a=>aA AC 321 oq [aa f,aa p,aa t] a λx a=>aD x.isNone (aw a (ae b) [aa 0,aa 0,aa 0,aa 1] λa=>ak a λw1=>ag w1 none (ae b) dh λ(x:Int×Int×Int×Int×Unit)=>c (x.1,x.2.1,x.2.2.1,x.2.2.2.1,()) w1) (∃(I:Nat->Unit->A2->Prop),(∃n, ∀w1,Ext a w1->I n () w1)/\ ∀(n:Nat) (s:Unit) (w1:A2),I n s w1->aA AC 266 gD [ah x,ah m] w1 λg a=>aD (!g)
 (∀d,Ext a d-> ∃(e:Nat),e<n/\I e () d) (x.isSome=true/\x.isSome=true/\ag a none (ad x 4) dh λ(x:Int×Int×Int×Int×Unit)=>aw a (ae b) [aa x.1,aa x.2.1,aa x.2.2.1,aa x.2.2.2.1] λa=>ak a λw1=>ag w1 none (ae b) dh λ(x:Int×Int×Int×Int×Unit)=>c (x.1,x.2.1,x.2.2.1,x.2.2.2.1,()) w1))):=by kernel_rfl
abbrev FT:Type:=Int×Int×Int×Int×Unit
abbrev rW (fr pg wt lv:Int) (fd:FT) (s:Option AE×Nat×Nat):List AG:=
 [aa fr,aa pg,aa wt,aa lv,aa fd.1,aa fd.2.1,aa fd.2.2.1,aa fd.2.2.2.1,.slice s.1 s.2.1 s.2.2,.bool true]
def tD (lv e:Int):FT:=(0,0,lv,e,())
def AV (lv wt fr:Int) (ep:Bool) (er:Int) (el:Bool) (ef:Int):FT:=if fr>=4096 then(0,0,lv,11,()) else if gy ep er el ef wt then(fr,er,lv,0,()) else(fr,er,lv,7,())
theorem CF {w:A2} {r:Nat} {k:IntKind} {n:Int} {val:AG} {es:Array E5} {a:Nat} {K:A2->Prop} (h:Instr.findNow (.int k) (.int k n) es.toList 0=some none)
 (b:K (w.putObj r (.map (es.push {key:= .int k n,val,born:=a}) (a+1)))):jE w r k n val es a K:=by
 unfold jE;rw[h];exact b
section
variable {D G:List Nat} {w0 w:A2} {L:List (Nat×List AG)} {bm bw n c:Nat} {ca la:Int} {ws:List Int} {rest:List AG}
theorem Pq (H:aJ D G w0 w L) (j d:Nat) (f:L[j]? =some (bm,gi bw n c ca la)) (g:L[d]? =some (bw,flat eW ws++rest)) (m:j≠d) (h:n=ws.length) (h0:0<n) (kd i a b:Int) {K:RT->A2->Prop}
 (k: ∀e,aJ D G w0 e (L.set j (bm,gi bw n c (pM ws i ca) la))->K (eY ws i,false,vy ws i,()) e):
 aC AC 349 (.el (.agg sR)) [.agg ⟨[aa kd,aa i,av a,av b]⟩,ah (ae bm)] w K:=by
 refine aQ (C:=M1) (AR (Pd kd i a b _ w K) ?_);refine aH.go H λb1 e H=>aH.go H λb2 o H=>⟨rfl,ag.bj 1 H rfl rfl ?_⟩;refine DZ H (j+2) (d+2) f g (by omega) h h0 i λp H=>?_;refine aw.all 0 H rfl rfl rfl λq H=>ak.go H λl H=>ag.at 0 H rfl rfl (k l ?_);exact(H.sub (B1 _ _)).sub (B1 _ _)
theorem Cy (H:aJ D G w0 w L) {r:Nat} {es:Array E5} {a:Nat} (f:w0.heap.size<=r) (g:r∉D) (b:cd w r es a) {n:Int} {val:AG} {K:A2->Prop} (h:Instr.findNow (.int .i64) (aa n) es.toList 0=some none)
 (k: ∀c,aJ D G w0 c L->cd c r (es.push {key:=aa n,val,born:=a}) (a+1)->K c):
 ∃r' d e,some r=some r'/\cd w r' d e/\jE w r' .i64 n val d e K:=
 ⟨r,es,a,rfl,b,CF h (k _ (H.putObj f b (λ_ _ _ hc=>by cases hc) g) (k7 (FS.1 b).1))⟩
theorem aa5 (H:aJ D G w0 w L) (q:D=[]) (j f:Nat) (r:L[j]? =some (bm,gi bw n c ca la)) (s:L[f]? =some (bw,flat eW ws++rest)) (F:j≠f) (t:n=ws.length) (h0:0<n) (i a b:Int) {K:RT->A2->Prop}
 (k: ∀g,aJ D G w0 g (L.set j (bm,gi bw n c (pM ws i ca) la))->K (eY ws i,false,vy ws i,()) g):
 aA AC 323 (.el (.agg sR)) [ah (ae bm),.agg ⟨[aa 1,aa i,av a,av b]⟩] w K:=by
 subst q;refine aA.go H λw1 H=>aQ (C:=M2) (AR (aa4 _ 1 i a b w1 K) ?_);refine aH.go H λb1 g H=>aH.go H λb2 I H=>λd h u l=>?_;have H:=(((H.ext h).vJ (.map ⟨[]⟩ 0)).ext l);have e:w0.heap.size<=d.heap.size:=by have:=(aJ.ext (w1:=d) (by assumption) h:aJ [] G w0 d _).fr.size;exact this
 have v:cd u d.heap.size ⟨[]⟩ 0:=l.obj (iy d _);refine Cy H e (by simp) v rfl λJ H x M m=>?_;refine Cy (H.ext m) e (by simp) (m.obj x) rfl λN H y O o=>?_;refine Cy (H.ext o) e (by simp) (o.obj y) rfl λP H z Q p=>?_;refine Cy (H.ext p) e (by simp) (p.obj z) rfl λR H A=>?_;refine⟨rfl,ag.bj 1 H rfl rfl ⟨.func (.func 349) #[] #[],true,⟨_, _, _,rfl,A,?_⟩,an rfl (ag.at 1 H rfl rfl ?_)⟩⟩
 .exact⟨rfl,rfl⟩
 .unfold Hx;refine λS B=>⟨_, #[], #[],rfl,by kernel_rfl,?_⟩;refine Pq (H.ext B) (j+2) (f+2) r s (by omega) t h0 1 i a b λT H=>?_;refine aw.all 0 H rfl rfl rfl λU H=>ak.go H λE H=>ag.at 0 H rfl rfl (k E ?_);exact(H.sub (B1 _ _)).sub (B1 _ _)
end
section
variable {D G:List Nat} {w0 w:A2} {L:List (Nat×List AG)} {bk:Nat} {fr pg wt lv:Int} {fd:FT} {s:Option AE×Nat×Nat}
theorem qM (H:aJ D G w0 w L) (j:Nat) (f:L[j]? =some (bk,rW fr pg wt lv fd s)) (a c g d:Int) {K:Unit->A2->Prop}
 (k: ∀h,aJ D G w0 h (L.set j (bk,rW fr pg wt (-1) (a,c,lv,d,()) s))->K () h):
 aA AC 325 (.bu []) [ah (ae bk),.agg ⟨[aa a,aa c,aa g,aa d]⟩] w K:=by
 refine aA.go H λw1 H=>aj (C:=M1) (AR (TM _ a c g d w1 K) ?_);have i:j<L.length:=(Ce.1 f).1;refine aH.go H λb h H=>?_;have l:((b,[aa a,aa c,aa g,aa d])::L)[j+1]? =some (bk,rW fr pg wt lv fd s):=f;refine⟨rfl,rfl,ag.bj (j+1) H l rfl ⟨rfl,aw.c_ 0 H rfl rfl rfl λn H=>ag.at 0 H rfl rfl ⟨rfl,rfl,?_⟩⟩⟩;rw[aS,aS];refine aw.at (j+1) H f rfl (Nat.le_of_ble_eq_true rfl) λo H=>⟨rfl,rfl,?_⟩;refine aw.one (j+1) H (Ch (Nat.succ_lt_succ i)) rfl rfl λp H=>ak.go H λm H=>k m ?_;have H:=H.sub (B1 _ _);have e:(L.set j (bk,rW fr pg wt lv (a,c,lv,d,()) s)).set j (bk,rW fr pg wt (-1) (a,c,lv,d,()) s)=L.set j (bk,rW fr pg wt (-1) (a,c,lv,d,()) s):=Gi ..;rw[<-e];exact H
theorem NY (H:aJ D G w0 w L) (j:Nat) (m:L[j]? =some (bk,rW fr pg wt lv fd s)) (f:Int) (ep:Bool) (er:Int) (el:Bool) (ef:Int) {K:Unit->A2->Prop}
 (k: ∀g,aJ D G w0 g (L.set j (bk,rW fr pg wt (-1) (AV lv wt f ep er el ef) s))->K () g):
 aA AC 356 (.bu []) [ah (ae bk),aa f,.agg ⟨[.bool ep,aa er,.bool el,aa ef]⟩] w K:=by
 refine aA.go H λw1 H=>aj (C:=M1) (AR (Yn _ f ep er el ef w1 K) ?_);refine aH.go H λb g H=>?_;have d:((b,[AT ep,aa er,.bool el,aa ef])::L)[j+1]? =some (bk,rW fr pg wt lv fd s):=m;refine ab (λc=>?_) (λc=>ag.at 0 H rfl rfl ⟨rfl,rfl,ag.bj (j+1) H d rfl ⟨trivial,ab (λh=>?_) (λh=>?_)⟩⟩)
 .refine qM H (j+1) d 0 0 0 11 λl H=>ak.go H λa H=>k a ?_;have e:AV lv wt f ep er el ef=(0,0,lv,11,()):=az (of_decide_eq_true c);rw[e];exact H.sub (B1 _ _)
 .refine⟨rfl,ag.bj 0 H rfl rfl (qM H (j+1) d f er 0 7 λl H=>ak.go H λa H=>k a ?_)⟩;have e:AV lv wt f ep er el ef=(f,er,lv,7,()):=by
   have i:gy ep er el ef wt=false:=by simpa using h
   unfold AV;rw[ar (of_decide_eq_false c),i];rfl
  rw[e];exact H.sub (B1 _ _)
 .refine⟨rfl,ag.bj 0 H rfl rfl (qM H (j+1) d f er 0 0 λl H=>ak.go H λa H=>k a ?_)⟩;have e:AV lv wt f ep er el ef=(f,er,lv,0,()):=by
   have i:gy ep er el ef wt=true:=by simpa using h
   unfold AV;rw[ar (of_decide_eq_false c),az i]
  rw[e];exact H.sub (B1 _ _)
end
def tookS (fr pg wt lv:Int) (fd:FT) (ep:Bool) (er:Int) (el:Bool) (ef:Int):Int×Int×FT:=
 if(!ep)=true then(fr,-1,tD lv 4)
 else if(cP ep er el ef&&decide (lv>0))=true then(ef,aR .i64 lv 1,fd)
 else if(el&&lv==1)=true then(fr,-1,AV lv wt (ay .i64 ef (gj pg 16)) ep er el ef)
 else if(!el&&decide (er>0)&&lv==0)=true then(fr,-1,AV lv wt ef ep er el ef)
 else(fr,-1,tD lv 11)
section
variable {D G:List Nat} {w0 w:A2} {L:List (Nat×List AG)} {bk bp be:Nat} {fr pg wt lv:Int} {fd:FT} {s:Option AE×Nat×Nat} {ep:Bool} {er:Int} {el:Bool} {ef:Int}
theorem Pr (H:aJ D G w0 w L) (a j:Nat) (c:L[a]? =some (bp,[ah (ae bk)])) (d:L[j]? =some (bk,rW fr pg wt lv fd s)) {K:Unit->A2->Prop}
 (k: ∀b,aJ D G w0 b (L.set j (bk,rW fr pg wt (-1) (tD lv 4) s))->K () b):aC AC 353 (.bu []) [ah (ae bp)] w K:=by
 refine aj (AR (Pf _ w K) ?_);exact ag.at a H c rfl (qM H j d 0 0 0 4 λf H=>ak.go H λe H=>k e H)
theorem Ps (H:aJ D G w0 w L) (a j:Nat) (c:L[a]? =some (bp,[ah (ae bk)])) (d:L[j]? =some (bk,rW fr pg wt lv fd s)) {K:Unit->A2->Prop}
 (k: ∀b,aJ D G w0 b (L.set j (bk,rW fr pg wt (-1) (tD lv 11) s))->K () b):aC AC 358 (.bu []) [ah (ae bp)] w K:=by
 refine aj (AR (Pm _ w K) ?_);exact ag.at a H c rfl (qM H j d 0 0 0 _ λf H=>ak.go H λe H=>k e H)
theorem Pt (H:aJ D G w0 w L) (e a j:Nat) (f:L[e]? =some (be,[.bool ep,aa er,.bool el,aa ef])) (b:L[a]? =some (bp,[ah (ae bk)])) (c:L[j]? =some (bk,rW fr pg wt lv fd s)) (g:j≠a) {K:Unit->A2->Prop}
 (k: ∀d,aJ D G w0 d (L.set j (bk,rW ef pg wt (aR .i64 lv 1) fd s))->K () d):aC AC 354 (.bu []) [ah (ae be),ah (ae bp)] w K:=by
 refine aj (C:=M1) (AR (Pg _ _ w K) ?_);have h:j<L.length:=(Ce.1 c).1;refine ag.at a H b rfl (ag.at a H b rfl ⟨rfl,ag.bj e H f rfl (ag.at a H b rfl ⟨rfl,rfl,ag.bj j H c rfl ⟨rfl,rfl,?_⟩⟩)⟩);refine aw.c_ j H c rfl rfl λd H=>⟨trivial,?_,rfl,rfl,?_⟩
 .exact cK (H.get (i:=a) (by rw[C7 g];exact b)) rfl
 .refine aw.c_ j H (Ch h) rfl rfl λm H=>ak.go H λl H=>k l ?_;rw[Gi] at H;exact H
theorem Pu (H:aJ D G w0 w L) (a b j:Nat) (c:L[a]? =some (be,[.bool ep,aa er,.bool el,aa ef])) (d:L[b]? =some (bp,[ah (ae bk)])) (e:L[j]? =some (bk,rW fr pg wt lv fd s)) {K:Unit->A2->Prop}
 (k: ∀f,aJ D G w0 f (L.set j (bk,rW fr pg wt (-1) (AV lv wt (ay .i64 ef (gj pg 16)) ep er el ef) s))->K () f):aC AC 355 (.bu []) [ah (ae bp),ah (ae be)] w K:=by
 refine aj (C:=M1) (AR (Ph _ _ w K) ?_);have g:iS 1=16:=rfl;rw[g];refine ag.at b H d rfl ⟨rfl,ag.bj a H c rfl (ag.at b H d rfl ⟨rfl,rfl,ag.bj j H e rfl ⟨trivial,by decide,ag.at a H c rfl ?_⟩⟩)⟩;exact NY H j e _ ep er el ef λi H=>ak.go H λh H=>k h H
theorem Pv (H:aJ D G w0 w L) (a b j:Nat) (c:L[a]? =some (be,[.bool ep,aa er,.bool el,aa ef])) (e:L[b]? =some (bp,[ah (ae bk)])) (f:L[j]? =some (bk,rW fr pg wt lv fd s)) {K:Unit->A2->Prop}
 (k: ∀d,aJ D G w0 d (L.set j (bk,rW fr pg wt (-1) (AV lv wt ef ep er el ef) s))->K () d):aC AC 357 (.bu []) [ah (ae bp),ah (ae be)] w K:=by
 refine aj (AR (Pj _ _ w K) ?_);refine ag.at b H e rfl ⟨rfl,ag.bj a H c rfl (ag.at a H c rfl ?_)⟩;exact NY H j f _ ep er el ef λh H=>ak.go H λg H=>k g H
theorem TP (H:aJ D G w0 w L) (j:Nat) (o:L[j]? =some (bk,rW fr pg wt lv fd s)) (ep:Bool) (er:Int) (el:Bool) (ef:Int) {K:Unit->A2->Prop}
 (k: ∀E,aJ D G w0 E (L.set j (bk,rW (tookS fr pg wt lv fd ep er el ef).1 pg wt (tookS fr pg wt lv fd ep er el ef).2.1 (tookS fr pg wt lv fd ep er el ef).2.2 s))->K () E):
 aA AC 326 (.bu []) [ah (ae bk),.agg ⟨[.bool ep,aa er,.bool el,aa ef]⟩] w K:=by
 refine aA.go H λw1 H=>aj (C:=M3) (b_:=wQ) (AR (TN _ ep er el ef w1 K) ?_);refine aH.go H λbp E H=>aH.go H λbe Z H=>⟨rfl,ag.bj 0 H rfl rfl (ag.at 0 H rfl rfl ⟨trivial,ag.at 1 H rfl rfl ⟨λ_=>rfl,λ_=>rfl,ag.bj (j+2) H o rfl ⟨rfl,ag.bj 0 H rfl rfl (ag.at 1 H rfl rfl ⟨λ_=>rfl,λ_=>rfl,ag.bj (j+2) H o rfl ⟨rfl,ag.bj 0 H rfl rfl ⟨λ_=>rfl,ag.bj 0 H rfl rfl (ag.at 1 H rfl rfl ⟨λ_=>rfl,λ_=>rfl,ag.bj (j+2) H o rfl ?_⟩)⟩⟩⟩)⟩⟩⟩)⟩;refine aH.go H λbs w4 H=>?_;dsimp only at H ⊢;generalize P:(!ep)=F at H;generalize Q:(cP ep er el ef&&decide (lv>0))=I at H;generalize R:(el&&lv==1)=J at H;generalize S:(!el&&decide (er>0)&&lv==0)=M at H;have g:tookS fr pg wt lv fd ep er el ef=if F=true then(fr,-1,tD lv 4) else if I=true then(ef,aR .i64 lv 1,fd) else if J=true then(fr,-1,AV lv wt (ay .i64 ef (gj pg 16)) ep er el ef) else if M=true then(fr,-1,AV lv wt ef ep er el ef) else(fr,-1,tD lv 11):=by
  unfold tookS;rw[P,Q,R,S]
 clear P Q R S;refine⟨λn s' w'=> ∃i:Nat,s'.1=i/\n+i=5/\((0<i->F=false)/\(1<i->I=false)/\(2<i->J=false)/\(3<i->M=false)/\i<5)/\aJ D G w0 w' ((bs,[.bool F,.func (.func 353) ⟨[]⟩ ⟨[ah (ae bp)]⟩,.bool I,.func (.func 354) ⟨[]⟩ ⟨[ah (ae be),ah (ae bp)]⟩,
  .bool J,.func (.func 355) ⟨[]⟩ ⟨[ah (ae bp),ah (ae be)]⟩,.bool M,.func (.func 357) ⟨[]⟩ ⟨[ah (ae bp),ah (ae be)]⟩,.bool true,.func (.func 358) ⟨[]⟩ ⟨[ah (ae bp)]⟩])::(be,[.bool ep,aa er,.bool el,aa ef])::(bp,[ah (ae bk)])::L),
  ⟨5,λW X=>⟨0,rfl,rfl,⟨λh=>absurd h (by decide),λh=>absurd h (by decide),λh=>absurd h (by decide),λh=>absurd h (by decide),by decide⟩,H.ext X⟩⟩,?_⟩
 clear H;rintro n ⟨i',u⟩ W ⟨i,hi,hn,⟨b,l,N,Y,hi5⟩,H⟩;simp only at hi;subst hi;dsimp only;have m: ∀{x y z q:Nat×List AG},(x::y::z::q::L)[j+4]? =some (bk,rW fr pg wt lv fd s):=o;have fin: ∀{x y z q:Nat×List AG} {d:A2} {T U:Int} {V:FT},tookS fr pg wt lv fd ep er el ef=(T,U,V)->aJ D G w0 d (x::y::z::q::L.set j (bk,rW T pg wt U V s))->K () d:=λe H=>by
  rw[e] at k;exact k _ ((((H.sub (B1 _ _)).sub (B1 _ _)).sub (B1 _ _)).sub (B1 _ _))
 have p:ay .i64 (i:Int) 1=((i+1:Nat):Int):=by rw[ao (by omega) (by omega)];rfl
 rcases(by omega:i=0\/i=1\/i=2\/i=3\/i=4) with rfl|rfl|rfl|rfl|rfl
 .refine ax rfl ⟨⟨rfl,by decide,by decide⟩,ag.bj 0 H rfl rfl (aH.go H λr t H=>aw.all 0 H rfl rfl rfl λv H=>⟨rfl,ag.bj 0 H rfl rfl (ab (λc=>⟨rfl,ag.bj 0 H rfl rfl ?_⟩) (λc O f=>⟨n - 1,by omega,1,p,by omega,⟨λ_=>c,λh=>absurd h (by decide),λh=>absurd h (by decide),λh=>absurd h (by decide),by decide⟩,(H.sub (B1 _ _)).ext f⟩))⟩)⟩;unfold Hx;refine λd a=>⟨_,⟨[]⟩,⟨[ah (ae bp)]⟩,rfl,by kernel_rfl,Pr (H.ext a) 3 (j+4) rfl m λA H=>ak.go H λB H=>fin ?_ H⟩;rw[g,az c]
 .refine ax rfl ⟨⟨rfl,by decide,by decide⟩,ag.bj 0 H rfl rfl (aH.go H λr t H=>aw.all 0 H rfl rfl rfl λv H=>⟨rfl,ag.bj 0 H rfl rfl (ab (λc=>⟨rfl,ag.bj 0 H rfl rfl ?_⟩) (λc O f=>⟨n - 1,by omega,2,p,by omega,⟨λ_=>b (by decide),λ_=>c,λh=>absurd h (by decide),λh=>absurd h (by decide),by decide⟩,(H.sub (B1 _ _)).ext f⟩))⟩)⟩;unfold Hx;refine λd a=>⟨_,⟨[]⟩,⟨[ah (ae be),ah (ae bp)]⟩,rfl,by kernel_rfl,Pt (H.ext a) 2 3 (j+4) rfl rfl m (by omega) λA H=>ak.go H λB H=>fin ?_ H⟩;rw[g,ar (by rw[b (by decide)];decide),az c]
 .refine ax rfl ⟨⟨rfl,by decide,by decide⟩,ag.bj 0 H rfl rfl (aH.go H λr t H=>aw.all 0 H rfl rfl rfl λv H=>⟨rfl,ag.bj 0 H rfl rfl (ab (λc=>⟨rfl,ag.bj 0 H rfl rfl ?_⟩) (λc O f=>⟨n - 1,by omega,3,p,by omega,⟨λ_=>b (by decide),λ_=>l (by decide),λ_=>c,λh=>absurd h (by decide),by decide⟩,(H.sub (B1 _ _)).ext f⟩))⟩)⟩;unfold Hx;refine λd a=>⟨_,⟨[]⟩,⟨[ah (ae bp),ah (ae be)]⟩,rfl,by kernel_rfl,Pu (H.ext a) 2 3 (j+4) rfl rfl m λA H=>ak.go H λB H=>fin ?_ H⟩;rw[g,ar (by rw[b (by decide)];decide),ar (by rw[l (by decide)];decide),az c]
 .refine ax rfl ⟨⟨rfl,by decide,by decide⟩,ag.bj 0 H rfl rfl (aH.go H λr t H=>aw.all 0 H rfl rfl rfl λv H=>⟨rfl,ag.bj 0 H rfl rfl (ab (λc=>⟨rfl,ag.bj 0 H rfl rfl ?_⟩) (λc O f=>⟨n - 1,by omega,4,p,by omega,⟨λ_=>b (by decide),λ_=>l (by decide),λ_=>N (by decide),λ_=>c,by decide⟩,(H.sub (B1 _ _)).ext f⟩))⟩)⟩;unfold Hx;refine λd a=>⟨_,⟨[]⟩,⟨[ah (ae bp),ah (ae be)]⟩,rfl,by kernel_rfl,Pv (H.ext a) 2 3 (j+4) rfl rfl m λA H=>ak.go H λB H=>fin ?_ H⟩;rw[g,ar (by rw[b (by decide)];decide),ar (by rw[l (by decide)];decide),ar (by rw[N (by decide)];decide),az c]
 .refine ax rfl ⟨⟨rfl,by decide,by decide⟩,ag.bj 0 H rfl rfl (aH.go H λr t H=>aw.all 0 H rfl rfl rfl λv H=>⟨rfl,ag.bj 0 H rfl rfl (ax rfl ⟨rfl,ag.bj 0 H rfl rfl ?_⟩)⟩)⟩;unfold Hx;refine λd a=>⟨_,⟨[]⟩,⟨[ah (ae bp)]⟩,rfl,by kernel_rfl,Ps (H.ext a) 3 (j+4) rfl m λA H=>ak.go H λB H=>fin ?_ H⟩;rw[g,ar (by rw[b (by decide)];decide),ar (by rw[l (by decide)];decide),ar (by rw[N (by decide)];decide),ar (by rw[Y (by decide)];decide)]
end
def nq (Ls:List (Nat×List AG)) (s:Option AE×Nat×Nat) (xs:List Int):Prop:=
 (s=(none,0,0)/\xs=[]/\Ls=[])\/ ∃bs c rest,s=(some ⟨bs,0,none⟩,xs.length,c)/\Ls=[(bs,flat eI xs++rest)]/\(flat eI xs++rest).length=c*aM eI/\xs.length<=c
def okW (ws:List Int):Prop:= ∀x∈ws,0<=x/\x<18446744073709551616
def fZ (ws:List Int) (pg wt:Int) (x:Int×Int×FT):Int×Int×FT:=
 if x.2.1= -1 then x
 else if(!oh (B (eY ws (c9 x.1 pg x.2.1))).toNat||vy ws (c9 x.1 pg x.2.1) != 0)=true then(x.1,-1,tD x.2.1 11)
 else tookS x.1 pg wt x.2.1 x.2.2 (vo (B (eY ws (c9 x.1 pg x.2.1))).toNat) (vp (B (eY ws (c9 x.1 pg x.2.1))).toNat) (wk (B (eY ws (c9 x.1 pg x.2.1))).toNat) (tr (B (eY ws (c9 x.1 pg x.2.1))).toNat)
theorem vM {ws:List Int} (h:okW ws) (i:Int):0<=eY ws i/\eY ws i<18446744073709551616:=by
 unfold eY;split
 .rename_i hi;rw[gz] at hi;exact h _ (by grind)
 simp
section
variable {D G:List Nat} {w0 w:A2} {L L0 Ls:List (Nat×List AG)} {bk bm bw n c:Nat} {ca la fr pg wt lv:Int} {fd:FT} {s:Option AE×Nat×Nat} {ws xs:List Int} {rest:List AG}
theorem Pw (hb:bq w bk (rW fr pg wt lv fd s)) (a:lv≠ -1):aC AC 324 (.el (.agg sA)) [ah (ae bk)] w (λx w'=>x=(1,c9 fr pg lv,0,0,())/\Ext w w'):=by
 refine aQ (C:=M1) (AR (Pe _ w _) ?_);have H:=At.start [] w;refine aH.go H λb c H=>⟨λ_=>rfl,λ_=>rfl,ag.g6 H hb (by simp) rfl ⟨λ_=>rfl,λ_=>rfl,ag.g6 H hb (by simp) rfl (an (by simp[a]) ?_)⟩⟩;refine⟨rfl,rfl,ag.g6 H hb (by simp) rfl ⟨rfl,rfl,ag.g6 H hb (by simp) rfl ⟨rfl,rfl,ag.g6 H hb (by simp) rfl ⟨trivial,aw.all 0 H rfl rfl rfl λd H=>ak.go H λe H=>ag.at 0 H rfl rfl ⟨rfl,H.all⟩⟩⟩⟩⟩
theorem Px (H:At G w0 w ((bk,rW fr pg wt lv fd s)::(bm,gi bw n c ca la)::(bw,flat eW ws++rest)::(Ls++L0))) (q:nq Ls s xs) (J:xs.length<=1000) (r:n=ws.length) (h0:0<n) (t:okW ws) (d:lv≠ -1) {K:Bool->A2->Prop}
 (k: ∀e iC s',nq iC s' (xs++[fr])->At G w0 e ((bk,rW (fZ ws pg wt (fr,lv,fd)).1 pg wt (fZ ws pg wt (fr,lv,fd)).2.1 (fZ ws pg wt (fr,lv,fd)).2.2 s')::(bm,gi bw n c (pM ws (c9 fr pg lv) ca) la)::(bw,flat eW ws++rest)::(iC++L0))->K ((fZ ws pg wt (fr,lv,fd)).2.1== -1) e):
 aA AC 266 gD [ah (ae bk),ah (ae bm)] w K:=by
 refine aA.go H λw1 H=>aj (C:=M1) (AR (Pn _ _ w1 K) ?_);refine⟨λ_=>rfl,λ_=>rfl,ag.bj 0 H rfl rfl (an rfl ⟨rfl,rfl,ag.bj 0 H rfl rfl (an (by simp[d]) ?_)⟩)⟩;refine⟨(1,c9 fr pg lv,0,0,()),ai.of (s:= .el (.agg sA)) λw' h'=>Pw ((H.get (i:=0) rfl).ext h') d,?_⟩;refine aa5 H rfl 1 2 rfl rfl (by decide) r h0 (c9 fr pg lv) 0 0 λe H=>?_;refine aH.go H λb L H=>aw.all 0 H rfl rfl rfl λM H=>⟨rfl,rfl,ag.bj 1 H rfl rfl ⟨rfl,rfl,ag.bj 1 H rfl rfl (aH.go H λb1 N H=>λu z=>?_)⟩⟩;have H:=H.ext z;dsimp only at H ⊢;generalize hv:eY ws (c9 fr pg lv)=v at H ⊢;generalize A:vy ws (c9 fr pg lv)=er at H ⊢;have h:0<=v/\v<18446744073709551616:=by rw[<-hv];exact vM t _
 have H:At G w0 u ([(b1,cellsOf eI fr)]++([(b,[av v,.bool false,aa er]),(bk,rW fr pg wt lv fd s),(bm,gi bw n c (pM ws (c9 fr pg lv) ca) la),(bw,flat eW ws++rest)]++(Ls++L0))):=H;have H:=H.perm (L':=(b1,cellsOf eI fr)::(Ls++([(b,[av v,.bool false,aa er]),(bk,rW fr pg wt lv fd s),(bm,gi bw n c (pM ws (c9 fr pg lv) ca) la),(bw,flat eW ws++rest)]++L0))) (.cons _ (by
  rw[<-DB, <-DB];exact MM _ Hb))
 refine aJ.grow H q rfl rfl rfl (by omega) λbs j a O D E H=>⟨rfl,rfl,aw.c_ 2 H rfl rfl rfl λP H=>⟨rfl,ag.bj 1 H rfl rfl ?_⟩⟩;have F:U (B v)=v:=yz h.1 h.2;refine⟨F,aH.go H λb2 Q H=>aw.all 0 H rfl rfl rfl λR H=>⟨λ_=>rfl,ag.bj 2 H rfl rfl ?_⟩⟩;have m:fZ ws pg wt (fr,lv,fd)=if(!oh (B v).toNat||er != 0)=true then(fr,-1,tD lv 11) else tookS fr pg wt lv fd (vo (B v).toNat) (vp (B v).toNat) (wk (B v).toNat) (tr (B v).toNat):=by
  unfold fZ;simp only[hv,A];rw[ar d]
 have o:nq [(bs,flat eI (xs++[fr])++a)] (some ⟨bs,0,none⟩,xs.length+1,j) (xs++[fr]):= .inr ⟨bs,j,a,by rw[FA];rfl,rfl,D,by rw[FA];exact E⟩;have p: ∀{w:A2} {x y:Nat×List AG} {l:List AG},At G w0 w (x::(bs,flat eI (xs++[fr])++a)::y::(bk,l)::(bm,gi bw n c (pM ws (c9 fr pg lv) ca) la)::(bw,flat eW ws++rest)::L0)->At G w0 w _:=λ{w x y l} H=>by
  have H:=H.sub (B1 _ _);have H:=H.sub (L':=[(bs,flat eI (xs++[fr])++a)]++([(bk,l),(bm,gi bw n c (pM ws (c9 fr pg lv) ca) la),(bw,flat eW ws++rest)]++L0)) (.cons_cons _ (B1 _ _));refine H.perm ?_;refine MJ (l₂:=[(bk,l),(bm,gi bw n c (pM ws (c9 fr pg lv) ca) la),(bw,flat eW ws++rest)]++([(bs,flat eI (xs++[fr])++a)]++L0)) (.refl _) ?_;rw[<-DB, <-DB];exact MM _ Hb
 refine ab (λf=>?_) (λf=>ag.at 0 H rfl rfl ?_)
 .rw[m,az f] at k;exact qM H 3 rfl 0 0 0 11 λI H=>ak.go H λg H=>k g _ _ o (p H)
 .rw[m,ar (by rw[f];decide)] at k;refine TP H 3 rfl _ _ _ _ λI H=>⟨rfl,rfl,ag.bj 3 H rfl rfl (ak.go H λg H=>k g _ _ o (p H))⟩
def Cm (f p t:Int):Bool:=decide (c9 f p 3<0)||decide (t<0)||decide (t>7)
theorem TQ (H:aJ D G w0 w L) (f p t:Int) {K:Option AE->A2->Prop} (hb:Cm f p t=true-> ∀w1,aJ D G w0 w1 L->K none w1)
 (d:Cm f p t=false-> ∀bk w1,aJ D G w0 w1 ((bk,rW f p t 3 (0,0,0,0,()) (none,0,0))::L)->K (ae bk) w1):
 aA AC 321 oq [aa f,aa p,aa t] w K:=by
 refine aA.go H λw1 H=>aj (C:=M1) (AR (TL f p t w1 K) ?_);refine aH.go H λb e H=>⟨trivial,ab (λc=>ak.go H λa H=>hb c a (H.sub (by grind))) (λc=>ak.go H λa H=>d c b a H)⟩
end
section
variable {D G:List Nat} {w0 w:A2}
theorem _root_.Go.RX.aJ.DE {e:El} {s:Option AE×Nat×Nat} {xs ys:List e.T} {b U:Nat} {J:List AG} {Ls L0:List (Nat×List AG)} (H:aJ D G w0 w ((b,flat e ys++J)::(Ls++L0))) (d:ys≠[])
 (o:(s=(none,0,0)/\xs=[]/\Ls=[])\/ ∃bs c rest,s=(some ⟨bs,0,none⟩,xs.length,c)/\Ls=[(bs,flat e xs++rest)]/\(flat e xs++rest).length=c*aM e/\xs.length<=c)
 (V:lx e=true) {t:Du} {size bytes:Nat} {z:Array AG} (q:size=aM e) (W:z.size=aM e) (hb:(xs.length+ys.length)*bytes<=140737488355328)
 {R:Option AE×Nat×Nat->A2->Prop} (k: ∀bs c rest w',(flat e (xs++ys)++rest).length=c*aM e->(xs++ys).length<=c->aJ D G w0 w' ((bs,flat e (xs++ys)++rest)::L0)->R (some ⟨bs,0,none⟩,(xs++ys).length,c) w'):
 nm w t size bytes z s (some ⟨b,0,none⟩,ys.length,U) R:=by
 subst q;have X:(wC 0 w).heap.size=0:=jx (FC _);have Y:kx (wC 0 w) w e s xs:=by
  rcases o with ⟨rfl,rfl, _⟩|⟨bs,c,rest,rfl,rfl,v,h2⟩
  .exact kx.nil _ _ _
  .refine⟨rfl,h2,.inr ⟨bs, _,rfl,by rw[X];exact FC _,H.get (i:=1) rfl,v,?_⟩⟩;rw[HH (by rw[aK];exact H4 _),HQ (by rw[aK];exact H4 _)]
 have Z:bq w b (flat e ys++J):=H.get (i:=0) rfl;refine mB (ys:=ys) Y (qX (FC _)) V rfl ?_ W hb λs' w' E6 g K q hd=>?_
 .refine Z.rS (aK e ys) λj hj=>?_;rw[B2,HD (by rw[aK];exact hj)]
 .have ⟨p,n,c⟩:=s';have ⟨v,h2,L⟩:=E6;simp only at v h2 L hd;have hyl:0<ys.length:=List.length_pos_iff.2 d;have hlen:(xs++ys).length=xs.length+ys.length:=by simp
  rcases L with ⟨_,M, _⟩|⟨bs,l,a1, _,a3,a4,a5⟩
  .simp at M;exact absurd M.2 d
  .subst a1;subst v;have el:l=flat e (xs++ys)++l.drop ((xs++ys).length*aM e):=by rw[<-a5,HB]
   refine k bs c (l.drop ((xs++ys).length*aM e)) w' (by rw[<-el];exact a4) h2 ?_;rw[<-el];have hG': ∃C,Fr C w w'/\(∀y∈C,y∈Ls.map (·.1)):=by
    rcases o with ⟨rfl, _,rfl⟩|⟨E,co,N,rfl,rfl, _, _⟩
    .exact⟨[],⟨g.os,g.tape,g.output,q,λy d _=>K y d (λa F=>by cases F)⟩,λy d=>by cases d⟩
    .exact⟨[E],⟨g.os,g.tape,g.output,q,λy d hn=>K y d (λa F=>by cases F;simpa using hn)⟩,λy d=>by simpa using d⟩
   have ⟨C,O,I⟩:=hG';have x:=H.nd;simp only[DC,Fh,B5,Fm,E4] at x;have P: ∀y∈Ls.map (·.1),w0.heap.size<=y\/y∈G:=λy d=>by
    obtain⟨u,m,rfl⟩:=AZ.1 d;exact H.own u (B3 _ (FB _ m))
   have Q:bs∈Ls.map (·.1)\/w.heap.size<=bs:=by
    rcases hd with ⟨a,f,A⟩|⟨a,f,A⟩|f
    .cases f;rcases o with ⟨rfl, _, _⟩|⟨E,co,N,rfl,rfl, _, _⟩
     .cases A
     .cases A;exact .inl (by simp)
    .cases f;exact .inr A
    .rcases o with ⟨rfl,rfl, _⟩|⟨E,co,N,rfl,rfl, _, _⟩
     .cases f
     .have S:=congrArg (λz=>z.2.1) f;simp at S;exact absurd S d
   refine H.frame O (λy d=>P y (I y d)) (λr hr d=>?_) (λy d=>?_) (λy d=>?_) ?_
   .have ⟨u,m,f⟩:=AZ.1 (I r d);exact aJ.dG (H.d_ u (B3 _ (FB _ m))) (H.rV r hr).2 (λ_ _ _ hc=>by cases hc) f
   .rcases B4.1 d with rfl|d
    .exact a3
    .refine O.d_ (λB=>?_) (H.d_ y (B3 _ (Dl _ d)));exact x.2.2.2 y.1 (I _ B) y.1 (AZ.2 ⟨y,d,rfl⟩) rfl
   .rcases B4.1 d with rfl|d
    .rcases Q with h|h
     .exact P _ h
     .exact .inl (DS H.fr.size h)
    .exact H.own y (B3 _ (Dl _ d))
   .refine B5.2 ⟨λB=>?_,x.2.2.1⟩;rcases Q with h|h
    .exact x.2.2.2 bs h bs B rfl
    .have ⟨u,m,f⟩:=AZ.1 B;have:=(H.d_ u (B3 _ (Dl _ m))).lt;simp only at f h;omega
end
abbrev g7 (br n c:Nat):List AG:=[.slice (ae br) n c]
def jF (gs:List GT) (i:Int):Option Nat:=if 0<=i/\i<gs.length/\gs.getD i.toNat zG≠zG then some i.toNat else none
def kX (gs:List GT) (i:Int):GT:=match jF gs i with
 |some k=>gs.getD k zG
 |none=>zG
def eB (gs:List GT) (i g:Int) (b:Bool):Int:=match jF gs i with
 |none=>4
 |some k=>if((gs.getD k zG).2.2.1 != g||b&& !(gs.getD k zG).2.2.2.1)=true then 7 else if(gs.getD k zG).2.2.2.2.1=1000 then 3 else 0
def fM (x:GT) (n:Int):GT:=(x.1,x.2.1,x.2.2.1,x.2.2.2.1,x.2.2.2.2.1+n,())
def de (gs:List GT) (i g:Int) (b:Bool):List GT:=if eB gs i g b=0 then gs.set i.toNat (fM (gs.getD i.toNat zG) 1) else gs
def jS (gs:List GT) (i g:Int):Int:=match jF gs i with
 |none=>4
 |some k=>if(gs.getD k zG).2.2.1≠g then 7 else if(gs.getD k zG).2.2.2.2.1=0 then 6 else 0
def dj (gs:List GT) (i g:Int):List GT:=if jS gs i g=0 then gs.set i.toNat (fM (gs.getD i.toNat zG) (-1)) else gs
def mQ (gs:List GT) (i o:Int):Int:=match jF gs i with
 |none=>4
 |some k=>if(gs.getD k zG).1≠o then 7 else if(gs.getD k zG).2.2.2.2.1>0 then 9 else 0
def jf (gs:List GT) (i o:Int):List GT:=if mQ gs i o=0 then gs.set i.toNat zG else gs
def cI (gs:List GT) (p:GT->Bool) (n:Nat):List Int:=((H2 n).filter λ(i:Nat)=>p (gs.getD i zG)).map λ(i:Nat)=>(i:Int)
def fw (o q t:Int) (x:GT):Bool:=o==x.1&&(q==x.2.1&&t==x.2.2.1)
def dN (x:GT):Bool:=decide (x=zG)
def l8 (g:Int) (x:GT):Bool:= !dN x&&(x.1==g||x.2.2.1==g)
def iT (gs:List GT) (o q t:Int):Int:=
 if(!gG o|| !gG t||o==t||decide (q<0)||decide (q>=65536))=true then 1
 else if cI gs (fw o q t) gs.length≠[] then 5 else if cI gs dN gs.length=[] then 3 else 0
def gU (gs:List GT) (o q t:Int):Int:=if iT gs o q t=0 then(cI gs dN gs.length).headD 0 else 0
def ib (gs:List GT) (o q t:Int) (b:Bool):List GT:=if iT gs o q t=0 then gs.set (gU gs o q t).toNat (o,q,t,b,0,()) else gs
def bY (gs:List GT) (g:Int):List GT:=gs.map λx=>if l8 g x=true then zG else x
theorem D7 (x:GT):mP x.1 x.2.1 x.2.2.1 x.2.2.2.1 x.2.2.2.2.1=dN x:=rfl
theorem mC (gs:List GT) (p:GT->Bool) (n:Nat):cI gs p (n+1)=cI gs p n++(if p (gs.getD n zG)=true then[(n:Int)] else[]):=by
 unfold cI;rw[List.range_succ,List.filter_append,Fh];by_cases h:p (gs.getD n zG)=true
 .rw[az h,L2,az h];rfl
 .rw[ar h,L2,ar h];rfl
theorem iN {gs:List GT} {p:GT->Bool} {n:Nat} {x:Int}:x∈cI gs p n<-> ∃i:Nat,i<n/\p (gs.getD i zG)=true/\x=(i:Int):=by
 unfold cI;simp only[AZ,List.mem_filter,LL];constructor
 .rintro⟨i,⟨a,h2⟩,rfl⟩;exact⟨i,a,h2,rfl⟩
 .rintro⟨i,a,h2,rfl⟩;exact⟨i,⟨a,h2⟩,rfl⟩
theorem qZ (gs:List GT) (p:GT->Bool) (n:Nat):(cI gs p n).length<=n:=by
 unfold cI;rw[List.length_map];exact DS (List.length_filter_le _ _) (by simp)
theorem iu {gs:List GT} {i:Int} {k:Nat} (h:jF gs i=some k):0<=i/\i<gs.length/\k=i.toNat/\gs[k]? =some (gs.getD k zG)/\gs.getD k zG≠zG:=by
 unfold jF at h;split at h
 .rename_i c;cases h;refine⟨c.1,c.2.1,rfl,?_,c.2.2⟩;rw[GS,DA (by omega)];rfl
 .cases h
section
variable {D G:List Nat} {w0 w:A2} {L:List (Nat×List AG)} {bg br c:Nat} {gs:List GT} {rest:List AG}
theorem JZ (h:bq w bg (g7 br gs.length c)) (h0:0<gs.length):aC AC 170 gD [ah (ae bg)] w (λx w'=>x=true/\Ext w w'):=by
 refine aj (C:=G3) (AR (JA _ w _) ?_);refine⟨λ_=>rfl,λ_=>rfl,(some ⟨br,0,none⟩,gs.length,c),λ_=>?_,λw1 a=>⟨?_,a⟩⟩
 .rw[aS];exact h.mF rfl
 .simp;exact h0
theorem nW (h:bq w bg (g7 br gs.length c)) (h0:0<gs.length):ai AC 170 [ah (ae bg)] w (.bool true):=
 ai.of (s:= .el cr) λw' h'=>JZ (h.ext h') h0
def Cn (br:Nat) (gs:List GT) (i:Int):Option AE:=(jF gs i).map λk=>⟨br,k*5,none⟩
def Co (gs:List GT) (i:Int):Int:=if(jF gs i).isSome then 0 else 4
theorem Yo (h:bq w bg (g7 br gs.length c)) (l:bq w br (flat eG gs++rest)) (h0:0<gs.length) (i:Int):
 aC AC 293 (.bu [bF,aq]) [ah (ae bg),aa i] w (λx w'=>x=(Cn br gs i,Co gs i,())/\Ext w w'):=by
 refine aj (C:=G3) (AR (Yg _ i w _) ?_);have g:bP w (ad (ae bg) 0) bX (some ⟨br,0,none⟩,gs.length,c):=by rw[aS];exact h.mF rfl
 refine⟨_,nW h h0,an rfl ⟨λ_=>rfl,λ_=>rfl,(some ⟨br,0,none⟩,gs.length,c),λ_=>g,λ_=>rfl,λ_=>rfl,(some ⟨br,0,none⟩,gs.length,c),λ_=>g,?_⟩⟩;dsimp only;have k:(jF gs i=none)->(Cn br gs i,Co gs i,())=((none,4,()):Option AE×Int×Unit):=λe=>by
  unfold Cn Co;rw[e];rfl
 by_cases b:0<=i/\i<gs.length
 .have j:(decide (i<0)||decide (i>=((gs.length:Nat):Int)))=false:=by
   rw[Dt,decide_eq_false_iff_not,decide_eq_false_iff_not];omega
  have m:gs[i.toNat]? =some (gs.getD i.toNat zG):=by
   rw[GS,DA (by omega)];rfl
  rw[j];refine⟨λ_=>⟨rfl,b.1,b.2⟩,gs.getD i.toNat zG,λ_=>dK (e:=eG) l m,λ_=>trivial,?_⟩;rw[D7];refine ab (λd=>λw1 f=>⟨(k ?_).symm,f⟩) (λd=>⟨rfl,rfl,ag.of _ g ⟨⟨rfl,b.1,b.2⟩,λw1 f=>⟨?_,f⟩⟩⟩)
  .have d:gs.getD i.toNat zG=zG:=by simpa[dN] using d
   unfold jF;rw[ar (λa=>a.2.2 d)]
  .have d: ¬ gs.getD i.toNat zG=zG:=by simpa[dN] using d
   have e:jF gs i=some i.toNat:=by unfold jF;rw[az ⟨b.1,b.2,d⟩]
   unfold Cn Co;rw[e,aS];simp
 .have j:(decide (i<0)||decide (i>=((gs.length:Nat):Int)))=true:=by
   rw[Do,decide_eq_true_eq,decide_eq_true_eq];omega
  rw[j];refine⟨λa=>(by cases a),zG,λa=>(by cases a),λ_=>trivial,ax rfl λw1 f=>⟨(k ?_).symm,f⟩⟩;unfold jF;rw[ar (λa=>b ⟨a.1,a.2.1⟩)]
theorem HW (h:bq w bg (g7 br gs.length c)) (a:bq w br (flat eG gs++rest)) (h0:0<gs.length) (i:Int):
 ai AC 293 [ah (ae bg),aa i] w ((Sh.bu [bF,aq]).g9 (Cn br gs i,Co gs i,())):=
 ai.of (s:= .bu [bF,aq]) λw' h'=>Yo (h.ext h') (a.ext h') h0 i
theorem TR {bc:Nat} {o q t:Int} (hc:bq w bc [aa o,aa q,aa t,.bool false,aa 0]) (x:GT):
 ai AC 296 [.agg ⟨[aa x.1,aa x.2.1,aa x.2.2.1,.bool x.2.2.2.1,aa x.2.2.2.2.1]⟩,ah (ae bc)] w (.bool (fw o q t x)):=by
 refine ai.of (s:= .el cr) λw' h'=>aj (C:=G3) (AR (OU _ _ _ _ _ _ w' _) ?_);have H:=At.start [] w';refine aH.go H λb a H=>ag.of (o,q,t,false,0,()) (cK ((hc.ext h').ext H.all) rfl) ⟨rfl,ag.bj 0 H rfl rfl ⟨rfl,ag.bj 0 H rfl rfl ⟨rfl,ag.bj 0 H rfl rfl (ak.go H λc H=>⟨?_,H.all⟩)⟩⟩⟩;unfold fw;simp
theorem Py {bc:Nat} {g:Int} (hc:bq w bc [aa g]) (x:GT):
 ai AC 283 [.agg ⟨[aa x.1,aa x.2.1,aa x.2.2.1,.bool x.2.2.2.1,aa x.2.2.2.2.1]⟩,ah (ae bc)] w (.bool (l8 g x)):=by
 refine ai.of (s:= .el cr) λw' h'=>aj (C:=G3) (AR (JB _ _ _ _ _ _ w' _) ?_);have H:=At.start [] w';refine aH.go H λb c H=>?_;have a:bP c (ae bc) aq g:=cK ((hc.ext h').ext H.all) rfl;refine ag.at 0 H rfl (show _=some x from rfl) ⟨trivial,λ_=>rfl,ag.bj 0 H rfl rfl (ag.of g a ⟨λ_=>rfl,ag.bj 0 H rfl rfl (ag.of g a (ak.go H λd H=>⟨?_,H.all⟩))⟩)⟩;rfl
theorem AN {j:Nat} {x:Nat×List AG} (h:L[j]? =some x):L.set j x=L:=Df λm=>by
 by_cases e:j=m
 .subst e;rw[Ch (Ce.1 h).1,h]
 .rw[C7 e]
end
end Go.Proofs.YteeflilbnoknnaaGreat
namespace Go.Proofs.YteeflilbnoknnaaGreat.Po
set_option maxRecDepth 100000
open Go.RX
abbrev sQ:List Sc:=[aG,aG,aG,.bool,.bool]
abbrev eQ:El:= .agg sQ
abbrev PT:Type:=Int×Int×Int×Bool×Bool×Unit
def zP:PT:=(0,0,0,false,false,())
def gI (n:Int):Bool:=decide (n>=1)&&decide (n<=16)
noncomputable def R0:fa AC:={C3 with wx:=false}
theorem Pz (n:Int) (w:A2) (a:Bool->A2->Prop):(aL R0 (λ_=>[]) 175 [aa n] w a)=(
 ak w (a (decide (n>=1)&&decide (n<=16)))):=by kernel_rfl
theorem J0 (n:Int) (w:A2) (a:Bool->A2->Prop):(aL R0 (λ_=>[]) 178 [aa n] w a)=(
 ak w (a (decide (n>=1)&&decide (n<=16)))):=by kernel_rfl
theorem PA (n:Int) (w:A2):aC AC 175 gD [aa n] w (λx w'=>x=gI n/\Ext w w'):=by
 refine aj (C:=R0) (AR (Pz n w _) ?_);have H:=At.start [] w
 repeat' (first
  |exact Go.RX.aJ.all H
  |exact Fe (by first|rfl|decide+kernel) (Go.RX.aJ.all H)
  |refine Fe (by first|exact rfl|exact trivial|exact λ_=>rfl|exact λ_=>trivial|exact⟨rfl,by decide,by decide⟩|exact⟨by decide,by decide⟩|decide+kernel|exact λ_=>by decide|exact λ_=>⟨rfl,by decide,by decide⟩|(dsimp only[Hr,Hz];exact⟨rfl,by decide,by decide⟩)) ?_
  |refine ag.bj 0 H rfl rfl ?_
  |refine ag.bj 1 H rfl rfl ?_
  |refine ag.at 0 H rfl rfl ?_
  |refine ag.at 1 H rfl rfl ?_
  |refine aH.go H λb w1 H=>?_
  |refine aw.all 0 H rfl rfl rfl λw1 H=>?_
  |refine aw.all 1 H rfl rfl rfl λw1 H=>?_
  |refine aw.c_ 0 H rfl rfl rfl λw1 H=>?_
  |refine aw.c_ 1 H rfl rfl rfl λw1 H=>?_
  |refine aw.one 0 H rfl rfl rfl λw1 H=>?_
  |refine aw.one 1 H rfl rfl rfl λw1 H=>?_
  |with_reducible refine ak.go H λw1 H=>?_
  |refine im ?_
  |refine ax (by assumption) ?_
  |refine an (by assumption) ?_
  |refine ab (λc=>?_) (λc=>?_))
theorem J1 (n:Int) (w:A2):aC AC 178 gD [aa n] w (λx w'=>x=gI n/\Ext w w'):=by
 refine aj (C:=R0) (AR (J0 n w _) ?_);have H:=At.start [] w
 repeat' (first
  |exact Go.RX.aJ.all H
  |exact Fe (by first|rfl|decide+kernel) (Go.RX.aJ.all H)
  |refine Fe (by first|exact rfl|exact trivial|exact λ_=>rfl|exact λ_=>trivial|exact⟨rfl,by decide,by decide⟩|exact⟨by decide,by decide⟩|decide+kernel|exact λ_=>by decide|exact λ_=>⟨rfl,by decide,by decide⟩|(dsimp only[Hr,Hz];exact⟨rfl,by decide,by decide⟩)) ?_
  |refine ag.bj 0 H rfl rfl ?_
  |refine ag.bj 1 H rfl rfl ?_
  |refine ag.at 0 H rfl rfl ?_
  |refine ag.at 1 H rfl rfl ?_
  |refine aH.go H λb w1 H=>?_
  |refine aw.all 0 H rfl rfl rfl λw1 H=>?_
  |refine aw.all 1 H rfl rfl rfl λw1 H=>?_
  |refine aw.c_ 0 H rfl rfl rfl λw1 H=>?_
  |refine aw.c_ 1 H rfl rfl rfl λw1 H=>?_
  |refine aw.one 0 H rfl rfl rfl λw1 H=>?_
  |refine aw.one 1 H rfl rfl rfl λw1 H=>?_
  |with_reducible refine ak.go H λw1 H=>?_
  |refine im ?_
  |refine ax (by assumption) ?_
  |refine an (by assumption) ?_
  |refine ab (λc=>?_) (λc=>?_))
noncomputable def Yp:Entry AC where
 f:=175
 fn l:=match l with
  |[.int .i64 a]=>some (True,.bool (gI a))
  | _=>none
 ok args pre v h b w:=by
  split at h
  .rename_i a;cases h;exact a7 (PA a w)
  .cases h
noncomputable def TS:Entry AC where
 f:=178
 fn l:=match l with
  |[.int .i64 a]=>some (True,.bool (gI a))
  | _=>none
 ok args pre v h b w:=by
  split at h
  .rename_i a;cases h;exact a7 (J1 a w)
  .cases h
noncomputable def R1:fa AC:={R0 with oW:=[Yp,TS],quiet:=[174,176,299,342,301,248,249]}
theorem PB (p:Option AE) (w:A2) (a:Bool->A2->Prop):(aL R1 (λ_=>[]) 174 [ah p] w a)=(
 ((!p.isNone)=true->p.isSome=true)/\((!p.isNone)=true->p.isSome=true)/\ag w (some !p.isNone) (ad p 2560) aq λ(x:Int)=>ak w (a (!p.isNone&&decide (x>0)))):=by kernel_rfl
theorem Nw (p:Option AE) (g i:Int) (w:A2) (a:Option AE->A2->Prop):(aL R1 (λ_=>[]) 176 [ah p,aa g,aa i] w a)=(
 ∃x,ai AC 174 [ah p] w (.bool x)/\((!!x)=true->True)/\((!(!x|| !gI g||decide (i<0)))=true->p.isSome=true)/\((!(!x|| !gI g||decide (i<0)))=true->p.isSome=true)/\ag w (some !(!x|| !gI g||decide (i<0))) (ad p 2560) aq λ(b:Int)=>aD (!x|| !gI g||decide (i<0)||decide (i>=b)) (ak w (a none)) (p.isSome=true/\p.isSome=true/\((ad p 0).isSome=true/\0<=aR .i64 g 1/\aR .i64 g 1<(↑16:Int))/\((ad (ad p 0) ((aR .i64 g 1).toNat*160)).isSome=true/\0<=i/\i<(↑32:Int))/\(ad (ad (ad p 0)
 ((aR .i64 g 1).toNat*160)) (i.toNat*5)).isSome=true/\ag w none (ad (ad (ad p 0) ((aR .i64 g 1).toNat*160)) (i.toNat*5)) (.agg [aG,aG,aG,.bool,.bool]) λ(x:Int×Int×Int×Bool×Bool×Unit)=>aD (x.1==0&&(x.2.1==0&&(x.2.2.1==0&&(x.2.2.2.1==false&&(x.2.2.2.2.1==false&&true))))) (ak w (a none)) (ak w λw1=>a (ad (ad (ad p 0) ((aR .i64 g 1).toNat*160)) (i.toNat*5)) w1))):=by kernel_rfl
def uO:Nat->aW:=(λ|2=>[(10,Go.RX.El.one (Go.RX.Sc.int AU))]| _=>[])
theorem PC (p:Option AE) (g:Int) (w:A2) (a:Int->A2->Prop):(aL R1 uO 342 [ah p,aa g] w a)=(
 dw p 2560 w λx=> ∃(I:Nat->Int×Unit->A2->Prop),(∃n, ∀w1,Ext w w1->I n (0,()) w1)/\ ∀(n:Nat) (s:Int×Unit) (w1:A2),I n s w1->aD (decide (s.1<x)) (∃(x:Option AE),ai AC 176 [ah p,aa g,aa s.1] w1 (ah x)/\aD x.isNone (ak w1 (a s.1)) (∀b,Ext w1 b-> ∃(c:Nat),c<n/\I c (ay .i64 s.1 1,()) b)) (ak w1 (a (-1)))):=by kernel_rfl
theorem Yq (p:Option AE) (g r:Int) (w:A2) (a:Int->A2->Prop):(aL R1 (λ_=>[]) 299 [ah p,aa g,aa r] w a)=(
 ∃x,ai AC 174 [ah p] w (.bool x)/\aD (!x) (ak w (a 10)) (True/\((!!gI g)=true->True)/\aD (!gI g|| !gI r||g==r) (ak w (a 1)) (ak w (a 0)))):=by kernel_rfl
theorem TT (p:Option AE) (w:A2) (a:Int->A2->Prop):(aL R1 (λ_=>[]) 301 [ah p] w a)=(
 ∃x,ai AC 174 [ah p] w (.bool x)/\aD (!x) (ak w (a 10)) (ak w (a 4))):=by kernel_rfl
theorem Yr (p:Option AE) (g:Int) (e f h:Int) (i j:Bool) (w:A2) (d:Int×Int×Unit->A2->Prop):(aL R1 (λ_=>[]) 300 [ah p,aa g,.agg ⟨[aa e,aa f,aa h,.bool i,.bool j]⟩] w d)=(
 aH w ⟨[aa e,aa f,aa h,.bool i,.bool j]⟩ 262 λb a=> ∃(x:Int),ai AC 342 [ah p,aa g] a (aa x)/\aD (x== -1) (ak a (d (0,3,()))) (ag a none (ae b) (.agg [aG,aG,aG,.bool,.bool]) λ(c:Int×Int×Int×Bool×Bool×Unit)=>p.isSome=true/\p.isSome=true/\((ad p 0).isSome=true/\0<=aR .i64 g 1/\aR .i64 g 1<(↑16:Int))/\((ad (ad p 0) ((aR .i64 g 1).toNat*160)).isSome=true/\0<=x/\x<(↑32:Int))/\aw a (ad (ad (ad p 0) ((aR .i64 g
 1).toNat*160)) (x.toNat*5)) [aa c.1,aa c.2.1,aa c.2.2.1,.bool c.2.2.2.1,.bool c.2.2.2.2.1] λa=>ak a (d (x,0,())))):=by kernel_rfl
theorem PD (p:Option AE) (g r:Int) (w:A2) (a:Int×Int×Unit->A2->Prop):(aL R1 (λ_=>[]) 228 [ah p,aa g,aa r] w a)=(
 ∃(x:Int),ai AC 299 [ah p,aa g,aa r] w (aa x)/\aD (x != 0) (ak w (a (0,x,()))) (aA AC 300 (.bu [aq,aq]) [ah p,aa g,.agg ⟨[aa 1,aa r,aa 0,.bool false,.bool false]⟩] w λ(x:Int×Int×Unit) b=>ak b (a (x.1,x.2.1,())))):=by kernel_rfl
theorem PE (p:Option AE) (g r i:Int) (w:A2) (a:Int×Int×Unit->A2->Prop):(aL R1 (λ_=>[]) 229 [ah p,aa g,aa r,aa i] w a)=(
 ∃(x:Int),ai AC 299 [ah p,aa g,aa r] w (aa x)/\aD (x != 0) (ak w (a (0,x,()))) (∃(x:Option AE),ai AC 176 [ah p,aa r,aa i] w (ah x)/\aD x.isNone (ak w (a (0,4,()))) (dw x 0 w λd=>aD (d==2) (ak w (a (0,6,()))) (dw x 1 w λe=>aD (e != g) (ak w (a (0,7,()))) (aA AC 300 (.bu [aq,aq]) [ah p,aa g,.agg ⟨[aa 2,aa r,aa i,.bool false,.bool false]⟩] w λ(b:
 Int×Int×Unit) c=>aD (b.2.1==0) (x.isSome=true/\x.isSome=true/\aw c (ad x 0) [aa 2] λc=>x.isSome=true/\x.isSome=true/\aw c (ad x 2) [aa b.1] λc=>ak c (a (b.1,b.2.1,()))) (ak c (a (b.1,b.2.1,())))))))):=by kernel_rfl
theorem PF (p:Option AE) (g i:Int) (w:A2) (a:Int->A2->Prop):(aL R1 (λ_=>[]) 230 [ah p,aa g,aa i] w a)=(
 ∃(x:Option AE),ai AC 176 [ah p,aa g,aa i] w (ah x)/\aD x.isNone (∃(x:Int),ai AC 301 [ah p] w (aa x)/\ak w (a x)) (dw x 0 w λc=>aD (c != 2) (ak w (a 6)) (dw x 1 w λd=>dw x 2 w λx=> ∃(b:Option AE),ai AC 176 [ah p,aa d,aa x] w (ah b)/\b.isSome=true/\b.isSome=true/\aw w (ad b 3) [.bool true] λe=>ak e (a 0)))):=by kernel_rfl
def uP:Nat->aW:=(λ|5=>[(5,Go.RX.El.one Go.RX.Sc.slice),(15,Go.RX.El.one (Go.RX.Sc.int AU))]| _=>[])
theorem PG (p:Option AE) (g:Int) (w:A2) (e:Option AE×Nat×Nat->A2->Prop):(aL R1 uP 302 [ah p,aa g] w e)=(
 ∃x,ai AC 174 [ah p] w (.bool x)/\aD (!x) (ak w (e (none,0,0))) (dw p 2560 w λx=> ∃(I:Nat->(Option AE×Nat×Nat)×Int×Unit->A2->Prop),(∃n, ∀w1,Ext w w1->I n ((none,0,0),0,()) w1)/\ ∀(n:Nat) (s:(Option AE×Nat×Nat)×Int×Unit) (w1:A2),I n s w1->aD (decide (s.2.1<x)) (∃(x:Option AE),ai AC 176 [ah p,aa g,aa s.2.1] w1 (ah x)/\((!x.isNone)=true->x.isSome=true)/\((!x.isNone)=true->x.isSome=true)/\ag w1 (some !x.isNone) (ad x 3) cr λd=>
 ((!x.isNone&&d)=true->x.isSome=true)/\((!x.isNone&&d)=true->x.isSome=true)/\ag w1 (some (!x.isNone&&d)) (ad x 4) cr λh=>aD (!x.isNone&&d&& !h) (aH w1 ⟨[aa s.2.1]⟩ 3 λb f=> ∀w1,Ext f w1->nm w1 3 1 8 ⟨[aa 0]⟩ (s.1.1,s.1.2.1,s.1.2.2) (some ⟨b,0,none⟩,1,1) λ(r:Option AE×Nat×Nat) f=> ∀a,Ext f a-> ∃(c:Nat),c<n/\I c ((r.1,r.2.1,r.2.2),ay .i64 s.2.1 1,()) a) (∀a,Ext w1 a-> ∃(c:Nat),c<n/\I c ((s.1.1,s.1.2.1,s.1.2.2),ay .i64 s.2.1 1,()) a)) (ak w1 (e
 (s.1.1,s.1.2.1,s.1.2.2))))):=by kernel_rfl
theorem PH (p:Option AE) (g:Int) (w:A2) (c:Int×Bool×Unit->A2->Prop):(aL R1 (λ_=>[]) 231 [ah p,aa g] w c)=(
 aA AC 302 di [ah p,aa g] w λx a=>aD ((↑x.2.1:Int)==0) (ak a (c (0,false,()))) ((x.1.isSome=true/\(0:Int)<=0/\0<(↑x.2.1:Int))/\aN a (ad x.1 0) λd=> ∃(b:Option AE),ai AC 176 [ah p,aa g,aa d] a (ah b)/\b.isSome=true/\b.isSome=true/\aw a (ad b 3) [.bool false] λa=>(x.1.isSome=true/\(0:Int)<=0/\0<(↑x.2.1:Int))/\aN a (ad x.1 0) λx=>ak a (c (x,true,())))):=by kernel_rfl
theorem J4 (p:Option AE) (g i:Int) (w:A2) (c:Int->A2->Prop):(aL R1 (λ_=>[]) 232 [ah p,aa g,aa i] w c)=(
 ∃(x:Option AE),ai AC 176 [ah p,aa g,aa i] w (ah x)/\aD x.isNone (∃(x:Int),ai AC 301 [ah p] w (aa x)/\ak w (c x)) (dw x 0 w λd=>aD (d==2) (dw x 1 w λe=>dw x 2 w λf=> ∃(a:Option AE),ai AC 176 [ah p,aa e,aa f] w (ah a)/\a.isSome=true/\a.isSome=true/\aw w (ad a 0) [aa 1] λb=>a.isSome=true/\a.isSome=true/\aw b (ad a 2) [aa 0] λb=>x.isSome=true/\aw b x [aa 0,.int .i64
 0,aa 0,.bool false,.bool false] λb=>ak b (c 0)) (x.isSome=true/\aw w x [aa 0,aa 0,aa 0,.bool false,.bool false] λb=>ak b (c 0)))):=by kernel_rfl
def uQ:Nat->aW:=(λ|5=>[(5,Go.RX.El.one (Go.RX.Sc.int AU)),(22,Go.RX.El.one (Go.RX.Sc.int AU))]|11=>[(5,Go.RX.El.one (Go.RX.Sc.int AU)),(7,Go.RX.El.one (Go.RX.Sc.int AU))]|14=>[(5,Go.RX.El.one (Go.RX.Sc.int AU)),(41,Go.RX.El.one (Go.RX.Sc.int AU))]| _=>[])
theorem PI (p:Option AE) (g:Int) (w:A2) (h:Int->A2->Prop):(aL R1 uQ 209 [ah p,aa g] w h)=(
 ∃x,ai AC 174 [ah p] w (.bool x)/\((!!x)=true->True)/\aD (!x|| !gI g) (ak w (h 0)) (dw p 2560 w λx=> ∃(I:Nat->Int×Int×Unit->A2->Prop),(∃n, ∀w1,Ext w w1->I n (0,0,()) w1)/\ ∀(n:Nat) (s:Int×Int×Unit) (w1:A2),I n s w1->aD (decide (s.2.1<x)) (aA AC 232 aT [ah p,aa g,aa s.2.1] w1 λ(x:Int) e=>aD (x==0) (∀a,Ext e a-> ∃(b:Nat),b<n/\I b (ay .i64 s.1 1,ay .i64 s.2.1 1,()) a) (∀a,Ext e a-> ∃(b:Nat),b<n/\I b (s.1,ay .i64 s.2.1 1,
 ()) a)) (∃(I:Nat->Int×Int×Unit->A2->Prop),(∃n, ∀d,Ext w1 d->I n (s.1,1,()) d)/\ ∀(n:Nat) (s:Int×Int×Unit) (w1:A2),I n s w1->aD (decide (s.2.1<=16)) (dw p 2560 w1 λx=> ∃(f:Nat->Int×Int×Unit->A2->Prop),(∃n, ∀d,Ext w1 d->f n (s.1,0,()) d)/\ ∀(i:Nat) (c:Int×Int×Unit) (w1:A2),f i c w1->aD (decide (c.2.1<x)) (∃(x:Option AE),ai AC 176 [ah p,aa s.2.1,aa c.2.1] w1 (ah x)/\((!x.isNone)=true->x.isSome=true)/\
 ((!x.isNone)=true->x.isSome=true)/\ag w1 (some !x.isNone) (ad x 1) aq λ(j:Int)=>aD (!x.isNone&&j==g) (x.isSome=true/\aw w1 x [aa 0,aa 0,aa 0,.bool false,.bool false] λe=> ∀a,Ext e a-> ∃(b:Nat),b<i/\f b (ay .i64 c.1 1,ay .i64 c.2.1 1,()) a) (∀a,Ext w1 a-> ∃(b:Nat),b<i/\f b (c.1,ay .i64 c.2.1 1,()) a)) (∀a,Ext w1 a-> ∃(b:Nat),b<n/\I b (c.1,ay .i64 s.2.1 1,()) a)) (ak w1 (h s.1))))):=by kernel_rfl
def qy:Nat->aW:=(λ|6=>[(8,Go.RX.El.one Go.RX.Sc.bool)]|9=>[(8,Go.RX.El.one Go.RX.Sc.bool),(9,Go.RX.El.one (Go.RX.Sc.int AU))]|12=>[(8,Go.RX.El.one Go.RX.Sc.bool),(36,Go.RX.El.one (Go.RX.Sc.int AU))]| _=>[])
theorem Gt (p:Option AE) (a b:Int) (w:A2) (j:Bool->A2->Prop):(aL R1 qy 88 [ah p,aa a,aa b] w j)=(
 ∃x,ai AC 174 [ah p] w (.bool x)/\((!!x)=true->True)/\((!(!x|| !gI a))=true->True)/\aD (!x|| !gI a|| !gI b) (ak w (j false)) (aH w {toList:=[.bool false,.bool false,.bool false,.bool false,.bool false,.bool false,.bool false,.bool false,.bool false,.bool false,.bool false,.bool false,.bool false,.bool false,.bool false,.bool false,.bool false]} 182 λg e=>(true=true/\0<=a/\a<(↑17:Int))/\aw e (ad (ae g) (a.toNat*1)) [.bool true] λe=> ∃(I:Nat->Bool×Unit->A2->Prop),(∃n, ∀w1,Ext e w1->I n
 (true,()) w1)/\ ∀(n:Nat) (s:Bool×Unit) (w1:A2),I n s w1->aD s.1 (∃(k:Nat->Bool×Int×Unit->A2->Prop),(∃n, ∀h,Ext w1 h->k n (false,1,()) h)/\ ∀(m:Nat) (s:Bool×Int×Unit) (w1:A2),k m s w1->aD (decide (s.2.1<=16)) (dw p 2560 w1 λx=> ∃(I:Nat->Bool×Int×Unit->A2->Prop),(∃n, ∀h,Ext w1 h->I n (s.1,0,()) h)/\ ∀(n:Nat) (f:Bool×Int×Unit) (w1:A2),I n f w1->aD (decide (f.2.1<x)) (∃(x:Option AE),ai AC 176 [ah p,aa s.2.1,.int
 .i64 f.2.1] w1 (ah x)/\((!x.isNone)=true->true=true/\0<=s.2.1/\s.2.1<(↑17:Int))/\ag w1 (some !x.isNone) (ad (ae g) (C9 s.2.1*1)) cr λo=>((!x.isNone)=true->x.isSome=true)/\((!x.isNone)=true->x.isSome=true)/\ag w1 (some !x.isNone) (ad x 1) aq λ(l:Int)=>((!x.isNone)=true->true=true/\0<=l/\l<(↑17:Int))/\ag w1 (some !x.isNone) (ad (ae g) (l.toNat*1)) cr λq=>aD (!x.isNone&& !o==q) (dw x 1 w1 λi=>(true=true/\0<=s.2.1/\s.2.1<(↑17:Int))/\aw w1 (ad (ae g)
 (C9 s.2.1*1)) [.bool true] λe=>bP e (ad x 1) aq i/\True/\True/\(true=true/\0<=i/\i<(↑17:Int))/\aw e (ad (ae g) (i.toNat*1)) [.bool true] λe=> ∀c,Ext e c-> ∃(d:Nat),d<n/\I d (true,ay .i64 f.2.1 1,()) c) (∀c,Ext w1 c-> ∃(d:Nat),d<n/\I d (f.1,ay .i64 f.2.1 1,()) c)) (∀c,Ext w1 c-> ∃(d:Nat),d<m/\k d (f.1,ay .i64 s.2.1 1,()) c)) (∀c,Ext w1 c-> ∃(d:Nat),d<n/\I d (s.1,()) c)) ((true=true/\0<=b/\b<(↑17:Int))/\jc w1 (ad
 (ae g) (b.toNat*1)) λx=>ak w1 (j x)))):=by kernel_rfl
theorem CG {ss:List Sc} {xs:List (g_ ss)} {rest:List AG} {k f:Nat} {x:g_ ss} (a:xs[k]? =some x) (b:f<ss.length):(flat (.agg ss) xs++rest)[k*ss.length+f]? =(a6 ss x)[f]? :=by
 induction xs generalizing k with
 |nil=>simp at a
 |cons y ys c=>
  cases k with
  |zero=>
   simp at a;have d:f<(a6 ss y).length:=by rw[cG];exact b
   simp only[Nat.zero_mul,B2];show((a6 ss y++flat (.agg ss) ys)++rest)[f]? = _
   grind
  |succ k=>
   show((a6 ss y++flat (.agg ss) ys)++rest)[(k+1)*ss.length+f]? = _;rw[DB,HF (by rw[cG,I8];omega),cG]
   grind
theorem vX {ss:List Sc} {xs:List (g_ ss)} {rest:List AG} {k f:Nat} {x y:g_ ss} {v:AG} (b:xs[k]? =some x) (c:f<ss.length) (d:a6 ss y=(a6 ss x).set f v):(flat (.agg ss) xs++rest).set (k*ss.length+f) v=flat (.agg ss) (xs.set k y)++rest:=by
 induction xs generalizing k with
 |nil=>simp at b
 |cons z a e=>
  cases k with
  |zero=>
   have g:f<(a6 ss z).length:=by rw[cG];exact c
   simp only[Nat.zero_mul,B2];show((a6 ss z++flat (.agg ss) a)++rest).set f v=(a6 ss y++flat (.agg ss) a)++rest
   grind
  |succ k=>
   show((a6 ss z++flat (.agg ss) a)++rest).set _ v=(a6 ss z++flat _ _)++rest;rw[DB,List.set_append_right _ _ (by rw[cG,I8];omega),cG]
   grind
abbrev iD (room:Int) (ps:List PT):List AG:=flat eQ ps++[aa room]
def ix (g i:Int):Nat:=(g - 1).toNat*32+i.toNat
def mG (room g i:Int):Bool:=gI g&&(decide (0<=i)&&decide (i<room))
def lT (room:Int) (ps:List PT) (g i:Int):Option Nat:=if mG room g i=true/\ps.getD (ix g i) zP≠zP then some (ix g i) else none
structure okS (room:Int) (ps:List PT):Prop where
 len:ps.length=512
 lo:1<=room
 hi:room<=32
theorem fI {g:Int}:gI g=true<->1<=g/\g<=16:=by simp[gI]
theorem bL {room g i:Int}:mG room g i=true<->(1<=g/\g<=16)/\0<=i/\i<room:=by simp[mG,fI]
theorem pa {room g i:Int} (h:mG room g i=true) (a:room<=32):ix g i<512:=by grind[bL,ix]
theorem FR {room g i g' a:Int} (h:mG room g i=true) (h':mG room g' a=true) (b:room<=32) (e:ix g i=ix g' a):g=g'/\i=a:=by grind[bL,ix]
theorem okS.get {room:Int} {ps:List PT} (h:okS room ps) {k:Nat} (a:k<512):ps[k]? =some (ps.getD k zP):=by
 rw[GS,DA (by rw[h.len];grind)];rfl
theorem okS.set {room:Int} {ps:List PT} (h:okS room ps) (k:Nat) (x:PT):okS room (ps.set k x):=⟨by rw[List.length_set];exact h.len,h.lo,h.hi⟩
theorem fj {room:Int} {ps:List PT} {g i:Int} {k:Nat} (h:lT room ps g i=some k):mG room g i=true/\k=ix g i/\ps.getD k zP≠zP:=by grind[lT]
theorem oF {room:Int} {ps:List PT} (h:okS room ps):pV (iD room ps) (0+2560) aq=some room:=by
 have:(iD room ps)[2560]? =some (aa room):=by
  rw[HF (by rw[aK,h.len];decide),aK,h.len];rfl
 show(match (iD room ps)[0+2560]? with|some v=>(Sc.int _).proj v|none=>none)=some room;rw[this];rfl
theorem isZ (x:PT):(x.fst==0&&(x.snd.fst==0&&(x.snd.snd.fst==0&&(x.snd.snd.snd.fst==false&&(x.snd.snd.snd.snd.fst==false&&true)))))=decide (x=zP):=by
 have ⟨a,b,c,d,e,u⟩:=x;rw[H6];simp[zP]
theorem AH {room:Int} {ps:List PT} {k f:Nat} {x:PT} (a:ps[k]? =some x) (b:f<5) {s:Sc} {y:s.T} (c:(match (a6 sQ x)[f]? with|some v=>s.proj v|none=>none)=some y):pV (iD room ps) (k*5+f) (.one s)=some y:=by
 show(match (iD room ps)[k*5+f]? with|some v=>s.proj v|none=>none)=some y;have:=CG (ss:=sQ) (rest:=[aa room]) a b
 simp_all
section
variable {D G:List Nat} {w0 w:A2} {L:List (Nat×List AG)}
theorem aw.AH (j:Nat) (H:aJ D G w0 w L) {bp k f:Nat} {room:Int} {ps:List PT} {x:PT} (y:PT) {v:AG} {K:A2->Prop} (a:L[j]? =some (bp,iD room ps)) (b:ps[k]? =some x) (c:f<5) (hv:v.oneCell'=true) (d:a6 sQ y=(a6 sQ x).set f v)
 (g: ∀w1,aJ D G w0 w1 (L.set j (bp,iD room (ps.set k y)))->K w1):aw w (ad (some ⟨bp,k*5,none⟩) f) [v] K:=by
 refine aw.c_ j H a hv ?_ λw1 h=>g w1 ?_
 .rw[IR];have:(flat eQ ps).length=ps.length*5:=aK eQ ps
  grind
 .have e:(iD room ps).set _ v=iD room _:=vX b c d
  grind
end
section
variable {w:A2} {bp:Nat} {room:Int} {ps:List PT}
theorem nX (h:bq w bp (iD room ps)) (a:okS room ps):aC AC 174 gD [ah (ae bp)] w (λx w'=>x=true/\Ext w w'):=by
 refine aj (AR (PB _ w _) ?_);refine⟨λ_=>rfl,λ_=>rfl,ag.g6 (At.start [] w) h (by simp) (oF a) λw1 b=>⟨?_,b⟩⟩;have:=a.lo
 grind
def bj (bp:Nat) (room:Int) (ps:List PT) (g i:Int):Option AE:=(lT room ps g i).map λk=>⟨bp,k*5,none⟩
theorem Bb (h:bq w bp (iD room ps)) (a:okS room ps) (g i:Int):aC AC 176 oq [ah (ae bp),aa g,aa i] w (λx w'=>x=bj bp room ps g i/\Ext w w'):=by
 refine aj (C:=R1) (AR (Nw _ g i w _) ?_);refine⟨true,ai.of (s:= .el cr) λw' h'=>nX (h.ext h') a,λ_=>trivial,λ_=>rfl,λ_=>rfl,ag.g6 (At.start [] w) h (by simp) (oF a) ?_⟩;have r:=a.lo;have j:=a.hi;refine ab (λc w1 b=>⟨?_,b⟩) (λc=>?_)
 .have k: ¬ mG room g i=true:=by
   rw[bL];intro l;have m:gI g=true:=fI.2 l.1;rw[m] at c;simp at c;omega
  unfold bj lT;rw[ar (λhc=>k hc.1)];rfl
 .have d:mG room g i=true:=by
   grind[bL,fI,gI]
  have t:=bL.1 d;have n:=pa d j;have o:=a.get n;have es:aR .i64 g 1=g - 1:=aX (by omega) (by omega);rw[es];have p:ad (ad (ad (ae bp) 0) ((g - 1).toNat*160)) (i.toNat*5)=some ⟨bp,ix g i*5,none⟩:=by
   rw[aS,aS,aS];unfold ix;congr 2;omega
  have q:ad (ad (ae bp) 0) ((g - 1).toNat*160)=some ⟨bp,0+0+(g - 1).toNat*160,none⟩:=by rw[aS,aS]
  rw[p,q];refine⟨rfl,rfl,⟨rfl,by omega,by omega⟩,⟨rfl,by omega,by omega⟩,rfl,ag.of (ps.getD (ix g i) zP) ?_ ?_⟩
  .have:=dK (e:=eQ) (rest:=[aa room]) h o;rw[aS,B2] at this;exact this
  .rw[isZ];refine ab (λf w1 b=>⟨?_,b⟩) (λf w1 b=>⟨?_,b⟩)
   .unfold bj lT
    grind
   .unfold bj lT;rw[az ⟨d,of_decide_eq_false f⟩];rfl
def nr (g r:Int):Int:=if !gI g|| !gI r||g==r then 1 else 0
theorem Ys (h:bq w bp (iD room ps)) (b:okS room ps) (g r:Int):aC AC 299 aT [ah (ae bp),aa g,aa r] w (λx w'=>x=nr g r/\Ext w w'):=by
 refine aj (C:=R1) (AR (Yq _ g r w _) ?_);refine⟨true,ai.of (s:= .el cr) λw' h'=>nX (h.ext h') b,an rfl ⟨trivial,λ_=>trivial,ab (λc w1 a=>⟨?_,a⟩) (λc w1 a=>⟨?_,a⟩)⟩⟩
 .unfold nr;rw[az c]
 .unfold nr;grind
theorem TU (h:bq w bp (iD room ps)) (a:okS room ps):aC AC 301 aT [ah (ae bp)] w (λx w'=>x=4/\Ext w w'):=by
 refine aj (C:=R1) (AR (TT _ w _) ?_);exact⟨true,ai.of λw' h'=>nX (h.ext h') a,an rfl λw1 b=>⟨rfl,b⟩⟩
def bJ (room:Int) (ps:List PT) (g:Int):Int:=match (H2 room.toNat).find? λ(i:Nat)=>(lT room ps g i).isNone with
 |some i=>(i:Int)
 |none=> -1
theorem PJ (h:bq w bp (iD room ps)) (a:okS room ps) (g:Int):aC AC 342 aT [ah (ae bp),aa g] w (λx w'=>x=bJ room ps g/\Ext w w'):=by
 refine aj (C:=R1) (b_:=uO) (AR (PC _ g w _) ?_);have m:=a.lo;have n:=a.hi;refine⟨rfl,rfl,ag.g6 (At.start [] w) h (by simp) (oF a) ?_⟩;refine⟨λq s w'=> ∃i:Nat,s.1=i/\q+i=room.toNat/\(∀j:Nat,j<i->(lT room ps g j).isNone=false)/\Ext w w',⟨room.toNat,λw1 b=>⟨0,rfl,rfl,λj f=>absurd f (by omega),b⟩⟩,?_⟩;rintro q ⟨o,u⟩ w1 ⟨i,hi,p,l,d⟩;simp only at hi;subst hi;dsimp only;refine ab (λc=>?_) (λc k h2=>⟨?_,d.trans h2⟩)
 .have r:i<room.toNat:=by simp at c;omega
  refine⟨_,ai.of (s:= .el bF) λw' h'=>Bb ((h.ext d).ext h') a g i,ab (λe k h2=>⟨?_,d.trans h2⟩) (λe k h2=>⟨q - 1,by omega,i+1,by rw[ao (by omega) (by omega)];rfl,by omega,λj f=>?_,d.trans h2⟩)⟩
  .grind[lT,bj,H2,M5,bJ]
  .rcases Nat.lt_or_ge j i with b|b
   .exact l j b
   .obtain rfl:j=i:=by omega
    unfold bj at e;simpa using e
 .have:(H2 room.toNat).find? (λ(i:Nat)=>(lT room ps g i).isNone)=none:=by
   grind
  unfold bJ;rw[this]
theorem jZ {room:Int} {ps:List PT} {g:Int} (a:gI g=true) (h:bJ room ps g≠ -1):mG room g (bJ room ps g)=true/\lT room ps g (bJ room ps g)=none:=by
 unfold bJ at h ⊢;split
 .rename_i hi;rw[M5] at hi;have:=LL.1 hi.2.1;exact⟨bL.2 ⟨fI.1 a,by omega⟩,by simp_all⟩
 grind
end
end Go.Proofs.YteeflilbnoknnaaGreat.Po
