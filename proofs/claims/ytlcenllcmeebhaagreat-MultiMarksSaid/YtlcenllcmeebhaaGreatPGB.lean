import Derived.Test.YtlcenllcmeebhaaGreatPGA
/-! What the statement leans on: texts joined and shortened by a program of mine. -/
set_option linter.unusedVariables false
set_option linter.unusedSimpArgs false
open Go renaming World->A2,Addr->AC,Value->Ag,Obj->B2,MapEntry->B6,Program->Dk,FuncId->Do,TypeId->Fi
open Go.Proofs.Tryz renaming prog->AI
open Eq renaming mpr->Aq
open List renaming mem_map->B1,perm_middle->B7,mem_cons->BJ,length_take->BP,mem_cons_of_mem->BY,nodup_cons->Bx,getElem?_eq_getElem->CW,getElem?_eq_some_iff->DA,map_cons->DB,length_append->DQ,mem_append_left->Dc,mem_cons_self->Dg,mem_singleton->Dq,mem_append_right->Dr,getElem?_set_ne->E5,take_append_drop->F2,sublist_cons_self->FE,append_assoc->Fm,map_append->Fo,ext_getElem?->Ft,nodup_nil->Fw,mem_of_getElem?->Fx,getElem?_set_self->G1,replicate->GD,mem_append->GF,length_drop->GG,getElem?_map->GH,getElem?_of_mem->GJ,filter_cons->GS,mem_or_eq_of_mem_set->H7,getElem?_append_left->HB,nodup_append->HZ,append_nil->Hb,eq_nil_of_length_eq_zero->Hh,take_add_one->Hq,drop_length->Hr,drop_eq_nil_of_le->Io,getElem?_inj->J3,getElem?_append_right->J5,take_append_of_le_length->J6,take_of_length_le->J7,length_set->JR,getD_eq_getElem?_getD->JS,filter_eq_self->JU,take_length->JW,any_eq_true->JX,getElem?_eq_none->M5,set_eq_take_append_cons_drop->N6,drop_length_add_append->N7,perm_append_singleton->NG,sublist_append_right->NI,length_map->NK,findIdx?_eq_none_iff->NL,drop_eq_getElem_cons->NP,eraseIdx_eq_take_drop_succ->NR,find?_append->O2,find?_cons->OW,length_nil->Oa,length_cons->Of,set_append_right->Oh,pairwise_append->Oj,take_zero->Ou,getElem?_take_of_lt->Ox
open Go.IntKind renaming i64->B3,u64->PP
open Int renaming toNat->B4,toNat_natCast->FP,ediv_nonneg->PS
open Go.Value renaming bool->B5,int->FQ,chan->I1,nilFunc->Pl
open Nat renaming zero_add->DH,le_trans->Dn,le_refl->Dx,min_eq_left->FR,zero_le->Ga,mul_le_mul_right->Gj,sub_self->H4,lt_of_lt_of_le->I2,lt_succ_self->ID,mul_one->IR,add_mul->K1,testBit_mod_two_pow->Kb,mod_eq_of_lt->Pp,eq_of_testBit_eq->Rg
open List.Perm renaming cons->Dj,swap->FS
open Array renaming getElem?_eq_some_iff->E4,ext'->Kf,mk->Ki
open Bool renaming or_eq_true->FU,or_eq_false_iff->Fg,true_and->H5,and_eq_true->If,and_eq_false_iff->Ih,eq_iff_iff->Ik,not_eq_true'->LL,not_eq_false'->S0
open Decidable renaming rec->GI
open Go.Instr renaming findNow->Gd
open BitVec renaming testBit_toNat->Gi,getLsbD_and->In,getLsbD_ushiftRight->M4,allOnes->S1,getLsbD_shiftLeft->S2,getLsbD_of_ge->T0
open Go.Builtin renaming zeroCells->H6
open List.Sublist renaming refl->T2,cons_cons->T3,cons->T_
namespace Go.Proofs.YtlcenllcmeebhaaGreat
set_option maxRecDepth 100000
open Go.RX
def dV (lo sz:Int):Bool:=decide (lo>=0)&&decide (lo<64)&&decide (sz>=1)&&decide (sz<=64 - lo)
theorem iG {lo sz:Int}:dV lo sz=true<->0<=lo/\lo<64/\1<=sz/\sz<=64 - lo:=by
 simp only[dV,If,decide_eq_true_eq];omega
def Mk (lo n:Nat):BitVec 64:=(S1 64 >>> (64 - n)) <<< lo
theorem Cf {lo n j:Nat} (c:n<=64):(Mk lo n).getLsbD j=(decide (lo<=j)&&decide (j<lo+n)&&decide (j<64)):=by
 unfold Mk;rw[S2,M4,BitVec.getLsbD_allOnes];by_cases h1:j<64<;>by_cases a:lo<=j<;>by_cases b:j<lo+n<;>simp[h1,a,b]<;>omega
def fJ (lo sz:Int):BitVec 64:=if dV lo sz=true then Mk lo.toNat sz.toNat else 0#64
def fg (w:BitVec 64) (lo sz:Int):BitVec 64:=(w &&& fJ lo sz) >>> (Dp 0 (ko lo 63)).toNat
def sX (w:BitVec 64) (lo sz:Int) (v:BitVec 64):BitVec 64:=if fJ lo sz=0#64 then w else w &&& ~~~ fJ lo sz ||| v <<< lo.toNat &&& fJ lo sz
theorem GP {lo sz:Int} (h:dV lo sz=true):Dm .u64 (J9 .u64 18446744073709551615 (aX .i64 64 sz)) lo=U (fJ lo sz):=by
 have h':=iG.1 h;rw[show(18446744073709551615:Int)=U (S1 64) from rfl,O1,O0,bC (by omega) (by omega)];unfold fJ Mk;rw[if_pos h];congr 4;omega
theorem P2 {lo sz:Int} (h:dV lo sz=true):fJ lo sz≠0#64:=by
 intro h0;have h':=iG.1 h;have:=congrArg (λb=>b.getLsbD lo.toNat) h0;simp only[fJ,if_pos h] at this;rw[Cf (by omega)] at this;simp at this;omega
theorem zo {lo sz:Int} (h:dV lo sz=false):fJ lo sz=0#64:=by simp[fJ,h]
def Gk (w:BitVec 64) (lo k:Nat):BitVec 64:=(w >>> lo) &&& Mk 0 k
theorem O3 {w:BitVec 64} {lo k j:Nat} (a:k<=64):(Gk w lo k).getLsbD j=(w.getLsbD (lo+j)&&decide (j<k)):=by
 unfold Gk;rw[In,M4,Cf a];by_cases h:j<k<;>simp[h];omega
def Pk (w v:BitVec 64) (lo k:Nat):BitVec 64:=w &&& ~~~ Mk lo k ||| v <<< lo &&& Mk lo k
theorem Zg {w v:BitVec 64} {lo k j:Nat} (a:k<=64) (b:j<64):(Pk w v lo k).getLsbD j=if lo<=j/\j<lo+k then v.getLsbD (j - lo) else w.getLsbD j:=by
 unfold Pk;rw[BitVec.getLsbD_or,In,In,BitVec.getLsbD_not,S2,Cf a];by_cases h1:lo<=j<;>by_cases c:j<lo+k<;>simp[h1,c,b]
 all_goals omega
theorem Uo {w:BitVec 64} {lo sz:Int} (h:dV lo sz=true):fg w lo sz=Gk w lo.toNat sz.toNat:=by
 have h':=iG.1 h;unfold fg fJ;rw[if_pos h];have e:(Dp 0 (ko lo 63)).toNat=lo.toNat:=by unfold Dp ko;split<;>split<;>omega
 rw[e];apply BitVec.eq_of_getLsbD_eq;intro j b;rw[O3 (by omega),M4,In,Cf (by omega)];by_cases h1:lo.toNat+j<64
 ·by_cases a:j<sz.toNat<;>simp[h1,a]
 ·rw[T0 w _ (by omega)];simp
theorem Uq {w v:BitVec 64} {lo sz:Int} (h:dV lo sz=true):sX w lo sz v=Pk w v lo.toNat sz.toNat:=by
 unfold sX Pk;rw[if_neg (P2 h)];simp only[fJ,if_pos h]
theorem mx:AI.follows .mixedOrders=true:=by kernel_rfl
noncomputable def C0:dD AI:={si:=[],quiet:=[],sh:=[],mixed:=mx}
theorem Ur (low size:Int) (w:A2) (a:Bool->A2->Prop):(aJ C0 (λ_=>[]) 144 [.int .i64 low,.int .i64 size] w a)=(
 ao w (a (decide (low>=0)&&decide (low<64)&&decide (size>=1)&&decide (size<=aX .i64 64 low)))):=by kernel_rfl
theorem P3 (lo sz:Int):(decide (lo>=0)&&decide (lo<64)&&decide (sz>=1)&&decide (sz<=aX .i64 64 lo))=dV lo sz:=by
 unfold dV;by_cases h:0<=lo/\lo<64
 ·rw[bC (by omega) (by omega)]
 ·by_cases h1:lo>=0<;>by_cases a:lo<64<;>simp[h1,a]<;>omega
noncomputable def tc:Entry AI where
 f:=144
 fn l:=match l with
  |[.int .i64 lo,.int .i64 sz]=>some (True,.bool (dV lo sz))
  | _=>none
 ok args pre v h _ w:=by
  split at h
  ·rename_i lo sz;cases h;refine bU (x:=dV lo sz) (ai (C:=C0) (aQ:=λ_=>[]) (Aq (Ur lo sz w _) λw1 h1=>⟨P3 lo sz,h1⟩))
  ·cases h
noncomputable def C1:dD AI:={C0 with si:=[tc]}
theorem Us (low size:Int) (w:A2) (a:Int->A2->Prop):(aJ C1 (λ_=>[]) 195 [.int .i64 low,.int .i64 size] w a)=(
 True/\aH (!dV low size) (ao w (a 0)) (0<=aX .i64 64 size/\0<=low/\ao w λw1=>a (Dm .u64 (J9 .u64 18446744073709551615 (aX .i64 64 size)) low) w1)):=by kernel_rfl
theorem Ut (lo sz:Int) (w:A2):aD AI 195 (.el (.one (.int .u64))) [.int .i64 lo,.int .i64 sz] w (λx w'=>x=U (fJ lo sz)/\Ext w w'):=by
 refine ai (C:=C1) (aQ:=λ_=>[]) (Aq (Us lo sz w _) ⟨trivial,?_⟩);refine ab (λh=>?_) (λh=>?_)
 ·intro w1 h1;refine⟨?_,h1⟩;rw[zo (by simpa using h)];rfl
 ·have h':dV lo sz=true:=by simpa using h
  have a:=iG.1 h';refine⟨by rw[bC (by omega) (by omega)];omega,a.1,λw1 h1=>⟨GP h',h1⟩⟩
noncomputable def vt:Entry AI where
 f:=195
 fn l:=match l with
  |[.int .i64 lo,.int .i64 sz]=>some (True,.int .u64 (U (fJ lo sz)))
  | _=>none
 ok args pre v h a w:=by
  split at h
  ·rename_i lo sz;cases h;exact bU (Ut lo sz w)
  ·cases h
noncomputable def C2:dD AI:={C0 with si:=[tc,vt]}
theorem Zh (v low size:Int) (w:A2) (a:Int->A2->Prop):(aJ C2 (λ_=>[]) 141 [.int .u64 v,.int .i64 low,.int .i64 size] w a)=(
 True/\0<=Dp 0 (ko low 63)/\ao w λw1=>a (J9 .u64 (wP .u64 v (U (fJ low size))) (Dp 0 (ko low 63))) w1):=by kernel_rfl
theorem Zi (v low size x:Int) (w:A2) (a:Int->A2->Prop):(aJ C2 (λ_=>[]) 250 [.int .u64 v,.int .i64 low,.int .i64 size,.int .u64 x] w a)=(
 True/\aH (U (fJ low size)==0) (ao w (a v)) (0<=low/\ao w λw1=>a (orI .u64 (gD .u64 v (U (fJ low size))) (wP .u64 (Dm .u64 x low) (U (fJ low size)))) w1)):=by kernel_rfl
theorem Zj (v:BitVec 64) (lo sz:Int) (w:A2):aD AI 141 (.el (.one (.int .u64))) [.int .u64 (U v),.int .i64 lo,.int .i64 sz] w (λx w'=>x=U (fg v lo sz)/\Ext w w'):=by
 refine ai (C:=C2) (aQ:=λ_=>[]) (Aq (Zh (U v) lo sz w _) ⟨trivial,by unfold Dp;split<;>omega,λw1 h1=>⟨?_,h1⟩⟩);rw[OZ,O1];rfl
theorem Zk (v:BitVec 64) (lo sz:Int) (x:BitVec 64) (w:A2):aD AI 250 (.el (.one (.int .u64))) [.int .u64 (U v),.int .i64 lo,.int .i64 sz,.int .u64 (U x)] w (λy w'=>y=U (sX v lo sz x)/\Ext w w'):=by
 refine ai (C:=C2) (aQ:=λ_=>[]) (Aq (Zi (U v) lo sz (U x) w _) ⟨trivial,?_⟩);have b:(U (fJ lo sz)==0)=decide (fJ lo sz=0#64):=by
  have:(U (fJ lo sz)=0)<->fJ lo sz=0#64:=by rw[show(0:Int)=U 0#64 from rfl,aa1]
  by_cases h:fJ lo sz=0#64
  ·rw[this.2 h,h];rfl
  ·have h': ¬ U (fJ lo sz)=0:=λe=>h (this.1 e);simp[h,h']
 rw[b];refine ab (λh=>λw1 h1=>⟨?_,h1⟩) (λh=>?_)
 ·simp only[decide_eq_true_eq] at h;unfold sX;rw[if_pos h]
 ·simp only[decide_eq_false_iff_not] at h;have a:dV lo sz=true:=by
   cases a:dV lo sz with
   |true=>rfl
   |false=>exact absurd (zo a) h
  refine⟨(iG.1 a).1,λw1 h1=>⟨?_,h1⟩⟩;rw[Kt,O0,OZ,aa2];unfold sX;rw[if_neg h]
noncomputable def FK:Entry AI where
 f:=141
 fn l:=match l with
  |[.int .u64 v,.int .i64 lo,.int .i64 sz]=>some (U (B v)=v,.int .u64 (U (fg (B v) lo sz)))
  | _=>none
 ok args pre v h a w:=by
  split at h
  ·rename_i v lo sz;cases h;have:=bU (Zj (B v) lo sz w);rw[a] at this;exact this
  ·cases h
noncomputable def FL:Entry AI where
 f:=250
 fn l:=match l with
  |[.int .u64 v,.int .i64 lo,.int .i64 sz,.int .u64 x]=>some (U (B v)=v/\U (B x)=x,.int .u64 (U (sX (B v) lo sz (B x))))
  | _=>none
 ok args pre v h a w:=by
  split at h
  ·rename_i v lo sz x;cases h;have:=bU (Zk (B v) lo sz (B x) w);rw[a.1,a.2] at this;exact this
  ·cases h
noncomputable def C3:dD AI:={C0 with si:=[tc,vt,FK,FL]}
def vL:Nat->aY:=(λ|4=>[(3,Go.RX.El.one (Go.RX.Sc.int PP)),(4,Go.RX.El.one (Go.RX.Sc.int B3)),(9,Go.RX.El.one (Go.RX.Sc.int B3))]| _=>[])
theorem Uu (p:Option AC) (n c:Nat) (w:A2) (d:Int->A2->Prop):(aJ C3 vL 248 [.slice p n c] w d)=(
 ∃(I:Nat->Int×Int×Int×Unit->A2->Prop),(∃n, ∀w1,Ext w w1->I n (0,0,0,()) w1)/\ ∀(f:Nat) (s:Int×Int×Int×Unit) (w1:A2),I f s w1->aH (decide (s.2.2.1<(↑n:Int))) ((p.isSome=true/\0<=s.2.2.1/\s.2.2.1<(↑n:Int))/\aj w1 none (ad p (B4 s.2.2.1*2)) cw λ(x:Int×Int×Unit)=>aM w1 ⟨[.int .u64 0,.int .i64 0]⟩ 304 λb a=>aA a (ae b) [.int .u64 x.1,.int .i64 x.2.1] λa=>true=true/\aR a (ad (ae b) 1) λx=>True/\aH (!dV s.2.1 x) (ao a (d 0)) (true=true/\aR a (ad (ae b) 1) λ
 x=>true=true/\cH a (ad (ae b) 0) λe=>(U (B s.1)=s.1/\U (B e)=e)/\true=true/\aR a (ad (ae b) 1) λi=> ∀g,Ext a g-> ∃(h:Nat),h<f/\I h (U (sX (B s.1) s.2.1 x (B e)),aI .i64 s.2.1 i,aI .i64 s.2.2.1 1,()) g)) (ao w1 (d s.1))):=by kernel_rfl
def tU:Nat->aY:=(λ|4=>[(5,Go.RX.El.one Go.RX.Sc.slice),(6,Go.RX.El.one (Go.RX.Sc.int B3)),(11,Go.RX.El.one (Go.RX.Sc.int B3))]| _=>[])
theorem P4 (v:Int) (p:Option AC) (n c:Nat) (w:A2) (a:Option AC×Nat×Nat->A2->Prop):(aJ C3 tU 93 [.int .u64 v,.slice p n c] w a)=(
 ∃(I:Nat->(Option AC×Nat×Nat)×Int×Int×Unit->A2->Prop),(∃n, ∀w1,Ext w w1->I n ((none,0,0),0,0,()) w1)/\ ∀(e:Nat) (s:(Option AC×Nat×Nat)×Int×Int×Unit) (w1:A2),I e s w1->aH (decide (s.2.2.1<(↑n:Int))) ((p.isSome=true/\0<=s.2.2.1/\s.2.2.1<(↑n:Int))/\aR w1 (ad p (B4 s.2.2.1*1)) λx=>True/\aH (!dV s.2.1 x) (ao w1 (a (none,0,0))) (U (B v)=v/\aM w1 ⟨[.int .u64 (U (fg (B v) s.2.1 x))]⟩ 29 λb d=> ∀w1,Ext d w1->mz w1 29 1 8 ⟨[.int .u64 0]⟩ (s.1.1,s.1.2.1,s.1.2.2) (some ⟨b,0,
 none⟩,1,1) λ(r:Option AC×Nat×Nat) d=> ∀f,Ext d f-> ∃(g:Nat),g<e/\I g ((r.1,r.2.1,r.2.2),aI .i64 s.2.1 x,aI .i64 s.2.2.1 1,()) f)) (ao w1 (a (s.1.1,s.1.2.1,s.1.2.2)))):=by kernel_rfl
def tV:Nat->aY:=(λ|4=>[(5,Go.RX.El.one (Go.RX.Sc.int B3))]| _=>[])
theorem P5 (p q:Option AC) (n c m d:Nat) (w:A2) (a:Bool->A2->Prop):(aJ C3 tV 44 [.slice p n c,.slice q m d] w a)=(
 aH ((↑n:Int) != (↑m:Int)) (ao w (a false)) (∃(I:Nat->Int×Unit->A2->Prop),(∃n, ∀w1,Ext w w1->I n (0,()) w1)/\ ∀(b:Nat) (s:Int×Unit) (w1:A2),I b s w1->aH (decide (s.1<(↑n:Int))) ((p.isSome=true/\0<=s.1/\s.1<(↑n:Int))/\cH w1 (ad p (B4 s.1*1)) λx=>(q.isSome=true/\0<=s.1/\s.1<(↑m:Int))/\cH w1 (ad q (B4 s.1*1)) λg=>aH (x != g) (ao w1 (a false)) (∀e,Ext w1 e-> ∃(f:Nat),f<b/\I f (aI .i64 s.1 1,()) e)) (ao w1 (a true)))):=by kernel_rfl
abbrev eI:El:= .one (.int .i64)
abbrev eU:El:= .one (.int .u64)
abbrev eP:El:= .agg [.int .u64,.int .i64]
theorem P6 {p q:Option AC} {n c m d:Nat} {w:A2} {xs ys:List Int} (t:Sl w eU p xs) (v:n=xs.length) (x:Sl w eU q ys) (y:m=ys.length) (hb:n<4611686018427387904):
 aD AI 44 (.el (.one .bool)) [.slice p n c,.slice q m d] w (λb w'=>b=decide (xs=ys)/\Ext w w'):=by
 refine ai (C:=C3) (aQ:=tV) (Aq (P5 p q n c m d w _) ?_);refine ab (λh w1 h1=>⟨?_,h1⟩) (λh=>?_)
 ·have:xs≠ys:=λe=>by subst e;simp[v,y] at h
  simp[this]
 ·have B:n=m:=by simp at h;omega
  refine⟨λk s w'=>Ext w w'/\ ∃i:Nat,s.1=i/\k+i=n/\ ∀j,j<i->xs[j]? =ys[j]?,⟨n,λw1 h1=>⟨h1,0,rfl,rfl,λj f=>absurd f (by omega)⟩⟩,?_⟩;rintro k ⟨D,u⟩ w1 ⟨a,i,hi,E,f⟩;simp only at hi;subst hi;dsimp only;refine ab (λh=>?_) (λh=>λo g=>⟨?_,a.trans g⟩)
  ·simp only[decide_eq_true_eq] at h;have h1:i<xs.length:=by omega
   have g:i<ys.length:=by omega
   have a1:=(t.ext a) i xs[i] (CW h1);have r:=(x.ext a) i ys[i] (CW g);refine⟨⟨a1.1,by omega,by omega⟩,xs[i],a1.2,⟨r.1,by omega,by omega⟩,ys[i],r.2,ab (λz o l=>⟨?_,a.trans l⟩) (λA o l=>⟨k - 1,by omega,a.trans l,i+1,?_,by omega,?_⟩)⟩
   ·have:xs≠ys:=λe=>by subst e;simp at z
    simp[this]
   ·show aI _ _ _= _;rw[aw (by omega) (by omega)];rfl
   ·intro j F;by_cases e:j=i
    ·subst e;rw[CW h1,CW g];simpa using A
    ·exact f j (by omega)
  ·simp only[decide_eq_false_iff_not] at h;have:xs=ys:=by
    apply Ft;intro j;by_cases e:j<i
    ·exact f j e
    ·rw[M5 (by omega),M5 (by omega)]
   simp[this]
def qF:BitVec 64->Int->List (BitVec 64×Int)->BitVec 64
 |w, _,[]=>w
 |w,lo,(v,sz)::r=>if dV lo sz=true then qF (sX w lo sz v) (lo+sz) r else 0#64
def N_ (l:List (BitVec 64×Int)):List (Int×Int×Unit):=l.map λx=>(U x.1,x.2,())
theorem iZ {α:Type} {l:List α} {i:Nat} (h:i<l.length):l.drop i=l[i]::l.drop (i+1):=by simp_all
theorem Uv {p:Option AC} {n c:Nat} {w:A2} {xs:List (BitVec 64×Int)} (z:Sl w eP p (N_ xs)) (K:n=xs.length) (hb:n<4611686018427387904):
 aD AI 248 (.el eU) [.slice p n c] w (λx w'=>x=U (qF 0#64 0 xs)/\Ext w w'):=by
 refine ai (C:=C3) (aQ:=vL) (Aq (Uu p n c w _) ?_);refine⟨λk s w'=>Ext w w'/\ ∃(i:Nat) (b:BitVec 64),s.1=U b/\s.2.2.1=i/\k+i=n/\0<=s.2.1/\s.2.1<=64/\qF b s.2.1 (xs.drop i)=qF 0#64 0 xs,⟨n,λw1 h1=>⟨h1,0,0#64,rfl,rfl,rfl,by decide,by decide,rfl⟩⟩,?_⟩;rintro k ⟨x,lo,L,u⟩ w1 ⟨l,i,b,h1,g,M,A,B,e⟩;simp only at h1 g A B e;subst h1;subst g;dsimp only;refine ab (λh=>?_) (λh=>λD g=>⟨?_,l.trans g⟩)
 ·simp only[decide_eq_true_eq] at h;have hi:i<xs.length:=by omega
  have E:(N_ xs)[i]? =some (U xs[i].1,xs[i].2,()):=by simp[N_,hi]
  have a1:=(z.ext l) i _ E;rw[iZ hi] at e;refine⟨⟨a1.1,by omega,by omega⟩, _,a1.2,λd F f t=>?_⟩;have db:bL f d.heap.size [.int .u64 0,.int .i64 0]:=(bL.new d _ _).ext t;have v:Ext w d:=l.trans F;have G:Ext w f:=(v.iU _).trans t;have m:=db.put (o:=0) [FQ .u64 (U xs[i].1),FQ .i64 xs[i].2] (by simp);simp at m;have y:Ext w (js f (some ⟨d.heap.size,0,none⟩) [FQ .u64 (U xs[i].1),FQ .i64 xs[i].2]):=G.js (a:=⟨d.heap.size,0,none⟩) v.size _;have H:cC (js f (some ⟨d.heap.size,0,none⟩) [FQ .u64 (U xs[i].1),FQ .i64 xs[i].2]) (ad (some ⟨d.heap.size,0,none⟩) 0) (.one (.int .u64)) (U xs[i].1):=by
   rw[aV];exact m.om rfl
  have q:cC (js f (some ⟨d.heap.size,0,none⟩) [FQ .u64 (U xs[i].1),FQ .i64 xs[i].2]) (ad (some ⟨d.heap.size,0,none⟩) 1) (.one (.int .i64)) xs[i].2:=by
   rw[aV];exact m.om rfl
  refine⟨⟨rfl,db.st (by simp)⟩,rfl, _,q,trivial,ab (λr D I=>⟨?_,y.trans I⟩) (λr=>⟨rfl, _,q,rfl, _,H,⟨by rw[Fh],by rw[Fh]⟩,rfl, _,q,λN J=>⟨k - 1,by omega,y.trans J,i+1,sX b lo xs[i].2 xs[i].1,?_,?_,by omega,?_,?_,?_⟩⟩)⟩
  ·have j:dV lo xs[i].2=false:=by simpa using r
   rw[<-e];simp only[qF,j];rfl
  all_goals
   have j:dV lo xs[i].2=true:=by simpa using r
   have O:=iG.1 j
  ·show U _= _;rw[Fh,Fh]
  ·show aI _ _ _= _;rw[aw (by omega) (by omega)];rfl
  ·show 0<=aI .i64 lo _;rw[aw (by omega) (by omega)];omega
  ·show aI .i64 lo _<=64;rw[aw (by omega) (by omega)];omega
  ·show qF _ (aI .i64 lo _) _= _;rw[aw (by omega) (by omega), <-e];simp only[qF,j,if_true]
 ·simp only[decide_eq_false_iff_not] at h;rw[Io (by omega)] at e;rw[<-e];rfl
def mq (w:BitVec 64):Int->List Int->Option (List (BitVec 64))
 | _,[]=>some []
 |lo,sz::r=>if dV lo sz=true then(mq w (lo+sz) r).map (fg w lo sz:: ·) else none
def BT (l:List (BitVec 64)):List Int:=l.map U
theorem P7 {v:BitVec 64} {p:Option AC} {n c:Nat} {w:A2} {xs:List Int} (y:Sl w eI p xs) (J:n=xs.length) (hb:n<=1000):
 aD AI 93 (.el (.one .slice)) [.int .u64 (U v),.slice p n c] w (λr w'=>lM w w' eU r (BT ((mq v 0 xs).getD []))/\Ext w w'):=by
 refine ai (C:=C3) (aQ:=tU) (Aq (P4 (U v) p n c w _) ?_);refine⟨λk s w'=>Ext w w'/\ ∃(i:Nat) (a:List (BitVec 64)),s.2.2.1=i/\k+i=n/\0<=s.2.1/\s.2.1<=64/\a.length=i/\lM w w' eU s.1 (BT a)/\mq v 0 xs=(mq v s.2.1 (xs.drop i)).map (a++ ·),⟨n,λw1 h1=>⟨h1,0,[],rfl,rfl,by decide,by decide,rfl,lM.nil w w1 eU,by simp⟩⟩,?_⟩;rintro k ⟨s,lo,K,u⟩ w1 ⟨f,i,a,d,L,z,A,D,m,b⟩;simp only at d m z A b;subst d;dsimp only;refine ab (λh=>?_) (λh=>λo d=>⟨?_,f.trans d⟩)
 ·simp only[decide_eq_true_eq] at h;have hi:i<xs.length:=by omega
  have a1:=(y.ext f) i _ (CW hi);have i1:p.isSome=true/\(0:Int)<=i/\(i:Int)<n:=⟨a1.1,by omega,by omega⟩;rw[iZ hi] at b;refine⟨i1, _,a1.2,trivial,ab (λg o E=>⟨?_,f.trans E⟩) (λg=>⟨by rw[Fh],λM F N G=>?_⟩)⟩
  ·have j:dV lo xs[i]=false:=by simpa using g
   simp only[mq,j] at b;rw[b];exact lM.nil w o eU
  ·have j:dV lo xs[i]=true:=by simpa using g
   have O:=iG.1 j;have P:(BT a).length<=1000:=by simp[BT];omega
   refine P1 (e:=eU) (x:=U (fg (B (U v)) lo xs[i])) m f rfl F G rfl (by omega) λs' w' q H g Q R t=>⟨k - 1,by omega,H.trans t,i+1,a++[fg v lo xs[i]],?_,by omega,?_,?_,by simp[D],?_,?_⟩
   ·show aI _ _ _= _;rw[aw (by omega) (by omega)];rfl
   ·show 0<=aI .i64 lo _;rw[aw (by omega) (by omega)];omega
   ·show aI .i64 lo _<=64;rw[aw (by omega) (by omega)];omega
   ·rw[Fh] at q;have I:BT (a++[fg v lo xs[i]])=BT a++[U (fg v lo xs[i])]:=by simp[BT]
    rw[I];exact q.ext t
   ·show _=(mq v (aI .i64 lo _) _).map _;rw[aw (by omega) (by omega),b];simp only[mq,j,if_true,Option.map_map];congr 1;funext l;simp
 ·simp only[decide_eq_false_iff_not] at h;rw[Io (by omega)] at b;rw[b];simp[mq];exact m.ext d
end Go.Proofs.YtlcenllcmeebhaaGreat
namespace Go.RX
open Go.RowKit
def YH (n:Nat) (w:A2) (e:El) (s:Option AC×Nat×Nat) (xs:List e.T):Prop:=
 s.2.1=xs.length/\xs.length<=s.2.2/\
 ((s.1=none/\xs=[]/\s.2.2=0)\/ ∃b l,s.1=some ⟨b,0,none⟩/\n<=b/\bL w b l/\l.length=s.2.2*aE e/\l.take (xs.length*aE e)=flat e xs)
theorem lM.toN {w0 w:A2} {e:El} {s:Option AC×Nat×Nat} {xs:List e.T} (h:lM w0 w e s xs):YH w0.heap.size w e s xs:=h
theorem YH.of {w0 w:A2} {e:El} {s:Option AC×Nat×Nat} {xs:List e.T} {n:Nat} (h:YH n w e s xs) (a:w0.heap.size<=n):lM w0 w e s xs:=by
 obtain⟨h1,b,c⟩:=h;refine⟨h1,?_⟩
 grind
def vu (n:Nat) (w:A2):A2:={w with heap:=w.heap.extract 0 n}
theorem iA {n:Nat} {w:A2} (h:n<=w.heap.size):(vu n w).heap.size=n:=by grind[vu]
theorem p8 {n:Nat} {w:A2} (h:n<=w.heap.size):Ext (vu n w) w:=by
 refine⟨rfl,rfl,rfl,?_,λk a=>?_⟩
 ·rw[iA h];grind
 ·rw[iA h] at a;show w.heap[k]? =(w.heap.extract 0 n)[k]?
  grind
theorem zM {n:Nat} {w w':A2} (h:n<=w.heap.size) (k:Ext (vu n w) w') (a:w.heap.size<=w'.heap.size):Below n w w':=
 ⟨k.os,k.tape,k.output,a,λj b=>by
  have h1:=k.block (by rw[iA h];exact b);have c:=(p8 h).block (k:=j)
  grind⟩
end Go.RX
namespace Go.RowKit
open Go.RX
end Go.RowKit
namespace Go.RX
open Go.RowKit
structure Fr (G:List Nat) (w w':A2):Prop where
 os:w'.os=w.os
 tape:w'.tape=w.tape
 output:w'.output=w.output
 size:w.heap.size<=w'.heap.size
 block: ∀k,k<w.heap.size->k∉G->w'.heap[k]? =w.heap[k]?
theorem Fr.refl (G:List Nat) (w:A2):Fr G w w:=⟨rfl,rfl,rfl,by simp,λ_ _ _=>rfl⟩
theorem Fr.trans {G:List Nat} {a b c:A2} (h:Fr G a b) (k:Fr G b c):Fr G a c:=
 ⟨k.os.trans h.os,k.tape.trans h.tape,k.output.trans h.output,Dn h.size k.size,λj d e=>(k.block j (I2 d h.size) e).trans (h.block j d e)⟩
theorem Fr.uT {G:List Nat} {w w':A2} (h:Ext w w'):Fr G w w':=⟨h.os,h.tape,h.output,h.size,λ_ a _=>h.block a⟩
theorem Fr.ext {w w':A2} (h:Fr [] w w'):Ext w w':=⟨h.os,h.tape,h.output,h.size,λk a=>h.block k a (by simp)⟩
theorem Fr.db {G:List Nat} {w w':A2} (h:Fr G w w') {b:Nat} {l:List Ag} (hb:b∉G) (k:bL w b l):bL w' b l:=k.same (h.block b k.lt hb)
theorem Fr.js {G:List Nat} {w0 w:A2} (h:Fr G w0 w) {a:AC} (l:w0.heap.size<=a.block\/a.block∈G) (vs:List Ag):Fr G w0 (js w (some a) vs):=by
 have env: ∀(vs) (w) (i),(putAt w a vs i).os=w.os/\(putAt w a vs i).tape=w.tape/\(putAt w a vs i).output=w.output:=by
  intro vs
  induction vs with
  |nil=>intro w i;exact⟨rfl,rfl,rfl⟩
  |cons v r b=>
   intro w i;have:=b (w.setCell (a.add i) v) (i+1);exact this
 obtain⟨c,d,e⟩:=env vs w 0;refine⟨c.trans h.os,d.trans h.tape,e.trans h.output,?_,λk f g=>?_⟩
 ·show _<=(putAt w a vs 0).heap.size;rw[rT];exact h.size
 ·have j:k≠a.block:=by
   grind
  exact(mP vs w a 0 k j).trans (h.block k f g)
structure aK (D G:List Nat) (w0 w:A2) (L:List (Nat×List Ag)):Prop where
 fr:Fr G w0 w
 db: ∀x∈L,bL w x.1 x.2
 own: ∀x∈L,w0.heap.size<=x.1\/x.1∈G
 nd:(L.map (·.1)).Nodup
 pL: ∀r∈D,w0.heap.size<=r/\w.heap[r]? =some (.deferred (some []))
abbrev At:=aK []
theorem At.start (G:List Nat) (w:A2):At G w w [] where
 fr:=Fr.refl G w
 db:=λx=>by grind
 own:=λa=>by grind
 nd:=Fw
 pL:=λa=>by grind
namespace aK
variable {D G:List Nat} {w0 w w1:A2} {L:List (Nat×List Ag)}
theorem ext (H:aK D G w0 w L) (h:Ext w w1):aK D G w0 w1 L:=
 ⟨H.fr.trans (.uT h),λx b=>(H.db x b).ext h,H.own,H.nd,λr a=>⟨(H.pL r a).1,h.obj (H.pL r a).2⟩⟩
theorem all (H:aK D [] w0 w L):Ext w0 w:=H.fr.ext
theorem get (H:aK D G w0 w L) {i b:Nat} {l:List Ag} (h:L[i]? =some (b,l)):bL w b l:=H.db _ (Fx h)
theorem ne (H:aK D G w0 w L) {i j b c:Nat} {l m:List Ag} (h:L[i]? =some (b,l)) (k:L[j]? =some (c,m)) (a:i≠j):b≠c:=by
 intro;have h1:(L.map (·.1))[i]? =some b:=by grind
 have d:(L.map (·.1))[j]? =some b:=by grind
 exact a ((J3 (by grind) H.nd).1 (h1.trans d.symm))
theorem alloc (H:aK D G w0 w L) (cs:List Ag) (t:Fi):aK D G w0 (w.alloc (.cells ⟨cs⟩ t)) ((w.heap.size,cs)::L):=by
 have b:=H.ext (Ext.alloc w (.cells ⟨cs⟩ t));refine⟨b.fr,λx a=>?_,λx a=>?_,?_,b.pL⟩
 ·rcases BJ.1 a with rfl|a
  ·exact bL.new w cs t
  ·exact b.db x a
 ·rcases BJ.1 a with rfl|a
  ·exact .inl H.fr.size
  ·exact b.own x a
 ·refine Bx.2 ⟨λc=>?_,H.nd⟩;obtain⟨x,a,e⟩:=B1.1 c;have:=(H.db x a).lt
  grind
theorem rI (H:aK D G w0 w L) (o:B2):aK D G w0 (w.alloc o) L:=H.ext (Ext.alloc w o)
theorem da {b r:Nat} {l:List Ag} {o:B2} (h:bL w b l) (k:w.heap[r]? =some o) (c: ∀a t f,o≠ .cells a t f):b≠r:=by
 obtain⟨⟩:=h
 grind
theorem put (H:aK D G w0 w L) (i:Nat) {b o:Nat} {l:List Ag} (h:L[i]? =some (b,l)) (vs:List Ag) (m:o+vs.length<=l.length):
 aK D G w0 (js w (some ⟨b,o,none⟩) vs) (L.set i (b,l.take o++(vs++l.drop (o+vs.length)))):=by
 have hi:i<L.length:=(DA.1 h).1;have f:=Fx h;refine⟨H.fr.js (H.own _ f) vs,λx a=>?_,λx a=>?_,?_,λr g=>⟨(H.pL r g).1,?_⟩⟩
 ·obtain⟨j,c⟩:=GJ a;by_cases e:i=j
  ·subst e;rw[G1 hi] at c;cases c;exact(H.get h).put vs m
  ·rw[E5 e] at c;have d:x.1≠b:=λe'=>by
    exact H.ne c h (λn=>e n.symm) e'
   exact(H.db x (by grind)).Xf d vs
 ·rcases H7 a with a|rfl
  ·exact H.own x a
  ·exact H.own (b,l) f
 ·have:(L.set i (b,l.take o++(vs++l.drop (o+vs.length)))).map (·.1)=L.map (·.1):=by
   apply Ft;intro j
   grind
  rw[this];exact H.nd
 ·have k:=(H.pL r g).2;have d:r≠b:=λe=>da (H.get h) k (by grind) e.symm;rw[<-k];exact mP vs w _ 0 r d
theorem fI (H:aK D G w0 w L) {b:Nat} {l:List Ag} (h:bL w0 b l) (hb:b∉G):bL w b l:=H.fr.db hb h
theorem sub (H:aK D G w0 w L) {L':List (Nat×List Ag)} (h:L'.Sublist L):aK D G w0 w L':=
 ⟨H.fr,λx a=>H.db x (h.subset a),λx a=>H.own x (h.subset a),(h.map _).nodup H.nd,H.pL⟩
theorem perm (H:aK D G w0 w L) {L':List (Nat×List Ag)} (h:L'.Perm L):aK D G w0 w L':=
 ⟨H.fr,λx a=>H.db x (h.subset a),λx a=>H.own x (h.subset a),(h.map _).nodup_iff.2 H.nd,H.pL⟩
theorem frame (H:aK D G w0 w L) {b:List Nat} {L':List (Nat×List Ag)} (h:Fr b w w1) (i: ∀x∈b,w0.heap.size<=x\/x∈G) (d: ∀r∈D,r∉b) (hb: ∀x∈L',bL w1 x.1 x.2) (e: ∀x∈L',w0.heap.size<=x.1\/x.1∈G) (f:(L'.map (·.1)).Nodup):aK D G w0 w1 L':=
 ⟨⟨h.os.trans H.fr.os,h.tape.trans H.fr.tape,h.output.trans H.fr.output,Dn H.fr.size h.size,λk c g=>(h.block k (I2 c H.fr.size) (by grind)).trans (H.fr.block k c g)⟩,hb,e,f,λr a=>⟨(H.pL r a).1,by rw[h.block r (E4.1 (H.pL r a).2).1 (d r a)];exact(H.pL r a).2⟩⟩
theorem mod (H:aK D G w0 w L) (i:Nat) {b:Nat} {l l':List Ag} (c:L[i]? =some (b,l)) (h:Fr [b] w w1) (hb:bL w1 b l'):aK D G w0 w1 (L.set i (b,l')):=by
 have d:=Fx c;refine H.frame h (λx a=>by rw[Dq.1 a];exact H.own (b,l) d) (λr g a=>?_) (λx a=>?_) (λx a=>?_) ?_
 ·rw[Dq] at a;exact da (H.get c) (H.pL r g).2 (by grind) a.symm
 ·obtain⟨j,f⟩:=GJ a;by_cases e:i=j
  grind
  ·rw[E5 e] at f;obtain⟨x1,k⟩:=x;have n:x1≠b:=H.ne f c (λm=>e m.symm);exact h.db (by grind) (H.db (x1,k) (by grind))
 ·rcases H7 a with a|rfl
  ·exact H.own x a
  ·exact H.own (b,l) d
 ·have:(L.set i (b,l')).map (·.1)=L.map (·.1):=by
   apply Ft;intro j
   grind
  rw[this];exact H.nd
theorem again (H:aK D G w0 w L):At (L.map (·.1)) w w L where
 fr:=Fr.refl _ w
 db:=H.db
 own:=λx a=> .inr (by grind)
 nd:=H.nd
 pL:=λa=>by grind
theorem join {b:List Nat} {L':List (Nat×List Ag)} (H:aK D G w0 w L) (d: ∀x∈b,x∈L.map (·.1)) (K:At b w w1 L'):aK D G w0 w1 L':=by
 have f: ∀x∈b,w0.heap.size<=x\/x∈G:=λx a=>by
  obtain⟨y,c,e⟩:=B1.1 (d x a);rw[<-e];exact H.own y c
 refine H.frame K.fr f (λr g a=>?_) K.db (λx a=>?_) K.nd
 ·obtain⟨y,c,e⟩:=B1.1 (d r a);exact da (H.db y c) (H.pL r g).2 (by grind) e
 ·rcases K.own x a with h1|h1
  ·exact .inl (Dn H.fr.size h1)
  grind
theorem putObj (H:aK D G w0 w L) {l:Nat} (h:w0.heap.size<=l) {o o':B2} (d:w.heap[l]? =some o) (hc: ∀a t f,o≠ .cells a t f) (i:l∉D):aK D G w0 (w.putObj l o') L:=by
 refine⟨⟨H.fr.os,H.fr.tape,H.fr.output,by rw[putObj_size];grind,λk e g=>?_⟩,λx b=>(H.db x b).putObj (da (H.db x b) d hc) _,H.own,H.nd,λr c=>⟨(H.pL r c).1,?_⟩⟩
 ·rw[fx (by omega)];exact H.fr.block k e g
 ·rw[fx (by grind)];exact(H.pL r c).2
end aK
def kr (l:List Ag) (o:Nat):(el:El)->Option el.T
 | .one s=>match l[o]? with
   |some v=>s.proj v
   |none=>none
 | .agg ss=>l4 ss ((l.drop o).take ss.length)
theorem dR {w:A2} {b o:Nat} {l:List Ag} (h:bL w b l) {el:El} {x:el.T} (a:kr l o el=some x):cC w (some ⟨b,o,none⟩) el x:=by
 cases el with
 |one=>
  simp[kr] at a;split at a
  ·rename_i hv;exact h.om (by rw[hv,Sc.ib a])
  grind
 |agg=>
  have e:=pz a;refine h.rdA λhi=>?_
  grind
theorem aj.of {w:A2} {g:Option Bool} {p:Option AC} {el:El} {K:el.T->Prop} (x:el.T) (h:cC w p el x) (k:K x):aj w g p el K:=
 ⟨x,by cases g<;>first|exact h|exact λ_=>h,k⟩
theorem aB {b:Bool} {x y:Prop} (e:b=true) (h:x):aH b x y:=by grind[ab]
theorem an {b:Bool} {x y:Prop} (e:b=false) (h:y):aH b x y:=by grind[ab]
section
variable {D G:List Nat} {w0 w:A2} {L:List (Nat×List Ag)}
theorem aj.at (i:Nat) (H:aK D G w0 w L) {g:Option Bool} {el:El} {K:el.T->Prop} {b o:Nat} {l:List Ag} {x:el.T} (a:L[i]? =some (b,l)) (hv:kr l o el=some x) (k:K x):aj w g (some ⟨b,o,none⟩) el K:=
 .of x (dR (H.get a) hv) k
theorem aj.cq (i:Nat) (H:aK D G w0 w L) {g:Option Bool} {el:El} {K:el.T->Prop} {b o n:Nat} {l:List Ag} {x:el.T} (a:L[i]? =some (b,l)) (hv:kr l (o+n) el=some x) (k:K x):aj w g (ad (some ⟨b,o,none⟩) n) el K:=by
 rw[aV];exact .at i H a hv k
theorem aM.go (H:aK D G w0 w L) {cs:List Ag} {e:Fi} {K:Nat->A2->Prop} (k: ∀b w1,aK D G w0 w1 ((b,cs)::L)->K b w1):aM w ⟨cs⟩ e K:=
 λ_ h=>k _ _ ((H.ext h).alloc cs e)
theorem aA.at (i:Nat) (H:aK D G w0 w L) {b o:Nat} {l vs:List Ag} {K:A2->Prop} (a:L[i]? =some (b,l)) (d:vs.all (·.oneCell')=true) (c:o+vs.length<=l.length)
 (k: ∀w1,aK D G w0 w1 (L.set i (b,l.take o++(vs++l.drop (o+vs.length))))->K w1):aA w (some ⟨b,o,none⟩) vs K:=
 λ_ h=>⟨⟨d,((H.ext h).get a).st c⟩,k _ ((H.ext h).put i a vs c)⟩
theorem aA.all (i:Nat) (H:aK D G w0 w L) {b:Nat} {l vs:List Ag} {K:A2->Prop} (a:L[i]? =some (b,l)) (c:vs.all (·.oneCell')=true) (d:vs.length=l.length)
 (k: ∀w1,aK D G w0 w1 (L.set i (b,vs))->K w1):aA w (some ⟨b,0,none⟩) vs K:=by
 refine aA.at i H a c (by omega) λw1 h1=>k w1 ?_
 grind
theorem aA.one (i:Nat) (H:aK D G w0 w L) {b o:Nat} {l:List Ag} {x:Ag} {K:A2->Prop} (c:L[i]? =some (b,l)) (d:x.oneCell'=true) (a:Nat.blt o l.length=true)
 (k: ∀w1,aK D G w0 w1 (L.set i (b,l.set o x))->K w1):aA w (some ⟨b,o,none⟩) [x] K:=by
 have a:o<l.length:=by simp_all
 refine aA.at i H c (by grind) (by grind) λw1 h1=>k w1 ?_;rw[show l.set o x=l.take o++([x]++l.drop (o+[x].length)) from by simp[N6,a]]
 grind
theorem aA.gx (i:Nat) (H:aK D G w0 w L) {b o n:Nat} {l:List Ag} {x:Ag} {K:A2->Prop} (a:L[i]? =some (b,l)) (c:x.oneCell'=true) (d:Nat.blt (o+n) l.length=true)
 (k: ∀w1,aK D G w0 w1 (L.set i (b,l.set (o+n) x))->K w1):aA w (ad (some ⟨b,o,none⟩) n) [x] K:=by
 rw[aV];exact aA.one i H a c d k
theorem ao.go (H:aK D G w0 w L) {K:A2->Prop} (k: ∀w1,aK D G w0 w1 L->K w1):ao w K:=λ_ h=>k _ (H.ext h)
theorem az.go (H:aK D G w0 w L) {P:Dk} {f:Do} {s:Sh} {args:List Ag} {K:s.T->A2->Prop} (k: ∀w1,aK D G w0 w1 L->aD P f s args w1 K):az P f s args w K:=λ_ h=>k _ (H.ext h)
end
open Go.RowKit
variable {D G:List Nat} {w0 wb w w' w1:A2} {L Lb:List (Nat×List Ag)}
theorem aK.then (a:aK D G w0 wb L) (H:At [] wb w Lb):aK D G w0 w L:=a.ext H.all
theorem aK.below (H:aK D G w0 w []) (h:Below w0.heap.size w w') (c:w.heap.size<=w'.heap.size) (e:D=[]):aK D G w0 w' [] where
 fr:=⟨h.os.trans H.fr.os,h.tape.trans H.fr.tape,h.output.trans H.fr.output,Dn H.fr.size c,λk a d=>(h.block k a).trans (H.fr.block k a d)⟩
 db:=λb=>by grind
 own:=λb=>by grind
 nd:=Fw
 pL:=λb=>by grind
theorem At.aa3 (i:Nat) (c:At G w0 wb []) {e:El} {s:Option AC×Nat×Nat} {xs:List e.T} (f:lM w0 wb e s xs) (H:At [] wb w Lb)
 {b:Nat} {l:List Ag} (x:e.T) (g:Lb[i]? =some (b,l)) (h:l=cellsOf e x) (j:gT e=true) {t:Fi} {size bytes:Nat} {z:Array Ag} (m:size=aE e) (n:z.size=aE e) (hb:(xs.length+1)*bytes<=140737488355328)
 {R:Option AC×Nat×Nat->A2->Prop} (k: ∀s' w',At G w0 w' []->lM w0 w' e s' (xs++[x])->R s' w'):
 mz w t size bytes z s (some ⟨b,0,none⟩,1,1) R:=by
 subst m;subst h;have a:=Dn c.fr.size H.fr.size;have o:=(f.ext H.all).toN.of (Nat.le_of_eq (iA a));refine lC (ys:=[x]) o (p8 a) j rfl ?_ n hb λs' w' p q _ d _=>k s' w' ((c.then H).below (zM a q d) d rfl) ?_
 ·refine(H.get g).oB (aF e _) λr=>?_;simp[flat]
 ·have:=p.toN;rw[iA a] at this;exact this
theorem aj.fI (H:aK D G w0 w L) {b o:Nat} {l:List Ag} (h:bL w0 b l) (hb:b∉G) {g:Option Bool} {el:El} {K:el.T->Prop} {x:el.T} (hv:kr l o el=some x) (k:K x):aj w g (some ⟨b,o,none⟩) el K:=
 .of x (dR (H.fI h hb) hv) k
theorem aj.kZ (H:aK D G w0 w L) {b o n:Nat} {l:List Ag} (h:bL w0 b l) (hb:b∉G) {g:Option Bool} {el:El} {K:el.T->Prop} {x:el.T} (hv:kr l (o+n) el=some x) (k:K x):aj w g (ad (some ⟨b,o,none⟩) n) el K:=by
 rw[aV];exact .fI H h hb hv k
theorem lM.start (w0 w:A2) (e:El):lM w0 w e (none,0,0) []:=lM.nil w0 w e
theorem aK.more (H:aK D G w0 w L) (h:Ext w w') {b:Nat} {l:List Ag} (hb:w.heap.size<=b) (k:bL w' b l):aK D G w0 w' ((b,l)::L):=by
 have c:=H.ext h;refine⟨c.fr,λx a=>?_,λx a=>?_,?_,c.pL⟩
 ·rcases BJ.1 a with rfl|a
  ·grind
  ·exact c.db x a
 ·rcases BJ.1 a with rfl|a
  ·exact .inl (Dn H.fr.size hb)
  ·exact c.own x a
 ·refine Bx.2 ⟨λd=>?_,H.nd⟩;obtain⟨x,a,e⟩:=B1.1 d;have:=(H.db x a).lt
  grind
theorem aK.got (H:aK D G w0 w L) (h:Ext w w') {e:El} {r:Option AC×Nat×Nat} {xs:List e.T} (a:lM w w' e r xs) (i:xs≠[]):
 ∃b c rest,r=(some ⟨b,0,none⟩,xs.length,c)/\aK D G w0 w' ((b,flat e xs++rest)::L):=by
 obtain⟨h1,j,d⟩:=a;obtain⟨p,n,c⟩:=r;rcases d with ⟨⟩|⟨b,l,a1,f,k, _,g⟩
 grind
 ·subst a1;subst h1;refine⟨b,c,l.drop (xs.length*aE e),rfl,H.more h f ?_⟩;have el:l=flat e xs++l.drop (xs.length*aE e):=by rw[<-g,F2]
  grind
theorem jX {α:Sort _} {e:α} {K:α->Prop} (k:K e): ∀x,x=e->K x:=by grind
def T6 (P:Dk) (c:Do) (args:Nat->List Ag) (n:Nat) (b:Nat->Option (List Ag)) (St:A2->Prop):Prop:=
 ∀(y:Nat) (w:A2) (J:Nat->A2->Prop) (a:A2->Prop),
  (∀i w w',J i w->Ext w w'->J i w')->(∀w w',a w->Ext w w'->a w')->(∀i w,J i w->St w)->
  (∀i,i<n->b i=none-> ∀w,J i w->J (i+1) w)->
  (∀i v,i<n->b i=some v-> ∀w (R:Bool->A2->Prop),J i w->(∀w',J (i+1) w'->R true w')->(∀w',a w'->R false w')->ml P y v w R)->
  J 0 w->Calls P c ⟨args y⟩ w (λe w'=> ∃v,e= .returned v/\(J n w'\/a w'))
section
variable {D G:List Nat} {w0 w:A2} {L:List (Nat×List Ag)}
def xO (D G:List Nat) (w0 w:A2) (L:List (Nat×List Ag)) (l:Nat) (rec:Loop):Prop:=w0.heap.size<=l/\aK D G w0 w L/\cQ w l rec .ready none
def Bsy (D G:List Nat) (w0 w:A2) (L:List (Nat×List Ag)) (l:Nat) (rec:Loop):Prop:=w0.heap.size<=l/\aK D G w0 w L/\cQ w l rec .busy none
def XN (D G:List Nat) (w0 w:A2) (L:List (Nat×List Ag)) (l:Nat) (rec:Loop) (j:Code):Prop:=w0.heap.size<=l/\aK D G w0 w L/\cQ w l rec .done (some j)
theorem rU {l:Nat} {rec:Loop} {st:LoopState} {b:Option Code} (H:aK D G w0 w L) (h:cQ w l rec st b):l∉D/\l∉L.map (·.1):=by
 refine⟨λa=>?_,λa=>?_⟩
 ·have:=(H.pL l a).2;rw[h] at this
  grind
 ·obtain⟨x,c,e⟩:=B1.1 a;exact aK.da (H.db x c) h (by grind) e
theorem aK.sS {l:Nat} {rec:Loop} {st:LoopState} {a:Option Code} (H:aK D G w0 w L) (b:w0.heap.size<=l) (h:cQ w l rec st a) (c:LoopState) (d:Option Code):aK D G w0 (RX.sS w l rec c d) L:=
 H.putObj b h (by grind) (rU H h).1
theorem Dd.go {l n m:Nat} {rec:Loop} {K:Prop} (h:xO D G w0 w L l rec) (a:n=m) (k:K):Dd l rec n m w K:=⟨⟨none,h.2.2⟩,a,k⟩
theorem BN.go {l:Nat} {rec:Loop} {K:A2->Prop} (h:xO D G w0 w L l rec) (k: ∀wb,At (L.map (·.1)) wb wb L->Bsy D G w0 wb L l rec->K wb):BN l rec w K:=λg b=>by
 obtain⟨c,H,e⟩:=h;have f:=H.ext b;have a:=e.ext b;have d:=f.sS c a .busy none;exact⟨none,a,k _ d.again ⟨c,d,a.put _ _⟩⟩
theorem sj.go {l:Nat} {rec:Loop} {j:Option Code} {wb d:A2} {L':List (Nat×List Ag)} {R:Bool->A2->Prop} (h:Bsy D G w0 wb L l rec) (e:At (L.map (·.1)) wb d L')
 (k: ∀a,w0.heap.size<=l->aK D G w0 a L'->cQ a l rec (if j.isNone then .ready else .done) j->R j.isNone a):sj l rec j d R:=λa f=>by
 obtain⟨g,H,b⟩:=h;have i:=(H.join (λx m=>m) e).ext f;have n:=b.same (e.fr.block l b.lt (rU H b).2);have c:=n.ext f;exact⟨.busy,none,c,k _ g (i.sS g c _ _) (c.put _ _)⟩
theorem sj.next {l:Nat} {rec:Loop} {wb e:A2} {L':List (Nat×List Ag)} {R:Bool->A2->Prop} (h:Bsy D G w0 wb L l rec) (f:At (L.map (·.1)) wb e L') (k: ∀d,xO D G w0 d L' l rec->R true d):sj l rec none e R:=
 sj.go h f λd a b c=>k d ⟨a,b,c⟩
theorem sj.left {l:Nat} {rec:Loop} {j:Code} {wb e:A2} {L':List (Nat×List Ag)} {R:Bool->A2->Prop} (h:Bsy D G w0 wb L l rec) (f:At (L.map (·.1)) wb e L') (k: ∀d,XN D G w0 d L' l rec j->R false d):sj l rec (some j) e R:=
 sj.go h f λd a b c=>k d ⟨a,b,c⟩
theorem du.none {l:Nat} {rec:Loop} {Kn Kr:A2->Prop} {Kx:Nat->A2->Prop} (h:xO D G w0 w L l rec) (k: ∀a,aK D G w0 a L->Kn a):du l rec w Kn Kx Kr:=
 ⟨.ready,.none,h.2.2,by simp,k _ (h.2.1.sS h.1 h.2.2 _ _)⟩
theorem du.ret {l:Nat} {rec:Loop} {Kn Kr:A2->Prop} {Kx:Nat->A2->Prop} (h:XN D G w0 w L l rec .ret) (k: ∀a,aK D G w0 a L->Kr a):du l rec w Kn Kx Kr:=
 ⟨.done,.some _,h.2.2,by simp,k _ (h.2.1.sS h.1 h.2.2 _ _)⟩
theorem vM: ∀(m:Nat) (z:List Ag) (i:Nat),i<m*z.length->(GD m z).flatten[i]? =z[i % z.length]?
 |0,z,i,h=>by grind
 |m+1,z,i,h=>by
  rw[List.replicate_succ,List.flatten_cons];by_cases hi:i<z.length
  ·rw[HB hi,Pp hi]
  ·rw[J5 (by omega),vM m z _ (by grind), <-Nat.mod_eq_sub_mod (by omega)]
theorem GQ (m:Nat) (z:List Ag):nC ⟨z⟩ (m*z.length)=⟨(GD m z).flatten⟩:=by
 have a:(GD m z).flatten.length=m*z.length:=by simp
 apply Kf;apply Ft;intro i;unfold nC;by_cases i<m*z.length
 ·grind[vM]
 grind
theorem NJ.go (H:aK D G w0 w L) {bytes size:Nat} {n m:Int} {z:List Ag} {e:Fi} {K:Nat->A2->Prop} (a:size=z.length) (h0:0<=n) (h1:n<=m) (c:m<4611686018427387904) (d:bytes*m<=281474976710656)
 (k: ∀b w1,aK D G w0 w1 ((b,(GD m.toNat z).flatten)::L)->K b w1):NJ w bytes size n m ⟨z⟩ e K:=λw1 h=>by
 refine⟨⟨h0,by omega⟩,?_⟩;rw[a,GQ];exact k _ _ ((H.ext h).alloc _ e)
theorem lG (e:El) (x:e.T) (m:Nat):flat e (GD m x)=(GD m (cellsOf e x)).flatten:=by
 simp[flat,List.flatMap_replicate]
theorem mz.copy (H:aK D G w0 w L) {e:El} {ys:List e.T} {b n c:Nat} {l:List Ag} (hb:bL w b l) (o:l.take (ys.length*aE e)=flat e ys) (d:n=ys.length) (p:ys≠[]) (f:gT e=true) {t:Fi} {size bytes:Nat} {z:Array Ag} (g:size=aE e) (h:z.size=aE e) (q:ys.length*bytes<=140737488355328)
 {R:Option AC×Nat×Nat->A2->Prop} (k: ∀a i rest w',aK D G w0 w' ((a,flat e ys++rest)::L)->R (some ⟨a,0,none⟩,n,i) w'):
 mz w t size bytes z (none,0,0) (some ⟨b,0,none⟩,n,c) R:=by
 subst g;subst d;refine lC (lM.nil w w e) (Ext.refl w) f rfl ?_ h (by grind) λs' w' j m _=>?_
 ·refine hb.oB (aF e ys) λhi=>?_
  grind
 ·obtain:=H.got m j
  grind
theorem sk.go {r:Nat} {K:A2->Prop} (H:aK [r] G w0 w L) (k: ∀w1,At G w0 w1 L->K w1):sk [r] w K:=λw1 h=>by
 have a:=H.ext h;have b:=a.pL r (by simp);refine⟨⟨b.2,trivial⟩,k _ ?_⟩;have c:At G w0 w1 L:=⟨a.fr,a.db,a.own,a.nd,by simp⟩;exact c.putObj b.1 b.2 (by grind) (by simp)
theorem zS.inv {P:Dk} {p:Do} {args:Nat->List Ag} {ps:Array Nat} {T:Type} {g:T->List Ag} {q:Nat->Loop->T->A2->(Bool->A2->Prop)->Prop} {m:Nat->Loop->A2->Prop} (H:aK D G w0 w L)
 {n:Nat} {f:Nat->Option (List Ag)} {St:A2->Prop} (u:T6 P p args n f St) (Inv:Nat->List (Nat×List Ag)->Prop) (Q:Code->List (Nat×List Ag)->Prop) (h0:Inv 0 L)
 (y: ∀z i w' L',Inv i L'->aK z G w0 w' L'->St w') (J: ∀i L',i<n->f i=none->Inv i L'->Inv (i+1) L') (K: ∀i v,i<n->f i=some v-> ∃x,v=g x)
 (M: ∀i x L',i<n->f i=some (g x)->Inv i L'-> ∀r l rec s (R:Bool->A2->Prop),xO (r::D) G w0 s L' l rec->(∀c w',Inv (i+1) c->xO (r::D) G w0 w' c l rec->R true w')->(∀j c w',Q j c->XN (r::D) G w0 w' c l rec j->R false w')->q l rec x s R)
 (N: ∀L' r rec d,Inv n L'->xO (r::D) G w0 d L' (r+1) rec->m r rec d) (O: ∀j L' r rec d,Q j L'->XN (r::D) G w0 d L' (r+1) rec j->m r rec d):zS P p args ps w g q m:=by
 intro w1 h1 rec _ _ A B S;have t:=H.ext h1;have sz:(w1.alloc (.deferred (some []))).heap.size=w1.heap.size+1:=lB _ _;have C:rec={rec with state:= .ready,pending:= .none}:=by rw[<-A, <-B]
 have E:w0.heap.size<=w1.heap.size:=t.fr.size;have F:xO (w1.heap.size::D) G w0 ((w1.alloc (.deferred (some []))).alloc (.loop rec)) L (w1.heap.size+1) rec:=by
  refine⟨by omega,?_,?_⟩
  ·have e:=(t.rI (.deferred (some []))).rI (.loop rec);refine⟨e.fr,e.db,e.own,e.nd,λr o=>?_⟩;rcases BJ.1 o with rfl|o
   ·exact⟨E,(Ext.alloc _ _).obj (fp w1 _)⟩
   ·exact e.pL r o
  ·have:=fp (w1.alloc (.deferred (some []))) (.loop rec);rw[sz] at this;unfold cQ;rw[this,C]
 refine Calls.mono (u _ _ (λi w'=> ∃L',Inv i L'/\xO (w1.heap.size::D) G w0 w' L' _ rec) (λw'=> ∃j L',Q j L'/\XN (w1.heap.size::D) G w0 w' L' (w1.heap.size+1) rec j) ?_ ?_ ?_ ?_ ?_ ⟨L,h0,F⟩) ?_
 ·exact λi a b ⟨L',hi,h⟩ k=>⟨L',hi,h.1,h.2.1.ext k,h.2.2.ext k⟩
 ·exact λa b ⟨j,L',I,h⟩ k=>⟨j,L',I,h.1,h.2.1.ext k,h.2.2.ext k⟩
 ·exact λi a ⟨L',hi,h⟩=>y _ i a L' hi h.2.1
 ·grind
 grind
 grind
theorem zS.go {P:Dk} {e:Do} {args:Nat->List Ag} {ps:Array Nat} {T:Type} {c:T->List Ag} {f:Nat->Loop->T->A2->(Bool->A2->Prop)->Prop} {d:Nat->Loop->A2->Prop} (H:aK D G w0 w L)
 {n:Nat} {b:Nat->Option (List Ag)} {St:A2->Prop} (h:T6 P e args n b St) (Ls:Nat->List (Nat×List Ag)) (Q:Code->List (Nat×List Ag)->Prop) (h0:Ls 0=L)
 (p: ∀k i w',aK k G w0 w' (Ls i)->St w') (q: ∀i,i<n->b i=none->Ls (i+1)=Ls i) (m: ∀i v,i<n->b i=some v-> ∃x,v=c x)
 (s: ∀i x,i<n->b i=some (c x)-> ∀r l rec g (R:Bool->A2->Prop),xO (r::D) G w0 g (Ls i) l rec->(∀w',xO (r::D) G w0 w' (Ls (i+1)) l rec->R true w')->(∀j L' w',Q j L'->XN (r::D) G w0 w' L' l rec j->R false w')->f l rec x g R)
 (t: ∀r rec a,xO (r::D) G w0 a (Ls n) (r+1) rec->d r rec a) (o: ∀j L' r rec a,Q j L'->XN (r::D) G w0 a L' (r+1) rec j->d r rec a):zS P e args ps w c f d:=
 zS.inv H h (λi L'=>L'=Ls i) Q h0.symm (by grind) (by grind) m
  (by grind) (by grind) o
theorem aK.aa4 (H:aK D G w0 w L) {b:Nat} (hb:b<w0.heap.size) (d:b∉G):b∉L.map (·.1):=λa=>by
 obtain⟨x,c,e⟩:=B1.1 a;rcases H.own x c
 grind
 grind
theorem aK.dn {wb w1:A2} {L':List (Nat×List Ag)} (H:aK D G w0 wb L) (K:At (L.map (·.1)) wb w1 L') {b:Nat} {l:List Ag} (h:bL w0 b l) (a:b∉G):bL w1 b l:=
 K.fI (H.fI h a) (H.aa4 h.lt a)
theorem At.rJ {b:Nat} {l:List Ag} (h:bL w b l):At [b] w w [(b,l)] where
 fr:=Fr.refl _ w
 db:=λa=>by grind
 own:=λx a=> .inr (by grind)
 nd:=by simp
 pL:=λa=>by grind
theorem fN {w:A2} {b:Nat} {e:El} {xs:List e.T} {rest:List Ag} (h:bL w b (flat e xs++rest)) {i:Nat} {x:e.T} (a:xs[i]? =some x):cC w (ad (some ⟨b,0,none⟩) (i*aE e)) e x:=
 (Sl.jA h (by simp[aF]) i x a).2
theorem yO (e:El): ∀(xs:List e.T) (i:Nat) (y:e.T) (rest:List Ag),i<xs.length->(flat e xs++rest).take (i*aE e)++(cellsOf e y++(flat e xs++rest).drop (i*aE e+(cellsOf e y).length))=flat e (xs.set i y)++rest
 |x::xs,0,y,rest, _=>by
  simp[flat];rw[dk, <-dk,List.drop_left]
 |x::xs,i+1,y,rest,h=>by
  have a:=yO e xs i y rest (by grind);have b:(i+1)*aE e=(cellsOf e x).length+i*aE e:=by rw[dk,K1];omega
  simp[flat] at a ⊢;rw[b,List.take_length_add_append,Fm,Nat.add_assoc,N7,a]
theorem aA.flat (j:Nat) (H:aK D G w0 w L) {b i:Nat} {e:El} {xs:List e.T} {rest vs:List Ag} (y:e.T) {K:A2->Prop} (a:L[j]? =some (b,RX.flat e xs++rest)) (hv:vs=cellsOf e y) (c:gT e=true) (hi:i<xs.length)
 (k: ∀w1,aK D G w0 w1 (L.set j (b,RX.flat e (xs.set i y)++rest))->K w1):aA w (ad (some ⟨b,0,none⟩) (i*aE e)) vs K:=by
 rw[aV,DH];subst hv;refine aA.at j H a ?_ ?_ λw1 h1=>k w1 ?_
 ·have:=jG e [y] c;simpa[RX.flat]
 ·rw[dk,DQ,aF];have:(i+1)*aE e<=xs.length*aE e:=Gj _ hi
  grind
 ·rw[yO e xs i y rest hi] at h1;grind
theorem az.Dt (H:aK D G w0 w L) (j:Nat) {b:Nat} {l l':List Ag} (c:L[j]? =some (b,l)) {P:Dk} {f:Do} {s:Sh} {args:List Ag} {v:s.T} {K:s.T->A2->Prop}
 (hc: ∀w1,aK D G w0 w1 L->aD P f s args w1 (λx w'=>x=v/\bL w' b l'/\Fr [b] w1 w')) (k: ∀a,aK D G w0 a (L.set j (b,l'))->K v a):az P f s args w K:=λw1 h=>
 (hc w1 (H.ext h)).mono λx a ⟨d,hb,e⟩=>by subst d;exact k a ((H.ext h).mod j c e hb)
theorem az.val (H:aK D G w0 w L) {P:Dk} {f:Do} {s:Sh} {args:List Ag} (v:s.T) {K:s.T->A2->Prop}
 (hc: ∀w1,aK D G w0 w1 L->aD P f s args w1 (λx w'=>x=v/\Ext w1 w')) (k: ∀a,aK D G w0 a L->K v a):az P f s args w K:=λw1 h=>
 (hc w1 (H.ext h)).mono λx a ⟨b,c⟩=>by subst b;exact k a ((H.ext h).ext c)
theorem af.of {P:Dk} {f:Do} {s:Sh} {args:List Ag} {v:s.T} (h: ∀w',Ext w w'->aD P f s args w' (λx a=>x=v/\Ext w' a)):af P f args w (s.gR v):=
 λw' b=>bU (h w' b)
theorem aK.grow {e:El} {s:Option AC×Nat×Nat} {xs:List e.T} {x:e.T} {b:Nat} {Ls L0:List (Nat×List Ag)} (H:aK D G w0 w ((b,cellsOf e x)::(Ls++L0)))
 (q:(s=(none,0,0)/\xs=[]/\Ls=[])\/ ∃bs c rest,s=(some ⟨bs,0,none⟩,xs.length,c)/\Ls=[(bs,flat e xs++rest)]/\(flat e xs++rest).length=c*aE e/\xs.length<=c)
 (Q:gT e=true) {t:Fi} {size bytes:Nat} {z:Array Ag} (v:size=aE e) (S:z.size=aE e) (hb:(xs.length+1)*bytes<=140737488355328)
 {R:Option AC×Nat×Nat->A2->Prop} (k: ∀bs c rest w',(flat e (xs++[x])++rest).length=c*aE e->xs.length+1<=c->aK D G w0 w' ((bs,flat e (xs++[x])++rest)::L0)->R (some ⟨bs,0,none⟩,xs.length+1,c) w'):
 mz w t size bytes z s (some ⟨b,0,none⟩,1,1) R:=by
 subst v;have U:(vu 0 w).heap.size=0:=iA (Ga _);have V:lM (vu 0 w) w e s xs:=by
  rcases q with ⟨rfl,rfl, _⟩|⟨bs,c,rest,rfl,rfl,h1,m⟩
  ·exact lM.nil _ _ _
  ·refine⟨rfl,m,.inr ⟨bs, _,rfl,by rw[U];exact Ga _,H.get (i:=1) rfl,h1,?_⟩⟩;rw[J6 (by rw[aF];exact Dx _),J7 (by rw[aF];exact Dx _)]
 have W:bL w b (cellsOf e x):=H.get (i:=0) rfl;refine lC (ys:=[x]) V (p8 (Ga _)) Q rfl ?_ S hb λs' w' X g I v J=>?_
 ·refine W.oB (aF e [x]) λj hj=>?_;simp[flat]
 ·obtain⟨p,n,c⟩:=s';obtain⟨h1,m,K⟩:=X;simp only at h1 m K J;have Y:(xs++[x]).length=xs.length+1:=by simp
  rcases K with ⟨_,Z, _⟩|⟨bs,l,a1, _,a3,a4,a5⟩
  ·simp at Z
  ·subst a1;rw[Y] at h1 m;subst h1;have el:l=flat e (xs++[x])++l.drop ((xs++[x]).length*aE e):=by rw[<-a5,F2]
   refine k bs c (l.drop ((xs++[x]).length*aE e)) w' (by rw[<-el];exact a4) m ?_;rw[<-el];have hG': ∃B,Fr B w w'/\(∀y∈B,y∈Ls.map (·.1)):=by
    rcases q with ⟨rfl, _,rfl⟩|⟨bo,co,L,rfl,rfl, _, _⟩
    ·exact⟨[],⟨g.os,g.tape,g.output,v,λy d _=>I y d (λa C=>by cases C)⟩,λy d=>by cases d⟩
    ·exact⟨[bo],⟨g.os,g.tape,g.output,v,λy d hn=>I y d (λa C=>by cases C;simpa using hn)⟩,λy d=>by simpa using d⟩
   obtain⟨B,M,N⟩:=hG';have E:=H.nd;simp only[DB,Fo,Bx,HZ,GF] at E;have O: ∀y∈Ls.map (·.1),w0.heap.size<=y\/y∈G:=λy d=>by
    obtain⟨u,o,rfl⟩:=B1.1 d;exact H.own u (BY _ (Dc _ o))
   have P:bs∈Ls.map (·.1)\/w.heap.size<=bs:=by
    rcases J with ⟨a,f,A⟩|⟨a,f,A⟩|f
    ·cases f;rcases q with ⟨rfl, _, _⟩|⟨bo,co,L,rfl,rfl, _, _⟩
     ·cases A
     ·cases A;exact .inl (by simp)
    ·cases f;exact .inr A
    ·rcases q with ⟨rfl, _, _⟩|⟨bo,co,L,rfl,rfl, _, _⟩
     ·cases f
     grind
   refine H.frame M (λy d=>O y (N y d)) (λr hr d=>?_) (λy d=>?_) (λy d=>?_) ?_
   ·obtain⟨u,o,f⟩:=B1.1 (N r d);exact aK.da (H.db u (BY _ (Dc _ o))) (H.pL r hr).2 (λ_ _ _ hc=>by cases hc) f
   ·rcases BJ.1 d with rfl|d
    ·exact a3
    ·refine M.db (λF=>?_) (H.db y (BY _ (Dr _ d)))
     grind
   ·rcases BJ.1 d with rfl|d
    ·rcases P with h|h
     ·exact O _ h
     ·exact .inl (Dn H.fr.size h)
    ·exact H.own y (BY _ (Dr _ d))
   ·refine Bx.2 ⟨λF=>?_,E.2.2.1⟩;rcases P with h|h
    ·exact E.2.2.2 bs h bs F rfl
    ·obtain⟨u,o,f⟩:=B1.1 F;have:=(H.db u (BY _ (Dr _ o))).lt;simp only at f h;omega
def kh (e:El) (rows:List (Nat×List Ag)) (r:Option AC×Nat×Nat) (xs:List e.T):Prop:=
 r.2.1=xs.length/\((xs=[]/\rows=[])\/ ∃b rest,r.1=some ⟨b,0,none⟩/\rows=[(b,RX.flat e xs++rest)])
theorem aK.ab4 {w':A2} (H:aK D G w0 w L) (h:Ext w w') {e:El} {r:Option AC×Nat×Nat} {xs:List e.T} (a:lM w w' e r xs): ∃rows,aK D G w0 w' (L++rows)/\kh e rows r xs:=by
 by_cases d:xs=[]
 ·exact⟨[],by rw[Hb];exact H.ext h,a.len,by grind⟩
 ·obtain⟨b,c,rest,rfl,f⟩:=H.got h a d;exact⟨[(b,RX.flat e xs++rest)],f.perm (NG _ _),rfl,by simp⟩
theorem kh.sl {e:El} {rows:List (Nat×List Ag)} {r:Option AC×Nat×Nat} {xs:List e.T} (h:kh e rows r xs) (H:aK D G w0 w L) (a: ∀x∈rows,x∈L):Sl w e r.1 xs:=by
 rcases h.2 with ⟨rfl, _⟩|⟨b,rest,h1,rfl⟩
 ·intro;grind
 ·rw[h1];refine Sl.jA (H.db _ (a _ (Dq.2 rfl))) ?_;rw[J6 (by rw[aF];simp),J7 (by rw[aF];simp)]
theorem az.YI (H:aK D G w0 w L) {P:Dk} {f:Do} {args:List Ag} {e:El} {xs:List e.T} {K:(Option AC×Nat×Nat)->A2->Prop}
 (hc: ∀w',aK D G w0 w' L->aD P f (.el (.one .slice)) args w' (λr a=>lM w' a e r xs/\Ext w' a)) (k: ∀r rows w1,aK D G w0 w1 (L++rows)->kh e rows r xs->K r w1):
 az P f (.el (.one .slice)) args w K:=λw1 h=>(hc w1 (H.ext h)).mono λx d ⟨b,c⟩=>by
 obtain:=(H.ext h).ab4 c b
 grind
end
def NC (o:B2):Prop:= ∀a t f,o≠ .cells a t f
def Ob (l:Nat) (w w':A2):Prop:= ∀r o,r≠l->NC o->w.heap[r]? =some o->w'.heap[r]? =some o
theorem Ob.trans {l:Nat} {a b c:A2} (h:Ob l a b) (k:Ob l b c):Ob l a c:=λr o d e f=>k r o d e (h r o d e f)
theorem Ob.uT {l:Nat} {a b:A2} (h:Ext a b):Ob l a b:=λ_ _ _ _ c=>h.obj c
theorem Ob.put (l:Nat) (w:A2) (o:B2):Ob l w (w.putObj l o):=λr o' a _ b=>by rw[fx a];grind
structure JK {T:Type} (bm:Nat) (mc:List Ag->Prop) (J:List T->List (Nat×List Ag)->List (Nat×B2)->A2->Prop):Prop where
 step: ∀{a X O w w' l' Y},J a X O w->Fr [bm] w w'->bL w' bm l'->mc l'->(∀y∈Y,w.heap.size<=y.1/\bL w' y.1 y.2)->(Y.map (·.1)).Nodup->J a (Y++X) O w'
 mem: ∀{a X O w},J a X O w-> ∃l,mc l/\bL w bm l
 db: ∀{a X O w x},J a X O w->x∈X->x.1≠bm/\bL w x.1 x.2
 obj: ∀{a X O w r o},J a X O w->(r,o)∈O->w.heap[r]? =some o
 alO: ∀{a X O w o},J a X O w->NC o->J a X ((w.heap.size,o)::O) (w.alloc o)
 puO: ∀{a X O w r o o'},J a X ((r,o)::O) w->NC o'->J a X ((r,o')::O) (w.putObj r o')
 sub: ∀{a X O X' O' w},J a X O w->(∀x∈X',x∈X)->O'.Sublist O->J a X' O' w
 perm: ∀{a X O O' w},J a X O w->O'.Perm O->J a X O' w
def Yd {T:Type} (P:Dk) (y:Nat) (b:T->List Ag) (N:Nat) (J:List T->List (Nat×List Ag)->List (Nat×B2)->A2->Prop):Prop:=
 ∀a x X O w (R:Bool->A2->Prop),a.length<N->J a X O w->(∀w',J (a++[x]) X O w'->R true w')->ml P y (b x) w R
def ItJ {T:Type} (P:Dk) (b:Do) (args:Nat->List Ag) (c:T->List Ag) (N bm:Nat) (mc:List Ag->Prop) (d:List (Nat×List Ag)) (xs:List T):Prop:=
 ∀(y:Nat) (J:List T->List (Nat×List Ag)->List (Nat×B2)->A2->Prop),JK bm mc J->Yd P y c N J-> ∀a X O w,a.length+xs.length<=N->(∀x∈d,x∈X)->J a X O w->
  Calls P b ⟨args y⟩ w (λe w'=> ∃v,e= .returned v/\J (a++xs) X O w')
section
variable {T:Type} {bm:Nat} {mc:List Ag->Prop} {J:List T->List (Nat×List Ag)->List (Nat×B2)->A2->Prop} {a:List T} {X:List (Nat×List Ag)} {O:List (Nat×B2)} {w w':A2}
theorem JK.ext (K:JK bm mc J) (j:J a X O w) (h:Ext w w'):J a X O w':=by
 obtain⟨l,h1,b⟩:=K.mem j;exact K.step (Y:=[]) j (.uT h) (b.ext h) h1 (by grind) (by grind)
theorem JK.td (K:JK bm mc J) (j:J a X O w) {Y:List (Nat×List Ag)} {l':List Ag} (H:At [bm] w w' (Y++[(bm,l')])) (c:mc l'):J a (Y++X) O w':=by
 have b:=H.nd;rw[Fo,HZ] at b;refine K.step j H.fr (H.db (bm,l') (by simp)) c (λy d=>⟨?_,H.db y (by grind)⟩) b.1;rcases H.own y (by grind)
 ·grind
 grind
theorem JK.at0 (K:JK bm mc J) (j:J a X O w): ∃l,mc l/\At [bm] w w [(bm,l)]:=by
 obtain⟨l,h1,b⟩:=K.mem j;exact⟨l,h1,At.rJ b⟩
theorem JK.close (K:JK bm mc J): ∀(D:List Nat) {w:A2},J a X (D.map (λr=>(r,Obj.deferred (some [])))++O) w->DJ D w/\J a X O (mo D w)
 |[], _,j=>⟨trivial,j⟩
 |r::D,w,j=>by
  have h:=K.obj j (r:=r) (o:= .deferred (some [])) (by simp);have b:=K.puO (o':= .deferred none) j λ_=>by grind
  obtain⟨h1,c⟩:=K.close D (K.sub b (λ_ h=>h) (FE _ _));exact⟨⟨h,h1⟩,c⟩
theorem JK.sk (K:JK bm mc J) (D:List Nat) (j:J a X (D.map (λr=>(r,Obj.deferred (some [])))++O) w) {Q:A2->Prop} (k: ∀w1,J a X O w1->Q w1):sk D w Q:=λw1 h1=>by
 obtain:=K.close D (K.ext j h1)
 grind
abbrev NQ (rec:Loop):B2:= .loop {rec with state:= .ready,pending:=none}
abbrev lpB (rec:Loop):B2:= .loop {rec with state:= .busy,pending:=none}
theorem Is (rec:Loop) (st:LoopState) (a:Option Code):NC (.loop {rec with state:=st,pending:=a}):=λe=>by grind
theorem Dd.XQ (K:JK bm mc J) {l n m:Nat} {rec:Loop} (j:J a X ((l,NQ rec)::O) w) {Q:Prop} (b:n=m) (k:Q):Dd l rec n m w Q:=⟨⟨none,K.obj j (by simp)⟩,b,k⟩
theorem BN.XQ (K:JK bm mc J) {l:Nat} {rec:Loop} (j:J a X ((l,NQ rec)::O) w) {Q:A2->Prop} (k: ∀wb,J a X ((l,lpB rec)::O) wb->Q wb):BN l rec w Q:=λd c=>by
 have b:=K.ext j c;exact⟨none,K.obj b (by simp),k _ (K.puO b (Is rec _ _))⟩
theorem sj.XQ (K:JK bm mc J) {l:Nat} {rec:Loop} (j:J a X ((l,lpB rec)::O) w) {R:Bool->A2->Prop} (k: ∀b,J a X ((l,NQ rec)::O) b->R true b):sj l rec none w R:=λe d=>by
 have c:=K.ext j d;exact⟨.busy,none,K.obj c (by simp),k _ (K.puO c (Is rec _ _))⟩
theorem du.XQ (K:JK bm mc J) {l:Nat} {rec:Loop} (j:J a X ((l,NQ rec)::O) w) {Kn Kr:A2->Prop} {Kx:Nat->A2->Prop} (k: ∀b,J a X O b->Kn b):du l rec w Kn Kx Kr:=
 ⟨.ready,.none,K.obj j (by simp),by simp,k _ (K.sub (K.puO j (Is rec _ _)) (λ_ h=>h) (by grind))⟩
end
section
variable {D G:List Nat} {w0 w:A2} {L:List (Nat×List Ag)}
theorem BN.goO {l:Nat} {rec:Loop} {K:A2->Prop} (h:xO D G w0 w L l rec) (k: ∀wb,At (L.map (·.1)) wb wb L->Bsy D G w0 wb L l rec->Ob l w wb->K wb):BN l rec w K:=λg a=>by
 obtain⟨c,H,e⟩:=h;have f:=H.ext a;have b:=e.ext a;have d:=f.sS c b .busy none;exact⟨none,b,k _ d.again ⟨c,d,b.put _ _⟩ ((Ob.uT a).trans (Ob.put _ _ _))⟩
theorem Ob.td {l:Nat} {wb a:A2} {L':List (Nat×List Ag)} (H:aK D G w0 wb L) (c:At (L.map (·.1)) wb a L'):Ob l wb a:=λr o _ d b=>by
 rw[c.fr.block r (E4.1 b).1 λf=>?_]
 ·grind
 ·obtain⟨x,g,e⟩:=B1.1 f;exact aK.da (H.db x g) b d e
theorem sj.lf {l:Nat} {rec:Loop} {wb f:A2} {L':List (Nat×List Ag)} {R:Bool->A2->Prop} (h:Bsy D G w0 wb L l rec) (b:At (L.map (·.1)) wb f L') (k: ∀a,xO D G w0 a L' l rec->Ob l wb a->R true a):sj l rec none f R:=λa c=>by
 obtain⟨g,H,d⟩:=h;have i:=(H.join (λx j=>j) b).ext c;have m:=d.same (b.fr.block l d.lt (rU H d).2);have e:=m.ext c;exact⟨.busy,none,e,k _ ⟨g,i.sS g e _ _,e.put _ _⟩ (((Ob.td H b).trans (Ob.uT c)).trans (Ob.put _ _ _))⟩
theorem zS.Oc {T:Type} {P:Dk} {fS:Do} {args:Nat->List Ag} {ps:Array Nat} {em:T->List Ag} {Rd:Nat->Loop->T->A2->(Bool->A2->Prop)->Prop} {Af:Nat->Loop->A2->Prop} {N bm:Nat} {mc:List Ag->Prop} {X0:List (Nat×List Ag)} {xs:List T}
 {F:List Ag} {Rg0 Lb:List (Nat×List Ag)} (H:aK D G w0 w (Rg0++((bm,F)::Lb))) (hm0:mc F) (It:ItJ P fS args em N bm mc X0 xs) (hX: ∀x∈X0,x∈Lb) (hN:xs.length<=N) (B:List T->List (Nat×List Ag)->Prop) (h0:B [] Rg0)
 (x_: ∀b x c Z r l rec p (R:Bool->A2->Prop),b.length<N->B b c->xO (r::D) G w0 p (c++Z) l rec->(∀I w',B (b++[x]) I->xO (r::D) G w0 w' (I++Z) l rec->Ob l p w'->R true w')->Rd l rec x p R)
 (haf: ∀r rec M l' c,mc l'->B xs c->xO (r::D) G w0 M (c++((bm,l')::Lb)) (r+1) rec->Af r rec M):zS P fS args ps w em Rd Af:=by
 intro w1 h1 rec _ _ vj XF o7;have H1:=H.ext h1;have sz:(w1.alloc (.deferred (some []))).heap.size=w1.heap.size+1:=lB _ _;have Aa:rec={rec with state:= .ready,pending:= .none}:=by rw[<-vj, <-XF]
 have gW:w0.heap.size<=w1.heap.size:=H1.fr.size;have hW:xO (w1.heap.size::D) G w0 ((w1.alloc (.deferred (some []))).alloc (.loop rec)) (Rg0++((bm,F)::Lb)) (w1.heap.size+1) rec:=by
  refine⟨by omega,?_,?_⟩
  ·have C:=(H1.rI (.deferred (some []))).rI (.loop rec);refine⟨C.fr,C.db,C.own,C.nd,λr f=>?_⟩;rcases BJ.1 f with rfl|f
   ·exact⟨gW,(Ext.alloc _ _).obj (fp w1 _)⟩
   ·exact C.pL r f
  ·have:=fp (w1.alloc (.deferred (some []))) (.loop rec);rw[sz] at this;unfold cQ;rw[this, <-Aa]
 generalize hR:w1.heap.size=rr at*
 let J:List T->List (Nat×List Ag)->List (Nat×B2)->A2->Prop:=λb X O w'=> ∃l' c Y,mc l'/\B b c/\xO (rr::D) G w0 w' (c++((bm,l')::(Y++Lb))) (rr+1) rec/\(∀x∈X,x∈Y++Lb)/\(∀x∈O,w'.heap[x.1]? =some x.2/\NC x.2/\w0.heap.size<=x.1/\x.1≠rr+1/\x.1∉rr::D)/\(O.map (·.1)).Nodup
 have K:JK bm mc J:=by
  refine⟨?_,?_,?_,?_,?_,?_,?_,?_⟩
  ·rintro b X O k p Q t ⟨l',c,Y,hm,i,⟨h1,d,q⟩,a,g,j⟩ S hb hl hy hyn;have u:(bm,l')∈c++((bm,l')::(Y++Lb)):=by simp
   have dn: ∀x∈c++(Y++Lb),bL p x.1 x.2/\x.1<k.heap.size:=λx a=>by
    have vk:x∈c++((bm,l')::(Y++Lb)):=by
     rcases GF.1 a with h|h
     ·exact Dc _ h
     ·exact Dr _ (BY _ h)
    have hk:=d.db x vk;refine⟨S.db ?_ hk,hk.lt⟩;intro hc;rw[Dq] at hc;have y:=d.nd;have s:((bm,l')::(c++(Y++Lb))).Perm (c++((bm,l')::(Y++Lb))):=B7.symm;have A:=((s.map (·.1)).nodup_iff).2 y;rw[DB,Bx] at A;exact A.1 (B1.2 ⟨x,a,hc⟩)
   refine⟨Q,c,t++Y,hl,i,⟨h1,?_,?_⟩,λx m=>?_,λx m=>?_,j⟩
   ·have y:=d.nd;have s:((bm,l')::(c++(Y++Lb))).Perm (c++((bm,l')::(Y++Lb))):=B7.symm;have A:=((s.map (·.1)).nodup_iff).2 y;have sK:((bm,Q)::(t++(c++(Y++Lb)))).Perm (c++((bm,Q)::(t++Y++Lb))):=by
     refine List.Perm.trans (Dj _ ?_) B7.symm;rw[Fm, <-Fm t c, <-Fm c t];exact List.perm_append_comm.append_right _
    refine aK.perm (L:=(bm,Q)::(t++(c++(Y++Lb)))) ?_ sK.symm;refine d.frame S (λx a=>?_) (λr f a=>?_) (λx a=>?_) (λx a=>?_) ?_
    ·rw[Dq.1 a];exact d.own (bm,l') u
    ·rw[Dq] at a;exact aK.da (d.db (bm,l') u) (d.pL r f).2 (λ_ _ _ hc=>by cases hc) a.symm
    ·rcases BJ.1 a with rfl|a
     ·exact hb
     ·rcases GF.1 a with a|a
      ·exact(hy x a).2
      ·exact(dn x a).1
    ·rcases BJ.1 a with rfl|a
     ·exact d.own (bm,l') u
     ·rcases GF.1 a with a|a
      ·exact .inl (Dn d.fr.size (hy x a).1)
      ·refine d.own x ?_;rcases GF.1 a with h|h
       ·exact Dc _ h
       ·exact Dr _ (BY _ h)
    ·rw[DB,Bx] at A;rw[DB,Fo,Bx,HZ];have fresh: ∀x∈t, ∀z,z<k.heap.size->x.1≠z:=λx a z hz e=>by
      have:=(hy x a).1;omega
     refine⟨λhm=>?_,hyn,A.2,λx a z hz e=>?_⟩
     ·rcases GF.1 hm with hm|hm
      ·obtain⟨x,a,e⟩:=B1.1 hm;exact fresh x a bm (d.db (bm,l') u).lt e
      ·exact A.1 hm
     ·obtain⟨x1,oC,e1⟩:=B1.1 a;obtain⟨z1,WA,e2⟩:=B1.1 hz;exact fresh x1 oC z1.1 (dn z1 WA).2 (by rw[e1,e2,e])
   ·refine q.same (S.block _ q.lt (λhc=>?_));rw[Dq] at hc;exact aK.da (d.db (bm,l') u) q (λ_ _ _ hc=>by cases hc) hc.symm
   grind
   ·obtain⟨o1,n,E⟩:=g x m;refine⟨?_,n,E⟩;rw[S.block x.1 (E4.1 o1).1 (λhc=>?_)]
    ·exact o1
    ·rw[Dq] at hc;exact aK.da (d.db (bm,l') u) o1 n hc.symm
  ·rintro b X O k ⟨l',c,Y,hm,i,f,a,g,j⟩;exact⟨l',hm,f.2.1.db (bm,l') (by simp)⟩
  ·rintro b X O k x ⟨l',c,Y,hm,i,f,a,g,j⟩ m;have s:((bm,l')::(c++(Y++Lb))).Perm (c++((bm,l')::(Y++Lb))):=B7.symm;have d:=f.2.1.perm s;have U:x∈c++(Y++Lb):=Dr _ (a x m);refine⟨λe=>?_,d.db x (BY _ U)⟩;have y:=d.nd;rw[DB,Bx] at y;exact y.1 (B1.2 ⟨x,U,e⟩)
  ·rintro b X O k r o ⟨l',c,Y,hm,i,f,a,g,j⟩ U;exact(g (r,o) U).1
  ·rintro b X O k o ⟨l',c,Y,hm,i,⟨h1,d,q⟩,a,g,j⟩ Xz;have V:=Ext.alloc k o;refine⟨l',c,Y,hm,i,⟨h1,d.rI o,q.ext V⟩,a,λx m=>?_,?_⟩
   ·rcases BJ.1 m with rfl|m
    ·refine⟨fp k o,Xz,d.fr.size,λe=>?_,λhc=>?_⟩
     ·have:=q.lt;simp only at e;omega
     ·have:=(E4.1 (d.pL _ hc).2).1;simp only at this;omega
    ·obtain⟨o1,n⟩:=g x m;exact⟨V.obj o1,n⟩
   ·rw[DB,Bx];refine⟨λhc=>?_,j⟩;obtain⟨x,m,e⟩:=B1.1 hc;have:=(E4.1 (g x m).1).1;simp only at e;omega
  ·rintro b X O k r o o' ⟨l',c,Y,hm,i,⟨h1,d,q⟩,a,g,j⟩ Xz;obtain⟨o1,n,E,W,o5⟩:=g (r,o) Dg;rw[DB,Bx] at j;refine⟨l',c,Y,hm,i,⟨h1,d.putObj E o1 n o5,?_⟩,a,λx m=>?_,?_⟩
   ·unfold cQ;rw[fx (λe=>W e.symm)];exact q
   ·grind[jR,BY,fx]
   ·rw[DB,Bx];exact j
  ·rintro b X O X' O' k ⟨l',c,Y,hm,i,f,a,g,j⟩ hs hO;exact⟨l',c,Y,hm,i,f,λx h=>a x (hs x h),λx h=>g x (hO.subset h),(hO.map _).nodup j⟩
  ·rintro b X O O' k ⟨l',c,Y,hm,i,f,a,g,j⟩ s;exact⟨l',c,Y,hm,i,f,a,λx h=>g x (s.subset h),(s.map _).nodup_iff.2 j⟩
 have Y:Yd P (rr+1) em N J:=by
  rintro b x X O p R hb ⟨l',c,Y,hm,i,f,a,g,j⟩ hR;refine o7 x p R (x_ b x c _ rr (rr+1) rec p R hb i f λI w' uC Tm hO=>hR w' ⟨l',I,Y,hm,uC,Tm,a,λx h=>?_,j⟩);obtain⟨o1,n,E,W,o5⟩:=g x h;exact⟨hO _ _ W n o1,n,E,W,o5⟩
 refine Calls.mono (It (rr+1) J K Y [] Lb [] _ (by simpa using hN) hX ⟨F,Rg0,[],hm0,h0,hW,λx h=>h,λx h=>(by cases h),Fw⟩) ?_;rintro e M ⟨v,V,l',c,Y,hm,i,f,a,g,j⟩;refine⟨v,V,haf rr rec M l' c hm i ⟨f.1,f.2.1.sub ?_,f.2.2⟩⟩;exact List.Sublist.append (T2 _) (T3 _ (NI _ _))
end
end Go.RX
namespace Go.Proofs.YtlcenllcmeebhaaGreat
set_option maxRecDepth 100000
open Go.RX
def dm (e:El) (s:Option AC×Nat×Nat) (xs:List e.T) (Ls:List (Nat×List Ag)):Prop:=
 s.2.1=xs.length/\xs.length<=s.2.2/\((s.1=none/\s.2.2=0/\Ls=[])\/ ∃bs rest,s.1=some ⟨bs,0,none⟩/\Ls=[(bs,flat e xs++rest)]/\s.2.2*aE e<=(flat e xs++rest).length)
theorem dm.nil (e:El):dm e (none,0,0) [] []:=⟨rfl,Dx _,.inl ⟨rfl,rfl,rfl⟩⟩
section
variable {D G:List Nat} {w0 w w1:A2} {L L0 Ls:List (Nat×List Ag)} {e:El} {s:Option AC×Nat×Nat} {xs:List e.T}
theorem dm.sl (h:dm e s xs Ls) (H:aK D G w0 w L) (b: ∀x∈Ls,x∈L):Sl w e s.1 xs:=by
 obtain⟨h1,f,⟨a1,a,c⟩|⟨bs,rest,a1,a,c⟩⟩:=h
 ·have:xs=[]:=Hh (by omega);subst this;intro i x d;simp at d
 ·rw[a1];refine Sl.jA (H.db _ (b _ (by rw[a];exact Dq.2 rfl))) ?_;rw[J6 (by rw[aF];exact Dx _),J7 (by rw[aF];exact Dx _)]
theorem dm.oB (h:dm e s xs Ls) (H:aK D G w0 w L) (b: ∀x∈Ls,x∈L):oB w s.1 (s.2.1*aE e) (flat e xs):=by
 obtain⟨h1,d,⟨a1,a,c⟩|⟨bs,rest,a1,a,c⟩⟩:=h
 ·have:xs=[]:=Hh (by omega);subst this;rw[a1];rfl
 ·rw[a1];refine bL.oB (vs:=flat e xs) (H.db _ (b _ (by rw[a];exact Dq.2 rfl))) (by rw[aF,h1]) λi hi=>?_;rw[DH,HB (by rw[aF, <-h1];exact hi)]
theorem aK.T7 (H:aK D G w0 w (Ls++L0)) (m:dm e s xs Ls) (u:gT e=true) {q:Option AC×Nat×Nat} {ys:List e.T} (a:q.2.1=ys.length) (v:Go.RX.oB w q.1 (q.2.1*aE e) (flat e ys))
 {t:Fi} {size bytes:Nat} {z:Array Ag} (y:size=aE e) (A:z.size=aE e) (hb:(xs.length+ys.length)*bytes<=140737488355328) {R:Option AC×Nat×Nat->A2->Prop}
 (k: ∀s' n w',dm e s' (xs++ys) n->aK D G w0 w' (n++L0)->R s' w'):mz w t size bytes z s q R:=by
 subst y;have B:=m.oB H (λx g=>Dc _ g);obtain⟨h1,K,C⟩:=m;have h:=aF e xs;have E:=aF e ys;refine⟨flat e xs,flat e ys,B,v,λb=>?_,λb=>⟨growslice_fits b (by rw[h1,a];exact hb),λc hc=>?_⟩⟩
 ·rcases C with ⟨a1,d,f⟩|⟨bs,rest,a1,d,f⟩
  ·rw[d] at b;have F:ys=[]:=Hh (by omega);have g:xs=[]:=Hh (by omega);subst F;subst g;subst f;refine⟨.inl rfl,?_⟩;rw[a1];exact k _ [] _ ⟨by rw[h1,a];rfl,Ga _,.inl ⟨rfl,d,rfl⟩⟩ H
  ·subst d;have I:s.1.map (·.add (s.2.1*aE e))=some ⟨bs,xs.length*aE e,none⟩:=by rw[a1,h1];simp[N8]
   rw[I];have j:xs.length*aE e+(flat e ys).length<=(flat e xs++rest).length:=by
    rw[E, <-K1];exact Dn (Gj _ (by rw[<-h1, <-a];exact b)) f
   refine⟨.inr ⟨(H.get (i:=0) rfl).st j,jG e ys u⟩,?_⟩;have p:=H.put 0 (o:=xs.length*aE e) rfl (flat e ys) j;have l:(flat e xs++rest).take (xs.length*aE e)=flat e xs:=List.take_left' h;have J:(flat e xs++rest).drop (xs.length*aE e+(flat e ys).length)=rest.drop (flat e ys).length:=by rw[<-h,N7]
   rw[l,J, <-Fm, <-dK] at p;refine k (s.1,s.2.1+q.2.1,s.2.2) [(bs,flat e (xs++ys)++rest.drop (flat e ys).length)] _ ⟨by rw[h1,a,DQ],by rw[DQ, <-h1, <-a];exact b,.inr ⟨bs, _,a1,rfl,?_⟩⟩ p;refine Dn f ?_;rw[dK];simp only[DQ,GG];simp only[DQ,h] at j;omega
 ·have r:=(H.ext (Ext.drew w)).alloc (flat e xs++flat e ys++(H6 z (c - (s.2.1+q.2.1))).toList) t;have l:(Ki (flat e xs)++Ki (flat e ys)++H6 z (c - (s.2.1+q.2.1)))=⟨flat e xs++flat e ys++(H6 z (c - (s.2.1+q.2.1))).toList⟩:=by
   apply Kf;simp
  rw[l];rw[<-dK] at r ⊢;refine k _ [(w.heap.size,flat e (xs++ys)++(H6 z (c - (s.2.1+q.2.1))).toList)] _ ⟨by rw[h1,a,DQ],by rw[DQ, <-h1, <-a];exact hc,.inr ⟨_, _,rfl,rfl,?_⟩⟩ (r.sub ((NI Ls L0).cons_cons _));simp only[DQ,aF,H6,Array.length_toList,Array.size_map,Array.size_range,A];rw[<-K1];exact Gj _ (by omega)
theorem dm.st {i:Nat} (h:dm e s xs Ls) (H:aK D G w0 w (Ls++L0)) (hi:i<xs.length) (y:e.T) {vs:List Ag} (hv:vs=cellsOf e y) (d:gT e=true) {K:A2->Prop}
 (k: ∀b w1,dm e s (xs.set i y) b->aK D G w0 w1 (b++L0)->K w1):aA w (ad s.1 (i*aE e)) vs K:=by
 obtain⟨h1,f,⟨a1,c,a⟩|⟨bs,rest,a1,c,a⟩⟩:=h
 ·omega
 ·subst c;rw[a1];refine aA.flat 0 H y rfl hv d hi λw1 g=>k [(bs,flat e (xs.set i y)++rest)] w1 ⟨by rw[JR];exact h1,by rw[JR];exact f,.inr ⟨bs,rest,a1,rfl,?_⟩⟩ g;rw[DQ,aF] at a ⊢;rw[JR];exact a
theorem aj.ku (H:aK D G w0 w L) {b n:Nat} {l:List Ag} (a:(b,l)∈L) {g:Option Bool} {el:El} {K:el.T->Prop} {x:el.T} (hv:kr l n el=some x) (k:K x):aj w g (ad (ae b) n) el K:=by
 obtain⟨j,c⟩:=GJ a;exact aj.cq j H c (by rw[DH];exact hv) k
end
end Go.Proofs.YtlcenllcmeebhaaGreat
namespace Go.Proofs.YtlcenllcmeebhaaGreat.Mu
set_option maxRecDepth 100000
open Go.RX
abbrev sLn:List Sc:=[.int .i64,.int .i64,.int .i64,.int .i64]
abbrev j9:El:= .agg sLn
noncomputable def U0:dD AI:={C0 with quiet:=[140,150,204,149,148,106,114,237]}
noncomputable def U1:dD AI:={U0 with quiet:=236::116::U0.quiet}
theorem Ku (t p f r:Int) (w:A2) (j:Bool->A2->Prop):(aJ U0 (λ_=>[]) 204 [.agg ⟨[aa t,aa p,aa f,aa r]⟩] w j)=(
 aM w ⟨[aa t,aa p,aa f,aa r]⟩ 96 λb d=>true=true/\aR d (ad (ae b) 0) λx=>(decide (x>=1)=true->true=true)/\aj d (some (decide (x>=1))) (ad (ae b) 0) aT λ(a:Int)=>((decide (x>=1)&&decide (a<=16))=true->true=true)/\aj d (some (decide (x>=1)&&decide (a<=16))) (ad (ae b) 1) aT λ(c:Int)=>((decide (x>=1)&&decide (a<=16)&&decide (c>=0))=true->true=true)/\aj d (some (decide (x>=1)&&decide (a<=16)&&decide (c>=0))) (ad (ae b) 1) aT λ(e:Int)=>((decide
 (x>=1)&&decide (a<=16)&&decide (c>=0)&&decide (e<65536))=true->true=true)/\aj d (some (decide (x>=1)&&decide (a<=16)&&decide (c>=0)&&decide (e<65536))) (ad (ae b) 2) aT λ(g:Int)=>((decide (x>=1)&&decide (a<=16)&&decide (c>=0)&&decide (e<65536)&&decide (g>=0))=true->true=true)/\aj d (some (decide (x>=1)&&decide (a<=16)&&decide (c>=0)&&decide (e<65536)&&decide (g>=0))) (ad (ae b) 2) aT λ(h:Int)=>((decide (x>=1)&&decide (a<=16)&&decide (c>=0)&&decide (e<
 65536)&&decide (g>=0)&&decide (h<4096))=true->true=true)/\aj d (some (decide (x>=1)&&decide (a<=16)&&decide (c>=0)&&decide (e<65536)&&decide (g>=0)&&decide (h<4096))) (ad (ae b) 3) aT λ(i:Int)=>((decide (x>=1)&&decide (a<=16)&&decide (c>=0)&&decide (e<65536)&&decide (g>=0)&&decide (h<4096)&&decide (i>=1))=true->true=true)/\aj d (some (decide (x>=1)&&decide (a<=16)&&decide (c>=0)&&decide (e<65536)&&decide (g>=0)&&decide (h<4096)&&decide (i>=1))) (ad (ae b)
 3) aT λ(k:Int)=>ao d (j (decide (x>=1)&&decide (a<=16)&&decide (c>=0)&&decide (e<65536)&&decide (g>=0)&&decide (h<4096)&&decide (i>=1)&&decide (k<=7)))):=by kernel_rfl
theorem Zl (t p f r a b:Int) (w:A2) (e:Bool->A2->Prop):(aJ U0 (λ_=>[]) 150 [.agg ⟨[aa t,aa p,aa f,aa r]⟩,aa a,aa b] w e)=(
 aM w ⟨[aa t,aa p,aa f,aa r]⟩ 96 λd c=>aj c none (ae d) dG λ(x:Int×Int×Int×Int×Unit)=>true=true/\aR c (ad (ae d) 2) λg=>true=true/\aR c (ad (ae d) 3) λh=>ao c λw1=>e (x.1==a&&(x.2.1==b&&(x.2.2.1==g&&(x.2.2.2.1==h&&true)))) w1):=by kernel_rfl
theorem Kv (p:Option AC) (w:A2) (a:Bool->A2->Prop):(aJ U0 (λ_=>[]) 140 [ag p] w a)=(
 ((!p.isNone)=true->p.isSome=true)/\((!p.isNone)=true->p.isSome=true)/\aj w (some !p.isNone) (ad p 1) aT λ(x:Int)=>ao w (a (!p.isNone&&decide (x>0)))):=by kernel_rfl
theorem Uw (p:Option AC) (i:Int) (w:A2) (c:Unit->A2->Prop):(aJ U0 (λ_=>[]) 196 [ag p,aa i] w c)=(
 e8 p 0 w λx=>(0<=(↑0:Int)/\(↑0:Int)<=i/\i<=i/\i<=(↑x.2.2:Int))/\e8 p 0 w λa=>(0<=aI .i64 i 1/\aI .i64 i 1<=(↑a.2.1:Int)/\(↑a.2.1:Int)<=(↑a.2.2:Int)/\(↑a.2.2:Int)<=(↑a.2.2:Int))/\ ∀w1,Ext w w1->mz w1 96 4 32 ⟨[aa 0,aa 0,aa 0,aa 0]⟩ (GI (λ(h:i.toNat=(↑0:Int).toNat->False)=>ad x.1 0) (λ(h:i.toNat=(↑0:Int).toNat)=>x.1) (instDecidableEqNat i.toNat 0),i.toNat - 0,i.toNat - 0) (GI (λ(h:(↑a.2.2:Int).toNat=(aI .i64 i 1).toNat->False)=>ad
 a.1 ((aI .i64 i 1).toNat*4)) (λ(h:(↑a.2.2:Int).toNat=(aI .i64 i 1).toNat)=>a.1) (instDecidableEqNat (↑a.2.2:Int).toNat (aI .i64 i 1).toNat),(↑a.2.1:Int).toNat - (aI .i64 i 1).toNat,(↑a.2.2:Int).toNat - (aI .i64 i 1).toNat) λ(r:Option AC×Nat×Nat) b=>p.isSome=true/\p.isSome=true/\aA b (ad p 0) [.slice r.1 r.2.1 r.2.2] λb=>ao b (c ())):=by kernel_rfl
theorem GR (t p f r:Int) (c d:Option AC) (w:A2) (e:Bool->A2->Prop):(aJ U0 (λ_=>[]) 149 [.agg ⟨[aa t,aa p,aa f,aa r]⟩,ag c,ag d] w e)=(
 aM w ⟨[aa t,aa p,aa f,aa r]⟩ 96 λb a=>aj a none (ae b) dG λ(x:Int×Int×Int×Int×Unit)=>aR a c λh=>aR a d λi=> ∃g,af AI 150 [.agg ⟨[aa x.1,aa x.2.1,aa x.2.2.1,aa x.2.2.2.1]⟩,aa h,aa i] a (.bool g)/\ao a (e g)):=by kernel_rfl
theorem Kw (t p f r:Int) (c:Option AC) (w:A2) (d:Bool->A2->Prop):(aJ U0 (λ_=>[]) 148 [.agg ⟨[aa t,aa p,aa f,aa r]⟩,ag c] w d)=(
 aM w ⟨[aa t,aa p,aa f,aa r]⟩ 96 λb a=>true=true/\aR a (ad (ae b) 0) λx=>aR a c λe=>ao a (d (x==e))):=by kernel_rfl
def pG:Nat->aY:=(λ|5=>[(5,Go.RX.El.one (Go.RX.Sc.int B3)),(6,Go.RX.El.one (Go.RX.Sc.int B3))]| _=>[])
theorem GU (p c d:Option AC) (w:A2) (e:Int->A2->Prop):(aJ U0 pG 147 [ag p,.func (.func 149) #[] #[ag c,ag d]] w e)=(
 ∃x,af AI 140 [ag p] w (.bool x)/\aH (!x) (ao w (e 0)) (e8 p 0 w λx=> ∃(I:Nat->Int×Int×Unit->A2->Prop),(∃n, ∀w1,Ext w w1->I n (0,aX .i64 (↑x.2.1:Int) 1,()) w1)/\ ∀(n:Nat) (s:Int×Int×Unit) (w1:A2),I n s w1->aH (decide (s.2.1>=0)) (e8 p 0 w1 λx=>(x.1.isSome=true/\0<=s.2.1/\s.2.1<(↑x.2.1:Int))/\aj w1 none (ad x.1 (B4 s.2.1*4)) dG λ(x:Int×Int×Int×Int×Unit)=> ∃f,af AI 149 [.agg ⟨[aa x.1,aa x.2.1,aa x.2.2.1,aa x.2.2.2.1]⟩,.pointer
 c,ag d] w1 (.bool f)/\aH f (az AI 196 (.bu []) [ag p,aa s.2.1] w1 λx g=> ∀a,Ext g a-> ∃(b:Nat),b<n/\I b (aI .i64 s.1 1,aX .i64 s.2.1 1,()) a) (∀a,Ext w1 a-> ∃(b:Nat),b<n/\I b (s.1,aX .i64 s.2.1 1,()) a)) (ao w1 (e s.1)))):=by kernel_rfl
def pH:Nat->aY:=(λ|5=>[(5,Go.RX.El.one (Go.RX.Sc.int B3)),(6,Go.RX.El.one (Go.RX.Sc.int B3))]| _=>[])
theorem GW (p c:Option AC) (w:A2) (d:Int->A2->Prop):(aJ U0 pH 147 [ag p,.func (.func 148) #[] #[ag c]] w d)=(
 ∃x,af AI 140 [ag p] w (.bool x)/\aH (!x) (ao w (d 0)) (e8 p 0 w λx=> ∃(I:Nat->Int×Int×Unit->A2->Prop),(∃n, ∀w1,Ext w w1->I n (0,aX .i64 (↑x.2.1:Int) 1,()) w1)/\ ∀(n:Nat) (s:Int×Int×Unit) (w1:A2),I n s w1->aH (decide (s.2.1>=0)) (e8 p 0 w1 λx=>(x.1.isSome=true/\0<=s.2.1/\s.2.1<(↑x.2.1:Int))/\aj w1 none (ad x.1 (B4 s.2.1*4)) dG λ(x:Int×Int×Int×Int×Unit)=> ∃e,af AI 148 [.agg ⟨[aa x.1,aa x.2.1,aa x.2.2.1,aa x.2.2.2.1]⟩,.pointer
 c] w1 (.bool e)/\aH e (az AI 196 (.bu []) [ag p,aa s.2.1] w1 λx f=> ∀a,Ext f a-> ∃(b:Nat),b<n/\I b (aI .i64 s.1 1,aX .i64 s.2.1 1,()) a) (∀a,Ext w1 a-> ∃(b:Nat),b<n/\I b (s.1,aX .i64 s.2.1 1,()) a)) (ao w1 (d s.1)))):=by kernel_rfl
theorem Ky (p:Option AC) (t g:Int) (w:A2) (c:Bool->A2->Prop):(aJ U0 (λ_=>[]) 108 [ag p,aa t,aa g] w c)=(
 aM w ⟨[aa t]⟩ 3 λb a=>aM a ⟨[aa g]⟩ 3 λd a=>az AI 147 (.el aT) [ag p,.func (.func 149) ⟨[]⟩ {toList:=[ag (ae b),ag (ae d)]}] a λ(x:Int) a=>ao a (c (decide (x>0)))):=by kernel_rfl
theorem GX (p:Option AC) (t:Int) (w:A2) (c:Int->A2->Prop):(aJ U0 (λ_=>[]) 107 [ag p,aa t] w c)=(
 aM w ⟨[aa t]⟩ 3 λb a=>az AI 147 (.el aT) [ag p,.func (.func 148) ⟨[]⟩ {toList:=[ag (ae b)]}] a λ(x:Int) a=>ao a (c x)):=by kernel_rfl
abbrev vN (p:Option AC) (e:Int->A2->Prop) (d:A2) (f:Nat):Prop:=
 e8 p 0 d λx=>aj d none (ae f) dG λ(c:Int×Int×Int×Int×Unit)=>aM d ⟨[aa c.1,aa c.2.1,aa c.2.2.1,aa c.2.2.2.1]⟩ 96 λb a=> ∀w1,Ext a w1->mz w1 96 4 32 ⟨[aa 0,aa 0,aa 0,aa 0]⟩ (x.1,x.2.1,x.2.2) (some ⟨b,0,none⟩,1,1) λ(r:Option AC×Nat×Nat) a=>p.isSome=true/\p.isSome=true/\aA a (ad p 0) [.slice r.1 r.2.1 r.2.2] λa=>ao a (e 0)
theorem P8 (p:Option AC) (t g f r:Int) (w:A2) (c:Int->A2->Prop):(aJ U0 (λ_=>[]) 159 [ag p,.agg ⟨[aa t,aa g,aa f,aa r]⟩] w c)=(
 aM w ⟨[aa t,aa g,aa f,aa r]⟩ 96 λb a=> ∃x,af AI 140 [ag p] a (.bool x)/\aH (!x) (ao a (c 10)) (aj a none (ae b) dG λ(x:Int×Int×Int×Int×Unit)=> ∃d,af AI 204 [.agg ⟨[aa x.1,aa x.2.1,aa x.2.2.1,aa x.2.2.2.1]⟩] a (.bool d)/\aH (!d) (ao a (c 1)) (true=true/\aR a (ad (ae b) 0) λx=>true=true/\aR a (ad (ae b) 1) λe=>az AI 108 (.el rq) [ag p,aa x,aa e] a λx a=>((!x)=true->p.isSome=true)/\
 ((!x)=true->p.isSome=true)/\aj a (some !x) (ad p 0) eJ λh=>((!x)=true->p.isSome=true)/\((!x)=true->p.isSome=true)/\aj a (some !x) (ad p 1) aT λ(i:Int)=>aH (!x&&(↑h.2.1:Int)==i) (az AI 196 (.bu []) [ag p,aa 0] a λx a=>vN p c a b) (vN p c a b)))):=by kernel_rfl
def tW:Nat->aY:=(λ|4=>[(20,Go.RX.El.one (Go.RX.Sc.int B3))]| _=>[])
theorem P9 (p:Option AC) (t g k:Int) (w:A2) (c:Int×Int×Unit->A2->Prop):(aJ U0 tW 201 [ag p,aa t,aa g,aa k] w c)=(
 ∃x,af AI 140 [ag p] w (.bool x)/\aH (!x) (ao w (c (0,10,()))) (e8 p 0 w λx=> ∃(I:Nat->Int×Unit->A2->Prop),(∃n, ∀w1,Ext w w1->I n (0,()) w1)/\ ∀(n:Nat) (s:Int×Unit) (w1:A2),I n s w1->aH (decide (s.1<(↑x.2.1:Int))) ((x.1.isSome=true/\0<=s.1/\s.1<(↑x.2.1:Int))/\aj w1 none (ad x.1 (B4 s.1*4)) dG λ(x:Int×Int×Int×Int×Unit)=>aM w1 ⟨[aa 0,aa 0,aa 0,aa 0]⟩ 96 λb a=>aA a (ae b) [aa x.1,aa x.2.1,aa x.2.2.1,.int .i64
 x.2.2.2.1] λa=>aj a none (ae b) dG λ(x:Int×Int×Int×Int×Unit)=> ∃d,af AI 150 [.agg ⟨[aa x.1,aa x.2.1,aa x.2.2.1,aa x.2.2.2.1]⟩,aa t,aa g] a (.bool d)/\aH (!d) (∀e,Ext a e-> ∃(f:Nat),f<n/\I f (aI .i64 s.1 1,()) e) (((!(decide (k<0)||decide (k>7)))=true->true=true)/\aj a (some !(decide (k<0)||decide (k>7))) (ad (ae b) 3) aT λ(x:Int)=>aH (decide (k<0)||decide (k>7)||gD .i64 k x != 0) (ao a (c (0,7,()))) (true=true/\
 aR a (ad (ae b) 2) λx=>ao a (c (x,0,()))))) (ao w1 (c (0,4,()))))):=by kernel_rfl
theorem Ux (n:Int) (w:A2) (a:Option AC×Int×Unit->A2->Prop):(aJ U0 (λ_=>[]) 86 [aa n] w a)=(
 aH (decide (n<1)||decide (n>64)) (ao w (a (none,1,()))) (aM w ⟨[.slice none 0 0,aa n]⟩ 227 λb c=>ao c (a (some ⟨b,0,none⟩,0,())))):=by kernel_rfl
theorem Kz (p:Option AC) (w:A2) (a:Option AC×Nat×Nat->A2->Prop):(aJ U0 (λ_=>[]) 83 [ag p] w a)=(
 ∃x,af AI 140 [ag p] w (.bool x)/\aH (!x) (ao w (a (none,0,0))) (e8 p 0 w λx=> ∀w1,Ext w w1->mz w1 96 4 32 ⟨[aa 0,aa 0,aa 0,aa 0]⟩ (none,0,0) (x.1,x.2.1,x.2.2) λ(r:Option AC×Nat×Nat) b=>ao b (a (r.1,r.2.1,r.2.2)))):=by kernel_rfl
theorem Uy (p:Option AC) (i:Int) (w:A2) (a:Bool->A2->Prop):(aJ U0 (λ_=>[]) 106 [ag p,aa i] w a)=(
 ((!p.isNone&&decide (i>=0))=true->p.isSome=true)/\((!p.isNone&&decide (i>=0))=true->p.isSome=true)/\aj w (some (!p.isNone&&decide (i>=0))) (ad p 0) eJ λx=>ao w λw1=>a (!p.isNone&&decide (i>=0)&&decide (i<(↑x.2.1:Int))) w1):=by kernel_rfl
theorem GY (p:Option AC) (i:Int) (w:A2) (b:Option AC×Nat×Nat->A2->Prop):(aJ U0 (λ_=>[]) 202 [ag p,aa i] w b)=(
 e8 p 0 w λx=>(0<=(↑0:Int)/\(↑0:Int)<=i/\i<=(↑x.2.2:Int)/\(↑x.2.2:Int)<=(↑x.2.2:Int))/\ ∀w1,Ext w w1->mz w1 202 1 8 ⟨[I1 none]⟩ (none,0,0) (GI (λ(h:(↑x.2.2:Int).toNat=(↑0:Int).toNat->False)=>ad x.1 0) (λ(h:(↑x.2.2:Int).toNat=(↑0:Int).toNat)=>x.1) (instDecidableEqNat (↑x.2.2:Int).toNat 0),i.toNat - 0,(↑x.2.2:Int).toNat - 0) λ(r:Option AC×Nat×Nat) a=>e8 p 0 a λx=>(0<=aI .i64 i 1/\aI .i64 i 1<=(↑x.2.1:Int)/\(↑x.2.1:Int)<=(↑x.2.2:Int)/\(↑x.2.2:Int)<=(↑x.2.2:Int))/\ ∀w1,
 Ext a w1->mz w1 202 1 8 ⟨[I1 none]⟩ (r.1,r.2.1,r.2.2) (GI (λ(h:(↑x.2.2:Int).toNat=(aI .i64 i 1).toNat->False)=>ad x.1 ((aI .i64 i 1).toNat*1)) (λ(h:(↑x.2.2:Int).toNat=(aI .i64 i 1).toNat)=>x.1) (instDecidableEqNat (↑x.2.2:Int).toNat (aI .i64 i 1).toNat),(↑x.2.1:Int).toNat - (aI .i64 i 1).toNat,(↑x.2.2:Int).toNat - (aI .i64 i 1).toNat) λ(r:Option AC×Nat×Nat) a=>ao a (b (r.1,r.2.1,r.2.2))):=by kernel_rfl
def vO:Nat->aY:=(λ|5=>[(14,Go.RX.El.one (Go.RX.Sc.int B3))]| _=>[])
theorem Uz (n:Int) (w:A2) (c:Option AC×Int×Unit->A2->Prop):(aJ U0 vO 85 [aa n] w c)=(
 aH (decide (n<1)||decide (n>8)) (ao w (c (none,1,()))) (aM w ⟨[.slice none 0 0,.slice none 0 0]⟩ 205 λb a=> ∃(I:Nat->Int×Unit->A2->Prop),(∃n, ∀w1,Ext a w1->I n (0,()) w1)/\ ∀(e:Nat) (s:Int×Unit) (w1:A2),I e s w1->aH (decide (s.1<n)) (true=true/\true=true/\sT w1 (ad (ae b) 0) λx=> ∀d,Ext w1 d->aM (d.alloc (Obj.chan 16 ⟨[]⟩ false 0 0 false)) ⟨[I1 (some d.heap.size)]⟩ 202 λh a=> ∀w1,Ext a w1->mz w1 202 1 8 ⟨[I1 none]⟩ (x.1,x.2.1,x.2.2) (some ⟨h,0,none⟩,1,1)
 λ(r:Option AC×Nat×Nat) a=>true=true/\true=true/\aA a (ad (ae b) 0) [.slice r.1 r.2.1 r.2.2] λa=> ∀f,Ext a f-> ∃(g:Nat),g<e/\I g (aI .i64 s.1 1,()) f) (ao w1 (c (some ⟨b,0,none⟩,0,()))))):=by kernel_rfl
theorem P_ (p:Option AC) (i:Int) (w:A2) (d:(Int×Int×Int×Unit)×Bool×Unit->A2->Prop):(bQ U0 (λ_=>[]) 66 [ag p,aa i] w d)=(
 aM w ⟨[aa 0,aa 0,aa 0]⟩ 147 λb a=> ∃x,af AI 106 [ag p,aa i] a (.bool x)/\aH (!x) (aA a (ae b) [aa 0,aa 0,aa 0] λa=>ao a λw1=>aj w1 none (ae b) wR λ(x:Int×Int×Int×Unit)=>d ((x.1,x.2.1,x.2.2.1,()),false,()) w1) (e8 p 0 a λx=>(x.1.isSome=true/\0<=i/\i<(↑x.2.1:Int))/\aj a none (ad x.1 (i.toNat*1)) (.one .chan) λx=> ∀w1,Ext a w1-> ∃(r:Nat), ∃(cap:Nat), ∃(e:List Ag), ∃(s:Nat), ∃(m:Nat),x=some r/\ChO w1 r cap
 e s m/\(e=[]->aA w1 (ae b) [aa 0,aa 0,aa 0] λa=>ao a λw1=>aj w1 none (ae b) wR λ(x:Int×Int×Int×Unit)=>d ((x.1,x.2.1,x.2.2.1,()),false,()) w1)/\ ∀v (vs:List Ag),e=v::vs-> ∃(x:Int×Int×Int×Unit),v= .agg ⟨[aa x.1,aa x.2.1,aa x.2.2.1]⟩/\aM (w1.putObj r (Obj.chan cap {toList:=vs} false s (m+1) false)) ⟨[aa 0,aa 0,aa 0]⟩ 147 λf a=>aA a (ae f) [aa x.1,aa x.2.1,aa x.2.2.1] λa=>e8 p 1 a λx=>
 true=true/\aR a (ad (ae f) 0) λc=>(x.1.isSome=true/\0<=aX .i64 c 1/\aX .i64 c 1<(↑x.2.1:Int))/\aj a none (ad x.1 ((aX .i64 c 1).toNat*1)) aT λ(g:Int)=>(x.1.isSome=true/\0<=aX .i64 c 1/\aX .i64 c 1<(↑x.2.1:Int))/\aA a (ad x.1 ((aX .i64 c 1).toNat*1)) [aa (aX .i64 g 1)] λa=>aj a none (ae f) wR λ(x:Int×Int×Int×Unit)=>aA a (ae b) [aa x.1,aa x.2.1,aa x.2.2.1] λa=>ao a λw1=>aj w1 none (ae b) wR λ(x:Int×Int×Int×Unit)=>d
 ((x.1,x.2.1,x.2.2.1,()),true,()) w1)):=by kernel_rfl
def tX:Nat->aY:=(λ|9=>[(52,Go.RX.El.one (Go.RX.Sc.int B3))]|17=>[(78,Go.RX.El.one (Go.RX.Sc.int B3))]| _=>[])
theorem Qa (p:Option AC) (i t g:Int) (w:A2) (c:Int×Int×Unit->A2->Prop):(aJ U0 tX 157 [ag p,aa i,aa t,aa g] w c)=(
 ((!p.isNone)=true->p.isSome=true)/\((!p.isNone)=true->p.isSome=true)/\aj w (some !p.isNone) (ad p 0) eJ λx=>aH (p.isNone||(↑x.2.1:Int)==0) (ao w (c (0,10,()))) (∃x,af AI 106 [ag p,aa i] w (.bool x)/\aH (!x) (ao w (c (0,2,()))) (aH (decide (t<1)||decide (t>16)||decide (g< -1)||decide (g>=65536)) (ao w (c (0,1,()))) (az AI 202 (.el eJ) [ag p,aa i] w λx a=> ∃(I:Nat->Int×Unit->A2->Prop),(∃n, ∀w1,Ext a w1->I n (0,()) w1)/\ ∀(n:Nat) (s
 :Int×Unit) (w1:A2),I n s w1->aH (decide (s.1<(↑x.2.1:Int))) ((x.1.isSome=true/\0<=s.1/\s.1<(↑x.2.1:Int))/\aj w1 none (ad x.1 (B4 s.1*1)) (.one .chan) λx=> ∃k,ChL w1 x k/\aH ((↑k:Int)==16) (ao w1 (c (0,3,()))) (∀d,Ext w1 d-> ∃(e:Nat),e<n/\I e (aI .i64 s.1 1,()) d)) (e8 p 1 w1 λf=>aM w1 ⟨[aa (↑x.2.1:Int)]⟩ 3 λb a=> ∀w1,Ext a w1->mz w1 3 1 8 ⟨[aa 0]⟩ (f.1,f.2.1,f.2.2) (some ⟨b,0,none⟩,1,1) λ(r:Option AC×Nat×Nat) a=>p.isSome=true/\p.isSome=
 true/\aA a (ad p 1) [.slice r.1 r.2.1 r.2.2] λa=>e8 p 1 a λl=> ∃(I:Nat->Int×Unit->A2->Prop),(∃n, ∀w1,Ext a w1->I n (0,()) w1)/\ ∀(n:Nat) (s:Int×Unit) (w1:A2),I n s w1->aH (decide (s.1<(↑x.2.1:Int))) ((x.1.isSome=true/\0<=s.1/\s.1<(↑x.2.1:Int))/\aj w1 none (ad x.1 (B4 s.1*1)) (.one .chan) λx=> ∀h,Ext w1 h-> ∃(r:Nat), ∃(cap:Nat), ∃(j:List Ag), ∃(o:Nat), ∃(m:Nat),x=some r/\ChO h r cap j o m/\j.length<cap/\ ∀d,Ext (h.putObj r (Obj.chan cap {toList:=j.append [.agg
 ⟨[aa (↑l.2.1:Int),aa t,aa g]⟩]} false (o+1) m false)) d-> ∃(e:Nat),e<n/\I e (aI .i64 s.1 1,()) d) (ao w1 (c ((↑l.2.1:Int),0,())))))))):=by kernel_rfl
theorem KA (p:Option AC) (i:Int) (w:A2) (a:Int->A2->Prop):(aJ U0 (λ_=>[]) 82 [ag p,aa i] w a)=(
 ∃x,af AI 106 [ag p,aa i] w (.bool x)/\aH (!x) (ao w (a 0)) (e8 p 0 w λx=>(x.1.isSome=true/\0<=i/\i<(↑x.2.1:Int))/\aj w none (ad x.1 (i.toNat*1)) (.one .chan) λx=> ∃n,ChL w x n/\ao w (a (↑n:Int)))):=by kernel_rfl
theorem Qb (p:Option AC) (i:Int) (w:A2) (b:Bool->A2->Prop):(aJ U0 (λ_=>[]) 161 [ag p,aa i] w b)=(
 ((!p.isNone&&decide (i>=1))=true->p.isSome=true)/\((!p.isNone&&decide (i>=1))=true->p.isSome=true)/\aj w (some (!p.isNone&&decide (i>=1))) (ad p 1) eJ λx=>((!p.isNone&&decide (i>=1)&&decide (i<=(↑x.2.1:Int)))=true->p.isSome=true)/\((!p.isNone&&decide (i>=1)&&decide (i<=(↑x.2.1:Int)))=true->p.isSome=true)/\aj w (some (!p.isNone&&decide (i>=1)&&decide (i<=(↑x.2.1:Int)))) (ad p 1) eJ λa=>((!p.isNone&&decide (i>=1)&&decide (i<=(↑x.2.1:Int)))=true->a.1.isSome=true/\0<=aX .i64 i 1/\aX .i64 i 1<
 (↑a.2.1:Int))/\aj w (some (!p.isNone&&decide (i>=1)&&decide (i<=(↑x.2.1:Int)))) (ad a.1 ((aX .i64 i 1).toNat*1)) aT λ(c:Int)=>ao w λw1=>b (!p.isNone&&decide (i>=1)&&decide (i<=(↑x.2.1:Int))&&c==0) w1):=by kernel_rfl
def vP:Nat->aY:=(λ|5=>[(15,Go.RX.El.one (Go.RX.Sc.int B3))]| _=>[])
theorem Cs (n:Int) (w:A2) (c:Option AC×Int×Unit->A2->Prop):(aJ U0 vP 84 [aa n] w c)=(
 aH (decide (n<1)||decide (n>8)) (ao w (c (none,1,()))) (∀w1,Ext w w1->aM (w1.alloc (Obj.map ⟨[]⟩ 0)) ⟨[aa 0,.slice none 0 0,.map (some w1.heap.size)]⟩ 210 λb a=> ∃(I:Nat->Int×Unit->A2->Prop),(∃n, ∀w1,Ext a w1->I n (0,()) w1)/\ ∀(d:Nat) (s:Int×Unit) (w1:A2),I d s w1->aH (decide (s.1<n)) (true=true/\true=true/\sT w1 (ad (ae b) 1) λx=>aM w1 ⟨[aa (-1)]⟩ 3 λg a=> ∀w1,Ext a w1->mz w1 3 1 8 ⟨[aa 0]⟩ (x.1,x.2.1,x.2.2) (some ⟨g,0,none⟩,1,1) λ(r:Option AC×Nat×
 Nat) a=>true=true/\true=true/\aA a (ad (ae b) 1) [.slice r.1 r.2.1 r.2.2] λa=> ∀e,Ext a e-> ∃(f:Nat),f<d/\I f (aI .i64 s.1 1,()) e) (ao w1 (c (some ⟨b,0,none⟩,0,()))))):=by kernel_rfl
theorem KB (p:Option AC) (w:A2) (a:Bool->A2->Prop):(aJ U0 (λ_=>[]) 114 [ag p] w a)=(
 ((!p.isNone)=true->p.isSome=true)/\((!p.isNone)=true->p.isSome=true)/\aj w (some !p.isNone) (ad p 2) N9 λx=>ao w (a (!p.isNone&& !x.isNone))):=by kernel_rfl
theorem UA (p:Option AC) (w:A2) (a:Int->A2->Prop):(aJ U0 (λ_=>[]) 237 [ag p] w a)=(
 ∃x,af AI 114 [ag p] w (.bool x)/\aH (!x) (ao w (a 0)) (cL p 0 w λx=>ao w (a x))):=by kernel_rfl
theorem UB (p:Option AC) (c a:Int) (w:A2) (b:Int->A2->Prop):(aJ U0 (λ_=>[]) 203 [ag p,aa c,aa a] w b)=(
 ∃x,af AI 114 [ag p] w (.bool x)/\aH (!x) (ao w (b 10)) (((!decide (c<0))=true->p.isSome=true)/\((!decide (c<0))=true->p.isSome=true)/\aj w (some !decide (c<0)) (ad p 1) eJ λx=>aH (decide (c<0)||decide (c>=(↑x.2.1:Int))) (ao w (b 2)) (e8 p 1 w λx=>(x.1.isSome=true/\0<=c/\c<(↑x.2.1:Int))/\aR w (ad x.1 (c.toNat*1)) λx=>aH ((x== -1)==(a== -1)) (ao w (b 6)) (e8 p 1 w λx=>(x.1.isSome=true/\0<=c/\c<(↑x.2.1:Int))/\aA w (ad x.1 (c.toNat*1)) [aa a] λd=>ao d (b 0))))):=by kernel_rfl
theorem UC (p:Option AC) (c:Int) (w:A2) (a:Int->A2->Prop):(aJ U0 (λ_=>[]) 200 [ag p,aa c] w a)=(
 ∃(x:Int),af AI 237 [ag p] w (aa x)/\az AI 203 (.el aT) [ag p,aa c,aa x] w λ(x:Int) b=>ao b (a x)):=by kernel_rfl
theorem KC (p:Option AC) (c:Int) (w:A2) (a:Int->A2->Prop):(aJ U0 (λ_=>[]) 158 [ag p,aa c] w a)=(
 az AI 203 (.el aT) [ag p,aa c,aa (-1)] w λ(x:Int) b=>ao b (a x)):=by kernel_rfl
theorem UD (p:Option AC) (f:Int) (w:A2) (a:Int->A2->Prop):(aJ U0 (λ_=>[]) 162 [ag p,aa f] w a)=(
 ∃x,af AI 114 [ag p] w (.bool x)/\aH (!x) (ao w (a 10)) (aH (decide (f<0)) (ao w (a 1)) (sV p 2 w λx=> ∃(d:Int), ∃(b:Bool),mm w x .i64 f (aa 0) (aa d) b/\aH b (ao w (a 5)) (sV p 2 w λx=>cL p 0 w λe=> ∀w1,Ext w w1-> ∃(r:Nat), ∃(es:Array B6), ∃(c:Nat),x=some r/\bD w1 r es c/\gS w1 r .i64 f (aa e) es c λg=>ao g (a 0))))):=by kernel_rfl
def vQ:Nat->aY:=(λ|4=>[(13,Go.RX.El.one (Go.RX.Sc.int B3))]| _=>[])
theorem UE (p:Option AC) (w:A2) (a:Bool->A2->Prop):(aJ U0 vQ 197 [ag p] w a)=(
 ∃x,af AI 114 [ag p] w (.bool x)/\aH (!x) (ao w (a false)) (e8 p 1 w λx=> ∃(I:Nat->Int×Unit->A2->Prop),(∃n, ∀w1,Ext w w1->I n (0,()) w1)/\ ∀(n:Nat) (s:Int×Unit) (w1:A2),I n s w1->aH (decide (s.1<(↑x.2.1:Int))) ((x.1.isSome=true/\0<=s.1/\s.1<(↑x.2.1:Int))/\aR w1 (ad x.1 (B4 s.1*1)) λx=>((x != -1)=true->p.isSome=true)/\((x != -1)=true->p.isSome=true)/\aj w1 (some (x != -1)) (ad p 0) aT λ(d:Int)=>aH (x != -1&&x != d) (ao w1 (a false)) (∀b,Ext w1 b-> ∃(c:
 Nat),c<n/\I c (aI .i64 s.1 1,()) b)) (cL p 0 w1 λx=>p.isSome=true/\p.isSome=true/\aA w1 (ad p 0) [aa (aI .i64 x 1)] λe=>ao e (a true)))):=by kernel_rfl
theorem KE (a:Int) (c:Option AC) (w:A2) (b:Bool->A2->Prop):(aJ U0 (λ_=>[]) 236 [aa a,ag c] w b)=(
 fT w c λx=>cL x 0 w λx=>ao w (b (decide (aI .i64 a 2<=x)))):=by kernel_rfl
theorem KF (a:Int) (w:A2) (b:Bool->A2->Prop):(aJ U0 (λ_=>[]) 116 [aa a] w b)=(
 ao w (b true)):=by kernel_rfl
def qK:Nat->aY:=(λ|3=>[(5,Go.RX.El.one Go.RX.Sc.slice)]|8=>[(8,Go.RX.El.one (Go.RX.Sc.int B3))]| _=>[])
theorem KG (m:Option Nat) (c:Option AC) (w:A2) (g:Option AC×Nat×Nat->A2->Prop):(aJ U1 qK 115 [.map m,.func (.func 236) #[] #[ag c]] w g)=(
 RgP w m λb a=> ∃(I:Nat->(Option AC×Nat×Nat)×Unit->A2->Prop),(∃n, ∀w1,Ext a w1->I n ((none,0,0),()) w1)/\ ∀(n:Nat) (s:(Option AC×Nat×Nat)×Unit) (w1:A2),I n s w1->NxP w1 (ae b) (λa=>ao a (g (s.1.1,s.1.2.1,s.1.2.2))) λ(k v:Ag) a=> ∃(x:Int), ∃(y:Int),z_ a (ae b) (aa x) (aa y)/\ ∃h,af AI 236 [aa y,ag c] a (.bool h)/\aH (!h) (∀d,Ext a d-> ∃(e:Nat),e<n/\I e ((s.1.1,s.1.2.1,s.1.2.2),()) d) (aM a ⟨[aa x]⟩ 3 λb a=> ∀w1,
 Ext a w1->mz w1 3 1 8 ⟨[aa 0]⟩ (s.1.1,s.1.2.1,s.1.2.2) (some ⟨b,0,none⟩,1,1) λ(r:Option AC×Nat×Nat) a=> ∃(f:Nat->Int×Unit->A2->Prop),(∃n, ∀w1,Ext a w1->f n ((↑s.1.2.1:Int),()) w1)/\ ∀(i:Nat) (s:Int×Unit) (w1:A2),f i s w1->(decide (s.1>0)=true->r.1.isSome=true/\0<=aX .i64 s.1 1/\aX .i64 s.1 1<(↑r.2.1:Int))/\aj w1 (some (decide (s.1>0))) (ad r.1 ((aX .i64 s.1 1).toNat*1)) aT λ(j:Int)=>aH (decide (s.1>0)&&decide (j>x)) ((r.1.isSome=true/\0<=aX .i64 s.1 1/\aX
 .i64 s.1 1<(↑r.2.1:Int))/\aj w1 none (ad r.1 ((aX .i64 s.1 1).toNat*1)) aT λ(x:Int)=>(r.1.isSome=true/\0<=s.1/\s.1<(↑r.2.1:Int))/\aA w1 (ad r.1 (B4 s.1*1)) [aa x] λa=> ∀d,Ext a d-> ∃(e:Nat),e<i/\f e (aX .i64 s.1 1,()) d) ((r.1.isSome=true/\0<=s.1/\s.1<(↑r.2.1:Int))/\aA w1 (ad r.1 (B4 s.1*1)) [aa x] λa=> ∀d,Ext a d-> ∃(e:Nat),e<n/\I e ((r.1,r.2.1,r.2.2),()) d))):=by kernel_rfl
def qL:Nat->aY:=(λ|3=>[(5,Go.RX.El.one Go.RX.Sc.slice)]|8=>[(8,Go.RX.El.one (Go.RX.Sc.int B3))]| _=>[])
theorem KH (m:Option Nat) (w:A2) (f:Option AC×Nat×Nat->A2->Prop):(aJ U1 qL 115 [.map m,.func (.func 116) #[] #[]] w f)=(
 RgP w m λb a=> ∃(I:Nat->(Option AC×Nat×Nat)×Unit->A2->Prop),(∃n, ∀w1,Ext a w1->I n ((none,0,0),()) w1)/\ ∀(n:Nat) (s:(Option AC×Nat×Nat)×Unit) (w1:A2),I n s w1->NxP w1 (ae b) (λa=>ao a (f (s.1.1,s.1.2.1,s.1.2.2))) λ(k v:Ag) a=> ∃(x:Int), ∃(y:Int),z_ a (ae b) (aa x) (aa y)/\ ∃g,af AI 116 [aa y] a (.bool g)/\aH (!g) (∀c,Ext a c-> ∃(d:Nat),d<n/\I d ((s.1.1,s.1.2.1,s.1.2.2),()) c) (aM a ⟨[aa x]⟩ 3 λb a=> ∀w1,Ext a w1->
 mz w1 3 1 8 ⟨[aa 0]⟩ (s.1.1,s.1.2.1,s.1.2.2) (some ⟨b,0,none⟩,1,1) λ(r:Option AC×Nat×Nat) a=> ∃(e:Nat->Int×Unit->A2->Prop),(∃n, ∀w1,Ext a w1->e n ((↑s.1.2.1:Int),()) w1)/\ ∀(h:Nat) (s:Int×Unit) (w1:A2),e h s w1->(decide (s.1>0)=true->r.1.isSome=true/\0<=aX .i64 s.1 1/\aX .i64 s.1 1<(↑r.2.1:Int))/\aj w1 (some (decide (s.1>0))) (ad r.1 ((aX .i64 s.1 1).toNat*1)) aT λ(i:Int)=>aH (decide (s.1>0)&&decide (i>x)) ((r.1.isSome=true/\0<=aX .i64 s.1 1/\aX .i64 s.1 1<
 (↑r.2.1:Int))/\aj w1 none (ad r.1 ((aX .i64 s.1 1).toNat*1)) aT λ(x:Int)=>(r.1.isSome=true/\0<=s.1/\s.1<(↑r.2.1:Int))/\aA w1 (ad r.1 (B4 s.1*1)) [aa x] λa=> ∀c,Ext a c-> ∃(d:Nat),d<h/\e d (aX .i64 s.1 1,()) c) ((r.1.isSome=true/\0<=s.1/\s.1<(↑r.2.1:Int))/\aA w1 (ad r.1 (B4 s.1*1)) [aa x] λa=> ∀c,Ext a c-> ∃(d:Nat),d<n/\I d ((r.1,r.2.1,r.2.2),()) c))):=by kernel_rfl
def tY:Nat->aY:=(λ|5=>[(17,Go.RX.El.one (Go.RX.Sc.int B3))]| _=>[])
theorem Qc (p:Option AC) (w:A2) (c:Option AC×Nat×Nat->A2->Prop):(aJ U0 tY 198 [ag p] w c)=(
 aM w ⟨[ag p]⟩ 98 λb a=>fT a (ae b) λx=> ∃e,af AI 114 [ag x] a (.bool e)/\aH (!e) (ao a (c (none,0,0))) (fT a (ae b) λx=>sV x 2 a λx=>az AI 115 (.el eJ) [.map x,.func (.func 236) ⟨[]⟩ {toList:=[ag (ae b)]}] a λx a=> ∃(I:Nat->Int×Unit->A2->Prop),(∃n, ∀w1,Ext a w1->I n (0,()) w1)/\ ∀(n:Nat) (s:Int×Unit) (w1:A2),I n s w1->aH (decide (s.1<(↑x.2.1:Int))) ((x.1.isSome=true/\0<=s.1/\s.1<(↑x.2.1:Int))/\aR w1 (ad x.1 (B4 s.1*1)) λx=>
 fT w1 (ae b) λi=>sV i 2 w1 λj=> ∀d,Ext w1 d-> ∃(r:Nat), ∃(es:Array B6), ∃(f:Nat),j=some r/\bD d r es f/\z9 d r .i64 x es f λa=> ∀g,Ext a g-> ∃(h:Nat),h<n/\I h (aI .i64 s.1 1,()) g) (ao w1 (c (x.1,x.2.1,x.2.2))))):=by kernel_rfl
theorem Qd (p:Option AC) (w:A2) (a:Option AC×Nat×Nat->A2->Prop):(aJ U0 (λ_=>[]) 69 [ag p] w a)=(
 ∃x,af AI 114 [ag p] w (.bool x)/\aH (!x) (ao w (a (none,0,0))) (sV p 2 w λx=>az AI 115 (.el eJ) [.map x,.func (.func 116) ⟨[]⟩ ⟨[]⟩] w λx b=>ao b (a (x.1,x.2.1,x.2.2)))):=by kernel_rfl
end Go.Proofs.YtlcenllcmeebhaaGreat.Mu
namespace Go.RX
set_option maxRecDepth 100000
open Go.RowKit
def nH:B2->Prop
 | .cells .. =>False
 | _=>True
theorem nH.ne {o:B2} (h:nH o): ∀a t f,o≠ .cells a t f:=λa t f e=>by subst e;exact h
structure cv (D G:List Nat) (w0 w:A2) (L:List (Nat×List Ag)) (M:List (Nat×B2)):Prop where
 base:aK D G w0 w L
 obj: ∀x∈M,w.heap[x.1]? =some x.2/\nH x.2
 own: ∀x∈M,w0.heap.size<=x.1\/x.1∈G
 nd:(M.map (·.1)).Nodup
 nD: ∀x∈M,x.1∉D
namespace cv
variable {D G:List Nat} {w0 w w1:A2} {L L':List (Nat×List Ag)} {M M':List (Nat×B2)}
theorem ext (H:cv D G w0 w L M) (h:Ext w w1):cv D G w0 w1 L M:=
 ⟨H.base.ext h,λx a=>⟨h.obj (H.obj x a).1,(H.obj x a).2⟩,H.own,H.nd,H.nD⟩
theorem start (G:List Nat) (w:A2):cv [] G w w [] []:=⟨At.start G w,λx a=>(by cases a),λx a=>(by cases a),Fw,λx a=>(by cases a)⟩
theorem of (H:aK D G w0 w L):cv D G w0 w L []:=⟨H,λx a=>(by cases a),λx a=>(by cases a),Fw,λx a=>(by cases a)⟩
theorem sub (H:cv D G w0 w L M) (h:L'.Sublist L):cv D G w0 w L' M:=⟨H.base.sub h,H.obj,H.own,H.nd,H.nD⟩
theorem perm (H:cv D G w0 w L M) (h:L'.Perm L):cv D G w0 w L' M:=⟨H.base.perm h,H.obj,H.own,H.nd,H.nD⟩
theorem FN (H:cv D G w0 w L M) (h:M'.Sublist M):cv D G w0 w L M':=⟨H.base,λx a=>H.obj x (h.subset a),λx a=>H.own x (h.subset a),(h.map _).nodup H.nd,λx a=>H.nD x (h.subset a)⟩
theorem iP (H:cv D G w0 w L M) (h:M'.Perm M):cv D G w0 w L M':=⟨H.base,λx a=>H.obj x (h.subset a),λx a=>H.own x (h.subset a),(h.map _).nodup_iff.2 H.nd,λx a=>H.nD x (h.subset a)⟩
theorem get (H:cv D G w0 w L M) {i r:Nat} {o:B2} (h:M[i]? =some (r,o)):w.heap[r]? =some o:=(H.obj (r,o) (Fx h)).1
theorem F9 (H:cv D G w0 w L M) {x:Nat×List Ag} (b:x∈L) {y:Nat×B2} (a:y∈M):x.1≠y.1:=
 aK.da (H.base.db x b) (H.obj y a).1 (H.obj y a).2.ne
theorem join (H:cv D G w0 w L M) (K:At (L.map (·.1)) w w1 L'):cv D G w0 w1 L' M:=by
 refine⟨H.base.join (λx a=>a) K,λy b=>⟨?_,(H.obj y b).2⟩,H.own,H.nd,H.nD⟩;have h1:=(H.obj y b).1;rw[K.fr.block y.1 (E4.1 h1).1 (λc=>?_)]
 ·exact h1
 ·obtain⟨x,a,e⟩:=B1.1 c;exact H.F9 a b e
theorem put (H:cv D G w0 w L M) {i r:Nat} {o:B2} (h:M[i]? =some (r,o)) {o':B2} (m:nH o'):cv D G w0 (w.putObj r o') L (M.set i (r,o')):=by
 have b:=Fx h;obtain⟨h1,y⟩:=H.obj _ b;have n:r<w.heap.size:=(E4.1 h1).1;have p:(M.set i (r,o')).map (·.1)=M.map (·.1):=by
  apply Ft;intro j;rw[GH,GH];by_cases e:i=j
  ·subst e;rw[G1 (DA.1 h).1,h];rfl
  ·rw[E5 e]
 refine⟨⟨⟨H.base.fr.os,H.base.fr.tape,H.base.fr.output,by rw[putObj_size];exact H.base.fr.size,λk s g=>?_⟩,λx a=>(H.base.db x a).putObj (H.F9 a b) _,H.base.own,H.base.nd,λq d=>⟨(H.base.pL q d).1,?_⟩⟩,λx a=>?_,λx a=>?_,by rw[p];exact H.nd,λx a=>?_⟩
 ·rw[fx (λe=>?_)]
  ·exact H.base.fr.block k s g
  ·subst e;rcases H.own _ b with f|f
   ·simp only at f;omega
   ·exact g f
 ·rw[fx (λe=>H.nD _ b (by rw[<-e];exact d))];exact(H.base.pL q d).2
 ·obtain⟨j,c⟩:=GJ a;by_cases e:i=j
  ·subst e;rw[G1 (DA.1 h).1] at c;cases c;exact⟨jR n,m⟩
  ·rw[E5 e] at c;have l:=H.obj x (Fx c);refine⟨?_,l.2⟩;rw[fx (λt=>?_)]
   ·exact l.1
   ·have u:(M.map (·.1))[i]? =some r:=by rw[GH,h];rfl
    have v:(M.map (·.1))[j]? =some r:=by rw[GH,c];exact congrArg some t
    have:=(J3 (by rw[NK];exact(DA.1 h).1) H.nd).1 (u.trans v.symm);exact e this
 ·rcases H7 a with a|rfl
  ·exact H.own x a
  ·exact H.own (r,o) b
 ·rcases H7 a with a|rfl
  ·exact H.nD x a
  ·exact H.nD (r,o) b
theorem alloc (H:cv D G w0 w L M) {o:B2} (b:nH o):cv D G w0 (w.alloc o) L ((w.heap.size,o)::M):=by
 have h1:=H.ext (Ext.alloc w o);have c:(w.alloc o).heap[w.heap.size]? =some o:=by
  show(w.heap.push o)[w.heap.size]? =some o;simp
 refine⟨h1.base,λx a=>?_,λx a=>?_,?_,λx a=>?_⟩
 ·rcases BJ.1 a with rfl|a
  ·exact⟨c,b⟩
  ·exact h1.obj x a
 ·rcases BJ.1 a with rfl|a
  ·exact .inl H.base.fr.size
  ·exact H.own x a
 ·refine Bx.2 ⟨λd=>?_,H.nd⟩;obtain⟨y,f,e⟩:=B1.1 d;have:=(E4.1 (H.obj y f).1).1;simp only at e;omega
 ·rcases BJ.1 a with rfl|a
  ·intro g;have:=(E4.1 (H.base.pL _ g).2).1;simp only at this;omega
  ·exact H.nD x a
theorem all (H:cv [] [] w0 w L M):Ext w0 w:=H.base.all
end cv
end Go.RX
namespace Go.Proofs.YtlcenllcmeebhaaGreat
set_option maxRecDepth 100000
open Go.RX
abbrev KV:Type:=Int×Ag
abbrev kvE (t:KV):Ag×Ag:=(aa t.1,t.2)
def iu (es:List B6) (ck:Nat) (a:List KV):Prop:=
 (∃p:List KV,p.Perm a/\es.map (λe=>(e.key,e.val))=p.map kvE)/\(es.map (·.born)).Nodup/\(∀e∈es,e.born<ck)/\(a.map (·.1)).Nodup
theorem iu.nil:iu [] 0 []:=⟨⟨[],List.Perm.nil,rfl⟩,Fw,λe a=>(by cases a),Fw⟩
theorem IT {es:List B6} {p:List KV} (h:es.map (λe=>(e.key,e.val))=p.map kvE) (g:Int) (i0:Nat):
 Gd (.int .i64) (aa g) es i0=some (match p.findIdx? (λt=>t.1==g) with
  |some i=>some (i0+i,(p.getD i (0,undef)).2)
  |none=>none):=by
 induction es generalizing p i0 with
 |nil=>
  cases p with
  |nil=>rfl
  |cons t p=>simp at h
 |cons e es d=>
  cases p with
  |nil=>simp at h
  |cons t p=>
   simp only[DB,List.cons.injEq] at h;obtain⟨h1,f⟩:=h;have j:e.key=aa t.1:=congrArg (·.1) h1;have hv:e.val=t.2:=congrArg (·.2) h1;unfold Gd;rw[j];have k:Instr.sameNow (.int .i64) (aa g) (aa t.1)=some (g==t.1):=by
    show(if B3=B3 then some (g==t.1) else none)= _;rw[ay rfl]
   rw[k,List.findIdx?_cons];by_cases a:t.1=g
   ·have b:(g==t.1)=true:=by simp[a]
    have c:(t.1==g)=true:=by simp[a]
    rw[b,ay c];dsimp only;rw[hv];rfl
   ·have b:(g==t.1)=false:=by simp;exact λe=>a e.symm
    have c: ¬ (t.1==g)=true:=by simp[a]
    rw[b,au c];dsimp only;rw[d f (i0+1)];cases p.findIdx? (λt=>t.1==g) with
    |none=>rfl
    |some i=>
     show some (some (i0+1+i, _))=some (some (i0+(i+1), _));rw[show i0+1+i=i0+(i+1) by omega];rfl
theorem p9 {α β:Type} (f:α->β): ∀(l:List α) (i:Nat),(l.eraseIdx i).map f=(l.map f).eraseIdx i
 |[],i=>by simp
 |a::l,0=>rfl
 |a::l,i+1=>by
  simp only[List.eraseIdx_cons_succ,DB];rw[p9 f l i]
theorem iu.Fy {es:List B6} {ck:Nat} {k:List KV} (h:iu es ck k) {g:Int} {v:Ag} (A:(g,v)∈k): ∃i,Gd (.int .i64) (aa g) es 0=some (some (i,v))/\i<es.length/\iu (es.eraseIdx i) ck (k.filter λt=> !(t.1==g)):=by
 obtain⟨⟨p,h1,l⟩,B,C,n⟩:=h;have o:(p.map (·.1)).Nodup:=(h1.map _).nodup_iff.2 n;have q:=h1.mem_iff.2 A;have r:=IT l g 0;cases d:p.findIdx? (λt=>t.1==g) with
 |none=>
  have:=NL.1 d _ q;simp at this
 |some i=>
  rw[d] at r;rw[List.findIdx?_eq_some_iff_getElem] at d;obtain⟨hi,b, _⟩:=d;have f:p[i]? =some p[i]:=CW hi;have s:p.getD i (0,undef)=p[i]:=by rw[JS,f];rfl
  obtain⟨t,u⟩: ∃t,t=p[i]:=⟨_,rfl⟩;rw[<-u] at f s b;have b:t.1=g:=by simpa using b
  have D:t=(g,v):=by
   obtain⟨j,m⟩:=GJ q;have E:(p.map (·.1))[i]? =some g:=by rw[GH,f];exact congrArg some b
   have F:(p.map (·.1))[j]? =some g:=by rw[GH,m];rfl
   have:=(J3 (by rw[NK];exact hi) o).1 (E.trans F.symm);subst this;rw[f] at m;exact Option.some.inj m
  have J:es.length=p.length:=by
   have:=congrArg List.length l;simpa using this
  refine⟨i,by rw[r];dsimp only;rw[s,D,DH],by omega,⟨p.eraseIdx i,?_,?_⟩,?_,?_,?_⟩
  ·have G:p.eraseIdx i=p.filter λt=> !(t.1==g):=by
    have w:p=p.take i++t::p.drop (i+1):=by
     conv=>lhs;rw[<-F2 i p]
     rw[NP hi, <-u]
    have y: ∀x∈p.take i++p.drop (i+1),x.1≠g:=by
     intro x c e;have z:=o;rw[w,Fo,DB] at z;have H:=(B7 (a:=t.1) (l₁:=(p.take i).map (·.1)) (l₂:=(p.drop (i+1)).map (·.1))).nodup_iff.1 z;have:=(Bx.1 H).1;refine this ?_;rw[b, <-e, <-Fo];exact B1.2 ⟨x,c,rfl⟩
    rw[NR]
    conv=>rhs;rw[w]
    rw[List.filter_append,List.filter_cons_of_neg (by simp[b])];rw[JU.2 (λx c=>by have:=y x (Dc _ c);simpa using this),JU.2 (λx c=>by have:=y x (Dr _ c);simpa using this)]
   rw[G];exact h1.filter _
  ·rw[p9,l,p9]
  ·rw[p9];exact B.sublist (List.eraseIdx_sublist _ _)
  ·exact λe I=>C e (List.mem_of_mem_eraseIdx I)
  ·exact n.sublist ((List.filter_sublist).map _)
theorem iu.Od {es:List B6} {ck:Nat} {a:List KV} (h:iu es ck a) {g:Int} (c: ∀t∈a,t.1≠g):Gd (.int .i64) (aa g) es 0=some none:=by
 obtain⟨⟨p,h1,d⟩, _, _, _⟩:=h;have b:=IT d g 0;rw[NL.2 λt e=>by have:=c t (h1.mem_iff.1 e);simpa using this] at b;exact b
theorem iu.push {es:List B6} {ck:Nat} {a:List KV} (h:iu es ck a) {g:Int} (v:Ag) (f: ∀t∈a,t.1≠g):iu (es++[{key:=aa g,val:=v,born:=ck}]) (ck+1) ((g,v)::a):=by
 obtain⟨⟨p,h1,i⟩,j,c,k⟩:=h;refine⟨⟨p++[(g,v)],(NG _ _).trans (h1.cons _),?_⟩,?_,?_,?_⟩
 ·rw[Fo,i,Fo];rfl
 ·rw[Fo];refine HZ.2 ⟨j,by simp,λx b y d e=>?_⟩;obtain⟨e',he,rfl⟩:=B1.1 b;have d:y=ck:=by simpa using d
  have:=c e' he;omega
 ·intro e he;rcases GF.1 he with he|he
  ·have:=c e he;omega
  ·have:e={key:=aa g,val:=v,born:=ck}:=by simpa using he
   subst this;exact ID _
 ·refine Bx.2 ⟨λl=>?_,k⟩;obtain⟨x,b,e⟩:=B1.1 l;exact f x b e
theorem iu.ab5 {es:List B6} {ck:Nat} {b:List KV} (h:iu es ck b):(∀e∈es, ∃t∈b,e.key=aa t.1/\e.val=t.2)/\ ∀t∈b, ∃e∈es,e.key=aa t.1/\e.val=t.2:=by
 obtain⟨⟨p,f,g⟩, _⟩:=h;refine⟨λe c=>?_,λt d=>?_⟩
 ·have:(e.key,e.val)∈p.map kvE:=by rw[<-g];exact B1.2 ⟨e,c,rfl⟩
  obtain⟨t,d,a⟩:=B1.1 this;exact⟨t,f.mem_iff.1 d,(congrArg (·.1) a).symm,(congrArg (·.2) a).symm⟩
 ·have:kvE t∈es.map λe=>(e.key,e.val):=by rw[g];exact B1.2 ⟨t,f.mem_iff.2 d,rfl⟩
  obtain⟨e,c,a⟩:=B1.1 this;exact⟨e,c,congrArg (·.1) a,congrArg (·.2) a⟩
end Go.Proofs.YtlcenllcmeebhaaGreat
namespace Go.Proofs.YtlcenllcmeebhaaGreat.Mu
set_option maxRecDepth 100000
open Go.RX
abbrev eI:El:= .one (.int .i64)
abbrev oo (now:Int) (s:Option AC×Nat×Nat) (mb:Nat):List Ag:=[aa now,.slice s.1 s.2.1 s.2.2,.map (some mb)]
section
variable {D G:List Nat} {w0 w:A2} {L Ls:List (Nat×List Ag)} {M:List (Nat×B2)} {s:Option AC×Nat×Nat} {pins:List Int} {now:Int} {eb mb:Nat}
theorem mQ (H:aK D G w0 w L) (a:(eb,oo now s mb)∈L):af AI 114 [ag (ae eb)] w (.bool true):=by
 refine af.of (s:= .el (.one .bool)) λw' h'=>ai (C:=U0) (aQ:=λ_=>[]) (Aq (KB _ w' _) ?_);exact⟨λ_=>rfl,λ_=>rfl,aj.ku (H.ext h') a (show _=some (some mb) from rfl) λw1 h1=>⟨rfl,h1⟩⟩
theorem Zm (H:aK D G w0 w L) (a:(eb,oo now s mb)∈L):af AI 237 [ag (ae eb)] w (aa now):=by
 refine af.of (s:= .el (.one (.int .i64))) λw' h'=>ai (C:=U0) (aQ:=λ_=>[]) (Aq (UA _ w' _) ?_);exact⟨_,mQ (H.ext h') a,an rfl ⟨rfl,rfl,aj.ku (H.ext h') a (show _=some now from rfl) λw1 h1=>⟨rfl,h1⟩⟩⟩
def Ad (pins:List Int) (c:Nat) (a:Int):List Int:=if(pins.getD c 0== -1)=(a== -1) then pins else pins.set c a
theorem Iu {e:El} {xs:List e.T} (h:dm e s xs Ls) (H:aK D G w0 w (Ls++L)) {i:Nat} {x:e.T} (a:xs[i]? =some x):s.1.isSome=true/\cC w (ad s.1 (i*aE e)) e x:=
 h.sl H (λy b=>Dc _ b) i x a
theorem IU (H:aK D G w0 w ((eb,oo now s mb)::(Ls++L))) (b:dm eI s pins Ls) (c:Nat) (hc:c<pins.length) (a:Int) {K:Int->A2->Prop}
 (k: ∀v f d,dm eI s (Ad pins c a) f->aK D G w0 d ((eb,oo now s mb)::(f++L))->K v d):
 az AI 203 (.el (.one (.int .i64))) [ag (ae eb),aa (c:Int),aa a] w K:=by
 refine az.go H λw1 H=>ai (C:=U0) (aQ:=λ_=>[]) (Aq (UB _ _ _ w1 K) ?_);have m:=b.1;have h:pins[c]? =some (pins.getD c 0):=by rw[JS,CW hc];rfl
 have h0:(decide ((c:Int)<0))=false:=decide_eq_false (by omega);have g:aK D G w0 w1 (Ls++((eb,oo now s mb)::L)):=H.perm B7;refine⟨_,mQ H Dg,an rfl ⟨λ_=>rfl,λ_=>rfl,aj.cq 0 H rfl (show _=some (s.1,s.2.1,s.2.2) from rfl) ?_⟩⟩;refine an (by rw[h0,Bool.false_or,decide_eq_false_iff_not];dsimp only;omega) ⟨rfl,rfl,aj.cq 0 H rfl (show _=some (s.1,s.2.1,s.2.2) from rfl) ⟨⟨(Iu b g h).1,by omega,by dsimp only;omega⟩,aj.of (pins.getD c 0) (by dsimp only;rw[FP];exact(Iu b g h).2) ?_⟩⟩;refine ab (λe=>ao.go H λd H=>?_) (λe=>⟨rfl,rfl,aj.cq 0 H rfl (show _=some (s.1,s.2.1,s.2.2) from rfl) ⟨⟨(Iu b g h).1,by omega,by dsimp only;omega⟩,?_⟩⟩)
 ·refine k 6 Ls d ?_ H;unfold Ad;rw[ay (by simpa using e)];exact b
 ·dsimp only;rw[FP];refine b.st g hc a rfl rfl λf d j i=>ao.go i λl i=>k 0 f l ?_ (i.perm B7.symm);unfold Ad;rw[au (by intro c;rw[c] at e;simp at e)];exact j
theorem UF (H:aK D G w0 w ((eb,oo now s mb)::(Ls++L))) (e:dm eI s pins Ls) (c:Nat) (hc:c<pins.length) {K:Int->A2->Prop}
 (k: ∀v a b,dm eI s (Ad pins c now) a->aK D G w0 b ((eb,oo now s mb)::(a++L))->K v b):
 az AI 200 (.el (.one (.int .i64))) [ag (ae eb),aa (c:Int)] w K:=by
 refine az.go H λw1 H=>ai (C:=U0) (aQ:=λ_=>[]) (Aq (UC _ _ w1 K) ?_);exact⟨now,Zm H Dg,IU H e c hc now λv a b f d=>ao.go d λg d=>k v a g f d⟩
theorem KI (H:aK D G w0 w ((eb,oo now s mb)::(Ls++L))) (e:dm eI s pins Ls) (c:Nat) (hc:c<pins.length) {K:Int->A2->Prop}
 (k: ∀v a b,dm eI s (Ad pins c (-1)) a->aK D G w0 b ((eb,oo now s mb)::(a++L))->K v b):
 az AI 158 (.el (.one (.int .i64))) [ag (ae eb),aa (c:Int)] w K:=by
 refine az.go H λw1 H=>ai (C:=U0) (aQ:=λ_=>[]) (Aq (KC _ _ w1 K) ?_);exact IU H e c hc (-1) λv a b f d=>ao.go d λg d=>k v a g f d
def Kd (pins:List Int) (now:Int):Int:=if pins.all (λp=>p== -1||p==now)=true then now+1 else now
theorem UG (H:aK D G w0 w ((eb,oo now s mb)::(Ls++L))) (g:dm eI s pins Ls) (z:pins.length<=8) (A:0<=now/\now<4611686018427387904) {K:Bool->A2->Prop}
 (k: ∀v a,aK D G w0 a ((eb,oo (Kd pins now) s mb)::(Ls++L))->K v a):
 az AI 197 (.el (.one .bool)) [ag (ae eb)] w K:=by
 refine az.go H λw1 H=>ai (C:=U0) (aQ:=vQ) (Aq (UE _ w1 K) ?_);have m:=g.1;refine⟨_,mQ H Dg,an rfl ⟨rfl,rfl,aj.cq 0 H rfl (show _=some (s.1,s.2.1,s.2.2) from rfl) ?_⟩⟩;refine⟨λn st a=> ∃j:Nat,j<=pins.length/\n=pins.length - j/\st.1=(j:Int)/\(pins.take j).all (λp=>p== -1||p==now)=true/\aK D G w0 a ((eb,oo now s mb)::(Ls++L)),⟨pins.length,λa o=>⟨0,Ga _,rfl,rfl,rfl,H.ext o⟩⟩,?_⟩;rintro n ⟨i, _⟩ a ⟨j,h,r,hi,b,H⟩;have hi:i=(j:Int):=hi;subst hi r;dsimp only;rw[m];have t:aK D G w0 a (Ls++((eb,oo now s mb)::L)):=H.perm B7;refine ab (λc=>?_) (λc=>?_)
 ·have h:j<pins.length:=by have:=of_decide_eq_true c;omega
  obtain⟨x,d⟩: ∃x,pins[j]? =some x:=⟨_,CW h⟩;have l:=Iu g t d;refine⟨⟨l.1,by omega,by omega⟩,aj.of x (by rw[FP];exact l.2) ⟨λ_=>rfl,λ_=>rfl,aj.cq 0 H rfl (show _=some now from rfl) ?_⟩⟩;refine ab (λc=>ao.go H λf H=>k false f ?_) (λc f u=>⟨pins.length - (j+1),by omega,j+1,by omega,rfl,?_,?_,H.ext u⟩)
  ·have:Kd pins now=now:=by
    unfold Kd;refine au λhc=>?_;have:=List.all_eq_true.1 hc x (Fx d);simp only[If,bne_iff_ne,FU,beq_iff_eq] at c this;rcases this with q|q
    ·exact c.1 q
    ·exact c.2 q
   rw[this];exact H
  ·rw[aw (by omega) (by omega)];omega
  ·rw[Hq,d,List.all_append,b,H5];show([x]:List Int).all _=true;rw[List.all_cons,List.all_nil,Bool.and_true];simp only[Ih,bne_eq_false_iff_eq] at c;simpa using c
 ·have:j=pins.length:=by have:=of_decide_eq_false c;omega
  subst this;rw[JW] at b;have e:Kd pins now=now+1:=ay b;rw[e] at k;refine⟨rfl,rfl,aj.cq 0 H rfl (show _=some now from rfl) ⟨rfl,rfl,?_⟩⟩;rw[aw (by omega) (by omega)];exact aA.gx 0 H rfl rfl rfl λf H=>ao.go H λy H=>k true y H
end
section
variable {D G:List Nat} {w0 w:A2} {L:List (Nat×List Ag)} {M:List (Nat×B2)} {s:Option AC×Nat×Nat} {ws:List KV} {es:List B6} {now:Int} {eb mb ck:Nat}
def Oe (ws:List KV) (f now:Int):List KV:=if ws.any (λx=>x.1==f)=true then ws else(f,aa now)::ws
theorem UH (H:cv D G w0 w L ((mb,.map ⟨es⟩ ck)::M)) (b:(eb,oo now s mb)∈L) (hv:iu es ck ws) (r: ∀t∈ws, ∃x,t.2=aa x) (f:Int) (B:0<=f) {K:Int->A2->Prop}
 (k: ∀v l m a,iu l m (Oe ws f now)->cv D G w0 a L ((mb,.map ⟨l⟩ m)::M)->K v a):
 az AI 162 (.el (.one (.int .i64))) [ag (ae eb),aa f] w K:=by
 refine λw1 h1=>ai (C:=U0) (aQ:=λ_=>[]) (Aq (UD _ _ w1 K) ?_);have H:=H.ext h1;refine⟨_,mQ H.base b,an rfl (an (decide_eq_false (by omega)) ⟨rfl,rfl,aj.ku H.base b (show _=some (some mb) from rfl) ?_⟩)⟩;have n:bD w1 mb ⟨es⟩ ck:=H.get (i:=0) rfl;by_cases o: ∃v,(f,v)∈ws
 ·obtain⟨v,d⟩:=o;obtain⟨x,p⟩:=r _ d;dsimp only at p;subst p;obtain⟨i,hi, _⟩:=hv.Fy d;refine⟨x,true,⟨mb, _, _,rfl,n,by rw[hi];exact⟨rfl,rfl⟩⟩,aB rfl λa g=>?_⟩;have e:Oe ws f now=ws:=ay (JX.2 ⟨_,d,by simp⟩);rw[e] at k;exact k 5 es ck a hv (H.ext g)
 ·have h: ∀t∈ws,t.1≠f:=λt j e=>o ⟨t.2,by rw[<-e];exact j⟩;have q:=hv.Od h;refine⟨0,false,⟨mb, _, _,rfl,n,by rw[q];exact⟨rfl,rfl⟩⟩,an rfl ⟨rfl,rfl,aj.ku H.base b (show _=some (some mb) from rfl) ⟨rfl,rfl,aj.ku H.base b (show _=some now from rfl) λa g=>?_⟩⟩⟩;have H:=H.ext g;refine⟨mb, _, _,rfl,H.get (i:=0) rfl,?_⟩;unfold gS;rw[q];have H:=H.put (i:=0) rfl (o':= .map ⟨es++[{key:=aa f,val:=aa now,born:=ck}]⟩ (ck+1)) trivial;have u:(Ki es).push {key:=aa f,val:=aa now,born:=ck}=⟨es++[{key:=aa f,val:=aa now,born:=ck}]⟩:=by apply Kf;simp
  have e:Oe ws f now=(f,aa now)::ws:=au λc=>by
   obtain⟨t,j,y⟩:=JX.1 c;exact h t j (by simpa using y)
  rw[e] at k;show ao _ _;rw[u];exact λz A=>k 0 _ _ z (hv.push _ h) (H.ext A)
end
abbrev De:Type:=Int×Int×Int×Int×Unit
def lnR (l:De):Bool:=decide (l.1>=1)&&decide (l.1<=16)&&decide (l.2.1>=0)&&decide (l.2.1<65536)&&decide (l.2.2.1>=0)&&decide (l.2.2.1<4096)&&decide (l.2.2.2.1>=1)&&decide (l.2.2.2.1<=7)
def ma (l:De) (t p:Int):Bool:=l.1==t&&l.2.1==p
abbrev lnV (l:De):Ag:= .agg ⟨[aa l.1,aa l.2.1,aa l.2.2.1,aa l.2.2.2.1]⟩
theorem Qe (l:De) (w:A2):af AI 204 [lnV l] w (.bool (lnR l)):=by
 obtain⟨t,p,f,r, _⟩:=l;refine af.of (s:= .el (.one .bool)) λw' _=>ai (C:=U0) (aQ:=λ_=>[]) (Aq (Ku t p f r w' _) ?_);have H:=At.start [] w'
 repeat' (first
  |exact Go.RX.aK.all H
  |exact And.intro (by first|rfl|decide+kernel) (Go.RX.aK.all H)
  |simp
  |refine aj.cq 0 H rfl rfl ?_
  |refine aj.at 0 H rfl rfl ?_
  |refine aM.go H λb w1 H=>?_
  |with_reducible refine ao.go H λw1 H=>?_
  |refine jX ?_
  |refine an (by assumption) ?_
  )
theorem Xg (l:De) (a b:Int) (w:A2):af AI 150 [lnV l,aa a,aa b] w (.bool (ma l a b)):=by
 obtain⟨t,p,f,r, _⟩:=l;refine af.of (s:= .el (.one .bool)) λw' _=>ai (C:=U0) (aQ:=λ_=>[]) (Aq (Zl t p f r a b w' _) ?_);have H:=At.start [] w';refine aM.go H λc w1 H=>aj.at 0 H rfl (rfl) ⟨rfl,aj.cq 0 H rfl rfl ⟨rfl,aj.cq 0 H rfl rfl (ao.go H λw1 H=>⟨?_,H.all⟩)⟩⟩;show(t==a&&(p==b&&(f==f&&(r==r&&true))))=(t==a&&p==b);simp
abbrev dg (s:Option AC×Nat×Nat) (sz:Int):List Ag:=[.slice s.1 s.2.1 s.2.2,aa sz]
section
variable {D G:List Nat} {w0 w:A2} {L Ls:List (Nat×List Ag)} {s:Option AC×Nat×Nat} {ls:List De} {sz:Int} {tb:Nat}
theorem pf (H:aK D G w0 w L) (a:(tb,dg s sz)∈L) (b:0<sz):af AI 140 [ag (ae tb)] w (.bool true):=by
 refine af.of λw' h'=>ai (Aq (Kv _ w' _) ?_);refine⟨λ_=>rfl,λ_=>rfl,aj.ku (H.ext h') a rfl λw1 h1=>⟨?_,h1⟩⟩
 grind
theorem O4 {α:Type} {a b:α} {m l:Nat} (h:m=l):(GI (λ_=>a) (λ_=>b) (instDecidableEqNat m l):α)=b:=by
 generalize instDecidableEqNat m l=d;cases d with
 |isTrue
 |isFalse=>grind
theorem F_ {α:Type} {a b:α} {m l:Nat} (h:m≠l):(GI (λ_=>a) (λ_=>b) (instDecidableEqNat m l):α)=a:=by
 generalize instDecidableEqNat m l=d;cases d with
 |isTrue=>grind
 |isFalse=>rfl
theorem IV (H:aK D G w0 w ((tb,dg s sz)::(Ls++L))) (h:dm j9 s ls Ls) (P:(ls.length:Int)<=64) (i:Nat) (hi:i<ls.length) {K:Unit->A2->Prop}
 (k: ∀s' b a,dm j9 s' (ls.eraseIdx i) b->aK D G w0 a ((tb,dg s' sz)::(b++L))->K () a):
 az AI 196 (.bu []) [ag (ae tb),aa (i:Int)] w K:=by
 refine az.go H λw1 H=>ai (C:=U0) (aQ:=λ_=>[]) (Aq (Uw _ _ w1 K) ?_);obtain⟨p,n,c⟩:=s;have u:=h;obtain⟨h1,e,l⟩:=h;have h1:n=ls.length:=h1;have e:ls.length<=c:=e;subst h1;have Q:=e;have m:aI .i64 (i:Int) 1=((i+1:Nat):Int):=by rw[aw (by omega) (by omega)];omega
 obtain⟨bs,rest,a1,v,x⟩: ∃bs rest,p=some ⟨bs,0,none⟩/\Ls=[(bs,flat j9 ls++rest)]/\c*aE j9<=(flat j9 ls++rest).length:=by
  rcases l with ⟨_,q, _⟩|q
  ·have:c=0:=q;omega
  ·exact q
 subst a1 v;refine⟨rfl,rfl,aj.cq 0 H rfl rfl ⟨?_,rfl,rfl,aj.cq 0 H rfl rfl ⟨?_,λa y=>?_⟩⟩⟩
 ·dsimp only;omega
 ·rw[m];dsimp only;omega
 have H:=H.ext y;rw[m];dsimp only;have A:oB a (if((c:Int)).toNat=((i+1:Nat):Int).toNat then(some ⟨bs,0,none⟩:Option AC) else ad (ae bs) (((i+1:Nat):Int).toNat*4)) ((((ls.length:Nat):Int).toNat - ((i+1:Nat):Int).toNat)*aE j9) (flat j9 (ls.drop (i+1))):=by
  have B:=H.get (i:=1) rfl;by_cases hc:c=i+1
  ·have:ls.drop (i+1)=[]:=Io (by omega);rw[this,ay (by omega),show((((ls.length:Nat):Int).toNat - ((i+1:Nat):Int).toNat))=0 by omega];exact⟨rfl,λj f=>by simp at f⟩
  ·rw[au (by omega),aV];refine B.oB ?_ λj f=>?_
   ·rw[aF,GG];congr 1
   ·have o:flat j9 ls=flat j9 (ls.take (i+1))++flat j9 (ls.drop (i+1)):=by rw[<-dK,F2]
    have S:(flat j9 (ls.take (i+1))).length=(i+1)*aE j9:=by rw[aF,BP,FR (by omega)]
    have T:0+((i+1:Nat):Int).toNat*4=(i+1)*aE j9:=by
     show 0+(i+1)*4=(i+1)*4;omega
    have U:j<(flat j9 (ls.drop (i+1))).length:=by
     rw[aF,GG];refine I2 f (Gj _ (by omega))
    grind
 have E:dm j9 (some ⟨bs,0,none⟩,i,i) (ls.take i) [(bs,flat j9 (ls.take i)++(flat j9 (ls.drop i)++rest))]:=by
  refine⟨by rw[BP,FR (by omega)],by rw[BP,FR (by omega)];exact Dx _,.inr ⟨bs, _,rfl,rfl,?_⟩⟩;rw[<-Fm, <-dK,F2];exact Dn (Gj _ (show i<=c by clear e u l;omega)) x
 have F:flat j9 ls++rest=flat j9 (ls.take i)++(flat j9 (ls.drop i)++rest):=by rw[<-Fm, <-dK,F2]
 have I:aK D G w0 a ([(bs,flat j9 (ls.take i)++(flat j9 (ls.drop i)++rest))]++((tb,dg (some ⟨bs,0,none⟩,ls.length,c) sz)::L)):=by
  rw[<-F];exact H.perm (FS _ _ _)
 have o:(GI (λ_=>ad (ae bs) (((i+1:Nat):Int).toNat*4)) (λ_=>(some ⟨bs,0,none⟩:Option AC)) (instDecidableEqNat ((c:Int)).toNat ((i+1:Nat):Int).toNat):Option AC)=if((c:Int)).toNat=((i+1:Nat):Int).toNat then(some ⟨bs,0,none⟩:Option AC) else ad (ae bs) (((i+1:Nat):Int).toNat*4):=by
  by_cases hc:((c:Int)).toNat=((i+1:Nat):Int).toNat
  ·rw[ay hc,O4 hc]
  ·rw[au hc,F_ hc]
 have key:=aK.T7 I E (show gT j9=true from rfl) (q:=(if((c:Int)).toNat=((i+1:Nat):Int).toNat then(some ⟨bs,0,none⟩:Option AC) else ad (ae bs) (((i+1:Nat):Int).toNat*4),((ls.length:Nat):Int).toNat - ((i+1:Nat):Int).toNat,((c:Int)).toNat - ((i+1:Nat):Int).toNat)) (ys:=ls.drop (i+1)) (by rw[GG];show((ls.length:Nat):Int).toNat - ((i+1:Nat):Int).toNat= _;omega) A
  (t:=96) (size:=4) (bytes:=32) (z:=⟨[aa 0,aa 0,aa 0,aa 0]⟩) rfl rfl (by rw[BP,GG];omega)
  (R:=λr a=>(some (⟨tb,0,none⟩:AC)).isSome=true/\(some (⟨tb,0,none⟩:AC)).isSome=true/\aA a (ad (ae tb) 0) [Value.slice r.1 r.2.1 r.2.2] λa=>ao a λw1=>K () w1) λs' b V J g=>?_
 ·rw[o];have:((i:Int)).toNat - 0=i:=by omega
  rw[this];generalize (instDecidableEqNat ((i:Int)).toNat 0:Decidable (((i:Int)).toNat=((0:Nat):Int).toNat))=d;cases d<;>exact key
 ·refine⟨rfl,rfl,?_⟩;have g:=g.perm (L':=(tb,dg (some ⟨bs,0,none⟩,ls.length,c) sz)::(b++L)) B7.symm;refine aA.gx 0 g rfl rfl rfl λW M=>ao.go M λN O=>k s' b N ?_ O;rw[NR];exact J
theorem vR {α:Type} {ls:List α} {j:Nat} {x:α} (f:α->Bool) (a:ls[j]? =some x):ls.take (j+1)++(ls.drop (j+1)).filter f=ls.take j++([x]++(ls.drop (j+1)).filter f):=by grind[Hq]
theorem iZ {α:Type} {ls:List α} {j:Nat} {x:α} (a:ls[j]? =some x):ls.drop j=x::ls.drop (j+1):=by grind[NP]
def SwI (D G:List Nat) (w0:A2) (L:List (Nat×List Ag)) (tb:Nat) (sz:Int) (ls:List De) (is:De->Bool) (n:Nat) (s:Int×Int×Unit) (w:A2):Prop:=
 n<=ls.length/\s.1=(((ls.drop n).countP is:Nat):Int)/\s.2.1=(n:Int) - 1/\ ∃sl Ls,dm j9 sl (ls.take n++(ls.drop n).filter (λl=> !is l)) Ls/\aK D G w0 w ((tb,dg sl sz)::(Ls++L))
theorem zp {is:De->Bool} (M:(ls.length:Int)<=64) {n:Nat} {s:Int×Int×Unit} (v:SwI D G w0 L tb sz ls is n s w) {Q:De->Bool->Prop} {K:Int->A2->Prop} {N:Int->Int->A2->Prop}
 (z: ∀{sl Ls},aK D G w0 w ((tb,dg sl sz)::(Ls++L))-> ∀x,Q x (is x))
 (A: ∀{sl Ls d},dm j9 sl (ls.filter (λl=> !is l)) Ls->aK D G w0 d ((tb,dg sl sz)::(Ls++L))->K ((ls.countP is:Nat):Int) d)
 (o: ∀(a b:Int) (d:A2),(∃q,q<n/\SwI D G w0 L tb sz ls is q (a,b,()) d)->N a b d):
 aH (decide (s.2.1>=0)) ((some (⟨tb,0,none⟩:AC)).isSome=true/\(some (⟨tb,0,none⟩:AC)).isSome=true/\aj w none (ad (ae tb) 0) (.one .slice) λx=>(x.1.isSome=true/\0<=s.2.1/\s.2.1<((x.2.1:Nat):Int))/\aj w none (ad x.1 (B4 s.2.1*4)) j9 λx=> ∃r:Bool,Q x r/\
  aH r (az AI 196 (.bu []) [ag (ae tb),aa s.2.1] w λ_ d=> ∀e,Ext d e->N (aI .i64 s.1 1) (aX .i64 s.2.1 1) e) (∀e,Ext w e->N s.1 (aX .i64 s.2.1 1) e))
  (ao w λw1=>K s.1 w1):=by
 obtain⟨s1,B,O⟩:=s;obtain⟨h1,m,f,sl,Ls,g,H⟩:=v;have m:s1=(((ls.drop n).countP is:Nat):Int):=m;have f:B=(n:Int) - 1:=f;subst m f;refine ab (λc=>?_) (λc=>?_)
 ·obtain⟨j,rfl⟩: ∃j,n=j+1:=⟨n - 1,by have:=of_decide_eq_true c;dsimp only at this;omega⟩;obtain⟨x,h⟩: ∃x,ls[j]? =some x:=⟨_,CW (by omega)⟩;have hc:((((ls.drop (j+1)).countP is:Nat):Int))<=ls.length:=by
   have:=List.countP_le_length (p:=is) (l:=ls.drop (j+1));rw[GG] at this;omega
  have C:((j+1:Nat):Int) - 1=(j:Int):=by omega
  have E:aX .i64 (j:Int) 1=(j:Int) - 1:=bC (by omega) (by omega);have t:=(g.sl H (λy F=>BY _ (Dc _ F))) j x (by
   rw[vR _ h,J5 (by rw[BP];omega),BP,FR (by omega),H4];rfl)
  have P:=g.1;dsimp only;rw[C,E];refine⟨rfl,rfl,aj.cq 0 H rfl rfl ⟨⟨t.1,by omega,?_⟩,aj.of x ?_ ⟨is x,z H x,?_⟩⟩⟩
  grind
  ·dsimp only;rw[FP];exact t.2
  rw[vR _ h] at g;have i:(ls.drop j).countP is=(ls.drop (j+1)).countP is+if is x=true then 1 else 0:=by rw[iZ h,List.countP_cons]
  cases k:is x with
  |true=>
   rw[k,ay rfl] at i;refine aB rfl (IV H g ?_ j ?_ λs' I d u J e f=>o _ _ _ ⟨j,ID j,by omega,?_,rfl,s',I,?_,J.ext f⟩)
   grind
   grind
   ·dsimp only;rw[aw (by omega) (by omega),i];omega
   ·rw[List.eraseIdx_append_of_length_le (by rw[BP];omega),BP,FR (by omega),H4] at u;rw[iZ h,GS,k];exact u
  |false=>
   rw[k,au (by decide)] at i;refine an rfl λe f=>o _ _ _ ⟨j,ID j,by omega,?_,rfl,sl,Ls,?_,H.ext f⟩
   ·dsimp only;rw[i];rfl
   ·rw[iZ h,GS,k];exact g
 ·have:n=0:=by
   have:=of_decide_eq_false c;dsimp only at this;omega
  subst this;rw[List.drop_zero];exact ao.go H λd H=>A g H
theorem GZ (H:aK D G w0 w ((tb,dg s sz)::(Ls++L))) (i:dm j9 s ls Ls) (j:(ls.length:Int)<=64) (m:0<sz) {c d:Nat} {t g:Int} (hc:(c,[aa t])∈L) (o:(d,[aa g])∈L) {K:Int->A2->Prop}
 (k: ∀s' f e,dm j9 s' (ls.filter λl=> !ma l t g) f->aK D G w0 e ((tb,dg s' sz)::(f++L))->K ((ls.countP (λl=>ma l t g):Nat):Int) e):
 az AI 147 (.el (.one (.int .i64))) [ag (ae tb),.func (.func 149) #[] #[ag (ae c),ag (ae d)]] w K:=by
 refine az.go H λw1 H=>ai (C:=U0) (aQ:=pG) (Aq (GU _ _ _ w1 K) ?_);have p:=i.1;refine⟨_,pf H (Dg) m,an rfl ⟨rfl,rfl,aj.cq 0 H rfl rfl ⟨SwI D G w0 L tb sz ls (λl=>ma l t g),⟨ls.length,λe q=>⟨Dx _,?_,?_,s,Ls,?_,H.ext q⟩⟩,λn st e r=>?_⟩⟩⟩
 ·rw[Hr];rfl
 ·dsimp only;rw[p,bC (by omega) (by omega)]
 grind
 refine zp (is:=λl=>ma l t g) j r (λ{sl Ls} H x=>?_) (λ{sl Ls e} a b=>k sl Ls e a b) (λa b e h=>h);refine af.of (s:= .el (.one .bool)) λw' h'=>ai (C:=U0) (aQ:=λ_=>[]) (Aq (GR _ _ _ _ _ _ w' _) ?_);have u:=(H.ext h').db _ (BY _ (Dr _ hc));have v:=(H.ext h').db _ (BY _ (Dr _ o));have H0:=At.start [] w';refine aM.go H0 λb y H0=>aj.at 0 H0 rfl (rfl) (aj.fI H0 u (by simp) rfl (aj.fI H0 v (by simp) rfl ⟨_,Xg (x.1,x.2.1,x.2.2.1,x.2.2.2.1,()) t g y,ao.go H0 λz H0=>⟨rfl,H0.all⟩⟩))
theorem G4 (H:aK D G w0 w ((tb,dg s sz)::(Ls++L))) (f:dm j9 s ls Ls) (g:(ls.length:Int)<=64) (i:0<sz) {c:Nat} {t:Int} (hc:(c,[aa t])∈L) {K:Int->A2->Prop}
 (k: ∀s' e d,dm j9 s' (ls.filter λl=> !(l.1==t)) e->aK D G w0 d ((tb,dg s' sz)::(e++L))->K ((ls.countP (λl=>l.1==t):Nat):Int) d):
 az AI 147 (.el (.one (.int .i64))) [ag (ae tb),.func (.func 148) #[] #[ag (ae c)]] w K:=by
 refine az.go H λw1 H=>ai (C:=U0) (aQ:=pH) (Aq (GW _ _ w1 K) ?_);have j:=f.1;refine⟨_,pf H (Dg) i,an rfl ⟨rfl,rfl,aj.cq 0 H rfl rfl ⟨SwI D G w0 L tb sz ls (λl=>l.1==t),⟨ls.length,λd m=>⟨Dx _,?_,?_,s,Ls,?_,H.ext m⟩⟩,λn st d o=>?_⟩⟩⟩
 grind
 ·dsimp only;rw[j,bC (by omega) (by omega)]
 grind
 refine zp (is:=λl=>l.1==t) g o (λ{sl Ls} H x=>?_) (λ{sl Ls d} a b=>k sl Ls d a b) (λa b d h=>h);refine af.of (s:= .el (.one .bool)) λw' h'=>ai (C:=U0) (aQ:=λ_=>[]) (Aq (Kw _ _ _ _ _ w' _) ?_);have p:=(H.ext h').db _ (BY _ (Dr _ hc));have H0:=At.start [] w';refine aM.go H0 λb q H0=>⟨rfl,aj.cq 0 H0 rfl rfl (aj.fI H0 p (by simp) rfl (ao.go H0 λr H0=>⟨rfl,H0.all⟩))⟩
theorem AV (H:aK D G w0 w ((tb,dg s sz)::(Ls++L))) (h:dm j9 s ls Ls) (i:(ls.length:Int)<=64) (j:0<sz) (t g:Int) {K:Bool->A2->Prop}
 (k: ∀s' a b,dm j9 s' (ls.filter λl=> !ma l t g) a->aK D G w0 b ((tb,dg s' sz)::(a++L))->K (ls.any λl=>ma l t g) b):
 az AI 108 (.el (.one .bool)) [ag (ae tb),aa t,aa g] w K:=by
 refine az.go H λw1 H=>ai (C:=U0) (aQ:=λ_=>[]) (Aq (Ky _ _ _ w1 K) ?_);refine aM.go H λc b H=>aM.go H λd m H=>?_;have n:aK D G w0 m ((tb,dg s sz)::(Ls++((d,[aa g])::(c,[aa t])::L))):=H.perm (by
  have p1:(Ls++((d,[aa g])::(c,[aa t])::L)).Perm _:=B7.trans (Dj _ B7);refine(Dj _ p1).trans ?_;exact(FS _ _ _).trans (Dj _ (FS _ _ _)))
 refine GZ n h i j (c:=c) (d:=d) (t:=t) (g:=g) (by grind) Dg λs' a q o f=>ao.go f λp f=>?_;have e:decide (((ls.countP (λl=>ma l t g):Nat):Int)>0)=ls.any λl=>ma l t g:=by
  rw[Ik,JX]
  simp_all
 rw[e];exact k s' a p o (f.sub (by grind))
theorem G5 (H:aK D G w0 w ((tb,dg s sz)::(Ls++L))) (e:dm j9 s ls Ls) (f:(ls.length:Int)<=64) (g:0<sz) (t:Int) {K:Int->A2->Prop}
 (k: ∀v s' a b,dm j9 s' (ls.filter λl=> !(l.1==t)) a->aK D G w0 b ((tb,dg s' sz)::(a++L))->K v b):
 az AI 107 (.el (.one (.int .i64))) [ag (ae tb),aa t] w K:=by
 refine az.go H λw1 H=>ai (Aq (GX _ _ w1 K) ?_);refine aM.go H λc b H=>?_;have h:=H.perm ((Dj _ B7).trans (FS _ _ _));refine G4 h e f g (t:=t) (by grind) λs' a m i d=>ao.go d λj d=>?_;exact k _ s' a j i (d.sub (by grind))
end
section
variable {D G:List Nat} {w0 w:A2} {L Ls:List (Nat×List Ag)} {s:Option AC×Nat×Nat} {ls:List De} {sz:Int} {tb:Nat}
def DK (ls:List De) (sz:Int) (l:De):List De:=
 (if ls.any (λx=>ma x l.1 l.2.1)=true then ls.filter (λx=> !ma x l.1 l.2.1) else if(ls.length:Int)=sz then ls.drop 1 else ls)++[l]
def yb (ls:List De) (t p w:Int):Int×Int×Unit:=match ls.find? (λx=>ma x t p) with
 |none=>(0,4,())
 |some l=>if w<0\/w>7\/gD .i64 w l.2.2.2.1≠0 then(0,7,()) else(l.2.2.1,0,())
theorem IW {x b:Nat×List Ag} {Ls L:List (Nat×List Ag)}:(x::(Ls++(b::L))).Perm (b::x::(Ls++L)):=
 (Dj _ B7).trans (FS _ _ _)
theorem Zn {α:Type} (x y z:α) (A B:List α):(A++(x::y::z::B)).Perm (z::y::x::(A++B)):=by
 refine B7.trans ?_;refine(Dj x (B7.trans (Dj y B7))).trans ?_;refine(Dj x (FS z y _)).trans ?_;exact(FS z x _).trans (Dj z (FS y x _))
theorem Qf (H:aK D G w0 w ((tb,dg s sz)::(Ls++L))) (J:dm j9 s ls Ls) (hl:(ls.length:Int)<=sz) (A:0<sz/\sz<=64) (l:De) (M:lnR l=true) {K:Int->A2->Prop}
 (k: ∀s' B a,dm j9 s' (DK ls sz l) B->aK D G w0 a ((tb,dg s' sz)::(B++L))->K 0 a):
 az AI 159 (.el (.one (.int .i64))) [ag (ae tb),lnV l] w K:=by
 obtain⟨t,g,f,r, _⟩:=l;refine az.go H λw1 H=>ai (C:=U0) (aQ:=λ_=>[]) (Aq (P8 _ t g f r w1 K) ?_);refine aM.go H λb a H=>⟨_,pf H (BY _ Dg) A.1,an rfl (aj.at 0 H rfl (show _=some (t,g,f,r,()) from rfl) ⟨_,Qe (t,g,f,r,()) a,?_⟩)⟩;rw[M];refine an rfl ⟨rfl,aj.cq 0 H rfl rfl ⟨rfl,aj.cq 0 H rfl rfl ?_⟩⟩;have d:aK D G w0 a ((tb,dg s sz)::(Ls++((b,[aa t,aa g,aa f,aa r])::L))):=H.perm IW;refine AV d J (by omega) A.1 t g λs1 Ls1 w3 j d=>?_;have N:=List.length_filter_le (λl=> !ma l t g) ls;have v: ∀{c:Option AC×Nat×Nat} {o:List De} {e:List (Nat×List Ag)} {h:A2},dm j9 c o e->o.length<=ls.length->o++[(t,g,f,r,())]=DK ls sz (t,g,f,r,())->aK D G w0 h ((tb,dg c sz)::(e++((b,[aa t,aa g,aa f,aa r])::L)))->
  ((some (⟨tb,0,none⟩:AC)).isSome=true/\(some (⟨tb,0,none⟩:AC)).isSome=true/\aj h none (ad (ae tb) 0) (.one .slice) λx=>aj h none (ae b) j9 λp=>aM h ⟨[aa p.1,aa p.2.1,aa p.2.2.1,aa p.2.2.2.1]⟩ 96 λb a=> ∀w1,Ext a w1->
    mz w1 96 4 32 ⟨[aa 0,aa 0,aa 0,aa 0]⟩ (x.1,x.2.1,x.2.2) (some ⟨b,0,none⟩,1,1) λr a=>(some (⟨tb,0,none⟩:AC)).isSome=true/\(some (⟨tb,0,none⟩:AC)).isSome=true/\aA a (ad (ae tb) 0) [.slice r.1 r.2.1 r.2.2] λa=>ao a λw1=>K 0 w1):=by
  intro c o e h O acN P Q;have m:=Q.perm (L':=(b,[aa t,aa g,aa f,aa r])::(tb,dg c sz)::(e++L)) IW.symm;refine⟨rfl,rfl,aj.cq 1 m rfl (show _=some (c.1,c.2.1,c.2.2) from rfl) (aj.at 0 m rfl (show _=some (t,g,f,r,()) from rfl) (aM.go m λy w5 m R S=>?_))⟩;have E:=m.ext S;have T:=E.get (i:=0) rfl;have U:aK D G w0 R (e++((tb,dg c sz)::(b,[aa t,aa g,aa f,aa r])::(y,[aa t,aa g,aa f,aa r])::L)):=E.perm (Zn _ _ _ _ _);refine aK.T7 U O rfl (q:=(some ⟨y,0,none⟩,1,1)) (ys:=[(t,g,f,r,())]) rfl ?_ rfl rfl (by simp only[List.length_singleton];omega) λV F w7 I W=>?_
  ·exact bL.oB (vs:=flat j9 [(t,g,f,r,())]) T rfl λi hi=>by rw[DH];rfl
  ·rw[P] at I;have n:=W.perm (L':=(tb,dg c sz)::(F++((b,[aa t,aa g,aa f,aa r])::(y,[aa t,aa g,aa f,aa r])::L))) B7.symm;refine⟨rfl,rfl,aA.gx 0 n rfl rfl rfl λw8 n=>ao.go n λX n=>k V F X I (n.sub ?_)⟩;exact T3 _ (List.Sublist.append_left (T_ _ (T_ _ (T2 _))) _)
 refine⟨λ_=>rfl,λ_=>rfl,aj.ku d Dg (show _=some (s1.1,s1.2.1,s1.2.2) from rfl) ⟨λ_=>rfl,λ_=>rfl,aj.ku d Dg (show _=some sz from rfl) ?_⟩⟩;dsimp only;have z:=j.1;cases u:ls.any (λl=>ma l t g) with
 |true=>
  refine an rfl (v j N ?_ d);unfold DK;rw[ay u]
 |false=>
  have Y:ls.filter (λl=> !ma l t g)=ls:=JU.2 λx Z=>by
   have:=(List.any_eq_false.1 u) x Z;simpa using this
  rw[Y] at j z;by_cases hc:(ls.length:Int)=sz
  ·refine aB (by rw[z,hc];simp) ?_;have h0:0<ls.length:=by omega
   refine IV d j (by omega) 0 h0 λc e h TF H2=>v TF (by rw[List.length_eraseIdx];split<;>omega) ?_ H2;unfold DK;rw[au (by rw[u];decide),ay hc];cases ls with
   |nil=>exact absurd h0 (by simp)
   |cons x r=>rfl
  ·refine an (by rw[z];simpa using hc) (v j (Dx _) ?_ d);unfold DK;rw[au (by rw[u];decide),au hc]
theorem UI (H:aK D G w0 w ((tb,dg s sz)::(Ls++L))) (h:dm j9 s ls Ls) (M:(ls.length:Int)<=64) (r:0<sz) (t g k:Int):
 af AI 201 [ag (ae tb),aa t,aa g,aa k] w ((Sh.bu [.one (.int .i64),.one (.int .i64)]).gR (yb ls t g k)):=by
 refine af.of (s:= .bu [.one (.int .i64),.one (.int .i64)]) λw1 h1=>ai (C:=U0) (aQ:=tW) (Aq (P9 _ t g k w1 _) ?_);have H:=H.ext h1;have u:=h.1;have v:=h.sl H (λy z=>BY _ (Dc _ z));refine⟨_,pf H Dg r,an rfl ⟨rfl,rfl,aj.cq 0 H rfl (show _=some (s.1,s.2.1,s.2.2) from rfl) ?_⟩⟩;refine⟨λn st d=> ∃j:Nat,j<=ls.length/\n=ls.length - j/\st.1=(j:Int)/\(ls.take j).find? (λx=>ma x t g)=none/\Ext w1 d,⟨ls.length,λd a=>⟨0,Ga _,rfl,rfl,rfl,a⟩⟩,?_⟩;rintro n ⟨i, _⟩ d ⟨j,l,A,hi,e,a⟩;have hi:i=(j:Int):=hi;subst hi A;dsimp only;rw[u];refine ab (λc=>?_) (λc=>?_)
 ·have l:j<ls.length:=by have:=of_decide_eq_true c;omega
  obtain⟨x,f⟩: ∃x,ls[j]? =some x:=⟨_,CW l⟩;have m:=v j x f;have H0:aK [] [] w1 d []:=(At.start [] w1).ext a;refine⟨⟨m.1,by omega,by omega⟩,aj.of x (by rw[FP];exact tn a m.2) (aM.go H0 λb B H0=>aA.all 0 H0 rfl rfl rfl λE H0=>aj.at 0 H0 rfl (show _=some (x.1,x.2.1,x.2.2.1,x.2.2.2.1,()) from rfl) ⟨_,Xg (x.1,x.2.1,x.2.2.1,x.2.2.2.1,()) t g E,?_⟩)⟩;have F:ma (x.1,x.2.1,x.2.2.1,x.2.2.2.1,()) t g=ma x t g:=rfl;rw[F];cases o:ma x t g with
  |false=>
   refine aB rfl λp I=>⟨ls.length - (j+1),by omega,j+1,by omega,rfl,?_,?_,(H0.ext I).all⟩
   ·rw[aw (by omega) (by omega)];omega
   ·rw[Hq,f,O2,e];rw[Option.none_or];show List.find? _ [x]=none;rw[OW,o];rfl
  |true=>
   have J:ls.find? (λx=>ma x t g)=some x:=by
    rw[<-F2 j ls,O2,e,iZ f,OW,o];rfl
   have hv:yb ls t g k=if k<0\/k>7\/gD .i64 k x.2.2.2.1≠0 then(0,7,()) else(x.2.2.1,0,()):=by
    unfold yb;rw[J]
   rw[hv];refine an rfl ⟨λ_=>rfl,aj.cq 0 H0 rfl rfl ?_⟩;refine ab (λc=>ao.go H0 λp H0=>⟨?_,H0.all⟩) (λc=>⟨rfl,aj.cq 0 H0 rfl rfl (ao.go H0 λp H0=>⟨?_,H0.all⟩)⟩)
   ·simp only[FU,decide_eq_true_eq,bne_iff_ne] at c;rw[ay ?_];rcases c with (c|c)|c
    ·exact .inl c
    ·exact .inr (.inl c)
    ·exact .inr (.inr c)
   ·simp only[Fg,decide_eq_false_iff_not,bne_eq_false_iff_eq] at c;rw[au ?_];rintro(q|q|q)
    ·exact c.1.1 q
    ·exact c.1.2 q
    ·exact q c.2
 ·have:j=ls.length:=by have:=of_decide_eq_false c;omega
  subst this;rw[JW] at e;intro B K;refine⟨?_,a.trans K⟩;unfold yb;rw[e]
theorem KJ (H:aK D G w0 w ((tb,dg s sz)::(Ls++L))) (c:dm j9 s ls Ls) (m:(ls.length:Int)<=64) (e:0<sz) {K:Option AC×Nat×Nat->A2->Prop}
 (k: ∀r a b,dm j9 r ls a->aK D G w0 b (a++((tb,dg s sz)::(Ls++L)))->K r b):
 az AI 83 (.el (.one .slice)) [ag (ae tb)] w K:=by
 refine az.go H λw1 H=>ai (C:=U0) (aQ:=λ_=>[]) (Aq (Kz _ w1 K) ?_);refine⟨_,pf H Dg e,an rfl ⟨rfl,rfl,aj.cq 0 H rfl (show _=some (s.1,s.2.1,s.2.2) from rfl) λb f=>?_⟩⟩;have d:=H.ext f;refine aK.T7 (Ls:=[]) d (dm.nil j9) rfl (q:=s) c.1 (c.oB d (λy g=>BY _ (Dc _ g))) rfl rfl (by simp only[Oa];omega) λr a n h i=>ao.go i λj l=>k _ a j h l
theorem UJ (H:aK D G w0 w L) (n:Int) {K:Option AC×Int×Unit->A2->Prop} (kb:n<1\/n>64-> ∀w1,aK D G w0 w1 L->K (none,1,()) w1)
 (e:1<=n->n<=64-> ∀b w1,aK D G w0 w1 ((b,dg (none,0,0) n)::L)->K (some ⟨b,0,none⟩,0,()) w1):
 az AI 86 (.bu [.one .ptr,.one (.int .i64)]) [aa n] w K:=by
 refine az.go H λw1 H=>ai (C:=U0) (aQ:=λ_=>[]) (Aq (Ux n w1 K) ?_);refine ab (λc=>ao.go H λa H=>kb (by simpa using c) a H) (λc=>aM.go H λb a H=>ao.go H λf H=>?_);have d:1<=n/\n<=64:=by
  simp only[Fg,decide_eq_false_iff_not] at c;omega
 exact e d.1 d.2 b f H
end
def kI (v:Ag):Int:=match v with
 | .int _ n=>n
 | _=>0
abbrev Fz (e:Int×Int):KV:=(e.1,aa e.2)
section
variable {D G:List Nat} {w0 w:A2} {L Ls:List (Nat×List Ag)} {M M0:List (Nat×B2)} {es:List B6} {mb ck b:Nat}
theorem stM (H:cv D G w0 w (Ls++L) M) {e:El} {s:Option AC×Nat×Nat} {xs:List e.T} (b:dm e s xs Ls) {i:Nat} (hi:i<xs.length) (y:e.T) {vs:List Ag} (hv:vs=cellsOf e y) (c:gT e=true) {K:A2->Prop}
 (k: ∀a w1,dm e s (xs.set i y) a->cv D G w0 w1 (a++L) M->K w1):aA w (ad s.1 (i*aE e)) vs K:=λw1 h1=>
 b.st (H.ext h1).base.again hi y hv c (λa d f g=>k a d f ((H.ext h1).join g)) w1 (Ext.refl w1)
theorem Fu (H:cv D G w0 w (Ls++L) M) {e:El} {s:Option AC×Nat×Nat} {xs:List e.T} (b:dm e s xs Ls) (c:gT e=true) {q:Option AC×Nat×Nat} {ys:List e.T} (d:q.2.1=ys.length) (f:Go.RX.oB w q.1 (q.2.1*aE e) (flat e ys))
 {t:Fi} {size bytes:Nat} {z:Array Ag} (g:size=aE e) (h:z.size=aE e) (hb:(xs.length+ys.length)*bytes<=140737488355328) {R:Option AC×Nat×Nat->A2->Prop}
 (k: ∀s' a w',dm e s' (xs++ys) a->cv D G w0 w' (a++L) M->R s' w'):mz w t size bytes z s q R:=
 aK.T7 H.base.again b c d f g h hb λs' a w' h1 i=>k s' a w' h1 (H.join i)
theorem rK {e:El} {a:Nat} {x:e.T} (h:bL w a (cellsOf e x)):Go.RX.oB w (ae a) (1*aE e) (flat e [x]):=
 bL.oB (vs:=flat e [x]) h (by rw[aF];rfl) λi hi=>by rw[DH];show(cellsOf e x)[i]? =(cellsOf e x++[])[i]?;rw[Hb]
theorem Qg {r:Option AC×Nat×Nat} {R:List Int} {x:Int} (H:cv D G w0 w (Ls++L) M) (hs:dm eI r (R++[x]) Ls) (T:R.Pairwise (· <= ·)) (hl:(R.length:Int)<4611686018427387904) {n0:Int} (hn:n0=R.length) {N:A2->Prop}
 (hN: ∀k E b,E.Pairwise (· <= ·)->E.Perm (x::R)->dm eI r E k->cv D G w0 b (k++L) M->N b):
 ∃I:Nat->Int×Unit->A2->Prop,(∃n, ∀w1,Ext w w1->I n (n0,()) w1)/\ ∀(U:Nat) (s:Int×Unit) (w1:A2),I U s w1->
  (decide (s.1>0)=true->r.1.isSome=true/\0<=aX .i64 s.1 1/\aX .i64 s.1 1<((r.2.1:Nat):Int))/\aj w1 (some (decide (s.1>0))) (ad r.1 ((aX .i64 s.1 1).toNat*1)) eI λ(aN:Int)=>
   aH (decide (s.1>0)&&decide (aN>x)) ((r.1.isSome=true/\0<=aX .i64 s.1 1/\aX .i64 s.1 1<((r.2.1:Nat):Int))/\aj w1 none (ad r.1 ((aX .i64 s.1 1).toNat*1)) eI λ(y:Int)=>
    (r.1.isSome=true/\0<=s.1/\s.1<((r.2.1:Nat):Int))/\aA w1 (ad r.1 (B4 s.1*1)) [aa y] λg=> ∀b,Ext g b-> ∃V,V<U/\I V (aX .i64 s.1 1,()) b)
    ((r.1.isSome=true/\0<=s.1/\s.1<((r.2.1:Nat):Int))/\aA w1 (ad r.1 (B4 s.1*1)) [aa x] λg=> ∀b,Ext g b->N b):=by
 refine⟨λn st w'=> ∃(F:List (Nat×List Ag)) (c:Int),n<=R.length/\st.1=(n:Int)/\dm eI r (R.take n++(c::R.drop n)) F/\(∀y∈R.drop n,x<y)/\cv D G w0 w' (F++L) M,⟨R.length,λw1 h1=>⟨Ls,x,Dx _,hn,by rw[JW,Hr];exact hs,λy e=>(by rw[Hr] at e;cases e),H.ext h1⟩⟩,?_⟩;rintro n ⟨i, _⟩ w1 ⟨F,c,u,hi,l,W,v⟩;have hi:i=(n:Int):=hi;subst hi;dsimp only;have m:=l.1;have J:(R.take n++(c::R.drop n)).length=R.length+1:=by
  rw[DQ,BP,Of,GG,FR u];omega
 rw[J] at m;have cn:(R.take n++(c::R.drop n))[n]? =some c:=by
  rw[J5 (by rw[BP];omega),BP,FR u,H4];rfl
 have z:=(l.sl v.base (λy e=>Dc _ e) n c cn).1;have X:decide ((n:Int)>0)=false\/(∃p,R[n - 1]? =some p/\p<=x)->((r.1.isSome=true/\0<=(n:Int)/\(n:Int)<((r.2.1:Nat):Int))/\aA w1 (ad r.1 (B4 (n:Int)*1)) [aa x] λg=> ∀b,Ext g b->N b):=λK=>by
  refine⟨⟨z,by omega,by rw[m];omega⟩,?_⟩;rw[FP];refine stM v l (i:=n) (by rw[J];omega) x rfl rfl λk g o O b P=>?_;have Q:(R.take n++(c::R.drop n)).set n x=R.take n++(x::R.drop n):=by
   rw[Oh _ _ (by rw[BP];omega),BP,FR u,H4];rfl
  rw[Q] at o;refine hN k _ b ?_ ?_ o (O.ext P)
  ·have A:=T;rw[<-F2 n R,Oj] at A;refine Oj.2 ⟨A.1,List.pairwise_cons.2 ⟨λy e=>Int.le_of_lt (W y e),A.2.1⟩,λa B d S=>?_⟩;rcases BJ.1 S with rfl|S
   ·rcases K with K|⟨p,f,Y⟩
    ·have:n=0:=by have:=of_decide_eq_false K;omega
     subst this;rw[Ou] at B;cases B
    ·obtain⟨j,t⟩:=GJ B;have NS:j<(R.take n).length:=(DA.1 t).1;rw[BP] at NS;rw[Ox (by omega)] at t;have TG:n - 1<R.length:=(DA.1 f).1;rcases Nat.lt_or_ge j (n - 1) with q|q
     ·have Z:=DA.1 t;have hpa:=DA.1 f;have:=List.pairwise_iff_getElem.1 T j (n - 1) Z.1 TG q;rw[Z.2,hpa.2] at this;exact Int.le_trans this Y
     ·have:j=n - 1:=by omega
      subst this;rw[f] at t;cases t;exact Y
   ·exact A.2.2 a B d S
  ·exact B7.trans (Dj x (by rw[F2]))
 cases n with
 |zero=>
  have C:decide (((0:Nat):Int)>0)=false:=by decide
  refine⟨λh=>(by rw[C] at h;cases h),0,λh=>(by rw[C] at h;cases h),an (by rw[C];rfl) (X (.inl C))⟩
 |succ j=>
  have oH:decide (((j+1:Nat):Int)>0)=true:=decide_eq_true (by omega);have YJ:aX .i64 ((j+1:Nat):Int) 1=(j:Int):=by rw[bC (by omega) (by omega)];omega
  obtain⟨p,f⟩: ∃p,R[j]? =some p:=⟨_,CW (by omega)⟩;have hcj:(R.take (j+1)++(c::R.drop (j+1)))[j]? =some p:=by
   rw[HB (by rw[BP];omega),Ox (by omega),f]
  have BL:=(l.sl v.base (λy e=>Dc _ e) j p hcj).2;rw[YJ];refine⟨λ_=>⟨z,by omega,by rw[m];omega⟩,aj.of p (by rw[FP];exact BL) ?_⟩;refine ab (λhc=>?_) (λhc=>X (.inr ⟨p,(show R[j+1 - 1]? =some p from f),?_⟩))
  ·rw[oH,H5,decide_eq_true_eq] at hc;refine⟨⟨z,by omega,by rw[m];omega⟩,aj.of p (by rw[FP];exact BL) ⟨⟨z,by omega,by rw[m];omega⟩,?_⟩⟩;rw[FP];refine stM v l (i:=j+1) (by rw[J];omega) p rfl rfl λk g o O b P=>⟨j,ID j,k,p,by omega,rfl,?_,?_,O.ext P⟩
   ·have Q:(R.take (j+1)++(c::R.drop (j+1))).set (j+1) p=R.take j++(p::R.drop j):=by
     rw[Oh _ _ (by rw[BP];omega),BP,FR u,H4];rw[Hq,f,iZ f,Fm];rfl
    rw[Q] at o;exact o
   ·intro y e;rw[iZ f] at e;rcases BJ.1 e with rfl|e
    ·exact hc
    ·exact W y e
  ·rw[oH,H5,decide_eq_false_iff_not] at hc;show p<=x;omega
theorem AW {e:B6} {seen:Array Nat} {f:B6->Bool} (g:seen.contains e.born=false): ∀{es:List B6},(es.map (·.born)).Nodup->e∈es->
 (es.filter λx=>(seen.push e.born).contains x.born&&f x).Perm (if f e=true then e::es.filter (λx=>seen.contains x.born&&f x) else es.filter (λx=>seen.contains x.born&&f x))
 |[], _,h=>by cases h
 |y::es,a,hm=>by
  rw[DB,Bx] at a;have b: ∀z:Nat,(seen.push e.born).contains z=(seen.contains z||z==e.born):=λz=>by
   rw[Array.contains_push]
  rcases BJ.1 hm with rfl|hm
  ·have j: ∀x∈es,(x.born==e.born)=false:=λx d=>by
    have:x.born≠e.born:=λc=>a.1 (by rw[<-c];exact B1.2 ⟨x,d,rfl⟩);simpa using this
   have k:es.filter (λx=>(seen.push e.born).contains x.born&&f x)=es.filter (λx=>seen.contains x.born&&f x):=List.filter_congr λx d=>by
    rw[b,j x d,Bool.or_false]
   rw[GS,GS,b,k,g];cases m:f e
   ·simp
   ·simp
  ·have i:=AW g (f:=f) a.2 hm;have l:(y.born==e.born)=false:=by
    have:y.born≠e.born:=λc=>a.1 (by rw[c];exact B1.2 ⟨e,hm,rfl⟩);simpa using this
   rw[GS,GS,b,l,Bool.or_false];cases n:(seen.contains y.born&&f y)
   ·simpa using i
   ·simp only[if_true];refine(Dj y i).trans ?_;split
    ·exact FS _ _ _
    ·exact List.Perm.refl _
end
end Go.Proofs.YtlcenllcmeebhaaGreat.Mu
namespace Go.Proofs.YtlcenllcmeebhaaGreat
set_option maxRecDepth 100000
open Go.RX
abbrev sG:List Sc:=[.int .i64,.int .i64,.int .i64,.bool,.int .i64]
abbrev eG:El:= .agg sG
abbrev GT:Type:=Int×Int×Int×Bool×Int×Unit
def zG:GT:=(0,0,0,false,0,())
def gG (n:Int):Bool:=decide (n>=1)&&decide (n<=16)
def mE (o p t:Int) (b:Bool) (u:Int):Bool:=decide (((o,p,t,b,u,()):GT)=zG)
noncomputable def G0:dD AI:={C3 with vr:=false}
theorem KK (n:Int) (w:A2) (a:Bool->A2->Prop):(aJ G0 (λ_=>[]) 225 [aa n] w a)=(
 ao w (a (decide (n>=1)&&decide (n<=16)))):=by kernel_rfl
theorem Qh (o p t:Int) (b:Bool) (u:Int) (w:A2) (a:Bool->A2->Prop):(aJ G0 (λ_=>[]) 210 [.agg ⟨[aa o,aa p,aa t,.bool b,aa u]⟩] w a)=(
 aM w ⟨[aa o,aa p,aa t,.bool b,aa u]⟩ 255 λb c=>aj c none (ae b) (.agg [.int .i64,.int .i64,.int .i64,.bool,.int .i64]) λ(x:Int×Int×Int×Bool×Int×Unit)=>ao c λw1=>a (x.1==0&&(x.2.1==0&&(x.2.2.1==0&&(x.2.2.2.1==false&&(x.2.2.2.2.1==0&&true))))) w1):=by kernel_rfl
theorem KL (n:Int) (w:A2):aD AI 225 (.el (.one .bool)) [aa n] w (λx w'=>x=gG n/\Ext w w'):=by
 refine ai (C:=G0) (aQ:=λ_=>[]) (Aq (KK n w _) ?_);have H:=At.start [] w
 repeat' (first
  |exact Go.RX.aK.all H
  |exact And.intro (by first|rfl|decide+kernel) (Go.RX.aK.all H)
  |refine And.intro (by first|exact rfl|exact trivial|exact λ_=>rfl|exact λ_=>trivial|exact⟨rfl,by decide,by decide⟩|exact⟨by decide,by decide⟩|decide+kernel|exact λ_=>by decide|exact λ_=>⟨rfl,by decide,by decide⟩|(dsimp only[Of,Oa];exact⟨rfl,by decide,by decide⟩)) ?_
  |refine aj.cq 0 H rfl rfl ?_
  |refine aj.cq 1 H rfl rfl ?_
  |refine aj.at 0 H rfl rfl ?_
  |refine aj.at 1 H rfl rfl ?_
  |refine aM.go H λb w1 H=>?_
  |refine aA.all 0 H rfl rfl rfl λw1 H=>?_
  |refine aA.all 1 H rfl rfl rfl λw1 H=>?_
  |refine aA.gx 0 H rfl rfl rfl λw1 H=>?_
  |refine aA.gx 1 H rfl rfl rfl λw1 H=>?_
  |refine aA.one 0 H rfl rfl rfl λw1 H=>?_
  |refine aA.one 1 H rfl rfl rfl λw1 H=>?_
  |with_reducible refine ao.go H λw1 H=>?_
  |refine jX ?_
  |refine aB (by assumption) ?_
  |refine an (by assumption) ?_
  |refine ab (λc=>?_) (λc=>?_))
theorem Qi (o p t:Int) (b:Bool) (u:Int) (w:A2):aD AI 210 (.el (.one .bool)) [.agg ⟨[aa o,aa p,aa t,.bool b,aa u]⟩] w (λx w'=>x=mE o p t b u/\Ext w w'):=by
 refine ai (C:=G0) (aQ:=λ_=>[]) (Aq (Qh o p t b u w _) ?_);have H:=At.start [] w;refine aM.go H λa c H=>aj.at 0 H rfl rfl (ao.go H λd H=>⟨?_,H.all⟩);unfold mE zG;rw[Ik];simp
noncomputable def UK:Entry AI where
 f:=225
 fn l:=match l with
  |[.int .i64 a]=>some (True,.bool (gG a))
  | _=>none
 ok args pre v h b w:=by
  split at h
  ·rename_i a;cases h;exact bU (KL a w)
  ·cases h
noncomputable def Zo:Entry AI where
 f:=210
 fn l:=match l with
  |[.agg ⟨[.int .i64 o,.int .i64 p,.int .i64 t,.bool b,.int .i64 u]⟩]=>some (True,.bool (mE o p t b u))
  | _=>none
 ok args pre v h a w:=by
  split at h
  ·rename_i o p t b u;cases h;exact bU (Qi o p t b u w)
  ·cases h
noncomputable def G3:dD AI:={G0 with si:=[UK,Zo],quiet:=[224,221,226,209],sh:=[]}
theorem KM (p:Option AC) (w:A2) (a:Bool->A2->Prop):(aJ G3 (λ_=>[]) 224 [ag p] w a)=(
 ((!p.isNone)=true->p.isSome=true)/\((!p.isNone)=true->p.isSome=true)/\aj w (some !p.isNone) (ad p 0) eJ λx=>ao w λw1=>a (!p.isNone&&decide ((↑x.2.1:Int)>0)) w1):=by kernel_rfl
theorem Zp (p:Option AC) (i:Int) (w:A2) (b:Option AC×Int×Unit->A2->Prop):(aJ G3 (λ_=>[]) 221 [ag p,aa i] w b)=(
 ∃x,af AI 224 [ag p] w (.bool x)/\aH (!x) (ao w (b (none,10,()))) (((!decide (i<0))=true->p.isSome=true)/\((!decide (i<0))=true->p.isSome=true)/\aj w (some !decide (i<0)) (ad p 0) eJ λx=>((!(decide (i<0)||decide (i>=(↑x.2.1:Int))))=true->p.isSome=true)/\((!(decide (i<0)||decide (i>=(↑x.2.1:Int))))=true->p.isSome=true)/\aj w (some !(decide (i<0)||decide (i>=(↑x.2.1:Int)))) (ad p 0) eJ λc=>((!(decide (i<0)||decide (i>=(↑x.2.1:Int))))=true->c.1.isSome=true/\0<=i/\i<
 (↑c.2.1:Int))/\aj w (some !(decide (i<0)||decide (i>=(↑x.2.1:Int)))) (ad c.1 (i.toNat*5)) (.agg [.int .i64,.int .i64,.int .i64,.bool,.int .i64]) λ(a:Int×Int×Int×Bool×Int×Unit)=>((!(decide (i<0)||decide (i>=(↑x.2.1:Int))))=true->True)/\aH (decide (i<0)||decide (i>=(↑x.2.1:Int))||mE a.1 a.2.1 a.2.2.1 a.2.2.2.1 a.2.2.2.2.1) (ao w (b (none,4,()))) (e8 p 0 w λx=>(x.1.isSome=true/\0<=i/\i<(↑x.2.1:Int))/\ao w (b (ad x.1 (i.toNat*5),0,()))))):=by kernel_rfl
theorem Qj (o q t:Int) (b:Bool) (u:Int) (c:Option AC) (w:A2) (d:Bool->A2->Prop):(aJ G3 (λ_=>[]) 226 [.agg ⟨[aa o,aa q,aa t,.bool b,aa u]⟩,ag c] w d)=(
 aM w ⟨[aa o,aa q,aa t,.bool b,aa u]⟩ 255 λb a=>aj a none c (.agg [.int .i64,.int .i64,.int .i64,.bool,.int .i64]) λ(x:Int×Int×Int×Bool×Int×Unit)=>true=true/\aR a (ad (ae b) 0) λe=>true=true/\aR a (ad (ae b) 1) λf=>true=true/\aR a (ad (ae b) 2) λg=>ao a λw1=>d (x.1==e&&(x.2.1==f&&(x.2.2.1==g&&(x.2.2.2.1==false&&(x.2.2.2.2.1==0&&true))))) w1):=by kernel_rfl
theorem KN (o q t:Int) (b:Bool) (u:Int) (c:Option AC) (w:A2) (f:Bool->A2->Prop):(aJ G3 (λ_=>[]) 209 [.agg ⟨[aa o,aa q,aa t,.bool b,aa u]⟩,ag c] w f)=(
 aM w ⟨[aa o,aa q,aa t,.bool b,aa u]⟩ 255 λb a=>aj a none (ae b) (.agg [.int .i64,.int .i64,.int .i64,.bool,.int .i64]) λ(x:Int×Int×Int×Bool×Int×Unit)=>True/\((!mE x.1 x.2.1 x.2.2.1 x.2.2.2.1 x.2.2.2.2.1)=true->true=true)/\aj a (some !mE x.1 x.2.1 x.2.2.1 x.2.2.2.1 x.2.2.2.2.1) (ad (ae b) 0) aT λ(d:Int)=>aj a (some !mE x.1 x.2.1 x.2.2.1 x.2.2.2.1 x.2.2.2.2.1) c aT λ(e:Int)=>((!mE x.1 x.2.1 x.2.2.1 x.2.2.2.1 x.2.2.2.2.1&& !d==e)=true->true=true)/\aj a (some (!mE x.1
 x.2.1 x.2.2.1 x.2.2.2.1 x.2.2.2.2.1&& !d==e)) (ad (ae b) 2) aT λ(g:Int)=>aj a (some (!mE x.1 x.2.1 x.2.2.1 x.2.2.2.1 x.2.2.2.2.1&& !d==e)) c aT λ(h:Int)=>ao a (f (!mE x.1 x.2.1 x.2.2.1 x.2.2.2.1 x.2.2.2.2.1&&(d==e||g==h)))):=by kernel_rfl
def qM:Nat->aY:=(λ|5=>[(5,Go.RX.El.one Go.RX.Sc.slice),(16,Go.RX.El.one (Go.RX.Sc.int B3))]| _=>[])
theorem KO (p:Option AC) (w:A2) (e:Option AC×Nat×Nat->A2->Prop):(aJ G3 qM 208 [ag p,.func (.func 210) #[] #[]] w e)=(
 ∃x,af AI 224 [ag p] w (.bool x)/\aH (!x) (ao w (e (none,0,0))) (e8 p 0 w λx=> ∃(I:Nat->(Option AC×Nat×Nat)×Int×Unit->A2->Prop),(∃n, ∀w1,Ext w w1->I n ((none,0,0),0,()) w1)/\ ∀(n:Nat) (s:(Option AC×Nat×Nat)×Int×Unit) (w1:A2),I n s w1->aH (decide (s.2.1<(↑x.2.1:Int))) ((x.1.isSome=true/\0<=s.2.1/\s.2.1<(↑x.2.1:Int))/\aj w1 none (ad x.1 (B4 s.2.1*5)) (.agg [.int .i64,.int .i64,.int .i64,.bool,.int .i64]) λ(x:Int×Int×Int×Bool×Int×Unit)=>aM w1 ⟨[aa 0,
 aa 0,aa 0,.bool false,aa 0]⟩ 255 λb a=>aA a (ae b) [aa x.1,aa x.2.1,aa x.2.2.1,.bool x.2.2.2.1,aa x.2.2.2.2.1] λa=>aj a none (ae b) (.agg [.int .i64,.int .i64,.int .i64,.bool,.int .i64]) λ(x:Int×Int×Int×Bool×Int×Unit)=>True/\aH (mE x.1 x.2.1 x.2.2.1 x.2.2.2.1 x.2.2.2.2.1) (aM a ⟨[aa s.2.1]⟩ 3 λb a=> ∀w1,Ext a w1->mz w1 3 1 8 ⟨[aa 0]⟩ (s.1.1,s.1.2.1,s.1.2.2) (some ⟨b,0,none⟩,1,1) λ(r:Option AC×Nat×Nat) a=> ∀c,Ext a c-> ∃(d:Nat),d<n/\I d
 ((r.1,r.2.1,r.2.2),aI .i64 s.2.1 1,()) c) (∀c,Ext a c-> ∃(d:Nat),d<n/\I d ((s.1.1,s.1.2.1,s.1.2.2),aI .i64 s.2.1 1,()) c)) (ao w1 (e (s.1.1,s.1.2.1,s.1.2.2))))):=by kernel_rfl
def qN:Nat->aY:=(λ|5=>[(5,Go.RX.El.one Go.RX.Sc.slice),(16,Go.RX.El.one (Go.RX.Sc.int B3))]| _=>[])
theorem KP (p c:Option AC) (w:A2) (f:Option AC×Nat×Nat->A2->Prop):(aJ G3 qN 208 [ag p,.func (.func 226) #[] #[ag c]] w f)=(
 ∃x,af AI 224 [ag p] w (.bool x)/\aH (!x) (ao w (f (none,0,0))) (e8 p 0 w λx=> ∃(I:Nat->(Option AC×Nat×Nat)×Int×Unit->A2->Prop),(∃n, ∀w1,Ext w w1->I n ((none,0,0),0,()) w1)/\ ∀(n:Nat) (s:(Option AC×Nat×Nat)×Int×Unit) (w1:A2),I n s w1->aH (decide (s.2.1<(↑x.2.1:Int))) ((x.1.isSome=true/\0<=s.2.1/\s.2.1<(↑x.2.1:Int))/\aj w1 none (ad x.1 (B4 s.2.1*5)) (.agg [.int .i64,.int .i64,.int .i64,.bool,.int .i64]) λ(x:Int×Int×Int×Bool×Int×Unit)=>aM w1 ⟨[aa 0,
 aa 0,aa 0,.bool false,aa 0]⟩ 255 λb a=>aA a (ae b) [aa x.1,aa x.2.1,aa x.2.2.1,.bool x.2.2.2.1,aa x.2.2.2.2.1] λa=>aj a none (ae b) (.agg [.int .i64,.int .i64,.int .i64,.bool,.int .i64]) λ(x:Int×Int×Int×Bool×Int×Unit)=> ∃g,af AI 226 [.agg ⟨[aa x.1,aa x.2.1,aa x.2.2.1,.bool x.2.2.2.1,aa x.2.2.2.2.1]⟩,ag c] a (.bool g)/\aH g (aM a ⟨[aa s.2.1]⟩ 3 λb a=> ∀w1,Ext a w1->mz w1 3 1 8 ⟨[aa 0]⟩ (s.1.1,s.1.2.1,s.1.2.2)
 (some ⟨b,0,none⟩,1,1) λ(r:Option AC×Nat×Nat) a=> ∀d,Ext a d-> ∃(e:Nat),e<n/\I e ((r.1,r.2.1,r.2.2),aI .i64 s.2.1 1,()) d) (∀d,Ext a d-> ∃(e:Nat),e<n/\I e ((s.1.1,s.1.2.1,s.1.2.2),aI .i64 s.2.1 1,()) d)) (ao w1 (f (s.1.1,s.1.2.1,s.1.2.2))))):=by kernel_rfl
def qO:Nat->aY:=(λ|5=>[(5,Go.RX.El.one Go.RX.Sc.slice),(16,Go.RX.El.one (Go.RX.Sc.int B3))]| _=>[])
theorem KQ (p c:Option AC) (w:A2) (f:Option AC×Nat×Nat->A2->Prop):(aJ G3 qO 208 [ag p,.func (.func 209) #[] #[ag c]] w f)=(
 ∃x,af AI 224 [ag p] w (.bool x)/\aH (!x) (ao w (f (none,0,0))) (e8 p 0 w λx=> ∃(I:Nat->(Option AC×Nat×Nat)×Int×Unit->A2->Prop),(∃n, ∀w1,Ext w w1->I n ((none,0,0),0,()) w1)/\ ∀(n:Nat) (s:(Option AC×Nat×Nat)×Int×Unit) (w1:A2),I n s w1->aH (decide (s.2.1<(↑x.2.1:Int))) ((x.1.isSome=true/\0<=s.2.1/\s.2.1<(↑x.2.1:Int))/\aj w1 none (ad x.1 (B4 s.2.1*5)) (.agg [.int .i64,.int .i64,.int .i64,.bool,.int .i64]) λ(x:Int×Int×Int×Bool×Int×Unit)=>aM w1 ⟨[aa 0,
 aa 0,aa 0,.bool false,aa 0]⟩ 255 λb a=>aA a (ae b) [aa x.1,aa x.2.1,aa x.2.2.1,.bool x.2.2.2.1,aa x.2.2.2.2.1] λa=>aj a none (ae b) (.agg [.int .i64,.int .i64,.int .i64,.bool,.int .i64]) λ(x:Int×Int×Int×Bool×Int×Unit)=> ∃g,af AI 209 [.agg ⟨[aa x.1,aa x.2.1,aa x.2.2.1,.bool x.2.2.2.1,aa x.2.2.2.2.1]⟩,ag c] a (.bool g)/\aH g (aM a ⟨[aa s.2.1]⟩ 3 λb a=> ∀w1,Ext a w1->mz w1 3 1 8 ⟨[aa 0]⟩ (s.1.1,s.1.2.1,s.1.2.2)
 (some ⟨b,0,none⟩,1,1) λ(r:Option AC×Nat×Nat) a=> ∀d,Ext a d-> ∃(e:Nat),e<n/\I e ((r.1,r.2.1,r.2.2),aI .i64 s.2.1 1,()) d) (∀d,Ext a d-> ∃(e:Nat),e<n/\I e ((s.1.1,s.1.2.1,s.1.2.2),aI .i64 s.2.1 1,()) d)) (ao w1 (f (s.1.1,s.1.2.1,s.1.2.2))))):=by kernel_rfl
theorem KR (p:Option AC) (o q t:Int) (b:Bool) (w:A2) (c:Int×Int×Unit->A2->Prop):(aJ G3 (λ_=>[]) 180 [ag p,aa o,aa q,aa t,.bool b] w c)=(
 ∃x,af AI 224 [ag p] w (.bool x)/\aH (!x) (ao w (c (0,10,()))) (True/\((!!gG o)=true->True)/\aH (!gG o|| !gG t||o==t||decide (q<0)||decide (q>=65536)) (ao w (c (0,1,()))) (aM w ⟨[aa 0,aa 0,aa 0,.bool false,aa 0]⟩ 255 λe a=>aA a (ae e) [aa o,aa q,aa t,.bool false,aa 0] λa=>az AI 208 (.el eJ) [ag p,.func (.func 226) ⟨[]⟩ {toList:=[ag (ae e)]}] a λx a=>aH (decide ((↑x.2.1:Int)>0)) (ao a (c (0,5,
 ()))) (az AI 208 (.el eJ) [ag p,.func (.func 210) ⟨[]⟩ ⟨[]⟩] a λx a=>aH ((↑x.2.1:Int)==0) (ao a (c (0,3,()))) (true=true/\aA a (ad (ae e) 3) [.bool b] λa=>e8 p 0 a λf=>(x.1.isSome=true/\(0:Int)<=0/\0<(↑x.2.1:Int))/\aR a (ad x.1 0) λg=>aj a none (ae e) (.agg [.int .i64,.int .i64,.int .i64,.bool,.int .i64]) λ(d:Int×Int×Int×Bool×Int×Unit)=>(f.1.isSome=true/\0<=g/\g<(↑f.2.1:Int))/\aA a (ad f.1 (g.toNat*5)) [aa d.1,aa d.2.1,
 aa d.2.2.1,.bool d.2.2.2.1,aa d.2.2.2.2.1] λa=>(x.1.isSome=true/\(0:Int)<=0/\0<(↑x.2.1:Int))/\aR a (ad x.1 0) λx=>ao a (c (x,0,()))))))):=by kernel_rfl
theorem Zq (p:Option AC) (i:Int) (w:A2) (c:GT×Bool×Unit->A2->Prop):(bQ G3 (λ_=>[]) 176 [ag p,aa i] w c)=(
 aM w ⟨[aa 0,aa 0,aa 0,.bool false,aa 0]⟩ 255 λb a=> ∃(x:Option AC×Int×Unit),af AI 221 [ag p,aa i] a (.tuple ⟨[ag x.1,aa x.2.1]⟩)/\aH (x.2.1 != 0) (aA a (ae b) [aa 0,aa 0,aa 0,.bool false,aa 0] λa=>ao a λw1=>aj w1 none (ae b) (.agg [.int .i64,.int .i64,.int .i64,.bool,.int .i64]) λ(x:Int×Int×Int×Bool×Int×Unit)=>c ((x.1,x.2.1,x.2.2.1,x.2.2.2.1,x.2.2.2.2.1,()),false,()) w1) (x.1.isSome=true/\aj a none x.1
 (.agg [.int .i64,.int .i64,.int .i64,.bool,.int .i64]) λ(x:Int×Int×Int×Bool×Int×Unit)=>aA a (ae b) [aa x.1,aa x.2.1,aa x.2.2.1,.bool x.2.2.2.1,aa x.2.2.2.2.1] λa=>ao a λw1=>aj w1 none (ae b) (.agg [.int .i64,.int .i64,.int .i64,.bool,.int .i64]) λ(x:Int×Int×Int×Bool×Int×Unit)=>c ((x.1,x.2.1,x.2.2.1,x.2.2.2.1,x.2.2.2.2.1,()),true,()) w1)):=by kernel_rfl
theorem Qk (p:Option AC) (i g:Int) (b:Bool) (w:A2) (a:Int->A2->Prop):(aJ G3 (λ_=>[]) 181 [ag p,aa i,aa g,.bool b] w a)=(
 ∃(x:Option AC×Int×Unit),af AI 221 [ag p,aa i] w (.tuple ⟨[ag x.1,aa x.2.1]⟩)/\aH (x.2.1 != 0) (ao w (a x.2.1)) (cL x.1 2 w λc=>((!c != g&&b)=true->x.1.isSome=true)/\((!c != g&&b)=true->x.1.isSome=true)/\aj w (some (!c != g&&b)) (ad x.1 3) rq λd=>aH (c != g||b&& !d) (ao w (a 7)) (cL x.1 4 w λe=>aH (e==1000) (ao w (a 3)) (cL x.1 4 w λf=>x.1.isSome=true/\x.1.isSome=true/\aA w (ad x.1 4) [aa (aI .i64 f 1)] λh=>ao h (a 0))))):=by kernel_rfl
theorem Ql (p:Option AC) (i g:Int) (w:A2) (a:Int->A2->Prop):(aJ G3 (λ_=>[]) 182 [ag p,aa i,aa g] w a)=(
 ∃(x:Option AC×Int×Unit),af AI 221 [ag p,aa i] w (.tuple ⟨[ag x.1,aa x.2.1]⟩)/\aH (x.2.1 != 0) (ao w (a x.2.1)) (cL x.1 2 w λb=>aH (b != g) (ao w (a 7)) (cL x.1 4 w λc=>aH (c==0) (ao w (a 6)) (cL x.1 4 w λd=>x.1.isSome=true/\x.1.isSome=true/\aA w (ad x.1 4) [aa (aX .i64 d 1)] λe=>ao e (a 0))))):=by kernel_rfl
theorem G6 (p:Option AC) (i o:Int) (w:A2) (a:Int->A2->Prop):(aJ G3 (λ_=>[]) 184 [ag p,aa i,aa o] w a)=(
 ∃(x:Option AC×Int×Unit),af AI 221 [ag p,aa i] w (.tuple ⟨[ag x.1,aa x.2.1]⟩)/\aH (x.2.1 != 0) (ao w (a x.2.1)) (cL x.1 0 w λb=>aH (b != o) (ao w (a 7)) (cL x.1 4 w λc=>aH (decide (c>0)) (ao w (a 9)) (x.1.isSome=true/\aA w x.1 [aa 0,aa 0,aa 0,.bool false,aa 0] λd=>ao d (a 0))))):=by kernel_rfl
def tZ:Nat->aY:=(λ|3=>[(13,Go.RX.El.one (Go.RX.Sc.int B3))]| _=>[])
theorem Qm (p:Option AC) (g:Int) (w:A2) (d:Int->A2->Prop):(aJ G3 tZ 169 [ag p,aa g] w d)=(
 aM w ⟨[aa g]⟩ 3 λb a=>az AI 208 (.el eJ) [ag p,.func (.func 209) ⟨[]⟩ {toList:=[ag (ae b)]}] a λx a=> ∃(I:Nat->Int×Unit->A2->Prop),(∃n, ∀w1,Ext a w1->I n (0,()) w1)/\ ∀(n:Nat) (s:Int×Unit) (w1:A2),I n s w1->aH (decide (s.1<(↑x.2.1:Int))) ((x.1.isSome=true/\0<=s.1/\s.1<(↑x.2.1:Int))/\aR w1 (ad x.1 (B4 s.1*1)) λx=>e8 p 0 w1 λc=>(c.1.isSome=true/\0<=x/\x<(↑c.2.1:Int))/\aA w1 (ad c.1 (x.toNat*5)) [aa 0,aa 0,aa 0,.bool false,
 aa 0] λa=> ∀e,Ext a e-> ∃(f:Nat),f<n/\I f (aI .i64 s.1 1,()) e) (ao w1 (d (↑x.2.1:Int)))):=by kernel_rfl
theorem UL (n:Int) (w:A2) (a:Option AC×Int×Unit->A2->Prop):(aJ G3 (λ_=>[]) 73 [aa n] w a)=(
 aH (decide (n<1)||decide (n>64)) (ao w (a (none,1,()))) (NJ w 40 5 n n ⟨[aa 0,aa 0,aa 0,.bool false,aa 0]⟩ 255 λb c=>aM c {toList:=[.slice (ae b) n.toNat n.toNat]} 215 λb c=>ao c (a (some ⟨b,0,none⟩,0,())))):=by kernel_rfl
theorem AX {lo sz:Int} (h:dV lo sz=true):lo.toNat+sz.toNat<=64/\1<=sz.toNat:=by
 have:=iG.1 h;omega
theorem Qn {w:BitVec 64} {lo sz:Int} (h:dV lo sz=true):(fg w lo sz).toNat=w.toNat / 2 ^ lo.toNat % 2 ^ sz.toNat:=by
 have a:=AX h;apply Rg;intro j;rw[Gi,Uo h,O3 (by omega),Kb,Nat.testBit_div_two_pow,Gi,Nat.add_comm j,Bool.and_comm]
theorem Qo {w v:BitVec 64} {lo sz:Int} (h:dV lo sz=true) (b:w.toNat<2 ^ lo.toNat):(sX w lo sz v).toNat=2 ^ lo.toNat*(v.toNat % 2 ^ sz.toNat)+w.toNat:=by
 have d:=AX h;apply Rg;intro j;rw[Gi,Uq h,Nat.testBit_two_pow_mul_add _ b];by_cases c:j<64
 ·rw[Zg (by omega) c];by_cases h1:j<lo.toNat
  ·rw[if_neg (by omega),if_pos h1,Gi]
  ·rw[if_neg h1,Kb,Gi];by_cases e:j<lo.toNat+sz.toNat
   ·rw[if_pos (by omega)];have:j - lo.toNat<sz.toNat:=by omega
    simp[this]
   ·rw[if_neg (by omega)];have a: ¬ j - lo.toNat<sz.toNat:=by omega
    simp only[a,decide_false,Bool.false_and];rw[<-Gi];exact Nat.testBit_lt_two_pow (I2 b (Nat.pow_le_pow_right (by decide) (by omega)))
 ·rw[T0 _ _ (by omega),if_neg (by omega),Kb];have a: ¬ j - lo.toNat<sz.toNat:=by omega
  simp[a]
theorem aa5 (b:BitVec 64):U b=(b.toNat:Int):=rfl
theorem Du {b:BitVec 64} {n:Nat} (h:b.toNat=n):U b=(n:Int):=by rw[aa5,h]
def bB (b:Bool):BitVec 64:=if b then 1#64 else 0#64
def nB (b:Bool):Nat:=if b then 1 else 0
theorem O5 (b:Bool):(bB b).toNat=nB b:=by cases b<;>rfl
theorem Oy (b:Bool):nB b<=1:=by cases b<;>decide
theorem pj {w v:BitVec 64} {lo sz:Int} {a n:Nat} (c:dV lo sz=true) (b:w.toNat=a) (d:a<2 ^ lo.toNat) (hv:v.toNat=n) (e:n<2 ^ sz.toNat):(sX w lo sz v).toNat=2 ^ lo.toNat*n+a:=by
 rw[Qo c (by rw[b];exact d),hv,b,Pp e]
theorem KS {p l:Bool} {r f:BitVec 64} {x y:Nat} (a:r.toNat=x) (i:x<8) (b:f.toNat=y) (j:y<4096):
 (qF 0#64 0 [(bB p,1),(r,3),(bB l,1),(0#64,7),(f,12)]).toNat=nB p+2*x+16*nB l+4096*y:=by
 have k:=Oy p;have m:=Oy l;simp only[qF];rw[if_pos (by decide),if_pos (by decide),if_pos (by decide),if_pos (by decide),if_pos (by decide)];have c:=pj (w:=0#64) (lo:=0) (sz:=1) (by decide) (rfl:(0#64).toNat=0) (by decide) (O5 p) (by show nB p<2;omega);have d:=pj (lo:=0+1) (sz:=3) (by decide) c (by show 1*nB p+0<2;omega) a (by show x<8;omega);have e:=pj (lo:=0+1+3) (sz:=1) (by decide) d (by show 2*x+(1*nB p+0)<16;omega) (O5 l) (by show nB l<2;omega);have g:=pj (lo:=0+1+3+1) (sz:=7) (v:=0#64) (by decide) e (by show 16*nB l+(2*x+(1*nB p+0))<32;omega) (rfl:(0#64).toNat=0) (by decide);have h:=pj (lo:=0+1+3+1+7) (sz:=12) (by decide) g (by show 32*0+(16*nB l+(2*x+(1*nB p+0)))<4096;omega) b (by show y<4096;omega);rw[h];show 4096*y+(32*0+(16*nB l+(2*x+(1*nB p+0))))= _;omega
theorem G7 (w:BitVec 64):mq w 0 [1,3,1,7,12,40]=some [fg w 0 1,fg w 1 3,fg w 4 1,fg w 5 7,fg w 12 12,fg w 24 40]:=by
 simp only[mq];rw[if_pos (by decide),if_pos (by decide),if_pos (by decide),if_pos (by decide),if_pos (by decide),if_pos (by decide)];rfl
theorem nI {w:BitVec 64} {lo sz:Int} (a b:Nat) (h:dV lo sz=true) (c:2 ^ lo.toNat=a) (hb:2 ^ sz.toNat=b):(fg w lo sz).toNat=w.toNat / a % b:=by
 rw[Qn h,c,hb]
noncomputable def D0:dD AI:={C3 with vr:=true}
theorem UM (b:Bool) (w:A2) (a:Int->A2->Prop):(aJ D0 (λ_=>[]) 249 [.bool b] w a)=(
 aH b (ao w (a 1)) (ao w (a 0))):=by kernel_rfl
theorem yP (p:Bool) (r:Int) (l:Bool) (f:Int) (w:A2) (d:Bool->A2->Prop):(aJ D0 (λ_=>[]) 94 [.agg ⟨[.bool p,aa r,.bool l,aa f]⟩] w d)=(
 aM w ⟨[.bool p,aa r,.bool l,aa f]⟩ 130 λb a=>true=true/\sU a (ad (ae b) 0) λx=>aH (!x) (aj a none (ae b) jU λ(x:Bool×Int×Bool×Int×Unit)=>ao a λw1=>d (x.1==false&&(x.2.1==0&&(x.2.2.1==false&&(x.2.2.2.1==0&&true)))) w1) (true=true/\aR a (ad (ae b) 1) λx=>((!decide (x<0))=true->true=true)/\aj a (some !decide (x<0)) (ad (ae b) 1) aT λ(c:Int)=>((!(decide (x<0)||decide (c>7)))=true->true=true)/\aj a (some !(decide (x<0)||decide (c>7))) (ad (ae b) 3)
 aT λ(e:Int)=>((!(decide (x<0)||decide (c>7)||decide (e<0)))=true->true=true)/\aj a (some !(decide (x<0)||decide (c>7)||decide (e<0))) (ad (ae b) 3) aT λ(g:Int)=>aH (decide (x<0)||decide (c>7)||decide (e<0)||decide (g>=4096)) (ao a (d false)) (true=true/\aR a (ad (ae b) 1) λx=>((!decide (x>0))=true->true=true)/\aj a (some !decide (x>0)) (ad (ae b) 2) rq λh=>ao a (d (decide (x>0)|| !h))))):=by kernel_rfl
theorem UN (x:Int) (w:A2) (a:Int->A2->Prop):(aJ D0 (λ_=>[]) 100 [aa x] w a)=(
 aH (decide (x<0)||decide (x>=4)) (ao w (a 0)) (∀(b:Int),b=gq .i64 4 x->0<=b/\ ∀(x:Int),x=Dm .i64 1 b->ao w (a x))):=by kernel_rfl
theorem Qq (x:Int) (w:A2) (a:Int->A2->Prop):(aJ D0 (λ_=>[]) 103 [aa x] w a)=(
 aH (decide (x<0)||decide (x>3)) (ao w (a 0)) (aM w ⟨[aa 1,aa 16,aa 256,aa 4096]⟩ 3 λb c=>(true=true/\0<=x/\x<(↑4:Int))/\aR c (ad (ae b) (x.toNat*1)) λx=>ao c (a x))):=by kernel_rfl
theorem Cg {w:A2} {b:Nat} {p:Bool} {r:Int} {l:Bool} {f:Int} (h:bL w b [.bool p,aa r,.bool l,aa f]):
 cC w (ad (ae b) 0) (.one .bool) p/\cC w (ad (ae b) 1) (.one (.int .i64)) r/\cC w (ad (ae b) 2) (.one .bool) l/\cC w (ad (ae b) 3) (.one (.int .i64)) f/\
  cC w (ae b) (.agg [.bool,.int .i64,.bool,.int .i64]) (p,r,l,f,()):=by
 refine⟨?_,?_,?_,?_,?_⟩
 ·rw[aV];exact h.om rfl
 ·rw[aV];exact h.om rfl
 ·rw[aV];exact h.om rfl
 ·rw[aV];exact h.om rfl
 ·exact h.rdA λi _=>by rw[DH];rfl
def bR (p:Bool) (r:Int) (l:Bool) (f:Int):Bool:=
 match p with
 |true=>decide (0<=r)&&decide (r<=7)&&decide (0<=f)&&decide (f<4096)&&(decide (r>0)|| !l)
 |false=>decide (r=0)&& !l&&decide (f=0)
theorem yQ (p:Bool) (r:Int) (l:Bool) (f:Int) (w:A2):aD AI 94 (.el (.one .bool)) [.agg ⟨[.bool p,aa r,.bool l,aa f]⟩] w (λb w'=>b=bR p r l f/\Ext w w'):=by
 refine ai (C:=D0) (aQ:=λ_=>[]) (Aq (yP p r l f w _) ?_);intro w1 h1;obtain⟨i,g1,j,e,k⟩:=Cg (bL.new w1 [.bool p,aa r,.bool l,aa f] 130);refine⟨rfl,p,i,ab (λh=>⟨_,k,λg a=>⟨?_,(h1.iU _).trans a⟩⟩) (λh=>⟨rfl,r,g1,λ_=>rfl,r,λ_=>g1,λ_=>rfl,f,λ_=>e,λ_=>rfl,f,λ_=>e,ab (λd=>λg a=>⟨?_,(h1.iU _).trans a⟩) (λd=>⟨rfl,r,g1,λ_=>rfl,l,λ_=>j,λg a=>⟨?_,(h1.iU _).trans a⟩⟩)⟩)⟩
 ·have c:p=false:=by simpa using h
  subst c;by_cases c1:r=0<;>by_cases c2:f=0<;>cases l<;>simp[bR,c1,c2]
 ·have c:p=true:=by simpa using h
  subst c;simp only[FU,decide_eq_true_eq] at d;symm;simp only[bR,Ih,decide_eq_false_iff_not];omega
 ·have c:p=true:=by simpa using h
  subst c;simp only[Fg,decide_eq_false_iff_not] at d;have c1:0<=r:=by omega
  have c2:r<=7:=by omega
  have c3:0<=f:=by omega
  have c4:f<4096:=by omega
  simp[bR,c1,c2,c3,c4]
noncomputable def Oz:Entry AI where
 f:=249
 fn l:=match l with
  |[.bool b]=>some (True,.int .u64 (U (bB b)))
  | _=>none
 ok args pre v h a w:=by
  split at h
  ·rename_i b;cases h;refine bU (x:=U (bB b)) (ai (C:=D0) (aQ:=λ_=>[]) (Aq (UM b w _) ?_));exact ab (λhb w1 h1=>⟨by subst hb;rfl,h1⟩) (λhb w1 h1=>⟨by subst hb;rfl,h1⟩)
  ·cases h
noncomputable def uU:Entry AI where
 f:=94
 fn l:=match l with
  |[.agg ⟨[.bool p,.int .i64 r,.bool l,.int .i64 f]⟩]=>some (True,.bool (bR p r l f))
  | _=>none
 ok args pre v h a w:=by
  split at h
  ·rename_i p r l f;cases h;exact bU (yQ p r l f w)
  ·cases h
def gK (x:Int):Int:=if x=0 then 1 else if x=1 then 16 else if x=2 then 256 else if x=3 then 4096 else 0
theorem UO (x:Int) (w:A2):aD AI 100 (.el (.one (.int .i64))) [aa x] w (λb w'=>b=gK x/\Ext w w'):=by
 refine ai (C:=D0) (aQ:=λ_=>[]) (Aq (UN x w _) ?_);refine ab (λh w1 h1=>⟨?_,h1⟩) (λh y a=>?_)
 ·simp only[FU,decide_eq_true_eq] at h;unfold gK;rw[au (by omega),au (by omega),au (by omega),au (by omega)]
 ·simp only[Fg,decide_eq_false_iff_not] at h;rw[d_ (by omega) (by omega)] at a;refine⟨by omega,λz c w1 h1=>⟨?_,h1⟩⟩;have:x=0\/x=1\/x=2\/x=3:=by omega
  rcases this with rfl|rfl|rfl|rfl<;>(subst a;rw[c];decide+kernel)
theorem Qr (x:Int) (w:A2):aD AI 103 (.el (.one (.int .i64))) [aa x] w (λb w'=>b=gK x/\Ext w w'):=by
 refine ai (C:=D0) (aQ:=λ_=>[]) (Aq (Qq x w _) ?_);refine ab (λh w1 h1=>⟨?_,h1⟩) (λh w1 h1=>?_)
 ·simp only[FU,decide_eq_true_eq] at h;unfold gK;rw[au (by omega),au (by omega),au (by omega),au (by omega)]
 ·simp only[Fg,decide_eq_false_iff_not] at h;have sl:Sl (w1.alloc (.cells ⟨[aa 1,aa 16,aa 256,aa 4096]⟩ 3)) eI (ae w1.heap.size) [1,16,256,4096]:=Sl.jA (bL.new w1 _ _) rfl;have c:x.toNat<4:=by omega
  have g:[(1:Int),16,256,4096][x.toNat]? =some (gK x):=by
   have:x=0\/x=1\/x=2\/x=3:=by omega
   rcases this with rfl|rfl|rfl|rfl<;>rfl
  exact⟨⟨rfl,by omega,by omega⟩, _,(sl _ _ g).2,λd a=>⟨rfl,(h1.iU _).trans a⟩⟩
noncomputable def OA:Entry AI where
 f:=100
 fn l:=match l with
  |[.int .i64 x]=>some (True,.int .i64 (gK x))
  | _=>none
 ok args pre v h a w:=by
  split at h
  ·rename_i x;cases h;exact bU (UO x w)
  ·cases h
noncomputable def F':Entry AI where
 f:=103
 fn l:=match l with
  |[.int .i64 x]=>some (True,.int .i64 (gK x))
  | _=>none
 ok args pre v h a w:=by
  split at h
  ·rename_i x;cases h;exact bU (Qr x w)
  ·cases h
noncomputable def D1:dD AI:={D0 with si:=[tc,vt,FK,FL,Oz,uU,OA,F']}
theorem Qs (p:Bool) (r:Int) (l:Bool) (f:Int) (w:A2) (e:Bool->A2->Prop):(aJ D1 (λ_=>[]) 96 [.agg ⟨[.bool p,aa r,.bool l,aa f]⟩] w e)=(
 aM w ⟨[.bool p,aa r,.bool l,aa f]⟩ 130 λb a=>true=true/\sU a (ad (ae b) 0) λx=>(x=true->true=true)/\aj a (some x) (ad (ae b) 1) aT λ(d:Int)=>aj a (some (x&&d==0)) (ae b) jU λ(c:Bool×Int×Bool×Int×Unit)=>((x&&d==0)=true->True)/\ao a (e (x&&d==0&&bR c.1 c.2.1 c.2.2.1 c.2.2.2.1))):=by kernel_rfl
theorem KT (p:Bool) (r:Int) (l:Bool) (f:Int) (t:Int) (w:A2) (d:Bool->A2->Prop):(aJ D1 (λ_=>[]) 145 [.agg ⟨[.bool p,aa r,.bool l,aa f]⟩,aa t] w d)=(
 aM w ⟨[.bool p,aa r,.bool l,aa f]⟩ 130 λb a=>aj a none (ae b) jU λ(x:Bool×Int×Bool×Int×Unit)=>True/\(bR x.1 x.2.1 x.2.2.1 x.2.2.2.1=true->true=true)/\aj a (some (bR x.1 x.2.1 x.2.2.1 x.2.2.2.1)) (ad (ae b) 1) aT λ(c:Int)=>((bR x.1 x.2.1 x.2.2.1 x.2.2.2.1&&decide (c>0)&&decide (t>=0)&&decide (t<=7))=true->true=true)/\aj a (some (bR x.1 x.2.1 x.2.2.1 x.2.2.2.1&&decide (c>0)&&decide (t>=0)&&decide (t<=7))) (ad (ae b) 1) aT λ(g:Int)=> ∀(e:Int),e=gD .i64 t
 g->ao a (d (bR x.1 x.2.1 x.2.2.1 x.2.2.2.1&&decide (c>0)&&decide (t>=0)&&decide (t<=7)&&e==0))):=by kernel_rfl
theorem Qt (x y:Int) (w:A2) (b:Int->A2->Prop):(aJ D1 (λ_=>[]) 87 [aa x,aa y] w b)=(
 ((!(decide (x<0)||decide (x>=65536)))=true->True)/\ ∀(c:Int),c=gK y->aH (decide (x<0)||decide (x>=65536)||c==0) (ao w (b (-1))) (∀(a:Int),a=aG .u64 x-> ∀(x:Int),x=gq .i64 4 y->U (B a)=a/\ ∀(d:Int),d=U (fg (B a) x 4)-> ∀(x:Int),x=aG .i64 d->ao w (b x))):=by kernel_rfl
theorem KU (x y:Int) (w:A2) (a:Int->A2->Prop):(aJ D1 (λ_=>[]) 63 [aa x,aa y] w a)=(
 ((!(decide (x<0)||decide (x>65535)))=true->True)/\ ∀(c:Int),c=gK y->aH (decide (x<0)||decide (x>65535)||c==0) (ao w (a (-1))) (True/\ ∀(b:Int),b=gK y->b≠0/\ ∀(d:Int),d=wO .i64 x b-> ∀(x:Int),x=ff d 16->ao w (a x))):=by kernel_rfl
theorem Qu (p:Bool) (r:Int) (l:Bool) (f:Int) (w:A2) (c:Int×Int×Unit->A2->Prop):(aJ D1 (λ_=>[]) 243 [.agg ⟨[.bool p,aa r,.bool l,aa f]⟩] w c)=(
 aM w ⟨[.bool p,aa r,.bool l,aa f]⟩ 130 λb a=>aj a none (ae b) jU λ(x:Bool×Int×Bool×Int×Unit)=>True/\aH (!bR x.1 x.2.1 x.2.2.1 x.2.2.2.1) (ao a (c (0,11,()))) (true=true/\sU a (ad (ae b) 0) λx=>True/\ ∀(d:Int),d=U (bB x)->true=true/\aR a (ad (ae b) 1) λx=> ∀(e:Int),e=aG .u64 x->true=true/\sU a (ad (ae b) 2) λx=>True/\ ∀(g:Int),g=U (bB x)->true=true/\aR a (ad (ae b) 3) λx=> ∀(h:Int),h=aG .u64 x->aM a {toList:=[ax d,
 aa 1,ax e,aa 3,ax g,aa 1,ax 0,aa 7,ax h,aa 12]} 304 λb a=>az AI 248 (.el ou) [.slice (ae b) 5 5] a λ(x:Int) a=>ao a (c (x,0,())))):=by kernel_rfl
theorem Qv (v:Int) (w:A2) (e:(Bool×Int×Bool×Int×Unit)×Bool×Unit->A2->Prop):(bQ D1 (λ_=>[]) 59 [ax v] w e)=(
 aM w ⟨[.bool false,aa 0,.bool false,aa 0]⟩ 130 λb a=>aM a ⟨[aa 1,aa 3,aa 1,aa 7,aa 12,aa 40]⟩ 3 λi a=>az AI 93 (.el eJ) [ax v,.slice (ae i) 6 6] a λx a=>(x.1.isSome=true/\(0:Int)<=0/\0<(↑x.2.1:Int))/\cH a (ad x.1 0) λj=>(x.1.isSome=true/\(0:Int)<=1/\1<(↑x.2.1:Int))/\cH a (ad x.1 1) λk=> ∀(g:Int),g=aG .i64 k->(x.1.isSome=true/\(0:Int)<=2/\2<(↑x.2.1:Int))/\cH a (ad x.1 2) λl=>(x.1.isSome=true/\(0:
 Int)<=4/\4<(↑x.2.1:Int))/\cH a (ad x.1 4) λm=> ∀(h:Int),h=aG .i64 m->aM a ⟨[.bool false,aa 0,.bool false,aa 0]⟩ 130 λf a=>aA a (ae f) [.bool (j==1),aa g,.bool (l==1),aa h] λa=>(x.1.isSome=true/\(0:Int)<=3/\3<(↑x.2.1:Int))/\cH a (ad x.1 3) λc=>((!decide (c>0))=true->x.1.isSome=true/\(0:Int)<=5/\5<(↑x.2.1:Int))/\aj a (some !decide (c>0)) (ad x.1 5) ou λ(x:Int)=>aj a (some !(decide (c>0)||decide (x>0))) (ae f) jU λ(d
 :Bool×Int×Bool×Int×Unit)=>((!(decide (c>0)||decide (x>0)))=true->True)/\aH (decide (c>0)||decide (x>0)|| !bR d.1 d.2.1 d.2.2.1 d.2.2.2.1) (aA a (ae b) [.bool false,aa 0,.bool false,aa 0] λa=>ao a λw1=>aj w1 none (ae b) jU λ(x:Bool×Int×Bool×Int×Unit)=>e ((x.1,x.2.1,x.2.2.1,x.2.2.2.1,()),false,()) w1) (aj a none (ae f) jU λ(x:Bool×Int×Bool×Int×Unit)=>aA a (ae b) [.bool x.1,aa x.2.1,.bool x.2.2.1,aa x.2.2.2.1] λa=>ao a λw1=>
 aj w1 none (ae b) jU λ(x:Bool×Int×Bool×Int×Unit)=>e ((x.1,x.2.1,x.2.2.1,x.2.2.2.1,()),true,()) w1)):=by kernel_rfl
def fG (p:Bool) (r:Int) (l:Bool) (f:Int):Bool:=p&&r==0&&bR p r l f
def gE (p:Bool) (r:Int) (l:Bool) (f t:Int):Bool:=bR p r l f&&decide (r>0)&&decide (t>=0)&&decide (t<=7)&&gD .i64 t r==0
theorem Qw (p:Bool) (r:Int) (l:Bool) (f:Int) (w:A2):aD AI 96 (.el (.one .bool)) [.agg ⟨[.bool p,aa r,.bool l,aa f]⟩] w (λb w'=>b=fG p r l f/\Ext w w'):=by
 refine ai (C:=D1) (Aq (Qs p r l f w _) ?_);intro w1 h1;obtain⟨a,g1,e,g,c⟩:=Cg (bL.new w1 _ 130);exact⟨rfl,p,a,λ_=>rfl,r,λ_=>g1, _,λ_=>c,by simp,λh d=>⟨rfl,(h1.iU _).trans d⟩⟩
theorem yR {p:Bool} {r:Int} {l:Bool} {f:Int} (h:bR p r l f=true):0<=r/\r<=7/\0<=f/\f<4096/\(p=false->r=0/\l=false/\f=0):=by
 cases p
 ·grind[bR]
 ·simp[bR] at h
  grind
theorem KW (p:Bool) (r:Int) (l:Bool) (f t:Int) (w:A2):aD AI 145 (.el (.one .bool)) [.agg ⟨[.bool p,aa r,.bool l,aa f]⟩,aa t] w (λb w'=>b=gE p r l f t/\Ext w w'):=by
 refine ai (Aq (KT p r l f t w _) ?_);intro w1 h1;obtain⟨e,g1,g,h,a⟩:=Cg (bL.new w1 _ 130);exact⟨_,a,trivial,λ_=>rfl,r,λ_=>g1,λ_=>rfl,r,λ_=>g1,λx c i d=>⟨by rw[c];rfl,(h1.iU _).trans d⟩⟩
def fj (x y:Int):Int:=if 0<=x/\x<65536/\0<=y/\y<=3 then x / gK y % 16 else -1
theorem AY {y:Int}:(gK y==0)= !(decide (0<=y)&&decide (y<=3)):=by
 grind[gK]
theorem AZ {x y:Int} (h: ¬ (0<=x/\x<65536/\0<=y/\y<=3)):fj x y= -1:=au h
theorem A0 {x:Int} (h: -9223372036854775808<=x) (h':x<9223372036854775808):aG .i64 x=x:=gg h h'
theorem A1 {x:Int} (h:0<=x) (h':x<18446744073709551616):aG .u64 x=x:=by
 show PP.wrap x=x;rw[wrap_u64];omega
theorem p_ {a b c:Int} (m:Nat) (h:0<=a/\a<65536) (d:2 ^ b.toNat=m) (e:dV b 4=true) (f:c=U (fg (B a) b 4)):c=a / (m:Int) % 16:=by
 have g:(B a).toNat=a:=BS (by omega) (by omega);rw[f,Du (nI m 16 e d (by grind)),Int.natCast_emod,Int.natCast_ediv,g];rfl
theorem E6 {a y b c:Int} (d:0<=a/\a<65536) (g:0<=y/\y<=3) (eb:b=4*y) (f:c=U (fg (B a) b 4)):c=fj a y/\0<=c/\c<16:=by
 have e:c=fj a y:=by
  unfold fj;rw[ay (by omega)];have:y=0\/y=1\/y=2\/y=3:=by omega
  rcases this with rfl|rfl|rfl|rfl
  ·exact p_ 1 d (by grind) (by subst eb;decide) f
  ·exact p_ 16 d (by grind) (by subst eb;decide) f
  ·exact p_ 256 d (by grind) (by subst eb;decide) f
  ·exact p_ 4096 d (by grind) (by subst eb;decide) f
 rw[e];unfold fj;omega
theorem Qx (x y:Int) (w:A2):aD AI 87 (.el (.one (.int .i64))) [aa x,aa y] w (λb w'=>b=fj x y/\Ext w w'):=by
 refine ai (C:=D1) (Aq (Qt x y w _) ?_);refine⟨λ_=>trivial,λs es=>?_⟩;subst es;rw[AY];refine ab (λh w1 h1=>⟨?_,h1⟩) (λh a e b eb=>?_)
 ·simp only[FU,decide_eq_true_eq,LL,Ih,decide_eq_false_iff_not] at h;rw[AZ (by omega)]
 ·simp only[Fg,decide_eq_false_iff_not,S0,If,decide_eq_true_eq] at h;rw[A1 (by omega) (by omega)] at e;rw[d_ (by omega) (by omega)] at eb;subst e;refine⟨BS (by omega) (by omega),λc f d g w1 h1=>⟨?_,h1⟩⟩;obtain⟨i,j,k⟩:=E6 (y:=y) (by omega) (by omega) eb f;rw[g,A0 (by omega) (by omega),i]
theorem KX (x y:Int) (w:A2):aD AI 63 (.el (.one (.int .i64))) [aa x,aa y] w (λb w'=>b=fj x y/\Ext w w'):=by
 refine ai (C:=D1) (Aq (KU x y w _) ?_);refine⟨λ_=>trivial,λs es=>?_⟩;subst es;rw[AY];refine ab (λh w1 h1=>⟨?_,h1⟩) (λh=>⟨trivial,λs es=>?_⟩)
 ·simp only[FU,decide_eq_true_eq,LL,Ih,decide_eq_false_iff_not] at h;rw[AZ (by omega)]
 ·simp only[Fg,decide_eq_false_iff_not,S0,If,decide_eq_true_eq] at h;have e:y=0\/y=1\/y=2\/y=3:=by omega
  have j:1<=s:=by rcases e with rfl|rfl|rfl|rfl<;>(rw[es];decide)
  refine⟨by omega,λc a d f w1 h1=>⟨?_,h1⟩⟩;have g:wO .i64 x s=x / s:=by
   unfold wO;rw[Int.tdiv_eq_ediv_of_nonneg (by omega)];have h1:0<=x / s:=PS (by omega) (by omega);have k:x / s<=x:=Int.ediv_le_self _ (by omega);exact gg (by omega) (by omega)
  have h1:0<=x / s:=PS (by omega) (by omega);rw[g] at a;have i:ff c 16=c % 16:=Int.tmod_eq_emod_of_nonneg (by omega);rw[f,i,a,es];unfold fj
  grind
def vx (p:Bool) (r:Int) (l:Bool) (f:Int):Int:=(nB p:Int)+2*r+16*(nB l:Int)+4096*f
def FA (p:Bool) (r:Int) (l:Bool) (f:Int):Int:=if bR p r l f=true then vx p r l f else 0
def pkE (p:Bool) (r:Int) (l:Bool) (f:Int):Int:=if bR p r l f=true then 0 else 11
theorem Iv {x:Int} (h:0<=x) (h':x<18446744073709551616):(B x).toNat=x.toNat:=by
 have:((B x).toNat:Int)=x:=BS h h';omega
theorem G8 {p:Bool} {r:Int} {l:Bool} {f:Int} (h:bR p r l f=true):U (qF 0#64 0 [(bB p,1),(B r,3),(bB l,1),(0#64,7),(B f,12)])=vx p r l f:=by
 have b:=yR h;rw[Du (KS (Iv (by omega) (by omega)) (by omega) (Iv (by omega) (by omega)) (by omega))];unfold vx;omega
theorem Qy (p:Bool) (r:Int) (l:Bool) (f:Int) (w:A2):aD AI 243 (.bu [eU,eI]) [.agg ⟨[.bool p,aa r,.bool l,aa f]⟩] w (λx w'=>x=(FA p r l f,pkE p r l f,())/\Ext w w'):=by
 refine ai (C:=D1) (aQ:=λ_=>[]) (Aq (Qu p r l f w _) ?_);intro w1 h1;obtain⟨m,g1,o,q,s⟩:=Cg (bL.new w1 [.bool p,aa r,.bool l,aa f] 130);refine⟨_,s,trivial,ab (λh a d=>⟨?_,(h1.iU _).trans d⟩) (λh=>⟨rfl,p,m,trivial,λx1 t=>⟨rfl,r,g1,λe i=>⟨rfl,l,o,trivial,λF u=>⟨rfl,f,q,λg j a d v k=>?_⟩⟩⟩⟩)⟩
 ·have h':bR p r l f=false:=by simpa using h
  unfold FA pkE;rw[h'];rfl
 ·have h':bR p r l f=true:=by simpa using h
  have b:=yR h';rw[A1 (by omega) (by omega)] at i j;subst t;subst i;subst u;subst j;have y:U (B e)=e:=BS (by omega) (by omega);have z:U (B g)=g:=BS (by omega) (by omega);have sl:Sl v eP (ae a.heap.size) (N_ [(bB p,1),(B e,3),(bB l,1),(0#64,7),(B g,12)]):=Sl.jA ((bL.new a _ _).ext k) (by
   simp only[N_,DB,List.map_nil,y,z];rfl)
  refine(Uv (n:=5) (c:=5) sl rfl (by decide)).mono ?_;rintro x G ⟨A,D⟩ H E;refine⟨?_,((((h1.iU _).trans d).iU _).trans k).trans (D.trans E)⟩;rw[A,G8 h'];unfold FA pkE;rw[ay h',ay h']
theorem Gb {w:A2} {b:Nat} {l:List Ag} (h:bL w b l) (vs:List Ag) (a:vs.length=l.length):bL (js w (ae b) vs) b vs:=by
 have:=h.put (o:=0) vs (by omega);rw[DH,a,Hr,Hb,Ou,List.nil_append] at this;exact this
def ux (n:Nat):Bool:=decide (n / 32 % 128=0)&&decide (n / 16777216 % 1099511627776=0)&&bR (n % 2==1) ((n / 2 % 8:Nat):Int) (n / 16 % 2==1) ((n / 4096 % 4096:Nat):Int)
def Ib (n:Nat):Bool:=ux n&&n % 2==1
def FB (n:Nat):Int:=if ux n=true then((n / 2 % 8:Nat):Int) else 0
def JZ (n:Nat):Bool:=ux n&&n / 16 % 2==1
def Fk (n:Nat):Int:=if ux n=true then((n / 4096 % 4096:Nat):Int) else 0
theorem Zr {w0 w:A2} {e:El} {s:Option AC×Nat×Nat} {xs:List e.T} (h:lM w0 w e s xs) {a:AC} (d:s.1=some a):a.block<w.heap.size:=by
 obtain⟨_, _,c⟩:=h;rcases c with ⟨c, _⟩|⟨b,l,c, _,f, _⟩
 ·rw[c] at d;cases d
 ·rw[c] at d;cases d;exact f.lt
theorem IX (n:Nat):(((n:Nat):Int)==1)=(n==1):=by
 rw[Ik,beq_iff_eq,beq_iff_eq];omega
theorem IY (n:Nat):decide (((n:Nat):Int)>0)= !decide (n=0):=by
 rw[Ik,decide_eq_true_eq,LL,decide_eq_false_iff_not];omega
theorem Qz (v:BitVec 64) (w:A2):aD AI 59 (.bu [.agg [.bool,.int .i64,.bool,.int .i64],.one .bool]) [ax (U v)] w
 (λx w'=>x=((Ib v.toNat,FB v.toNat,JZ v.toNat,Fk v.toNat,()),ux v.toNat,())/\Ext w w'):=by
 refine aP (C:=D1) (aQ:=λ_=>[]) (Aq (Qv (U v) w _) ?_);intro w1 h1 l u r m;have db:bL l w1.heap.size [B5 false,aa 0,B5 false,aa 0]:=(bL.new w1 _ _).ext u;have H:Ext w l:=(h1.iU _).trans u;have y:Ext w r:=(H.iU _).trans m;have sl:Sl r eI (ae l.heap.size) [1,3,1,7,12,40]:=Sl.jA ((bL.new l _ _).ext m) rfl;refine(P7 (v:=v) (c:=6) sl rfl (by decide)).mono ?_;rintro⟨p,n,c⟩ X ⟨e,o⟩;rw[G7] at e;have ln:n=6:=by have:=e.len;simpa[BT] using this
 subst ln
 let N:=v.toNat
 have I:U (fg v 0 1)=((N % 2:Nat):Int):=by rw[Du (nI 1 2 (by decide) rfl rfl),Nat.div_one]
 have J:U (fg v 1 3)=((N / 2 % 8:Nat):Int):=Du (nI 2 8 (by decide) rfl rfl);have K:U (fg v 4 1)=((N / 16 % 2:Nat):Int):=Du (nI 16 2 (by decide) rfl rfl);have L:U (fg v 5 7)=((N / 32 % 128:Nat):Int):=Du (nI 32 128 (by decide) rfl rfl);have M:U (fg v 12 12)=((N / 4096 % 4096:Nat):Int):=Du (nI 4096 4096 (by decide) (by decide) (by decide));have O:U (fg v 24 40)=((N / 16777216 % 1099511627776:Nat):Int):=Du (nI 16777216 1099511627776 (by decide) (by decide) (by decide));have P:BT ((some [fg v 0 1,fg v 1 3,fg v 4 1,fg v 5 7,fg v 12 12,fg v 24 40]).getD [])=[((N % 2:Nat):Int),((N / 2 % 8:Nat):Int),((N / 16 % 2:Nat):Int),((N / 32 % 128:Nat):Int),((N / 4096 % 4096:Nat):Int),((N / 16777216 % 1099511627776:Nat):Int)]:=by
  show[U (fg v 0 1),U (fg v 1 3),U (fg v 4 1),U (fg v 5 7),U (fg v 12 12),U (fg v 24 40)]= _;rw[I,J,K,L,M,O]
 rw[P] at e;have Q:p.isSome=true:=(e.sl 0 _ rfl).1;have ix: ∀i:Int,0<=i->i<6->p.isSome=true/\0<=i/\i<((6:Nat):Int):=λi a b=>⟨Q,a,b⟩;refine⟨ix 0 (by decide) (by decide), _,(e.sl 0 _ rfl).2,ix 1 (by decide) (by decide), _,(e.sl 1 _ rfl).2,λY z=>⟨ix 2 (by decide) (by decide), _,(e.sl 2 _ rfl).2,ix 4 (by decide) (by decide), _,(e.sl 4 _ rfl).2,λZ A d f g q=>?_⟩⟩;rw[A0 (by omega) (by omega)] at z A;rw[IX,IX];subst z;subst A;have bt:bL g d.heap.size [B5 false,aa 0,B5 false,aa 0]:=(bL.new d _ _).ext q;refine⟨⟨rfl,bt.st (by simp)⟩,?_⟩;have bp:=Gb bt [B5 (N % 2==1),aa ((N / 2 % 8:Nat):Int),B5 (N / 16 % 2==1),aa ((N / 4096 % 4096:Nat):Int)] rfl;have B:lM r (js g (ae d.heap.size) [B5 (N % 2==1),aa ((N / 2 % 8:Nat):Int),B5 (N / 16 % 2==1),aa ((N / 4096 % 4096:Nat):Int)]) eU (p,6,c) _:=
  ((e.ext f).ext ((Ext.alloc _ _).trans q)).same λa R=>mP _ _ ⟨d.heap.size,0,none⟩ 0 _ (by
    have:=Zr e R;have:=f.size;show a.block≠d.heap.size;omega)
 have S:Ext w g:=(((y.trans o).trans f).iU _).trans q;have D:Ext w (js g (ae d.heap.size) [B5 (N % 2==1),aa ((N / 2 % 8:Nat):Int),B5 (N / 16 % 2==1),aa ((N / 4096 % 4096:Nat):Int)]):=S.js (a:=⟨d.heap.size,0,none⟩) (((y.trans o).trans f).size) _;have E:cC (js g (ae d.heap.size) [B5 (N % 2==1),aa ((N / 2 % 8:Nat):Int),B5 (N / 16 % 2==1),aa ((N / 4096 % 4096:Nat):Int)]) (ae d.heap.size) (.agg [.bool,.int .i64,.bool,.int .i64]) (N % 2==1,((N / 2 % 8:Nat):Int),N / 16 % 2==1,((N / 4096 % 4096:Nat):Int),()):=
  bp.rdA λi _=>by rw[DH];rfl
 have lt1:=db.lt;have T:w1.heap.size≠d.heap.size:=by
  have a1:=m.size;have a2:=o.size;have a3:=f.size;rw[lB] at a1;omega
 have F:bL (js g (ae d.heap.size) [B5 (N % 2==1),aa ((N / 2 % 8:Nat):Int),B5 (N / 16 % 2==1),aa ((N / 4096 % 4096:Nat):Int)]) w1.heap.size [B5 false,aa 0,B5 false,aa 0]:=
  ((((((db.ext (Ext.alloc _ _)).ext m).ext o).ext f).ext (Ext.alloc _ _)).ext q).Xf (a:=⟨d.heap.size,0,none⟩) T _
 refine⟨ix 3 (by decide) (by decide), _,(B.sl 3 _ rfl).2,λ_=>ix 5 (by decide) (by decide), _,λ_=>(B.sl 5 _ rfl).2, _,λ_=>E,λ_=>trivial,?_⟩;rw[IY,IY];have G:ux N= !(!decide (N / 32 % 128=0)|| !decide (N / 16777216 % 1099511627776=0)|| !bR (N % 2==1) ((N / 2 % 8:Nat):Int) (N / 16 % 2==1) ((N / 4096 % 4096:Nat):Int)):=by
  unfold ux;cases decide (N / 32 % 128=0)<;>cases decide (N / 16777216 % 1099511627776=0)<;>cases bR (N % 2==1) ((N / 2 % 8:Nat):Int) (N / 16 % 2==1) ((N / 4096 % 4096:Nat):Int)<;>rfl
 refine ab (λhb V h=>?_) (λhb=>⟨_,E,λV h=>?_⟩)
 ·have s:ux N=false:=by rw[G,hb];rfl
  have j:=F.ext h;refine⟨⟨rfl,j.st (by simp)⟩,λW k=>⟨(false,0,false,0,()),?_,?_,?_⟩⟩
  ·have t:=(Gb j [B5 false,aa 0,B5 false,aa 0] rfl).ext k;exact t.rdA λi _=>by rw[DH];rfl
  ·show _=((Ib N,FB N,JZ N,Fk N,()),ux N,());unfold Ib FB JZ Fk;rw[s];rfl
  ·exact((D.trans h).js (a:=⟨w1.heap.size,0,none⟩) h1.size _).trans k
 ·have s:ux N=true:=by rw[G,hb];rfl
  have j:=F.ext h;refine⟨⟨rfl,j.st (by simp)⟩,λW k=>⟨(N % 2==1,((N / 2 % 8:Nat):Int),N / 16 % 2==1,((N / 4096 % 4096:Nat):Int),()),?_,?_,?_⟩⟩
  ·have t:=(Gb j [B5 (N % 2==1),aa ((N / 2 % 8:Nat):Int),B5 (N / 16 % 2==1),aa ((N / 4096 % 4096:Nat):Int)] rfl).ext k;exact t.rdA λi _=>by rw[DH];rfl
  ·show _=((Ib N,FB N,JZ N,Fk N,()),ux N,());unfold Ib FB JZ Fk;rw[s,ay rfl,ay rfl,H5,H5]
  ·exact((D.trans h).js (a:=⟨w1.heap.size,0,none⟩) h1.size _).trans k
noncomputable def O6:Entry AI where
 f:=96
 fn l:=match l with
  |[.agg ⟨[.bool p,.int .i64 r,.bool l,.int .i64 f]⟩]=>some (True,.bool (fG p r l f))
  | _=>none
 ok args pre v h a w:=by
  split at h
  ·rename_i p r l f;cases h;exact bU (Qw p r l f w)
  ·cases h
noncomputable def IZ:Entry AI where
 f:=145
 fn l:=match l with
  |[.agg ⟨[.bool p,.int .i64 r,.bool l,.int .i64 f]⟩,.int .i64 t]=>some (True,.bool (gE p r l f t))
  | _=>none
 ok args pre v h a w:=by
  split at h
  ·rename_i p r l f t;cases h;exact bU (KW p r l f t w)
  ·cases h
noncomputable def O7:Entry AI where
 f:=87
 fn l:=match l with
  |[.int .i64 x,.int .i64 y]=>some (True,.int .i64 (fj x y))
  | _=>none
 ok args pre v h a w:=by
  split at h
  ·rename_i x y;cases h;exact bU (Qx x y w)
  ·cases h
noncomputable def I0:Entry AI where
 f:=63
 fn l:=match l with
  |[.int .i64 x,.int .i64 y]=>some (True,.int .i64 (fj x y))
  | _=>none
 ok args pre v h a w:=by
  split at h
  ·rename_i x y;cases h;exact bU (KX x y w)
  ·cases h
noncomputable def Xh:Entry AI where
 f:=243
 fn l:=match l with
  |[.agg ⟨[.bool p,.int .i64 r,.bool l,.int .i64 f]⟩]=>some (True,.tuple ⟨[.int .u64 (FA p r l f),.int .i64 (pkE p r l f)]⟩)
  | _=>none
 ok args pre v h a w:=by
  split at h
  ·rename_i p r l f;cases h;exact bU (Qy p r l f w)
  ·cases h
noncomputable def O8:Entry AI where
 f:=59
 fn l:=match l with
  |[.int .u64 v]=>some (U (B v)=v,.tuple ⟨[.agg ⟨[.bool (Ib (B v).toNat),.int .i64 (FB (B v).toNat),.bool (JZ (B v).toNat),.int .i64 (Fk (B v).toNat)]⟩,.bool (ux (B v).toNat)]⟩)
  | _=>none
 ok args pre v h a w:=by
  split at h
  ·rename_i v;cases h;have:=bU (Qz (B v) w);rw[a] at this;exact this
  ·cases h
noncomputable def D2:dD AI:={D0 with si:=[tc,vt,FK,FL,Oz,uU,OA,F',O6,IZ,O7,I0,Xh,O8]}
theorem OB (z x y:Int) (w:A2) (a:Int->A2->Prop):(aJ D2 (λ_=>[]) 55 [aa z,aa x,aa y] w a)=(
 True/\ ∀(b:Int),b=fj x y->aH (decide (b<0)||decide (z<0)||decide (z>=4096)) (ao w (a (-1))) (∀(x:Int),x=gq .i64 16 z-> ∀(c:Int),c=aI .i64 x b->ao w (a c))):=by kernel_rfl
theorem Zt (z x y:Int) (w:A2) (a:Int->A2->Prop):(aJ D2 (λ_=>[]) 27 [aa z,aa x,aa y] w a)=(
 True/\ ∀(b:Int),b=fj x y->aH (decide (b<0)||decide (z<0)||decide (z>4095)) (ao w (a (-1))) (∀(x:Int),x=gq .i64 16 z-> ∀(c:Int),c=aI .i64 x b->ao w (a c))):=by kernel_rfl
def dX (z x y:Int):Int:=if fj x y<0\/z<0\/z>=4096 then -1 else 16*z+fj x y
theorem D9 (x y:Int): -1<=fj x y/\fj x y<16:=by
 unfold fj;split
 ·have h1:=Int.emod_nonneg (x / gK y) (show(16:Int)≠0 by decide);have a:=Int.emod_lt_of_pos (x / gK y) (show(0:Int)<16 by decide);omega
 ·omega
theorem DM (z x y:Int) (w:A2):aD AI 55 (.el (.one (.int .i64))) [aa z,aa x,aa y] w (λb w'=>b=dX z x y/\Ext w w'):=by
 refine ai (C:=D2) (aQ:=λ_=>[]) (Aq (OB z x y w _) ⟨trivial,λs es=>?_⟩);have hb:=D9 x y;subst es;refine ab (λh w1 h1=>⟨?_,h1⟩) (λh a c b eb w1 h1=>⟨?_,h1⟩)
 ·simp only[FU,decide_eq_true_eq] at h;unfold dX;rw[ay (by omega)]
 ·simp only[Fg,decide_eq_false_iff_not] at h;rw[d_ (by omega) (by omega)] at c;rw[aw (by omega) (by omega)] at eb;unfold dX;rw[au (by omega),eb,c]
theorem Zu (z x y:Int) (w:A2):aD AI 27 (.el (.one (.int .i64))) [aa z,aa x,aa y] w (λb w'=>b=dX z x y/\Ext w w'):=by
 refine ai (C:=D2) (aQ:=λ_=>[]) (Aq (Zt z x y w _) ⟨trivial,λs es=>?_⟩);have hb:=D9 x y;subst es;refine ab (λh w1 h1=>⟨?_,h1⟩) (λh a c b eb w1 h1=>⟨?_,h1⟩)
 ·simp only[FU,decide_eq_true_eq] at h;unfold dX;rw[ay (by omega)]
 ·simp only[Fg,decide_eq_false_iff_not] at h;rw[d_ (by omega) (by omega)] at c;rw[aw (by omega) (by omega)] at eb;unfold dX;rw[au (by omega),eb,c]
noncomputable def eAt:Entry AI where
 f:=55
 fn l:=match l with
  |[.int .i64 z,.int .i64 x,.int .i64 y]=>some (True,.int .i64 (dX z x y))
  | _=>none
 ok args pre v h a w:=by
  split at h
  ·rename_i z x y;cases h;exact bU (DM z x y w)
  ·cases h
noncomputable def ab6:Entry AI where
 f:=27
 fn l:=match l with
  |[.int .i64 z,.int .i64 x,.int .i64 y]=>some (True,.int .i64 (dX z x y))
  | _=>none
 ok args pre v h a w:=by
  split at h
  ·rename_i z x y;cases h;exact bU (Zu z x y w)
  ·cases h
noncomputable def D3:dD AI:={D0 with si:=[tc,vt,FK,FL,Oz,uU,OA,F',O6,IZ,O7,I0,Xh,O8,eAt,ab6]}
noncomputable def M0:dD AI:={D3 with vr:=false,quiet:=[117,118]}
theorem UP (p:Option AC) (w:A2) (a:Int->A2->Prop):(aJ M0 (λ_=>[]) 117 [ag p] w a)=(
 aH p.isNone (ao w (a 0)) (p.isSome=true/\p.isSome=true/\(ad p 0).isSome=true/\sT w (ad (ad p 0) 0) λx=>ao w (a (↑x.2.1:Int)))):=by kernel_rfl
theorem Zv (p:Option AC) (n c:Nat) (i:Int) (w:A2) (d:Option AC->A2->Prop):(aJ M0 (λ_=>[]) 118 [.agg ⟨[.slice p n c]⟩,aa i] w d)=(
 aM w ⟨[.slice p n c]⟩ 157 λb a=>((!decide (i<0))=true->true=true)/\aj a (some !decide (i<0)) (ad (ae b) 0) eJ λx=>aH (decide (i<0)||decide (i>=(↑x.2.1:Int))) (ao a (d none)) (true=true/\sT a (ad (ae b) 0) λx=>(x.1.isSome=true/\0<=i/\i<(↑x.2.1:Int))/\ao a (d (ad x.1 (i.toNat*1))))):=by kernel_rfl
theorem QA (p:Option AC) (i:Int) (w:A2) (a:Option AC×Int×Unit->A2->Prop):(aJ M0 (λ_=>[]) 71 [ag p,aa i] w a)=(
 ∃(x:Int),af AI 117 [ag p] w (aa x)/\aH (x==0) (ao w (a (none,10,()))) (p.isSome=true/\p.isSome=true/\aj w none (ad p 0) (.agg [.slice]) λx=> ∃(b:Option AC),af AI 118 [.agg ⟨[.slice x.1.1 x.1.2.1 x.1.2.2]⟩,aa i] w (ag b)/\aH b.isNone (ao w (a (none,2,()))) (cL p 1 w λx=>p.isSome=true/\p.isSome=true/\aA w (ad p 1) [aa (aI .i64 x 1)] λc=>ao c (a (b,0,()))))):=by kernel_rfl
theorem D_ (p:Option AC) (i:Int) (w:A2) (a:Int×Int×Unit->A2->Prop):(aJ M0 (λ_=>[]) 37 [ag p,aa i] w a)=(
 az AI 71 (.bu [.one .ptr,.one (.int .i64)]) [ag p,aa i] w λ(x:Option AC×Int×Unit) b=>aH (x.2.1 != 0) (ao b (a (0,x.2.1,()))) (x.1.isSome=true/\cH b x.1 λx=>ao b (a (x,0,())))):=by kernel_rfl
theorem KY (p:Option AC) (i v:Int) (w:A2) (b:Int->A2->Prop):(aJ M0 (λ_=>[]) 38 [ag p,aa i,ax v] w b)=(
 az AI 71 (.bu [.one .ptr,.one (.int .i64)]) [ag p,aa i] w λ(x:Option AC×Int×Unit) a=>aH (x.2.1==0) (x.1.isSome=true/\aA a x.1 [ax v] λa=>cL p 2 a λc=>p.isSome=true/\p.isSome=true/\aA a (ad p 2) [aa (aI .i64 c 1)] λa=>ao a (b x.2.1)) (ao a (b x.2.1))):=by kernel_rfl
theorem UQ (n:Int) (w:A2) (a:Option AC×Int×Unit->A2->Prop):(aJ M0 (λ_=>[]) 33 [aa n] w a)=(
 aH (decide (n<1)||decide (n>65536)) (ao w (a (none,1,()))) (NJ w 8 1 n n ⟨[ax 0]⟩ 29 λb c=>aM c {toList:=[.slice (ae b) n.toNat n.toNat,aa 0,aa 0]} 159 λb c=>ao c (a (some ⟨b,0,none⟩,0,())))):=by kernel_rfl
abbrev eW:El:= .one (.int .u64)
abbrev lU (bw n c:Nat) (ca la:Int):List Ag:=[.slice (ae bw) n c,aa ca,aa la]
def sq (ws:List Int) (i:Int):Bool:=decide (0<=i)&&decide (i<ws.length)
def dE (ws:List Int) (i:Int):Int:=if sq ws i then ws.getD i.toNat 0 else 0
def wH (ws:List Int) (i:Int):Int:=if sq ws i then 0 else 2
def wI (ws:List Int) (i x:Int):Int:=if sq ws i then aI .i64 x 1 else x
def dJ (ws:List Int) (i v:Int):List Int:=if sq ws i then ws.set i.toNat v else ws
theorem iX {ws:List Int} {i:Int}:sq ws i=true<->0<=i/\i<ws.length:=by unfold sq;simp
theorem cA (ws:List Int) (i v:Int):(dJ ws i v).length=ws.length:=by unfold dJ;split<;>simp
theorem Iw: ∀ws:List Int,flat eW ws=ws.map (FQ .u64)
 |[]=>rfl
 |a::l=>by
  show[ax a]++flat eW l= _;rw[Iw l];rfl
section
variable {D G:List Nat} {w0 w:A2} {L:List (Nat×List Ag)} {bm bw n c:Nat} {ca la:Int} {ws:List Int} {rest:List Ag}
theorem aap {i:Nat} (hi:i<ws.length):kr (flat eW ws++rest) (0+i*1) eW=some (ws.getD i 0):=by
 have:(flat eW ws++rest)[0+i*1]? =some (ax (ws.getD i 0)):=by
  have a:(flat eW ws).length=ws.length*1:=aF eW ws;rw[DH,IR,HB (by omega)];have e:=Iw ws;rw[e,GH,CW hi,JS,CW hi];rfl
 show(match (flat eW ws++rest)[0+i*1]? with|some v=>(Sc.int .u64).proj v|none=>none)= _;rw[this];rfl
theorem I3 (h:bL w bm (lU bw n c ca la)):aD AI 117 (.el (.one (.int .i64))) [ag (ae bm)] w (λx w'=>x=(n:Int)/\Ext w w'):=by
 refine ai (C:=M0) (aQ:=λ_=>[]) (Aq (UP _ w _) ?_);refine an rfl ⟨rfl,rfl,rfl,aj.of (some ⟨bw,0,none⟩,n,c) (by rw[aV,aV];exact h.om rfl) λw1 h1=>⟨rfl,h1⟩⟩
theorem Zw (p:Option AC) (a:n≠0->p.isSome=true) (i:Int) (w:A2):aD AI 118 (.el (.one .ptr)) [.agg ⟨[.slice p n c]⟩,aa i] w (λx w'=>x=(if 0<=i/\i<n then ad p i.toNat else none)/\Ext w w'):=by
 refine ai (C:=M0) (aQ:=λ_=>[]) (Aq (Zv p n c i w _) ?_);have H:=At.start [] w;refine aM.go H λb e H=>⟨λ_=>rfl,aj.cq 0 H rfl rfl (ab (λc1=>ao.go H λd H=>⟨?_,H.all⟩) (λc1=>⟨rfl,aj.cq 0 H rfl rfl ?_⟩))⟩
 ·have: ¬ (0<=i/\i<n):=by simp at c1;omega
  rw[au this]
 ·have hi:0<=i/\i<n:=by simp at c1;omega
  refine⟨⟨a (by omega),by omega,by show i<((n:Nat):Int);omega⟩,ao.go H λd H=>⟨?_,H.all⟩⟩;rw[ay hi,IR]
theorem yS (H:aK D G w0 w L) (j:Nat) (b:L[j]? =some (bm,lU bw n c ca la)) (e:n=ws.length) (h0:0<n) (i:Int) {K:Option AC×Int×Unit->A2->Prop}
 (f:sq ws i=true-> ∀a,aK D G w0 a (L.set j (bm,lU bw n c (aI .i64 ca 1) la))->K (ad (ae bw) i.toNat,0,()) a) (g:sq ws i=false-> ∀a,aK D G w0 a L->K (none,2,()) a):
 az AI 71 (.bu [.one .ptr,.one (.int .i64)]) [ag (ae bm),aa i] w K:=by
 refine az.go H λw1 H=>ai (C:=M0) (aQ:=λ_=>[]) (Aq (QA _ i w1 K) ?_);refine⟨_,af.of (s:= .el (.one (.int .i64))) λw' h'=>I3 ((H.get b).ext h'),an (by simp;omega) ⟨rfl,rfl,aj.cq j H b rfl ⟨_,af.of (s:= .el (.one .ptr)) λw' h'=>Zw (ae bw) (λ_=>rfl) i w',?_⟩⟩⟩;subst e;cases hi:sq ws i with
 |true=>
  have d:=iX.1 hi;rw[ay d];refine an rfl ⟨rfl,rfl,aj.cq j H b rfl ⟨rfl,rfl,aA.gx j H b rfl rfl λa H=>ao.go H λk H=>f hi k H⟩⟩
 |false=>
  have d: ¬ (0<=i/\i<(ws.length:Int)):=λh=>by rw[iX.2 h] at hi;cases hi
  rw[au d];exact aB rfl (ao.go H λa H=>g hi a H)
theorem Ea (H:aK D G w0 w L) (j a:Nat) (d:L[j]? =some (bm,lU bw n c ca la)) (g:L[a]? =some (bw,flat eW ws++rest)) (h:j≠a) (l:n=ws.length) (h0:0<n) (i:Int) {K:Int×Int×Unit->A2->Prop}
 (k: ∀b,aK D G w0 b (L.set j (bm,lU bw n c (wI ws i ca) la))->K (dE ws i,wH ws i,()) b):
 az AI 37 (.bu [.one (.int .u64),.one (.int .i64)]) [ag (ae bm),aa i] w K:=by
 refine az.go H λw1 H=>ai (C:=M0) (aQ:=λ_=>[]) (Aq (D_ _ i w1 K) ?_);refine yS H j d l h0 i (λhi b H=>?_) (λhi b H=>?_)
 ·unfold wI dE wH at k;rw[hi,ay rfl,ay rfl,ay rfl] at k;have o:(L.set j (bm,lU bw n c (aI .i64 ca 1) la))[a]? =some (bw,flat eW ws++rest):=by rw[E5 h];exact g
  have p:=iX.1 hi;refine an rfl ⟨rfl,?_⟩;rw[aV];have e:=aap (ws:=ws) (rest:=rest) (i:=i.toNat) (by omega);rw[IR] at e;exact aj.at a H o e (ao.go H λf H=>k f H)
 ·unfold wI dE wH at k;rw[hi,au (by decide),au (by decide),au (by decide)] at k;refine aB rfl (ao.go H λf H=>k f ?_);rw[show L.set j (bm,lU bw n c ca la)=L from Ft λm=>by
   by_cases e:j=m
   ·subst e;rw[G1 (DA.1 d).1,d]
   ·rw[E5 e]]
  exact H
theorem aa7 {i:Nat} (hi:i<ws.length) (v:Int):(flat eW ws++rest).set i (ax v)=flat eW (ws.set i v)++rest:=by
 have h:=yO eW ws i v rest hi;have a:(cellsOf eW v)=[ax v]:=rfl;have b:aE eW=1:=rfl;rw[a,b,IR] at h;rw[<-h];have c:(flat eW ws).length=ws.length*1:=aF eW ws;rw[N6,ay (by rw[DQ];omega)];rfl
theorem KZ (H:aK D G w0 w L) (j a:Nat) (f:L[j]? =some (bm,lU bw n c ca la)) (g:L[a]? =some (bw,flat eW ws++rest)) (b:j≠a) (p:n=ws.length) (h0:0<n) (i v:Int) {K:Int->A2->Prop}
 (k: ∀d,aK D G w0 d ((L.set j (bm,lU bw n c (wI ws i ca) (wI ws i la))).set a (bw,flat eW (dJ ws i v)++rest))->K (wH ws i) d):
 az AI 38 (.el (.one (.int .i64))) [ag (ae bm),aa i,ax v] w K:=by
 refine az.go H λw1 H=>ai (C:=M0) (aQ:=λ_=>[]) (Aq (KY _ i v w1 K) ?_);have r:j<L.length:=(DA.1 f).1;have y:a<L.length:=(DA.1 g).1;refine yS H j f p h0 i (λhi d H=>?_) (λhi d H=>?_)
 ·unfold wI dJ wH at k;rw[hi,ay rfl,ay rfl,ay rfl,ay rfl] at k;have s:(L.set j (bm,lU bw n c (aI .i64 ca 1) la))[a]? =some (bw,flat eW ws++rest):=by rw[E5 b];exact g
  have z:=iX.1 hi;have t:i.toNat<ws.length:=by omega
  have A:(flat eW ws).length=ws.length*1:=aF eW ws;refine aB rfl ⟨rfl,aA.gx a H s rfl (by rw[Nat.blt_eq,DQ];omega) λl H=>?_⟩;rw[DH,aa7 t] at H;have o:((L.set j (bm,lU bw n c (aI .i64 ca 1) la)).set a (bw,flat eW (ws.set i.toNat v)++rest))[j]? =some (bm,lU bw n c (aI .i64 ca 1) la):=by
   rw[E5 (λe=>b e.symm),G1 r]
  refine⟨rfl,rfl,aj.cq j H o rfl ⟨rfl,rfl,aA.gx j H o rfl rfl λB H=>ao.go H λu H=>k u ?_⟩⟩;rw[List.set_comm _ _ b,List.set_set] at H;rw[List.set_comm _ _ b];exact H
 ·unfold wI dJ wH at k;rw[hi,au (by decide),au (by decide),au (by decide),au (by decide)] at k;refine an rfl (ao.go H λl H=>k l ?_);have s1: ∀{m:Nat} {x:Nat×List Ag},L[m]? =some x->L.set m x=L:=λ{m x} h=>Ft λq=>by
   by_cases e:m=q
   ·subst e;rw[G1 (DA.1 h).1,h]
   ·rw[E5 e]
  rw[s1 f,s1 g];exact H
theorem xr (H:aK D G w0 w L) (b:1<=n/\n<=65536) {K:Option AC×Int×Unit->A2->Prop}
 (k: ∀bm bw w1,aK D G w0 w1 ((bm,lU bw n n 0 0)::(bw,flat eW (GD n 0)++[])::L)->K (some ⟨bm,0,none⟩,0,()) w1):
 az AI 33 (.bu [.one .ptr,.one (.int .i64)]) [aa (n:Int)] w K:=by
 refine az.go H λw1 H=>ai (C:=M0) (aQ:=λ_=>[]) (Aq (UQ _ w1 K) ?_);refine an (by rw[decide_eq_false (by omega),decide_eq_false (by omega)];rfl) (NJ.go H rfl (by omega) (by omega) (by omega) (by omega) λbw c H=>aM.go H λbm d H=>ao.go H λa H=>k bm bw a ?_);rw[lG,Hb];exact H
end
abbrev sR:List Sc:=[.int .u64,.bool,.int .i64]
abbrev RT:Type:=Int×Bool×Int×Unit
abbrev sA:List Sc:=[.int .i64,.int .i64,.int .u64,.int .u64]
abbrev sF:List Sc:=[.int .i64,.int .i64,.int .i64,.int .i64]
noncomputable def M1:dD AI:={M0 with quiet:=[58,24]}
noncomputable def M2:dD AI:={M1 with dyn:=some (.el (.agg sR))}
noncomputable def M3:dD AI:={M1 with dyn:=some (.bu [])}
theorem QB (k i a b:Int) (m:Option AC) (w:A2) (d:RT->A2->Prop):(bQ M1 (λ_=>[]) 89 [.agg ⟨[aa k,aa i,ax a,ax b]⟩,ag m] w d)=(
 aM w ⟨[aa k,aa i,ax a,ax b]⟩ 191 λb c=>aM c ⟨[ax 0,.bool false,aa 0]⟩ 124 λe c=>true=true/\aR c (ad (ae b) 1) λx=>az AI 37 (.bu [.one (.int .u64),.one (.int .i64)]) [ag m,aa x] c λ(x:Int×Int×Unit) c=>aA c (ae e) [ax x.1,.bool false,aa x.2.1] λc=>ao c λw1=>aj w1 none (ae e) (.agg [.int .u64,.bool,.int .i64]) λ(x:Int×Bool×Int×Unit)=>d (x.1,x.2.1,x.2.2.1,()) w1):=by kernel_rfl
abbrev Eb (a:RT->A2->Prop) (b:A2) (c:Nat):Prop:=
 ao b λw1=>aj w1 none (ae c) (.agg [.int .u64,.bool,.int .i64]) λ(x:Int×Bool×Int×Unit)=>a (x.1,x.2.1,x.2.2.1,()) w1
theorem aa8 (m:Option AC) (k i a b:Int) (w:A2) (f:RT->A2->Prop):(bQ M2 (λ_=>[]) 57 [ag m,.agg ⟨[aa k,aa i,ax a,ax b]⟩] w f)=(
 aM w ⟨[aa k,aa i,ax a,ax b]⟩ 127 λb c=>aM c ⟨[ax 0,.bool false,aa 0]⟩ 124 λe c=> ∀w1,Ext c w1-> ∀g,Ext (w1.alloc (Obj.map ⟨[]⟩ 0)) g-> ∃(r:Nat), ∃(es:Array B6), ∃(d:Nat),some w1.heap.size=some r/\bD g r es d/\gS g r .i64 1 (.func (.func 89) ⟨[]⟩ ⟨[]⟩) es d λc=> ∀h,Ext c h-> ∃(r:Nat), ∃(es:Array B6), ∃(d:Nat),some w1.heap.size=some r/\bD h r es d/\gS h r .i64 2 (.func (.func 90) ⟨[]⟩ ⟨[]⟩) es d λc=> ∀j,Ext c j->
 ∃(r:Nat), ∃(es:Array B6), ∃(d:Nat),some w1.heap.size=some r/\bD j r es d/\gS j r .i64 3 (.func (.func 91) ⟨[]⟩ ⟨[]⟩) es d λc=> ∀l,Ext c l-> ∃(r:Nat), ∃(es:Array B6), ∃(d:Nat),some w1.heap.size=some r/\bD l r es d/\gS l r .i64 4 (.func (.func 92) ⟨[]⟩ ⟨[]⟩) es d λc=>true=true/\aR c (ad (ae b) 0) λx=> ∃(n:Ag), ∃(o:Bool),mm c (some w1.heap.size) .i64 x Pl n o/\aH (!o) (aA c (ae e) [ax 0,.bool false,aa 1] λc=>Eb
 f c e) (aj c none (ae b) (.agg [.int .i64,.int .i64,.int .u64,.int .u64]) λ(x:Int×Int×Int×Int×Unit)=>zO AI n (.el (.agg [.int .u64,.bool,.int .i64])) [.agg ⟨[aa x.1,aa x.2.1,ax x.2.2.1,ax x.2.2.2.1]⟩,ag m] c λ(x:Int×Bool×Int×Unit) c=>aA c (ae e) [ax x.1,.bool x.2.1,aa x.2.2.1] λc=>Eb f c e)):=by kernel_rfl
theorem UR (f p t:Int) (w:A2) (a:Option AC->A2->Prop):(aJ M1 (λ_=>[]) 20 [aa f,aa p,aa t] w a)=(
 aM w {toList:=[aa f,aa p,aa t,aa 3,aa 0,aa 0,aa 0,aa 0,.slice none 0 0,.bool true]} 117 λb c=>True/\aH (decide (dX f p (3:Int)<0)||decide (t<0)||decide (t>7)) (ao c (a none)) (ao c (a (ae b)))):=by kernel_rfl
abbrev vS (a:Int×Int×Int×Int×Unit->A2->Prop) (b:A2) (c:Nat):Prop:=
 ao b λw1=>aj w1 none (ae c) (.agg [.int .i64,.int .i64,.int .u64,.int .u64]) λ(x:Int×Int×Int×Int×Unit)=>a (x.1,x.2.1,x.2.2.1,x.2.2.2.1,()) w1
theorem QC (p:Option AC) (w:A2) (c:(Int×Int×Int×Int×Unit)->A2->Prop):(bQ M1 (λ_=>[]) 58 [ag p] w c)=(
 aM w ⟨[aa 0,aa 0,ax 0,ax 0]⟩ 127 λb a=>((!p.isNone)=true->p.isSome=true)/\((!p.isNone)=true->p.isSome=true)/\aj a (some !p.isNone) (ad p 9) rq λx=>((!(p.isNone|| !x))=true->p.isSome=true)/\((!(p.isNone|| !x))=true->p.isSome=true)/\aj a (some !(p.isNone|| !x)) (ad p 3) aT λ(d:Int)=>aH (p.isNone|| !x||d== -1) (aA a (ae b) [aa 0,aa 0,ax 0,ax 0] λa=>vS c a b) (cL p 0 a λx=>cL p 1 a λe=>cL p 3 a λf=>True/\aA a (ae b)
 [aa 1,aa (dX x e f),ax 0,ax 0] λa=>vS c a b)):=by kernel_rfl
theorem US (p:Option AC) (a b c d:Int) (w:A2) (f:Unit->A2->Prop):(aJ M1 (λ_=>[]) 60 [ag p,.agg ⟨[aa a,aa b,aa c,aa d]⟩] w f)=(
 aM w ⟨[aa a,aa b,aa c,aa d]⟩ 48 λb e=>cL p 3 e λx=>true=true/\aA e (ad (ae b) 2) [aa x] λe=>aj e none (ae b) dG λ(x:Int×Int×Int×Int×Unit)=>p.isSome=true/\p.isSome=true/\aA e (ad p 4) [aa x.1,aa x.2.1,aa x.2.2.1,aa x.2.2.2.1] λe=>p.isSome=true/\p.isSome=true/\aA e (ad p 3) [aa (-1)] λe=>ao e (f ())):=by kernel_rfl
theorem Zx (p:Option AC) (fr:Int) (ep:Bool) (er:Int) (el:Bool) (ef:Int) (w:A2) (c:Unit->A2->Prop):(aJ M1 (λ_=>[]) 99 [ag p,aa fr,.agg ⟨[.bool ep,aa er,.bool el,aa ef]⟩] w c)=(
 aM w ⟨[.bool ep,aa er,.bool el,aa ef]⟩ 130 λb a=>aH (decide (fr>=4096)) (az AI 60 (.bu []) [ag p,.agg ⟨[aa 0,aa 0,aa 0,aa 11]⟩] a λx a=>ao a (c ())) (aj a none (ae b) jU λ(x:Bool×Int×Bool×Int×Unit)=>cL p 2 a λd=>True/\aH (!gE x.1 x.2.1 x.2.2.1 x.2.2.2.1 d) (true=true/\aR a (ad (ae b) 1) λx=>az AI 60 (.bu []) [ag p,.agg ⟨[aa fr,aa x,aa 0,aa 7]⟩] a λx a=>ao a (c ())) (true=true/\aR
 a (ad (ae b) 1) λx=>az AI 60 (.bu []) [ag p,.agg ⟨[aa fr,aa x,aa 0,aa 0]⟩] a λx a=>ao a (c ())))):=by kernel_rfl
theorem QD (a:Option AC) (w:A2) (b:Unit->A2->Prop):(aJ M1 (λ_=>[]) 95 [ag a] w b)=(
 fT w a λx=>az AI 60 (.bu []) [ag x,.agg ⟨[aa 0,aa 0,aa 0,aa 4]⟩] w λx c=>ao c (b ())):=by kernel_rfl
theorem QE (d a:Option AC) (w:A2) (e:Unit->A2->Prop):(aJ M1 (λ_=>[]) 97 [ag d,ag a] w e)=(
 fT w a λx=>fT w a λb=>d.isSome=true/\aR w (ad d 3) λf=>fT w a λg=>cL g 3 w λh=>x.isSome=true/\x.isSome=true/\aA w (ad x 0) [aa f] λc=>True/\cC c a jh b/\b.isSome=true/\b.isSome=true/\aA c (ad b 3) [aa (aX .i64 h 1)] λc=>ao c (e ())):=by kernel_rfl
theorem QF (c a:Option AC) (w:A2) (Post:Unit->A2->Prop):(aJ M1 (λ_=>[]) 98 [ag c,ag a] w Post)=(
 aj w none c (.one .ptr) λx=>a.isSome=true/\aj w none (ad a 3) (.one (.int .i64)) λ(e:Int)=>aj w none c (.one .ptr) λd=>d.isSome=true/\d.isSome=true/\aj w none (ad d 1) (.one (.int .i64)) λ(f:Int)=>True/\gK 1≠0/\aj w none a (.agg [.bool,.int .i64,.bool,.int .i64]) λ(b:Bool×Int×Bool×Int×Unit)=>az AI 99 (.bu []) [ag x,aa (aI .i64 e (ff f (gK 1))),.agg ⟨[.bool b.1,aa b.2.1,.bool b.2.2.1,aa b.2.2.2.1]⟩] w λx g=>ao g λw1=>Post () w1)
 :=by kernel_rfl
theorem QG (c a:Option AC) (w:A2) (d:Unit->A2->Prop):(aJ M1 (λ_=>[]) 101 [ag c,ag a] w d)=(
 fT w c λx=>a.isSome=true/\aR w (ad a 3) λe=>aj w none a jU λ(b:Bool×Int×Bool×Int×Unit)=>az AI 99 (.bu []) [ag x,aa e,.agg ⟨[.bool b.1,aa b.2.1,.bool b.2.2.1,aa b.2.2.2.1]⟩] w λx f=>ao f (d ())):=by kernel_rfl
theorem QH (a:Option AC) (w:A2) (b:Unit->A2->Prop):(aJ M1 (λ_=>[]) 102 [ag a] w b)=(
 fT w a λx=>az AI 60 (.bu []) [ag x,.agg ⟨[aa 0,aa 0,aa 0,aa 11]⟩] w λx c=>ao c (b ())):=by kernel_rfl
def vT:Nat->aY:=(λ|3=>[(56,Go.RX.El.one (Go.RX.Sc.int B3))]| _=>[])
theorem UT (p:Option AC) (ep:Bool) (er:Int) (el:Bool) (ef:Int) (w:A2) (h:Unit->A2->Prop):(aJ M3 vT 61 [ag p,.agg ⟨[.bool ep,aa er,.bool el,aa ef]⟩] w h)=(
 aM w ⟨[ag p]⟩ 40 λb a=>aM a ⟨[.bool ep,aa er,.bool el,aa ef]⟩ 130 λd a=>true=true/\sU a (ad (ae d) 0) λx=>aj a none (ae d) jU λ(c:Bool×Int×Bool×Int×Unit)=>True/\aj a (some (fG c.1 c.2.1 c.2.2.1 c.2.2.2.1)) (ae b) jh λi=>(fG c.1 c.2.1 c.2.2.1 c.2.2.2.1=true->i.isSome=true)/\(fG c.1 c.2.1 c.2.2.1 c.2.2.2.1=true->i.isSome=true)/\aj a (some (fG c.1 c.2.1 c.2.2.1 c.2.2.2.1)) (ad i 3) aT λ(o:Int)=>true=true/\sU a (ad
 (ae d) 2) λf=>aj a (some f) (ae b) jh λj=>(f=true->j.isSome=true)/\(f=true->j.isSome=true)/\aj a (some f) (ad j 3) aT λ(q:Int)=>true=true/\sU a (ad (ae d) 2) λe=>((!e)=true->true=true)/\aj a (some !e) (ad (ae d) 1) aT λ(g:Int)=>aj a (some (!e&&decide (g>0))) (ae b) jh λk=>((!e&&decide (g>0))=true->k.isSome=true)/\((!e&&decide (g>0))=true->k.isSome=true)/\aj a (some (!e&&decide (g>0))) (ad k 3) aT λ(r:Int)=>
 aM a {toList:=[.bool !x,.func (.func 95) ⟨[]⟩ {toList:=[ag (ae b)]},.bool (fG c.1 c.2.1 c.2.2.1 c.2.2.2.1&&decide (o>0)),.func (.func 97) ⟨[]⟩ {toList:=[ag (ae d),ag (ae b)]},.bool (f&&q==1),.func (.func 98) ⟨[]⟩ {toList:=[ag (ae b),ag (ae d)]},.bool (!e&&decide (g>0)&&r==0),.func (.func 101) ⟨[]⟩ {toList:=[ag (ae b),ag (ae d)]},.bool true,.func (.func 102) ⟨[]⟩ {toList:=[ag (ae b)]}]} 197 λb a=> ∃(I:Nat->Int×Unit->A2->Prop),(∃n, ∀w1,
 Ext a w1->I n (0,()) w1)/\ ∀(n:Nat) (s:Int×Unit) (w1:A2),I n s w1->aH (decide (s.1<(↑5:Int))) ((true=true/\0<=s.1/\s.1<(↑5:Int))/\aj w1 none (ad (ae b) (B4 s.1*2)) (.agg [.bool,.func]) λx=>aM w1 ⟨[.bool false,Pl]⟩ 197 λb a=>aA a (ae b) [.bool x.1,x.2.1] λa=>true=true/\sU a (ad (ae b) 0) λx=>aH x (true=true/\aj a none (ad (ae b) 1) (.one .func) λx=>zO AI x (.bu []) [] a λx a=>ao a (h ())) (∀l,Ext a l-> ∃(m:Nat),m<n/\I m (aI .i64 s.1 1,
 ()) l)) (ao w1 (h ()))):=by kernel_rfl
theorem QI (p m:Option AC) (w:A2) (c:Bool->A2->Prop):(aJ M1 (λ_=>[]) 22 [ag p,ag m] w c)=(
 ((!p.isNone)=true->p.isSome=true)/\((!p.isNone)=true->p.isSome=true)/\aj w (some !p.isNone) (ad p 9) rq λx=>aH (p.isNone|| !x) (ao w (c false)) (cL p 3 w λx=>aH (x== -1) (ao w (c true)) (∃(x:Int×Int×Int×Int×Unit),af AI 58 [ag p] w (.agg ⟨[aa x.1,aa x.2.1,ax x.2.2.1,ax x.2.2.2.1]⟩)/\az AI 57 (.el (.agg [.int .u64,.bool,.int .i64])) [ag m,.agg ⟨[aa x.1,aa x.2.1,ax x.2.2.1,ax x.2.2.2.1]⟩] w λ(x:Int×Bool×Int×Unit) a=>aM a ⟨[.int .u64
 0,.bool false,aa 0]⟩ 124 λb a=>aA a (ae b) [ax x.1,.bool x.2.1,aa x.2.2.1] λa=>e8 p 8 a λx=>cL p 0 a λe=>aM a ⟨[aa e]⟩ 3 λf a=> ∀w1,Ext a w1->mz w1 3 1 8 ⟨[aa 0]⟩ (x.1,x.2.1,x.2.2) (some ⟨f,0,none⟩,1,1) λ(r:Option AC×Nat×Nat) a=>p.isSome=true/\p.isSome=true/\aA a (ad p 8) [.slice r.1 r.2.1 r.2.2] λa=>true=true/\cH a (ad (ae b) 0) λx=>U (B x)=x/\aM a ⟨[.bool false,aa 0,.bool false,aa 0]⟩ 130 λd a=>aA a (ae d) [.bool (Ib
 (B x).toNat),aa (FB (B x).toNat),.bool (JZ (B x).toNat),aa (Fk (B x).toNat)] λa=>((!!ux (B x).toNat)=true->true=true)/\aj a (some !!ux (B x).toNat) (ad (ae b) 2) aT λ(g:Int)=>aH (!ux (B x).toNat||g != 0) (az AI 60 (.bu []) [ag p,.agg ⟨[aa 0,aa 0,aa 0,aa 11]⟩] a λx a=>ao a (c true)) (aj a none (ae d) jU λ(x:Bool×Int×Bool×Int×Unit)=>az AI 61 (.bu []) [ag p,.agg ⟨[.bool x.1,aa x.2.1,.bool x.2.2.1,aa x.2.2.2.1]⟩] a λx a=>
 cL p 3 a λx=>ao a (c (x== -1)))))):=by kernel_rfl
theorem UU (p:Option AC) (w:A2) (c:(Int×Int×Int×Int×Unit)×Bool×Unit->A2->Prop):(bQ M1 (λ_=>[]) 24 [ag p] w c)=(
 aM w ⟨[aa 0,aa 0,aa 0,aa 0]⟩ 48 λb a=>((!p.isNone)=true->p.isSome=true)/\((!p.isNone)=true->p.isSome=true)/\aj a (some !p.isNone) (ad p 9) rq λx=>((!(p.isNone|| !x))=true->p.isSome=true)/\((!(p.isNone|| !x))=true->p.isSome=true)/\aj a (some !(p.isNone|| !x)) (ad p 3) aT λ(d:Int)=>aH (p.isNone|| !x||d != -1) (aA a (ae b) [aa 0,aa 0,aa 0,aa 0] λa=>ao a λw1=>aj w1 none (ae b) dG λ(x:Int×Int×Int×Int×Unit)=>c ((x.1,x.2.1,x.2.2.1,
 x.2.2.2.1,()),false,()) w1) (p.isSome=true/\p.isSome=true/\aj a none (ad p 4) dG λ(x:Int×Int×Int×Int×Unit)=>aA a (ae b) [aa x.1,aa x.2.1,aa x.2.2.1,aa x.2.2.2.1] λa=>ao a λw1=>aj w1 none (ae b) dG λ(x:Int×Int×Int×Int×Unit)=>c ((x.1,x.2.1,x.2.2.1,x.2.2.2.1,()),true,()) w1)):=by kernel_rfl
def vU:Nat->aY:=(λ|4=>[]| _=>[])
theorem UW (m:Option AC) (f p t:Int) (w:A2) (c:(Int×Int×Int×Int×Unit)->A2->Prop):(bQ M1 vU 223 [ag m,aa f,aa p,aa t] w c)=(
 aM w ⟨[aa 0,aa 0,aa 0,aa 0]⟩ 48 λb a=>az AI 20 (.el jh) [aa f,aa p,aa t] a λx a=>aH x.isNone (aA a (ae b) [aa 0,aa 0,aa 0,aa 1] λa=>ao a λw1=>aj w1 none (ae b) dG λ(x:Int×Int×Int×Int×Unit)=>c (x.1,x.2.1,x.2.2.1,x.2.2.2.1,()) w1) (∃(I:Nat->Unit->A2->Prop),(∃n, ∀w1,Ext a w1->I n () w1)/\ ∀(n:Nat) (s:Unit) (w1:A2),I n s w1->az AI 22 (.el rq) [ag x,ag m] w1 λg a=>aH (!g) (∀
 d,Ext a d-> ∃(e:Nat),e<n/\I e () d) (x.isSome=true/\x.isSome=true/\aj a none (ad x 4) dG λ(x:Int×Int×Int×Int×Unit)=>aA a (ae b) [aa x.1,aa x.2.1,aa x.2.2.1,aa x.2.2.2.1] λa=>ao a λw1=>aj w1 none (ae b) dG λ(x:Int×Int×Int×Int×Unit)=>c (x.1,x.2.1,x.2.2.1,x.2.2.2.1,()) w1))):=by kernel_rfl
abbrev FT:Type:=Int×Int×Int×Int×Unit
abbrev lN (fr pg wt lv:Int) (fd:FT) (s:Option AC×Nat×Nat):List Ag:=
 [aa fr,aa pg,aa wt,aa lv,aa fd.1,aa fd.2.1,aa fd.2.2.1,aa fd.2.2.2.1,.slice s.1 s.2.1 s.2.2,.bool true]
def wS (lv e:Int):FT:=(0,0,lv,e,())
def xQ (lv wt fr:Int) (ep:Bool) (er:Int) (el:Bool) (ef:Int):FT:=if fr>=4096 then(0,0,lv,11,()) else if gE ep er el ef wt then(fr,er,lv,0,()) else(fr,er,lv,7,())
theorem xv {w:A2} {r:Nat} {k:IntKind} {n:Int} {val:Ag} {es:Array B6} {a:Nat} {K:A2->Prop} (h:Gd (.int k) (.int k n) es.toList 0=some none)
 (b:K (w.putObj r (.map (es.push {key:= .int k n,val,born:=a}) (a+1)))):gS w r k n val es a K:=by
 unfold gS;rw[h];exact b
section
variable {D G:List Nat} {w0 w:A2} {L:List (Nat×List Ag)} {bm bw n c:Nat} {ca la:Int} {ws:List Int} {rest:List Ag}
theorem QJ (H:aK D G w0 w L) (j d:Nat) (f:L[j]? =some (bm,lU bw n c ca la)) (g:L[d]? =some (bw,flat eW ws++rest)) (m:j≠d) (h:n=ws.length) (h0:0<n) (kd i a b:Int) {K:RT->A2->Prop}
 (k: ∀e,aK D G w0 e (L.set j (bm,lU bw n c (wI ws i ca) la))->K (dE ws i,false,wH ws i,()) e):
 aD AI 89 (.el (.agg sR)) [.agg ⟨[aa kd,aa i,ax a,ax b]⟩,ag (ae bm)] w K:=by
 refine aP (C:=M1) (aQ:=λ_=>[]) (Aq (QB kd i a b _ w K) ?_);refine aM.go H λo e H=>aM.go H λp q H=>⟨rfl,aj.cq 1 H rfl rfl ?_⟩;refine Ea H (j+2) (d+2) f g (by omega) h h0 i λr H=>?_;refine aA.all 0 H rfl rfl rfl λs H=>ao.go H λl H=>aj.at 0 H rfl rfl (k l ?_);exact(H.sub (FE _ _)).sub (FE _ _)
theorem uV (H:aK D G w0 w L) {r:Nat} {es:Array B6} {a:Nat} (f:w0.heap.size<=r) (g:r∉D) (b:bD w r es a) {n:Int} {val:Ag} {K:A2->Prop} (h:Gd (.int .i64) (aa n) es.toList 0=some none)
 (k: ∀c,aK D G w0 c L->bD c r (es.push {key:=aa n,val,born:=a}) (a+1)->K c):
 ∃r' d e,some r=some r'/\bD w r' d e/\gS w r' .i64 n val d e K:=
 ⟨r,es,a,rfl,b,xv h (k _ (H.putObj f b (λ_ _ _ hc=>by cases hc) g) (jR (E4.1 b).1))⟩
theorem aa9 (H:aK D G w0 w L) (q:D=[]) (j f:Nat) (r:L[j]? =some (bm,lU bw n c ca la)) (s:L[f]? =some (bw,flat eW ws++rest)) (E:j≠f) (t:n=ws.length) (h0:0<n) (i a b:Int) {K:RT->A2->Prop}
 (k: ∀g,aK D G w0 g (L.set j (bm,lU bw n c (wI ws i ca) la))->K (dE ws i,false,wH ws i,()) g):
 az AI 57 (.el (.agg sR)) [ag (ae bm),.agg ⟨[aa 1,aa i,ax a,ax b]⟩] w K:=by
 subst q;refine az.go H λw1 H=>aP (C:=M2) (aQ:=λ_=>[]) (Aq (aa8 _ 1 i a b w1 K) ?_);refine aM.go H λF g H=>aM.go H λI J H=>λd h u l=>?_;have H:=(((H.ext h).rI (.map ⟨[]⟩ 0)).ext l);have e:w0.heap.size<=d.heap.size:=by have:=(aK.ext (w1:=d) (by assumption) h:aK [] G w0 d _).fr.size;exact this
 have m0:bD u d.heap.size ⟨[]⟩ 0:=l.obj (fp d _);refine uV H e (by simp) m0 rfl λM H v N m=>?_;refine uV (H.ext m) e (by simp) (m.obj v) rfl λO H x P o=>?_;refine uV (H.ext o) e (by simp) (o.obj x) rfl λQ H y R p=>?_;refine uV (H.ext p) e (by simp) (p.obj y) rfl λS H z=>?_;refine⟨rfl,aj.cq 1 H rfl rfl ⟨.func (.func 89) #[] #[],true,⟨_, _, _,rfl,z,?_⟩,an rfl (aj.at 1 H rfl rfl ?_)⟩⟩
 ·exact⟨rfl,rfl⟩
 ·unfold zO;refine λT A=>⟨_, #[], #[],rfl,by kernel_rfl,?_⟩;refine QJ (H.ext A) (j+2) (f+2) r s (by omega) t h0 1 i a b λU H=>?_;refine aA.all 0 H rfl rfl rfl λV H=>ao.go H λB H=>aj.at 0 H rfl rfl (k B ?_);exact(H.sub (FE _ _)).sub (FE _ _)
end
section
variable {D G:List Nat} {w0 w:A2} {L:List (Nat×List Ag)} {bk:Nat} {fr pg wt lv:Int} {fd:FT} {s:Option AC×Nat×Nat}
theorem pQ (H:aK D G w0 w L) (j:Nat) (d:L[j]? =some (bk,lN fr pg wt lv fd s)) (x1 a f c:Int) {K:Unit->A2->Prop}
 (k: ∀g,aK D G w0 g (L.set j (bk,lN fr pg wt (-1) (x1,a,lv,c,()) s))->K () g):
 az AI 60 (.bu []) [ag (ae bk),.agg ⟨[aa x1,aa a,aa f,aa c]⟩] w K:=by
 refine az.go H λw1 H=>ai (C:=M1) (aQ:=λ_=>[]) (Aq (US _ x1 a f c w1 K) ?_);have h:j<L.length:=(DA.1 d).1;refine aM.go H λb g H=>?_;have i:((b,[aa x1,aa a,aa f,aa c])::L)[j+1]? =some (bk,lN fr pg wt lv fd s):=d;refine⟨rfl,rfl,aj.cq (j+1) H i rfl ⟨rfl,aA.gx 0 H rfl rfl rfl λm H=>aj.at 0 H rfl rfl ⟨rfl,rfl,?_⟩⟩⟩;rw[aV,aV];refine aA.at (j+1) H d rfl (Nat.le_of_ble_eq_true rfl) λn H=>⟨rfl,rfl,?_⟩;refine aA.one (j+1) H (G1 (Nat.succ_lt_succ h)) rfl rfl λo H=>ao.go H λl H=>k l ?_;have H:=H.sub (FE _ _);have e:(L.set j (bk,lN fr pg wt lv (x1,a,lv,c,()) s)).set j (bk,lN fr pg wt (-1) (x1,a,lv,c,()) s)=L.set j (bk,lN fr pg wt (-1) (x1,a,lv,c,()) s):=List.set_set ..;rw[<-e];exact H
theorem O9 (H:aK D G w0 w L) (j:Nat) (i:L[j]? =some (bk,lN fr pg wt lv fd s)) (f:Int) (ep:Bool) (er:Int) (el:Bool) (ef:Int) {K:Unit->A2->Prop}
 (k: ∀g,aK D G w0 g (L.set j (bk,lN fr pg wt (-1) (xQ lv wt f ep er el ef) s))->K () g):
 az AI 99 (.bu []) [ag (ae bk),aa f,.agg ⟨[.bool ep,aa er,.bool el,aa ef]⟩] w K:=by
 refine az.go H λw1 H=>ai (C:=M1) (aQ:=λ_=>[]) (Aq (Zx _ f ep er el ef w1 K) ?_);refine aM.go H λb g H=>?_;have d:((b,[B5 ep,aa er,.bool el,aa ef])::L)[j+1]? =some (bk,lN fr pg wt lv fd s):=i;refine ab (λc=>?_) (λc=>aj.at 0 H rfl rfl ⟨rfl,rfl,aj.cq (j+1) H d rfl ⟨trivial,ab (λc2=>?_) (λc2=>?_)⟩⟩)
 ·refine pQ H (j+1) d 0 0 0 11 λh H=>ao.go H λa H=>k a ?_;have e:xQ lv wt f ep er el ef=(0,0,lv,11,()):=ay (of_decide_eq_true c);rw[e];exact H.sub (FE _ _)
 ·refine⟨rfl,aj.cq 0 H rfl rfl (pQ H (j+1) d f er 0 7 λh H=>ao.go H λa H=>k a ?_)⟩;have e:xQ lv wt f ep er el ef=(f,er,lv,7,()):=by
   have c3:gE ep er el ef wt=false:=by simpa using c2
   unfold xQ;rw[au (of_decide_eq_false c),c3];rfl
  rw[e];exact H.sub (FE _ _)
 ·refine⟨rfl,aj.cq 0 H rfl rfl (pQ H (j+1) d f er 0 0 λh H=>ao.go H λa H=>k a ?_)⟩;have e:xQ lv wt f ep er el ef=(f,er,lv,0,()):=by
   have c3:gE ep er el ef wt=true:=by simpa using c2
   unfold xQ;rw[au (of_decide_eq_false c),ay c3]
  rw[e];exact H.sub (FE _ _)
end
end Go.Proofs.YtlcenllcmeebhaaGreat
