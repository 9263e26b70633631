import Derived.Test.YtdnoecpjcoibmaaGreatSNA
/-! What the statement leans on: texts joined and shortened by a program of mine. -/
set_option linter.unusedVariables false
set_option linter.unusedSimpArgs false
namespace Go.Proofs.YtdnoecpjcoibmaaGreat
set_option maxRecDepth 100000
open Go.RX
def bU (lo sz:Int):Bool:=decide (lo>=0)&&decide (lo<64)&&decide (sz>=1)&&decide (sz<=64 - lo)
theorem fU {lo sz:Int}:bU lo sz=true<->0<=lo/\lo<64/\1<=sz/\sz<=64 - lo:=by
 simp only[bU,Bool.and_eq_true,decide_eq_true_eq];omega
def Mk (lo n:Nat):BitVec 64:=(BitVec.allOnes 64 >>> (64 - n)) <<< lo
theorem vb {lo n j:Nat} (hn:n<=64):(Mk lo n).getLsbD j=(decide (lo<=j)&&decide (j<lo+n)&&decide (j<64)):=by
 unfold Mk
 rw[BitVec.getLsbD_shiftLeft,BitVec.getLsbD_ushiftRight,BitVec.getLsbD_allOnes]
 by_cases h1:j<64<;>by_cases h2:lo<=j<;>by_cases h3:j<lo+n<;>simp[h1,h2,h3]<;>omega
def fC (lo sz:Int):BitVec 64:=if bU lo sz=true then Mk lo.toNat sz.toNat else 0#64
def cP (w:BitVec 64) (lo sz:Int):BitVec 64:=(w &&& fC lo sz) >>> (Ai 0 (jb lo 63)).toNat
def qt (w:BitVec 64) (lo sz:Int) (v:BitVec 64):BitVec 64:=if fC lo sz=0#64 then w else w &&& ~~~ fC lo sz ||| v <<< lo.toNat &&& fC lo sz
theorem CF {lo sz:Int} (h:bU lo sz=true):Ah .u64 (BP .u64 18446744073709551615 (bL .i64 64 sz)) lo=U (fC lo sz):=by
 have h':=fU.1 h
 rw[show(18446744073709551615:Int)=U (BitVec.allOnes 64) from rfl,Jk,Jj,bS (by omega) (by omega)]
 unfold fC Mk
 rw[if_pos h]
 congr 4
 omega
theorem J5 {lo sz:Int} (h:bU lo sz=true):fC lo sz≠0#64:=by
 intro h0
 have h':=fU.1 h
 have:=congrArg (fun b=>b.getLsbD lo.toNat) h0
 simp only[fC,if_pos h] at this
 rw[vb (by omega)] at this
 simp at this
 omega
theorem pX {lo sz:Int} (h:bU lo sz=false):fC lo sz=0#64:=by simp[fC,h]
def uL (i:Nat):BitVec 64:=1#64 <<< i
theorem AL (i j:Nat):(uL i).getLsbD j=(decide (i=j)&&decide (j<64)):=by
 unfold uL
 rw[BitVec.getLsbD_shiftLeft,BitVec.getLsbD_one]
 by_cases h1:j<64<;>by_cases h2:i=j<;>simp[h1,h2]<;>omega
theorem Fv (i:Nat):2#64*uL i=uL (i+1):=by
 unfold uL
 rw[BitVec.shiftLeft_add]
 apply BitVec.eq_of_toNat_eq
 simp[BitVec.toNat_shiftLeft,Nat.shiftLeft_eq]
 omega
theorem half (w:BitVec 64):py .u64 (U w) 2=U (w >>> 1):=by
 unfold py
 rw[wrap_u64]
 unfold U
 rw[BitVec.toNat_ushiftRight,Nat.shiftRight_eq_div_pow,Int.tdiv_eq_ediv_of_nonneg (by omega)]
 have:=w.isLt
 omega
theorem YQ (w:BitVec 64):(dM (U w) 2==1)=w.getLsbD 0:=by
 unfold dM U
 rw[Int.tmod_eq_emod_of_nonneg (by omega),BitVec.getLsbD,Nat.testBit_zero]
 have:((w.toNat:Int) % 2==1)=decide (w.toNat % 2=1):=by
  by_cases h:w.toNat % 2=1<;>simp[h]<;>omega
 rw[this]
theorem Np (lo:Nat):Mk lo 0=0#64:=by
 apply BitVec.eq_of_getLsbD_eq
 intro j hj
 rw[vb (by omega)]
 simp;omega
def Gk (w:BitVec 64) (lo k:Nat):BitVec 64:=(w >>> lo) &&& Mk 0 k
theorem Nq (w:BitVec 64) (lo:Nat):Gk w lo 0=0#64:=by simp[Gk,Np]
theorem pO {w:BitVec 64} {lo k j:Nat} (hk:k<=64):(Gk w lo k).getLsbD j=(w.getLsbD (lo+j)&&decide (j<k)):=by
 unfold Gk
 rw[BitVec.getLsbD_and,BitVec.getLsbD_ushiftRight,vb hk]
 by_cases h:j<k<;>simp[h]
 omega
theorem Ra {w:BitVec 64} {lo k:Nat} (h:lo+k<64) (hb:w.getLsbD (lo+k)=true):Gk w lo k+uL k=Gk w lo (k+1):=by
 rw[BitVec.add_eq_or_of_and_eq_zero]
 ·apply BitVec.eq_of_getLsbD_eq
  intro j hj
  rw[BitVec.getLsbD_or,pO (by omega),pO (by omega),AL]
  simp only[hj,decide_true,Bool.and_true]
  by_cases h3:k=j
  ·subst h3;simp[hb]
  ·have:(j<k+1)=(j<k):=by apply propext;omega
   simp[h3,this]
 ·apply BitVec.eq_of_getLsbD_eq
  intro j hj
  rw[BitVec.getLsbD_and,pO (by omega),AL]
  by_cases h3:k=j<;>simp[h3]
theorem Nr {w:BitVec 64} {lo k:Nat} (h:lo+k<64) (hb:w.getLsbD (lo+k)=false):Gk w lo k=Gk w lo (k+1):=by
 apply BitVec.eq_of_getLsbD_eq
 intro j hj
 rw[pO (by omega),pO (by omega)]
 by_cases h3:k=j
 ·subst h3;simp[hb]
 ·have:(j<k+1)=(j<k):=by apply propext;omega
  simp[this]
def Pk (w v:BitVec 64) (lo k:Nat):BitVec 64:=w &&& ~~~ Mk lo k ||| v <<< lo &&& Mk lo k
theorem Rb {w v:BitVec 64} {lo k j:Nat} (hk:k<=64) (hj:j<64):(Pk w v lo k).getLsbD j=if lo<=j/\j<lo+k then v.getLsbD (j - lo) else w.getLsbD j:=by
 unfold Pk
 rw[BitVec.getLsbD_or,BitVec.getLsbD_and,BitVec.getLsbD_and,BitVec.getLsbD_not,BitVec.getLsbD_shiftLeft,vb hk]
 by_cases h1:lo<=j<;>by_cases h2:j<lo+k<;>simp[h1,h2,hj]
 all_goals omega
theorem Ea {w:BitVec 64} {lo sz:Int} (h:bU lo sz=true):cP w lo sz=Gk w lo.toNat sz.toNat:=by
 have h':=fU.1 h
 unfold cP fC
 rw[if_pos h]
 have e:(Ai 0 (jb lo 63)).toNat=lo.toNat:=by unfold Ai jb;split<;>split<;>omega
 rw[e]
 apply BitVec.eq_of_getLsbD_eq
 intro j hj
 rw[pO (by omega),BitVec.getLsbD_ushiftRight,BitVec.getLsbD_and,vb (by omega)]
 by_cases h1:lo.toNat+j<64
 ·by_cases h2:j<sz.toNat<;>simp[h1,h2]
 ·rw[BitVec.getLsbD_of_ge w _ (by omega)];simp
theorem Fw {w:BitVec 64} {lo sz:Int} (h:bU lo sz=false):cP w lo sz=0#64:=by
 unfold cP;rw[pX h];simp
theorem Ns {w v:BitVec 64} {lo sz:Int} (h:bU lo sz=true):qt w lo sz v=Pk w v lo.toNat sz.toNat:=by
 unfold qt Pk
 rw[if_neg (J5 h)]
 simp only[fC,if_pos h]
end Go.Proofs.YtdnoecpjcoibmaaGreat
namespace Go.Proofs.YtdnoecpjcoibmaaGreat
set_option maxRecDepth 100000
open Go.RX
theorem mx:Tryz.prog.follows .mixedOrders=true:=by kernel_rfl
noncomputable def C0:dD Tryz.prog:={qc:=[],quiet:=[],sh:=[],mixed:=mx}
theorem Nt (low size:Int) (w:World) (Post:Bool->World->Prop):(aH C0 (fun _=>[]) 266 [.int .i64 low,.int .i64 size] w Post)=(
 aj w fun w1=>Post (decide (low>=0)&&decide (low<64)&&decide (size>=1)&&decide (size<=bL .i64 64 low)) w1):=by kernel_rfl
theorem T_ (low size:Int) (w:World) (Post:Bool->World->Prop):(aH C0 (fun _=>[]) 268 [.int .i64 low,.int .i64 size] w Post)=(
 aj w fun w1=>Post (decide (low>=0)&&decide (low<64)&&decide (size>=1)&&decide (size<=64)&&decide (au .i64 low size<=64)) w1):=by kernel_rfl
def vU:Nat->aQ:=(fun|2=>[(0,Go.RX.El.one (Go.RX.Sc.int Go.IntKind.u64)),(5,Go.RX.El.one (Go.RX.Sc.int Go.IntKind.i64))]| _=>[])
theorem Re (v i:Int) (w:World) (Post:Bool->World->Prop):(aH C0 vU 269 [.int .u64 v,.int .i64 i] w Post)=(
 ∃(I:Nat->Int×Int×Unit->World->Prop),(∃n, ∀w1,Ext w w1->I n (v,0,Unit.unit) w1)/\ ∀(n:Nat) (s:Int×Int×Unit) (w1:World),I n s w1->aB (decide (s.2.1<i)) (∀w3,Ext w1 w3-> ∃(n':Nat),n'<n/\I n' (py .u64 s.1 2,au .i64 s.2.1 1,Unit.unit) w3) (aj w1 fun w1=>Post (dM s.1 2==1) w1)):=by kernel_rfl
def vV:Nat->aQ:=(fun|3=>[(3,Go.RX.El.one (Go.RX.Sc.int Go.IntKind.u64)),(4,Go.RX.El.one (Go.RX.Sc.int Go.IntKind.i64))]| _=>[])
theorem Rf (i:Int) (w:World) (Post:Int->World->Prop):(aH C0 vV 270 [.int .i64 i] w Post)=(
 ∃(I:Nat->Int×Int×Unit->World->Prop),(∃n, ∀w1,Ext w w1->I n (1,0,Unit.unit) w1)/\ ∀(n:Nat) (s:Int×Int×Unit) (w1:World),I n s w1->aB (decide (s.2.1<i)) (∀w3,Ext w1 w3-> ∃(n':Nat),n'<n/\I n' (b_ .u64 2 s.1,au .i64 s.2.1 1,Unit.unit) w3) (aj w1 fun w1=>Post s.1 w1)):=by kernel_rfl
theorem J6 (lo sz:Int):(decide (lo>=0)&&decide (lo<64)&&decide (sz>=1)&&decide (sz<=bL .i64 64 lo))=bU lo sz:=by
 unfold bU
 by_cases h:0<=lo/\lo<64
 ·rw[bS (by omega) (by omega)]
 ·by_cases h1:lo>=0<;>by_cases h2:lo<64<;>simp[h1,h2]<;>omega
noncomputable def qB:Entry Tryz.prog where
 f:=266
 fn l:=match l with
  |[.int .i64 lo,.int .i64 sz]=>some (True,.bool (bU lo sz))
  | _=>none
 ok args pre v h _ w:=by
  split at h
  ·rename_i lo sz
   cases h
   refine aO (x:=bU lo sz) (ai (C:=C0) (aJ:=fun _=>[]) (Eq.mpr (Nt lo sz w _) fun w1 h1=>⟨J6 lo sz,h1⟩))
  ·cases h
theorem Rh (lo sz:Int):(decide (lo>=0)&&decide (lo<64)&&decide (sz>=1)&&decide (sz<=64)&&decide (au .i64 lo sz<=64))=bU lo sz:=by
 unfold bU
 by_cases h:0<=lo/\lo<64/\1<=sz/\sz<=64
 ·rw[ar (by omega) (by omega)]
  obtain⟨h1,h2,h3,h4⟩:=h
  simp[h1,h2,h3,h4];omega
 ·by_cases h1:lo>=0<;>by_cases h2:lo<64<;>by_cases h3:sz>=1<;>by_cases h4:sz<=64<;>simp[h1,h2,h3,h4]<;>omega
noncomputable def MJ:Entry Tryz.prog where
 f:=268
 fn l:=match l with
  |[.int .i64 lo,.int .i64 sz]=>some (True,.bool (bU lo sz))
  | _=>none
 ok args pre v h _ w:=by
  split at h
  ·rename_i lo sz
   cases h
   refine aO (x:=bU lo sz) (ai (C:=C0) (aJ:=fun _=>[]) (Eq.mpr (T_ lo sz w _) fun w1 h1=>⟨Rh lo sz,h1⟩))
  ·cases h
theorem Ri (b:BitVec 64) (i:Int) (hi:i<=64) (w:World):an Tryz.prog 269 (.el (.one .bool)) [.int .u64 (U b),.int .i64 i] w (fun x w'=>x=b.getLsbD i.toNat/\Ext w w'):=by
 refine ai (C:=C0) (aJ:=vU) (Eq.mpr (Re (U b) i w _) ?_)
 refine⟨fun n s w'=>Ext w w'/\ ∃k:Nat,s.2.1=k/\n+k=i.toNat/\s.1=U (b >>> k),⟨i.toNat,fun w1 h1=>⟨h1,0,rfl,rfl,by simp⟩⟩,?_⟩
 rintro n ⟨x,j,u⟩ w1 ⟨hw,k,hk,hn,hx⟩
 simp only at hk hx
 subst hk;subst hx
 dsimp only
 refine aa (fun h=>?_) (fun h=>?_)
 ·simp only[decide_eq_true_eq] at h
  intro w3 h3
  refine⟨n - 1,by omega,hw.trans h3,k+1,?_,by omega,?_⟩
  ·show au _ _ _= _
   rw[ar (by omega) (by omega)];rfl
  ·show py .u64 _ 2= _
   rw[half,BitVec.shiftRight_add]
 ·simp only[decide_eq_false_iff_not] at h
  intro w2 h2
  refine⟨?_,hw.trans h2⟩
  show(dM _ 2==1)= _
  rw[YQ]
  simp only[BitVec.getLsbD_ushiftRight,Nat.add_zero]
  congr 1;omega
noncomputable def yP:Entry Tryz.prog where
 f:=269
 fn l:=match l with
  |[.int .u64 b,.int .i64 i]=>some (U (B b)=b/\i<=64,.bool ((B b).getLsbD i.toNat))
  | _=>none
 ok args pre v h hp w:=by
  split at h
  ·rename_i b i
   cases h
   obtain⟨h1,h2⟩:=hp
   have:=aO (Ri (B b) i h2 w)
   rw[h1] at this
   exact this
  ·cases h
theorem Rj (i:Int) (hi:i<=64) (w:World):an Tryz.prog 270 (.el (.one (.int .u64))) [.int .i64 i] w (fun x w'=>x=U (uL i.toNat)/\Ext w w'):=by
 refine ai (C:=C0) (aJ:=vV) (Eq.mpr (Rf i w _) ?_)
 refine⟨fun n s w'=>Ext w w'/\ ∃k:Nat,s.2.1=k/\n+k=i.toNat/\s.1=U (uL k),⟨i.toNat,fun w1 h1=>⟨h1,0,rfl,rfl,rfl⟩⟩,?_⟩
 rintro n ⟨x,j,u⟩ w1 ⟨hw,k,hk,hn,hx⟩
 simp only at hk hx
 subst hk;subst hx
 dsimp only
 refine aa (fun h=>?_) (fun h=>?_)
 ·simp only[decide_eq_true_eq] at h
  intro w3 h3
  refine⟨n - 1,by omega,hw.trans h3,k+1,?_,by omega,?_⟩
  ·show au _ _ _= _
   rw[ar (by omega) (by omega)];rfl
  ·show b_ .u64 2 _= _
   rw[show(2:Int)=U 2#64 from rfl,Q_,Fv]
 ·simp only[decide_eq_false_iff_not] at h
  intro w2 h2
  refine⟨?_,hw.trans h2⟩
  show U (uL k)= _
  congr 2;omega
noncomputable def yQ:Entry Tryz.prog where
 f:=270
 fn l:=match l with
  |[.int .i64 i]=>some (i<=64,.int .u64 (U (uL i.toNat)))
  | _=>none
 ok args pre v h hp w:=by
  split at h
  ·rename_i i
   cases h
   exact aO (Rj i hp w)
  ·cases h
noncomputable def C1:dD Tryz.prog:={C0 with qc:=[qB,MJ,yP,yQ]}
theorem Nu (low size:Int) (w:World) (Post:Int->World->Prop):(aH C1 (fun _=>[]) 282 [.int .i64 low,.int .i64 size] w Post)=(
 True/\aB (!bU low size) (aj w fun w1=>Post 0 w1) (0<=bL .i64 64 size/\0<=low/\aj w fun w1=>Post (Ah .u64 (BP .u64 18446744073709551615 (bL .i64 64 size)) low) w1)):=by kernel_rfl
def tD:Nat->aQ:=(fun|3=>[(7,Go.RX.El.one (Go.RX.Sc.int Go.IntKind.u64)),(8,Go.RX.El.one (Go.RX.Sc.int Go.IntKind.i64))]| _=>[])
theorem Nv (v low size:Int) (w:World) (Post:Int->World->Prop):(aH C1 tD 256 [.int .u64 v,.int .i64 low,.int .i64 size] w Post)=(
 ∃(I:Nat->Int×Int×Unit->World->Prop),(∃n, ∀w1,Ext w w1->I n (0,0,Unit.unit) w1)/\ ∀(n:Nat) (s:Int×Int×Unit) (w1:World),I n s w1->(decide (s.2.1<size)=true->True)/\aB (decide (s.2.1<size)&&bU low size) ((U (B v)=v/\au .i64 low s.2.1<=64)/\aB ((B v).getLsbD (au .i64 low s.2.1).toNat) (s.2.1<=64/\ ∀w3,Ext w1 w3-> ∃(n':Nat),n'<n/\I n' (au .u64 s.1 (U (uL (Int.toNat s.2.1))),au .i64 s.2.1 1,Unit.unit) w3) (∀w3,Ext w1 w3-> ∃(n':Nat),n'<n/\I n' (s.1,au .i64 s.2.1 1,Unit.unit) w3)) (aj w1 fun w1=>Post s.1 w1)):=
 by kernel_rfl
theorem Nw (lo sz:Int) (w:World):an Tryz.prog 282 (.el (.one (.int .u64))) [.int .i64 lo,.int .i64 sz] w (fun x w'=>x=U (fC lo sz)/\Ext w w'):=by
 refine ai (C:=C1) (aJ:=fun _=>[]) (Eq.mpr (Nu lo sz w _) ⟨trivial,?_⟩)
 refine aa (fun h=>?_) (fun h=>?_)
 ·intro w1 h1
  refine⟨?_,h1⟩
  rw[pX (by simpa using h)];rfl
 ·have h':bU lo sz=true:=by simpa using h
  have h2:=fU.1 h'
  refine⟨by rw[bS (by omega) (by omega)];omega,h2.1,fun w1 h1=>⟨CF h',h1⟩⟩
noncomputable def sY:Entry Tryz.prog where
 f:=282
 fn l:=match l with
  |[.int .i64 lo,.int .i64 sz]=>some (True,.int .u64 (U (fC lo sz)))
  | _=>none
 ok args pre v h hp w:=by
  split at h
  ·rename_i lo sz
   cases h
   exact aO (Nw lo sz w)
  ·cases h
theorem upto {lo sz:Int} (k:Nat) (h:(decide ((k:Int)<sz)&&bU lo sz)=true):bU lo sz=true/\lo.toNat+k<64/\k<sz.toNat/\au .i64 lo (k:Int)=((lo.toNat+k:Nat):Int)/\au .i64 (k:Int) 1=((k+1:Nat):Int):=by
 simp only[Bool.and_eq_true,decide_eq_true_eq] at h
 obtain⟨h1,h2⟩:=h
 have h3:=fU.1 h2
 refine⟨h2,by omega,by omega,?_,?_⟩
 ·rw[ar (by omega) (by omega)];omega
 ·rw[ar (by omega) (by omega)];omega
theorem J7 {lo sz:Int} {k:Nat} (hk:k<=sz.toNat) (h:(decide ((k:Int)<sz)&&bU lo sz)=false) (hf:bU lo sz=true):k=sz.toNat:=by
 simp only[hf,Bool.and_true,decide_eq_false_iff_not] at h
 omega
theorem Nx (v:BitVec 64) (lo sz:Int) (w:World):an Tryz.prog 256 (.el (.one (.int .u64))) [.int .u64 (U v),.int .i64 lo,.int .i64 sz] w (fun x w'=>x=U (cP v lo sz)/\Ext w w'):=by
 refine ai (C:=C1) (aJ:=tD) (Eq.mpr (Nv (U v) lo sz w _) ?_)
 refine⟨fun n s w'=>Ext w w'/\ ∃k:Nat,s.2.1=k/\n+k=sz.toNat/\s.1=U (if bU lo sz=true then Gk v lo.toNat k else 0#64),⟨sz.toNat,fun w1 h1=>⟨h1,0,rfl,rfl,by rw[Nq];simp;rfl⟩⟩,?_⟩
 rintro n ⟨x,j,u⟩ w1 ⟨hw,k,hk,hn,hx⟩
 simp only at hk hx
 subst hk;subst hx
 dsimp only
 refine⟨fun _=>trivial,aa (fun h=>?_) (fun h=>?_)⟩
 ·obtain⟨hf,h1,h2,h3,h4⟩:=upto k h
  rw[if_pos hf,h3,uF]
  refine⟨⟨rfl,by omega⟩,aa (fun hb=>⟨by omega,fun w3 qm=>⟨n - 1,by omega,hw.trans qm,k+1,h4,by omega,?_⟩⟩) (fun hb=>fun w3 qm=>⟨n - 1,by omega,hw.trans qm,k+1,h4,by omega,?_⟩)⟩
  ·show au .u64 _ _= _
   rw[Q9,if_pos hf,Int.toNat_natCast,Ra h1 (by rw[Int.toNat_natCast] at hb;exact hb)]
  ·show U _= _
   rw[if_pos hf,Nr h1 (by rw[Int.toNat_natCast] at hb;exact hb)]
 ·intro w2 h2
  refine⟨?_,hw.trans h2⟩
  by_cases hf:bU lo sz=true
  ·rw[if_pos hf,Ea hf,J7 (by omega) h hf]
  ·rw[if_neg hf,Fw (by simpa using hf)]
noncomputable def sZ:Entry Tryz.prog where
 f:=256
 fn l:=match l with
  |[.int .u64 v,.int .i64 lo,.int .i64 sz]=>some (U (B v)=v,.int .u64 (U (cP (B v) lo sz)))
  | _=>none
 ok args pre v h hp w:=by
  split at h
  ·rename_i v lo sz
   cases h
   have:=aO (Nx (B v) lo sz w)
   rw[hp] at this;exact this
  ·cases h
noncomputable def C2:dD Tryz.prog:={C0 with qc:=[qB,MJ,yP,yQ,sY,sZ]}
theorem Rk (v low size:Int) (w:World) (Post:Int->World->Prop):(aH C2 (fun _=>[]) 265 [.int .u64 v,.int .i64 low,.int .i64 size] w Post)=(
 True/\0<=Ai 0 (jb low 63)/\aj w fun w1=>Post (BP .u64 (mR .u64 v (U (fC low size))) (Ai 0 (jb low 63))) w1):=by kernel_rfl
theorem Rl (v low size x:Int) (w:World) (Post:Int->World->Prop):(aH C2 (fun _=>[]) 271 [.int .u64 v,.int .i64 low,.int .i64 size,.int .u64 x] w Post)=(
 True/\aB (U (fC low size)==0) (aj w fun w1=>Post v w1) (0<=low/\aj w fun w1=>Post (PM .u64 (ji .u64 v (U (fC low size))) (mR .u64 (Ah .u64 x low) (U (fC low size)))) w1)):=by kernel_rfl
theorem Rm (v:BitVec 64) (lo sz:Int) (w:World):an Tryz.prog 265 (.el (.one (.int .u64))) [.int .u64 (U v),.int .i64 lo,.int .i64 sz] w (fun x w'=>x=U (cP v lo sz)/\Ext w w'):=by
 refine ai (C:=C2) (aJ:=fun _=>[]) (Eq.mpr (Rk (U v) lo sz w _) ⟨trivial,by unfold Ai;split<;>omega,fun w1 h1=>⟨?_,h1⟩⟩)
 rw[Ji,Jk];rfl
theorem Ro (v:BitVec 64) (lo sz:Int) (x:BitVec 64) (w:World):an Tryz.prog 271 (.el (.one (.int .u64))) [.int .u64 (U v),.int .i64 lo,.int .i64 sz,.int .u64 (U x)] w (fun y w'=>y=U (qt v lo sz x)/\Ext w w'):=by
 refine ai (C:=C2) (aJ:=fun _=>[]) (Eq.mpr (Rl (U v) lo sz (U x) w _) ⟨trivial,?_⟩)
 have hz:(U (fC lo sz)==0)=decide (fC lo sz=0#64):=by
  have:(U (fC lo sz)=0)<->fC lo sz=0#64:=by rw[show(0:Int)=U 0#64 from rfl,T6]
  by_cases h:fC lo sz=0#64
  ·rw[this.2 h,h];rfl
  ·have h': ¬ U (fC lo sz)=0:=fun e=>h (this.1 e)
   simp[h,h']
 rw[hz]
 refine aa (fun h=>fun w1 h1=>⟨?_,h1⟩) (fun h=>?_)
 ·simp only[decide_eq_true_eq] at h
  unfold qt;rw[if_pos h]
 ·simp only[decide_eq_false_iff_not] at h
  have hf:bU lo sz=true:=by
   cases hf:bU lo sz with
   |true=>rfl
   |false=>exact absurd (pX hf) h
  refine⟨(fU.1 hf).1,fun w1 h1=>⟨?_,h1⟩⟩
  rw[Ft,Jj,Ji,T7]
  unfold qt;rw[if_neg h]
noncomputable def BU:Entry Tryz.prog where
 f:=265
 fn l:=match l with
  |[.int .u64 v,.int .i64 lo,.int .i64 sz]=>some (U (B v)=v,.int .u64 (U (cP (B v) lo sz)))
  | _=>none
 ok args pre v h hp w:=by
  split at h
  ·rename_i v lo sz
   cases h
   have:=aO (Rm (B v) lo sz w)
   rw[hp] at this;exact this
  ·cases h
noncomputable def BV:Entry Tryz.prog where
 f:=271
 fn l:=match l with
  |[.int .u64 v,.int .i64 lo,.int .i64 sz,.int .u64 x]=>some (U (B v)=v/\U (B x)=x,.int .u64 (U (qt (B v) lo sz (B x))))
  | _=>none
 ok args pre v h hp w:=by
  split at h
  ·rename_i v lo sz x
   cases h
   have:=aO (Ro (B v) lo sz (B x) w)
   rw[hp.1,hp.2] at this;exact this
  ·cases h
noncomputable def C3:dD Tryz.prog:={C0 with qc:=[qB,MJ,yP,yQ,sY,sZ,BU,BV]}
end Go.Proofs.YtdnoecpjcoibmaaGreat
namespace Go.Proofs.YtdnoecpjcoibmaaGreat
set_option maxRecDepth 100000
open Go.RX
def tF:Nat->aQ:=(fun|4=>[(3,Go.RX.El.one (Go.RX.Sc.int Go.IntKind.u64)),(4,Go.RX.El.one (Go.RX.Sc.int Go.IntKind.i64)),(9,Go.RX.El.one (Go.RX.Sc.int Go.IntKind.i64))]| _=>[])
theorem Ny (p:Option Addr) (n c:Nat) (w:World) (Post:Int->World->Prop):(aH C3 tF 259 [.slice p n c] w Post)=(
 ∃(I:Nat->Int×Int×Int×Unit->World->Prop),(∃n, ∀w1,Ext w w1->I n (0,0,0,Unit.unit) w1)/\ ∀(n_1:Nat) (s:Int×Int×Int×Unit) (w1:World),I n_1 s w1->aB (decide (s.2.2.1<(↑n:Int))) ((p.isSome=true/\0<=s.2.2.1/\s.2.2.1<(↑n:Int))/\ag w1 none (af p (Int.toNat s.2.2.1*2)) (.agg [.int .u64,.int .i64]) fun(x:Int×Int×Unit)=>aA w1 ⟨[.int .u64 0,.int .i64 0]⟩ 301 fun b w2=>av w2 (some ⟨b,0,none⟩) [.int .u64 x.1,.int .i64 x.2.1] fun w2=>true=true/\ag w2 none (af (some ⟨b,0,none⟩) 1) (.one (.int .i64)) fun(x:Int)=>True/\
 aB (!bU s.2.1 x) (aj w2 fun w1=>Post 0 w1) (true=true/\ag w2 none (af (some ⟨b,0,none⟩) 1) (.one (.int .i64)) fun(x:Int)=>true=true/\ag w2 none (af (some ⟨b,0,none⟩) 0) (.one (.int .u64)) fun(x_1:Int)=>(U (B s.1)=s.1/\U (B x_1)=x_1)/\true=true/\ag w2 none (af (some ⟨b,0,none⟩) 1) (.one (.int .i64)) fun(x_2:Int)=> ∀w3,Ext w2 w3-> ∃(n':Nat),n'<n_1/\I n' (U (qt (B s.1) s.2.1 x (B x_1)),au .i64 s.2.1 x_2,au .i64 s.2.2.1 1,Unit.unit) w3)) (aj w1 fun w1=>Post s.1 w1)):=by kernel_rfl
def ru:Nat->aQ:=(fun|4=>[(5,Go.RX.El.one Go.RX.Sc.slice),(6,Go.RX.El.one (Go.RX.Sc.int Go.IntKind.i64)),(11,Go.RX.El.one (Go.RX.Sc.int Go.IntKind.i64))]| _=>[])
theorem J8 (v:Int) (p:Option Addr) (n c:Nat) (w:World) (Post:Option Addr×Nat×Nat->World->Prop):(aH C3 ru 251 [.int .u64 v,.slice p n c] w Post)=(
 ∃(I:Nat->(Option Addr×Nat×Nat)×Int×Int×Unit->World->Prop),(∃n, ∀w1,Ext w w1->I n ((none,0,0),0,0,Unit.unit) w1)/\ ∀(n_1:Nat) (s:(Option Addr×Nat×Nat)×Int×Int×Unit) (w1:World),I n_1 s w1->aB (decide (s.2.2.1<(↑n:Int))) ((p.isSome=true/\0<=s.2.2.1/\s.2.2.1<(↑n:Int))/\ag w1 none (af p (Int.toNat s.2.2.1*1)) (.one (.int .i64)) fun(x:Int)=>True/\aB (!bU s.2.1 x) (aj w1 fun w1=>Post (none,0,0) w1) (U (B v)=v/\aA w1 ⟨[.int .u64 (U (cP (B v) s.2.1 x))]⟩ 29 fun b w2=> ∀w1,Ext w2 w1->tV w1 29 1 8 ⟨[.int .u64 0]⟩
 (s.1.1,s.1.2.1,s.1.2.2) (some ⟨b,0,none⟩,1,1) fun(r:Option Addr×Nat×Nat) w2=> ∀w3,Ext w2 w3-> ∃(n':Nat),n'<n_1/\I n' ((r.1,r.2.1,r.2.2),au .i64 s.2.1 x,au .i64 s.2.2.1 1,Unit.unit) w3)) (aj w1 fun w1=>Post (s.1.1,s.1.2.1,s.1.2.2) w1)):=by kernel_rfl
def rz:Nat->aQ:=(fun|4=>[(5,Go.RX.El.one (Go.RX.Sc.int Go.IntKind.i64))]| _=>[])
theorem J9 (p q:Option Addr) (n c m d:Nat) (w:World) (Post:Bool->World->Prop):(aH C3 rz 28 [.slice p n c,.slice q m d] w Post)=(
 aB ((↑n:Int) != (↑m:Int)) (aj w fun w1=>Post false w1) (∃(I:Nat->Int×Unit->World->Prop),(∃n, ∀w1,Ext w w1->I n (0,Unit.unit) w1)/\ ∀(n_1:Nat) (s:Int×Unit) (w1:World),I n_1 s w1->aB (decide (s.1<(↑n:Int))) ((p.isSome=true/\0<=s.1/\s.1<(↑n:Int))/\ag w1 none (af p (Int.toNat s.1*1)) (.one (.int .u64)) fun(x:Int)=>(q.isSome=true/\0<=s.1/\s.1<(↑m:Int))/\ag w1 none (af q (Int.toNat s.1*1)) (.one (.int .u64)) fun(x_1:Int)=>aB (x != x_1) (aj w1 fun w1=>Post false w1) (∀w3,Ext w1 w3-> ∃(n':Nat),n'<n_1/\I n'
 (au .i64 s.1 1,Unit.unit) w3)) (aj w1 fun w1=>Post true w1))):=by kernel_rfl
abbrev eI:El:= .one (.int .i64)
abbrev eU:El:= .one (.int .u64)
abbrev eP:El:= .agg [.int .u64,.int .i64]
theorem J_ {p q:Option Addr} {n c m d:Nat} {w:World} {xs ys:List Int} (hx:Sl w eU p xs) (hn:n=xs.length) (hy:Sl w eU q ys) (hm:m=ys.length) (hb:n<4611686018427387904):
 an Tryz.prog 28 (.el (.one .bool)) [.slice p n c,.slice q m d] w (fun b w'=>b=decide (xs=ys)/\Ext w w'):=by
 refine ai (C:=C3) (aJ:=rz) (Eq.mpr (J9 p q n c m d w _) ?_)
 refine aa (fun h w1 h1=>⟨?_,h1⟩) (fun h=>?_)
 ·have:xs≠ys:=fun e=>by subst e;simp[hn,hm] at h
  simp[this]
 ·have hnm:n=m:=by simp at h;omega
  refine⟨fun k s w'=>Ext w w'/\ ∃i:Nat,s.1=i/\k+i=n/\ ∀j,j<i->xs[j]? =ys[j]?,⟨n,fun w1 h1=>⟨h1,0,rfl,rfl,fun j hj=>absurd hj (by omega)⟩⟩,?_⟩
  rintro k ⟨i',u⟩ w1 ⟨hw,i,hi,hk,hj⟩
  simp only at hi
  subst hi
  dsimp only
  refine aa (fun h=>?_) (fun h=>fun w2 h2=>⟨?_,hw.trans h2⟩)
  ·simp only[decide_eq_true_eq] at h
   have h1:i<xs.length:=by omega
   have h2:i<ys.length:=by omega
   have a1:=(hx.ext hw) i xs[i] (List.getElem?_eq_getElem h1)
   have a2:=(hy.ext hw) i ys[i] (List.getElem?_eq_getElem h2)
   refine⟨⟨a1.1,by omega,by omega⟩,xs[i],a1.2,⟨a2.1,by omega,by omega⟩,ys[i],a2.2,aa (fun hne w2 sM=>⟨?_,hw.trans sM⟩) (fun he w2 sM=>⟨k - 1,by omega,hw.trans sM,i+1,?_,by omega,?_⟩)⟩
   ·have:xs≠ys:=fun e=>by subst e;simp at hne
    simp[this]
   ·show au _ _ _= _
    rw[ar (by omega) (by omega)];rfl
   ·intro j hj'
    by_cases e:j=i
    ·subst e
     rw[List.getElem?_eq_getElem h1,List.getElem?_eq_getElem h2]
     simpa using he
    ·exact hj j (by omega)
  ·simp only[decide_eq_false_iff_not] at h
   have:xs=ys:=by
    apply List.ext_getElem?
    intro j
    by_cases e:j<i
    ·exact hj j e
    ·rw[List.getElem?_eq_none (by omega),List.getElem?_eq_none (by omega)]
   simp[this]
def oK:BitVec 64->Int->List (BitVec 64×Int)->BitVec 64
 |w, _,[]=>w
 |w,lo,(v,sz)::r=>if bU lo sz=true then oK (qt w lo sz v) (lo+sz) r else 0#64
def Ix (l:List (BitVec 64×Int)):List (Int×Int×Unit):=l.map fun x=>(U x.1,x.2,())
theorem AM {α:Type} {l:List α} {i:Nat} (h:i<l.length):l.drop i=l[i]::l.drop (i+1):=List.drop_eq_getElem_cons h
theorem Nz {p:Option Addr} {n c:Nat} {w:World} {xs:List (BitVec 64×Int)} (hx:Sl w eP p (Ix xs)) (hn:n=xs.length) (hb:n<4611686018427387904):
 an Tryz.prog 259 (.el eU) [.slice p n c] w (fun x w'=>x=U (oK 0#64 0 xs)/\Ext w w'):=by
 refine ai (C:=C3) (aJ:=tF) (Eq.mpr (Ny p n c w _) ?_)
 refine⟨fun k s w'=>Ext w w'/\ ∃(i:Nat) (b:BitVec 64),s.1=U b/\s.2.2.1=i/\k+i=n/\0<=s.2.1/\s.2.1<=64/\oK b s.2.1 (xs.drop i)=oK 0#64 0 xs,⟨n,fun w1 h1=>⟨h1,0,0#64,rfl,rfl,rfl,by decide,by decide,rfl⟩⟩,?_⟩
 rintro k ⟨x,lo,i',u⟩ w1 ⟨hw,i,b,h1,h2,hk,hlo,hhi,hp⟩
 simp only at h1 h2 hlo hhi hp
 subst h1;subst h2
 dsimp only
 refine aa (fun h=>?_) (fun h=>fun w2 h2=>⟨?_,hw.trans h2⟩)
 ·simp only[decide_eq_true_eq] at h
  have hi:i<xs.length:=by omega
  have hg:(Ix xs)[i]? =some (U xs[i].1,xs[i].2,()):=by simp[Ix,hi]
  have a1:=(hx.ext hw) i _ hg
  rw[AM hi] at hp
  refine⟨⟨a1.1,by omega,by omega⟩, _,a1.2,fun wA hA wB hB=>?_⟩
  have cY:aY wB wA.heap.size [.int .u64 0,.int .i64 0]:=(aY.new wA _ _).ext hB
  have XO:Ext w wA:=hw.trans hA
  have YR:Ext w wB:=(XO.cR _).trans hB
  have QI:=cY.put (o:=0) [Value.int .u64 (U xs[i].1),Value.int .i64 xs[i].2] (by simp)
  simp at QI
  have XP:Ext w (fM wB (some ⟨wA.heap.size,0,none⟩) [Value.int .u64 (U xs[i].1),Value.int .i64 xs[i].2]):=YR.fM (a:=⟨wA.heap.size,0,none⟩) XO.size _
  have r0:cg (fM wB (some ⟨wA.heap.size,0,none⟩) [Value.int .u64 (U xs[i].1),Value.int .i64 xs[i].2]) (af (some ⟨wA.heap.size,0,none⟩) 0) (.one (.int .u64)) (U xs[i].1):=by
   rw[aK];exact QI.lG rfl
  have r1:cg (fM wB (some ⟨wA.heap.size,0,none⟩) [Value.int .u64 (U xs[i].1),Value.int .i64 xs[i].2]) (af (some ⟨wA.heap.size,0,none⟩) 1) (.one (.int .i64)) xs[i].2:=by
   rw[aK];exact QI.lG rfl
  refine⟨⟨rfl,cY.st (by simp)⟩,rfl, _,r1,trivial,aa (fun hf w2 sM=>⟨?_,XP.trans sM⟩) (fun hf=>⟨rfl, _,r1,rfl, _,r0,⟨by rw[uF],by rw[uF]⟩,rfl, _,r1,fun w3 qm=>⟨k - 1,by omega,XP.trans qm,i+1,qt b lo xs[i].2 xs[i].1,?_,?_,by omega,?_,?_,?_⟩⟩)⟩
  ·have hf':bU lo xs[i].2=false:=by simpa using hf
   rw[<-hp]
   simp only[oK,hf'];rfl
  all_goals
   have hf':bU lo xs[i].2=true:=by simpa using hf
   have h3:=fU.1 hf'
  ·show U _= _
   rw[uF,uF]
  ·show au _ _ _= _
   rw[ar (by omega) (by omega)];rfl
  ·show 0<=au .i64 lo _
   rw[ar (by omega) (by omega)];omega
  ·show au .i64 lo _<=64
   rw[ar (by omega) (by omega)];omega
  ·show oK _ (au .i64 lo _) _= _
   rw[ar (by omega) (by omega), <-hp]
   simp only[oK,hf',if_true]
 ·simp only[decide_eq_false_iff_not] at h
  rw[List.drop_eq_nil_of_le (by omega)] at hp
  rw[<-hp];rfl
def kA (w:BitVec 64):Int->List Int->Option (List (BitVec 64))
 | _,[]=>some []
 |lo,sz::r=>if bU lo sz=true then(kA w (lo+sz) r).map (cP w lo sz:: ·) else none
def yR (l:List (BitVec 64)):List Int:=l.map U
theorem J' {v:BitVec 64} {p:Option Addr} {n c:Nat} {w:World} {xs:List Int} (hx:Sl w eI p xs) (hn:n=xs.length) (hb:n<=1000):
 an Tryz.prog 251 (.el (.one .slice)) [.int .u64 (U v),.slice p n c] w (fun r w'=>iM w w' eU r (yR ((kA v 0 xs).getD []))/\Ext w w'):=by
 refine ai (C:=C3) (aJ:=ru) (Eq.mpr (J8 (U v) p n c w _) ?_)
 refine⟨fun k s w'=>Ext w w'/\ ∃(i:Nat) (acc:List (BitVec 64)),s.2.2.1=i/\k+i=n/\0<=s.2.1/\s.2.1<=64/\acc.length=i/\iM w w' eU s.1 (yR acc)/\kA v 0 xs=(kA v s.2.1 (xs.drop i)).map (acc++ ·),⟨n,fun w1 h1=>⟨h1,0,[],rfl,rfl,by decide,by decide,rfl,iM.nil w w1 eU,by simp⟩⟩,?_⟩
 rintro k ⟨s,lo,i',u⟩ w1 ⟨hw,i,acc,h2,hk,hlo,hhi,P2,ho,hp⟩
 simp only at h2 ho hlo hhi hp
 subst h2
 dsimp only
 refine aa (fun h=>?_) (fun h=>fun w2 h2=>⟨?_,hw.trans h2⟩)
 ·simp only[decide_eq_true_eq] at h
  have hi:i<xs.length:=by omega
  have a1:=(hx.ext hw) i _ (List.getElem?_eq_getElem hi)
  have i1:p.isSome=true/\(0:Int)<=i/\(i:Int)<n:=⟨a1.1,by omega,by omega⟩
  rw[AM hi] at hp
  refine⟨i1, _,a1.2,trivial,aa (fun hf w2 sM=>⟨?_,hw.trans sM⟩) (fun hf=>⟨by rw[uF],fun wA hA wB hB=>?_⟩)⟩
  ·have hf':bU lo xs[i]=false:=by simpa using hf
   simp only[kA,hf'] at hp
   rw[hp]
   exact iM.nil w w2 eU
  ·have hf':bU lo xs[i]=true:=by simpa using hf
   have h3:=fU.1 hf'
   have hl:(yR acc).length<=1000:=by simp[yR];omega
   refine J4 (e:=eU) (x:=U (cP (B (U v)) lo xs[i])) ho hw rfl hA hB rfl (by omega) fun s' w' ho' he' hf hs w3 qm=>⟨k - 1,by omega,he'.trans qm,i+1,acc++[cP v lo xs[i]],?_,by omega,?_,?_,by simp[P2],?_,?_⟩
   ·show au _ _ _= _
    rw[ar (by omega) (by omega)];rfl
   ·show 0<=au .i64 lo _
    rw[ar (by omega) (by omega)];omega
   ·show au .i64 lo _<=64
    rw[ar (by omega) (by omega)];omega
   ·rw[uF] at ho'
    have e1:yR (acc++[cP v lo xs[i]])=yR acc++[U (cP v lo xs[i])]:=by simp[yR]
    rw[e1]
    exact ho'.ext qm
   ·show _=(kA v (au .i64 lo _) _).map _
    rw[ar (by omega) (by omega),hp]
    simp only[kA,hf',if_true,Option.map_map]
    congr 1
    funext l
    simp
 ·simp only[decide_eq_false_iff_not] at h
  rw[List.drop_eq_nil_of_le (by omega)] at hp
  rw[hp]
  simp[kA]
  exact ho.ext h2
end Go.Proofs.YtdnoecpjcoibmaaGreat
namespace Go.RX
open Go.RowKit
def QJ (n:Nat) (w:World) (e:El) (s:Option Addr×Nat×Nat) (xs:List e.T):Prop:=
 s.2.1=xs.length/\xs.length<=s.2.2/\
 ((s.1=none/\xs=[]/\s.2.2=0)\/ ∃b l,s.1=some ⟨b,0,none⟩/\n<=b/\aY w b l/\l.length=s.2.2*aI e/\l.take (xs.length*aI e)=flat e xs)
theorem iM.VF {w0 w:World} {e:El} {s:Option Addr×Nat×Nat} {xs:List e.T} (h:iM w0 w e s xs):QJ w0.heap.size w e s xs:=h
theorem QJ.of {w0 w:World} {e:El} {s:Option Addr×Nat×Nat} {xs:List e.T} {n:Nat} (h:QJ n w e s xs) (hn:w0.heap.size<=n):iM w0 w e s xs:=by
 obtain⟨h1,h2,h3⟩:=h
 refine⟨h1,h2,?_⟩
 rcases h3 with h3|⟨b,l,a1,a2,a3,a4⟩
 ·exact .inl h3
 ·exact .inr ⟨b,l,a1,by omega,a3,a4⟩
def qC (n:Nat) (w:World):World:={w with heap:=w.heap.extract 0 n}
theorem fP {n:Nat} {w:World} (h:n<=w.heap.size):(qC n w).heap.size=n:=by
 simp[qC];omega
theorem od {n:Nat} {w:World} (h:n<=w.heap.size):Ext (qC n w) w:=by
 refine⟨rfl,rfl,rfl,?_,fun k hk=>?_⟩
 ·rw[fP h];exact h
 ·rw[fP h] at hk
  show w.heap[k]? =(w.heap.extract 0 n)[k]?
  rw[Array.getElem?_extract,if_pos (by omega),Nat.zero_add]
theorem wC {n:Nat} {w w':World} (h:n<=w.heap.size) (k:Ext (qC n w) w') (hs:w.heap.size<=w'.heap.size):Below n w w':=
 ⟨k.os,k.tape,k.output,hs,fun j hj=>by
  have h1:=k.block (k:=j) (by rw[fP h];exact hj)
  have h2:=(od h).block (k:=j) (by rw[fP h];exact hj)
  rw[h1,h2]⟩
end Go.RX
namespace Go.RowKit
open Go.RX
end Go.RowKit
namespace Go.RX
open Go.RowKit
structure Fr (G:List Nat) (w w':World):Prop where
 os:w'.os=w.os
 tape:w'.tape=w.tape
 output:w'.output=w.output
 size:w.heap.size<=w'.heap.size
 block: ∀k,k<w.heap.size->k∉G->w'.heap[k]? =w.heap[k]?
theorem Fr.refl (G:List Nat) (w:World):Fr G w w:=⟨rfl,rfl,rfl,Nat.le_refl _,fun _ _ _=>rfl⟩
theorem Fr.trans {G:List Nat} {a b c:World} (h:Fr G a b) (k:Fr G b c):Fr G a c:=
 ⟨k.os.trans h.os,k.tape.trans h.tape,k.output.trans h.output,Nat.le_trans h.size k.size,fun j hj hn=>(k.block j (Nat.lt_of_lt_of_le hj h.size) hn).trans (h.block j hj hn)⟩
theorem Fr.r8 {G:List Nat} {w w':World} (h:Ext w w'):Fr G w w':=⟨h.os,h.tape,h.output,h.size,fun _ hk _=>h.block hk⟩
theorem Fr.ext {w w':World} (h:Fr [] w w'):Ext w w':=⟨h.os,h.tape,h.output,h.size,fun k hk=>h.block k hk (by simp)⟩
theorem Fr.mono {G G':List Nat} {w w':World} (h:Fr G w w') (hs: ∀x∈G,x∈G'):Fr G' w w':=⟨h.os,h.tape,h.output,h.size,fun k hk hn=>h.block k hk fun hm=>hn (hs k hm)⟩
theorem Fr.cY {G:List Nat} {w w':World} (h:Fr G w w') {b:Nat} {l:List Value} (hb:b∉G) (k:aY w b l):aY w' b l:=k.same (h.block b k.lt hb)
theorem Fr.fM {G:List Nat} {w0 w:World} (h:Fr G w0 w) {a:Addr} (ha:w0.heap.size<=a.block\/a.block∈G) (vs:List Value):Fr G w0 (fM w (some a) vs):=by
 have env: ∀(vs:List Value) (w:World) (i:Nat),(putAt w a vs i).os=w.os/\(putAt w a vs i).tape=w.tape/\(putAt w a vs i).output=w.output:=by
  intro vs
  induction vs with
  |nil=>intro w i;exact⟨rfl,rfl,rfl⟩
  |cons v r ih=>
   intro w i
   have:=ih (w.setCell (a.add i) v) (i+1)
   simp only[putAt]
   exact this
 obtain⟨e1,e2,e3⟩:=env vs w 0
 refine⟨e1.trans h.os,e2.trans h.tape,e3.trans h.output,?_,fun k hk hn=>?_⟩
 ·show _<=(putAt w a vs 0).heap.size
  rw[pW];exact h.size
 ·have hne:k≠a.block:=by
   intro e
   rcases ha with ha|ha
   ·omega
   ·rw[<-e] at ha;exact hn ha
  exact(kY vs w a 0 k hne).trans (h.block k hk hn)
structure aF (D G:List Nat) (w0 w:World) (L:List (Nat×List Value)):Prop where
 fr:Fr G w0 w
 cY: ∀x∈L,aY w x.1 x.2
 own: ∀x∈L,w0.heap.size<=x.1\/x.1∈G
 nd:(L.map (·.1)).Nodup
 qi: ∀r∈D,w0.heap.size<=r/\w.heap[r]? =some (.deferred (some []))
abbrev At:=aF []
theorem At.start (G:List Nat) (w:World):At G w w [] where
 fr:=Fr.refl G w
 cY:=fun x hx=>by cases hx
 own:=fun x hx=>by cases hx
 nd:=List.nodup_nil
 qi:=fun x hx=>by cases hx
namespace aF
variable {D G:List Nat} {w0 w w1:World} {L:List (Nat×List Value)}
theorem ext (H:aF D G w0 w L) (h:Ext w w1):aF D G w0 w1 L:=
 ⟨H.fr.trans (.r8 h),fun x hx=>(H.cY x hx).ext h,H.own,H.nd,fun r hr=>⟨(H.qi r hr).1,h.obj (H.qi r hr).2⟩⟩
theorem all (H:aF D [] w0 w L):Ext w0 w:=H.fr.ext
theorem get (H:aF D G w0 w L) {i b:Nat} {l:List Value} (h:L[i]? =some (b,l)):aY w b l:=H.cY _ (List.mem_of_getElem? h)
theorem ne (H:aF D G w0 w L) {i j b c:Nat} {l m:List Value} (h:L[i]? =some (b,l)) (k:L[j]? =some (c,m)) (hij:i≠j):b≠c:=by
 intro e
 subst e
 have hi:i<L.length:=(List.getElem?_eq_some_iff.1 h).1
 have h1:(L.map (·.1))[i]? =some b:=by rw[List.getElem?_map,h];rfl
 have h2:(L.map (·.1))[j]? =some b:=by rw[List.getElem?_map,k];rfl
 exact hij ((List.getElem?_inj (by simpa using hi) H.nd).1 (h1.trans h2.symm))
theorem alloc (H:aF D G w0 w L) (cs:List Value) (t:TypeId):aF D G w0 (w.alloc (.cells ⟨cs⟩ t)) ((w.heap.size,cs)::L):=by
 have H1:=H.ext (Ext.alloc w (.cells ⟨cs⟩ t))
 refine⟨H1.fr,fun x hx=>?_,fun x hx=>?_,?_,H1.qi⟩
 ·rcases List.mem_cons.1 hx with rfl|hx
  ·exact aY.new w cs t
  ·exact H1.cY x hx
 ·rcases List.mem_cons.1 hx with rfl|hx
  ·exact .inl H.fr.size
  ·exact H1.own x hx
 ·refine List.nodup_cons.2 ⟨fun hm=>?_,H.nd⟩
  obtain⟨x,hx,e⟩:=List.mem_map.1 hm
  have:=(H.cY x hx).lt
  rw[e] at this
  exact Nat.lt_irrefl _ this
theorem r9 (H:aF D G w0 w L) (o:Obj):aF D G w0 (w.alloc o) L:=H.ext (Ext.alloc w o)
theorem cU {b r:Nat} {l:List Value} {o:Obj} (h:aY w b l) (k:w.heap[r]? =some o) (ho: ∀a t f,o≠ .cells a t f):b≠r:=by
 intro e
 subst e
 obtain⟨t,h⟩:=h
 rw[h] at k
 cases k
 exact ho _ _ _ rfl
theorem put (H:aF D G w0 w L) (i:Nat) {b o:Nat} {l:List Value} (h:L[i]? =some (b,l)) (vs:List Value) (hn:o+vs.length<=l.length):
 aF D G w0 (fM w (some ⟨b,o,none⟩) vs) (L.set i (b,l.take o++(vs++l.drop (o+vs.length)))):=by
 have hi:i<L.length:=(List.getElem?_eq_some_iff.1 h).1
 have hm:(b,l)∈L:=List.mem_of_getElem? h
 refine⟨H.fr.fM (a:=⟨b,o,none⟩) (H.own _ hm) vs,fun x hx=>?_,fun x hx=>?_,?_,fun r hr=>⟨(H.qi r hr).1,?_⟩⟩
 ·obtain⟨j,hj⟩:=List.getElem?_of_mem hx
  by_cases e:i=j
  ·subst e
   rw[List.getElem?_set_self hi] at hj
   cases hj
   exact(H.get h).put vs hn
  ·rw[List.getElem?_set_ne e] at hj
   have hne:x.1≠b:=fun e'=>by
    obtain⟨x1,x2⟩:=x
    exact H.ne hj h (fun e2=>e e2.symm) e'
   exact(H.cY x (List.mem_of_getElem? hj)).IT (a:=⟨b,o,none⟩) hne vs
 ·rcases List.mem_or_eq_of_mem_set hx with hx|rfl
  ·exact H.own x hx
  ·exact H.own (b,l) hm
 ·have:(L.set i (b,l.take o++(vs++l.drop (o+vs.length)))).map (·.1)=L.map (·.1):=by
   apply List.ext_getElem?
   intro j
   rw[List.getElem?_map,List.getElem?_map]
   by_cases e:i=j
   ·subst e;rw[List.getElem?_set_self hi,h];rfl
   ·rw[List.getElem?_set_ne e]
  rw[this];exact H.nd
 ·have hk:=(H.qi r hr).2
  have hne:r≠b:=fun e=>cU (H.get h) hk (fun _ _ _ hc=>by cases hc) e.symm
  rw[<-hk]
  exact kY vs w ⟨b,o,none⟩ 0 r hne
theorem old (H:aF D G w0 w L) {b:Nat} {l:List Value} (h:aY w0 b l) (hb:b∉G):aY w b l:=H.fr.cY hb h
theorem sub (H:aF D G w0 w L) {L':List (Nat×List Value)} (h:L'.Sublist L):aF D G w0 w L':=
 ⟨H.fr,fun x hx=>H.cY x (h.subset hx),fun x hx=>H.own x (h.subset hx),(h.map _).nodup H.nd,H.qi⟩
theorem perm (H:aF D G w0 w L) {L':List (Nat×List Value)} (h:L'.Perm L):aF D G w0 w L':=
 ⟨H.fr,fun x hx=>H.cY x (h.subset hx),fun x hx=>H.own x (h.subset hx),(h.map _).nodup_iff.2 H.nd,H.qi⟩
theorem frame (H:aF D G w0 w L) {G':List Nat} {L':List (Nat×List Value)} (h:Fr G' w w1) (hG: ∀x∈G',w0.heap.size<=x\/x∈G) (hD: ∀r∈D,r∉G') (hb: ∀x∈L',aY w1 x.1 x.2) (ho: ∀x∈L',w0.heap.size<=x.1\/x.1∈G) (hn:(L'.map (·.1)).Nodup):aF D G w0 w1 L':=
 ⟨⟨h.os.trans H.fr.os,h.tape.trans H.fr.tape,h.output.trans H.fr.output,Nat.le_trans H.fr.size h.size,fun k hk hkn=>(h.block k (Nat.lt_of_lt_of_le hk H.fr.size) (fun hm=>by
   rcases hG k hm with h1|h1
   ·omega
   ·exact hkn h1)).trans (H.fr.block k hk hkn)⟩,hb,ho,hn,fun r hr=>⟨(H.qi r hr).1,by rw[h.block r (Array.getElem?_eq_some_iff.1 (H.qi r hr).2).1 (hD r hr)];exact(H.qi r hr).2⟩⟩
theorem mod (H:aF D G w0 w L) (i:Nat) {b:Nat} {l l':List Value} (hL:L[i]? =some (b,l)) (h:Fr [b] w w1) (hb:aY w1 b l'):aF D G w0 w1 (L.set i (b,l')):=by
 have hi:i<L.length:=(List.getElem?_eq_some_iff.1 hL).1
 have hm:(b,l)∈L:=List.mem_of_getElem? hL
 refine H.frame h (fun x hx=>by rw[List.mem_singleton.1 hx];exact H.own (b,l) hm) (fun r hr hx=>?_) (fun x hx=>?_) (fun x hx=>?_) ?_
 ·rw[List.mem_singleton] at hx
  exact cU (H.get hL) (H.qi r hr).2 (fun _ _ _ hc=>by cases hc) hx.symm
 ·obtain⟨j,hj⟩:=List.getElem?_of_mem hx
  by_cases e:i=j
  ·subst e
   rw[List.getElem?_set_self hi] at hj
   cases hj
   exact hb
  ·rw[List.getElem?_set_ne e] at hj
   obtain⟨x1,x2⟩:=x
   have hne:x1≠b:=H.ne hj hL (fun e2=>e e2.symm)
   exact h.cY (by simpa using hne) (H.cY (x1,x2) (List.mem_of_getElem? hj))
 ·rcases List.mem_or_eq_of_mem_set hx with hx|rfl
  ·exact H.own x hx
  ·exact H.own (b,l) hm
 ·have:(L.set i (b,l')).map (·.1)=L.map (·.1):=by
   apply List.ext_getElem?
   intro j
   rw[List.getElem?_map,List.getElem?_map]
   by_cases e:i=j
   ·subst e;rw[List.getElem?_set_self hi,hL];rfl
   ·rw[List.getElem?_set_ne e]
  rw[this];exact H.nd
theorem again (H:aF D G w0 w L):At (L.map (·.1)) w w L where
 fr:=Fr.refl _ w
 cY:=H.cY
 own:=fun x hx=> .inr (List.mem_map.2 ⟨x,hx,rfl⟩)
 nd:=H.nd
 qi:=fun x hx=>by cases hx
theorem join {G':List Nat} {L':List (Nat×List Value)} (H:aF D G w0 w L) (hG: ∀x∈G',x∈L.map (·.1)) (K:At G' w w1 L'):aF D G w0 w1 L':=by
 have hown: ∀x∈G',w0.heap.size<=x\/x∈G:=fun x hx=>by
  obtain⟨y,hy,e⟩:=List.mem_map.1 (hG x hx)
  rw[<-e];exact H.own y hy
 refine H.frame K.fr hown (fun r hr hx=>?_) K.cY (fun x hx=>?_) K.nd
 ·obtain⟨y,hy,e⟩:=List.mem_map.1 (hG r hx)
  exact cU (H.cY y hy) (H.qi r hr).2 (fun _ _ _ hc=>by cases hc) e
 ·rcases K.own x hx with h1|h1
  ·exact .inl (Nat.le_trans H.fr.size h1)
  ·exact hown _ h1
theorem putObj (H:aF D G w0 w L) {l:Nat} (hl:w0.heap.size<=l) {o o':Obj} (ho:w.heap[l]? =some o) (hc: ∀a t f,o≠ .cells a t f) (hd:l∉D):aF D G w0 (w.putObj l o') L:=by
 refine⟨⟨H.fr.os,H.fr.tape,H.fr.output,by rw[putObj_size];exact H.fr.size,fun k hk hn=>?_⟩,fun x hx=>(H.cY x hx).putObj (cU (H.cY x hx) ho hc) _,H.own,H.nd,fun r hr=>⟨(H.qi r hr).1,?_⟩⟩
 ·rw[fo (by omega)];exact H.fr.block k hk hn
 ·rw[fo (fun e=>hd (by rw[<-e];exact hr))];exact(H.qi r hr).2
end aF
def lI (l:List Value) (o:Nat):(el:El)->Option el.T
 | .one s=>match l[o]? with
   |some v=>s.proj v
   |none=>none
 | .agg ss=>jX ss ((l.drop o).take ss.length)
theorem bY {w:World} {b o:Nat} {l:List Value} (h:aY w b l) {el:El} {x:el.T} (hx:lI l o el=some x):cg w (some ⟨b,o,none⟩) el x:=by
 cases el with
 |one s=>
  simp only[lI] at hx
  split at hx
  ·rename_i v hv
   exact h.lG (by rw[hv,Sc.gu hx])
  ·cases hx
 |agg ss=>
  simp only[lI] at hx
  have e:=nE hx
  refine h.MI fun i hi=>?_
  rw[e,List.getElem?_take_of_lt hi,List.getElem?_drop]
theorem ag.of {w:World} {g:Option Bool} {p:Option Addr} {el:El} {K:el.T->Prop} (x:el.T) (h:cg w p el x) (k:K x):ag w g p el K:=
 ⟨x,by cases g<;>first|exact h|exact fun _=>h,k⟩
theorem ay {b:Bool} {x y:Prop} (e:b=true) (h:x):aB b x y:=aa (fun _=>h) (fun c=>by rw[e] at c;cases c)
theorem ak {b:Bool} {x y:Prop} (e:b=false) (h:y):aB b x y:=aa (fun c=>by rw[e] at c;cases c) (fun _=>h)
section
variable {D G:List Nat} {w0 w:World} {L:List (Nat×List Value)}
theorem ag.at (i:Nat) (H:aF D G w0 w L) {g:Option Bool} {el:El} {K:el.T->Prop} {b o:Nat} {l:List Value} {x:el.T} (hL:L[i]? =some (b,l)) (hv:lI l o el=some x) (k:K x):ag w g (some ⟨b,o,none⟩) el K:=
 .of x (bY (H.get hL) hv) k
theorem ag.bP (i:Nat) (H:aF D G w0 w L) {g:Option Bool} {el:El} {K:el.T->Prop} {b o n:Nat} {l:List Value} {x:el.T} (hL:L[i]? =some (b,l)) (hv:lI l (o+n) el=some x) (k:K x):ag w g (af (some ⟨b,o,none⟩) n) el K:=by
 rw[aK];exact .at i H hL hv k
theorem aA.go (H:aF D G w0 w L) {cs:List Value} {e:TypeId} {K:Nat->World->Prop} (k: ∀b w1,aF D G w0 w1 ((b,cs)::L)->K b w1):aA w ⟨cs⟩ e K:=
 fun _ h=>k _ _ ((H.ext h).alloc cs e)
theorem av.at (i:Nat) (H:aF D G w0 w L) {b o:Nat} {l vs:List Value} {K:World->Prop} (hL:L[i]? =some (b,l)) (ho:vs.all (·.oneCell')=true) (hn:o+vs.length<=l.length)
 (k: ∀w1,aF D G w0 w1 (L.set i (b,l.take o++(vs++l.drop (o+vs.length))))->K w1):av w (some ⟨b,o,none⟩) vs K:=
 fun _ h=>⟨⟨ho,((H.ext h).get hL).st hn⟩,k _ ((H.ext h).put i hL vs hn)⟩
theorem av.all (i:Nat) (H:aF D G w0 w L) {b:Nat} {l vs:List Value} {K:World->Prop} (hL:L[i]? =some (b,l)) (ho:vs.all (·.oneCell')=true) (hn:vs.length=l.length)
 (k: ∀w1,aF D G w0 w1 (L.set i (b,vs))->K w1):av w (some ⟨b,0,none⟩) vs K:=by
 refine av.at i H hL ho (by omega) fun w1 h1=>k w1 ?_
 rw[Nat.zero_add,hn,List.drop_length,List.append_nil,List.take_zero,List.nil_append] at h1
 exact h1
theorem av.one (i:Nat) (H:aF D G w0 w L) {b o:Nat} {l:List Value} {x:Value} {K:World->Prop} (hL:L[i]? =some (b,l)) (ho:x.oneCell'=true) (hn:Nat.blt o l.length=true)
 (k: ∀w1,aF D G w0 w1 (L.set i (b,l.set o x))->K w1):av w (some ⟨b,o,none⟩) [x] K:=by
 have hn:o<l.length:=by simpa[Nat.blt_eq] using hn
 refine av.at i H hL (by simp[ho]) (by simp only[List.length_singleton];omega) fun w1 h1=>k w1 ?_
 rw[show l.set o x=l.take o++([x]++l.drop (o+[x].length)) from by simp[List.set_eq_take_append_cons_drop,hn]]
 exact h1
theorem av.dJ (i:Nat) (H:aF D G w0 w L) {b o n:Nat} {l:List Value} {x:Value} {K:World->Prop} (hL:L[i]? =some (b,l)) (ho:x.oneCell'=true) (hn:Nat.blt (o+n) l.length=true)
 (k: ∀w1,aF D G w0 w1 (L.set i (b,l.set (o+n) x))->K w1):av w (af (some ⟨b,o,none⟩) n) [x] K:=by
 rw[aK];exact av.one i H hL ho hn k
theorem aj.go (H:aF D G w0 w L) {K:World->Prop} (k: ∀w1,aF D G w0 w1 L->K w1):aj w K:=fun _ h=>k _ (H.ext h)
theorem az.go (H:aF D G w0 w L) {P:Program} {f:FuncId} {s:Sh} {args:List Value} {K:s.T->World->Prop} (k: ∀w1,aF D G w0 w1 L->an P f s args w1 K):az P f s args w K:=fun _ h=>k _ (H.ext h)
end
end Go.RX
namespace Go.RX
open Go.RowKit
variable {D G:List Nat} {w0 wb w w' w1:World} {L Lb:List (Nat×List Value)}
theorem aF.then (Hb:aF D G w0 wb L) (H:At [] wb w Lb):aF D G w0 w L:=Hb.ext H.all
theorem aF.below (H:aF D G w0 w []) (h:Below w0.heap.size w w') (hs:w.heap.size<=w'.heap.size) (hD:D=[]):aF D G w0 w' [] where
 fr:=⟨h.os.trans H.fr.os,h.tape.trans H.fr.tape,h.output.trans H.fr.output,Nat.le_trans H.fr.size hs,fun k hk hn=>(h.block k hk).trans (H.fr.block k hk hn)⟩
 cY:=fun x hx=>by cases hx
 own:=fun x hx=>by cases hx
 nd:=List.nodup_nil
 qi:=fun x hx=>by rw[hD] at hx;cases hx
theorem At.Ua (i:Nat) (Hb:At G w0 wb []) {e:El} {s:Option Addr×Nat×Nat} {xs:List e.T} (ho:iM w0 wb e s xs) (H:At [] wb w Lb)
 {b:Nat} {l:List Value} (x:e.T) (hL:Lb[i]? =some (b,l)) (hl:l=cellsOf e x) (hp:kz e=true) {t:TypeId} {size bytes:Nat} {z:Array Value} (hsz:size=aI e) (hz:z.size=aI e) (hb:(xs.length+1)*bytes<=140737488355328)
 {R:Option Addr×Nat×Nat->World->Prop} (k: ∀s' w',At G w0 w' []->iM w0 w' e s' (xs++[x])->R s' w'):
 tV w t size bytes z s (some ⟨b,0,none⟩,1,1) R:=by
 subst hsz;subst hl
 have hn:w0.heap.size<=w.heap.size:=Nat.le_trans Hb.fr.size H.fr.size
 have Pa:iM (qC w0.heap.size w) w e s xs:=((ho.ext H.all).VF).of (Nat.le_of_eq (fP hn))
 refine jN (ys:=[x]) Pa (od hn) hp rfl ?_ hz hb fun s' w' ho' he' _ hs _=>k s' w' ((Hb.then H).below (wC hn he' hs) hs rfl) ?_
 ·refine(H.get hL).yG (aG e [x]) fun j hj=>?_
  simp[flat]
 ·have:=ho'.VF
  rw[fP hn] at this
  exact this
theorem ag.old (H:aF D G w0 w L) {b o:Nat} {l:List Value} (h:aY w0 b l) (hb:b∉G) {g:Option Bool} {el:El} {K:el.T->Prop} {x:el.T} (hv:lI l o el=some x) (k:K x):ag w g (some ⟨b,o,none⟩) el K:=
 .of x (bY (H.old h hb) hv) k
theorem ag.jd (H:aF D G w0 w L) {b o n:Nat} {l:List Value} (h:aY w0 b l) (hb:b∉G) {g:Option Bool} {el:El} {K:el.T->Prop} {x:el.T} (hv:lI l (o+n) el=some x) (k:K x):ag w g (af (some ⟨b,o,none⟩) n) el K:=by
 rw[aK];exact .old H h hb hv k
theorem iM.start (w0 w:World) (e:El):iM w0 w e (none,0,0) []:=iM.nil w0 w e
theorem aF.more (H:aF D G w0 w L) (h:Ext w w') {b:Nat} {l:List Value} (hb:w.heap.size<=b) (k:aY w' b l):aF D G w0 w' ((b,l)::L):=by
 have H1:=H.ext h
 refine⟨H1.fr,fun x hx=>?_,fun x hx=>?_,?_,H1.qi⟩
 ·rcases List.mem_cons.1 hx with rfl|hx
  ·exact k
  ·exact H1.cY x hx
 ·rcases List.mem_cons.1 hx with rfl|hx
  ·exact .inl (Nat.le_trans H.fr.size hb)
  ·exact H1.own x hx
 ·refine List.nodup_cons.2 ⟨fun hm=>?_,H.nd⟩
  obtain⟨x,hx,e⟩:=List.mem_map.1 hm
  have:=(H.cY x hx).lt
  rw[e] at this
  exact absurd this (Nat.not_lt.2 hb)
theorem aF.got (H:aF D G w0 w L) (h:Ext w w') {e:El} {r:Option Addr×Nat×Nat} {xs:List e.T} (ho:iM w w' e r xs) (hx:xs≠[]):
 ∃b c rest,r=(some ⟨b,0,none⟩,xs.length,c)/\aF D G w0 w' ((b,flat e xs++rest)::L):=by
 obtain⟨h1,h2,h3⟩:=ho
 obtain⟨p,n,c⟩:=r
 rcases h3 with ⟨_,h3, _⟩|⟨b,l,a1,a2,a3, _,a5⟩
 ·exact absurd h3 hx
 ·simp only at a1 h1
  subst a1;subst h1
  refine⟨b,c,l.drop (xs.length*aI e),rfl,H.more h a2 ?_⟩
  have el:l=flat e xs++l.drop (xs.length*aI e):=by rw[<-a5,List.take_append_drop]
  rw[<-el];exact a3
theorem gf {α:Sort _} {e:α} {K:α->Prop} (k:K e): ∀x,x=e->K x:=fun x hx=>by rw[hx];exact k
end Go.RX
namespace Go.RX
open Go.RowKit
def MZ (P:Program) (fid:FuncId) (args:Nat->List Value) (n:Nat) (yv:Nat->Option (List Value)) (St:World->Prop):Prop:=
 ∀(y:Nat) (w:World) (J:Nat->World->Prop) (Dn:World->Prop),
  (∀i w w',J i w->Ext w w'->J i w')->(∀w w',Dn w->Ext w w'->Dn w')->(∀i w,J i w->St w)->
  (∀i,i<n->yv i=none-> ∀w,J i w->J (i+1) w)->
  (∀i v,i<n->yv i=some v-> ∀w (R:Bool->World->Prop),J i w->(∀w',J (i+1) w'->R true w')->(∀w',Dn w'->R false w')->ko P y v w R)->
  J 0 w->Calls P fid ⟨args y⟩ w (fun e w'=> ∃v,e= .returned v/\(J n w'\/Dn w'))
section
variable {D G:List Nat} {w0 w:World} {L:List (Nat×List Value)}
def uG (D G:List Nat) (w0 w:World) (L:List (Nat×List Value)) (l:Nat) (rec:Loop):Prop:=w0.heap.size<=l/\aF D G w0 w L/\bW w l rec .ready none
def Sr (D G:List Nat) (w0 w:World) (L:List (Nat×List Value)) (l:Nat) (rec:Loop):Prop:=w0.heap.size<=l/\aF D G w0 w L/\bW w l rec .busy none
def P3 (D G:List Nat) (w0 w:World) (L:List (Nat×List Value)) (l:Nat) (rec:Loop) (j:Code):Prop:=w0.heap.size<=l/\aF D G w0 w L/\bW w l rec .done (some j)
theorem pY {l:Nat} {rec:Loop} {st:LoopState} {pd:Option Code} (H:aF D G w0 w L) (h:bW w l rec st pd):l∉D/\l∉L.map (·.1):=by
 refine⟨fun hm=>?_,fun hm=>?_⟩
 ·have:=(H.qi l hm).2
  unfold bW at h
  rw[h] at this
  cases this
 ·obtain⟨x,hx,e⟩:=List.mem_map.1 hm
  exact aF.cU (H.cY x hx) h (fun _ _ _ hc=>by cases hc) e
theorem aF.qs {l:Nat} {rec:Loop} {st:LoopState} {pd:Option Code} (H:aF D G w0 w L) (hl:w0.heap.size<=l) (h:bW w l rec st pd) (U3:LoopState) (U4:Option Code):aF D G w0 (RX.qs w l rec U3 U4) L:=
 H.putObj hl h (fun _ _ _ hc=>by cases hc) (pY H h).1
theorem Aa.go {l n m:Nat} {rec:Loop} {K:Prop} (h:uG D G w0 w L l rec) (hn:n=m) (k:K):Aa l rec n m w K:=⟨⟨none,h.2.2⟩,hn,k⟩
theorem yI.go {l:Nat} {rec:Loop} {K:World->Prop} (h:uG D G w0 w L l rec) (k: ∀wb,At (L.map (·.1)) wb wb L->Sr D G w0 wb L l rec->K wb):yI l rec w K:=fun w5 h5=>by
 obtain⟨hl,H,hL⟩:=h
 have H5:=H.ext h5
 have P4:=hL.ext h5
 have Hb:=H5.qs hl P4 .busy none
 exact⟨none,P4,k _ Hb.again ⟨hl,Hb,P4.put .busy none⟩⟩
theorem qg.go {l:Nat} {rec:Loop} {j:Option Code} {wb w6:World} {L':List (Nat×List Value)} {R:Bool->World->Prop} (h:Sr D G w0 wb L l rec) (H6:At (L.map (·.1)) wb w6 L')
 (k: ∀w7,w0.heap.size<=l->aF D G w0 w7 L'->bW w7 l rec (if j.isNone then .ready else .done) j->R j.isNone w7):qg l rec j w6 R:=fun w7 h7=>by
 obtain⟨hl,H,hL⟩:=h
 have H7:=(H.join (fun x hx=>hx) H6).ext h7
 have VG:bW w6 l rec .busy none:=hL.same (H6.fr.block l hL.lt (pY H hL).2)
 have P5:=VG.ext h7
 exact⟨.busy,none,P5,k _ hl (H7.qs hl P5 _ _) (P5.put _ _)⟩
theorem qg.next {l:Nat} {rec:Loop} {wb w6:World} {L':List (Nat×List Value)} {R:Bool->World->Prop} (h:Sr D G w0 wb L l rec) (H6:At (L.map (·.1)) wb w6 L') (k: ∀w7,uG D G w0 w7 L' l rec->R true w7):qg l rec none w6 R:=
 qg.go h H6 fun w7 a b c=>k w7 ⟨a,b,c⟩
theorem qg.left {l:Nat} {rec:Loop} {j:Code} {wb w6:World} {L':List (Nat×List Value)} {R:Bool->World->Prop} (h:Sr D G w0 wb L l rec) (H6:At (L.map (·.1)) wb w6 L') (k: ∀w7,P3 D G w0 w7 L' l rec j->R false w7):qg l rec (some j) w6 R:=
 qg.go h H6 fun w7 a b c=>k w7 ⟨a,b,c⟩
theorem cO.none {l:Nat} {rec:Loop} {Kn Kr:World->Prop} {Kx:Nat->World->Prop} (h:uG D G w0 w L l rec) (k: ∀w5,aF D G w0 w5 L->Kn w5):cO l rec w Kn Kx Kr:=
 ⟨.ready,.none,h.2.2,by simp,k _ (h.2.1.qs h.1 h.2.2 _ _)⟩
theorem cO.ret {l:Nat} {rec:Loop} {Kn Kr:World->Prop} {Kx:Nat->World->Prop} (h:P3 D G w0 w L l rec .ret) (k: ∀w5,aF D G w0 w5 L->Kr w5):cO l rec w Kn Kx Kr:=
 ⟨.done,.some .ret,h.2.2,by simp,k _ (h.2.1.qs h.1 h.2.2 _ _)⟩
theorem tH: ∀(m:Nat) (z:List Value) (i:Nat),i<m*z.length->(List.replicate m z).flatten[i]? =z[i % z.length]?
 |0,z,i,h=>by simp at h
 |m+1,z,i,h=>by
  rw[List.replicate_succ,List.flatten_cons]
  by_cases hi:i<z.length
  ·rw[List.getElem?_append_left hi,Nat.mod_eq_of_lt hi]
  ·rw[List.getElem?_append_right (by omega),tH m z (i - z.length) (by rw[Nat.add_mul] at h;omega), <-Nat.mod_eq_sub_mod (by omega)]
theorem CG (m:Nat) (z:List Value):lV ⟨z⟩ (m*z.length)=⟨(List.replicate m z).flatten⟩:=by
 have hl:(List.replicate m z).flatten.length=m*z.length:=by simp
 apply Array.ext'
 apply List.ext_getElem?
 intro i
 unfold lV
 by_cases h:i<m*z.length
 ·have h0: ¬ m*z.length=0:=by omega
  have hz:0<z.length:=by
   rcases Nat.eq_zero_or_pos z.length with e|e
   ·rw[e,Nat.mul_zero] at h;omega
   ·exact e
  rw[tH m z i h]
  have hlt:i % z.length<z.length:=Nat.mod_lt _ hz
  simp only[if_neg h0,Array.toList_map,Array.toList_range,List.getElem?_map,List.getElem?_range h,Option.map_some]
  show some ((Array.mk z)[i % z.length]!)= _
  rw[List.getElem?_eq_getElem hlt]
  simp[hlt]
 ·rw[List.getElem?_eq_none (by simp;omega),List.getElem?_eq_none (by rw[hl];omega)]
theorem BF.go (H:aF D G w0 w L) {bytes size:Nat} {n m:Int} {z:List Value} {e:TypeId} {K:Nat->World->Prop} (hz:size=z.length) (h0:0<=n) (h1:n<=m) (h2:m<4611686018427387904) (h3:bytes*m<=281474976710656)
 (k: ∀b w1,aF D G w0 w1 ((b,(List.replicate m.toNat z).flatten)::L)->K b w1):BF w bytes size n m ⟨z⟩ e K:=fun w1 h=>by
 refine⟨⟨h0,h1,by omega,h3⟩,?_⟩
 rw[hz,CG]
 exact k _ _ ((H.ext h).alloc _ e)
theorem jO (e:El) (x:e.T) (m:Nat):flat e (List.replicate m x)=(List.replicate m (cellsOf e x)).flatten:=by
 simp[flat,List.flatMap_replicate]
theorem tV.copy (H:aF D G w0 w L) {e:El} {ys:List e.T} {b n c:Nat} {l:List Value} (hb:aY w b l) (hl:l.take (ys.length*aI e)=flat e ys) (hn:n=ys.length) (hy:ys≠[]) (hp:kz e=true) {t:TypeId} {size bytes:Nat} {z:Array Value} (hsz:size=aI e) (hz:z.size=aI e) (SU:ys.length*bytes<=140737488355328)
 {R:Option Addr×Nat×Nat->World->Prop} (k: ∀b' c' rest w',aF D G w0 w' ((b',flat e ys++rest)::L)->R (some ⟨b',0,none⟩,n,c') w'):
 tV w t size bytes z (none,0,0) (some ⟨b,0,none⟩,n,c) R:=by
 subst hsz;subst hn
 refine jN (w0:=w) (xs:=[]) (ys:=ys) (iM.nil w w e) (Ext.refl w) hp rfl ?_ hz (by simpa using SU) fun s' w' ho he _ _ _=>?_
 ·refine hb.yG (aG e ys) fun i hi=>?_
  rw[<-hl,Nat.zero_add,List.getElem?_take_of_lt hi]
 ·obtain⟨b',c',rest,rfl,H'⟩:=H.got he ho (by simpa using hy)
  exact k b' c' rest w' (by simpa using H')
theorem qh.go {r:Nat} {K:World->Prop} (H:aF [r] G w0 w L) (k: ∀w1,At G w0 w1 L->K w1):qh [r] w K:=fun w1 h=>by
 have H1:=H.ext h
 have hr:=H1.qi r (by simp)
 refine⟨⟨hr.2,trivial⟩,k _ ?_⟩
 have H2:At G w0 w1 L:=⟨H1.fr,H1.cY,H1.own,H1.nd,fun x hx=>by cases hx⟩
 exact H2.putObj hr.1 hr.2 (fun _ _ _ hc=>by cases hc) (by simp)
theorem wD.inv {P:Program} {fid:FuncId} {args:Nat->List Value} {ps:Array Nat} {T:Type} {em:T->List Value} {Rd:Nat->Loop->T->World->(Bool->World->Prop)->Prop} {Af:Nat->Loop->World->Prop} (H:aF D G w0 w L)
 {n:Nat} {yv:Nat->Option (List Value)} {St:World->Prop} (It:MZ P fid args n yv St) (Inv:Nat->List (Nat×List Value)->Prop) (Q:Code->List (Nat×List Value)->Prop) (h0:Inv 0 L)
 (VH: ∀D' i w' L',Inv i L'->aF D' G w0 w' L'->St w') (uS: ∀i L',i<n->yv i=none->Inv i L'->Inv (i+1) L') (VI: ∀i v,i<n->yv i=some v-> ∃x,v=em x)
 (hbody: ∀i x L',i<n->yv i=some (em x)->Inv i L'-> ∀r l rec w3 (R:Bool->World->Prop),uG (r::D) G w0 w3 L' l rec->(∀P6 w',Inv (i+1) P6->uG (r::D) G w0 w' P6 l rec->R true w')->(∀j P6 w',Q j P6->P3 (r::D) G w0 w' P6 l rec j->R false w')->Rd l rec x w3 R)
 (hn: ∀L' r rec w4,Inv n L'->uG (r::D) G w0 w4 L' (r+1) rec->Af r rec w4) (hd: ∀j L' r rec w4,Q j L'->P3 (r::D) G w0 w4 L' (r+1) rec j->Af r rec w4):wD P fid args ps w em Rd Af:=by
 intro w1 h1 rec _ _ hst PY lQ
 have H1:=H.ext h1
 have sz:(w1.alloc (.deferred (some []))).heap.size=w1.heap.size+1:=jM _ _
 have uK:rec={rec with state:= .ready,pending:= .none}:=by rw[<-hst, <-PY]
 have hsz:w0.heap.size<=w1.heap.size:=H1.fr.size
 have hW:uG (w1.heap.size::D) G w0 ((w1.alloc (.deferred (some []))).alloc (.loop rec)) L (w1.heap.size+1) rec:=by
  refine⟨by omega,?_,?_⟩
  ·have H2:=(H1.r9 (.deferred (some []))).r9 (.loop rec)
   refine⟨H2.fr,H2.cY,H2.own,H2.nd,fun r hr=>?_⟩
   rcases List.mem_cons.1 hr with rfl|hr
   ·exact⟨hsz,(Ext.alloc _ _).obj (fO w1 _)⟩
   ·exact H2.qi r hr
  ·have:=fO (w1.alloc (.deferred (some []))) (.loop rec)
   rw[sz] at this
   unfold bW;rw[this, <-uK]
 refine Calls.mono (It (w1.heap.size+1) _ (fun i w'=> ∃L',Inv i L'/\uG (w1.heap.size::D) G w0 w' L' (w1.heap.size+1) rec) (fun w'=> ∃j L',Q j L'/\P3 (w1.heap.size::D) G w0 w' L' (w1.heap.size+1) rec j) ?_ ?_ ?_ ?_ ?_ ⟨L,h0,hW⟩) ?_
 ·exact fun i a b ⟨L',hi,h⟩ k=>⟨L',hi,h.1,h.2.1.ext k,h.2.2.ext k⟩
 ·exact fun a b ⟨j,L',hq,h⟩ k=>⟨j,L',hq,h.1,h.2.1.ext k,h.2.2.ext k⟩
 ·exact fun i a ⟨L',hi,h⟩=>VH _ i a L' hi h.2.1
 ·exact fun i hi hy a ⟨L',hI,h⟩=>⟨L',uS i L' hi hy hI,h⟩
 ·intro i v hi hy a R ⟨L',hI,hJ⟩ YS YT
  obtain⟨x,rfl⟩:=VI i v hi hy
  exact lQ x a R (hbody i x L' hi hy hI _ _ _ _ R hJ (fun P6 w' SS hr=>YS w' ⟨P6,SS,hr⟩) fun j L' w' hq hl=>YT w' ⟨j,L',hq,hl⟩)
 ·rintro e a ⟨v,he,⟨L',hI,h⟩|⟨j,L',hq,h⟩⟩
  ·exact⟨v,he,hn L' _ _ _ hI h⟩
  ·exact⟨v,he,hd j L' _ _ _ hq h⟩
theorem wD.go {P:Program} {fid:FuncId} {args:Nat->List Value} {ps:Array Nat} {T:Type} {em:T->List Value} {Rd:Nat->Loop->T->World->(Bool->World->Prop)->Prop} {Af:Nat->Loop->World->Prop} (H:aF D G w0 w L)
 {n:Nat} {yv:Nat->Option (List Value)} {St:World->Prop} (It:MZ P fid args n yv St) (Ls:Nat->List (Nat×List Value)) (Q:Code->List (Nat×List Value)->Prop) (h0:Ls 0=L)
 (VH: ∀D' i w',aF D' G w0 w' (Ls i)->St w') (uS: ∀i,i<n->yv i=none->Ls (i+1)=Ls i) (VI: ∀i v,i<n->yv i=some v-> ∃x,v=em x)
 (hbody: ∀i x,i<n->yv i=some (em x)-> ∀r l rec w3 (R:Bool->World->Prop),uG (r::D) G w0 w3 (Ls i) l rec->(∀w',uG (r::D) G w0 w' (Ls (i+1)) l rec->R true w')->(∀j L' w',Q j L'->P3 (r::D) G w0 w' L' l rec j->R false w')->Rd l rec x w3 R)
 (hn: ∀r rec w4,uG (r::D) G w0 w4 (Ls n) (r+1) rec->Af r rec w4) (hd: ∀j L' r rec w4,Q j L'->P3 (r::D) G w0 w4 L' (r+1) rec j->Af r rec w4):wD P fid args ps w em Rd Af:=
 wD.inv H It (fun i L'=>L'=Ls i) Q h0.symm (fun D' i w' L' hI h=>VH D' i w' (by rw[<-hI];exact h)) (fun i L' hi hy hI=>by rw[uS i hi hy];exact hI) VI
  (fun i x L' hi hy hI r l rec w3 R hr h1 h2=>hbody i x hi hy r l rec w3 R (by rw[<-hI];exact hr) (fun w' h=>h1 _ w' rfl h) h2) (fun L' r rec w4 hI h=>hn r rec w4 (by rw[<-hI];exact h)) hd
theorem aF.Ub (H:aF D G w0 w L) {b:Nat} (hb:b<w0.heap.size) (hG:b∉G):b∉L.map (·.1):=fun hm=>by
 obtain⟨x,hx,e⟩:=List.mem_map.1 hm
 rcases H.own x hx with h|h
 ·rw[e] at h;omega
 ·rw[e] at h;exact hG h
theorem aF.keep {wb w1:World} {L':List (Nat×List Value)} (H:aF D G w0 wb L) (K:At (L.map (·.1)) wb w1 L') {b:Nat} {l:List Value} (h:aY w0 b l) (hG:b∉G):aY w1 b l:=
 K.old (H.old h hG) (H.Ub h.lt hG)
theorem At.pP {b:Nat} {l:List Value} (h:aY w b l):At [b] w w [(b,l)] where
 fr:=Fr.refl _ w
 cY:=fun x hx=>by rw[List.mem_singleton.1 hx];exact h
 own:=fun x hx=> .inr (by rw[List.mem_singleton.1 hx];simp)
 nd:=by simp
 qi:=fun x hx=>by cases hx
theorem ff {w:World} {b:Nat} {e:El} {xs:List e.T} {rest:List Value} (h:aY w b (flat e xs++rest)) {i:Nat} {x:e.T} (hx:xs[i]? =some x):cg w (af (some ⟨b,0,none⟩) (i*aI e)) e x:=
 (Sl.iA h (by rw[List.take_append_of_le_length (by rw[aG];exact Nat.le_refl _),List.take_of_length_le (by rw[aG];exact Nat.le_refl _)]) i x hx).2
theorem vq (e:El): ∀(xs:List e.T) (i:Nat) (y:e.T) (rest:List Value),i<xs.length->(flat e xs++rest).take (i*aI e)++(cellsOf e y++(flat e xs++rest).drop (i*aI e+(cellsOf e y).length))=flat e (xs.set i y)++rest
 |[],i,y,rest,h=>by simp at h
 |x::xs,0,y,rest, _=>by
  simp only[flat,List.flatMap_cons,Nat.zero_mul,List.take_zero,List.nil_append,Nat.zero_add,List.set_cons_zero,List.append_assoc]
  congr 1
  rw[cK, <-cK e x,List.drop_left]
 |x::xs,i+1,y,rest,h=>by
  have ih:=vq e xs i y rest (by simpa using h)
  have e1:(i+1)*aI e=(cellsOf e x).length+i*aI e:=by rw[cK,Nat.add_mul];omega
  simp only[flat,List.flatMap_cons,List.set_cons_succ,List.append_assoc] at ih ⊢
  rw[e1,List.take_length_add_append,List.append_assoc,Nat.add_assoc,List.drop_length_add_append,ih]
theorem av.flat (j:Nat) (H:aF D G w0 w L) {b i:Nat} {e:El} {xs:List e.T} {rest vs:List Value} (y:e.T) {K:World->Prop} (hL:L[j]? =some (b,RX.flat e xs++rest)) (hv:vs=cellsOf e y) (hp:kz e=true) (hi:i<xs.length)
 (k: ∀w1,aF D G w0 w1 (L.set j (b,RX.flat e (xs.set i y)++rest))->K w1):av w (af (some ⟨b,0,none⟩) (i*aI e)) vs K:=by
 rw[aK,Nat.zero_add]
 subst hv
 refine av.at j H hL ?_ ?_ fun w1 h1=>k w1 ?_
 ·have:=kH e [y] hp
  simpa[RX.flat] using this
 ·rw[cK,List.length_append,aG]
  have:(i+1)*aI e<=xs.length*aI e:=Nat.mul_le_mul_right _ hi
  rw[Nat.add_mul] at this
  omega
 ·rw[vq e xs i y rest hi] at h1;exact h1
theorem az.Ao (H:aF D G w0 w L) (j:Nat) {b:Nat} {l l':List Value} (hL:L[j]? =some (b,l)) {P:Program} {f:FuncId} {s:Sh} {args:List Value} {v:s.T} {K:s.T->World->Prop}
 (hc: ∀w1,aF D G w0 w1 L->an P f s args w1 (fun x w'=>x=v/\aY w' b l'/\Fr [b] w1 w')) (k: ∀w2,aF D G w0 w2 (L.set j (b,l'))->K v w2):az P f s args w K:=fun w1 h=>
 (hc w1 (H.ext h)).mono fun x w2 ⟨hx,hb,hf⟩=>by subst hx;exact k w2 ((H.ext h).mod j hL hf hb)
theorem az.val (H:aF D G w0 w L) {P:Program} {f:FuncId} {s:Sh} {args:List Value} (v:s.T) {K:s.T->World->Prop}
 (hc: ∀w1,aF D G w0 w1 L->an P f s args w1 (fun x w'=>x=v/\Ext w1 w')) (k: ∀w2,aF D G w0 w2 L->K v w2):az P f s args w K:=fun w1 h=>
 (hc w1 (H.ext h)).mono fun x w2 ⟨hx,wX⟩=>by subst hx;exact k w2 ((H.ext h).ext wX)
theorem ah.of {P:Program} {f:FuncId} {s:Sh} {args:List Value} {v:s.T} (h: ∀w',Ext w w'->an P f s args w' (fun x w''=>x=v/\Ext w' w'')):ah P f args w (s.gi v):=
 fun w' hw=>aO (h w' hw)
theorem aF.grow {e:El} {s:Option Addr×Nat×Nat} {xs:List e.T} {x:e.T} {b:Nat} {Ls L0:List (Nat×List Value)} (H:aF D G w0 w ((b,cellsOf e x)::(Ls++L0)))
 (hs:(s=(none,0,0)/\xs=[]/\Ls=[])\/ ∃bs c rest,s=(some ⟨bs,0,none⟩,xs.length,c)/\Ls=[(bs,flat e xs++rest)]/\(flat e xs++rest).length=c*aI e/\xs.length<=c)
 (hp:kz e=true) {t:TypeId} {size bytes:Nat} {z:Array Value} (hsz:size=aI e) (hz:z.size=aI e) (hb:(xs.length+1)*bytes<=140737488355328)
 {R:Option Addr×Nat×Nat->World->Prop} (k: ∀bs c rest w',(flat e (xs++[x])++rest).length=c*aI e->xs.length+1<=c->aF D G w0 w' ((bs,flat e (xs++[x])++rest)::L0)->R (some ⟨bs,0,none⟩,xs.length+1,c) w'):
 tV w t size bytes z s (some ⟨b,0,none⟩,1,1) R:=by
 subst hsz
 have tz:(qC 0 w).heap.size=0:=fP (Nat.zero_le _)
 have ho:iM (qC 0 w) w e s xs:=by
  rcases hs with ⟨rfl,rfl, _⟩|⟨bs,c,rest,rfl,rfl,h1,h2⟩
  ·exact iM.nil _ _ _
  ·refine⟨rfl,h2,.inr ⟨bs, _,rfl,by rw[tz];exact Nat.zero_le _,H.get (i:=1) rfl,h1,?_⟩⟩
   rw[List.take_append_of_le_length (by rw[aG];exact Nat.le_refl _),List.take_of_length_le (by rw[aG];exact Nat.le_refl _)]
 have Iw:aY w b (cellsOf e x):=H.get (i:=0) rfl
 refine jN (ys:=[x]) ho (od (Nat.zero_le _)) hp rfl ?_ hz hb fun s' w' ho' he' hf hsz hd=>?_
 ·refine Iw.yG (aG e [x]) fun j hj=>?_
  simp[flat]
 ·obtain⟨p,n,c⟩:=s'
  obtain⟨h1,h2,h3⟩:=ho'
  simp only at h1 h2 h3 hd
  have hlen:(xs++[x]).length=xs.length+1:=by simp
  rcases h3 with ⟨_,hx, _⟩|⟨bs,l,a1, _,a3,a4,a5⟩
  ·simp at hx
  ·subst a1
   rw[hlen] at h1 h2
   subst h1
   have el:l=flat e (xs++[x])++l.drop ((xs++[x]).length*aI e):=by rw[<-a5,List.take_append_drop]
   refine k bs c (l.drop ((xs++[x]).length*aI e)) w' (by rw[<-el];exact a4) h2 ?_
   rw[<-el]
   have VJ: ∃G',Fr G' w w'/\(∀y∈G',y∈Ls.map (·.1)):=by
    rcases hs with ⟨rfl, _,rfl⟩|⟨bo,co,ro,rfl,rfl, _, _⟩
    ·exact⟨[],⟨he'.os,he'.tape,he'.output,hsz,fun y hy _=>hf y hy (fun a ha=>by cases ha)⟩,fun y hy=>by cases hy⟩
    ·exact⟨[bo],⟨he'.os,he'.tape,he'.output,hsz,fun y hy hn=>hf y hy (fun a ha=>by cases ha;simpa using hn)⟩,fun y hy=>by simpa using hy⟩
   obtain⟨G',hfr,P7⟩:=VJ
   have jQ:=H.nd
   simp only[List.map_cons,List.map_append,List.nodup_cons,List.nodup_append,List.mem_append] at jQ
   have Iy: ∀y∈Ls.map (·.1),w0.heap.size<=y\/y∈G:=fun y hy=>by
    obtain⟨u,hu,rfl⟩:=List.mem_map.1 hy
    exact H.own u (List.mem_cons_of_mem _ (List.mem_append_left _ hu))
   have SV:bs∈Ls.map (·.1)\/w.heap.size<=bs:=by
    rcases hd with ⟨a,e1,e2⟩|⟨a,e1,e2⟩|e1
    ·cases e1
     rcases hs with ⟨rfl, _, _⟩|⟨bo,co,ro,rfl,rfl, _, _⟩
     ·cases e2
     ·cases e2;exact .inl (by simp)
    ·cases e1;exact .inr e2
    ·rcases hs with ⟨rfl, _, _⟩|⟨bo,co,ro,rfl,rfl, _, _⟩
     ·cases e1
     ·exact absurd (congrArg (fun z=>z.2.1) e1) (by simp)
   refine H.frame hfr (fun y hy=>Iy y (P7 y hy)) (fun r hr hy=>?_) (fun y hy=>?_) (fun y hy=>?_) ?_
   ·obtain⟨u,hu,e1⟩:=List.mem_map.1 (P7 r hy)
    exact aF.cU (H.cY u (List.mem_cons_of_mem _ (List.mem_append_left _ hu))) (H.qi r hr).2 (fun _ _ _ hc=>by cases hc) e1
   ·rcases List.mem_cons.1 hy with rfl|hy
    ·exact a3
    ·refine hfr.cY (fun hm=>?_) (H.cY y (List.mem_cons_of_mem _ (List.mem_append_right _ hy)))
     exact jQ.2.2.2 y.1 (P7 _ hm) y.1 (List.mem_map.2 ⟨y,hy,rfl⟩) rfl
   ·rcases List.mem_cons.1 hy with rfl|hy
    ·rcases SV with h|h
     ·exact Iy _ h
     ·exact .inl (Nat.le_trans H.fr.size h)
    ·exact H.own y (List.mem_cons_of_mem _ (List.mem_append_right _ hy))
   ·refine List.nodup_cons.2 ⟨fun hm=>?_,jQ.2.2.1⟩
    rcases SV with h|h
    ·exact jQ.2.2.2 bs h bs hm rfl
    ·obtain⟨u,hu,e1⟩:=List.mem_map.1 hm
     have:=(H.cY u (List.mem_cons_of_mem _ (List.mem_append_right _ hu))).lt
     simp only at e1 h
     omega
def jy (e:El) (rows:List (Nat×List Value)) (r:Option Addr×Nat×Nat) (xs:List e.T):Prop:=
 r.2.1=xs.length/\((xs=[]/\rows=[])\/ ∃b rest,r.1=some ⟨b,0,none⟩/\rows=[(b,RX.flat e xs++rest)])
theorem aF.Iz {w':World} (H:aF D G w0 w L) (h:Ext w w') {e:El} {r:Option Addr×Nat×Nat} {xs:List e.T} (ho:iM w w' e r xs): ∃rows,aF D G w0 w' (L++rows)/\jy e rows r xs:=by
 by_cases hx:xs=[]
 ·exact⟨[],by rw[List.append_nil];exact H.ext h,ho.len,.inl ⟨hx,rfl⟩⟩
 ·obtain⟨b,c,rest,rfl,H2⟩:=H.got h ho hx
  exact⟨[(b,RX.flat e xs++rest)],H2.perm (List.perm_append_singleton _ _),rfl,.inr ⟨b,rest,rfl,rfl⟩⟩
theorem jy.sl {e:El} {rows:List (Nat×List Value)} {r:Option Addr×Nat×Nat} {xs:List e.T} (h:jy e rows r xs) (H:aF D G w0 w L) (hm: ∀x∈rows,x∈L):Sl w e r.1 xs:=by
 rcases h.2 with ⟨rfl, _⟩|⟨b,rest,h1,rfl⟩
 ·intro i x hx;simp at hx
 ·rw[h1]
  refine Sl.iA (H.cY _ (hm _ (List.mem_singleton.2 rfl))) ?_
  rw[List.take_append_of_le_length (by rw[aG];exact Nat.le_refl _),List.take_of_length_le (by rw[aG];exact Nat.le_refl _)]
theorem az.QK (H:aF D G w0 w L) {P:Program} {f:FuncId} {args:List Value} {e:El} {xs:List e.T} {K:(Option Addr×Nat×Nat)->World->Prop}
 (hc: ∀w',aF D G w0 w' L->an P f (.el (.one .slice)) args w' (fun r w''=>iM w' w'' e r xs/\Ext w' w'')) (k: ∀r rows w1,aF D G w0 w1 (L++rows)->jy e rows r xs->K r w1):
 az P f (.el (.one .slice)) args w K:=fun w1 h=>(hc w1 (H.ext h)).mono fun x w2 ⟨ho,wX⟩=>by
 obtain⟨rows,H2,hr⟩:=(H.ext h).Iz wX ho
 exact k x rows w2 H2 hr
end
end Go.RX
namespace Go.RX
open Go.RowKit
def NC (o:Obj):Prop:= ∀a t f,o≠ .cells a t f
def Ob (l:Nat) (w w':World):Prop:= ∀r o,r≠l->NC o->w.heap[r]? =some o->w'.heap[r]? =some o
theorem Ob.trans {l:Nat} {a b c:World} (h:Ob l a b) (k:Ob l b c):Ob l a c:=fun r o hr ho hh=>k r o hr ho (h r o hr ho hh)
theorem Ob.r8 {l:Nat} {a b:World} (h:Ext a b):Ob l a b:=fun _ _ _ _ hh=>h.obj hh
theorem Ob.put (l:Nat) (w:World) (o:Obj):Ob l w (w.putObj l o):=fun r o' hr _ hh=>by rw[fo hr];exact hh
structure JK {T:Type} (bm:Nat) (mc:List Value->Prop) (J:List T->List (Nat×List Value)->List (Nat×Obj)->World->Prop):Prop where
 step: ∀{a X O w w' l' Y},J a X O w->Fr [bm] w w'->aY w' bm l'->mc l'->(∀y∈Y,w.heap.size<=y.1/\aY w' y.1 y.2)->(Y.map (·.1)).Nodup->J a (Y++X) O w'
 mem: ∀{a X O w},J a X O w-> ∃l,mc l/\aY w bm l
 cY: ∀{a X O w x},J a X O w->x∈X->x.1≠bm/\aY w x.1 x.2
 obj: ∀{a X O w r o},J a X O w->(r,o)∈O->w.heap[r]? =some o
 U5: ∀{a X O w o},J a X O w->NC o->J a X ((w.heap.size,o)::O) (w.alloc o)
 Ss: ∀{a X O w r o o'},J a X ((r,o)::O) w->NC o'->J a X ((r,o')::O) (w.putObj r o')
 sub: ∀{a X O X' O' w},J a X O w->(∀x∈X',x∈X)->O'.Sublist O->J a X' O' w
 perm: ∀{a X O O' w},J a X O w->O'.Perm O->J a X O' w
def Yd {T:Type} (P:Program) (y:Nat) (em:T->List Value) (N:Nat) (J:List T->List (Nat×List Value)->List (Nat×Obj)->World->Prop):Prop:=
 ∀a x X O w (R:Bool->World->Prop),a.length<N->J a X O w->(∀w',J (a++[x]) X O w'->R true w')->ko P y (em x) w R
def U6 {T:Type} (P:Program) (fid:FuncId) (args:Nat->List Value) (em:T->List Value) (N bm:Nat) (mc:List Value->Prop) (X0:List (Nat×List Value)) (xs:List T):Prop:=
 ∀(y:Nat) (J:List T->List (Nat×List Value)->List (Nat×Obj)->World->Prop),JK bm mc J->Yd P y em N J-> ∀a X O w,a.length+xs.length<=N->(∀x∈X0,x∈X)->J a X O w->
  Calls P fid ⟨args y⟩ w (fun e w'=> ∃v,e= .returned v/\J (a++xs) X O w')
section
variable {T:Type} {bm:Nat} {mc:List Value->Prop} {J:List T->List (Nat×List Value)->List (Nat×Obj)->World->Prop} {a:List T} {X:List (Nat×List Value)} {O:List (Nat×Obj)} {w w':World}
theorem JK.ext (K:JK bm mc J) (j:J a X O w) (h:Ext w w'):J a X O w':=by
 obtain⟨l,h1,h2⟩:=K.mem j
 exact K.step (Y:=[]) j (.r8 h) (h2.ext h) h1 (fun _ hy=>by cases hy) List.nodup_nil
theorem JK.qD (K:JK bm mc J) (j:J a X O w) {Y:List (Nat×List Value)} {l':List Value} (H:At [bm] w w' (Y++[(bm,l')])) (hl:mc l'):J a (Y++X) O w':=by
 have jQ:=H.nd
 rw[List.map_append,List.nodup_append] at jQ
 refine K.step j H.fr (H.cY (bm,l') (by simp)) hl (fun y hy=>⟨?_,H.cY y (List.mem_append_left _ hy)⟩) jQ.1
 rcases H.own y (List.mem_append_left _ hy) with h|h
 ·exact h
 ·exfalso
  rw[List.mem_singleton] at h
  exact jQ.2.2 y.1 (List.mem_map.2 ⟨y,hy,rfl⟩) bm (by simp) h
theorem JK.U7 (K:JK bm mc J) (j:J a X O w): ∃l,mc l/\At [bm] w w [(bm,l)]:=by
 obtain⟨l,h1,h2⟩:=K.mem j
 exact⟨l,h1,At.pP h2⟩
theorem JK.close (K:JK bm mc J): ∀(D:List Nat) {w:World},J a X (D.map (fun r=>(r,Obj.deferred (some [])))++O) w->Av D w/\J a X O (kv D w)
 |[], _,j=>⟨trivial,j⟩
 |r::D,w,j=>by
  have h:=K.obj j (r:=r) (o:= .deferred (some [])) (by simp)
  have j2:J a X ((r,.deferred none)::(D.map (fun r=>(r,Obj.deferred (some [])))++O)) (w.putObj r (.deferred none)):=K.Ss (o':= .deferred none) j (fun _ _ _ e=>by cases e)
  obtain⟨h1,h2⟩:=K.close D (K.sub j2 (fun _ h=>h) (List.sublist_cons_self _ _))
  exact⟨⟨h,h1⟩,h2⟩
theorem JK.qh (K:JK bm mc J) (D:List Nat) (j:J a X (D.map (fun r=>(r,Obj.deferred (some [])))++O) w) {Q:World->Prop} (k: ∀w1,J a X O w1->Q w1):qh D w Q:=fun w1 h1=>by
 obtain⟨h2,h3⟩:=K.close D (K.ext j h1)
 exact⟨h2,k _ h3⟩
abbrev E7 (rec:Loop):Obj:= .loop {rec with state:= .ready,pending:=none}
abbrev XQ (rec:Loop):Obj:= .loop {rec with state:= .busy,pending:=none}
theorem DM (rec:Loop) (st:LoopState) (pd:Option Code):NC (.loop {rec with state:=st,pending:=pd}):=fun _ _ _ e=>by cases e
theorem Aa.P8 (K:JK bm mc J) {l n m:Nat} {rec:Loop} (j:J a X ((l,E7 rec)::O) w) {Q:Prop} (hn:n=m) (k:Q):Aa l rec n m w Q:=⟨⟨none,K.obj j (by simp)⟩,hn,k⟩
theorem yI.P8 (K:JK bm mc J) {l:Nat} {rec:Loop} (j:J a X ((l,E7 rec)::O) w) {Q:World->Prop} (k: ∀wb,J a X ((l,XQ rec)::O) wb->Q wb):yI l rec w Q:=fun w5 h5=>by
 have j5:=K.ext j h5
 exact⟨none,K.obj j5 (by simp),k _ (K.Ss j5 (DM rec _ _))⟩
theorem qg.P8 (K:JK bm mc J) {l:Nat} {rec:Loop} (j:J a X ((l,XQ rec)::O) w) {R:Bool->World->Prop} (k: ∀w7,J a X ((l,E7 rec)::O) w7->R true w7):qg l rec none w R:=fun w6 h6=>by
 have j6:=K.ext j h6
 exact⟨.busy,none,K.obj j6 (by simp),k _ (K.Ss j6 (DM rec _ _))⟩
theorem cO.P8 (K:JK bm mc J) {l:Nat} {rec:Loop} (j:J a X ((l,E7 rec)::O) w) {Kn Kr:World->Prop} {Kx:Nat->World->Prop} (k: ∀w5,J a X O w5->Kn w5):cO l rec w Kn Kx Kr:=
 ⟨.ready,.none,K.obj j (by simp),by simp,k _ (K.sub (K.Ss j (DM rec _ _)) (fun _ h=>h) (List.sublist_cons_self _ _))⟩
end
section
variable {D G:List Nat} {w0 w:World} {L:List (Nat×List Value)}
theorem yI.XR {l:Nat} {rec:Loop} {K:World->Prop} (h:uG D G w0 w L l rec) (k: ∀wb,At (L.map (·.1)) wb wb L->Sr D G w0 wb L l rec->Ob l w wb->K wb):yI l rec w K:=fun w5 h5=>by
 obtain⟨hl,H,hL⟩:=h
 have H5:=H.ext h5
 have P4:=hL.ext h5
 have Hb:=H5.qs hl P4 .busy none
 exact⟨none,P4,k _ Hb.again ⟨hl,Hb,P4.put .busy none⟩ ((Ob.r8 h5).trans (Ob.put _ _ _))⟩
theorem Ob.qD {l:Nat} {wb w6:World} {L':List (Nat×List Value)} (H:aF D G w0 wb L) (H6:At (L.map (·.1)) wb w6 L'):Ob l wb w6:=fun r o _ ho hh=>by
 rw[H6.fr.block r (Array.getElem?_eq_some_iff.1 hh).1 (fun hm=>?_)]
 ·exact hh
 ·obtain⟨x,hx,e⟩:=List.mem_map.1 hm
  exact aF.cU (H.cY x hx) hh ho e
theorem qg.gj {l:Nat} {rec:Loop} {wb w6:World} {L':List (Nat×List Value)} {R:Bool->World->Prop} (h:Sr D G w0 wb L l rec) (H6:At (L.map (·.1)) wb w6 L') (k: ∀w7,uG D G w0 w7 L' l rec->Ob l wb w7->R true w7):qg l rec none w6 R:=fun w7 h7=>by
 obtain⟨hl,H,hL⟩:=h
 have H7:=(H.join (fun x hx=>hx) H6).ext h7
 have VG:bW w6 l rec .busy none:=hL.same (H6.fr.block l hL.lt (pY H hL).2)
 have P5:=VG.ext h7
 exact⟨.busy,none,P5,k _ ⟨hl,H7.qs hl P5 _ _,P5.put _ _⟩ (((Ob.qD H H6).trans (Ob.r8 h7)).trans (Ob.put _ _ _))⟩
theorem wD.IA {T:Type} {P:Program} {fid:FuncId} {args:Nat->List Value} {ps:Array Nat} {em:T->List Value} {Rd:Nat->Loop->T->World->(Bool->World->Prop)->Prop} {Af:Nat->Loop->World->Prop} {N bm:Nat} {mc:List Value->Prop} {X0:List (Nat×List Value)} {xs:List T}
 {l0:List Value} {Su Lb:List (Nat×List Value)} (H:aF D G w0 w (Su++((bm,l0)::Lb))) (hm0:mc l0) (It:U6 P fid args em N bm mc X0 xs) (hX: ∀x∈X0,x∈Lb) (hN:xs.length<=N) (Gi:List T->List (Nat×List Value)->Prop) (h0:Gi [] Su)
 (hbody: ∀b x Rg Z r l rec w3 (R:Bool->World->Prop),b.length<N->Gi b Rg->uG (r::D) G w0 w3 (Rg++Z) l rec->(∀Ig w',Gi (b++[x]) Ig->uG (r::D) G w0 w' (Ig++Z) l rec->Ob l w3 w'->R true w')->Rd l rec x w3 R)
 (VK: ∀r rec w4 l' Rg,mc l'->Gi xs Rg->uG (r::D) G w0 w4 (Rg++((bm,l')::Lb)) (r+1) rec->Af r rec w4):wD P fid args ps w em Rd Af:=by
 intro w1 h1 rec _ _ hst PY lQ
 have H1:=H.ext h1
 have sz:(w1.alloc (.deferred (some []))).heap.size=w1.heap.size+1:=jM _ _
 have uK:rec={rec with state:= .ready,pending:= .none}:=by rw[<-hst, <-PY]
 have hsz:w0.heap.size<=w1.heap.size:=H1.fr.size
 have hW:uG (w1.heap.size::D) G w0 ((w1.alloc (.deferred (some []))).alloc (.loop rec)) (Su++((bm,l0)::Lb)) (w1.heap.size+1) rec:=by
  refine⟨by omega,?_,?_⟩
  ·have H2:=(H1.r9 (.deferred (some []))).r9 (.loop rec)
   refine⟨H2.fr,H2.cY,H2.own,H2.nd,fun r hr=>?_⟩
   rcases List.mem_cons.1 hr with rfl|hr
   ·exact⟨hsz,(Ext.alloc _ _).obj (fO w1 _)⟩
   ·exact H2.qi r hr
  ·have:=fO (w1.alloc (.deferred (some []))) (.loop rec)
   rw[sz] at this
   unfold bW;rw[this, <-uK]
 generalize hR:w1.heap.size=rr at*
 let J:List T->List (Nat×List Value)->List (Nat×Obj)->World->Prop:=fun b X O w'=> ∃l' Rg Y,mc l'/\Gi b Rg/\uG (rr::D) G w0 w' (Rg++((bm,l')::(Y++Lb))) (rr+1) rec/\(∀x∈X,x∈Y++Lb)/\(∀x∈O,w'.heap[x.1]? =some x.2/\NC x.2/\w0.heap.size<=x.1/\x.1≠rr+1/\x.1∉rr::D)/\(O.map (·.1)).Nodup
 have K:JK bm mc J:=by
  refine⟨?_,?_,?_,?_,?_,?_,?_,?_⟩
  ·rintro b X O w2 w3 l2 Y2 ⟨l',Rg,Y,hm,hg,⟨h1,h2,h3⟩,hx,ho,hn⟩ hf hb hl hy YU
   have Pb:(bm,l')∈Rg++((bm,l')::(Y++Lb)):=by simp
   have keep: ∀x∈Rg++(Y++Lb),aY w3 x.1 x.2/\x.1<w2.heap.size:=fun x hx=>by
    have wX:x∈Rg++((bm,l')::(Y++Lb)):=by
     rcases List.mem_append.1 hx with h|h
     ·exact List.mem_append_left _ h
     ·exact List.mem_append_right _ (List.mem_cons_of_mem _ h)
    have hk:=h2.cY x wX
    refine⟨hf.cY ?_ hk,hk.lt⟩
    intro hc
    rw[List.mem_singleton] at hc
    have jQ:=h2.nd
    have hp:((bm,l')::(Rg++(Y++Lb))).Perm (Rg++((bm,l')::(Y++Lb))):=List.perm_middle.symm
    have Fg:=((hp.map (·.1)).nodup_iff).2 jQ
    rw[List.map_cons,List.nodup_cons] at Fg
    exact Fg.1 (List.mem_map.2 ⟨x,hx,hc⟩)
   refine⟨l2,Rg,Y2++Y,hl,hg,⟨h1,?_,?_⟩,fun x yJ=>?_,fun x yJ=>?_,hn⟩
   ·have jQ:=h2.nd
    have hp:((bm,l')::(Rg++(Y++Lb))).Perm (Rg++((bm,l')::(Y++Lb))):=List.perm_middle.symm
    have Fg:=((hp.map (·.1)).nodup_iff).2 jQ
    have wV:((bm,l2)::(Y2++(Rg++(Y++Lb)))).Perm (Rg++((bm,l2)::(Y2++Y++Lb))):=by
     refine List.Perm.trans (List.Perm.cons _ ?_) List.perm_middle.symm
     rw[List.append_assoc, <-List.append_assoc Y2 Rg, <-List.append_assoc Rg Y2]
     exact List.perm_append_comm.append_right _
    refine aF.perm (L:=(bm,l2)::(Y2++(Rg++(Y++Lb)))) ?_ wV.symm
    refine h2.frame hf (fun x hx=>?_) (fun r hr hx=>?_) (fun x hx=>?_) (fun x hx=>?_) ?_
    ·rw[List.mem_singleton.1 hx];exact h2.own (bm,l') Pb
    ·rw[List.mem_singleton] at hx
     exact aF.cU (h2.cY (bm,l') Pb) (h2.qi r hr).2 (fun _ _ _ hc=>by cases hc) hx.symm
    ·rcases List.mem_cons.1 hx with rfl|hx
     ·exact hb
     ·rcases List.mem_append.1 hx with hx|hx
      ·exact(hy x hx).2
      ·exact(keep x hx).1
    ·rcases List.mem_cons.1 hx with rfl|hx
     ·exact h2.own (bm,l') Pb
     ·rcases List.mem_append.1 hx with hx|hx
      ·exact .inl (Nat.le_trans h2.fr.size (hy x hx).1)
      ·refine h2.own x ?_
       rcases List.mem_append.1 hx with h|h
       ·exact List.mem_append_left _ h
       ·exact List.mem_append_right _ (List.mem_cons_of_mem _ h)
    ·rw[List.map_cons,List.nodup_cons] at Fg
     rw[List.map_cons,List.map_append,List.nodup_cons,List.nodup_append]
     have fresh: ∀x∈Y2, ∀z,z<w2.heap.size->x.1≠z:=fun x hx z hz e=>by
      have:=(hy x hx).1;omega
     refine⟨fun hm=>?_,YU,Fg.2,fun x hx z hz e=>?_⟩
     ·rcases List.mem_append.1 hm with hm|hm
      ·obtain⟨x,hx,e⟩:=List.mem_map.1 hm
       exact fresh x hx bm (h2.cY (bm,l') Pb).lt e
      ·exact Fg.1 hm
     ·obtain⟨x1,hx1,e1⟩:=List.mem_map.1 hx
      obtain⟨z1,P9,e2⟩:=List.mem_map.1 hz
      exact fresh x1 hx1 z1.1 (keep z1 P9).2 (by rw[e1,e2,e])
   ·refine h3.same (hf.block _ h3.lt (fun hc=>?_))
    rw[List.mem_singleton] at hc
    exact aF.cU (h2.cY (bm,l') Pb) h3 (fun _ _ _ hc=>by cases hc) hc.symm
   ·rcases List.mem_append.1 yJ with h|h
    ·exact List.mem_append_left _ (List.mem_append_left _ h)
    ·rcases List.mem_append.1 (hx x h) with h|h
     ·exact List.mem_append_left _ (List.mem_append_right _ h)
     ·exact List.mem_append_right _ h
   ·obtain⟨o1,o2,o3⟩:=ho x yJ
    refine⟨?_,o2,o3⟩
    rw[hf.block x.1 (Array.getElem?_eq_some_iff.1 o1).1 (fun hc=>?_)]
    ·exact o1
    ·rw[List.mem_singleton] at hc
     exact aF.cU (h2.cY (bm,l') Pb) o1 o2 hc.symm
  ·rintro b X O w2 ⟨l',Rg,Y,hm,hg,hr,hx,ho,hn⟩
   exact⟨l',hm,hr.2.1.cY (bm,l') (by simp)⟩
  ·rintro b X O w2 x ⟨l',Rg,Y,hm,hg,hr,hx,ho,hn⟩ yJ
   have hp:((bm,l')::(Rg++(Y++Lb))).Perm (Rg++((bm,l')::(Y++Lb))):=List.perm_middle.symm
   have h2:=hr.2.1.perm hp
   have hmem:x∈Rg++(Y++Lb):=List.mem_append_right _ (hx x yJ)
   refine⟨fun e=>?_,h2.cY x (List.mem_cons_of_mem _ hmem)⟩
   have jQ:=h2.nd
   rw[List.map_cons,List.nodup_cons] at jQ
   exact jQ.1 (List.mem_map.2 ⟨x,hmem,e⟩)
  ·rintro b X O w2 r o ⟨l',Rg,Y,hm,hg,hr,hx,ho,hn⟩ hmem
   exact(ho (r,o) hmem).1
  ·rintro b X O w2 o ⟨l',Rg,Y,hm,hg,⟨h1,h2,h3⟩,hx,ho,hn⟩ hnc
   have he:=Ext.alloc w2 o
   refine⟨l',Rg,Y,hm,hg,⟨h1,h2.r9 o,h3.ext he⟩,hx,fun x yJ=>?_,?_⟩
   ·rcases List.mem_cons.1 yJ with rfl|yJ
    ·refine⟨fO w2 o,hnc,h2.fr.size,fun e=>?_,fun hc=>?_⟩
     ·have:=h3.lt;simp only at e;omega
     ·have:=(Array.getElem?_eq_some_iff.1 (h2.qi _ hc).2).1
      simp only at this;omega
    ·obtain⟨o1,o2⟩:=ho x yJ
     exact⟨he.obj o1,o2⟩
   ·rw[List.map_cons,List.nodup_cons]
    refine⟨fun hc=>?_,hn⟩
    obtain⟨x,yJ,e⟩:=List.mem_map.1 hc
    have:=(Array.getElem?_eq_some_iff.1 (ho x yJ).1).1
    simp only at e;omega
  ·rintro b X O w2 r o o' ⟨l',Rg,Y,hm,hg,⟨h1,h2,h3⟩,hx,ho,hn⟩ hnc
   obtain⟨o1,o2,o3,o4,o5⟩:=ho (r,o) List.mem_cons_self
   rw[List.map_cons,List.nodup_cons] at hn
   refine⟨l',Rg,Y,hm,hg,⟨h1,h2.putObj o3 o1 o2 o5,?_⟩,hx,fun x yJ=>?_,?_⟩
   ·unfold bW;rw[fo (fun e=>o4 e.symm)];exact h3
   ·rcases List.mem_cons.1 yJ with rfl|yJ
    ·refine⟨?_,hnc,o3,o4,o5⟩
     have hlt:=(Array.getElem?_eq_some_iff.1 o1).1
     exact iS hlt
    ·obtain⟨p1,p2⟩:=ho x (List.mem_cons_of_mem _ yJ)
     refine⟨?_,p2⟩
     rw[fo (fun e=>hn.1 (List.mem_map.2 ⟨x,yJ,e⟩))];exact p1
   ·rw[List.map_cons,List.nodup_cons];exact hn
  ·rintro b X O X' O' w2 ⟨l',Rg,Y,hm,hg,hr,hx,ho,hn⟩ hs hO
   exact⟨l',Rg,Y,hm,hg,hr,fun x h=>hx x (hs x h),fun x h=>ho x (hO.subset h),(hO.map _).nodup hn⟩
  ·rintro b X O O' w2 ⟨l',Rg,Y,hm,hg,hr,hx,ho,hn⟩ hp
   exact⟨l',Rg,Y,hm,hg,hr,hx,fun x h=>ho x (hp.subset h),(hp.map _).nodup_iff.2 hn⟩
 have Y:Yd P (rr+1) em N J:=by
  rintro b x X O w3 R hb ⟨l',Rg,Y,hm,hg,hr,hx,ho,hn⟩ hR
  refine lQ x w3 R (hbody b x Rg _ rr (rr+1) rec w3 R hb hg hr fun Ig w' hg' hr' hO=>hR w' ⟨l',Ig,Y,hm,hg',hr',hx,fun x h=>?_,hn⟩)
  obtain⟨o1,o2,o3,o4,o5⟩:=ho x h
  exact⟨hO _ _ o4 o2 o1,o2,o3,o4,o5⟩
 refine Calls.mono (It (rr+1) J K Y [] Lb [] _ (by simpa using hN) hX ⟨l0,Su,[],hm0,h0,hW,fun x h=>h,fun x h=>(by cases h),List.nodup_nil⟩) ?_
 rintro e w4 ⟨v,he,l',Rg,Y,hm,hg,hr,hx,ho,hn⟩
 refine⟨v,he,VK rr rec w4 l' Rg hm hg ⟨hr.1,hr.2.1.sub ?_,hr.2.2⟩⟩
 exact List.Sublist.append (List.Sublist.refl _) (List.Sublist.cons_cons _ (List.sublist_append_right _ _))
end
end Go.RX
namespace Go.Proofs.YtdnoecpjcoibmaaGreat
set_option maxRecDepth 100000
open Go.RX
abbrev sG:List Sc:=[.int .i64,.int .i64,.int .i64,.bool,.int .i64]
abbrev eG:El:= .agg sG
abbrev GT:Type:=Int×Int×Int×Bool×Int×Unit
def zG:GT:=(0,0,0,false,0,())
def gG (n:Int):Bool:=decide (n>=1)&&decide (n<=16)
def jW (o p t:Int) (b:Bool) (u:Int):Bool:=decide (((o,p,t,b,u,()):GT)=zG)
noncomputable def G0:dD Tryz.prog:={C3 with sX:=false}
theorem Fx (n:Int) (w:World) (Post:Bool->World->Prop):(aH G0 (fun _=>[]) 110 [.int .i64 n] w Post)=(
 aj w fun w1=>Post (decide (n>=1)&&decide (n<=16)) w1):=by kernel_rfl
theorem Ka (o p t:Int) (b:Bool) (u:Int) (w:World) (Post:Bool->World->Prop):(aH G0 (fun _=>[]) 112 [.agg ⟨[.int .i64 o,.int .i64 p,.int .i64 t,.bool b,.int .i64 u]⟩] w Post)=(
 aA w ⟨[.int .i64 o,.int .i64 p,.int .i64 t,.bool b,.int .i64 u]⟩ 185 fun b w2=>ag w2 none (some ⟨b,0,none⟩) (.agg [.int .i64,.int .i64,.int .i64,.bool,.int .i64]) fun(x:Int×Int×Int×Bool×Int×Unit)=>aj w2 fun w1=>Post (x.1==0&&(x.2.1==0&&(x.2.2.1==0&&(x.2.2.2.1==false&&(x.2.2.2.2.1==0&&true))))) w1):=by kernel_rfl
theorem Fy (n:Int) (w:World):an Tryz.prog 110 (.el (.one .bool)) [.int .i64 n] w (fun x w'=>x=gG n/\Ext w w'):=by
 refine ai (C:=G0) (aJ:=fun _=>[]) (Eq.mpr (Fx n w _) ?_)
 have H:=At.start [] w
 repeat' (first
  |exact Go.RX.aF.all H
  |exact And.intro (by first|rfl|decide+kernel) (Go.RX.aF.all H)
  |refine And.intro (by first|exact rfl|exact trivial|exact fun _=>rfl|exact fun _=>trivial|exact⟨rfl,by decide,by decide⟩|exact⟨by decide,by decide⟩|decide+kernel|exact fun _=>by decide|exact fun _=>⟨rfl,by decide,by decide⟩|(dsimp only[List.length_cons,List.length_nil];exact⟨rfl,by decide,by decide⟩)) ?_
  |refine ag.bP 0 H rfl rfl ?_
  |refine ag.bP 1 H rfl rfl ?_
  |refine ag.at 0 H rfl rfl ?_
  |refine ag.at 1 H rfl rfl ?_
  |refine aA.go H fun b w1 H=>?_
  |refine av.all 0 H rfl rfl rfl fun w1 H=>?_
  |refine av.all 1 H rfl rfl rfl fun w1 H=>?_
  |refine av.dJ 0 H rfl rfl rfl fun w1 H=>?_
  |refine av.dJ 1 H rfl rfl rfl fun w1 H=>?_
  |refine av.one 0 H rfl rfl rfl fun w1 H=>?_
  |refine av.one 1 H rfl rfl rfl fun w1 H=>?_
  |with_reducible refine aj.go H fun w1 H=>?_
  |refine gf ?_
  |refine ay (by assumption) ?_
  |refine ak (by assumption) ?_
  |refine aa (fun c=>?_) (fun c=>?_))
theorem Kb (o p t:Int) (b:Bool) (u:Int) (w:World):an Tryz.prog 112 (.el (.one .bool)) [.agg ⟨[.int .i64 o,.int .i64 p,.int .i64 t,.bool b,.int .i64 u]⟩] w (fun x w'=>x=jW o p t b u/\Ext w w'):=by
 refine ai (C:=G0) (aJ:=fun _=>[]) (Eq.mpr (Ka o p t b u w _) ?_)
 have H:=At.start [] w
 refine aA.go H fun b1 w2 H=>ag.at 0 H rfl rfl (aj.go H fun w3 H=>⟨?_,H.all⟩)
 unfold jW zG
 rw[Bool.eq_iff_iff]
 simp
noncomputable def NA:Entry Tryz.prog where
 f:=110
 fn l:=match l with
  |[.int .i64 a]=>some (True,.bool (gG a))
  | _=>none
 ok args pre v h hp w:=by
  split at h
  ·rename_i a
   cases h
   exact aO (Fy a w)
  ·cases h
noncomputable def Rp:Entry Tryz.prog where
 f:=112
 fn l:=match l with
  |[.agg ⟨[.int .i64 o,.int .i64 p,.int .i64 t,.bool b,.int .i64 u]⟩]=>some (True,.bool (jW o p t b u))
  | _=>none
 ok args pre v h hp w:=by
  split at h
  ·rename_i o p t b u
   cases h
   exact aO (Kb o p t b u w)
  ·cases h
end Go.Proofs.YtdnoecpjcoibmaaGreat
namespace Go.Proofs.YtdnoecpjcoibmaaGreat
set_option maxRecDepth 100000
open Go.RX
noncomputable def G3:dD Tryz.prog:={G0 with qc:=[NA,Rp],quiet:=[109,211,214,204],sh:=[(53,.el (.one .bool))]}
noncomputable def G4:dD Tryz.prog:={G3 with cl:=[(116,.rN 111 3)]}
theorem Fz (p:Option Addr) (w:World) (Post:Bool->World->Prop):(aH G3 (fun _=>[]) 109 [.pointer p] w Post)=(
 ((!p.isNone)=true->p.isSome=true)/\((!p.isNone)=true->p.isSome=true)/\ag w (some !p.isNone) (af p 0) (.one .slice) fun x=>aj w fun w1=>Post (!p.isNone&&decide ((↑x.2.1:Int)>0)) w1):=by kernel_rfl
theorem Rq (p:Option Addr) (i:Int) (w:World) (Post:Option Addr×Int×Unit->World->Prop):(aH G3 (fun _=>[]) 211 [.pointer p,.int .i64 i] w Post)=(
 ∃x,ah Tryz.prog 109 [.pointer p] w (.bool x)/\aB (!x) (aj w fun w1=>Post (none,10,Unit.unit) w1) (((!decide (i<0))=true->p.isSome=true)/\((!decide (i<0))=true->p.isSome=true)/\ag w (some !decide (i<0)) (af p 0) (.one .slice) fun x=>((!(decide (i<0)||decide (i>=(↑x.2.1:Int))))=true->p.isSome=true)/\((!(decide (i<0)||decide (i>=(↑x.2.1:Int))))=true->p.isSome=true)/\ag w (some !(decide (i<0)||decide (i>=(↑x.2.1:Int)))) (af p 0) (.one .slice) fun x_1=>((!(decide (i<0)||decide (i>=(↑x.2.1:Int))))=true->
 x_1.1.isSome=true/\0<=i/\i<(↑x_1.2.1:Int))/\ag w (some !(decide (i<0)||decide (i>=(↑x.2.1:Int)))) (af x_1.1 (i.toNat*5)) (.agg [.int .i64,.int .i64,.int .i64,.bool,.int .i64]) fun(x_2:Int×Int×Int×Bool×Int×Unit)=>((!(decide (i<0)||decide (i>=(↑x.2.1:Int))))=true->True)/\aB (decide (i<0)||decide (i>=(↑x.2.1:Int))||jW x_2.1 x_2.2.1 x_2.2.2.1 x_2.2.2.2.1 x_2.2.2.2.2.1) (aj w fun w1=>Post (none,4,Unit.unit) w1) (p.isSome=true/\p.isSome=true/\ag w none (af p 0) (.one .slice) fun x=>(x.1.isSome=true/\0<=i/\i<
 (↑x.2.1:Int))/\aj w fun w1=>Post (af x.1 (i.toNat*5),0,Unit.unit) w1))):=by kernel_rfl
theorem Kc (o q t:Int) (b:Bool) (u:Int) (c:Option Addr) (w:World) (Post:Bool->World->Prop):(aH G3 (fun _=>[]) 214 [.agg ⟨[.int .i64 o,.int .i64 q,.int .i64 t,.bool b,.int .i64 u]⟩,.pointer c] w Post)=(
 aA w ⟨[.int .i64 o,.int .i64 q,.int .i64 t,.bool b,.int .i64 u]⟩ 185 fun b w2=>ag w2 none c (.agg [.int .i64,.int .i64,.int .i64,.bool,.int .i64]) fun(x:Int×Int×Int×Bool×Int×Unit)=>true=true/\ag w2 none (af (some ⟨b,0,none⟩) 0) (.one (.int .i64)) fun(x_1:Int)=>true=true/\ag w2 none (af (some ⟨b,0,none⟩) 1) (.one (.int .i64)) fun(x_2:Int)=>true=true/\ag w2 none (af (some ⟨b,0,none⟩) 2) (.one (.int .i64)) fun(x_3:Int)=>aj w2 fun w1=>Post (x.1==x_1&&(x.2.1==x_2&&(x.2.2.1==x_3&&(x.2.2.2.1==false&&(x.2.2.2.2.1==
 0&&true))))) w1):=by kernel_rfl
theorem FA (o q t:Int) (b:Bool) (u:Int) (c:Option Addr) (w:World) (Post:Bool->World->Prop):(aH G3 (fun _=>[]) 204 [.agg ⟨[.int .i64 o,.int .i64 q,.int .i64 t,.bool b,.int .i64 u]⟩,.pointer c] w Post)=(
 aA w ⟨[.int .i64 o,.int .i64 q,.int .i64 t,.bool b,.int .i64 u]⟩ 185 fun b w2=>ag w2 none (some ⟨b,0,none⟩) (.agg [.int .i64,.int .i64,.int .i64,.bool,.int .i64]) fun(x:Int×Int×Int×Bool×Int×Unit)=>True/\((!jW x.1 x.2.1 x.2.2.1 x.2.2.2.1 x.2.2.2.2.1)=true->true=true)/\ag w2 (some !jW x.1 x.2.1 x.2.2.1 x.2.2.2.1 x.2.2.2.2.1) (af (some ⟨b,0,none⟩) 0) (.one (.int .i64)) fun(x_1:Int)=>ag w2 (some !jW x.1 x.2.1 x.2.2.1 x.2.2.2.1 x.2.2.2.2.1) c (.one (.int .i64)) fun(x_2:Int)=>((!jW x.1 x.2.1 x.2.2.1 x.2.2.2.1 x.2.2.2.2.1&& !x_1==
 x_2)=true->true=true)/\ag w2 (some (!jW x.1 x.2.1 x.2.2.1 x.2.2.2.1 x.2.2.2.2.1&& !x_1==x_2)) (af (some ⟨b,0,none⟩) 2) (.one (.int .i64)) fun(x_3:Int)=>ag w2 (some (!jW x.1 x.2.1 x.2.2.1 x.2.2.2.1 x.2.2.2.2.1&& !x_1==x_2)) c (.one (.int .i64)) fun(x_4:Int)=>aj w2 fun w1=>Post (!jW x.1 x.2.1 x.2.2.1 x.2.2.2.1 x.2.2.2.2.1&&(x_1==x_2||x_3==x_4)) w1):=by kernel_rfl
def oO:Nat->aQ:=(fun|5=>[(5,Go.RX.El.one Go.RX.Sc.slice),(16,Go.RX.El.one (Go.RX.Sc.int Go.IntKind.i64))]| _=>[])
theorem FB (p:Option Addr) (w:World) (Post:Option Addr×Nat×Nat->World->Prop):(aH G3 oO 203 [.pointer p,.func (.func 112) #[] #[]] w Post)=(
 ∃x,ah Tryz.prog 109 [.pointer p] w (.bool x)/\aB (!x) (aj w fun w1=>Post (none,0,0) w1) (p.isSome=true/\p.isSome=true/\ag w none (af p 0) (.one .slice) fun x=> ∃(I:Nat->(Option Addr×Nat×Nat)×Int×Unit->World->Prop),(∃n, ∀w1,Ext w w1->I n ((none,0,0),0,Unit.unit) w1)/\ ∀(n:Nat) (s:(Option Addr×Nat×Nat)×Int×Unit) (w1:World),I n s w1->aB (decide (s.2.1<(↑x.2.1:Int))) ((x.1.isSome=true/\0<=s.2.1/\s.2.1<(↑x.2.1:Int))/\ag w1 none (af x.1 (Int.toNat s.2.1*5)) (.agg [.int .i64,.int .i64,.int .i64,.bool,.int .i64])
 fun(x:Int×Int×Int×Bool×Int×Unit)=>aA w1 ⟨[.int .i64 0,.int .i64 0,.int .i64 0,.bool false,.int .i64 0]⟩ 185 fun b w2=>av w2 (some ⟨b,0,none⟩) [.int .i64 x.1,.int .i64 x.2.1,.int .i64 x.2.2.1,.bool x.2.2.2.1,.int .i64 x.2.2.2.2.1] fun w2=>ag w2 none (some ⟨b,0,none⟩) (.agg [.int .i64,.int .i64,.int .i64,.bool,.int .i64]) fun(x:Int×Int×Int×Bool×Int×Unit)=>True/\aB (jW x.1 x.2.1 x.2.2.1 x.2.2.2.1 x.2.2.2.2.1) (aA w2 ⟨[.int .i64 s.2.1]⟩ 3 fun b w2=> ∀w1,Ext w2 w1->tV w1 3 1 8 ⟨[.int .i64 0]⟩ (s.1.1,s.1.2.1,s.1.2.2) (some ⟨b,0,
 none⟩,1,1) fun(r:Option Addr×Nat×Nat) w2=> ∀w3,Ext w2 w3-> ∃(n':Nat),n'<n/\I n' ((r.1,r.2.1,r.2.2),au .i64 s.2.1 1,Unit.unit) w3) (∀w3,Ext w2 w3-> ∃(n':Nat),n'<n/\I n' ((s.1.1,s.1.2.1,s.1.2.2),au .i64 s.2.1 1,Unit.unit) w3)) (aj w1 fun w1=>Post (s.1.1,s.1.2.1,s.1.2.2) w1))):=by kernel_rfl
def oP:Nat->aQ:=(fun|5=>[(5,Go.RX.El.one Go.RX.Sc.slice),(16,Go.RX.El.one (Go.RX.Sc.int Go.IntKind.i64))]| _=>[])
theorem FC (p c:Option Addr) (w:World) (Post:Option Addr×Nat×Nat->World->Prop):(aH G3 oP 203 [.pointer p,.func (.func 214) #[] #[.pointer c]] w Post)=(
 ∃x,ah Tryz.prog 109 [.pointer p] w (.bool x)/\aB (!x) (aj w fun w1=>Post (none,0,0) w1) (p.isSome=true/\p.isSome=true/\ag w none (af p 0) (.one .slice) fun x=> ∃(I:Nat->(Option Addr×Nat×Nat)×Int×Unit->World->Prop),(∃n, ∀w1,Ext w w1->I n ((none,0,0),0,Unit.unit) w1)/\ ∀(n:Nat) (s:(Option Addr×Nat×Nat)×Int×Unit) (w1:World),I n s w1->aB (decide (s.2.1<(↑x.2.1:Int))) ((x.1.isSome=true/\0<=s.2.1/\s.2.1<(↑x.2.1:Int))/\ag w1 none (af x.1 (Int.toNat s.2.1*5)) (.agg [.int .i64,.int .i64,.int .i64,.bool,.int .i64])
 fun(x:Int×Int×Int×Bool×Int×Unit)=>aA w1 ⟨[.int .i64 0,.int .i64 0,.int .i64 0,.bool false,.int .i64 0]⟩ 185 fun b w2=>av w2 (some ⟨b,0,none⟩) [.int .i64 x.1,.int .i64 x.2.1,.int .i64 x.2.2.1,.bool x.2.2.2.1,.int .i64 x.2.2.2.2.1] fun w2=>ag w2 none (some ⟨b,0,none⟩) (.agg [.int .i64,.int .i64,.int .i64,.bool,.int .i64]) fun(x:Int×Int×Int×Bool×Int×Unit)=> ∃x_1,ah Tryz.prog 214 [.agg ⟨[.int .i64 x.1,.int .i64 x.2.1,.int .i64 x.2.2.1,.bool x.2.2.2.1,.int .i64 x.2.2.2.2.1]⟩,.pointer c] w2 (.bool x_1)/\aB x_1 (aA w2 ⟨[.int .i64
 s.2.1]⟩ 3 fun b w2=> ∀w1,Ext w2 w1->tV w1 3 1 8 ⟨[.int .i64 0]⟩ (s.1.1,s.1.2.1,s.1.2.2) (some ⟨b,0,none⟩,1,1) fun(r:Option Addr×Nat×Nat) w2=> ∀w3,Ext w2 w3-> ∃(n':Nat),n'<n/\I n' ((r.1,r.2.1,r.2.2),au .i64 s.2.1 1,Unit.unit) w3) (∀w3,Ext w2 w3-> ∃(n':Nat),n'<n/\I n' ((s.1.1,s.1.2.1,s.1.2.2),au .i64 s.2.1 1,Unit.unit) w3)) (aj w1 fun w1=>Post (s.1.1,s.1.2.1,s.1.2.2) w1))):=by kernel_rfl
def oQ:Nat->aQ:=(fun|5=>[(5,Go.RX.El.one Go.RX.Sc.slice),(16,Go.RX.El.one (Go.RX.Sc.int Go.IntKind.i64))]| _=>[])
theorem FD (p c:Option Addr) (w:World) (Post:Option Addr×Nat×Nat->World->Prop):(aH G3 oQ 203 [.pointer p,.func (.func 204) #[] #[.pointer c]] w Post)=(
 ∃x,ah Tryz.prog 109 [.pointer p] w (.bool x)/\aB (!x) (aj w fun w1=>Post (none,0,0) w1) (p.isSome=true/\p.isSome=true/\ag w none (af p 0) (.one .slice) fun x=> ∃(I:Nat->(Option Addr×Nat×Nat)×Int×Unit->World->Prop),(∃n, ∀w1,Ext w w1->I n ((none,0,0),0,Unit.unit) w1)/\ ∀(n:Nat) (s:(Option Addr×Nat×Nat)×Int×Unit) (w1:World),I n s w1->aB (decide (s.2.1<(↑x.2.1:Int))) ((x.1.isSome=true/\0<=s.2.1/\s.2.1<(↑x.2.1:Int))/\ag w1 none (af x.1 (Int.toNat s.2.1*5)) (.agg [.int .i64,.int .i64,.int .i64,.bool,.int .i64])
 fun(x:Int×Int×Int×Bool×Int×Unit)=>aA w1 ⟨[.int .i64 0,.int .i64 0,.int .i64 0,.bool false,.int .i64 0]⟩ 185 fun b w2=>av w2 (some ⟨b,0,none⟩) [.int .i64 x.1,.int .i64 x.2.1,.int .i64 x.2.2.1,.bool x.2.2.2.1,.int .i64 x.2.2.2.2.1] fun w2=>ag w2 none (some ⟨b,0,none⟩) (.agg [.int .i64,.int .i64,.int .i64,.bool,.int .i64]) fun(x:Int×Int×Int×Bool×Int×Unit)=> ∃x_1,ah Tryz.prog 204 [.agg ⟨[.int .i64 x.1,.int .i64 x.2.1,.int .i64 x.2.2.1,.bool x.2.2.2.1,.int .i64 x.2.2.2.2.1]⟩,.pointer c] w2 (.bool x_1)/\aB x_1 (aA w2 ⟨[.int .i64
 s.2.1]⟩ 3 fun b w2=> ∀w1,Ext w2 w1->tV w1 3 1 8 ⟨[.int .i64 0]⟩ (s.1.1,s.1.2.1,s.1.2.2) (some ⟨b,0,none⟩,1,1) fun(r:Option Addr×Nat×Nat) w2=> ∀w3,Ext w2 w3-> ∃(n':Nat),n'<n/\I n' ((r.1,r.2.1,r.2.2),au .i64 s.2.1 1,Unit.unit) w3) (∀w3,Ext w2 w3-> ∃(n':Nat),n'<n/\I n' ((s.1.1,s.1.2.1,s.1.2.2),au .i64 s.2.1 1,Unit.unit) w3)) (aj w1 fun w1=>Post (s.1.1,s.1.2.1,s.1.2.2) w1))):=by kernel_rfl
theorem FE (p:Option Addr) (o q t:Int) (b:Bool) (w:World) (Post:Int×Int×Unit->World->Prop):(aH G3 (fun _=>[]) 164 [.pointer p,.int .i64 o,.int .i64 q,.int .i64 t,.bool b] w Post)=(
 ∃x,ah Tryz.prog 109 [.pointer p] w (.bool x)/\aB (!x) (aj w fun w1=>Post (0,10,Unit.unit) w1) (True/\((!!gG o)=true->True)/\aB (!gG o|| !gG t||o==t||decide (q<0)||decide (q>=65536)) (aj w fun w1=>Post (0,1,Unit.unit) w1) (aA w ⟨[.int .i64 0,.int .i64 0,.int .i64 0,.bool false,.int .i64 0]⟩ 185 fun b_1 w2=>av w2 (some ⟨b_1,0,none⟩) [.int .i64 o,.int .i64 q,.int .i64 t,.bool false,.int .i64 0] fun w2=>az Tryz.prog 203 (.el (.one .slice)) [.pointer p,.func (.func 214) ⟨[]⟩ {toList:=[.pointer (some ⟨b_1,0,none⟩)]}] w2 fun x w2=>aB
 (decide ((↑x.2.1:Int)>0)) (aj w2 fun w1=>Post (0,5,Unit.unit) w1) (az Tryz.prog 203 (.el (.one .slice)) [.pointer p,.func (.func 112) ⟨[]⟩ ⟨[]⟩] w2 fun x w2=>aB ((↑x.2.1:Int)==0) (aj w2 fun w1=>Post (0,3,Unit.unit) w1) (true=true/\av w2 (af (some ⟨b_1,0,none⟩) 3) [.bool b] fun w2=>p.isSome=true/\p.isSome=true/\ag w2 none (af p 0) (.one .slice) fun x_1=>(x.1.isSome=true/\(0:Int)<=0/\0<(↑x.2.1:Int))/\ag w2 none (af x.1 0) (.one (.int .i64)) fun(x_2:Int)=>ag w2 none (some ⟨b_1,0,none⟩) (.agg [.int .i64,.int .i64,.int .i64,
 .bool,.int .i64]) fun(x_3:Int×Int×Int×Bool×Int×Unit)=>(x_1.1.isSome=true/\0<=x_2/\x_2<(↑x_1.2.1:Int))/\av w2 (af x_1.1 (x_2.toNat*5)) [.int .i64 x_3.1,.int .i64 x_3.2.1,.int .i64 x_3.2.2.1,.bool x_3.2.2.2.1,.int .i64 x_3.2.2.2.2.1] fun w2=>(x.1.isSome=true/\(0:Int)<=0/\0<(↑x.2.1:Int))/\ag w2 none (af x.1 0) (.one (.int .i64)) fun(x:Int)=>aj w2 fun w1=>Post (x,0,Unit.unit) w1))))):=by kernel_rfl
theorem Rr (p:Option Addr) (i:Int) (w:World) (Post:GT×Bool×Unit->World->Prop):(bM G3 (fun _=>[]) 159 [.pointer p,.int .i64 i] w Post)=(
 aA w ⟨[.int .i64 0,.int .i64 0,.int .i64 0,.bool false,.int .i64 0]⟩ 185 fun b w2=> ∃(x:Option Addr×Int×Unit),ah Tryz.prog 211 [.pointer p,.int .i64 i] w2 (.tuple ⟨[.pointer x.1,.int .i64 x.2.1]⟩)/\aB (x.2.1 != 0) (av w2 (some ⟨b,0,none⟩) [.int .i64 0,.int .i64 0,.int .i64 0,.bool false,.int .i64 0] fun w2=>aj w2 fun w1=>ag w1 none (some ⟨b,0,none⟩) (.agg [.int .i64,.int .i64,.int .i64,.bool,.int .i64]) fun(x:Int×Int×Int×Bool×Int×Unit)=>Post ((x.1,x.2.1,x.2.2.1,x.2.2.2.1,x.2.2.2.2.1,Unit.unit),false,Unit.unit) w1) (x.1.isSome=
 true/\ag w2 none x.1 (.agg [.int .i64,.int .i64,.int .i64,.bool,.int .i64]) fun(x:Int×Int×Int×Bool×Int×Unit)=>av w2 (some ⟨b,0,none⟩) [.int .i64 x.1,.int .i64 x.2.1,.int .i64 x.2.2.1,.bool x.2.2.2.1,.int .i64 x.2.2.2.2.1] fun w2=>aj w2 fun w1=>ag w1 none (some ⟨b,0,none⟩) (.agg [.int .i64,.int .i64,.int .i64,.bool,.int .i64]) fun(x:Int×Int×Int×Bool×Int×Unit)=>Post ((x.1,x.2.1,x.2.2.1,x.2.2.2.1,x.2.2.2.2.1,Unit.unit),true,Unit.unit) w1)):=by kernel_rfl
theorem Ke (p:Option Addr) (i g:Int) (b:Bool) (w:World) (Post:Int->World->Prop):(aH G3 (fun _=>[]) 165 [.pointer p,.int .i64 i,.int .i64 g,.bool b] w Post)=(
 ∃(x:Option Addr×Int×Unit),ah Tryz.prog 211 [.pointer p,.int .i64 i] w (.tuple ⟨[.pointer x.1,.int .i64 x.2.1]⟩)/\aB (x.2.1 != 0) (aj w fun w1=>Post x.2.1 w1) (x.1.isSome=true/\x.1.isSome=true/\ag w none (af x.1 2) (.one (.int .i64)) fun(x_1:Int)=>((!x_1 != g&&b)=true->x.1.isSome=true)/\((!x_1 != g&&b)=true->x.1.isSome=true)/\ag w (some (!x_1 != g&&b)) (af x.1 3) (.one .bool) fun x_2=>aB (x_1 != g||b&& !x_2) (aj w fun w1=>Post 7 w1) (x.1.isSome=true/\x.1.isSome=true/\ag w none (af x.1 4) (.one (.int .i64)) fun(x_3:Int)
 =>aB (x_3==1000) (aj w fun w1=>Post 3 w1) (x.1.isSome=true/\x.1.isSome=true/\ag w none (af x.1 4) (.one (.int .i64)) fun(x_4:Int)=>x.1.isSome=true/\x.1.isSome=true/\av w (af x.1 4) [.int .i64 (au .i64 x_4 1)] fun w2=>aj w2 fun w1=>Post 0 w1)))):=by kernel_rfl
theorem Kf (p:Option Addr) (i g:Int) (w:World) (Post:Int->World->Prop):(aH G3 (fun _=>[]) 166 [.pointer p,.int .i64 i,.int .i64 g] w Post)=(
 ∃(x:Option Addr×Int×Unit),ah Tryz.prog 211 [.pointer p,.int .i64 i] w (.tuple ⟨[.pointer x.1,.int .i64 x.2.1]⟩)/\aB (x.2.1 != 0) (aj w fun w1=>Post x.2.1 w1) (x.1.isSome=true/\x.1.isSome=true/\ag w none (af x.1 2) (.one (.int .i64)) fun(x_1:Int)=>aB (x_1 != g) (aj w fun w1=>Post 7 w1) (x.1.isSome=true/\x.1.isSome=true/\ag w none (af x.1 4) (.one (.int .i64)) fun(x_2:Int)=>aB (x_2==0) (aj w fun w1=>Post 6 w1) (x.1.isSome=true/\x.1.isSome=true/\ag w none (af x.1 4) (.one (.int .i64)) fun(x_3:Int)=>x.1.isSome=true/\
 x.1.isSome=true/\av w (af x.1 4) [.int .i64 (bL .i64 x_3 1)] fun w2=>aj w2 fun w1=>Post 0 w1)))):=by kernel_rfl
theorem CH (p:Option Addr) (i o:Int) (w:World) (Post:Int->World->Prop):(aH G3 (fun _=>[]) 168 [.pointer p,.int .i64 i,.int .i64 o] w Post)=(
 ∃(x:Option Addr×Int×Unit),ah Tryz.prog 211 [.pointer p,.int .i64 i] w (.tuple ⟨[.pointer x.1,.int .i64 x.2.1]⟩)/\aB (x.2.1 != 0) (aj w fun w1=>Post x.2.1 w1) (x.1.isSome=true/\x.1.isSome=true/\ag w none (af x.1 0) (.one (.int .i64)) fun(x_1:Int)=>aB (x_1 != o) (aj w fun w1=>Post 7 w1) (x.1.isSome=true/\x.1.isSome=true/\ag w none (af x.1 4) (.one (.int .i64)) fun(x_2:Int)=>aB (decide (x_2>0)) (aj w fun w1=>Post 9 w1) (x.1.isSome=true/\av w x.1 [.int .i64 0,.int .i64 0,.int .i64 0,.bool false,.int .i64 0] fun w2=>aj w2 fun w1
 =>Post 0 w1)))):=by kernel_rfl
def rB:Nat->aQ:=(fun|3=>[(13,Go.RX.El.one (Go.RX.Sc.int Go.IntKind.i64))]| _=>[])
theorem Kg (p:Option Addr) (g:Int) (w:World) (Post:Int->World->Prop):(aH G3 rB 152 [.pointer p,.int .i64 g] w Post)=(
 aA w ⟨[.int .i64 g]⟩ 3 fun b w2=>az Tryz.prog 203 (.el (.one .slice)) [.pointer p,.func (.func 204) ⟨[]⟩ {toList:=[.pointer (some ⟨b,0,none⟩)]}] w2 fun x w2=> ∃(I:Nat->Int×Unit->World->Prop),(∃n, ∀w1,Ext w2 w1->I n (0,Unit.unit) w1)/\ ∀(n:Nat) (s:Int×Unit) (w1:World),I n s w1->aB (decide (s.1<(↑x.2.1:Int))) ((x.1.isSome=true/\0<=s.1/\s.1<(↑x.2.1:Int))/\ag w1 none (af x.1 (Int.toNat s.1*1)) (.one (.int .i64)) fun(x:Int)=>p.isSome=true/\p.isSome=true/\ag w1 none (af p 0) (.one .slice) fun x_1=>(x_1.1.isSome=true/\0<=x
 /\x<(↑x_1.2.1:Int))/\av w1 (af x_1.1 (x.toNat*5)) [.int .i64 0,.int .i64 0,.int .i64 0,.bool false,.int .i64 0] fun w2=> ∀w3,Ext w2 w3-> ∃(n':Nat),n'<n/\I n' (au .i64 s.1 1,Unit.unit) w3) (aj w1 fun w1=>Post (↑x.2.1:Int) w1)):=by kernel_rfl
theorem CI (p:Option Addr) (a b:Int) (w:World) (Post:Bool->World->Prop):(aH G4 (fun _=>[]) 53 [.pointer p,.int .i64 a,.int .i64 b] w Post)=(
 aA w ⟨[.pointer p]⟩ 85 fun b_1 w2=>ag w2 none (some ⟨b_1,0,none⟩) (.one .ptr) fun x=> ∃x_1,ah Tryz.prog 109 [.pointer x] w2 (.bool x_1)/\((!!x_1)=true->True)/\((!(!x_1|| !gG a))=true->True)/\aB (!x_1|| !gG a|| !gG b) (aj w2 fun w1=>Post false w1) (aA w2 {toList:=[.bool false,.bool false,.bool false,.bool false,.bool false,.bool false,.bool false,.bool false,.bool false,.bool false,.bool false,.bool false,.bool false,.bool false,.bool false,.bool false,.bool false]} 115 fun b_2 w2=>aA w2 ⟨[Value.nilFunc]⟩ 116 fun sN w2=>av w2 (some
 ⟨sN,0,none⟩) [.func (.func 111) ⟨[]⟩ {toList:=[.pointer (some ⟨b_2,0,none⟩),.pointer (some ⟨b_1,0,none⟩),.pointer (some ⟨sN,0,none⟩)]}] fun w2=>ag w2 none (some ⟨sN,0,none⟩) (.one (.rN 111 3)) fun x=>az Tryz.prog 111 (.bq []) [.int .i64 a,.pointer x.1,.pointer x.2.1,.pointer x.2.2.1] w2 fun x w2=>(true=true/\0<=b/\b<(↑17:Int))/\ag w2 none (af (some ⟨b_2,0,none⟩) (b.toNat*1)) (.one .bool) fun x=>aj w2 fun w1=>Post x w1)):=by kernel_rfl
def iX:Nat->aQ:=(fun|3=>[(17,Go.RX.El.one (Go.RX.Sc.int Go.IntKind.i64))]| _=>[])
theorem tI (n:Int) (c d e:Option Addr) (w:World) (Post:Unit->World->Prop):(aH G4 iX 111 [.int .i64 n,.pointer c,.pointer d,.pointer e] w Post)=(
 (c.isSome=true/\0<=n/\n<(↑17:Int))/\ag w none (af c (n.toNat*1)) (.one .bool) fun x=>aB x (aj w fun w1=>Post Unit.unit w1) ((c.isSome=true/\0<=n/\n<(↑17:Int))/\av w (af c (n.toNat*1)) [.bool true] fun w2=>ag w2 none d (.one .ptr) fun x=>x.isSome=true/\x.isSome=true/\ag w2 none (af x 0) (.one .slice) fun x=> ∃(I:Nat->Int×Unit->World->Prop),(∃n, ∀w1,Ext w2 w1->I n (0,Unit.unit) w1)/\ ∀(n_1:Nat) (s:Int×Unit) (w1:World),I n_1 s w1->aB (decide (s.1<(↑x.2.1:Int))) ((x.1.isSome=true/\0<=s.1/\s.1<(↑x.2.1:Int))
 /\ag w1 none (af x.1 (Int.toNat s.1*5)) (.agg [.int .i64,.int .i64,.int .i64,.bool,.int .i64]) fun(x:Int×Int×Int×Bool×Int×Unit)=>aA w1 ⟨[.int .i64 0,.int .i64 0,.int .i64 0,.bool false,.int .i64 0]⟩ 185 fun b w2=>av w2 (some ⟨b,0,none⟩) [.int .i64 x.1,.int .i64 x.2.1,.int .i64 x.2.2.1,.bool x.2.2.2.1,.int .i64 x.2.2.2.2.1] fun w2=>ag w2 none (some ⟨b,0,none⟩) (.agg [.int .i64,.int .i64,.int .i64,.bool,.int .i64]) fun(x:Int×Int×Int×Bool×Int×Unit)=>True/\aB (jW x.1 x.2.1 x.2.2.1 x.2.2.2.1 x.2.2.2.2.1) (∀w3,Ext w2 w3-> ∃(n':
 Nat),n'<n_1/\I n' (au .i64 s.1 1,Unit.unit) w3) (true=true/\ag w2 none (af (some ⟨b,0,none⟩) 0) (.one (.int .i64)) fun(x:Int)=>aB (x==n) (ag w2 none e (.one (.rN 111 3)) fun x=>true=true/\ag w2 none (af (some ⟨b,0,none⟩) 2) (.one (.int .i64)) fun(x_1:Int)=>az Tryz.prog 111 (.bq []) [.int .i64 x_1,.pointer x.1,.pointer x.2.1,.pointer x.2.2.1] w2 fun x w2=> ∀w3,Ext w2 w3-> ∃(n':Nat),n'<n_1/\I n' (au .i64 s.1 1,Unit.unit) w3) (true=true/\ag w2 none (af (some ⟨b,0,none⟩) 2) (.one (.int .i64)) fun(x:Int)=>aB (x==n) (ag w2
 none e (.one (.rN 111 3)) fun x=>true=true/\ag w2 none (af (some ⟨b,0,none⟩) 0) (.one (.int .i64)) fun(x_1:Int)=>az Tryz.prog 111 (.bq []) [.int .i64 x_1,.pointer x.1,.pointer x.2.1,.pointer x.2.2.1] w2 fun x w2=> ∀w3,Ext w2 w3-> ∃(n':Nat),n'<n_1/\I n' (au .i64 s.1 1,Unit.unit) w3) (∀w3,Ext w2 w3-> ∃(n':Nat),n'<n_1/\I n' (au .i64 s.1 1,Unit.unit) w3)))) (aj w1 fun w1=>Post Unit.unit w1))):=by kernel_rfl
theorem NB (n:Int) (w:World) (Post:Option Addr×Int×Unit->World->Prop):(aH G3 (fun _=>[]) 45 [.int .i64 n] w Post)=(
 aB (decide (n<1)||decide (n>64)) (aj w fun w1=>Post (none,1,Unit.unit) w1) (BF w 40 5 n n ⟨[.int .i64 0,.int .i64 0,.int .i64 0,.bool false,.int .i64 0]⟩ 185 fun b w2=>aA w2 {toList:=[.slice (some ⟨b,0,none⟩) n.toNat n.toNat]} 169 fun b w2=>aj w2 fun w1=>Post (some ⟨b,0,none⟩,0,Unit.unit) w1)):=by kernel_rfl
end Go.Proofs.YtdnoecpjcoibmaaGreat
namespace Go.Proofs.YtdnoecpjcoibmaaGreat
set_option maxRecDepth 100000
open Go.RX
theorem xN {lo sz:Int} (h:bU lo sz=true):lo.toNat+sz.toNat<=64/\1<=sz.toNat:=by
 have:=fU.1 h;omega
theorem Kh {w:BitVec 64} {lo sz:Int} (h:bU lo sz=true):(cP w lo sz).toNat=w.toNat / 2 ^ lo.toNat % 2 ^ sz.toNat:=by
 have hn:=xN h
 apply Nat.eq_of_testBit_eq
 intro j
 rw[BitVec.testBit_toNat,Ea h,pO (by omega),Nat.testBit_mod_two_pow,Nat.testBit_div_two_pow,BitVec.testBit_toNat,Nat.add_comm j,Bool.and_comm]
theorem Ki {w v:BitVec 64} {lo sz:Int} (h:bU lo sz=true) (hw:w.toNat<2 ^ lo.toNat):(qt w lo sz v).toNat=2 ^ lo.toNat*(v.toNat % 2 ^ sz.toNat)+w.toNat:=by
 have hn:=xN h
 apply Nat.eq_of_testBit_eq
 intro j
 rw[BitVec.testBit_toNat,Ns h,Nat.testBit_two_pow_mul_add _ hw]
 by_cases hj:j<64
 ·rw[Rb (by omega) hj]
  by_cases h1:j<lo.toNat
  ·rw[if_neg (by omega),if_pos h1,BitVec.testBit_toNat]
  ·rw[if_neg h1,Nat.testBit_mod_two_pow,BitVec.testBit_toNat]
   by_cases h2:j<lo.toNat+sz.toNat
   ·rw[if_pos (by omega)]
    have:j - lo.toNat<sz.toNat:=by omega
    simp[this]
   ·rw[if_neg (by omega)]
    have h3: ¬ j - lo.toNat<sz.toNat:=by omega
    simp only[h3,decide_false,Bool.false_and]
    rw[<-BitVec.testBit_toNat]
    exact Nat.testBit_lt_two_pow (Nat.lt_of_lt_of_le hw (Nat.pow_le_pow_right (by decide) (by omega)))
 ·rw[BitVec.getLsbD_of_ge _ _ (by omega),if_neg (by omega),Nat.testBit_mod_two_pow]
  have h3: ¬ j - lo.toNat<sz.toNat:=by omega
  simp[h3]
theorem Uc (b:BitVec 64):U b=(b.toNat:Int):=rfl
theorem ua {b:BitVec 64} {n:Nat} (h:b.toNat=n):U b=(n:Int):=by rw[Uc,h]
end Go.Proofs.YtdnoecpjcoibmaaGreat
namespace Go.Proofs.YtdnoecpjcoibmaaGreat
set_option maxRecDepth 100000
open Go.RX
def bB (b:Bool):BitVec 64:=if b then 1#64 else 0#64
def nB (b:Bool):Nat:=if b then 1 else 0
theorem Jl (b:Bool):(bB b).toNat=nB b:=by cases b<;>rfl
theorem Aw (b:Bool):nB b<=1:=by cases b<;>decide
theorem nu {w v:BitVec 64} {lo sz:Int} {a n:Nat} (hf:bU lo sz=true) (hw:w.toNat=a) (ha:a<2 ^ lo.toNat) (hv:v.toNat=n) (hn:n<2 ^ sz.toNat):(qt w lo sz v).toNat=2 ^ lo.toNat*n+a:=by
 rw[Ki hf (by rw[hw];exact ha),hv,hw,Nat.mod_eq_of_lt hn]
theorem FF {p l:Bool} {r f:BitVec 64} {x y:Nat} (hr:r.toNat=x) (hx:x<8) (hf:f.toNat=y) (hy:y<4096):
 (oK 0#64 0 [(bB p,1),(r,3),(bB l,1),(0#64,7),(f,12)]).toNat=nB p+2*x+16*nB l+4096*y:=by
 have hp:=Aw p
 have hl:=Aw l
 simp only[oK]
 rw[if_pos (by decide),if_pos (by decide),if_pos (by decide),if_pos (by decide),if_pos (by decide)]
 have e1:=nu (w:=0#64) (lo:=0) (sz:=1) (by decide) (rfl:(0#64).toNat=0) (by decide) (Jl p) (by show nB p<2;omega)
 have e2:=nu (lo:=0+1) (sz:=3) (by decide) e1 (by show 1*nB p+0<2;omega) hr (by show x<8;omega)
 have e3:=nu (lo:=0+1+3) (sz:=1) (by decide) e2 (by show 2*x+(1*nB p+0)<16;omega) (Jl l) (by show nB l<2;omega)
 have e4:=nu (lo:=0+1+3+1) (sz:=7) (v:=0#64) (by decide) e3 (by show 16*nB l+(2*x+(1*nB p+0))<32;omega) (rfl:(0#64).toNat=0) (by decide)
 have e5:=nu (lo:=0+1+3+1+7) (sz:=12) (by decide) e4 (by show 32*0+(16*nB l+(2*x+(1*nB p+0)))<4096;omega) hf (by show y<4096;omega)
 rw[e5]
 show 4096*y+(32*0+(16*nB l+(2*x+(1*nB p+0))))= _
 omega
theorem CJ (w:BitVec 64):kA w 0 [1,3,1,7,12,40]=some [cP w 0 1,cP w 1 3,cP w 4 1,cP w 5 7,cP w 12 12,cP w 24 40]:=by
 simp only[kA]
 rw[if_pos (by decide),if_pos (by decide),if_pos (by decide),if_pos (by decide),if_pos (by decide),if_pos (by decide)]
 rfl
theorem gW {w:BitVec 64} {lo sz:Int} (a b:Nat) (h:bU lo sz=true) (ha:2 ^ lo.toNat=a) (hb:2 ^ sz.toNat=b):(cP w lo sz).toNat=w.toNat / a % b:=by
 rw[Kh h,ha,hb]
end Go.Proofs.YtdnoecpjcoibmaaGreat
namespace Go.Proofs.YtdnoecpjcoibmaaGreat
set_option maxRecDepth 100000
open Go.RX
noncomputable def D0:dD Tryz.prog:={C3 with sX:=true}
theorem ND (b:Bool) (w:World) (Post:Int->World->Prop):(aH D0 (fun _=>[]) 260 [.bool b] w Post)=(
 aB b (aj w fun w1=>Post 1 w1) (aj w fun w1=>Post 0 w1)):=by kernel_rfl
theorem vr (p:Bool) (r:Int) (l:Bool) (f:Int) (w:World) (Post:Bool->World->Prop):(aH D0 (fun _=>[]) 250 [.agg ⟨[.bool p,.int .i64 r,.bool l,.int .i64 f]⟩] w Post)=(
 aA w ⟨[.bool p,.int .i64 r,.bool l,.int .i64 f]⟩ 180 fun b w2=>true=true/\ag w2 none (af (some ⟨b,0,none⟩) 0) (.one .bool) fun x=>aB (!x) (ag w2 none (some ⟨b,0,none⟩) (.agg [.bool,.int .i64,.bool,.int .i64]) fun(x:Bool×Int×Bool×Int×Unit)=>aj w2 fun w1=>Post (x.1==false&&(x.2.1==0&&(x.2.2.1==false&&(x.2.2.2.1==0&&true)))) w1) (true=true/\ag w2 none (af (some ⟨b,0,none⟩) 1) (.one (.int .i64)) fun(x:Int)=>((!decide (x<0))=true->true=true)/\ag w2 (some !decide (x<0)) (af (some ⟨b,0,none⟩) 1) (.one (.int .i64))
 fun(x_1:Int)=>((!(decide (x<0)||decide (x_1>7)))=true->true=true)/\ag w2 (some !(decide (x<0)||decide (x_1>7))) (af (some ⟨b,0,none⟩) 3) (.one (.int .i64)) fun(x_2:Int)=>((!(decide (x<0)||decide (x_1>7)||decide (x_2<0)))=true->true=true)/\ag w2 (some !(decide (x<0)||decide (x_1>7)||decide (x_2<0))) (af (some ⟨b,0,none⟩) 3) (.one (.int .i64)) fun(x_3:Int)=>aB (decide (x<0)||decide (x_1>7)||decide (x_2<0)||decide (x_3>=4096)) (aj w2 fun w1=>Post false w1) (true=true/\ag w2 none (af (some ⟨b,0,none⟩) 1)
 (.one (.int .i64)) fun(x:Int)=>((!decide (x>0))=true->true=true)/\ag w2 (some !decide (x>0)) (af (some ⟨b,0,none⟩) 2) (.one .bool) fun x_4=>aj w2 fun w1=>Post (decide (x>0)|| !x_4) w1))):=by kernel_rfl
theorem sk (p:Bool) (r:Int) (l:Bool) (f:Int) (w:World) (Post:Bool->World->Prop):(aH D0 (fun _=>[]) 252 [.agg ⟨[.bool p,.int .i64 r,.bool l,.int .i64 f]⟩] w Post)=(
 aA w ⟨[.bool p,.int .i64 r,.bool l,.int .i64 f]⟩ 221 fun b w2=>true=true/\ag w2 none (af (some ⟨b,0,none⟩) 0) (.one .bool) fun x=>aB (!x) (true=true/\ag w2 none (af (some ⟨b,0,none⟩) 1) (.one (.int .i64)) fun(x:Int)=>((x==0)=true->true=true)/\ag w2 (some (x==0)) (af (some ⟨b,0,none⟩) 2) (.one .bool) fun x_1=>((x==0&& !x_1)=true->true=true)/\ag w2 (some (x==0&& !x_1)) (af (some ⟨b,0,none⟩) 3) (.one (.int .i64)) fun(x_2:Int)=>aj w2 fun w1=>Post (x==0&& !x_1&&x_2==0) w1) (true=true/\ag w2 none (af (some ⟨b,0,
 none⟩) 1) (.one (.int .i64)) fun(x:Int)=>(decide (x>=0)=true->true=true)/\ag w2 (some (decide (x>=0))) (af (some ⟨b,0,none⟩) 1) (.one (.int .i64)) fun(x_1:Int)=>((decide (x>=0)&&decide (x_1<=7))=true->true=true)/\ag w2 (some (decide (x>=0)&&decide (x_1<=7))) (af (some ⟨b,0,none⟩) 3) (.one (.int .i64)) fun(x_2:Int)=>((decide (x>=0)&&decide (x_1<=7)&&decide (x_2>=0))=true->true=true)/\ag w2 (some (decide (x>=0)&&decide (x_1<=7)&&decide (x_2>=0))) (af (some ⟨b,0,none⟩) 3) (.one (.int .i64)) fun(x_3:Int)=>((decide (x>=
 0)&&decide (x_1<=7)&&decide (x_2>=0)&&decide (x_3<=4095))=true->true=true)/\ag w2 (some (decide (x>=0)&&decide (x_1<=7)&&decide (x_2>=0)&&decide (x_3<=4095))) (af (some ⟨b,0,none⟩) 2) (.one .bool) fun x_4=>((decide (x>=0)&&decide (x_1<=7)&&decide (x_2>=0)&&decide (x_3<=4095)&& !!x_4)=true->true=true)/\ag w2 (some (decide (x>=0)&&decide (x_1<=7)&&decide (x_2>=0)&&decide (x_3<=4095)&& !!x_4)) (af (some ⟨b,0,none⟩) 1) (.one (.int .i64)) fun(x_5:Int)=>aj w2 fun w1=>Post (decide (x>=0)&&decide (x_1<=7)&&decide (x_2>=0)
 &&decide (x_3<=4095)&&(!x_4||decide (x_5>0))) w1)):=by kernel_rfl
theorem NE (x:Int) (w:World) (Post:Int->World->Prop):(aH D0 (fun _=>[]) 177 [.int .i64 x] w Post)=(
 aB (decide (x<0)||decide (x>=4)) (aj w fun w1=>Post 0 w1) (∀(x_1:Int),x_1=b_ .i64 4 x->0<=x_1/\ ∀(x:Int),x=Ah .i64 1 x_1->aj w fun w1=>Post x w1)):=by kernel_rfl
theorem Kj (x:Int) (w:World) (Post:Int->World->Prop):(aH D0 (fun _=>[]) 253 [.int .i64 x] w Post)=(
 aB (decide (x<0)||decide (x>3)) (aj w fun w1=>Post 0 w1) (aA w ⟨[.int .i64 1,.int .i64 16,.int .i64 256,.int .i64 4096]⟩ 3 fun b w2=>(true=true/\0<=x/\x<(↑4:Int))/\ag w2 none (af (some ⟨b,0,none⟩) (x.toNat*1)) (.one (.int .i64)) fun(x:Int)=>aj w2 fun w1=>Post x w1)):=by kernel_rfl
theorem nc {w:World} {b:Nat} {p:Bool} {r:Int} {l:Bool} {f:Int} (h:aY w b [.bool p,.int .i64 r,.bool l,.int .i64 f]):
 cg w (af (some ⟨b,0,none⟩) 0) (.one .bool) p/\cg w (af (some ⟨b,0,none⟩) 1) (.one (.int .i64)) r/\cg w (af (some ⟨b,0,none⟩) 2) (.one .bool) l/\cg w (af (some ⟨b,0,none⟩) 3) (.one (.int .i64)) f/\
  cg w (some ⟨b,0,none⟩) (.agg [.bool,.int .i64,.bool,.int .i64]) (p,r,l,f,()):=by
 refine⟨?_,?_,?_,?_,?_⟩
 ·rw[aK];exact h.lG rfl
 ·rw[aK];exact h.lG rfl
 ·rw[aK];exact h.lG rfl
 ·rw[aK];exact h.lG rfl
 ·exact h.MI fun i _=>by rw[Nat.zero_add];rfl
def aM (p:Bool) (r:Int) (l:Bool) (f:Int):Bool:=
 match p with
 |true=>decide (0<=r)&&decide (r<=7)&&decide (0<=f)&&decide (f<4096)&&(decide (r>0)|| !l)
 |false=>decide (r=0)&& !l&&decide (f=0)
theorem vt (p:Bool) (r:Int) (l:Bool) (f:Int) (w:World):an Tryz.prog 250 (.el (.one .bool)) [.agg ⟨[.bool p,.int .i64 r,.bool l,.int .i64 f]⟩] w (fun b w'=>b=aM p r l f/\Ext w w'):=by
 refine ai (C:=D0) (aJ:=fun _=>[]) (Eq.mpr (vr p r l f w _) ?_)
 intro w1 h1
 obtain⟨g0,g1,g2,g3,ga⟩:=nc (aY.new w1 [.bool p,.int .i64 r,.bool l,.int .i64 f] 180)
 refine⟨rfl,p,g0,aa (fun h=>⟨_,ga,fun w2 h2=>⟨?_,(h1.cR _).trans h2⟩⟩) (fun h=>⟨rfl,r,g1,fun _=>rfl,r,fun _=>g1,fun _=>rfl,f,fun _=>g3,fun _=>rfl,f,fun _=>g3,aa (fun h3=>fun w2 h2=>⟨?_,(h1.cR _).trans h2⟩) (fun h3=>⟨rfl,r,g1,fun _=>rfl,l,fun _=>g2,fun w2 h2=>⟨?_,(h1.cR _).trans h2⟩⟩)⟩)⟩
 ·have hp:p=false:=by simpa using h
  subst hp
  by_cases c1:r=0<;>by_cases c2:f=0<;>cases l<;>simp[aM,c1,c2]
 ·have hp:p=true:=by simpa using h
  subst hp
  simp only[Bool.or_eq_true,decide_eq_true_eq] at h3
  symm
  simp only[aM,Bool.and_eq_false_iff,decide_eq_false_iff_not]
  omega
 ·have hp:p=true:=by simpa using h
  subst hp
  simp only[Bool.or_eq_false_iff,decide_eq_false_iff_not] at h3
  have c1:0<=r:=by omega
  have c2:r<=7:=by omega
  have c3:0<=f:=by omega
  have c4:f<4096:=by omega
  simp[aM,c1,c2,c3,c4]
theorem so (p:Bool) (r:Int) (l:Bool) (f:Int) (w:World):an Tryz.prog 252 (.el (.one .bool)) [.agg ⟨[.bool p,.int .i64 r,.bool l,.int .i64 f]⟩] w (fun b w'=>b=aM p r l f/\Ext w w'):=by
 refine ai (C:=D0) (aJ:=fun _=>[]) (Eq.mpr (sk p r l f w _) ?_)
 intro w1 h1
 obtain⟨g0,g1,g2,g3,ga⟩:=nc (aY.new w1 [.bool p,.int .i64 r,.bool l,.int .i64 f] 221)
 refine⟨rfl,p,g0,aa (fun h=>⟨rfl,r,g1,fun _=>rfl,l,fun _=>g2,fun _=>rfl,f,fun _=>g3,fun w2 h2=>⟨?_,(h1.cR _).trans h2⟩⟩) (fun h=>⟨rfl,r,g1,fun _=>rfl,r,fun _=>g1,fun _=>rfl,f,fun _=>g3,fun _=>rfl,f,fun _=>g3,fun _=>rfl,l,fun _=>g2,fun _=>rfl,r,fun _=>g1,fun w2 h2=>⟨?_,(h1.cR _).trans h2⟩⟩)⟩
 ·have hp:p=false:=by simpa using h
  subst hp
  by_cases c1:r=0<;>by_cases c2:f=0<;>cases l<;>simp[aM,c1,c2]
 ·have hp:p=true:=by simpa using h
  subst hp
  have e:decide (f<=4095)=decide (f<4096):=by
   by_cases c:f<4096
   ·have:f<=4095:=by omega
    simp[c,this]
   ·have: ¬ f<=4095:=by omega
    simp[c,this]
  show(decide (0<=r)&&decide (r<=7)&&decide (0<=f)&&decide (f<=4095)&&(!l||decide (r>0)))= _
  rw[e,Bool.or_comm]
  rfl
noncomputable def IU:Entry Tryz.prog where
 f:=260
 fn l:=match l with
  |[.bool b]=>some (True,.int .u64 (U (bB b)))
  | _=>none
 ok args pre v h hp w:=by
  split at h
  ·rename_i b
   cases h
   refine aO (x:=U (bB b)) (ai (C:=D0) (aJ:=fun _=>[]) (Eq.mpr (ND b w _) ?_))
   exact aa (fun hb w1 h1=>⟨by subst hb;rfl,h1⟩) (fun hb w1 h1=>⟨by subst hb;rfl,h1⟩)
  ·cases h
noncomputable def r_:Entry Tryz.prog where
 f:=250
 fn l:=match l with
  |[.agg ⟨[.bool p,.int .i64 r,.bool l,.int .i64 f]⟩]=>some (True,.bool (aM p r l f))
  | _=>none
 ok args pre v h hp w:=by
  split at h
  ·rename_i p r l f
   cases h
   exact aO (vt p r l f w)
  ·cases h
noncomputable def nU:Entry Tryz.prog where
 f:=252
 fn l:=match l with
  |[.agg ⟨[.bool p,.int .i64 r,.bool l,.int .i64 f]⟩]=>some (True,.bool (aM p r l f))
  | _=>none
 ok args pre v h hp w:=by
  split at h
  ·rename_i p r l f
   cases h
   exact aO (so p r l f w)
  ·cases h
def fD (x:Int):Int:=if x=0 then 1 else if x=1 then 16 else if x=2 then 256 else if x=3 then 4096 else 0
theorem NF (x:Int) (w:World):an Tryz.prog 177 (.el (.one (.int .i64))) [.int .i64 x] w (fun b w'=>b=fD x/\Ext w w'):=by
 refine ai (C:=D0) (aJ:=fun _=>[]) (Eq.mpr (NE x w _) ?_)
 refine aa (fun h w1 h1=>⟨?_,h1⟩) (fun h y ey=>?_)
 ·simp only[Bool.or_eq_true,decide_eq_true_eq] at h
  unfold fD
  rw[if_neg (by omega),if_neg (by omega),if_neg (by omega),if_neg (by omega)]
 ·simp only[Bool.or_eq_false_iff,decide_eq_false_iff_not] at h
  rw[eA (by omega) (by omega)] at ey
  refine⟨by omega,fun z ez w1 h1=>⟨?_,h1⟩⟩
  have:x=0\/x=1\/x=2\/x=3:=by omega
  rcases this with rfl|rfl|rfl|rfl<;>(subst ey;rw[ez];decide+kernel)
theorem Kk (x:Int) (w:World):an Tryz.prog 253 (.el (.one (.int .i64))) [.int .i64 x] w (fun b w'=>b=fD x/\Ext w w'):=by
 refine ai (C:=D0) (aJ:=fun _=>[]) (Eq.mpr (Kj x w _) ?_)
 refine aa (fun h w1 h1=>⟨?_,h1⟩) (fun h w1 h1=>?_)
 ·simp only[Bool.or_eq_true,decide_eq_true_eq] at h
  unfold fD
  rw[if_neg (by omega),if_neg (by omega),if_neg (by omega),if_neg (by omega)]
 ·simp only[Bool.or_eq_false_iff,decide_eq_false_iff_not] at h
  have sl:Sl (w1.alloc (.cells ⟨[Value.int .i64 1,Value.int .i64 16,Value.int .i64 256,Value.int .i64 4096]⟩ 3)) eI (some ⟨w1.heap.size,0,none⟩) [1,16,256,4096]:=Sl.iA (aY.new w1 _ _) rfl
  have hx:x.toNat<4:=by omega
  have g:[(1:Int),16,256,4096][x.toNat]? =some (fD x):=by
   have:x=0\/x=1\/x=2\/x=3:=by omega
   rcases this with rfl|rfl|rfl|rfl<;>rfl
  exact⟨⟨rfl,by omega,by omega⟩, _,(sl _ _ g).2,fun w2 h2=>⟨rfl,(h1.cR _).trans h2⟩⟩
noncomputable def IV:Entry Tryz.prog where
 f:=177
 fn l:=match l with
  |[.int .i64 x]=>some (True,.int .i64 (fD x))
  | _=>none
 ok args pre v h hp w:=by
  split at h
  ·rename_i x
   cases h
   exact aO (NF x w)
  ·cases h
noncomputable def Ci:Entry Tryz.prog where
 f:=253
 fn l:=match l with
  |[.int .i64 x]=>some (True,.int .i64 (fD x))
  | _=>none
 ok args pre v h hp w:=by
  split at h
  ·rename_i x
   cases h
   exact aO (Kk x w)
  ·cases h
noncomputable def D1:dD Tryz.prog:={D0 with qc:=[qB,MJ,yP,yQ,sY,sZ,BU,BV,IU,r_,nU,IV,Ci]}
end Go.Proofs.YtdnoecpjcoibmaaGreat
namespace Go.Proofs.YtdnoecpjcoibmaaGreat
set_option maxRecDepth 100000
open Go.RX
theorem Kl (p:Bool) (r:Int) (l:Bool) (f:Int) (w:World) (Post:Bool->World->Prop):(aH D1 (fun _=>[]) 223 [.agg ⟨[.bool p,.int .i64 r,.bool l,.int .i64 f]⟩] w Post)=(
 aA w ⟨[.bool p,.int .i64 r,.bool l,.int .i64 f]⟩ 180 fun b w2=>true=true/\ag w2 none (af (some ⟨b,0,none⟩) 0) (.one .bool) fun x=>(x=true->true=true)/\ag w2 (some x) (af (some ⟨b,0,none⟩) 1) (.one (.int .i64)) fun(x_1:Int)=>ag w2 (some (x&&x_1==0)) (some ⟨b,0,none⟩) (.agg [.bool,.int .i64,.bool,.int .i64]) fun(x_2:Bool×Int×Bool×Int×Unit)=>((x&&x_1==0)=true->True)/\aj w2 fun w1=>Post (x&&x_1==0&&aM x_2.1 x_2.2.1 x_2.2.2.1 x_2.2.2.2.1) w1):=by kernel_rfl
theorem FG (p:Bool) (r:Int) (l:Bool) (f:Int) (w:World) (Post:Bool->World->Prop):(aH D1 (fun _=>[]) 228 [.agg ⟨[.bool p,.int .i64 r,.bool l,.int .i64 f]⟩] w Post)=(
 aA w ⟨[.bool p,.int .i64 r,.bool l,.int .i64 f]⟩ 221 fun b w2=>ag w2 none (some ⟨b,0,none⟩) (.agg [.bool,.int .i64,.bool,.int .i64]) fun(x:Bool×Int×Bool×Int×Unit)=>True/\(aM x.1 x.2.1 x.2.2.1 x.2.2.2.1=true->true=true)/\ag w2 (some (aM x.1 x.2.1 x.2.2.1 x.2.2.2.1)) (af (some ⟨b,0,none⟩) 0) (.one .bool) fun x_1=>((aM x.1 x.2.1 x.2.2.1 x.2.2.2.1&&x_1)=true->true=true)/\ag w2 (some (aM x.1 x.2.1 x.2.2.1 x.2.2.2.1&&x_1)) (af (some ⟨b,0,none⟩) 1) (.one (.int .i64)) fun(x_2:Int)=>aj w2 fun w1=>Post (aM x.1 x.2.1
 x.2.2.1 x.2.2.2.1&&x_1&&x_2==0) w1):=by kernel_rfl
theorem FH (p:Bool) (r:Int) (l:Bool) (f:Int) (t:Int) (w:World) (Post:Bool->World->Prop):(aH D1 (fun _=>[]) 285 [.agg ⟨[.bool p,.int .i64 r,.bool l,.int .i64 f]⟩,.int .i64 t] w Post)=(
 aA w ⟨[.bool p,.int .i64 r,.bool l,.int .i64 f]⟩ 180 fun b w2=>ag w2 none (some ⟨b,0,none⟩) (.agg [.bool,.int .i64,.bool,.int .i64]) fun(x:Bool×Int×Bool×Int×Unit)=>True/\(aM x.1 x.2.1 x.2.2.1 x.2.2.2.1=true->true=true)/\ag w2 (some (aM x.1 x.2.1 x.2.2.1 x.2.2.2.1)) (af (some ⟨b,0,none⟩) 1) (.one (.int .i64)) fun(x_1:Int)=>((aM x.1 x.2.1 x.2.2.1 x.2.2.2.1&&decide (x_1>0)&&decide (t>=0)&&decide (t<=7))=true->true=true)/\ag w2 (some (aM x.1 x.2.1 x.2.2.1 x.2.2.2.1&&decide (x_1>0)&&decide (t>=0)&&decide (t<=7)))
 (af (some ⟨b,0,none⟩) 1) (.one (.int .i64)) fun(x_2:Int)=> ∀(x_3:Int),x_3=ji .i64 t x_2->aj w2 fun w1=>Post (aM x.1 x.2.1 x.2.2.1 x.2.2.2.1&&decide (x_1>0)&&decide (t>=0)&&decide (t<=7)&&x_3==0) w1):=by kernel_rfl
theorem CK (p:Bool) (r:Int) (l:Bool) (f:Int) (t:Int) (w:World) (Post:Bool->World->Prop):(aH D1 (fun _=>[]) 267 [.agg ⟨[.bool p,.int .i64 r,.bool l,.int .i64 f]⟩,.int .i64 t] w Post)=(
 aA w ⟨[.bool p,.int .i64 r,.bool l,.int .i64 f]⟩ 221 fun b w2=>ag w2 none (some ⟨b,0,none⟩) (.agg [.bool,.int .i64,.bool,.int .i64]) fun(x:Bool×Int×Bool×Int×Unit)=>True/\(aM x.1 x.2.1 x.2.2.1 x.2.2.2.1=true->true=true)/\ag w2 (some (aM x.1 x.2.1 x.2.2.1 x.2.2.2.1)) (af (some ⟨b,0,none⟩) 0) (.one .bool) fun x_1=>((aM x.1 x.2.1 x.2.2.1 x.2.2.2.1&&x_1)=true->true=true)/\ag w2 (some (aM x.1 x.2.1 x.2.2.1 x.2.2.2.1&&x_1)) (af (some ⟨b,0,none⟩) 1) (.one (.int .i64)) fun(x_2:Int)=>((aM x.1 x.2.1 x.2.2.1 x.2.2.2.1&&x_1
 &&decide (x_2>0)&&decide (t>=0)&&decide (t<=7))=true->true=true)/\ag w2 (some (aM x.1 x.2.1 x.2.2.1 x.2.2.2.1&&x_1&&decide (x_2>0)&&decide (t>=0)&&decide (t<=7))) (af (some ⟨b,0,none⟩) 1) (.one (.int .i64)) fun(x_3:Int)=> ∀(x_4:Int),x_4=mR .i64 x_3 t->aj w2 fun w1=>Post (aM x.1 x.2.1 x.2.2.1 x.2.2.2.1&&x_1&&decide (x_2>0)&&decide (t>=0)&&decide (t<=7)&&x_4==t) w1):=by kernel_rfl
theorem Km (x y:Int) (w:World) (Post:Int->World->Prop):(aH D1 (fun _=>[]) 249 [.int .i64 x,.int .i64 y] w Post)=(
 ((!(decide (x<0)||decide (x>=65536)))=true->True)/\ ∀(x_1:Int),x_1=fD y->aB (decide (x<0)||decide (x>=65536)||x_1==0) (aj w fun w1=>Post (-1) w1) (∀(x_2:Int),x_2=ax .u64 x-> ∀(x:Int),x=b_ .i64 4 y->U (B x_2)=x_2/\ ∀(x_3:Int),x_3=U (cP (B x_2) x 4)-> ∀(x:Int),x=ax .i64 x_3->aj w fun w1=>Post x w1)):=by kernel_rfl
theorem FI (x y:Int) (w:World) (Post:Int->World->Prop):(aH D1 (fun _=>[]) 230 [.int .i64 x,.int .i64 y] w Post)=(
 ((!(decide (x<0)||decide (x>65535)))=true->True)/\ ∀(x_1:Int),x_1=fD y->aB (decide (x<0)||decide (x>65535)||x_1==0) (aj w fun w1=>Post (-1) w1) (True/\ ∀(x_2:Int),x_2=fD y->x_2≠0/\ ∀(x_3:Int),x_3=py .i64 x x_2-> ∀(x:Int),x=dM x_3 16->aj w fun w1=>Post x w1)):=by kernel_rfl
theorem Ko (p:Bool) (r:Int) (l:Bool) (f:Int) (w:World) (Post:Int×Int×Unit->World->Prop):(aH D1 (fun _=>[]) 245 [.agg ⟨[.bool p,.int .i64 r,.bool l,.int .i64 f]⟩] w Post)=(
 aA w ⟨[.bool p,.int .i64 r,.bool l,.int .i64 f]⟩ 180 fun b w2=>ag w2 none (some ⟨b,0,none⟩) (.agg [.bool,.int .i64,.bool,.int .i64]) fun(x:Bool×Int×Bool×Int×Unit)=>True/\aB (!aM x.1 x.2.1 x.2.2.1 x.2.2.2.1) (aj w2 fun w1=>Post (0,11,Unit.unit) w1) (true=true/\ag w2 none (af (some ⟨b,0,none⟩) 0) (.one .bool) fun x=>True/\ ∀(x_1:Int),x_1=U (bB x)->true=true/\ag w2 none (af (some ⟨b,0,none⟩) 1) (.one (.int .i64)) fun(x:Int)=> ∀(x_2:Int),x_2=ax .u64 x->true=true/\ag w2 none (af (some ⟨b,0,none⟩) 2) (.one .bool)
 fun x=>True/\ ∀(x_3:Int),x_3=U (bB x)->true=true/\ag w2 none (af (some ⟨b,0,none⟩) 3) (.one (.int .i64)) fun(x:Int)=> ∀(x_4:Int),x_4=ax .u64 x->aA w2 {toList:=[.int .u64 x_1,.int .i64 1,.int .u64 x_2,.int .i64 3,.int .u64 x_3,.int .i64 1,.int .u64 0,.int .i64 7,.int .u64 x_4,.int .i64 12]} 301 fun b w2=>az Tryz.prog 259 (.el (.one (.int .u64))) [.slice (some ⟨b,0,none⟩) 5 5] w2 fun(x:Int) w2=>aj w2 fun w1=>Post (x,0,Unit.unit) w1)):=by kernel_rfl
theorem FJ (p:Bool) (r:Int) (l:Bool) (f:Int) (w:World) (Post:Int×Int×Unit->World->Prop):(aH D1 (fun _=>[]) 229 [.agg ⟨[.bool p,.int .i64 r,.bool l,.int .i64 f]⟩] w Post)=(
 aA w ⟨[.bool p,.int .i64 r,.bool l,.int .i64 f]⟩ 221 fun b w2=>ag w2 none (some ⟨b,0,none⟩) (.agg [.bool,.int .i64,.bool,.int .i64]) fun(x:Bool×Int×Bool×Int×Unit)=>True/\aB (!aM x.1 x.2.1 x.2.2.1 x.2.2.2.1) (aj w2 fun w1=>Post (0,11,Unit.unit) w1) (true=true/\ag w2 none (af (some ⟨b,0,none⟩) 0) (.one .bool) fun x=>aB x (true=true/\ag w2 none (af (some ⟨b,0,none⟩) 2) (.one .bool) fun x=>aB x (∀(x:Int),x=au .u64 1 16->true=true/\ag w2 none (af (some ⟨b,0,none⟩) 1) (.one (.int .i64)) fun(x_1:Int)=> ∀(x_2:Int),x_2
 =ax .u64 x_1-> ∀(x_3:Int),x_3=b_ .u64 2 x_2-> ∀(x_4:Int),x_4=au .u64 x x_3->true=true/\ag w2 none (af (some ⟨b,0,none⟩) 3) (.one (.int .i64)) fun(x:Int)=> ∀(x_5:Int),x_5=ax .u64 x-> ∀(x:Int),x=b_ .u64 4096 x_5-> ∀(x_6:Int),x_6=au .u64 x_4 x->aj w2 fun w1=>Post (x_6,0,Unit.unit) w1) (true=true/\ag w2 none (af (some ⟨b,0,none⟩) 1) (.one (.int .i64)) fun(x:Int)=> ∀(x_1:Int),x_1=ax .u64 x-> ∀(x:Int),x=b_ .u64 2 x_1-> ∀(x_2:Int),x_2=au .u64 1 x->true=true/\ag w2 none (af (some ⟨b,0,none⟩)
 3) (.one (.int .i64)) fun(x:Int)=> ∀(x_3:Int),x_3=ax .u64 x-> ∀(x:Int),x=b_ .u64 4096 x_3-> ∀(x_4:Int),x_4=au .u64 x_2 x->aj w2 fun w1=>Post (x_4,0,Unit.unit) w1)) (true=true/\ag w2 none (af (some ⟨b,0,none⟩) 2) (.one .bool) fun x=>aB x (∀(x:Int),x=au .u64 0 16->true=true/\ag w2 none (af (some ⟨b,0,none⟩) 1) (.one (.int .i64)) fun(x_1:Int)=> ∀(x_2:Int),x_2=ax .u64 x_1-> ∀(x_3:Int),x_3=b_ .u64 2 x_2-> ∀(x_4:Int),x_4=au .u64 x x_3->true=true/\ag w2 none (af (some ⟨b,0,none⟩) 3) (.one (.int
 .i64)) fun(x:Int)=> ∀(x_5:Int),x_5=ax .u64 x-> ∀(x:Int),x=b_ .u64 4096 x_5-> ∀(x_6:Int),x_6=au .u64 x_4 x->aj w2 fun w1=>Post (x_6,0,Unit.unit) w1) (true=true/\ag w2 none (af (some ⟨b,0,none⟩) 1) (.one (.int .i64)) fun(x:Int)=> ∀(x_1:Int),x_1=ax .u64 x-> ∀(x:Int),x=b_ .u64 2 x_1-> ∀(x_2:Int),x_2=au .u64 0 x->true=true/\ag w2 none (af (some ⟨b,0,none⟩) 3) (.one (.int .i64)) fun(x:Int)=> ∀(x_3:Int),x_3=ax .u64 x-> ∀(x:Int),x=b_ .u64 4096 x_3-> ∀(x_4:Int),x_4=au .u64 x_2 x->aj w2 fun
 w1=>Post (x_4,0,Unit.unit) w1)))):=by kernel_rfl
theorem Kp (v:Int) (w:World) (Post:(Bool×Int×Bool×Int×Unit)×Bool×Unit->World->Prop):(bM D1 (fun _=>[]) 224 [.int .u64 v] w Post)=(
 aA w ⟨[.bool false,.int .i64 0,.bool false,.int .i64 0]⟩ 180 fun b w2=>aA w2 ⟨[.int .i64 1,.int .i64 3,.int .i64 1,.int .i64 7,.int .i64 12,.int .i64 40]⟩ 3 fun b_1 w2=>az Tryz.prog 251 (.el (.one .slice)) [.int .u64 v,.slice (some ⟨b_1,0,none⟩) 6 6] w2 fun x w2=>(x.1.isSome=true/\(0:Int)<=0/\0<(↑x.2.1:Int))/\ag w2 none (af x.1 0) (.one (.int .u64)) fun(x_1:Int)=>(x.1.isSome=true/\(0:Int)<=1/\1<(↑x.2.1:Int))/\ag w2 none (af x.1 1) (.one (.int .u64)) fun(x_2:Int)=> ∀(x_3:Int),x_3=ax .i64 x_2->(x.1.isSome=true/\(0:Int)<=
 2/\2<(↑x.2.1:Int))/\ag w2 none (af x.1 2) (.one (.int .u64)) fun(x_4:Int)=>(x.1.isSome=true/\(0:Int)<=4/\4<(↑x.2.1:Int))/\ag w2 none (af x.1 4) (.one (.int .u64)) fun(x_5:Int)=> ∀(x_6:Int),x_6=ax .i64 x_5->aA w2 ⟨[.bool false,.int .i64 0,.bool false,.int .i64 0]⟩ 180 fun b_2 w2=>av w2 (some ⟨b_2,0,none⟩) [.bool (x_1==1),.int .i64 x_3,.bool (x_4==1),.int .i64 x_6] fun w2=>(x.1.isSome=true/\(0:Int)<=3/\3<(↑x.2.1:Int))/\ag w2 none (af x.1 3) (.one (.int .u64)) fun(x_7:Int)=>((!decide (x_7>0))=true->x.1.isSome=
 true/\(0:Int)<=5/\5<(↑x.2.1:Int))/\ag w2 (some !decide (x_7>0)) (af x.1 5) (.one (.int .u64)) fun(x:Int)=>ag w2 (some !(decide (x_7>0)||decide (x>0))) (some ⟨b_2,0,none⟩) (.agg [.bool,.int .i64,.bool,.int .i64]) fun(x_8:Bool×Int×Bool×Int×Unit)=>((!(decide (x_7>0)||decide (x>0)))=true->True)/\aB (decide (x_7>0)||decide (x>0)|| !aM x_8.1 x_8.2.1 x_8.2.2.1 x_8.2.2.2.1) (av w2 (some ⟨b,0,none⟩) [.bool false,.int .i64 0,.bool false,.int .i64 0] fun w2=>aj w2 fun w1=>ag w1 none (some ⟨b,0,none⟩) (.agg [.bool,.int
 .i64,.bool,.int .i64]) fun(x:Bool×Int×Bool×Int×Unit)=>Post ((x.1,x.2.1,x.2.2.1,x.2.2.2.1,Unit.unit),false,Unit.unit) w1) (ag w2 none (some ⟨b_2,0,none⟩) (.agg [.bool,.int .i64,.bool,.int .i64]) fun(x:Bool×Int×Bool×Int×Unit)=>av w2 (some ⟨b,0,none⟩) [.bool x.1,.int .i64 x.2.1,.bool x.2.2.1,.int .i64 x.2.2.2.1] fun w2=>aj w2 fun w1=>ag w1 none (some ⟨b,0,none⟩) (.agg [.bool,.int .i64,.bool,.int .i64]) fun(x:Bool×Int×Bool×Int×Unit)=>Post ((x.1,x.2.1,x.2.2.1,x.2.2.2.1,Unit.unit),true,Unit.unit) w1)):=by kernel_rfl
def fy (p:Bool) (r:Int) (l:Bool) (f:Int):Bool:=p&&r==0&&aM p r l f
def dK (p:Bool) (r:Int) (l:Bool) (f t:Int):Bool:=aM p r l f&&decide (r>0)&&decide (t>=0)&&decide (t<=7)&&ji .i64 t r==0
theorem Kq (p:Bool) (r:Int) (l:Bool) (f:Int) (w:World):an Tryz.prog 223 (.el (.one .bool)) [.agg ⟨[.bool p,.int .i64 r,.bool l,.int .i64 f]⟩] w (fun b w'=>b=fy p r l f/\Ext w w'):=by
 refine ai (C:=D1) (aJ:=fun _=>[]) (Eq.mpr (Kl p r l f w _) ?_)
 intro w1 h1
 obtain⟨g0,g1,g2,g3,ga⟩:=nc (aY.new w1 [.bool p,.int .i64 r,.bool l,.int .i64 f] 180)
 exact⟨rfl,p,g0,fun _=>rfl,r,fun _=>g1, _,fun _=>ga,fun _=>trivial,fun w2 h2=>⟨rfl,(h1.cR _).trans h2⟩⟩
theorem FK (p:Bool) (r:Int) (l:Bool) (f:Int) (w:World):an Tryz.prog 228 (.el (.one .bool)) [.agg ⟨[.bool p,.int .i64 r,.bool l,.int .i64 f]⟩] w (fun b w'=>b=fy p r l f/\Ext w w'):=by
 refine ai (C:=D1) (aJ:=fun _=>[]) (Eq.mpr (FG p r l f w _) ?_)
 intro w1 h1
 obtain⟨g0,g1,g2,g3,ga⟩:=nc (aY.new w1 [.bool p,.int .i64 r,.bool l,.int .i64 f] 221)
 refine⟨_,ga,trivial,fun _=>rfl,p,fun _=>g0,fun _=>rfl,r,fun _=>g1,fun w2 h2=>⟨?_,(h1.cR _).trans h2⟩⟩
 show(aM p r l f&&p&&r==0)=(p&&r==0&&aM p r l f)
 rw[Bool.and_assoc,Bool.and_comm]
theorem FL: ∀r t:Fin 8,(ji .i64 (t.val:Int) (r.val:Int)==0)=(mR .i64 (r.val:Int) (t.val:Int)==(t.val:Int)):=by decide+kernel
theorem Jm {x:Int} (h:0<=x) (h':x<=7): ∃k:Fin 8,x=(k.val:Int):=⟨⟨x.toNat,by omega⟩,by show x=(x.toNat:Int);omega⟩
theorem nv {p:Bool} {r:Int} {l:Bool} {f:Int} (h:aM p r l f=true):0<=r/\r<=7/\0<=f/\f<4096/\(p=false->r=0/\l=false/\f=0):=by
 cases p
 ·simp[aM] at h
  obtain⟨⟨h1,h2⟩,h3⟩:=h
  subst h1;subst h3
  exact⟨by decide,by decide,by decide,by decide,fun _=>⟨rfl,h2,rfl⟩⟩
 ·simp[aM] at h
  exact⟨h.1.1.1.1,h.1.1.1.2,h.1.1.2,h.1.2,fun e=>by cases e⟩
theorem CL {r t:Int} (h1:0<=r) (h2:r<=7) (h3:0<=t) (h4:t<=7):(mR .i64 r t==t)=(ji .i64 t r==0):=by
 obtain⟨k,hk⟩:=Jm h1 h2
 obtain⟨j,hj⟩:=Jm h3 h4
 rw[hk,hj]
 exact(FL k j).symm
theorem zO (p:Bool) (r:Int) (l:Bool) (f t:Int):(aM p r l f&&p&&decide (r>0)&&decide (t>=0)&&decide (t<=7)&&mR .i64 r t==t)=dK p r l f t:=by
 unfold dK
 cases hr:aM p r l f with
 |false=>simp only[Bool.false_and]
 |true=>
  have b:=nv hr
  by_cases c1:r>0
  ·have hp:p=true:=by
    cases hp:p with
    |true=>rfl
    |false=>have:=(b.2.2.2.2 hp).1;omega
   by_cases c2:t>=0
   ·by_cases c3:t<=7
    ·rw[hp,CL b.1 b.2.1 c2 c3,Bool.true_and]
    ·rw[decide_eq_false c3];simp
   ·rw[decide_eq_false c2];simp
  ·rw[decide_eq_false c1];simp
theorem FM (p:Bool) (r:Int) (l:Bool) (f t:Int) (w:World):an Tryz.prog 285 (.el (.one .bool)) [.agg ⟨[.bool p,.int .i64 r,.bool l,.int .i64 f]⟩,.int .i64 t] w (fun b w'=>b=dK p r l f t/\Ext w w'):=by
 refine ai (C:=D1) (aJ:=fun _=>[]) (Eq.mpr (FH p r l f t w _) ?_)
 intro w1 h1
 obtain⟨g0,g1,g2,g3,ga⟩:=nc (aY.new w1 [.bool p,.int .i64 r,.bool l,.int .i64 f] 180)
 exact⟨_,ga,trivial,fun _=>rfl,r,fun _=>g1,fun _=>rfl,r,fun _=>g1,fun x ex w2 h2=>⟨by rw[ex];rfl,(h1.cR _).trans h2⟩⟩
theorem CM (p:Bool) (r:Int) (l:Bool) (f t:Int) (w:World):an Tryz.prog 267 (.el (.one .bool)) [.agg ⟨[.bool p,.int .i64 r,.bool l,.int .i64 f]⟩,.int .i64 t] w (fun b w'=>b=dK p r l f t/\Ext w w'):=by
 refine ai (C:=D1) (aJ:=fun _=>[]) (Eq.mpr (CK p r l f t w _) ?_)
 intro w1 h1
 obtain⟨g0,g1,g2,g3,ga⟩:=nc (aY.new w1 [.bool p,.int .i64 r,.bool l,.int .i64 f] 221)
 refine⟨_,ga,trivial,fun _=>rfl,p,fun _=>g0,fun _=>rfl,r,fun _=>g1,fun _=>rfl,r,fun _=>g1,fun x ex w2 h2=>⟨?_,(h1.cR _).trans h2⟩⟩
 rw[ex]
 exact zO p r l f t
def eZ (x y:Int):Int:=if 0<=x/\x<65536/\0<=y/\y<=3 then x / fD y % 16 else -1
theorem xO {y:Int}:(fD y==0)= !(decide (0<=y)&&decide (y<=3)):=by
 by_cases h:0<=y/\y<=3
 ·have:y=0\/y=1\/y=2\/y=3:=by omega
  rcases this with rfl|rfl|rfl|rfl<;>rfl
 ·have e:fD y=0:=by
   unfold fD
   rw[if_neg (by omega),if_neg (by omega),if_neg (by omega),if_neg (by omega)]
  rw[e]
  by_cases h1:0<=y
  ·have: ¬ y<=3:=fun h2=>h ⟨h1,h2⟩
   simp[this]
  ·simp[h1]
theorem xP {x y:Int} (h: ¬ (0<=x/\x<65536/\0<=y/\y<=3)):eZ x y= -1:=if_neg h
theorem sq {x:Int} (h: -9223372036854775808<=x) (h':x<9223372036854775808):ax .i64 x=x:=eT h h'
theorem sr {x:Int} (h:0<=x) (h':x<18446744073709551616):ax .u64 x=x:=by
 show IntKind.u64.wrap x=x
 rw[wrap_u64];omega
theorem oe {a b c:Int} (m:Nat) (ha:0<=a/\a<65536) (hm:2 ^ b.toNat=m) (hf:bU b 4=true) (ec:c=U (cP (B a) b 4)):c=a / (m:Int) % 16:=by
 have hN:((B a).toNat:Int)=a:=wN (by omega) (by omega)
 rw[ec,ua (gW m 16 hf hm (by decide)),Int.natCast_emod,Int.natCast_ediv,hN]
 rfl
theorem Br {a y b c:Int} (ha:0<=a/\a<65536) (hy:0<=y/\y<=3) (eb:b=4*y) (ec:c=U (cP (B a) b 4)):c=eZ a y/\0<=c/\c<16:=by
 have e:c=eZ a y:=by
  unfold eZ
  rw[if_pos (by omega)]
  have:y=0\/y=1\/y=2\/y=3:=by omega
  rcases this with rfl|rfl|rfl|rfl
  ·exact oe 1 ha (by subst eb;decide) (by subst eb;decide) ec
  ·exact oe 16 ha (by subst eb;decide) (by subst eb;decide) ec
  ·exact oe 256 ha (by subst eb;decide) (by subst eb;decide) ec
  ·rw[show fD 3=((4096:Nat):Int) by decide]
   exact oe 4096 ha (by subst eb;decide) (by subst eb;decide) ec
 refine⟨e,?_⟩
 rw[e]
 unfold eZ
 rw[if_pos (by omega)]
 exact⟨Int.emod_nonneg _ (by decide),Int.emod_lt_of_pos _ (by decide)⟩
theorem Ks (x y:Int) (w:World):an Tryz.prog 249 (.el (.one (.int .i64))) [.int .i64 x,.int .i64 y] w (fun b w'=>b=eZ x y/\Ext w w'):=by
 refine ai (C:=D1) (aJ:=fun _=>[]) (Eq.mpr (Km x y w _) ?_)
 refine⟨fun _=>trivial,fun s es=>?_⟩
 subst es
 rw[xO]
 refine aa (fun h w1 h1=>⟨?_,h1⟩) (fun h a ea b eb=>?_)
 ·simp only[Bool.or_eq_true,decide_eq_true_eq,Bool.not_eq_true',Bool.and_eq_false_iff,decide_eq_false_iff_not] at h
  rw[xP (by omega)]
 ·simp only[Bool.or_eq_false_iff,decide_eq_false_iff_not,Bool.not_eq_false',Bool.and_eq_true,decide_eq_true_eq] at h
  rw[sr (by omega) (by omega)] at ea
  rw[eA (by omega) (by omega)] at eb
  subst ea
  refine⟨wN (by omega) (by omega),fun c ec d ed w1 h1=>⟨?_,h1⟩⟩
  obtain⟨e1,e2,e3⟩:=Br (y:=y) (by omega) (by omega) eb ec
  rw[ed,sq (by omega) (by omega),e1]
theorem FN (x y:Int) (w:World):an Tryz.prog 230 (.el (.one (.int .i64))) [.int .i64 x,.int .i64 y] w (fun b w'=>b=eZ x y/\Ext w w'):=by
 refine ai (C:=D1) (aJ:=fun _=>[]) (Eq.mpr (FI x y w _) ?_)
 refine⟨fun _=>trivial,fun s es=>?_⟩
 subst es
 rw[xO]
 refine aa (fun h w1 h1=>⟨?_,h1⟩) (fun h=>⟨trivial,fun s es=>?_⟩)
 ·simp only[Bool.or_eq_true,decide_eq_true_eq,Bool.not_eq_true',Bool.and_eq_false_iff,decide_eq_false_iff_not] at h
  rw[xP (by omega)]
 ·simp only[Bool.or_eq_false_iff,decide_eq_false_iff_not,Bool.not_eq_false',Bool.and_eq_true,decide_eq_true_eq] at h
  have hy:y=0\/y=1\/y=2\/y=3:=by omega
  have hs:1<=s:=by rcases hy with rfl|rfl|rfl|rfl<;>(rw[es];decide)
  refine⟨by omega,fun c ec d ed w1 h1=>⟨?_,h1⟩⟩
  have hq:py .i64 x s=x / s:=by
   unfold py
   rw[Int.tdiv_eq_ediv_of_nonneg (by omega)]
   have h1:0<=x / s:=Int.ediv_nonneg (by omega) (by omega)
   have h2:x / s<=x:=Int.ediv_le_self _ (by omega)
   exact eT (by omega) (by omega)
  have h1:0<=x / s:=Int.ediv_nonneg (by omega) (by omega)
  rw[hq] at ec
  have hr:dM c 16=c % 16:=Int.tmod_eq_emod_of_nonneg (by omega)
  rw[ed,hr,ec,es]
  unfold eZ
  rw[if_pos (by omega)]
end Go.Proofs.YtdnoecpjcoibmaaGreat
namespace Go.Proofs.YtdnoecpjcoibmaaGreat
set_option maxRecDepth 100000
open Go.RX
def mq (p:Bool) (r:Int) (l:Bool) (f:Int):Int:=(nB p:Int)+2*r+16*(nB l:Int)+4096*f
def uH (p:Bool) (r:Int) (l:Bool) (f:Int):Int:=if aM p r l f=true then mq p r l f else 0
def HR (p:Bool) (r:Int) (l:Bool) (f:Int):Int:=if aM p r l f=true then 0 else 11
theorem DN {x:Int} (h:0<=x) (h':x<18446744073709551616):(B x).toNat=x.toNat:=by
 have:((B x).toNat:Int)=x:=wN h h'
 omega
theorem CN {p:Bool} {r:Int} {l:Bool} {f:Int} (h:aM p r l f=true):U (oK 0#64 0 [(bB p,1),(B r,3),(bB l,1),(0#64,7),(B f,12)])=mq p r l f:=by
 have b:=nv h
 rw[ua (FF (DN (by omega) (by omega)) (by omega) (DN (by omega) (by omega)) (by omega))]
 unfold mq
 omega
theorem Kt (p:Bool) (r:Int) (l:Bool) (f:Int) (w:World):an Tryz.prog 245 (.bq [eU,eI]) [.agg ⟨[.bool p,.int .i64 r,.bool l,.int .i64 f]⟩] w (fun x w'=>x=(uH p r l f,HR p r l f,())/\Ext w w'):=by
 refine ai (C:=D1) (aJ:=fun _=>[]) (Eq.mpr (Ko p r l f w _) ?_)
 intro w1 h1
 obtain⟨g0,g1,g2,g3,ga⟩:=nc (aY.new w1 [.bool p,.int .i64 r,.bool l,.int .i64 f] 180)
 refine⟨_,ga,trivial,aa (fun h w2 h2=>⟨?_,(h1.cR _).trans h2⟩) (fun h=>⟨rfl,p,g0,trivial,fun x1 e1=>⟨rfl,r,g1,fun x2 e2=>⟨rfl,l,g2,trivial,fun x3 e3=>⟨rfl,f,g3,fun x4 e4 w2 h2 w3 h3=>?_⟩⟩⟩⟩)⟩
 ·have h':aM p r l f=false:=by simpa using h
  unfold uH HR
  rw[h'];rfl
 ·have h':aM p r l f=true:=by simpa using h
  have b:=nv h'
  rw[sr (by omega) (by omega)] at e2 e4
  subst e1;subst e2;subst e3;subst e4
  have hr:U (B x2)=x2:=wN (by omega) (by omega)
  have hf:U (B x4)=x4:=wN (by omega) (by omega)
  have sl:Sl w3 eP (some ⟨w2.heap.size,0,none⟩) (Ix [(bB p,1),(B x2,3),(bB l,1),(0#64,7),(B x4,12)]):=Sl.iA ((aY.new w2 _ _).ext h3) (by
   simp only[Ix,List.map_cons,List.map_nil,hr,hf];rfl)
  refine(Nz (n:=5) (c:=5) sl rfl (by decide)).mono ?_
  rintro x w4 ⟨ex,h4⟩ w5 h5
  refine⟨?_,((((h1.cR _).trans h2).cR _).trans h3).trans (h4.trans h5)⟩
  rw[ex,CN h']
  unfold uH HR
  rw[if_pos h',if_pos h']
theorem g7 {x y:Int} (h:0<=x+y) (h':x+y<18446744073709551616):au .u64 x y=x+y:=by
 show IntKind.u64.wrap (x+y)= _
 rw[wrap_u64];omega
theorem kZ {x y:Int} (h:0<=x*y) (h':x*y<18446744073709551616):b_ .u64 x y=x*y:=by
 show IntKind.u64.wrap (x*y)= _
 rw[wrap_u64];omega
theorem FO (p:Bool) (r:Int) (l:Bool) (f:Int) (w:World):an Tryz.prog 229 (.bq [eU,eI]) [.agg ⟨[.bool p,.int .i64 r,.bool l,.int .i64 f]⟩] w (fun x w'=>x=(uH p r l f,HR p r l f,())/\Ext w w'):=by
 refine ai (C:=D1) (aJ:=fun _=>[]) (Eq.mpr (FJ p r l f w _) ?_)
 intro w1 h1
 obtain⟨g0,g1,g2,g3,ga⟩:=nc (aY.new w1 [.bool p,.int .i64 r,.bool l,.int .i64 f] 221)
 have fin: ∀(h:aM p r l f=true) (s:Int),s=(nB p:Int)+16*(nB l:Int)-> ∀(x1 x2 x3 x4 x5 x6:Int),x2=ax .u64 x1->x1=r->x3=b_ .u64 2 x2->x4=au .u64 s x3->x5=ax .u64 f->x6=b_ .u64 4096 x5-> ∀x7,x7=au .u64 x4 x6->((x7,(0:Int),()):Int×Int×Unit)=(uH p r l f,HR p r l f,()):=by
  intro h s es x1 x2 x3 x4 x5 x6 e2 e1 e3 e4 e5 e6 x7 e7
  have b:=nv h
  have b1:=Aw p
  have b2:=Aw l
  subst e1
  rw[sr (by omega) (by omega)] at e2 e5
  rw[kZ (by omega) (by omega)] at e3 e6
  rw[g7 (by omega) (by omega)] at e4
  rw[g7 (by omega) (by omega)] at e7
  unfold uH HR mq
  rw[if_pos h,if_pos h]
  congr 1
  omega
 refine⟨_,ga,trivial,aa (fun h w2 h2=>⟨?_,(h1.cR _).trans h2⟩) (fun h=>?_)⟩
 ·have h':aM p r l f=false:=by simpa using h
  unfold uH HR
  rw[h'];rfl
 ·have h':aM p r l f=true:=by simpa using h
  refine⟨rfl,p,g0,aa (fun hp=>⟨rfl,l,g2,aa (fun hl s es=>⟨rfl,r,g1,fun x2 e2 x3 e3 x4 e4=>⟨rfl,f,g3,fun x5 e5 x6 e6 x7 e7 w2 h2=>⟨?_,(h1.cR _).trans h2⟩⟩⟩) (fun hl=>⟨rfl,r,g1,fun x2 e2 x3 e3 x4 e4=>⟨rfl,f,g3,fun x5 e5 x6 e6 x7 e7 w2 h2=>⟨?_,(h1.cR _).trans h2⟩⟩⟩)⟩) (fun hp=>⟨rfl,l,g2,aa (fun hl s es=>⟨rfl,r,g1,fun x2 e2 x3 e3 x4 e4=>⟨rfl,f,g3,fun x5 e5 x6 e6 x7 e7 w2 h2=>⟨?_,(h1.cR _).trans h2⟩⟩⟩) (fun hl=>⟨rfl,r,g1,fun x2 e2 x3 e3 x4 e4=>⟨rfl,f,g3,fun x5 e5 x6 e6 x7 e7 w2 h2=>⟨?_,(h1.cR _).trans h2⟩⟩⟩)⟩)⟩
  ·refine fin h' s ?_ r x2 x3 x4 x5 x6 e2 rfl e3 e4 e5 e6 x7 e7
   rw[es,hp,hl,g7 (by decide) (by decide)];decide
  ·refine fin h' 1 ?_ r x2 x3 x4 x5 x6 e2 rfl e3 e4 e5 e6 x7 e7
   rw[hp,hl];decide
  ·refine fin h' s ?_ r x2 x3 x4 x5 x6 e2 rfl e3 e4 e5 e6 x7 e7
   rw[es,hp,hl,g7 (by decide) (by decide)];decide
  ·refine fin h' 0 ?_ r x2 x3 x4 x5 x6 e2 rfl e3 e4 e5 e6 x7 e7
   rw[hp,hl];decide
theorem sa {w:World} {b:Nat} {l:List Value} (h:aY w b l) (vs:List Value) (hn:vs.length=l.length):aY (fM w (some ⟨b,0,none⟩) vs) b vs:=by
 have:=h.put (o:=0) vs (by omega)
 rw[Nat.zero_add,hn,List.drop_length,List.append_nil,List.take_zero,List.nil_append] at this
 exact this
def nQ (n:Nat):Bool:=decide (n / 32 % 128=0)&&decide (n / 16777216 % 1099511627776=0)&&aM (n % 2==1) ((n / 2 % 8:Nat):Int) (n / 16 % 2==1) ((n / 4096 % 4096:Nat):Int)
def wY (n:Nat):Bool:=nQ n&&n % 2==1
def yK (n:Nat):Int:=if nQ n=true then((n / 2 % 8:Nat):Int) else 0
def yL (n:Nat):Bool:=nQ n&&n / 16 % 2==1
def wE (n:Nat):Int:=if nQ n=true then((n / 4096 % 4096:Nat):Int) else 0
theorem Rs {w0 w:World} {e:El} {s:Option Addr×Nat×Nat} {xs:List e.T} (h:iM w0 w e s xs) {a:Addr} (ha:s.1=some a):a.block<w.heap.size:=by
 obtain⟨_, _,h3⟩:=h
 rcases h3 with ⟨h3, _⟩|⟨b,l,h3, _,h4, _⟩
 ·rw[h3] at ha;cases ha
 ·rw[h3] at ha;cases ha;exact h4.lt
theorem uv (n:Nat):(((n:Nat):Int)==1)=(n==1):=by
 rw[Bool.eq_iff_iff,beq_iff_eq,beq_iff_eq];omega
theorem Eb (n:Nat):decide (((n:Nat):Int)>0)= !decide (n=0):=by
 rw[Bool.eq_iff_iff,decide_eq_true_eq,Bool.not_eq_true',decide_eq_false_iff_not];omega
theorem Ku (v:BitVec 64) (w:World):an Tryz.prog 224 (.bq [.agg [.bool,.int .i64,.bool,.int .i64],.one .bool]) [.int .u64 (U v)] w
 (fun x w'=>x=((wY v.toNat,yK v.toNat,yL v.toNat,wE v.toNat,()),nQ v.toNat,())/\Ext w w'):=by
 refine aL (C:=D1) (aJ:=fun _=>[]) (Eq.mpr (Kp (U v) w _) ?_)
 intro w1 h1 w2 h2 w3 h3
 have cY:aY w2 w1.heap.size [Value.bool false,Value.int .i64 0,Value.bool false,Value.int .i64 0]:=(aY.new w1 _ _).ext h2
 have sM:Ext w w2:=(h1.cR _).trans h2
 have qm:Ext w w3:=(sM.cR _).trans h3
 have sl:Sl w3 eI (some ⟨w2.heap.size,0,none⟩) [1,3,1,7,12,40]:=Sl.iA ((aY.new w2 _ _).ext h3) rfl
 refine(J' (v:=v) (c:=6) sl rfl (by decide)).mono ?_
 rintro⟨p,n,c⟩ w4 ⟨ho,h4⟩
 rw[CJ] at ho
 have ln:n=6:=by have:=ho.len;simpa[yR] using this
 subst ln
 let N:=v.toNat
 have v0:U (cP v 0 1)=((N % 2:Nat):Int):=by rw[ua (gW 1 2 (by decide) rfl rfl),Nat.div_one]
 have v1:U (cP v 1 3)=((N / 2 % 8:Nat):Int):=ua (gW 2 8 (by decide) rfl rfl)
 have v2:U (cP v 4 1)=((N / 16 % 2:Nat):Int):=ua (gW 16 2 (by decide) rfl rfl)
 have v3:U (cP v 5 7)=((N / 32 % 128:Nat):Int):=ua (gW 32 128 (by decide) rfl rfl)
 have v4:U (cP v 12 12)=((N / 4096 % 4096:Nat):Int):=ua (gW 4096 4096 (by decide) (by decide) (by decide))
 have v5:U (cP v 24 40)=((N / 16777216 % 1099511627776:Nat):Int):=ua (gW 16777216 1099511627776 (by decide) (by decide) (by decide))
 have hL:yR ((some [cP v 0 1,cP v 1 3,cP v 4 1,cP v 5 7,cP v 12 12,cP v 24 40]).getD [])=[((N % 2:Nat):Int),((N / 2 % 8:Nat):Int),((N / 16 % 2:Nat):Int),((N / 32 % 128:Nat):Int),((N / 4096 % 4096:Nat):Int),((N / 16777216 % 1099511627776:Nat):Int)]:=by
  show[U (cP v 0 1),U (cP v 1 3),U (cP v 4 1),U (cP v 5 7),U (cP v 12 12),U (cP v 24 40)]= _
  rw[v0,v1,v2,v3,v4,v5]
 rw[hL] at ho
 have Ud:p.isSome=true:=(ho.sl 0 _ rfl).1
 have ix: ∀i:Int,0<=i->i<6->p.isSome=true/\0<=i/\i<((6:Nat):Int):=fun i a b=>⟨Ud,a,b⟩
 refine⟨ix 0 (by decide) (by decide), _,(ho.sl 0 _ rfl).2,ix 1 (by decide) (by decide), _,(ho.sl 1 _ rfl).2,fun x3 e3=>⟨ix 2 (by decide) (by decide), _,(ho.sl 2 _ rfl).2,ix 4 (by decide) (by decide), _,(ho.sl 4 _ rfl).2,fun x6 e6 w5 h5 w6 h6=>?_⟩⟩
 rw[sq (by omega) (by omega)] at e3 e6
 rw[uv,uv]
 subst e3;subst e6
 have bt:aY w6 w5.heap.size [Value.bool false,Value.int .i64 0,Value.bool false,Value.int .i64 0]:=(aY.new w5 _ _).ext h6
 refine⟨⟨rfl,bt.st (by simp)⟩,?_⟩
 have bp:=sa bt [Value.bool (N % 2==1),Value.int .i64 ((N / 2 % 8:Nat):Int),Value.bool (N / 16 % 2==1),Value.int .i64 ((N / 4096 % 4096:Nat):Int)] rfl
 have o6:iM w3 (fM w6 (some ⟨w5.heap.size,0,none⟩) [Value.bool (N % 2==1),Value.int .i64 ((N / 2 % 8:Nat):Int),Value.bool (N / 16 % 2==1),Value.int .i64 ((N / 4096 % 4096:Nat):Int)]) eU (p,6,c) _:=
  ((ho.ext h5).ext ((Ext.alloc _ _).trans h6)).same fun a ha=>kY _ _ ⟨w5.heap.size,0,none⟩ 0 _ (by
    have:=Rs ho ha
    have:=h5.size
    show a.block≠w5.heap.size
    omega)
 have YV:Ext w w6:=(((qm.trans h4).trans h5).cR _).trans h6
 have XS:Ext w (fM w6 (some ⟨w5.heap.size,0,none⟩) [Value.bool (N % 2==1),Value.int .i64 ((N / 2 % 8:Nat):Int),Value.bool (N / 16 % 2==1),Value.int .i64 ((N / 4096 % 4096:Nat):Int)]):=YV.fM (a:=⟨w5.heap.size,0,none⟩) (((qm.trans h4).trans h5).size) _
 have ra:cg (fM w6 (some ⟨w5.heap.size,0,none⟩) [Value.bool (N % 2==1),Value.int .i64 ((N / 2 % 8:Nat):Int),Value.bool (N / 16 % 2==1),Value.int .i64 ((N / 4096 % 4096:Nat):Int)]) (some ⟨w5.heap.size,0,none⟩) (.agg [.bool,.int .i64,.bool,.int .i64]) (N % 2==1,((N / 2 % 8:Nat):Int),N / 16 % 2==1,((N / 4096 % 4096:Nat):Int),()):=
  bp.MI fun i _=>by rw[Nat.zero_add];rfl
 have Ih:=cY.lt
 have YW:w1.heap.size≠w5.heap.size:=by
  have a1:=h3.size
  have a2:=h4.size
  have a3:=h5.size
  rw[jM] at a1
  omega
 have TA:aY (fM w6 (some ⟨w5.heap.size,0,none⟩) [Value.bool (N % 2==1),Value.int .i64 ((N / 2 % 8:Nat):Int),Value.bool (N / 16 % 2==1),Value.int .i64 ((N / 4096 % 4096:Nat):Int)]) w1.heap.size [Value.bool false,Value.int .i64 0,Value.bool false,Value.int .i64 0]:=
  ((((((cY.ext (Ext.alloc _ _)).ext h3).ext h4).ext h5).ext (Ext.alloc _ _)).ext h6).IT (a:=⟨w5.heap.size,0,none⟩) YW _
 refine⟨ix 3 (by decide) (by decide), _,(o6.sl 3 _ rfl).2,fun _=>ix 5 (by decide) (by decide), _,fun _=>(o6.sl 5 _ rfl).2, _,fun _=>ra,fun _=>trivial,?_⟩
 rw[Eb,Eb]
 have hok:nQ N= !(!decide (N / 32 % 128=0)|| !decide (N / 16777216 % 1099511627776=0)|| !aM (N % 2==1) ((N / 2 % 8:Nat):Int) (N / 16 % 2==1) ((N / 4096 % 4096:Nat):Int)):=by
  unfold nQ
  cases decide (N / 32 % 128=0)<;>cases decide (N / 16777216 % 1099511627776=0)<;>cases aM (N % 2==1) ((N / 2 % 8:Nat):Int) (N / 16 % 2==1) ((N / 4096 % 4096:Nat):Int)<;>rfl
 refine aa (fun hb w8 h8=>?_) (fun hb=>⟨_,ra,fun w8 h8=>?_⟩)
 ·have ho':nQ N=false:=by rw[hok,hb];rfl
  have b8:=TA.ext h8
  refine⟨⟨rfl,b8.st (by simp)⟩,fun w9 h9=>⟨(false,0,false,0,()),?_,?_,?_⟩⟩
  ·have b9:=(sa b8 [Value.bool false,Value.int .i64 0,Value.bool false,Value.int .i64 0] rfl).ext h9
   exact b9.MI fun i _=>by rw[Nat.zero_add];rfl
  ·show _=((wY N,yK N,yL N,wE N,()),nQ N,())
   unfold wY yK yL wE
   rw[ho'];rfl
  ·exact((XS.trans h8).fM (a:=⟨w1.heap.size,0,none⟩) h1.size _).trans h9
 ·have ho':nQ N=true:=by rw[hok,hb];rfl
  have b8:=TA.ext h8
  refine⟨⟨rfl,b8.st (by simp)⟩,fun w9 h9=>⟨(N % 2==1,((N / 2 % 8:Nat):Int),N / 16 % 2==1,((N / 4096 % 4096:Nat):Int),()),?_,?_,?_⟩⟩
  ·have b9:=(sa b8 [Value.bool (N % 2==1),Value.int .i64 ((N / 2 % 8:Nat):Int),Value.bool (N / 16 % 2==1),Value.int .i64 ((N / 4096 % 4096:Nat):Int)] rfl).ext h9
   exact b9.MI fun i _=>by rw[Nat.zero_add];rfl
  ·show _=((wY N,yK N,yL N,wE N,()),nQ N,())
   unfold wY yK yL wE
   rw[ho',if_pos rfl,if_pos rfl,Bool.true_and,Bool.true_and]
  ·exact((XS.trans h8).fM (a:=⟨w1.heap.size,0,none⟩) h1.size _).trans h9
end Go.Proofs.YtdnoecpjcoibmaaGreat
namespace Go.Proofs.YtdnoecpjcoibmaaGreat
set_option maxRecDepth 100000
open Go.RX
noncomputable def Jn:Entry Tryz.prog where
 f:=223
 fn l:=match l with
  |[.agg ⟨[.bool p,.int .i64 r,.bool l,.int .i64 f]⟩]=>some (True,.bool (fy p r l f))
  | _=>none
 ok args pre v h hp w:=by
  split at h
  ·rename_i p r l f
   cases h
   exact aO (Kq p r l f w)
  ·cases h
noncomputable def Ec:Entry Tryz.prog where
 f:=228
 fn l:=match l with
  |[.agg ⟨[.bool p,.int .i64 r,.bool l,.int .i64 f]⟩]=>some (True,.bool (fy p r l f))
  | _=>none
 ok args pre v h hp w:=by
  split at h
  ·rename_i p r l f
   cases h
   exact aO (FK p r l f w)
  ·cases h
noncomputable def Ee:Entry Tryz.prog where
 f:=285
 fn l:=match l with
  |[.agg ⟨[.bool p,.int .i64 r,.bool l,.int .i64 f]⟩,.int .i64 t]=>some (True,.bool (dK p r l f t))
  | _=>none
 ok args pre v h hp w:=by
  split at h
  ·rename_i p r l f t
   cases h
   exact aO (FM p r l f t w)
  ·cases h
noncomputable def AN:Entry Tryz.prog where
 f:=267
 fn l:=match l with
  |[.agg ⟨[.bool p,.int .i64 r,.bool l,.int .i64 f]⟩,.int .i64 t]=>some (True,.bool (dK p r l f t))
  | _=>none
 ok args pre v h hp w:=by
  split at h
  ·rename_i p r l f t
   cases h
   exact aO (CM p r l f t w)
  ·cases h
noncomputable def Jo:Entry Tryz.prog where
 f:=249
 fn l:=match l with
  |[.int .i64 x,.int .i64 y]=>some (True,.int .i64 (eZ x y))
  | _=>none
 ok args pre v h hp w:=by
  split at h
  ·rename_i x y
   cases h
   exact aO (Ks x y w)
  ·cases h
noncomputable def Ef:Entry Tryz.prog where
 f:=230
 fn l:=match l with
  |[.int .i64 x,.int .i64 y]=>some (True,.int .i64 (eZ x y))
  | _=>none
 ok args pre v h hp w:=by
  split at h
  ·rename_i x y
   cases h
   exact aO (FN x y w)
  ·cases h
noncomputable def Py:Entry Tryz.prog where
 f:=245
 fn l:=match l with
  |[.agg ⟨[.bool p,.int .i64 r,.bool l,.int .i64 f]⟩]=>some (True,.tuple ⟨[.int .u64 (uH p r l f),.int .i64 (HR p r l f)]⟩)
  | _=>none
 ok args pre v h hp w:=by
  split at h
  ·rename_i p r l f
   cases h
   exact aO (Kt p r l f w)
  ·cases h
noncomputable def Jp:Entry Tryz.prog where
 f:=229
 fn l:=match l with
  |[.agg ⟨[.bool p,.int .i64 r,.bool l,.int .i64 f]⟩]=>some (True,.tuple ⟨[.int .u64 (uH p r l f),.int .i64 (HR p r l f)]⟩)
  | _=>none
 ok args pre v h hp w:=by
  split at h
  ·rename_i p r l f
   cases h
   exact aO (FO p r l f w)
  ·cases h
noncomputable def Jq:Entry Tryz.prog where
 f:=224
 fn l:=match l with
  |[.int .u64 v]=>some (U (B v)=v,.tuple ⟨[.agg ⟨[.bool (wY (B v).toNat),.int .i64 (yK (B v).toNat),.bool (yL (B v).toNat),.int .i64 (wE (B v).toNat)]⟩,.bool (nQ (B v).toNat)]⟩)
  | _=>none
 ok args pre v h hp w:=by
  split at h
  ·rename_i v
   cases h
   have:=aO (Ku (B v) w)
   rw[hp] at this;exact this
  ·cases h
noncomputable def D2:dD Tryz.prog:={D0 with qc:=[qB,MJ,yP,yQ,sY,sZ,BU,BV,IU,r_,nU,IV,Ci,Jn,Ec,Ee,AN,Jo,Ef,Py,Jp,Jq]}
end Go.Proofs.YtdnoecpjcoibmaaGreat
namespace Go.Proofs.YtdnoecpjcoibmaaGreat
set_option maxRecDepth 100000
open Go.RX
theorem IW (z x y:Int) (w:World) (Post:Int->World->Prop):(aH D2 (fun _=>[]) 222 [.int .i64 z,.int .i64 x,.int .i64 y] w Post)=(
 True/\ ∀(x_1:Int),x_1=eZ x y->aB (decide (x_1<0)||decide (z<0)||decide (z>=4096)) (aj w fun w1=>Post (-1) w1) (∀(x:Int),x=b_ .i64 16 z-> ∀(x_2:Int),x_2=au .i64 x x_1->aj w fun w1=>Post x_2 w1)):=by kernel_rfl
theorem Ru (z x y:Int) (w:World) (Post:Int->World->Prop):(aH D2 (fun _=>[]) 187 [.int .i64 z,.int .i64 x,.int .i64 y] w Post)=(
 True/\ ∀(x_1:Int),x_1=eZ x y->aB (decide (x_1<0)||decide (z<0)||decide (z>4095)) (aj w fun w1=>Post (-1) w1) (∀(x:Int),x=b_ .i64 16 z-> ∀(x_2:Int),x_2=au .i64 x x_1->aj w fun w1=>Post x_2 w1)):=by kernel_rfl
theorem FP (v:Int) (w:World) (Post:(Bool×Int×Bool×Int×Unit)×Bool×Unit->World->Prop):(bM D2 (fun _=>[]) 236 [.int .u64 v] w Post)=(
 aA w ⟨[.bool false,.int .i64 0,.bool false,.int .i64 0]⟩ 221 fun b w2=>U (B v)=v/\ ∀(x:Int),x=U (cP (B v) 0 1)->U (B v)=v/\ ∀(x_1:Int),x_1=U (cP (B v) 1 3)-> ∀(x_2:Int),x_2=ax .i64 x_1->U (B v)=v/\ ∀(x_3:Int),x_3=U (cP (B v) 4 1)->U (B v)=v/\ ∀(x_4:Int),x_4=U (cP (B v) 12 12)-> ∀(x_5:Int),x_5=ax .i64 x_4->aA w2 ⟨[.bool false,.int .i64 0,.bool false,.int .i64 0]⟩ 221 fun b_1 w2=>av w2 (some ⟨b_1,0,none⟩) [.bool (x==1),.int .i64 x_2,.bool (x_3==1),.int .i64 x_5] fun w2=>ag w2 none (some ⟨b_1,0,none⟩) (.agg
 [.bool,.int .i64,.bool,.int .i64]) fun(x:Bool×Int×Bool×Int×Unit)=>True/\aB (HR x.1 x.2.1 x.2.2.1 x.2.2.2.1 != 0||uH x.1 x.2.1 x.2.2.1 x.2.2.2.1 != v) (av w2 (some ⟨b,0,none⟩) [.bool false,.int .i64 0,.bool false,.int .i64 0] fun w2=>aj w2 fun w1=>ag w1 none (some ⟨b,0,none⟩) (.agg [.bool,.int .i64,.bool,.int .i64]) fun(x:Bool×Int×Bool×Int×Unit)=>Post ((x.1,x.2.1,x.2.2.1,x.2.2.2.1,Unit.unit),false,Unit.unit) w1) (ag w2 none (some ⟨b_1,0,none⟩) (.agg [.bool,.int .i64,.bool,.int .i64]) fun(x:Bool×Int×Bool×Int×Unit)=>av
 w2 (some ⟨b,0,none⟩) [.bool x.1,.int .i64 x.2.1,.bool x.2.2.1,.int .i64 x.2.2.2.1] fun w2=>aj w2 fun w1=>ag w1 none (some ⟨b,0,none⟩) (.agg [.bool,.int .i64,.bool,.int .i64]) fun(x:Bool×Int×Bool×Int×Unit)=>Post ((x.1,x.2.1,x.2.2.1,x.2.2.2.1,Unit.unit),true,Unit.unit) w1)):=by kernel_rfl
def dX (z x y:Int):Int:=if eZ x y<0\/z<0\/z>=4096 then -1 else 16*z+eZ x y
theorem AO (x y:Int): -1<=eZ x y/\eZ x y<16:=by
 unfold eZ
 split
 ·have h1:=Int.emod_nonneg (x / fD y) (show(16:Int)≠0 by decide)
  have h2:=Int.emod_lt_of_pos (x / fD y) (show(0:Int)<16 by decide)
  omega
 ·omega
theorem xB (z x y:Int) (w:World):an Tryz.prog 222 (.el (.one (.int .i64))) [.int .i64 z,.int .i64 x,.int .i64 y] w (fun b w'=>b=dX z x y/\Ext w w'):=by
 refine ai (C:=D2) (aJ:=fun _=>[]) (Eq.mpr (IW z x y w _) ⟨trivial,fun s es=>?_⟩)
 have hb:=AO x y
 subst es
 refine aa (fun h w1 h1=>⟨?_,h1⟩) (fun h a ea b eb w1 h1=>⟨?_,h1⟩)
 ·simp only[Bool.or_eq_true,decide_eq_true_eq] at h
  unfold dX
  rw[if_pos (by omega)]
 ·simp only[Bool.or_eq_false_iff,decide_eq_false_iff_not] at h
  rw[eA (by omega) (by omega)] at ea
  rw[ar (by omega) (by omega)] at eb
  unfold dX
  rw[if_neg (by omega),eb,ea]
theorem Rv (z x y:Int) (w:World):an Tryz.prog 187 (.el (.one (.int .i64))) [.int .i64 z,.int .i64 x,.int .i64 y] w (fun b w'=>b=dX z x y/\Ext w w'):=by
 refine ai (C:=D2) (aJ:=fun _=>[]) (Eq.mpr (Ru z x y w _) ⟨trivial,fun s es=>?_⟩)
 have hb:=AO x y
 subst es
 refine aa (fun h w1 h1=>⟨?_,h1⟩) (fun h a ea b eb w1 h1=>⟨?_,h1⟩)
 ·simp only[Bool.or_eq_true,decide_eq_true_eq] at h
  unfold dX
  rw[if_pos (by omega)]
 ·simp only[Bool.or_eq_false_iff,decide_eq_false_iff_not] at h
  rw[eA (by omega) (by omega)] at ea
  rw[ar (by omega) (by omega)] at eb
  unfold dX
  rw[if_neg (by omega),eb,ea]
theorem Jr (n:Nat) (h:n<=1):nB (n==1)=n:=by
 have:n=0\/n=1:=by omega
 rcases this with rfl|rfl<;>rfl
theorem NG (n:Nat):mq (n % 2==1) ((n / 2 % 8:Nat):Int) (n / 16 % 2==1) ((n / 4096 % 4096:Nat):Int)=((n % 2+2*(n / 2 % 8)+16*(n / 16 % 2)+4096*(n / 4096 % 4096):Nat):Int):=by
 unfold mq
 rw[Jr _ (by omega),Jr _ (by omega)]
 omega
theorem FQ (n:Nat) (h:n<18446744073709551616):n=n % 2+2*(n / 2 % 8)+16*(n / 16 % 2)+32*(n / 32 % 128)+4096*(n / 4096 % 4096)+16777216*(n / 16777216 % 1099511627776):=by
 omega
theorem NH (n:Nat) (h:n<18446744073709551616):nQ n=(aM (n % 2==1) ((n / 2 % 8:Nat):Int) (n / 16 % 2==1) ((n / 4096 % 4096:Nat):Int)&&decide (mq (n % 2==1) ((n / 2 % 8:Nat):Int) (n / 16 % 2==1) ((n / 4096 % 4096:Nat):Int)=(n:Int))):=by
 rw[NG]
 have hs:=FQ n h
 unfold nQ
 rw[Bool.and_comm]
 congr 1
 rw[Bool.eq_iff_iff,Bool.and_eq_true,decide_eq_true_eq,decide_eq_true_eq,decide_eq_true_eq]
 omega
theorem CO (v:BitVec 64):(HR (v.toNat % 2==1) ((v.toNat / 2 % 8:Nat):Int) (v.toNat / 16 % 2==1) ((v.toNat / 4096 % 4096:Nat):Int) != 0||uH (v.toNat % 2==1) ((v.toNat / 2 % 8:Nat):Int) (v.toNat / 16 % 2==1) ((v.toNat / 4096 % 4096:Nat):Int) != U v)= !nQ v.toNat:=by
 rw[NH _ v.isLt]
 unfold HR uH
 cases aM (v.toNat % 2==1) ((v.toNat / 2 % 8:Nat):Int) (v.toNat / 16 % 2==1) ((v.toNat / 4096 % 4096:Nat):Int) with
 |false=>rfl
 |true=>
  rw[if_pos rfl,if_pos rfl,Bool.true_and]
  show(((0:Int) != 0)|| _)= _
  rw[show((0:Int) != 0)=false from rfl,Bool.false_or]
  rw[Bool.eq_iff_iff,bne_iff_ne,Bool.not_eq_true',decide_eq_false_iff_not]
  rfl
theorem FR (v:BitVec 64) (w:World):an Tryz.prog 236 (.bq [.agg [.bool,.int .i64,.bool,.int .i64],.one .bool]) [.int .u64 (U v)] w
 (fun x w'=>x=((wY v.toNat,yK v.toNat,yL v.toNat,wE v.toNat,()),nQ v.toNat,())/\Ext w w'):=by
 refine aL (C:=D2) (aJ:=fun _=>[]) (Eq.mpr (FP (U v) w _) ?_)
 let N:=v.toNat
 have v0:U (cP v 0 1)=((N % 2:Nat):Int):=by rw[ua (gW 1 2 (by decide) rfl rfl),Nat.div_one]
 have v1:U (cP v 1 3)=((N / 2 % 8:Nat):Int):=ua (gW 2 8 (by decide) rfl rfl)
 have v2:U (cP v 4 1)=((N / 16 % 2:Nat):Int):=ua (gW 16 2 (by decide) rfl rfl)
 have v4:U (cP v 12 12)=((N / 4096 % 4096:Nat):Int):=ua (gW 4096 4096 (by decide) (by decide) (by decide))
 intro w1 h1
 rw[uF]
 refine⟨rfl,fun x0 e0=>⟨rfl,fun x1 e1 x2 e2=>⟨rfl,fun x3 e3=>⟨rfl,fun x4 e4 x5 e5 w2 h2 w3 h3=>?_⟩⟩⟩⟩
 rw[v0] at e0
 rw[v1] at e1
 rw[v2] at e3
 rw[v4] at e4
 rw[sq (by omega) (by omega)] at e2 e5
 subst e0;subst e2;subst e3;subst e5;subst e1;subst e4
 rw[uv,uv]
 have cY:aY w2 w1.heap.size [Value.bool false,Value.int .i64 0,Value.bool false,Value.int .i64 0]:=(aY.new w1 _ _).ext h2
 have sM:Ext w w2:=(h1.cR _).trans h2
 have bt:aY w3 w2.heap.size [Value.bool false,Value.int .i64 0,Value.bool false,Value.int .i64 0]:=(aY.new w2 _ _).ext h3
 have bp:=sa bt [Value.bool (N % 2==1),Value.int .i64 ((N / 2 % 8:Nat):Int),Value.bool (N / 16 % 2==1),Value.int .i64 ((N / 4096 % 4096:Nat):Int)] rfl
 have qm:Ext w w3:=(sM.cR _).trans h3
 have U8:Ext w (fM w3 (some ⟨w2.heap.size,0,none⟩) [Value.bool (N % 2==1),Value.int .i64 ((N / 2 % 8:Nat):Int),Value.bool (N / 16 % 2==1),Value.int .i64 ((N / 4096 % 4096:Nat):Int)]):=qm.fM (a:=⟨w2.heap.size,0,none⟩) sM.size _
 have ra:cg (fM w3 (some ⟨w2.heap.size,0,none⟩) [Value.bool (N % 2==1),Value.int .i64 ((N / 2 % 8:Nat):Int),Value.bool (N / 16 % 2==1),Value.int .i64 ((N / 4096 % 4096:Nat):Int)]) (some ⟨w2.heap.size,0,none⟩) (.agg [.bool,.int .i64,.bool,.int .i64]) (N % 2==1,((N / 2 % 8:Nat):Int),N / 16 % 2==1,((N / 4096 % 4096:Nat):Int),()):=
  bp.MI fun i _=>by rw[Nat.zero_add];rfl
 have Ih:=cY.lt
 have b4:aY (fM w3 (some ⟨w2.heap.size,0,none⟩) [Value.bool (N % 2==1),Value.int .i64 ((N / 2 % 8:Nat):Int),Value.bool (N / 16 % 2==1),Value.int .i64 ((N / 4096 % 4096:Nat):Int)]) w1.heap.size [Value.bool false,Value.int .i64 0,Value.bool false,Value.int .i64 0]:=
  ((cY.ext (Ext.alloc _ _)).ext h3).IT (a:=⟨w2.heap.size,0,none⟩) (by show w1.heap.size≠w2.heap.size;omega) _
 refine⟨⟨rfl,bt.st (by simp)⟩, _,ra,trivial,?_⟩
 have t_:=CO v
 refine aa (fun hb w8 h8=>?_) (fun hb=>⟨_,ra,fun w8 h8=>?_⟩)
 ·have ho':nQ N=false:=by
   have:=t_.symm.trans hb
   simpa using this
  have b8:=b4.ext h8
  refine⟨⟨rfl,b8.st (by simp)⟩,fun w9 h9=>⟨(false,0,false,0,()),?_,?_,?_⟩⟩
  ·have b9:=(sa b8 [Value.bool false,Value.int .i64 0,Value.bool false,Value.int .i64 0] rfl).ext h9
   exact b9.MI fun i _=>by rw[Nat.zero_add];rfl
  ·show _=((wY N,yK N,yL N,wE N,()),nQ N,())
   unfold wY yK yL wE
   rw[ho'];rfl
  ·exact((U8.trans h8).fM (a:=⟨w1.heap.size,0,none⟩) h1.size _).trans h9
 ·have ho':nQ N=true:=by
   have:=t_.symm.trans hb
   simpa using this
  have b8:=b4.ext h8
  refine⟨⟨rfl,b8.st (by simp)⟩,fun w9 h9=>⟨(N % 2==1,((N / 2 % 8:Nat):Int),N / 16 % 2==1,((N / 4096 % 4096:Nat):Int),()),?_,?_,?_⟩⟩
  ·have b9:=(sa b8 [Value.bool (N % 2==1),Value.int .i64 ((N / 2 % 8:Nat):Int),Value.bool (N / 16 % 2==1),Value.int .i64 ((N / 4096 % 4096:Nat):Int)] rfl).ext h9
   exact b9.MI fun i _=>by rw[Nat.zero_add];rfl
  ·show _=((wY N,yK N,yL N,wE N,()),nQ N,())
   unfold wY yK yL wE
   rw[ho',if_pos rfl,if_pos rfl,Bool.true_and,Bool.true_and]
  ·exact((U8.trans h8).fM (a:=⟨w1.heap.size,0,none⟩) h1.size _).trans h9
noncomputable def YX:Entry Tryz.prog where
 f:=222
 fn l:=match l with
  |[.int .i64 z,.int .i64 x,.int .i64 y]=>some (True,.int .i64 (dX z x y))
  | _=>none
 ok args pre v h hp w:=by
  split at h
  ·rename_i z x y
   cases h
   exact aO (xB z x y w)
  ·cases h
noncomputable def WT:Entry Tryz.prog where
 f:=187
 fn l:=match l with
  |[.int .i64 z,.int .i64 x,.int .i64 y]=>some (True,.int .i64 (dX z x y))
  | _=>none
 ok args pre v h hp w:=by
  split at h
  ·rename_i z x y
   cases h
   exact aO (Rv z x y w)
  ·cases h
noncomputable def NI:Entry Tryz.prog where
 f:=236
 fn l:=match l with
  |[.int .u64 v]=>some (U (B v)=v,.tuple ⟨[.agg ⟨[.bool (wY (B v).toNat),.int .i64 (yK (B v).toNat),.bool (yL (B v).toNat),.int .i64 (wE (B v).toNat)]⟩,.bool (nQ (B v).toNat)]⟩)
  | _=>none
 ok args pre v h hp w:=by
  split at h
  ·rename_i v
   cases h
   have:=aO (FR (B v) w)
   rw[hp] at this;exact this
  ·cases h
noncomputable def D3:dD Tryz.prog:={D0 with qc:=[qB,MJ,yP,yQ,sY,sZ,BU,BV,IU,r_,nU,IV,Ci,Jn,Ec,Ee,AN,Jo,Ef,Py,Jp,Jq,YX,WT,NI]}
end Go.Proofs.YtdnoecpjcoibmaaGreat
namespace Go.Proofs.YtdnoecpjcoibmaaGreat
set_option maxRecDepth 100000
open Go.RX
noncomputable def M0:dD Tryz.prog:={D3 with sX:=false,quiet:=[30,243,190]}
theorem NJ (p:Option Addr) (w:World) (Post:Int->World->Prop):(aH M0 (fun _=>[]) 30 [.pointer p] w Post)=(
 aB p.isNone (aj w fun w1=>Post 0 w1) (p.isSome=true/\p.isSome=true/\(af p 0).isSome=true/\ag w none (af (af p 0) 0) (.one .slice) fun x=>aj w fun w1=>Post (↑x.2.1:Int) w1)):=by kernel_rfl
theorem Rw (p:Option Addr) (n c:Nat) (i:Int) (w:World) (Post:Option Addr->World->Prop):(aH M0 (fun _=>[]) 243 [.agg ⟨[.slice p n c]⟩,.int .i64 i] w Post)=(
 aA w ⟨[.slice p n c]⟩ 148 fun b w2=>((!decide (i<0))=true->true=true)/\ag w2 (some !decide (i<0)) (af (some ⟨b,0,none⟩) 0) (.one .slice) fun x=>aB (decide (i<0)||decide (i>=(↑x.2.1:Int))) (aj w2 fun w1=>Post none w1) (true=true/\ag w2 none (af (some ⟨b,0,none⟩) 0) (.one .slice) fun x=>(x.1.isSome=true/\0<=i/\i<(↑x.2.1:Int))/\aj w2 fun w1=>Post (af x.1 (i.toNat*1)) w1)):=by kernel_rfl
theorem Kv (p:Option Addr) (i:Int) (w:World) (Post:Option Addr×Int×Unit->World->Prop):(aH M0 (fun _=>[]) 208 [.pointer p,.int .i64 i] w Post)=(
 ∃(x:Int),ah Tryz.prog 30 [.pointer p] w (.int .i64 x)/\aB (x==0) (aj w fun w1=>Post (none,10,Unit.unit) w1) (p.isSome=true/\p.isSome=true/\ag w none (af p 0) (.agg [.slice]) fun x=> ∃(x_1:Option Addr),ah Tryz.prog 243 [.agg ⟨[.slice x.1.1 x.1.2.1 x.1.2.2]⟩,.int .i64 i] w (.pointer x_1)/\aB x_1.isNone (aj w fun w1=>Post (none,2,Unit.unit) w1) (p.isSome=true/\p.isSome=true/\ag w none (af p 1) (.one (.int .i64)) fun(x:Int)=>p.isSome=true/\p.isSome=true/\av w (af p 1) [.int .i64 (au .i64 x 1)] fun w2=>aj w2 fun w1=>Post
 (x_1,0,Unit.unit) w1))):=by kernel_rfl
theorem AP (p:Option Addr) (i:Int) (w:World) (Post:Int×Int×Unit->World->Prop):(aH M0 (fun _=>[]) 162 [.pointer p,.int .i64 i] w Post)=(
 az Tryz.prog 208 (.bq [.one .ptr,.one (.int .i64)]) [.pointer p,.int .i64 i] w fun(x:Option Addr×Int×Unit) w2=>aB (x.2.1 != 0) (aj w2 fun w1=>Post (0,x.2.1,Unit.unit) w1) (x.1.isSome=true/\ag w2 none x.1 (.one (.int .u64)) fun(x:Int)=>aj w2 fun w1=>Post (x,0,Unit.unit) w1)):=by kernel_rfl
theorem FU (p:Option Addr) (i v:Int) (w:World) (Post:Int->World->Prop):(aH M0 (fun _=>[]) 157 [.pointer p,.int .i64 i,.int .u64 v] w Post)=(
 az Tryz.prog 208 (.bq [.one .ptr,.one (.int .i64)]) [.pointer p,.int .i64 i] w fun(x:Option Addr×Int×Unit) w2=>aB (x.2.1==0) (x.1.isSome=true/\av w2 x.1 [.int .u64 v] fun w2=>p.isSome=true/\p.isSome=true/\ag w2 none (af p 2) (.one (.int .i64)) fun(x_1:Int)=>p.isSome=true/\p.isSome=true/\av w2 (af p 2) [.int .i64 (au .i64 x_1 1)] fun w2=>aj w2 fun w1=>Post x.2.1 w1) (aj w2 fun w1=>Post x.2.1 w1)):=by kernel_rfl
theorem NK (n:Int) (w:World) (Post:Option Addr×Int×Unit->World->Prop):(aH M0 (fun _=>[]) 43 [.int .i64 n] w Post)=(
 aB (decide (n<1)||decide (n>65536)) (aj w fun w1=>Post (none,1,Unit.unit) w1) (BF w 8 1 n n ⟨[.int .u64 0]⟩ 29 fun b w2=>aA w2 {toList:=[.slice (some ⟨b,0,none⟩) n.toNat n.toNat,.int .i64 0,.int .i64 0]} 150 fun b w2=>aj w2 fun w1=>Post (some ⟨b,0,none⟩,0,Unit.unit) w1)):=by kernel_rfl
end Go.Proofs.YtdnoecpjcoibmaaGreat
namespace Go.Proofs.YtdnoecpjcoibmaaGreat
set_option maxRecDepth 100000
open Go.RX
abbrev eW:El:= .one (.int .u64)
abbrev hH (bw n c:Nat) (ca la:Int):List Value:=[.slice (some ⟨bw,0,none⟩) n c,.int .i64 ca,.int .i64 la]
def uj (ws:List Int) (i:Int):Bool:=decide (0<=i)&&decide (i<ws.length)
def cZ (ws:List Int) (i:Int):Int:=if uj ws i then ws.getD i.toNat 0 else 0
def yM (ws:List Int) (i:Int):Int:=if uj ws i then 0 else 2
def tW (ws:List Int) (i x:Int):Int:=if uj ws i then au .i64 x 1 else x
def cH (ws:List Int) (i v:Int):List Int:=if uj ws i then ws.set i.toNat v else ws
theorem gX {ws:List Int} {i:Int}:uj ws i=true<->0<=i/\i<ws.length:=by unfold uj;simp
theorem cu (ws:List Int) (i v:Int):(cH ws i v).length=ws.length:=by unfold cH;split<;>simp
theorem DO: ∀ws:List Int,flat eW ws=ws.map (Value.int .u64)
 |[]=>rfl
 |a::l=>by
  show[Value.int .u64 a]++flat eW l= _
  rw[DO l];rfl
section
variable {D G:List Nat} {w0 w:World} {L:List (Nat×List Value)} {bm bw n c:Nat} {ca la:Int} {ws:List Int} {rest:List Value}
theorem TB {i:Nat} (hi:i<ws.length):lI (flat eW ws++rest) (0+i*1) eW=some (ws.getD i 0):=by
 have:(flat eW ws++rest)[0+i*1]? =some (.int .u64 (ws.getD i 0)):=by
  have hl:(flat eW ws).length=ws.length*1:=aG eW ws
  rw[Nat.zero_add,Nat.mul_one,List.getElem?_append_left (by omega)]
  have e:=DO ws
  rw[e,List.getElem?_map,List.getElem?_eq_getElem hi,List.getD_eq_getElem?_getD,List.getElem?_eq_getElem hi];rfl
 show(match (flat eW ws++rest)[0+i*1]? with|some v=>(Sc.int .u64).proj v|none=>none)= _
 rw[this];rfl
theorem uw (h:aY w bm (hH bw n c ca la)):an Tryz.prog 30 (.el (.one (.int .i64))) [.pointer (some ⟨bm,0,none⟩)] w (fun x w'=>x=(n:Int)/\Ext w w'):=by
 refine ai (C:=M0) (aJ:=fun _=>[]) (Eq.mpr (NJ _ w _) ?_)
 refine ak rfl ⟨rfl,rfl,rfl,ag.of (some ⟨bw,0,none⟩,n,c) (by rw[aK,aK];exact h.lG rfl) fun w1 h1=>⟨rfl,h1⟩⟩
theorem Rx (p:Option Addr) (hp:n≠0->p.isSome=true) (i:Int) (w:World):an Tryz.prog 243 (.el (.one .ptr)) [.agg ⟨[.slice p n c]⟩,.int .i64 i] w (fun x w'=>x=(if 0<=i/\i<n then af p i.toNat else none)/\Ext w w'):=by
 refine ai (C:=M0) (aJ:=fun _=>[]) (Eq.mpr (Rw p n c i w _) ?_)
 have H:=At.start [] w
 refine aA.go H fun b w2 H=>⟨fun _=>rfl,ag.bP 0 H rfl rfl (aa (fun c1=>aj.go H fun w3 H=>⟨?_,H.all⟩) (fun c1=>⟨rfl,ag.bP 0 H rfl rfl ?_⟩))⟩
 ·have: ¬ (0<=i/\i<n):=by simp at c1;omega
  rw[if_neg this]
 ·have hi:0<=i/\i<n:=by simp at c1;omega
  refine⟨⟨hp (by omega),by omega,by show i<((n:Nat):Int);omega⟩,aj.go H fun w3 H=>⟨?_,H.all⟩⟩
  rw[if_pos hi,Nat.mul_one]
theorem vu (H:aF D G w0 w L) (j:Nat) (hm:L[j]? =some (bm,hH bw n c ca la)) (hn:n=ws.length) (h0:0<n) (i:Int) {K:Option Addr×Int×Unit->World->Prop}
 (k1:uj ws i=true-> ∀w2,aF D G w0 w2 (L.set j (bm,hH bw n c (au .i64 ca 1) la))->K (af (some ⟨bw,0,none⟩) i.toNat,0,()) w2) (k2:uj ws i=false-> ∀w2,aF D G w0 w2 L->K (none,2,()) w2):
 az Tryz.prog 208 (.bq [.one .ptr,.one (.int .i64)]) [.pointer (some ⟨bm,0,none⟩),.int .i64 i] w K:=by
 refine az.go H fun w1 H=>ai (C:=M0) (aJ:=fun _=>[]) (Eq.mpr (Kv _ i w1 K) ?_)
 refine⟨_,ah.of (s:= .el (.one (.int .i64))) fun w' h'=>uw ((H.get hm).ext h'),ak (by simp;omega) ⟨rfl,rfl,ag.bP j H hm rfl ⟨_,ah.of (s:= .el (.one .ptr)) fun w' h'=>Rx (some ⟨bw,0,none⟩) (fun _=>rfl) i w',?_⟩⟩⟩
 subst hn
 cases hi:uj ws i with
 |true=>
  have hi':=gX.1 hi
  rw[if_pos hi']
  refine ak rfl ⟨rfl,rfl,ag.bP j H hm rfl ⟨rfl,rfl,av.dJ j H hm rfl rfl fun w2 H=>aj.go H fun w3 H=>k1 hi w3 H⟩⟩
 |false=>
  have hi': ¬ (0<=i/\i<(ws.length:Int)):=fun h=>by rw[gX.2 h] at hi;cases hi
  rw[if_neg hi']
  exact ay rfl (aj.go H fun w2 H=>k2 hi w2 H)
theorem AQ (H:aF D G w0 w L) (j jw:Nat) (hm:L[j]? =some (bm,hH bw n c ca la)) (hw:L[jw]? =some (bw,flat eW ws++rest)) (hj:j≠jw) (hn:n=ws.length) (h0:0<n) (i:Int) {K:Int×Int×Unit->World->Prop}
 (k: ∀w2,aF D G w0 w2 (L.set j (bm,hH bw n c (tW ws i ca) la))->K (cZ ws i,yM ws i,()) w2):
 az Tryz.prog 162 (.bq [.one (.int .u64),.one (.int .i64)]) [.pointer (some ⟨bm,0,none⟩),.int .i64 i] w K:=by
 refine az.go H fun w1 H=>ai (C:=M0) (aJ:=fun _=>[]) (Eq.mpr (AP _ i w1 K) ?_)
 refine vu H j hm hn h0 i (fun hi w2 H=>?_) (fun hi w2 H=>?_)
 ·unfold tW cZ yM at k
  rw[hi,if_pos rfl,if_pos rfl,if_pos rfl] at k
  have sM:(L.set j (bm,hH bw n c (au .i64 ca 1) la))[jw]? =some (bw,flat eW ws++rest):=by rw[List.getElem?_set_ne hj];exact hw
  have hi':=gX.1 hi
  refine ak rfl ⟨rfl,?_⟩
  rw[aK]
  have e:=TB (ws:=ws) (rest:=rest) (i:=i.toNat) (by omega)
  rw[Nat.mul_one] at e
  exact ag.at jw H sM e (aj.go H fun w3 H=>k w3 H)
 ·unfold tW cZ yM at k
  rw[hi,if_neg (by decide),if_neg (by decide),if_neg (by decide)] at k
  refine ay rfl (aj.go H fun w3 H=>k w3 ?_)
  rw[show L.set j (bm,hH bw n c ca la)=L from List.ext_getElem? fun m=>by
   by_cases e:j=m
   ·subst e;rw[List.getElem?_set_self (List.getElem?_eq_some_iff.1 hm).1,hm]
   ·rw[List.getElem?_set_ne e]]
  exact H
theorem Ue {i:Nat} (hi:i<ws.length) (v:Int):(flat eW ws++rest).set i (.int .u64 v)=flat eW (ws.set i v)++rest:=by
 have h:=vq eW ws i v rest hi
 have e1:(cellsOf eW v)=[Value.int .u64 v]:=rfl
 have e2:aI eW=1:=rfl
 rw[e1,e2,Nat.mul_one] at h
 rw[<-h]
 have hl:(flat eW ws).length=ws.length*1:=aG eW ws
 rw[List.set_eq_take_append_cons_drop,if_pos (by rw[List.length_append];omega)]
 rfl
theorem FV (H:aF D G w0 w L) (j jw:Nat) (hm:L[j]? =some (bm,hH bw n c ca la)) (hw:L[jw]? =some (bw,flat eW ws++rest)) (hj:j≠jw) (hn:n=ws.length) (h0:0<n) (i v:Int) {K:Int->World->Prop}
 (k: ∀w2,aF D G w0 w2 ((L.set j (bm,hH bw n c (tW ws i ca) (tW ws i la))).set jw (bw,flat eW (cH ws i v)++rest))->K (yM ws i) w2):
 az Tryz.prog 157 (.el (.one (.int .i64))) [.pointer (some ⟨bm,0,none⟩),.int .i64 i,.int .u64 v] w K:=by
 refine az.go H fun w1 H=>ai (C:=M0) (aJ:=fun _=>[]) (Eq.mpr (FU _ i v w1 K) ?_)
 have hjl:j<L.length:=(List.getElem?_eq_some_iff.1 hm).1
 have aac:jw<L.length:=(List.getElem?_eq_some_iff.1 hw).1
 refine vu H j hm hn h0 i (fun hi w2 H=>?_) (fun hi w2 H=>?_)
 ·unfold tW cH yM at k
  rw[hi,if_pos rfl,if_pos rfl,if_pos rfl,if_pos rfl] at k
  have sM:(L.set j (bm,hH bw n c (au .i64 ca 1) la))[jw]? =some (bw,flat eW ws++rest):=by rw[List.getElem?_set_ne hj];exact hw
  have hi':=gX.1 hi
  have hlt:i.toNat<ws.length:=by omega
  have hl:(flat eW ws).length=ws.length*1:=aG eW ws
  refine ay rfl ⟨rfl,av.dJ jw H sM rfl (by rw[Nat.blt_eq,List.length_append];omega) fun w3 H=>?_⟩
  rw[Nat.zero_add,Ue hlt] at H
  have XT:((L.set j (bm,hH bw n c (au .i64 ca 1) la)).set jw (bw,flat eW (ws.set i.toNat v)++rest))[j]? =some (bm,hH bw n c (au .i64 ca 1) la):=by
   rw[List.getElem?_set_ne (fun e=>hj e.symm),List.getElem?_set_self hjl]
  refine⟨rfl,rfl,ag.bP j H XT rfl ⟨rfl,rfl,av.dJ j H XT rfl rfl fun w4 H=>aj.go H fun w5 H=>k w5 ?_⟩⟩
  rw[List.set_comm _ _ hj,List.set_set] at H
  rw[List.set_comm _ _ hj]
  exact H
 ·unfold tW cH yM at k
  rw[hi,if_neg (by decide),if_neg (by decide),if_neg (by decide),if_neg (by decide)] at k
  refine ak rfl (aj.go H fun w3 H=>k w3 ?_)
  have s1: ∀{m:Nat} {x:Nat×List Value},L[m]? =some x->L.set m x=L:=fun{m x} h=>List.ext_getElem? fun q=>by
   by_cases e:m=q
   ·subst e;rw[List.getElem?_set_self (List.getElem?_eq_some_iff.1 h).1,h]
   ·rw[List.getElem?_set_ne e]
  rw[s1 hm,s1 hw];exact H
theorem NL (H:aF D G w0 w L) (hn:1<=n/\n<=65536) {K:Option Addr×Int×Unit->World->Prop}
 (k: ∀bm bw w1,aF D G w0 w1 ((bm,hH bw n n 0 0)::(bw,flat eW (List.replicate n 0)++[])::L)->K (some ⟨bm,0,none⟩,0,()) w1):
 az Tryz.prog 43 (.bq [.one .ptr,.one (.int .i64)]) [.int .i64 (n:Int)] w K:=by
 refine az.go H fun w1 H=>ai (C:=M0) (aJ:=fun _=>[]) (Eq.mpr (NK _ w1 K) ?_)
 refine ak (by rw[decide_eq_false (by omega),decide_eq_false (by omega)];rfl) (BF.go H rfl (by omega) (by omega) (by omega) (by omega) fun bw w2 H=>aA.go H fun bm w3 H=>aj.go H fun w4 H=>k bm bw w4 ?_)
 rw[jO,List.append_nil]
 exact H
end
end Go.Proofs.YtdnoecpjcoibmaaGreat
namespace Go.Proofs.YtdnoecpjcoibmaaGreat
set_option maxRecDepth 100000
open Go.RX
abbrev sR:List Sc:=[.int .u64,.bool,.int .i64]
abbrev RT:Type:=Int×Bool×Int×Unit
abbrev sA:List Sc:=[.int .i64,.int .i64,.int .u64,.int .u64]
abbrev sF:List Sc:=[.int .i64,.int .i64,.int .i64,.int .i64]
noncomputable def M1:dD Tryz.prog:={M0 with quiet:=[262,231]}
noncomputable def M2:dD Tryz.prog:={M1 with dyn:=some (.el (.agg sR))}
noncomputable def M3:dD Tryz.prog:={M1 with dyn:=some (.bq [])}
theorem Kw (k i a b:Int) (m:Option Addr) (w:World) (Post:RT->World->Prop):(bM M1 (fun _=>[]) 272 [.agg ⟨[.int .i64 k,.int .i64 i,.int .u64 a,.int .u64 b]⟩,.pointer m] w Post)=(
 aA w ⟨[.int .i64 k,.int .i64 i,.int .u64 a,.int .u64 b]⟩ 317 fun b w2=>aA w2 ⟨[.int .u64 0,.bool false,.int .i64 0]⟩ 303 fun b_1 w2=>true=true/\ag w2 none (af (some ⟨b,0,none⟩) 1) (.one (.int .i64)) fun(x:Int)=>az Tryz.prog 162 (.bq [.one (.int .u64),.one (.int .i64)]) [.pointer m,.int .i64 x] w2 fun(x:Int×Int×Unit) w2=>av w2 (some ⟨b_1,0,none⟩) [.int .u64 x.1,.bool false,.int .i64 x.2.1] fun w2=>aj w2 fun w1=>ag w1 none (some ⟨b_1,0,none⟩) (.agg [.int .u64,.bool,.int .i64]) fun(x:Int×Bool×Int×Unit)=>Post (x.1,x.2.1,x.2.2.1,
 Unit.unit) w1):=by kernel_rfl
theorem Uf (m:Option Addr) (k i a b:Int) (w:World) (Post:RT->World->Prop):(bM M2 (fun _=>[]) 261 [.pointer m,.agg ⟨[.int .i64 k,.int .i64 i,.int .u64 a,.int .u64 b]⟩] w Post)=(
 aA w ⟨[.int .i64 k,.int .i64 i,.int .u64 a,.int .u64 b]⟩ 306 fun b w2=>aA w2 ⟨[.int .u64 0,.bool false,.int .i64 0]⟩ 303 fun b_1 w2=> ∀w1,Ext w2 w1-> ∀cQ,Ext (w1.alloc (Obj.map ⟨[]⟩ 0)) cQ-> ∃(r:Nat), ∃(es:Array MapEntry), ∃(clock:Nat),some w1.heap.size=some r/\bA cQ r es clock/\gL cQ r .i64 1 (.func (.func 272) ⟨[]⟩ ⟨[]⟩) es clock fun w2=> ∀pG,Ext w2 pG-> ∃(r:Nat), ∃(es:Array MapEntry), ∃(clock:Nat),some w1.heap.size=some r/\bA pG r es clock/\gL pG r .i64 2 (.func (.func 273) ⟨[]⟩ ⟨[]⟩) es clock fun w2=> ∀pH,Ext w2 pH
 -> ∃(r:Nat), ∃(es:Array MapEntry), ∃(clock:Nat),some w1.heap.size=some r/\bA pH r es clock/\gL pH r .i64 3 (.func (.func 274) ⟨[]⟩ ⟨[]⟩) es clock fun w2=> ∀pI,Ext w2 pI-> ∃(r:Nat), ∃(es:Array MapEntry), ∃(clock:Nat),some w1.heap.size=some r/\bA pI r es clock/\gL pI r .i64 4 (.func (.func 275) ⟨[]⟩ ⟨[]⟩) es clock fun w2=>true=true/\ag w2 none (af (some ⟨b,0,none⟩) 0) (.one (.int .i64)) fun(x:Int)=> ∃(x_1:Value), ∃(b_2:Bool),lO w2 (some w1.heap.size) .i64 x Value.nilFunc x_1 b_2/\aB (!b_2) (av w2 (some ⟨b_1,0,none⟩)
 [.int .u64 0,.bool false,.int .i64 1] fun w2=>aj w2 fun w1=>ag w1 none (some ⟨b_1,0,none⟩) (.agg [.int .u64,.bool,.int .i64]) fun(x:Int×Bool×Int×Unit)=>Post (x.1,x.2.1,x.2.2.1,Unit.unit) w1) (ag w2 none (some ⟨b,0,none⟩) (.agg [.int .i64,.int .i64,.int .u64,.int .u64]) fun(x:Int×Int×Int×Int×Unit)=>BE Tryz.prog x_1 (.el (.agg [.int .u64,.bool,.int .i64])) [.agg ⟨[.int .i64 x.1,.int .i64 x.2.1,.int .u64 x.2.2.1,.int .u64 x.2.2.2.1]⟩,.pointer m] w2 fun(x:Int×Bool×Int×Unit) w2=>av w2 (some ⟨b_1,0,none⟩) [.int .u64 x.1,.bool x.2.1,
 .int .i64 x.2.2.1] fun w2=>aj w2 fun w1=>ag w1 none (some ⟨b_1,0,none⟩) (.agg [.int .u64,.bool,.int .i64]) fun(x:Int×Bool×Int×Unit)=>Post (x.1,x.2.1,x.2.2.1,Unit.unit) w1)):=by kernel_rfl
theorem NM (f p t:Int) (w:World) (Post:Option Addr->World->Prop):(aH M1 (fun _=>[]) 246 [.int .i64 f,.int .i64 p,.int .i64 t] w Post)=(
 aA w {toList:=[.int .i64 f,.int .i64 p,.int .i64 t,.int .i64 3,.int .i64 0,.int .i64 0,.int .i64 0,.int .i64 0,.slice none 0 0,.bool true]} 294 fun b w2=>True/\aB (decide (dX f p (3:Int)<0)||decide (t<0)||decide (t>7)) (aj w2 fun w1=>Post none w1) (aj w2 fun w1=>Post (some ⟨b,0,none⟩) w1)):=by kernel_rfl
theorem Ky (p:Option Addr) (w:World) (Post:(Int×Int×Int×Int×Unit)->World->Prop):(bM M1 (fun _=>[]) 262 [.pointer p] w Post)=(
 aA w ⟨[.int .i64 0,.int .i64 0,.int .u64 0,.int .u64 0]⟩ 306 fun b w2=>((!p.isNone)=true->p.isSome=true)/\((!p.isNone)=true->p.isSome=true)/\ag w2 (some !p.isNone) (af p 9) (.one .bool) fun x=>((!(p.isNone|| !x))=true->p.isSome=true)/\((!(p.isNone|| !x))=true->p.isSome=true)/\ag w2 (some !(p.isNone|| !x)) (af p 3) (.one (.int .i64)) fun(x_1:Int)=>aB (p.isNone|| !x||x_1== -1) (av w2 (some ⟨b,0,none⟩) [.int .i64 0,.int .i64 0,.int .u64 0,.int .u64 0] fun w2=>aj w2 fun w1=>ag w1 none (some ⟨b,0,none⟩) (.agg [.int .i64,.int .i64,
 .int .u64,.int .u64]) fun(x:Int×Int×Int×Int×Unit)=>Post (x.1,x.2.1,x.2.2.1,x.2.2.2.1,Unit.unit) w1) (p.isSome=true/\p.isSome=true/\ag w2 none (af p 0) (.one (.int .i64)) fun(x:Int)=>p.isSome=true/\p.isSome=true/\ag w2 none (af p 1) (.one (.int .i64)) fun(x_2:Int)=>p.isSome=true/\p.isSome=true/\ag w2 none (af p 3) (.one (.int .i64)) fun(x_3:Int)=>True/\av w2 (some ⟨b,0,none⟩) [.int .i64 1,.int .i64 (dX x x_2 x_3),.int .u64 0,.int .u64 0] fun w2=>aj w2 fun w1=>ag w1 none (some ⟨b,0,none⟩) (.agg [.int .i64,.int .i64,
 .int .u64,.int .u64]) fun(x:Int×Int×Int×Int×Unit)=>Post (x.1,x.2.1,x.2.2.1,x.2.2.2.1,Unit.unit) w1)):=by kernel_rfl
theorem NN (p:Option Addr) (a b c d:Int) (w:World) (Post:Unit->World->Prop):(aH M1 (fun _=>[]) 263 [.pointer p,.agg ⟨[.int .i64 a,.int .i64 b,.int .i64 c,.int .i64 d]⟩] w Post)=(
 aA w ⟨[.int .i64 a,.int .i64 b,.int .i64 c,.int .i64 d]⟩ 266 fun b w2=>p.isSome=true/\p.isSome=true/\ag w2 none (af p 3) (.one (.int .i64)) fun(x:Int)=>true=true/\av w2 (af (some ⟨b,0,none⟩) 2) [.int .i64 x] fun w2=>ag w2 none (some ⟨b,0,none⟩) (.agg [.int .i64,.int .i64,.int .i64,.int .i64]) fun(x:Int×Int×Int×Int×Unit)=>p.isSome=true/\p.isSome=true/\av w2 (af p 4) [.int .i64 x.1,.int .i64 x.2.1,.int .i64 x.2.2.1,.int .i64 x.2.2.2.1] fun w2=>p.isSome=true/\p.isSome=true/\av w2 (af p 3) [.int .i64 (-1)] fun w2=>aj w2
 fun w1=>Post Unit.unit w1):=by kernel_rfl
theorem Ry (p:Option Addr) (fr:Int) (ep:Bool) (er:Int) (el:Bool) (ef:Int) (w:World) (Post:Unit->World->Prop):(aH M1 (fun _=>[]) 279 [.pointer p,.int .i64 fr,.agg ⟨[.bool ep,.int .i64 er,.bool el,.int .i64 ef]⟩] w Post)=(
 aA w ⟨[.bool ep,.int .i64 er,.bool el,.int .i64 ef]⟩ 180 fun b w2=>aB (decide (fr>=4096)) (az Tryz.prog 263 (.bq []) [.pointer p,.agg ⟨[.int .i64 0,.int .i64 0,.int .i64 0,.int .i64 11]⟩] w2 fun x w2=>aj w2 fun w1=>Post Unit.unit w1) (ag w2 none (some ⟨b,0,none⟩) (.agg [.bool,.int .i64,.bool,.int .i64]) fun(x:Bool×Int×Bool×Int×Unit)=>p.isSome=true/\p.isSome=true/\ag w2 none (af p 2) (.one (.int .i64)) fun(x_1:Int)=>True/\aB (!dK x.1 x.2.1 x.2.2.1 x.2.2.2.1 x_1) (true=true/\ag w2 none (af (some ⟨b,0,none⟩) 1) (.one (.int
 .i64)) fun(x:Int)=>az Tryz.prog 263 (.bq []) [.pointer p,.agg ⟨[.int .i64 fr,.int .i64 x,.int .i64 0,.int .i64 7]⟩] w2 fun x w2=>aj w2 fun w1=>Post Unit.unit w1) (true=true/\ag w2 none (af (some ⟨b,0,none⟩) 1) (.one (.int .i64)) fun(x:Int)=>az Tryz.prog 263 (.bq []) [.pointer p,.agg ⟨[.int .i64 fr,.int .i64 x,.int .i64 0,.int .i64 0]⟩] w2 fun x w2=>aj w2 fun w1=>Post Unit.unit w1))):=by kernel_rfl
theorem Kz (pw:Option Addr) (w:World) (Post:Unit->World->Prop):(aH M1 (fun _=>[]) 276 [.pointer pw] w Post)=(
 ag w none pw (.one .ptr) fun x=>az Tryz.prog 263 (.bq []) [.pointer x,.agg ⟨[.int .i64 0,.int .i64 0,.int .i64 0,.int .i64 4]⟩] w fun x w2=>aj w2 fun w1=>Post Unit.unit w1):=by kernel_rfl
theorem KA (pe pw:Option Addr) (w:World) (Post:Unit->World->Prop):(aH M1 (fun _=>[]) 277 [.pointer pe,.pointer pw] w Post)=(
 ag w none pw (.one .ptr) fun x=>ag w none pw (.one .ptr) fun x_1=>pe.isSome=true/\ag w none (af pe 3) (.one (.int .i64)) fun(x_2:Int)=>ag w none pw (.one .ptr) fun x_3=>x_3.isSome=true/\x_3.isSome=true/\ag w none (af x_3 3) (.one (.int .i64)) fun(x_4:Int)=>x.isSome=true/\x.isSome=true/\av w (af x 0) [.int .i64 x_2] fun w2=>True/\cg w2 pw (.one .ptr) x_1/\x_1.isSome=true/\x_1.isSome=true/\av w2 (af x_1 3) [.int .i64 (bL .i64 x_4 1)] fun w2=>aj w2 fun w1=>Post Unit.unit w1):=by kernel_rfl
theorem KB (pw pe:Option Addr) (w:World) (Post:Unit->World->Prop):(aH M1 (fun _=>[]) 278 [.pointer pw,.pointer pe] w Post)=(
 ag w none pw (.one .ptr) fun x=>pe.isSome=true/\ag w none (af pe 3) (.one (.int .i64)) fun(x_1:Int)=>ag w none pw (.one .ptr) fun x_2=>x_2.isSome=true/\x_2.isSome=true/\ag w none (af x_2 1) (.one (.int .i64)) fun(x_3:Int)=>True/\fD 1≠0/\ag w none pe (.agg [.bool,.int .i64,.bool,.int .i64]) fun(x_4:Bool×Int×Bool×Int×Unit)=>az Tryz.prog 279 (.bq []) [.pointer x,.int .i64 (au .i64 x_1 (dM x_3 (fD 1))),.agg ⟨[.bool x_4.1,.int .i64 x_4.2.1,.bool x_4.2.2.1,.int .i64 x_4.2.2.2.1]⟩] w fun x w2=>aj w2 fun w1=>Post Unit.unit w1)
 :=by kernel_rfl
theorem KC (pw pe:Option Addr) (w:World) (Post:Unit->World->Prop):(aH M1 (fun _=>[]) 280 [.pointer pw,.pointer pe] w Post)=(
 ag w none pw (.one .ptr) fun x=>pe.isSome=true/\ag w none (af pe 3) (.one (.int .i64)) fun(x_1:Int)=>ag w none pe (.agg [.bool,.int .i64,.bool,.int .i64]) fun(x_2:Bool×Int×Bool×Int×Unit)=>az Tryz.prog 279 (.bq []) [.pointer x,.int .i64 x_1,.agg ⟨[.bool x_2.1,.int .i64 x_2.2.1,.bool x_2.2.2.1,.int .i64 x_2.2.2.2.1]⟩] w fun x w2=>aj w2 fun w1=>Post Unit.unit w1):=by kernel_rfl
theorem KE (pw:Option Addr) (w:World) (Post:Unit->World->Prop):(aH M1 (fun _=>[]) 281 [.pointer pw] w Post)=(
 ag w none pw (.one .ptr) fun x=>az Tryz.prog 263 (.bq []) [.pointer x,.agg ⟨[.int .i64 0,.int .i64 0,.int .i64 0,.int .i64 11]⟩] w fun x w2=>aj w2 fun w1=>Post Unit.unit w1):=by kernel_rfl
def tJ:Nat->aQ:=(fun|3=>[(56,Go.RX.El.one (Go.RX.Sc.int Go.IntKind.i64))]| _=>[])
theorem NO (p:Option Addr) (ep:Bool) (er:Int) (el:Bool) (ef:Int) (w:World) (Post:Unit->World->Prop):(aH M3 tJ 264 [.pointer p,.agg ⟨[.bool ep,.int .i64 er,.bool el,.int .i64 ef]⟩] w Post)=(
 aA w ⟨[.pointer p]⟩ 290 fun b w2=>aA w2 ⟨[.bool ep,.int .i64 er,.bool el,.int .i64 ef]⟩ 180 fun b_1 w2=>true=true/\ag w2 none (af (some ⟨b_1,0,none⟩) 0) (.one .bool) fun x=>ag w2 none (some ⟨b_1,0,none⟩) (.agg [.bool,.int .i64,.bool,.int .i64]) fun(x_1:Bool×Int×Bool×Int×Unit)=>True/\ag w2 (some (fy x_1.1 x_1.2.1 x_1.2.2.1 x_1.2.2.2.1)) (some ⟨b,0,none⟩) (.one .ptr) fun x_2=>(fy x_1.1 x_1.2.1 x_1.2.2.1 x_1.2.2.2.1=true->x_2.isSome=true)/\(fy x_1.1 x_1.2.1 x_1.2.2.1 x_1.2.2.2.1=true->x_2.isSome=true)/\ag w2 (some (fy
 x_1.1 x_1.2.1 x_1.2.2.1 x_1.2.2.2.1)) (af x_2 3) (.one (.int .i64)) fun(x_3:Int)=>true=true/\ag w2 none (af (some ⟨b_1,0,none⟩) 2) (.one .bool) fun x_4=>ag w2 (some x_4) (some ⟨b,0,none⟩) (.one .ptr) fun x_5=>(x_4=true->x_5.isSome=true)/\(x_4=true->x_5.isSome=true)/\ag w2 (some x_4) (af x_5 3) (.one (.int .i64)) fun(x_6:Int)=>true=true/\ag w2 none (af (some ⟨b_1,0,none⟩) 2) (.one .bool) fun x_7=>((!x_7)=true->true=true)/\ag w2 (some !x_7) (af (some ⟨b_1,0,none⟩) 1) (.one (.int .i64)) fun(x_8:Int)=>ag w2 (some (!x_7&&decide
 (x_8>0))) (some ⟨b,0,none⟩) (.one .ptr) fun x_9=>((!x_7&&decide (x_8>0))=true->x_9.isSome=true)/\((!x_7&&decide (x_8>0))=true->x_9.isSome=true)/\ag w2 (some (!x_7&&decide (x_8>0))) (af x_9 3) (.one (.int .i64)) fun(x_10:Int)=>aA w2 {toList:=[.bool !x,.func (.func 276) ⟨[]⟩ {toList:=[.pointer (some ⟨b,0,none⟩)]},.bool (fy x_1.1 x_1.2.1 x_1.2.2.1 x_1.2.2.2.1&&decide (x_3>0)),.func (.func 277) ⟨[]⟩ {toList:=[.pointer (some ⟨b_1,0,none⟩),.pointer (some ⟨b,0,none⟩)]},.bool (x_4&&x_6==1),.func (.func 278) ⟨[]⟩ {toList:=
 [.pointer (some ⟨b,0,none⟩),.pointer (some ⟨b_1,0,none⟩)]},.bool (!x_7&&decide (x_8>0)&&x_10==0),.func (.func 280) ⟨[]⟩ {toList:=[.pointer (some ⟨b,0,none⟩),.pointer (some ⟨b_1,0,none⟩)]},.bool true,.func (.func 281) ⟨[]⟩ {toList:=[.pointer (some ⟨b,0,none⟩)]}]} 321 fun b w2=> ∃(I:Nat->Int×Unit->World->Prop),(∃n, ∀w1,Ext w2 w1->I n (0,Unit.unit) w1)/\ ∀(n:Nat) (s:Int×Unit) (w1:World),I n s w1->aB (decide (s.1<(↑5:Int))) ((true=true/\0<=s.1/\s.1<(↑5:Int))/\ag w1 none (af (some ⟨b,0,none⟩) (Int.toNat s.1*2)) (.agg
 [.bool,.func]) fun x=>aA w1 ⟨[.bool false,Value.nilFunc]⟩ 321 fun b w2=>av w2 (some ⟨b,0,none⟩) [.bool x.1,x.2.1] fun w2=>true=true/\ag w2 none (af (some ⟨b,0,none⟩) 0) (.one .bool) fun x=>aB x (true=true/\ag w2 none (af (some ⟨b,0,none⟩) 1) (.one .func) fun x=>BE Tryz.prog x (.bq []) [] w2 fun x w2=>aj w2 fun w1=>Post Unit.unit w1) (∀w3,Ext w2 w3-> ∃(n':Nat),n'<n/\I n' (au .i64 s.1 1,Unit.unit) w3)) (aj w1 fun w1=>Post Unit.unit w1)):=by kernel_rfl
theorem KF (p m:Option Addr) (w:World) (Post:Bool->World->Prop):(aH M1 (fun _=>[]) 247 [.pointer p,.pointer m] w Post)=(
 ((!p.isNone)=true->p.isSome=true)/\((!p.isNone)=true->p.isSome=true)/\ag w (some !p.isNone) (af p 9) (.one .bool) fun x=>aB (p.isNone|| !x) (aj w fun w1=>Post false w1) (p.isSome=true/\p.isSome=true/\ag w none (af p 3) (.one (.int .i64)) fun(x:Int)=>aB (x== -1) (aj w fun w1=>Post true w1) (∃(x:Int×Int×Int×Int×Unit),ah Tryz.prog 262 [.pointer p] w (.agg ⟨[.int .i64 x.1,.int .i64 x.2.1,.int .u64 x.2.2.1,.int .u64 x.2.2.2.1]⟩)/\az Tryz.prog 261 (.el (.agg [.int .u64,.bool,.int .i64])) [.pointer m,.agg ⟨[.int .i64 x.1,.int .i64
 x.2.1,.int .u64 x.2.2.1,.int .u64 x.2.2.2.1]⟩] w fun(x:Int×Bool×Int×Unit) w2=>aA w2 ⟨[.int .u64 0,.bool false,.int .i64 0]⟩ 303 fun b w2=>av w2 (some ⟨b,0,none⟩) [.int .u64 x.1,.bool x.2.1,.int .i64 x.2.2.1] fun w2=>p.isSome=true/\p.isSome=true/\ag w2 none (af p 8) (.one .slice) fun x=>p.isSome=true/\p.isSome=true/\ag w2 none (af p 0) (.one (.int .i64)) fun(x_1:Int)=>aA w2 ⟨[.int .i64 x_1]⟩ 3 fun b_1 w2=> ∀w1,Ext w2 w1->tV w1 3 1 8 ⟨[.int .i64 0]⟩ (x.1,x.2.1,x.2.2) (some ⟨b_1,0,none⟩,1,1) fun(r:Option Addr×Nat×Nat) w2=>
 p.isSome=true/\p.isSome=true/\av w2 (af p 8) [.slice r.1 r.2.1 r.2.2] fun w2=>true=true/\ag w2 none (af (some ⟨b,0,none⟩) 0) (.one (.int .u64)) fun(x:Int)=>U (B x)=x/\aA w2 ⟨[.bool false,.int .i64 0,.bool false,.int .i64 0]⟩ 180 fun b_2 w2=>av w2 (some ⟨b_2,0,none⟩) [.bool (wY (B x).toNat),.int .i64 (yK (B x).toNat),.bool (yL (B x).toNat),.int .i64 (wE (B x).toNat)] fun w2=>((!!nQ (B x).toNat)=true->true=true)/\ag w2 (some !!nQ (B x).toNat) (af (some ⟨b,0,none⟩) 2) (.one (.int .i64)) fun(x_2:Int)=>aB (!nQ (B x).toNat||x_2 !=
 0) (az Tryz.prog 263 (.bq []) [.pointer p,.agg ⟨[.int .i64 0,.int .i64 0,.int .i64 0,.int .i64 11]⟩] w2 fun x w2=>aj w2 fun w1=>Post true w1) (ag w2 none (some ⟨b_2,0,none⟩) (.agg [.bool,.int .i64,.bool,.int .i64]) fun(x:Bool×Int×Bool×Int×Unit)=>az Tryz.prog 264 (.bq []) [.pointer p,.agg ⟨[.bool x.1,.int .i64 x.2.1,.bool x.2.2.1,.int .i64 x.2.2.2.1]⟩] w2 fun x w2=>p.isSome=true/\p.isSome=true/\ag w2 none (af p 3) (.one (.int .i64)) fun(x:Int)=>aj w2 fun w1=>Post (x== -1) w1)))):=by kernel_rfl
def tK:Nat->aQ:=(fun|4=>[]| _=>[])
theorem NP (m:Option Addr) (f p t:Int) (w:World) (Post:(Int×Int×Int×Int×Unit)->World->Prop):(bM M1 tK 213 [.pointer m,.int .i64 f,.int .i64 p,.int .i64 t] w Post)=(
 aA w ⟨[.int .i64 0,.int .i64 0,.int .i64 0,.int .i64 0]⟩ 266 fun b w2=>az Tryz.prog 246 (.el (.one .ptr)) [.int .i64 f,.int .i64 p,.int .i64 t] w2 fun x w2=>aB x.isNone (av w2 (some ⟨b,0,none⟩) [.int .i64 0,.int .i64 0,.int .i64 0,.int .i64 1] fun w2=>aj w2 fun w1=>ag w1 none (some ⟨b,0,none⟩) (.agg [.int .i64,.int .i64,.int .i64,.int .i64]) fun(x:Int×Int×Int×Int×Unit)=>Post (x.1,x.2.1,x.2.2.1,x.2.2.2.1,Unit.unit) w1) (∃(I:Nat->Unit->World->Prop),(∃n, ∀w1,Ext w2 w1->I n Unit.unit w1)/\ ∀(n:Nat) (s:Unit) (w1:World),I n s w1->
 az Tryz.prog 247 (.el (.one .bool)) [.pointer x,.pointer m] w1 fun x_1 w2=>aB (!x_1) (∀w3,Ext w2 w3-> ∃(n':Nat),n'<n/\I n' Unit.unit w3) (x.isSome=true/\x.isSome=true/\ag w2 none (af x 4) (.agg [.int .i64,.int .i64,.int .i64,.int .i64]) fun(x:Int×Int×Int×Int×Unit)=>av w2 (some ⟨b,0,none⟩) [.int .i64 x.1,.int .i64 x.2.1,.int .i64 x.2.2.1,.int .i64 x.2.2.2.1] fun w2=>aj w2 fun w1=>ag w1 none (some ⟨b,0,none⟩) (.agg [.int .i64,.int .i64,.int .i64,.int .i64]) fun(x:Int×Int×Int×Int×Unit)=>Post (x.1,x.2.1,x.2.2.1,x.2.2.2.1,
 Unit.unit) w1))):=by kernel_rfl
end Go.Proofs.YtdnoecpjcoibmaaGreat
namespace Go.Proofs.YtdnoecpjcoibmaaGreat
set_option maxRecDepth 100000
open Go.RX
abbrev FT:Type:=Int×Int×Int×Int×Unit
abbrev oI (fr pg wt lv:Int) (fd:FT) (s:Option Addr×Nat×Nat):List Value:=
 [.int .i64 fr,.int .i64 pg,.int .i64 wt,.int .i64 lv,.int .i64 fd.1,.int .i64 fd.2.1,.int .i64 fd.2.2.1,.int .i64 fd.2.2.2.1,.slice s.1 s.2.1 s.2.2,.bool true]
def wO (lv e:Int):FT:=(0,0,lv,e,())
def DF (lv wt fr:Int) (ep:Bool) (er:Int) (el:Bool) (ef:Int):FT:=if fr>=4096 then(0,0,lv,11,()) else if dK ep er el ef wt then(fr,er,lv,0,()) else(fr,er,lv,7,())
theorem zj {w:World} {r:Nat} {k:IntKind} {n:Int} {val:Value} {es:Array MapEntry} {clock:Nat} {K:World->Prop} (h:Instr.findNow (.int k) (.int k n) es.toList 0=some none)
 (hk:K (w.putObj r (.map (es.push {key:= .int k n,val,born:=clock}) (clock+1)))):gL w r k n val es clock K:=by
 unfold gL
 rw[h];exact hk
section
variable {D G:List Nat} {w0 w:World} {L:List (Nat×List Value)} {bm bw n c:Nat} {ca la:Int} {ws:List Int} {rest:List Value}
theorem KG (H:aF D G w0 w L) (j jw:Nat) (hm:L[j]? =some (bm,hH bw n c ca la)) (hw:L[jw]? =some (bw,flat eW ws++rest)) (hj:j≠jw) (hn:n=ws.length) (h0:0<n) (kd i a b:Int) {K:RT->World->Prop}
 (k: ∀w2,aF D G w0 w2 (L.set j (bm,hH bw n c (tW ws i ca) la))->K (cZ ws i,false,yM ws i,()) w2):
 an Tryz.prog 272 (.el (.agg sR)) [.agg ⟨[.int .i64 kd,.int .i64 i,.int .u64 a,.int .u64 b]⟩,.pointer (some ⟨bm,0,none⟩)] w K:=by
 refine aL (C:=M1) (aJ:=fun _=>[]) (Eq.mpr (Kw kd i a b _ w K) ?_)
 refine aA.go H fun b1 w2 H=>aA.go H fun b2 w3 H=>⟨rfl,ag.bP 1 H rfl rfl ?_⟩
 refine AQ H (j+2) (jw+2) hm hw (by omega) hn h0 i fun w4 H=>?_
 refine av.all 0 H rfl rfl rfl fun w5 H=>aj.go H fun w6 H=>ag.at 0 H rfl rfl (k w6 ?_)
 exact(H.sub (List.sublist_cons_self _ _)).sub (List.sublist_cons_self _ _)
theorem za (H:aF D G w0 w L) {r:Nat} {es:Array MapEntry} {clock:Nat} (hr:w0.heap.size<=r) (hD:r∉D) (hm:bA w r es clock) {n:Int} {val:Value} {K:World->Prop} (hf:Instr.findNow (.int .i64) (.int .i64 n) es.toList 0=some none)
 (k: ∀w2,aF D G w0 w2 L->bA w2 r (es.push {key:= .int .i64 n,val,born:=clock}) (clock+1)->K w2):
 ∃r' es' clock',some r=some r'/\bA w r' es' clock'/\gL w r' .i64 n val es' clock' K:=
 ⟨r,es,clock,rfl,hm,zj hf (k _ (H.putObj hr hm (fun _ _ _ hc=>by cases hc) hD) (iS (Array.getElem?_eq_some_iff.1 hm).1))⟩
theorem Ug (H:aF D G w0 w L) (hD:D=[]) (j jw:Nat) (hm:L[j]? =some (bm,hH bw n c ca la)) (hw:L[jw]? =some (bw,flat eW ws++rest)) (hj:j≠jw) (hn:n=ws.length) (h0:0<n) (i a b:Int) {K:RT->World->Prop}
 (k: ∀w2,aF D G w0 w2 (L.set j (bm,hH bw n c (tW ws i ca) la))->K (cZ ws i,false,yM ws i,()) w2):
 az Tryz.prog 261 (.el (.agg sR)) [.pointer (some ⟨bm,0,none⟩),.agg ⟨[.int .i64 1,.int .i64 i,.int .u64 a,.int .u64 b]⟩] w K:=by
 subst hD
 refine az.go H fun w1 H=>aL (C:=M2) (aJ:=fun _=>[]) (Eq.mpr (Uf _ 1 i a b w1 K) ?_)
 refine aA.go H fun b1 w2 H=>aA.go H fun b2 w3 H=>fun w4 h4 w5 h5=>?_
 have H:=(((H.ext h4).r9 (.map ⟨[]⟩ 0)).ext h5)
 have hsz:w0.heap.size<=w4.heap.size:=by have:=(aF.ext (w1:=w4) (by assumption) h4:aF [] G w0 w4 _).fr.size;exact this
 have m0:bA w5 w4.heap.size ⟨[]⟩ 0:=h5.obj (fO w4 _)
 refine za H hsz (by simp) m0 rfl fun w6 H m1 w7 h7=>?_
 refine za (H.ext h7) hsz (by simp) (h7.obj m1) rfl fun w8 H m2 w9 h9=>?_
 refine za (H.ext h9) hsz (by simp) (h9.obj m2) rfl fun lE H m3 mh zU=>?_
 refine za (H.ext zU) hsz (by simp) (zU.obj m3) rfl fun Ab H m4=>?_
 refine⟨rfl,ag.bP 1 H rfl rfl ⟨.func (.func 272) #[] #[],true,⟨_, _, _,rfl,m4,?_⟩,ak rfl (ag.at 1 H rfl rfl ?_)⟩⟩
 ·exact⟨rfl,rfl⟩
 ·unfold BE
  refine fun E9 Pc=>⟨_, #[], #[],rfl,by kernel_rfl,?_⟩
  refine KG (H.ext Pc) (j+2) (jw+2) hm hw (by omega) hn h0 1 i a b fun E_ H=>?_
  refine av.all 0 H rfl rfl rfl fun U9 H=>aj.go H fun Sv H=>ag.at 0 H rfl rfl (k Sv ?_)
  exact(H.sub (List.sublist_cons_self _ _)).sub (List.sublist_cons_self _ _)
end
section
variable {D G:List Nat} {w0 w:World} {L:List (Nat×List Value)} {bk:Nat} {fr pg wt lv:Int} {fd:FT} {s:Option Addr×Nat×Nat}
theorem nV (H:aF D G w0 w L) (j:Nat) (hk:L[j]? =some (bk,oI fr pg wt lv fd s)) (x1 x2 x3 x4:Int) {K:Unit->World->Prop}
 (k: ∀w2,aF D G w0 w2 (L.set j (bk,oI fr pg wt (-1) (x1,x2,lv,x4,()) s))->K () w2):
 az Tryz.prog 263 (.bq []) [.pointer (some ⟨bk,0,none⟩),.agg ⟨[.int .i64 x1,.int .i64 x2,.int .i64 x3,.int .i64 x4]⟩] w K:=by
 refine az.go H fun w1 H=>ai (C:=M1) (aJ:=fun _=>[]) (Eq.mpr (NN _ x1 x2 x3 x4 w1 K) ?_)
 have hjl:j<L.length:=(List.getElem?_eq_some_iff.1 hk).1
 refine aA.go H fun b w2 H=>?_
 have Sw:((b,[Value.int .i64 x1,.int .i64 x2,.int .i64 x3,.int .i64 x4])::L)[j+1]? =some (bk,oI fr pg wt lv fd s):=hk
 refine⟨rfl,rfl,ag.bP (j+1) H Sw rfl ⟨rfl,av.dJ 0 H rfl rfl rfl fun w3 H=>ag.at 0 H rfl rfl ⟨rfl,rfl,?_⟩⟩⟩
 rw[aK,aK]
 refine av.at (j+1) H hk rfl (Nat.le_of_ble_eq_true rfl) fun w4 H=>⟨rfl,rfl,?_⟩
 refine av.one (j+1) H (List.getElem?_set_self (Nat.succ_lt_succ hjl)) rfl rfl fun w5 H=>aj.go H fun w6 H=>k w6 ?_
 have H:=H.sub (List.sublist_cons_self _ _)
 have e:(L.set j (bk,oI fr pg wt lv (x1,x2,lv,x4,()) s)).set j (bk,oI fr pg wt (-1) (x1,x2,lv,x4,()) s)=L.set j (bk,oI fr pg wt (-1) (x1,x2,lv,x4,()) s):=List.set_set ..
 rw[<-e]
 exact H
theorem Js (H:aF D G w0 w L) (j:Nat) (hk:L[j]? =some (bk,oI fr pg wt lv fd s)) (f:Int) (ep:Bool) (er:Int) (el:Bool) (ef:Int) {K:Unit->World->Prop}
 (k: ∀w2,aF D G w0 w2 (L.set j (bk,oI fr pg wt (-1) (DF lv wt f ep er el ef) s))->K () w2):
 az Tryz.prog 279 (.bq []) [.pointer (some ⟨bk,0,none⟩),.int .i64 f,.agg ⟨[.bool ep,.int .i64 er,.bool el,.int .i64 ef]⟩] w K:=by
 refine az.go H fun w1 H=>ai (C:=M1) (aJ:=fun _=>[]) (Eq.mpr (Ry _ f ep er el ef w1 K) ?_)
 refine aA.go H fun b w2 H=>?_
 have Sw:((b,[Value.bool ep,.int .i64 er,.bool el,.int .i64 ef])::L)[j+1]? =some (bk,oI fr pg wt lv fd s):=hk
 refine aa (fun c=>?_) (fun c=>ag.at 0 H rfl rfl ⟨rfl,rfl,ag.bP (j+1) H Sw rfl ⟨trivial,aa (fun c2=>?_) (fun c2=>?_)⟩⟩)
 ·refine nV H (j+1) Sw 0 0 0 11 fun w3 H=>aj.go H fun w4 H=>k w4 ?_
  have e:DF lv wt f ep er el ef=(0,0,lv,11,()):=if_pos (of_decide_eq_true c)
  rw[e];exact H.sub (List.sublist_cons_self _ _)
 ·refine⟨rfl,ag.bP 0 H rfl rfl (nV H (j+1) Sw f er 0 7 fun w3 H=>aj.go H fun w4 H=>k w4 ?_)⟩
  have e:DF lv wt f ep er el ef=(f,er,lv,7,()):=by
   have c3:dK ep er el ef wt=false:=by simpa using c2
   unfold DF;rw[if_neg (of_decide_eq_false c),c3];rfl
  rw[e];exact H.sub (List.sublist_cons_self _ _)
 ·refine⟨rfl,ag.bP 0 H rfl rfl (nV H (j+1) Sw f er 0 0 fun w3 H=>aj.go H fun w4 H=>k w4 ?_)⟩
  have e:DF lv wt f ep er el ef=(f,er,lv,0,()):=by
   have c3:dK ep er el ef wt=true:=by simpa using c2
   unfold DF;rw[if_neg (of_decide_eq_false c),if_pos c3]
  rw[e];exact H.sub (List.sublist_cons_self _ _)
end
end Go.Proofs.YtdnoecpjcoibmaaGreat
namespace Go.Proofs.YtdnoecpjcoibmaaGreat
set_option maxRecDepth 100000
open Go.RX
def tookS (fr pg wt lv:Int) (fd:FT) (ep:Bool) (er:Int) (el:Bool) (ef:Int):Int×Int×FT:=
 if(!ep)=true then(fr,-1,wO lv 4)
 else if(fy ep er el ef&&decide (lv>0))=true then(ef,bL .i64 lv 1,fd)
 else if(el&&lv==1)=true then(fr,-1,DF lv wt (au .i64 ef (dM pg 16)) ep er el ef)
 else if(!el&&decide (er>0)&&lv==0)=true then(fr,-1,DF lv wt ef ep er el ef)
 else(fr,-1,wO lv 11)
section
variable {D G:List Nat} {w0 w:World} {L:List (Nat×List Value)} {bk bp be:Nat} {fr pg wt lv:Int} {fd:FT} {s:Option Addr×Nat×Nat} {ep:Bool} {er:Int} {el:Bool} {ef:Int}
theorem KH (H:aF D G w0 w L) (jw j:Nat) (hw:L[jw]? =some (bp,[.pointer (some ⟨bk,0,none⟩)])) (hk:L[j]? =some (bk,oI fr pg wt lv fd s)) {K:Unit->World->Prop}
 (k: ∀w2,aF D G w0 w2 (L.set j (bk,oI fr pg wt (-1) (wO lv 4) s))->K () w2):an Tryz.prog 276 (.bq []) [.pointer (some ⟨bp,0,none⟩)] w K:=by
 refine ai (C:=M1) (aJ:=fun _=>[]) (Eq.mpr (Kz _ w K) ?_)
 exact ag.at jw H hw rfl (nV H j hk 0 0 0 4 fun w3 H=>aj.go H fun w4 H=>k w4 H)
theorem KI (H:aF D G w0 w L) (jw j:Nat) (hw:L[jw]? =some (bp,[.pointer (some ⟨bk,0,none⟩)])) (hk:L[j]? =some (bk,oI fr pg wt lv fd s)) {K:Unit->World->Prop}
 (k: ∀w2,aF D G w0 w2 (L.set j (bk,oI fr pg wt (-1) (wO lv 11) s))->K () w2):an Tryz.prog 281 (.bq []) [.pointer (some ⟨bp,0,none⟩)] w K:=by
 refine ai (C:=M1) (aJ:=fun _=>[]) (Eq.mpr (KE _ w K) ?_)
 exact ag.at jw H hw rfl (nV H j hk 0 0 0 11 fun w3 H=>aj.go H fun w4 H=>k w4 H)
theorem KJ (H:aF D G w0 w L) (je jw j:Nat) (he:L[je]? =some (be,[.bool ep,.int .i64 er,.bool el,.int .i64 ef])) (hw:L[jw]? =some (bp,[.pointer (some ⟨bk,0,none⟩)])) (hk:L[j]? =some (bk,oI fr pg wt lv fd s)) (hj:j≠jw) {K:Unit->World->Prop}
 (k: ∀w2,aF D G w0 w2 (L.set j (bk,oI ef pg wt (bL .i64 lv 1) fd s))->K () w2):an Tryz.prog 277 (.bq []) [.pointer (some ⟨be,0,none⟩),.pointer (some ⟨bp,0,none⟩)] w K:=by
 refine ai (C:=M1) (aJ:=fun _=>[]) (Eq.mpr (KA _ _ w K) ?_)
 have hjl:j<L.length:=(List.getElem?_eq_some_iff.1 hk).1
 refine ag.at jw H hw rfl (ag.at jw H hw rfl ⟨rfl,ag.bP je H he rfl (ag.at jw H hw rfl ⟨rfl,rfl,ag.bP j H hk rfl ⟨rfl,rfl,?_⟩⟩)⟩)
 refine av.dJ j H hk rfl rfl fun w2 H=>⟨trivial,?_,rfl,rfl,?_⟩
 ·exact bY (H.get (i:=jw) (by rw[List.getElem?_set_ne hj];exact hw)) rfl
 ·refine av.dJ j H (List.getElem?_set_self hjl) rfl rfl fun w3 H=>aj.go H fun w4 H=>k w4 ?_
  rw[List.set_set] at H
  exact H
theorem KK (H:aF D G w0 w L) (je jw j:Nat) (he:L[je]? =some (be,[.bool ep,.int .i64 er,.bool el,.int .i64 ef])) (hw:L[jw]? =some (bp,[.pointer (some ⟨bk,0,none⟩)])) (hk:L[j]? =some (bk,oI fr pg wt lv fd s)) {K:Unit->World->Prop}
 (k: ∀w2,aF D G w0 w2 (L.set j (bk,oI fr pg wt (-1) (DF lv wt (au .i64 ef (dM pg 16)) ep er el ef) s))->K () w2):an Tryz.prog 278 (.bq []) [.pointer (some ⟨bp,0,none⟩),.pointer (some ⟨be,0,none⟩)] w K:=by
 refine ai (C:=M1) (aJ:=fun _=>[]) (Eq.mpr (KB _ _ w K) ?_)
 have YY:fD 1=16:=rfl
 rw[YY]
 refine ag.at jw H hw rfl ⟨rfl,ag.bP je H he rfl (ag.at jw H hw rfl ⟨rfl,rfl,ag.bP j H hk rfl ⟨trivial,by decide,ag.at je H he rfl ?_⟩⟩)⟩
 exact Js H j hk _ ep er el ef fun w3 H=>aj.go H fun w4 H=>k w4 H
theorem KL (H:aF D G w0 w L) (je jw j:Nat) (he:L[je]? =some (be,[.bool ep,.int .i64 er,.bool el,.int .i64 ef])) (hw:L[jw]? =some (bp,[.pointer (some ⟨bk,0,none⟩)])) (hk:L[j]? =some (bk,oI fr pg wt lv fd s)) {K:Unit->World->Prop}
 (k: ∀w2,aF D G w0 w2 (L.set j (bk,oI fr pg wt (-1) (DF lv wt ef ep er el ef) s))->K () w2):an Tryz.prog 280 (.bq []) [.pointer (some ⟨bp,0,none⟩),.pointer (some ⟨be,0,none⟩)] w K:=by
 refine ai (C:=M1) (aJ:=fun _=>[]) (Eq.mpr (KC _ _ w K) ?_)
 refine ag.at jw H hw rfl ⟨rfl,ag.bP je H he rfl (ag.at je H he rfl ?_)⟩
 exact Js H j hk _ ep er el ef fun w3 H=>aj.go H fun w4 H=>k w4 H
theorem NQ (H:aF D G w0 w L) (j:Nat) (hk:L[j]? =some (bk,oI fr pg wt lv fd s)) (ep:Bool) (er:Int) (el:Bool) (ef:Int) {K:Unit->World->Prop}
 (k: ∀w2,aF D G w0 w2 (L.set j (bk,oI (tookS fr pg wt lv fd ep er el ef).1 pg wt (tookS fr pg wt lv fd ep er el ef).2.1 (tookS fr pg wt lv fd ep er el ef).2.2 s))->K () w2):
 az Tryz.prog 264 (.bq []) [.pointer (some ⟨bk,0,none⟩),.agg ⟨[.bool ep,.int .i64 er,.bool el,.int .i64 ef]⟩] w K:=by
 refine az.go H fun w1 H=>ai (C:=M3) (aJ:=tJ) (Eq.mpr (NO _ ep er el ef w1 K) ?_)
 refine aA.go H fun bp w2 H=>aA.go H fun be w3 H=>⟨rfl,ag.bP 0 H rfl rfl (ag.at 0 H rfl rfl ⟨trivial,ag.at 1 H rfl rfl ⟨fun _=>rfl,fun _=>rfl,ag.bP (j+2) H hk rfl ⟨rfl,ag.bP 0 H rfl rfl (ag.at 1 H rfl rfl ⟨fun _=>rfl,fun _=>rfl,ag.bP (j+2) H hk rfl ⟨rfl,ag.bP 0 H rfl rfl ⟨fun _=>rfl,ag.bP 0 H rfl rfl (ag.at 1 H rfl rfl ⟨fun _=>rfl,fun _=>rfl,ag.bP (j+2) H hk rfl ?_⟩)⟩⟩⟩)⟩⟩⟩)⟩
 refine aA.go H fun bs w4 H=>?_
 dsimp only at H ⊢
 generalize hc0:(!ep)=c0 at H
 generalize P_:(fy ep er el ef&&decide (lv>0))=c1 at H
 generalize Fa:(el&&lv==1)=c2 at H
 generalize Pd:(!el&&decide (er>0)&&lv==0)=c3 at H
 have hT:tookS fr pg wt lv fd ep er el ef=if c0=true then(fr,-1,wO lv 4) else if c1=true then(ef,bL .i64 lv 1,fd) else if c2=true then(fr,-1,DF lv wt (au .i64 ef (dM pg 16)) ep er el ef) else if c3=true then(fr,-1,DF lv wt ef ep er el ef) else(fr,-1,wO lv 11):=by
  unfold tookS
  rw[hc0,P_,Fa,Pd]
 clear hc0 P_ Fa Pd
 refine⟨fun n s' w'=> ∃i:Nat,s'.1=i/\n+i=5/\((0<i->c0=false)/\(1<i->c1=false)/\(2<i->c2=false)/\(3<i->c3=false)/\i<5)/\aF D G w0 w' ((bs,[.bool c0,.func (.func 276) ⟨[]⟩ ⟨[.pointer (some ⟨bp,0,none⟩)]⟩,.bool c1,.func (.func 277) ⟨[]⟩ ⟨[.pointer (some ⟨be,0,none⟩),.pointer (some ⟨bp,0,none⟩)]⟩,
  .bool c2,.func (.func 278) ⟨[]⟩ ⟨[.pointer (some ⟨bp,0,none⟩),.pointer (some ⟨be,0,none⟩)]⟩,.bool c3,.func (.func 280) ⟨[]⟩ ⟨[.pointer (some ⟨bp,0,none⟩),.pointer (some ⟨be,0,none⟩)]⟩,.bool true,.func (.func 281) ⟨[]⟩ ⟨[.pointer (some ⟨bp,0,none⟩)]⟩])::(be,[.bool ep,.int .i64 er,.bool el,.int .i64 ef])::(bp,[.pointer (some ⟨bk,0,none⟩)])::L),
  ⟨5,fun w5 h5=>⟨0,rfl,rfl,⟨fun h=>absurd h (by decide),fun h=>absurd h (by decide),fun h=>absurd h (by decide),fun h=>absurd h (by decide),by decide⟩,H.ext h5⟩⟩,?_⟩
 clear H
 rintro n ⟨i',u⟩ w5 ⟨i,hi,hn,⟨z0,z1,z2,z3,VL⟩,H⟩
 simp only at hi
 subst hi
 dsimp only
 have uk: ∀{x y z q:Nat×List Value},(x::y::z::q::L)[j+4]? =some (bk,oI fr pg wt lv fd s):=hk
 have fin: ∀{x y z q:Nat×List Value} {w9:World} {fr' XU:Int} {fd':FT},tookS fr pg wt lv fd ep er el ef=(fr',XU,fd')->aF D G w0 w9 (x::y::z::q::L.set j (bk,oI fr' pg wt XU fd' s))->K () w9:=fun e H=>by
  rw[e] at k
  exact k _ ((((H.sub (List.sublist_cons_self _ _)).sub (List.sublist_cons_self _ _)).sub (List.sublist_cons_self _ _)).sub (List.sublist_cons_self _ _))
 have e5:au .i64 (i:Int) 1=((i+1:Nat):Int):=by rw[ar (by omega) (by omega)];rfl
 rcases(by omega:i=0\/i=1\/i=2\/i=3\/i=4) with rfl|rfl|rfl|rfl|rfl
 ·refine ay rfl ⟨⟨rfl,by decide,by decide⟩,ag.bP 0 H rfl rfl (aA.go H fun b4 w6 H=>av.all 0 H rfl rfl rfl fun w7 H=>⟨rfl,ag.bP 0 H rfl rfl (aa (fun c=>⟨rfl,ag.bP 0 H rfl rfl ?_⟩) (fun c w8 h8=>⟨n - 1,by omega,1,e5,by omega,⟨fun _=>c,fun h=>absurd h (by decide),fun h=>absurd h (by decide),fun h=>absurd h (by decide),by decide⟩,(H.sub (List.sublist_cons_self _ _)).ext h8⟩))⟩)⟩
  unfold BE
  refine fun w9 h9=>⟨_,⟨[]⟩,⟨[.pointer (some ⟨bp,0,none⟩)]⟩,rfl,by kernel_rfl,KH (H.ext h9) 3 (j+4) rfl uk fun lE H=>aj.go H fun mh H=>fin ?_ H⟩
  rw[hT,if_pos c]
 ·refine ay rfl ⟨⟨rfl,by decide,by decide⟩,ag.bP 0 H rfl rfl (aA.go H fun b4 w6 H=>av.all 0 H rfl rfl rfl fun w7 H=>⟨rfl,ag.bP 0 H rfl rfl (aa (fun c=>⟨rfl,ag.bP 0 H rfl rfl ?_⟩) (fun c w8 h8=>⟨n - 1,by omega,2,e5,by omega,⟨fun _=>z0 (by decide),fun _=>c,fun h=>absurd h (by decide),fun h=>absurd h (by decide),by decide⟩,(H.sub (List.sublist_cons_self _ _)).ext h8⟩))⟩)⟩
  unfold BE
  refine fun w9 h9=>⟨_,⟨[]⟩,⟨[.pointer (some ⟨be,0,none⟩),.pointer (some ⟨bp,0,none⟩)]⟩,rfl,by kernel_rfl,KJ (H.ext h9) 2 3 (j+4) rfl rfl uk (by omega) fun lE H=>aj.go H fun mh H=>fin ?_ H⟩
  rw[hT,if_neg (by rw[z0 (by decide)];decide),if_pos c]
 ·refine ay rfl ⟨⟨rfl,by decide,by decide⟩,ag.bP 0 H rfl rfl (aA.go H fun b4 w6 H=>av.all 0 H rfl rfl rfl fun w7 H=>⟨rfl,ag.bP 0 H rfl rfl (aa (fun c=>⟨rfl,ag.bP 0 H rfl rfl ?_⟩) (fun c w8 h8=>⟨n - 1,by omega,3,e5,by omega,⟨fun _=>z0 (by decide),fun _=>z1 (by decide),fun _=>c,fun h=>absurd h (by decide),by decide⟩,(H.sub (List.sublist_cons_self _ _)).ext h8⟩))⟩)⟩
  unfold BE
  refine fun w9 h9=>⟨_,⟨[]⟩,⟨[.pointer (some ⟨bp,0,none⟩),.pointer (some ⟨be,0,none⟩)]⟩,rfl,by kernel_rfl,KK (H.ext h9) 2 3 (j+4) rfl rfl uk fun lE H=>aj.go H fun mh H=>fin ?_ H⟩
  rw[hT,if_neg (by rw[z0 (by decide)];decide),if_neg (by rw[z1 (by decide)];decide),if_pos c]
 ·refine ay rfl ⟨⟨rfl,by decide,by decide⟩,ag.bP 0 H rfl rfl (aA.go H fun b4 w6 H=>av.all 0 H rfl rfl rfl fun w7 H=>⟨rfl,ag.bP 0 H rfl rfl (aa (fun c=>⟨rfl,ag.bP 0 H rfl rfl ?_⟩) (fun c w8 h8=>⟨n - 1,by omega,4,e5,by omega,⟨fun _=>z0 (by decide),fun _=>z1 (by decide),fun _=>z2 (by decide),fun _=>c,by decide⟩,(H.sub (List.sublist_cons_self _ _)).ext h8⟩))⟩)⟩
  unfold BE
  refine fun w9 h9=>⟨_,⟨[]⟩,⟨[.pointer (some ⟨bp,0,none⟩),.pointer (some ⟨be,0,none⟩)]⟩,rfl,by kernel_rfl,KL (H.ext h9) 2 3 (j+4) rfl rfl uk fun lE H=>aj.go H fun mh H=>fin ?_ H⟩
  rw[hT,if_neg (by rw[z0 (by decide)];decide),if_neg (by rw[z1 (by decide)];decide),if_neg (by rw[z2 (by decide)];decide),if_pos c]
 ·refine ay rfl ⟨⟨rfl,by decide,by decide⟩,ag.bP 0 H rfl rfl (aA.go H fun b4 w6 H=>av.all 0 H rfl rfl rfl fun w7 H=>⟨rfl,ag.bP 0 H rfl rfl (ay rfl ⟨rfl,ag.bP 0 H rfl rfl ?_⟩)⟩)⟩
  unfold BE
  refine fun w9 h9=>⟨_,⟨[]⟩,⟨[.pointer (some ⟨bp,0,none⟩)]⟩,rfl,by kernel_rfl,KI (H.ext h9) 3 (j+4) rfl uk fun lE H=>aj.go H fun mh H=>fin ?_ H⟩
  rw[hT,if_neg (by rw[z0 (by decide)];decide),if_neg (by rw[z1 (by decide)];decide),if_neg (by rw[z2 (by decide)];decide),if_neg (by rw[z3 (by decide)];decide)]
end
end Go.Proofs.YtdnoecpjcoibmaaGreat
namespace Go.Proofs.YtdnoecpjcoibmaaGreat
set_option maxRecDepth 100000
open Go.RX
def sO (Ls:List (Nat×List Value)) (s:Option Addr×Nat×Nat) (xs:List Int):Prop:=
 (s=(none,0,0)/\xs=[]/\Ls=[])\/ ∃bs c rest,s=(some ⟨bs,0,none⟩,xs.length,c)/\Ls=[(bs,flat eI xs++rest)]/\(flat eI xs++rest).length=c*aI eI/\xs.length<=c
def okW (ws:List Int):Prop:= ∀x∈ws,0<=x/\x<18446744073709551616
def iZ (ws:List Int) (pg wt:Int) (x:Int×Int×FT):Int×Int×FT:=
 if x.2.1= -1 then x
 else if(!nQ (B (cZ ws (dX x.1 pg x.2.1))).toNat||yM ws (dX x.1 pg x.2.1) != 0)=true then(x.1,-1,wO x.2.1 11)
 else tookS x.1 pg wt x.2.1 x.2.2 (wY (B (cZ ws (dX x.1 pg x.2.1))).toNat) (yK (B (cZ ws (dX x.1 pg x.2.1))).toNat) (yL (B (cZ ws (dX x.1 pg x.2.1))).toNat) (wE (B (cZ ws (dX x.1 pg x.2.1))).toNat)
theorem Cj {ws:List Int} (h:okW ws) (i:Int):0<=cZ ws i/\cZ ws i<18446744073709551616:=by
 unfold cZ
 split
 ·rename_i hi
  rw[gX] at hi
  rw[List.getD_eq_getElem?_getD,List.getElem?_eq_getElem (by omega)]
  exact h _ (List.getElem_mem _)
 ·exact⟨by decide,by decide⟩
section
variable {D G:List Nat} {w0 w:World} {L L0 Ls:List (Nat×List Value)} {bk bm bw n c:Nat} {ca la fr pg wt lv:Int} {fd:FT} {s:Option Addr×Nat×Nat} {ws xs:List Int} {rest:List Value}
theorem KM (hb:aY w bk (oI fr pg wt lv fd s)) (hl:lv≠ -1):an Tryz.prog 262 (.el (.agg sA)) [.pointer (some ⟨bk,0,none⟩)] w (fun x w'=>x=(1,dX fr pg lv,0,0,())/\Ext w w'):=by
 refine aL (C:=M1) (aJ:=fun _=>[]) (Eq.mpr (Ky _ w _) ?_)
 have H:=At.start [] w
 refine aA.go H fun b w2 H=>⟨fun _=>rfl,fun _=>rfl,ag.jd H hb (by simp) rfl ⟨fun _=>rfl,fun _=>rfl,ag.jd H hb (by simp) rfl (ak (by simp[hl]) ?_)⟩⟩
 refine⟨rfl,rfl,ag.jd H hb (by simp) rfl ⟨rfl,rfl,ag.jd H hb (by simp) rfl ⟨rfl,rfl,ag.jd H hb (by simp) rfl ⟨trivial,av.all 0 H rfl rfl rfl fun w3 H=>aj.go H fun w4 H=>ag.at 0 H rfl rfl ⟨rfl,H.all⟩⟩⟩⟩⟩
theorem KN (H:At G w0 w ((bk,oI fr pg wt lv fd s)::(bm,hH bw n c ca la)::(bw,flat eW ws++rest)::(Ls++L0))) (hp:sO Ls s xs) (hx:xs.length<=1000) (hn:n=ws.length) (h0:0<n) (hW:okW ws) (hl:lv≠ -1) {K:Bool->World->Prop}
 (k: ∀w2 wZ s',sO wZ s' (xs++[fr])->At G w0 w2 ((bk,oI (iZ ws pg wt (fr,lv,fd)).1 pg wt (iZ ws pg wt (fr,lv,fd)).2.1 (iZ ws pg wt (fr,lv,fd)).2.2 s')::(bm,hH bw n c (tW ws (dX fr pg lv) ca) la)::(bw,flat eW ws++rest)::(wZ++L0))->K ((iZ ws pg wt (fr,lv,fd)).2.1== -1) w2):
 az Tryz.prog 247 (.el (.one .bool)) [.pointer (some ⟨bk,0,none⟩),.pointer (some ⟨bm,0,none⟩)] w K:=by
 refine az.go H fun w1 H=>ai (C:=M1) (aJ:=fun _=>[]) (Eq.mpr (KF _ _ w1 K) ?_)
 refine⟨fun _=>rfl,fun _=>rfl,ag.bP 0 H rfl rfl (ak rfl ⟨rfl,rfl,ag.bP 0 H rfl rfl (ak (by simp[hl]) ?_)⟩)⟩
 refine⟨(1,dX fr pg lv,0,0,()),ah.of (s:= .el (.agg sA)) fun w' h'=>KM ((H.get (i:=0) rfl).ext h') hl,?_⟩
 refine Ug H rfl 1 2 rfl rfl (by decide) hn h0 (dX fr pg lv) 0 0 fun w2 H=>?_
 refine aA.go H fun b w3 H=>av.all 0 H rfl rfl rfl fun w4 H=>⟨rfl,rfl,ag.bP 1 H rfl rfl ⟨rfl,rfl,ag.bP 1 H rfl rfl (aA.go H fun b1 w5 H=>fun w6 h6=>?_)⟩⟩
 have H:=H.ext h6
 dsimp only at H ⊢
 generalize hv:cZ ws (dX fr pg lv)=v at H ⊢
 generalize he:yM ws (dX fr pg lv)=er at H ⊢
 have Qa:0<=v/\v<18446744073709551616:=by rw[<-hv];exact Cj hW _
 have H:At G w0 w6 ([(b1,cellsOf eI fr)]++([(b,[.int .u64 v,.bool false,.int .i64 er]),(bk,oI fr pg wt lv fd s),(bm,hH bw n c (tW ws (dX fr pg lv) ca) la),(bw,flat eW ws++rest)]++(Ls++L0))):=H
 have H:=H.perm (L':=(b1,cellsOf eI fr)::(Ls++([(b,[.int .u64 v,.bool false,.int .i64 er]),(bk,oI fr pg wt lv fd s),(bm,hH bw n c (tW ws (dX fr pg lv) ca) la),(bw,flat eW ws++rest)]++L0))) (.cons _ (by
  rw[<-List.append_assoc, <-List.append_assoc]
  exact List.Perm.append_right _ List.perm_append_comm))
 refine aF.grow H hp rfl rfl rfl (by omega) fun bs c' rest' w7 hlen hle H=>⟨rfl,rfl,av.dJ 2 H rfl rfl rfl fun w8 H=>⟨rfl,ag.bP 1 H rfl rfl ?_⟩⟩
 have hU:U (B v)=v:=wN Qa.1 Qa.2
 refine⟨hU,aA.go H fun b2 w9 H=>av.all 0 H rfl rfl rfl fun lE H=>⟨fun _=>rfl,ag.bP 2 H rfl rfl ?_⟩⟩
 have hS:iZ ws pg wt (fr,lv,fd)=if(!nQ (B v).toNat||er != 0)=true then(fr,-1,wO lv 11) else tookS fr pg wt lv fd (wY (B v).toNat) (yK (B v).toNat) (yL (B v).toNat) (wE (B v).toNat):=by
  unfold iZ
  simp only[hv,he]
  rw[if_neg hl]
 have hs':sO [(bs,flat eI (xs++[fr])++rest')] (some ⟨bs,0,none⟩,xs.length+1,c') (xs++[fr]):= .inr ⟨bs,c',rest',by rw[List.length_append];rfl,rfl,hlen,by rw[List.length_append];exact hle⟩
 have out: ∀{w:World} {x y:Nat×List Value} {l:List Value},At G w0 w (x::(bs,flat eI (xs++[fr])++rest')::y::(bk,l)::(bm,hH bw n c (tW ws (dX fr pg lv) ca) la)::(bw,flat eW ws++rest)::L0)->At G w0 w ((bk,l)::(bm,hH bw n c (tW ws (dX fr pg lv) ca) la)::(bw,flat eW ws++rest)::([(bs,flat eI (xs++[fr])++rest')]++L0)):=fun{w x y l} H=>by
  have H:=H.sub (List.sublist_cons_self _ _)
  have H:=H.sub (L':=[(bs,flat eI (xs++[fr])++rest')]++([(bk,l),(bm,hH bw n c (tW ws (dX fr pg lv) ca) la),(bw,flat eW ws++rest)]++L0)) (.cons_cons _ (List.sublist_cons_self _ _))
  refine H.perm ?_
  refine List.Perm.trans (l₂:=[(bk,l),(bm,hH bw n c (tW ws (dX fr pg lv) ca) la),(bw,flat eW ws++rest)]++([(bs,flat eI (xs++[fr])++rest')]++L0)) (.refl _) ?_
  rw[<-List.append_assoc, <-List.append_assoc]
  exact List.Perm.append_right _ List.perm_append_comm
 refine aa (fun c1=>?_) (fun c1=>ag.at 0 H rfl rfl ?_)
 ·rw[hS,if_pos c1] at k
  exact nV H 3 rfl 0 0 0 11 fun mh H=>aj.go H fun Ab H=>k Ab _ _ hs' (out H)
 ·rw[hS,if_neg (by rw[c1];decide)] at k
  refine NQ H 3 rfl _ _ _ _ fun mh H=>⟨rfl,rfl,ag.bP 3 H rfl rfl (aj.go H fun Ab H=>k Ab _ _ hs' (out H))⟩
def IB (f p t:Int):Bool:=decide (dX f p 3<0)||decide (t<0)||decide (t>7)
theorem NR (H:aF D G w0 w L) (f p t:Int) {K:Option Addr->World->Prop} (hb:IB f p t=true-> ∀w1,aF D G w0 w1 L->K none w1)
 (hg:IB f p t=false-> ∀bk w1,aF D G w0 w1 ((bk,oI f p t 3 (0,0,0,0,()) (none,0,0))::L)->K (some ⟨bk,0,none⟩) w1):
 az Tryz.prog 246 (.el (.one .ptr)) [.int .i64 f,.int .i64 p,.int .i64 t] w K:=by
 refine az.go H fun w1 H=>ai (C:=M1) (aJ:=fun _=>[]) (Eq.mpr (NM f p t w1 K) ?_)
 refine aA.go H fun b w2 H=>⟨trivial,aa (fun c=>aj.go H fun w3 H=>hb c w3 (H.sub (List.sublist_cons_self _ _))) (fun c=>aj.go H fun w3 H=>hg c b w3 H)⟩
end
end Go.Proofs.YtdnoecpjcoibmaaGreat
namespace Go.Proofs.YtdnoecpjcoibmaaGreat
set_option maxRecDepth 100000
open Go.RX
section
variable {D G:List Nat} {w0 w:World}
theorem _root_.Go.RX.aF.Uh {e:El} {s:Option Addr×Nat×Nat} {xs ys:List e.T} {b cy:Nat} {ry:List Value} {Ls L0:List (Nat×List Value)} (H:aF D G w0 w ((b,flat e ys++ry)::(Ls++L0))) (hy:ys≠[])
 (hs:(s=(none,0,0)/\xs=[]/\Ls=[])\/ ∃bs c rest,s=(some ⟨bs,0,none⟩,xs.length,c)/\Ls=[(bs,flat e xs++rest)]/\(flat e xs++rest).length=c*aI e/\xs.length<=c)
 (hp:kz e=true) {t:TypeId} {size bytes:Nat} {z:Array Value} (hsz:size=aI e) (hz:z.size=aI e) (hb:(xs.length+ys.length)*bytes<=140737488355328)
 {R:Option Addr×Nat×Nat->World->Prop} (k: ∀bs c rest w',(flat e (xs++ys)++rest).length=c*aI e->(xs++ys).length<=c->aF D G w0 w' ((bs,flat e (xs++ys)++rest)::L0)->R (some ⟨bs,0,none⟩,(xs++ys).length,c) w'):
 tV w t size bytes z s (some ⟨b,0,none⟩,ys.length,cy) R:=by
 subst hsz
 have tz:(qC 0 w).heap.size=0:=fP (Nat.zero_le _)
 have ho:iM (qC 0 w) w e s xs:=by
  rcases hs with ⟨rfl,rfl, _⟩|⟨bs,c,rest,rfl,rfl,h1,h2⟩
  ·exact iM.nil _ _ _
  ·refine⟨rfl,h2,.inr ⟨bs, _,rfl,by rw[tz];exact Nat.zero_le _,H.get (i:=1) rfl,h1,?_⟩⟩
   rw[List.take_append_of_le_length (by rw[aG];exact Nat.le_refl _),List.take_of_length_le (by rw[aG];exact Nat.le_refl _)]
 have Iw:aY w b (flat e ys++ry):=H.get (i:=0) rfl
 refine jN (ys:=ys) ho (od (Nat.zero_le _)) hp rfl ?_ hz hb fun s' w' ho' he' hf hsz hd=>?_
 ·refine Iw.yG (aG e ys) fun j hj=>?_
  rw[Nat.zero_add,List.getElem?_append_left (by rw[aG];exact hj)]
 ·obtain⟨p,n,c⟩:=s'
  obtain⟨h1,h2,h3⟩:=ho'
  simp only at h1 h2 h3 hd
  have hyl:0<ys.length:=List.length_pos_iff.2 hy
  have hlen:(xs++ys).length=xs.length+ys.length:=by simp
  rcases h3 with ⟨_,hx, _⟩|⟨bs,l,a1, _,a3,a4,a5⟩
  ·simp at hx;exact absurd hx.2 hy
  ·subst a1
   subst h1
   have el:l=flat e (xs++ys)++l.drop ((xs++ys).length*aI e):=by rw[<-a5,List.take_append_drop]
   refine k bs c (l.drop ((xs++ys).length*aI e)) w' (by rw[<-el];exact a4) h2 ?_
   rw[<-el]
   have VJ: ∃G',Fr G' w w'/\(∀y∈G',y∈Ls.map (·.1)):=by
    rcases hs with ⟨rfl, _,rfl⟩|⟨bo,co,ro,rfl,rfl, _, _⟩
    ·exact⟨[],⟨he'.os,he'.tape,he'.output,hsz,fun y hy _=>hf y hy (fun a ha=>by cases ha)⟩,fun y hy=>by cases hy⟩
    ·exact⟨[bo],⟨he'.os,he'.tape,he'.output,hsz,fun y hy hn=>hf y hy (fun a ha=>by cases ha;simpa using hn)⟩,fun y hy=>by simpa using hy⟩
   obtain⟨G',hfr,P7⟩:=VJ
   have jQ:=H.nd
   simp only[List.map_cons,List.map_append,List.nodup_cons,List.nodup_append,List.mem_append] at jQ
   have Iy: ∀y∈Ls.map (·.1),w0.heap.size<=y\/y∈G:=fun y hy=>by
    obtain⟨u,hu,rfl⟩:=List.mem_map.1 hy
    exact H.own u (List.mem_cons_of_mem _ (List.mem_append_left _ hu))
   have SV:bs∈Ls.map (·.1)\/w.heap.size<=bs:=by
    rcases hd with ⟨a,e1,e2⟩|⟨a,e1,e2⟩|e1
    ·cases e1
     rcases hs with ⟨rfl, _, _⟩|⟨bo,co,ro,rfl,rfl, _, _⟩
     ·cases e2
     ·cases e2;exact .inl (by simp)
    ·cases e1;exact .inr e2
    ·rcases hs with ⟨rfl,rfl, _⟩|⟨bo,co,ro,rfl,rfl, _, _⟩
     ·cases e1
     ·have e3:=congrArg (fun z=>z.2.1) e1
      simp at e3
      exact absurd e3 hy
   refine H.frame hfr (fun y hy=>Iy y (P7 y hy)) (fun r hr hy=>?_) (fun y hy=>?_) (fun y hy=>?_) ?_
   ·obtain⟨u,hu,e1⟩:=List.mem_map.1 (P7 r hy)
    exact aF.cU (H.cY u (List.mem_cons_of_mem _ (List.mem_append_left _ hu))) (H.qi r hr).2 (fun _ _ _ hc=>by cases hc) e1
   ·rcases List.mem_cons.1 hy with rfl|hy
    ·exact a3
    ·refine hfr.cY (fun hm=>?_) (H.cY y (List.mem_cons_of_mem _ (List.mem_append_right _ hy)))
     exact jQ.2.2.2 y.1 (P7 _ hm) y.1 (List.mem_map.2 ⟨y,hy,rfl⟩) rfl
   ·rcases List.mem_cons.1 hy with rfl|hy
    ·rcases SV with h|h
     ·exact Iy _ h
     ·exact .inl (Nat.le_trans H.fr.size h)
    ·exact H.own y (List.mem_cons_of_mem _ (List.mem_append_right _ hy))
   ·refine List.nodup_cons.2 ⟨fun hm=>?_,jQ.2.2.1⟩
    rcases SV with h|h
    ·exact jQ.2.2.2 bs h bs hm rfl
    ·obtain⟨u,hu,e1⟩:=List.mem_map.1 hm
     have:=(H.cY u (List.mem_cons_of_mem _ (List.mem_append_right _ hu))).lt
     simp only at e1 h
     omega
end
end Go.Proofs.YtdnoecpjcoibmaaGreat
namespace Go.Proofs.YtdnoecpjcoibmaaGreat
set_option maxRecDepth 100000
open Go.RX
abbrev j_ (br n c:Nat):List Value:=[.slice (some ⟨br,0,none⟩) n c]
def jR (gs:List GT) (i:Int):Option Nat:=if 0<=i/\i<gs.length/\gs.getD i.toNat zG≠zG then some i.toNat else none
def uc (gs:List GT) (i:Int):GT:=match jR gs i with
 |some k=>gs.getD k zG
 |none=>zG
def e_ (gs:List GT) (i g:Int) (b:Bool):Int:=match jR gs i with
 |none=>4
 |some k=>if((gs.getD k zG).2.2.1 != g||b&& !(gs.getD k zG).2.2.2.1)=true then 7 else if(gs.getD k zG).2.2.2.2.1=1000 then 3 else 0
def eV (x:GT) (n:Int):GT:=(x.1,x.2.1,x.2.2.1,x.2.2.2.1,x.2.2.2.2.1+n,())
def cT (gs:List GT) (i g:Int) (b:Bool):List GT:=if e_ gs i g b=0 then gs.set i.toNat (eV (gs.getD i.toNat zG) 1) else gs
def kB (gs:List GT) (i g:Int):Int:=match jR gs i with
 |none=>4
 |some k=>if(gs.getD k zG).2.2.1≠g then 7 else if(gs.getD k zG).2.2.2.2.1=0 then 6 else 0
def dO (gs:List GT) (i g:Int):List GT:=if kB gs i g=0 then gs.set i.toNat (eV (gs.getD i.toNat zG) (-1)) else gs
def oL (gs:List GT) (i o:Int):Int:=match jR gs i with
 |none=>4
 |some k=>if(gs.getD k zG).1≠o then 7 else if(gs.getD k zG).2.2.2.2.1>0 then 9 else 0
def jz (gs:List GT) (i o:Int):List GT:=if oL gs i o=0 then gs.set i.toNat zG else gs
def cm (gs:List GT) (p:GT->Bool) (n:Nat):List Int:=((List.range n).filter fun(i:Nat)=>p (gs.getD i zG)).map fun(i:Nat)=>(i:Int)
def gB (o q t:Int) (x:GT):Bool:=o==x.1&&(q==x.2.1&&t==x.2.2.1)
def dz (x:GT):Bool:=decide (x=zG)
def kM (g:Int) (x:GT):Bool:= !dz x&&(x.1==g||x.2.2.1==g)
def iQ (gs:List GT) (o q t:Int):Int:=
 if(!gG o|| !gG t||o==t||decide (q<0)||decide (q>=65536))=true then 1
 else if cm gs (gB o q t) gs.length≠[] then 5 else if cm gs dz gs.length=[] then 3 else 0
def h_ (gs:List GT) (o q t:Int):Int:=if iQ gs o q t=0 then(cm gs dz gs.length).headD 0 else 0
def gR (gs:List GT) (o q t:Int) (b:Bool):List GT:=if iQ gs o q t=0 then gs.set (h_ gs o q t).toNat (o,q,t,b,0,()) else gs
def cn (gs:List GT) (g:Int):List GT:=gs.map fun x=>if kM g x=true then zG else x
theorem AR (x:GT):jW x.1 x.2.1 x.2.2.1 x.2.2.2.1 x.2.2.2.2.1=dz x:=rfl
theorem pZ (gs:List GT) (p:GT->Bool) (n:Nat):cm gs p (n+1)=cm gs p n++(if p (gs.getD n zG)=true then[(n:Int)] else[]):=by
 unfold cm
 rw[List.range_succ,List.filter_append,List.map_append]
 by_cases h:p (gs.getD n zG)=true
 ·rw[if_pos h,List.filter_cons,if_pos h];rfl
 ·rw[if_neg h,List.filter_cons,if_neg h];rfl
theorem og {gs:List GT} {p:GT->Bool} {n:Nat} {x:Int}:x∈cm gs p n<-> ∃i:Nat,i<n/\p (gs.getD i zG)=true/\x=(i:Int):=by
 unfold cm
 simp only[List.mem_map,List.mem_filter,List.mem_range]
 constructor
 ·rintro⟨i,⟨h1,h2⟩,rfl⟩;exact⟨i,h1,h2,rfl⟩
 ·rintro⟨i,h1,h2,rfl⟩;exact⟨i,⟨h1,h2⟩,rfl⟩
theorem oh (gs:List GT) (p:GT->Bool) (n:Nat):(cm gs p n).length<=n:=by
 unfold cm
 rw[List.length_map]
 exact Nat.le_trans (List.length_filter_le _ _) (by simp)
theorem jI {gs:List GT} {i:Int} {k:Nat} (h:jR gs i=some k):0<=i/\i<gs.length/\k=i.toNat/\gs[k]? =some (gs.getD k zG)/\gs.getD k zG≠zG:=by
 unfold jR at h
 split at h
 ·rename_i c
  cases h
  refine⟨c.1,c.2.1,rfl,?_,c.2.2⟩
  rw[List.getD_eq_getElem?_getD,List.getElem?_eq_getElem (by omega)];rfl
 ·cases h
section
variable {D G:List Nat} {w0 w:World} {L:List (Nat×List Value)} {bg br c:Nat} {gs:List GT} {rest:List Value}
theorem FW (h:aY w bg (j_ br gs.length c)) (h0:0<gs.length):an Tryz.prog 109 (.el (.one .bool)) [.pointer (some ⟨bg,0,none⟩)] w (fun x w'=>x=true/\Ext w w'):=by
 refine ai (C:=G3) (aJ:=fun _=>[]) (Eq.mpr (Fz _ w _) ?_)
 refine⟨fun _=>rfl,fun _=>rfl,(some ⟨br,0,none⟩,gs.length,c),fun _=>?_,fun w1 h1=>⟨?_,h1⟩⟩
 ·rw[aK];exact h.lG rfl
 ·simp;exact h0
theorem k6 (h:aY w bg (j_ br gs.length c)) (h0:0<gs.length):ah Tryz.prog 109 [.pointer (some ⟨bg,0,none⟩)] w (.bool true):=
 ah.of (s:= .el (.one .bool)) fun w' h'=>FW (h.ext h') h0
def yS (br:Nat) (gs:List GT) (i:Int):Option Addr:=(jR gs i).map fun k=>⟨br,k*5,none⟩
def yT (gs:List GT) (i:Int):Int:=if(jR gs i).isSome then 0 else 4
theorem Rz (h:aY w bg (j_ br gs.length c)) (hw:aY w br (flat eG gs++rest)) (h0:0<gs.length) (i:Int):
 an Tryz.prog 211 (.bq [.one .ptr,.one (.int .i64)]) [.pointer (some ⟨bg,0,none⟩),.int .i64 i] w (fun x w'=>x=(yS br gs i,yT gs i,())/\Ext w w'):=by
 refine ai (C:=G3) (aJ:=fun _=>[]) (Eq.mpr (Rq _ i w _) ?_)
 have qf:cg w (af (some ⟨bg,0,none⟩) 0) (.one .slice) (some ⟨br,0,none⟩,gs.length,c):=by rw[aK];exact h.lG rfl
 refine⟨_,k6 h h0,ak rfl ⟨fun _=>rfl,fun _=>rfl,(some ⟨br,0,none⟩,gs.length,c),fun _=>qf,fun _=>rfl,fun _=>rfl,(some ⟨br,0,none⟩,gs.length,c),fun _=>qf,?_⟩⟩
 dsimp only
 have hno:(jR gs i=none)->(yS br gs i,yT gs i,())=((none,4,()):Option Addr×Int×Unit):=fun e=>by
  unfold yS yT;rw[e];rfl
 by_cases hr:0<=i/\i<gs.length
 ·have c1:(decide (i<0)||decide (i>=((gs.length:Nat):Int)))=false:=by
   rw[Bool.or_eq_false_iff,decide_eq_false_iff_not,decide_eq_false_iff_not];omega
  have hx:gs[i.toNat]? =some (gs.getD i.toNat zG):=by
   rw[List.getD_eq_getElem?_getD,List.getElem?_eq_getElem (by omega)];rfl
  rw[c1]
  refine⟨fun _=>⟨rfl,hr.1,hr.2⟩,gs.getD i.toNat zG,fun _=>ff (e:=eG) hw hx,fun _=>trivial,?_⟩
  rw[AR]
  refine aa (fun d=>fun w1 h1=>⟨(hno ?_).symm,h1⟩) (fun d=>⟨rfl,rfl,ag.of _ qf ⟨⟨rfl,hr.1,hr.2⟩,fun w1 h1=>⟨?_,h1⟩⟩⟩)
  ·have d:gs.getD i.toNat zG=zG:=by simpa[dz] using d
   unfold jR;rw[if_neg (fun hh=>hh.2.2 d)]
  ·have d: ¬ gs.getD i.toNat zG=zG:=by simpa[dz] using d
   have e:jR gs i=some i.toNat:=by unfold jR;rw[if_pos ⟨hr.1,hr.2,d⟩]
   unfold yS yT;rw[e,aK];simp
 ·have c1:(decide (i<0)||decide (i>=((gs.length:Nat):Int)))=true:=by
   rw[Bool.or_eq_true,decide_eq_true_eq,decide_eq_true_eq];omega
  rw[c1]
  refine⟨fun hh=>(by cases hh),zG,fun hh=>(by cases hh),fun _=>trivial,ay rfl fun w1 h1=>⟨(hno ?_).symm,h1⟩⟩
  unfold jR;rw[if_neg (fun hh=>hr ⟨hh.1,hh.2.1⟩)]
theorem DP (h:aY w bg (j_ br gs.length c)) (hw:aY w br (flat eG gs++rest)) (h0:0<gs.length) (i:Int):
 ah Tryz.prog 211 [.pointer (some ⟨bg,0,none⟩),.int .i64 i] w ((Sh.bq [.one .ptr,.one (.int .i64)]).gi (yS br gs i,yT gs i,())):=
 ah.of (s:= .bq [.one .ptr,.one (.int .i64)]) fun w' h'=>Rz (h.ext h') (hw.ext h') h0 i
theorem NS {bc:Nat} {o q t:Int} (hc:aY w bc [.int .i64 o,.int .i64 q,.int .i64 t,.bool false,.int .i64 0]) (x:GT):
 ah Tryz.prog 214 [.agg ⟨[.int .i64 x.1,.int .i64 x.2.1,.int .i64 x.2.2.1,.bool x.2.2.2.1,.int .i64 x.2.2.2.2.1]⟩,.pointer (some ⟨bc,0,none⟩)] w (.bool (gB o q t x)):=by
 refine ah.of (s:= .el (.one .bool)) fun w' h'=>ai (C:=G3) (aJ:=fun _=>[]) (Eq.mpr (Kc _ _ _ _ _ _ w' _) ?_)
 have H:=At.start [] w'
 refine aA.go H fun b w2 H=>ag.of (o,q,t,false,0,()) (bY ((hc.ext h').ext H.all) rfl) ⟨rfl,ag.bP 0 H rfl rfl ⟨rfl,ag.bP 0 H rfl rfl ⟨rfl,ag.bP 0 H rfl rfl (aj.go H fun w3 H=>⟨?_,H.all⟩)⟩⟩⟩
 unfold gB
 simp
theorem KO {bc:Nat} {g:Int} (hc:aY w bc [.int .i64 g]) (x:GT):
 ah Tryz.prog 204 [.agg ⟨[.int .i64 x.1,.int .i64 x.2.1,.int .i64 x.2.2.1,.bool x.2.2.2.1,.int .i64 x.2.2.2.2.1]⟩,.pointer (some ⟨bc,0,none⟩)] w (.bool (kM g x)):=by
 refine ah.of (s:= .el (.one .bool)) fun w' h'=>ai (C:=G3) (aJ:=fun _=>[]) (Eq.mpr (FA _ _ _ _ _ _ w' _) ?_)
 have H:=At.start [] w'
 refine aA.go H fun b w2 H=>?_
 have hr:cg w2 (some ⟨bc,0,none⟩) (.one (.int .i64)) g:=bY ((hc.ext h').ext H.all) rfl
 refine ag.at 0 H rfl (show _=some x from rfl) ⟨trivial,fun _=>rfl,ag.bP 0 H rfl rfl (ag.of g hr ⟨fun _=>rfl,ag.bP 0 H rfl rfl (ag.of g hr (aj.go H fun w3 H=>⟨?_,H.all⟩))⟩)⟩
 rfl
theorem IC {j:Nat} {x:Nat×List Value} (h:L[j]? =some x):L.set j x=L:=List.ext_getElem? fun m=>by
 by_cases e:j=m
 ·subst e;rw[List.getElem?_set_self (List.getElem?_eq_some_iff.1 h).1,h]
 ·rw[List.getElem?_set_ne e]
end
end Go.Proofs.YtdnoecpjcoibmaaGreat
namespace Go.Proofs.YtdnoecpjcoibmaaGreat.Po
set_option maxRecDepth 100000
open Go.RX
abbrev sQ:List Sc:=[.int .i64,.int .i64,.int .i64,.bool,.bool]
abbrev eQ:El:= .agg sQ
abbrev PT:Type:=Int×Int×Int×Bool×Bool×Unit
def zP:PT:=(0,0,0,false,false,())
def gI (n:Int):Bool:=decide (n>=1)&&decide (n<=16)
noncomputable def R0:dD Tryz.prog:={C3 with sX:=false}
theorem KP (n:Int) (w:World) (Post:Bool->World->Prop):(aH R0 (fun _=>[]) 114 [.int .i64 n] w Post)=(
 aj w fun w1=>Post (decide (n>=1)&&decide (n<=16)) w1):=by kernel_rfl
theorem FX (n:Int) (w:World) (Post:Bool->World->Prop):(aH R0 (fun _=>[]) 145 [.int .i64 n] w Post)=(
 aj w fun w1=>Post (decide (n>=1)&&decide (n<=16)) w1):=by kernel_rfl
theorem KQ (n:Int) (w:World):an Tryz.prog 114 (.el (.one .bool)) [.int .i64 n] w (fun x w'=>x=gI n/\Ext w w'):=by
 refine ai (C:=R0) (aJ:=fun _=>[]) (Eq.mpr (KP n w _) ?_)
 have H:=At.start [] w
 repeat' (first
  |exact Go.RX.aF.all H
  |exact And.intro (by first|rfl|decide+kernel) (Go.RX.aF.all H)
  |refine And.intro (by first|exact rfl|exact trivial|exact fun _=>rfl|exact fun _=>trivial|exact⟨rfl,by decide,by decide⟩|exact⟨by decide,by decide⟩|decide+kernel|exact fun _=>by decide|exact fun _=>⟨rfl,by decide,by decide⟩|(dsimp only[List.length_cons,List.length_nil];exact⟨rfl,by decide,by decide⟩)) ?_
  |refine ag.bP 0 H rfl rfl ?_
  |refine ag.bP 1 H rfl rfl ?_
  |refine ag.at 0 H rfl rfl ?_
  |refine ag.at 1 H rfl rfl ?_
  |refine aA.go H fun b w1 H=>?_
  |refine av.all 0 H rfl rfl rfl fun w1 H=>?_
  |refine av.all 1 H rfl rfl rfl fun w1 H=>?_
  |refine av.dJ 0 H rfl rfl rfl fun w1 H=>?_
  |refine av.dJ 1 H rfl rfl rfl fun w1 H=>?_
  |refine av.one 0 H rfl rfl rfl fun w1 H=>?_
  |refine av.one 1 H rfl rfl rfl fun w1 H=>?_
  |with_reducible refine aj.go H fun w1 H=>?_
  |refine gf ?_
  |refine ay (by assumption) ?_
  |refine ak (by assumption) ?_
  |refine aa (fun c=>?_) (fun c=>?_))
theorem FY (n:Int) (w:World):an Tryz.prog 145 (.el (.one .bool)) [.int .i64 n] w (fun x w'=>x=gI n/\Ext w w'):=by
 refine ai (C:=R0) (aJ:=fun _=>[]) (Eq.mpr (FX n w _) ?_)
 have H:=At.start [] w
 repeat' (first
  |exact Go.RX.aF.all H
  |exact And.intro (by first|rfl|decide+kernel) (Go.RX.aF.all H)
  |refine And.intro (by first|exact rfl|exact trivial|exact fun _=>rfl|exact fun _=>trivial|exact⟨rfl,by decide,by decide⟩|exact⟨by decide,by decide⟩|decide+kernel|exact fun _=>by decide|exact fun _=>⟨rfl,by decide,by decide⟩|(dsimp only[List.length_cons,List.length_nil];exact⟨rfl,by decide,by decide⟩)) ?_
  |refine ag.bP 0 H rfl rfl ?_
  |refine ag.bP 1 H rfl rfl ?_
  |refine ag.at 0 H rfl rfl ?_
  |refine ag.at 1 H rfl rfl ?_
  |refine aA.go H fun b w1 H=>?_
  |refine av.all 0 H rfl rfl rfl fun w1 H=>?_
  |refine av.all 1 H rfl rfl rfl fun w1 H=>?_
  |refine av.dJ 0 H rfl rfl rfl fun w1 H=>?_
  |refine av.dJ 1 H rfl rfl rfl fun w1 H=>?_
  |refine av.one 0 H rfl rfl rfl fun w1 H=>?_
  |refine av.one 1 H rfl rfl rfl fun w1 H=>?_
  |with_reducible refine aj.go H fun w1 H=>?_
  |refine gf ?_
  |refine ay (by assumption) ?_
  |refine ak (by assumption) ?_
  |refine aa (fun c=>?_) (fun c=>?_))
noncomputable def RA:Entry Tryz.prog where
 f:=114
 fn l:=match l with
  |[.int .i64 a]=>some (True,.bool (gI a))
  | _=>none
 ok args pre v h hp w:=by
  split at h
  ·rename_i a
   cases h
   exact aO (KQ a w)
  ·cases h
noncomputable def NT:Entry Tryz.prog where
 f:=145
 fn l:=match l with
  |[.int .i64 a]=>some (True,.bool (gI a))
  | _=>none
 ok args pre v h hp w:=by
  split at h
  ·rename_i a
   cases h
   exact aO (FY a w)
  ·cases h
end Go.Proofs.YtdnoecpjcoibmaaGreat.Po
