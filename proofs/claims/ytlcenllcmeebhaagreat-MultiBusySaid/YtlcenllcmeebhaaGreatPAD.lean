import Derived.Test.YtlcenllcmeebhaaGreatPAC
/-! What the statement leans on: texts joined and shortened by a program of mine. -/
set_option linter.unusedVariables false
set_option linter.unusedSimpArgs false
open Go renaming World->A2,Addr->AC,Value->AF,MapEntry->AH
open Go.Proofs.Tryz renaming prog->AB
open Eq renaming mpr->AG
open Go.IntKind renaming i64->AT
open List renaming getElem?_eq_some_iff->Ae,range->Ap,length_cons->B2,mem_append_right->B4,getElem?_eq_getElem->BO,getElem?_set_ne->BX,length_set->Bs,getElem?_set_self->C5,mem_of_getElem?->Ca,sublist_cons_self->Cd,length_map->DA,getD_eq_getElem?_getD->DB,perm_middle->DH,mem_cons->DN,getElem?_append_left->DQ,append_nil->Db,length_append->Do,mem_cons_self->Dr,append_assoc->Dw,mem_append_left->E4,findIdx?_eq_none_iff->F4,getElem?_of_mem->FC,findIdx?_eq_some_iff_getElem->FQ,mem_or_eq_of_mem_set->FR,not_mem_nil->FS,mem_singleton->FU,length_take->FV,drop_of_length_le->Fh,take_add_one->Ft,sublist_append_left->Fw,flatMap_append->Fx,length_range->G1,mem_cons_of_mem->GD,drop_eq_getElem_cons->GF,length_eq_zero_iff->GS,ext_getElem?->Ga,length_pos_iff->Gd,length_drop->Gi,replicate->Gj,getElem?_map->H4,getElem?_take_of_lt->H5,getElem?_drop->H7,take_of_length_le->HB,all_eq_false->Hb,all_eq_true->Hq,mem_append->Hr,take_append_drop->I1,range_succ->I2,foldl_cons->IE,length_reverse->IR,getElem?_append_right->Ij
open Int renaming toNat->Aq,le_refl->Dd,eq_ofNat_of_zero_le->Im
open Prod.mk renaming injEq->B1
open Option.some renaming injEq->B3
open Nat renaming le_refl->B5,mul_one->DE,eq_of_beq_eq_true->Dh,ne_of_beq_eq_false->Dl,zero_add->GG
open List.Sublist renaming refl->Bx
open Decidable renaming rec->Cc
open Go.Value renaming func->Dn,pointer->In,nilFunc->Io
open Bool renaming or_eq_true->E5,or_eq_false_iff->GH
open List.Perm renaming swap->GI,cons->GJ
namespace Go.Proofs.YtlcenllcmeebhaaGreat.D
set_option maxRecDepth 100000
open Go.RX
def iG (ds:List DT):Option Nat:=ds.findIdx? λd=>d.1==0
def fh (ds:List DT) (k o:Int):Int:=match iG ds with
 |none=>0
 |some f=>if vz ds f (aO k o)=0 then(f:Int) else 0
def dN (ds:List DT) (k o:Int):Int:=if ds.length=0 then 10 else match iG ds with
 |none=>12
 |some f=>vz ds f (aO k o)
def dG (ds:List DT) (k o:Int):List DT:=match iG ds with
 |none=>ds
 |some f=>dD ds f (aO k o)
theorem vh (ds:List DT) (k o:Int):(dG ds k o).length=ds.length:=by
 unfold dG;split
 ·rfl
 ·exact jg _ _ _
theorem Lz {ds:List DT} (h: ∀(j:Nat) d,ds[j]? =some d->d.1≠0):iG ds=none:=by
 unfold iG;rw[F4];intro d a;obtain⟨j,b⟩:=FC a;simpa using h j d b
theorem LA {ds:List DT} {i:Nat} {d:DT} (hi:ds[i]? =some d) (a:d.1=0) (h: ∀(j:Nat) d,j<i->ds[j]? =some d->d.1≠0):iG ds=some i:=by
 unfold iG;have b:i<ds.length:=(Ae.1 hi).1;rw[FQ];refine⟨b,?_,λj c=>?_⟩
 ·have e:ds[i]=d:=(Ae.1 hi).2;rw[e];simpa using a
 ·have:=h j ds[j] c (BO (by omega));simpa using this
theorem Vi {w:A2} {bp bf n c:Nat} {ds:List DT} {rest:List AF} (A:bK w bp [.slice (af bf) n c]) (N:bK w bf (flat eD ds++rest)) (J:bp≠bf) (O:n=ds.length) (K:n<=4096) (k o:Int):
 aC AB 172 (.bu [.one (.int .i64),.one (.int .i64)]) [ag (af bp),aa k,aa o] w
  (λv w'=>v=(fh ds k o,dN ds k o,())/\bK w' bf (flat eD (dG ds k o)++rest)/\Fr [bf] w w'):=by
 subst O;refine aR (C:=E0) (aQ:=wi) (AG (Vb _ k o w _) ?_);have H:=At.rQ N;have B:bp∉[bf]:=by simpa using J
 refine aN.go H λb w1 H=>aN.go H λP Y H=>aN.go H λQ Z H=>aN.go H λS w4 H=>aN.go H λU w5 H=>aj.at 4 H rfl rfl ?_;refine⟨(ds.length:Int),ae.of (s:= .el (.one (.int .i64))) λw' h=>rT ((H.fQ A B).ext h),ab (λc0=>?_) (λc0=>aj.at 4 H rfl rfl ?_)⟩
 ·have h0:ds.length=0:=by simp only[beq_iff_eq] at c0;omega
  have a:ds=[]:=List.eq_nil_of_length_eq_zero h0;refine az.all 1 H rfl rfl rfl λV H=>az.all 0 H rfl rfl rfl λD H=>au.go H λq H=>aj.at 1 H rfl rfl (aj.at 0 H rfl rfl ⟨?_,?_,H.fr⟩)
  ·subst a;rfl
  ·subst a;exact H.get (i:=5) rfl
 have h0:ds.length≠0:=by simp only[beq_eq_false_iff_ne,ne_eq] at c0;omega
 refine tq H _ 0 λpc ic kc V H=>?_
 let T:Int->Int->List DT->List (Nat×List AF):=λx y l=>[(ic,[.func (.func 105) #[] #[ag (af kc)]]),(pc,[ag (af bp)]),(kc,[aa 0]),(U,[aa y]),(S,[aa x]),(Q,[aa o]),(P,[aa k]),(b,[ag (af bp)]),(bf,flat eD l++rest)]
 refine z5.inv H (Eg (v:=0) (pc:=pc) (ic:=ic) (kc:=kc) (bp:=bp) (bf:=bf) (c:=c) (rest:=rest) K)
  (λi L'=>L'=T 0 0 ds/\ ∀(j:Nat) d,j<i->ds[j]? =some d->d.1≠0)
  (λj L'=>j= .ret/\ ∃i:Nat,iG ds=some i/\L'=T (if vz ds i (aO k o)=0 then(i:Int) else 0) (vz ds i (aO k o)) (dD ds i (aO k o))) ⟨rfl,λj d g=>absurd g (by omega)⟩ ?_ ?_ ?_ ?_ ?_ ?_
 ·rintro D' i w' L' ⟨rfl, _⟩ H;exact⟨H.get (i:=1) rfl,H.get (i:=0) rfl,H.get (i:=2) rfl,H.fQ A B,H.get (i:=8) rfl⟩
 ·rintro i L' hi p ⟨rfl,g⟩;obtain⟨d,a,t⟩:=CB (NW:=λd=>d.1) hi p;refine⟨rfl,λj d' Ab E=>?_⟩;by_cases e:j=i
  ·subst e;rw[a] at E;cases E;exact t
  ·exact g j d' (by omega) E
 ·intro i x hi p;obtain⟨d,a,t,rfl⟩:=pY (NW:=λd=>d.1) p;exact⟨((i:Nat),()),rfl⟩
 ·rintro i ⟨x1,u⟩ L' hi p ⟨rfl,g⟩ r l rec D R m _ L;obtain⟨d,a,t,W⟩:=pY (NW:=λd=>d.1) p;have X:x1=((i:Nat):Int):=by
   have h:[aa x1]=[aa (i:Nat)]:=W;simpa using h
  subst X;have f:=LA a t g;refine De.go m rfl (BS.go m λwb H F=>aj.at 7 H rfl rfl (aj.at 6 H rfl rfl (aj.at 5 H rfl rfl ?_)));refine aA.Dt H 8 rfl (λq H=>Cy (F.2.1.dv H A B) (H.get (i:=8) rfl) J K _ k o) λq H=>ab (λc=>?_) (λc=>?_)
  ·have hc: ¬ vz ds (i:Nat) (aO k o)=0:=by simpa using c
   refine az.all 4 H rfl rfl rfl λG H=>az.all 3 H rfl rfl rfl λM H=>sw.left F H λz I=>L _ _ z ⟨rfl,i,f,?_⟩ I;rw[ao hc];rfl
  ·have hc:vz ds (i:Nat) (aO k o)=0:=by simpa using c
   refine az.all 4 H rfl rfl rfl λG H=>az.all 3 H rfl rfl rfl λM H=>sw.left F H λz I=>L _ _ z ⟨rfl,i,f,?_⟩ I;rw[av hc,hc];rfl
 ·rintro L' r rec D ⟨rfl,g⟩ m;have f:iG ds=none:=Lz λj d a=>g j d (Ae.1 a).1 a;refine dz.none m λq H=>az.all 4 H rfl rfl rfl λG H=>az.all 3 H rfl rfl rfl λM H=>sy.go H λz H=>aj.at 4 H rfl rfl (aj.at 3 H rfl rfl ⟨?_,?_,H.fr⟩)
  ·unfold fh dN;rw[f,ao h0]
  ·have:dG ds k o=ds:=by unfold dG;rw[f]
   rw[this];exact H.get (i:=8) rfl
 ·rintro j L' r rec D ⟨rfl,i,f,rfl⟩ m;refine dz.ret m λq H=>sy.go H λG H=>aj.at 4 H rfl rfl (aj.at 3 H rfl rfl ⟨?_,?_,H.fr⟩)
  ·unfold fh dN;rw[f,ao h0]
  ·have:dG ds k o=dD ds i (aO k o):=by unfold dG;rw[f]
   rw[this];exact H.get (i:=8) rfl
end Go.Proofs.YtlcenllcmeebhaaGreat.D
namespace Go.Proofs.YtlcenllcmeebhaaGreat
set_option maxRecDepth 100000
open Go.RX
abbrev aap:Sh:= .el (.one (.z_ 244 2))
abbrev Gp:Sh:= .el (.one (.z_ 247 3))
noncomputable def N0:dJ AB:={M0 with sh:=[(219,aap),(239,Gp)],quiet:=[117,118,62,30,88,56,215,194,241]}
theorem LB (p:Option AC) (w:A2) (a:Int->A2->Prop):(aK N0 (λ_=>[]) 88 [ag p] w a)=(
 ((!p.isNone)=true->p.isSome=true)/\((!p.isNone)=true->p.isSome=true)/\aj w (some !p.isNone) (ad p 0) kW λx=>aI (p.isNone||x.isNone) (au w (a 10)) (abV p 4 w λx=>aI x (au w (a 6)) (au w (a 0)))):=by kernel_rfl
theorem Rx (p:Option AC) (w:A2) (a:Int->A2->Prop):(aK N0 (λ_=>[]) 56 [ag p] w a)=(
 ∃(x:Int),ae AB 88 [ag p] w (aa x)/\aI (x != 0) (au w (a (-1))) (cM p 3 w λx=>au w (a x))):=by kernel_rfl
theorem LC (p f r:Int) (w:A2) (a:Int->A2->Prop):(aK N0 (λ_=>[]) 215 [aa p,aa f,aa r] w a)=(
 aI (decide (p<0)||decide (p>=65536)||decide (f<0)||decide (f>=4096)) (au w (a 2)) (aI (decide (r<1)||decide (r>7)) (au w (a 7)) (au w (a 0)))):=by kernel_rfl
theorem LD (f:Int) (w:A2) (c:(Bool×Int×Bool×Int×Unit)->A2->Prop):(bQ N0 (λ_=>[]) 241 [aa f] w c)=(
 aN w ⟨[.bool false,aa 0,.bool false,aa 0]⟩ 130 λb a=>az a (af b) [.bool true,aa 0,.bool false,aa f] λa=>au a λw1=>aj w1 none (af b) j_ λ(x:Bool×Int×Bool×Int×Unit)=>c (x.1,x.2.1,x.2.2.1,x.2.2.2.1,()) w1):=by kernel_rfl
theorem LF (p d e f:Int) (ep:Bool) (er:Int) (el:Bool) (ef:Int) (w:A2) (c:Int->A2->Prop):(aK N0 (λ_=>[]) 194 [aa p,.agg ⟨[aa d,aa e,aa f]⟩,.agg ⟨[.bool ep,aa er,.bool el,aa ef]⟩] w c)=(
 aN w ⟨[aa d,aa e,aa f]⟩ 270 λb a=>aN a ⟨[.bool ep,aa er,.bool el,aa ef]⟩ 130 λg a=>true=true/\aU a (ad (af b) 1) λx=>aI (x==1) (true=true/\aU a (ad (af g) 3) λx=>True/\fS 1≠0/\au a λw1=>c (aJ .i64 x (eZ p (fS 1))) w1) (true=true/\aU a (ad (af g) 3) λx=>au a (c x))):=by kernel_rfl
theorem Ph (p:Option AC) (i:Int) (w:A2) (c:(Bool×Int×Bool×Int×Unit)->A2->Prop):(bQ N0 (λ_=>[]) 235 [ag p,aa i] w c)=(
 aN w ⟨[.bool false,aa 0,.bool false,aa 0]⟩ 130 λb a=>bG p 0 a λx=>aA AB 37 (.bu [.one (.int .u64),.one (.int .i64)]) [ag x,aa i] a λ(x:Int×Int×Unit) a=>U (B x.1)=x.1/\aN a ⟨[.bool false,aa 0,.bool false,aa 0]⟩ 130 λd a=>az a (af d) [.bool (Ic (B x.1).toNat),aa (FA (B x.1).toNat),.bool (JY (B x.1).toNat),aa (Fj (B x.1).toNat)] λa=>aj a none (af d) j_ λ(x:Bool×Int×Bool×Int×Unit)=>az a (af b) [.bool x.1,aa x.2.1,.bool x.2.2.1,.int
 .i64 x.2.2.2.1] λa=>au a λw1=>aj w1 none (af b) j_ λ(x:Bool×Int×Bool×Int×Unit)=>c (x.1,x.2.1,x.2.2.1,x.2.2.2.1,()) w1):=by kernel_rfl
theorem Vj (p:Option AC) (i:Int) (ep:Bool) (er:Int) (el:Bool) (ef:Int) (w:A2) (c:Unit->A2->Prop):(aK N0 (λ_=>[]) 222 [ag p,aa i,.agg ⟨[.bool ep,aa er,.bool el,aa ef]⟩] w c)=(
 aN w ⟨[.bool ep,aa er,.bool el,aa ef]⟩ 130 λb a=>aj a none (af b) j_ λ(x:Bool×Int×Bool×Int×Unit)=>True/\bG p 0 a λd=>aA AB 38 (.el aT) [ag d,aa i,ay (Fz x.1 x.2.1 x.2.2.1 x.2.2.2.1)] a λ(x:Int) a=>au a (c ())):=by kernel_rfl
theorem Vk (p:Option AC) (pg:Int) (w:A2) (c:Option AC×Option AC×Unit->A2->Prop):(aK N0 (λ_=>[]) 219 [ag p,aa pg] w c)=(
 aN w ⟨[ag p]⟩ 118 λb a=>aN a ⟨[aa pg]⟩ 3 λd a=>au a (c (some ⟨b,0,none⟩,some ⟨d,0,none⟩,()))):=by kernel_rfl
def ur:Nat->aZ:=(λ|2=>[(4,Go.RX.El.one (Go.RX.Sc.int AT)),(5,Go.RX.El.one (Go.RX.Sc.int AT))]| _=>[])
theorem Ry (y:Nat) (p c:Option AC) (w:A2) (d:Unit->A2->Prop):(aK N0 ur 244 [.func (.yield y) #[] #[],ag p,ag c] w d)=(
 fZ w p λx=>cM x 3 w λx=> ∃(I:Nat->Int×Int×Unit->A2->Prop),(∃n, ∀w1,Ext w w1->I n (x,3,()) w1)/\ ∀(n:Nat) (s:Int×Int×Unit) (w1:A2),I n s w1->aI (decide (s.2.1>=0)) (aU w1 c λx=>True/\aN w1 ⟨[aa 0,aa 0,aa 0]⟩ 270 λb a=>az a (af b) [aa s.1,aa s.2.1,aa (dQ s.1 x s.2.1)] λa=>fZ a p λx=>true=true/\aU a (ad (af b) 2) λh=>aA AB 235 (.el j_) [ag x,aa h] a λ(x:Bool×Int×Bool×Int×Unit) a=>aN a ⟨[.bool false,
 aa 0,.bool false,aa 0]⟩ 130 λe a=>az a (af e) [.bool x.1,aa x.2.1,.bool x.2.2.1,aa x.2.2.2.1] λa=>aj a none (af b) wV λ(x:Int×Int×Int×Unit)=> ∀w1,Ext a w1->mj AB y [.agg ⟨[aa x.1,aa x.2.1,aa x.2.2.1]⟩] w1 λ(b:Bool) a=>aj a (some !!b) (af e) j_ λ(x:Bool×Int×Bool×Int×Unit)=>((!!b)=true->True)/\aI (!b|| !fO x.1 x.2.1 x.2.2.1 x.2.2.2.1) (au a (d ())) (true=true/\aU a (ad (af e) 3) λx=> ∀f,Ext a f-> ∃(g:Nat),g<n/\
 I g (x,aY .i64 s.2.1 1,()) f)) (au w1 (d ()))):=by kernel_rfl
def uu:Nat->aZ:=(λ|4=>[(6,.agg [.int .i64,.int .i64,.int .i64])]| _=>[])
theorem Rz (p c:Option AC) (w:A2) (e:Option AC×Nat×Nat->A2->Prop):(bQ N0 uu 218 [.func (.func 244) #[] #[ag p,ag c]] w e)=(
 aN w ⟨[.slice none 0 0]⟩ 285 λb a=>z5 AB 244 (λ(y:Nat)=>[.func (Fn.yield y) ⟨[]⟩ ⟨[]⟩,ag p,ag c]) ⟨[6]⟩ a (λ(x:(Int×Int×Int×Unit)×Unit)=>[.agg ⟨[aa x.1.1,aa x.1.2.1,aa x.1.2.2.1]⟩]) (λ(l:Nat) (rec:Loop) (x:(Int×Int×Int×Unit)×Unit) g (R:Bool->A2->Prop)=>De l rec [Value.agg ⟨[aa x.1.1,aa x.1.2.1,aa x.1.2.2.1]⟩].length 1 g (aN g ⟨[aa 0,aa 0,aa 0]⟩ 270 λi a=>az a (af i) [aa x.1.1,aa x.1.2.1,.int .i64
 x.1.2.2.1] λa=>BS l rec a λd=>sZ d (af b) λx=>aj d none (af i) wV λ(f:Int×Int×Int×Unit)=>aN d ⟨[aa f.1,aa f.2.1,aa f.2.2.1]⟩ 270 λj a=> ∀w1,Ext a w1->mz w1 270 3 24 ⟨[aa 0,aa 0,aa 0]⟩ (x.1,x.2.1,x.2.2) (some ⟨j,0,none⟩,1,1) λ(r:Option AC×Nat×Nat) a=>az a (af b) [.slice r.1 r.2.1 r.2.2] λa=>sw l rec none a R)) λ(r:Nat) (rec:Loop) k=>dz (r+1) rec
 k (λd=>sZ d (af b) λx=>sy [r] d λw1=>e (x.1,x.2.1,x.2.2) w1) (λ(id:Nat) d=>Cc (λ(h:id=0->False)=>False) (λ(h:id=0)=>sZ d (af b) λx=>sy [r] d λw1=>e (x.1,x.2.1,x.2.2) w1) (match h:id.beq 0 with|true=>isTrue (Dh h)|false=>isFalse (Dl h))) λd=>sy [r] d λw1=>e (none,0,0) w1):=by kernel_rfl
theorem Vl (p:Option AC) (pg:Int) (w:A2) (f:(Int×Int×Int×Unit)×(Bool×Int×Bool×Int×Unit)×Unit->A2->Prop):(bQ N0 (λ_=>[]) 193 [ag p,aa pg] w f)=(
 aN w ⟨[aa 0,aa 0,aa 0]⟩ 270 λb a=>aN a ⟨[.bool false,aa 0,.bool false,aa 0]⟩ 130 λg a=>aA AB 219 (.el (.one (.z_ 244 2))) [ag p,aa pg] a λx a=>aA AB 218 (.el ff) [.func (.func 244) ⟨[]⟩ ⟨[ag x.1,ag x.2.1]⟩] a λx a=>(x.1.isSome=true/\0<=aY .i64 (↑x.2.1:Int) 1/\aY .i64 (↑x.2.1:Int) 1<(↑x.2.1:Int))/\aj a none (ad x.1 ((aY .i64 (↑x.2.1:Int) 1).toNat*3)) wV λ(x:Int×Int×Int×Unit)=>aN a ⟨[aa 0,aa 0,aa 0]⟩ 270 λc
 a=>az a (af c) [aa x.1,aa x.2.1,aa x.2.2.1] λa=>aj a none (af c) wV λ(x:Int×Int×Int×Unit)=>true=true/\aU a (ad (af c) 2) λh=>aA AB 235 (.el j_) [ag p,aa h] a λ(d:Bool×Int×Bool×Int×Unit) a=>cI a (af c) wV x/\az a (af b) [aa x.1,aa x.2.1,aa x.2.2.1] λa=>az a (af g) [.bool d.1,aa d.2.1,.bool d.2.2.1,aa d.2.2.2.1] λa=>au a λw1=>aj w1 none (af b) wV λ(x:Int×Int×Int×Unit)=>aj w1
 none (af g) j_ λ(e:Bool×Int×Bool×Int×Unit)=>f ((x.1,x.2.1,x.2.2.1,()),(e.1,e.2.1,e.2.2.1,e.2.2.2.1,()),()) w1):=by kernel_rfl
def qY:Nat->aZ:=(λ|5=>[(24,Go.RX.El.one (Go.RX.Sc.int AT))]| _=>[])
theorem LG (p:Option AC) (w:A2) (b:Int×Int×Unit->A2->Prop):(aK N0 qY 205 [ag p,.func (.func 206) #[] #[]] w b)=(
 bG p 1 w λx=>cM p 2 w λf=>aA AB 172 (.bu [.one (.int .i64),.one (.int .i64)]) [ag x,aa 3,aa f] w λ(x:Int×Int×Unit) a=>aI (x.2.1 != 0) (au a (b (0,x.2.1,()))) (∃(I:Nat->Int×Unit->A2->Prop),(∃n, ∀w1,Ext a w1->I n (0,()) w1)/\ ∀(n:Nat) (s:Int×Unit) (w1:A2),I n s w1->aI (decide (s.1<16)) (bG p 0 w1 λc=>aA AB 206 (.el rD) [aa s.1] w1 λ(g:Int) a=>True/\True/\cI a (ad p 0) kW c/\True/\True/\aA AB 38 (.el aT) [ag c,
 aa (aJ .i64 (iy .i64 16 x.1) s.1),ay g] a λ(x:Int) a=> ∀d,Ext a d-> ∃(e:Nat),e<n/\I e (aJ .i64 s.1 1,()) d) (au w1 (b (x.1,0,()))))):=by kernel_rfl
def qZ:Nat->aZ:=(λ|5=>[(24,Go.RX.El.one (Go.RX.Sc.int AT))]| _=>[])
theorem LH (p:Option AC) (w:A2) (b:Int×Int×Unit->A2->Prop):(aK N0 qZ 205 [ag p,.func (.func 240) #[] #[]] w b)=(
 bG p 1 w λx=>cM p 2 w λf=>aA AB 172 (.bu [.one (.int .i64),.one (.int .i64)]) [ag x,aa 3,aa f] w λ(x:Int×Int×Unit) a=>aI (x.2.1 != 0) (au a (b (0,x.2.1,()))) (∃(I:Nat->Int×Unit->A2->Prop),(∃n, ∀w1,Ext a w1->I n (0,()) w1)/\ ∀(n:Nat) (s:Int×Unit) (w1:A2),I n s w1->aI (decide (s.1<16)) (bG p 0 w1 λc=>aA AB 240 (.el rD) [aa s.1] w1 λ(g:Int) a=>True/\True/\cI a (ad p 0) kW c/\True/\True/\aA AB 38 (.el aT) [ag c,
 aa (aJ .i64 (iy .i64 16 x.1) s.1),ay g] a λ(x:Int) a=> ∀d,Ext a d-> ∃(e:Nat),e<n/\I e (aJ .i64 s.1 1,()) d) (au w1 (b (x.1,0,()))))):=by kernel_rfl
def q_:Nat->aZ:=(λ|5=>[(24,Go.RX.El.one (Go.RX.Sc.int AT))]| _=>[])
theorem LI (p e:Option AC) (w:A2) (b:Int×Int×Unit->A2->Prop):(aK N0 q_ 205 [ag p,.func (.func 242) #[] #[ag e]] w b)=(
 bG p 1 w λx=>cM p 2 w λg=>aA AB 172 (.bu [.one (.int .i64),.one (.int .i64)]) [ag x,aa 3,aa g] w λ(x:Int×Int×Unit) a=>aI (x.2.1 != 0) (au a (b (0,x.2.1,()))) (∃(I:Nat->Int×Unit->A2->Prop),(∃n, ∀w1,Ext a w1->I n (0,()) w1)/\ ∀(n:Nat) (s:Int×Unit) (w1:A2),I n s w1->aI (decide (s.1<16)) (bG p 0 w1 λc=>aA AB 242 (.el rD) [aa s.1,ag e] w1 λ(h:Int) a=>True/\True/\cI a (ad p 0) kW c/\True/\True/\aA AB 38 (.el aT)
 [ag c,aa (aJ .i64 (iy .i64 16 x.1) s.1),ay h] a λ(x:Int) a=> ∀d,Ext a d-> ∃(f:Nat),f<n/\I f (aJ .i64 s.1 1,()) d) (au w1 (b (x.1,0,()))))):=by kernel_rfl
theorem RA (i:Int) (w:A2) (a:Int->A2->Prop):(aK N0 (λ_=>[]) 206 [aa i] w a)=(
 au w (a 0)):=by kernel_rfl
theorem RB (i:Int) (w:A2) (a:Int->A2->Prop):(aK N0 (λ_=>[]) 240 [aa i] w a)=(
 au w (a 0)):=by kernel_rfl
theorem Ho (i:Int) (e:Option AC) (w:A2) (a:Int->A2->Prop):(aK N0 (λ_=>[]) 242 [aa i,ag e] w a)=(
 e.isSome=true/\aU w (ad e 1) λx=>e.isSome=true/\aU w (ad e 3) λb=>True/\au w (a (Fz true x false (aJ .i64 b i)))):=by kernel_rfl
def wj:Nat->aZ:=(λ|6=>[]| _=>[])
theorem Vm (p:Option AC) (pg lv:Int) (ep:Bool) (er:Int) (el:Bool) (ef:Int) (w:A2) (f:Int->A2->Prop):(aK N0 wj 216 [ag p,aa pg,aa lv,.agg ⟨[.bool ep,aa er,.bool el,aa ef]⟩] w f)=(
 aN w ⟨[.bool ep,aa er,.bool el,aa ef]⟩ 130 λb a=>aA AB 193 (.bu [.agg [.int .i64,.int .i64,.int .i64],.agg [.bool,.int .i64,.bool,.int .i64]]) [ag p,aa pg] a λ(x:(Int×Int×Int×Unit)×(Bool×Int×Bool×Int×Unit)×Unit) a=>aN a ⟨[aa 0,aa 0,aa 0]⟩ 270 λc a=>aN a ⟨[.bool false,aa 0,.bool false,aa 0]⟩ 130 λg a=>az a (af c) [aa x.1.1,aa x.1.2.1,aa x.1.2.2.1] λa=>az a (af g) [.bool x.2.1.1,aa x.2.1.2.1,.bool
 x.2.1.2.2.1,aa x.2.1.2.2.2.1] λa=>true=true/\s6 a (ad (af g) 0) λx=>((!x)=true->true=true)/\aj a (some !x) (ad (af c) 1) aT λ(k:Int)=>aI (x||decide (k<lv)) (au a (f 5)) (bG p 1 a λx=> ∃(h:Int),ae AB 30 [ag x,aa 0] a (aa h)/\true=true/\aU a (ad (af c) 1) λx=>aI (decide (h<aY .i64 x lv)) (au a (f 12)) (∃(I:Nat->Unit->A2->Prop),(∃n, ∀w1,Ext a w1->I n () w1)/\ ∀(n:Nat) (s:Unit) (w1:A2),I n s w1->true=true/\aU w1 (ad
 (af c) 1) λx=>aI (decide (x>lv)) (aA AB 205 (.bu [.one (.int .i64),.one (.int .i64)]) [ag p,.func (.func 240) ⟨[]⟩ ⟨[]⟩] w1 λ(x:Int×Int×Unit) a=>true=true/\aU a (ad (af c) 2) λe=> ∃(d:Bool×Int×Bool×Int×Unit),ae AB 241 [aa x.1] a (.agg ⟨[.bool d.1,aa d.2.1,.bool d.2.2.1,aa d.2.2.2.1]⟩)/\aA AB 222 (.bu []) [ag p,aa e,.agg ⟨[.bool d.1,aa d.2.1,.bool d.2.2.1,aa d.2.2.2.1]⟩] a λo a=>true=true/\aU a (ad (af c) 1)
 λl=>true=true/\aU a (ad (af c) 1) λm=>True/\az a (af c) [aa x.1,aa (aY .i64 l 1),aa (dQ x.1 pg (aY .i64 m 1))] λa=> ∀i,Ext a i-> ∃(j:Nat),j<n/\I j () i) (true=true/\aU w1 (ad (af c) 2) λx=>aj w1 none (af b) j_ λ(e:Bool×Int×Bool×Int×Unit)=>aA AB 222 (.bu []) [ag p,aa x,.agg ⟨[.bool e.1,aa e.2.1,.bool e.2.2.1,aa e.2.2.2.1]⟩] w1 λx a=>au a (f 0))))):=by kernel_rfl
theorem Vn (p:Option AC) (pg f r:Int) (w:A2) (a:Int->A2->Prop):(aK N0 (λ_=>[]) 173 [ag p,aa pg,aa f,aa r] w a)=(
 ∃(x:Int),ae AB 88 [ag p] w (aa x)/\aI (x != 0) (au w (a x)) (∃(x:Int),ae AB 215 [aa pg,aa f,aa r] w (aa x)/\aI (x != 0) (au w (a x)) (aA AB 216 (.el aT) [ag p,aa pg,aa 0,.agg ⟨[.bool true,aa r,.bool false,aa f]⟩] w λ(x:Int) b=>au b (a x)))):=by kernel_rfl
theorem LJ (p:Option AC) (pg:Int) (w:A2) (c:Int×Int×Int×Unit->A2->Prop):(aK N0 (λ_=>[]) 139 [ag p,aa pg] w c)=(
 ∃(x:Int),ae AB 88 [ag p] w (aa x)/\aI (x != 0) (au w (c (0,0,x,()))) (aI (decide (pg<0)||decide (pg>=65536)) (au w (c (0,0,2,()))) (aA AB 193 (.bu [.agg [.int .i64,.int .i64,.int .i64],.agg [.bool,.int .i64,.bool,.int .i64]]) [ag p,aa pg] w λ(x:(Int×Int×Int×Unit)×(Bool×Int×Bool×Int×Unit)×Unit) a=>aN a ⟨[aa 0,aa 0,aa 0]⟩ 270 λb a=>aN a ⟨[.bool false,aa 0,.bool false,aa 0]⟩ 130 λd a=>az a (af b) [aa x.1.1,.int
 .i64 x.1.2.1,aa x.1.2.2.1] λa=>az a (af d) [.bool x.2.1.1,aa x.2.1.2.1,.bool x.2.1.2.2.1,aa x.2.1.2.2.2.1] λa=>true=true/\s6 a (ad (af d) 0) λx=>aI (!x) (au a (c (0,0,4,()))) (aj a none (af b) wV λ(x:Int×Int×Int×Unit)=>aj a none (af d) j_ λ(e:Bool×Int×Bool×Int×Unit)=> ∃(f:Int),ae AB 194 [aa pg,.agg ⟨[aa x.1,aa x.2.1,aa x.2.2.1]⟩,.agg ⟨[.bool e.1,aa e.2.1,.bool e.2.2.1,aa e.2.2.2.1]⟩] a (aa f)/\
 true=true/\aU a (ad (af d) 1) λx=>au a (c (f,x,0,())))))):=by kernel_rfl
theorem LK (p:Option AC) (pg:Int) (w:A2) (d:Int->A2->Prop):(aK N0 (λ_=>[]) 217 [ag p,aa pg] w d)=(
 aA AB 193 (.bu [.agg [.int .i64,.int .i64,.int .i64],.agg [.bool,.int .i64,.bool,.int .i64]]) [ag p,aa pg] w λ(x:(Int×Int×Int×Unit)×(Bool×Int×Bool×Int×Unit)×Unit) a=>aN a ⟨[aa 0,aa 0,aa 0]⟩ 270 λb a=>aN a ⟨[.bool false,aa 0,.bool false,aa 0]⟩ 130 λe a=>az a (af b) [aa x.1.1,aa x.1.2.1,aa x.1.2.2.1] λa=>az a (af e) [.bool x.2.1.1,aa x.2.1.2.1,.bool x.2.1.2.2.1,aa x.2.1.2.2.2.1] λa=>true=true/\aU a (ad (af b) 1)
 λx=>aI (x==0) (au a (d 0)) (aA AB 205 (.bu [.one (.int .i64),.one (.int .i64)]) [ag p,.func (.func 242) ⟨[]⟩ {toList:=[ag (af e)]}] a λ(x:Int×Int×Unit) a=>aI (x.2.1==0) (true=true/\aU a (ad (af b) 2) λf=> ∃(c:Bool×Int×Bool×Int×Unit),ae AB 241 [aa x.1] a (.agg ⟨[.bool c.1,aa c.2.1,.bool c.2.2.1,aa c.2.2.2.1]⟩)/\aA AB 222 (.bu []) [ag p,aa f,.agg ⟨[.bool c.1,aa c.2.1,.bool c.2.2.1,aa c.2.2.2.1]⟩] a λg a=>
 au a (d x.2.1)) (au a (d x.2.1)))):=by kernel_rfl
def uv:Nat->aZ:=(λ|1=>[(4,Go.RX.El.one (Go.RX.Sc.int AT))]|4=>[(26,Go.RX.El.one (Go.RX.Sc.int AT))]| _=>[])
theorem RC (p q:Option AC) (n c:Nat) (w:A2) (g:Unit->A2->Prop):(aK N0 uv 220 [ag p,.slice q n c] w g)=(
 ∃(I:Nat->Int×Unit->A2->Prop),(∃f, ∀w1,Ext w w1->I f (aY .i64 (↑n:Int) 1,()) w1)/\ ∀(f:Nat) (s:Int×Unit) (w1:A2),I f s w1->aI (decide (s.1>0)) (bG p 0 w1 λx=>(q.isSome=true/\0<=s.1/\s.1<(↑n:Int))/\(ad q (Aq s.1*3)).isSome=true/\aj w1 none (ad (ad q (Aq s.1*3)) 0) aT λ(j:Int)=>aA AB 45 (.el ff) [ag x,aa (iy .i64 16 j),aa 16] w1 λx a=> ∃(h:Nat->Int×Unit->A2->Prop),(∃n, ∀w1,Ext a w1->h n (0,()) w1)/\ ∀(i:Nat) (b
 :Int×Unit) (w1:A2),h i b w1->aI (decide (b.1<(↑x.2.1:Int))) ((x.1.isSome=true/\0<=b.1/\b.1<(↑x.2.1:Int))/\cK w1 (ad x.1 (Aq b.1*1)) λx=>aI (x != 0) (au w1 (g ())) (∀d,Ext w1 d-> ∃(e:Nat),e<i/\h e (aJ .i64 b.1 1,()) d)) (bG p 0 w1 λx=>(q.isSome=true/\0<=aY .i64 s.1 1/\aY .i64 s.1 1<(↑n:Int))/\(ad q ((aY .i64 s.1 1).toNat*3)).isSome=true/\aj w1 none (ad (ad q ((aY .i64 s.1 1).toNat*3)) 2) aT λ(k:Int)=>aA AB 38 (.el aT) [ag x,.int
 .i64 k,ay 0] w1 λ(x:Int) a=>bG p 1 a λx=>(q.isSome=true/\0<=s.1/\s.1<(↑n:Int))/\(ad q (Aq s.1*3)).isSome=true/\aj a none (ad (ad q (Aq s.1*3)) 0) aT λ(l:Int)=>aA AB 138 (.el aT) [ag x,aa l,aa 5,aa 0] a λ(x:Int) a=> ∀d,Ext a d-> ∃(e:Nat),e<f/\I e (aY .i64 s.1 1,()) d)) (au w1 (g ()))):=by kernel_rfl
theorem LM (p:Option AC) (pg:Int) (w:A2) (c:Int×Int×Unit->A2->Prop):(aK N0 (λ_=>[]) 175 [ag p,aa pg] w c)=(
 aA AB 139 (.bu [.one (.int .i64),.one (.int .i64),.one (.int .i64)]) [ag p,aa pg] w λ(x:Int×Int×Int×Unit) a=>aI (x.2.2.1 != 0) (au a (c (0,x.2.2.1,()))) (aA AB 217 (.el aT) [ag p,aa pg] a λ(d:Int) a=>aI (d != 0) (au a (c (0,d,()))) (aA AB 219 (.el (.one (.z_ 244 2))) [ag p,aa pg] a λe a=>aA AB 218 (.el ff) [.func (.func 244) ⟨[]⟩ ⟨[ag e.1,ag e.2.1]⟩] a λb a=>bG p 0 a λf=>(b.1.isSome=true/\0<=aY .i64
 (↑b.2.1:Int) 1/\aY .i64 (↑b.2.1:Int) 1<(↑b.2.1:Int))/\(ad b.1 ((aY .i64 (↑b.2.1:Int) 1).toNat*3)).isSome=true/\aj a none (ad (ad b.1 ((aY .i64 (↑b.2.1:Int) 1).toNat*3)) 2) aT λ(g:Int)=>aA AB 38 (.el aT) [ag f,aa g,ay 0] a λ(h:Int) a=>aA AB 220 (.bu []) [ag p,.slice b.1 b.2.1 b.2.2] a λi a=>au a (c (x.1,0,()))))):=by kernel_rfl
theorem RD (p:Option AC) (pg r:Int) (w:A2) (c:Int->A2->Prop):(aK N0 (λ_=>[]) 177 [ag p,aa pg,aa r] w c)=(
 ∃(x:Int),ae AB 88 [ag p] w (aa x)/\aI (x != 0) (au w (c x)) (∃(x:Int),ae AB 215 [aa pg,aa 0,aa r] w (aa x)/\aI (x != 0) (au w (c x)) (aA AB 193 (.bu [.agg [.int .i64,.int .i64,.int .i64],.agg [.bool,.int .i64,.bool,.int .i64]]) [ag p,aa pg] w λ(x:(Int×Int×Int×Unit)×(Bool×Int×Bool×Int×Unit)×Unit) a=>aN a ⟨[aa 0,aa 0,aa 0]⟩ 270 λb a=>aN a ⟨[.bool false,aa 0,.bool false,aa 0]⟩ 130 λd a=>az a (af b)
 [aa x.1.1,aa x.1.2.1,aa x.1.2.2.1] λa=>az a (af d) [.bool x.2.1.1,aa x.2.1.2.1,.bool x.2.1.2.2.1,aa x.2.1.2.2.2.1] λa=>true=true/\s6 a (ad (af d) 0) λx=>aI (!x) (au a (c 4)) (true=true/\s6 a (ad (af d) 2) λx=>(x=true->true=true)/\aj a (some x) (ad (af d) 1) aT λ(g:Int)=>aI (x&&g==r) (au a (c 0)) (aj a none (af b) wV λ(x:Int×Int×Int×Unit)=>aj a none (af d) j_ λ(e:Bool×Int×Bool×Int×Unit)=> ∃(f:Int),ae AB 194
 [aa pg,.agg ⟨[aa x.1,aa x.2.1,aa x.2.2.1]⟩,.agg ⟨[.bool e.1,aa e.2.1,.bool e.2.2.1,aa e.2.2.2.1]⟩] a (aa f)/\aA AB 217 (.el aT) [ag p,aa pg] a λ(x:Int) a=>aI (x != 0) (au a (c x)) (aA AB 193 (.bu [.agg [.int .i64,.int .i64,.int .i64],.agg [.bool,.int .i64,.bool,.int .i64]]) [ag p,aa pg] a λ(x:(Int×Int×Int×Unit)×(Bool×Int×Bool×Int×Unit)×Unit) a=>az a (af b) [aa x.1.1,aa x.1.2.1,aa x.1.2.2.1] λa=>true=
 true/\aU a (ad (af b) 2) λx=>aA AB 222 (.bu []) [ag p,aa x,.agg ⟨[.bool true,aa r,.bool false,aa f]⟩] a λx a=>au a (c 0))))))):=by kernel_rfl
theorem Bk (p:Option AC) (f lv:Int) (w:A2) (c:Option AC×Option AC×Option AC×Unit->A2->Prop):(aK N0 (λ_=>[]) 239 [ag p,aa f,aa lv] w c)=(
 aN w ⟨[ag p]⟩ 118 λb a=>aN a ⟨[aa f]⟩ 3 λd a=>aN a ⟨[aa lv]⟩ 3 λe a=>au a (c (some ⟨d,0,none⟩,some ⟨b,0,none⟩,some ⟨e,0,none⟩,()))):=by kernel_rfl
def rb:Nat->aZ:=(λ|4=>[(6,.one (.int .i64))]| _=>[])
theorem LN (p c d:Option AC) (w:A2) (f:Option AC×Nat×Nat->A2->Prop):(bQ N0 rb 238 [.func (.func 247) #[] #[ag p,ag c,ag d]] w f)=(
 aN w ⟨[.slice none 0 0]⟩ 39 λb e=>z5 AB 247 (λ(y:Nat)=>[.func (Fn.yield y) ⟨[]⟩ ⟨[]⟩,ag p,ag c,ag d]) ⟨[6]⟩ e (λ(x:Int×Unit)=>[aa x.1]) (λ(l:Nat) (rec:Loop) (x:Int×Unit) i (R:Bool->A2->Prop)=>De l rec [aa x.1].length 1 i (BS l rec i λa=>sZ a (af b) λg=>aN a ⟨[aa x.1]⟩ 3 λj e=> ∀w1,Ext e w1->mz w1 3 1 8 ⟨[aa 0]⟩ (g.1,g.2.1,g.2.2) (some ⟨j,0,none⟩,1,1) λ(r:Option AC×Nat×Nat) e=>az e (some ⟨b,0,
 none⟩) [.slice r.1 r.2.1 r.2.2] λe=>sw l rec none e R)) λ(r:Nat) (rec:Loop) k=>dz (r+1) rec k (λa=>sZ a (af b) λx=>sy [r] a λw1=>f (x.1,x.2.1,x.2.2) w1) (λ(id:Nat) a=>Cc (λ(h:id=0->False)=>False) (λ(h:id=0)=>sZ a (af b) λx=>sy [r] a λw1=>f (x.1,x.2.1,x.2.2) w1) (match h:id.beq 0 with|true=>isTrue (Dh h)|false=>isFalse (Dl h))) λa=>sy [r] a λw1=>f (none,0,0)
 w1):=by kernel_rfl
def wo:Nat->aZ:=(λ|5=>[(18,Go.RX.El.one (Go.RX.Sc.int AT))]|8=>[(5,Go.RX.El.one (Go.RX.Sc.int AT))]| _=>[])
theorem Vo (p:Option AC) (w:A2) (e:Option AC×Nat×Nat->A2->Prop):(aK N0 wo 214 [ag p] w e)=(
 ∃(x:Int),ae AB 88 [ag p] w (aa x)/\aI (x != 0) (au w (e (none,0,0))) (cM p 3 w λx=>aA AB 239 (.el (.one (.z_ 247 3))) [ag p,aa x,aa 3] w λx b=>aA AB 238 (.el ff) [.func (.func 247) ⟨[]⟩ ⟨[ag x.1,ag x.2.1,ag x.2.2.1]⟩] b λx b=> ∃(I:Nat->Int×Unit->A2->Prop),(∃n, ∀w1,Ext b w1->I n (0,()) w1)/\ ∀(n:Nat) (s:Int×Unit) (w1:A2),I n s w1->aI (decide (s.1<(↑x.2.1:Int))) (∃(f:Nat->Int×Unit->A2->Prop),(∃n, ∀g,Ext w1 g->f
 n (s.1,()) g)/\ ∀(h:Nat) (a:Int×Unit) (w1:A2),f h a w1->(decide (a.1>0)=true->x.1.isSome=true/\0<=aY .i64 a.1 1/\aY .i64 a.1 1<(↑x.2.1:Int))/\aj w1 (some (decide (a.1>0))) (ad x.1 ((aY .i64 a.1 1).toNat*1)) aT λ(i:Int)=>(decide (a.1>0)=true->x.1.isSome=true/\0<=a.1/\a.1<(↑x.2.1:Int))/\aj w1 (some (decide (a.1>0))) (ad x.1 (Aq a.1*1)) aT λ(j:Int)=>aI (decide (a.1>0)&&decide (i>j)) ((x.1.isSome=true/\0<=a.1/\a.1<(↑x.2.1:Int))/\aU w1
 (ad x.1 (Aq a.1*1)) λk=>(x.1.isSome=true/\0<=aY .i64 a.1 1/\aY .i64 a.1 1<(↑x.2.1:Int))/\aj w1 none (ad x.1 ((aY .i64 a.1 1).toNat*1)) aT λ(l:Int)=>(x.1.isSome=true/\0<=aY .i64 a.1 1/\aY .i64 a.1 1<(↑x.2.1:Int))/\az w1 (ad x.1 ((aY .i64 a.1 1).toNat*1)) [aa k] λb=>(x.1.isSome=true/\0<=a.1/\a.1<(↑x.2.1:Int))/\az b (ad x.1 (Aq a.1*1)) [aa l] λb=> ∀c,Ext b c-> ∃(d:Nat),d<h/\f d (aY .i64 a.1 1,()) c) (∀c,Ext w1 c-> ∃(d
 :Nat),d<n/\I d (aJ .i64 s.1 1,()) c)) (au w1 (e (x.1,x.2.1,x.2.2))))):=by kernel_rfl
def uw:Nat->aZ:=(λ|5=>[(13,Go.RX.El.one (Go.RX.Sc.int AT))]| _=>[])
theorem RE (p:Option AC) (w:A2) (b:Option AC×Nat×Nat->A2->Prop):(aK N0 uw 171 [ag p] w b)=(
 ∃(x:Int),ae AB 88 [ag p] w (aa x)/\aI (x != 0) (au w (b (none,0,0))) (aA AB 214 (.el ff) [ag p] w λx a=> ∃(I:Nat->Int×Unit->A2->Prop),(∃n, ∀w1,Ext a w1->I n (0,()) w1)/\ ∀(n:Nat) (s:Int×Unit) (w1:A2),I n s w1->aI (decide (s.1<(↑x.2.1:Int))) ((x.1.isSome=true/\0<=s.1/\s.1<(↑x.2.1:Int))/\aU w1 (ad x.1 (Aq s.1*1)) λx=>bG p 1 w1 λe=>aA AB 138 (.el aT) [ag e,aa x,aa 5,aa 0] w1 λ(x:Int) a=> ∀c,Ext a c-> ∃(d
 :Nat),d<n/\I d (aJ .i64 s.1 1,()) c) (p.isSome=true/\p.isSome=true/\az w1 (ad p 4) [.bool true] λa=>au a (b (x.1,x.2.1,x.2.2))))):=by kernel_rfl
theorem Vp (m p:Option AC) (o:Int) (w:A2) (c:Option AC×Int×Unit->A2->Prop):(aK N0 (λ_=>[]) 164 [ag m,ag p,aa o] w c)=(
 ∃(x:Int),ae AB 117 [ag m] w (aa x)/\ ∃(d:Int),((!x==0)=true->ae AB 62 [ag p] w (aa d))/\ ∃(e:Int),((!(x==0||d==0))=true->ae AB 117 [ag m] w (aa e))/\ ∃(f:Int),((!(x==0||d==0))=true->ae AB 62 [ag p] w (aa f))/\aI (x==0||d==0||decide (e<iy .i64 16 f)) (au w (c (none,1,()))) (aN w ⟨[ag m,ag p,aa o,aa 0,.bool false]⟩ 188 λb a=>aA AB 205 (.bu [.one (.int .i64),.one (.int
 .i64)]) [ag (af b),.func (.func 206) ⟨[]⟩ ⟨[]⟩] a λ(x:Int×Int×Unit) a=>aI (x.2.1 != 0) (au a (c (none,x.2.1,()))) (true=true/\true=true/\az a (ad (af b) 3) [aa x.1] λa=>au a (c (some ⟨b,0,none⟩,0,()))))):=by kernel_rfl
theorem LO (p:Option AC) (i n:Int) (w:A2) (a:Option AC×Nat×Nat->A2->Prop):(aK N0 (λ_=>[]) 45 [ag p,aa i,aa n] w a)=(
 aI p.isNone (au w (a (none,0,0))) (p.isSome=true/\p.isSome=true/\aj w none (ad p 0) (.agg [.slice]) λx=>aA AB 80 (.el ff) [.agg ⟨[.slice x.1.1 x.1.2.1 x.1.2.2]⟩,aa i,aa n] w λx b=>au b (a (x.1,x.2.1,x.2.2)))):=by kernel_rfl
theorem Vq (p:Option AC) (n c:Nat) (i k:Int) (w:A2) (Post:Option AC×Nat×Nat->A2->Prop):(aK N0 (λ_=>[]) 80 [.agg ⟨[.slice p n c]⟩,aa i,aa k] w Post)=(
 aN w ⟨[.slice p n c]⟩ 157 λb a=>((!(decide (k<1)||decide (i<0)))=true->true=true)/\aj a (some !(decide (k<1)||decide (i<0))) (ad (af b) 0) (.one .slice) λx=>((!(decide (k<1)||decide (i<0)||decide (i>(↑x.2.1:Int))))=true->true=true)/\aj a (some !(decide (k<1)||decide (i<0)||decide (i>(↑x.2.1:Int)))) (ad (af b) 0) (.one .slice) λe=>aI (decide (k<1)||decide (i<0)||decide (i>(↑x.2.1:Int))||decide (k>aY .i64 (↑e.2.1:Int) i)) (au a λw1=>Post (none,0,0) w1) (NJ a 8
 1 k k ⟨[ay 0]⟩ 29 λd a=>true=true/\aj a none (ad (af b) 0) (.one .slice) λx=>(0<=i/\i<=(↑x.2.1:Int)/\(↑x.2.1:Int)<=(↑x.2.2:Int)/\(↑x.2.2:Int)<=(↑x.2.2:Int))/\ ∀w1,Ext a w1->cpR w1 1 (some ⟨d,0,none⟩,k.toNat) (Cc (λ(h:(↑x.2.2:Int).toNat=i.toNat->False)=>ad x.1 (i.toNat*1)) (λ(h:(↑x.2.2:Int).toNat=i.toNat)=>x.1) (instDecidableEqNat (↑x.2.2:Int).toNat i.toNat),(↑x.2.1:Int).toNat - i.toNat) λ(r:Int) a=>au a λw1=>Post (some ⟨d,0,none⟩,k.toNat,k.toNat) w1)):=by
 kernel_rfl
end Go.Proofs.YtlcenllcmeebhaaGreat
namespace Go.Proofs.YtlcenllcmeebhaaGreat.D
set_option maxRecDepth 100000
open Go.RX
noncomputable def E3:dJ AB:={E0 with quiet:=[62,30,25]}
section
variable {D G:List Nat} {w0 w:A2} {L:List (Nat×List AF)}
theorem Vr (H:aL D G w0 w L) (i j:Nat) {bp bf n c:Nat} {ds:List DT} {rest:List AF} (b:L[i]? =some (bp,[.slice (af bf) n c])) (a:L[j]? =some (bf,flat eD ds++rest)) (e:i≠j) (g:n=ds.length) (l:0<n) (h:n<=4096) (f y o:Int) {K:Int->A2->Prop}
 (k: ∀d,aL D G w0 d (L.set j (bf,flat eD (dD ds f (aO y o))++rest))->K (vz ds f (aO y o)) d):aA AB 138 (.el (.one (.int .i64))) [ag (af bp),aa f,aa y,aa o] w K:=by
 subst g;exact aA.Dt H j a (λw1 H=>Cy (H.get b) (H.get a) (H.ne b a e) h f y o) k
theorem Vs (H:aL D G w0 w L) (i j:Nat) {bp bf n c:Nat} {ds:List DT} {rest:List AF} (b:L[i]? =some (bp,[.slice (af bf) n c])) (a:L[j]? =some (bf,flat eD ds++rest)) (e:i≠j) (g:n=ds.length) (l:0<n) (h:n<=4096) (f x:Int) (hi: -9223372036854775808<=x/\x<9223372036854775808) {K:Int->A2->Prop}
 (k: ∀d,aL D G w0 d (L.set j (bf,flat eD (dD ds f (g_ x))++rest))->K (vz ds f (g_ x)) d):aA AB 183 (.el (.one (.int .i64))) [ag (af bp),aa f,aa x] w K:=by
 subst g;exact aA.Dt H j a (λw1 H=>Ve (H.get b) (H.get a) (H.ne b a e) h f x hi) k
theorem Vt (H:aL D G w0 w L) (i j:Nat) {bp bf n c:Nat} {ds:List DT} {rest:List AF} (b:L[i]? =some (bp,[.slice (af bf) n c])) (a:L[j]? =some (bf,flat eD ds++rest)) (e:i≠j) (g:n=ds.length) (l:0<n) (h:n<=4096) (f:Int) {K:Int->A2->Prop}
 (k: ∀d,aL D G w0 d (L.set j (bf,flat eD (dD ds f (aO 0 0))++rest))->K (vz ds f (aO 0 0)) d):aA AB 79 (.el (.one (.int .i64))) [ag (af bp),aa f] w K:=by
 subst g;exact aA.Dt H j a (λw1 H=>Vf (H.get b) (H.get a) (H.ne b a e) h f) k
theorem Vu (H:aL D G w0 w L) (i j:Nat) {bp bf n c:Nat} {ds:List DT} {rest:List AF} (b:L[i]? =some (bp,[.slice (af bf) n c])) (a:L[j]? =some (bf,flat eD ds++rest)) (e:i≠j) (f:n=ds.length) (h:0<n) (g:n<=4096) (y o:Int) {K:Int×Int×Unit->A2->Prop}
 (k: ∀d,aL D G w0 d (L.set j (bf,flat eD (dG ds y o)++rest))->K (fh ds y o,dN ds y o,()) d):aA AB 172 (.bu [.one (.int .i64),.one (.int .i64)]) [ag (af bp),aa y,aa o] w K:=by
 subst f;exact aA.Dt H j a (λw1 H=>Vi (H.get b) (H.get a) (H.ne b a e) rfl g y o) k
theorem aa8 (H:aL D G w0 w L) (i:Nat) {bp n c:Nat} {a:Option AC} (b:L[i]? =some (bp,[.slice a n c])):ae AB 62 [ag (af bp)] w (aa (n:Int)):=
 ae.of (s:= .el (.one (.int .i64))) λw' h=>rT ((H.get b).ext h)
theorem Vv (H:aL D G w0 w L) (i j:Nat) {bp bf n c:Nat} {ds:List DT} {rest:List AF} (a:L[i]? =some (bp,[.slice (af bf) n c])) (b:L[j]? =some (bf,flat eD ds++rest)) (d:n=ds.length) (e:n<=4096) (v:Int):
 ae AB 30 [ag (af bp),aa v] w (aa (cq ds v:Nat)):=
 ae.of (s:= .el (.one (.int .i64))) λw' h=>Ei ((H.get a).ext h) ((H.get b).ext h) d e v
theorem ab4 (H:aL D G w0 w L) (i j:Nat) {bp bf n c:Nat} {ds:List DT} {rest:List AF} (a:L[i]? =some (bp,[.slice (af bf) n c])) (b:L[j]? =some (bf,flat eD ds++rest)) (d:n=ds.length) (f:Int):
 ae AB 25 [ag (af bp),aa f] w ((Sh.bu [eD,.one .bool]).gK (oH ds f,xk ds f,())):=by
 subst d;exact ae.of (s:= .bu [eD,.one .bool]) λw' h=>Gn ((H.get a).ext h) ((H.get b).ext h) f
theorem RF (H:aL D G w0 w L) (i j:Nat) {bp bf n c:Nat} {ds:List DT} {rest:List AF} (b:L[i]? =some (bp,[.slice (af bf) n c])) (d:L[j]? =some (bf,flat eD ds++rest)) (e:n=ds.length) (f:n<=4096) (v:Int) {K:Option AC×Nat×Nat->A2->Prop}
 (k: ∀r rows a,aL D G w0 a (L++rows)->n9 eI rows r ((fX ds v).map λi=>((i:Nat):Int))->K r a):aA AB 166 (.el (.one .slice)) [ag (af bp),aa v] w K:=
 aA.YC H (λw1 H=>Rw (H.get b) (H.get d) e f v) k
end
end Go.Proofs.YtlcenllcmeebhaaGreat.D
namespace Go.Proofs.YtlcenllcmeebhaaGreat
set_option maxRecDepth 100000
open Go.RX D
abbrev ET:Type:=Bool×Int×Bool×Int×Unit
abbrev PT:Type:=Int×Int×Int×Unit
abbrev sEn:List Sc:=[.bool,.int .i64,.bool,.int .i64]
abbrev TH:List Sc:=[.int .i64,.int .i64,.int .i64]
def zE:ET:=(false,0,false,0,())
def e9 (v:Int):ET:=(Ic (B v).toNat,FA (B v).toNat,JY (B v).toNat,Fj (B v).toNat,())
def dp (e:ET):Bool:=fO e.1 e.2.1 e.2.2.1 e.2.2.2.1
def Nz (e:ET):Int:=Fz e.1 e.2.1 e.2.2.1 e.2.2.2.1
def b_ (f:Int):ET:=(true,0,false,f,())
def aH (ws:List Int) (i:Int):ET:=e9 (dC ws i)
def de (ws:List Int) (pg:Int):Nat->Int->List PT
 |0,f=>[(f,0,dQ f pg 0,())]
 |l+1,f=>(f,((l+1:Nat):Int),dQ f pg ((l+1:Nat):Int),())::if dp (aH ws (dQ f pg ((l+1:Nat):Int)))=true then de ws pg l (aH ws (dQ f pg ((l+1:Nat):Int))).2.2.2.1 else[]
theorem xE (ws:List Int) (pg:Int) (l:Nat) (f:Int):de ws pg l f≠[]:=by cases l<;>simp[de]
theorem tJ (ws:List Int) (pg:Int): ∀(l:Nat) (f:Int),(de ws pg l f).length<=l+1
 |0,f=>by simp[de]
 |l+1,f=>by
  rw[de];split
  ·have:=tJ ws pg l (aH ws (dQ f pg ((l+1:Nat):Int))).2.2.2.1;simp only[B2];omega
  ·simp
def dE (ws:List Int) (r pg:Int):PT:=(de ws pg 3 r).getLastD (0,0,0,())
def dg (ws:List Int) (r pg:Int):ET:=aH ws (dE ws r pg).2.2.1
def e_ (ws:List Int) (f:Int) (g:Int->Int):Nat->List Int
 |0=>ws
 |i+1=>cW (e_ ws f g i) (16*f+(i:Int)) (g i)
theorem gJ (ws:List Int) (f:Int) (g:Int->Int): ∀n,(e_ ws f g n).length=ws.length
 |0=>rfl
 |n+1=>by rw[e_,cG,gJ ws f g n]
abbrev WD:Type:=List Int×List DT
def dX (s:WD) (o:Int):Int:=fh s.2 3 o
def rz (s:WD) (o:Int):Int:=dN s.2 3 o
def iF (s:WD) (o:Int) (g:Int->Int):WD:=(if rz s o=0 then e_ s.1 (dX s o) g 16 else s.1,dG s.2 3 o)
def dK (s:WD) (i:Int) (e:ET):WD:=(cW s.1 i (Nz e),s.2)
def qQ (o pg:Int):Nat->WD×PT->WD×PT
 |0,x=>x
 |n+1,x=>qQ o pg n (dK (iF x.1 o λ_=>0) x.2.2.2.1 (b_ (dX x.1 o)),(dX x.1 o,x.2.2.1 - 1,dQ (dX x.1 o) pg (x.2.2.1 - 1),()))
def l9 (s:WD) (r pg lv:Int):Int:=
 if((dg s.1 r pg).1||decide ((dE s.1 r pg).2.1<lv))=true then 5
 else if(cq s.2 0:Int)<(dE s.1 r pg).2.1 - lv then 12 else 0
def rH (s:WD) (o r pg lv:Int) (e:ET):WD:=
 if l9 s r pg lv=0 then dK (qQ o pg ((dE s.1 r pg).2.1 - lv).toNat (s,dE s.1 r pg)).1 (qQ o pg ((dE s.1 r pg).2.1 - lv).toNat (s,dE s.1 r pg)).2.2.2.1 e else s
def l_ (pg f rt:Int):Int:=if pg<0\/pg>=65536\/f<0\/f>=4096 then 2 else if rt<1\/rt>7 then 7 else 0
def lQ (s:WD) (r:Int) (gone:Bool) (pg f rt:Int):Int:=if gone=true then 6 else if l_ pg f rt=0 then l9 s r pg 0 else l_ pg f rt
def jB (s:WD) (o r:Int) (gone:Bool) (pg f rt:Int):WD:=if gone=true then s else if l_ pg f rt=0 then rH s o r pg 0 (true,rt,false,f,()) else s
def qD (pg:Int) (x:PT) (e:ET):Int:=if x.2.1=1 then e.2.2.2.1+pg % 16 else e.2.2.2.1
def bz (s:WD) (r:Int) (gone:Bool) (pg:Int):Int×Int×Int×Unit:=
 if gone=true then(0,0,6,()) else if pg<0\/pg>=65536 then(0,0,2,())
 else if(dg s.1 r pg).1=true then(qD pg (dE s.1 r pg) (dg s.1 r pg),(dg s.1 r pg).2.1,0,()) else(0,0,4,())
def oA (e:ET) (i:Int):Int:=Nz (true,e.2.1,false,e.2.2.2.1+i,())
def ma (s:WD) (o r pg:Int):Int:=if(dE s.1 r pg).2.1=0 then 0 else rz s o
def fp (s:WD) (o r pg:Int):WD:=
 if(dE s.1 r pg).2.1=0 then s
 else if rz s o=0 then dK (iF s o (oA (dg s.1 r pg))) (dE s.1 r pg).2.2.1 (b_ (dX s o)) else iF s o (oA (dg s.1 r pg))
def jC (ws:List Int) (i n:Int):List Int:=if n<1\/i<0\/i>ws.length\/n>ws.length - i then[] else(ws.drop i.toNat).take n.toNat
def wZ (ws:List Int) (f:Int):Bool:=(jC ws (16*f) 16).all λv=>v==0
def jt:List PT->WD->WD
 |x::y::l,s=>if wZ s.1 x.1=true then jt (y::l) (cW s.1 y.2.2.1 0,dD s.2 x.1 (aO 5 0)) else s
 | _,s=>s
def B_ (s:WD) (o r:Int) (gone:Bool) (pg:Int):Int:=if(bz s r gone pg).2.2.1=0 then ma s o r pg else(bz s r gone pg).2.2.1
def FW (s:WD) (o r:Int) (gone:Bool) (pg:Int):Int:=if B_ s o r gone pg=0 then(bz s r gone pg).1 else 0
def nf (s:WD) (o r:Int) (gone:Bool) (pg:Int):WD:=
 if(bz s r gone pg).2.2.1=0 then
  if ma s o r pg=0 then jt (de (fp s o r pg).1 pg 3 r).reverse (cW (fp s o r pg).1 (dE (fp s o r pg).1 r pg).2.2.1 0,(fp s o r pg).2)
  else fp s o r pg
 else s
def FX (s:WD) (o r:Int) (gone:Bool) (pg rt:Int):Int:=
 if gone=true then 6 else if l_ pg 0 rt=0 then(if(dg s.1 r pg).1=true then(if((dg s.1 r pg).2.2.1&&(dg s.1 r pg).2.1==rt)=true then 0 else ma s o r pg) else 4) else l_ pg 0 rt
def rI (s:WD) (o r:Int) (gone:Bool) (pg rt:Int):WD:=
 if gone=true then s else if l_ pg 0 rt=0 then(if(dg s.1 r pg).1=true then(if((dg s.1 r pg).2.2.1&&(dg s.1 r pg).2.1==rt)=true then s
  else if ma s o r pg=0 then dK (fp s o r pg) (dE (fp s o r pg).1 r pg).2.2.1 (true,rt,false,qD pg (dE s.1 r pg) (dg s.1 r pg),()) else fp s o r pg) else s) else s
def cU (ws:List Int):Nat->Int->List Int
 |0,f=>[f]
 |l+1,f=>f::(Ap 16).flatMap λ(i:Nat)=>if dp (aH ws (16*f+(i:Int)))=true then cU ws l (aH ws (16*f+(i:Int))).2.2.2.1 else[]
def jq (x:Int):List Int->List Int
 |[]=>[x]
 |y::l=>if y>x then y::jq x l else x::y::l
def mJ (l:List Int):List Int:=(l.foldl (λa x=>jq x a) []).reverse
def mK (s:WD) (r:Int) (gone:Bool):List Int:=if gone=true then[] else mJ (cU s.1 3 r)
def cH (s:WD) (r:Int) (gone:Bool):WD:=if gone=true then s else(s.1,(mK s r gone).foldl (λds f=>dD ds f (aO 5 0)) s.2)
structure Sys where
 bm:Nat
 bw:Nat
 bf:Nat
 bp:Nat
 c:Nat
 cp:Nat
 rw:List AF
 rf:List AF
def Sys.L (Q:Sys) (ca la:Int) (s:WD) (L0:List (Nat×List AF)):List (Nat×List AF):=
 (Q.bm,lT Q.bw s.1.length Q.c ca la)::(Q.bw,flat eW s.1++Q.rw)::(Q.bf,flat eD s.2++Q.rf)::(Q.bp,[.slice (af Q.bf) s.2.length Q.cp])::L0
structure bq (Q:Sys) (D G:List Nat) (w0 w:A2) (s:WD) (L0:List (Nat×List AF)):Prop where
 pos:0<s.1.length
 FY:0<s.2.length
 le:s.2.length<=4096
 okw:okW s.1
 kn: ∃ca la,aL D G w0 w (Q.L ca la s L0)
abbrev oK (Q:Sys) (o r:Int) (gone:Bool):List AF:=[ag (af Q.bm),ag (af Q.bp),aa o,aa r,.bool gone]
theorem ZE {ws:List Int} (h:okW ws) (i v:Int) (hv:0<=v/\v<18446744073709551616):okW (cW ws i v):=by
 intro x a;unfold cW at a;split at a
 ·rcases FR a with a|rfl
  ·exact h x a
  ·exact hv
 ·exact h x a
theorem Pj (p:Bool) (r:Int) (l:Bool) (f:Int):0<=Fz p r l f/\Fz p r l f<18446744073709551616:=by
 unfold Fz;split
 ·rename_i h;unfold vI;cases p with
  |false=>
   unfold bR at h;simp at h;obtain⟨⟨h1,a⟩,b⟩:=h;subst h1;subst a;subst b;decide
  |true=>
   unfold bR at h;simp at h;have d:(nB l:Int)<=1:=by cases l<;>decide
   have e:0<=(nB l:Int):=by omega
   have c:(nB true:Int)=1:=rfl;rw[c];omega
 ·exact⟨by decide,by decide⟩
theorem I_ (n:Nat):0<=Fj n/\Fj n<4096:=by
 unfold Fj;split<;>omega
section
variable {Q:Sys} {D G:List Nat} {w0 w w1:A2} {s:WD} {L0 L1:List (Nat×List AF)}
namespace bq
theorem ext (S:bq Q D G w0 w s L0) (h:Ext w w1):bq Q D G w0 w1 s L0:=by
 obtain⟨h1,a,b,c,ca,la,H⟩:=S;exact⟨h1,a,b,c,ca,la,H.ext h⟩
theorem al (S:bq Q D G w0 w s L0) {cs:List AF} {e:TypeId} {K:Nat->A2->Prop} (k: ∀b w1,bq Q D G w0 w1 s ((b,cs)::L0)->K b w1):aN w ⟨cs⟩ e K:=by
 obtain⟨h1,a,c,d,ca,la,H⟩:=S;exact aN.go H λb w1 H=>k b w1 ⟨h1,a,c,d,ca,la,H.perm (DH (l₁:=[_, _, _, _]))⟩
theorem en (S:bq Q D G w0 w s L0) {K:A2->Prop} (k: ∀w1,bq Q D G w0 w1 s L0->K w1):au w K:=λ_ h=>k _ (S.ext h)
theorem get (S:bq Q D G w0 w s L0) {i b:Nat} {l:List AF} (h:L0[i]? =some (b,l)):bK w b l:=by
 obtain⟨h1,a,c,d,ca,la,H⟩:=S;exact H.get (i:=i+4) h
theorem ld (i:Nat) (S:bq Q D G w0 w s L0) {g:Option Bool} {el:El} {K:el.T->Prop} {b o:Nat} {l:List AF} {x:el.T} (a:L0[i]? =some (b,l)) (hv:kx l o el=some x) (k:K x):aj w g (some ⟨b,o,none⟩) el K:=
 .of x (dV (S.get a) hv) k
theorem cA (i:Nat) (S:bq Q D G w0 w s L0) {g:Option Bool} {el:El} {K:el.T->Prop} {b o n:Nat} {l:List AF} {x:el.T} (a:L0[i]? =some (b,l)) (hv:kx l (o+n) el=some x) (k:K x):aj w g (ad (some ⟨b,o,none⟩) n) el K:=by
 rw[aW];exact .of x (dV (S.get a) hv) k
theorem fi (i:Nat) (S:bq Q D G w0 w s L0) {b:Nat} {l vs:List AF} {K:A2->Prop} (a:L0[i]? =some (b,l)) (c:vs.all (·.oneCell')=true) (d:vs.length=l.length)
 (k: ∀w1,bq Q D G w0 w1 s (L0.set i (b,vs))->K w1):az w (af b) vs K:=by
 obtain⟨h1,e,f,g,ca,la,H⟩:=S;exact az.all (i+4) H a c d λw1 H=>k w1 ⟨h1,e,f,g,ca,la,H⟩
theorem aa9 (i:Nat) (S:bq Q D G w0 w s L0) {b o:Nat} {l:List AF} {x:AF} {K:A2->Prop} (a:L0[i]? =some (b,l)) (c:x.oneCell'=true) (d:Nat.blt o l.length=true)
 (k: ∀w1,bq Q D G w0 w1 s (L0.set i (b,l.set o x))->K w1):az w (some ⟨b,o,none⟩) [x] K:=by
 obtain⟨h1,e,f,g,ca,la,H⟩:=S;exact az.one (i+4) H a c d λw1 H=>k w1 ⟨h1,e,f,g,ca,la,H⟩
theorem Cq (i:Nat) (S:bq Q D G w0 w s L0) {b o n:Nat} {l:List AF} {x:AF} {K:A2->Prop} (a:L0[i]? =some (b,l)) (c:x.oneCell'=true) (d:Nat.blt (o+n) l.length=true)
 (k: ∀w1,bq Q D G w0 w1 s (L0.set i (b,l.set (o+n) x))->K w1):az w (ad (some ⟨b,o,none⟩) n) [x] K:=by
 rw[aW];exact S.aa9 i a c d k
theorem go (S:bq Q D G w0 w s L0) {P:Program} {f:FuncId} {sh:Sh} {args:List AF} {K:sh.T->A2->Prop} (k: ∀w1,bq Q D G w0 w1 s L0->aC P f sh args w1 K):aA P f sh args w K:=λ_ h=>k _ (S.ext h)
theorem sub (S:bq Q D G w0 w s L0) (h:L1.Sublist L0):bq Q D G w0 w s L1:=by
 obtain⟨h1,a,b,c,ca,la,H⟩:=S;exact⟨h1,a,b,c,ca,la,H.sub (((((h.cons_cons _).cons_cons _).cons_cons _).cons_cons _))⟩
theorem tail {x:Nat×List AF} (S:bq Q D G w0 w s (x::L0)):bq Q D G w0 w s L0:=S.sub (Cd _ _)
theorem perm (S:bq Q D G w0 w s L0) (h:L1.Perm L0):bq Q D G w0 w s L1:=by
 obtain⟨h1,a,b,c,ca,la,H⟩:=S;exact⟨h1,a,b,c,ca,la,H.perm ((((h.cons _).cons _).cons _).cons _)⟩
theorem load (S:bq Q D G w0 w s L0) (i:Int) {K:Int×Int×Unit->A2->Prop} (k: ∀a,bq Q D G w0 a s L0->K (dC s.1 i,BT s.1 i,()) a):
 aA AB 37 (.bu [.one (.int .u64),.one (.int .i64)]) [ag (af Q.bm),aa i] w K:=by
 obtain⟨h1,b,c,d,ca,la,H⟩:=S;exact D9 H 0 1 rfl rfl (by decide) rfl h1 i λa H=>k a ⟨h1,b,c,d, _, _,H⟩
theorem store (S:bq Q D G w0 w s L0) (i v:Int) (hv:0<=v/\v<18446744073709551616) {K:Int->A2->Prop} (k: ∀a,bq Q D G w0 a (cW s.1 i v,s.2) L0->K (BT s.1 i) a):
 aA AB 38 (.el (.one (.int .i64))) [ag (af Q.bm),aa i,ay v] w K:=by
 obtain⟨h1,b,d,e,ca,la,H⟩:=S;refine KW H 0 1 rfl rfl (by decide) rfl h1 i v λa H=>k a ⟨?_,b,d,ZE e i v hv,wO s.1 i ca,wO s.1 i la,?_⟩
 ·show 0<(cW s.1 i v).length;rw[cG];exact h1
 ·unfold Sys.L;show aL D G w0 a ((Q.bm,lT Q.bw (cW s.1 i v).length Q.c _ _):: _);rw[cG];exact H
theorem take (S:bq Q D G w0 w s L0) (y o:Int) {K:Int×Int×Unit->A2->Prop} (k: ∀a,bq Q D G w0 a (s.1,dG s.2 y o) L0->K (fh s.2 y o,dN s.2 y o,()) a):
 aA AB 172 (.bu [.one (.int .i64),.one (.int .i64)]) [ag (af Q.bp),aa y,aa o] w K:=by
 obtain⟨h1,b,c,d,ca,la,H⟩:=S;refine Vu H 3 2 rfl rfl (by decide) rfl b c y o λa H=>k a ⟨h1,?_,?_,d,ca,la,?_⟩
 ·show 0<(dG s.2 y o).length;rw[vh];exact b
 ·show(dG s.2 y o).length<=4096;rw[vh];exact c
 ·unfold Sys.L;show aL D G w0 a (_:: _:: _::(Q.bp,[.slice _ (dG s.2 y o).length _]):: _);rw[vh];exact H
theorem T2 (S:bq Q D G w0 w s L0) (f y o:Int) {K:Int->A2->Prop} (k: ∀a,bq Q D G w0 a (s.1,dD s.2 f (aO y o)) L0->K (vz s.2 f (aO y o)) a):
 aA AB 138 (.el (.one (.int .i64))) [ag (af Q.bp),aa f,aa y,aa o] w K:=by
 obtain⟨h1,b,c,d,ca,la,H⟩:=S;refine Vr H 3 2 rfl rfl (by decide) rfl b c f y o λa H=>k a ⟨h1,?_,?_,d,ca,la,?_⟩
 ·show 0<(dD s.2 f (aO y o)).length;rw[jg];exact b
 ·show(dD s.2 f (aO y o)).length<=4096;rw[jg];exact c
 ·unfold Sys.L;show aL D G w0 a (_:: _:: _::(Q.bp,[.slice _ (dD s.2 f (aO y o)).length _]):: _);rw[jg];exact H
theorem cnt (S:bq Q D G w0 w s L0) (v:Int):ae AB 30 [ag (af Q.bp),aa v] w (aa (cq s.2 v:Nat)):=by
 obtain⟨h1,b,a,c,ca,la,H⟩:=S;exact Vv H 3 2 rfl rfl rfl a v
theorem aaq (S:bq Q D G w0 w s L0):ae AB 117 [ag (af Q.bm)] w (aa (s.1.length:Nat)):=by
 obtain⟨h1,a,b,c,ca,la,H⟩:=S;exact ae.of (s:= .el (.one (.int .i64))) λw' h'=>I3 ((H.get (i:=0) rfl).ext h')
theorem YG (S:bq Q D G w0 w s L0):ae AB 62 [ag (af Q.bp)] w (aa (s.2.length:Nat)):=by
 obtain⟨h1,a,b,c,ca,la,H⟩:=S;exact aa8 H 3 rfl
end bq
end
set_option maxRecDepth 100000
open Go.RX D
def stE (gone:Bool):Int:=if gone=true then 6 else 0
def aa_ (r:Int) (gone:Bool):Int:=if gone=true then -1 else r
theorem Ja (pg f rt:Int) (w:A2):ae AB 215 [aa pg,aa f,aa rt] w (aa (l_ pg f rt)):=by
 refine ae.of (s:= .el (.one (.int .i64))) λw' _=>ai (C:=N0) (aQ:=λ_=>[]) (AG (LC _ _ _ w' _) ?_);unfold l_;refine ab (λc=>λw1 h1=>⟨?_,h1⟩) (λc=>ab (λd=>λw1 h1=>⟨?_,h1⟩) (λd=>λw1 h1=>⟨?_,h1⟩))
 ·simp at c;rw[av (by omega)]
 ·simp at c d;rw[ao (by omega),av (by omega)]
 ·simp at c d;rw[ao (by omega),ao (by omega)]
theorem Jb (f:Int) (w:A2):ae AB 241 [aa f] w (.agg ⟨[.bool true,aa 0,.bool false,aa f]⟩):=by
 refine ae.of (s:= .el (.agg sEn)) (v:=b_ f) λw' _=>aR (C:=N0) (aQ:=λ_=>[]) (AG (LD f w' _) ?_);have H:=At.start [] w';exact aN.go H λb a H=>az.all 0 H rfl rfl rfl λc H=>au.go H λd H=>aj.at 0 H rfl rfl ⟨rfl,H.all⟩
theorem Jc {pg:Int} (a:0<=pg) (x:PT) (e:ET) (g:0<=e.2.2.2.1/\e.2.2.2.1<4096) (w:A2):ae AB 194 [aa pg,.agg ⟨[aa x.1,aa x.2.1,aa x.2.2.1]⟩,.agg ⟨[.bool e.1,aa e.2.1,.bool e.2.2.1,aa e.2.2.2.1]⟩] w (aa (qD pg x e)):=by
 refine ae.of (s:= .el (.one (.int .i64))) λw' _=>ai (C:=N0) (aQ:=λ_=>[]) (AG (LF pg x.1 x.2.1 x.2.2.1 e.1 e.2.1 e.2.2.1 e.2.2.2.1 w' _) ?_);have H:=At.start [] w';unfold qD;refine aN.go H λb h H=>aN.go H λi j H=>⟨rfl,aj.cv 1 H rfl rfl (ab (λc=>⟨rfl,aj.cv 0 H rfl rfl ⟨trivial,by decide,au.go H λd H=>⟨?_,H.all⟩⟩⟩) (λc=>⟨rfl,aj.cv 0 H rfl rfl (au.go H λd H=>⟨?_,H.all⟩)⟩))⟩
 ·have c:x.2.1=1:=by simpa using c
  rw[av c];have f:eZ pg (fS 1)=pg % 16:=by
   have:fS 1=16:=rfl;rw[this];exact Int.tmod_eq_emod_of_nonneg a
  rw[f,ax (by omega) (by omega)]
 ·have c: ¬ x.2.1=1:=by simpa using c
  rw[ao c]
section
variable {Q:Sys} {D G:List Nat} {w0 w:A2} {s:WD} {L0:List (Nat×List AF)} {bt:Nat} {o r:Int} {gone:Bool}
namespace bq
theorem state (S:bq Q D G w0 w s L0) (i:Nat) (a:L0[i]? =some (bt,oK Q o r gone)):ae AB 88 [ag (af bt)] w (aa (stE gone)):=by
 have hb:=S.get a;refine ae.of (s:= .el (.one (.int .i64))) λw' h'=>ai (C:=N0) (aQ:=λ_=>[]) (AG (LB _ w' _) ?_);have hb:=hb.ext h';refine⟨λ_=>rfl,λ_=>rfl,aj.of (af Q.bm) (by rw[aW];exact hb.ow rfl) (an rfl ⟨rfl,rfl,aj.of gone (by rw[aW];exact hb.ow rfl) ?_⟩)⟩;cases gone with
 |true=>exact aB rfl λw1 h1=>⟨rfl,h1⟩
 |false=>exact an rfl λw1 h1=>⟨rfl,h1⟩
theorem root (S:bq Q D G w0 w s L0) (i:Nat) (a:L0[i]? =some (bt,oK Q o r gone)):ae AB 56 [ag (af bt)] w (aa (aa_ r gone)):=by
 refine ae.of (s:= .el (.one (.int .i64))) λw' h'=>ai (C:=N0) (aQ:=λ_=>[]) (AG (Rx _ w' _) ?_);have S:=S.ext h';refine⟨_,S.state i a,?_⟩;cases gone with
 |true=>exact aB rfl λw1 h1=>⟨rfl,h1⟩
 |false=>exact an rfl ⟨rfl,rfl,S.cA i a rfl λw1 h1=>⟨rfl,h1⟩⟩
theorem at_ (S:bq Q D G w0 w s L0) (k:Nat) (d:L0[k]? =some (bt,oK Q o r gone)) (i:Int) {K:ET->A2->Prop} (c: ∀a,bq Q D G w0 a s L0->K (aH s.1 i) a):
 aA AB 235 (.el (.agg sEn)) [ag (af bt),aa i] w K:=by
 refine S.go λw1 S=>aR (C:=N0) (aQ:=λ_=>[]) (AG (Ph _ i w1 K) ?_);refine S.al λb a S=>⟨rfl,rfl,S.cA (k+1) d rfl (S.load i λf S=>⟨?_,S.al λg j S=>S.fi 0 rfl rfl rfl λl S=>S.ld 0 rfl rfl (S.fi 1 rfl rfl rfl λm S=>S.en λe S=>S.ld 1 rfl rfl (c e S.tail.tail))⟩)⟩;have h:=Gg S.okw i;exact BZ h.1 h.2
theorem lay (S:bq Q D G w0 w s L0) (k:Nat) (d:L0[k]? =some (bt,oK Q o r gone)) (i:Int) (e:ET) {K:Unit->A2->Prop} (c: ∀a,bq Q D G w0 a (dK s i e) L0->K () a):
 aA AB 222 (.bu []) [ag (af bt),aa i,.agg ⟨[.bool e.1,aa e.2.1,.bool e.2.2.1,aa e.2.2.2.1]⟩] w K:=by
 refine S.go λw1 S=>ai (C:=N0) (aQ:=λ_=>[]) (AG (Vj _ i e.1 e.2.1 e.2.2.1 e.2.2.2.1 w1 K) ?_);exact S.al λb a S=>S.ld 0 rfl rfl ⟨trivial,rfl,rfl,S.cA (k+1) d rfl (S.store i _ (Pj _ _ _ _) λg S=>S.en λf S=>c f S.tail)⟩
end bq
theorem Gq {ds:List DT} {y o:Int} (h: ¬ dN ds y o=0):fh ds y o=0:=by
 unfold dN at h;unfold fh;cases a:iG ds with
 |none=>rfl
 |some n=>
  have b: ¬ ds.length=0:=λe=>by
   have:ds=[]:=GS.1 e;subst this;cases a
  rw[ao b,a] at h;exact ao h
theorem vi (ds:List DT) (y o:Int) (h0:0<ds.length):0<=fh ds y o/\fh ds y o<ds.length:=by
 unfold fh;cases a:iG ds with
 |none=>exact⟨Dd 0,by show(0:Int)< _;omega⟩
 |some n=>
  unfold iG at a;rw[FQ] at a;have h1:=a.1;dsimp only;split<;>omega
end
set_option maxRecDepth 100000
open Go.RX D
section
variable {Q:Sys} {D G:List Nat} {w0 w:A2} {s:WD} {L0:List (Nat×List AF)} {bt:Nat} {o r:Int} {gone:Bool}
namespace bq
theorem aa' (S:bq Q D G w0 w s L0) (i:Nat) (b:L0[i]? =some (bt,oK Q o r gone)) {K:Int×Int×Unit->A2->Prop} (k: ∀d,bq Q D G w0 d (iF s o (λ_=>0)) L0->K (dX s o,rz s o,()) d):
 aA AB 205 (.bu [.one (.int .i64),.one (.int .i64)]) [ag (af bt),.func (.func 206) #[] #[]] w K:=by
 refine S.go λw1 S=>ai (C:=N0) (aQ:=qY) (AG (LG _ w1 K) ?_);have A:=vi s.2 3 o S.FY;have B:=S.le;refine⟨rfl,rfl,S.cA i b rfl ⟨rfl,rfl,S.cA i b rfl (S.take 3 o λd S=>?_)⟩⟩;by_cases a:rz s o=0
 ·have f:iF s o (λ_=>0)=(e_ s.1 (dX s o) (λ_=>0) 16,dG s.2 3 o):=by unfold iF;rw[av a]
  rw[f,a] at k;have g:dN s.2 3 o=0:=a;refine an (by simp[g]) ⟨λn v w'=> ∃m:Nat,n=16 - m/\m<=16/\v.1=(m:Int)/\bq Q D G w0 w' (e_ s.1 (dX s o) (λ_=>0) m,dG s.2 3 o) L0,⟨16,λj h=>⟨0,rfl,by omega,rfl,S.ext h⟩⟩,?_⟩;rintro n ⟨v,u⟩ j ⟨m,rfl,E,e,S⟩;dsimp only at e ⊢;subst e;refine ab (λc=>⟨rfl,rfl,S.cA i b rfl ?_⟩) (λc=>S.en λl S=>k l ?_)
  ·have c:m<16:=by simp at c;omega
   refine λl p=>ai (C:=N0) (aQ:=λ_=>[]) (AG (RA _ l _) λF q=>?_);have S:=(S.ext p).ext q;have t:(0:Int)<=0/\(0:Int)<18446744073709551616:=by decide
   refine⟨trivial,trivial,by rw[aW];exact(S.get b).ow rfl,trivial,trivial,?_⟩;have x:aJ .i64 (iy .i64 16 (fh s.2 3 o)) (m:Int)=16*dX s o+(m:Int):=by
    have:dX s o=fh s.2 3 o:=rfl;rw[eJ (by omega) (by omega),ax (by omega) (by omega),this]
   rw[x];refine S.store _ _ t λH S=>λI y=>⟨16 - (m+1),by omega,m+1,rfl,by omega,?_,S.ext y⟩;rw[ax (by omega) (by omega)];omega
  ·have c: ¬ m<16:=by simp at c;omega
   have:m=16:=by omega
   subst this;exact S
 ·have f:iF s o (λ_=>0)=(s.1,dG s.2 3 o):=by unfold iF;rw[ao a]
  have z:dX s o=0:=Gq a;rw[f,z] at k;have g: ¬ dN s.2 3 o=0:=a;exact aB (by simp[g]) (S.en λj S=>k j S)
theorem aba (S:bq Q D G w0 w s L0) (i:Nat) (b:L0[i]? =some (bt,oK Q o r gone)) {K:Int×Int×Unit->A2->Prop} (k: ∀d,bq Q D G w0 d (iF s o (λ_=>0)) L0->K (dX s o,rz s o,()) d):
 aA AB 205 (.bu [.one (.int .i64),.one (.int .i64)]) [ag (af bt),.func (.func 240) #[] #[]] w K:=by
 refine S.go λw1 S=>ai (C:=N0) (aQ:=qZ) (AG (LH _ w1 K) ?_);have A:=vi s.2 3 o S.FY;have B:=S.le;refine⟨rfl,rfl,S.cA i b rfl ⟨rfl,rfl,S.cA i b rfl (S.take 3 o λd S=>?_)⟩⟩;by_cases a:rz s o=0
 ·have f:iF s o (λ_=>0)=(e_ s.1 (dX s o) (λ_=>0) 16,dG s.2 3 o):=by unfold iF;rw[av a]
  rw[f,a] at k;have g:dN s.2 3 o=0:=a;refine an (by simp[g]) ⟨λn v w'=> ∃m:Nat,n=16 - m/\m<=16/\v.1=(m:Int)/\bq Q D G w0 w' (e_ s.1 (dX s o) (λ_=>0) m,dG s.2 3 o) L0,⟨16,λj h=>⟨0,rfl,by omega,rfl,S.ext h⟩⟩,?_⟩;rintro n ⟨v,u⟩ j ⟨m,rfl,E,e,S⟩;dsimp only at e ⊢;subst e;refine ab (λc=>⟨rfl,rfl,S.cA i b rfl ?_⟩) (λc=>S.en λl S=>k l ?_)
  ·have c:m<16:=by simp at c;omega
   refine λl p=>ai (C:=N0) (aQ:=λ_=>[]) (AG (RB _ l _) λF q=>?_);have S:=(S.ext p).ext q;have t:(0:Int)<=0/\(0:Int)<18446744073709551616:=by decide
   refine⟨trivial,trivial,by rw[aW];exact(S.get b).ow rfl,trivial,trivial,?_⟩;have x:aJ .i64 (iy .i64 16 (fh s.2 3 o)) (m:Int)=16*dX s o+(m:Int):=by
    have:dX s o=fh s.2 3 o:=rfl;rw[eJ (by omega) (by omega),ax (by omega) (by omega),this]
   rw[x];refine S.store _ _ t λH S=>λI y=>⟨16 - (m+1),by omega,m+1,rfl,by omega,?_,S.ext y⟩;rw[ax (by omega) (by omega)];omega
  ·have c: ¬ m<16:=by simp at c;omega
   have:m=16:=by omega
   subst this;exact S
 ·have f:iF s o (λ_=>0)=(s.1,dG s.2 3 o):=by unfold iF;rw[ao a]
  have z:dX s o=0:=Gq a;rw[f,z] at k;have g: ¬ dN s.2 3 o=0:=a;exact aB (by simp[g]) (S.en λj S=>k j S)
theorem abb (S:bq Q D G w0 w s L0) (i:Nat) (b:L0[i]? =some (bt,oK Q o r gone)) (j:Nat) {be:Nat} {e:ET} (hb:L0[j]? =some (be,[.bool e.1,aa e.2.1,.bool e.2.2.1,aa e.2.2.2.1])) (B:0<=e.2.2.2.1/\e.2.2.2.1<4096) {K:Int×Int×Unit->A2->Prop} (k: ∀d,bq Q D G w0 d (iF s o (oA e)) L0->K (dX s o,rz s o,()) d):
 aA AB 205 (.bu [.one (.int .i64),.one (.int .i64)]) [ag (af bt),.func (.func 242) #[] #[ag (af be)]] w K:=by
 refine S.go λw1 S=>ai (C:=N0) (aQ:=q_) (AG (LI _ _ w1 K) ?_);have E:=vi s.2 3 o S.FY;have F:=S.le;refine⟨rfl,rfl,S.cA i b rfl ⟨rfl,rfl,S.cA i b rfl (S.take 3 o λd S=>?_)⟩⟩;by_cases a:rz s o=0
 ·have f:iF s o (oA e)=(e_ s.1 (dX s o) (oA e) 16,dG s.2 3 o):=by unfold iF;rw[av a]
  rw[f,a] at k;have g:dN s.2 3 o=0:=a;refine an (by simp[g]) ⟨λn v w'=> ∃m:Nat,n=16 - m/\m<=16/\v.1=(m:Int)/\bq Q D G w0 w' (e_ s.1 (dX s o) (oA e) m,dG s.2 3 o) L0,⟨16,λl h=>⟨0,rfl,by omega,rfl,S.ext h⟩⟩,?_⟩;rintro n ⟨v,u⟩ l ⟨m,rfl,H,ev,S⟩;dsimp only at ev ⊢;subst ev;refine ab (λc=>⟨rfl,rfl,S.cA i b rfl ?_⟩) (λc=>S.en λp S=>k p ?_)
  ·have c:m<16:=by simp at c;omega
   refine λp q=>ai (C:=N0) (aQ:=λ_=>[]) (AG (Ho _ _ p _) ?_);have S:=S.ext q;refine⟨rfl,S.cA j hb rfl ⟨rfl,S.cA j hb rfl ⟨trivial,S.en λI S=>?_⟩⟩⟩;have t:Fz true e.2.1 false (aJ .i64 e.2.2.2.1 (m:Int))=oA e (m:Int):=by
    rw[ax (by omega) (by omega)];rfl
   rw[t];have x:0<=oA e (m:Int)/\oA e (m:Int)<18446744073709551616:=Pj _ _ _ _;refine⟨trivial,trivial,by rw[aW];exact(S.get b).ow rfl,trivial,trivial,?_⟩;have y:aJ .i64 (iy .i64 16 (fh s.2 3 o)) (m:Int)=16*dX s o+(m:Int):=by
    have:dX s o=fh s.2 3 o:=rfl;rw[eJ (by omega) (by omega),ax (by omega) (by omega),this]
   rw[y];refine S.store _ _ x λJ S=>λL z=>⟨16 - (m+1),by omega,m+1,rfl,by omega,?_,S.ext z⟩;rw[ax (by omega) (by omega)];omega
  ·have c: ¬ m<16:=by simp at c;omega
   have:m=16:=by omega
   subst this;exact S
 ·have f:iF s o (oA e)=(s.1,dG s.2 3 o):=by unfold iF;rw[ao a]
  have A:dX s o=0:=Gq a;rw[f,A] at k;have g: ¬ dN s.2 3 o=0:=a;exact aB (by simp[g]) (S.en λl S=>k l S)
end bq
end
set_option maxRecDepth 100000
open Go.RX D
section
variable {D G:List Nat} {w0 w:A2} {L:List (Nat×List AF)}
def XP (e:El) (b:Nat) (xs:List e.T) (a:List (Nat×List AF)):Prop:=
 (xs=[]/\a=[(b,[.slice none 0 0])])\/ ∃bs c rest,a=[(b,[.slice (af bs) xs.length c]),(bs,flat e xs++rest)]/\(flat e xs++rest).length=c*aD e/\xs.length<=c
theorem XP.head {e:El} {b:Nat} {xs:List e.T} {a:List (Nat×List AF)} (h:XP e b xs a): ∃s:Option AC×Nat×Nat,a[0]? =some (b,[.slice s.1 s.2.1 s.2.2]):=by
 rcases h with ⟨_,rfl⟩|⟨bs,c,rest,rfl, _⟩
 ·exact⟨(none,0,0),rfl⟩
 ·exact⟨(_, _, _),rfl⟩
theorem XP.push {e:El} {b d:Nat} {xs:List e.T} {x:e.T} {f Z:List (Nat×List AF)} {s:Option AC×Nat×Nat} (u:XP e b xs f) (i:f[0]? =some (b,[.slice s.1 s.2.1 s.2.2])) (H:aL D G w0 w ((d,cellsOf e x)::(f++Z)))
 (j:gT e=true) {t:TypeId} {size bytes:Nat} {z:Array AF} (l:size=aD e) (m:z.size=aD e) (hb:(xs.length+1)*bytes<=140737488355328) {K:A2->Prop}
 (k: ∀o w',XP e b (xs++[x]) o->aL D G w0 w' (o++Z)->K w'):
 mz w t size bytes z (s.1,s.2.1,s.2.2) (some ⟨d,0,none⟩,1,1) λr a=>az a (af b) [.slice r.1 r.2.1 r.2.2] K:=by
 obtain⟨p,n,c⟩:=s;rcases u with ⟨rfl,rfl⟩|⟨bs,A,rest,rfl,h1,v⟩
 ·cases i;refine aL.grow (Ls:=[]) (L0:=(b,[.slice none 0 0])::Z) (xs:=[]) H (.inl ⟨rfl,rfl,rfl⟩) j l m hb λbs c rest w' g1 g H=>?_;refine az.all 1 H rfl rfl rfl λa H=>k [(b,[.slice (af bs) 1 c]),(bs,flat e [x]++rest)] a (.inr ⟨bs,c,rest,rfl,g1,g⟩) ?_;exact H.perm (GI _ _ _)
 ·cases i;have y:aL D G w0 w ((d,cellsOf e x)::([(bs,flat e xs++rest)]++((b,[.slice (af bs) xs.length c])::Z))):=H.perm (GJ _ (GI _ _ _));refine aL.grow y (.inr ⟨bs,c,rest,rfl,rfl,h1,v⟩) j l m hb λh c2 q w' g1 g H=>?_;refine az.all 1 H rfl rfl rfl λa H=>k [(b,[.slice (af h) (xs.length+1) c2]),(h,flat e (xs++[x])++q)] a (.inr ⟨h,c2,q,?_,g1,by simpa using g⟩) ?_
  ·rw[Do];rfl
  ·exact H.perm (GI _ _ _)
theorem xV.new {l:Nat} {rec:Loop} {w':A2} {b:Nat} {cs:List AF} (h:xV D G w0 w L l rec) (H:At [] w w' [(b,cs)]):xV D G w0 w' ((b,cs)::L) l rec/\Ob l w w':=by
 have a:Ext w w':=H.all;have hb:w.heap.size<=b:=by
  rcases H.own (b,cs) Dr with h|h
  ·exact h
  ·cases h
 exact⟨⟨h.1,h.2.1.more a hb (H.dk (b,cs) Dr),h.2.2.ext a⟩,Ob.u5 a⟩
theorem LP {bm bw n c:Nat} {ca la:Int} {ws:List Int} {rest:List AF} (H:aL D G w0 w L) (j:Nat) (b:L[j]? =some (bm,lT bw n c ca la)) (f:bK w0 bw (flat eW ws++rest)) (g:bw∉G) (h:n=ws.length) (h0:0<n) (i:Int) {K:Int×Int×Unit->A2->Prop}
 (k: ∀a,aL D G w0 a (L.set j (bm,lT bw n c (wO ws i ca) la))->K (dC ws i,BT ws i,()) a):
 aA AB 37 (.bu [.one (.int .u64),.one (.int .i64)]) [ag (af bm),aa i] w K:=by
 refine aA.go H λw1 H=>ai (C:=M0) (aQ:=λ_=>[]) (AG (D8 _ i w1 K) ?_);refine y7 H j b h h0 i (λhi a H=>?_) (λhi a H=>?_)
 ·unfold wO dC BT at k;rw[hi,av rfl,av rfl,av rfl] at k;have l:=jd.1 hi;refine an rfl ⟨rfl,?_⟩;rw[aW];have e:=aal (ws:=ws) (rest:=rest) (i:=i.toNat) (by omega);rw[DE] at e;exact aj.fQ H f g e (au.go H λd H=>k d H)
 ·unfold wO dC BT at k;rw[hi,ao (by decide),ao (by decide),ao (by decide)] at k;refine aB rfl (au.go H λd H=>k d ?_);rw[show L.set j (bm,lT bw n c ca la)=L from Ga λm=>by
   by_cases e:j=m
   ·subst e;rw[C5 (Ae.1 b).1,b]
   ·rw[BX e]]
  exact H
structure TbR (Q:Sys) (ws:List Int) (w:A2) (bt:Nat) (o r:Int) (gone:Bool):Prop where
 tb:bK w bt (oK Q o r gone)
 wd:bK w Q.bw (flat eW ws++Q.rw)
 tne:bt≠Q.bm
 wne:Q.bw≠Q.bm
 okw:okW ws
 pos:0<ws.length
abbrev Mc (Q:Sys) (n:Nat) (l:List AF):Prop:= ∃ca la,l=lT Q.bw n Q.c ca la
theorem Pm {Q:Sys} {ws:List Int} {bt:Nat} {o r:Int} {gone:Bool} {D:List Nat} {L:List (Nat×List AF)} {ca la:Int} (R:TbR Q ws w0 bt o r gone) (H:aL D [Q.bm] w0 w L) (j:Nat) (d:L[j]? =some (Q.bm,lT Q.bw ws.length Q.c ca la)) (i:Int) {K:ET->A2->Prop}
 (k: ∀ca a,aL D [Q.bm] w0 a (L.set j (Q.bm,lT Q.bw ws.length Q.c ca la))->K (aH ws i) a):
 aA AB 235 (.el (.agg sEn)) [ag (af bt),aa i] w K:=by
 have t1:bt∉[Q.bm]:=by simpa using R.tne
 have t2:Q.bw∉[Q.bm]:=by simpa using R.wne
 refine aA.go H λw1 H=>aR (C:=N0) (aQ:=λ_=>[]) (AG (Ph _ i w1 K) ?_);refine aN.go H λb a H=>⟨rfl,rfl,aj.kX H R.tb t1 rfl (LP H (j+1) d R.wd t2 rfl R.pos i λf H=>⟨?_,aN.go H λg l H=>az.all 0 H rfl rfl rfl λm H=>aj.at 0 H rfl rfl (az.all 1 H rfl rfl rfl λn H=>au.go H λe H=>aj.at 1 H rfl rfl (k (wO ws i ca) e (H.sub ?_)))⟩)⟩
 ·have h:=Gg R.okw i;exact BZ h.1 h.2
 ·exact(Cd _ _).trans (Cd _ _)
end
abbrev emP (x:PT×Unit):List AF:=[.agg ⟨[aa x.1.1,aa x.1.2.1,aa x.1.2.2.1]⟩]
abbrev XQ (x:PT):PT×Unit:=(x,())
def Oj (ws:List Int) (pg:Int):Nat->Int->List PT
 |0, _=>[]
 |l+1,f=>if dp (aH ws (dQ f pg ((l+1:Nat):Int)))=true then de ws pg l (aH ws (dQ f pg ((l+1:Nat):Int))).2.2.2.1 else[]
theorem LQ (ws:List Int) (pg:Int): ∀(l:Nat) (f:Int),de ws pg l f=(f,(l:Int),dQ f pg (l:Int),())::Oj ws pg l f
 |0, _=>rfl
 | _+1, _=>rfl
theorem RG {ws:List Int} {pg:Int} {l:Nat} {f:Int} (h:dp (aH ws (dQ f pg (l:Int)))=false):Oj ws pg l f=[]:=by
 cases l with
 |zero=>rfl
 |succ l=>rw[Oj,h,ao (by decide)]
theorem ZF {Q:Sys} {ws:List Int} {bt b c:Nat} {o r pg:Int} {gone:Bool} {N:Nat} (E:okW ws) (F:0<ws.length):
 ItJ AB 244 (λy=>[.func (.yield y) #[] #[],ag (af b),ag (af c)]) emP N Q.bm (Mc Q ws.length)
  [(bt,oK Q o r gone),(Q.bw,flat eW ws++Q.rw),(b,[ag (af bt)]),(c,[aa pg])] ((de ws pg 3 r).map XQ):=by
 intro y J K G a X O w t i j;refine Calls.mono (ai (C:=N0) (aQ:=ur) (Post:=λ_ w'=>J (a++(de ws pg 3 r).map XQ) X O w') (AG (Ry y _ _ w _) ?_)) ?_
 rotate_left
 ·rintro e w' ⟨x,rfl,h⟩;exact⟨_,rfl,h⟩
 have x1:=i (bt,oK Q o r gone) (by simp);have z:=i (Q.bw,flat eW ws++Q.rw) (by simp);have A:=i (b,[ag (af bt)]) (by simp);have I:=i (c,[aa pg]) (by simp);refine aj.of (af bt) ((K.dk j A).2.ow rfl) ⟨rfl,rfl,aj.of r (by rw[aW];exact(K.dk j x1).2.ow rfl) ⟨λn v w'=>(∃l:Nat,v.2.1=(l:Int)/\n=l+1/\l<=3/\ ∃pre,de ws pg 3 r=pre++de ws pg l v.1/\J (a++pre.map XQ) X O w')\/(v.2.1= -1/\J (a++(de ws pg 3 r).map XQ) X O w'),
  ⟨4,λw1 h1=> .inl ⟨3,rfl,rfl,B5 _,[],rfl,by simpa using K.ext j h1⟩⟩,?_⟩⟩
 rintro n ⟨f,lv,u⟩ w1 (⟨l,g,rfl,hl,pre,d,j⟩|⟨g,j⟩)
 ·dsimp only at g d ⊢;subst g;refine aB (by simp) (aj.of pg ((K.dk j I).2.ow rfl) ⟨trivial,?_⟩);obtain⟨lm,⟨ca,la,rfl⟩,H⟩:=K.at0 j;have R:TbR Q ws w1 bt o r gone:=⟨(K.dk j x1).2,(K.dk j z).2,(K.dk j x1).1,(K.dk j z).1,E,F⟩;have hb:=K.dk j A;have L:b∉[Q.bm]:=by simpa using hb.1
  refine aN.go H λM P H=>az.all 0 H rfl rfl rfl λw3 H=>aj.fQ H hb.2 L rfl ⟨rfl,aj.cv 0 H rfl rfl (Pm R H 1 rfl _ λca2 w4 H=>aN.go H λB w5 H=>az.all 0 H rfl rfl rfl λw6 H=>aj.at 1 H rfl rfl λS T=>?_)⟩;have H:=H.ext T;rw[LQ ws pg l f] at d;have U:(a++pre.map XQ).length<N:=by
   rw[d] at t;simp only[List.map_append,Do,DA,B2] at t ⊢;omega
  have V:=K.tq (Y:=[(B, _),(M, _)]) j H ⟨_, _,rfl⟩;refine G _ (XQ (f,(l:Int),dQ f pg (l:Int),())) _ _ S _ U V λw8 m=>?_;have D:=(K.dk m (x:=(B, _)) (Dr)).2;refine aj.of (aH ws (dQ f pg (l:Int))) (dV D rfl) ⟨λ_=>trivial,ab (λp W q=>?_) (λp=>⟨rfl,aj.of (aH ws (dQ f pg (l:Int))).2.2.2.1 (by rw[aW];exact D.ow rfl) λW q=>?_⟩)⟩
  ·have s:dp (aH ws (dQ f pg (l:Int)))=false:=by simpa[dp] using p
   have k:=K.sub (K.ext m q) (X':=X) (λx h=>by simp[h]) (Bx _);rw[RG s] at d;rw[d];simpa using k
  ·have s:dp (aH ws (dQ f pg (l:Int)))=true:=by simpa[dp] using p
   have k:=K.sub (K.ext m q) (X':=X) (λx h=>by simp[h]) (Bx _);rcases l with _|l
   ·refine⟨0,by omega,.inr ⟨rfl,?_⟩⟩;rw[d];simpa[Oj] using k
   ·refine⟨l+1,by omega,.inl ⟨l,?_,rfl,by omega,pre++[(f,((l+1:Nat):Int),dQ f pg ((l+1:Nat):Int),())],?_,by simpa using k⟩⟩
    ·show aY .i64 ((l+1:Nat):Int) 1=(l:Int);rw[bD (by omega) (by omega)];omega
    ·rw[d,Oj,av s,Dw];rfl
 ·dsimp only at g ⊢;subst g;exact an rfl λP Z=>K.ext j Z
section
variable {Q:Sys} {D G:List Nat} {w0 w:A2} {s:WD} {L0:List (Nat×List AF)} {bt:Nat} {o r:Int} {gone:Bool}
namespace bq
theorem way (S:bq Q D G w0 w s L0) (pg:Int) {K:Option AC×Option AC×Unit->A2->Prop} (k: ∀b c a,bq Q D G w0 a s ((c,[aa pg])::(b,[ag (af bt)])::L0)->K (some ⟨b,0,none⟩,some ⟨c,0,none⟩,()) a):
 aA AB 219 aap [ag (af bt),aa pg] w K:=by
 refine S.go λw1 S=>ai (C:=N0) (aQ:=λ_=>[]) (AG (Vk _ pg w1 K) ?_);exact S.al λb a S=>S.al λc e S=>S.en λd S=>k b c d S
theorem Od (S:bq Q D G w0 w s L0) (k0:Nat) (p:L0[k0]? =some (bt,oK Q o r gone)) {b c:Nat} {pg:Int} (hb:(b,[In (af bt)])∈L0) (hc:(c,[aa pg])∈L0)
 {K:Option AC×Nat×Nat->A2->Prop} (k: ∀bs cs rest g,bq Q D G w0 g s ((bs,flat (.agg TH) (de s.1 pg 3 r)++rest)::L0)->K (some ⟨bs,0,none⟩,(de s.1 pg 3 r).length,cs) g):
 aA AB 218 (.el (.one .slice)) [.func (.func 244) #[] #[ag (af b),ag (af c)]] w K:=by
 refine S.go λw1 S=>aR (C:=N0) (aQ:=uu) (AG (Rz _ _ w1 K) ?_);obtain⟨h1,q,t,m,ca,la,H0⟩:=S;have H:=H0.again;refine aN.go H λbl g H=>?_;have u:(de s.1 pg 3 r).length<=4:=tJ s.1 pg 3 r;refine z5.Od (N:=4) (bm:=Q.bm) (mc:=Mc Q s.1.length) (Rg0:=[(bl,[.slice none 0 0])]) (Lb:=(Q.bw,flat eW s.1++Q.rw)::(Q.bf,flat eD s.2++Q.rf)::(Q.bp,[.slice (af Q.bf) s.2.length Q.cp])::L0) H ⟨_, _,rfl⟩
  (ZF (o:=o) (r:=r) (gone:=gone) (bt:=bt) (pg:=pg) m h1) ?_ (by simpa using u) (λxs d=>XP (.agg TH) bl (xs.map (·.1)) d) (.inl ⟨rfl,rfl⟩) ?_ ?_
 ·intro x e;simp only[DN,FS,or_false] at e;rcases e with rfl|rfl|rfl|rfl
  ·simp[Ca p]
  ·simp
  ·simp[hb]
  ·simp[hc]
 ·intro b0 x d Z rr l rec v R hN a f y;refine De.go f rfl ?_;refine aN.go (At.start [] v) λz A i=>az.all 0 i rfl rfl rfl λB i=>?_;obtain⟨E,F⟩:=xV.new f i;obtain⟨sl,j⟩:=a.head;refine BS.goO E λwb H I J=>aj.at 1 H (by rw[List.getElem?_cons_succ,DQ (Ae.1 j).1];exact j) rfl (aj.at 0 H rfl rfl (aN.go H λL n H=>λM O=>?_));have H:=H.ext O;have P:aL [] _ wb M ((L,cellsOf (.agg TH) x.1)::(d++((z,[aa x.1.1,aa x.1.2.1,aa x.1.2.2.1])::Z))):=H.perm (GJ _ DH);refine a.push j P rfl rfl rfl (by simp only[DA];omega) λT w8 U V=>sw.k_ I (V.sub (List.Sublist.append (Bx _) (Cd _ _))) λW X Y=>y T W (by simpa using U) X ((F.trans J).trans Y)
 ·rintro rr rec A l' d ⟨ca2,la2,rfl⟩ a f;refine dz.none f λB H=>?_;have Wv:((de s.1 pg 3 r).map XQ).map (·.1)=de s.1 pg 3 r:=by
   rw[List.map_map];exact List.map_id _
  rw[Wv] at a;rcases a with ⟨h, _⟩|⟨bs,cs,rest,rfl,g1,g2⟩
  ·exact absurd h (xE _ _ _ _)
  ·refine aj.at 0 H rfl rfl (sy.go H λn H=>k bs cs rest n ⟨h1,q,t,m,ca2,la2,H0.join (λx e=>e) ?_⟩);refine(H.sub (Cd _ _)).perm ?_;exact DH (l₁:=[_, _, _, _])
end bq
end
set_option maxRecDepth 100000
open Go.RX D
theorem CC (ws:List Int) (r pg:Int):(de ws pg 3 r)[(de ws pg 3 r).length - 1]? =some (dE ws r pg):=by
 have a:=xE ws pg 3 r;unfold dE;rw[List.getLastD_eq_getLast?, <-List.getLast?_eq_getElem?,List.getLast?_eq_some_getLast a];rfl
theorem pB (ws:List Int) (a:Int):0<=(aH ws a).2.2.2.1/\(aH ws a).2.2.2.1<4096:=I_ _
section
variable {Q:Sys} {D G:List Nat} {w0 w:A2} {s:WD} {L0:List (Nat×List AF)} {bt:Nat} {o r:Int} {gone:Bool}
namespace bq
theorem end_ (S:bq Q D G w0 w s L0) (k0:Nat) (c:L0[k0]? =some (bt,oK Q o r gone)) (pg:Int) {K:PT×ET×Unit->A2->Prop} (k: ∀a,bq Q D G w0 a s L0->K (dE s.1 r pg,dg s.1 r pg,()) a):
 aA AB 193 (.bu [.agg TH,.agg sEn]) [ag (af bt),aa pg] w K:=by
 refine S.go λw1 S=>aR (C:=N0) (aQ:=λ_=>[]) (AG (Vl _ pg w1 K) ?_);refine S.al λb a S=>S.al λg h S=>S.way pg λj bc l S=>S.Od (pg:=pg) (k0+4) c (by simp) (by simp) λbs cs rest m S=>?_;have n:(de s.1 pg 3 r).length<=4:=tJ s.1 pg 3 r;have p:0<(de s.1 pg 3 r).length:=Gd.2 (xE s.1 pg 3 r);have d:aY .i64 (((de s.1 pg 3 r).length:Nat):Int) 1=(((de s.1 pg 3 r).length - 1:Nat):Int):=by rw[bD (by omega) (by omega)];omega
 have e:=fV (S.get (i:=0) rfl) (CC s.1 r pg);dsimp only;rw[d];refine⟨⟨rfl,by omega,by omega⟩,aj.of (dE s.1 r pg) e ?_⟩;refine S.al λq t S=>S.fi 0 rfl rfl rfl λu S=>S.ld 0 rfl rfl ⟨rfl,S.cA 0 rfl rfl (S.at_ (k0+6) c _ λv S=>⟨dV (S.get (i:=0) rfl) rfl,S.fi 5 rfl rfl rfl λx S=>S.fi 4 rfl rfl rfl λy S=>S.en λf S=>S.ld 5 rfl rfl (S.ld 4 rfl rfl (k f S.tail.tail.tail.tail.tail.tail))⟩)⟩
theorem query (S:bq Q D G w0 w s L0) (k0:Nat) (e:L0[k0]? =some (bt,oK Q o r gone)) (pg:Int) {K:Int×Int×Int×Unit->A2->Prop} (k: ∀a,bq Q D G w0 a s L0->K (bz s r gone pg) a):
 aA AB 139 (.bu [.one (.int .i64),.one (.int .i64),.one (.int .i64)]) [ag (af bt),aa pg] w K:=by
 refine S.go λw1 S=>ai (C:=N0) (aQ:=λ_=>[]) (AG (LJ _ pg w1 K) ?_);refine⟨_,S.state k0 e,?_⟩;unfold bz at k;cases gone with
 |true=>
  rw[av rfl] at k;exact aB rfl (S.en λa S=>k a S)
 |false=>
  rw[ao (by decide)] at k;refine an rfl (ab (λc=>S.en λa S=>?_) (λc=>?_))
  ·simp only[E5,decide_eq_true_eq] at c;rw[av c] at k;exact k a S
  ·simp only[GH,decide_eq_false_iff_not] at c;rw[ao (by omega)] at k;refine S.end_ k0 e pg λa S=>S.al λb f S=>S.al λg h S=>S.fi 1 rfl rfl rfl λi S=>S.fi 0 rfl rfl rfl λj S=>⟨rfl,S.cA 0 rfl rfl (ab (λc2=>S.en λd S=>?_) (λc2=>S.ld 1 rfl rfl (S.ld 0 rfl rfl ⟨_,Jc (by omega) (dE s.1 r pg) (dg s.1 r pg) (pB _ _) _,rfl,S.cA 0 rfl rfl (S.en λd S=>?_)⟩)))⟩
   ·have c2:(dg s.1 r pg).1=false:=by simpa using c2
    rw[c2,ao (by decide)] at k;exact k d S.tail.tail
   ·have c2:(dg s.1 r pg).1=true:=by simpa using c2
    rw[c2,av rfl] at k;exact k d S.tail.tail
theorem split (S:bq Q D G w0 w s L0) (k0:Nat) (a:L0[k0]? =some (bt,oK Q o r gone)) (pg:Int) {K:Int->A2->Prop} (k: ∀d,bq Q D G w0 d (fp s o r pg) L0->K (ma s o r pg) d):
 aA AB 217 (.el (.one (.int .i64))) [ag (af bt),aa pg] w K:=by
 refine S.go λw1 S=>ai (C:=N0) (aQ:=λ_=>[]) (AG (LK _ pg w1 K) ?_);unfold fp ma at k;refine S.end_ k0 a pg λd S=>S.al λb j S=>S.al λh l S=>S.fi 1 rfl rfl rfl λm S=>S.fi 0 rfl rfl rfl λn S=>⟨rfl,S.cA 1 rfl rfl (ab (λc=>S.en λf S=>?_) (λc=>?_))⟩
 ·have c:(dE s.1 r pg).2.1=0:=by simpa using c
  rw[av c,av c] at k;exact k f S.tail.tail
 ·have c: ¬ (dE s.1 r pg).2.1=0:=by simpa using c
  rw[ao c,ao c] at k;refine S.abb (k0+2) a 0 (be:=h) (e:=dg s.1 r pg) rfl (pB _ _) λf S=>ab (λc2=>⟨rfl,S.cA 1 rfl rfl ⟨b_ (dX s o),Jb _ _,S.lay (k0+2) a _ (b_ (dX s o)) λg S=>S.en λi S=>?_⟩⟩) (λc2=>S.en λg S=>?_)
  ·have c2:rz s o=0:=by simpa using c2
   rw[av c2] at k;exact k i S.tail.tail
  ·have c2: ¬ rz s o=0:=by simpa using c2
   rw[ao c2] at k;exact k g S.tail.tail
end bq
end
set_option maxRecDepth 100000
open Go.RX D
theorem Jd (ws:List Int) (pg:Int): ∀(l:Nat) (f:Int) (x:PT),x∈de ws pg l f->0<=x.2.1/\x.2.1<=(l:Int)
 |0,f,x,h=>by
  rw[de,FU] at h;subst h;exact⟨Dd _,Dd _⟩
 |l+1,f,x,h=>by
  rw[de] at h;rcases DN.1 h with rfl|h
  ·exact⟨by show(0:Int)<=((l+1:Nat):Int);omega,Dd _⟩
  ·split at h
   ·have:=Jd ws pg l _ x h;omega
   ·cases h
theorem Vw (ws:List Int) (r pg:Int):0<=(dE ws r pg).2.1/\(dE ws r pg).2.1<=3:=by
 have:=Jd ws pg 3 r _ (Ca (CC ws r pg));omega
section
variable {Q:Sys} {D G:List Nat} {w0 w:A2} {s:WD} {L0:List (Nat×List AF)} {bt:Nat} {o r:Int} {gone:Bool}
namespace bq
theorem put (S:bq Q D G w0 w s L0) (k0:Nat) (a:L0[k0]? =some (bt,oK Q o r gone)) (pg lv:Int) (E:0<=lv/\lv<=3) (e:ET) {K:Int->A2->Prop} (k: ∀f,bq Q D G w0 f (rH s o r pg lv e) L0->K (l9 s r pg lv) f):
 aA AB 216 (.el (.one (.int .i64))) [ag (af bt),aa pg,aa lv,.agg ⟨[.bool e.1,aa e.2.1,.bool e.2.2.1,aa e.2.2.2.1]⟩] w K:=by
 refine S.go λw1 S=>ai (C:=N0) (aQ:=wj) (AG (Vm _ pg lv e.1 e.2.1 e.2.2.1 e.2.2.2.1 w1 K) ?_);have F:=Vw s.1 r pg;unfold rH at k;refine S.al λb f S=>S.end_ (k0+1) a pg λf S=>S.al λj H S=>S.al λl I S=>S.fi 1 rfl rfl rfl λJ S=>S.fi 0 rfl rfl rfl λL S=>⟨rfl,S.cA 0 rfl rfl ⟨λ_=>rfl,S.cA 1 rfl rfl ?_⟩⟩;by_cases c1:((dg s.1 r pg).1||decide ((dE s.1 r pg).2.1<lv))=true
 ·have c:l9 s r pg lv=5:=by unfold l9;rw[av c1]
  rw[c,ao (by decide)] at k;exact aB c1 (S.en λd S=>k d S.tail.tail.tail)
 have m:=c1;simp only[E5,decide_eq_true_eq,not_or] at m;refine an (by simpa using c1) ⟨rfl,rfl,S.cA (k0+3) a rfl ⟨_,S.cnt 0,rfl,S.cA 1 rfl rfl ?_⟩⟩;have p:aY .i64 (dE s.1 r pg).2.1 lv=(dE s.1 r pg).2.1 - lv:=bD (by omega) (by omega);dsimp only;rw[p];by_cases c2:(cq s.2 0:Int)<(dE s.1 r pg).2.1 - lv
 ·have c:l9 s r pg lv=12:=by unfold l9;rw[ao c1,av c2]
  rw[c,ao (by decide)] at k;exact aB (by simpa using c2) (S.en λd S=>k d S.tail.tail.tail)
 have c:l9 s r pg lv=0:=by unfold l9;rw[ao c1,ao c2]
 rw[c,av rfl] at k;obtain⟨n0,q⟩: ∃n0,n0=((dE s.1 r pg).2.1 - lv).toNat:=⟨_,rfl⟩;rw[<-q] at k;obtain⟨z,g⟩: ∃z,z=qQ o pg n0 (s,dE s.1 r pg):=⟨_,rfl⟩;rw[<-g] at k;refine an (by simpa using c2) ⟨λn _ w'=> ∃t:WD, ∃x:PT,qQ o pg n (t,x)=z/\x.2.1=lv+(n:Int)/\n<=3/\bq Q D G w0 w' t ((l,[.bool (dg s.1 r pg).1,aa (dg s.1 r pg).2.1,.bool (dg s.1 r pg).2.2.1,aa (dg s.1 r pg).2.2.2.1])::(j,[aa x.1,aa x.2.1,aa x.2.2.1])::(b,[.bool e.1,aa e.2.1,.bool e.2.2.1,aa e.2.2.2.1])::L0),
  ⟨n0,λd v=>⟨s,dE s.1 r pg,g.symm,by omega,by omega,S.ext v⟩⟩,?_⟩
 rintro n u d ⟨t,x,h,M,N,S⟩;refine⟨rfl,S.cA 1 rfl rfl ?_⟩;rcases n with _|n
 ·refine an (by simp;omega) ⟨rfl,S.cA 1 rfl rfl (S.ld 2 rfl rfl (S.lay (k0+3) a _ e λy S=>S.en λi S=>k i ?_))⟩;have:z=(t,x):=h.symm;rw[this];exact S.tail.tail.tail
 ·refine aB (by simp;omega) (S.aba (k0+3) a λy S=>⟨rfl,S.cA 1 rfl rfl ⟨b_ (dX t o),Jb _ _,S.lay (k0+3) a _ (b_ (dX t o)) λi S=>⟨rfl,S.cA 1 rfl rfl ⟨rfl,S.cA 1 rfl rfl ⟨trivial,S.fi 1 rfl rfl rfl λO S=>λP A=>⟨n,by omega,dK (iF t o λ_=>0) x.2.2.1 (b_ (dX t o)),(dX t o,x.2.1 - 1,dQ (dX t o) pg (x.2.1 - 1),()),h,by show x.2.1 - 1= _;omega,by omega,?_⟩⟩⟩⟩⟩⟩);have B:aY .i64 x.2.1 1=x.2.1 - 1:=bD (by omega) (by omega);have S:=S.ext A;rw[B] at S;exact S
theorem map (S:bq Q D G w0 w s L0) (k0:Nat) (b:L0[k0]? =some (bt,oK Q o r gone)) (pg f rt:Int) {K:Int->A2->Prop} (k: ∀a,bq Q D G w0 a (jB s o r gone pg f rt) L0->K (lQ s r gone pg f rt) a):
 aA AB 173 (.el (.one (.int .i64))) [ag (af bt),aa pg,aa f,aa rt] w K:=by
 refine S.go λw1 S=>ai (C:=N0) (aQ:=λ_=>[]) (AG (Vn _ pg f rt w1 K) ?_);unfold jB lQ at k;refine⟨_,S.state k0 b,?_⟩;cases gone with
 |true=>
  rw[av rfl,av rfl] at k;exact aB rfl (S.en λa S=>k a S)
 |false=>
  have d: ¬ (false=true):=by decide
  rw[ao d,ao d] at k;refine an rfl ⟨_,Ja _ _ _ _,ab (λc=>S.en λa S=>?_) (λc=>S.put k0 b pg 0 ⟨by decide,by decide⟩ (true,rt,false,f,()) λa S=>S.en λe S=>?_)⟩
  ·have c: ¬ l_ pg f rt=0:=by simpa using c
   rw[ao c,ao c] at k;exact k a S
  ·have c:l_ pg f rt=0:=by simpa using c
   rw[av c,av c] at k;exact k e S
end bq
end
set_option maxRecDepth 100000
open Go.RX D
theorem Vx {p:Prop} {α:Type} (d:Decidable p) (c: ¬ p) (a b:α):(Cc (λ_=>a) (λ_=>b) d:α)=a:=by
 cases d with
 |isFalse h=>rfl
 |isTrue h=>exact absurd h c
theorem Je {ws:List Int} {i n:Int} (h: ¬ (n<1\/i<0\/i>ws.length\/n>ws.length - i)):(jC ws i n).length=n.toNat:=by
 unfold jC;rw[ao h,FV,Gi];omega
section
variable {D G:List Nat} {w0 w:A2} {L:List (Nat×List AF)}
theorem ZG {bw n c:Nat} {ws:List Int} {rest:List AF} (q:bK w bw (flat eW ws++rest)) (K:n=ws.length) (hc:n<=c) (hb:n<=1048576) (i k:Int):
 aC AB 80 (.el (.one .slice)) [.agg ⟨[.slice (af bw) n c]⟩,aa i,aa k] w (λr w'=>lN w w' eW r (jC ws i k)/\Ext w w'):=by
 refine ai (C:=N0) (aQ:=λ_=>[]) (AG (Vq _ n c i k w _) ?_);have H:=At.start [] w;refine aN.go H λb L H=>⟨λ_=>rfl,aj.cv 0 H rfl rfl ⟨λ_=>rfl,aj.cv 0 H rfl rfl ?_⟩⟩;by_cases f:k<1\/i<0\/i>ws.length\/k>ws.length - i
 ·have s:jC ws i k=[]:=av f;rw[s];refine aB ?_ (au.go H λm H=>⟨lN.nil w m eW,H.all⟩);dsimp only;simp only[E5,decide_eq_true_eq];by_cases h1:k<1
  ·exact .inl (.inl (.inl h1))
  ·by_cases t:i<0
   ·exact .inl (.inl (.inr t))
   ·by_cases u:i>(n:Int)
    ·exact .inl (.inr u)
    ·refine .inr ?_;rw[bD (by omega) (by omega)];omega
 ·have M:1<=k/\0<=i/\i+k<=n:=by omega
  have v:aY .i64 (n:Int) i=(n:Int) - i:=bD (by omega) (by omega);refine an ?_ ?_
  ·dsimp only;rw[v];simp only[GH,decide_eq_false_iff_not];omega
  refine NJ.go H (z:=[ay 0]) rfl (by omega) (Dd _) (by omega) (by omega) λd m H=>⟨rfl,aj.cv 1 H rfl rfl ⟨by dsimp only;omega,λx y=>?_⟩⟩;have H:=H.ext y;have A:=q.ext H.all;dsimp only;rw[Vx _ (by show ¬ (((c:Nat):Int).toNat=i.toNat);omega)];have e:(jC ws i k).length=k.toNat:=Je f;have B:jC ws i k=(ws.drop i.toNat).take k.toNat:=ao f;have a:(flat eW (jC ws i k)).length=k.toNat:=by rw[aG,e];exact DE _
  have D:Nat.min (((n:Nat):Int).toNat - i.toNat) k.toNat=k.toNat:=Nat.min_eq_right (by omega);have g:(Gj k.toNat [ay 0]).flatten.length=k.toNat:=by simp
  refine⟨flat eW (jC ws i k),?_,.inr (.inr ⟨?_,?_⟩),?_⟩
  ·show oI x (ad (af bw) (i.toNat*1)) (Nat.min (((n:Nat):Int).toNat - i.toNat) k.toNat*1) _;rw[D,aW,DE,DE];refine A.oI a λj E=>?_;have F:=Ix ws;have G:=Ix (jC ws i k);rw[GG,F,G,DQ (by rw[DA];omega),H4,H4,B,H5 E,H7]
  ·rw[a];exact(H.get (i:=0) rfl).st (by rw[g];omega)
  ·have:=jP eW (jC ws i k) rfl;exact this
  ·have p:=H.put 0 (b:=d) (o:=0) rfl (flat eW (jC ws i k)) (by rw[a,g];omega);have I:List.drop k.toNat (Gj k.toNat [ay 0]).flatten=[]:=Fh (Nat.le_of_eq g);rw[GG,a,I,Db,List.take_zero,List.nil_append] at p;refine au.go p λN l=>⟨?_,l.all⟩;have J:w.heap.size<=d:=by
    rcases l.own (d,flat eW (jC ws i k)) Dr with h|h
    ·exact h
    ·cases h
   refine⟨e.symm,by rw[e];exact B5 _,.inr ⟨d, _,rfl,J,l.get (i:=0) rfl,by rw[a];exact(DE _).symm,?_⟩⟩;rw[e];exact HB (by rw[a];exact Nat.le_of_eq (DE _).symm)
theorem LR {e:El} {xs:List e.T} {rest:List AF} {i:Nat} {x:e.T} (a:xs[i]? =some x) {j:Nat} (b:j<aD e):(flat e xs++rest)[i*aD e+j]? =(cellsOf e x)[j]? :=by
 have hi:i<xs.length:=(Ae.1 a).1;have c:i*aD e+j<(flat e xs).length:=by
  rw[aG];have:(i+1)*aD e<=xs.length*aD e:=Nat.mul_le_mul_right _ hi;rw[Nat.add_mul] at this;omega
 rw[DQ c];exact yW e xs i x a j b
end
section
variable {Q:Sys} {D G:List Nat} {w0 w:A2} {s:WD} {L0:List (Nat×List AF)} {bt:Nat} {o r:Int} {gone:Bool}
abbrev NX (Q:Sys) (s:WD):Prop:=s.1.length<=Q.c/\s.1.length<=1048576
namespace bq
theorem words (S:bq Q D G w0 w s L0) (hc:NX Q s) (i n:Int) {K:Option AC×Nat×Nat->A2->Prop} (k: ∀x rows a,bq Q D G w0 a s (L0++rows)->n9 eW rows x (jC s.1 i n)->K x a):
 aA AB 45 (.el (.one .slice)) [ag (af Q.bm),aa i,aa n] w K:=by
 refine S.go λw1 S=>ai (C:=N0) (aQ:=λ_=>[]) (AG (LO _ i n w1 K) ?_);obtain⟨h1,b,c,d,ca,la,H⟩:=S;refine an rfl ⟨rfl,rfl,aj.cv 0 H rfl rfl ?_⟩;refine aA.YC H (λa H=>ZG (H.get (i:=1) rfl) rfl hc.1 hc.2 i n) λx rows a H e=>au.go H λf H=>k x rows f ⟨h1,b,c,d,ca,la,H⟩ e
theorem tK (S:bq Q D G w0 w s L0) {j bs:Nat} {l:List PT} {rest:List AF} (hb:L0[j]? =some (bs,flat (.agg TH) l++rest)) {i:Nat} {x:PT} (a:l[i]? =some x) (q:Nat) {K:Int->Prop} {v:Int} (b:q<3) (hv:(cellsOf (.agg TH) x)[q]? =some (aa v)) (k:K v):
 aj w none (ad (ad (af bs) (i*3)) q) (.one (.int .i64)) K:=by
 rw[aW,aW,GG];refine aj.of v ((S.get hb).ow ?_) k;have:=LR (e:= .agg TH) (rest:=rest) a (j:=q) b;rw[show i*3+q=i*aD (.agg TH)+q from rfl,this,hv];rfl
end bq
end
set_option maxRecDepth 100000
open Go.RX D
theorem abc (x:PT) (t:WD):jt [x] t=t:=rfl
theorem abd (x y:PT) (l:List PT) (t:WD):jt (x::y::l) t=if wZ t.1 x.1=true then jt (y::l) (cW t.1 y.2.2.1 0,dD t.2 x.1 (aO 5 0)) else t:=rfl
theorem LU {l:List PT} {q:Nat} {x y:PT} (b:l[q]? =some y) (c:l[q+1]? =some x):(l.take (q+2)).reverse=x::y::(l.take q).reverse/\(l.take (q+1)).reverse=y::(l.take q).reverse:=by
 have a:l.take (q+1)=l.take q++[y]:=by rw[Ft,b];rfl
 have d:l.take (q+2)=l.take q++[y]++[x]:=by rw[Ft,c,a];rfl
 exact⟨by rw[d];simp,by rw[a];simp⟩
theorem Jf {ws:List Int} (pg:Int): ∀(l:Nat) (f:Int),(0<=f/\f<4096)-> ∀x∈de ws pg l f,0<=x.1/\x.1<4096
 |0,f,a,x,h=>by
  rw[de,FU] at h;subst h;exact a
 |l+1,f,a,x,h=>by
  rw[de] at h;rcases DN.1 h with rfl|h
  ·exact a
  ·split at h
   ·exact Jf pg l _ (pB _ _) x h
   ·cases h
section
variable {Q:Sys} {D G:List Nat} {w0 w:A2} {s:WD} {L0:List (Nat×List AF)} {bt:Nat} {o r:Int} {gone:Bool}
namespace bq
theorem thin (S:bq Q D G w0 w s L0) (hc:NX Q s) (k0:Nat) (p:L0[k0]? =some (bt,oK Q o r gone)) {j bs c:Nat} {l:List PT} {rest:List AF} (hb:L0[j]? =some (bs,flat (.agg TH) l++rest)) (hl:l.length<=4) (T: ∀x∈l,0<=x.1/\x.1<4096)
 {K:Unit->A2->Prop} (k: ∀f,bq Q D G w0 f (jt l.reverse s) L0->K () f):
 aA AB 220 (.bu []) [ag (af bt),.slice (af bs) l.length c] w K:=by
 refine S.go λw1 S=>ai (C:=N0) (aQ:=uv) (AG (RC _ _ _ c w1 K) ?_);obtain⟨z,J⟩: ∃z,z=jt l.reverse s:=⟨_,rfl⟩;rw[<-J] at k;refine⟨λn v w'=> ∃t:WD,v.1+1=(n:Int)/\n<=l.length/\t.1.length=s.1.length/\jt (l.take n).reverse t=z/\bq Q D G w0 w' t L0,
  ⟨l.length,λf U=>⟨s,?_,B5 _,rfl,by rw[List.take_length];exact J.symm,S.ext U⟩⟩,?_⟩
 ·show aY .i64 ((l.length:Nat):Int) 1+1= _;rw[bD (by omega) (by omega)];omega
 rintro n ⟨v,u⟩ f ⟨t,g,hn,A,a,S⟩;dsimp only at g ⊢;rcases n with _| _|q
 ·refine an (by simp;omega) (S.en λh S=>k h ?_);rw[<-a];exact S
 ·refine an (by simp;omega) (S.en λh S=>k h ?_);have:jt (l.take (0+1)).reverse t=t:=by
   cases l with
   |nil=>rfl
   |cons x l=>exact abc x t
  rw[<-a,this];exact S
 ·obtain rfl:v=((q+1:Nat):Int):=by omega
  have b:l[q+1]? =some l[q+1]:=BO (by omega);have B:l[q]? =some l[q]:=BO (by omega);generalize l[q+1]=x at b;generalize l[q]=y at B;obtain⟨t2,t1⟩:=LU B b;rw[t2,abd, <-t1] at a;have hfx:=T x (Ca b);have V:iy .i64 16 x.1=16*x.1:=eJ (by omega) (by omega);have es:aY .i64 ((q+1:Nat):Int) 1=(q:Int):=by rw[bD (by omega) (by omega)];omega
  refine aB (by simp) ⟨rfl,rfl,S.cA k0 p rfl ⟨⟨rfl,by omega,by omega⟩,rfl,S.tK hb b 0 (by decide) rfl ?_⟩⟩;rw[V];refine S.words ⟨by rw[A];exact hc.1,by rw[A];exact hc.2⟩ (16*x.1) 16 λrr rows h S L=>?_;have hll:(jC t.1 (16*x.1) 16).length<=16:=by
   by_cases M:(16:Int)<1\/16*x.1<0\/16*x.1>t.1.length\/16>t.1.length - 16*x.1
   ·rw[show jC t.1 (16*x.1) 16=[] from av M];simp
   ·rw[Je M];decide
  have W:rr.2.1=(jC t.1 (16*x.1) 16).length:=L.1;refine⟨λn v w'=> ∃m:Nat,v.1=(m:Int)/\n+m=(jC t.1 (16*x.1) 16).length/\(∀i,i<m->(jC t.1 (16*x.1) 16)[i]? =some 0)/\bq Q D G w0 w' t (L0++rows),⟨(jC t.1 (16*x.1) 16).length,λN X=>⟨0,rfl,rfl,λi hi=>by omega,S.ext X⟩⟩,?_⟩;rintro n ⟨v,u2⟩ N ⟨m,g,hnm,O,S⟩;dsimp only at g ⊢;subst g;rw[W];refine ab (λE=>?_) (λE=>?_)
  ·have P:m<(jC t.1 (16*x.1) 16).length:=by simpa using E
   have hv:=BO P;generalize (jC t.1 (16*x.1) 16)[m]=d at hv;obtain⟨g1,Y,Z,g4,ca,la,H⟩:=S;have R:=L.sl H (λx b=>by
    show x∈ _:: _:: _:: _::(L0++rows);simp[b]) m d hv
   have S:bq Q D G w0 N t (L0++rows):=⟨g1,Y,Z,g4,ca,la,H⟩;refine⟨⟨R.1,by omega,by omega⟩,aj.of d R.2 (ab (λc2=>S.en λF S=>k F ?_) (λc2=>λF h5=>⟨n - 1,by omega,m+1,?_,by omega,λi hi=>?_,S.ext h5⟩))⟩
   ·have c2: ¬ d=0:=by simpa using c2
    have I:wZ t.1 x.1=false:=by
     unfold wZ;rw[Hb];exact⟨d,Ca hv,by simpa using c2⟩
    rw[I,ao (by decide)] at a;rw[<-a];exact S.sub (Fw _ _)
   ·rw[ax (by omega) (by omega)];omega
   ·have c2:d=0:=by simpa using c2
    by_cases e:i=m
    ·subst e;rw[hv,c2]
    ·exact O i (by omega)
  ·have P: ¬ m<(jC t.1 (16*x.1) 16).length:=by simpa using E
   have I:wZ t.1 x.1=true:=by
    unfold wZ;rw[Hq];intro d XS;obtain⟨i,hi⟩:=FC XS;have:=O i (by have:=(Ae.1 hi).1;omega);rw[hi] at this;cases this;rfl
   rw[I,av rfl] at a;have S:=S.sub (Fw L0 rows);refine⟨rfl,rfl,S.cA k0 p rfl ?_⟩;rw[es];refine⟨⟨rfl,by omega,by omega⟩,rfl,S.tK hb B 2 (by decide) rfl (S.store _ 0 ⟨by decide,by decide⟩ λF S=>⟨rfl,rfl,S.cA k0 p rfl ⟨⟨rfl,by omega,by omega⟩,rfl,S.tK hb b 0 (by decide) rfl (S.T2 x.1 5 0 λw6 S=>λw7 h7=>⟨q+1,by omega, _,by show(q:Int)+1= _;omega,by omega,?_,a,S.ext h7⟩)⟩⟩)⟩;show(cW t.1 y.2.2.1 0).length=s.1.length;rw[cG];exact A
theorem DL (S:bq Q D G w0 w s L0) (hc:NX Q s) (k0:Nat) (b:L0[k0]? =some (bt,oK Q o r gone)) (m:0<=r/\r<4096) (pg:Int) {K:Int×Int×Unit->A2->Prop} (k: ∀g,bq Q D G w0 g (nf s o r gone pg) L0->K (FW s o r gone pg,B_ s o r gone pg,()) g):
 aA AB 175 (.bu [.one (.int .i64),.one (.int .i64)]) [ag (af bt),aa pg] w K:=by
 refine S.go λw1 S=>ai (C:=N0) (aQ:=λ_=>[]) (AG (LM _ pg w1 K) ?_);refine S.query k0 b pg λg S=>ab (λc=>S.en λh S=>?_) (λc=>?_)
 ·have c: ¬ (bz s r gone pg).2.2.1=0:=by simpa using c
  have a:B_ s o r gone pg=(bz s r gone pg).2.2.1:=ao c;have e:FW s o r gone pg=0:=by unfold FW;rw[a,ao c]
  have f:nf s o r gone pg=s:=ao c;rw[a,e,f] at k;exact k h S
 have c:(bz s r gone pg).2.2.1=0:=by simpa using c
 have a:B_ s o r gone pg=ma s o r pg:=av c;have f:nf s o r gone pg=if ma s o r pg=0 then jt (de (fp s o r pg).1 pg 3 r).reverse (cW (fp s o r pg).1 (dE (fp s o r pg).1 r pg).2.2.1 0,(fp s o r pg).2) else fp s o r pg:=av c;refine S.split k0 b pg λh S=>ab (λd=>S.en λi S=>?_) (λd=>?_)
 ·have d: ¬ ma s o r pg=0:=by simpa using d
  have e:FW s o r gone pg=0:=by unfold FW;rw[a,ao d]
  rw[a,e,f,ao d] at k;exact k i S
 have d:ma s o r pg=0:=by simpa using d
 have e:FW s o r gone pg=(bz s r gone pg).1:=by unfold FW;rw[a,av d]
 rw[e,a,f,av d,d] at k;have l:(fp s o r pg).1.length=s.1.length:=by
  unfold fp iF dK;split
  ·rfl
  ·split
   ·show(cW _ _ _).length= _;rw[cG,gJ]
   ·rfl
 generalize fp s o r pg=t at*
 refine S.way pg λq bc i S=>S.Od (pg:=pg) (k0+2) b (by simp) (by simp) λbs cs rest u S=>⟨rfl,rfl,S.cA (k0+3) b rfl ?_⟩;have n:(de t.1 pg 3 r).length<=4:=tJ t.1 pg 3 r;have v:0<(de t.1 pg 3 r).length:=Gd.2 (xE t.1 pg 3 r);have es:aY .i64 (((de t.1 pg 3 r).length:Nat):Int) 1=(((de t.1 pg 3 r).length - 1:Nat):Int):=by rw[bD (by omega) (by omega)];omega
 dsimp only;rw[es];refine⟨⟨rfl,by omega,by omega⟩,rfl,S.tK (j:=0) rfl (CC t.1 r pg) 2 (by decide) rfl (S.store _ 0 ⟨by decide,by decide⟩ λx S=>S.thin ⟨by show(cW _ _ _).length<= _;rw[cG,l];exact hc.1,by show(cW _ _ _).length<= _;rw[cG,l];exact hc.2⟩ (k0+3) b (j:=0) rfl n (Jf pg 3 r m) λy S=>S.en λp S=>k p S.tail.tail.tail)⟩
theorem tx (S:bq Q D G w0 w s L0) (k0:Nat) (g:L0[k0]? =some (bt,oK Q o r gone)) (pg rt:Int) {K:Int->A2->Prop} (k: ∀a,bq Q D G w0 a (rI s o r gone pg rt) L0->K (FX s o r gone pg rt) a):
 aA AB 177 (.el (.one (.int .i64))) [ag (af bt),aa pg,aa rt] w K:=by
 refine S.go λw1 S=>ai (C:=N0) (aQ:=λ_=>[]) (AG (RD _ pg rt w1 K) ?_);unfold rI FX at k;refine⟨_,S.state k0 g,?_⟩;cases gone with
 |true=>
  rw[av rfl,av rfl] at k;exact aB rfl (S.en λa S=>k a S)
 |false=>
  have j: ¬ (false=true):=by decide
  rw[ao j,ao j] at k;refine an rfl ⟨_,Ja _ _ _ _,ab (λc=>S.en λa S=>?_) (λc=>?_)⟩
  ·have c: ¬ l_ pg 0 rt=0:=by simpa using c
   rw[ao c,ao c] at k;exact k a S
  have c:l_ pg 0 rt=0:=by simpa using c
  rw[av c,av c] at k;have m:0<=pg:=by
   unfold l_ at c;by_cases h:pg<0\/pg>=65536\/(0:Int)<0\/(0:Int)>=4096
   ·rw[av h] at c;cases c
   ·omega
  refine S.end_ k0 g pg λa S=>S.al λb p S=>S.al λq t S=>S.fi 1 rfl rfl rfl λu S=>S.fi 0 rfl rfl rfl λv S=>⟨rfl,S.cA 0 rfl rfl (ab (λd=>S.en λi S=>?_) (λd=>⟨rfl,S.cA 0 rfl rfl ⟨λ_=>rfl,S.cA 0 rfl rfl (ab (λe=>S.en λi S=>?_) (λe=>?_))⟩⟩))⟩
  ·have d: ¬ (dg s.1 r pg).1=true:=by simpa using d
   rw[ao d,ao d] at k;exact k i S.tail.tail
  ·have d:(dg s.1 r pg).1=true:=by simpa using d
   rw[av d,av d] at k;have e:((dg s.1 r pg).2.2.1&&(dg s.1 r pg).2.1==rt)=true:=e;rw[av e,av e] at k;exact k i S.tail.tail
  have d:(dg s.1 r pg).1=true:=by simpa using d
  rw[av d,av d] at k;have e: ¬ ((dg s.1 r pg).2.2.1&&(dg s.1 r pg).2.1==rt)=true:=by
   have e':((dg s.1 r pg).2.2.1&&(dg s.1 r pg).2.1==rt)=false:=e;rw[e'];decide
  rw[ao e,ao e] at k;refine S.ld 1 rfl rfl (S.ld 0 rfl rfl ⟨_,Jc m (dE s.1 r pg) (dg s.1 r pg) (pB _ _) _,S.split (k0+2) g pg λi S=>ab (λf=>S.en λl S=>?_) (λf=>S.end_ (k0+2) g pg λl S=>S.fi 1 rfl rfl rfl λx S=>⟨rfl,S.cA 1 rfl rfl (S.lay (k0+2) g _ (true,rt,false,qD pg (dE s.1 r pg) (dg s.1 r pg),()) λy S=>S.en λn S=>?_)⟩)⟩)
  ·have f: ¬ ma s o r pg=0:=by simpa using f
   rw[ao f] at k;exact k l S.tail.tail
  ·have f:ma s o r pg=0:=by simpa using f
   rw[av f,f] at k;exact k n S.tail.tail
end bq
end
set_option maxRecDepth 100000
open Go.RX
noncomputable def N1:dJ AB:={N0 with cl:=[(38,.Xq)]}
def pO:Nat->aZ:=(λ|3=>[(12,Go.RX.El.one (Go.RX.Sc.int AT))]|9=>[(34,.one (.int .i64))]| _=>[])
theorem Hs (y:Nat) (p c d:Option AC) (w:A2) (i:Unit->A2->Prop):(bQ N1 pO 247 [.func (.yield y) #[] #[],ag p,ag c,ag d] w i)=(
 aN w {toList:=[.func (Fn.yield y) ⟨[]⟩ ⟨[]⟩]} 38 λb a=>aj a none (af b) (.one .Xq) λx=>aU a p λm=> ∀w1,Ext a w1->mj AB x [aa m] w1 λ(o:Bool) a=>aI (!o) (au a (i ())) (∃(I:Nat->Int×Unit->List Nat->A2->Prop),(∃n, ∀w1,Ext a w1->I n (0,()) [] w1)/\ ∀(n:Nat) (s:Int×Unit) (D1:List Nat) (w1:A2),I n s D1 w1->aI (decide (s.1<16)) (fZ w1 c λx=>aU w1 p λq=>aA
 AB 235 (.el j_) [ag x,aa (aJ .i64 (iy .i64 16 q) s.1)] w1 λ(x:Bool×Int×Bool×Int×Unit) a=>aN a ⟨[.bool false,aa 0,.bool false,aa 0]⟩ 130 λk a=>az a (af k) [.bool x.1,aa x.2.1,.bool x.2.2.1,aa x.2.2.2.1] λa=>aU a d λx=>aj a (some !x==0) (af k) j_ λ(j:Bool×Int×Bool×Int×Unit)=>((!x==0)=true->True)/\aI (x==0|| !fO j.1
 j.2.1 j.2.2.1 j.2.2.2.1) (∀e,Ext a e-> ∃(f:Nat),f<n/\I f (aJ .i64 s.1 1,()) D1 e) (fZ a c λx=>true=true/\aU a (ad (af k) 3) λt=>aU a d λu=>aA AB 239 (.el (.one (.z_ 247 3))) [ag x,aa t,aa (aY .i64 u 1)] a λx a=>z5 AB 247 (λ(y:Nat)=>[.func (Fn.yield y) ⟨[]⟩ ⟨[]⟩,ag x.1,ag x.2.1,ag x.2.2.1]) ⟨[34]⟩ a (λ(x:Int×Unit)=>[aa x.1]) (λ(l:Nat)
 (rec:Loop) (x:Int×Unit) e (R:Bool->A2->Prop)=>De l rec [aa x.1].length 1 e (BS l rec e λg=>aj g none (af b) (.one .Xq) λv=> ∀w1,Ext g w1->mj AB v [aa x.1] w1 λ(b:Bool) a=>aI (!b) (sw l rec (some Code.ret) a R) (sw l rec none a R))) λ(r:Nat) (rec:Loop) z=>dz (r+1) rec z (λg=> ∀e,Ext g e-> ∃(f:Nat),f<n/\I f (aJ .i64 s.1 1,()) (r::D1) e) (λ(id:Nat) g=>Cc (λ(h:id=2->False)=>Cc (λ(h:id=1->False)=>
 Cc (λ(h:id=0->False)=>False) (λ(h:id=0)=>sy (r::D1) g λw1=>i () w1) (match h:id.beq 0 with|true=>isTrue (Dh h)|false=>isFalse (Dl h))) (λ(h:id=1)=> ∀e,Ext g e-> ∃(f:Nat),f<n/\I f (aJ .i64 s.1 1,()) (r::D1) e) (match h:id.beq 1 with|true=>isTrue (Dh h)|false=>isFalse (Dl h))) (λ(h:id=2)=> ∀e,Ext g e-> ∃(f:Nat),f<n/\I f (aJ .i64 s.1 1,()) (r::D1) e)
 (match h:id.beq 2 with|true=>isTrue (Dh h)|false=>isFalse (Dl h))) λg=>sy (r::D1) g λw1=>i () w1)) (byD D1 (au w1 (i ())) λ(r:Nat) (D:List Nat)=>sy (r::D) w1 λw1=>i () w1))):=by kernel_rfl
open Go.RX D
section
variable {T:Type} {bm:Nat} {mc:List AF->Prop} {J:List T->List (Nat×List AF)->List (Nat×Obj)->A2->Prop} {a:List T} {X:List (Nat×List AF)} {O:List (Nat×Obj)} {w w':A2}
theorem z5.inX (K:JK bm mc J) {P:Program} {k:FuncId} {args:Nat->List AF} {ps:Array Nat} {f:T->List AF} {m:Nat->Loop->T->A2->(Bool->A2->Prop)->Prop} {n:Nat->Loop->A2->Prop} {N:Nat} {p:List (Nat×List AF)} {xs:List T}
 (j:J a X O w) (t:ItJ P k args f N bm mc p xs) (u: ∀x∈p,x∈X) (y:a.length+xs.length<=N)
 (z: ∀b x X' O' l rec c (R:Bool->A2->Prop),b.length<N->J b (X'++X) ((l,JV rec)::O') c->(∀w',J (b++[x]) (X'++X) ((l,JV rec)::O') w'->R true w')->m l rec x c R)
 (A: ∀r rec g,J (a++xs) X ((r+1,JV rec)::(r,.deferred (some []))::O) g->n r rec g):z5 P k args ps w f m n:=by
 intro w1 h1 rec _ _ B C D;have E:rec={rec with state:= .ready,pending:= .none}:=by rw[<-B, <-C]
 have sz:(w1.alloc (.deferred (some []))).heap.size=w1.heap.size+1:=lC _ _;have j1:J a X ((w1.heap.size,.deferred (some []))::O) (w1.alloc (.deferred (some []))):=K.alO (K.ext j h1) (λ_ _ _ e=>by cases e);have q:=K.alO (o:=JV rec) j1 (Iu rec _ _);rw[sz] at q
 let Z:List (Nat×Obj):=(w1.heap.size+1,JV rec)::(w1.heap.size,.deferred (some []))::O
 let i:List T->List (Nat×List AF)->List (Nat×Obj)->A2->Prop:=λb X' O' w=>J b (X'++X) (O'++Z) w
 have F:JK bm mc i:=
  {step:=λ{a' X' O' w2 c l' Y} h G hb H I L=>by
    have:=K.step h G hb H I L;show J a' ((Y++X')++X) (O'++Z) c;rw[Dw];exact this
   mem:=λh=>K.mem h
   dk:=λh hm=>K.dk h (E4 _ hm)
   obj:=λh hm=>K.obj h (E4 _ hm)
   alO:=λh d=>K.alO h d
   puO:=λh d=>K.puO h d
   sub:=λh M d=>K.sub h (λx hm=>by
    rcases Hr.1 hm with hm|hm
    ·exact E4 _ (M x hm)
    ·exact B4 _ hm) (d.append_right Z)
   perm:=λh d=>K.perm h (d.append_right Z)}
 have Q:Yd P (w1.heap.size+1) f N i:=λb x X' O' c R hb h S=>by
  refine D x c R ?_;have s:((w1.heap.size+1,JV rec)::(O'++((w1.heap.size,.deferred (some []))::O))).Perm (O'++Z):=(DH (l₁:=O') (a:=(w1.heap.size+1,JV rec)) (l₂:=(w1.heap.size,.deferred (some []))::O)).symm;exact z b x X' (O'++((w1.heap.size,.deferred (some []))::O)) _ rec c R hb (K.perm h s) (λw' h'=>S w' (K.perm h' s.symm))
 have U:(w1.alloc (.deferred (some []))).alloc (.loop rec)=(w1.alloc (.deferred (some []))).alloc (JV rec):=by
  show _=(w1.alloc (.deferred (some []))).alloc (.loop {rec with state:= .ready,pending:=none});rw[<-E]
 rw[U];have V:J a (X++X) Z ((w1.alloc (.deferred (some []))).alloc (JV rec)):=K.sub q (λx hm=>by
  rcases Hr.1 hm with hm|hm<;>exact hm) (Bx _)
 refine Calls.mono (t (w1.heap.size+1) i F Q a X [] _ y u V) ?_;rintro e g ⟨v,W,h⟩;exact⟨v,W,A _ _ _ (K.sub h (λx hm=>B4 _ hm) (Bx _))⟩
end
def oB (ws:List Int) (l:Nat) (f:Int) (i:Nat):List Int:=match l with
 |0=>[]
 |l+1=>if dp (aH ws (16*f+(i:Int)))=true then cU ws l (aH ws (16*f+(i:Int))).2.2.2.1 else[]
theorem kO (ws:List Int): ∀(l:Nat) (f:Int),cU ws l f=f::(Ap 16).flatMap (oB ws l f)
 |0,f=>by
  rw[cU];have:(Ap 16).flatMap (oB ws 0 f)=[]:=by
   rw[List.flatMap_eq_nil_iff];intro i _;rfl
  rw[this]
 |l+1,f=>rfl
theorem LV {m:Nat} (a:m<16) (g:Nat->List Int): ∃z,(Ap 16).flatMap g=(Ap m).flatMap g++(g m++z):=by
 obtain⟨z,e⟩: ∃z,Ap 16=Ap (m+1)++z:=by
  refine⟨(Ap 16).drop (m+1),?_⟩
  conv=>lhs;rw[<-I1 (m+1) (Ap 16)]
  rw[List.take_range,Nat.min_eq_left (by omega)]
 refine⟨z.flatMap g,?_⟩;rw[e,Fx,I2,Fx,Dw];simp
abbrev emI (x:Int×Unit):List AF:=[aa x.1]
abbrev TI (x:Int):Int×Unit:=(x,())
abbrev ucs (bt c1 c2 c3:Nat) (f:Int) (l:Nat):List (Nat×List AF):=[(c1,[aa f]),(c2,[ag (af bt)]),(c3,[aa (l:Int)])]
theorem LW {D G:List Nat} {w0 w:A2} {L:List (Nat×List AF)} (H:aL D G w0 w L) (p:Option AC) (f lv:Int) {K:Option AC×Option AC×Option AC×Unit->A2->Prop}
 (k: ∀b a c d,aL D G w0 d ((c,[aa lv])::(a,[aa f])::(b,[ag p])::L)->K (some ⟨a,0,none⟩,some ⟨b,0,none⟩,some ⟨c,0,none⟩,()) d):
 aA AB 239 Gp [ag p,aa f,aa lv] w K:=
 aA.go H λw1 H=>ai (C:=N0) (aQ:=λ_=>[]) (AG (Bk p f lv w1 K) (aN.go H λb d H=>aN.go H λa g H=>aN.go H λc h H=>au.go H λe H=>k b a c e H))
abbrev UIt (Q:Sys) (ws:List Int) (bt:Nat) (o r:Int) (gone:Bool) (N lv:Nat):Prop:= ∀(f:Int) (a:0<=f/\f<4096) (c1 c2 c3:Nat),
 ItJ AB 247 (λy=>[.func (.yield y) #[] #[],ag (af c1),ag (af c2),ag (af c3)]) emI N Q.bm (Mc Q ws.length)
  ((bt,oK Q o r gone)::(Q.bw,flat eW ws++Q.rw)::ucs bt c1 c2 c3 f lv) ((cU ws lv f).map TI)
theorem zF {Q:Sys} {ws:List Int} {bt:Nat} {o r:Int} {gone:Bool} {N:Nat} (jz:okW ws) (oz:0<ws.length) (lv:Nat) (BV:lv<=3) (ih: ∀l',lv=l'+1->UIt Q ws bt o r gone N l'):UIt Q ws bt o r gone N lv:=by
 intro f hf c1 c2 c3 y J K G a X O w k hX j;refine Calls.mono (aR (C:=N1) (aQ:=pO) (Post:=λ_ w'=>J (a++(cU ws lv f).map TI) X O w') (AG (Hs y _ _ _ w _) ?_)) ?_
 rotate_left
 ·rintro e w' ⟨x,rfl,h⟩;exact⟨_,rfl,h⟩
 rw[kO] at k ⊢;simp only[List.map_cons,B2,DA] at k;obtain⟨lm,⟨ca,la,rfl⟩,H⟩:=K.at0 j;refine aN.go H λb w2 H=>?_;have j:=K.tq (Y:=[(b, _)]) j H ⟨_, _,rfl⟩;have g: ∀x∈(bt,oK Q o r gone)::(Q.bw,flat eW ws++Q.rw)::ucs bt c1 c2 c3 f lv,x∈[(b,[Dn (.yield y) #[] #[]])]++X:=λx i=>B4 _ (hX x i);have q:(b,[Dn (.yield y) #[] #[]])∈[(b,[Dn (.yield y) #[] #[]])]++X:=E4 _ (FU.2 rfl);have back: ∀{a':List (Int×Unit)} {w':A2},J a' ([(b,[Dn (.yield y) #[] #[]])]++X) O w'->J a' X O w':=λh=>K.sub h (λx i=>B4 _ i) (Bx _);generalize [(b,[Dn (.yield y) #[] #[]])]++X=p at j g q back;have x1:=g (bt,oK Q o r gone) (by simp);have s:=g (Q.bw,flat eW ws++Q.rw) (by simp);have I:=g (c1,[aa f]) (by simp);have L:=g (c2,[ag (af bt)]) (by simp);have x5:=g (c3,[aa (lv:Int)]) (by simp);refine aj.of y ((K.dk j q).2.ow rfl) (aj.of f ((K.dk j I).2.ow rfl) λw3 h3=>G a (TI f) p O w3 _ (by omega) (K.ext j h3) λw4 j=>?_);refine an rfl ⟨λn v D1 w'=> ∃m:Nat,v.1=(m:Int)/\n+m=16/\J (a++TI f::((Ap m).flatMap (oB ws lv f)).map TI) p (D1.map (λr=>(r,Obj.deferred (some [])))++O) w',⟨16,λM h5=>⟨0,rfl,rfl,by simpa using K.ext j h5⟩⟩,?_⟩;rintro n ⟨v,u⟩ D1 M ⟨m,P,hnm,j⟩;dsimp only at P ⊢;subst P;refine ab (λt=>?_) (λt=>?_)
 ·have A:m<16:=by simp at t;omega
  obtain⟨z,hz⟩:=LV A (oB ws lv f);have S:(a++TI f::((Ap m).flatMap (oB ws lv f)).map TI).length+((oB ws lv f m).map TI).length<=N:=by
   rw[hz] at k;simp only[Do,B2,DA] at k ⊢;omega
  have B:(Ap (m+1)).flatMap (oB ws lv f)=(Ap m).flatMap (oB ws lv f)++oB ws lv f m:=by
   rw[I2,Fx];simp
  have ab5:aJ .i64 (iy .i64 16 f) (m:Int)=16*f+(m:Int):=by rw[eJ (by omega) (by omega),ax (by omega) (by omega)]
  have ab6:aJ .i64 (m:Int) 1=((m+1:Nat):Int):=by rw[ax (by omega) (by omega)];omega
  refine aj.of (af bt) ((K.dk j L).2.ow rfl) (aj.of f ((K.dk j I).2.ow rfl) ?_);rw[ab5,ab6];obtain⟨lm,⟨ca,la,rfl⟩,H⟩:=K.at0 j;have R:TbR Q ws M bt o r gone:=⟨(K.dk j x1).2,(K.dk j s).2,(K.dk j x1).1,(K.dk j s).1,jz,oz⟩;have D:=K.dk j x5;have T:=K.dk j L;have U:c3∉[Q.bm]:=by simpa using D.1
  have n4:c2∉[Q.bm]:=by simpa using T.1
  refine Pm R H 0 rfl _ λca2 V H=>aN.go H λW w7 H=>az.all 0 H rfl rfl rfl λw8 H=>aj.fQ H D.2 U rfl (aj.at 0 H rfl rfl ⟨λ_=>trivial,ab (λc=>λw9 h9=>?_) (λc=>?_)⟩)
  ·have E:=K.sub (K.ext (K.tq (Y:=[(W, _)]) j H ⟨_, _,rfl⟩) h9) (X':=p) (λx h=>B4 _ h) (Bx _);refine⟨n - 1,by omega,m+1,rfl,by omega,?_⟩;have F:oB ws lv f m=[]:=by
    cases lv with
    |zero=>rfl
    |succ l=>
     have c:dp (aH ws (16*f+(m:Int)))=false:=by
      have h0:((((l+1:Nat):Int))==0)=false:=by simp;omega
      simp only[h0,Bool.false_or,Bool.not_eq_true'] at c;exact c
     exact ao (by rw[c];decide)
   rw[B,F,Db];exact E
  ·have c0: ¬ lv=0/\dp (aH ws (16*f+(m:Int)))=true:=by
    simp only[GH,Bool.not_eq_false'] at c;refine⟨λe=>?_,c.2⟩;subst e;simp at c
   obtain⟨l,rfl⟩: ∃l,lv=l+1:=⟨lv - 1,by omega⟩;have F:oB ws (l+1) f m=cU ws l (aH ws (16*f+(m:Int))).2.2.2.1:=av c0.2;have elv:aY .i64 ((l+1:Nat):Int) 1=(l:Int):=by rw[bD (by omega) (by omega)];omega
   refine aj.fQ H T.2 n4 rfl ⟨rfl,aj.cv 0 H rfl rfl (aj.fQ H D.2 U rfl ?_)⟩;rw[elv];refine LW H _ _ _ λd d1 d2 w9 H=>?_;have E:=K.tq (Y:=[(d2, _),(d1, _),(d, _),(W, _)]) j H ⟨_, _,rfl⟩;rw[F] at S B;refine z5.inX K E (ih l rfl _ (pB _ _) d1 d d2) ?_ S ?_ ?_
   ·intro x i;simp only[ucs,DN,FS,or_false] at i;rcases i with rfl|rfl|rfl|rfl|rfl
    ·exact B4 _ x1
    ·exact B4 _ s
    ·simp
    ·simp
    ·simp
   ·intro b0 x X' O' l' rec n5 R hb j hR;refine De.XJ K j rfl (BS.XJ K j λwb j=>aj.of y ((K.dk j (B4 _ (B4 _ q))).2.ow rfl) λZ Ie=>G b0 x _ _ Z _ hb (K.ext j Ie) λFk j=>an rfl (sw.XJ K j λTo j=>hR To j))
   ·intro r' rec n5 j;refine dz.XJ K j λZ j=>λFk TE=>⟨n - 1,by omega,m+1,rfl,by omega,?_⟩;have j3:=K.sub (K.ext j TE) (X':=p) (λx h=>B4 _ h) (Bx _);rw[B];simpa using j3
 ·have A:m=16:=by simp at t;omega
  subst A;cases D1 with
  |nil=>exact λV h6=>back (K.ext j h6)
  |cons r' D1=>exact K.sy (r'::D1) j λV j=>back j
theorem RH {Q:Sys} {ws:List Int} {bt:Nat} {o r:Int} {gone:Bool} {N:Nat} (a:okW ws) (b:0<ws.length): ∀lv:Nat,lv<=3->UIt Q ws bt o r gone N lv:=by
 intro lv
 induction lv with
 |zero=>intro h;exact zF a b 0 h (λl' e=>by omega)
 |succ lv c=>
  intro h;refine zF a b (lv+1) h (λl' e=>?_);obtain rfl:lv=l':=by omega
  exact c (by omega)
abbrev eN:El:= .one (.int .i64)
theorem zH (ws:List Int): ∀(l:Nat) (f:Int),(cU ws l f).length<=(match l with|0=>1|1=>17|2=>273| _=>4369)\/3<l
 |0,f=> .inl (by simp[cU])
 |l+1,f=>by
  by_cases b:3<l+1
  ·exact .inr b
  refine .inl ?_;have step: ∀(c:Nat) (is:List Nat),(∀i,(oB ws (l+1) f i).length<=c)->(is.flatMap (oB ws (l+1) f)).length<=is.length*c:=by
   intro c is h
   induction is with
   |nil=>simp
   |cons i is a=>
    rw[List.flatMap_cons,Do,B2,Nat.add_mul];have:=h i;omega
  have sub: ∀(c:Nat),(∀g,(cU ws l g).length<=c)-> ∀i,(oB ws (l+1) f i).length<=c:=by
   intro c h i;unfold oB;dsimp only;split
   ·exact h _
   ·exact Nat.zero_le _
  rw[kO,B2];have a:=zH ws l;rcases l with _| _| _|l
  ·have:=step 1 (Ap 16) (sub 1 λg=>by rcases a g with h|h;exact h;omega);simp only[G1] at this ⊢;omega
  ·have:=step 17 (Ap 16) (sub 17 λg=>by rcases a g with h|h;exact h;omega);simp only[G1] at this ⊢;omega
  ·have:=step 273 (Ap 16) (sub 273 λg=>by rcases a g with h|h;exact h;omega);simp only[G1] at this ⊢;omega
  ·omega
theorem pI (ws:List Int) (f:Int):(cU ws 3 f).length<=4369:=by
 rcases zH ws 3 f with h|h
 ·exact h
 ·omega
theorem Bl (ws:List Int) (l:Nat) (f:Int):cU ws l f≠[]:=by rw[kO];simp
theorem Ek (x:Int): ∀l:List Int,(jq x l).length=l.length+1
 |[]=>rfl
 |y::l=>by
  rw[jq];split
  ·rw[B2,Ek x l];rfl
  ·rfl
theorem y9: ∀(l a:List Int),(l.foldl (λa x=>jq x a) a).length=a.length+l.length
 |[],a=>rfl
 |x::l,a=>by
  rw[IE,y9 l,Ek,B2];omega
theorem jM (l:List Int):(mJ l).length=l.length:=by unfold mJ;rw[IR,y9];simp
theorem ZH (p z:List Int) (a c:Int):(p++a::z).set p.length c=p++c::z:=by simp
section
variable {Q:Sys} {D G:List Nat} {w0 w:A2} {s:WD} {L0:List (Nat×List AF)} {bt:Nat} {o r:Int} {gone:Bool}
namespace bq
theorem under (S:bq Q D G w0 w s L0) (f lv:Int) {K:Option AC×Option AC×Option AC×Unit->A2->Prop} (k: ∀b a c d,bq Q D G w0 d s ((c,[aa lv])::(a,[aa f])::(b,[ag (af bt)])::L0)->K (some ⟨a,0,none⟩,some ⟨b,0,none⟩,some ⟨c,0,none⟩,()) d):
 aA AB 239 Gp [ag (af bt),aa f,aa lv] w K:=by
 refine S.go λw1 S=>ai (C:=N0) (aQ:=λ_=>[]) (AG (Bk _ f lv w1 K) ?_);exact S.al λb d S=>S.al λa g S=>S.al λc h S=>S.en λe S=>k b a c e S
theorem abe (S:bq Q D G w0 w s L0) (k0:Nat) (m:L0[k0]? =some (bt,oK Q o r gone)) {c1 c2 c3:Nat} {f:Int} (n:0<=f/\f<4096) (h1:(c1,[aa f])∈L0) (p:(c2,[In (af bt)])∈L0) (q:(c3,[aa 3])∈L0)
 {K:Option AC×Nat×Nat->A2->Prop} (k: ∀bs cs rest d,bq Q D G w0 d s ((bs,flat eN (cU s.1 3 f)++rest)::L0)->K (some ⟨bs,0,none⟩,(cU s.1 3 f).length,cs) d):
 aA AB 238 (.el (.one .slice)) [.func (.func 247) #[] #[ag (af c1),ag (af c2),ag (af c3)]] w K:=by
 refine S.go λw1 S=>aR (C:=N0) (aQ:=rb) (AG (LN _ _ _ w1 K) ?_);obtain⟨g1,t,u,i,ca,la,H0⟩:=S;have H:=H0.again;refine aN.go H λbl d H=>?_;have v:=pI s.1 f;refine z5.Od (N:=4369) (bm:=Q.bm) (mc:=Mc Q s.1.length) (Rg0:=[(bl,[.slice none 0 0])]) (Lb:=(Q.bw,flat eW s.1++Q.rw)::(Q.bf,flat eD s.2++Q.rf)::(Q.bp,[.slice (af Q.bf) s.2.length Q.cp])::L0) H ⟨_, _,rfl⟩
  (RH (o:=o) (r:=r) (gone:=gone) (bt:=bt) i g1 3 (B5 _) f n c1 c2 c3) ?_ (by simpa using v) (λxs e=>XP eN bl (xs.map (·.1)) e) (.inl ⟨rfl,rfl⟩) ?_ ?_
 ·intro x b;simp only[ucs,DN,FS,or_false] at b;rcases b with rfl|rfl|rfl|rfl|rfl
  ·simp[Ca m]
  ·simp
  ·simp[h1]
  ·simp[p]
  ·exact GD _ (GD _ (GD _ q))
 ·intro U x e Z rr l rec V R W a c y;obtain⟨sl,g⟩:=a.head;refine De.go c rfl (BS.goO c λwb H z A=>aj.at 0 H (by rw[DQ (Ae.1 g).1];exact g) rfl (aN.go H λX j H=>λY B=>?_));have H:=H.ext B;exact a.push g (x:=x.1) H rfl rfl rfl (by simp only[DA];omega) λE w8 F I=>sw.k_ z I λJ L M=>y E J (by simpa using F) L (A.trans M)
 ·rintro rr rec w4 l' e ⟨O,P,rfl⟩ a c;refine dz.none c λw5 H=>?_;have T:((cU s.1 3 f).map TI).map (·.1)=cU s.1 3 f:=by
   rw[List.map_map];exact List.map_id _
  rw[T] at a;rcases a with ⟨h, _⟩|⟨bs,cs,rest,rfl,q1,q2⟩
  ·exact absurd h (Bl _ _ _)
  ·refine aj.at 0 H rfl rfl (sy.go H λj H=>k bs cs rest j ⟨g1,t,u,i,O,P,H0.join (λx b=>b) ?_⟩);refine(H.sub (Cd _ _)).perm ?_;exact DH (l₁:=[_, _, _, _])
theorem IA (S:bq Q D G w0 w s L0) {j bs:Nat} {xs:List Int} {rest:List AF} (a:L0[j]? =some (bs,flat eN xs++rest)) {i:Nat} {x:Int} (b:xs[i]? =some x):cI w (ad (af bs) (i*1)) eN x:=fV (e:=eN) (S.get a) b
theorem Xd (S:bq Q D G w0 w s L0) (j:Nat) {bs:Nat} {xs:List Int} {rest:List AF} (a:L0[j]? =some (bs,flat eN xs++rest)) {i:Nat} (hi:i<xs.length) (v:Int) {K:A2->Prop} (k: ∀w1,bq Q D G w0 w1 s (L0.set j (bs,flat eN (xs.set i v)++rest))->K w1):az w (ad (af bs) (i*1)) [aa v] K:=by
 obtain⟨h1,b,c,d,ca,la,H⟩:=S;exact az.flat (e:=eN) (j+4) H v a rfl rfl hi λw1 H=>k w1 ⟨h1,b,c,d,ca,la,H⟩
theorem all (S:bq Q D G w0 w s L0) (k0:Nat) (q:L0[k0]? =some (bt,oK Q o r gone)) (V:0<=r/\r<4096) {K:Option AC×Nat×Nat->A2->Prop} (k: ∀x rows d,bq Q D G w0 d s (L0++rows)->n9 eN rows x (mK s r gone)->K x d):
 aA AB 214 (.el (.one .slice)) [ag (af bt)] w K:=by
 refine S.go λw1 S=>ai (C:=N0) (aQ:=wo) (AG (Vo _ w1 K) ?_);refine⟨_,S.state k0 q,?_⟩;cases gone with
 |true=>exact aB rfl (S.en λd S=>k (none,0,0) [] d (by rw[Db];exact S) ⟨rfl,.inl ⟨rfl,rfl⟩⟩)
 |false=>
  refine an rfl ⟨rfl,rfl,S.cA k0 q rfl (S.under r 3 λc2 c1 c3 d S=>S.abe (k0+3) q V (by simp) (by simp) (by simp) λbs cs rest i S=>?_)⟩;have S:=S.perm (L1:=(bs,flat eN (cU s.1 3 r)++rest)::(L0++[(c3,[aa 3]),(c1,[aa r]),(c2,[ag (af bt)])])) (GJ _ (by exact List.perm_append_comm (l₂:=[_, _, _])));have S:=S.sub (List.Sublist.cons_cons _ (Fw _ _));have hlen:=pI s.1 r;have W:mK s r false=mJ (cU s.1 3 r):=ao (by decide);rw[W] at k;have cY:=Bl s.1 3 r;generalize cU s.1 3 r=l at*
  refine⟨λn v w'=> ∃m:Nat,v.1=(m:Int)/\n+m=l.length/\bq Q D G w0 w' s ((bs,flat eN (((l.take m).foldl (λa x=>jq x a) []).reverse++l.drop m)++rest)::L0),⟨l.length,λX Y=>⟨0,rfl,rfl,by simpa using S.ext Y⟩⟩,?_⟩;rintro n ⟨v,u⟩ X ⟨m,b,hnm,S⟩;dsimp only at b ⊢;subst b;refine ab (λt=>?_) (λt=>?_)
  ·have z:m<l.length:=by simpa using t
   obtain⟨R,E⟩: ∃R,R=(l.take m).foldl (λa x=>jq x a) []:=⟨_,rfl⟩;have F:R.length=m:=by rw[E,y9,FV];simp;omega
   have L:=BO z;obtain⟨x,M⟩: ∃x,x=l[m]:=⟨_,rfl⟩;rw[<-M] at L;have hd:l.drop m=x::l.drop (m+1):=by rw[GF z,M]
   have abf:(l.take (m+1)).foldl (λa x=>jq x a) []=jq x R:=by
    rw[Ft,L,Option.toList_some,List.foldl_append, <-E];rfl
   obtain⟨Z,N⟩: ∃Z,Z=l.drop (m+1):=⟨_,rfl⟩;rw[<-E,hd, <-N] at S;refine⟨λO v w'=> ∃A B:List Int,v.1=(A.length:Int)/\O=A.length/\A.length+B.length=m/\B++jq x A=jq x R/\bq Q D G w0 w' s ((bs,flat eN (A.reverse++x::(B.reverse++Z))++rest)::L0),⟨m,λf h5=>⟨R,[],by rw[F],F.symm,by simp[F],rfl,by simpa using S.ext h5⟩⟩,?_⟩;rintro O ⟨v,u2⟩ f ⟨A,B,b,rfl,hAB,H,S⟩;dsimp only at b ⊢;subst b;have P: ∀(C:List Int),C=jq x R-> ∀{w':A2},bq Q D G w0 w' s ((bs,flat eN (C.reverse++Z)++rest)::L0)-> ∀i,Ext w' i-> ∃T,T<n/\ ∃p:Nat,aJ .i64 (m:Int) 1=(p:Int)/\T+p=l.length/\bq Q D G w0 i s ((bs,flat eN (((l.take p).foldl (λa x=>jq x a) []).reverse++l.drop p)++rest)::L0):=by
    intro C hC w' S i h3;refine⟨n - 1,by omega,m+1,by rw[ax (by omega) (by omega)];omega,by omega,?_⟩;rw[abf, <-hC, <-N];exact S.ext h3
   cases A with
   |nil=>
    refine⟨λh=>by simp at h,0,λh=>by simp at h,λh=>by simp at h,0,λh=>by simp at h,an rfl (P (B++jq x []) H (w':=f) ?_)⟩;have e:(B++jq x []).reverse++Z=[].reverse++x::(B.reverse++Z):=by simp[jq]
    rw[e];exact S
   |cons y A=>
    have e:(y::A).reverse++x::(B.reverse++Z)=A.reverse++y::x::(B.reverse++Z):=by simp
    rw[e] at S;simp only[B2] at hAB;have es:aY .i64 (((y::A).length:Nat):Int) 1=(A.length:Int):=by rw[B2,bD (by omega) (by omega)];omega
    rw[es];have I:(A.reverse++y::x::(B.reverse++Z))[A.length]? =some y:=by rw[Ij (by simp)];simp
    have U:(A.reverse++y::x::(B.reverse++Z))[A.length+1]? =some x:=by rw[Ij (by simp)];simp
    have Wx:A.length<(A.reverse++y::x::(B.reverse++Z)).length:=(Ae.1 I).1;have s1:(A.reverse++y::x::(B.reverse++Z)).set A.length x=A.reverse++x::x::(B.reverse++Z):=by
     have:=ZH A.reverse (x::(B.reverse++Z)) y x;rwa[IR] at this
    have s2:(A.reverse++x::x::(B.reverse++Z)).set (A.length+1) y=A.reverse++x::y::(B.reverse++Z):=by
     simp
    have FB:A.length+1<(A.reverse++x::x::(B.reverse++Z)).length:=by simp
    have t1:((A.length:Nat):Int).toNat=A.length:=rfl;have t2:(((y::A).length:Nat):Int).toNat=A.length+1:=rfl;rw[t1,t2];have g1:(some (⟨bs,0,none⟩:AC)).isSome=true/\0<=(A.length:Int)/\(A.length:Int)<(l.length:Int):=⟨rfl,by omega,by omega⟩;have J:(some (⟨bs,0,none⟩:AC)).isSome=true/\0<=(((y::A).length:Nat):Int)/\(((y::A).length:Nat):Int)<(l.length:Int):=⟨rfl,by omega,by rw[B2];omega⟩;refine⟨λ_=>g1,aj.of y (S.IA (j:=0) rfl I) ⟨λ_=>J,aj.of x (S.IA (j:=0) rfl U) (ab (λc=>⟨J,aj.of x (S.IA (j:=0) rfl U) ⟨g1,aj.of y (S.IA (j:=0) rfl I) ⟨g1,S.Xd 0 rfl Wx x λw6 S=>⟨J,?_⟩⟩⟩⟩) (λc=>P (B++jq x (y::A)) H (w':=f) ?_))⟩⟩
    ·rw[s1] at S;refine S.Xd 0 rfl FB y λw7 S=>λw8 h8=>⟨A.length,Nat.lt_succ_self _,A,B++[y],rfl,rfl,by simp;omega,?_,?_⟩
     ·have c2:y>x:=by simpa using c
      rw[<-H,jq,av c2,Dw];rfl
     ·rw[s2] at S;have g:A.reverse++x::((B++[y]).reverse++Z)=A.reverse++x::y::(B.reverse++Z):=by simp
      rw[g];exact S.ext h8
    ·have c2: ¬ y>x:=by simpa using c
     have g:(B++jq x (y::A)).reverse++Z=A.reverse++y::x::(B.reverse++Z):=by rw[jq,ao c2];simp
     rw[g];exact S
  ·have z: ¬ m<l.length:=by simpa using t
   have b:l.take m=l:=HB (by omega);have g:l.drop m=[]:=Fh (by omega);rw[b,g,Db] at S;refine S.en λf S=>k (some ⟨bs,0,none⟩,l.length,cs) [(bs,flat eN (mJ l)++rest)] f (S.perm (List.perm_append_singleton _ _)) ⟨(jM l).symm,.inr ⟨bs,rest,rfl,rfl⟩⟩
theorem drop (S:bq Q D G w0 w s L0) (k0:Nat) (b:L0[k0]? =some (bt,oK Q o r gone)) (I:0<=r/\r<4096) {K:Option AC×Nat×Nat->A2->Prop} (k: ∀x rows c,bq Q D G w0 c (cH s r gone) (L0.set k0 (bt,oK Q o r true)++rows)->n9 eN rows x (mK s r gone)->K x c):
 aA AB 171 (.el (.one .slice)) [ag (af bt)] w K:=by
 refine S.go λw1 S=>ai (C:=N0) (aQ:=uw) (AG (RE _ w1 K) ?_);refine⟨_,S.state k0 b,?_⟩;have g:k0<L0.length:=(Ae.1 b).1;cases gone with
 |true=>
  have e:L0.set k0 (bt,oK Q o r true)=L0:=Ga λq=>by
   by_cases e:k0=q
   ·subst e;rw[C5 g,b]
   ·rw[BX e]
  exact aB rfl (S.en λc S=>k (none,0,0) [] c (by rw[Db,e];exact S) ⟨rfl,.inl ⟨rfl,rfl⟩⟩)
 |false=>
  refine an rfl (S.all k0 b I λx rows c S h=>?_);have J:cH s r false=(s.1,(mK s r false).foldl (λds f=>dD ds f (aO 5 0)) s.2):=ao (by decide);rw[J] at k;have Y:(mK s r false).length<=4369:=by
   rw[show mK s r false=mJ (cU s.1 3 r) from ao (by decide),jM];exact pI _ _
  generalize mK s r false=l at*
  obtain⟨L,M,N⟩:=x;have O:M=l.length:=h.1;subst O;obtain⟨d,p⟩: ∃d,d=l.foldl (λds f=>dD ds f (aO 5 0)) s.2:=⟨_,rfl⟩;rw[<-p] at k;have t:(L0++rows)[k0]? =some (bt,oK Q o r false):=by rw[DQ g];exact b
  refine⟨λn v w'=> ∃(m:Nat) (ds:List DT),v.1=(m:Int)/\n+m=l.length/\(l.drop m).foldl (λds f=>dD ds f (aO 5 0)) ds=d/\bq Q D G w0 w' (s.1,ds) (L0++rows),⟨l.length,λy P=>⟨0,s.2,rfl,rfl,p.symm,S.ext P⟩⟩,?_⟩;rintro n ⟨v,u⟩ y ⟨m,ds,z,Z,a,S⟩;dsimp only at z ⊢;subst z;refine ab (λi=>?_) (λi=>?_)
  ·have j:m<l.length:=by simpa using i
   have A:=BO j;obtain⟨f,B⟩: ∃f,f=l[m]:=⟨_,rfl⟩;rw[<-B] at A;rw[GF j, <-B,IE] at a;obtain⟨g1,R,T,U,ca,la,H⟩:=S;have E:=h.sl H (λx V=>by
    show x∈ _:: _:: _:: _::(L0++rows);simp[V]) m f A
   have S:bq Q D G w0 y (s.1,ds) (L0++rows):=⟨g1,R,T,U,ca,la,H⟩;refine⟨⟨E.1,by omega,by omega⟩,aj.of f E.2 ⟨rfl,rfl,S.cA k0 t rfl (S.T2 f 5 0 λW S=>λF X=>⟨n - 1,by omega,m+1, _,?_,by omega,a,S.ext X⟩)⟩⟩;rw[ax (by omega) (by omega)];omega
  ·have j: ¬ m<l.length:=by simpa using i
   rw[Fh (by omega)] at a;have a:ds=d:=a;subst a;refine⟨rfl,rfl,S.Cq k0 t rfl rfl λW S=>S.en λF S=>k (L,l.length,N) rows F ?_ h⟩;rw[List.set_append_left _ _ g] at S;exact S
theorem new (S:bq Q D G w0 w s L0) (o:Int) {K:Option AC×Int×Unit->A2->Prop}
 (f:(s.1.length:Int)<16*(s.2.length:Int)-> ∀a,bq Q D G w0 a s L0->K (none,1,()) a)
 (g: ¬ (s.1.length:Int)<16*(s.2.length:Int)-> ¬ rz s o=0-> ∀a,bq Q D G w0 a (iF s o λ_=>0) L0->K (none,rz s o,()) a)
 (h: ¬ (s.1.length:Int)<16*(s.2.length:Int)->rz s o=0-> ∀b a,bq Q D G w0 a (iF s o λ_=>0) ((b,oK Q o (dX s o) false)::L0)->K (some ⟨b,0,none⟩,0,()) a):
 aA AB 164 (.bu [.one .ptr,.one (.int .i64)]) [ag (af Q.bm),ag (af Q.bp),aa o] w K:=by
 refine S.go λw1 S=>ai (C:=N0) (aQ:=λ_=>[]) (AG (Vp _ _ o w1 K) ?_);have h1:=S.pos;have k:=S.FY;have l:=S.le;have c1:(((s.1.length:Nat):Int)==0)=false:=by rw[beq_eq_false_iff_ne];omega
 have c2:(((s.2.length:Nat):Int)==0)=false:=by rw[beq_eq_false_iff_ne];omega
 have i:iy .i64 16 ((s.2.length:Nat):Int)=16*(s.2.length:Int):=eJ (by omega) (by omega);refine⟨_,S.aaq, _,λ_=>S.YG, _,λ_=>S.aaq, _,λ_=>S.YG,?_⟩;rw[c1,c2,i];refine ab (λc=>S.en λa S=>f (by simpa using c) a S) (λc=>S.al λb a S=>S.aa' (r:=0) (gone:=false) 0 rfl λm S=>ab (λd=>S.en λe S=>?_) (λd=>⟨rfl,rfl,S.Cq 0 rfl rfl rfl λe S=>S.en λj S=>h (by simpa using c) (by simpa using d) b j S⟩));exact g (by simpa using c) (by simpa using d) e S.tail
end bq
end
set_option maxRecDepth 100000
open Go.RX
abbrev iP:List Sc:=[.int .u64,.int .i64]
abbrev RS:Type:=Int×Int×Unit
noncomputable def B0:dJ AB:={N0 with quiet:=[]}
theorem Vy (e:Int) (w:A2) (c:RS->A2->Prop):(bQ B0 (λ_=>[]) 75 [aa e] w c)=(
 aN w ⟨[ay 0,aa 0]⟩ 61 λb a=>az a (af b) [ay 0,aa e] λa=>au a λw1=>aj w1 none (af b) cF λ(x:Int×Int×Unit)=>c (x.1,x.2.1,()) w1):=by kernel_rfl
theorem Vz (e:Int) (w:A2):aC AB 75 (.el (.agg iP)) [aa e] w (λx w'=>x=(0,e,())/\Ext w w'):=by
 refine aR (C:=B0) (aQ:=λ_=>[]) (AG (Vy e w _) ?_);have H:=At.start [] w;exact aN.go H λb a H=>az.all 0 H rfl rfl rfl λc H=>au.go H λd H=>aj.at 0 H rfl (show _=some (0,e,()) from rfl) ⟨rfl,H.all⟩
noncomputable def abg:Entry AB where
 f:=75
 fn l:=match l with
  |[.int .i64 e]=>some (True,.agg ⟨[.int .u64 0,.int .i64 e]⟩)
  | _=>none
 ok args pre v h a w:=by
  split at h
  ·rename_i e;cases h;exact bU (Vz e w)
  ·cases h
noncomputable def V0:dJ AB:={N0 with sr:=abg::N0.sr,quiet:=[53,19,165,21,179,174,76,77,176,25,62,117,56]}
noncomputable def V1:dJ AB:={V0 with Z7:=some (.el (.agg iP))}
theorem LX (p:Option AC) (w:A2) (a:Bool->A2->Prop):(aK V0 (λ_=>[]) 53 [ag p] w a)=(
 ((!p.isNone)=true->p.isSome=true)/\((!p.isNone)=true->p.isSome=true)/\aj w (some !p.isNone) (ad p 0) kW λx=>au w (a (!p.isNone&& !x.isNone))):=by kernel_rfl
theorem RI (p:Option AC) (v:Int) (w:A2) (a:Bool->A2->Prop):(aK V0 (λ_=>[]) 19 [ag p,aa v] w a)=(
 ∃x,ae AB 53 [ag p] w (.bool x)/\((x&&decide (v>=1)&&decide (v<=16))=true->p.isSome=true)/\((x&&decide (v>=1)&&decide (v<=16))=true->p.isSome=true)/\((x&&decide (v>=1)&&decide (v<=16))=true->(ad p 4).isSome=true/\0<=v/\v<(↑17:Int))/\aj w (some (x&&decide (v>=1)&&decide (v<=16))) (ad (ad p 4) (v.toNat*1)) kW λb=>au w (a (x&&decide (v>=1)&&decide (v<=16)&& !b.isNone))):=by kernel_rfl
theorem LY (p:Option AC) (a:Int) (w:A2) (b:Bool->A2->Prop):(aK V0 (λ_=>[]) 165 [ag p,ay a] w b)=(
 ∃x,(decide (a<=16)=true->ae AB 19 [ag p,aa (aF .i64 a)] w (.bool x))/\au w (b (decide (a<=16)&&x))):=by kernel_rfl
theorem RJ (p:Option AC) (v:Int) (w:A2) (a:Int->A2->Prop):(aK V0 (λ_=>[]) 21 [ag p,aa v] w a)=(
 ∃x,ae AB 19 [ag p,aa v] w (.bool x)/\aI (!x) (au w (a (-1))) (p.isSome=true/\p.isSome=true/\((ad p 4).isSome=true/\0<=v/\v<(↑17:Int))/\fZ w (ad (ad p 4) (v.toNat*1)) λx=>bG x 0 w λx=> ∃(b:Int),ae AB 56 [ag x] w (aa b)/\au w (a b))):=by kernel_rfl
theorem LZ (p:Option AC) (v g:Int) (w:A2) (a:Int×Int×Int×Unit->A2->Prop):(aK V0 (λ_=>[]) 81 [ag p,aa v,aa g] w a)=(
 ∃x,ae AB 53 [ag p] w (.bool x)/\aI (!x) (au w (a (0,0,10,()))) (∃x,ae AB 19 [ag p,aa v] w (.bool x)/\aI (!x) (au w (a (0,0,4,()))) (p.isSome=true/\p.isSome=true/\((ad p 4).isSome=true/\0<=v/\v<(↑17:Int))/\fZ w (ad (ad p 4) (v.toNat*1)) λx=>bG x 0 w λx=>aA AB 139 (.bu [.one (.int .i64),.one (.int .i64),.one (.int .i64)]) [ag x,aa g] w λ(x:Int×Int×Int×Unit) b=>au b (a (x.1,x.2.1,x.2.2.1,()))))):=by kernel_rfl
theorem L3 (p:Option AC) (v g:Int) (w:A2) (d:Int×Bool×Unit->A2->Prop):(aK V0 (λ_=>[]) 174 [ag p,aa v,aa g] w d)=(
 ∃x,ae AB 19 [ag p,aa v] w (.bool x)/\aI (!x) (au w (d (0,false,()))) (p.isSome=true/\p.isSome=true/\((ad p 4).isSome=true/\0<=v/\v<(↑17:Int))/\fZ w (ad (ad p 4) (v.toNat*1)) λx=>s7 x 1 w λx=> ∃(a:Int×Int×Unit), ∃(b:Bool),ml w x .i64 g (.agg ⟨[aa 0,aa 0]⟩) (.agg ⟨[aa a.1,aa a.2.1]⟩) b/\aN w ⟨[aa 0,aa 0]⟩ 263 λe c=>az c (af e) [aa a.1,aa a.2.1] λc=>true=true/\aU c (ad (af e) 0) λx=>au c (d (x,
 b,())))):=by kernel_rfl
theorem Ht (p:Option AC) (w:A2) (a:Option AC->A2->Prop):(aK V0 (λ_=>[]) 18 [ag p] w a)=(
 ∃x,ae AB 53 [ag p] w (.bool x)/\aI (!x) (au w (a none)) (bG p 1 w λx=>aA AB 54 (.el kW) [ag x] w λx b=>au b (a x))):=by kernel_rfl
theorem Hu (p:Option AC) (w:A2) (a:Option AC->A2->Prop):(aK V0 (λ_=>[]) 23 [ag p] w a)=(
 ∃x,ae AB 53 [ag p] w (.bool x)/\aI (!x) (au w (a none)) (bG p 0 w λx=>au w (a x))):=by kernel_rfl
theorem RK (p:Option AC) (f:Int) (w:A2) (d:Int->A2->Prop):(aK V0 (λ_=>[]) 43 [ag p,aa f] w d)=(
 ∃x,ae AB 53 [ag p] w (.bool x)/\aI (!x) (au w (d 10)) (bG p 1 w λx=> ∃(a:(Int×Int×Int×Int×Unit)×Bool×Unit),ae AB 25 [ag x,aa f] w (.tuple {toList:=[.agg ⟨[aa a.1.1,aa a.1.2.1,aa a.1.2.2.1,aa a.1.2.2.2.1]⟩,.bool a.2.1]})/\aN w ⟨[aa 0,aa 0,aa 0,aa 0]⟩ 52 λb c=>az c (af b) [aa a.1.1,aa a.1.2.1,aa a.1.2.2.1,aa a.1.2.2.2.1] λc=>aI (!a.2.1) (au c (d 2)) (true=true/\aU c (ad (af
 b) 0) λx=>aI (x != 5) (au c (d 6)) (bG p 1 c λx=>aA AB 79 (.el aT) [ag x,aa f] c λ(x:Int) c=>au c (d x))))):=by kernel_rfl
theorem L4 (p:Option AC) (v a:Int) (w:A2) (b:Int->A2->Prop):(aK V0 (λ_=>[]) 179 [ag p,aa v,ay a] w b)=(
 aI (decide (a<1)||decide (a>16)||aF .i64 a==v) (au w (b 1)) (∃x,ae AB 165 [ag p,ay a] w (.bool x)/\aI (!x) (au w (b 4)) (au w (b 0)))):=by kernel_rfl
theorem RM (p:Option AC) (v a t:Int) (w:A2) (d:Int×Int×Unit->A2->Prop):(aK V0 (λ_=>[]) 178 [ag p,aa v,ay a,aa t] w d)=(
 aI (decide (a>=1048576)) (au w (d (0,2,()))) (bG p 0 w λx=> ∃(e:Int),ae AB 21 [ag p,aa v] w (aa e)/\(aA AB 223 (.el dS) [ag x,aa e,aa (aF .i64 (wS .u64 a 16)),aa t] w λ(x:Int×Int×Int×Int×Unit) c=>aN c ⟨[aa 0,aa 0,aa 0,aa 0]⟩ 48 λb c=>az c (af b) [aa x.1,aa x.2.1,aa x.2.2.1,aa x.2.2.2.1] λc=>true=true/\aU c (ad (af b) 0) λx=>true=true/\aU c (ad (af b) 3) λf=>au
 c λw1=>d (aJ .i64 (iy .i64 16 x) (aF .i64 (eZ a 16)),f,()) w1)/\aN w ⟨[aa 0,aa 0,aa 0,aa 0]⟩ 48 λb c=>aA AB 223 (.el dS) [ag x,aa e,aa (aF .i64 (wS .u64 a 16)),aa t] c λ(x:Int×Int×Int×Int×Unit) c=>az c (af b) [aa x.1,aa x.2.1,aa x.2.2.1,aa x.2.2.2.1] λc=>true=true/\aU c (ad (af b) 0) λx=>true=true/\aU c (ad (af b) 3) λf=>au c λw1=>d (aJ .i64 (iy .i64 16 x) (aF .i64 (eZ a 16)),
 f,()) w1)):=by kernel_rfl
def rh:Nat->aZ:=(λ|3=>[(3,Go.RX.El.one (Go.RX.Sc.int AT))]| _=>[])
theorem L5 (p:Option AC) (w:A2) (c:Int->A2->Prop):(aK V0 rh 168 [ag p] w c)=(
 s7 p 1 w λx=>RgP w x λb a=> ∃(I:Nat->Int×Unit->A2->Prop),(∃n, ∀w1,Ext a w1->I n (65536,()) w1)/\ ∀(n:Nat) (s:Int×Unit) (w1:A2),I n s w1->NxP w1 (af b) (λa=>au a (c s.1)) λ(k v:AF) a=> ∃(x:Int), ∃(v:AF),Ak a (af b) (aa x) v/\ ∀d,Ext a d-> ∃(e:Nat),e<n/\I e (kr s.1 x,()) d):=by kernel_rfl
def ux:Nat->aZ:=(λ_=>[])
theorem RN (p:Option AC) (v g:Int) (w:A2) (d:Unit->A2->Prop):(aK V0 ux 167 [ag p,aa v,aa g] w d)=(
 p.isSome=true/\p.isSome=true/\((ad p 4).isSome=true/\0<=v/\v<(↑17:Int))/\fZ w (ad (ad p 4) (v.toNat*1)) λx=>s7 x 1 w λf=> ∃(c:Int×Int×Unit),jS w f .i64 g (.agg ⟨[aa 0,aa 0]⟩) (.agg ⟨[aa c.1,aa c.2.1]⟩)/\aN w ⟨[aa 0,aa 0]⟩ 263 λb a=>az a (af b) [aa c.1,aa c.2.1] λa=>s7 x 1 a λh=> ∀w1,Ext a w1-> ∃(r:Nat), ∃(es:Array AH), ∃(e:Nat),h=some r/\bF w1 r es e/\Aj w1 r .i64 g es e λa=>bG x 0 a λx=>aA
 AB 175 (.bu [.one (.int .i64),.one (.int .i64)]) [ag x,aa g] a λ(x:Int×Int×Unit) a=>bG p 1 a λx=>true=true/\aU a (ad (af b) 1) λi=>aA AB 183 (.el aT) [ag x,aa i,aa (-1)] a λ(x:Int) a=>bG p 2 a λx=>true=true/\aU a (ad (af b) 0) λj=>aA AB 182 (.el aT) [ag x,aa j,aa v] a λ(x:Int) a=>au a (d ())):=by kernel_rfl
theorem VA (n:Int) (w:A2) (c:Option AC×Int×Unit->A2->Prop):(aK V0 (λ_=>[]) 40 [aa n] w c)=(
 aI (decide (n<4)||decide (n>4096)) (au w (c (none,1,()))) (aN w {toList:=[ag none,ag none,ag none,ag none,ag none,ag none,ag none,ag none,ag none,ag none,ag none,ag none,ag none,ag none,ag none,ag none,ag none,ag none,ag none,ag none,ag none]} 115 λb a=>aA AB 33 (.bu [.one .ptr,.one (.int .i64)]) [aa (iy .i64 16 n)] a λ(x:Option AC×Int×Unit) a=>true=true/\true=true/\az a (ad
 (af b) 0) [ag x.1] λa=>aA AB 72 (.bu [.one .ptr,.one (.int .i64)]) [aa n] a λ(x:Option AC×Int×Unit) a=>true=true/\true=true/\az a (ad (af b) 1) [ag x.1] λa=>aA AB 73 (.bu [.one .ptr,.one (.int .i64)]) [aa 16] a λ(x:Option AC×Int×Unit) a=>true=true/\true=true/\az a (ad (af b) 2) [ag x.1] λa=>aA AB 74 (.bu [.one .ptr,.one (.int .i64)]) [aa 4] a λ(x:Option AC×Int×Unit) a=>true=true/\true=true/\az a (ad (af b) 3) [ag x.1] λ
 a=>au a (c (some ⟨b,0,none⟩,0,())))):=by kernel_rfl
theorem L6 (w:A2) (u:Option Nat->A2->Prop):(aK V0 (λ_=>[]) 78 [] w u)=(
 ∀w1,Ext w w1-> ∀c,Ext (w1.alloc (Obj.map ⟨[]⟩ 0)) c-> ∃(r:Nat), ∃(es:Array AH), ∃(a:Nat),some w1.heap.size=some r/\bF c r es a/\gR c r .i64 1 (.func (.func 121) ⟨[]⟩ ⟨[]⟩) es a λb=> ∀d,Ext b d-> ∃(r:Nat), ∃(es:Array AH), ∃(a:Nat),some w1.heap.size=some r/\bF d r es a/\gR d r .i64 2 (.func (.func 122) ⟨[]⟩ ⟨[]⟩) es a λb=> ∀e,Ext b e-> ∃(r:Nat), ∃(es:Array AH), ∃(a:Nat),some w1.heap.size=some r/\bF e r es a/\gR e r .i64 17 (.func (.func
 123) ⟨[]⟩ ⟨[]⟩) es a λb=> ∀f,Ext b f-> ∃(r:Nat), ∃(es:Array AH), ∃(a:Nat),some w1.heap.size=some r/\bF f r es a/\gR f r .i64 3 (.func (.func 124) ⟨[]⟩ ⟨[]⟩) es a λb=> ∀g,Ext b g-> ∃(r:Nat), ∃(es:Array AH), ∃(a:Nat),some w1.heap.size=some r/\bF g r es a/\gR g r .i64 4 (.func (.func 125) ⟨[]⟩ ⟨[]⟩) es a λb=> ∀h,Ext b h-> ∃(r:Nat), ∃(es:Array AH), ∃(a:Nat),some w1.heap.size=some r/\bF h r es a/\gR h r .i64 5 (.func (.func 126) ⟨[]⟩
 ⟨[]⟩) es a λb=> ∀i,Ext b i-> ∃(r:Nat), ∃(es:Array AH), ∃(a:Nat),some w1.heap.size=some r/\bF i r es a/\gR i r .i64 6 (.func (.func 127) ⟨[]⟩ ⟨[]⟩) es a λb=> ∀j,Ext b j-> ∃(r:Nat), ∃(es:Array AH), ∃(a:Nat),some w1.heap.size=some r/\bF j r es a/\gR j r .i64 7 (.func (.func 128) ⟨[]⟩ ⟨[]⟩) es a λb=> ∀k,Ext b k-> ∃(r:Nat), ∃(es:Array AH), ∃(a:Nat),some w1.heap.size=some r/\bF k r es a/\gR k r .i64 8 (.func (.func 129) ⟨[]⟩ ⟨[]⟩) es
 a λb=> ∀l,Ext b l-> ∃(r:Nat), ∃(es:Array AH), ∃(a:Nat),some w1.heap.size=some r/\bF l r es a/\gR l r .i64 9 (.func (.func 130) ⟨[]⟩ ⟨[]⟩) es a λb=> ∀m,Ext b m-> ∃(r:Nat), ∃(es:Array AH), ∃(a:Nat),some w1.heap.size=some r/\bF m r es a/\gR m r .i64 10 (.func (.func 131) ⟨[]⟩ ⟨[]⟩) es a λb=> ∀n,Ext b n-> ∃(r:Nat), ∃(es:Array AH), ∃(a:Nat),some w1.heap.size=some r/\bF n r es a/\gR n r .i64 11 (.func (.func 132) ⟨[]⟩ ⟨[]⟩)
 es a λb=> ∀o,Ext b o-> ∃(r:Nat), ∃(es:Array AH), ∃(a:Nat),some w1.heap.size=some r/\bF o r es a/\gR o r .i64 12 (.func (.func 133) ⟨[]⟩ ⟨[]⟩) es a λb=> ∀p,Ext b p-> ∃(r:Nat), ∃(es:Array AH), ∃(a:Nat),some w1.heap.size=some r/\bF p r es a/\gR p r .i64 13 (.func (.func 134) ⟨[]⟩ ⟨[]⟩) es a λb=> ∀q,Ext b q-> ∃(r:Nat), ∃(es:Array AH), ∃(a:Nat),some w1.heap.size=some r/\bF q r es a/\gR q r .i64 14 (.func (.func 135) ⟨[]⟩
 ⟨[]⟩) es a λb=> ∀s,Ext b s-> ∃(r:Nat), ∃(es:Array AH), ∃(a:Nat),some w1.heap.size=some r/\bF s r es a/\gR s r .i64 15 (.func (.func 136) ⟨[]⟩ ⟨[]⟩) es a λb=> ∀t,Ext b t-> ∃(r:Nat), ∃(es:Array AH), ∃(a:Nat),some w1.heap.size=some r/\bF t r es a/\gR t r .i64 16 (.func (.func 137) ⟨[]⟩ ⟨[]⟩) es a λb=>au b (u (some w1.heap.size))):=by kernel_rfl
def oe:Nat->aZ:=(λ|2=>[(7,Go.RX.El.one (Go.RX.Sc.int AT))]| _=>[])
theorem E9 (p:Option AC) (v k a b c:Int) (w:A2) (e:RS->A2->Prop):(bQ V0 oe 121 [ag p,aa v,.agg ⟨[aa k,ay a,ay b,ay c]⟩] w e)=(
 aN w ⟨[aa k,ay a,ay b,ay c]⟩ 31 λb d=>aN d ⟨[ay 0,aa 0]⟩ 61 λb d=> ∃(I:Nat->Int×Unit->A2->Prop),(∃n, ∀w1,Ext d w1->I n (1,()) w1)/\ ∀(n:Nat) (s:Int×Unit) (w1:A2),I n s w1->aI (decide (s.1<=16)) (p.isSome=true/\p.isSome=true/\((ad p 4).isSome=true/\0<=s.1/\s.1<(↑17:Int))/\fZ w1 (ad (ad p 4) (Aq s.1*1)) λx=>aI (!x.isNone) (∀f,Ext w1 f-> ∃(g:Nat),g<n/\I g (aJ .i64 s.1 1,()) f) (bG p 0 w1 λx=>bG p 1 w1 λh=>aA
 AB 164 (.bu [.one .ptr,.one (.int .i64)]) [ag x,ag h,aa s.1] w1 λ(x:Option AC×Int×Unit) d=>aI (x.2.1==0) (∀w1,Ext d w1->aN (w1.alloc (Obj.map ⟨[]⟩ 0)) ⟨[ag x.1,.map (some w1.heap.size)]⟩ 121 λi d=>p.isSome=true/\p.isSome=true/\((ad p 4).isSome=true/\0<=s.1/\s.1<(↑17:Int))/\az d (ad (ad p 4) (Aq s.1*1)) [ag (af i)] λd=>az d (af b) [ay (aF .u64 s.1),aa x.2.1] λd=>au d λw1=>aj w1 none (af b) cF λ(x:Int×Int×Unit)=>e (x.1,x.2.1,
 ()) w1) (az d (af b) [ay (aF .u64 s.1),aa x.2.1] λd=>au d λw1=>aj w1 none (af b) cF λ(x:Int×Int×Unit)=>e (x.1,x.2.1,()) w1))) (True/\az w1 (af b) [ay 0,aa 3] λd=>au d λw1=>aj w1 none (af b) cF λ(x:Int×Int×Unit)=>e (x.1,x.2.1,()) w1)):=by kernel_rfl
def m9:Nat->aZ:=(λ|5=>[(34,Go.RX.El.one (Go.RX.Sc.int AT))]|12=>[]|19=>[(13,Go.RX.El.one (Go.RX.Sc.int AT)),(93,Go.RX.El.one (Go.RX.Sc.int AT))]| _=>[])
theorem CX (p:Option AC) (v k a b c:Int) (w:A2) (l:RS->A2->Prop):(bQ V0 m9 122 [ag p,aa v,.agg ⟨[aa k,ay a,ay b,ay c]⟩] w l)=(
 aN w ⟨[aa k,ay a,ay b,ay c]⟩ 31 λb d=>aN d ⟨[ay 0,aa 0]⟩ 61 λi d=>true=true/\cK d (ad (af b) 1) λx=> ∃r,ae AB 165 [ag p,ay x] d (.bool r)/\aI (!r) (True/\az d (af i) [ay 0,aa 4] λd=>au d λw1=>aj w1 none (af i) cF λ(x:Int×Int×Unit)=>l (x.1,x.2.1,()) w1) (true=true/\cK d (ad (af b) 1) λx=>bG p 1 d λz=>aA AB 166 (.el ff) [ag z,aa (aF .i64 x)] d λm d=> ∃(I:Nat->
 Int×Unit->A2->Prop),(∃n, ∀w1,Ext d w1->I n (0,()) w1)/\ ∀(n:Nat) (s:Int×Unit) (w1:A2),I n s w1->aI (decide (s.1<(↑m.2.1:Int))) ((m.1.isSome=true/\0<=s.1/\s.1<(↑m.2.1:Int))/\aU w1 (ad m.1 (Aq s.1*1)) λx=>bG p 1 w1 λj=> ∃(e:(Int×Int×Int×Int×Unit)×Bool×Unit),ae AB 25 [ag j,aa x] w1 (.tuple {toList:=[.agg ⟨[aa e.1.1,aa e.1.2.1,aa e.1.2.2.1,aa e.1.2.2.2.1]⟩,.bool e.2.1]})/\aN w1 ⟨[aa 0,aa 0,aa 0,.int
 .i64 0]⟩ 52 λb d=>az d (af b) [aa e.1.1,aa e.1.2.1,aa e.1.2.2.1,aa e.1.2.2.2.1] λd=>true=true/\aU d (ad (af b) 2) λx=>aI (decide (x>0)) (True/\az d (af i) [ay 0,aa 9] λd=>au d λw1=>aj w1 none (af i) cF λ(x:Int×Int×Unit)=>l (x.1,x.2.1,()) w1) (∀f,Ext d f-> ∃(g:Nat),g<n/\I g (aJ .i64 s.1 1,()) f)) (p.isSome=true/\p.isSome=true/\((ad p 4).isSome=true/\0<=aF .i64 x/\aF .i64 x<(↑17:Int))/\aj w1 none (ad (ad p 4)
 ((aF .i64 x).toNat*1)) kW λj=> ∃(I:Nat->Unit->A2->Prop),(∃n, ∀t,Ext w1 t->I n () t)/\ ∀(n:Nat) (s:Unit) (w1:A2),I n s w1->s7 j 1 w1 λe=> ∃u,TU w1 e u/\aI (decide ((↑u:Int)>0)) (aA AB 168 (.el aT) [ag j] w1 λ(q:Int) d=>aA AB 167 (.bu []) [ag p,aa (aF .i64 x),aa q] d λx d=> ∀f,Ext d f-> ∃(g:Nat),g<n/\I g () f) (bG p 2 w1 λq=>aA AB 169 (.el aT) [ag q,aa (aF .i64 x)] w1 λ(G:Int)
 d=>bG p 3 d λA=>aA AB 170 (.el aT) [ag A,aa (aF .i64 x)] d λ(H:Int) d=>bG j 0 d λB=>aA AB 171 (.el ff) [ag B] d λJ d=>bG p 1 d λC=>aA AB 166 (.el ff) [ag C,aa (aF .i64 x)] d λo d=> ∃(I:Nat->Int×Int×Unit->A2->Prop),(∃n, ∀w1,Ext d w1->I n (0,0,()) w1)/\ ∀(n:Nat) (s:Int×Int×Unit) (w1:A2),I n s w1->aI (decide (s.2.1<(↑o.2.1:Int))) ((o.1.isSome=true/\0<=s.2.1/\s.2.1<(↑o.2.1:Int))/\aU w1
 (ad o.1 (Aq s.2.1*1)) λy=>bG p 1 w1 λD=> ∃(h:(Int×Int×Int×Int×Unit)×Bool×Unit),ae AB 25 [ag D,aa y] w1 (.tuple {toList:=[.agg ⟨[aa h.1.1,aa h.1.2.1,aa h.1.2.2.1,aa h.1.2.2.2.1]⟩,.bool h.2.1]})/\aN w1 ⟨[aa 0,aa 0,aa 0,aa 0]⟩ 52 λb d=>az d (af b) [aa h.1.1,aa h.1.2.1,aa h.1.2.2.1,aa h.1.2.2.2.1] λd=>true=true/\aU d (ad (af b) 0) λE=>aI (E==4) (bG p 1
 d λF=>aA AB 138 (.el aT) [ag F,aa y,aa 5,aa (aF .i64 x)] d λ(x:Int) d=> ∀f,Ext d f-> ∃(g:Nat),g<n/\I g (aJ .i64 s.1 1,aJ .i64 s.2.1 1,()) f) (∀f,Ext d f-> ∃(g:Nat),g<n/\I g (s.1,aJ .i64 s.2.1 1,()) f)) (p.isSome=true/\p.isSome=true/\((ad p 4).isSome=true/\0<=aF .i64 x/\aF .i64 x<(↑17:Int))/\az w1 (ad (ad p 4) ((aF .i64 x).toNat*1)) [ag none] λd=>az d (af i) [ay (aF .u64 s.1),aa 0] λd=>au d λw1
 =>aj w1 none (af i) cF λ(x:Int×Int×Unit)=>l (x.1,x.2.1,()) w1))))):=by kernel_rfl
def pP:Nat->aZ:=(λ|3=>[(7,Go.RX.El.one (Go.RX.Sc.int AT)),(14,Go.RX.El.one (Go.RX.Sc.int AT))]| _=>[])
theorem Hv (p:Option AC) (v k a b c:Int) (w:A2) (g:RS->A2->Prop):(bQ V0 pP 123 [ag p,aa v,.agg ⟨[aa k,ay a,ay b,ay c]⟩] w g)=(
 aN w ⟨[aa k,ay a,ay b,ay c]⟩ 31 λb d=>aN d ⟨[ay 0,aa 0]⟩ 61 λb d=>bG p 1 d λx=> ∃(h:Int),ae AB 62 [ag x] d (aa h)/\ ∃(I:Nat->Int×Int×Unit->A2->Prop),(∃n, ∀w1,Ext d w1->I n (0,0,()) w1)/\ ∀(n:Nat) (s:Int×Int×Unit) (w1:A2),I n s w1->aI (decide (s.2.1<h)) (aA AB 43 (.el aT) [ag p,aa s.2.1] w1 λ(x:Int) d=>aI (x==0) (∀e,Ext d e-> ∃(f:Nat),f<n/\I f (aJ .i64 s.1 1,aJ .i64 s.2.1 1,()) e)
 (∀e,Ext d e-> ∃(f:Nat),f<n/\I f (s.1,aJ .i64 s.2.1 1,()) e)) (az w1 (af b) [ay (aF .u64 s.1),aa 0] λd=>au d λw1=>aj w1 none (af b) cF λ(x:Int×Int×Unit)=>g (x.1,x.2.1,()) w1)):=by kernel_rfl
def og:Nat->aZ:=(λ|13=>[(66,Go.RX.El.one (Go.RX.Sc.int AT))]| _=>[])
abbrev gw (a:RS->A2->Prop) (b:A2) (c:Nat):Prop:=
 au b λw1=>aj w1 none (af c) cF λ(x:Int×Int×Unit)=>a (x.1,x.2.1,()) w1
theorem E_ (p:Option AC) (v k a b c:Int) (w:A2) (f:RS->A2->Prop):(bQ V0 og 124 [ag p,aa v,.agg ⟨[aa k,ay a,ay b,ay c]⟩] w f)=(
 aN w ⟨[aa k,ay a,ay b,ay c]⟩ 31 λb d=>aN d ⟨[ay 0,aa 0]⟩ 61 λe d=>true=true/\cK d (ad (af b) 1) λx=>aI (decide (x>=65536)) (True/\az d (af e) [ay 0,aa 2] λd=>gw f d e) (true=true/\cK d (ad (af b) 2) λx=>((!decide (x<1))=true->true=true)/\aj d (some !decide (x<1)) (ad (af b) 2) rD λ(l:Int)=>aI (decide (x<1)||decide (l>7)) (True/\az d (af e) [ay 0,aa 7] λd=>gw f d e) (bG p 1 d
 λx=>aA AB 172 (.bu [.one (.int .i64),.one (.int .i64)]) [ag x,aa 4,aa v] d λ(x:Int×Int×Unit) d=>aI (x.2.1 != 0) (True/\az d (af e) [ay 0,aa x.2.1] λd=>gw f d e) (p.isSome=true/\p.isSome=true/\((ad p 4).isSome=true/\0<=v/\v<(↑17:Int))/\fZ d (ad (ad p 4) (v.toNat*1)) λm=>bG m 0 d λo=>true=true/\cK d (ad (af b) 1) λq=>true=true/\cK d (ad (af b) 2) λr=>aA AB 173 (.el aT) [ag o,aa (aF .i64 q),
 aa x.1,aa (aF .i64 r)] d λ(h:Int) d=>aI (h != 0) (bG p 1 d λg=>aA AB 79 (.el aT) [ag g,aa x.1] d λ(x:Int) d=>True/\az d (af e) [ay 0,aa h] λd=>gw f d e) (∃(I:Nat->Int×Unit->A2->Prop),(∃n, ∀w1,Ext d w1->I n (0,()) w1)/\ ∀(n:Nat) (s:Int×Unit) (w1:A2),I n s w1->aI (decide (s.1<16)) (bG p 0 w1 λg=>aA AB 38 (.el aT) [ag g,aa (aJ .i64 (iy .i64 16 x.1) s.1),ay 0] w1 λ(x:Int) d=> ∀
 i,Ext d i-> ∃(j:Nat),j<n/\I j (aJ .i64 s.1 1,()) i) (az w1 (af e) [ay (aF .u64 x.1),aa 0] λd=>gw f d e)))))):=by kernel_rfl
abbrev fI (a:RS->A2->Prop) (b:A2) (c:Nat):Prop:=
 au b λw1=>aj w1 none (af c) cF λ(x:Int×Int×Unit)=>a (x.1,x.2.1,()) w1
theorem CY (p:Option AC) (v k a b c:Int) (w:A2) (g:RS->A2->Prop):(bQ V0 (λ_=>[]) 125 [ag p,aa v,.agg ⟨[aa k,ay a,ay b,ay c]⟩] w g)=(
 aN w ⟨[aa k,ay a,ay b,ay c]⟩ 31 λb d=>aN d ⟨[ay 0,aa 0]⟩ 61 λe d=>true=true/\cK d (ad (af b) 1) λx=>aI (decide (x>=65536)) (True/\az d (af e) [ay 0,aa 2] λd=>fI g d e) (true=true/\cK d (ad (af b) 1) λx=>aA AB 81 (.bu [.one (.int .i64),.one (.int .i64),.one (.int .i64)]) [ag p,aa v,aa (aF .i64 x)] d λ(h:Int×Int×Int×Unit) d=>aI (h.2.2.1 != 0) (True/\az d (af e) [ay 0,aa h.2.2.1]
 λd=>fI g d e) (∃(i:Int×Bool×Unit),ae AB 174 [ag p,aa v,aa (aF .i64 x)] d (.tuple ⟨[aa i.1,.bool i.2.1]⟩)/\aI i.2.1 (True/\az d (af e) [ay 0,aa 7] λd=>fI g d e) (bG p 1 d λj=> ∃(f:(Int×Int×Int×Int×Unit)×Bool×Unit),ae AB 25 [ag j,aa h.1] d (.tuple {toList:=[.agg ⟨[aa f.1.1,aa f.1.2.1,aa f.1.2.2.1,aa f.1.2.2.2.1]⟩,.bool f.2.1]})/\aN d ⟨[aa 0,aa 0,
 aa 0,aa 0]⟩ 52 λb d=>az d (af b) [aa f.1.1,aa f.1.2.1,aa f.1.2.2.1,aa f.1.2.2.2.1] λd=>true=true/\aU d (ad (af b) 2) λl=>aI (decide (l>0)) (True/\az d (af e) [ay 0,aa 9] λd=>fI g d e) (p.isSome=true/\p.isSome=true/\((ad p 4).isSome=true/\0<=v/\v<(↑17:Int))/\fZ d (ad (ad p 4) (v.toNat*1)) λm=>bG m 0 d λn=>aA AB 175 (.bu [.one (.int .i64),.one (.int .i64)]) [ag n,aa (aF .i64 x)] d λ(x
 :Int×Int×Unit) d=>bG p 1 d λx=>aA AB 138 (.el aT) [ag x,aa h.1,aa 5,aa v] d λ(x:Int) d=>az d (af e) [ay (aF .u64 h.1),aa 0] λd=>fI g d e))))):=by kernel_rfl
abbrev kl (a:RS->A2->Prop) (b:A2) (c:Nat):Prop:=
 au b λw1=>aj w1 none (af c) cF λ(x:Int×Int×Unit)=>a (x.1,x.2.1,()) w1
abbrev oh (p:Option AC) (v:Int) (e:RS->A2->Prop) (a:A2) (c:Nat) (d:Nat):Prop:=
 p.isSome=true/\p.isSome=true/\((ad p 4).isSome=true/\0<=v/\v<(↑17:Int))/\fZ a (ad (ad p 4) (v.toNat*1)) λx=>bG x 0 a λx=>true=true/\cK a (ad (af c) 1) λf=>true=true/\cK a (ad (af c) 2) λg=>aA AB 177 (.el aT) [ag x,aa (aF .i64 f),aa (aF .i64 g)] a λ(x:Int) b=>True/\az b (af d) [ay 0,aa x] λb=>kl e b d
abbrev om (b:RS->A2->Prop) (c:A2) (a:Nat):Prop:=
 True/\az c (af a) [ay 0,aa 7] λd=>kl b d a
theorem CZ (p:Option AC) (v k a b c:Int) (w:A2) (f:RS->A2->Prop):(bQ V0 (λ_=>[]) 126 [ag p,aa v,.agg ⟨[aa k,ay a,ay b,ay c]⟩] w f)=(
 aN w ⟨[aa k,ay a,ay b,ay c]⟩ 31 λb d=>aN d ⟨[ay 0,aa 0]⟩ 61 λg d=>true=true/\cK d (ad (af b) 1) λx=>aI (decide (x>=65536)) (True/\az d (af g) [ay 0,aa 2] λd=>kl f d g) (true=true/\cK d (ad (af b) 2) λx=>((!decide (x<1))=true->true=true)/\aj d (some !decide (x<1)) (ad (af b) 2) rD λ(j:Int)=>aI (decide (x<1)||decide (j>7)) (om f d g) (true=true/\cK d (ad (af b) 1) λx=> ∃(h:Int×Bool×
 Unit),ae AB 174 [ag p,aa v,aa (aF .i64 x)] d (.tuple ⟨[aa h.1,.bool h.2.1]⟩)/\(h.2.1=true->true=true)/\aj d (some h.2.1) (ad (af b) 2) rD λ(x:Int)=>aI (h.2.1&&decide (wT .u64 x 2>0)) (bG p 2 d λx=> ∃(e:(Int×Int×Int×Bool×Int×Unit)×Bool×Unit),ae AB 176 [ag x,aa h.1] d (.tuple {toList:=[.agg ⟨[aa e.1.1,aa e.1.2.1,aa e.1.2.2.1,.bool e.1.2.2.2.1,aa e.1.2.2.2.2.1]⟩,.bool e.2.1]})/\aN d ⟨[aa 0,.int .i64
 0,aa 0,.bool false,aa 0]⟩ 255 λi d=>az d (af i) [aa e.1.1,aa e.1.2.1,aa e.1.2.2.1,.bool e.1.2.2.2.1,aa e.1.2.2.2.2.1] λd=>true=true/\s6 d (ad (af i) 3) λx=>aI (!x) (om f d g) (oh p v f d b g)) (oh p v f d b g)))):=by kernel_rfl
theorem L7 (p:Option AC) (v k a b c:Int) (w:A2) (f:RS->A2->Prop):(bQ V0 (λ_=>[]) 127 [ag p,aa v,.agg ⟨[aa k,ay a,ay b,ay c]⟩] w f)=(
 aN w ⟨[aa k,ay a,ay b,ay c]⟩ 31 λb d=>aN d ⟨[ay 0,aa 0]⟩ 61 λe d=>true=true/\cK d (ad (af b) 1) λx=>aA AB 178 (.bu [.one (.int .i64),.one (.int .i64)]) [ag p,aa v,ay x,aa 1] d λ(x:Int×Int×Unit) d=>aI (x.2.1 != 0) (True/\az d (af e) [ay 0,aa x.2.1] λd=>au d λw1=>aj w1 none (af e) cF λ(x:Int×Int×Unit)=>f (x.1,x.2.1,()) w1) (bG p 0 d λg=>aA AB 37 (.bu [.one (.int .u64),.one (.int
 .i64)]) [ag g,aa x.1] d λ(x:Int×Int×Unit) d=>az d (af e) [ay x.1,aa x.2.1] λd=>au d λw1=>aj w1 none (af e) cF λ(x:Int×Int×Unit)=>f (x.1,x.2.1,()) w1)):=by kernel_rfl
theorem Hw (p:Option AC) (v k a b c:Int) (w:A2) (f:RS->A2->Prop):(bQ V0 (λ_=>[]) 128 [ag p,aa v,.agg ⟨[aa k,ay a,ay b,ay c]⟩] w f)=(
 aN w ⟨[aa k,ay a,ay b,ay c]⟩ 31 λb d=>aN d ⟨[ay 0,aa 0]⟩ 61 λe d=>true=true/\cK d (ad (af b) 1) λx=>aA AB 178 (.bu [.one (.int .i64),.one (.int .i64)]) [ag p,aa v,ay x,aa 2] d λ(x:Int×Int×Unit) d=>aI (x.2.1 != 0) (True/\az d (af e) [ay 0,aa x.2.1] λd=>au d λw1=>aj w1 none (af e) cF λ(x:Int×Int×Unit)=>f (x.1,x.2.1,()) w1) (bG p 0 d λg=>true=true/\cK d (ad (af b) 2) λh=>aA
 AB 38 (.el aT) [ag g,aa x.1,ay h] d λ(x:Int) d=>True/\az d (af e) [ay 0,aa x] λd=>au d λw1=>aj w1 none (af e) cF λ(x:Int×Int×Unit)=>f (x.1,x.2.1,()) w1)):=by kernel_rfl
abbrev ir (a:RS->A2->Prop) (b:A2) (c:Nat):Prop:=
 au b λw1=>aj w1 none (af c) cF λ(x:Int×Int×Unit)=>a (x.1,x.2.1,()) w1
theorem Hx (p:Option AC) (v k a b c:Int) (w:A2) (f:RS->A2->Prop):(bQ V0 (λ_=>[]) 129 [ag p,aa v,.agg ⟨[aa k,ay a,ay b,ay c]⟩] w f)=(
 aN w ⟨[aa k,ay a,ay b,ay c]⟩ 31 λb d=>aN d ⟨[ay 0,aa 0]⟩ 61 λe d=>true=true/\cK d (ad (af b) 2) λx=> ∃(g:Int),ae AB 179 [ag p,aa v,ay x] d (aa g)/\true=true/\cK d (ad (af b) 1) λx=>aI (decide (x>=65536)) (True/\az d (af e) [ay 0,aa 2] λd=>ir f d e) (((!g==1)=true->true=true)/\aj d (some !g==1) (ad (af b) 3) rD λ(x:Int)=>aI (g==1||decide (x>1)) (True/\az d (af e) [.int
 .u64 0,aa 1] λd=>ir f d e) (true=true/\cK d (ad (af b) 1) λx=>aA AB 81 (.bu [.one (.int .i64),.one (.int .i64),.one (.int .i64)]) [ag p,aa v,aa (aF .i64 x)] d λ(x:Int×Int×Int×Unit) d=>aI (x.2.2.1 != 0||g != 0) (True/\az d (af e) [ay 0,aa 4] λd=>ir f d e) (true=true/\cK d (ad (af b) 1) λx=> ∃(h:Int×Bool×Unit),ae AB 174 [ag p,aa v,aa (aF .i64 x)] d (.tuple ⟨[aa h.1,.bool h.2.1]⟩)/\
 aI h.2.1 (True/\az d (af e) [ay 0,aa 7] λd=>ir f d e) (bG p 2 d λx=>true=true/\cK d (ad (af b) 1) λi=>true=true/\cK d (ad (af b) 2) λj=>true=true/\cK d (ad (af b) 3) λl=>aA AB 180 (.bu [.one (.int .i64),.one (.int .i64)]) [ag x,aa v,aa (aF .i64 i),aa (aF .i64 j),.bool (l==1)] d λ(x:Int×Int×Unit) d=>az d (af e) [ay (aF .u64 x.1),aa x.2.1] λd=>ir f d e))))):=by kernel_rfl
theorem L8 (p:Option AC) (v k a b c:Int) (w:A2) (f:RS->A2->Prop):(bQ V0 (λ_=>[]) 130 [ag p,aa v,.agg ⟨[aa k,ay a,ay b,ay c]⟩] w f)=(
 aN w ⟨[aa k,ay a,ay b,ay c]⟩ 31 λb d=>aN d ⟨[ay 0,aa 0]⟩ 61 λe d=>true=true/\cK d (ad (af b) 2) λx=>aI (decide (x>=65536)) (True/\az d (af e) [ay 0,aa 2] λd=>au d λw1=>aj w1 none (af e) cF λ(x:Int×Int×Unit)=>f (x.1,x.2.1,()) w1) (true=true/\cK d (ad (af b) 1) λx=>((!decide (x>=16))=true->true=true)/\aj d (some !decide (x>=16)) (ad (af b) 3) rD λ(A:Int)=>aI (decide (x>=16)||decide (A>1)) (True/\az d (af
 e) [ay 0,aa 1] λd=>au d λw1=>aj w1 none (af e) cF λ(x:Int×Int×Unit)=>f (x.1,x.2.1,()) w1) (true=true/\cK d (ad (af b) 1) λx=>true=true/\cK d (ad (af b) 2) λn=>true=true/\cK d (ad (af b) 3) λj=>bG p 2 d λB=> ∃(g:(Int×Int×Int×Bool×Int×Unit)×Bool×Unit),ae AB 176 [ag B,aa (aF .i64 x)] d (.tuple {toList:=[.agg ⟨[aa g.1.1,aa g.1.2.1,aa g.1.2.2.1,.bool g.1.2.2.2.1,aa g.1.2.2.2.2.1]⟩,.bool
 g.2.1]})/\aN d ⟨[aa 0,aa 0,aa 0,.bool false,aa 0]⟩ 255 λb d=>az d (af b) [aa g.1.1,aa g.1.2.1,aa g.1.2.2.1,.bool g.1.2.2.2.1,aa g.1.2.2.2.2.1] λd=>aI (!g.2.1) (True/\az d (af e) [ay 0,aa 4] λd=>au d λw1=>aj w1 none (af e) cF λ(x:Int×Int×Unit)=>f (x.1,x.2.1,()) w1) (true=true/\aU d (ad (af b) 2) λo=>((!o != v&&j==1)=true->true=true)/\aj d (some (!o != v&&j==1)) (ad (af b) 3) rE λC=>aI
 (o != v||j==1&& !C) (True/\az d (af e) [ay 0,aa 7] λd=>au d λw1=>aj w1 none (af e) cF λ(x:Int×Int×Unit)=>f (x.1,x.2.1,()) w1) (true=true/\aU d (ad (af b) 0) λD=>true=true/\aU d (ad (af b) 1) λE=>aA AB 81 (.bu [.one (.int .i64),.one (.int .i64),.one (.int .i64)]) [ag p,aa D,aa E] d λ(h:Int×Int×Int×Unit) d=>aI (h.2.2.1 != 0) (True/\az d (af e) [ay 0,aa 4] λd=>au d λw1=>aj w1 none (af e) cF λ
 (x:Int×Int×Unit)=>f (x.1,x.2.1,()) w1) (true=true/\aU d (ad (af b) 0) λF=>true=true/\aU d (ad (af b) 1) λG=> ∃(q:Int×Bool×Unit),ae AB 174 [ag p,aa F,aa G] d (.tuple ⟨[aa q.1,.bool q.2.1]⟩)/\aI q.2.1 (True/\az d (af e) [ay 0,aa 7] λd=>au d λw1=>aj w1 none (af e) cF λ(x:Int×Int×Unit)=>f (x.1,x.2.1,()) w1) (bG p 2 d λH=>aA AB 181 (.el aT) [ag H,aa (aF .i64 x),aa v,
 .bool (j==1)] d λ(z:Int) d=>aI (z != 0) (True/\az d (af e) [ay 0,aa z] λd=>au d λw1=>aj w1 none (af e) cF λ(x:Int×Int×Unit)=>f (x.1,x.2.1,()) w1) (aI (j==1) (p.isSome=true/\p.isSome=true/\((ad p 4).isSome=true/\0<=v/\v<(↑17:Int))/\fZ d (ad (ad p 4) (v.toNat*1)) λs=>bG s 0 d λt=>aA AB 173 (.el aT) [ag t,aa (aF .i64 n),aa h.1,aa (Z3 .i64 1 2)] d λ(l:Int) d=>aI (l != 0) (bG p 2 d λi
 =>aA AB 182 (.el aT) [ag i,aa (aF .i64 x),aa v] d λ(x:Int) d=>True/\az d (af e) [ay 0,aa l] λd=>au d λw1=>aj w1 none (af e) cF λ(x:Int×Int×Unit)=>f (x.1,x.2.1,()) w1) (bG p 1 d λi=>aA AB 183 (.el aT) [ag i,aa h.1,aa 1] d λ(I:Int) d=>p.isSome=true/\p.isSome=true/\((ad p 4).isSome=true/\0<=v/\v<(↑17:Int))/\fZ d (ad (ad p 4) (v.toNat*1)) λu=>s7 u 1 d λy=> ∀w1,Ext d w1-> ∃(r
 :Nat), ∃(es:Array AH), ∃(m:Nat),y=some r/\bF w1 r es m/\gR w1 r .i64 (aF .i64 n) (.agg ⟨[aa (aF .i64 x),aa h.1]⟩) es m λd=>az d (af e) [ay 0,aa 0] λd=>au d λw1=>aj w1 none (af e) cF λ(x:Int×Int×Unit)=>f (x.1,x.2.1,()) w1)) (p.isSome=true/\p.isSome=true/\((ad p 4).isSome=true/\0<=v/\v<(↑17:Int))/\fZ d (ad (ad p 4) (v.toNat*1)) λs=>bG s 0 d λt=>aA AB 173 (.el aT) [ag t,aa (aF .i64 n),
 aa h.1,aa 1] d λ(l:Int) d=>aI (l != 0) (bG p 2 d λi=>aA AB 182 (.el aT) [ag i,aa (aF .i64 x),aa v] d λ(x:Int) d=>True/\az d (af e) [ay 0,aa l] λd=>au d λw1=>aj w1 none (af e) cF λ(x:Int×Int×Unit)=>f (x.1,x.2.1,()) w1) (bG p 1 d λi=>aA AB 183 (.el aT) [ag i,aa h.1,aa 1] d λ(I:Int) d=>p.isSome=true/\p.isSome=true/\((ad p 4).isSome=true/\0<=v/\v<(↑17:Int))/\fZ
 d (ad (ad p 4) (v.toNat*1)) λu=>s7 u 1 d λy=> ∀w1,Ext d w1-> ∃(r:Nat), ∃(es:Array AH), ∃(m:Nat),y=some r/\bF w1 r es m/\gR w1 r .i64 (aF .i64 n) (.agg ⟨[aa (aF .i64 x),aa h.1]⟩) es m λd=>az d (af e) [ay 0,aa 0] λd=>au d λw1=>aj w1 none (af e) cF λ(x:Int×Int×Unit)=>f (x.1,x.2.1,()) w1)))))))))):=by kernel_rfl
abbrev nV (a:RS->A2->Prop) (b:A2) (c:Nat):Prop:=
 au b λw1=>aj w1 none (af c) cF λ(x:Int×Int×Unit)=>a (x.1,x.2.1,()) w1
theorem L9 (p:Option AC) (v k a b c:Int) (w:A2) (f:RS->A2->Prop):(bQ V0 (λ_=>[]) 131 [ag p,aa v,.agg ⟨[aa k,ay a,ay b,ay c]⟩] w f)=(
 aN w ⟨[aa k,ay a,ay b,ay c]⟩ 31 λb d=>aN d ⟨[ay 0,aa 0]⟩ 61 λe d=>true=true/\cK d (ad (af b) 1) λx=>aI (decide (x>=65536)) (True/\az d (af e) [ay 0,aa 2] λd=>nV f d e) (true=true/\cK d (ad (af b) 1) λx=> ∃(g:Int×Bool×Unit),ae AB 174 [ag p,aa v,aa (aF .i64 x)] d (.tuple ⟨[aa g.1,.bool g.2.1]⟩)/\aI (!g.2.1) (True/\az d (af e) [ay 0,aa 4] λd=>nV f d e) (true=
 true/\cK d (ad (af b) 1) λx=>aA AB 167 (.bu []) [ag p,aa v,aa (aF .i64 x)] d λx d=>az d (af e) [ay 0,aa 0] λd=>nV f d e))):=by kernel_rfl
theorem E' (p:Option AC) (v k a b c:Int) (w:A2) (f:RS->A2->Prop):(bQ V0 (λ_=>[]) 132 [ag p,aa v,.agg ⟨[aa k,ay a,ay b,ay c]⟩] w f)=(
 aN w ⟨[aa k,ay a,ay b,ay c]⟩ 31 λb d=>aN d ⟨[ay 0,aa 0]⟩ 61 λe d=>true=true/\cK d (ad (af b) 1) λx=>aI (decide (x>=16)) (True/\az d (af e) [ay 0,aa 1] λd=>au d λw1=>aj w1 none (af e) cF λ(x:Int×Int×Unit)=>f (x.1,x.2.1,()) w1) (bG p 2 d λx=>true=true/\cK d (ad (af b) 1) λg=>aA AB 184 (.el aT) [ag x,aa (aF .i64 g),aa v] d λ(x:Int) d=>True/\az d (af e) [ay 0,aa x]
 λd=>au d λw1=>aj w1 none (af e) cF λ(x:Int×Int×Unit)=>f (x.1,x.2.1,()) w1)):=by kernel_rfl
theorem L_ (p:Option AC) (v k a b c:Int) (w:A2) (f:RS->A2->Prop):(bQ V0 (λ_=>[]) 133 [ag p,aa v,.agg ⟨[aa k,ay a,ay b,ay c]⟩] w f)=(
 aN w ⟨[aa k,ay a,ay b,ay c]⟩ 31 λb d=>aN d ⟨[ay 0,aa 0]⟩ 61 λe d=>true=true/\cK d (ad (af b) 1) λx=> ∃(g:Int),ae AB 179 [ag p,aa v,ay x] d (aa g)/\aI (g != 0) (True/\az d (af e) [ay 0,aa g] λd=>au d λw1=>aj w1 none (af e) cF λ(x:Int×Int×Unit)=>f (x.1,x.2.1,()) w1) (bG p 3 d λx=>true=true/\cK d (ad (af b) 1) λh=>aA AB 185 (.bu [.one (.int .i64),.one (.int .i64)])
 [ag x,aa v,aa (aF .i64 h)] d λ(x:Int×Int×Unit) d=>az d (af e) [ay (aF .u64 x.1),aa x.2.1] λd=>au d λw1=>aj w1 none (af e) cF λ(x:Int×Int×Unit)=>f (x.1,x.2.1,()) w1)):=by kernel_rfl
abbrev nW (a:RS->A2->Prop) (b:A2) (c:Nat):Prop:=
 au b λw1=>aj w1 none (af c) cF λ(x:Int×Int×Unit)=>a (x.1,x.2.1,()) w1
theorem Ma (p:Option AC) (v k a b c:Int) (w:A2) (g:RS->A2->Prop):(bQ V0 (λ_=>[]) 134 [ag p,aa v,.agg ⟨[aa k,ay a,ay b,ay c]⟩] w g)=(
 aN w ⟨[aa k,ay a,ay b,ay c]⟩ 31 λb d=>aN d ⟨[ay 0,aa 0]⟩ 61 λe d=>true=true/\cK d (ad (af b) 1) λx=> ∃(f:Int),ae AB 179 [ag p,aa v,ay x] d (aa f)/\((!f==1)=true->true=true)/\aj d (some !f==1) (ad (af b) 2) rD λ(x:Int)=>aI (f==1||decide (x>=4)) (True/\az d (af e) [ay 0,aa 1] λd=>nW g d e) (aI (f != 0) (True/\az d (af e) [ay 0,aa f] λd=>nW g d e)
 (bG p 3 d λx=>true=true/\cK d (ad (af b) 1) λh=>true=true/\cK d (ad (af b) 2) λi=>aA AB 186 (.bu [.one (.int .i64),.one (.int .i64)]) [ag x,aa v,aa (aF .i64 h),aa (aF .i64 i)] d λ(x:Int×Int×Unit) d=>az d (af e) [ay (aF .u64 x.1),aa x.2.1] λd=>nW g d e))):=by kernel_rfl
theorem Mb (p:Option AC) (v k a b c:Int) (w:A2) (f:RS->A2->Prop):(bQ V0 (λ_=>[]) 135 [ag p,aa v,.agg ⟨[aa k,ay a,ay b,ay c]⟩] w f)=(
 aN w ⟨[aa k,ay a,ay b,ay c]⟩ 31 λb d=>aN d ⟨[ay 0,aa 0]⟩ 61 λe d=>true=true/\cK d (ad (af b) 1) λx=>aI (decide (x>=4)) (True/\az d (af e) [ay 0,aa 1] λd=>au d λw1=>aj w1 none (af e) cF λ(x:Int×Int×Unit)=>f (x.1,x.2.1,()) w1) (bG p 3 d λx=>true=true/\cK d (ad (af b) 1) λg=>aA AB 187 (.el aT) [ag x,aa v,aa (aF .i64 g)] d λ(x:Int) d=>True/\az d (af e) [ay 0,aa x] λ
 d=>au d λw1=>aj w1 none (af e) cF λ(x:Int×Int×Unit)=>f (x.1,x.2.1,()) w1)):=by kernel_rfl
theorem Me (p:Option AC) (v k a b c:Int) (w:A2) (e:RS->A2->Prop):(bQ V0 (λ_=>[]) 136 [ag p,aa v,.agg ⟨[aa k,ay a,ay b,ay c]⟩] w e)=(
 aN w ⟨[aa k,ay a,ay b,ay c]⟩ 31 λb d=>aN d ⟨[ay 0,aa 0]⟩ 61 λb d=>bG p 3 d λx=>aA AB 188 (.bu [.one (.int .i64),.one .bool]) [ag x,aa v] d λ(x:Int×Bool×Unit) d=>aI (!x.2.1) (az d (af b) [ay 0,aa 0] λd=>au d λw1=>aj w1 none (af b) cF λ(x:Int×Int×Unit)=>e (x.1,x.2.1,()) w1) (az d (af b) [ay (aF .u64 (aJ .i64 x.1 1)),aa 0] λd=>au d λw1=>aj w1 none (af b) cF λ(x:Int×Int×Unit)=>e
 (x.1,x.2.1,()) w1)):=by kernel_rfl
theorem Hy (p:Option AC) (v k a b c:Int) (w:A2) (f:RS->A2->Prop):(bQ V0 (λ_=>[]) 137 [ag p,aa v,.agg ⟨[aa k,ay a,ay b,ay c]⟩] w f)=(
 aN w ⟨[aa k,ay a,ay b,ay c]⟩ 31 λb d=>aN d ⟨[ay 0,aa 0]⟩ 61 λe d=>true=true/\cK d (ad (af b) 1) λx=>aI (decide (x>=4)) (True/\az d (af e) [ay 0,aa 1] λd=>au d λw1=>aj w1 none (af e) cF λ(x:Int×Int×Unit)=>f (x.1,x.2.1,()) w1) (bG p 3 d λx=>true=true/\cK d (ad (af b) 1) λg=>aA AB 189 (.el aT) [ag x,aa v,aa (aF .i64 g)] d λ(x:Int) d=>True/\az d (af e) [ay 0,aa x] λ
 d=>au d λw1=>aj w1 none (af e) cF λ(x:Int×Int×Unit)=>f (x.1,x.2.1,()) w1)):=by kernel_rfl
abbrev kQ (a:RS->A2->Prop) (b:A2) (c:Nat):Prop:=
 au b λw1=>aj w1 none (af c) cF λ(x:Int×Int×Unit)=>a (x.1,x.2.1,()) w1
abbrev Bm (d:RS->A2->Prop) (f:A2) (b:Nat) (e:Int×Int×Unit) (c:Nat):Prop:=
 az f (af b) [ay e.1,aa e.2.1] λa=>true=true/\aU a (ad (af b) 1) λx=>aI (x != 0) (true=true/\aU a (ad (af b) 1) λx=>True/\az a (af c) [ay 0,aa x] λa=>kQ d a c) (aj a none (af b) cF λ(x:Int×Int×Unit)=>az a (af c) [ay x.1,aa x.2.1] λa=>kQ d a c)
abbrev Bo (p:Option AC) (v:Int) (b:RS->A2->Prop) (c:AF) (a:Int×Int×Int×Int×Unit) (d:A2) (e:Nat) (f:Nat):Prop:=
 zZ AB c (.el cF) [ag p,aa v,.agg ⟨[aa a.1,ay a.2.1,ay a.2.2.1,ay a.2.2.2.1]⟩] d λ(x:Int×Int×Unit) g=>Bm b g e x f
theorem ZI (p:Option AC) (v k a b c:Int) (w:A2) (f:RS->A2->Prop):(bQ V1 (λ_=>[]) 42 [ag p,aa v,.agg ⟨[aa k,ay a,ay b,ay c]⟩] w f)=(
 aN w ⟨[aa k,ay a,ay b,ay c]⟩ 31 λb d=>aN d ⟨[ay 0,aa 0]⟩ 61 λe d=> ∃x,ae AB 53 [ag p] d (.bool x)/\aI (!x) (True/\az d (af e) [ay 0,aa 10] λd=>kQ f d e) (aj d (some !(decide (v<0)||decide (v>16))) (af b) s8 λ(x:Int×Int×Int×Int×Unit)=> ∃j,((!(decide (v<0)||decide (v>16)))=true->ae AB 76 [.agg ⟨[aa x.1,ay x.2.1,ay x.2.2.1,ay x.2.2.2.1]⟩] d (.bool j))/\aI (decide (v<0)||decide (v>16)
 || !j) (True/\az d (af e) [ay 0,aa 1] λd=>kQ f d e) (true=true/\aU d (ad (af b) 0) λx=> ∃l,ae AB 77 [aa x] d (.bool l)/\aI (!(v==0)==l) (True/\az d (af e) [ay 0,aa 7] λd=>kQ f d e) (∃x,(decide (v>0)=true->ae AB 19 [ag p,aa v] d (.bool x))/\aI (decide (v>0)&& !x) (True/\az d (af e) [ay 0,aa 4] λd=>kQ f d e) (true=true/\aU d (ad (af b) 0) λx=>aj d none (af b) s8 λ(g:Int
 ×Int×Int×Int×Unit)=>(aA AB 78 (.el N_) [] d λi d=>cI d (af b) s8 g/\cI d (ad (af b) 0) aT x/\True/\ ∃(h:AF),jS d i .i64 x Io h/\(zZ AB h (.el cF) [ag p,aa v,.agg ⟨[aa g.1,ay g.2.1,ay g.2.2.1,ay g.2.2.2.1]⟩] d λ(x:Int×Int×Unit) d=>aN d ⟨[ay 0,aa 0]⟩ 61 λb d=>Bm f d b x e)/\aN d ⟨[ay 0,aa 0]⟩ 61 λb d=>Bo p v f h g d b e)/\aN d ⟨[ay 0,aa 0]⟩ 61 λm
 d=>aA AB 78 (.el N_) [] d λi d=>cI d (af b) s8 g/\cI d (ad (af b) 0) aT x/\True/\ ∃(h:AF),jS d i .i64 x Io h/\Bo p v f h g d m e))))):=by kernel_rfl
open Go.RX D
def px:Nat->Int->Int
 |0,p=>p
 |l+1,p=>px l p / 16
theorem px4 {p:Int} (h:0<=p/\p<65536):px 4 p=0:=by simp only[px];omega
theorem nJ (p:Int) (l:Nat):px l p=16*px (l+1) p+px l p % 16:=by simp only[px];omega
theorem dZ (p:Int) (l:Nat):0<=px l p % 16/\px l p % 16<16:=by omega
theorem ZJ {p:Int} (h:0<=p/\p<65536) {l:Nat} (a:l<=3):fv p (l:Int)=px l p % 16:=by
 unfold fv;rw[av (by omega)];congr 1;rcases l with _| _| _| _|l
 ·show p / 1=p;omega
 ·rfl
 ·show p / 256=p / 16 / 16;omega
 ·show p / 4096=p / 16 / 16 / 16;omega
 ·omega
theorem lq {f p:Int} (b:0<=f/\f<4096) (h:0<=p/\p<65536) {l:Nat} (a:l<=3):dQ f p (l:Int)=16*f+px l p % 16:=by
 unfold dQ;rw[ZJ h a,ao (by omega)]
theorem oX:e9 0=zE:=by decide+kernel
theorem Kb:dp zE=false:=by decide
theorem Hz (v:Int):bR (e9 v).1 (e9 v).2.1 (e9 v).2.2.1 (e9 v).2.2.2.1=true:=by
 unfold e9 Ic FA JY Fj;cases h:uG (B v).toNat with
 |false=>simp;decide
 |true=>
  unfold uG at h;simp only[Bool.and_eq_true] at h;simpa using h.2
theorem xF {p:Bool} {r:Int} {l:Bool} {f:Int} (h:bR p r l f=true):e9 (Fz p r l f)=(p,r,l,f,()):=by
 have hb:=y6 h;unfold Fz;rw[av h];obtain⟨h1,v,k,w,m⟩:=hb;obtain⟨r,rfl⟩:=Im h1;obtain⟨f,rfl⟩:=Im k;have key: ∀n:Nat,vI p (r:Int) l (f:Int)=(n:Int)->n<18446744073709551616->(n % 2==1)=p->n / 2 % 8=r->(n / 16 % 2==1)=l->n / 32 % 128=0->n / 4096 % 4096=f->n / 16777216 % 1099511627776=0->e9 (vI p (r:Int) l (f:Int))=(p,(r:Int),l,(f:Int),()):=by
  intro n e x d g i o j q;have s:(B (vI p (r:Int) l (f:Int))).toNat=n:=by rw[e,Iw (by omega) (by omega)];omega
  have ok:uG n=true:=by
   unfold uG;rw[o,q,d,g,i,j,h];decide
  unfold e9 Ic FA JY Fj;rw[s,ok,d,g,i,j];simp
 cases p with
 |false=>
  obtain⟨a,b,c⟩:=m rfl;subst b;have t:r=0:=by omega
  have u:f=0:=by omega
  subst t;subst u;exact key 0 rfl (by decide) rfl rfl rfl rfl rfl rfl
 |true=>
  have y:nB l<=1:=Oz l;refine key (1+2*r+16*nB l+4096*f) ?_ (by omega) ?_ (by omega) ?_ (by omega) (by omega) (by omega)
  ·unfold vI;have:nB true=1:=rfl;rw[this];omega
  ·have:(1+2*r+16*nB l+4096*f) % 2=1:=by omega
   rw[this];rfl
  ·have:(1+2*r+16*nB l+4096*f) / 16 % 2=nB l:=by omega
   rw[this];cases l<;>rfl
theorem lE (ws:List Int) (a:Int):bR (aH ws a).1 (aH ws a).2.1 (aH ws a).2.2.1 (aH ws a).2.2.2.1=true:=Hz _
theorem dI {f:Int} (h:0<=f/\f<4096):dp (b_ f)=true:=by
 unfold dp b_ fO bR;simp;omega
theorem HA {f:Int} (h:0<=f/\f<4096):bR true 0 false f=true:=by
 unfold bR;simp;omega
theorem RO {f:Int} (h:0<=f/\f<4096):e9 (Nz (b_ f))=b_ f:=xF (HA h)
theorem jh {ws:List Int} {i:Int} (h:0<=i) (h':i<ws.length):uH ws i=true:=jd.2 ⟨h,h'⟩
theorem xG {ws:List Int} {a v:Int} (h:uH ws a=true):dC (cW ws a v) a=v:=by
 have hi:=jd.1 h;have b:uH (cW ws a v) a=true:=jd.2 ⟨hi.1,by rw[cG];exact hi.2⟩;unfold dC;rw[av b];unfold cW;rw[av h,DB,C5 (by omega)];rfl
theorem mL {ws:List Int} {a b v:Int} (h:a≠b):dC (cW ws a v) b=dC ws b:=by
 have e:uH (cW ws a v) b=uH ws b:=by unfold uH;rw[cG]
 unfold dC;rw[e];by_cases hb:uH ws b=true
 ·rw[av hb,av hb];unfold cW;split
  ·rename_i c;have h1:=jd.1 c;have d:=jd.1 hb;rw[DB,DB,BX (by omega)]
  ·rfl
 ·rw[ao hb,ao hb]
theorem tA {ws:List Int} {f:Int} {G:Int->Int} (a:0<=f) (c:16*f+16<=ws.length): ∀n:Nat,n<=16-> ∀b,dC (e_ ws f G n) b=if 16*f<=b/\b<16*f+(n:Int) then G (b - 16*f) else dC ws b
 |0, _,b=>by rw[ao (by omega)];rfl
 |n+1,d,b=>by
  rw[e_];by_cases e:16*f+(n:Int)=b
  ·subst e;rw[xG (jh (by omega) (by rw[gJ];omega)),av (by omega)];congr 1;omega
  ·rw[mL e,tA a c n (by omega) b];by_cases h:16*f<=b/\b<16*f+(n:Int)
   ·rw[av h,av (by omega)]
   ·rw[ao h,ao (by omega)]
theorem Em {ds:List DT} (h:0<cq ds 0): ∃i d,iG ds=some i/\i<ds.length/\ds[i]? =some d/\d.1=0:=by
 unfold cq at h;rw[List.countP_pos_iff] at h;obtain⟨a,c,h0⟩:=h;cases b:iG ds with
 |none=>
  unfold iG at b;rw[F4] at b;have:=b a c;rw[this] at h0;cases h0
 |some i=>
  unfold iG at b;rw[FQ] at b;obtain⟨h1,e, _⟩:=b;exact⟨i,ds[i],rfl,h1,BO h1,by simpa using e⟩
theorem Bp {o:Int} (h:1<=o/\o<=16):aO 3 o zD=((3,o,0,0,()),0):=by
 have e:gN 0 0 0 0 3 o=0:=by
  unfold gN;rw[ao (by decide),ao (by decide),av (by decide),ao ?_];unfold dT jK;simp;omega
 unfold aO zD mI k_;dsimp only;rw[e];simp
theorem m5 {ds:List DT} {o:Int} (h:0<cq ds 0) (f: ∀d∈ds,d.1=0->d=zD) (b:1<=o/\o<=16): ∃i:Nat,i<ds.length/\ds[i]? =some zD/\fh ds 3 o=(i:Int)/\dN ds 3 o=0/\dG ds 3 o=ds.set i (3,o,0,0,()):=by
 obtain⟨i,d,h1,g,a,j⟩:=Em h;have k:d=zD:=f d (Ca a) j;subst k;have c:ds.getD i zD=zD:=by rw[DB,a];rfl
 have e:vz ds (i:Int) (aO 3 o)=0:=by
  rw[yK (by omega)];show(aO 3 o (ds.getD i zD)).2=0;rw[c,Bp b]
 have l:dD ds (i:Int) (aO 3 o)=ds.set i (3,o,0,0,()):=by
  rw[pf (by omega)];show(if(aO 3 o (ds.getD i zD)).2=0 then ds.set i (aO 3 o (ds.getD i zD)).1 else ds)= _;rw[c,Bp b,av rfl]
 refine⟨i,g,a,?_,?_,?_⟩
 ·unfold fh;rw[h1];dsimp only;rw[av e]
 ·unfold dN;rw[ao (by omega),h1];exact e
 ·unfold dG;rw[h1];exact l
theorem tB {ds:List DT} {i:Nat} {d d':DT} (h:ds[i]? =some d) (v:Int):cq (ds.set i d') v+(if d.1=v then 1 else 0)=cq ds v+(if d'.1=v then 1 else 0):=by
 have hi:i<ds.length:=(Ae.1 h).1;have a:ds=ds.take i++d::ds.drop (i+1):=by
  have:=(I1 i ds).symm;rw[GF hi,(Ae.1 h).2] at this;exact this
 have b:ds.set i d'=ds.take i++d'::ds.drop (i+1):=by rw[List.set_eq_take_append_cons_drop,av hi]
 unfold cq;rw[b]
 conv=>rhs;rw[a]
 simp only[List.countP_append,List.countP_cons];by_cases h1:d.1=v<;>by_cases c:d'.1=v<;>simp[h1,c]<;>omega
theorem En {o:Int} (h:1<=o/\o<=16):aO 5 0 (3,o,0,0,())=((5,o,0,0,()),0):=by
 have a:dT 3 o 0 0=true:=by unfold dT jK;simp;omega
 have b:dT 5 o 0 0=true:=by unfold dT jK;simp;omega
 have e:gN 3 o 0 0 5 0=0:=by
  unfold gN;rw[a,ao (by decide),ao (by decide),av (by decide),av rfl,b,ao (by decide)]
 unfold aO mI k_;dsimp only;rw[e];simp
abbrev Gh:Type:=Int->Option (Int×Nat×Int)
def mh (g:Gh) (f:Int) (v:Option (Int×Nat×Int)):Gh:=λx=>if x=f then v else g x
theorem bI (g:Gh) (f:Int) (v:Option (Int×Nat×Int)):mh g f v f=v:=av rfl
theorem aX {g:Gh} {f x:Int} (h:x≠f) (v:Option (Int×Nat×Int)):mh g f v x=g x:=ao h
def ly (l:Nat) (e:ET):Prop:=e.1=true->dp e=false->(l=0/\e.2.2.1=false)\/(l=1/\e.2.2.1=true/\e.2.2.2.1 % 16=0)
theorem DM (l:Nat):ly l zE:=λh=>by cases h
theorem abh (l:Nat) {e:ET} (h:dp e=true):ly l e:=λh'=>by grind
structure Inv (g:Gh) (s:WD):Prop where
 len:16*s.2.length<=s.1.length
 le:s.2.length<=4096
 fz: ∀d∈s.2,d.1=0->d=zD
 kd: ∀{f o l x},g f=some (o,l,x)->0<=f/\f<s.2.length/\s.2[f.toNat]? =some (3,o,0,0,())/\1<=o/\o<=16/\l<=3
 inj: ∀{f f' v},g f=some v->g f'=some v->f=f'
 sr: ∀{f o l x i},g f=some (o,l,x)->0<=i->i<16->dp (aH s.1 (16*f+i))=true-> ∃m,l=m+1/\g (aH s.1 (16*f+i)).2.2.2.1=some (o,m,16*x+i)
 leaf: ∀{f o l x i},g f=some (o,l,x)->0<=i->i<16->ly l (aH s.1 (16*f+i))
 Fl: ∀{f o l x},g f=some (o,l,x)->l<3-> ∃f',g f'=some (o,l+1,x / 16)/\aH s.1 (16*f'+x % 16)=b_ f
 wf: ∀{f o l x i},g f=some (o,l,x)->0<=i->i<16->(aH s.1 (16*f+i)).1=false->dC s.1 (16*f+i)=0
 tb: ∀{n:Nat} {d},s.2[n]? =some d->d.1=3-> ∃v,g (n:Int)=some v
def dH (g:Gh) (s:WD) (o p f:Int) (j:Nat):Prop:=g f=some (o,j,px (j+1) p)/\dp (aH s.1 (16*f+px j p % 16))=false
theorem gf {ws:List Int} {a v b:Int} (h:a≠b):aH (cW ws a v) b=aH ws b:=by grind[aH,mL]
theorem y_ {ws:List Int} {a v:Int} (h:uH ws a=true):aH (cW ws a v) a=e9 v:=by grind[aH,xG]
namespace Inv
variable {g:Gh} {s:WD}
theorem vA (I:Inv g s) {f o:Int} {l:Nat} {x:Int} (h:g f=some (o,l,x)):0<=f/\f<4096/\16*f+16<=s.1.length:=by
 have:=I.kd h;have:=I.len;have:=I.le;omega
theorem reach (I:Inv g s) {o r p:Int} (c:g r=some (o,3,0)) (b:0<=p/\p<65536): ∀(n:Nat) {f:Int} {j:Nat},j+n=3->g f=some (o,j,px (j+1) p)-> ∃a,de s.1 p 3 r=a++de s.1 p j f
 |0,f,j,d,h=>by
  have:j=3:=by omega
  subst this;rw[px4 b] at h;rw[I.inj h c];simp
 |n+1,f,j,d,h=>by
  obtain⟨f',h1,i⟩:=I.Fl h (by omega);have k:=h1;obtain⟨a,u⟩:=I.reach c b n (by omega) k;obtain⟨l,m, _⟩:=I.vA h1;refine⟨a++[(f',(j+1:Int),dQ f' p (j+1:Nat),())],?_⟩;have q:j+1<=3:=by omega
  have e:de s.1 p (j+1) f'=(f',(j+1:Int),dQ f' p (j+1:Nat),())::de s.1 p j f:=by
   rw[de];have t:aH s.1 (dQ f' p (j+1:Nat))=b_ f:=by rw[lq ⟨l,m⟩ b q];exact i
   obtain⟨c1,c2, _⟩:=I.vA h;rw[t,av (dI ⟨c1,c2⟩)];rfl
  grind
theorem ab7 {ws:List Int} {p f:Int} {j:Nat} (h:dp (aH ws (dQ f p (j:Int)))=false):de ws p j f=[(f,(j:Int),dQ f p (j:Int),())]:=by
 cases j with
 |zero=>rfl
 |succ=>rw[de,ao (by grind)]
theorem nK (I:Inv g s) {o r p:Int} (e:g r=some (o,3,0)) (b:0<=p/\p<65536) {f:Int} {j:Nat} (h:dH g s o p f j):
 dE s.1 r p=(f,(j:Int),16*f+px j p % 16,())/\dg s.1 r p=aH s.1 (16*f+px j p % 16):=by
 have i:=I.kd h.1;obtain⟨k,l, _⟩:=I.vA h.1;obtain⟨a,m⟩:=I.reach e b (3 - j) (by omega) h.1;have c:=lq ⟨k,l⟩ b i.2.2.2.2.2;have d:dE s.1 r p=(f,(j:Int),16*f+px j p % 16,()):=by
  unfold dE;rw[m,ab7 (by rw[c];exact h.2),c,List.getLastD_concat]
 exact⟨d,by unfold dg;rw[d]⟩
theorem Pn (I:Inv g s) {o p:Int}: ∀(l:Nat) {f:Int},g f=some (o,l,px (l+1) p)-> ∃f' j,j<=l/\dH g s o p f' j
 |l,f,h=>by
  cases a:dp _ with
  |false=>exact⟨f,l,by simp,h,a⟩
  |true=>
   obtain⟨m,rfl,b⟩:=I.sr h (dZ p l).1 (dZ p l).2 a;rw[<-nJ] at b;obtain:=I.Pn m b
   grind
theorem mv (I:Inv g s) {o r p:Int} (a:g r=some (o,3,0)) (b:0<=p/\p<65536): ∃f j,j<=3/\dH g s o p f j:=I.Pn 3 (by rw[px4 b];exact a)
theorem grow (I:Inv g s) {f o x i:Int} {m:Nat} (r:g f=some (o,m+1,x)) (If:0<=i) (xW:i<16) (l:dp (aH s.1 (16*f+i))=false) (hc:0<cq s.2 0) (G:Int->Int)
 (J: ∀k,0<=k->k<16->dp (e9 (G k))=false/\ly m (e9 (G k))/\((e9 (G k)).1=false->G k=0)):
 rz s o=0/\g (dX s o)=none/\0<=dX s o/\dX s o<s.2.length/\(dK (iF s o G) (16*f+i) (b_ (dX s o))).2=s.2.set (dX s o).toNat (3,o,0,0,())/\s.2[(dX s o).toNat]? =some zD/\
 (∀b,b≠16*f+i->(b<16*dX s o\/16*dX s o+16<=b)->aH (dK (iF s o G) (16*f+i) (b_ (dX s o))).1 b=aH s.1 b)/\
 (∀k,0<=k->k<16->aH (dK (iF s o G) (16*f+i) (b_ (dX s o))).1 (16*dX s o+k)=e9 (G k))/\
 aH (dK (iF s o G) (16*f+i) (b_ (dX s o))).1 (16*f+i)=b_ (dX s o)/\
 Inv (mh g (dX s o) (some (o,m,16*x+i))) (dK (iF s o G) (16*f+i) (b_ (dX s o))):=by
 have B:=I.kd r;obtain⟨n,T,M,j,C,N⟩:=m5 hc I.fz ⟨B.2.2.2.1,B.2.2.2.2.1⟩;have O:dX s o=(n:Int):=j;have P:rz s o=0:=C;have U:=I.len;have V:=I.le;have X:16*(n:Int)+16<=s.1.length:=by omega
 obtain⟨W,D⟩: ∃W,W=e_ s.1 (n:Int) G 16:=⟨_,rfl⟩;have Q:W.length=s.1.length:=by rw[D,gJ]
 have Y: ∀b,dC W b=if 16*(n:Int)<=b/\b<16*(n:Int)+16 then G (b - 16*(n:Int)) else dC s.1 b:=λb=>by
  rw[D];exact tA (by omega) X 16 (B5 _) b
 have Z:iF s o G=(W,s.2.set n (3,o,0,0,())):=by unfold iF;rw[av P,O,N,D]
 clear D;have gz:=I.vA r;have gn:g (n:Int)=none:=by
  cases hg:g (n:Int) with
  |none=>rfl
  |some v=>
   obtain⟨a,b,c⟩:=v;have:=(I.kd hg).2.2.1;rw[show((n:Int)).toNat=n from rfl,M] at this;cases this
 have E: ∀{f':Int} {v},g f'=some v->f'≠(n:Int):=λh e=>by rw[e,gn] at h;cases h
 have rq:f≠(n:Int):=E r;rw[Z,O];have XU:uH (W) (16*f+i)=true:=jh (by omega) (by rw[Q];omega);have K: ∀b,b≠16*f+i->dC (cW (W) (16*f+i) (Nz (b_ (n:Int)))) b=if 16*(n:Int)<=b/\b<16*(n:Int)+16 then G (b - 16*(n:Int)) else dC s.1 b:=λb hb=>by
  rw[mL (λe=>hb e.symm),Y b]
 have w0: ∀b,b≠16*f+i->aH (cW (W) (16*f+i) (Nz (b_ (n:Int)))) b=if 16*(n:Int)<=b/\b<16*(n:Int)+16 then e9 (G (b - 16*(n:Int))) else aH s.1 b:=λb hb=>by
  unfold aH;rw[K b hb];split<;>rfl
 have w1: ∀b,b≠16*f+i->(b<16*(n:Int)\/16*(n:Int)+16<=b)->aH (dK (W,s.2.set n (3,o,0,0,())) (16*f+i) (b_ (n:Int))).1 b=aH s.1 b:=λb hb h=>by
  show aH (cW _ _ _) b= _;rw[w0 b hb,ao (by omega)]
 have F: ∀k,0<=k->k<16->aH (dK (W,s.2.set n (3,o,0,0,())) (16*f+i) (b_ (n:Int))).1 (16*(n:Int)+k)=e9 (G k):=λk h0 h1=>by
  show aH (cW _ _ _) _= _;rw[w0 _ (by omega),av (by omega)];congr 2;omega
 have y:aH (dK (W,s.2.set n (3,o,0,0,())) (16*f+i) (b_ (n:Int))).1 (16*f+i)=b_ (n:Int):=by
  show aH (cW _ _ _) _= _;rw[y_ XU,RO (by omega)]
 refine⟨P,gn,by omega,by omega,rfl,by rw[show((n:Int)).toNat=n from rfl];exact M,w1,F,y,?_⟩;have fQ: ∀{f0 t p k:Int} {u:Nat},g f0=some (t,u,p)->0<=k->k<16->(16*f0+k=16*f+i/\f0=f/\k=i)\/aH (dK (W,s.2.set n (3,o,0,0,())) (16*f+i) (b_ (n:Int))).1 (16*f0+k)=aH s.1 (16*f0+k):=λ{f0 t p k u} h h0 h1=>by
  by_cases e:16*f0+k=16*f+i
  ·exact .inl ⟨e,by omega,by omega⟩
  ·have:=E h;exact .inr (w1 _ e (by omega))
 refine⟨?_,?_,?_,?_,?_,?_,?_,?_,?_,?_⟩
 ·show 16*(s.2.set n _).length<=(cW W _ _).length;rw[cG,Q,Bs];exact U
 ·show(s.2.set n _).length<=4096;rw[Bs];exact V
 ·intro d L h0;rcases FR L with L|rfl
  ·exact I.fz d L h0
  ·cases h0
 ·intro f0 t u p h;show _/\ _<((s.2.set n (3,o,0,0,())).length:Int)/\(s.2.set n (3,o,0,0,()))[f0.toNat]? = _/\ _;rw[Bs];by_cases e:f0=(n:Int)
  ·subst e;rw[bI] at h;cases h;refine⟨by omega,by omega,?_,B.2.2.2.1,B.2.2.2.2.1,by omega⟩;rw[show((n:Int)).toNat=n from rfl,C5 T]
  ·rw[aX e] at h;obtain⟨a1,a2,a3,a4⟩:=I.kd h;refine⟨a1,a2,?_,a4⟩;rw[BX (by omega)];exact a3
 ·intro a b v w hb;by_cases e:a=(n:Int)<;>by_cases e':b=(n:Int)
  ·rw[e,e']
  ·subst e;rw[bI] at w;rw[aX e'] at hb;cases w;exfalso;obtain⟨f',p1,p2⟩:=I.Fl hb (by omega);have z:(16*x+i) / 16=x:=by omega
   have A:(16*x+i) % 16=i:=by omega
   rw[z] at p1;rw[A] at p2;rw[I.inj p1 r, ] at p2;rw[p2] at l;obtain⟨c1,c2, _⟩:=I.vA hb;rw[dI ⟨c1,c2⟩] at l;cases l
  ·subst e';rw[bI] at hb;rw[aX e] at w;cases hb;exfalso;obtain⟨f',p1,p2⟩:=I.Fl w (by omega);have z:(16*x+i) / 16=x:=by omega
   have A:(16*x+i) % 16=i:=by omega
   rw[z] at p1;rw[A] at p2;rw[I.inj p1 r, ] at p2;rw[p2] at l;obtain⟨c1,c2, _⟩:=I.vA w;rw[dI ⟨c1,c2⟩] at l;cases l
  ·rw[aX e] at w;rw[aX e'] at hb;exact I.inj w hb
 ·intro f0 t u p k h h0 h1 H;by_cases e:f0=(n:Int)
  ·subst e;rw[F k h0 h1,(J k h0 h1).1] at H;cases H
  ·rw[aX e] at h;rcases fQ h h0 h1 with ⟨j,rfl,rfl⟩|j
   ·rw[j,y];rw[r] at h;cases h;exact⟨m,rfl,bI _ _ _⟩
   ·rw[j] at H ⊢;obtain⟨m',q1,R⟩:=I.sr h h0 h1 H;exact⟨m',q1,by rw[aX (E R)];exact R⟩
 ·intro f0 t u p k h h0 h1;by_cases e:f0=(n:Int)
  ·subst e;rw[bI] at h;cases h;rw[F k h0 h1];exact(J k h0 h1).2.1
  ·rw[aX e] at h;rcases fQ h h0 h1 with ⟨j,rfl,rfl⟩|j
   ·rw[j,y];exact abh _ (dI (by omega))
   ·rw[j];exact I.leaf h h0 h1
 ·intro f0 t u p h hl;by_cases e:f0=(n:Int)
  ·subst e;rw[bI] at h;cases h;have z:(16*x+i) / 16=x:=by omega
   have A:(16*x+i) % 16=i:=by omega
   exact⟨f,by rw[aX rq,z];exact r,by rw[A];exact y⟩
  ·rw[aX e] at h;obtain⟨f',p1,p2⟩:=I.Fl h hl;refine⟨f',by rw[aX (E p1)];exact p1,?_⟩;rcases fQ p1 (by omega:0<=p % 16) (by omega) with ⟨j,rfl,N⟩|j
   ·exfalso;rw[j] at p2;rw[p2] at l;obtain⟨c1,c2, _⟩:=I.vA h;rw[dI ⟨c1,c2⟩] at l;cases l
   ·rw[j];exact p2
 ·intro f0 t u p k h h0 h1 q;by_cases e:f0=(n:Int)
  ·subst e;rw[F k h0 h1] at q;show dC (cW _ _ _) _=0;rw[K _ (by omega),av (by omega),show 16*(n:Int)+k - 16*(n:Int)=k from by omega];exact(J k h0 h1).2.2 q
  ·rw[aX e] at h;rcases fQ h h0 h1 with ⟨j,rfl,rfl⟩|j
   ·rw[j,y] at q;cases q
   ·rw[j] at q;have hb:16*f0+k≠16*f+i:=λC=>by
     rw[C,y] at j;rw[C, <-j] at q;cases q
    show dC (cW _ _ _) _=0;rw[K _ hb,ao (by omega)];exact I.wf h h0 h1 q
 ·intro S d qy h3;by_cases e:S=n
  ·subst e;exact⟨_,bI _ _ _⟩
  ·have h':(s.2.set n (3,o,0,0,()))[S]? =some d:=qy;rw[BX (by omega)] at h';obtain⟨v,hv⟩:=I.tb h' h3;exact⟨v,by rw[aX (by omega)];exact hv⟩
theorem VB (I:Inv g s) {f o x i v:Int} {l:Nat} (t:g f=some (o,l,x)) (z:0<=i) (A:i<16) (d:dp (aH s.1 (16*f+i))=false) (hv:dp (e9 v)=false) (q:ly l (e9 v)) (u:(e9 v).1=false->v=0):
 aH (cW s.1 (16*f+i) v) (16*f+i)=e9 v/\Inv g (cW s.1 (16*f+i) v,s.2):=by
 have B:=I.vA t;have r:uH s.1 (16*f+i)=true:=jh (by omega) (by omega);have j:=y_ (v:=v) r;have fQ: ∀{f0 k:Int},0<=k->k<16->(16*f0+k=16*f+i/\f0=f/\k=i)\/aH (cW s.1 (16*f+i) v) (16*f0+k)=aH s.1 (16*f0+k):=λ{f0 k} h0 h1=>by
  by_cases e:16*f0+k=16*f+i
  grind
  ·exact .inr (gf (λe'=>e e'.symm))
 refine⟨j,by rw[cG];exact I.len,I.le,I.fz,I.kd,I.inj,?_,?_,?_,?_,I.tb⟩
 ·intro f0 m n b k h h0 h1 p;rcases fQ (f0:=f0) h0 h1 with ⟨a,rfl,rfl⟩|a
  ·rw[j,hv] at p;cases p
  ·have w:dp (aH s.1 (16*f0+k))=true:=by rw[<-a];exact p
   rw[a];exact I.sr h h0 h1 w
 ·intro f0 m n b k h h0 h1;rcases fQ (f0:=f0) h0 h1 with ⟨a,rfl,rfl⟩|a
  grind
  ·rw[a];exact I.leaf h h0 h1
 ·intro f0 m n b h q;obtain⟨f',p1,p2⟩:=I.Fl h q;refine⟨f',p1,?_⟩;rcases fQ (f0:=f') (by omega:0<=b % 16) (by omega) with ⟨a,rfl,C⟩|a
  ·exfalso;rw[a] at p2;rw[p2] at d;obtain⟨c1,c2, _⟩:=I.vA h;rw[dI ⟨c1,c2⟩] at d;cases d
  ·rw[a];exact p2
 ·intro f0 m n b k h h0 h1 y;have c:=y;by_cases e:16*f0+k=16*f+i
  ·rw[e,j] at c;rw[e,xG r];exact u c
  ·rw[gf (λe'=>e e'.symm)] at c;rw[mL (λe'=>e e'.symm)];exact I.wf h h0 h1 c
theorem abi (I:Inv g s) {f o x i f2:Int} {m:Nat} (u:g f=some (o,m+1,x)) (W:0<=i) (X:i<16) (B:g f2=some (o,m,16*x+i)) (K:aH s.1 (16*f+i)=b_ f2) (L: ∀k,0<=k->k<16->aH s.1 (16*f2+k)=zE):
 aH (cW s.1 (16*f+i) 0) (16*f+i)=zE/\dD s.2 f2 (aO 5 0)=s.2.set f2.toNat (5,o,0,0,())/\Inv (mh g f2 none) (cW s.1 (16*f+i) 0,dD s.2 f2 (aO 5 0)):=by
 have Y:=I.vA u;have C:=I.kd u;have w:=I.kd B;have D:uH s.1 (16*f+i)=true:=jh (by omega) (by omega);have q:aH (cW s.1 (16*f+i) 0) (16*f+i)=zE:=by rw[y_ D];exact oX
 have E:dD s.2 f2 (aO 5 0)=s.2.set f2.toNat (5,o,0,0,()):=by
  rw[pf ⟨w.1,w.2.1⟩,DB,w.2.2.1];show(if(aO 5 0 (3,o,0,0,())).2=0 then s.2.set f2.toNat (aO 5 0 (3,o,0,0,())).1 else _)= _;rw[En ⟨C.2.2.2.1,C.2.2.2.2.1⟩,av rfl]
 have j: ∀{f0 v},mh g f2 none f0=some v->f0≠f2/\g f0=some v:=λ{f0 v} h=>by
  by_cases e:f0=f2
  ·rw[e,bI] at h;cases h
  ·rw[aX e] at h;exact⟨e,h⟩
 have fQ: ∀{f0 k:Int},0<=k->k<16->(16*f0+k=16*f+i/\f0=f/\k=i)\/aH (cW s.1 (16*f+i) 0) (16*f0+k)=aH s.1 (16*f0+k):=λ{f0 k} h0 h1=>by
  by_cases e:16*f0+k=16*f+i
  ·exact .inl ⟨e,by omega,by omega⟩
  ·exact .inr (gf (λe'=>e e'.symm))
 refine⟨q,E,?_⟩;rw[E];refine⟨?_,?_,?_,?_,?_,?_,?_,?_,?_,?_⟩
 ·show 16*(s.2.set _ _).length<=(cW _ _ _).length;rw[cG,Bs];exact I.len
 ·show(s.2.set _ _).length<=4096;rw[Bs];exact I.le
 ·intro d y h0;rcases FR y with y|rfl
  ·exact I.fz d y h0
  ·cases h0
 ·intro f0 r n l h;obtain⟨p,h⟩:=j h;rw[Bs];obtain⟨a1,F,M,Z⟩:=I.kd h
  grind
 ·intro a b v N hb;exact I.inj (j N).2 (j hb).2
 ·intro f0 r n l k h h0 h1 z;obtain⟨p,h⟩:=j h;rcases fQ (f0:=f0) h0 h1 with ⟨c,rfl,rfl⟩|c
  ·rw[q] at z;cases z
  ·have A:dp (aH s.1 (16*f0+k))=true:=by rw[<-c];exact z
   rw[c];obtain⟨O,G,t⟩:=I.sr h h0 h1 A;refine⟨O,G,?_⟩;rw[aX]
   ·exact t
   ·intro e;rw[e,B] at t;simp only[B3,B1] at t;obtain⟨a1,F,M⟩:=t;have P:k=i:=by omega
    have Q:l=x:=by omega
    subst P;subst Q;subst a1;subst F;subst G;have:=I.inj h u;subst this;rw[q] at c;rw[<-c] at A;cases A
 ·intro f0 r n l k h h0 h1;obtain⟨p,h⟩:=j h;show ly n (aH (cW s.1 (16*f+i) 0) (16*f0+k));rcases fQ (f0:=f0) h0 h1 with ⟨c,rfl,rfl⟩|c
  ·rw[q];exact DM _
  ·rw[c];exact I.leaf h h0 h1
 ·intro f0 r n l h R;obtain⟨p,h⟩:=j h;obtain⟨f',p1,p2⟩:=I.Fl h R;have S:f'≠f2:=λe=>by
   rw[e,L _ (by omega) (by omega)] at p2;cases p2
  refine⟨f',by rw[aX S];exact p1,?_⟩;show aH (cW s.1 (16*f+i) 0) (16*f'+l % 16)= _;rcases fQ (f0:=f') (by omega:0<=l % 16) (by omega) with ⟨c,rfl,e3⟩|c
  ·exfalso;rw[c,K] at p2;unfold b_ at p2;simp only[B1,and_true,true_and] at p2;exact p p2.symm
  ·rw[c];exact p2
 ·intro f0 r n l k h h0 h1 T;obtain⟨p,h⟩:=j h;show dC (cW s.1 (16*f+i) 0) (16*f0+k)=0;have H:(aH (cW s.1 (16*f+i) 0) (16*f0+k)).1=false:=T;by_cases e:16*f0+k=16*f+i
  ·rw[e,xG D]
  ·rw[gf (λe'=>e e'.symm)] at H;rw[mL (λe'=>e e'.symm)];exact I.wf h h0 h1 H
 ·intro J d U V;have h':(s.2.set f2.toNat (5,o,0,0,()))[J]? =some d:=U;by_cases e:J=f2.toNat
  grind
  ·rw[BX (by omega)] at h';obtain⟨v,hv⟩:=I.tb h' V;exact⟨v,by rw[aX (by omega)];exact hv⟩
end Inv
set_option maxRecDepth 100000
open Go.RX D
def ka (p:Int) (j:Nat) (e:ET):Int×Int×Int×Unit:=if e.1=true then(if j=1 then e.2.2.2.1+p % 16 else e.2.2.2.1,e.2.1,0,()) else(0,0,4,())
theorem F1 (p:Int) (j:Nat) {e:ET} (h:e.1=false):ka p j e=(0,0,4,()):=by unfold ka;rw[h,ao (by decide)]
def mM (g g':Gh):Prop:= ∀o r x,g' r=some (o,3,x)<->g r=some (o,3,x)
theorem mM.refl (g:Gh):mM g g:=λ_ _ _=>Iff.rfl
theorem mM.trans {a b c:Gh} (h:mM a b) (k:mM b c):mM a c:=λo r x=>(k o r x).trans (h o r x)
theorem mM.to {g g':Gh} {o r x:Int} (h:mM g g') (k:g r=some (o,3,x)):g' r=some (o,3,x):=(h _ _ _).2 k
def Ar (o:Int) (g g':Gh) (s s':WD):Prop:= ∀ ⦃f o' l x⦄,o'≠o->g f=some (o',l,x)->g' f=some (o',l,x)/\ ∀k,0<=k->k<16->aH s'.1 (16*f+k)=aH s.1 (16*f+k)
theorem Ar.refl (o:Int) (g:Gh) (s:WD):Ar o g g s s:=λ_ _ _ _ _ h=>⟨h,λ_ _ _=>rfl⟩
theorem Ar.trans {o:Int} {a b c:Gh} {s t u:WD} (h:Ar o a b s t) (k:Ar o b c t u):Ar o a c s u:=λ_ _ _ _ d f=>by
 obtain⟨h1,g⟩:=h d f;obtain⟨j,l⟩:=k d h1;exact⟨j,λi h0 e=>(l i h0 e).trans (g i h0 e)⟩
def tc (P:Int->Int->Prop) (g g':Gh) (s s':WD):Prop:= ∀ ⦃o p f j⦄,¬ P o p->dH g s o p f j-> ∃f' a,dH g' s' o p f' a/\ka p a (aH s'.1 (16*f'+px a p % 16))=ka p j (aH s.1 (16*f+px j p % 16))
theorem tc.refl (P:Int->Int->Prop) (g:Gh) (s:WD):tc P g g s s:=λ_ _ _ _ _ h=>⟨_, _,h,rfl⟩
theorem tc.trans {P:Int->Int->Prop} {a b c:Gh} {s t u:WD} (h:tc P a b s t) (k:tc P b c t u):tc P a c s u:=λ_ _ _ _ d e=>by
 obtain⟨f1,j1,h1,f⟩:=h d e;obtain⟨f2,g,i,j⟩:=k d h1;exact⟨f2,g,i,j.trans f⟩
theorem tc.mono {P d:Int->Int->Prop} {a b:Gh} {s t:WD} (h:tc P a b s t) (e: ∀o p,P o p->d o p):tc d a b s t:=λ_ _ _ _ f g=>h (λc=>f (e _ _ c)) g
def XW:Int->Int->Prop:=λ_ _=>False
def n_ (o:Int) (l:Nat) (p:Int):Int->Int->Prop:=λo' q=>o'=o/\px l q=px l p
namespace Inv
variable {g:Gh} {s:WD}
theorem fP (I:Inv g s) {o r p:Int} (b:g r=some (o,3,0)) (c:0<=p/\p<65536) {f:Int} {j:Nat} (h:dH g s o p f j):bz s r false p=ka p j (aH s.1 (16*f+px j p % 16)):=by
 obtain⟨d,e⟩:=I.nK b c h;unfold bz ka;rw[ao (by decide),ao (by omega),e,d];unfold qD;cases hb:(aH s.1 (16*f+px j p % 16)).1 with
 |false=>rw[ao (by decide),ao (by decide)]
 |true=>
  rw[av rfl,av rfl];by_cases a:j=1
  ·subst a;rfl
  ·rw[ao a,ao (by show ¬ ((j:Int)=1);omega)]
theorem za (I:Inv g s) {g':Gh} {s':WD} (c:Inv g' s') {P:Int->Int->Prop} (d:tc P g g' s s') (i:mM g g') {o r p:Int} (a:g r=some (o,3,0)) (k: ¬ P o p):bz s' r false p=bz s r false p:=by
 by_cases h:0<=p/\p<65536
 ·obtain⟨f,j, _,b⟩:=I.mv a h;obtain⟨f',m,h1,l⟩:=d k b;rw[I.fP a h b,c.fP (i.to a) h h1,l]
 ·have e: ∀t:WD,bz t r false p=(0,0,2,()):=λt=>by
   unfold bz;rw[ao (by decide),av (by omega)]
  rw[e,e]
theorem Eo (I:Inv g s) {f o x i:Int} {m:Nat} (b:g f=some (o,m+1,x)) (w:0<=i) (y:i<16) (z:dp (aH s.1 (16*f+i))=false) (hc:0<cq s.2 0) (G:Int->Int)
 (q: ∀k,0<=k->k<16->dp (e9 (G k))=false/\ly m (e9 (G k))/\((e9 (G k)).1=false->G k=0))
 (A: ∀p,0<=px m p % 16->px (m+1) p % 16=i->ka p m (e9 (G (px m p % 16)))=ka p (m+1) (aH s.1 (16*f+i))):
 let n:=dX s o
 let s':=dK (iF s o G) (16*f+i) (b_ n)
 let g':=mh g n (some (o,m,16*x+i))
 rz s o=0/\Inv g' s'/\mM g g'/\Ar o g g' s s'/\tc XW g g' s s'/\s'.2=s.2.set n.toNat (3,o,0,0,())/\s.2[n.toNat]? =some zD/\
 (∀p,dH g s o p f (m+1)->px (m+1) p % 16=i->dH g' s' o p n m/\aH s'.1 (16*n+px m p % 16)=e9 (G (px m p % 16)))/\0<=n/\n<4096:=by
 obtain⟨B,r,C,M,D,E,t,F,N,H⟩:=I.grow b w y z hc G q;dsimp only;have d: ∀{f':Int} {v},g f'=some v->f'≠dX s o:=λh e=>by rw[e,r] at h;cases h
 have Fi: ∀p,dH g s o p f (m+1)->px (m+1) p % 16=i->dH (mh g (dX s o) (some (o,m,16*x+i))) (dK (iF s o G) (16*f+i) (b_ (dX s o))) o p (dX s o) m/\aH (dK (iF s o G) (16*f+i) (b_ (dX s o))).1 (16*dX s o+px m p % 16)=e9 (G (px m p % 16)):=λp a c=>by
  have e:=F (px m p % 16) (dZ p m).1 (dZ p m).2;refine⟨⟨?_,by rw[e];exact(q _ (dZ p m).1 (dZ p m).2).1⟩,e⟩;rw[bI];have h1:=a.1;rw[b] at h1;simp only[B3,B1,true_and] at h1;rw[h1, <-c, <-nJ]
 refine⟨B,H,λo' r' x'=>?_,λ⦃f0 o' l O⦄ J h=>⟨?_,λk h0 h1=>?_⟩,λ⦃o' p f' j⦄ _ a=>?_,D,E,Fi,C,by have:=I.le;omega⟩
 ·by_cases e:r'=dX s o
  ·rw[e,bI,r];refine⟨λh=>?_,λh=>by cases h⟩;have:=(I.kd b).2.2.2.2.2;simp only[B3,B1] at h;omega
  ·rw[aX e]
 ·rw[aX (d h)];exact h
 ·have:=d h;refine t _ (λe=>?_) (by omega);have:f0=f:=by omega
  subst this;rw[b] at h;cases h;exact J rfl
 ·by_cases u:f'=f/\px j p % 16=i
  ·obtain⟨rfl,c⟩:=u;have h1:=a.1;rw[b] at h1;simp only[B3,B1] at h1;obtain⟨rfl,rfl,rfl⟩:=h1;obtain⟨K,L⟩:=Fi p a c;refine⟨_, _,K,?_⟩;rw[L,c];exact A p (dZ p m).1 c
  ·have e:aH (dK (iF s o G) (16*f+i) (b_ (dX s o))).1 (16*f'+px j p % 16)=aH s.1 (16*f'+px j p % 16):=by
    have:=d a.1;have:=dZ p j;refine t _ (λe=>u ?_) (by omega);omega
   refine⟨f',j,⟨by rw[aX (d a.1)];exact a.1,by rw[e];exact a.2⟩,by rw[e]⟩
theorem zb (I:Inv g s) {f o x i v:Int} {l:Nat} (a:g f=some (o,l,x)) (u:0<=i) (w:i<16) (r:dp (aH s.1 (16*f+i))=false) (hv:dp (e9 v)=false) (y:ly l (e9 v)) (z:(e9 v).1=false->v=0) {q:Int} (c:dH g s o q f l) (A:px l q % 16=i):
 Inv g (cW s.1 (16*f+i) v,s.2)/\Ar o g g s (cW s.1 (16*f+i) v,s.2)/\tc (n_ o l q) g g s (cW s.1 (16*f+i) v,s.2)/\
 (∀p,px l p=px l q->dH g (cW s.1 (16*f+i) v,s.2) o p f l/\dH g s o p f l)/\aH (cW s.1 (16*f+i) v) (16*f+i)=e9 v:=by
 obtain⟨t,B⟩:=I.VB a u w r hv y z;have d:=c.1;rw[a] at d;simp only[B3,B1,true_and] at d;refine⟨B,λ⦃f0 o' E F⦄ C h=>⟨h,λk h0 h1=>?_⟩,λ⦃o' p f' j⦄ b m=>?_,λp b=>?_,t⟩
 ·refine gf (λe=>C ?_);have:f0=f:=by omega
  subst this;rw[a] at h;cases h;rfl
 ·have e:aH (cW s.1 (16*f+i) v) (16*f'+px j p % 16)=aH s.1 (16*f'+px j p % 16):=by
   refine gf (λe=>b ?_);have n:=dZ p j;have:f'=f:=by omega
   subst this;have h1:=m.1;rw[a] at h1;simp only[B3,B1] at h1;obtain⟨rfl,rfl,D⟩:=h1;refine⟨rfl,?_⟩;rw[nJ p,nJ q, <-D, <-d];omega
  exact⟨f',j,⟨m.1,by show dp (aH (cW s.1 (16*f+i) v) _)=false;rw[e];exact m.2⟩,by show ka p j (aH (cW s.1 (16*f+i) v) _)= _;rw[e]⟩
 ·have h1:px (l+1) p=px (l+1) q:=by simp only[px];rw[b]
  have n:px l p % 16=i:=by rw[b];exact A
  refine⟨⟨by rw[h1];exact c.1,?_⟩,⟨by rw[h1];exact c.1,by rw[n];exact r⟩⟩;show dp (aH (cW s.1 (16*f+i) v) (16*f+px l p % 16))=false;rw[n,t];exact hv
theorem Mf (I:Inv g s) {f o x i f2:Int} {m:Nat} (b:g f=some (o,m+1,x)) (w:0<=i) (y:i<16) (a:g f2=some (o,m,16*x+i)) (q:aH s.1 (16*f+i)=b_ f2) (r: ∀k,0<=k->k<16->aH s.1 (16*f2+k)=zE):
 let s':WD:=(cW s.1 (16*f+i) 0,dD s.2 f2 (aO 5 0))
 let g':=mh g f2 none
 Inv g' s'/\mM g g'/\Ar o g g' s s'/\tc XW g g' s s'/\s'.2=s.2.set f2.toNat (5,o,0,0,())/\s.2[f2.toNat]? =some (3,o,0,0,())/\(∀p,dH g s o p f2 m->dH g' s' o p f (m+1))/\aH s'.1 (16*f+i)=zE:=by
 obtain⟨d,z,A⟩:=I.abi b w y a q r;dsimp only;have t:=I.vA a;have B:f≠f2:=λe=>by
  subst e;rw[b] at a;simp at a
 have C:dp (aH s.1 (16*f+i))=true:=by rw[q];exact dI ⟨t.1,t.2.1⟩
 have Fi: ∀p,dH g s o p f2 m->dH (mh g f2 none) (cW s.1 (16*f+i) 0,dD s.2 f2 (aO 5 0)) o p f (m+1)/\px (m+1) p % 16=i:=λp h=>by
  have h1:=h.1;rw[a] at h1;simp only[B3,B1,true_and] at h1;have n:=nJ p (m+1);have F:=dZ p (m+1);have c:px (m+1+1) p=x:=by omega
  have u:px (m+1) p % 16=i:=by omega
  refine⟨⟨by rw[aX B,c];exact b,?_⟩,u⟩;show dp (aH (cW s.1 (16*f+i) 0) (16*f+px (m+1) p % 16))=false;rw[u,d];exact Kb
 refine⟨A,λo' r' x'=>?_,λ⦃f0 o' l G⦄ v h=>⟨?_,λk h0 h1=>?_⟩,λ⦃o' p f' j⦄ _ h=>?_,z,(I.kd a).2.2.1,λp h=>(Fi p h).1,d⟩
 ·by_cases e:r'=f2
  ·subst e;rw[bI,a];refine⟨λh=>(by cases h),λh=>?_⟩;simp only[B3,B1] at h;have:=(I.kd b).2.2.2.2.2;omega
  ·rw[aX e]
 ·rw[aX]
  ·exact h
  ·intro e;subst e;rw[a] at h;cases h;exact v rfl
 ·refine gf (λe=>v ?_);have:f0=f:=by omega
  subst this;rw[b] at h;cases h;rfl
 ·by_cases e:f'=f2
  ·subst e;have h1:=h.1;rw[a] at h1;simp only[B3,B1] at h1;obtain⟨rfl,rfl,h1⟩:=h1;obtain⟨D,E⟩:=Fi p h;refine⟨_, _,D,?_⟩;show ka p _ (aH (cW s.1 (16*f+i) 0) _)= _;rw[E,d,r _ (dZ p m).1 (dZ p m).2,F1 _ _ rfl,F1 _ _ rfl]
  ·have c:aH (cW s.1 (16*f+i) 0) (16*f'+px j p % 16)=aH s.1 (16*f'+px j p % 16):=by
    refine gf (λe=>?_);have n:=h.2;rw[<-e,C] at n;cases n
   refine⟨f',j,⟨by rw[aX e];exact h.1,?_⟩,?_⟩
   ·show dp (aH (cW s.1 (16*f+i) 0) _)=false;rw[c];exact h.2
   ·show ka p j (aH (cW s.1 (16*f+i) 0) _)= _;rw[c]
end Inv
set_option maxRecDepth 100000
open Go.RX D
structure Kept (s s':WD):Prop where
 ks5: ∀{n:Nat} {d:DT},s.2[n]? =some d->d.1=4\/d.1=5->s'.2[n]? =some d
 ws5: ∀{n:Nat} {d:DT},s.2[n]? =some d->d.1=4\/d.1=5-> ∀k:Int,0<=k->k<16->dC s'.1 (16*(n:Int)+k)=dC s.1 (16*(n:Int)+k)
 nw: ∀{n:Nat} {d:DT},s'.2[n]? =some d->s.2[n]? =some d\/((d.1=3\/d.1=5)/\d.2.2=(0,0,())/\1<=d.2.1/\d.2.1<=16)
theorem Kept.ks {s s':WD} (K:Kept s s') {n:Nat} {d:DT} (h:s.2[n]? =some d) (a:d.1=4):s'.2[n]? =some d:=K.ks5 h (.inl a)
theorem Kept.ws {s s':WD} (K:Kept s s') {n:Nat} {d:DT} (h:s.2[n]? =some d) (a:d.1=4) (k:Int) (k0:0<=k) (b:k<16):dC s'.1 (16*(n:Int)+k)=dC s.1 (16*(n:Int)+k):=K.ws5 h (.inl a) k k0 b
theorem Kept.refl (s:WD):Kept s s:=⟨λh _=>h,λ_ _ _ _ _=>rfl,λh=> .inl h⟩
theorem Kept.trans {s t u:WD} (h:Kept s t) (k:Kept t u):Kept s u:=
 ⟨λh1 a=>k.ks5 (h.ks5 h1 a) a,λh1 a i i0 i1=>(k.ws5 (h.ks5 h1 a) a i i0 i1).trans (h.ws5 h1 a i i0 i1),λh1=>(k.nw h1).elim h.nw .inr⟩
theorem Kept.set {s:WD} {W:List Int} {n:Nat} {d0 d1:DT} (h0:s.2[n]? =some d0) (b:d0.1≠4/\d0.1≠5) (h1:(d1.1=3\/d1.1=5)/\d1.2.2=(0,0,())/\1<=d1.2.1/\d1.2.1<=16) (c: ∀{m:Nat} {d:DT},s.2[m]? =some d->d.1=4\/d.1=5-> ∀k:Int,0<=k->k<16->dC W (16*(m:Int)+k)=dC s.1 (16*(m:Int)+k)):Kept s (W,s.2.set n d1):=by
 have f:n<s.2.length:=(Ae.1 h0).1;refine⟨λ{m d} a g=>?_,c,λ{m d} a=>?_⟩
 ·have e:n≠m:=λe=>by subst e;rw[h0] at a;cases a;exact g.elim b.1 b.2
  show(s.2.set n d1)[m]? = _;rw[BX e];exact a
 ·have a:(s.2.set n d1)[m]? =some d:=a;by_cases e:n=m
  ·subst e;rw[C5 f] at a;cases a;exact .inr h1
  ·rw[BX e] at a;exact .inl a
def iH (s:WD) (f:Int):Prop:=0<=f/\ ∃d,s.2[f.toNat]? =some d/\d.1=5/\ ∀k:Int,0<=k->k<16->dC s.1 (16*f+k)=0
theorem iH.kept {s s':WD} {f:Int} (h:iH s f) (K:Kept s s'):iH s' f:=by
 obtain⟨h0,d,h1,a,c⟩:=h;refine⟨h0,d,K.ks5 h1 (.inr a),a,λk k0 b=>?_⟩;have:=K.ws5 h1 (.inr a) k k0 b;rw[show((f.toNat:Nat):Int)=f by omega] at this;rw[this];exact c k k0 b
theorem Inv.off {g:Gh} {s:WD} (I:Inv g s) {f o x i:Int} {l:Nat} (b:g f=some (o,l,x)) (h0:0<=i) (h1:i<16) {n:Nat} {d:DT} (c:s.2[n]? =some d) (h:d.1=4\/d.1=5) {k:Int} (k0:0<=k) (p:k<16):16*f+i≠16*(n:Int)+k:=by
 intro e;have j:=I.kd b;have m:f.toNat=n:=by omega
 have a:=j.2.2.1;rw[m,c] at a;cases a;exact absurd h (show ¬ ((3:Int)=4\/(3:Int)=5) by decide)
theorem Inv.CD {g:Gh} {s:WD} (I:Inv g s) {f o x i:Int} {l:Nat} (a:g f=some (o,l,x)) (h0:0<=i) (h1:i<16) (v:Int):Kept s (cW s.1 (16*f+i) v,s.2):=
 ⟨λh _=>h,λ{n d} b c k k0 e=>by show dC (cW _ _ _) _= _;exact mL (I.off a h0 h1 b c k0 e),λh=> .inl h⟩
theorem Inv.Bq {g:Gh} {s:WD} (I:Inv g s) {f o x i:Int} {m:Nat} (j:g f=some (o,m+1,x)) (r:0<=i) (t:i<16) (hc:0<cq s.2 0) (G:Int->Int) (e:ET):Kept s (dK (iF s o G) (16*f+i) e):=by
 have a:=I.kd j;obtain⟨n,E,l,u,v,w⟩:=m5 hc I.fz ⟨a.2.2.2.1,a.2.2.2.2.1⟩;have y:dX s o=(n:Int):=u;have z:rz s o=0:=v;have F:=I.len;have H:=I.le;have A:16*(n:Int)+16<=s.1.length:=by omega
 have p:iF s o G=(e_ s.1 (n:Int) G 16,s.2.set n (3,o,0,0,())):=by unfold iF;rw[av z,y,w]
 obtain⟨W,c⟩: ∃W,W=e_ s.1 (n:Int) G 16:=⟨_,rfl⟩;have B: ∀b,dC W b=if 16*(n:Int)<=b/\b<16*(n:Int)+16 then G (b - 16*(n:Int)) else dC s.1 b:=λb=>by
  rw[c];exact tA (by omega) A 16 (B5 _) b
 rw[<-c] at p;clear c;have C:dK (W,s.2.set n (3,o,0,0,())) (16*f+i) e=(cW W (16*f+i) (Nz e),s.2.set n (3,o,0,0,())):=rfl;rw[p,C];refine Kept.set l (by decide) ⟨.inl rfl,rfl,a.2.2.2.1,a.2.2.2.2.1⟩ λ{m d} h q k k0 D=>?_;have J:n≠m:=λe=>by subst e;rw[l] at h;cases h;exact absurd q (by decide)
 rw[mL (I.off j r t h q k0 D),B,ao (by omega)]
def Ag (g:Gh) (s:WD):Prop:= ∀ ⦃f o l x i⦄,g f=some (o,l,x)->0<=i->i<16->(aH s.1 (16*f+i)).1=true->dp (aH s.1 (16*f+i))=false->l=0
theorem Ag.upd {g:Gh} {s s':WD} (h:Ag g s) {f o x i:Int} {l:Nat} (j:g f=some (o,l,x)) (h0:0<=i) (h1:i<16) (m: ∀b,b≠16*f+i->aH s'.1 b=aH s.1 b)
 (n:(aH s'.1 (16*f+i)).1=true->dp (aH s'.1 (16*f+i))=false->l=0):Ag g s':=λf2 q r t k d k0 p a c=>by
 by_cases e:16*f2+k=16*f+i
 ·have ef:f2=f:=by omega
  subst ef;rw[j] at d;cases d;rw[e] at a c;exact n a c
 ·rw[m _ e] at a c;exact h d k0 p a c
theorem Ag.grow {g:Gh} {s s':WD} (h:Ag g s) {f i F o x a:Int} {m:Nat} (p: ∀b,b≠a->(b<16*F\/16*F+16<=b)->aH s'.1 b=aH s.1 b)
 (q: ∀k,0<=k->k<16->(aH s'.1 (16*F+k)).1=true->m=0) (r:dp (aH s'.1 a)=true):Ag (mh g F (some (o,m,x))) s':=λf2 t u v k c k0 l j d=>by
 by_cases e:f2=F
 ·subst e;rw[bI] at c;cases c;exact q k k0 l j
 ·rw[aX e] at c;by_cases n:16*f2+k=a
  ·rw[n,r] at d;cases d
  ·rw[p _ n (by omega)] at j d;exact h c k0 l j d
theorem Ag.del {g:Gh} {s:WD} (h:Ag g s) (F:Int):Ag (mh g F none) s:=λf2 f i j k a k0 b c d=>by
 by_cases e:f2=F
 ·subst e;rw[bI] at a;cases a
 ·rw[aX e] at a;exact h a k0 b c d
def YJ (P:Int->Int->Prop):Prop:= ∀o q a,P o q->P o a->q=a
theorem Pq (l:Nat) (p:Int):px (l+1) p=px l (p / 16):=by
 induction l with
 |zero=>rfl
 |succ l a=>rw[px,a];rfl
theorem YJ.lv {o p:Int} {lv:Nat} (h:YJ (λo' q=>o'=o/\px lv q=px lv p)):lv=0:=by
 cases lv with
 |zero=>rfl
 |succ l=>
  have a:(16*(p / 16)+(p % 16+1) % 16) / 16=p / 16:=by omega
  have:=h o p (16*(p / 16)+(p % 16+1) % 16) ⟨rfl,rfl⟩ ⟨rfl,by rw[Pq,Pq,a]⟩;omega
structure sT (P:Int->Int->Prop) (o:Int) (g g':Gh) (s s':WD):Prop where
 inv:Inv g' s'
 root:mM g g'
 T4:Ar o g g' s s'
 Dv:tc P g g' s s'
 kk: ∀{n:Nat} {d:DT},s.2[n]? =some d->d.1=3\/d.1=5-> ∃d':DT,s'.2[n]? =some d'/\(d'.1=5\/(d'.1=3/\d.1=3))
 len:s'.1.length=s.1.length/\s'.2.length=s.2.length
 kp:Kept s s'
 lg:YJ P->Ag g s->Ag g' s'
 gk: ∀{f:Int} {v:Int×Nat×Int},g f=some v->g' f=some v\/iH s' f
theorem sT.refl {g:Gh} {s:WD} (I:Inv g s) (P:Int->Int->Prop) (o:Int):sT P o g g s s:=
 ⟨I,.refl g,.refl o g s,.refl P g s,λ{n d} h k=>⟨d,h,k.elim (λe=> .inr ⟨e,e⟩) .inl⟩,⟨rfl,rfl⟩,.refl s,λ_ h=>h,λh=> .inl h⟩
theorem sT.trans {P:Int->Int->Prop} {o:Int} {a b c:Gh} {s t u:WD} (h:sT P o a b s t) (k:sT P o b c t u):sT P o a c s u where
 inv:=k.inv
 root:=h.root.trans k.root
 T4:=h.T4.trans k.T4
 Dv:=h.Dv.trans k.Dv
 kk:=λ{n d} g i=>by
  obtain⟨d1,h1,f⟩:=h.kk g i;obtain⟨d2,j,l⟩:=k.kk h1 (f.elim .inr λe=> .inl e.1);refine⟨d2,j,?_⟩;rcases l with e|⟨m,p⟩
  ·exact .inl e
  ·rcases f with e|⟨_,q⟩
   ·rw[p] at e;exact absurd e (by decide)
   ·exact .inr ⟨m,q⟩
 len:=⟨k.len.1.trans h.len.1,k.len.2.trans h.len.2⟩
 kp:=h.kp.trans k.kp
 lg:=λo n=>k.lg o (h.lg o n)
 gk:=λh1=>(h.gk h1).elim (λe=>k.gk e) (λe=> .inr (e.kept k.kp))
theorem sT.mono {P d:Int->Int->Prop} {o:Int} {a b:Gh} {s t:WD} (h:sT P o a b s t) (c: ∀o p,P o p->d o p):sT d o a b s t:=⟨h.inv,h.root,h.T4,h.Dv.mono c,h.kk,h.len,h.kp,λo1 n=>h.lg (λo q e a b=>o1 o q e (c _ _ a) (c _ _ b)) n,h.gk⟩
theorem Gr {ds:List DT} {i:Nat} {d0 d1:DT} (h0:ds[i]? =some d0) (a:d0.1=3\/d0.1=5->d1.1=5) {n:Nat} {d:DT} (h:ds[n]? =some d) (k:d.1=3\/d.1=5): ∃d':DT,(ds.set i d1)[n]? =some d'/\(d'.1=5\/(d'.1=3/\d.1=3)):=by
 have hi:i<ds.length:=(Ae.1 h0).1;by_cases e:i=n
 ·subst e;rw[h0] at h;cases h;exact⟨d1,C5 hi,.inl (a k)⟩
 ·exact⟨d,by rw[BX e];exact h,k.elim (λe=> .inr ⟨e,e⟩) .inl⟩
theorem xH (s:WD) (o:Int) (G:Int->Int) (i:Int) (e:ET):(dK (iF s o G) i e).1.length=s.1.length:=by
 unfold dK iF;show(cW _ _ _).length= _;rw[cG];split
 ·exact gJ _ _ _ _
 ·rfl
def Dk (g:Gh) (s:WD) (e:Option Int):Prop:= ∀ ⦃f o l x⦄,g f=some (o,l,x)->l<3->some f≠e-> ∃k,0<=k/\k<16/\(aH s.1 (16*f+k)).1=true
theorem Dk.some {g:Gh} {s:WD} (h:Dk g s none) (f:Int):Dk g s (some f):=λ_ _ _ _ a b _=>h a b (by simp)
namespace Inv
variable {g:Gh} {s:WD}
theorem down {o p:Int} (b:0<=p/\p<65536) (lv:Nat): ∀(n:Nat) {g:Gh} {s:WD} {f:Int},Inv g s->dH g s o p f (lv+n)->(aH s.1 (16*f+px (lv+n) p % 16)).1=false->n<=cq s.2 0->
 ∃g' s' f',qQ o p n (s,(f,((lv+n:Nat):Int),16*f+px (lv+n) p % 16,()))=(s',(f',(lv:Int),16*f'+px lv p % 16,()))/\sT XW o g g' s s'/\dH g' s' o p f' lv/\(aH s'.1 (16*f'+px lv p % 16)).1=false/\cq s'.2 0+n=cq s.2 0/\(Dk g s (some f)->Dk g' s' (some f'))
 |0,g,s,f,I,a,c, _=>⟨g,s,f,rfl,.refl I _ _,a,c,rfl,λh=>h⟩
 |n+1,g,s,f,I,a,c,hc=>by
  have j:=I.kd a.1;have y:lv+n<=3:=by have:=j.2.2.2.2.2;omega
  have hi:=dZ p (lv+n+1);obtain⟨q0,t,z,A,B,l,q,C,D,E⟩:=I.Eo (m:=lv+n) a.1 hi.1 hi.2 a.2 (by omega) (λ_=>0) (λk _ _=>by
   rw[oX];exact⟨Kb,DM _,λ_=>rfl⟩) (λp' _ ou=>by
   rw[oX,F1 _ _ rfl,F1];exact c)
  obtain⟨F,G⟩:=C p a rfl;have u:0<=dX s o/\dX s o<4096:=⟨D,E⟩;have H:=tB (d':=(3,o,0,0,())) q 0;have NV:cq (dK (iF s o λ_=>0) (16*f+px (lv+n+1) p % 16) (b_ (dX s o))).2 0+1=cq s.2 0:=by
   rw[l];simpa[zD] using H
  obtain⟨_,u1, _, _, _, _,v,J,w, _⟩:=I.grow (m:=lv+n) a.1 hi.1 hi.2 a.2 (by omega) (λ_=>0) (λk _ _=>by
   rw[oX];exact⟨Kb,DM _,λ_=>rfl⟩)
  have K:sT XW o g (mh g (dX s o) (some (o,lv+n,16*px (lv+n+1+1) p+px (lv+n+1) p % 16))) s (dK (iF s o λ_=>0) (16*f+px (lv+n+1) p % 16) (b_ (dX s o))):=
   ⟨t,z,A,B,λ{m d} L j=>by rw[l];exact Gr q (λh=>by rcases h with h|h<;>exact absurd h (by decide)) L j,⟨xH _ _ _ _ _,by rw[l,Bs]⟩,I.Bq (m:=lv+n) a.1 hi.1 hi.2 (by omega) _ _,λ_ nl=>nl.grow (f:=f) (i:=0) v (λk k0 r b=>by rw[J k k0 r,oX] at b;cases b) (by rw[w];exact dI u),λ{f0 M} x=> .inl (by
    rw[aX (λe=>?_)]
    ·exact x
    ·obtain⟨N,O,P⟩:=M;have:=(I.kd x).2.2.1;rw[e,q] at this;cases this)⟩
  have Q:Dk g s (some f)->Dk (mh g (dX s o) (some (o,lv+n,16*px (lv+n+1+1) p+px (lv+n+1) p % 16))) (dK (iF s o λ_=>0) (16*f+px (lv+n+1) p % 16) (b_ (dX s o))) (some (dX s o)):=λh f0 N O P h0 R S=>by
   have T:f0≠dX s o:=λe=>S (by rw[e]);rw[aX T] at h0;by_cases e:f0=f
   ·subst e;exact⟨_,hi.1,hi.2,by rw[w];rfl⟩
   ·obtain⟨k,r,U,V⟩:=h h0 R (by simpa using e);exact⟨k,r,U,by rw[v _ (by omega) (by omega)];exact V⟩
  obtain⟨g',s',f',W,X,Y,Z,r5,r6⟩:=down b lv n t F (by rw[G,oX];rfl) (by omega);refine⟨g',s',f',?_,K.trans X,Y,Z,by omega,λh=>r6 (Q h)⟩;rw[<-W];show qQ o p n (dK (iF s o λ_=>0) (16*f+px (lv+(n+1)) p % 16) (b_ (dX s o)),(dX s o,((lv+(n+1):Nat):Int) - 1,dQ (dX s o) p (((lv+(n+1):Nat):Int) - 1),()))= _;have el:((lv+(n+1):Nat):Int) - 1=((lv+n:Nat):Int):=by omega
  rw[el,lq u b y];rfl
end Inv
set_option maxRecDepth 100000
open Go.RX D
theorem Xe {ds:List DT} (h:cq ds 0=0):iG ds=none:=by
 unfold cq at h;unfold iG;rw[F4];intro d a;have:=List.countP_eq_zero.1 h d a;simpa using this
theorem Br {ds:List DT} {y o:Int} (h: ¬ dN ds y o=0):dG ds y o=ds:=by
 unfold dN at h;unfold dG;cases a:iG ds with
 |none=>rfl
 |some n=>
  have b: ¬ ds.length=0:=λe=>by
   have:ds=[]:=GS.1 e;subst this;cases a
  rw[ao b,a] at h;dsimp only at h ⊢;by_cases c:(n:Int)<0\/(n:Int)>=ds.length
  ·exact xD c _
  ·rw[yK (by omega)] at h;rw[pf (by omega),ao h]
theorem Jg {s:WD} {o:Int} {G:Int->Int} (h: ¬ rz s o=0):iF s o G=s:=by
 unfold iF;rw[ao h,Br h]
theorem RP {s:WD} {o:Int} (h:cq s.2 0=0) (a:0<s.2.length): ¬ rz s o=0:=by
 unfold rz dN;rw[ao (by omega),Xe h];show ¬ (12:Int)=0;decide
theorem CF {p:Int} {j:Nat} {e:ET} (h:(ka p j e).2.2.1=0):e.1=true:=by
 cases a:e.1 with
 |true=>rfl
 |false=>
  rw[F1 p j a] at h;exact absurd h (by decide)
theorem Pr {ws:List Int} {f:Int} (c:0<=f) (d:16*f+16<=ws.length) {k:Nat} (a:k<16):(jC ws (16*f) 16)[k]? =some (dC ws (16*f+(k:Int))):=by
 have e:jC ws (16*f) 16=(ws.drop (16*f).toNat).take 16:=ao (by omega);rw[e,H5 a,H7];unfold dC;have hi:(16*f).toNat+k<ws.length:=by omega
 rw[av (jh (by omega) (by omega)),BO hi,DB];have b:(16*f+(k:Int)).toNat=(16*f).toNat+k:=by omega
 rw[b,BO hi];rfl
theorem Ep {ws:List Int} {f:Int} (a:0<=f) (b:16*f+16<=ws.length) (h:wZ ws f=true) (k:Int) (h0:0<=k) (h1:k<16):dC ws (16*f+k)=0:=by
 have c:=Pr a b (k:=k.toNat) (by omega);unfold wZ at h;rw[Hq] at h;have:=h _ (Ca c);rw[show((k.toNat:Nat):Int)=k from by omega] at this;simpa using this
theorem RQ {ws:List Int} {f:Int} (b:0<=f) (c:16*f+16<=ws.length) (h:wZ ws f=false): ∃k:Int,0<=k/\k<16/\dC ws (16*f+k)≠0:=by
 unfold wZ at h;rw[Hb] at h;obtain⟨v,hv,d⟩:=h;obtain⟨k,a⟩:=FC hv;have i:(jC ws (16*f) 16).length=16:=by
  have e:jC ws (16*f) 16=(ws.drop (16*f).toNat).take 16:=ao (by omega);rw[e,FV,Gi];omega
 have g:k<16:=by have:=(Ae.1 a).1;omega
 have:=Pr b c g;rw[a] at this;refine⟨(k:Int),by omega,by omega,λe=>d ?_⟩;cases this;simpa using e
def Wz (F:Nat->Int) (p:Int):Nat->Nat->List PT
 |j,0=>[(F j,(j:Int),16*F j+px j p % 16,())]
 |j,n+1=>(F j,(j:Int),16*F j+px j p % 16,())::Wz F p (j+1) n
structure Up (g:Gh) (s:WD) (o p:Int) (F:Nat->Int) (j:Nat):Prop where
 gh: ∀i,j<=i->i<=3->g (F i)=some (o,i,px (i+1) p)
 ld: ∀i,j<=i->i<3->aH s.1 (16*F (i+1)+px (i+1) p % 16)=b_ (F i)
theorem RR (F:Nat->Int) (p:Int) (j n:Nat): ∃l,Wz F p j n=(F j,(j:Int),16*F j+px j p % 16,())::l:=by cases n<;>exact⟨_,rfl⟩
namespace Inv
theorem put {g:Gh} {s:WD} (I:Inv g s) {o r p:Int} (l:g r=some (o,3,0)) (c:0<=p/\p<65536) {lv:Nat} {e:ET} (t:e.1=true) (y:bR e.1 e.2.1 e.2.2.1 e.2.2.2.1=true) (z:dp e=false) (A:ly lv e) (h0:l9 s r p lv=0):
 ∃g',sT (n_ o lv p) o g g' s (rH s o r p lv e)/\(∀q,px lv q=px lv p-> ∃f,dH g' (rH s o r p lv e) o q f lv/\aH (rH s o r p lv e).1 (16*f+px lv q % 16)=e)/\
  (∃f j,lv<=j/\dH g s o p f j/\(aH s.1 (16*f+px j p % 16)).1=false/\cq (rH s o r p lv e).2 0+(j - lv)=cq s.2 0)/\(Dk g s none->Dk g' (rH s o r p lv e) none):=by
 obtain⟨f,j,L,i⟩:=I.mv l c;obtain⟨u,eP⟩:=I.nK l c i;have a:=h0;unfold l9 at a;rw[u,eP] at a;dsimp only at a;by_cases c1:((aH s.1 (16*f+px j p % 16)).1||decide (((j:Nat):Int)<((lv:Nat):Int)))=true
 ·rw[av c1] at a;exact absurd a (by decide)
 rw[ao c1] at a;by_cases c2:(cq s.2 0:Int)<((j:Nat):Int) - ((lv:Nat):Int)
 ·rw[av c2] at a;exact absurd a (by decide)
 simp only[E5,decide_eq_true_eq,not_or,Bool.not_eq_true] at c1;obtain⟨n,rfl⟩: ∃n,j=lv+n:=⟨j - lv,by omega⟩;obtain⟨g1,s1,f1,d1,C1,E1,M,N,x1⟩:=down c lv n I i c1.1 (by omega);have B:rH s o r p lv e=(cW s1.1 (16*f1+px lv p % 16) (Nz e),s1.2):=by
  unfold rH;rw[av h0,u];have en:(((lv+n:Nat):Int) - ((lv:Nat):Int)).toNat=n:=by omega
  dsimp only;rw[en,d1];rfl
 rw[B];have hv:e9 (Nz e)=e:=xF y;have hi:=dZ p lv;obtain⟨C,D,E,F,w⟩:=C1.inv.zb (v:=Nz e) E1.1 hi.1 hi.2 E1.2 (by rw[hv];exact z) (by rw[hv];exact A) (λh=>by rw[hv,t] at h;cases h) E1 rfl;refine⟨g1,(C1.mono λ_ _ h=>h.elim).trans ⟨C,.refl _,D,E,λ{m d} h k=>⟨d,h,k.elim (λe=> .inr ⟨e,e⟩) .inl⟩,⟨cG _ _ _,rfl⟩,C1.inv.CD E1.1 hi.1 hi.2 _,λo1 nl=>nl.upd E1.1 hi.1 hi.2 (λb hb=>gf (λe=>hb e.symm)) λ_ _=>o1.lv,λh=> .inl h⟩,λq x=>⟨f1,(F q x).1,?_⟩,⟨f,lv+n,by omega,i,c1.1,?_⟩,λh=>?_⟩
 ·show aH (cW s1.1 _ _) _= _;rw[x,w,hv]
 ·show cq s1.2 0+ _= _;omega
 ·intro f0 O P Q h0 G _;by_cases ef:f0=f1
  ·subst ef;exact⟨_,hi.1,hi.2,by show(aH (cW s1.1 _ _) _).1=true;rw[w,hv];exact t⟩
  ·obtain⟨k,H,J,K⟩:=x1 (h.some f) h0 G (by simpa using ef);exact⟨k,H,J,by show(aH (cW s1.1 _ _) _).1=true;rw[gf (by omega)];exact K⟩
end Inv
set_option maxRecDepth 100000
open Go.RX D
theorem ZK (x y:PT) (l:List PT) (t:WD):jt (x::y::l) t=if wZ t.1 x.1=true then jt (y::l) (cW t.1 y.2.2.1 0,dD t.2 x.1 (aO 5 0)) else t:=rfl
theorem YK {ws:List Int} {a:Int} (h:dC ws a=0):aH ws a=zE:=by unfold aH;rw[h];exact oX
theorem Up.ne {g:Gh} {s:WD} {o p:Int} {F:Nat->Int} {j:Nat} (U:Up g s o p F j) {a b:Nat} (c:j<=a) (d:a<=3) (hb:j<=b) (f:b<=3) (h:a≠b):F a≠F b:=λe=>by
 have h1:=U.gh a c d;rw[e,U.gh b hb f] at h1;simp only[B3,B1,true_and] at h1;exact h h1.1.symm
theorem l6 {r:Int} {l:Bool} {f:Int}:bR true r l f=true<->(0<=r/\r<=7/\0<=f/\f<4096/\(r>0\/l=false)):=by
 unfold bR;cases l<;>simp<;>omega
theorem OG {p:Bool} {r:Int} {l:Bool} {f:Int} (h:r≠0):dp (p,r,l,f,())=false:=by
 unfold dp fO;simp[h]
namespace Inv
theorem split {g:Gh} {s:WD} (I:Inv g s) {o r p:Int} (F:g r=some (o,3,0)) (G:0<=p/\p<65536) {f:Int} {j:Nat} (a:dH g s o p f j) (b:(aH s.1 (16*f+px j p % 16)).1=true) (h0:ma s o r p=0):
 ∃g' f',sT XW o g g' s (fp s o r p)/\dH g' (fp s o r p) o p f' 0/\cq (fp s o r p).2 0+j=cq s.2 0/\(Dk g s none->Dk g' (fp s o r p) none):=by
 obtain⟨l,eP⟩:=I.nK F G a;have hi:=dZ p j;rcases I.leaf a.1 hi.1 hi.2 b a.2 with ⟨rfl, _⟩|⟨rfl,n,x⟩
 ·have q:fp s o r p=s:=by unfold fp;rw[l];exact av rfl
  rw[q];exact⟨g,f,.refl I _ _,a,rfl,λh=>h⟩
 ·have H:ma s o r p=rz s o:=by unfold ma;rw[l];exact ao (by show ¬ ((1:Int)=0);decide)
  rw[H] at h0;have q:fp s o r p=dK (iF s o (oA (aH s.1 (16*f+px 1 p % 16)))) (16*f+px 1 p % 16) (b_ (dX s o)):=by
   unfold fp;rw[l,eP];rw[ao (by show ¬ ((1:Int)=0);decide),av h0]
  have y:=I.kd a.1;have hc:0<cq s.2 0:=by
   rcases Nat.eq_zero_or_pos (cq s.2 0) with e|e
   ·exact absurd h0 (RP e (by omega))
   ·exact e
  have t:=lE s.1 (16*f+px 1 p % 16);rw[q];have J:=a.2;generalize K:aH s.1 (16*f+px 1 p % 16)=e at n x t b J ⊢;obtain⟨ep,er,el,ef,eu⟩:=e;dsimp only at n x t b;subst n;subst b;obtain⟨L,M,b3,b4,z⟩:=l6.1 t;have z:er>0:=z.elim id (λh=>by cases h);have u: ∀k:Int,0<=k->k<16->e9 (oA (true,er,true,ef,()) k)=(true,er,false,ef+k,()):=λk k0 c=>by
   show e9 (Fz true er false (ef+k))= _;exact xF (l6.2 ⟨L,M,by omega,by omega,.inr rfl⟩)
  have A: ∀k,0<=k->k<16->dp (e9 (oA (true,er,true,ef,()) k))=false/\ly 0 (e9 (oA (true,er,true,ef,()) k))/\((e9 (oA (true,er,true,ef,()) k)).1=false->oA (true,er,true,ef,()) k=0):=λk k0 c=>by
   rw[u k k0 c];exact⟨OG (by omega),λ_ _=> .inl ⟨rfl,rfl⟩,λh=>by cases h⟩
  obtain⟨q0,N,O,P,Q,v,w,R,S,T⟩:=I.Eo (m:=0) a.1 hi.1 hi.2 a.2 hc (oA (true,er,true,ef,())) A (λp' hp0 ou=>by
   rw[u _ (dZ p' 0).1 (dZ p' 0).2,K];rfl)
  obtain⟨_,u1, _, _, _, _,B,U,C, _⟩:=I.grow (m:=0) a.1 hi.1 hi.2 a.2 hc (oA (true,er,true,ef,())) A;obtain⟨V,e2⟩:=R p a rfl;have W:=tB (d':=(3,o,0,0,())) w 0;refine⟨_,dX s o,⟨N,O,P,Q,λ{m d} X y=>by rw[v];exact Gr w (λh=>by rcases h with h|h<;>exact absurd h (by decide)) X y,⟨xH _ _ _ _ _,by rw[v,Bs]⟩,I.Bq (m:=0) a.1 hi.1 hi.2 hc _ _,λ_ nl=>nl.grow (f:=f) (i:=0) B (λ_ _ _ _=>rfl) (by rw[C];exact dI ⟨S,T⟩),λ{f0 Y} D=> .inl (by
   rw[aX (λe=>?_)]
   ·exact D
   ·obtain⟨Z,l0,x0⟩:=Y;have:=(I.kd D).2.2.1;rw[e,w] at this;cases this)⟩,V,?_,?_⟩
  ·rw[v];simpa[zD] using W
  ·intro h f0 Z l0 x0 h0 Ik _;by_cases E:f0=dX s o
   ·subst E;exact⟨0,by decide,by decide,by rw[U 0 (by decide) (by decide),u 0 (by decide) (by decide)]⟩
   ·rw[aX E] at h0;by_cases e:f0=f
    ·subst e;exact⟨_,hi.1,hi.2,by rw[C];rfl⟩
    ·obtain⟨k,c,k2,k3⟩:=h h0 Ik (by simp);exact⟨k,c,k2,by rw[B _ (by omega) (by omega)];exact k3⟩
theorem thin {o p:Int} (t:0<=p/\p<65536) {F:Nat->Int}: ∀(n:Nat) {j:Nat} {g:Gh} {s:WD},j+n=3->Inv g s->Up g s o p F j->
 ∃g',sT XW o g g' s (jt (Wz F p j n) s)/\cq (jt (Wz F p j n) s).2 0=cq s.2 0/\(Dk g s (some (F j))->Dk g' (jt (Wz F p j n) s) none)
 |0,j,g,s,M,I,U=>by
  refine⟨g,.refl I _ _,rfl,λh f0 A B C h0 q _=>h h0 q (λe=>?_)⟩;have D:=U.gh j (B5 _) (by omega);cases e;rw[h0] at D;simp only[B3,B1] at D;omega
 |n+1,j,g,s,M,I,U=>by
  obtain⟨l',E⟩:=RR F p (j+1) n;have N:Wz F p j (n+1)=(F j,(j:Int),16*F j+px j p % 16,())::(F (j+1),((j+1:Nat):Int),16*F (j+1)+px (j+1) p % 16,())::l':=by rw[Wz,E]
  have v:=U.gh j (B5 _) (by omega);have g1:=U.gh (j+1) (by omega) (by omega);have O:=U.ld j (B5 _) (by omega);have hi:=dZ p (j+1);have f:=I.vA v;rw[N,ZK];cases w:wZ s.1 (F j) with
  |false=>
   rw[ao (by decide)];refine⟨g,.refl I _ _,rfl,λh f0 A B C h0 q _=>?_⟩;by_cases e:f0=F j
   ·subst e;obtain⟨k,k0,c,x⟩:=RQ f.1 f.2.2 w;refine⟨k,k0,c,?_⟩;cases hb:(aH s.1 (16*F j+k)).1 with
    |true=>rfl
    |false=>exact absurd (I.wf v k0 c hb) x
   ·exact h h0 q (by simpa using e)
  |true=>
   rw[av rfl];dsimp only;have P:g (F j)=some (o,j,16*px (j+1+1) p+px (j+1) p % 16):=by rw[<-nJ];exact v
   obtain⟨y,G,H,J,l,r,Q,K⟩:=I.Mf g1 hi.1 hi.2 P O (λk k0 c=>YK (Ep f.1 f.2.2 w k k0 c));dsimp only at y G H J l r Q K;have C1:sT XW o g (mh g (F j) none) s (cW s.1 (16*F (j+1)+px (j+1) p % 16) 0,dD s.2 (F j) (aO 5 0)):=
    ⟨y,G,H,J,λ{m d} z R=>by rw[l];exact Gr r (λ_=>rfl) z R,⟨cG _ _ _,by rw[l,Bs]⟩,by rw[l];exact Kept.set r (show ¬ (3:Int)=4/\ ¬ (3:Int)=5 by decide) ⟨.inr rfl,rfl,(I.kd g1).2.2.2.1,(I.kd g1).2.2.2.2.1⟩ λ{m d} z S k k0 c=>by rw[mL (I.off g1 hi.1 hi.2 z S k0 c)],λ_ nl=>(nl.upd (s':=(cW s.1 (16*F (j+1)+px (j+1) p % 16) 0,dD s.2 (F j) (aO 5 0))) g1 hi.1 hi.2 (λb hb=>gf (λe=>hb e.symm)) λt _=>by rw[K] at t;cases t).del _,λ{f0 X} T=>by
     by_cases e:f0=F j
     ·subst e;have V:=U.ne (a:=j) (b:=j+1) (by omega) (by omega) (by omega) (by omega) (by omega);refine .inr ⟨f.1, _,by rw[l];exact C5 (Ae.1 r).1,rfl,λk k0 c=>?_⟩;show dC (cW s.1 _ _) _=0;rw[mL (by omega)];exact Ep f.1 f.2.2 w k k0 c
     ·exact .inl (by rw[aX e];exact T)⟩
   have U1:Up (mh g (F j) none) (cW s.1 (16*F (j+1)+px (j+1) p % 16) 0,dD s.2 (F j) (aO 5 0)) o p F (j+1):=by
    refine⟨λi h1 u=>?_,λi h1 u=>?_⟩
    ·rw[aX (U.ne (by omega) u (B5 _) (by omega) (by omega))];exact U.gh i (by omega) u
    ·have V:=U.ne (a:=i+1) (b:=j+1) (by omega) (by omega) (by omega) (by omega) (by omega);have Y:=dZ p (i+1);show aH (cW _ _ _) _= _;rw[gf (by omega)];exact U.ld i (by omega) u
   obtain⟨g',c1,c2,c3⟩:=thin t n (by omega) y U1;rw[E] at c1 c2 c3;refine⟨g',C1.trans c1,c2.trans ?_,λh=>c3 λf0 A B C h0 q W=>?_⟩
   ·have:=tB (d':=(5,o,0,0,())) r 0;rw[l];simpa using this
   ·have L:f0≠F j:=λe=>by rw[e,bI] at h0;cases h0
    have Z:f0≠F (j+1):=λe=>W (by rw[e]);rw[aX L] at h0;obtain⟨k,k0,c,x⟩:=h h0 q (by simpa using L);exact⟨k,k0,c,by show(aH (cW _ _ _) _).1=true;rw[gf (by omega)];exact x⟩
end Inv
end Go.Proofs.YtlcenllcmeebhaaGreat
