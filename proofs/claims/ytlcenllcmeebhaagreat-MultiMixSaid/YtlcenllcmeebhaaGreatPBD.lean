import Derived.Test.YtlcenllcmeebhaaGreatPBC
/-! What the statement leans on: texts joined and shortened by a program of mine. -/
set_option linter.unusedVariables false
set_option linter.unusedSimpArgs false
open Go renaming World->A1,Addr->AC,Value->AL,MapEntry->AP
open Go.Proofs.Tryz renaming prog->A2
open Eq renaming mpr->AM
open Go.IntKind renaming i64->AY
open List renaming range->Am,length_set->Ar,getElem?_eq_some_iff->B1,length_cons->B3,getElem?_set_ne->B5,replicate->Be,getElem?_eq_getElem->Bx,mem_of_getElem?->CB,sublist_cons_self->Cf,mem_append_right->Cp,getD_eq_getElem?_getD->DA,perm_middle->DD,getElem?_set_self->DF,length_map->DL,append_nil->DM,mem_or_eq_of_mem_set->Do,length_append->Du,mem_cons_self->E4,getElem?_append_left->E5,mem_cons->Ee,mem_singleton->Ek,length_take->Eo,drop_of_length_le->F5,take_add_one->F6,sublist_append_left->F7,drop_eq_getElem_cons->FI,length_eq_zero_iff->FY,findIdx?_eq_some_iff_getElem->G1,ext_getElem?->GD,append_assoc->GF,length_pos_iff->GG,length_drop->GH,getElem?_map->GI,getElem?_take_of_lt->GJ,getElem?_drop->GS,take_of_length_le->Ga,all_eq_false->Gd,all_eq_true->Gi,getElem?_of_mem->Gj,take_append_drop->Gn,range_succ->Gp,foldl_cons->Gq,getElem?_append_right->Gr,findIdx?_eq_none_iff->Gz,eq_of_mem_replicate->H4
open Int renaming toNat->Ap,le_refl->DR,eq_ofNat_of_zero_le->H5
open Prod.mk renaming injEq->Az
open Option.some renaming injEq->B2
open Nat renaming le_refl->B4,mul_one->DB,eq_of_beq_eq_true->DU,ne_of_beq_eq_false->DZ,zero_add->FK
open Decidable renaming rec->CD
open List.Sublist renaming refl->CF
open Go.Value renaming func->Dn,pointer->H6,nilFunc->H7
open Bool renaming or_eq_true->Ea,or_eq_false_iff->FS,and_eq_true->HB
open List.Perm renaming swap->FU,cons->FX
namespace Go.Proofs.YtlcenllcmeebhaaGreat
set_option maxRecDepth 100000
open Go.RX
abbrev aaR:Sh:= .el (.one (.Au 244 2))
abbrev G5:Sh:= .el (.one (.Au 247 3))
noncomputable def N0:dJ A2:={M0 with sh:=[(219,aaR),(239,G5)],quiet:=[117,118,62,30,88,56,215,194,241]}
theorem L5 (p:Option AC) (w:A1) (a:Int->A1->Prop):(aK N0 (λ_=>[]) 88 [ag p] w a)=(
 ((!p.isNone)=true->p.isSome=true)/\((!p.isNone)=true->p.isSome=true)/\aj w (some !p.isNone) (ad p 0) kM λx=>aI (p.isNone||x.isNone) (au w (a 10)) (acu p 4 w λx=>aI x (au w (a 6)) (au w (a 0)))):=by kernel_rfl
theorem RZ (p:Option AC) (w:A1) (a:Int->A1->Prop):(aK N0 (λ_=>[]) 56 [ag p] w a)=(
 ∃(x:Int),ae A2 88 [ag p] w (aa x)/\aI (x != 0) (au w (a (-1))) (cN p 3 w λx=>au w (a x))):=by kernel_rfl
theorem L6 (p f r:Int) (w:A1) (a:Int->A1->Prop):(aK N0 (λ_=>[]) 215 [aa p,aa f,aa r] w a)=(
 aI (decide (p<0)||decide (p>=65536)||decide (f<0)||decide (f>=4096)) (au w (a 2)) (aI (decide (r<1)||decide (r>7)) (au w (a 7)) (au w (a 0)))):=by kernel_rfl
theorem L7 (f:Int) (w:A1) (c:(Bool×Int×Bool×Int×Unit)->A1->Prop):(bS N0 (λ_=>[]) 241 [aa f] w c)=(
 aN w ⟨[.bool false,aa 0,.bool false,aa 0]⟩ 130 λb a=>aC a (af b) [.bool true,aa 0,.bool false,aa f] λa=>au a λw1=>aj w1 none (af b) kh λ(x:Bool×Int×Bool×Int×Unit)=>c (x.1,x.2.1,x.2.2.1,x.2.2.2.1,()) w1):=by kernel_rfl
theorem L8 (p d e f:Int) (ep:Bool) (er:Int) (el:Bool) (ef:Int) (w:A1) (c:Int->A1->Prop):(aK N0 (λ_=>[]) 194 [aa p,.agg ⟨[aa d,aa e,aa f]⟩,.agg ⟨[.bool ep,aa er,.bool el,aa ef]⟩] w c)=(
 aN w ⟨[aa d,aa e,aa f]⟩ 270 λb a=>aN a ⟨[.bool ep,aa er,.bool el,aa ef]⟩ 130 λg a=>true=true/\aU a (ad (af b) 1) λx=>aI (x==1) (true=true/\aU a (ad (af g) 3) λx=>True/\gP 1≠0/\au a λw1=>c (aH .i64 x (dX p (gP 1))) w1) (true=true/\aU a (ad (af g) 3) λx=>au a (c x))):=by kernel_rfl
theorem PI (p:Option AC) (i:Int) (w:A1) (c:(Bool×Int×Bool×Int×Unit)->A1->Prop):(bS N0 (λ_=>[]) 235 [ag p,aa i] w c)=(
 aN w ⟨[.bool false,aa 0,.bool false,aa 0]⟩ 130 λb a=>bG p 0 a λx=>az A2 37 (.bu [.one (.int .u64),.one (.int .i64)]) [ag x,aa i] a λ(x:Int×Int×Unit) a=>U (B x.1)=x.1/\aN a ⟨[.bool false,aa 0,.bool false,aa 0]⟩ 130 λd a=>aC a (af d) [.bool (IF (B x.1).toNat),aa (F2 (B x.1).toNat),.bool (Kp (B x.1).toNat),aa (FM (B x.1).toNat)] λa=>aj a none (af d) kh λ(x:Bool×Int×Bool×Int×Unit)=>aC a (af b) [.bool x.1,aa x.2.1,.bool x.2.2.1,.int
 .i64 x.2.2.2.1] λa=>au a λw1=>aj w1 none (af b) kh λ(x:Bool×Int×Bool×Int×Unit)=>c (x.1,x.2.1,x.2.2.1,x.2.2.2.1,()) w1):=by kernel_rfl
theorem VN (p:Option AC) (i:Int) (ep:Bool) (er:Int) (el:Bool) (ef:Int) (w:A1) (c:Unit->A1->Prop):(aK N0 (λ_=>[]) 222 [ag p,aa i,.agg ⟨[.bool ep,aa er,.bool el,aa ef]⟩] w c)=(
 aN w ⟨[.bool ep,aa er,.bool el,aa ef]⟩ 130 λb a=>aj a none (af b) kh λ(x:Bool×Int×Bool×Int×Unit)=>True/\bG p 0 a λd=>az A2 38 (.el aS) [ag d,aa i,ay (F1 x.1 x.2.1 x.2.2.1 x.2.2.2.1)] a λ(x:Int) a=>au a (c ())):=by kernel_rfl
theorem VO (p:Option AC) (pg:Int) (w:A1) (c:Option AC×Option AC×Unit->A1->Prop):(aK N0 (λ_=>[]) 219 [ag p,aa pg] w c)=(
 aN w ⟨[ag p]⟩ 118 λb a=>aN a ⟨[aa pg]⟩ 3 λd a=>au a (c (some ⟨b,0,none⟩,some ⟨d,0,none⟩,()))):=by kernel_rfl
def uK:Nat->a6:=(λ|2=>[(4,Go.RX.El.one (Go.RX.Sc.int AY)),(5,Go.RX.El.one (Go.RX.Sc.int AY))]| _=>[])
theorem R2 (y:Nat) (p c:Option AC) (w:A1) (d:Unit->A1->Prop):(aK N0 uK 244 [.func (.yield y) #[] #[],ag p,ag c] w d)=(
 gi w p λx=>cN x 3 w λx=> ∃(I:Nat->Int×Int×Unit->A1->Prop),(∃n, ∀w1,Ext w w1->I n (x,3,()) w1)/\ ∀(n:Nat) (s:Int×Int×Unit) (w1:A1),I n s w1->aI (decide (s.2.1>=0)) (aU w1 c λx=>True/\aN w1 ⟨[aa 0,aa 0,aa 0]⟩ 270 λb a=>aC a (af b) [aa s.1,aa s.2.1,aa (dV s.1 x s.2.1)] λa=>gi a p λx=>true=true/\aU a (ad (af b) 2) λh=>az A2 235 (.el kh) [ag x,aa h] a λ(x:Bool×Int×Bool×Int×Unit) a=>aN a ⟨[.bool false,
 aa 0,.bool false,aa 0]⟩ 130 λe a=>aC a (af e) [.bool x.1,aa x.2.1,.bool x.2.2.1,aa x.2.2.2.1] λa=>aj a none (af b) xD λ(x:Int×Int×Int×Unit)=> ∀w1,Ext a w1->mq A2 y [.agg ⟨[aa x.1,aa x.2.1,aa x.2.2.1]⟩] w1 λ(b:Bool) a=>aj a (some !!b) (af e) kh λ(x:Bool×Int×Bool×Int×Unit)=>((!!b)=true->True)/\aI (!b|| !fV x.1 x.2.1 x.2.2.1 x.2.2.2.1) (au a (d ())) (true=true/\aU a (ad (af e) 3) λx=> ∀f,Ext a f-> ∃(g:Nat),g<n/\
 I g (x,aZ .i64 s.2.1 1,()) f)) (au w1 (d ()))):=by kernel_rfl
def uL:Nat->a6:=(λ|4=>[(6,.agg [.int .i64,.int .i64,.int .i64])]| _=>[])
theorem R3 (p c:Option AC) (w:A1) (e:Option AC×Nat×Nat->A1->Prop):(bS N0 uL 218 [.func (.func 244) #[] #[ag p,ag c]] w e)=(
 aN w ⟨[.slice none 0 0]⟩ 285 λb a=>An A2 244 (λ(y:Nat)=>[.func (Fn.yield y) ⟨[]⟩ ⟨[]⟩,ag p,ag c]) ⟨[6]⟩ a (λ(x:(Int×Int×Int×Unit)×Unit)=>[.agg ⟨[aa x.1.1,aa x.1.2.1,aa x.1.2.2.1]⟩]) (λ(l:Nat) (rec:Loop) (x:(Int×Int×Int×Unit)×Unit) g (R:Bool->A1->Prop)=>DG l rec [Value.agg ⟨[aa x.1.1,aa x.1.2.1,aa x.1.2.2.1]⟩].length 1 g (aN g ⟨[aa 0,aa 0,aa 0]⟩ 270 λi a=>aC a (af i) [aa x.1.1,aa x.1.2.1,.int .i64
 x.1.2.2.1] λa=>Cl l rec a λd=>tq d (af b) λx=>aj d none (af i) xD λ(f:Int×Int×Int×Unit)=>aN d ⟨[aa f.1,aa f.2.1,aa f.2.2.1]⟩ 270 λj a=> ∀w1,Ext a w1->mF w1 270 3 24 ⟨[aa 0,aa 0,aa 0]⟩ (x.1,x.2.1,x.2.2) (some ⟨j,0,none⟩,1,1) λ(r:Option AC×Nat×Nat) a=>aC a (af b) [.slice r.1 r.2.1 r.2.2] λa=>sY l rec none a R)) λ(r:Nat) (rec:Loop) k=>dB (r+1) rec
 k (λd=>tq d (af b) λx=>sZ [r] d λw1=>e (x.1,x.2.1,x.2.2) w1) (λ(id:Nat) d=>CD (λ(h:id=0->False)=>False) (λ(h:id=0)=>tq d (af b) λx=>sZ [r] d λw1=>e (x.1,x.2.1,x.2.2) w1) (match h:id.beq 0 with|true=>isTrue (DU h)|false=>isFalse (DZ h))) λd=>sZ [r] d λw1=>e (none,0,0) w1):=by kernel_rfl
theorem VP (p:Option AC) (pg:Int) (w:A1) (f:(Int×Int×Int×Unit)×(Bool×Int×Bool×Int×Unit)×Unit->A1->Prop):(bS N0 (λ_=>[]) 193 [ag p,aa pg] w f)=(
 aN w ⟨[aa 0,aa 0,aa 0]⟩ 270 λb a=>aN a ⟨[.bool false,aa 0,.bool false,aa 0]⟩ 130 λg a=>az A2 219 (.el (.one (.Au 244 2))) [ag p,aa pg] a λx a=>az A2 218 (.el eY) [.func (.func 244) ⟨[]⟩ ⟨[ag x.1,ag x.2.1]⟩] a λx a=>(x.1.isSome=true/\0<=aZ .i64 (↑x.2.1:Int) 1/\aZ .i64 (↑x.2.1:Int) 1<(↑x.2.1:Int))/\aj a none (ad x.1 ((aZ .i64 (↑x.2.1:Int) 1).toNat*3)) xD λ(x:Int×Int×Int×Unit)=>aN a ⟨[aa 0,aa 0,aa 0]⟩ 270 λc
 a=>aC a (af c) [aa x.1,aa x.2.1,aa x.2.2.1] λa=>aj a none (af c) xD λ(x:Int×Int×Int×Unit)=>true=true/\aU a (ad (af c) 2) λh=>az A2 235 (.el kh) [ag p,aa h] a λ(d:Bool×Int×Bool×Int×Unit) a=>cC a (af c) xD x/\aC a (af b) [aa x.1,aa x.2.1,aa x.2.2.1] λa=>aC a (af g) [.bool d.1,aa d.2.1,.bool d.2.2.1,aa d.2.2.2.1] λa=>au a λw1=>aj w1 none (af b) xD λ(x:Int×Int×Int×Unit)=>aj w1
 none (af g) kh λ(e:Bool×Int×Bool×Int×Unit)=>f ((x.1,x.2.1,x.2.2.1,()),(e.1,e.2.1,e.2.2.1,e.2.2.2.1,()),()) w1):=by kernel_rfl
def rz:Nat->a6:=(λ|5=>[(24,Go.RX.El.one (Go.RX.Sc.int AY))]| _=>[])
theorem L9 (p:Option AC) (w:A1) (b:Int×Int×Unit->A1->Prop):(aK N0 rz 205 [ag p,.func (.func 206) #[] #[]] w b)=(
 bG p 1 w λx=>cN p 2 w λf=>az A2 172 (.bu [.one (.int .i64),.one (.int .i64)]) [ag x,aa 3,aa f] w λ(x:Int×Int×Unit) a=>aI (x.2.1 != 0) (au a (b (0,x.2.1,()))) (∃(I:Nat->Int×Unit->A1->Prop),(∃n, ∀w1,Ext a w1->I n (0,()) w1)/\ ∀(n:Nat) (s:Int×Unit) (w1:A1),I n s w1->aI (decide (s.1<16)) (bG p 0 w1 λc=>az A2 206 (.el qN) [aa s.1] w1 λ(g:Int) a=>True/\True/\cC a (ad p 0) kM c/\True/\True/\az A2 38 (.el aS) [ag c,
 aa (aH .i64 (iB .i64 16 x.1) s.1),ay g] a λ(x:Int) a=> ∀d,Ext a d-> ∃(e:Nat),e<n/\I e (aH .i64 s.1 1,()) d) (au w1 (b (x.1,0,()))))):=by kernel_rfl
def rA:Nat->a6:=(λ|5=>[(24,Go.RX.El.one (Go.RX.Sc.int AY))]| _=>[])
theorem L_ (p:Option AC) (w:A1) (b:Int×Int×Unit->A1->Prop):(aK N0 rA 205 [ag p,.func (.func 240) #[] #[]] w b)=(
 bG p 1 w λx=>cN p 2 w λf=>az A2 172 (.bu [.one (.int .i64),.one (.int .i64)]) [ag x,aa 3,aa f] w λ(x:Int×Int×Unit) a=>aI (x.2.1 != 0) (au a (b (0,x.2.1,()))) (∃(I:Nat->Int×Unit->A1->Prop),(∃n, ∀w1,Ext a w1->I n (0,()) w1)/\ ∀(n:Nat) (s:Int×Unit) (w1:A1),I n s w1->aI (decide (s.1<16)) (bG p 0 w1 λc=>az A2 240 (.el qN) [aa s.1] w1 λ(g:Int) a=>True/\True/\cC a (ad p 0) kM c/\True/\True/\az A2 38 (.el aS) [ag c,
 aa (aH .i64 (iB .i64 16 x.1) s.1),ay g] a λ(x:Int) a=> ∀d,Ext a d-> ∃(e:Nat),e<n/\I e (aH .i64 s.1 1,()) d) (au w1 (b (x.1,0,()))))):=by kernel_rfl
def rB:Nat->a6:=(λ|5=>[(24,Go.RX.El.one (Go.RX.Sc.int AY))]| _=>[])
theorem Ma (p e:Option AC) (w:A1) (b:Int×Int×Unit->A1->Prop):(aK N0 rB 205 [ag p,.func (.func 242) #[] #[ag e]] w b)=(
 bG p 1 w λx=>cN p 2 w λg=>az A2 172 (.bu [.one (.int .i64),.one (.int .i64)]) [ag x,aa 3,aa g] w λ(x:Int×Int×Unit) a=>aI (x.2.1 != 0) (au a (b (0,x.2.1,()))) (∃(I:Nat->Int×Unit->A1->Prop),(∃n, ∀w1,Ext a w1->I n (0,()) w1)/\ ∀(n:Nat) (s:Int×Unit) (w1:A1),I n s w1->aI (decide (s.1<16)) (bG p 0 w1 λc=>az A2 242 (.el qN) [aa s.1,ag e] w1 λ(h:Int) a=>True/\True/\cC a (ad p 0) kM c/\True/\True/\az A2 38 (.el aS)
 [ag c,aa (aH .i64 (iB .i64 16 x.1) s.1),ay h] a λ(x:Int) a=> ∀d,Ext a d-> ∃(f:Nat),f<n/\I f (aH .i64 s.1 1,()) d) (au w1 (b (x.1,0,()))))):=by kernel_rfl
theorem R4 (i:Int) (w:A1) (a:Int->A1->Prop):(aK N0 (λ_=>[]) 206 [aa i] w a)=(
 au w (a 0)):=by kernel_rfl
theorem R5 (i:Int) (w:A1) (a:Int->A1->Prop):(aK N0 (λ_=>[]) 240 [aa i] w a)=(
 au w (a 0)):=by kernel_rfl
theorem HU (i:Int) (e:Option AC) (w:A1) (a:Int->A1->Prop):(aK N0 (λ_=>[]) 242 [aa i,ag e] w a)=(
 e.isSome=true/\aU w (ad e 1) λx=>e.isSome=true/\aU w (ad e 3) λb=>True/\au w (a (F1 true x false (aH .i64 b i)))):=by kernel_rfl
def wU:Nat->a6:=(λ|6=>[]| _=>[])
theorem VQ (p:Option AC) (pg lv:Int) (ep:Bool) (er:Int) (el:Bool) (ef:Int) (w:A1) (f:Int->A1->Prop):(aK N0 wU 216 [ag p,aa pg,aa lv,.agg ⟨[.bool ep,aa er,.bool el,aa ef]⟩] w f)=(
 aN w ⟨[.bool ep,aa er,.bool el,aa ef]⟩ 130 λb a=>az A2 193 (.bu [.agg [.int .i64,.int .i64,.int .i64],.agg [.bool,.int .i64,.bool,.int .i64]]) [ag p,aa pg] a λ(x:(Int×Int×Int×Unit)×(Bool×Int×Bool×Int×Unit)×Unit) a=>aN a ⟨[aa 0,aa 0,aa 0]⟩ 270 λc a=>aN a ⟨[.bool false,aa 0,.bool false,aa 0]⟩ 130 λg a=>aC a (af c) [aa x.1.1,aa x.1.2.1,aa x.1.2.2.1] λa=>aC a (af g) [.bool x.2.1.1,aa x.2.1.2.1,.bool
 x.2.1.2.2.1,aa x.2.1.2.2.2.1] λa=>true=true/\tr a (ad (af g) 0) λx=>((!x)=true->true=true)/\aj a (some !x) (ad (af c) 1) aS λ(k:Int)=>aI (x||decide (k<lv)) (au a (f 5)) (bG p 1 a λx=> ∃(h:Int),ae A2 30 [ag x,aa 0] a (aa h)/\true=true/\aU a (ad (af c) 1) λx=>aI (decide (h<aZ .i64 x lv)) (au a (f 12)) (∃(I:Nat->Unit->A1->Prop),(∃n, ∀w1,Ext a w1->I n () w1)/\ ∀(n:Nat) (s:Unit) (w1:A1),I n s w1->true=true/\aU w1 (ad
 (af c) 1) λx=>aI (decide (x>lv)) (az A2 205 (.bu [.one (.int .i64),.one (.int .i64)]) [ag p,.func (.func 240) ⟨[]⟩ ⟨[]⟩] w1 λ(x:Int×Int×Unit) a=>true=true/\aU a (ad (af c) 2) λe=> ∃(d:Bool×Int×Bool×Int×Unit),ae A2 241 [aa x.1] a (.agg ⟨[.bool d.1,aa d.2.1,.bool d.2.2.1,aa d.2.2.2.1]⟩)/\az A2 222 (.bu []) [ag p,aa e,.agg ⟨[.bool d.1,aa d.2.1,.bool d.2.2.1,aa d.2.2.2.1]⟩] a λo a=>true=true/\aU a (ad (af c) 1)
 λl=>true=true/\aU a (ad (af c) 1) λm=>True/\aC a (af c) [aa x.1,aa (aZ .i64 l 1),aa (dV x.1 pg (aZ .i64 m 1))] λa=> ∀i,Ext a i-> ∃(j:Nat),j<n/\I j () i) (true=true/\aU w1 (ad (af c) 2) λx=>aj w1 none (af b) kh λ(e:Bool×Int×Bool×Int×Unit)=>az A2 222 (.bu []) [ag p,aa x,.agg ⟨[.bool e.1,aa e.2.1,.bool e.2.2.1,aa e.2.2.2.1]⟩] w1 λx a=>au a (f 0))))):=by kernel_rfl
theorem VR (p:Option AC) (pg f r:Int) (w:A1) (a:Int->A1->Prop):(aK N0 (λ_=>[]) 173 [ag p,aa pg,aa f,aa r] w a)=(
 ∃(x:Int),ae A2 88 [ag p] w (aa x)/\aI (x != 0) (au w (a x)) (∃(x:Int),ae A2 215 [aa pg,aa f,aa r] w (aa x)/\aI (x != 0) (au w (a x)) (az A2 216 (.el aS) [ag p,aa pg,aa 0,.agg ⟨[.bool true,aa r,.bool false,aa f]⟩] w λ(x:Int) b=>au b (a x)))):=by kernel_rfl
theorem Mb (p:Option AC) (pg:Int) (w:A1) (c:Int×Int×Int×Unit->A1->Prop):(aK N0 (λ_=>[]) 139 [ag p,aa pg] w c)=(
 ∃(x:Int),ae A2 88 [ag p] w (aa x)/\aI (x != 0) (au w (c (0,0,x,()))) (aI (decide (pg<0)||decide (pg>=65536)) (au w (c (0,0,2,()))) (az A2 193 (.bu [.agg [.int .i64,.int .i64,.int .i64],.agg [.bool,.int .i64,.bool,.int .i64]]) [ag p,aa pg] w λ(x:(Int×Int×Int×Unit)×(Bool×Int×Bool×Int×Unit)×Unit) a=>aN a ⟨[aa 0,aa 0,aa 0]⟩ 270 λb a=>aN a ⟨[.bool false,aa 0,.bool false,aa 0]⟩ 130 λd a=>aC a (af b) [aa x.1.1,.int
 .i64 x.1.2.1,aa x.1.2.2.1] λa=>aC a (af d) [.bool x.2.1.1,aa x.2.1.2.1,.bool x.2.1.2.2.1,aa x.2.1.2.2.2.1] λa=>true=true/\tr a (ad (af d) 0) λx=>aI (!x) (au a (c (0,0,4,()))) (aj a none (af b) xD λ(x:Int×Int×Int×Unit)=>aj a none (af d) kh λ(e:Bool×Int×Bool×Int×Unit)=> ∃(f:Int),ae A2 194 [aa pg,.agg ⟨[aa x.1,aa x.2.1,aa x.2.2.1]⟩,.agg ⟨[.bool e.1,aa e.2.1,.bool e.2.2.1,aa e.2.2.2.1]⟩] a (aa f)/\
 true=true/\aU a (ad (af d) 1) λx=>au a (c (f,x,0,())))))):=by kernel_rfl
theorem Me (p:Option AC) (pg:Int) (w:A1) (d:Int->A1->Prop):(aK N0 (λ_=>[]) 217 [ag p,aa pg] w d)=(
 az A2 193 (.bu [.agg [.int .i64,.int .i64,.int .i64],.agg [.bool,.int .i64,.bool,.int .i64]]) [ag p,aa pg] w λ(x:(Int×Int×Int×Unit)×(Bool×Int×Bool×Int×Unit)×Unit) a=>aN a ⟨[aa 0,aa 0,aa 0]⟩ 270 λb a=>aN a ⟨[.bool false,aa 0,.bool false,aa 0]⟩ 130 λe a=>aC a (af b) [aa x.1.1,aa x.1.2.1,aa x.1.2.2.1] λa=>aC a (af e) [.bool x.2.1.1,aa x.2.1.2.1,.bool x.2.1.2.2.1,aa x.2.1.2.2.2.1] λa=>true=true/\aU a (ad (af b) 1)
 λx=>aI (x==0) (au a (d 0)) (az A2 205 (.bu [.one (.int .i64),.one (.int .i64)]) [ag p,.func (.func 242) ⟨[]⟩ {toList:=[ag (af e)]}] a λ(x:Int×Int×Unit) a=>aI (x.2.1==0) (true=true/\aU a (ad (af b) 2) λf=> ∃(c:Bool×Int×Bool×Int×Unit),ae A2 241 [aa x.1] a (.agg ⟨[.bool c.1,aa c.2.1,.bool c.2.2.1,aa c.2.2.2.1]⟩)/\az A2 222 (.bu []) [ag p,aa f,.agg ⟨[.bool c.1,aa c.2.1,.bool c.2.2.1,aa c.2.2.2.1]⟩] a λg a=>
 au a (d x.2.1)) (au a (d x.2.1)))):=by kernel_rfl
def uM:Nat->a6:=(λ|1=>[(4,Go.RX.El.one (Go.RX.Sc.int AY))]|4=>[(26,Go.RX.El.one (Go.RX.Sc.int AY))]| _=>[])
theorem R6 (p q:Option AC) (n c:Nat) (w:A1) (g:Unit->A1->Prop):(aK N0 uM 220 [ag p,.slice q n c] w g)=(
 ∃(I:Nat->Int×Unit->A1->Prop),(∃f, ∀w1,Ext w w1->I f (aZ .i64 (↑n:Int) 1,()) w1)/\ ∀(f:Nat) (s:Int×Unit) (w1:A1),I f s w1->aI (decide (s.1>0)) (bG p 0 w1 λx=>(q.isSome=true/\0<=s.1/\s.1<(↑n:Int))/\(ad q (Ap s.1*3)).isSome=true/\aj w1 none (ad (ad q (Ap s.1*3)) 0) aS λ(j:Int)=>az A2 45 (.el eY) [ag x,aa (iB .i64 16 j),aa 16] w1 λx a=> ∃(h:Nat->Int×Unit->A1->Prop),(∃n, ∀w1,Ext a w1->h n (0,()) w1)/\ ∀(i:Nat) (b
 :Int×Unit) (w1:A1),h i b w1->aI (decide (b.1<(↑x.2.1:Int))) ((x.1.isSome=true/\0<=b.1/\b.1<(↑x.2.1:Int))/\cM w1 (ad x.1 (Ap b.1*1)) λx=>aI (x != 0) (au w1 (g ())) (∀d,Ext w1 d-> ∃(e:Nat),e<i/\h e (aH .i64 b.1 1,()) d)) (bG p 0 w1 λx=>(q.isSome=true/\0<=aZ .i64 s.1 1/\aZ .i64 s.1 1<(↑n:Int))/\(ad q ((aZ .i64 s.1 1).toNat*3)).isSome=true/\aj w1 none (ad (ad q ((aZ .i64 s.1 1).toNat*3)) 2) aS λ(k:Int)=>az A2 38 (.el aS) [ag x,.int
 .i64 k,ay 0] w1 λ(x:Int) a=>bG p 1 a λx=>(q.isSome=true/\0<=s.1/\s.1<(↑n:Int))/\(ad q (Ap s.1*3)).isSome=true/\aj a none (ad (ad q (Ap s.1*3)) 0) aS λ(l:Int)=>az A2 138 (.el aS) [ag x,aa l,aa 5,aa 0] a λ(x:Int) a=> ∀d,Ext a d-> ∃(e:Nat),e<f/\I e (aZ .i64 s.1 1,()) d)) (au w1 (g ()))):=by kernel_rfl
theorem Mf (p:Option AC) (pg:Int) (w:A1) (c:Int×Int×Unit->A1->Prop):(aK N0 (λ_=>[]) 175 [ag p,aa pg] w c)=(
 az A2 139 (.bu [.one (.int .i64),.one (.int .i64),.one (.int .i64)]) [ag p,aa pg] w λ(x:Int×Int×Int×Unit) a=>aI (x.2.2.1 != 0) (au a (c (0,x.2.2.1,()))) (az A2 217 (.el aS) [ag p,aa pg] a λ(d:Int) a=>aI (d != 0) (au a (c (0,d,()))) (az A2 219 (.el (.one (.Au 244 2))) [ag p,aa pg] a λe a=>az A2 218 (.el eY) [.func (.func 244) ⟨[]⟩ ⟨[ag e.1,ag e.2.1]⟩] a λb a=>bG p 0 a λf=>(b.1.isSome=true/\0<=aZ .i64
 (↑b.2.1:Int) 1/\aZ .i64 (↑b.2.1:Int) 1<(↑b.2.1:Int))/\(ad b.1 ((aZ .i64 (↑b.2.1:Int) 1).toNat*3)).isSome=true/\aj a none (ad (ad b.1 ((aZ .i64 (↑b.2.1:Int) 1).toNat*3)) 2) aS λ(g:Int)=>az A2 38 (.el aS) [ag f,aa g,ay 0] a λ(h:Int) a=>az A2 220 (.bu []) [ag p,.slice b.1 b.2.1 b.2.2] a λi a=>au a (c (x.1,0,()))))):=by kernel_rfl
theorem R7 (p:Option AC) (pg r:Int) (w:A1) (c:Int->A1->Prop):(aK N0 (λ_=>[]) 177 [ag p,aa pg,aa r] w c)=(
 ∃(x:Int),ae A2 88 [ag p] w (aa x)/\aI (x != 0) (au w (c x)) (∃(x:Int),ae A2 215 [aa pg,aa 0,aa r] w (aa x)/\aI (x != 0) (au w (c x)) (az A2 193 (.bu [.agg [.int .i64,.int .i64,.int .i64],.agg [.bool,.int .i64,.bool,.int .i64]]) [ag p,aa pg] w λ(x:(Int×Int×Int×Unit)×(Bool×Int×Bool×Int×Unit)×Unit) a=>aN a ⟨[aa 0,aa 0,aa 0]⟩ 270 λb a=>aN a ⟨[.bool false,aa 0,.bool false,aa 0]⟩ 130 λd a=>aC a (af b)
 [aa x.1.1,aa x.1.2.1,aa x.1.2.2.1] λa=>aC a (af d) [.bool x.2.1.1,aa x.2.1.2.1,.bool x.2.1.2.2.1,aa x.2.1.2.2.2.1] λa=>true=true/\tr a (ad (af d) 0) λx=>aI (!x) (au a (c 4)) (true=true/\tr a (ad (af d) 2) λx=>(x=true->true=true)/\aj a (some x) (ad (af d) 1) aS λ(g:Int)=>aI (x&&g==r) (au a (c 0)) (aj a none (af b) xD λ(x:Int×Int×Int×Unit)=>aj a none (af d) kh λ(e:Bool×Int×Bool×Int×Unit)=> ∃(f:Int),ae A2 194
 [aa pg,.agg ⟨[aa x.1,aa x.2.1,aa x.2.2.1]⟩,.agg ⟨[.bool e.1,aa e.2.1,.bool e.2.2.1,aa e.2.2.2.1]⟩] a (aa f)/\az A2 217 (.el aS) [ag p,aa pg] a λ(x:Int) a=>aI (x != 0) (au a (c x)) (az A2 193 (.bu [.agg [.int .i64,.int .i64,.int .i64],.agg [.bool,.int .i64,.bool,.int .i64]]) [ag p,aa pg] a λ(x:(Int×Int×Int×Unit)×(Bool×Int×Bool×Int×Unit)×Unit) a=>aC a (af b) [aa x.1.1,aa x.1.2.1,aa x.1.2.2.1] λa=>true=
 true/\aU a (ad (af b) 2) λx=>az A2 222 (.bu []) [ag p,aa x,.agg ⟨[.bool true,aa r,.bool false,aa f]⟩] a λx a=>au a (c 0))))))):=by kernel_rfl
theorem BJ (p:Option AC) (f lv:Int) (w:A1) (c:Option AC×Option AC×Option AC×Unit->A1->Prop):(aK N0 (λ_=>[]) 239 [ag p,aa f,aa lv] w c)=(
 aN w ⟨[ag p]⟩ 118 λb a=>aN a ⟨[aa f]⟩ 3 λd a=>aN a ⟨[aa lv]⟩ 3 λe a=>au a (c (some ⟨d,0,none⟩,some ⟨b,0,none⟩,some ⟨e,0,none⟩,()))):=by kernel_rfl
def rC:Nat->a6:=(λ|4=>[(6,.one (.int .i64))]| _=>[])
theorem Mg (p c d:Option AC) (w:A1) (f:Option AC×Nat×Nat->A1->Prop):(bS N0 rC 238 [.func (.func 247) #[] #[ag p,ag c,ag d]] w f)=(
 aN w ⟨[.slice none 0 0]⟩ 39 λb e=>An A2 247 (λ(y:Nat)=>[.func (Fn.yield y) ⟨[]⟩ ⟨[]⟩,ag p,ag c,ag d]) ⟨[6]⟩ e (λ(x:Int×Unit)=>[aa x.1]) (λ(l:Nat) (rec:Loop) (x:Int×Unit) i (R:Bool->A1->Prop)=>DG l rec [aa x.1].length 1 i (Cl l rec i λa=>tq a (af b) λg=>aN a ⟨[aa x.1]⟩ 3 λj e=> ∀w1,Ext e w1->mF w1 3 1 8 ⟨[aa 0]⟩ (g.1,g.2.1,g.2.2) (some ⟨j,0,none⟩,1,1) λ(r:Option AC×Nat×Nat) e=>aC e (some ⟨b,0,
 none⟩) [.slice r.1 r.2.1 r.2.2] λe=>sY l rec none e R)) λ(r:Nat) (rec:Loop) k=>dB (r+1) rec k (λa=>tq a (af b) λx=>sZ [r] a λw1=>f (x.1,x.2.1,x.2.2) w1) (λ(id:Nat) a=>CD (λ(h:id=0->False)=>False) (λ(h:id=0)=>tq a (af b) λx=>sZ [r] a λw1=>f (x.1,x.2.1,x.2.2) w1) (match h:id.beq 0 with|true=>isTrue (DU h)|false=>isFalse (DZ h))) λa=>sZ [r] a λw1=>f (none,0,0)
 w1):=by kernel_rfl
def wV:Nat->a6:=(λ|5=>[(18,Go.RX.El.one (Go.RX.Sc.int AY))]|8=>[(5,Go.RX.El.one (Go.RX.Sc.int AY))]| _=>[])
theorem VS (p:Option AC) (w:A1) (e:Option AC×Nat×Nat->A1->Prop):(aK N0 wV 214 [ag p] w e)=(
 ∃(x:Int),ae A2 88 [ag p] w (aa x)/\aI (x != 0) (au w (e (none,0,0))) (cN p 3 w λx=>az A2 239 (.el (.one (.Au 247 3))) [ag p,aa x,aa 3] w λx b=>az A2 238 (.el eY) [.func (.func 247) ⟨[]⟩ ⟨[ag x.1,ag x.2.1,ag x.2.2.1]⟩] b λx b=> ∃(I:Nat->Int×Unit->A1->Prop),(∃n, ∀w1,Ext b w1->I n (0,()) w1)/\ ∀(n:Nat) (s:Int×Unit) (w1:A1),I n s w1->aI (decide (s.1<(↑x.2.1:Int))) (∃(f:Nat->Int×Unit->A1->Prop),(∃n, ∀g,Ext w1 g->f
 n (s.1,()) g)/\ ∀(h:Nat) (a:Int×Unit) (w1:A1),f h a w1->(decide (a.1>0)=true->x.1.isSome=true/\0<=aZ .i64 a.1 1/\aZ .i64 a.1 1<(↑x.2.1:Int))/\aj w1 (some (decide (a.1>0))) (ad x.1 ((aZ .i64 a.1 1).toNat*1)) aS λ(i:Int)=>(decide (a.1>0)=true->x.1.isSome=true/\0<=a.1/\a.1<(↑x.2.1:Int))/\aj w1 (some (decide (a.1>0))) (ad x.1 (Ap a.1*1)) aS λ(j:Int)=>aI (decide (a.1>0)&&decide (i>j)) ((x.1.isSome=true/\0<=a.1/\a.1<(↑x.2.1:Int))/\aU w1
 (ad x.1 (Ap a.1*1)) λk=>(x.1.isSome=true/\0<=aZ .i64 a.1 1/\aZ .i64 a.1 1<(↑x.2.1:Int))/\aj w1 none (ad x.1 ((aZ .i64 a.1 1).toNat*1)) aS λ(l:Int)=>(x.1.isSome=true/\0<=aZ .i64 a.1 1/\aZ .i64 a.1 1<(↑x.2.1:Int))/\aC w1 (ad x.1 ((aZ .i64 a.1 1).toNat*1)) [aa k] λb=>(x.1.isSome=true/\0<=a.1/\a.1<(↑x.2.1:Int))/\aC b (ad x.1 (Ap a.1*1)) [aa l] λb=> ∀c,Ext b c-> ∃(d:Nat),d<h/\f d (aZ .i64 a.1 1,()) c) (∀c,Ext w1 c-> ∃(d
 :Nat),d<n/\I d (aH .i64 s.1 1,()) c)) (au w1 (e (x.1,x.2.1,x.2.2))))):=by kernel_rfl
def uN:Nat->a6:=(λ|5=>[(13,Go.RX.El.one (Go.RX.Sc.int AY))]| _=>[])
theorem R8 (p:Option AC) (w:A1) (b:Option AC×Nat×Nat->A1->Prop):(aK N0 uN 171 [ag p] w b)=(
 ∃(x:Int),ae A2 88 [ag p] w (aa x)/\aI (x != 0) (au w (b (none,0,0))) (az A2 214 (.el eY) [ag p] w λx a=> ∃(I:Nat->Int×Unit->A1->Prop),(∃n, ∀w1,Ext a w1->I n (0,()) w1)/\ ∀(n:Nat) (s:Int×Unit) (w1:A1),I n s w1->aI (decide (s.1<(↑x.2.1:Int))) ((x.1.isSome=true/\0<=s.1/\s.1<(↑x.2.1:Int))/\aU w1 (ad x.1 (Ap s.1*1)) λx=>bG p 1 w1 λe=>az A2 138 (.el aS) [ag e,aa x,aa 5,aa 0] w1 λ(x:Int) a=> ∀c,Ext a c-> ∃(d
 :Nat),d<n/\I d (aH .i64 s.1 1,()) c) (p.isSome=true/\p.isSome=true/\aC w1 (ad p 4) [.bool true] λa=>au a (b (x.1,x.2.1,x.2.2))))):=by kernel_rfl
theorem VT (m p:Option AC) (o:Int) (w:A1) (c:Option AC×Int×Unit->A1->Prop):(aK N0 (λ_=>[]) 164 [ag m,ag p,aa o] w c)=(
 ∃(x:Int),ae A2 117 [ag m] w (aa x)/\ ∃(d:Int),((!x==0)=true->ae A2 62 [ag p] w (aa d))/\ ∃(e:Int),((!(x==0||d==0))=true->ae A2 117 [ag m] w (aa e))/\ ∃(f:Int),((!(x==0||d==0))=true->ae A2 62 [ag p] w (aa f))/\aI (x==0||d==0||decide (e<iB .i64 16 f)) (au w (c (none,1,()))) (aN w ⟨[ag m,ag p,aa o,aa 0,.bool false]⟩ 188 λb a=>az A2 205 (.bu [.one (.int .i64),.one (.int
 .i64)]) [ag (af b),.func (.func 206) ⟨[]⟩ ⟨[]⟩] a λ(x:Int×Int×Unit) a=>aI (x.2.1 != 0) (au a (c (none,x.2.1,()))) (true=true/\true=true/\aC a (ad (af b) 3) [aa x.1] λa=>au a (c (some ⟨b,0,none⟩,0,()))))):=by kernel_rfl
theorem Mh (p:Option AC) (i n:Int) (w:A1) (a:Option AC×Nat×Nat->A1->Prop):(aK N0 (λ_=>[]) 45 [ag p,aa i,aa n] w a)=(
 aI p.isNone (au w (a (none,0,0))) (p.isSome=true/\p.isSome=true/\aj w none (ad p 0) (.agg [.slice]) λx=>az A2 80 (.el eY) [.agg ⟨[.slice x.1.1 x.1.2.1 x.1.2.2]⟩,aa i,aa n] w λx b=>au b (a (x.1,x.2.1,x.2.2)))):=by kernel_rfl
theorem VU (p:Option AC) (n c:Nat) (i k:Int) (w:A1) (Post:Option AC×Nat×Nat->A1->Prop):(aK N0 (λ_=>[]) 80 [.agg ⟨[.slice p n c]⟩,aa i,aa k] w Post)=(
 aN w ⟨[.slice p n c]⟩ 157 λb a=>((!(decide (k<1)||decide (i<0)))=true->true=true)/\aj a (some !(decide (k<1)||decide (i<0))) (ad (af b) 0) (.one .slice) λx=>((!(decide (k<1)||decide (i<0)||decide (i>(↑x.2.1:Int))))=true->true=true)/\aj a (some !(decide (k<1)||decide (i<0)||decide (i>(↑x.2.1:Int)))) (ad (af b) 0) (.one .slice) λe=>aI (decide (k<1)||decide (i<0)||decide (i>(↑x.2.1:Int))||decide (k>aZ .i64 (↑e.2.1:Int) i)) (au a λw1=>Post (none,0,0) w1) (N8 a 8
 1 k k ⟨[ay 0]⟩ 29 λd a=>true=true/\aj a none (ad (af b) 0) (.one .slice) λx=>(0<=i/\i<=(↑x.2.1:Int)/\(↑x.2.1:Int)<=(↑x.2.2:Int)/\(↑x.2.2:Int)<=(↑x.2.2:Int))/\ ∀w1,Ext a w1->cpR w1 1 (some ⟨d,0,none⟩,k.toNat) (CD (λ(h:(↑x.2.2:Int).toNat=i.toNat->False)=>ad x.1 (i.toNat*1)) (λ(h:(↑x.2.2:Int).toNat=i.toNat)=>x.1) (instDecidableEqNat (↑x.2.2:Int).toNat i.toNat),(↑x.2.1:Int).toNat - i.toNat) λ(r:Int) a=>au a λw1=>Post (some ⟨d,0,none⟩,k.toNat,k.toNat) w1)):=by
 kernel_rfl
end Go.Proofs.YtlcenllcmeebhaaGreat
namespace Go.Proofs.YtlcenllcmeebhaaGreat.D
set_option maxRecDepth 100000
open Go.RX
noncomputable def E3:dJ A2:={E0 with quiet:=[62,30,25]}
section
variable {D G:List Nat} {w0 w:A1} {L:List (Nat×List AL)}
theorem VV (H:aM D G w0 w L) (i j:Nat) {bp bf n c:Nat} {ds:List DT} {rest:List AL} (b:L[i]? =some (bp,[.slice (af bf) n c])) (a:L[j]? =some (bf,flat eD ds++rest)) (e:i≠j) (g:n=ds.length) (l:0<n) (h:n<=4096) (f y o:Int) {K:Int->A1->Prop}
 (k: ∀d,aM D G w0 d (L.set j (bf,flat eD (dL ds f (aO y o))++rest))->K (vT ds f (aO y o)) d):az A2 138 (.el (.one (.int .i64))) [ag (af bp),aa f,aa y,aa o] w K:=by
 subst g;exact az.DW H j a (λw1 H=>CZ (H.get b) (H.get a) (H.ne b a e) h f y o) k
theorem VW (H:aM D G w0 w L) (i j:Nat) {bp bf n c:Nat} {ds:List DT} {rest:List AL} (b:L[i]? =some (bp,[.slice (af bf) n c])) (a:L[j]? =some (bf,flat eD ds++rest)) (e:i≠j) (g:n=ds.length) (l:0<n) (h:n<=4096) (f x:Int) (hi: -9223372036854775808<=x/\x<9223372036854775808) {K:Int->A1->Prop}
 (k: ∀d,aM D G w0 d (L.set j (bf,flat eD (dL ds f (ia x))++rest))->K (vT ds f (ia x)) d):az A2 183 (.el (.one (.int .i64))) [ag (af bp),aa f,aa x] w K:=by
 subst g;exact az.DW H j a (λw1 H=>VI (H.get b) (H.get a) (H.ne b a e) h f x hi) k
theorem VX (H:aM D G w0 w L) (i j:Nat) {bp bf n c:Nat} {ds:List DT} {rest:List AL} (b:L[i]? =some (bp,[.slice (af bf) n c])) (a:L[j]? =some (bf,flat eD ds++rest)) (e:i≠j) (g:n=ds.length) (l:0<n) (h:n<=4096) (f:Int) {K:Int->A1->Prop}
 (k: ∀d,aM D G w0 d (L.set j (bf,flat eD (dL ds f (aO 0 0))++rest))->K (vT ds f (aO 0 0)) d):az A2 79 (.el (.one (.int .i64))) [ag (af bp),aa f] w K:=by
 subst g;exact az.DW H j a (λw1 H=>VJ (H.get b) (H.get a) (H.ne b a e) h f) k
theorem VY (H:aM D G w0 w L) (i j:Nat) {bp bf n c:Nat} {ds:List DT} {rest:List AL} (b:L[i]? =some (bp,[.slice (af bf) n c])) (a:L[j]? =some (bf,flat eD ds++rest)) (e:i≠j) (f:n=ds.length) (h:0<n) (g:n<=4096) (y o:Int) {K:Int×Int×Unit->A1->Prop}
 (k: ∀d,aM D G w0 d (L.set j (bf,flat eD (dF ds y o)++rest))->K (fl ds y o,dS ds y o,()) d):az A2 172 (.bu [.one (.int .i64),.one (.int .i64)]) [ag (af bp),aa y,aa o] w K:=by
 subst f;exact az.DW H j a (λw1 H=>VM (H.get b) (H.get a) (H.ne b a e) rfl g y o) k
theorem abE (H:aM D G w0 w L) (i:Nat) {bp n c:Nat} {a:Option AC} (b:L[i]? =some (bp,[.slice a n c])):ae A2 62 [ag (af bp)] w (aa (n:Int)):=
 ae.of (s:= .el (.one (.int .i64))) λw' h=>sj ((H.get b).ext h)
theorem VZ (H:aM D G w0 w L) (i j:Nat) {bp bf n c:Nat} {ds:List DT} {rest:List AL} (a:L[i]? =some (bp,[.slice (af bf) n c])) (b:L[j]? =some (bf,flat eD ds++rest)) (d:n=ds.length) (e:n<=4096) (v:Int):
 ae A2 30 [ag (af bp),aa v] w (aa (cd ds v:Nat)):=
 ae.of (s:= .el (.one (.int .i64))) λw' h=>EL ((H.get a).ext h) ((H.get b).ext h) d e v
theorem acD (H:aM D G w0 w L) (i j:Nat) {bp bf n c:Nat} {ds:List DT} {rest:List AL} (a:L[i]? =some (bp,[.slice (af bf) n c])) (b:L[j]? =some (bf,flat eD ds++rest)) (d:n=ds.length) (f:Int):
 ae A2 25 [ag (af bp),aa f] w ((Sh.bu [eD,.one .bool]).gO (oV ds f,xR ds f,())):=by
 subst d;exact ae.of (s:= .bu [eD,.one .bool]) λw' h=>G4 ((H.get a).ext h) ((H.get b).ext h) f
theorem R9 (H:aM D G w0 w L) (i j:Nat) {bp bf n c:Nat} {ds:List DT} {rest:List AL} (b:L[i]? =some (bp,[.slice (af bf) n c])) (d:L[j]? =some (bf,flat eD ds++rest)) (e:n=ds.length) (f:n<=4096) (v:Int) {K:Option AC×Nat×Nat->A1->Prop}
 (k: ∀r rows a,aM D G w0 a (L++rows)->oq eI rows r ((gf ds v).map λi=>((i:Nat):Int))->K r a):az A2 166 (.el (.one .slice)) [ag (af bp),aa v] w K:=
 az.Y' H (λw1 H=>RY (H.get b) (H.get d) e f v) k
end
end Go.Proofs.YtlcenllcmeebhaaGreat.D
namespace Go.Proofs.YtlcenllcmeebhaaGreat
set_option maxRecDepth 100000
open Go.RX D
abbrev ET:Type:=Bool×Int×Bool×Int×Unit
abbrev PT:Type:=Int×Int×Int×Unit
abbrev sEn:List Sc:=[.bool,.int .i64,.bool,.int .i64]
abbrev T_:List Sc:=[.int .i64,.int .i64,.int .i64]
def zE:ET:=(false,0,false,0,())
def fa (v:Int):ET:=(IF (B v).toNat,F2 (B v).toNat,Kp (B v).toNat,FM (B v).toNat,())
def du (e:ET):Bool:=fV e.1 e.2.1 e.2.2.1 e.2.2.2.1
def NY (e:ET):Int:=F1 e.1 e.2.1 e.2.2.1 e.2.2.2.1
def cm (f:Int):ET:=(true,0,false,f,())
def aJ (ws:List Int) (i:Int):ET:=fa (dK ws i)
def da (ws:List Int) (pg:Int):Nat->Int->List PT
 |0,f=>[(f,0,dV f pg 0,())]
 |l+1,f=>(f,((l+1:Nat):Int),dV f pg ((l+1:Nat):Int),())::if du (aJ ws (dV f pg ((l+1:Nat):Int)))=true then da ws pg l (aJ ws (dV f pg ((l+1:Nat):Int))).2.2.2.1 else[]
theorem yc (ws:List Int) (pg:Int) (l:Nat) (f:Int):da ws pg l f≠[]:=by cases l<;>simp[da]
theorem tX (ws:List Int) (pg:Int): ∀(l:Nat) (f:Int),(da ws pg l f).length<=l+1
 |0,f=>by simp[da]
 |l+1,f=>by
  rw[da];split
  ·have:=tX ws pg l (aJ ws (dV f pg ((l+1:Nat):Int))).2.2.2.1;simp only[B3];omega
  ·simp
def dD (ws:List Int) (r pg:Int):PT:=(da ws pg 3 r).getLastD (0,0,0,())
def db (ws:List Int) (r pg:Int):ET:=aJ ws (dD ws r pg).2.2.1
def fb (ws:List Int) (f:Int) (g:Int->Int):Nat->List Int
 |0=>ws
 |i+1=>cZ (fb ws f g i) (16*f+(i:Int)) (g i)
theorem gN (ws:List Int) (f:Int) (g:Int->Int): ∀n,(fb ws f g n).length=ws.length
 |0=>rfl
 |n+1=>by rw[fb,cG,gN ws f g n]
abbrev WD:Type:=List Int×List DT
def eA (s:WD) (o:Int):Int:=fl s.2 3 o
def rL (s:WD) (o:Int):Int:=dS s.2 3 o
def iQ (s:WD) (o:Int) (g:Int->Int):WD:=(if rL s o=0 then fb s.1 (eA s o) g 16 else s.1,dF s.2 3 o)
def dP (s:WD) (i:Int) (e:ET):WD:=(cZ s.1 i (NY e),s.2)
def ri (o pg:Int):Nat->WD×PT->WD×PT
 |0,x=>x
 |n+1,x=>ri o pg n (dP (iQ x.1 o λ_=>0) x.2.2.2.1 (cm (eA x.1 o)),(eA x.1 o,x.2.2.1 - 1,dV (eA x.1 o) pg (x.2.2.1 - 1),()))
def mj (s:WD) (r pg lv:Int):Int:=
 if((db s.1 r pg).1||decide ((dD s.1 r pg).2.1<lv))=true then 5
 else if(cd s.2 0:Int)<(dD s.1 r pg).2.1 - lv then 12 else 0
def rU (s:WD) (o r pg lv:Int) (e:ET):WD:=
 if mj s r pg lv=0 then dP (ri o pg ((dD s.1 r pg).2.1 - lv).toNat (s,dD s.1 r pg)).1 (ri o pg ((dD s.1 r pg).2.1 - lv).toNat (s,dD s.1 r pg)).2.2.2.1 e else s
def mm (pg f rt:Int):Int:=if pg<0\/pg>=65536\/f<0\/f>=4096 then 2 else if rt<1\/rt>7 then 7 else 0
def lU (s:WD) (r:Int) (gone:Bool) (pg f rt:Int):Int:=if gone=true then 6 else if mm pg f rt=0 then mj s r pg 0 else mm pg f rt
def jC (s:WD) (o r:Int) (gone:Bool) (pg f rt:Int):WD:=if gone=true then s else if mm pg f rt=0 then rU s o r pg 0 (true,rt,false,f,()) else s
def qR (pg:Int) (x:PT) (e:ET):Int:=if x.2.1=1 then e.2.2.2.1+pg % 16 else e.2.2.2.1
def bz (s:WD) (r:Int) (gone:Bool) (pg:Int):Int×Int×Int×Unit:=
 if gone=true then(0,0,6,()) else if pg<0\/pg>=65536 then(0,0,2,())
 else if(db s.1 r pg).1=true then(qR pg (dD s.1 r pg) (db s.1 r pg),(db s.1 r pg).2.1,0,()) else(0,0,4,())
def oO (e:ET) (i:Int):Int:=NY (true,e.2.1,false,e.2.2.2.1+i,())
def mn (s:WD) (o r pg:Int):Int:=if(dD s.1 r pg).2.1=0 then 0 else rL s o
def ft (s:WD) (o r pg:Int):WD:=
 if(dD s.1 r pg).2.1=0 then s
 else if rL s o=0 then dP (iQ s o (oO (db s.1 r pg))) (dD s.1 r pg).2.2.1 (cm (eA s o)) else iQ s o (oO (db s.1 r pg))
def jD (ws:List Int) (i n:Int):List Int:=if n<1\/i<0\/i>ws.length\/n>ws.length - i then[] else(ws.drop i.toNat).take n.toNat
def xH (ws:List Int) (f:Int):Bool:=(jD ws (16*f) 16).all λv=>v==0
def jx:List PT->WD->WD
 |x::y::l,s=>if xH s.1 x.1=true then jx (y::l) (cZ s.1 y.2.2.1 0,dL s.2 x.1 (aO 5 0)) else s
 | _,s=>s
def Cz (s:WD) (o r:Int) (gone:Bool) (pg:Int):Int:=if(bz s r gone pg).2.2.1=0 then mn s o r pg else(bz s r gone pg).2.2.1
def Gs (s:WD) (o r:Int) (gone:Bool) (pg:Int):Int:=if Cz s o r gone pg=0 then(bz s r gone pg).1 else 0
def nv (s:WD) (o r:Int) (gone:Bool) (pg:Int):WD:=
 if(bz s r gone pg).2.2.1=0 then
  if mn s o r pg=0 then jx (da (ft s o r pg).1 pg 3 r).reverse (cZ (ft s o r pg).1 (dD (ft s o r pg).1 r pg).2.2.1 0,(ft s o r pg).2)
  else ft s o r pg
 else s
def Gt (s:WD) (o r:Int) (gone:Bool) (pg rt:Int):Int:=
 if gone=true then 6 else if mm pg 0 rt=0 then(if(db s.1 r pg).1=true then(if((db s.1 r pg).2.2.1&&(db s.1 r pg).2.1==rt)=true then 0 else mn s o r pg) else 4) else mm pg 0 rt
def rV (s:WD) (o r:Int) (gone:Bool) (pg rt:Int):WD:=
 if gone=true then s else if mm pg 0 rt=0 then(if(db s.1 r pg).1=true then(if((db s.1 r pg).2.2.1&&(db s.1 r pg).2.1==rt)=true then s
  else if mn s o r pg=0 then dP (ft s o r pg) (dD (ft s o r pg).1 r pg).2.2.1 (true,rt,false,qR pg (dD s.1 r pg) (db s.1 r pg),()) else ft s o r pg) else s) else s
def cU (ws:List Int):Nat->Int->List Int
 |0,f=>[f]
 |l+1,f=>f::(Am 16).flatMap λ(i:Nat)=>if du (aJ ws (16*f+(i:Int)))=true then cU ws l (aJ ws (16*f+(i:Int))).2.2.2.1 else[]
def jE (x:Int):List Int->List Int
 |[]=>[x]
 |y::l=>if y>x then y::jE x l else x::y::l
def mN (l:List Int):List Int:=(l.foldl (λa x=>jE x a) []).reverse
def mO (s:WD) (r:Int) (gone:Bool):List Int:=if gone=true then[] else mN (cU s.1 3 r)
def cH (s:WD) (r:Int) (gone:Bool):WD:=if gone=true then s else(s.1,(mO s r gone).foldl (λds f=>dL ds f (aO 5 0)) s.2)
structure Sys where
 bm:Nat
 bw:Nat
 bf:Nat
 bp:Nat
 c:Nat
 cp:Nat
 rw:List AL
 rf:List AL
def Sys.L (Q:Sys) (ca la:Int) (s:WD) (L0:List (Nat×List AL)):List (Nat×List AL):=
 (Q.bm,lZ Q.bw s.1.length Q.c ca la)::(Q.bw,flat eW s.1++Q.rw)::(Q.bf,flat eD s.2++Q.rf)::(Q.bp,[.slice (af Q.bf) s.2.length Q.cp])::L0
structure bj (Q:Sys) (D G:List Nat) (w0 w:A1) (s:WD) (L0:List (Nat×List AL)):Prop where
 pos:0<s.1.length
 Gu:0<s.2.length
 le:s.2.length<=4096
 okw:okW s.1
 kn: ∃ca la,aM D G w0 w (Q.L ca la s L0)
abbrev oY (Q:Sys) (o r:Int) (gone:Bool):List AL:=[ag (af Q.bm),ag (af Q.bp),aa o,aa r,.bool gone]
theorem aac {ws:List Int} (h:okW ws) (i v:Int) (hv:0<=v/\v<18446744073709551616):okW (cZ ws i v):=by
 intro x a;unfold cZ at a;split at a
 ·rcases Do a with a|rfl
  ·exact h x a
  ·exact hv
 ·exact h x a
theorem PJ (p:Bool) (r:Int) (l:Bool) (f:Int):0<=F1 p r l f/\F1 p r l f<18446744073709551616:=by
 unfold F1;split
 ·rename_i h;unfold wc;cases p with
  |false=>
   unfold bT at h;simp at h;obtain⟨⟨h1,a⟩,b⟩:=h;subst h1;subst a;subst b;decide
  |true=>
   unfold bT at h;simp at h;have d:(nB l:Int)<=1:=by cases l<;>decide
   have e:0<=(nB l:Int):=by omega
   have c:(nB true:Int)=1:=rfl;rw[c];omega
 ·exact⟨by decide,by decide⟩
theorem JA (n:Nat):0<=FM n/\FM n<4096:=by
 unfold FM;split<;>omega
section
variable {Q:Sys} {D G:List Nat} {w0 w w1:A1} {s:WD} {L0 L1:List (Nat×List AL)}
namespace bj
theorem ext (S:bj Q D G w0 w s L0) (h:Ext w w1):bj Q D G w0 w1 s L0:=by
 obtain⟨h1,a,b,c,ca,la,H⟩:=S;exact⟨h1,a,b,c,ca,la,H.ext h⟩
theorem al (S:bj Q D G w0 w s L0) {cs:List AL} {e:TypeId} {K:Nat->A1->Prop} (k: ∀b w1,bj Q D G w0 w1 s ((b,cs)::L0)->K b w1):aN w ⟨cs⟩ e K:=by
 obtain⟨h1,a,c,d,ca,la,H⟩:=S;exact aN.go H λb w1 H=>k b w1 ⟨h1,a,c,d,ca,la,H.perm (DD (l₁:=[_, _, _, _]))⟩
theorem en (S:bj Q D G w0 w s L0) {K:A1->Prop} (k: ∀w1,bj Q D G w0 w1 s L0->K w1):au w K:=λ_ h=>k _ (S.ext h)
theorem get (S:bj Q D G w0 w s L0) {i b:Nat} {l:List AL} (h:L0[i]? =some (b,l)):bK w b l:=by
 obtain⟨h1,a,c,d,ca,la,H⟩:=S;exact H.get (i:=i+4) h
theorem ld (i:Nat) (S:bj Q D G w0 w s L0) {g:Option Bool} {el:El} {K:el.T->Prop} {b o:Nat} {l:List AL} {x:el.T} (a:L0[i]? =some (b,l)) (hv:k9 l o el=some x) (k:K x):aj w g (some ⟨b,o,none⟩) el K:=
 .of x (dW (S.get a) hv) k
theorem cx (i:Nat) (S:bj Q D G w0 w s L0) {g:Option Bool} {el:El} {K:el.T->Prop} {b o n:Nat} {l:List AL} {x:el.T} (a:L0[i]? =some (b,l)) (hv:k9 l (o+n) el=some x) (k:K x):aj w g (ad (some ⟨b,o,none⟩) n) el K:=by
 rw[aW];exact .of x (dW (S.get a) hv) k
theorem fm (i:Nat) (S:bj Q D G w0 w s L0) {b:Nat} {l vs:List AL} {K:A1->Prop} (a:L0[i]? =some (b,l)) (c:vs.all (·.oneCell')=true) (d:vs.length=l.length)
 (k: ∀w1,bj Q D G w0 w1 s (L0.set i (b,vs))->K w1):aC w (af b) vs K:=by
 obtain⟨h1,e,f,g,ca,la,H⟩:=S;exact aC.all (i+4) H a c d λw1 H=>k w1 ⟨h1,e,f,g,ca,la,H⟩
theorem abF (i:Nat) (S:bj Q D G w0 w s L0) {b o:Nat} {l:List AL} {x:AL} {K:A1->Prop} (a:L0[i]? =some (b,l)) (c:x.oneCell'=true) (d:Nat.blt o l.length=true)
 (k: ∀w1,bj Q D G w0 w1 s (L0.set i (b,l.set o x))->K w1):aC w (some ⟨b,o,none⟩) [x] K:=by
 obtain⟨h1,e,f,g,ca,la,H⟩:=S;exact aC.one (i+4) H a c d λw1 H=>k w1 ⟨h1,e,f,g,ca,la,H⟩
theorem CP (i:Nat) (S:bj Q D G w0 w s L0) {b o n:Nat} {l:List AL} {x:AL} {K:A1->Prop} (a:L0[i]? =some (b,l)) (c:x.oneCell'=true) (d:Nat.blt (o+n) l.length=true)
 (k: ∀w1,bj Q D G w0 w1 s (L0.set i (b,l.set (o+n) x))->K w1):aC w (ad (some ⟨b,o,none⟩) n) [x] K:=by
 rw[aW];exact S.abF i a c d k
theorem go (S:bj Q D G w0 w s L0) {P:Program} {f:FuncId} {sh:Sh} {args:List AL} {K:sh.T->A1->Prop} (k: ∀w1,bj Q D G w0 w1 s L0->aE P f sh args w1 K):az P f sh args w K:=λ_ h=>k _ (S.ext h)
theorem sub (S:bj Q D G w0 w s L0) (h:L1.Sublist L0):bj Q D G w0 w s L1:=by
 obtain⟨h1,a,b,c,ca,la,H⟩:=S;exact⟨h1,a,b,c,ca,la,H.sub (((((h.cons_cons _).cons_cons _).cons_cons _).cons_cons _))⟩
theorem tail {x:Nat×List AL} (S:bj Q D G w0 w s (x::L0)):bj Q D G w0 w s L0:=S.sub (Cf _ _)
theorem perm (S:bj Q D G w0 w s L0) (h:L1.Perm L0):bj Q D G w0 w s L1:=by
 obtain⟨h1,a,b,c,ca,la,H⟩:=S;exact⟨h1,a,b,c,ca,la,H.perm ((((h.cons _).cons _).cons _).cons _)⟩
theorem load (S:bj Q D G w0 w s L0) (i:Int) {K:Int×Int×Unit->A1->Prop} (k: ∀a,bj Q D G w0 a s L0->K (dK s.1 i,Cm s.1 i,()) a):
 az A2 37 (.bu [.one (.int .u64),.one (.int .i64)]) [ag (af Q.bm),aa i] w K:=by
 obtain⟨h1,b,c,d,ca,la,H⟩:=S;exact EC H 0 1 rfl rfl (by decide) rfl h1 i λa H=>k a ⟨h1,b,c,d, _, _,H⟩
theorem store (S:bj Q D G w0 w s L0) (i v:Int) (hv:0<=v/\v<18446744073709551616) {K:Int->A1->Prop} (k: ∀a,bj Q D G w0 a (cZ s.1 i v,s.2) L0->K (Cm s.1 i) a):
 az A2 38 (.el (.one (.int .i64))) [ag (af Q.bm),aa i,ay v] w K:=by
 obtain⟨h1,b,d,e,ca,la,H⟩:=S;refine LC H 0 1 rfl rfl (by decide) rfl h1 i v λa H=>k a ⟨?_,b,d,aac e i v hv,xx s.1 i ca,xx s.1 i la,?_⟩
 ·show 0<(cZ s.1 i v).length;rw[cG];exact h1
 ·unfold Sys.L;show aM D G w0 a ((Q.bm,lZ Q.bw (cZ s.1 i v).length Q.c _ _):: _);rw[cG];exact H
theorem take (S:bj Q D G w0 w s L0) (y o:Int) {K:Int×Int×Unit->A1->Prop} (k: ∀a,bj Q D G w0 a (s.1,dF s.2 y o) L0->K (fl s.2 y o,dS s.2 y o,()) a):
 az A2 172 (.bu [.one (.int .i64),.one (.int .i64)]) [ag (af Q.bp),aa y,aa o] w K:=by
 obtain⟨h1,b,c,d,ca,la,H⟩:=S;refine VY H 3 2 rfl rfl (by decide) rfl b c y o λa H=>k a ⟨h1,?_,?_,d,ca,la,?_⟩
 ·show 0<(dF s.2 y o).length;rw[vB];exact b
 ·show(dF s.2 y o).length<=4096;rw[vB];exact c
 ·unfold Sys.L;show aM D G w0 a (_:: _:: _::(Q.bp,[.slice _ (dF s.2 y o).length _]):: _);rw[vB];exact H
theorem Uw (S:bj Q D G w0 w s L0) (f y o:Int) {K:Int->A1->Prop} (k: ∀a,bj Q D G w0 a (s.1,dL s.2 f (aO y o)) L0->K (vT s.2 f (aO y o)) a):
 az A2 138 (.el (.one (.int .i64))) [ag (af Q.bp),aa f,aa y,aa o] w K:=by
 obtain⟨h1,b,c,d,ca,la,H⟩:=S;refine VV H 3 2 rfl rfl (by decide) rfl b c f y o λa H=>k a ⟨h1,?_,?_,d,ca,la,?_⟩
 ·show 0<(dL s.2 f (aO y o)).length;rw[ji];exact b
 ·show(dL s.2 f (aO y o)).length<=4096;rw[ji];exact c
 ·unfold Sys.L;show aM D G w0 a (_:: _:: _::(Q.bp,[.slice _ (dL s.2 f (aO y o)).length _]):: _);rw[ji];exact H
theorem cnt (S:bj Q D G w0 w s L0) (v:Int):ae A2 30 [ag (af Q.bp),aa v] w (aa (cd s.2 v:Nat)):=by
 obtain⟨h1,b,a,c,ca,la,H⟩:=S;exact VZ H 3 2 rfl rfl rfl a v
theorem aaS (S:bj Q D G w0 w s L0):ae A2 117 [ag (af Q.bm)] w (aa (s.1.length:Nat)):=by
 obtain⟨h1,a,b,c,ca,la,H⟩:=S;exact ae.of (s:= .el (.one (.int .i64))) λw' h'=>Jt ((H.get (i:=0) rfl).ext h')
theorem Zd (S:bj Q D G w0 w s L0):ae A2 62 [ag (af Q.bp)] w (aa (s.2.length:Nat)):=by
 obtain⟨h1,a,b,c,ca,la,H⟩:=S;exact abE H 3 rfl
end bj
end
set_option maxRecDepth 100000
open Go.RX D
def stE (gone:Bool):Int:=if gone=true then 6 else 0
def abG (r:Int) (gone:Bool):Int:=if gone=true then -1 else r
theorem JB (pg f rt:Int) (w:A1):ae A2 215 [aa pg,aa f,aa rt] w (aa (mm pg f rt)):=by
 refine ae.of (s:= .el (.one (.int .i64))) λw' _=>ai (C:=N0) (aR:=λ_=>[]) (AM (L6 _ _ _ w' _) ?_);unfold mm;refine ab (λc=>λw1 h1=>⟨?_,h1⟩) (λc=>ab (λd=>λw1 h1=>⟨?_,h1⟩) (λd=>λw1 h1=>⟨?_,h1⟩))
 ·simp at c;rw[av (by omega)]
 ·simp at c d;rw[ao (by omega),av (by omega)]
 ·simp at c d;rw[ao (by omega),ao (by omega)]
theorem JC (f:Int) (w:A1):ae A2 241 [aa f] w (.agg ⟨[.bool true,aa 0,.bool false,aa f]⟩):=by
 refine ae.of (s:= .el (.agg sEn)) (v:=cm f) λw' _=>aQ (C:=N0) (aR:=λ_=>[]) (AM (L7 f w' _) ?_);have H:=At.start [] w';exact aN.go H λb a H=>aC.all 0 H rfl rfl rfl λc H=>au.go H λd H=>aj.at 0 H rfl rfl ⟨rfl,H.all⟩
theorem JD {pg:Int} (a:0<=pg) (x:PT) (e:ET) (g:0<=e.2.2.2.1/\e.2.2.2.1<4096) (w:A1):ae A2 194 [aa pg,.agg ⟨[aa x.1,aa x.2.1,aa x.2.2.1]⟩,.agg ⟨[.bool e.1,aa e.2.1,.bool e.2.2.1,aa e.2.2.2.1]⟩] w (aa (qR pg x e)):=by
 refine ae.of (s:= .el (.one (.int .i64))) λw' _=>ai (C:=N0) (aR:=λ_=>[]) (AM (L8 pg x.1 x.2.1 x.2.2.1 e.1 e.2.1 e.2.2.1 e.2.2.2.1 w' _) ?_);have H:=At.start [] w';unfold qR;refine aN.go H λb h H=>aN.go H λi j H=>⟨rfl,aj.cw 1 H rfl rfl (ab (λc=>⟨rfl,aj.cw 0 H rfl rfl ⟨trivial,by decide,au.go H λd H=>⟨?_,H.all⟩⟩⟩) (λc=>⟨rfl,aj.cw 0 H rfl rfl (au.go H λd H=>⟨?_,H.all⟩)⟩))⟩
 ·have c:x.2.1=1:=by simpa using c
  rw[av c];have f:dX pg (gP 1)=pg % 16:=by
   have:gP 1=16:=rfl;rw[this];exact Int.tmod_eq_emod_of_nonneg a
  rw[f,aw (by omega) (by omega)]
 ·have c: ¬ x.2.1=1:=by simpa using c
  rw[ao c]
section
variable {Q:Sys} {D G:List Nat} {w0 w:A1} {s:WD} {L0:List (Nat×List AL)} {bt:Nat} {o r:Int} {gone:Bool}
namespace bj
theorem state (S:bj Q D G w0 w s L0) (i:Nat) (a:L0[i]? =some (bt,oY Q o r gone)):ae A2 88 [ag (af bt)] w (aa (stE gone)):=by
 have hb:=S.get a;refine ae.of (s:= .el (.one (.int .i64))) λw' h'=>ai (C:=N0) (aR:=λ_=>[]) (AM (L5 _ w' _) ?_);have hb:=hb.ext h';refine⟨λ_=>rfl,λ_=>rfl,aj.of (af Q.bm) (by rw[aW];exact hb.oK rfl) (an rfl ⟨rfl,rfl,aj.of gone (by rw[aW];exact hb.oK rfl) ?_⟩)⟩;cases gone with
 |true=>exact aA rfl λw1 h1=>⟨rfl,h1⟩
 |false=>exact an rfl λw1 h1=>⟨rfl,h1⟩
theorem root (S:bj Q D G w0 w s L0) (i:Nat) (a:L0[i]? =some (bt,oY Q o r gone)):ae A2 56 [ag (af bt)] w (aa (abG r gone)):=by
 refine ae.of (s:= .el (.one (.int .i64))) λw' h'=>ai (C:=N0) (aR:=λ_=>[]) (AM (RZ _ w' _) ?_);have S:=S.ext h';refine⟨_,S.state i a,?_⟩;cases gone with
 |true=>exact aA rfl λw1 h1=>⟨rfl,h1⟩
 |false=>exact an rfl ⟨rfl,rfl,S.cx i a rfl λw1 h1=>⟨rfl,h1⟩⟩
theorem at_ (S:bj Q D G w0 w s L0) (k:Nat) (d:L0[k]? =some (bt,oY Q o r gone)) (i:Int) {K:ET->A1->Prop} (c: ∀a,bj Q D G w0 a s L0->K (aJ s.1 i) a):
 az A2 235 (.el (.agg sEn)) [ag (af bt),aa i] w K:=by
 refine S.go λw1 S=>aQ (C:=N0) (aR:=λ_=>[]) (AM (PI _ i w1 K) ?_);refine S.al λb a S=>⟨rfl,rfl,S.cx (k+1) d rfl (S.load i λf S=>⟨?_,S.al λg j S=>S.fm 0 rfl rfl rfl λl S=>S.ld 0 rfl rfl (S.fm 1 rfl rfl rfl λm S=>S.en λe S=>S.ld 1 rfl rfl (c e S.tail.tail))⟩)⟩;have h:=GX S.okw i;exact Cu h.1 h.2
theorem lay (S:bj Q D G w0 w s L0) (k:Nat) (d:L0[k]? =some (bt,oY Q o r gone)) (i:Int) (e:ET) {K:Unit->A1->Prop} (c: ∀a,bj Q D G w0 a (dP s i e) L0->K () a):
 az A2 222 (.bu []) [ag (af bt),aa i,.agg ⟨[.bool e.1,aa e.2.1,.bool e.2.2.1,aa e.2.2.2.1]⟩] w K:=by
 refine S.go λw1 S=>ai (C:=N0) (aR:=λ_=>[]) (AM (VN _ i e.1 e.2.1 e.2.2.1 e.2.2.2.1 w1 K) ?_);exact S.al λb a S=>S.ld 0 rfl rfl ⟨trivial,rfl,rfl,S.cx (k+1) d rfl (S.store i _ (PJ _ _ _ _) λg S=>S.en λf S=>c f S.tail)⟩
end bj
theorem G6 {ds:List DT} {y o:Int} (h: ¬ dS ds y o=0):fl ds y o=0:=by
 unfold dS at h;unfold fl;cases a:iI ds with
 |none=>rfl
 |some n=>
  have b: ¬ ds.length=0:=λe=>by
   have:ds=[]:=FY.1 e;subst this;cases a
  rw[ao b,a] at h;exact ao h
theorem vC (ds:List DT) (y o:Int) (h0:0<ds.length):0<=fl ds y o/\fl ds y o<ds.length:=by
 unfold fl;cases a:iI ds with
 |none=>exact⟨DR 0,by show(0:Int)< _;omega⟩
 |some n=>
  unfold iI at a;rw[G1] at a;have h1:=a.1;dsimp only;split<;>omega
end
set_option maxRecDepth 100000
open Go.RX D
section
variable {Q:Sys} {D G:List Nat} {w0 w:A1} {s:WD} {L0:List (Nat×List AL)} {bt:Nat} {o r:Int} {gone:Bool}
namespace bj
theorem abH (S:bj Q D G w0 w s L0) (i:Nat) (b:L0[i]? =some (bt,oY Q o r gone)) {K:Int×Int×Unit->A1->Prop} (k: ∀d,bj Q D G w0 d (iQ s o (λ_=>0)) L0->K (eA s o,rL s o,()) d):
 az A2 205 (.bu [.one (.int .i64),.one (.int .i64)]) [ag (af bt),.func (.func 206) #[] #[]] w K:=by
 refine S.go λw1 S=>ai (C:=N0) (aR:=rz) (AM (L9 _ w1 K) ?_);have A:=vC s.2 3 o S.Gu;have B:=S.le;refine⟨rfl,rfl,S.cx i b rfl ⟨rfl,rfl,S.cx i b rfl (S.take 3 o λd S=>?_)⟩⟩;by_cases a:rL s o=0
 ·have f:iQ s o (λ_=>0)=(fb s.1 (eA s o) (λ_=>0) 16,dF s.2 3 o):=by unfold iQ;rw[av a]
  rw[f,a] at k;have g:dS s.2 3 o=0:=a;refine an (by simp[g]) ⟨λn v w'=> ∃m:Nat,n=16 - m/\m<=16/\v.1=(m:Int)/\bj Q D G w0 w' (fb s.1 (eA s o) (λ_=>0) m,dF s.2 3 o) L0,⟨16,λj h=>⟨0,rfl,by omega,rfl,S.ext h⟩⟩,?_⟩;rintro n ⟨v,u⟩ j ⟨m,rfl,E,e,S⟩;dsimp only at e ⊢;subst e;refine ab (λc=>⟨rfl,rfl,S.cx i b rfl ?_⟩) (λc=>S.en λl S=>k l ?_)
  ·have c:m<16:=by simp at c;omega
   refine λl p=>ai (C:=N0) (aR:=λ_=>[]) (AM (R4 _ l _) λF q=>?_);have S:=(S.ext p).ext q;have t:(0:Int)<=0/\(0:Int)<18446744073709551616:=by decide
   refine⟨trivial,trivial,by rw[aW];exact(S.get b).oK rfl,trivial,trivial,?_⟩;have x:aH .i64 (iB .i64 16 (fl s.2 3 o)) (m:Int)=16*eA s o+(m:Int):=by
    have:eA s o=fl s.2 3 o:=rfl;rw[eK (by omega) (by omega),aw (by omega) (by omega),this]
   rw[x];refine S.store _ _ t λH S=>λI y=>⟨16 - (m+1),by omega,m+1,rfl,by omega,?_,S.ext y⟩;rw[aw (by omega) (by omega)];omega
  ·have c: ¬ m<16:=by simp at c;omega
   have:m=16:=by omega
   subst this;exact S
 ·have f:iQ s o (λ_=>0)=(s.1,dF s.2 3 o):=by unfold iQ;rw[ao a]
  have z:eA s o=0:=G6 a;rw[f,z] at k;have g: ¬ dS s.2 3 o=0:=a;exact aA (by simp[g]) (S.en λj S=>k j S)
theorem abI (S:bj Q D G w0 w s L0) (i:Nat) (b:L0[i]? =some (bt,oY Q o r gone)) {K:Int×Int×Unit->A1->Prop} (k: ∀d,bj Q D G w0 d (iQ s o (λ_=>0)) L0->K (eA s o,rL s o,()) d):
 az A2 205 (.bu [.one (.int .i64),.one (.int .i64)]) [ag (af bt),.func (.func 240) #[] #[]] w K:=by
 refine S.go λw1 S=>ai (C:=N0) (aR:=rA) (AM (L_ _ w1 K) ?_);have A:=vC s.2 3 o S.Gu;have B:=S.le;refine⟨rfl,rfl,S.cx i b rfl ⟨rfl,rfl,S.cx i b rfl (S.take 3 o λd S=>?_)⟩⟩;by_cases a:rL s o=0
 ·have f:iQ s o (λ_=>0)=(fb s.1 (eA s o) (λ_=>0) 16,dF s.2 3 o):=by unfold iQ;rw[av a]
  rw[f,a] at k;have g:dS s.2 3 o=0:=a;refine an (by simp[g]) ⟨λn v w'=> ∃m:Nat,n=16 - m/\m<=16/\v.1=(m:Int)/\bj Q D G w0 w' (fb s.1 (eA s o) (λ_=>0) m,dF s.2 3 o) L0,⟨16,λj h=>⟨0,rfl,by omega,rfl,S.ext h⟩⟩,?_⟩;rintro n ⟨v,u⟩ j ⟨m,rfl,E,e,S⟩;dsimp only at e ⊢;subst e;refine ab (λc=>⟨rfl,rfl,S.cx i b rfl ?_⟩) (λc=>S.en λl S=>k l ?_)
  ·have c:m<16:=by simp at c;omega
   refine λl p=>ai (C:=N0) (aR:=λ_=>[]) (AM (R5 _ l _) λF q=>?_);have S:=(S.ext p).ext q;have t:(0:Int)<=0/\(0:Int)<18446744073709551616:=by decide
   refine⟨trivial,trivial,by rw[aW];exact(S.get b).oK rfl,trivial,trivial,?_⟩;have x:aH .i64 (iB .i64 16 (fl s.2 3 o)) (m:Int)=16*eA s o+(m:Int):=by
    have:eA s o=fl s.2 3 o:=rfl;rw[eK (by omega) (by omega),aw (by omega) (by omega),this]
   rw[x];refine S.store _ _ t λH S=>λI y=>⟨16 - (m+1),by omega,m+1,rfl,by omega,?_,S.ext y⟩;rw[aw (by omega) (by omega)];omega
  ·have c: ¬ m<16:=by simp at c;omega
   have:m=16:=by omega
   subst this;exact S
 ·have f:iQ s o (λ_=>0)=(s.1,dF s.2 3 o):=by unfold iQ;rw[ao a]
  have z:eA s o=0:=G6 a;rw[f,z] at k;have g: ¬ dS s.2 3 o=0:=a;exact aA (by simp[g]) (S.en λj S=>k j S)
theorem abJ (S:bj Q D G w0 w s L0) (i:Nat) (b:L0[i]? =some (bt,oY Q o r gone)) (j:Nat) {be:Nat} {e:ET} (hb:L0[j]? =some (be,[.bool e.1,aa e.2.1,.bool e.2.2.1,aa e.2.2.2.1])) (B:0<=e.2.2.2.1/\e.2.2.2.1<4096) {K:Int×Int×Unit->A1->Prop} (k: ∀d,bj Q D G w0 d (iQ s o (oO e)) L0->K (eA s o,rL s o,()) d):
 az A2 205 (.bu [.one (.int .i64),.one (.int .i64)]) [ag (af bt),.func (.func 242) #[] #[ag (af be)]] w K:=by
 refine S.go λw1 S=>ai (C:=N0) (aR:=rB) (AM (Ma _ _ w1 K) ?_);have E:=vC s.2 3 o S.Gu;have F:=S.le;refine⟨rfl,rfl,S.cx i b rfl ⟨rfl,rfl,S.cx i b rfl (S.take 3 o λd S=>?_)⟩⟩;by_cases a:rL s o=0
 ·have f:iQ s o (oO e)=(fb s.1 (eA s o) (oO e) 16,dF s.2 3 o):=by unfold iQ;rw[av a]
  rw[f,a] at k;have g:dS s.2 3 o=0:=a;refine an (by simp[g]) ⟨λn v w'=> ∃m:Nat,n=16 - m/\m<=16/\v.1=(m:Int)/\bj Q D G w0 w' (fb s.1 (eA s o) (oO e) m,dF s.2 3 o) L0,⟨16,λl h=>⟨0,rfl,by omega,rfl,S.ext h⟩⟩,?_⟩;rintro n ⟨v,u⟩ l ⟨m,rfl,H,ev,S⟩;dsimp only at ev ⊢;subst ev;refine ab (λc=>⟨rfl,rfl,S.cx i b rfl ?_⟩) (λc=>S.en λp S=>k p ?_)
  ·have c:m<16:=by simp at c;omega
   refine λp q=>ai (C:=N0) (aR:=λ_=>[]) (AM (HU _ _ p _) ?_);have S:=S.ext q;refine⟨rfl,S.cx j hb rfl ⟨rfl,S.cx j hb rfl ⟨trivial,S.en λI S=>?_⟩⟩⟩;have t:F1 true e.2.1 false (aH .i64 e.2.2.2.1 (m:Int))=oO e (m:Int):=by
    rw[aw (by omega) (by omega)];rfl
   rw[t];have x:0<=oO e (m:Int)/\oO e (m:Int)<18446744073709551616:=PJ _ _ _ _;refine⟨trivial,trivial,by rw[aW];exact(S.get b).oK rfl,trivial,trivial,?_⟩;have y:aH .i64 (iB .i64 16 (fl s.2 3 o)) (m:Int)=16*eA s o+(m:Int):=by
    have:eA s o=fl s.2 3 o:=rfl;rw[eK (by omega) (by omega),aw (by omega) (by omega),this]
   rw[y];refine S.store _ _ x λJ S=>λL z=>⟨16 - (m+1),by omega,m+1,rfl,by omega,?_,S.ext z⟩;rw[aw (by omega) (by omega)];omega
  ·have c: ¬ m<16:=by simp at c;omega
   have:m=16:=by omega
   subst this;exact S
 ·have f:iQ s o (oO e)=(s.1,dF s.2 3 o):=by unfold iQ;rw[ao a]
  have A:eA s o=0:=G6 a;rw[f,A] at k;have g: ¬ dS s.2 3 o=0:=a;exact aA (by simp[g]) (S.en λl S=>k l S)
end bj
end
set_option maxRecDepth 100000
open Go.RX D
section
variable {D G:List Nat} {w0 w:A1} {L:List (Nat×List AL)}
def Yp (e:El) (b:Nat) (xs:List e.T) (a:List (Nat×List AL)):Prop:=
 (xs=[]/\a=[(b,[.slice none 0 0])])\/ ∃bs c rest,a=[(b,[.slice (af bs) xs.length c]),(bs,flat e xs++rest)]/\(flat e xs++rest).length=c*aF e/\xs.length<=c
theorem Yp.head {e:El} {b:Nat} {xs:List e.T} {a:List (Nat×List AL)} (h:Yp e b xs a): ∃s:Option AC×Nat×Nat,a[0]? =some (b,[.slice s.1 s.2.1 s.2.2]):=by
 rcases h with ⟨_,rfl⟩|⟨bs,c,rest,rfl, _⟩
 ·exact⟨(none,0,0),rfl⟩
 ·exact⟨(_, _, _),rfl⟩
theorem Yp.push {e:El} {b d:Nat} {xs:List e.T} {x:e.T} {f Z:List (Nat×List AL)} {s:Option AC×Nat×Nat} (u:Yp e b xs f) (i:f[0]? =some (b,[.slice s.1 s.2.1 s.2.2])) (H:aM D G w0 w ((d,cellsOf e x)::(f++Z)))
 (j:gY e=true) {t:TypeId} {size bytes:Nat} {z:Array AL} (l:size=aF e) (m:z.size=aF e) (hb:(xs.length+1)*bytes<=140737488355328) {K:A1->Prop}
 (k: ∀o w',Yp e b (xs++[x]) o->aM D G w0 w' (o++Z)->K w'):
 mF w t size bytes z (s.1,s.2.1,s.2.2) (some ⟨d,0,none⟩,1,1) λr a=>aC a (af b) [.slice r.1 r.2.1 r.2.2] K:=by
 obtain⟨p,n,c⟩:=s;rcases u with ⟨rfl,rfl⟩|⟨bs,A,rest,rfl,h1,v⟩
 ·cases i;refine aM.grow (Ls:=[]) (L0:=(b,[.slice none 0 0])::Z) (xs:=[]) H (.inl ⟨rfl,rfl,rfl⟩) j l m hb λbs c rest w' g1 g H=>?_;refine aC.all 1 H rfl rfl rfl λa H=>k [(b,[.slice (af bs) 1 c]),(bs,flat e [x]++rest)] a (.inr ⟨bs,c,rest,rfl,g1,g⟩) ?_;exact H.perm (FU _ _ _)
 ·cases i;have y:aM D G w0 w ((d,cellsOf e x)::([(bs,flat e xs++rest)]++((b,[.slice (af bs) xs.length c])::Z))):=H.perm (FX _ (FU _ _ _));refine aM.grow y (.inr ⟨bs,c,rest,rfl,rfl,h1,v⟩) j l m hb λh c2 q w' g1 g H=>?_;refine aC.all 1 H rfl rfl rfl λa H=>k [(b,[.slice (af h) (xs.length+1) c2]),(h,flat e (xs++[x])++q)] a (.inr ⟨h,c2,q,?_,g1,by simpa using g⟩) ?_
  ·rw[Du];rfl
  ·exact H.perm (FU _ _ _)
theorem yq.new {l:Nat} {rec:Loop} {w':A1} {b:Nat} {cs:List AL} (h:yq D G w0 w L l rec) (H:At [] w w' [(b,cs)]):yq D G w0 w' ((b,cs)::L) l rec/\Ob l w w':=by
 have a:Ext w w':=H.all;have hb:w.heap.size<=b:=by
  rcases H.own (b,cs) E4 with h|h
  ·exact h
  ·cases h
 exact⟨⟨h.1,h.2.1.more a hb (H.dj (b,cs) E4),h.2.2.ext a⟩,Ob.vp a⟩
theorem Mi {bm bw n c:Nat} {ca la:Int} {ws:List Int} {rest:List AL} (H:aM D G w0 w L) (j:Nat) (b:L[j]? =some (bm,lZ bw n c ca la)) (f:bK w0 bw (flat eW ws++rest)) (g:bw∉G) (h:n=ws.length) (h0:0<n) (i:Int) {K:Int×Int×Unit->A1->Prop}
 (k: ∀a,aM D G w0 a (L.set j (bm,lZ bw n c (xx ws i ca) la))->K (dK ws i,Cm ws i,()) a):
 az A2 37 (.bu [.one (.int .u64),.one (.int .i64)]) [ag (af bm),aa i] w K:=by
 refine az.go H λw1 H=>ai (C:=M0) (aR:=λ_=>[]) (AM (EB _ i w1 K) ?_);refine zo H j b h h0 i (λhi a H=>?_) (λhi a H=>?_)
 ·unfold xx dK Cm at k;rw[hi,av rfl,av rfl,av rfl] at k;have l:=jg.1 hi;refine an rfl ⟨rfl,?_⟩;rw[aW];have e:=aaN (ws:=ws) (rest:=rest) (i:=i.toNat) (by omega);rw[DB] at e;exact aj.fG H f g e (au.go H λd H=>k d H)
 ·unfold xx dK Cm at k;rw[hi,ao (by decide),ao (by decide),ao (by decide)] at k;refine aA rfl (au.go H λd H=>k d ?_);rw[show L.set j (bm,lZ bw n c ca la)=L from GD λm=>by
   by_cases e:j=m
   ·subst e;rw[DF (B1.1 b).1,b]
   ·rw[B5 e]]
  exact H
structure TbR (Q:Sys) (ws:List Int) (w:A1) (bt:Nat) (o r:Int) (gone:Bool):Prop where
 tb:bK w bt (oY Q o r gone)
 wd:bK w Q.bw (flat eW ws++Q.rw)
 tne:bt≠Q.bm
 wne:Q.bw≠Q.bm
 okw:okW ws
 pos:0<ws.length
abbrev Mc (Q:Sys) (n:Nat) (l:List AL):Prop:= ∃ca la,l=lZ Q.bw n Q.c ca la
theorem PK {Q:Sys} {ws:List Int} {bt:Nat} {o r:Int} {gone:Bool} {D:List Nat} {L:List (Nat×List AL)} {ca la:Int} (R:TbR Q ws w0 bt o r gone) (H:aM D [Q.bm] w0 w L) (j:Nat) (d:L[j]? =some (Q.bm,lZ Q.bw ws.length Q.c ca la)) (i:Int) {K:ET->A1->Prop}
 (k: ∀ca a,aM D [Q.bm] w0 a (L.set j (Q.bm,lZ Q.bw ws.length Q.c ca la))->K (aJ ws i) a):
 az A2 235 (.el (.agg sEn)) [ag (af bt),aa i] w K:=by
 have t1:bt∉[Q.bm]:=by simpa using R.tne
 have t2:Q.bw∉[Q.bm]:=by simpa using R.wne
 refine az.go H λw1 H=>aQ (C:=N0) (aR:=λ_=>[]) (AM (PI _ i w1 K) ?_);refine aN.go H λb a H=>⟨rfl,rfl,aj.k_ H R.tb t1 rfl (Mi H (j+1) d R.wd t2 rfl R.pos i λf H=>⟨?_,aN.go H λg l H=>aC.all 0 H rfl rfl rfl λm H=>aj.at 0 H rfl rfl (aC.all 1 H rfl rfl rfl λn H=>au.go H λe H=>aj.at 1 H rfl rfl (k (xx ws i ca) e (H.sub ?_)))⟩)⟩
 ·have h:=GX R.okw i;exact Cu h.1 h.2
 ·exact(Cf _ _).trans (Cf _ _)
end
abbrev emP (x:PT×Unit):List AL:=[.agg ⟨[aa x.1.1,aa x.1.2.1,aa x.1.2.2.1]⟩]
abbrev Yq (x:PT):PT×Unit:=(x,())
def OJ (ws:List Int) (pg:Int):Nat->Int->List PT
 |0, _=>[]
 |l+1,f=>if du (aJ ws (dV f pg ((l+1:Nat):Int)))=true then da ws pg l (aJ ws (dV f pg ((l+1:Nat):Int))).2.2.2.1 else[]
theorem Mj (ws:List Int) (pg:Int): ∀(l:Nat) (f:Int),da ws pg l f=(f,(l:Int),dV f pg (l:Int),())::OJ ws pg l f
 |0, _=>rfl
 | _+1, _=>rfl
theorem R_ {ws:List Int} {pg:Int} {l:Nat} {f:Int} (h:du (aJ ws (dV f pg (l:Int)))=false):OJ ws pg l f=[]:=by
 cases l with
 |zero=>rfl
 |succ l=>rw[OJ,h,ao (by decide)]
theorem aad {Q:Sys} {ws:List Int} {bt b c:Nat} {o r pg:Int} {gone:Bool} {N:Nat} (E:okW ws) (F:0<ws.length):
 ItJ A2 244 (λy=>[.func (.yield y) #[] #[],ag (af b),ag (af c)]) emP N Q.bm (Mc Q ws.length)
  [(bt,oY Q o r gone),(Q.bw,flat eW ws++Q.rw),(b,[ag (af bt)]),(c,[aa pg])] ((da ws pg 3 r).map Yq):=by
 intro y J K G a X O w t i j;refine Calls.mono (ai (C:=N0) (aR:=uK) (Post:=λ_ w'=>J (a++(da ws pg 3 r).map Yq) X O w') (AM (R2 y _ _ w _) ?_)) ?_
 rotate_left
 ·rintro e w' ⟨x,rfl,h⟩;exact⟨_,rfl,h⟩
 have x1:=i (bt,oY Q o r gone) (by simp);have z:=i (Q.bw,flat eW ws++Q.rw) (by simp);have A:=i (b,[ag (af bt)]) (by simp);have I:=i (c,[aa pg]) (by simp);refine aj.of (af bt) ((K.dj j A).2.oK rfl) ⟨rfl,rfl,aj.of r (by rw[aW];exact(K.dj j x1).2.oK rfl) ⟨λn v w'=>(∃l:Nat,v.2.1=(l:Int)/\n=l+1/\l<=3/\ ∃pre,da ws pg 3 r=pre++da ws pg l v.1/\J (a++pre.map Yq) X O w')\/(v.2.1= -1/\J (a++(da ws pg 3 r).map Yq) X O w'),
  ⟨4,λw1 h1=> .inl ⟨3,rfl,rfl,B4 _,[],rfl,by simpa using K.ext j h1⟩⟩,?_⟩⟩
 rintro n ⟨f,lv,u⟩ w1 (⟨l,g,rfl,hl,pre,d,j⟩|⟨g,j⟩)
 ·dsimp only at g d ⊢;subst g;refine aA (by simp) (aj.of pg ((K.dj j I).2.oK rfl) ⟨trivial,?_⟩);obtain⟨lm,⟨ca,la,rfl⟩,H⟩:=K.at0 j;have R:TbR Q ws w1 bt o r gone:=⟨(K.dj j x1).2,(K.dj j z).2,(K.dj j x1).1,(K.dj j z).1,E,F⟩;have hb:=K.dj j A;have L:b∉[Q.bm]:=by simpa using hb.1
  refine aN.go H λM P H=>aC.all 0 H rfl rfl rfl λw3 H=>aj.fG H hb.2 L rfl ⟨rfl,aj.cw 0 H rfl rfl (PK R H 1 rfl _ λca2 w4 H=>aN.go H λB w5 H=>aC.all 0 H rfl rfl rfl λw6 H=>aj.at 1 H rfl rfl λS T=>?_)⟩;have H:=H.ext T;rw[Mj ws pg l f] at d;have U:(a++pre.map Yq).length<N:=by
   rw[d] at t;simp only[List.map_append,Du,DL,B3] at t ⊢;omega
  have V:=K.tI (Y:=[(B, _),(M, _)]) j H ⟨_, _,rfl⟩;refine G _ (Yq (f,(l:Int),dV f pg (l:Int),())) _ _ S _ U V λw8 m=>?_;have D:=(K.dj m (x:=(B, _)) (E4)).2;refine aj.of (aJ ws (dV f pg (l:Int))) (dW D rfl) ⟨λ_=>trivial,ab (λp W q=>?_) (λp=>⟨rfl,aj.of (aJ ws (dV f pg (l:Int))).2.2.2.1 (by rw[aW];exact D.oK rfl) λW q=>?_⟩)⟩
  ·have s:du (aJ ws (dV f pg (l:Int)))=false:=by simpa[du] using p
   have k:=K.sub (K.ext m q) (X':=X) (λx h=>by simp[h]) (CF _);rw[R_ s] at d;rw[d];simpa using k
  ·have s:du (aJ ws (dV f pg (l:Int)))=true:=by simpa[du] using p
   have k:=K.sub (K.ext m q) (X':=X) (λx h=>by simp[h]) (CF _);rcases l with _|l
   ·refine⟨0,by omega,.inr ⟨rfl,?_⟩⟩;rw[d];simpa[OJ] using k
   ·refine⟨l+1,by omega,.inl ⟨l,?_,rfl,by omega,pre++[(f,((l+1:Nat):Int),dV f pg ((l+1:Nat):Int),())],?_,by simpa using k⟩⟩
    ·show aZ .i64 ((l+1:Nat):Int) 1=(l:Int);rw[bE (by omega) (by omega)];omega
    ·rw[d,OJ,av s,GF];rfl
 ·dsimp only at g ⊢;subst g;exact an rfl λP Z=>K.ext j Z
section
variable {Q:Sys} {D G:List Nat} {w0 w:A1} {s:WD} {L0:List (Nat×List AL)} {bt:Nat} {o r:Int} {gone:Bool}
namespace bj
theorem way (S:bj Q D G w0 w s L0) (pg:Int) {K:Option AC×Option AC×Unit->A1->Prop} (k: ∀b c a,bj Q D G w0 a s ((c,[aa pg])::(b,[ag (af bt)])::L0)->K (some ⟨b,0,none⟩,some ⟨c,0,none⟩,()) a):
 az A2 219 aaR [ag (af bt),aa pg] w K:=by
 refine S.go λw1 S=>ai (C:=N0) (aR:=λ_=>[]) (AM (VO _ pg w1 K) ?_);exact S.al λb a S=>S.al λc e S=>S.en λd S=>k b c d S
theorem OD (S:bj Q D G w0 w s L0) (k0:Nat) (p:L0[k0]? =some (bt,oY Q o r gone)) {b c:Nat} {pg:Int} (hb:(b,[H6 (af bt)])∈L0) (hc:(c,[aa pg])∈L0)
 {K:Option AC×Nat×Nat->A1->Prop} (k: ∀bs cs rest g,bj Q D G w0 g s ((bs,flat (.agg T_) (da s.1 pg 3 r)++rest)::L0)->K (some ⟨bs,0,none⟩,(da s.1 pg 3 r).length,cs) g):
 az A2 218 (.el (.one .slice)) [.func (.func 244) #[] #[ag (af b),ag (af c)]] w K:=by
 refine S.go λw1 S=>aQ (C:=N0) (aR:=uL) (AM (R3 _ _ w1 K) ?_);obtain⟨h1,q,t,m,ca,la,H0⟩:=S;have H:=H0.again;refine aN.go H λbl g H=>?_;have u:(da s.1 pg 3 r).length<=4:=tX s.1 pg 3 r;refine An.OD (N:=4) (bm:=Q.bm) (mc:=Mc Q s.1.length) (Rg0:=[(bl,[.slice none 0 0])]) (Lb:=(Q.bw,flat eW s.1++Q.rw)::(Q.bf,flat eD s.2++Q.rf)::(Q.bp,[.slice (af Q.bf) s.2.length Q.cp])::L0) H ⟨_, _,rfl⟩
  (aad (o:=o) (r:=r) (gone:=gone) (bt:=bt) (pg:=pg) m h1) ?_ (by simpa using u) (λxs d=>Yp (.agg T_) bl (xs.map (·.1)) d) (.inl ⟨rfl,rfl⟩) ?_ ?_
 ·intro x e;simp only[Ee,List.not_mem_nil,or_false] at e;rcases e with rfl|rfl|rfl|rfl
  ·simp[CB p]
  ·simp
  ·simp[hb]
  ·simp[hc]
 ·intro b0 x d Z rr l rec v R hN a f y;refine DG.go f rfl ?_;refine aN.go (At.start [] v) λz A i=>aC.all 0 i rfl rfl rfl λB i=>?_;obtain⟨E,F⟩:=yq.new f i;obtain⟨sl,j⟩:=a.head;refine Cl.goO E λwb H I J=>aj.at 1 H (by rw[List.getElem?_cons_succ,E5 (B1.1 j).1];exact j) rfl (aj.at 0 H rfl rfl (aN.go H λL n H=>λM O=>?_));have H:=H.ext O;have P:aM [] _ wb M ((L,cellsOf (.agg T_) x.1)::(d++((z,[aa x.1.1,aa x.1.2.1,aa x.1.2.2.1])::Z))):=H.perm (FX _ DD);refine a.push j P rfl rfl rfl (by simp only[DL];omega) λT w8 U V=>sY.ll I (V.sub (List.Sublist.append (CF _) (Cf _ _))) λW X Y=>y T W (by simpa using U) X ((F.trans J).trans Y)
 ·rintro rr rec A l' d ⟨ca2,la2,rfl⟩ a f;refine dB.none f λB H=>?_;have Xd:((da s.1 pg 3 r).map Yq).map (·.1)=da s.1 pg 3 r:=by
   rw[List.map_map];exact List.map_id _
  rw[Xd] at a;rcases a with ⟨h, _⟩|⟨bs,cs,rest,rfl,g1,g2⟩
  ·exact absurd h (yc _ _ _ _)
  ·refine aj.at 0 H rfl rfl (sZ.go H λn H=>k bs cs rest n ⟨h1,q,t,m,ca2,la2,H0.join (λx e=>e) ?_⟩);refine(H.sub (Cf _ _)).perm ?_;exact DD (l₁:=[_, _, _, _])
end bj
end
set_option maxRecDepth 100000
open Go.RX D
theorem C6 (ws:List Int) (r pg:Int):(da ws pg 3 r)[(da ws pg 3 r).length - 1]? =some (dD ws r pg):=by
 have a:=yc ws pg 3 r;unfold dD;rw[List.getLastD_eq_getLast?, <-List.getLast?_eq_getElem?,List.getLast?_eq_some_getLast a];rfl
theorem pQ (ws:List Int) (a:Int):0<=(aJ ws a).2.2.2.1/\(aJ ws a).2.2.2.1<4096:=JA _
section
variable {Q:Sys} {D G:List Nat} {w0 w:A1} {s:WD} {L0:List (Nat×List AL)} {bt:Nat} {o r:Int} {gone:Bool}
namespace bj
theorem end_ (S:bj Q D G w0 w s L0) (k0:Nat) (c:L0[k0]? =some (bt,oY Q o r gone)) (pg:Int) {K:PT×ET×Unit->A1->Prop} (k: ∀a,bj Q D G w0 a s L0->K (dD s.1 r pg,db s.1 r pg,()) a):
 az A2 193 (.bu [.agg T_,.agg sEn]) [ag (af bt),aa pg] w K:=by
 refine S.go λw1 S=>aQ (C:=N0) (aR:=λ_=>[]) (AM (VP _ pg w1 K) ?_);refine S.al λb a S=>S.al λg h S=>S.way pg λj bc l S=>S.OD (pg:=pg) (k0+4) c (by simp) (by simp) λbs cs rest m S=>?_;have n:(da s.1 pg 3 r).length<=4:=tX s.1 pg 3 r;have p:0<(da s.1 pg 3 r).length:=GG.2 (yc s.1 pg 3 r);have d:aZ .i64 (((da s.1 pg 3 r).length:Nat):Int) 1=(((da s.1 pg 3 r).length - 1:Nat):Int):=by rw[bE (by omega) (by omega)];omega
 have e:=fZ (S.get (i:=0) rfl) (C6 s.1 r pg);dsimp only;rw[d];refine⟨⟨rfl,by omega,by omega⟩,aj.of (dD s.1 r pg) e ?_⟩;refine S.al λq t S=>S.fm 0 rfl rfl rfl λu S=>S.ld 0 rfl rfl ⟨rfl,S.cx 0 rfl rfl (S.at_ (k0+6) c _ λv S=>⟨dW (S.get (i:=0) rfl) rfl,S.fm 5 rfl rfl rfl λx S=>S.fm 4 rfl rfl rfl λy S=>S.en λf S=>S.ld 5 rfl rfl (S.ld 4 rfl rfl (k f S.tail.tail.tail.tail.tail.tail))⟩)⟩
theorem query (S:bj Q D G w0 w s L0) (k0:Nat) (e:L0[k0]? =some (bt,oY Q o r gone)) (pg:Int) {K:Int×Int×Int×Unit->A1->Prop} (k: ∀a,bj Q D G w0 a s L0->K (bz s r gone pg) a):
 az A2 139 (.bu [.one (.int .i64),.one (.int .i64),.one (.int .i64)]) [ag (af bt),aa pg] w K:=by
 refine S.go λw1 S=>ai (C:=N0) (aR:=λ_=>[]) (AM (Mb _ pg w1 K) ?_);refine⟨_,S.state k0 e,?_⟩;unfold bz at k;cases gone with
 |true=>
  rw[av rfl] at k;exact aA rfl (S.en λa S=>k a S)
 |false=>
  rw[ao (by decide)] at k;refine an rfl (ab (λc=>S.en λa S=>?_) (λc=>?_))
  ·simp only[Ea,decide_eq_true_eq] at c;rw[av c] at k;exact k a S
  ·simp only[FS,decide_eq_false_iff_not] at c;rw[ao (by omega)] at k;refine S.end_ k0 e pg λa S=>S.al λb f S=>S.al λg h S=>S.fm 1 rfl rfl rfl λi S=>S.fm 0 rfl rfl rfl λj S=>⟨rfl,S.cx 0 rfl rfl (ab (λc2=>S.en λd S=>?_) (λc2=>S.ld 1 rfl rfl (S.ld 0 rfl rfl ⟨_,JD (by omega) (dD s.1 r pg) (db s.1 r pg) (pQ _ _) _,rfl,S.cx 0 rfl rfl (S.en λd S=>?_)⟩)))⟩
   ·have c2:(db s.1 r pg).1=false:=by simpa using c2
    rw[c2,ao (by decide)] at k;exact k d S.tail.tail
   ·have c2:(db s.1 r pg).1=true:=by simpa using c2
    rw[c2,av rfl] at k;exact k d S.tail.tail
theorem split (S:bj Q D G w0 w s L0) (k0:Nat) (a:L0[k0]? =some (bt,oY Q o r gone)) (pg:Int) {K:Int->A1->Prop} (k: ∀d,bj Q D G w0 d (ft s o r pg) L0->K (mn s o r pg) d):
 az A2 217 (.el (.one (.int .i64))) [ag (af bt),aa pg] w K:=by
 refine S.go λw1 S=>ai (C:=N0) (aR:=λ_=>[]) (AM (Me _ pg w1 K) ?_);unfold ft mn at k;refine S.end_ k0 a pg λd S=>S.al λb j S=>S.al λh l S=>S.fm 1 rfl rfl rfl λm S=>S.fm 0 rfl rfl rfl λn S=>⟨rfl,S.cx 1 rfl rfl (ab (λc=>S.en λf S=>?_) (λc=>?_))⟩
 ·have c:(dD s.1 r pg).2.1=0:=by simpa using c
  rw[av c,av c] at k;exact k f S.tail.tail
 ·have c: ¬ (dD s.1 r pg).2.1=0:=by simpa using c
  rw[ao c,ao c] at k;refine S.abJ (k0+2) a 0 (be:=h) (e:=db s.1 r pg) rfl (pQ _ _) λf S=>ab (λc2=>⟨rfl,S.cx 1 rfl rfl ⟨cm (eA s o),JC _ _,S.lay (k0+2) a _ (cm (eA s o)) λg S=>S.en λi S=>?_⟩⟩) (λc2=>S.en λg S=>?_)
  ·have c2:rL s o=0:=by simpa using c2
   rw[av c2] at k;exact k i S.tail.tail
  ·have c2: ¬ rL s o=0:=by simpa using c2
   rw[ao c2] at k;exact k g S.tail.tail
end bj
end
set_option maxRecDepth 100000
open Go.RX D
theorem JE (ws:List Int) (pg:Int): ∀(l:Nat) (f:Int) (x:PT),x∈da ws pg l f->0<=x.2.1/\x.2.1<=(l:Int)
 |0,f,x,h=>by
  rw[da,Ek] at h;subst h;exact⟨DR _,DR _⟩
 |l+1,f,x,h=>by
  rw[da] at h;rcases Ee.1 h with rfl|h
  ·exact⟨by show(0:Int)<=((l+1:Nat):Int);omega,DR _⟩
  ·split at h
   ·have:=JE ws pg l _ x h;omega
   ·cases h
theorem V2 (ws:List Int) (r pg:Int):0<=(dD ws r pg).2.1/\(dD ws r pg).2.1<=3:=by
 have:=JE ws pg 3 r _ (CB (C6 ws r pg));omega
section
variable {Q:Sys} {D G:List Nat} {w0 w:A1} {s:WD} {L0:List (Nat×List AL)} {bt:Nat} {o r:Int} {gone:Bool}
namespace bj
theorem put (S:bj Q D G w0 w s L0) (k0:Nat) (a:L0[k0]? =some (bt,oY Q o r gone)) (pg lv:Int) (E:0<=lv/\lv<=3) (e:ET) {K:Int->A1->Prop} (k: ∀f,bj Q D G w0 f (rU s o r pg lv e) L0->K (mj s r pg lv) f):
 az A2 216 (.el (.one (.int .i64))) [ag (af bt),aa pg,aa lv,.agg ⟨[.bool e.1,aa e.2.1,.bool e.2.2.1,aa e.2.2.2.1]⟩] w K:=by
 refine S.go λw1 S=>ai (C:=N0) (aR:=wU) (AM (VQ _ pg lv e.1 e.2.1 e.2.2.1 e.2.2.2.1 w1 K) ?_);have F:=V2 s.1 r pg;unfold rU at k;refine S.al λb f S=>S.end_ (k0+1) a pg λf S=>S.al λj H S=>S.al λl I S=>S.fm 1 rfl rfl rfl λJ S=>S.fm 0 rfl rfl rfl λL S=>⟨rfl,S.cx 0 rfl rfl ⟨λ_=>rfl,S.cx 1 rfl rfl ?_⟩⟩;by_cases c1:((db s.1 r pg).1||decide ((dD s.1 r pg).2.1<lv))=true
 ·have c:mj s r pg lv=5:=by unfold mj;rw[av c1]
  rw[c,ao (by decide)] at k;exact aA c1 (S.en λd S=>k d S.tail.tail.tail)
 have m:=c1;simp only[Ea,decide_eq_true_eq,not_or] at m;refine an (by simpa using c1) ⟨rfl,rfl,S.cx (k0+3) a rfl ⟨_,S.cnt 0,rfl,S.cx 1 rfl rfl ?_⟩⟩;have p:aZ .i64 (dD s.1 r pg).2.1 lv=(dD s.1 r pg).2.1 - lv:=bE (by omega) (by omega);dsimp only;rw[p];by_cases c2:(cd s.2 0:Int)<(dD s.1 r pg).2.1 - lv
 ·have c:mj s r pg lv=12:=by unfold mj;rw[ao c1,av c2]
  rw[c,ao (by decide)] at k;exact aA (by simpa using c2) (S.en λd S=>k d S.tail.tail.tail)
 have c:mj s r pg lv=0:=by unfold mj;rw[ao c1,ao c2]
 rw[c,av rfl] at k;obtain⟨n0,q⟩: ∃n0,n0=((dD s.1 r pg).2.1 - lv).toNat:=⟨_,rfl⟩;rw[<-q] at k;obtain⟨z,g⟩: ∃z,z=ri o pg n0 (s,dD s.1 r pg):=⟨_,rfl⟩;rw[<-g] at k;refine an (by simpa using c2) ⟨λn _ w'=> ∃t:WD, ∃x:PT,ri o pg n (t,x)=z/\x.2.1=lv+(n:Int)/\n<=3/\bj Q D G w0 w' t ((l,[.bool (db s.1 r pg).1,aa (db s.1 r pg).2.1,.bool (db s.1 r pg).2.2.1,aa (db s.1 r pg).2.2.2.1])::(j,[aa x.1,aa x.2.1,aa x.2.2.1])::(b,[.bool e.1,aa e.2.1,.bool e.2.2.1,aa e.2.2.2.1])::L0),
  ⟨n0,λd v=>⟨s,dD s.1 r pg,g.symm,by omega,by omega,S.ext v⟩⟩,?_⟩
 rintro n u d ⟨t,x,h,M,N,S⟩;refine⟨rfl,S.cx 1 rfl rfl ?_⟩;rcases n with _|n
 ·refine an (by simp;omega) ⟨rfl,S.cx 1 rfl rfl (S.ld 2 rfl rfl (S.lay (k0+3) a _ e λy S=>S.en λi S=>k i ?_))⟩;have:z=(t,x):=h.symm;rw[this];exact S.tail.tail.tail
 ·refine aA (by simp;omega) (S.abI (k0+3) a λy S=>⟨rfl,S.cx 1 rfl rfl ⟨cm (eA t o),JC _ _,S.lay (k0+3) a _ (cm (eA t o)) λi S=>⟨rfl,S.cx 1 rfl rfl ⟨rfl,S.cx 1 rfl rfl ⟨trivial,S.fm 1 rfl rfl rfl λO S=>λP A=>⟨n,by omega,dP (iQ t o λ_=>0) x.2.2.1 (cm (eA t o)),(eA t o,x.2.1 - 1,dV (eA t o) pg (x.2.1 - 1),()),h,by show x.2.1 - 1= _;omega,by omega,?_⟩⟩⟩⟩⟩⟩);have B:aZ .i64 x.2.1 1=x.2.1 - 1:=bE (by omega) (by omega);have S:=S.ext A;rw[B] at S;exact S
theorem map (S:bj Q D G w0 w s L0) (k0:Nat) (b:L0[k0]? =some (bt,oY Q o r gone)) (pg f rt:Int) {K:Int->A1->Prop} (k: ∀a,bj Q D G w0 a (jC s o r gone pg f rt) L0->K (lU s r gone pg f rt) a):
 az A2 173 (.el (.one (.int .i64))) [ag (af bt),aa pg,aa f,aa rt] w K:=by
 refine S.go λw1 S=>ai (C:=N0) (aR:=λ_=>[]) (AM (VR _ pg f rt w1 K) ?_);unfold jC lU at k;refine⟨_,S.state k0 b,?_⟩;cases gone with
 |true=>
  rw[av rfl,av rfl] at k;exact aA rfl (S.en λa S=>k a S)
 |false=>
  have d: ¬ (false=true):=by decide
  rw[ao d,ao d] at k;refine an rfl ⟨_,JB _ _ _ _,ab (λc=>S.en λa S=>?_) (λc=>S.put k0 b pg 0 ⟨by decide,by decide⟩ (true,rt,false,f,()) λa S=>S.en λe S=>?_)⟩
  ·have c: ¬ mm pg f rt=0:=by simpa using c
   rw[ao c,ao c] at k;exact k a S
  ·have c:mm pg f rt=0:=by simpa using c
   rw[av c,av c] at k;exact k e S
end bj
end
set_option maxRecDepth 100000
open Go.RX D
theorem V3 {p:Prop} {α:Type} (d:Decidable p) (c: ¬ p) (a b:α):(CD (λ_=>a) (λ_=>b) d:α)=a:=by
 cases d with
 |isFalse h=>rfl
 |isTrue h=>exact absurd h c
theorem JF {ws:List Int} {i n:Int} (h: ¬ (n<1\/i<0\/i>ws.length\/n>ws.length - i)):(jD ws i n).length=n.toNat:=by
 unfold jD;rw[ao h,Eo,GH];omega
section
variable {D G:List Nat} {w0 w:A1} {L:List (Nat×List AL)}
theorem aae {bw n c:Nat} {ws:List Int} {rest:List AL} (q:bK w bw (flat eW ws++rest)) (K:n=ws.length) (hc:n<=c) (hb:n<=1048576) (i k:Int):
 aE A2 80 (.el (.one .slice)) [.agg ⟨[.slice (af bw) n c]⟩,aa i,aa k] w (λr w'=>lR w w' eW r (jD ws i k)/\Ext w w'):=by
 refine ai (C:=N0) (aR:=λ_=>[]) (AM (VU _ n c i k w _) ?_);have H:=At.start [] w;refine aN.go H λb L H=>⟨λ_=>rfl,aj.cw 0 H rfl rfl ⟨λ_=>rfl,aj.cw 0 H rfl rfl ?_⟩⟩;by_cases f:k<1\/i<0\/i>ws.length\/k>ws.length - i
 ·have s:jD ws i k=[]:=av f;rw[s];refine aA ?_ (au.go H λm H=>⟨lR.nil w m eW,H.all⟩);dsimp only;simp only[Ea,decide_eq_true_eq];by_cases h1:k<1
  ·exact .inl (.inl (.inl h1))
  ·by_cases t:i<0
   ·exact .inl (.inl (.inr t))
   ·by_cases u:i>(n:Int)
    ·exact .inl (.inr u)
    ·refine .inr ?_;rw[bE (by omega) (by omega)];omega
 ·have M:1<=k/\0<=i/\i+k<=n:=by omega
  have v:aZ .i64 (n:Int) i=(n:Int) - i:=bE (by omega) (by omega);refine an ?_ ?_
  ·dsimp only;rw[v];simp only[FS,decide_eq_false_iff_not];omega
  refine N8.go H (z:=[ay 0]) rfl (by omega) (DR _) (by omega) (by omega) λd m H=>⟨rfl,aj.cw 1 H rfl rfl ⟨by dsimp only;omega,λx y=>?_⟩⟩;have H:=H.ext y;have A:=q.ext H.all;dsimp only;rw[V3 _ (by show ¬ (((c:Nat):Int).toNat=i.toNat);omega)];have e:(jD ws i k).length=k.toNat:=JF f;have B:jD ws i k=(ws.drop i.toNat).take k.toNat:=ao f;have a:(flat eW (jD ws i k)).length=k.toNat:=by rw[aG,e];exact DB _
  have D:Nat.min (((n:Nat):Int).toNat - i.toNat) k.toNat=k.toNat:=Nat.min_eq_right (by omega);have g:(Be k.toNat [ay 0]).flatten.length=k.toNat:=by simp
  refine⟨flat eW (jD ws i k),?_,.inr (.inr ⟨?_,?_⟩),?_⟩
  ·show oW x (ad (af bw) (i.toNat*1)) (Nat.min (((n:Nat):Int).toNat - i.toNat) k.toNat*1) _;rw[D,aW,DB,DB];refine A.oW a λj E=>?_;have F:=IZ ws;have G:=IZ (jD ws i k);rw[FK,F,G,E5 (by rw[DL];omega),GI,GI,B,GJ E,GS]
  ·rw[a];exact(H.get (i:=0) rfl).st (by rw[g];omega)
  ·have:=jQ eW (jD ws i k) rfl;exact this
  ·have p:=H.put 0 (b:=d) (o:=0) rfl (flat eW (jD ws i k)) (by rw[a,g];omega);have I:List.drop k.toNat (Be k.toNat [ay 0]).flatten=[]:=F5 (Nat.le_of_eq g);rw[FK,a,I,DM,List.take_zero,List.nil_append] at p;refine au.go p λN l=>⟨?_,l.all⟩;have J:w.heap.size<=d:=by
    rcases l.own (d,flat eW (jD ws i k)) E4 with h|h
    ·exact h
    ·cases h
   refine⟨e.symm,by rw[e];exact B4 _,.inr ⟨d, _,rfl,J,l.get (i:=0) rfl,by rw[a];exact(DB _).symm,?_⟩⟩;rw[e];exact Ga (by rw[a];exact Nat.le_of_eq (DB _).symm)
theorem Ml {e:El} {xs:List e.T} {rest:List AL} {i:Nat} {x:e.T} (a:xs[i]? =some x) {j:Nat} (b:j<aF e):(flat e xs++rest)[i*aF e+j]? =(cellsOf e x)[j]? :=by
 have hi:i<xs.length:=(B1.1 a).1;have c:i*aF e+j<(flat e xs).length:=by
  rw[aG];have:(i+1)*aF e<=xs.length*aF e:=Nat.mul_le_mul_right _ hi;rw[Nat.add_mul] at this;omega
 rw[E5 c];exact zj e xs i x a j b
end
section
variable {Q:Sys} {D G:List Nat} {w0 w:A1} {s:WD} {L0:List (Nat×List AL)} {bt:Nat} {o r:Int} {gone:Bool}
abbrev Ol (Q:Sys) (s:WD):Prop:=s.1.length<=Q.c/\s.1.length<=1048576
namespace bj
theorem words (S:bj Q D G w0 w s L0) (hc:Ol Q s) (i n:Int) {K:Option AC×Nat×Nat->A1->Prop} (k: ∀x rows a,bj Q D G w0 a s (L0++rows)->oq eW rows x (jD s.1 i n)->K x a):
 az A2 45 (.el (.one .slice)) [ag (af Q.bm),aa i,aa n] w K:=by
 refine S.go λw1 S=>ai (C:=N0) (aR:=λ_=>[]) (AM (Mh _ i n w1 K) ?_);obtain⟨h1,b,c,d,ca,la,H⟩:=S;refine an rfl ⟨rfl,rfl,aj.cw 0 H rfl rfl ?_⟩;refine az.Y' H (λa H=>aae (H.get (i:=1) rfl) rfl hc.1 hc.2 i n) λx rows a H e=>au.go H λf H=>k x rows f ⟨h1,b,c,d,ca,la,H⟩ e
theorem tY (S:bj Q D G w0 w s L0) {j bs:Nat} {l:List PT} {rest:List AL} (hb:L0[j]? =some (bs,flat (.agg T_) l++rest)) {i:Nat} {x:PT} (a:l[i]? =some x) (q:Nat) {K:Int->Prop} {v:Int} (b:q<3) (hv:(cellsOf (.agg T_) x)[q]? =some (aa v)) (k:K v):
 aj w none (ad (ad (af bs) (i*3)) q) (.one (.int .i64)) K:=by
 rw[aW,aW,FK];refine aj.of v ((S.get hb).oK ?_) k;have:=Ml (e:= .agg T_) (rest:=rest) a (j:=q) b;rw[show i*3+q=i*aF (.agg T_)+q from rfl,this,hv];rfl
end bj
end
set_option maxRecDepth 100000
open Go.RX D
theorem abK (x:PT) (t:WD):jx [x] t=t:=rfl
theorem abL (x y:PT) (l:List PT) (t:WD):jx (x::y::l) t=if xH t.1 x.1=true then jx (y::l) (cZ t.1 y.2.2.1 0,dL t.2 x.1 (aO 5 0)) else t:=rfl
theorem Mm {l:List PT} {q:Nat} {x y:PT} (b:l[q]? =some y) (c:l[q+1]? =some x):(l.take (q+2)).reverse=x::y::(l.take q).reverse/\(l.take (q+1)).reverse=y::(l.take q).reverse:=by
 have a:l.take (q+1)=l.take q++[y]:=by rw[F6,b];rfl
 have d:l.take (q+2)=l.take q++[y]++[x]:=by rw[F6,c,a];rfl
 exact⟨by rw[d];simp,by rw[a];simp⟩
theorem JG {ws:List Int} (pg:Int): ∀(l:Nat) (f:Int),(0<=f/\f<4096)-> ∀x∈da ws pg l f,0<=x.1/\x.1<4096
 |0,f,a,x,h=>by
  rw[da,Ek] at h;subst h;exact a
 |l+1,f,a,x,h=>by
  rw[da] at h;rcases Ee.1 h with rfl|h
  ·exact a
  ·split at h
   ·exact JG pg l _ (pQ _ _) x h
   ·cases h
section
variable {Q:Sys} {D G:List Nat} {w0 w:A1} {s:WD} {L0:List (Nat×List AL)} {bt:Nat} {o r:Int} {gone:Bool}
namespace bj
theorem thin (S:bj Q D G w0 w s L0) (hc:Ol Q s) (k0:Nat) (p:L0[k0]? =some (bt,oY Q o r gone)) {j bs c:Nat} {l:List PT} {rest:List AL} (hb:L0[j]? =some (bs,flat (.agg T_) l++rest)) (hl:l.length<=4) (T: ∀x∈l,0<=x.1/\x.1<4096)
 {K:Unit->A1->Prop} (k: ∀f,bj Q D G w0 f (jx l.reverse s) L0->K () f):
 az A2 220 (.bu []) [ag (af bt),.slice (af bs) l.length c] w K:=by
 refine S.go λw1 S=>ai (C:=N0) (aR:=uM) (AM (R6 _ _ _ c w1 K) ?_);obtain⟨z,J⟩: ∃z,z=jx l.reverse s:=⟨_,rfl⟩;rw[<-J] at k;refine⟨λn v w'=> ∃t:WD,v.1+1=(n:Int)/\n<=l.length/\t.1.length=s.1.length/\jx (l.take n).reverse t=z/\bj Q D G w0 w' t L0,
  ⟨l.length,λf U=>⟨s,?_,B4 _,rfl,by rw[List.take_length];exact J.symm,S.ext U⟩⟩,?_⟩
 ·show aZ .i64 ((l.length:Nat):Int) 1+1= _;rw[bE (by omega) (by omega)];omega
 rintro n ⟨v,u⟩ f ⟨t,g,hn,A,a,S⟩;dsimp only at g ⊢;rcases n with _| _|q
 ·refine an (by simp;omega) (S.en λh S=>k h ?_);rw[<-a];exact S
 ·refine an (by simp;omega) (S.en λh S=>k h ?_);have:jx (l.take (0+1)).reverse t=t:=by
   cases l with
   |nil=>rfl
   |cons x l=>exact abK x t
  rw[<-a,this];exact S
 ·obtain rfl:v=((q+1:Nat):Int):=by omega
  have b:l[q+1]? =some l[q+1]:=Bx (by omega);have B:l[q]? =some l[q]:=Bx (by omega);generalize l[q+1]=x at b;generalize l[q]=y at B;obtain⟨t2,t1⟩:=Mm B b;rw[t2,abL, <-t1] at a;have hfx:=T x (CB b);have V:iB .i64 16 x.1=16*x.1:=eK (by omega) (by omega);have es:aZ .i64 ((q+1:Nat):Int) 1=(q:Int):=by rw[bE (by omega) (by omega)];omega
  refine aA (by simp) ⟨rfl,rfl,S.cx k0 p rfl ⟨⟨rfl,by omega,by omega⟩,rfl,S.tY hb b 0 (by decide) rfl ?_⟩⟩;rw[V];refine S.words ⟨by rw[A];exact hc.1,by rw[A];exact hc.2⟩ (16*x.1) 16 λrr rows h S L=>?_;have hll:(jD t.1 (16*x.1) 16).length<=16:=by
   by_cases M:(16:Int)<1\/16*x.1<0\/16*x.1>t.1.length\/16>t.1.length - 16*x.1
   ·rw[show jD t.1 (16*x.1) 16=[] from av M];simp
   ·rw[JF M];decide
  have W:rr.2.1=(jD t.1 (16*x.1) 16).length:=L.1;refine⟨λn v w'=> ∃m:Nat,v.1=(m:Int)/\n+m=(jD t.1 (16*x.1) 16).length/\(∀i,i<m->(jD t.1 (16*x.1) 16)[i]? =some 0)/\bj Q D G w0 w' t (L0++rows),⟨(jD t.1 (16*x.1) 16).length,λN X=>⟨0,rfl,rfl,λi hi=>by omega,S.ext X⟩⟩,?_⟩;rintro n ⟨v,u2⟩ N ⟨m,g,hnm,O,S⟩;dsimp only at g ⊢;subst g;rw[W];refine ab (λE=>?_) (λE=>?_)
  ·have P:m<(jD t.1 (16*x.1) 16).length:=by simpa using E
   have hv:=Bx P;generalize (jD t.1 (16*x.1) 16)[m]=d at hv;obtain⟨g1,Y,Z,g4,ca,la,H⟩:=S;have R:=L.sl H (λx b=>by
    show x∈ _:: _:: _:: _::(L0++rows);simp[b]) m d hv
   have S:bj Q D G w0 N t (L0++rows):=⟨g1,Y,Z,g4,ca,la,H⟩;refine⟨⟨R.1,by omega,by omega⟩,aj.of d R.2 (ab (λc2=>S.en λF S=>k F ?_) (λc2=>λF h5=>⟨n - 1,by omega,m+1,?_,by omega,λi hi=>?_,S.ext h5⟩))⟩
   ·have c2: ¬ d=0:=by simpa using c2
    have I:xH t.1 x.1=false:=by
     unfold xH;rw[Gd];exact⟨d,CB hv,by simpa using c2⟩
    rw[I,ao (by decide)] at a;rw[<-a];exact S.sub (F7 _ _)
   ·rw[aw (by omega) (by omega)];omega
   ·have c2:d=0:=by simpa using c2
    by_cases e:i=m
    ·subst e;rw[hv,c2]
    ·exact O i (by omega)
  ·have P: ¬ m<(jD t.1 (16*x.1) 16).length:=by simpa using E
   have I:xH t.1 x.1=true:=by
    unfold xH;rw[Gi];intro d Ys;obtain⟨i,hi⟩:=Gj Ys;have:=O i (by have:=(B1.1 hi).1;omega);rw[hi] at this;cases this;rfl
   rw[I,av rfl] at a;have S:=S.sub (F7 L0 rows);refine⟨rfl,rfl,S.cx k0 p rfl ?_⟩;rw[es];refine⟨⟨rfl,by omega,by omega⟩,rfl,S.tY hb B 2 (by decide) rfl (S.store _ 0 ⟨by decide,by decide⟩ λF S=>⟨rfl,rfl,S.cx k0 p rfl ⟨⟨rfl,by omega,by omega⟩,rfl,S.tY hb b 0 (by decide) rfl (S.Uw x.1 5 0 λw6 S=>λw7 h7=>⟨q+1,by omega, _,by show(q:Int)+1= _;omega,by omega,?_,a,S.ext h7⟩)⟩⟩)⟩;show(cZ t.1 y.2.2.1 0).length=s.1.length;rw[cG];exact A
theorem Ei (S:bj Q D G w0 w s L0) (hc:Ol Q s) (k0:Nat) (b:L0[k0]? =some (bt,oY Q o r gone)) (m:0<=r/\r<4096) (pg:Int) {K:Int×Int×Unit->A1->Prop} (k: ∀g,bj Q D G w0 g (nv s o r gone pg) L0->K (Gs s o r gone pg,Cz s o r gone pg,()) g):
 az A2 175 (.bu [.one (.int .i64),.one (.int .i64)]) [ag (af bt),aa pg] w K:=by
 refine S.go λw1 S=>ai (C:=N0) (aR:=λ_=>[]) (AM (Mf _ pg w1 K) ?_);refine S.query k0 b pg λg S=>ab (λc=>S.en λh S=>?_) (λc=>?_)
 ·have c: ¬ (bz s r gone pg).2.2.1=0:=by simpa using c
  have a:Cz s o r gone pg=(bz s r gone pg).2.2.1:=ao c;have e:Gs s o r gone pg=0:=by unfold Gs;rw[a,ao c]
  have f:nv s o r gone pg=s:=ao c;rw[a,e,f] at k;exact k h S
 have c:(bz s r gone pg).2.2.1=0:=by simpa using c
 have a:Cz s o r gone pg=mn s o r pg:=av c;have f:nv s o r gone pg=if mn s o r pg=0 then jx (da (ft s o r pg).1 pg 3 r).reverse (cZ (ft s o r pg).1 (dD (ft s o r pg).1 r pg).2.2.1 0,(ft s o r pg).2) else ft s o r pg:=av c;refine S.split k0 b pg λh S=>ab (λd=>S.en λi S=>?_) (λd=>?_)
 ·have d: ¬ mn s o r pg=0:=by simpa using d
  have e:Gs s o r gone pg=0:=by unfold Gs;rw[a,ao d]
  rw[a,e,f,ao d] at k;exact k i S
 have d:mn s o r pg=0:=by simpa using d
 have e:Gs s o r gone pg=(bz s r gone pg).1:=by unfold Gs;rw[a,av d]
 rw[e,a,f,av d,d] at k;have l:(ft s o r pg).1.length=s.1.length:=by
  unfold ft iQ dP;split
  ·rfl
  ·split
   ·show(cZ _ _ _).length= _;rw[cG,gN]
   ·rfl
 generalize ft s o r pg=t at*
 refine S.way pg λq bc i S=>S.OD (pg:=pg) (k0+2) b (by simp) (by simp) λbs cs rest u S=>⟨rfl,rfl,S.cx (k0+3) b rfl ?_⟩;have n:(da t.1 pg 3 r).length<=4:=tX t.1 pg 3 r;have v:0<(da t.1 pg 3 r).length:=GG.2 (yc t.1 pg 3 r);have es:aZ .i64 (((da t.1 pg 3 r).length:Nat):Int) 1=(((da t.1 pg 3 r).length - 1:Nat):Int):=by rw[bE (by omega) (by omega)];omega
 dsimp only;rw[es];refine⟨⟨rfl,by omega,by omega⟩,rfl,S.tY (j:=0) rfl (C6 t.1 r pg) 2 (by decide) rfl (S.store _ 0 ⟨by decide,by decide⟩ λx S=>S.thin ⟨by show(cZ _ _ _).length<= _;rw[cG,l];exact hc.1,by show(cZ _ _ _).length<= _;rw[cG,l];exact hc.2⟩ (k0+3) b (j:=0) rfl n (JG pg 3 r m) λy S=>S.en λp S=>k p S.tail.tail.tail)⟩
theorem tL (S:bj Q D G w0 w s L0) (k0:Nat) (g:L0[k0]? =some (bt,oY Q o r gone)) (pg rt:Int) {K:Int->A1->Prop} (k: ∀a,bj Q D G w0 a (rV s o r gone pg rt) L0->K (Gt s o r gone pg rt) a):
 az A2 177 (.el (.one (.int .i64))) [ag (af bt),aa pg,aa rt] w K:=by
 refine S.go λw1 S=>ai (C:=N0) (aR:=λ_=>[]) (AM (R7 _ pg rt w1 K) ?_);unfold rV Gt at k;refine⟨_,S.state k0 g,?_⟩;cases gone with
 |true=>
  rw[av rfl,av rfl] at k;exact aA rfl (S.en λa S=>k a S)
 |false=>
  have j: ¬ (false=true):=by decide
  rw[ao j,ao j] at k;refine an rfl ⟨_,JB _ _ _ _,ab (λc=>S.en λa S=>?_) (λc=>?_)⟩
  ·have c: ¬ mm pg 0 rt=0:=by simpa using c
   rw[ao c,ao c] at k;exact k a S
  have c:mm pg 0 rt=0:=by simpa using c
  rw[av c,av c] at k;have m:0<=pg:=by
   unfold mm at c;by_cases h:pg<0\/pg>=65536\/(0:Int)<0\/(0:Int)>=4096
   ·rw[av h] at c;cases c
   ·omega
  refine S.end_ k0 g pg λa S=>S.al λb p S=>S.al λq t S=>S.fm 1 rfl rfl rfl λu S=>S.fm 0 rfl rfl rfl λv S=>⟨rfl,S.cx 0 rfl rfl (ab (λd=>S.en λi S=>?_) (λd=>⟨rfl,S.cx 0 rfl rfl ⟨λ_=>rfl,S.cx 0 rfl rfl (ab (λe=>S.en λi S=>?_) (λe=>?_))⟩⟩))⟩
  ·have d: ¬ (db s.1 r pg).1=true:=by simpa using d
   rw[ao d,ao d] at k;exact k i S.tail.tail
  ·have d:(db s.1 r pg).1=true:=by simpa using d
   rw[av d,av d] at k;have e:((db s.1 r pg).2.2.1&&(db s.1 r pg).2.1==rt)=true:=e;rw[av e,av e] at k;exact k i S.tail.tail
  have d:(db s.1 r pg).1=true:=by simpa using d
  rw[av d,av d] at k;have e: ¬ ((db s.1 r pg).2.2.1&&(db s.1 r pg).2.1==rt)=true:=by
   have e':((db s.1 r pg).2.2.1&&(db s.1 r pg).2.1==rt)=false:=e;rw[e'];decide
  rw[ao e,ao e] at k;refine S.ld 1 rfl rfl (S.ld 0 rfl rfl ⟨_,JD m (dD s.1 r pg) (db s.1 r pg) (pQ _ _) _,S.split (k0+2) g pg λi S=>ab (λf=>S.en λl S=>?_) (λf=>S.end_ (k0+2) g pg λl S=>S.fm 1 rfl rfl rfl λx S=>⟨rfl,S.cx 1 rfl rfl (S.lay (k0+2) g _ (true,rt,false,qR pg (dD s.1 r pg) (db s.1 r pg),()) λy S=>S.en λn S=>?_)⟩)⟩)
  ·have f: ¬ mn s o r pg=0:=by simpa using f
   rw[ao f] at k;exact k l S.tail.tail
  ·have f:mn s o r pg=0:=by simpa using f
   rw[av f,f] at k;exact k n S.tail.tail
end bj
end
set_option maxRecDepth 100000
open Go.RX
noncomputable def N1:dJ A2:={N0 with cl:=[(38,.XX)]}
def qa:Nat->a6:=(λ|3=>[(12,Go.RX.El.one (Go.RX.Sc.int AY))]|9=>[(34,.one (.int .i64))]| _=>[])
theorem HV (y:Nat) (p c d:Option AC) (w:A1) (i:Unit->A1->Prop):(bS N1 qa 247 [.func (.yield y) #[] #[],ag p,ag c,ag d] w i)=(
 aN w {toList:=[.func (Fn.yield y) ⟨[]⟩ ⟨[]⟩]} 38 λb a=>aj a none (af b) (.one .XX) λx=>aU a p λm=> ∀w1,Ext a w1->mq A2 x [aa m] w1 λ(o:Bool) a=>aI (!o) (au a (i ())) (∃(I:Nat->Int×Unit->List Nat->A1->Prop),(∃n, ∀w1,Ext a w1->I n (0,()) [] w1)/\ ∀(n:Nat) (s:Int×Unit) (D1:List Nat) (w1:A1),I n s D1 w1->aI (decide (s.1<16)) (gi w1 c λx=>aU w1 p λq=>az
 A2 235 (.el kh) [ag x,aa (aH .i64 (iB .i64 16 q) s.1)] w1 λ(x:Bool×Int×Bool×Int×Unit) a=>aN a ⟨[.bool false,aa 0,.bool false,aa 0]⟩ 130 λk a=>aC a (af k) [.bool x.1,aa x.2.1,.bool x.2.2.1,aa x.2.2.2.1] λa=>aU a d λx=>aj a (some !x==0) (af k) kh λ(j:Bool×Int×Bool×Int×Unit)=>((!x==0)=true->True)/\aI (x==0|| !fV j.1
 j.2.1 j.2.2.1 j.2.2.2.1) (∀e,Ext a e-> ∃(f:Nat),f<n/\I f (aH .i64 s.1 1,()) D1 e) (gi a c λx=>true=true/\aU a (ad (af k) 3) λt=>aU a d λu=>az A2 239 (.el (.one (.Au 247 3))) [ag x,aa t,aa (aZ .i64 u 1)] a λx a=>An A2 247 (λ(y:Nat)=>[.func (Fn.yield y) ⟨[]⟩ ⟨[]⟩,ag x.1,ag x.2.1,ag x.2.2.1]) ⟨[34]⟩ a (λ(x:Int×Unit)=>[aa x.1]) (λ(l:Nat)
 (rec:Loop) (x:Int×Unit) e (R:Bool->A1->Prop)=>DG l rec [aa x.1].length 1 e (Cl l rec e λg=>aj g none (af b) (.one .XX) λv=> ∀w1,Ext g w1->mq A2 v [aa x.1] w1 λ(b:Bool) a=>aI (!b) (sY l rec (some Code.ret) a R) (sY l rec none a R))) λ(r:Nat) (rec:Loop) z=>dB (r+1) rec z (λg=> ∀e,Ext g e-> ∃(f:Nat),f<n/\I f (aH .i64 s.1 1,()) (r::D1) e) (λ(id:Nat) g=>CD (λ(h:id=2->False)=>CD (λ(h:id=1->False)=>
 CD (λ(h:id=0->False)=>False) (λ(h:id=0)=>sZ (r::D1) g λw1=>i () w1) (match h:id.beq 0 with|true=>isTrue (DU h)|false=>isFalse (DZ h))) (λ(h:id=1)=> ∀e,Ext g e-> ∃(f:Nat),f<n/\I f (aH .i64 s.1 1,()) (r::D1) e) (match h:id.beq 1 with|true=>isTrue (DU h)|false=>isFalse (DZ h))) (λ(h:id=2)=> ∀e,Ext g e-> ∃(f:Nat),f<n/\I f (aH .i64 s.1 1,()) (r::D1) e)
 (match h:id.beq 2 with|true=>isTrue (DU h)|false=>isFalse (DZ h))) λg=>sZ (r::D1) g λw1=>i () w1)) (byD D1 (au w1 (i ())) λ(r:Nat) (D:List Nat)=>sZ (r::D) w1 λw1=>i () w1))):=by kernel_rfl
open Go.RX D
section
variable {T:Type} {bm:Nat} {mc:List AL->Prop} {J:List T->List (Nat×List AL)->List (Nat×Obj)->A1->Prop} {a:List T} {X:List (Nat×List AL)} {O:List (Nat×Obj)} {w w':A1}
theorem An.inX (K:JK bm mc J) {P:Program} {k:FuncId} {args:Nat->List AL} {ps:Array Nat} {f:T->List AL} {m:Nat->Loop->T->A1->(Bool->A1->Prop)->Prop} {n:Nat->Loop->A1->Prop} {N:Nat} {p:List (Nat×List AL)} {xs:List T}
 (j:J a X O w) (t:ItJ P k args f N bm mc p xs) (u: ∀x∈p,x∈X) (y:a.length+xs.length<=N)
 (z: ∀b x X' O' l rec d (R:Bool->A1->Prop),b.length<N->J b (X'++X) ((l,Of rec)::O') d->(∀w',J (b++[x]) (X'++X) ((l,Of rec)::O') w'->R true w')->m l rec x d R)
 (A: ∀r rec g,J (a++xs) X ((r+1,Of rec)::(r,.deferred (some []))::O) g->n r rec g):An P k args ps w f m n:=by
 intro w1 h1 rec _ _ B C D;have V:rec={rec with state:= .ready,pending:= .none}:=by rw[<-B, <-C]
 have sz:(w1.alloc (.deferred (some []))).heap.size=w1.heap.size+1:=lG _ _;have j1:J a X _ (w1.alloc (.deferred (some []))):=K.alO (K.ext j h1) (λ_ _ _ e=>by cases e);have q:=K.alO (o:=Of rec) j1 (IW rec _ _);rw[sz] at q
 let Z:=(w1.heap.size+1,Of rec)::(w1.heap.size,.deferred (some []))::O
 let i:=λb X' O' w=>J b (X'++X) (O'++Z) w
 have E:JK bm mc i:=
  {step:=λ{a' X' O' W d l' Y} h F hb G H I=>by
    have:=K.step h F hb G H I
    grind
   mem:=λh=>K.mem h
   dj:=λh hm=>K.dj h (by grind)
   obj:=λh hm=>K.obj h (by grind)
   alO:=λh c=>K.alO h c
   puO:=λh c=>K.puO h c
   sub:=λh hx c=>K.sub h (by grind) (c.append_right Z)
   perm:=λh c=>K.perm h (c.append_right Z)}
 have L:Yd P (w1.heap.size+1) f N i:=λb x X' O' d R hb h M=>by
  refine D x d R ?_;have s:((w1.heap.size+1,Of rec)::(O'++((w1.heap.size,.deferred (some []))::O))).Perm (O'++Z):=(DD).symm;exact z b x X' _ _ rec d R hb (K.perm h s) (λw' h'=>M w' (K.perm h' s.symm))
 have Q:(w1.alloc (.deferred (some []))).alloc (.loop rec)=(w1.alloc (.deferred (some []))).alloc (Of rec):=by
  grind
 rw[Q];have S:=K.sub q (λx hm=>by
  rcases List.mem_append.1 hm with hm|hm<;>exact hm) (CF _)
 refine Calls.mono (t (w1.heap.size+1) i E L a X [] _ y u S) ?_;rintro e g ⟨v,U,h⟩;exact⟨v,U,A _ _ _ (K.sub h (by grind) (by grind))⟩
end
def oP (ws:List Int) (l:Nat) (f:Int) (i:Nat):List Int:=match l with
 |0=>[]
 |l+1=>if du (aJ ws (16*f+(i:Int)))=true then cU ws l (aJ ws (16*f+(i:Int))).2.2.2.1 else[]
theorem m9 (ws:List Int): ∀(l:Nat) (f:Int),cU ws l f=f::(Am 16).flatMap (oP ws l f)
 |0,f=>by
  simp[cU,oP]
 |l+1,f=>rfl
theorem Mn {m:Nat} (a:m<16) (g:Nat->List Int): ∃z,(Am 16).flatMap g=(Am m).flatMap g++(g m++z):=by
 obtain⟨z,e⟩: ∃z,Am _=Am (m+1)++z:=by
  refine⟨(Am 16).drop (m+1),?_⟩
  conv=>rw[<-Gn (m+1) (Am 16)]
  grind
 rw[e,Gp];simp
abbrev emI (x:Int×Unit):List AL:=[aa x.1]
abbrev Ua (x:Int):Int×Unit:=(x,())
abbrev ucs (bt c1 c2 c3:Nat) (f:Int) (l:Nat):List (Nat×List AL):=[(c1,[aa f]),(c2,[ag (af bt)]),(c3,[aa (l:Int)])]
theorem Mp {D G:List Nat} {w0 w:A1} {L:List (Nat×List AL)} (H:aM D G w0 w L) (p:Option AC) (f lv:Int) {K:Option AC×Option AC×Option AC×Unit->A1->Prop}
 (k: ∀b a c d,aM D G w0 d ((c,[aa lv])::(a,[aa f])::(b,[ag p])::L)->K (some ⟨a,0,none⟩,some ⟨b,0,none⟩,some ⟨c,0,none⟩,()) d):
 az A2 239 G5 [ag p,aa f,aa lv] w K:=
 az.go H λw1 H=>ai (AM (BJ p f lv w1 K) (aN.go H λb d H=>aN.go H λa e H=>aN.go H λc g H=>au.go H (by grind)))
abbrev UIt (Q:Sys) (ws:List Int) (bt:Nat) (o r:Int) (gone:Bool) (N lv:Nat):Prop:= ∀(f:Int) (a:0<=f/\f<4096) (c1 c2 c3:Nat),
 ItJ A2 247 (λy=>[.func (.yield y) #[] #[],ag (af c1),ag (af c2),ag (af c3)]) emI N Q.bm (Mc Q ws.length)
  ((bt,oY Q o r gone)::(Q.bw,flat eW ws++Q.rw)::ucs bt c1 c2 c3 f lv) ((cU ws lv f).map Ua)
theorem HW {Q:Sys} {ws:List Int} {bt:Nat} {o r:Int} {gone:Bool} {N:Nat} (jO:okW ws) (o7:0<ws.length) (lv:Nat) (yw:lv<=3) (ih: ∀l',lv=l'+1->UIt Q ws bt o r gone N l'):UIt Q ws bt o r gone N lv:=by
 intro f hf c1 c2 c3 y J K F a X O w i hX j;refine Calls.mono (aQ (C:=N1) (aR:=qa) (Post:=λ_ w'=>J (a++(cU ws lv f).map Ua) X O w') (AM (HV y _ _ _ w _) ?_)) ?_
 rotate_left
 ·rintro e w' ⟨x,rfl,h⟩;exact⟨_,rfl,h⟩
 rw[m9] at i ⊢;simp only[List.map_cons,B3,DL] at i;obtain⟨lm,⟨ca,la,rfl⟩,H⟩:=K.at0 j;refine aN.go H λb w2 H=>?_;have j:=K.tI (Y:=[(b, _)]) j H ⟨_, _,rfl⟩;have g: ∀x∈(bt,oY Q o r gone)::(Q.bw,flat eW ws++Q.rw)::ucs bt c1 c2 c3 f lv,x∈[(b,[Dn (.yield y) #[] #[]])]++X:=λx p=>Cp _ (hX x p);have q:(b,[Dn (.yield y) #[] #[]])∈[(b,[Dn (.yield y) #[] #[]])]++X:=List.mem_append_left _ (Ek.2 rfl);have back: ∀{a':List (Int×Unit)} {w':A1},J a' ([(b,[Dn (.yield y) #[] #[]])]++X) O w'->J a' X O w':=λh=>K.sub h (λx p=>Cp _ p) (CF _);generalize [(b,[Dn (.yield y) #[] #[]])]++X=k at j g q back;have x1:=g (bt,oY Q o r gone) (by simp);have G:=g (Q.bw,flat eW ws++Q.rw) (by simp);have I:=g (c1,[aa f]) (by simp);have L:=g (c2,[ag (af bt)]) (by simp);have x5:=g (c3,[aa (lv:Int)]) (by simp);refine aj.of y ((K.dj j q).2.oK rfl) (aj.of f ((K.dj j I).2.oK rfl) λw3 h3=>F a (Ua f) k O w3 _ (by omega) (K.ext j h3) λw4 j=>?_);refine an rfl ⟨λn v D1 w'=> ∃m:Nat,v.1=(m:Int)/\n+m=16/\J (a++Ua f::((Am m).flatMap (oP ws lv f)).map Ua) k (D1.map (λr=>(r,Obj.deferred (some [])))++O) w',⟨16,λM h5=>⟨0,rfl,rfl,by simpa using K.ext j h5⟩⟩,?_⟩;rintro n ⟨v,u⟩ D1 M ⟨m,P,hnm,j⟩;dsimp only at P ⊢;subst P;refine ab (λs=>?_) (λs=>?_)
 ·have t:m<16:=by simp at s;omega
  obtain⟨z,hz⟩:=Mn t (oP ws lv f);have S:(a++Ua f::((Am m).flatMap (oP ws lv f)).map Ua).length+((oP ws lv f m).map Ua).length<=N:=by
   rw[hz] at i;simp only[Du,B3,DL] at i ⊢;omega
  have A:(Am (m+1)).flatMap (oP ws lv f)=(Am m).flatMap (oP ws lv f)++oP ws lv f m:=by
   rw[Gp,List.flatMap_append];simp
  have acE:aH .i64 (iB .i64 16 f) (m:Int)=16*f+(m:Int):=by rw[eK (by omega) (by omega),aw (by omega) (by omega)]
  have acF:aH .i64 (m:Int) 1=((m+1:Nat):Int):=by rw[aw (by omega) (by omega)];omega
  refine aj.of (af bt) ((K.dj j L).2.oK rfl) (aj.of f ((K.dj j I).2.oK rfl) ?_);rw[acE,acF];obtain⟨lm,⟨ca,la,rfl⟩,H⟩:=K.at0 j;have R:TbR Q ws M bt o r gone:=⟨(K.dj j x1).2,(K.dj j G).2,(K.dj j x1).1,(K.dj j G).1,jO,o7⟩;have B:=K.dj j x5;have T:=K.dj j L;have U:c3∉[Q.bm]:=by simpa using B.1
  have n4:c2∉[Q.bm]:=by simpa using T.1
  refine PK R H 0 rfl _ λca2 V H=>aN.go H λW w7 H=>aC.all 0 H rfl rfl rfl λw8 H=>aj.fG H B.2 U rfl (aj.at 0 H rfl rfl ⟨λ_=>trivial,ab (λc=>λw9 h9=>?_) (λc=>?_)⟩)
  ·have D:=K.sub (K.ext (K.tI (Y:=[(W, _)]) j H ⟨_, _,rfl⟩) h9) (X':=k) (λx h=>Cp _ h) (CF _);refine⟨n - 1,by omega,m+1,rfl,by omega,?_⟩;have E:oP ws lv f m=[]:=by
    cases lv with
    |zero=>rfl
    |succ l=>
     have c:du (aJ ws (16*f+(m:Int)))=false:=by
      have h0:((((l+1:Nat):Int))==0)=false:=by simp;omega
      simp only[h0,Bool.false_or,Bool.not_eq_true'] at c;exact c
     exact ao (by rw[c];decide)
   rw[A,E,DM];exact D
  ·have c0: ¬ lv=0/\du (aJ ws (16*f+(m:Int)))=true:=by
    simp only[FS,Bool.not_eq_false'] at c;refine⟨λe=>?_,c.2⟩;subst e;simp at c
   obtain⟨l,rfl⟩: ∃l,lv=l+1:=⟨lv - 1,by omega⟩;have E:oP ws (l+1) f m=cU ws l (aJ ws (16*f+(m:Int))).2.2.2.1:=av c0.2;have elv:aZ .i64 ((l+1:Nat):Int) 1=(l:Int):=by rw[bE (by omega) (by omega)];omega
   refine aj.fG H T.2 n4 rfl ⟨rfl,aj.cw 0 H rfl rfl (aj.fG H B.2 U rfl ?_)⟩;rw[elv];refine Mp H _ _ _ λd d1 d2 w9 H=>?_;have D:=K.tI (Y:=[(d2, _),(d1, _),(d, _),(W, _)]) j H ⟨_, _,rfl⟩;rw[E] at S A;refine An.inX K D (ih l rfl _ (pQ _ _) d1 d d2) ?_ S ?_ ?_
   grind
   ·intro b0 x X' O' l' rec l4 R hb j hR;refine DG.Yi K j rfl (Cl.Yi K j λwb j=>aj.of y ((K.dj j (Cp _ (Cp _ q))).2.oK rfl) λZ FN=>F b0 x _ _ Z _ hb (K.ext j FN) λDI j=>an rfl (sY.Yi K j λOi j=>hR Oi j))
   ·intro r' rec l4 j;refine dB.Yi K j λZ j=>λDI T7=>⟨n - 1,by omega,m+1,rfl,by omega,?_⟩;have j3:=K.sub (K.ext j T7) (X':=k) (λx h=>Cp _ h) (CF _);rw[A];simpa using j3
 ·have t:m=16:=by simp at s;omega
  subst t;cases D1 with
  |nil=>exact λV h6=>back (K.ext j h6)
  |cons r' D1=>exact K.sZ (r'::D1) j λV j=>back j
theorem Sa {Q:Sys} {ws:List Int} {bt:Nat} {o r:Int} {gone:Bool} {N:Nat} (a:okW ws) (b:0<ws.length): ∀lv:Nat,lv<=3->UIt Q ws bt o r gone N lv:=by
 intro lv
 induction lv with
 |zero
 |succ=>
  intro h;refine HW a b _ h λe=>?_
  grind
abbrev eN:El:= .one (.int .i64)
theorem z4 (ws:List Int): ∀(l:Nat) (f:Int),(cU ws l f).length<=(match l with|0=>1|1=>17|2=>273| _=>4369)\/3<l
 |0,f=> .inl (by simp[cU])
 |l+1,f=>by
  by_cases a:3<l+1
  ·exact .inr a
  refine .inl ?_;have step: ∀(c:Nat) (is:List Nat),(∀i,(oP ws (l+1) f i).length<=c)->(is.flatMap (oP ws (l+1) f)).length<=is.length*c:=by
   intro c is h
   induction is with
   |nil=>simp
   |cons i is b=>
    rw[List.flatMap_cons,Du,B3,Nat.add_mul];have:=h i;omega
  have sub: ∀(c:Nat),(∀g,(cU ws l g).length<=c)-> ∀i,(oP ws (l+1) f i).length<=c:=by
   intro c h i;unfold oP
   grind
  rw[m9];have b:=z4 ws l;rcases l with _| _| _|l
  ·have:=step 1 (Am 16) (sub 1 (by grind))
   grind
  ·have:=step 17 (Am 16) (sub 17 (by grind))
   grind
  ·have:=step 273 (Am 16) (sub 273 (by grind))
   grind
  ·omega
theorem pW (ws:List Int) (f:Int):(cU ws 3 f).length<=4369:=by grind[z4]
theorem BK (ws:List Int) (l:Nat) (f:Int):cU ws l f≠[]:=by simp[m9]
theorem EN (x:Int): ∀l:List Int,(jE x l).length=l.length+1
 |[]=>rfl
 |y::l=>by
  rw[jE];split
  ·rw[B3,EN];rfl
  ·rfl
theorem zq: ∀(l a:List Int),(l.foldl (λa x=>jE x a) a).length=a.length+l.length
 |[],a=>rfl
 |x::l,a=>by
  rw[Gq,zq,EN,B3];omega
theorem iN (l:List Int):(mN l).length=l.length:=by simp[mN,zq]
theorem aaf (p z:List Int) (a c:Int):(p++a::z).set p.length c=p++c::z:=by simp
section
variable {Q:Sys} {D G:List Nat} {w0 w:A1} {s:WD} {L0:List (Nat×List AL)} {bt:Nat} {o r:Int} {gone:Bool}
namespace bj
theorem under (S:bj Q D G w0 w s L0) (f lv:Int) {K:Option AC×Option AC×Option AC×Unit->A1->Prop} (k: ∀b a c d,bj Q D G w0 d s ((c,[aa lv])::(a,[aa f])::(b,[ag (af bt)])::L0)->K (some ⟨a,0,none⟩,some ⟨b,0,none⟩,some ⟨c,0,none⟩,()) d):
 az A2 239 G5 [ag (af bt),aa f,aa lv] w K:=by
 refine S.go λw1 S=>ai (AM (BJ _ f lv w1 K) ?_);exact S.al λb d S=>S.al λa e S=>S.al λc g S=>S.en (by grind)
theorem abM (S:bj Q D G w0 w s L0) (k0:Nat) (O:L0[k0]? =some (bt,oY Q o r gone)) {c1 c2 c3:Nat} {f:Int} (j:0<=f/\f<4096) (h1:(c1,[aa f])∈L0) (P:(c2,[H6 (af bt)])∈L0) (T:(c3,[aa 3])∈L0)
 {K:Option AC×Nat×Nat->A1->Prop} (k: ∀bs cs rest c,bj Q D G w0 c s ((bs,flat eN (cU s.1 3 f)++rest)::L0)->K (some ⟨bs,0,none⟩,(cU s.1 3 f).length,cs) c):
 az A2 238 (.el (.one .slice)) [.func (.func 247) #[] #[ag (af c1),ag (af c2),ag (af c3)]] w K:=by
 refine S.go λw1 S=>aQ (C:=N0) (aR:=rC) (AM (Mg _ _ _ w1 K) ?_);obtain⟨g1,m,n,g,ca,la,H0⟩:=S;have H:=H0.again;refine aN.go H λbl c H=>?_;have p:=pW s.1 f;refine An.OD (N:=4369) (bm:=Q.bm) (mc:=Mc Q s.1.length) (Rg0:=[(bl,[.slice none 0 0])]) H ⟨_, _,rfl⟩
  (Sa (o:=o) (r:=r) (gone:=gone) (bt:=bt) g g1 3 (B4 _) f j c1 c2 c3) ?_ (by simpa using p) (λxs d=>Yp eN bl (xs.map (·.1)) d) (.inl ⟨rfl,rfl⟩) ?_ ?_
 grind
 ·intro U x d Z rr l rec V R W a b q;obtain⟨sl,e⟩:=a.head;refine DG.go b rfl (Cl.goO b λwb H t u=>aj.at 0 H (by rw[E5 (B1.1 e).1];exact e) rfl (aN.go H λX i H=>λY v=>?_));have H:=H.ext v;exact a.push e (x:=x.1) H rfl rfl rfl (by grind) λy w8 z A=>sY.ll t A λB E F=>q y B (by simpa using z) E (u.trans F)
 ·rintro rr rec w4 l' d ⟨I,J,rfl⟩ a b;refine dB.none b λw5 H=>?_;have L:((cU s.1 3 f).map Ua).map (·.1)=cU s.1 3 f:=by
   rw[List.map_map];exact List.map_id _
  rw[L] at a;rcases a with ⟨h, _⟩|⟨bs,cs,rest,rfl,q1,q2⟩
  ·exact absurd h (BK _ _ _)
  ·refine aj.at 0 H rfl rfl (sZ.go H λi H=>k bs cs rest i ⟨g1,m,n,g,I,J,H0.join (λx M=>M) ?_⟩);refine(H.sub (Cf _ _)).perm ?_;exact DD (l₁:=[_, _, _, _])
theorem I4 (S:bj Q D G w0 w s L0) {j bs:Nat} {xs:List Int} {rest:List AL} (a:L0[j]? =some (bs,flat eN xs++rest)) {i:Nat} {x:Int} (b:xs[i]? =some x):cC w (ad (af bs) (i*1)) eN x:=fZ (S.get a) b
theorem XL (S:bj Q D G w0 w s L0) (j:Nat) {bs:Nat} {xs:List Int} {rest:List AL} (a:L0[j]? =some (bs,flat eN xs++rest)) {i:Nat} (hi:i<xs.length) (v:Int) {K:A1->Prop} (k: ∀w1,bj Q D G w0 w1 s (L0.set j (bs,flat eN (xs.set i v)++rest))->K w1):aC w (ad (af bs) (i*1)) [aa v] K:=by
 obtain⟨h1,b,c,d,ca,la,H⟩:=S;exact aC.flat (e:=eN) (j+4) H v a rfl rfl hi λw1 H=>k w1 ⟨h1,b,c,d,ca,la,H⟩
theorem all (S:bj Q D G w0 w s L0) (k0:Nat) (q:L0[k0]? =some (bt,oY Q o r gone)) (V:0<=r/\r<4096) {K:Option AC×Nat×Nat->A1->Prop} (k: ∀x rows d,bj Q D G w0 d s (L0++rows)->oq eN rows x (mO s r gone)->K x d):
 az A2 214 (.el (.one .slice)) [ag (af bt)] w K:=by
 refine S.go λw1 S=>ai (C:=N0) (aR:=wV) (AM (VS _ w1 K) ?_);refine⟨_,S.state k0 q,?_⟩;cases gone with
 |true=>exact aA rfl (S.en λd S=>k (none,0,0) [] d (by rw[DM];exact S) ⟨rfl,.inl ⟨rfl,rfl⟩⟩)
 |false=>
  refine an rfl ⟨rfl,rfl,S.cx k0 q rfl (S.under r 3 λc2 c1 c3 d S=>S.abM (k0+3) q V (by simp) (by simp) (by simp) λbs cs rest i S=>?_)⟩;have S:=S.perm (L1:=(bs,flat eN (cU s.1 3 r)++rest)::(L0++[(c3,[aa 3]),(c1,[aa r]),(c2,[ag (af bt)])])) (FX _ (by exact List.perm_append_comm (l₂:=[_, _, _])));have S:=S.sub (List.Sublist.cons_cons _ (F7 _ _));have hlen:=pW s.1 r;have W:mO s r false=mN (cU s.1 3 r):=ao (by decide);rw[W] at k;have dn:=BK s.1 3 r;generalize cU s.1 3 r=l at*
  refine⟨λn v w'=> ∃m:Nat,v.1=(m:Int)/\n+m=l.length/\bj Q D G w0 w' s ((bs,flat eN (((l.take m).foldl (λa x=>jE x a) []).reverse++l.drop m)++rest)::L0),⟨l.length,λX Y=>⟨0,rfl,rfl,by simpa using S.ext Y⟩⟩,?_⟩;rintro n ⟨v,u⟩ X ⟨m,b,hnm,S⟩;dsimp only at b ⊢;subst b;refine ab (λt=>?_) (λt=>?_)
  ·have z:m<l.length:=by simpa using t
   obtain⟨R,E⟩: ∃R,R=(l.take m).foldl (λa x=>jE x a) []:=⟨_,rfl⟩;have F:R.length=m:=by rw[E,zq,Eo];simp;omega
   have L:=Bx z;obtain⟨x,M⟩: ∃x,x=l[m]:=⟨_,rfl⟩;rw[<-M] at L;have hd:l.drop m=x::l.drop (m+1):=by rw[FI z,M]
   have abN:(l.take (m+1)).foldl (λa x=>jE x a) []=jE x R:=by
    rw[F6,L,Option.toList_some,List.foldl_append, <-E];rfl
   obtain⟨Z,N⟩: ∃Z,Z=l.drop (m+1):=⟨_,rfl⟩;rw[<-E,hd, <-N] at S;refine⟨λO v w'=> ∃A B:List Int,v.1=(A.length:Int)/\O=A.length/\A.length+B.length=m/\B++jE x A=jE x R/\bj Q D G w0 w' s ((bs,flat eN (A.reverse++x::(B.reverse++Z))++rest)::L0),⟨m,λf h5=>⟨R,[],by rw[F],F.symm,by simp[F],rfl,by simpa using S.ext h5⟩⟩,?_⟩;rintro O ⟨v,u2⟩ f ⟨A,B,b,rfl,hAB,H,S⟩;dsimp only at b ⊢;subst b;have P: ∀(C:List Int),C=jE x R-> ∀{w':A1},bj Q D G w0 w' s ((bs,flat eN (C.reverse++Z)++rest)::L0)-> ∀i,Ext w' i-> ∃T,T<n/\ ∃p:Nat,aH .i64 (m:Int) 1=(p:Int)/\T+p=l.length/\bj Q D G w0 i s ((bs,flat eN (((l.take p).foldl (λa x=>jE x a) []).reverse++l.drop p)++rest)::L0):=by
    intro C hC w' S i h3;refine⟨n - 1,by omega,m+1,by rw[aw (by omega) (by omega)];omega,by omega,?_⟩;rw[abN, <-hC, <-N];exact S.ext h3
   cases A with
   |nil=>
    refine⟨λh=>by simp at h,0,λh=>by simp at h,λh=>by simp at h,0,λh=>by simp at h,an rfl (P (B++jE x []) H (w':=f) ?_)⟩;have e:(B++jE x []).reverse++Z=[].reverse++x::(B.reverse++Z):=by simp[jE]
    rw[e];exact S
   |cons y A=>
    have e:(y::A).reverse++x::(B.reverse++Z)=A.reverse++y::x::(B.reverse++Z):=by simp
    rw[e] at S;simp only[B3] at hAB;have es:aZ .i64 (((y::A).length:Nat):Int) 1=(A.length:Int):=by rw[B3,bE (by omega) (by omega)];omega
    rw[es];have I:(A.reverse++y::x::(B.reverse++Z))[A.length]? =some y:=by rw[Gr (by simp)];simp
    have U:(A.reverse++y::x::(B.reverse++Z))[A.length+1]? =some x:=by rw[Gr (by simp)];simp
    have Xg:A.length<(A.reverse++y::x::(B.reverse++Z)).length:=(B1.1 I).1;have s1:(A.reverse++y::x::(B.reverse++Z)).set A.length x=A.reverse++x::x::(B.reverse++Z):=by
     have:=aaf A.reverse (x::(B.reverse++Z)) y x;rwa[List.length_reverse] at this
    have s2:(A.reverse++x::x::(B.reverse++Z)).set (A.length+1) y=A.reverse++x::y::(B.reverse++Z):=by
     simp
    have F4:A.length+1<(A.reverse++x::x::(B.reverse++Z)).length:=by simp
    have t1:((A.length:Nat):Int).toNat=A.length:=rfl;have t2:(((y::A).length:Nat):Int).toNat=A.length+1:=rfl;rw[t1,t2];have g1:(some (⟨bs,0,none⟩:AC)).isSome=true/\0<=(A.length:Int)/\(A.length:Int)<(l.length:Int):=⟨rfl,by omega,by omega⟩;have J:(some (⟨bs,0,none⟩:AC)).isSome=true/\0<=(((y::A).length:Nat):Int)/\(((y::A).length:Nat):Int)<(l.length:Int):=⟨rfl,by omega,by rw[B3];omega⟩;refine⟨λ_=>g1,aj.of y (S.I4 (j:=0) rfl I) ⟨λ_=>J,aj.of x (S.I4 (j:=0) rfl U) (ab (λc=>⟨J,aj.of x (S.I4 (j:=0) rfl U) ⟨g1,aj.of y (S.I4 (j:=0) rfl I) ⟨g1,S.XL 0 rfl Xg x λw6 S=>⟨J,?_⟩⟩⟩⟩) (λc=>P (B++jE x (y::A)) H (w':=f) ?_))⟩⟩
    ·rw[s1] at S;refine S.XL 0 rfl F4 y λw7 S=>λw8 h8=>⟨A.length,Nat.lt_succ_self _,A,B++[y],rfl,rfl,by simp;omega,?_,?_⟩
     ·have c2:y>x:=by simpa using c
      rw[<-H,jE,av c2,GF];rfl
     ·rw[s2] at S;have g:A.reverse++x::((B++[y]).reverse++Z)=A.reverse++x::y::(B.reverse++Z):=by simp
      rw[g];exact S.ext h8
    ·have c2: ¬ y>x:=by simpa using c
     have g:(B++jE x (y::A)).reverse++Z=A.reverse++y::x::(B.reverse++Z):=by rw[jE,ao c2];simp
     rw[g];exact S
  ·have z: ¬ m<l.length:=by simpa using t
   have b:l.take m=l:=Ga (by omega);have g:l.drop m=[]:=F5 (by omega);rw[b,g,DM] at S;refine S.en λf S=>k (some ⟨bs,0,none⟩,l.length,cs) [(bs,flat eN (mN l)++rest)] f (S.perm (List.perm_append_singleton _ _)) ⟨(iN l).symm,.inr ⟨bs,rest,rfl,rfl⟩⟩
theorem drop (S:bj Q D G w0 w s L0) (k0:Nat) (d:L0[k0]? =some (bt,oY Q o r gone)) (E:0<=r/\r<4096) {K:Option AC×Nat×Nat->A1->Prop} (k: ∀x rows b,bj Q D G w0 b (cH s r gone) (L0.set k0 (bt,oY Q o r true)++rows)->oq eN rows x (mO s r gone)->K x b):
 az A2 171 (.el (.one .slice)) [ag (af bt)] w K:=by
 refine S.go λw1 S=>ai (C:=N0) (aR:=uN) (AM (R8 _ w1 K) ?_);refine⟨_,S.state k0 d,?_⟩;have F:k0<L0.length:=(B1.1 d).1;cases gone with
 |true=>
  have e:L0.set k0 (bt,oY Q o r true)=L0:=GD (by grind);exact aA rfl (S.en λb S=>k (none,0,0) [] b (by rw[DM,e];exact S) ⟨rfl,.inl ⟨rfl,rfl⟩⟩)
 |false=>
  refine an rfl (S.all k0 d E λx rows b S g=>?_);have I:cH s r false=(s.1,(mO s r false).foldl (λds f=>dL ds f (aO 5 0)) s.2):=ao (by decide);rw[I] at k;have X:(mO s r false).length<=4369:=by
   rw[show mO s r false=mN (cU s.1 3 r) from ao (by decide),iN];exact pW _ _
  generalize mO s r false=l at*
  obtain⟨J,L,M⟩:=x;have N:L=l.length:=g.1;subst N;obtain⟨c,j⟩: ∃c,c=l.foldl (λds f=>dL ds f (aO 5 0)) s.2:=⟨_,rfl⟩;rw[<-j] at k;have p:(L0++rows)[k0]? =some (bt,oY Q o r false):=by grind
  refine⟨λn v w'=> ∃(m:Nat) (ds:List DT),v.1=(m:Int)/\n+m=l.length/\(l.drop m).foldl (λds f=>dL ds f (aO 5 0)) ds=c/\bj Q D G w0 w' (s.1,ds) (L0++rows),⟨l.length,λq O=>⟨0,s.2,rfl,rfl,j.symm,S.ext O⟩⟩,?_⟩;rintro n ⟨v,u⟩ q ⟨m,ds,t,Y,a,S⟩;dsimp only at t ⊢;subst t;refine ab (λh=>?_) (λh=>?_)
  ·have i:m<l.length:=by simpa using h
   have y:=Bx i;obtain⟨f,z⟩: ∃f,f=l[m]:=⟨_,rfl⟩;rw[<-z] at y;rw[FI i, <-z,Gq] at a;obtain⟨g1,P,R,T,ca,la,H⟩:=S;have A:=g.sl H (λx U=>by
    show x∈ _:: _:: _:: _::(L0++rows);simp[U]) m f y
   have S:bj Q D G w0 q (s.1,ds) (L0++rows):=⟨g1,P,R,T,ca,la,H⟩;refine⟨⟨A.1,by omega,by omega⟩,aj.of f A.2 ⟨rfl,rfl,S.cx k0 p rfl (S.Uw f 5 0 λV S=>λB W=>⟨n - 1,by omega,m+1, _,?_,by omega,a,S.ext W⟩)⟩⟩;rw[aw (by omega) (by omega)];omega
  ·have i: ¬ m<l.length:=by simpa using h
   rw[F5 (by omega)] at a;have a:ds=c:=a;subst a;refine⟨rfl,rfl,S.CP k0 p rfl rfl λV S=>S.en λB S=>k (J,l.length,M) rows B ?_ g⟩;rw[List.set_append_left _ _ F] at S;exact S
theorem new (S:bj Q D G w0 w s L0) (o:Int) {K:Option AC×Int×Unit->A1->Prop}
 (f:(s.1.length:Int)<16*(s.2.length:Int)-> ∀a,bj Q D G w0 a s L0->K (none,1,()) a)
 (g: ¬ (s.1.length:Int)<16*(s.2.length:Int)-> ¬ rL s o=0-> ∀a,bj Q D G w0 a (iQ s o λ_=>0) L0->K (none,rL s o,()) a)
 (i: ¬ (s.1.length:Int)<16*(s.2.length:Int)->rL s o=0-> ∀b a,bj Q D G w0 a (iQ s o λ_=>0) ((b,oY Q o (eA s o) false)::L0)->K (some ⟨b,0,none⟩,0,()) a):
 az A2 164 (.bu [.one .ptr,.one (.int .i64)]) [ag (af Q.bm),ag (af Q.bp),aa o] w K:=by
 refine S.go λw1 S=>ai (C:=N0) (aR:=λ_=>[]) (AM (VT _ _ o w1 K) ?_);have h1:=S.pos;have j:=S.Gu;have k:=S.le;have c1:(((s.1.length:Nat):Int)==0)=false:=by grind
 have c2:(((s.2.length:Nat):Int)==0)=false:=by grind
 have h:iB .i64 16 ((s.2.length:Nat):Int)=16*(s.2.length:Int):=eK (by omega) (by omega);refine⟨_,S.aaS, _,λ_=>S.Zd, _,λ_=>S.aaS, _,λ_=>S.Zd,?_⟩;rw[c1,c2,h];refine ab (λc=>S.en λa S=>f (by simpa using c) a S) (λc=>S.al λb a S=>S.abH (r:=0) (gone:=false) 0 rfl λl S=>ab (λd=>S.en λe S=>?_) (λd=>⟨rfl,rfl,S.CP 0 rfl rfl rfl λe S=>S.en (by grind)⟩));exact g (by simpa using c) (by simpa using d) e S.tail
end bj
end
set_option maxRecDepth 100000
open Go.RX
abbrev iR:List Sc:=[.int .u64,.int .i64]
abbrev RS:Type:=Int×Int×Unit
noncomputable def B0:dJ A2:={N0 with quiet:=[]}
theorem V4 (e:Int) (w:A1) (c:RS->A1->Prop):(bS B0 (λ_=>[]) 75 [aa e] w c)=(
 aN w ⟨[ay 0,aa 0]⟩ 61 λb a=>aC a (af b) [ay 0,aa e] λa=>au a λw1=>aj w1 none (af b) cF λ(x:Int×Int×Unit)=>c (x.1,x.2.1,()) w1):=by kernel_rfl
theorem V5 (e:Int) (w:A1):aE A2 75 (.el (.agg iR)) [aa e] w (λx w'=>x=(0,e,())/\Ext w w'):=by
 refine aQ (C:=B0) (aR:=λ_=>[]) (AM (V4 e w _) ?_);have H:=At.start [] w;exact aN.go H λb a H=>aC.all 0 H rfl rfl rfl λc H=>au.go H λd H=>aj.at 0 H rfl (show _=some (0,e,()) from rfl) ⟨rfl,H.all⟩
noncomputable def abO:Entry A2 where
 f:=75
 fn l:=match l with
  |[.int .i64 e]=>some (True,.agg ⟨[.int .u64 0,.int .i64 e]⟩)
  | _=>none
 ok args pre v h a w:=by
  split at h
  ·rename_i e;cases h;exact bV (V5 e w)
  ·cases h
noncomputable def V0:dJ A2:={N0 with sW:=abO::N0.sW,quiet:=[53,19,165,21,179,174,76,77,176,25,62,117,56]}
noncomputable def V1:dJ A2:={V0 with dyn:=some (.el (.agg iR))}
theorem Mq (p:Option AC) (w:A1) (a:Bool->A1->Prop):(aK V0 (λ_=>[]) 53 [ag p] w a)=(
 ((!p.isNone)=true->p.isSome=true)/\((!p.isNone)=true->p.isSome=true)/\aj w (some !p.isNone) (ad p 0) kM λx=>au w (a (!p.isNone&& !x.isNone))):=by kernel_rfl
theorem Sb (p:Option AC) (v:Int) (w:A1) (a:Bool->A1->Prop):(aK V0 (λ_=>[]) 19 [ag p,aa v] w a)=(
 ∃x,ae A2 53 [ag p] w (.bool x)/\((x&&decide (v>=1)&&decide (v<=16))=true->p.isSome=true)/\((x&&decide (v>=1)&&decide (v<=16))=true->p.isSome=true)/\((x&&decide (v>=1)&&decide (v<=16))=true->(ad p 4).isSome=true/\0<=v/\v<(↑17:Int))/\aj w (some (x&&decide (v>=1)&&decide (v<=16))) (ad (ad p 4) (v.toNat*1)) kM λb=>au w (a (x&&decide (v>=1)&&decide (v<=16)&& !b.isNone))):=by kernel_rfl
theorem Ms (p:Option AC) (a:Int) (w:A1) (b:Bool->A1->Prop):(aK V0 (λ_=>[]) 165 [ag p,ay a] w b)=(
 ∃x,(decide (a<=16)=true->ae A2 19 [ag p,aa (aD .i64 a)] w (.bool x))/\au w (b (decide (a<=16)&&x))):=by kernel_rfl
theorem Se (p:Option AC) (v:Int) (w:A1) (a:Int->A1->Prop):(aK V0 (λ_=>[]) 21 [ag p,aa v] w a)=(
 ∃x,ae A2 19 [ag p,aa v] w (.bool x)/\aI (!x) (au w (a (-1))) (p.isSome=true/\p.isSome=true/\((ad p 4).isSome=true/\0<=v/\v<(↑17:Int))/\gi w (ad (ad p 4) (v.toNat*1)) λx=>bG x 0 w λx=> ∃(b:Int),ae A2 56 [ag x] w (aa b)/\au w (a b))):=by kernel_rfl
theorem Mt (p:Option AC) (v g:Int) (w:A1) (a:Int×Int×Int×Unit->A1->Prop):(aK V0 (λ_=>[]) 81 [ag p,aa v,aa g] w a)=(
 ∃x,ae A2 53 [ag p] w (.bool x)/\aI (!x) (au w (a (0,0,10,()))) (∃x,ae A2 19 [ag p,aa v] w (.bool x)/\aI (!x) (au w (a (0,0,4,()))) (p.isSome=true/\p.isSome=true/\((ad p 4).isSome=true/\0<=v/\v<(↑17:Int))/\gi w (ad (ad p 4) (v.toNat*1)) λx=>bG x 0 w λx=>az A2 139 (.bu [.one (.int .i64),.one (.int .i64),.one (.int .i64)]) [ag x,aa g] w λ(x:Int×Int×Int×Unit) b=>au b (a (x.1,x.2.1,x.2.2.1,()))))):=by kernel_rfl
theorem Mv (p:Option AC) (v g:Int) (w:A1) (d:Int×Bool×Unit->A1->Prop):(aK V0 (λ_=>[]) 174 [ag p,aa v,aa g] w d)=(
 ∃x,ae A2 19 [ag p,aa v] w (.bool x)/\aI (!x) (au w (d (0,false,()))) (p.isSome=true/\p.isSome=true/\((ad p 4).isSome=true/\0<=v/\v<(↑17:Int))/\gi w (ad (ad p 4) (v.toNat*1)) λx=>tu x 1 w λx=> ∃(a:Int×Int×Unit), ∃(b:Bool),mr w x .i64 g (.agg ⟨[aa 0,aa 0]⟩) (.agg ⟨[aa a.1,aa a.2.1]⟩) b/\aN w ⟨[aa 0,aa 0]⟩ 263 λe c=>aC c (af e) [aa a.1,aa a.2.1] λc=>true=true/\aU c (ad (af e) 0) λx=>au c (d (x,
 b,())))):=by kernel_rfl
theorem HY (p:Option AC) (w:A1) (a:Option AC->A1->Prop):(aK V0 (λ_=>[]) 18 [ag p] w a)=(
 ∃x,ae A2 53 [ag p] w (.bool x)/\aI (!x) (au w (a none)) (bG p 1 w λx=>az A2 54 (.el kM) [ag x] w λx b=>au b (a x))):=by kernel_rfl
theorem HZ (p:Option AC) (w:A1) (a:Option AC->A1->Prop):(aK V0 (λ_=>[]) 23 [ag p] w a)=(
 ∃x,ae A2 53 [ag p] w (.bool x)/\aI (!x) (au w (a none)) (bG p 0 w λx=>au w (a x))):=by kernel_rfl
theorem Sf (p:Option AC) (f:Int) (w:A1) (d:Int->A1->Prop):(aK V0 (λ_=>[]) 43 [ag p,aa f] w d)=(
 ∃x,ae A2 53 [ag p] w (.bool x)/\aI (!x) (au w (d 10)) (bG p 1 w λx=> ∃(a:(Int×Int×Int×Int×Unit)×Bool×Unit),ae A2 25 [ag x,aa f] w (.tuple {toList:=[.agg ⟨[aa a.1.1,aa a.1.2.1,aa a.1.2.2.1,aa a.1.2.2.2.1]⟩,.bool a.2.1]})/\aN w ⟨[aa 0,aa 0,aa 0,aa 0]⟩ 52 λb c=>aC c (af b) [aa a.1.1,aa a.1.2.1,aa a.1.2.2.1,aa a.1.2.2.2.1] λc=>aI (!a.2.1) (au c (d 2)) (true=true/\aU c (ad (af
 b) 0) λx=>aI (x != 5) (au c (d 6)) (bG p 1 c λx=>az A2 79 (.el aS) [ag x,aa f] c λ(x:Int) c=>au c (d x))))):=by kernel_rfl
theorem Mw (p:Option AC) (v a:Int) (w:A1) (b:Int->A1->Prop):(aK V0 (λ_=>[]) 179 [ag p,aa v,ay a] w b)=(
 aI (decide (a<1)||decide (a>16)||aD .i64 a==v) (au w (b 1)) (∃x,ae A2 165 [ag p,ay a] w (.bool x)/\aI (!x) (au w (b 4)) (au w (b 0)))):=by kernel_rfl
theorem Sg (p:Option AC) (v a t:Int) (w:A1) (d:Int×Int×Unit->A1->Prop):(aK V0 (λ_=>[]) 178 [ag p,aa v,ay a,aa t] w d)=(
 aI (decide (a>=1048576)) (au w (d (0,2,()))) (bG p 0 w λx=> ∃(e:Int),ae A2 21 [ag p,aa v] w (aa e)/\(az A2 223 (.el dR) [ag x,aa e,aa (aD .i64 (tj .u64 a 16)),aa t] w λ(x:Int×Int×Int×Int×Unit) c=>aN c ⟨[aa 0,aa 0,aa 0,aa 0]⟩ 48 λb c=>aC c (af b) [aa x.1,aa x.2.1,aa x.2.2.1,aa x.2.2.2.1] λc=>true=true/\aU c (ad (af b) 0) λx=>true=true/\aU c (ad (af b) 3) λf=>au
 c λw1=>d (aH .i64 (iB .i64 16 x) (aD .i64 (dX a 16)),f,()) w1)/\aN w ⟨[aa 0,aa 0,aa 0,aa 0]⟩ 48 λb c=>az A2 223 (.el dR) [ag x,aa e,aa (aD .i64 (tj .u64 a 16)),aa t] c λ(x:Int×Int×Int×Int×Unit) c=>aC c (af b) [aa x.1,aa x.2.1,aa x.2.2.1,aa x.2.2.2.1] λc=>true=true/\aU c (ad (af b) 0) λx=>true=true/\aU c (ad (af b) 3) λf=>au c λw1=>d (aH .i64 (iB .i64 16 x) (aD .i64 (dX a 16)),
 f,()) w1)):=by kernel_rfl
def rD:Nat->a6:=(λ|3=>[(3,Go.RX.El.one (Go.RX.Sc.int AY))]| _=>[])
theorem My (p:Option AC) (w:A1) (c:Int->A1->Prop):(aK V0 rD 168 [ag p] w c)=(
 tu p 1 w λx=>RgP w x λb a=> ∃(I:Nat->Int×Unit->A1->Prop),(∃n, ∀w1,Ext a w1->I n (65536,()) w1)/\ ∀(n:Nat) (s:Int×Unit) (w1:A1),I n s w1->NxP w1 (af b) (λa=>au a (c s.1)) λ(k v:AL) a=> ∃(x:Int), ∃(v:AL),AE a (af b) (aa x) v/\ ∀d,Ext a d-> ∃(e:Nat),e<n/\I e (kK s.1 x,()) d):=by kernel_rfl
def uO:Nat->a6:=(λ_=>[])
theorem Si (p:Option AC) (v g:Int) (w:A1) (d:Unit->A1->Prop):(aK V0 uO 167 [ag p,aa v,aa g] w d)=(
 p.isSome=true/\p.isSome=true/\((ad p 4).isSome=true/\0<=v/\v<(↑17:Int))/\gi w (ad (ad p 4) (v.toNat*1)) λx=>tu x 1 w λf=> ∃(c:Int×Int×Unit),jU w f .i64 g (.agg ⟨[aa 0,aa 0]⟩) (.agg ⟨[aa c.1,aa c.2.1]⟩)/\aN w ⟨[aa 0,aa 0]⟩ 263 λb a=>aC a (af b) [aa c.1,aa c.2.1] λa=>tu x 1 a λh=> ∀w1,Ext a w1-> ∃(r:Nat), ∃(es:Array AP), ∃(e:Nat),h=some r/\bF w1 r es e/\AD w1 r .i64 g es e λa=>bG x 0 a λx=>az
 A2 175 (.bu [.one (.int .i64),.one (.int .i64)]) [ag x,aa g] a λ(x:Int×Int×Unit) a=>bG p 1 a λx=>true=true/\aU a (ad (af b) 1) λi=>az A2 183 (.el aS) [ag x,aa i,aa (-1)] a λ(x:Int) a=>bG p 2 a λx=>true=true/\aU a (ad (af b) 0) λj=>az A2 182 (.el aS) [ag x,aa j,aa v] a λ(x:Int) a=>au a (d ())):=by kernel_rfl
theorem V6 (n:Int) (w:A1) (c:Option AC×Int×Unit->A1->Prop):(aK V0 (λ_=>[]) 40 [aa n] w c)=(
 aI (decide (n<4)||decide (n>4096)) (au w (c (none,1,()))) (aN w {toList:=[ag none,ag none,ag none,ag none,ag none,ag none,ag none,ag none,ag none,ag none,ag none,ag none,ag none,ag none,ag none,ag none,ag none,ag none,ag none,ag none,ag none]} 115 λb a=>az A2 33 (.bu [.one .ptr,.one (.int .i64)]) [aa (iB .i64 16 n)] a λ(x:Option AC×Int×Unit) a=>true=true/\true=true/\aC a (ad
 (af b) 0) [ag x.1] λa=>az A2 72 (.bu [.one .ptr,.one (.int .i64)]) [aa n] a λ(x:Option AC×Int×Unit) a=>true=true/\true=true/\aC a (ad (af b) 1) [ag x.1] λa=>az A2 73 (.bu [.one .ptr,.one (.int .i64)]) [aa 16] a λ(x:Option AC×Int×Unit) a=>true=true/\true=true/\aC a (ad (af b) 2) [ag x.1] λa=>az A2 74 (.bu [.one .ptr,.one (.int .i64)]) [aa 4] a λ(x:Option AC×Int×Unit) a=>true=true/\true=true/\aC a (ad (af b) 3) [ag x.1] λ
 a=>au a (c (some ⟨b,0,none⟩,0,())))):=by kernel_rfl
theorem Mz (w:A1) (u:Option Nat->A1->Prop):(aK V0 (λ_=>[]) 78 [] w u)=(
 ∀w1,Ext w w1-> ∀c,Ext (w1.alloc (Obj.map ⟨[]⟩ 0)) c-> ∃(r:Nat), ∃(es:Array AP), ∃(a:Nat),some w1.heap.size=some r/\bF c r es a/\gX c r .i64 1 (.func (.func 121) ⟨[]⟩ ⟨[]⟩) es a λb=> ∀d,Ext b d-> ∃(r:Nat), ∃(es:Array AP), ∃(a:Nat),some w1.heap.size=some r/\bF d r es a/\gX d r .i64 2 (.func (.func 122) ⟨[]⟩ ⟨[]⟩) es a λb=> ∀e,Ext b e-> ∃(r:Nat), ∃(es:Array AP), ∃(a:Nat),some w1.heap.size=some r/\bF e r es a/\gX e r .i64 17 (.func (.func
 123) ⟨[]⟩ ⟨[]⟩) es a λb=> ∀f,Ext b f-> ∃(r:Nat), ∃(es:Array AP), ∃(a:Nat),some w1.heap.size=some r/\bF f r es a/\gX f r .i64 3 (.func (.func 124) ⟨[]⟩ ⟨[]⟩) es a λb=> ∀g,Ext b g-> ∃(r:Nat), ∃(es:Array AP), ∃(a:Nat),some w1.heap.size=some r/\bF g r es a/\gX g r .i64 4 (.func (.func 125) ⟨[]⟩ ⟨[]⟩) es a λb=> ∀h,Ext b h-> ∃(r:Nat), ∃(es:Array AP), ∃(a:Nat),some w1.heap.size=some r/\bF h r es a/\gX h r .i64 5 (.func (.func 126) ⟨[]⟩
 ⟨[]⟩) es a λb=> ∀i,Ext b i-> ∃(r:Nat), ∃(es:Array AP), ∃(a:Nat),some w1.heap.size=some r/\bF i r es a/\gX i r .i64 6 (.func (.func 127) ⟨[]⟩ ⟨[]⟩) es a λb=> ∀j,Ext b j-> ∃(r:Nat), ∃(es:Array AP), ∃(a:Nat),some w1.heap.size=some r/\bF j r es a/\gX j r .i64 7 (.func (.func 128) ⟨[]⟩ ⟨[]⟩) es a λb=> ∀k,Ext b k-> ∃(r:Nat), ∃(es:Array AP), ∃(a:Nat),some w1.heap.size=some r/\bF k r es a/\gX k r .i64 8 (.func (.func 129) ⟨[]⟩ ⟨[]⟩) es
 a λb=> ∀l,Ext b l-> ∃(r:Nat), ∃(es:Array AP), ∃(a:Nat),some w1.heap.size=some r/\bF l r es a/\gX l r .i64 9 (.func (.func 130) ⟨[]⟩ ⟨[]⟩) es a λb=> ∀m,Ext b m-> ∃(r:Nat), ∃(es:Array AP), ∃(a:Nat),some w1.heap.size=some r/\bF m r es a/\gX m r .i64 10 (.func (.func 131) ⟨[]⟩ ⟨[]⟩) es a λb=> ∀n,Ext b n-> ∃(r:Nat), ∃(es:Array AP), ∃(a:Nat),some w1.heap.size=some r/\bF n r es a/\gX n r .i64 11 (.func (.func 132) ⟨[]⟩ ⟨[]⟩)
 es a λb=> ∀o,Ext b o-> ∃(r:Nat), ∃(es:Array AP), ∃(a:Nat),some w1.heap.size=some r/\bF o r es a/\gX o r .i64 12 (.func (.func 133) ⟨[]⟩ ⟨[]⟩) es a λb=> ∀p,Ext b p-> ∃(r:Nat), ∃(es:Array AP), ∃(a:Nat),some w1.heap.size=some r/\bF p r es a/\gX p r .i64 13 (.func (.func 134) ⟨[]⟩ ⟨[]⟩) es a λb=> ∀q,Ext b q-> ∃(r:Nat), ∃(es:Array AP), ∃(a:Nat),some w1.heap.size=some r/\bF q r es a/\gX q r .i64 14 (.func (.func 135) ⟨[]⟩
 ⟨[]⟩) es a λb=> ∀s,Ext b s-> ∃(r:Nat), ∃(es:Array AP), ∃(a:Nat),some w1.heap.size=some r/\bF s r es a/\gX s r .i64 15 (.func (.func 136) ⟨[]⟩ ⟨[]⟩) es a λb=> ∀t,Ext b t-> ∃(r:Nat), ∃(es:Array AP), ∃(a:Nat),some w1.heap.size=some r/\bF t r es a/\gX t r .i64 16 (.func (.func 137) ⟨[]⟩ ⟨[]⟩) es a λb=>au b (u (some w1.heap.size))):=by kernel_rfl
def oC:Nat->a6:=(λ|2=>[(7,Go.RX.El.one (Go.RX.Sc.int AY))]| _=>[])
theorem FA (p:Option AC) (v k a b c:Int) (w:A1) (e:RS->A1->Prop):(bS V0 oC 121 [ag p,aa v,.agg ⟨[aa k,ay a,ay b,ay c]⟩] w e)=(
 aN w ⟨[aa k,ay a,ay b,ay c]⟩ 31 λb d=>aN d ⟨[ay 0,aa 0]⟩ 61 λb d=> ∃(I:Nat->Int×Unit->A1->Prop),(∃n, ∀w1,Ext d w1->I n (1,()) w1)/\ ∀(n:Nat) (s:Int×Unit) (w1:A1),I n s w1->aI (decide (s.1<=16)) (p.isSome=true/\p.isSome=true/\((ad p 4).isSome=true/\0<=s.1/\s.1<(↑17:Int))/\gi w1 (ad (ad p 4) (Ap s.1*1)) λx=>aI (!x.isNone) (∀f,Ext w1 f-> ∃(g:Nat),g<n/\I g (aH .i64 s.1 1,()) f) (bG p 0 w1 λx=>bG p 1 w1 λh=>az
 A2 164 (.bu [.one .ptr,.one (.int .i64)]) [ag x,ag h,aa s.1] w1 λ(x:Option AC×Int×Unit) d=>aI (x.2.1==0) (∀w1,Ext d w1->aN (w1.alloc (Obj.map ⟨[]⟩ 0)) ⟨[ag x.1,.map (some w1.heap.size)]⟩ 121 λi d=>p.isSome=true/\p.isSome=true/\((ad p 4).isSome=true/\0<=s.1/\s.1<(↑17:Int))/\aC d (ad (ad p 4) (Ap s.1*1)) [ag (af i)] λd=>aC d (af b) [ay (aD .u64 s.1),aa x.2.1] λd=>au d λw1=>aj w1 none (af b) cF λ(x:Int×Int×Unit)=>e (x.1,x.2.1,
 ()) w1) (aC d (af b) [ay (aD .u64 s.1),aa x.2.1] λd=>au d λw1=>aj w1 none (af b) cF λ(x:Int×Int×Unit)=>e (x.1,x.2.1,()) w1))) (True/\aC w1 (af b) [ay 0,aa 3] λd=>au d λw1=>aj w1 none (af b) cF λ(x:Int×Int×Unit)=>e (x.1,x.2.1,()) w1)):=by kernel_rfl
def ni:Nat->a6:=(λ|5=>[(34,Go.RX.El.one (Go.RX.Sc.int AY))]|12=>[]|19=>[(13,Go.RX.El.one (Go.RX.Sc.int AY)),(93,Go.RX.El.one (Go.RX.Sc.int AY))]| _=>[])
theorem Dq (p:Option AC) (v k a b c:Int) (w:A1) (l:RS->A1->Prop):(bS V0 ni 122 [ag p,aa v,.agg ⟨[aa k,ay a,ay b,ay c]⟩] w l)=(
 aN w ⟨[aa k,ay a,ay b,ay c]⟩ 31 λb d=>aN d ⟨[ay 0,aa 0]⟩ 61 λi d=>true=true/\cM d (ad (af b) 1) λx=> ∃r,ae A2 165 [ag p,ay x] d (.bool r)/\aI (!r) (True/\aC d (af i) [ay 0,aa 4] λd=>au d λw1=>aj w1 none (af i) cF λ(x:Int×Int×Unit)=>l (x.1,x.2.1,()) w1) (true=true/\cM d (ad (af b) 1) λx=>bG p 1 d λz=>az A2 166 (.el eY) [ag z,aa (aD .i64 x)] d λm d=> ∃(I:Nat->
 Int×Unit->A1->Prop),(∃n, ∀w1,Ext d w1->I n (0,()) w1)/\ ∀(n:Nat) (s:Int×Unit) (w1:A1),I n s w1->aI (decide (s.1<(↑m.2.1:Int))) ((m.1.isSome=true/\0<=s.1/\s.1<(↑m.2.1:Int))/\aU w1 (ad m.1 (Ap s.1*1)) λx=>bG p 1 w1 λj=> ∃(e:(Int×Int×Int×Int×Unit)×Bool×Unit),ae A2 25 [ag j,aa x] w1 (.tuple {toList:=[.agg ⟨[aa e.1.1,aa e.1.2.1,aa e.1.2.2.1,aa e.1.2.2.2.1]⟩,.bool e.2.1]})/\aN w1 ⟨[aa 0,aa 0,aa 0,.int
 .i64 0]⟩ 52 λb d=>aC d (af b) [aa e.1.1,aa e.1.2.1,aa e.1.2.2.1,aa e.1.2.2.2.1] λd=>true=true/\aU d (ad (af b) 2) λx=>aI (decide (x>0)) (True/\aC d (af i) [ay 0,aa 9] λd=>au d λw1=>aj w1 none (af i) cF λ(x:Int×Int×Unit)=>l (x.1,x.2.1,()) w1) (∀f,Ext d f-> ∃(g:Nat),g<n/\I g (aH .i64 s.1 1,()) f)) (p.isSome=true/\p.isSome=true/\((ad p 4).isSome=true/\0<=aD .i64 x/\aD .i64 x<(↑17:Int))/\aj w1 none (ad (ad p 4)
 ((aD .i64 x).toNat*1)) kM λj=> ∃(I:Nat->Unit->A1->Prop),(∃n, ∀t,Ext w1 t->I n () t)/\ ∀(n:Nat) (s:Unit) (w1:A1),I n s w1->tu j 1 w1 λe=> ∃u,Uo w1 e u/\aI (decide ((↑u:Int)>0)) (az A2 168 (.el aS) [ag j] w1 λ(q:Int) d=>az A2 167 (.bu []) [ag p,aa (aD .i64 x),aa q] d λx d=> ∀f,Ext d f-> ∃(g:Nat),g<n/\I g () f) (bG p 2 w1 λq=>az A2 169 (.el aS) [ag q,aa (aD .i64 x)] w1 λ(G:Int)
 d=>bG p 3 d λA=>az A2 170 (.el aS) [ag A,aa (aD .i64 x)] d λ(H:Int) d=>bG j 0 d λB=>az A2 171 (.el eY) [ag B] d λJ d=>bG p 1 d λC=>az A2 166 (.el eY) [ag C,aa (aD .i64 x)] d λo d=> ∃(I:Nat->Int×Int×Unit->A1->Prop),(∃n, ∀w1,Ext d w1->I n (0,0,()) w1)/\ ∀(n:Nat) (s:Int×Int×Unit) (w1:A1),I n s w1->aI (decide (s.2.1<(↑o.2.1:Int))) ((o.1.isSome=true/\0<=s.2.1/\s.2.1<(↑o.2.1:Int))/\aU w1
 (ad o.1 (Ap s.2.1*1)) λy=>bG p 1 w1 λD=> ∃(h:(Int×Int×Int×Int×Unit)×Bool×Unit),ae A2 25 [ag D,aa y] w1 (.tuple {toList:=[.agg ⟨[aa h.1.1,aa h.1.2.1,aa h.1.2.2.1,aa h.1.2.2.2.1]⟩,.bool h.2.1]})/\aN w1 ⟨[aa 0,aa 0,aa 0,aa 0]⟩ 52 λb d=>aC d (af b) [aa h.1.1,aa h.1.2.1,aa h.1.2.2.1,aa h.1.2.2.2.1] λd=>true=true/\aU d (ad (af b) 0) λE=>aI (E==4) (bG p 1
 d λF=>az A2 138 (.el aS) [ag F,aa y,aa 5,aa (aD .i64 x)] d λ(x:Int) d=> ∀f,Ext d f-> ∃(g:Nat),g<n/\I g (aH .i64 s.1 1,aH .i64 s.2.1 1,()) f) (∀f,Ext d f-> ∃(g:Nat),g<n/\I g (s.1,aH .i64 s.2.1 1,()) f)) (p.isSome=true/\p.isSome=true/\((ad p 4).isSome=true/\0<=aD .i64 x/\aD .i64 x<(↑17:Int))/\aC w1 (ad (ad p 4) ((aD .i64 x).toNat*1)) [ag none] λd=>aC d (af i) [ay (aD .u64 s.1),aa 0] λd=>au d λw1
 =>aj w1 none (af i) cF λ(x:Int×Int×Unit)=>l (x.1,x.2.1,()) w1))))):=by kernel_rfl
def qb:Nat->a6:=(λ|3=>[(7,Go.RX.El.one (Go.RX.Sc.int AY)),(14,Go.RX.El.one (Go.RX.Sc.int AY))]| _=>[])
theorem H_ (p:Option AC) (v k a b c:Int) (w:A1) (g:RS->A1->Prop):(bS V0 qb 123 [ag p,aa v,.agg ⟨[aa k,ay a,ay b,ay c]⟩] w g)=(
 aN w ⟨[aa k,ay a,ay b,ay c]⟩ 31 λb d=>aN d ⟨[ay 0,aa 0]⟩ 61 λb d=>bG p 1 d λx=> ∃(h:Int),ae A2 62 [ag x] d (aa h)/\ ∃(I:Nat->Int×Int×Unit->A1->Prop),(∃n, ∀w1,Ext d w1->I n (0,0,()) w1)/\ ∀(n:Nat) (s:Int×Int×Unit) (w1:A1),I n s w1->aI (decide (s.2.1<h)) (az A2 43 (.el aS) [ag p,aa s.2.1] w1 λ(x:Int) d=>aI (x==0) (∀e,Ext d e-> ∃(f:Nat),f<n/\I f (aH .i64 s.1 1,aH .i64 s.2.1 1,()) e)
 (∀e,Ext d e-> ∃(f:Nat),f<n/\I f (s.1,aH .i64 s.2.1 1,()) e)) (aC w1 (af b) [ay (aD .u64 s.1),aa 0] λd=>au d λw1=>aj w1 none (af b) cF λ(x:Int×Int×Unit)=>g (x.1,x.2.1,()) w1)):=by kernel_rfl
def oD:Nat->a6:=(λ|13=>[(66,Go.RX.El.one (Go.RX.Sc.int AY))]| _=>[])
abbrev gA (a:RS->A1->Prop) (b:A1) (c:Nat):Prop:=
 au b λw1=>aj w1 none (af c) cF λ(x:Int×Int×Unit)=>a (x.1,x.2.1,()) w1
theorem FB (p:Option AC) (v k a b c:Int) (w:A1) (f:RS->A1->Prop):(bS V0 oD 124 [ag p,aa v,.agg ⟨[aa k,ay a,ay b,ay c]⟩] w f)=(
 aN w ⟨[aa k,ay a,ay b,ay c]⟩ 31 λb d=>aN d ⟨[ay 0,aa 0]⟩ 61 λe d=>true=true/\cM d (ad (af b) 1) λx=>aI (decide (x>=65536)) (True/\aC d (af e) [ay 0,aa 2] λd=>gA f d e) (true=true/\cM d (ad (af b) 2) λx=>((!decide (x<1))=true->true=true)/\aj d (some !decide (x<1)) (ad (af b) 2) qN λ(l:Int)=>aI (decide (x<1)||decide (l>7)) (True/\aC d (af e) [ay 0,aa 7] λd=>gA f d e) (bG p 1 d
 λx=>az A2 172 (.bu [.one (.int .i64),.one (.int .i64)]) [ag x,aa 4,aa v] d λ(x:Int×Int×Unit) d=>aI (x.2.1 != 0) (True/\aC d (af e) [ay 0,aa x.2.1] λd=>gA f d e) (p.isSome=true/\p.isSome=true/\((ad p 4).isSome=true/\0<=v/\v<(↑17:Int))/\gi d (ad (ad p 4) (v.toNat*1)) λm=>bG m 0 d λo=>true=true/\cM d (ad (af b) 1) λq=>true=true/\cM d (ad (af b) 2) λr=>az A2 173 (.el aS) [ag o,aa (aD .i64 q),
 aa x.1,aa (aD .i64 r)] d λ(h:Int) d=>aI (h != 0) (bG p 1 d λg=>az A2 79 (.el aS) [ag g,aa x.1] d λ(x:Int) d=>True/\aC d (af e) [ay 0,aa h] λd=>gA f d e) (∃(I:Nat->Int×Unit->A1->Prop),(∃n, ∀w1,Ext d w1->I n (0,()) w1)/\ ∀(n:Nat) (s:Int×Unit) (w1:A1),I n s w1->aI (decide (s.1<16)) (bG p 0 w1 λg=>az A2 38 (.el aS) [ag g,aa (aH .i64 (iB .i64 16 x.1) s.1),ay 0] w1 λ(x:Int) d=> ∀
 i,Ext d i-> ∃(j:Nat),j<n/\I j (aH .i64 s.1 1,()) i) (aC w1 (af e) [ay (aD .u64 x.1),aa 0] λd=>gA f d e)))))):=by kernel_rfl
abbrev fM (a:RS->A1->Prop) (b:A1) (c:Nat):Prop:=
 au b λw1=>aj w1 none (af c) cF λ(x:Int×Int×Unit)=>a (x.1,x.2.1,()) w1
theorem Dr (p:Option AC) (v k a b c:Int) (w:A1) (g:RS->A1->Prop):(bS V0 (λ_=>[]) 125 [ag p,aa v,.agg ⟨[aa k,ay a,ay b,ay c]⟩] w g)=(
 aN w ⟨[aa k,ay a,ay b,ay c]⟩ 31 λb d=>aN d ⟨[ay 0,aa 0]⟩ 61 λe d=>true=true/\cM d (ad (af b) 1) λx=>aI (decide (x>=65536)) (True/\aC d (af e) [ay 0,aa 2] λd=>fM g d e) (true=true/\cM d (ad (af b) 1) λx=>az A2 81 (.bu [.one (.int .i64),.one (.int .i64),.one (.int .i64)]) [ag p,aa v,aa (aD .i64 x)] d λ(h:Int×Int×Int×Unit) d=>aI (h.2.2.1 != 0) (True/\aC d (af e) [ay 0,aa h.2.2.1]
 λd=>fM g d e) (∃(i:Int×Bool×Unit),ae A2 174 [ag p,aa v,aa (aD .i64 x)] d (.tuple ⟨[aa i.1,.bool i.2.1]⟩)/\aI i.2.1 (True/\aC d (af e) [ay 0,aa 7] λd=>fM g d e) (bG p 1 d λj=> ∃(f:(Int×Int×Int×Int×Unit)×Bool×Unit),ae A2 25 [ag j,aa h.1] d (.tuple {toList:=[.agg ⟨[aa f.1.1,aa f.1.2.1,aa f.1.2.2.1,aa f.1.2.2.2.1]⟩,.bool f.2.1]})/\aN d ⟨[aa 0,aa 0,
 aa 0,aa 0]⟩ 52 λb d=>aC d (af b) [aa f.1.1,aa f.1.2.1,aa f.1.2.2.1,aa f.1.2.2.2.1] λd=>true=true/\aU d (ad (af b) 2) λl=>aI (decide (l>0)) (True/\aC d (af e) [ay 0,aa 9] λd=>fM g d e) (p.isSome=true/\p.isSome=true/\((ad p 4).isSome=true/\0<=v/\v<(↑17:Int))/\gi d (ad (ad p 4) (v.toNat*1)) λm=>bG m 0 d λn=>az A2 175 (.bu [.one (.int .i64),.one (.int .i64)]) [ag n,aa (aD .i64 x)] d λ(x
 :Int×Int×Unit) d=>bG p 1 d λx=>az A2 138 (.el aS) [ag x,aa h.1,aa 5,aa v] d λ(x:Int) d=>aC d (af e) [ay (aD .u64 h.1),aa 0] λd=>fM g d e))))):=by kernel_rfl
abbrev kq (a:RS->A1->Prop) (b:A1) (c:Nat):Prop:=
 au b λw1=>aj w1 none (af c) cF λ(x:Int×Int×Unit)=>a (x.1,x.2.1,()) w1
abbrev oE (p:Option AC) (v:Int) (e:RS->A1->Prop) (a:A1) (c:Nat) (d:Nat):Prop:=
 p.isSome=true/\p.isSome=true/\((ad p 4).isSome=true/\0<=v/\v<(↑17:Int))/\gi a (ad (ad p 4) (v.toNat*1)) λx=>bG x 0 a λx=>true=true/\cM a (ad (af c) 1) λf=>true=true/\cM a (ad (af c) 2) λg=>az A2 177 (.el aS) [ag x,aa (aD .i64 f),aa (aD .i64 g)] a λ(x:Int) b=>True/\aC b (af d) [ay 0,aa x] λb=>kq e b d
abbrev oF (b:RS->A1->Prop) (c:A1) (a:Nat):Prop:=
 True/\aC c (af a) [ay 0,aa 7] λd=>kq b d a
theorem Ds (p:Option AC) (v k a b c:Int) (w:A1) (f:RS->A1->Prop):(bS V0 (λ_=>[]) 126 [ag p,aa v,.agg ⟨[aa k,ay a,ay b,ay c]⟩] w f)=(
 aN w ⟨[aa k,ay a,ay b,ay c]⟩ 31 λb d=>aN d ⟨[ay 0,aa 0]⟩ 61 λg d=>true=true/\cM d (ad (af b) 1) λx=>aI (decide (x>=65536)) (True/\aC d (af g) [ay 0,aa 2] λd=>kq f d g) (true=true/\cM d (ad (af b) 2) λx=>((!decide (x<1))=true->true=true)/\aj d (some !decide (x<1)) (ad (af b) 2) qN λ(j:Int)=>aI (decide (x<1)||decide (j>7)) (oF f d g) (true=true/\cM d (ad (af b) 1) λx=> ∃(h:Int×Bool×
 Unit),ae A2 174 [ag p,aa v,aa (aD .i64 x)] d (.tuple ⟨[aa h.1,.bool h.2.1]⟩)/\(h.2.1=true->true=true)/\aj d (some h.2.1) (ad (af b) 2) qN λ(x:Int)=>aI (h.2.1&&decide (xB .u64 x 2>0)) (bG p 2 d λx=> ∃(e:(Int×Int×Int×Bool×Int×Unit)×Bool×Unit),ae A2 176 [ag x,aa h.1] d (.tuple {toList:=[.agg ⟨[aa e.1.1,aa e.1.2.1,aa e.1.2.2.1,.bool e.1.2.2.2.1,aa e.1.2.2.2.2.1]⟩,.bool e.2.1]})/\aN d ⟨[aa 0,.int .i64
 0,aa 0,.bool false,aa 0]⟩ 255 λi d=>aC d (af i) [aa e.1.1,aa e.1.2.1,aa e.1.2.2.1,.bool e.1.2.2.2.1,aa e.1.2.2.2.2.1] λd=>true=true/\tr d (ad (af i) 3) λx=>aI (!x) (oF f d g) (oE p v f d b g)) (oE p v f d b g)))):=by kernel_rfl
theorem MC (p:Option AC) (v k a b c:Int) (w:A1) (f:RS->A1->Prop):(bS V0 (λ_=>[]) 127 [ag p,aa v,.agg ⟨[aa k,ay a,ay b,ay c]⟩] w f)=(
 aN w ⟨[aa k,ay a,ay b,ay c]⟩ 31 λb d=>aN d ⟨[ay 0,aa 0]⟩ 61 λe d=>true=true/\cM d (ad (af b) 1) λx=>az A2 178 (.bu [.one (.int .i64),.one (.int .i64)]) [ag p,aa v,ay x,aa 1] d λ(x:Int×Int×Unit) d=>aI (x.2.1 != 0) (True/\aC d (af e) [ay 0,aa x.2.1] λd=>au d λw1=>aj w1 none (af e) cF λ(x:Int×Int×Unit)=>f (x.1,x.2.1,()) w1) (bG p 0 d λg=>az A2 37 (.bu [.one (.int .u64),.one (.int
 .i64)]) [ag g,aa x.1] d λ(x:Int×Int×Unit) d=>aC d (af e) [ay x.1,aa x.2.1] λd=>au d λw1=>aj w1 none (af e) cF λ(x:Int×Int×Unit)=>f (x.1,x.2.1,()) w1)):=by kernel_rfl
theorem Ia (p:Option AC) (v k a b c:Int) (w:A1) (f:RS->A1->Prop):(bS V0 (λ_=>[]) 128 [ag p,aa v,.agg ⟨[aa k,ay a,ay b,ay c]⟩] w f)=(
 aN w ⟨[aa k,ay a,ay b,ay c]⟩ 31 λb d=>aN d ⟨[ay 0,aa 0]⟩ 61 λe d=>true=true/\cM d (ad (af b) 1) λx=>az A2 178 (.bu [.one (.int .i64),.one (.int .i64)]) [ag p,aa v,ay x,aa 2] d λ(x:Int×Int×Unit) d=>aI (x.2.1 != 0) (True/\aC d (af e) [ay 0,aa x.2.1] λd=>au d λw1=>aj w1 none (af e) cF λ(x:Int×Int×Unit)=>f (x.1,x.2.1,()) w1) (bG p 0 d λg=>true=true/\cM d (ad (af b) 2) λh=>az
 A2 38 (.el aS) [ag g,aa x.1,ay h] d λ(x:Int) d=>True/\aC d (af e) [ay 0,aa x] λd=>au d λw1=>aj w1 none (af e) cF λ(x:Int×Int×Unit)=>f (x.1,x.2.1,()) w1)):=by kernel_rfl
abbrev iw (a:RS->A1->Prop) (b:A1) (c:Nat):Prop:=
 au b λw1=>aj w1 none (af c) cF λ(x:Int×Int×Unit)=>a (x.1,x.2.1,()) w1
theorem Ib (p:Option AC) (v k a b c:Int) (w:A1) (f:RS->A1->Prop):(bS V0 (λ_=>[]) 129 [ag p,aa v,.agg ⟨[aa k,ay a,ay b,ay c]⟩] w f)=(
 aN w ⟨[aa k,ay a,ay b,ay c]⟩ 31 λb d=>aN d ⟨[ay 0,aa 0]⟩ 61 λe d=>true=true/\cM d (ad (af b) 2) λx=> ∃(g:Int),ae A2 179 [ag p,aa v,ay x] d (aa g)/\true=true/\cM d (ad (af b) 1) λx=>aI (decide (x>=65536)) (True/\aC d (af e) [ay 0,aa 2] λd=>iw f d e) (((!g==1)=true->true=true)/\aj d (some !g==1) (ad (af b) 3) qN λ(x:Int)=>aI (g==1||decide (x>1)) (True/\aC d (af e) [.int
 .u64 0,aa 1] λd=>iw f d e) (true=true/\cM d (ad (af b) 1) λx=>az A2 81 (.bu [.one (.int .i64),.one (.int .i64),.one (.int .i64)]) [ag p,aa v,aa (aD .i64 x)] d λ(x:Int×Int×Int×Unit) d=>aI (x.2.2.1 != 0||g != 0) (True/\aC d (af e) [ay 0,aa 4] λd=>iw f d e) (true=true/\cM d (ad (af b) 1) λx=> ∃(h:Int×Bool×Unit),ae A2 174 [ag p,aa v,aa (aD .i64 x)] d (.tuple ⟨[aa h.1,.bool h.2.1]⟩)/\
 aI h.2.1 (True/\aC d (af e) [ay 0,aa 7] λd=>iw f d e) (bG p 2 d λx=>true=true/\cM d (ad (af b) 1) λi=>true=true/\cM d (ad (af b) 2) λj=>true=true/\cM d (ad (af b) 3) λl=>az A2 180 (.bu [.one (.int .i64),.one (.int .i64)]) [ag x,aa v,aa (aD .i64 i),aa (aD .i64 j),.bool (l==1)] d λ(x:Int×Int×Unit) d=>aC d (af e) [ay (aD .u64 x.1),aa x.2.1] λd=>iw f d e))))):=by kernel_rfl
theorem MD (p:Option AC) (v k a b c:Int) (w:A1) (f:RS->A1->Prop):(bS V0 (λ_=>[]) 130 [ag p,aa v,.agg ⟨[aa k,ay a,ay b,ay c]⟩] w f)=(
 aN w ⟨[aa k,ay a,ay b,ay c]⟩ 31 λb d=>aN d ⟨[ay 0,aa 0]⟩ 61 λe d=>true=true/\cM d (ad (af b) 2) λx=>aI (decide (x>=65536)) (True/\aC d (af e) [ay 0,aa 2] λd=>au d λw1=>aj w1 none (af e) cF λ(x:Int×Int×Unit)=>f (x.1,x.2.1,()) w1) (true=true/\cM d (ad (af b) 1) λx=>((!decide (x>=16))=true->true=true)/\aj d (some !decide (x>=16)) (ad (af b) 3) qN λ(A:Int)=>aI (decide (x>=16)||decide (A>1)) (True/\aC d (af
 e) [ay 0,aa 1] λd=>au d λw1=>aj w1 none (af e) cF λ(x:Int×Int×Unit)=>f (x.1,x.2.1,()) w1) (true=true/\cM d (ad (af b) 1) λx=>true=true/\cM d (ad (af b) 2) λn=>true=true/\cM d (ad (af b) 3) λj=>bG p 2 d λB=> ∃(g:(Int×Int×Int×Bool×Int×Unit)×Bool×Unit),ae A2 176 [ag B,aa (aD .i64 x)] d (.tuple {toList:=[.agg ⟨[aa g.1.1,aa g.1.2.1,aa g.1.2.2.1,.bool g.1.2.2.2.1,aa g.1.2.2.2.2.1]⟩,.bool
 g.2.1]})/\aN d ⟨[aa 0,aa 0,aa 0,.bool false,aa 0]⟩ 255 λb d=>aC d (af b) [aa g.1.1,aa g.1.2.1,aa g.1.2.2.1,.bool g.1.2.2.2.1,aa g.1.2.2.2.2.1] λd=>aI (!g.2.1) (True/\aC d (af e) [ay 0,aa 4] λd=>au d λw1=>aj w1 none (af e) cF λ(x:Int×Int×Unit)=>f (x.1,x.2.1,()) w1) (true=true/\aU d (ad (af b) 2) λo=>((!o != v&&j==1)=true->true=true)/\aj d (some (!o != v&&j==1)) (ad (af b) 3) qO λC=>aI
 (o != v||j==1&& !C) (True/\aC d (af e) [ay 0,aa 7] λd=>au d λw1=>aj w1 none (af e) cF λ(x:Int×Int×Unit)=>f (x.1,x.2.1,()) w1) (true=true/\aU d (ad (af b) 0) λD=>true=true/\aU d (ad (af b) 1) λE=>az A2 81 (.bu [.one (.int .i64),.one (.int .i64),.one (.int .i64)]) [ag p,aa D,aa E] d λ(h:Int×Int×Int×Unit) d=>aI (h.2.2.1 != 0) (True/\aC d (af e) [ay 0,aa 4] λd=>au d λw1=>aj w1 none (af e) cF λ
 (x:Int×Int×Unit)=>f (x.1,x.2.1,()) w1) (true=true/\aU d (ad (af b) 0) λF=>true=true/\aU d (ad (af b) 1) λG=> ∃(q:Int×Bool×Unit),ae A2 174 [ag p,aa F,aa G] d (.tuple ⟨[aa q.1,.bool q.2.1]⟩)/\aI q.2.1 (True/\aC d (af e) [ay 0,aa 7] λd=>au d λw1=>aj w1 none (af e) cF λ(x:Int×Int×Unit)=>f (x.1,x.2.1,()) w1) (bG p 2 d λH=>az A2 181 (.el aS) [ag H,aa (aD .i64 x),aa v,
 .bool (j==1)] d λ(z:Int) d=>aI (z != 0) (True/\aC d (af e) [ay 0,aa z] λd=>au d λw1=>aj w1 none (af e) cF λ(x:Int×Int×Unit)=>f (x.1,x.2.1,()) w1) (aI (j==1) (p.isSome=true/\p.isSome=true/\((ad p 4).isSome=true/\0<=v/\v<(↑17:Int))/\gi d (ad (ad p 4) (v.toNat*1)) λs=>bG s 0 d λt=>az A2 173 (.el aS) [ag t,aa (aD .i64 n),aa h.1,aa (orI .i64 1 2)] d λ(l:Int) d=>aI (l != 0) (bG p 2 d λi
 =>az A2 182 (.el aS) [ag i,aa (aD .i64 x),aa v] d λ(x:Int) d=>True/\aC d (af e) [ay 0,aa l] λd=>au d λw1=>aj w1 none (af e) cF λ(x:Int×Int×Unit)=>f (x.1,x.2.1,()) w1) (bG p 1 d λi=>az A2 183 (.el aS) [ag i,aa h.1,aa 1] d λ(I:Int) d=>p.isSome=true/\p.isSome=true/\((ad p 4).isSome=true/\0<=v/\v<(↑17:Int))/\gi d (ad (ad p 4) (v.toNat*1)) λu=>tu u 1 d λy=> ∀w1,Ext d w1-> ∃(r
 :Nat), ∃(es:Array AP), ∃(m:Nat),y=some r/\bF w1 r es m/\gX w1 r .i64 (aD .i64 n) (.agg ⟨[aa (aD .i64 x),aa h.1]⟩) es m λd=>aC d (af e) [ay 0,aa 0] λd=>au d λw1=>aj w1 none (af e) cF λ(x:Int×Int×Unit)=>f (x.1,x.2.1,()) w1)) (p.isSome=true/\p.isSome=true/\((ad p 4).isSome=true/\0<=v/\v<(↑17:Int))/\gi d (ad (ad p 4) (v.toNat*1)) λs=>bG s 0 d λt=>az A2 173 (.el aS) [ag t,aa (aD .i64 n),
 aa h.1,aa 1] d λ(l:Int) d=>aI (l != 0) (bG p 2 d λi=>az A2 182 (.el aS) [ag i,aa (aD .i64 x),aa v] d λ(x:Int) d=>True/\aC d (af e) [ay 0,aa l] λd=>au d λw1=>aj w1 none (af e) cF λ(x:Int×Int×Unit)=>f (x.1,x.2.1,()) w1) (bG p 1 d λi=>az A2 183 (.el aS) [ag i,aa h.1,aa 1] d λ(I:Int) d=>p.isSome=true/\p.isSome=true/\((ad p 4).isSome=true/\0<=v/\v<(↑17:Int))/\gi
 d (ad (ad p 4) (v.toNat*1)) λu=>tu u 1 d λy=> ∀w1,Ext d w1-> ∃(r:Nat), ∃(es:Array AP), ∃(m:Nat),y=some r/\bF w1 r es m/\gX w1 r .i64 (aD .i64 n) (.agg ⟨[aa (aD .i64 x),aa h.1]⟩) es m λd=>aC d (af e) [ay 0,aa 0] λd=>au d λw1=>aj w1 none (af e) cF λ(x:Int×Int×Unit)=>f (x.1,x.2.1,()) w1)))))))))):=by kernel_rfl
abbrev n8 (a:RS->A1->Prop) (b:A1) (c:Nat):Prop:=
 au b λw1=>aj w1 none (af c) cF λ(x:Int×Int×Unit)=>a (x.1,x.2.1,()) w1
theorem ME (p:Option AC) (v k a b c:Int) (w:A1) (f:RS->A1->Prop):(bS V0 (λ_=>[]) 131 [ag p,aa v,.agg ⟨[aa k,ay a,ay b,ay c]⟩] w f)=(
 aN w ⟨[aa k,ay a,ay b,ay c]⟩ 31 λb d=>aN d ⟨[ay 0,aa 0]⟩ 61 λe d=>true=true/\cM d (ad (af b) 1) λx=>aI (decide (x>=65536)) (True/\aC d (af e) [ay 0,aa 2] λd=>n8 f d e) (true=true/\cM d (ad (af b) 1) λx=> ∃(g:Int×Bool×Unit),ae A2 174 [ag p,aa v,aa (aD .i64 x)] d (.tuple ⟨[aa g.1,.bool g.2.1]⟩)/\aI (!g.2.1) (True/\aC d (af e) [ay 0,aa 4] λd=>n8 f d e) (true=
 true/\cM d (ad (af b) 1) λx=>az A2 167 (.bu []) [ag p,aa v,aa (aD .i64 x)] d λx d=>aC d (af e) [ay 0,aa 0] λd=>n8 f d e))):=by kernel_rfl
theorem FC (p:Option AC) (v k a b c:Int) (w:A1) (f:RS->A1->Prop):(bS V0 (λ_=>[]) 132 [ag p,aa v,.agg ⟨[aa k,ay a,ay b,ay c]⟩] w f)=(
 aN w ⟨[aa k,ay a,ay b,ay c]⟩ 31 λb d=>aN d ⟨[ay 0,aa 0]⟩ 61 λe d=>true=true/\cM d (ad (af b) 1) λx=>aI (decide (x>=16)) (True/\aC d (af e) [ay 0,aa 1] λd=>au d λw1=>aj w1 none (af e) cF λ(x:Int×Int×Unit)=>f (x.1,x.2.1,()) w1) (bG p 2 d λx=>true=true/\cM d (ad (af b) 1) λg=>az A2 184 (.el aS) [ag x,aa (aD .i64 g),aa v] d λ(x:Int) d=>True/\aC d (af e) [ay 0,aa x]
 λd=>au d λw1=>aj w1 none (af e) cF λ(x:Int×Int×Unit)=>f (x.1,x.2.1,()) w1)):=by kernel_rfl
theorem MF (p:Option AC) (v k a b c:Int) (w:A1) (f:RS->A1->Prop):(bS V0 (λ_=>[]) 133 [ag p,aa v,.agg ⟨[aa k,ay a,ay b,ay c]⟩] w f)=(
 aN w ⟨[aa k,ay a,ay b,ay c]⟩ 31 λb d=>aN d ⟨[ay 0,aa 0]⟩ 61 λe d=>true=true/\cM d (ad (af b) 1) λx=> ∃(g:Int),ae A2 179 [ag p,aa v,ay x] d (aa g)/\aI (g != 0) (True/\aC d (af e) [ay 0,aa g] λd=>au d λw1=>aj w1 none (af e) cF λ(x:Int×Int×Unit)=>f (x.1,x.2.1,()) w1) (bG p 3 d λx=>true=true/\cM d (ad (af b) 1) λh=>az A2 185 (.bu [.one (.int .i64),.one (.int .i64)])
 [ag x,aa v,aa (aD .i64 h)] d λ(x:Int×Int×Unit) d=>aC d (af e) [ay (aD .u64 x.1),aa x.2.1] λd=>au d λw1=>aj w1 none (af e) cF λ(x:Int×Int×Unit)=>f (x.1,x.2.1,()) w1)):=by kernel_rfl
abbrev n9 (a:RS->A1->Prop) (b:A1) (c:Nat):Prop:=
 au b λw1=>aj w1 none (af c) cF λ(x:Int×Int×Unit)=>a (x.1,x.2.1,()) w1
theorem MH (p:Option AC) (v k a b c:Int) (w:A1) (g:RS->A1->Prop):(bS V0 (λ_=>[]) 134 [ag p,aa v,.agg ⟨[aa k,ay a,ay b,ay c]⟩] w g)=(
 aN w ⟨[aa k,ay a,ay b,ay c]⟩ 31 λb d=>aN d ⟨[ay 0,aa 0]⟩ 61 λe d=>true=true/\cM d (ad (af b) 1) λx=> ∃(f:Int),ae A2 179 [ag p,aa v,ay x] d (aa f)/\((!f==1)=true->true=true)/\aj d (some !f==1) (ad (af b) 2) qN λ(x:Int)=>aI (f==1||decide (x>=4)) (True/\aC d (af e) [ay 0,aa 1] λd=>n9 g d e) (aI (f != 0) (True/\aC d (af e) [ay 0,aa f] λd=>n9 g d e)
 (bG p 3 d λx=>true=true/\cM d (ad (af b) 1) λh=>true=true/\cM d (ad (af b) 2) λi=>az A2 186 (.bu [.one (.int .i64),.one (.int .i64)]) [ag x,aa v,aa (aD .i64 h),aa (aD .i64 i)] d λ(x:Int×Int×Unit) d=>aC d (af e) [ay (aD .u64 x.1),aa x.2.1] λd=>n9 g d e))):=by kernel_rfl
theorem MJ (p:Option AC) (v k a b c:Int) (w:A1) (f:RS->A1->Prop):(bS V0 (λ_=>[]) 135 [ag p,aa v,.agg ⟨[aa k,ay a,ay b,ay c]⟩] w f)=(
 aN w ⟨[aa k,ay a,ay b,ay c]⟩ 31 λb d=>aN d ⟨[ay 0,aa 0]⟩ 61 λe d=>true=true/\cM d (ad (af b) 1) λx=>aI (decide (x>=4)) (True/\aC d (af e) [ay 0,aa 1] λd=>au d λw1=>aj w1 none (af e) cF λ(x:Int×Int×Unit)=>f (x.1,x.2.1,()) w1) (bG p 3 d λx=>true=true/\cM d (ad (af b) 1) λg=>az A2 187 (.el aS) [ag x,aa v,aa (aD .i64 g)] d λ(x:Int) d=>True/\aC d (af e) [ay 0,aa x] λ
 d=>au d λw1=>aj w1 none (af e) cF λ(x:Int×Int×Unit)=>f (x.1,x.2.1,()) w1)):=by kernel_rfl
theorem MK (p:Option AC) (v k a b c:Int) (w:A1) (e:RS->A1->Prop):(bS V0 (λ_=>[]) 136 [ag p,aa v,.agg ⟨[aa k,ay a,ay b,ay c]⟩] w e)=(
 aN w ⟨[aa k,ay a,ay b,ay c]⟩ 31 λb d=>aN d ⟨[ay 0,aa 0]⟩ 61 λb d=>bG p 3 d λx=>az A2 188 (.bu [.one (.int .i64),.one .bool]) [ag x,aa v] d λ(x:Int×Bool×Unit) d=>aI (!x.2.1) (aC d (af b) [ay 0,aa 0] λd=>au d λw1=>aj w1 none (af b) cF λ(x:Int×Int×Unit)=>e (x.1,x.2.1,()) w1) (aC d (af b) [ay (aD .u64 (aH .i64 x.1 1)),aa 0] λd=>au d λw1=>aj w1 none (af b) cF λ(x:Int×Int×Unit)=>e
 (x.1,x.2.1,()) w1)):=by kernel_rfl
theorem Ic (p:Option AC) (v k a b c:Int) (w:A1) (f:RS->A1->Prop):(bS V0 (λ_=>[]) 137 [ag p,aa v,.agg ⟨[aa k,ay a,ay b,ay c]⟩] w f)=(
 aN w ⟨[aa k,ay a,ay b,ay c]⟩ 31 λb d=>aN d ⟨[ay 0,aa 0]⟩ 61 λe d=>true=true/\cM d (ad (af b) 1) λx=>aI (decide (x>=4)) (True/\aC d (af e) [ay 0,aa 1] λd=>au d λw1=>aj w1 none (af e) cF λ(x:Int×Int×Unit)=>f (x.1,x.2.1,()) w1) (bG p 3 d λx=>true=true/\cM d (ad (af b) 1) λg=>az A2 189 (.el aS) [ag x,aa v,aa (aD .i64 g)] d λ(x:Int) d=>True/\aC d (af e) [ay 0,aa x] λ
 d=>au d λw1=>aj w1 none (af e) cF λ(x:Int×Int×Unit)=>f (x.1,x.2.1,()) w1)):=by kernel_rfl
abbrev kV (a:RS->A1->Prop) (b:A1) (c:Nat):Prop:=
 au b λw1=>aj w1 none (af c) cF λ(x:Int×Int×Unit)=>a (x.1,x.2.1,()) w1
abbrev BL (d:RS->A1->Prop) (f:A1) (b:Nat) (e:Int×Int×Unit) (c:Nat):Prop:=
 aC f (af b) [ay e.1,aa e.2.1] λa=>true=true/\aU a (ad (af b) 1) λx=>aI (x != 0) (true=true/\aU a (ad (af b) 1) λx=>True/\aC a (af c) [ay 0,aa x] λa=>kV d a c) (aj a none (af b) cF λ(x:Int×Int×Unit)=>aC a (af c) [ay x.1,aa x.2.1] λa=>kV d a c)
abbrev BM (p:Option AC) (v:Int) (b:RS->A1->Prop) (c:AL) (a:Int×Int×Int×Int×Unit) (d:A1) (e:Nat) (f:Nat):Prop:=
 Ak A2 c (.el cF) [ag p,aa v,.agg ⟨[aa a.1,ay a.2.1,ay a.2.2.1,ay a.2.2.2.1]⟩] d λ(x:Int×Int×Unit) g=>BL b g e x f
theorem aag (p:Option AC) (v k a b c:Int) (w:A1) (f:RS->A1->Prop):(bS V1 (λ_=>[]) 42 [ag p,aa v,.agg ⟨[aa k,ay a,ay b,ay c]⟩] w f)=(
 aN w ⟨[aa k,ay a,ay b,ay c]⟩ 31 λb d=>aN d ⟨[ay 0,aa 0]⟩ 61 λe d=> ∃x,ae A2 53 [ag p] d (.bool x)/\aI (!x) (True/\aC d (af e) [ay 0,aa 10] λd=>kV f d e) (aj d (some !(decide (v<0)||decide (v>16))) (af b) vh λ(x:Int×Int×Int×Int×Unit)=> ∃j,((!(decide (v<0)||decide (v>16)))=true->ae A2 76 [.agg ⟨[aa x.1,ay x.2.1,ay x.2.2.1,ay x.2.2.2.1]⟩] d (.bool j))/\aI (decide (v<0)||decide (v>16)
 || !j) (True/\aC d (af e) [ay 0,aa 1] λd=>kV f d e) (true=true/\aU d (ad (af b) 0) λx=> ∃l,ae A2 77 [aa x] d (.bool l)/\aI (!(v==0)==l) (True/\aC d (af e) [ay 0,aa 7] λd=>kV f d e) (∃x,(decide (v>0)=true->ae A2 19 [ag p,aa v] d (.bool x))/\aI (decide (v>0)&& !x) (True/\aC d (af e) [ay 0,aa 4] λd=>kV f d e) (true=true/\aU d (ad (af b) 0) λx=>aj d none (af b) vh λ(g:Int
 ×Int×Int×Int×Unit)=>(az A2 78 (.el OA) [] d λi d=>cC d (af b) vh g/\cC d (ad (af b) 0) aS x/\True/\ ∃(h:AL),jU d i .i64 x H7 h/\(Ak A2 h (.el cF) [ag p,aa v,.agg ⟨[aa g.1,ay g.2.1,ay g.2.2.1,ay g.2.2.2.1]⟩] d λ(x:Int×Int×Unit) d=>aN d ⟨[ay 0,aa 0]⟩ 61 λb d=>BL f d b x e)/\aN d ⟨[ay 0,aa 0]⟩ 61 λb d=>BM p v f h g d b e)/\aN d ⟨[ay 0,aa 0]⟩ 61 λm
 d=>az A2 78 (.el OA) [] d λi d=>cC d (af b) vh g/\cC d (ad (af b) 0) aS x/\True/\ ∃(h:AL),jU d i .i64 x H7 h/\BM p v f h g d m e))))):=by kernel_rfl
open Go.RX D
def px:Nat->Int->Int
 |0,p=>p
 |l+1,p=>px l p / 16
theorem px4 {p:Int} (h:0<=p/\p<65536):px 4 p=0:=by simp only[px];omega
theorem nR (p:Int) (l:Nat):px l p=16*px (l+1) p+px l p % 16:=by simp only[px];omega
theorem dY (p:Int) (l:Nat):0<=px l p % 16/\px l p % 16<16:=by omega
theorem aah {p:Int} (h:0<=p/\p<65536) {l:Nat} (a:l<=3):fw p (l:Int)=px l p % 16:=by
 unfold fw;rw[av (by omega)];congr 1;rcases l with _| _| _| _|l
 ·show p / 1=p;omega
 ·rfl
 ·show p / 256=p / 16 / 16;omega
 ·show p / 4096=p / 16 / 16 / 16;omega
 ·omega
theorem lz {f p:Int} (b:0<=f/\f<4096) (h:0<=p/\p<65536) {l:Nat} (a:l<=3):dV f p (l:Int)=16*f+px l p % 16:=by
 unfold dV;rw[aah h a,ao (by omega)]
theorem pB:fa 0=zE:=by decide+kernel
theorem KE:du zE=false:=by decide
theorem Ie (v:Int):bT (fa v).1 (fa v).2.1 (fa v).2.2.1 (fa v).2.2.2.1=true:=by
 unfold fa IF F2 Kp FM;cases h:uY (B v).toNat with
 |false=>simp;decide
 |true=>
  unfold uY at h;simp only[HB] at h;simpa using h.2
theorem yd {p:Bool} {r:Int} {l:Bool} {f:Int} (h:bT p r l f=true):fa (F1 p r l f)=(p,r,l,f,()):=by
 have hb:=zn h;unfold F1;rw[av h];obtain⟨h1,v,k,w,m⟩:=hb;obtain⟨r,rfl⟩:=H5 h1;obtain⟨f,rfl⟩:=H5 k;have key: ∀n:Nat,wc p (r:Int) l (f:Int)=(n:Int)->n<18446744073709551616->(n % 2==1)=p->n / 2 % 8=r->(n / 16 % 2==1)=l->n / 32 % 128=0->n / 4096 % 4096=f->n / 16777216 % 1099511627776=0->fa (wc p (r:Int) l (f:Int))=(p,(r:Int),l,(f:Int),()):=by
  intro n e x d g i o j q;have s:(B (wc p (r:Int) l (f:Int))).toNat=n:=by rw[e,IY (by omega) (by omega)];omega
  have ok:uY n=true:=by
   unfold uY;rw[o,q,d,g,i,j,h];decide
  unfold fa IF F2 Kp FM;rw[s,ok,d,g,i,j];simp
 cases p with
 |false=>
  obtain⟨a,b,c⟩:=m rfl;subst b;have t:r=0:=by omega
  have u:f=0:=by omega
  subst t;subst u;exact key 0 rfl (by decide) rfl rfl rfl rfl rfl rfl
 |true=>
  have y:nB l<=1:=OU l;refine key (1+2*r+16*nB l+4096*f) ?_ (by omega) ?_ (by omega) ?_ (by omega) (by omega) (by omega)
  ·unfold wc;have:nB true=1:=rfl;rw[this];omega
  ·have:(1+2*r+16*nB l+4096*f) % 2=1:=by omega
   rw[this];rfl
  ·have:(1+2*r+16*nB l+4096*f) / 16 % 2=nB l:=by omega
   rw[this];cases l<;>rfl
theorem lI (ws:List Int) (a:Int):bT (aJ ws a).1 (aJ ws a).2.1 (aJ ws a).2.2.1 (aJ ws a).2.2.2.1=true:=Ie _
theorem dI {f:Int} (h:0<=f/\f<4096):du (cm f)=true:=by
 unfold du cm fV bT;simp;omega
theorem If {f:Int} (h:0<=f/\f<4096):bT true 0 false f=true:=by
 unfold bT;simp;omega
theorem Sj {f:Int} (h:0<=f/\f<4096):fa (NY (cm f))=cm f:=yd (If h)
theorem jj {ws:List Int} {i:Int} (h:0<=i) (h':i<ws.length):uZ ws i=true:=jg.2 ⟨h,h'⟩
theorem ye {ws:List Int} {a v:Int} (h:uZ ws a=true):dK (cZ ws a v) a=v:=by
 have hi:=jg.1 h;have b:uZ (cZ ws a v) a=true:=jg.2 ⟨hi.1,by rw[cG];exact hi.2⟩;unfold dK;rw[av b];unfold cZ;rw[av h,DA,DF (by omega)];rfl
theorem mP {ws:List Int} {a b v:Int} (h:a≠b):dK (cZ ws a v) b=dK ws b:=by
 have e:uZ (cZ ws a v) b=uZ ws b:=by unfold uZ;rw[cG]
 unfold dK;rw[e];by_cases hb:uZ ws b=true
 ·rw[av hb,av hb];unfold cZ;split
  ·rename_i c;have h1:=jg.1 c;have d:=jg.1 hb;rw[DA,DA,B5 (by omega)]
  ·rfl
 ·rw[ao hb,ao hb]
theorem tM {ws:List Int} {f:Int} {G:Int->Int} (a:0<=f) (c:16*f+16<=ws.length): ∀n:Nat,n<=16-> ∀b,dK (fb ws f G n) b=if 16*f<=b/\b<16*f+(n:Int) then G (b - 16*f) else dK ws b
 |0, _,b=>by rw[ao (by omega)];rfl
 |n+1,d,b=>by
  rw[fb];by_cases e:16*f+(n:Int)=b
  ·subst e;rw[ye (jj (by omega) (by rw[gN];omega)),av (by omega)];congr 1;omega
  ·rw[mP e,tM a c n (by omega) b];by_cases h:16*f<=b/\b<16*f+(n:Int)
   ·rw[av h,av (by omega)]
   ·rw[ao h,ao (by omega)]
theorem EO {ds:List DT} (h:0<cd ds 0): ∃i d,iI ds=some i/\i<ds.length/\ds[i]? =some d/\d.1=0:=by
 unfold cd at h;rw[List.countP_pos_iff] at h;obtain⟨a,c,h0⟩:=h;cases b:iI ds with
 |none=>
  unfold iI at b;rw[Gz] at b;have:=b a c;rw[this] at h0;cases h0
 |some i=>
  unfold iI at b;rw[G1] at b;obtain⟨h1,e, _⟩:=b;exact⟨i,ds[i],rfl,h1,Bx h1,by simpa using e⟩
theorem BN {o:Int} (h:1<=o/\o<=16):aO 3 o zD=((3,o,0,0,()),0):=by
 have e:gS 0 0 0 0 3 o=0:=by
  unfold gS;rw[ao (by decide),ao (by decide),av (by decide),ao ?_];unfold dT jK;simp;omega
 unfold aO zD mM ll;dsimp only;rw[e];simp
theorem m_ {ds:List DT} {o:Int} (h:0<cd ds 0) (f: ∀d∈ds,d.1=0->d=zD) (b:1<=o/\o<=16): ∃i:Nat,i<ds.length/\ds[i]? =some zD/\fl ds 3 o=(i:Int)/\dS ds 3 o=0/\dF ds 3 o=ds.set i (3,o,0,0,()):=by
 obtain⟨i,d,h1,g,a,j⟩:=EO h;have k:d=zD:=f d (CB a) j;subst k;have c:ds.getD i zD=zD:=by rw[DA,a];rfl
 have e:vT ds (i:Int) (aO 3 o)=0:=by
  rw[y7 (by omega)];show(aO 3 o (ds.getD i zD)).2=0;rw[c,BN b]
 have l:dL ds (i:Int) (aO 3 o)=ds.set i (3,o,0,0,()):=by
  rw[pJ (by omega)];show(if(aO 3 o (ds.getD i zD)).2=0 then ds.set i (aO 3 o (ds.getD i zD)).1 else ds)= _;rw[c,BN b,av rfl]
 refine⟨i,g,a,?_,?_,?_⟩
 ·unfold fl;rw[h1];dsimp only;rw[av e]
 ·unfold dS;rw[ao (by omega),h1];exact e
 ·unfold dF;rw[h1];exact l
theorem tN {ds:List DT} {i:Nat} {d d':DT} (h:ds[i]? =some d) (v:Int):cd (ds.set i d') v+(if d.1=v then 1 else 0)=cd ds v+(if d'.1=v then 1 else 0):=by
 have hi:i<ds.length:=(B1.1 h).1;have a:ds=ds.take i++d::ds.drop (i+1):=by
  have:=(Gn i ds).symm;rw[FI hi,(B1.1 h).2] at this;exact this
 have b:ds.set i d'=ds.take i++d'::ds.drop (i+1):=by rw[List.set_eq_take_append_cons_drop,av hi]
 unfold cd;rw[b]
 conv=>rhs;rw[a]
 simp only[List.countP_append,List.countP_cons];by_cases h1:d.1=v<;>by_cases c:d'.1=v<;>simp[h1,c]<;>omega
theorem EP {o:Int} (h:1<=o/\o<=16):aO 5 0 (3,o,0,0,())=((5,o,0,0,()),0):=by
 have a:dT 3 o 0 0=true:=by unfold dT jK;simp;omega
 have b:dT 5 o 0 0=true:=by unfold dT jK;simp;omega
 have e:gS 3 o 0 0 5 0=0:=by
  unfold gS;rw[a,ao (by decide),ao (by decide),av (by decide),av rfl,b,ao (by decide)]
 unfold aO mM ll;dsimp only;rw[e];simp
abbrev Gh:Type:=Int->Option (Int×Nat×Int)
def mI (g:Gh) (f:Int) (v:Option (Int×Nat×Int)):Gh:=λx=>if x=f then v else g x
theorem bI (g:Gh) (f:Int) (v:Option (Int×Nat×Int)):mI g f v f=v:=av rfl
theorem aY {g:Gh} {f x:Int} (h:x≠f) (v:Option (Int×Nat×Int)):mI g f v x=g x:=ao h
def lB (l:Nat) (e:ET):Prop:=e.1=true->du e=false->(l=0/\e.2.2.1=false)\/(l=1/\e.2.2.1=true/\e.2.2.2.1 % 16=0)
theorem Ej (l:Nat):lB l zE:=λh=>by cases h
theorem abP (l:Nat) {e:ET} (h:du e=true):lB l e:=λh'=>by grind
structure Inv (g:Gh) (s:WD):Prop where
 len:16*s.2.length<=s.1.length
 le:s.2.length<=4096
 fz: ∀d∈s.2,d.1=0->d=zD
 kd: ∀{f o l x},g f=some (o,l,x)->0<=f/\f<s.2.length/\s.2[f.toNat]? =some (3,o,0,0,())/\1<=o/\o<=16/\l<=3
 inj: ∀{f f' v},g f=some v->g f'=some v->f=f'
 sW: ∀{f o l x i},g f=some (o,l,x)->0<=i->i<16->du (aJ s.1 (16*f+i))=true-> ∃m,l=m+1/\g (aJ s.1 (16*f+i)).2.2.2.1=some (o,m,16*x+i)
 leaf: ∀{f o l x i},g f=some (o,l,x)->0<=i->i<16->lB l (aJ s.1 (16*f+i))
 FO: ∀{f o l x},g f=some (o,l,x)->l<3-> ∃f',g f'=some (o,l+1,x / 16)/\aJ s.1 (16*f'+x % 16)=cm f
 wf: ∀{f o l x i},g f=some (o,l,x)->0<=i->i<16->(aJ s.1 (16*f+i)).1=false->dK s.1 (16*f+i)=0
 tb: ∀{n:Nat} {d},s.2[n]? =some d->d.1=3-> ∃v,g (n:Int)=some v
def dG (g:Gh) (s:WD) (o p f:Int) (j:Nat):Prop:=g f=some (o,j,px (j+1) p)/\du (aJ s.1 (16*f+px j p % 16))=false
theorem gu {ws:List Int} {a v b:Int} (h:a≠b):aJ (cZ ws a v) b=aJ ws b:=by grind[aJ,mP]
theorem zt {ws:List Int} {a v:Int} (h:uZ ws a=true):aJ (cZ ws a v) a=fa v:=by grind[aJ,ye]
namespace Inv
variable {g:Gh} {s:WD}
theorem vU (I:Inv g s) {f o:Int} {l:Nat} {x:Int} (h:g f=some (o,l,x)):0<=f/\f<4096/\16*f+16<=s.1.length:=by
 have:=I.kd h;have:=I.len;have:=I.le;omega
theorem reach (I:Inv g s) {o r p:Int} (c:g r=some (o,3,0)) (b:0<=p/\p<65536): ∀(n:Nat) {f:Int} {j:Nat},j+n=3->g f=some (o,j,px (j+1) p)-> ∃a,da s.1 p 3 r=a++da s.1 p j f
 |0,f,j,d,h=>by
  have:j=3:=by omega
  subst this;rw[px4 b] at h;rw[I.inj h c];simp
 |n+1,f,j,d,h=>by
  obtain⟨f',h1,i⟩:=I.FO h (by omega);have k:=h1;obtain⟨a,u⟩:=I.reach c b n (by omega) k;obtain⟨l,m, _⟩:=I.vU h1;refine⟨a++[(f',(j+1:Int),dV f' p (j+1:Nat),())],?_⟩;have q:j+1<=3:=by omega
  have e:da s.1 p (j+1) f'=(f',(j+1:Int),dV f' p (j+1:Nat),())::da s.1 p j f:=by
   rw[da];have t:aJ s.1 (dV f' p (j+1:Nat))=cm f:=by rw[lz ⟨l,m⟩ b q];exact i
   obtain⟨c1,c2, _⟩:=I.vU h;rw[t,av (dI ⟨c1,c2⟩)];rfl
  grind
theorem acG {ws:List Int} {p f:Int} {j:Nat} (h:du (aJ ws (dV f p (j:Int)))=false):da ws p j f=[(f,(j:Int),dV f p (j:Int),())]:=by
 cases j with
 |zero=>rfl
 |succ=>rw[da,ao (by grind)]
theorem nS (I:Inv g s) {o r p:Int} (e:g r=some (o,3,0)) (b:0<=p/\p<65536) {f:Int} {j:Nat} (h:dG g s o p f j):
 dD s.1 r p=(f,(j:Int),16*f+px j p % 16,())/\db s.1 r p=aJ s.1 (16*f+px j p % 16):=by
 have i:=I.kd h.1;obtain⟨k,l, _⟩:=I.vU h.1;obtain⟨a,m⟩:=I.reach e b (3 - j) (by omega) h.1;have c:=lz ⟨k,l⟩ b i.2.2.2.2.2;have d:dD s.1 r p=(f,(j:Int),16*f+px j p % 16,()):=by
  unfold dD;rw[m,acG (by rw[c];exact h.2),c,List.getLastD_concat]
 exact⟨d,by unfold db;rw[d]⟩
theorem PL (I:Inv g s) {o p:Int}: ∀(l:Nat) {f:Int},g f=some (o,l,px (l+1) p)-> ∃f' j,j<=l/\dG g s o p f' j
 |l,f,h=>by
  cases a:du _ with
  |false=>exact⟨f,l,by simp,h,a⟩
  |true=>
   obtain⟨m,rfl,b⟩:=I.sW h (dY p l).1 (dY p l).2 a;rw[<-nR] at b;obtain:=I.PL m b
   grind
theorem mA (I:Inv g s) {o r p:Int} (a:g r=some (o,3,0)) (b:0<=p/\p<65536): ∃f j,j<=3/\dG g s o p f j:=I.PL 3 (by rw[px4 b];exact a)
theorem grow (I:Inv g s) {f o x i:Int} {m:Nat} (r:g f=some (o,m+1,x)) (F3:0<=i) (xN:i<16) (l:du (aJ s.1 (16*f+i))=false) (hc:0<cd s.2 0) (G:Int->Int)
 (J: ∀k,0<=k->k<16->du (fa (G k))=false/\lB m (fa (G k))/\((fa (G k)).1=false->G k=0)):
 rL s o=0/\g (eA s o)=none/\0<=eA s o/\eA s o<s.2.length/\(dP (iQ s o G) (16*f+i) (cm (eA s o))).2=s.2.set (eA s o).toNat (3,o,0,0,())/\s.2[(eA s o).toNat]? =some zD/\
 (∀b,b≠16*f+i->(b<16*eA s o\/16*eA s o+16<=b)->aJ (dP (iQ s o G) (16*f+i) (cm (eA s o))).1 b=aJ s.1 b)/\
 (∀k,0<=k->k<16->aJ (dP (iQ s o G) (16*f+i) (cm (eA s o))).1 (16*eA s o+k)=fa (G k))/\
 aJ (dP (iQ s o G) (16*f+i) (cm (eA s o))).1 (16*f+i)=cm (eA s o)/\
 Inv (mI g (eA s o) (some (o,m,16*x+i))) (dP (iQ s o G) (16*f+i) (cm (eA s o))):=by
 have B:=I.kd r;obtain⟨n,T,M,j,C,N⟩:=m_ hc I.fz ⟨B.2.2.2.1,B.2.2.2.2.1⟩;have O:eA s o=(n:Int):=j;have P:rL s o=0:=C;have U:=I.len;have V:=I.le;have X:16*(n:Int)+16<=s.1.length:=by omega
 obtain⟨W,D⟩: ∃W,W=fb s.1 (n:Int) G 16:=⟨_,rfl⟩;have Q:W.length=s.1.length:=by rw[D,gN]
 have Y: ∀b,dK W b=if 16*(n:Int)<=b/\b<16*(n:Int)+16 then G (b - 16*(n:Int)) else dK s.1 b:=λb=>by
  rw[D];exact tM (by omega) X 16 (B4 _) b
 have Z:iQ s o G=(W,s.2.set n (3,o,0,0,())):=by unfold iQ;rw[av P,O,N,D]
 clear D;have gD:=I.vU r;have gn:g (n:Int)=none:=by
  cases hg:g (n:Int) with
  |none=>rfl
  |some v=>
   obtain⟨a,b,c⟩:=v;have:=(I.kd hg).2.2.1;rw[show((n:Int)).toNat=n from rfl,M] at this;cases this
 have E: ∀{f':Int} {v},g f'=some v->f'≠(n:Int):=λh e=>by rw[e,gn] at h;cases h
 have rJ:f≠(n:Int):=E r;rw[Z,O];have Yu:uZ (W) (16*f+i)=true:=jj (by omega) (by rw[Q];omega);have K: ∀b,b≠16*f+i->dK (cZ (W) (16*f+i) (NY (cm (n:Int)))) b=if 16*(n:Int)<=b/\b<16*(n:Int)+16 then G (b - 16*(n:Int)) else dK s.1 b:=λb hb=>by
  rw[mP (λe=>hb e.symm),Y b]
 have w0: ∀b,b≠16*f+i->aJ (cZ (W) (16*f+i) (NY (cm (n:Int)))) b=if 16*(n:Int)<=b/\b<16*(n:Int)+16 then fa (G (b - 16*(n:Int))) else aJ s.1 b:=λb hb=>by
  unfold aJ;rw[K b hb];split<;>rfl
 have w1: ∀b,b≠16*f+i->(b<16*(n:Int)\/16*(n:Int)+16<=b)->aJ (dP (W,s.2.set n (3,o,0,0,())) (16*f+i) (cm (n:Int))).1 b=aJ s.1 b:=λb hb h=>by
  show aJ (cZ _ _ _) b= _;rw[w0 b hb,ao (by omega)]
 have F: ∀k,0<=k->k<16->aJ (dP (W,s.2.set n (3,o,0,0,())) (16*f+i) (cm (n:Int))).1 (16*(n:Int)+k)=fa (G k):=λk h0 h1=>by
  show aJ (cZ _ _ _) _= _;rw[w0 _ (by omega),av (by omega)];congr 2;omega
 have y:aJ (dP (W,s.2.set n (3,o,0,0,())) (16*f+i) (cm (n:Int))).1 (16*f+i)=cm (n:Int):=by
  show aJ (cZ _ _ _) _= _;rw[zt Yu,Sj (by omega)]
 refine⟨P,gn,by omega,by omega,rfl,by rw[show((n:Int)).toNat=n from rfl];exact M,w1,F,y,?_⟩;have fG: ∀{f0 t p k:Int} {u:Nat},g f0=some (t,u,p)->0<=k->k<16->(16*f0+k=16*f+i/\f0=f/\k=i)\/aJ (dP (W,s.2.set n (3,o,0,0,())) (16*f+i) (cm (n:Int))).1 (16*f0+k)=aJ s.1 (16*f0+k):=λ{f0 t p k u} h h0 h1=>by
  by_cases e:16*f0+k=16*f+i
  ·exact .inl ⟨e,by omega,by omega⟩
  ·have:=E h;exact .inr (w1 _ e (by omega))
 refine⟨?_,?_,?_,?_,?_,?_,?_,?_,?_,?_⟩
 ·show 16*(s.2.set n _).length<=(cZ W _ _).length;rw[cG,Q,Ar];exact U
 ·show(s.2.set n _).length<=4096;rw[Ar];exact V
 ·intro d L h0;rcases Do L with L|rfl
  ·exact I.fz d L h0
  ·cases h0
 ·intro f0 t u p h;show _/\ _<((s.2.set n (3,o,0,0,())).length:Int)/\(s.2.set n (3,o,0,0,()))[f0.toNat]? = _/\ _;rw[Ar];by_cases e:f0=(n:Int)
  ·subst e;rw[bI] at h;cases h;refine⟨by omega,by omega,?_,B.2.2.2.1,B.2.2.2.2.1,by omega⟩;rw[show((n:Int)).toNat=n from rfl,DF T]
  ·rw[aY e] at h;obtain⟨a1,a2,a3,a4⟩:=I.kd h;refine⟨a1,a2,?_,a4⟩;rw[B5 (by omega)];exact a3
 ·intro a b v w hb;by_cases e:a=(n:Int)<;>by_cases e':b=(n:Int)
  ·rw[e,e']
  ·subst e;rw[bI] at w;rw[aY e'] at hb;cases w;exfalso;obtain⟨f',p1,p2⟩:=I.FO hb (by omega);have z:(16*x+i) / 16=x:=by omega
   have A:(16*x+i) % 16=i:=by omega
   rw[z] at p1;rw[A] at p2;rw[I.inj p1 r, ] at p2;rw[p2] at l;obtain⟨c1,c2, _⟩:=I.vU hb;rw[dI ⟨c1,c2⟩] at l;cases l
  ·subst e';rw[bI] at hb;rw[aY e] at w;cases hb;exfalso;obtain⟨f',p1,p2⟩:=I.FO w (by omega);have z:(16*x+i) / 16=x:=by omega
   have A:(16*x+i) % 16=i:=by omega
   rw[z] at p1;rw[A] at p2;rw[I.inj p1 r, ] at p2;rw[p2] at l;obtain⟨c1,c2, _⟩:=I.vU w;rw[dI ⟨c1,c2⟩] at l;cases l
  ·rw[aY e] at w;rw[aY e'] at hb;exact I.inj w hb
 ·intro f0 t u p k h h0 h1 H;by_cases e:f0=(n:Int)
  ·subst e;rw[F k h0 h1,(J k h0 h1).1] at H;cases H
  ·rw[aY e] at h;rcases fG h h0 h1 with ⟨j,rfl,rfl⟩|j
   ·rw[j,y];rw[r] at h;cases h;exact⟨m,rfl,bI _ _ _⟩
   ·rw[j] at H ⊢;obtain⟨m',q1,R⟩:=I.sW h h0 h1 H;exact⟨m',q1,by rw[aY (E R)];exact R⟩
 ·intro f0 t u p k h h0 h1;by_cases e:f0=(n:Int)
  ·subst e;rw[bI] at h;cases h;rw[F k h0 h1];exact(J k h0 h1).2.1
  ·rw[aY e] at h;rcases fG h h0 h1 with ⟨j,rfl,rfl⟩|j
   ·rw[j,y];exact abP _ (dI (by omega))
   ·rw[j];exact I.leaf h h0 h1
 ·intro f0 t u p h hl;by_cases e:f0=(n:Int)
  ·subst e;rw[bI] at h;cases h;have z:(16*x+i) / 16=x:=by omega
   have A:(16*x+i) % 16=i:=by omega
   exact⟨f,by rw[aY rJ,z];exact r,by rw[A];exact y⟩
  ·rw[aY e] at h;obtain⟨f',p1,p2⟩:=I.FO h hl;refine⟨f',by rw[aY (E p1)];exact p1,?_⟩;rcases fG p1 (by omega:0<=p % 16) (by omega) with ⟨j,rfl,N⟩|j
   ·exfalso;rw[j] at p2;rw[p2] at l;obtain⟨c1,c2, _⟩:=I.vU h;rw[dI ⟨c1,c2⟩] at l;cases l
   ·rw[j];exact p2
 ·intro f0 t u p k h h0 h1 q;by_cases e:f0=(n:Int)
  ·subst e;rw[F k h0 h1] at q;show dK (cZ _ _ _) _=0;rw[K _ (by omega),av (by omega),show 16*(n:Int)+k - 16*(n:Int)=k from by omega];exact(J k h0 h1).2.2 q
  ·rw[aY e] at h;rcases fG h h0 h1 with ⟨j,rfl,rfl⟩|j
   ·rw[j,y] at q;cases q
   ·rw[j] at q;have hb:16*f0+k≠16*f+i:=λC=>by
     rw[C,y] at j;rw[C, <-j] at q;cases q
    show dK (cZ _ _ _) _=0;rw[K _ hb,ao (by omega)];exact I.wf h h0 h1 q
 ·intro S d qK h3;by_cases e:S=n
  ·subst e;exact⟨_,bI _ _ _⟩
  ·have h':(s.2.set n (3,o,0,0,()))[S]? =some d:=qK;rw[B5 (by omega)] at h';obtain⟨v,hv⟩:=I.tb h' h3;exact⟨v,by rw[aY (by omega)];exact hv⟩
theorem V7 (I:Inv g s) {f o x i v:Int} {l:Nat} (t:g f=some (o,l,x)) (z:0<=i) (A:i<16) (d:du (aJ s.1 (16*f+i))=false) (hv:du (fa v)=false) (q:lB l (fa v)) (u:(fa v).1=false->v=0):
 aJ (cZ s.1 (16*f+i) v) (16*f+i)=fa v/\Inv g (cZ s.1 (16*f+i) v,s.2):=by
 have B:=I.vU t;have r:uZ s.1 (16*f+i)=true:=jj (by omega) (by omega);have j:=zt (v:=v) r;have fG: ∀{f0 k:Int},0<=k->k<16->(16*f0+k=16*f+i/\f0=f/\k=i)\/aJ (cZ s.1 (16*f+i) v) (16*f0+k)=aJ s.1 (16*f0+k):=λ{f0 k} h0 h1=>by
  by_cases e:16*f0+k=16*f+i
  grind
  ·exact .inr (gu (λe'=>e e'.symm))
 refine⟨j,by rw[cG];exact I.len,I.le,I.fz,I.kd,I.inj,?_,?_,?_,?_,I.tb⟩
 ·intro f0 m n b k h h0 h1 p;rcases fG (f0:=f0) h0 h1 with ⟨a,rfl,rfl⟩|a
  ·rw[j,hv] at p;cases p
  ·have w:du (aJ s.1 (16*f0+k))=true:=by rw[<-a];exact p
   rw[a];exact I.sW h h0 h1 w
 ·intro f0 m n b k h h0 h1;rcases fG (f0:=f0) h0 h1 with ⟨a,rfl,rfl⟩|a
  grind
  ·rw[a];exact I.leaf h h0 h1
 ·intro f0 m n b h q;obtain⟨f',p1,p2⟩:=I.FO h q;refine⟨f',p1,?_⟩;rcases fG (f0:=f') (by omega:0<=b % 16) (by omega) with ⟨a,rfl,C⟩|a
  ·exfalso;rw[a] at p2;rw[p2] at d;obtain⟨c1,c2, _⟩:=I.vU h;rw[dI ⟨c1,c2⟩] at d;cases d
  ·rw[a];exact p2
 ·intro f0 m n b k h h0 h1 y;have c:=y;by_cases e:16*f0+k=16*f+i
  ·rw[e,j] at c;rw[e,ye r];exact u c
  ·rw[gu (λe'=>e e'.symm)] at c;rw[mP (λe'=>e e'.symm)];exact I.wf h h0 h1 c
theorem abQ (I:Inv g s) {f o x i f2:Int} {m:Nat} (u:g f=some (o,m+1,x)) (W:0<=i) (X:i<16) (B:g f2=some (o,m,16*x+i)) (K:aJ s.1 (16*f+i)=cm f2) (L: ∀k,0<=k->k<16->aJ s.1 (16*f2+k)=zE):
 aJ (cZ s.1 (16*f+i) 0) (16*f+i)=zE/\dL s.2 f2 (aO 5 0)=s.2.set f2.toNat (5,o,0,0,())/\Inv (mI g f2 none) (cZ s.1 (16*f+i) 0,dL s.2 f2 (aO 5 0)):=by
 have Y:=I.vU u;have C:=I.kd u;have w:=I.kd B;have D:uZ s.1 (16*f+i)=true:=jj (by omega) (by omega);have q:aJ (cZ s.1 (16*f+i) 0) (16*f+i)=zE:=by rw[zt D];exact pB
 have E:dL s.2 f2 (aO 5 0)=s.2.set f2.toNat (5,o,0,0,()):=by
  rw[pJ ⟨w.1,w.2.1⟩,DA,w.2.2.1];show(if(aO 5 0 (3,o,0,0,())).2=0 then s.2.set f2.toNat (aO 5 0 (3,o,0,0,())).1 else _)= _;rw[EP ⟨C.2.2.2.1,C.2.2.2.2.1⟩,av rfl]
 have j: ∀{f0 v},mI g f2 none f0=some v->f0≠f2/\g f0=some v:=λ{f0 v} h=>by
  by_cases e:f0=f2
  ·rw[e,bI] at h;cases h
  ·rw[aY e] at h;exact⟨e,h⟩
 have fG: ∀{f0 k:Int},0<=k->k<16->(16*f0+k=16*f+i/\f0=f/\k=i)\/aJ (cZ s.1 (16*f+i) 0) (16*f0+k)=aJ s.1 (16*f0+k):=λ{f0 k} h0 h1=>by
  by_cases e:16*f0+k=16*f+i
  ·exact .inl ⟨e,by omega,by omega⟩
  ·exact .inr (gu (λe'=>e e'.symm))
 refine⟨q,E,?_⟩;rw[E];refine⟨?_,?_,?_,?_,?_,?_,?_,?_,?_,?_⟩
 ·show 16*(s.2.set _ _).length<=(cZ _ _ _).length;rw[cG,Ar];exact I.len
 ·show(s.2.set _ _).length<=4096;rw[Ar];exact I.le
 ·intro d y h0;rcases Do y with y|rfl
  ·exact I.fz d y h0
  ·cases h0
 ·intro f0 r n l h;obtain⟨p,h⟩:=j h;rw[Ar];obtain⟨a1,F,M,Z⟩:=I.kd h
  grind
 ·intro a b v N hb;exact I.inj (j N).2 (j hb).2
 ·intro f0 r n l k h h0 h1 z;obtain⟨p,h⟩:=j h;rcases fG (f0:=f0) h0 h1 with ⟨c,rfl,rfl⟩|c
  ·rw[q] at z;cases z
  ·have A:du (aJ s.1 (16*f0+k))=true:=by rw[<-c];exact z
   rw[c];obtain⟨O,G,t⟩:=I.sW h h0 h1 A;refine⟨O,G,?_⟩;rw[aY]
   ·exact t
   ·intro e;rw[e,B] at t;simp only[B2,Az] at t;obtain⟨a1,F,M⟩:=t;have P:k=i:=by omega
    have Q:l=x:=by omega
    subst P;subst Q;subst a1;subst F;subst G;have:=I.inj h u;subst this;rw[q] at c;rw[<-c] at A;cases A
 ·intro f0 r n l k h h0 h1;obtain⟨p,h⟩:=j h;show lB n (aJ (cZ s.1 (16*f+i) 0) (16*f0+k));rcases fG (f0:=f0) h0 h1 with ⟨c,rfl,rfl⟩|c
  ·rw[q];exact Ej _
  ·rw[c];exact I.leaf h h0 h1
 ·intro f0 r n l h R;obtain⟨p,h⟩:=j h;obtain⟨f',p1,p2⟩:=I.FO h R;have S:f'≠f2:=λe=>by
   rw[e,L _ (by omega) (by omega)] at p2;cases p2
  refine⟨f',by rw[aY S];exact p1,?_⟩;show aJ (cZ s.1 (16*f+i) 0) (16*f'+l % 16)= _;rcases fG (f0:=f') (by omega:0<=l % 16) (by omega) with ⟨c,rfl,e3⟩|c
  ·exfalso;rw[c,K] at p2;unfold cm at p2;simp only[Az,and_true,true_and] at p2;exact p p2.symm
  ·rw[c];exact p2
 ·intro f0 r n l k h h0 h1 T;obtain⟨p,h⟩:=j h;show dK (cZ s.1 (16*f+i) 0) (16*f0+k)=0;have H:(aJ (cZ s.1 (16*f+i) 0) (16*f0+k)).1=false:=T;by_cases e:16*f0+k=16*f+i
  ·rw[e,ye D]
  ·rw[gu (λe'=>e e'.symm)] at H;rw[mP (λe'=>e e'.symm)];exact I.wf h h0 h1 H
 ·intro J d U V;have h':(s.2.set f2.toNat (5,o,0,0,()))[J]? =some d:=U;by_cases e:J=f2.toNat
  grind
  ·rw[B5 (by omega)] at h';obtain⟨v,hv⟩:=I.tb h' V;exact⟨v,by rw[aY (by omega)];exact hv⟩
end Inv
set_option maxRecDepth 100000
open Go.RX D
def ki (p:Int) (j:Nat) (e:ET):Int×Int×Int×Unit:=if e.1=true then(if j=1 then e.2.2.2.1+p % 16 else e.2.2.2.1,e.2.1,0,()) else(0,0,4,())
theorem Gw (p:Int) (j:Nat) {e:ET} (h:e.1=false):ki p j e=(0,0,4,()):=by unfold ki;rw[h,ao (by decide)]
def mQ (g g':Gh):Prop:= ∀o r x,g' r=some (o,3,x)<->g r=some (o,3,x)
theorem mQ.refl (g:Gh):mQ g g:=λ_ _ _=>Iff.rfl
theorem mQ.trans {a b c:Gh} (h:mQ a b) (k:mQ b c):mQ a c:=λo r x=>(k o r x).trans (h o r x)
theorem mQ.to {g g':Gh} {o r x:Int} (h:mQ g g') (k:g r=some (o,3,x)):g' r=some (o,3,x):=(h _ _ _).2 k
def AN (o:Int) (g g':Gh) (s s':WD):Prop:= ∀ ⦃f o' l x⦄,o'≠o->g f=some (o',l,x)->g' f=some (o',l,x)/\ ∀k,0<=k->k<16->aJ s'.1 (16*f+k)=aJ s.1 (16*f+k)
theorem AN.refl (o:Int) (g:Gh) (s:WD):AN o g g s s:=λ_ _ _ _ _ h=>⟨h,λ_ _ _=>rfl⟩
theorem AN.trans {o:Int} {a b c:Gh} {s t u:WD} (h:AN o a b s t) (k:AN o b c t u):AN o a c s u:=λ_ _ _ _ d f=>by
 obtain⟨h1,g⟩:=h d f;obtain⟨j,l⟩:=k d h1;exact⟨j,λi h0 e=>(l i h0 e).trans (g i h0 e)⟩
def tx (P:Int->Int->Prop) (g g':Gh) (s s':WD):Prop:= ∀ ⦃o p f j⦄,¬ P o p->dG g s o p f j-> ∃f' a,dG g' s' o p f' a/\ki p a (aJ s'.1 (16*f'+px a p % 16))=ki p j (aJ s.1 (16*f+px j p % 16))
theorem tx.refl (P:Int->Int->Prop) (g:Gh) (s:WD):tx P g g s s:=λ_ _ _ _ _ h=>⟨_, _,h,rfl⟩
theorem tx.trans {P:Int->Int->Prop} {a b c:Gh} {s t u:WD} (h:tx P a b s t) (k:tx P b c t u):tx P a c s u:=λ_ _ _ _ d e=>by
 obtain⟨f1,j1,h1,f⟩:=h d e;obtain⟨f2,g,i,j⟩:=k d h1;exact⟨f2,g,i,j.trans f⟩
theorem tx.mono {P d:Int->Int->Prop} {a b:Gh} {s t:WD} (h:tx P a b s t) (e: ∀o p,P o p->d o p):tx d a b s t:=λ_ _ _ _ f g=>h (λc=>f (e _ _ c)) g
def Yw:Int->Int->Prop:=λ_ _=>False
def ow (o:Int) (l:Nat) (p:Int):Int->Int->Prop:=λo' q=>o'=o/\px l q=px l p
namespace Inv
variable {g:Gh} {s:WD}
theorem fW (I:Inv g s) {o r p:Int} (b:g r=some (o,3,0)) (c:0<=p/\p<65536) {f:Int} {j:Nat} (h:dG g s o p f j):bz s r false p=ki p j (aJ s.1 (16*f+px j p % 16)):=by
 obtain⟨d,e⟩:=I.nS b c h;unfold bz ki;rw[ao (by decide),ao (by omega),e,d];unfold qR;cases hb:(aJ s.1 (16*f+px j p % 16)).1 with
 |false=>rw[ao (by decide),ao (by decide)]
 |true=>
  rw[av rfl,av rfl];by_cases a:j=1
  ·subst a;rfl
  ·rw[ao a,ao (by show ¬ ((j:Int)=1);omega)]
theorem zu (I:Inv g s) {g':Gh} {s':WD} (c:Inv g' s') {P:Int->Int->Prop} (d:tx P g g' s s') (i:mQ g g') {o r p:Int} (a:g r=some (o,3,0)) (k: ¬ P o p):bz s' r false p=bz s r false p:=by
 by_cases h:0<=p/\p<65536
 ·obtain⟨f,j, _,b⟩:=I.mA a h;obtain⟨f',m,h1,l⟩:=d k b;rw[I.fW a h b,c.fW (i.to a) h h1,l]
 ·have e: ∀t:WD,bz t r false p=(0,0,2,()):=λt=>by
   unfold bz;rw[ao (by decide),av (by omega)]
  rw[e,e]
theorem EQ (I:Inv g s) {f o x i:Int} {m:Nat} (b:g f=some (o,m+1,x)) (w:0<=i) (y:i<16) (z:du (aJ s.1 (16*f+i))=false) (hc:0<cd s.2 0) (G:Int->Int)
 (q: ∀k,0<=k->k<16->du (fa (G k))=false/\lB m (fa (G k))/\((fa (G k)).1=false->G k=0))
 (A: ∀p,0<=px m p % 16->px (m+1) p % 16=i->ki p m (fa (G (px m p % 16)))=ki p (m+1) (aJ s.1 (16*f+i))):
 let n:=eA s o
 let s':=dP (iQ s o G) (16*f+i) (cm n)
 let g':=mI g n (some (o,m,16*x+i))
 rL s o=0/\Inv g' s'/\mQ g g'/\AN o g g' s s'/\tx Yw g g' s s'/\s'.2=s.2.set n.toNat (3,o,0,0,())/\s.2[n.toNat]? =some zD/\
 (∀p,dG g s o p f (m+1)->px (m+1) p % 16=i->dG g' s' o p n m/\aJ s'.1 (16*n+px m p % 16)=fa (G (px m p % 16)))/\0<=n/\n<4096:=by
 obtain⟨B,r,C,M,D,E,t,F,N,H⟩:=I.grow b w y z hc G q;dsimp only;have d: ∀{f':Int} {v},g f'=some v->f'≠eA s o:=λh e=>by rw[e,r] at h;cases h
 have FL: ∀p,dG g s o p f (m+1)->px (m+1) p % 16=i->dG (mI g (eA s o) (some (o,m,16*x+i))) (dP (iQ s o G) (16*f+i) (cm (eA s o))) o p (eA s o) m/\aJ (dP (iQ s o G) (16*f+i) (cm (eA s o))).1 (16*eA s o+px m p % 16)=fa (G (px m p % 16)):=λp a c=>by
  have e:=F (px m p % 16) (dY p m).1 (dY p m).2;refine⟨⟨?_,by rw[e];exact(q _ (dY p m).1 (dY p m).2).1⟩,e⟩;rw[bI];have h1:=a.1;rw[b] at h1;simp only[B2,Az,true_and] at h1;rw[h1, <-c, <-nR]
 refine⟨B,H,λo' r' x'=>?_,λ⦃f0 o' l O⦄ J h=>⟨?_,λk h0 h1=>?_⟩,λ⦃o' p f' j⦄ _ a=>?_,D,E,FL,C,by have:=I.le;omega⟩
 ·by_cases e:r'=eA s o
  ·rw[e,bI,r];refine⟨λh=>?_,λh=>by cases h⟩;have:=(I.kd b).2.2.2.2.2;simp only[B2,Az] at h;omega
  ·rw[aY e]
 ·rw[aY (d h)];exact h
 ·have:=d h;refine t _ (λe=>?_) (by omega);have:f0=f:=by omega
  subst this;rw[b] at h;cases h;exact J rfl
 ·by_cases u:f'=f/\px j p % 16=i
  ·obtain⟨rfl,c⟩:=u;have h1:=a.1;rw[b] at h1;simp only[B2,Az] at h1;obtain⟨rfl,rfl,rfl⟩:=h1;obtain⟨K,L⟩:=FL p a c;refine⟨_, _,K,?_⟩;rw[L,c];exact A p (dY p m).1 c
  ·have e:aJ (dP (iQ s o G) (16*f+i) (cm (eA s o))).1 (16*f'+px j p % 16)=aJ s.1 (16*f'+px j p % 16):=by
    have:=d a.1;have:=dY p j;refine t _ (λe=>u ?_) (by omega);omega
   refine⟨f',j,⟨by rw[aY (d a.1)];exact a.1,by rw[e];exact a.2⟩,by rw[e]⟩
theorem zv (I:Inv g s) {f o x i v:Int} {l:Nat} (a:g f=some (o,l,x)) (u:0<=i) (w:i<16) (r:du (aJ s.1 (16*f+i))=false) (hv:du (fa v)=false) (y:lB l (fa v)) (z:(fa v).1=false->v=0) {q:Int} (c:dG g s o q f l) (A:px l q % 16=i):
 Inv g (cZ s.1 (16*f+i) v,s.2)/\AN o g g s (cZ s.1 (16*f+i) v,s.2)/\tx (ow o l q) g g s (cZ s.1 (16*f+i) v,s.2)/\
 (∀p,px l p=px l q->dG g (cZ s.1 (16*f+i) v,s.2) o p f l/\dG g s o p f l)/\aJ (cZ s.1 (16*f+i) v) (16*f+i)=fa v:=by
 obtain⟨t,B⟩:=I.V7 a u w r hv y z;have d:=c.1;rw[a] at d;simp only[B2,Az,true_and] at d;refine⟨B,λ⦃f0 o' E F⦄ C h=>⟨h,λk h0 h1=>?_⟩,λ⦃o' p f' j⦄ b m=>?_,λp b=>?_,t⟩
 ·refine gu (λe=>C ?_);have:f0=f:=by omega
  subst this;rw[a] at h;cases h;rfl
 ·have e:aJ (cZ s.1 (16*f+i) v) (16*f'+px j p % 16)=aJ s.1 (16*f'+px j p % 16):=by
   refine gu (λe=>b ?_);have n:=dY p j;have:f'=f:=by omega
   subst this;have h1:=m.1;rw[a] at h1;simp only[B2,Az] at h1;obtain⟨rfl,rfl,D⟩:=h1;refine⟨rfl,?_⟩;rw[nR p,nR q, <-D, <-d];omega
  exact⟨f',j,⟨m.1,by show du (aJ (cZ s.1 (16*f+i) v) _)=false;rw[e];exact m.2⟩,by show ki p j (aJ (cZ s.1 (16*f+i) v) _)= _;rw[e]⟩
 ·have h1:px (l+1) p=px (l+1) q:=by simp only[px];rw[b]
  have n:px l p % 16=i:=by rw[b];exact A
  refine⟨⟨by rw[h1];exact c.1,?_⟩,⟨by rw[h1];exact c.1,by rw[n];exact r⟩⟩;show du (aJ (cZ s.1 (16*f+i) v) (16*f+px l p % 16))=false;rw[n,t];exact hv
theorem ML (I:Inv g s) {f o x i f2:Int} {m:Nat} (b:g f=some (o,m+1,x)) (w:0<=i) (y:i<16) (a:g f2=some (o,m,16*x+i)) (q:aJ s.1 (16*f+i)=cm f2) (r: ∀k,0<=k->k<16->aJ s.1 (16*f2+k)=zE):
 let s':WD:=(cZ s.1 (16*f+i) 0,dL s.2 f2 (aO 5 0))
 let g':=mI g f2 none
 Inv g' s'/\mQ g g'/\AN o g g' s s'/\tx Yw g g' s s'/\s'.2=s.2.set f2.toNat (5,o,0,0,())/\s.2[f2.toNat]? =some (3,o,0,0,())/\(∀p,dG g s o p f2 m->dG g' s' o p f (m+1))/\aJ s'.1 (16*f+i)=zE:=by
 obtain⟨d,z,A⟩:=I.abQ b w y a q r;dsimp only;have t:=I.vU a;have B:f≠f2:=λe=>by
  subst e;rw[b] at a;simp at a
 have C:du (aJ s.1 (16*f+i))=true:=by rw[q];exact dI ⟨t.1,t.2.1⟩
 have FL: ∀p,dG g s o p f2 m->dG (mI g f2 none) (cZ s.1 (16*f+i) 0,dL s.2 f2 (aO 5 0)) o p f (m+1)/\px (m+1) p % 16=i:=λp h=>by
  have h1:=h.1;rw[a] at h1;simp only[B2,Az,true_and] at h1;have n:=nR p (m+1);have F:=dY p (m+1);have c:px (m+1+1) p=x:=by omega
  have u:px (m+1) p % 16=i:=by omega
  refine⟨⟨by rw[aY B,c];exact b,?_⟩,u⟩;show du (aJ (cZ s.1 (16*f+i) 0) (16*f+px (m+1) p % 16))=false;rw[u,d];exact KE
 refine⟨A,λo' r' x'=>?_,λ⦃f0 o' l G⦄ v h=>⟨?_,λk h0 h1=>?_⟩,λ⦃o' p f' j⦄ _ h=>?_,z,(I.kd a).2.2.1,λp h=>(FL p h).1,d⟩
 ·by_cases e:r'=f2
  ·subst e;rw[bI,a];refine⟨λh=>(by cases h),λh=>?_⟩;simp only[B2,Az] at h;have:=(I.kd b).2.2.2.2.2;omega
  ·rw[aY e]
 ·rw[aY]
  ·exact h
  ·intro e;subst e;rw[a] at h;cases h;exact v rfl
 ·refine gu (λe=>v ?_);have:f0=f:=by omega
  subst this;rw[b] at h;cases h;rfl
 ·by_cases e:f'=f2
  ·subst e;have h1:=h.1;rw[a] at h1;simp only[B2,Az] at h1;obtain⟨rfl,rfl,h1⟩:=h1;obtain⟨D,E⟩:=FL p h;refine⟨_, _,D,?_⟩;show ki p _ (aJ (cZ s.1 (16*f+i) 0) _)= _;rw[E,d,r _ (dY p m).1 (dY p m).2,Gw _ _ rfl,Gw _ _ rfl]
  ·have c:aJ (cZ s.1 (16*f+i) 0) (16*f'+px j p % 16)=aJ s.1 (16*f'+px j p % 16):=by
    refine gu (λe=>?_);have n:=h.2;rw[<-e,C] at n;cases n
   refine⟨f',j,⟨by rw[aY e];exact h.1,?_⟩,?_⟩
   ·show du (aJ (cZ s.1 (16*f+i) 0) _)=false;rw[c];exact h.2
   ·show ki p j (aJ (cZ s.1 (16*f+i) 0) _)= _;rw[c]
end Inv
set_option maxRecDepth 100000
open Go.RX D
structure Kept (s s':WD):Prop where
 ks5: ∀{n:Nat} {d:DT},s.2[n]? =some d->d.1=4\/d.1=5->s'.2[n]? =some d
 ws5: ∀{n:Nat} {d:DT},s.2[n]? =some d->d.1=4\/d.1=5-> ∀k:Int,0<=k->k<16->dK s'.1 (16*(n:Int)+k)=dK s.1 (16*(n:Int)+k)
 nw: ∀{n:Nat} {d:DT},s'.2[n]? =some d->s.2[n]? =some d\/((d.1=3\/d.1=5)/\d.2.2=(0,0,())/\1<=d.2.1/\d.2.1<=16)
theorem Kept.ks {s s':WD} (K:Kept s s') {n:Nat} {d:DT} (h:s.2[n]? =some d) (a:d.1=4):s'.2[n]? =some d:=K.ks5 h (.inl a)
theorem Kept.ws {s s':WD} (K:Kept s s') {n:Nat} {d:DT} (h:s.2[n]? =some d) (a:d.1=4) (k:Int) (k0:0<=k) (b:k<16):dK s'.1 (16*(n:Int)+k)=dK s.1 (16*(n:Int)+k):=K.ws5 h (.inl a) k k0 b
theorem Kept.refl (s:WD):Kept s s:=⟨λh _=>h,by simp,λh=> .inl h⟩
theorem Kept.trans {s t u:WD} (h:Kept s t) (k:Kept t u):Kept s u:=
 ⟨λh1 a=>k.ks5 (h.ks5 h1 a) a,λh1 a i i0 i1=>(k.ws5 (h.ks5 h1 a) a i i0 i1).trans (h.ws5 h1 a i i0 i1),λh1=>(k.nw h1).elim h.nw .inr⟩
theorem Kept.set {s:WD} {W:List Int} {n:Nat} {d0 d1:DT} (h0:s.2[n]? =some d0) (c:d0.1≠4/\d0.1≠5) (h1:(d1.1=3\/d1.1=5)/\d1.2.2=(0,0,())/\1<=d1.2.1/\d1.2.1<=16) (b: ∀{m:Nat} {d:DT},s.2[m]? =some d->d.1=4\/d.1=5-> ∀k:Int,0<=k->k<16->dK W (16*(m:Int)+k)=dK s.1 (16*(m:Int)+k)):Kept s (W,s.2.set n d1):=by
 refine⟨λ{m d} a f=>?_,b,λ{m d} a=>?_⟩
 ·have e:n≠m:=λe=>by grind
  rw[B5 e];exact a
 grind
def iJ (s:WD) (f:Int):Prop:=0<=f/\ ∃d,s.2[f.toNat]? =some d/\d.1=5/\ ∀k:Int,0<=k->k<16->dK s.1 (16*f+k)=0
theorem iJ.kept {s s':WD} {f:Int} (h:iJ s f) (K:Kept s s'):iJ s' f:=by
 obtain⟨h0,d,h1,a,b⟩:=h;refine⟨h0,d,K.ks5 h1 (.inr a),a,λk k0 c=>?_⟩;have:=K.ws5 h1
 grind
theorem Inv.off {g:Gh} {s:WD} (I:Inv g s) {f o x i:Int} {l:Nat} (a:g f=some (o,l,x)) (h0:0<=i) (h1:i<16) {n:Nat} {d:DT} (b:s.2[n]? =some d) (c:d.1=4\/d.1=5) {k:Int} (k0:0<=k) (e:k<16):16*f+i≠16*(n:Int)+k:=by
 have h:=I.kd a
 grind
theorem Inv.C7 {g:Gh} {s:WD} (I:Inv g s) {f o x i:Int} {l:Nat} (a:g f=some (o,l,x)) (h0:0<=i) (h1:i<16) (v:Int):Kept s (cZ s.1 (16*f+i) v,s.2):=
 ⟨λh _=>h,λb c k k0 d=>by exact mP (I.off a h0 h1 b c k0 d),λh=> .inl h⟩
theorem Inv.BO {g:Gh} {s:WD} (I:Inv g s) {f o x i:Int} {m:Nat} (h:g f=some (o,m+1,x)) (r:0<=i) (t:i<16) (hc:0<cd s.2 0) (G:Int->Int) (e:ET):Kept s (dP (iQ s o G) (16*f+i) e):=by
 have j:=I.kd h;obtain⟨n,B,l,u,v,C⟩:=m_ hc I.fz ⟨j.2.2.2.1,j.2.2.2.2.1⟩;have D:eA s o=n:=u;have E:rL s o=0:=v;have F:=I.len;have w:16*(n:Int)+16<=s.1.length:=by omega
 have p:iQ s o G=(fb s.1 n G 16,s.2.set n (3,o,0,0,())):=by unfold iQ;grind
 obtain⟨W,a⟩: ∃W,W=fb s.1 n G 16:=⟨_,rfl⟩;have y: ∀b,dK W b=if 16*n<=b/\b<16*n+16 then G _ else dK s.1 b:=λb=>by
  rw[a];exact tM (by omega) w 16 (by grind) b
 rw[<-a] at p;clear a;have z:dP (W,s.2.set n (3,o,0,0,())) _ e=(cZ W (16*f+i) (NY e),s.2.set n _):=rfl;rw[p,z];refine Kept.set l (by decide) (by grind) λ{m d} c q k k0 A=>?_;have H:n≠m:=λe=>by subst e;rw[l] at c;cases c;exact absurd q (by decide)
 rw[mP (I.off h r t c q k0 A),y,ao (by omega)]
def AA (g:Gh) (s:WD):Prop:= ∀ ⦃f o l x i⦄,g f=some (o,l,x)->0<=i->i<16->(aJ s.1 (16*f+i)).1=true->du (aJ s.1 (16*f+i))=false->l=0
theorem AA.upd {g:Gh} {s s':WD} (h:AA g s) {f o x i:Int} {l:Nat} (n:g f=some (o,l,x)) (h0:0<=i) (h1:i<16) (d: ∀b,b≠16*f+i->aJ s'.1 b=aJ s.1 b)
 (p:(aJ s'.1 (16*f+i)).1=true->du (aJ s'.1 (16*f+i))=false->l=0):AA g s':=λf2 q r t k j k0 m a c=>by
 by_cases e:16*f2+k=16*f+i
 grind
 ·rw[d _ e] at a c;exact h j k0 m a c
theorem AA.grow {g:Gh} {s s':WD} (h:AA g s) {f i F o x a:Int} {m:Nat} (l: ∀b,b≠a->(b<16*F\/16*F+16<=b)->aJ s'.1 b=aJ s.1 b)
 (q: ∀k,0<=k->k<16->(aJ s'.1 (16*F+k)).1=true->m=0) (r:du (aJ s'.1 a)=true):AA (mI g F (some (o,m,x))) s':=λf2 t u v k c k0 n d j=>by
 by_cases e:f2=F
 ·subst e;rw[bI] at c
  grind
 ·rw[aY e] at c;by_cases p:16*f2+k=a
  grind
  ·rw[l _ p (by omega)] at d j;exact h c k0 n d j
theorem AA.del {g:Gh} {s:WD} (h:AA g s) (F:Int):AA (mI g F none) s:=λf2 f i j k a k0 b c d=>by
 by_cases e:f2=F
 ·subst e;rw[bI] at a;grind
 ·rw[aY e] at a;exact h a k0 b c d
def Zg (P:Int->Int->Prop):Prop:= ∀o q a,P o q->P o a->q=a
theorem PM (l:Nat) (p:Int):px (l+1) p=px l (p / 16):=by
 induction l with
 |zero=>rfl
 |succ l a=>rw[px,a];rfl
theorem Zg.lv {o p:Int} {lv:Nat} (h:Zg (λo' q=>o'=o/\px lv q=px lv p)):lv=0:=by
 cases lv with
 |zero=>rfl
 |succ=>
  have a:(16*(p / 16)+(p % 16+1) % 16) / 16=p / 16:=by omega
  have:=h o p (16*(p / 16)+(p % 16+1) % 16) (by grind) ⟨rfl,by rw[PM,PM,a]⟩;omega
structure tc (P:Int->Int->Prop) (o:Int) (g g':Gh) (s s':WD):Prop where
 inv:Inv g' s'
 root:mQ g g'
 Ux:AN o g g' s s'
 DY:tx P g g' s s'
 kk: ∀{n:Nat} {d:DT},s.2[n]? =some d->d.1=3\/d.1=5-> ∃d':DT,s'.2[n]? =some d'/\(d'.1=5\/(d'.1=3/\d.1=3))
 len:s'.1.length=s.1.length/\s'.2.length=s.2.length
 kp:Kept s s'
 lg:Zg P->AA g s->AA g' s'
 gk: ∀{f:Int} {v:Int×Nat×Int},g f=some v->g' f=some v\/iJ s' f
theorem tc.refl {g:Gh} {s:WD} (I:Inv g s) (P:Int->Int->Prop) (o:Int):tc P o g g s s:=
 ⟨I,.refl g,.refl o g s,.refl P g s,by grind,by simp,.refl s,λ_ h=>h,λh=> .inl h⟩
theorem tc.trans {P:Int->Int->Prop} {o:Int} {a b c:Gh} {s t u:WD} (h:tc P o a b s t) (k:tc P o b c t u):tc P o a c s u where
 inv:=k.inv
 root:=h.root.trans k.root
 Ux:=h.Ux.trans k.Ux
 DY:=h.DY.trans k.DY
 kk:=λd f=>by
  obtain⟨d1,h1,g⟩:=h.kk d f;obtain:=k.kk h1
  grind
 len:=⟨k.len.1.trans h.len.1,k.len.2.trans h.len.2⟩
 kp:=h.kp.trans k.kp
 lg:=λo n=>k.lg o (h.lg o n)
 gk:=λh1=>(h.gk h1).elim (λe=>k.gk e) λe=> .inr (e.kept k.kp)
theorem tc.mono {P d:Int->Int->Prop} {o:Int} {a b:Gh} {s t:WD} (h:tc P o a b s t) (c: ∀o p,P o p->d o p):tc d o a b s t:=⟨h.inv,h.root,h.Ux,h.DY.mono c,h.kk,h.len,h.kp,λo1 n=>h.lg (λo q e a b=>o1 o q e (c _ _ a) (c _ _ b)) n,h.gk⟩
theorem PN {ds:List DT} {i:Nat} {d0 d1:DT} (h0:ds[i]? =some d0) (a:d0.1=3\/d0.1=5->d1.1=5) {n:Nat} {d:DT} (h:ds[n]? =some d) (k:d.1=3\/d.1=5): ∃d':DT,(ds.set i d1)[n]? =some d'/\(d'.1=5\/(d'.1=3/\d.1=3)):=by
 grind
theorem yf (s:WD) (o:Int) (G:Int->Int) (i:Int) (e:ET):(dP (iQ s o G) i e).1.length=s.1.length:=by grind[dP,iQ,cG,gN]
def DK (g:Gh) (s:WD) (e:Option Int):Prop:= ∀ ⦃f o l x⦄,g f=some (o,l,x)->l<3->some f≠e-> ∃k,0<=k/\k<16/\(aJ s.1 (16*f+k)).1=true
theorem DK.some {g:Gh} {s:WD} (h:DK g s none) (f:Int):DK g s (some f):=λ_ _ _ _ a b _=>h a b (by simp)
namespace Inv
variable {g:Gh} {s:WD}
theorem down {o p:Int} (b:0<=p/\p<65536) (lv:Nat): ∀(n:Nat) {g:Gh} {s:WD} {f:Int},Inv g s->dG g s o p f (lv+n)->(aJ s.1 (16*f+px (lv+n) p % 16)).1=false->n<=cd s.2 0->
 ∃g' s' f',ri o p n (s,(f,((lv+n:Nat):Int),16*f+px (lv+n) p % 16,()))=(s',(f',(lv:Int),16*f'+px lv p % 16,()))/\tc Yw o g g' s s'/\dG g' s' o p f' lv/\(aJ s'.1 (16*f'+px lv p % 16)).1=false/\cd s'.2 0+n=cd s.2 0/\(DK g s (some f)->DK g' s' (some f'))
 |0,g,s,f,I,a,c, _=>⟨g,s,f,rfl,.refl I _ _,a,c,rfl,λh=>h⟩
 |n+1,g,s,f,I,a,c,hc=>by
  have w:=I.kd a.1;have x:lv+n<=3:=by have:=w.2.2.2.2.2;omega
  have hi:=dY p (lv+n+1);obtain⟨Z,j,y,z,A,l,q,B,C,D⟩:=I.EQ (m:=lv+n) a.1 hi.1 hi.2 a.2 (by omega) (λ_=>0) (λk _ _=>by
   rw[pB];exact⟨KE,Ej _,λ_=>rfl⟩) (λp' _ oI=>by
   rw[pB,Gw _ _ rfl,Gw];exact c)
  obtain⟨E,F⟩:=B p a rfl;have r:0<=eA s o/\eA s o<4096:=⟨C,D⟩;have G:=tN (d':=(3,o,0,0,())) q 0;have Oj:cd (dP (iQ s o λ_=>0) (16*f+px (lv+n+1) p % 16) (cm (eA s o))).2 0+1=cd s.2 0:=by
   rw[l];simpa[zD] using G
  obtain⟨_,u1, _, _, _, _,t,H,u, _⟩:=I.grow (m:=lv+n) a.1 hi.1 hi.2 a.2 (by omega) (λ_=>0) (λk _ _=>by
   rw[pB];exact⟨KE,Ej _,λ_=>rfl⟩)
  have J:tc Yw o g _ s (dP (iQ s o λ_=>0) (16*f+px (lv+n+1) p % 16) (cm (eA s o))):=
   ⟨j,y,z,A,by grind,⟨yf _ _ _ _ _,by rw[l,Ar]⟩,I.BO (m:=lv+n) a.1 hi.1 hi.2 (by omega) _ _,λ_ nl=>nl.grow (f:=f) (i:=0) t (λk k0 d b=>by rw[H k k0 d,pB] at b;cases b) (by rw[u];exact dI r),λ{f0 K} v=> .inl (by
    rw[aY (λe=>?_)]
    ·exact v
    ·obtain⟨L,M,N⟩:=K;have:=(I.kd v).2.2.1;rw[e,q] at this;cases this)⟩
  have O:DK g s (some f)->DK (mI g (eA s o) (some (o,lv+n,16*px (lv+n+1+1) p+px (lv+n+1) p % 16))) (dP (iQ s o λ_=>0) (16*f+px (lv+n+1) p % 16) (cm (eA s o))) (some (eA s o)):=λh f0 L M N h0 P Q=>by
   have R:f0≠eA s o:=λe=>Q (by rw[e]);rw[aY R] at h0;by_cases e:f0=f
   ·subst e;exact⟨_,hi.1,hi.2,by rw[u];rfl⟩
   ·obtain⟨k,d,S,T⟩:=h h0 P (by simpa using e);exact⟨k,d,S,by rw[t _ (by omega) (by omega)];exact T⟩
  obtain⟨g',s',f',U,V,W,X,r5,Y⟩:=down b lv n j E (by rw[F,pB];rfl) (by omega);refine⟨g',s',f',?_,J.trans V,W,X,by omega,λh=>Y (O h)⟩;rw[<-U];show ri o p n _= _;have el:((lv+(n+1):Nat):Int) - 1=((lv+n:Nat):Int):=by omega
  rw[el,lz r b x];rfl
end Inv
set_option maxRecDepth 100000
open Go.RX D
theorem XM {ds:List DT} (h:cd ds 0=0):iI ds=none:=by
 unfold cd at h;unfold iI;rw[Gz];intro d a;have:=List.countP_eq_zero.1 h d a;simpa using this
theorem BP {ds:List DT} {y o:Int} (h: ¬ dS ds y o=0):dF ds y o=ds:=by
 unfold dS at h;unfold dF;cases a:iI ds with
 |none=>rfl
 |some n=>
  have b: ¬ ds.length=0:=λe=>by
   have:ds=[]:=FY.1 e;subst this;cases a
  rw[ao b,a] at h;dsimp only at h ⊢;by_cases c:(n:Int)<0\/(n:Int)>=ds.length
  ·exact yb c _
  ·rw[y7 (by omega)] at h;rw[pJ (by omega),ao h]
theorem JH {s:WD} {o:Int} {G:Int->Int} (h: ¬ rL s o=0):iQ s o G=s:=by
 unfold iQ;rw[ao h,BP h]
theorem Sk {s:WD} {o:Int} (h:cd s.2 0=0) (a:0<s.2.length): ¬ rL s o=0:=by
 unfold rL dS;rw[ao (by omega),XM h];show ¬ (12:Int)=0;decide
theorem C8 {p:Int} {j:Nat} {e:ET} (h:(ki p j e).2.2.1=0):e.1=true:=by
 cases a:e.1 with
 |true=>rfl
 |false=>
  rw[Gw p j a] at h;exact absurd h (by decide)
theorem PO {ws:List Int} {f:Int} (c:0<=f) (d:16*f+16<=ws.length) {k:Nat} (a:k<16):(jD ws (16*f) 16)[k]? =some (dK ws (16*f+(k:Int))):=by
 have e:jD ws (16*f) 16=(ws.drop (16*f).toNat).take 16:=ao (by omega);rw[e,GJ a,GS];unfold dK;have hi:(16*f).toNat+k<ws.length:=by omega
 rw[av (jj (by omega) (by omega)),Bx hi,DA];have b:(16*f+(k:Int)).toNat=(16*f).toNat+k:=by omega
 rw[b,Bx hi];rfl
theorem ER {ws:List Int} {f:Int} (a:0<=f) (b:16*f+16<=ws.length) (h:xH ws f=true) (k:Int) (h0:0<=k) (h1:k<16):dK ws (16*f+k)=0:=by
 have c:=PO a b (k:=k.toNat) (by omega);unfold xH at h;rw[Gi] at h;have:=h _ (CB c);rw[show((k.toNat:Nat):Int)=k from by omega] at this;simpa using this
theorem Sm {ws:List Int} {f:Int} (b:0<=f) (c:16*f+16<=ws.length) (h:xH ws f=false): ∃k:Int,0<=k/\k<16/\dK ws (16*f+k)≠0:=by
 unfold xH at h;rw[Gd] at h;obtain⟨v,hv,d⟩:=h;obtain⟨k,a⟩:=Gj hv;have i:(jD ws (16*f) 16).length=16:=by
  have e:jD ws (16*f) 16=(ws.drop (16*f).toNat).take 16:=ao (by omega);rw[e,Eo,GH];omega
 have g:k<16:=by have:=(B1.1 a).1;omega
 have:=PO b c g;rw[a] at this;refine⟨(k:Int),by omega,by omega,λe=>d ?_⟩;cases this;simpa using e
def Xi (F:Nat->Int) (p:Int):Nat->Nat->List PT
 |j,0=>[(F j,(j:Int),16*F j+px j p % 16,())]
 |j,n+1=>(F j,(j:Int),16*F j+px j p % 16,())::Xi F p (j+1) n
structure Up (g:Gh) (s:WD) (o p:Int) (F:Nat->Int) (j:Nat):Prop where
 gh: ∀i,j<=i->i<=3->g (F i)=some (o,i,px (i+1) p)
 ld: ∀i,j<=i->i<3->aJ s.1 (16*F (i+1)+px (i+1) p % 16)=cm (F i)
theorem Sn (F:Nat->Int) (p:Int) (j n:Nat): ∃l,Xi F p j n=(F j,(j:Int),16*F j+px j p % 16,())::l:=by cases n<;>exact⟨_,rfl⟩
namespace Inv
theorem put {g:Gh} {s:WD} (I:Inv g s) {o r p:Int} (l:g r=some (o,3,0)) (c:0<=p/\p<65536) {lv:Nat} {e:ET} (t:e.1=true) (y:bT e.1 e.2.1 e.2.2.1 e.2.2.2.1=true) (z:du e=false) (A:lB lv e) (h0:mj s r p lv=0):
 ∃g',tc (ow o lv p) o g g' s (rU s o r p lv e)/\(∀q,px lv q=px lv p-> ∃f,dG g' (rU s o r p lv e) o q f lv/\aJ (rU s o r p lv e).1 (16*f+px lv q % 16)=e)/\
  (∃f j,lv<=j/\dG g s o p f j/\(aJ s.1 (16*f+px j p % 16)).1=false/\cd (rU s o r p lv e).2 0+(j - lv)=cd s.2 0)/\(DK g s none->DK g' (rU s o r p lv e) none):=by
 obtain⟨f,j,L,i⟩:=I.mA l c;obtain⟨u,eP⟩:=I.nS l c i;have a:=h0;unfold mj at a;rw[u,eP] at a;dsimp only at a;by_cases c1:((aJ s.1 (16*f+px j p % 16)).1||decide (((j:Nat):Int)<((lv:Nat):Int)))=true
 ·rw[av c1] at a;exact absurd a (by decide)
 rw[ao c1] at a;by_cases c2:(cd s.2 0:Int)<((j:Nat):Int) - ((lv:Nat):Int)
 ·rw[av c2] at a;exact absurd a (by decide)
 simp only[Ea,decide_eq_true_eq,not_or,Bool.not_eq_true] at c1;obtain⟨n,rfl⟩: ∃n,j=lv+n:=⟨j - lv,by omega⟩;obtain⟨g1,s1,f1,d1,C1,E1,M,N,x1⟩:=down c lv n I i c1.1 (by omega);have B:rU s o r p lv e=(cZ s1.1 (16*f1+px lv p % 16) (NY e),s1.2):=by
  unfold rU;rw[av h0,u];have en:(((lv+n:Nat):Int) - ((lv:Nat):Int)).toNat=n:=by omega
  dsimp only;rw[en,d1];rfl
 rw[B];have hv:fa (NY e)=e:=yd y;have hi:=dY p lv;obtain⟨C,D,E,F,w⟩:=C1.inv.zv (v:=NY e) E1.1 hi.1 hi.2 E1.2 (by rw[hv];exact z) (by rw[hv];exact A) (λh=>by rw[hv,t] at h;cases h) E1 rfl;refine⟨g1,(C1.mono λ_ _ h=>h.elim).trans ⟨C,.refl _,D,E,λ{m d} h k=>⟨d,h,k.elim (λe=> .inr ⟨e,e⟩) .inl⟩,⟨cG _ _ _,rfl⟩,C1.inv.C7 E1.1 hi.1 hi.2 _,λo1 nl=>nl.upd E1.1 hi.1 hi.2 (λb hb=>gu (λe=>hb e.symm)) λ_ _=>o1.lv,λh=> .inl h⟩,λq x=>⟨f1,(F q x).1,?_⟩,⟨f,lv+n,by omega,i,c1.1,?_⟩,λh=>?_⟩
 ·show aJ (cZ s1.1 _ _) _= _;rw[x,w,hv]
 ·show cd s1.2 0+ _= _;omega
 ·intro f0 O P Q h0 G _;by_cases ef:f0=f1
  ·subst ef;exact⟨_,hi.1,hi.2,by show(aJ (cZ s1.1 _ _) _).1=true;rw[w,hv];exact t⟩
  ·obtain⟨k,H,J,K⟩:=x1 (h.some f) h0 G (by simpa using ef);exact⟨k,H,J,by show(aJ (cZ s1.1 _ _) _).1=true;rw[gu (by omega)];exact K⟩
end Inv
set_option maxRecDepth 100000
open Go.RX D
theorem aai (x y:PT) (l:List PT) (t:WD):jx (x::y::l) t=if xH t.1 x.1=true then jx (y::l) (cZ t.1 y.2.2.1 0,dL t.2 x.1 (aO 5 0)) else t:=rfl
theorem Zh {ws:List Int} {a:Int} (h:dK ws a=0):aJ ws a=zE:=by unfold aJ;rw[h];exact pB
theorem Up.ne {g:Gh} {s:WD} {o p:Int} {F:Nat->Int} {j:Nat} (U:Up g s o p F j) {a b:Nat} (c:j<=a) (d:a<=3) (hb:j<=b) (f:b<=3) (h:a≠b):F a≠F b:=λe=>by
 have h1:=U.gh a c d;rw[e,U.gh b hb f] at h1;simp only[B2,Az,true_and] at h1;exact h h1.1.symm
theorem mg {r:Int} {l:Bool} {f:Int}:bT true r l f=true<->(0<=r/\r<=7/\0<=f/\f<4096/\(r>0\/l=false)):=by
 unfold bT;cases l<;>simp<;>omega
theorem O1 {p:Bool} {r:Int} {l:Bool} {f:Int} (h:r≠0):du (p,r,l,f,())=false:=by
 unfold du fV;simp[h]
namespace Inv
theorem split {g:Gh} {s:WD} (I:Inv g s) {o r p:Int} (F:g r=some (o,3,0)) (G:0<=p/\p<65536) {f:Int} {j:Nat} (a:dG g s o p f j) (b:(aJ s.1 (16*f+px j p % 16)).1=true) (h0:mn s o r p=0):
 ∃g' f',tc Yw o g g' s (ft s o r p)/\dG g' (ft s o r p) o p f' 0/\cd (ft s o r p).2 0+j=cd s.2 0/\(DK g s none->DK g' (ft s o r p) none):=by
 obtain⟨l,eP⟩:=I.nS F G a;have hi:=dY p j;rcases I.leaf a.1 hi.1 hi.2 b a.2 with ⟨rfl, _⟩|⟨rfl,n,x⟩
 ·have q:ft s o r p=s:=by unfold ft;rw[l];exact av rfl
  rw[q];exact⟨g,f,.refl I _ _,a,rfl,λh=>h⟩
 ·have H:mn s o r p=rL s o:=by unfold mn;rw[l];exact ao (by show ¬ ((1:Int)=0);decide)
  rw[H] at h0;have q:ft s o r p=dP (iQ s o (oO (aJ s.1 (16*f+px 1 p % 16)))) (16*f+px 1 p % 16) (cm (eA s o)):=by
   unfold ft;rw[l,eP];rw[ao (by show ¬ ((1:Int)=0);decide),av h0]
  have y:=I.kd a.1;have hc:0<cd s.2 0:=by
   rcases Nat.eq_zero_or_pos (cd s.2 0) with e|e
   ·exact absurd h0 (Sk e (by omega))
   ·exact e
  have t:=lI s.1 (16*f+px 1 p % 16);rw[q];have J:=a.2;generalize K:aJ s.1 (16*f+px 1 p % 16)=e at n x t b J ⊢;obtain⟨ep,er,el,ef,eu⟩:=e;dsimp only at n x t b;subst n;subst b;obtain⟨L,M,b3,b4,z⟩:=mg.1 t;have z:er>0:=z.elim id (λh=>by cases h);have u: ∀k:Int,0<=k->k<16->fa (oO (true,er,true,ef,()) k)=(true,er,false,ef+k,()):=λk k0 c=>by
   show fa (F1 true er false (ef+k))= _;exact yd (mg.2 ⟨L,M,by omega,by omega,.inr rfl⟩)
  have A: ∀k,0<=k->k<16->du (fa (oO (true,er,true,ef,()) k))=false/\lB 0 (fa (oO (true,er,true,ef,()) k))/\((fa (oO (true,er,true,ef,()) k)).1=false->oO (true,er,true,ef,()) k=0):=λk k0 c=>by
   rw[u k k0 c];exact⟨O1 (by omega),λ_ _=> .inl ⟨rfl,rfl⟩,λh=>by cases h⟩
  obtain⟨q0,N,O,P,Q,v,w,R,S,T⟩:=I.EQ (m:=0) a.1 hi.1 hi.2 a.2 hc (oO (true,er,true,ef,())) A (λp' hp0 oI=>by
   rw[u _ (dY p' 0).1 (dY p' 0).2,K];rfl)
  obtain⟨_,u1, _, _, _, _,B,U,C, _⟩:=I.grow (m:=0) a.1 hi.1 hi.2 a.2 hc (oO (true,er,true,ef,())) A;obtain⟨V,e2⟩:=R p a rfl;have W:=tN (d':=(3,o,0,0,())) w 0;refine⟨_,eA s o,⟨N,O,P,Q,λ{m d} X y=>by rw[v];exact PN w (λh=>by rcases h with h|h<;>exact absurd h (by decide)) X y,⟨yf _ _ _ _ _,by rw[v,Ar]⟩,I.BO (m:=0) a.1 hi.1 hi.2 hc _ _,λ_ nl=>nl.grow (f:=f) (i:=0) B (λ_ _ _ _=>rfl) (by rw[C];exact dI ⟨S,T⟩),λ{f0 Y} D=> .inl (by
   rw[aY (λe=>?_)]
   ·exact D
   ·obtain⟨Z,l0,x0⟩:=Y;have:=(I.kd D).2.2.1;rw[e,w] at this;cases this)⟩,V,?_,?_⟩
  ·rw[v];simpa[zD] using W
  ·intro h f0 Z l0 x0 h0 IK _;by_cases E:f0=eA s o
   ·subst E;exact⟨0,by decide,by decide,by rw[U 0 (by decide) (by decide),u 0 (by decide) (by decide)]⟩
   ·rw[aY E] at h0;by_cases e:f0=f
    ·subst e;exact⟨_,hi.1,hi.2,by rw[C];rfl⟩
    ·obtain⟨k,c,k2,k3⟩:=h h0 IK (by simp);exact⟨k,c,k2,by rw[B _ (by omega) (by omega)];exact k3⟩
theorem thin {o p:Int} (t:0<=p/\p<65536) {F:Nat->Int}: ∀(n:Nat) {j:Nat} {g:Gh} {s:WD},j+n=3->Inv g s->Up g s o p F j->
 ∃g',tc Yw o g g' s (jx (Xi F p j n) s)/\cd (jx (Xi F p j n) s).2 0=cd s.2 0/\(DK g s (some (F j))->DK g' (jx (Xi F p j n) s) none)
 |0,j,g,s,M,I,U=>by
  refine⟨g,.refl I _ _,rfl,λh f0 A B C h0 q _=>h h0 q (λe=>?_)⟩;have D:=U.gh j (B4 _) (by omega);cases e;rw[h0] at D;simp only[B2,Az] at D;omega
 |n+1,j,g,s,M,I,U=>by
  obtain⟨l',E⟩:=Sn F p (j+1) n;have N:Xi F p j (n+1)=(F j,(j:Int),16*F j+px j p % 16,())::(F (j+1),((j+1:Nat):Int),16*F (j+1)+px (j+1) p % 16,())::l':=by rw[Xi,E]
  have v:=U.gh j (B4 _) (by omega);have g1:=U.gh (j+1) (by omega) (by omega);have O:=U.ld j (B4 _) (by omega);have hi:=dY p (j+1);have f:=I.vU v;rw[N,aai];cases w:xH s.1 (F j) with
  |false=>
   rw[ao (by decide)];refine⟨g,.refl I _ _,rfl,λh f0 A B C h0 q _=>?_⟩;by_cases e:f0=F j
   ·subst e;obtain⟨k,k0,c,x⟩:=Sm f.1 f.2.2 w;refine⟨k,k0,c,?_⟩;cases hb:(aJ s.1 (16*F j+k)).1 with
    |true=>rfl
    |false=>exact absurd (I.wf v k0 c hb) x
   ·exact h h0 q (by simpa using e)
  |true=>
   rw[av rfl];dsimp only;have P:g (F j)=some (o,j,16*px (j+1+1) p+px (j+1) p % 16):=by rw[<-nR];exact v
   obtain⟨y,G,H,J,l,r,Q,K⟩:=I.ML g1 hi.1 hi.2 P O (λk k0 c=>Zh (ER f.1 f.2.2 w k k0 c));dsimp only at y G H J l r Q K;have C1:tc Yw o g (mI g (F j) none) s (cZ s.1 (16*F (j+1)+px (j+1) p % 16) 0,dL s.2 (F j) (aO 5 0)):=
    ⟨y,G,H,J,λ{m d} z R=>by rw[l];exact PN r (λ_=>rfl) z R,⟨cG _ _ _,by rw[l,Ar]⟩,by rw[l];exact Kept.set r (show ¬ (3:Int)=4/\ ¬ (3:Int)=5 by decide) ⟨.inr rfl,rfl,(I.kd g1).2.2.2.1,(I.kd g1).2.2.2.2.1⟩ λ{m d} z S k k0 c=>by rw[mP (I.off g1 hi.1 hi.2 z S k0 c)],λ_ nl=>(nl.upd (s':=(cZ s.1 (16*F (j+1)+px (j+1) p % 16) 0,dL s.2 (F j) (aO 5 0))) g1 hi.1 hi.2 (λb hb=>gu (λe=>hb e.symm)) λt _=>by rw[K] at t;cases t).del _,λ{f0 X} T=>by
     by_cases e:f0=F j
     ·subst e;have V:=U.ne (a:=j) (b:=j+1) (by omega) (by omega) (by omega) (by omega) (by omega);refine .inr ⟨f.1, _,by rw[l];exact DF (B1.1 r).1,rfl,λk k0 c=>?_⟩;show dK (cZ s.1 _ _) _=0;rw[mP (by omega)];exact ER f.1 f.2.2 w k k0 c
     ·exact .inl (by rw[aY e];exact T)⟩
   have U1:Up (mI g (F j) none) (cZ s.1 (16*F (j+1)+px (j+1) p % 16) 0,dL s.2 (F j) (aO 5 0)) o p F (j+1):=by
    refine⟨λi h1 u=>?_,λi h1 u=>?_⟩
    ·rw[aY (U.ne (by omega) u (B4 _) (by omega) (by omega))];exact U.gh i (by omega) u
    ·have V:=U.ne (a:=i+1) (b:=j+1) (by omega) (by omega) (by omega) (by omega) (by omega);have Y:=dY p (i+1);show aJ (cZ _ _ _) _= _;rw[gu (by omega)];exact U.ld i (by omega) u
   obtain⟨g',c1,c2,c3⟩:=thin t n (by omega) y U1;rw[E] at c1 c2 c3;refine⟨g',C1.trans c1,c2.trans ?_,λh=>c3 λf0 A B C h0 q W=>?_⟩
   ·have:=tN (d':=(5,o,0,0,())) r 0;rw[l];simpa using this
   ·have L:f0≠F j:=λe=>by rw[e,bI] at h0;cases h0
    have Z:f0≠F (j+1):=λe=>W (by rw[e]);rw[aY L] at h0;obtain⟨k,k0,c,x⟩:=h h0 q (by simpa using L);exact⟨k,k0,c,by show(aJ (cZ _ _ _) _).1=true;rw[gu (by omega)];exact x⟩
end Inv
set_option maxRecDepth 100000
open Go.RX D
namespace Inv
variable {g:Gh} {s:WD}
theorem acI (I:Inv g s) {o r p f0:Int} (v:g r=some (o,3,0)) (a:0<=p/\p<65536) (E:dG g s o p f0 0):
 ∃F:Nat->Int,F 0=f0/\Up g s o p F 0/\(da s.1 p 3 r).reverse=Xi F p 0 3:=by
 obtain⟨f1,a1,j⟩:=I.FO E.1 (by decide);obtain⟨f2,e,k⟩:=I.FO a1 (by decide);obtain⟨f3,f,m⟩:=I.FO e (by decide);have w:f3=r:=by
  refine I.inj f ?_;rw[v];have:=px4 a;simp only[px] at this ⊢;rw[this]
 subst w;have b:=I.vU E.1;have c:=I.vU a1;have d:=I.vU e;have n:=I.vU f;refine⟨λi=>match i with|0=>f0|1=>f1|2=>f2| _=>f3,rfl,⟨λi _ h=>?_,λi _ h=>?_⟩,?_⟩
 ·rcases i with _| _| _| _|i
  ·exact E.1
  ·exact a1
  ·exact e
  ·exact f
  ·omega
 ·rcases i with _| _| _|i
  ·exact j
  ·exact k
  ·exact m
  ·omega
 ·have q:=lz ⟨n.1,n.2.1⟩ a (l:=3) (by omega);have t:=lz ⟨d.1,d.2.1⟩ a (l:=2) (by omega);have u:=lz ⟨c.1,c.2.1⟩ a (l:=1) (by omega);have x:=lz ⟨b.1,b.2.1⟩ a (l:=0) (by omega);have t2:=dI ⟨d.1,d.2.1⟩;have t1:=dI ⟨c.1,c.2.1⟩;have t0:=dI ⟨b.1,b.2.1⟩;have c3:aJ s.1 (dV f3 p ((2+1:Nat):Int))=cm f2:=by rw[q];exact m
  have c2:aJ s.1 (dV f2 p ((1+1:Nat):Int))=cm f1:=by rw[t];exact k
  have c1:aJ s.1 (dV f1 p ((0+1:Nat):Int))=cm f0:=by rw[u];exact j
  have w0:da s.1 p 0 f0=[(f0,0,dV f0 p 0,())]:=rfl;have w1:da s.1 p 1 f1=[(f1,((0+1:Nat):Int),dV f1 p ((0+1:Nat):Int),()),(f0,0,dV f0 p 0,())]:=by rw[da,c1,av t0];rfl
  have y:da s.1 p 2 f2=[(f2,((1+1:Nat):Int),dV f2 p ((1+1:Nat):Int),()),(f1,((0+1:Nat):Int),dV f1 p ((0+1:Nat):Int),()),(f0,0,dV f0 p 0,())]:=by
   rw[da,c2,av t1];show _::da s.1 p 1 f1= _;rw[w1]
  have z:da s.1 p 3 f3=[(f3,((2+1:Nat):Int),dV f3 p ((2+1:Nat):Int),()),(f2,((1+1:Nat):Int),dV f2 p ((1+1:Nat):Int),()),(f1,((0+1:Nat):Int),dV f1 p ((0+1:Nat):Int),()),(f0,0,dV f0 p 0,())]:=by
   rw[da,c3,av t2];show _::da s.1 p 2 f2= _;rw[y]
  have A:dV f0 p 0=16*f0+px 0 p % 16:=x;have B:dV f1 p ((0+1:Nat):Int)=16*f1+px 1 p % 16:=u;have C:dV f2 p ((1+1:Nat):Int)=16*f2+px 2 p % 16:=t;have D:dV f3 p ((2+1:Nat):Int)=16*f3+px 3 p % 16:=q;rw[z,A,B,C,D];rfl
theorem JI {s:WD} {n:Nat} {d:DT} (h:s.2[n]? =some d) (k:d.1=3\/d.1=5): ∃d':DT,s.2[n]? =some d'/\(d'.1=5\/(d'.1=3/\d.1=3)):=⟨d,h,k.elim (λe=> .inr ⟨e,e⟩) .inl⟩
theorem Ei (I:Inv g s) {o r p:Int} (l:g r=some (o,3,0)) (c:0<=p/\p<65536) (h0:Cz s o r false p=0):
 ∃g',tc (ow o 0 p) o g g' s (nv s o r false p)/\bz (nv s o r false p) r false p=(0,0,4,())/\(bz s r false p).2.2.1=0/\
  (∃f j,j<=1/\dG g s o p f j/\(aJ s.1 (16*f+px j p % 16)).1=true/\cd (nv s o r false p).2 0+j=cd s.2 0)/\(DK g s none->DK g' (nv s o r false p) none):=by
 have m:(bz s r false p).2.2.1=0:=by
  unfold Cz at h0;by_cases h:(bz s r false p).2.2.1=0
  ·exact h
  ·rw[ao h] at h0;exact h0
 have w:mn s o r p=0:=by unfold Cz at h0;rw[av m] at h0;exact h0
 obtain⟨f,j,S,d⟩:=I.mA l c;have x:=m;rw[I.fW l c d] at x;have n:=C8 x;have B:j<=1:=by
  rcases I.leaf d.1 (dY p j).1 (dY p j).2 n d.2 with h|h<;>omega
 obtain⟨g1,f0,C1,E1,c1,C⟩:=I.split l c d n w;have D:nv s o r false p=jx (da (ft s o r p).1 p 3 r).reverse (cZ (ft s o r p).1 (dD (ft s o r p).1 r p).2.2.1 0,(ft s o r p).2):=by
  unfold nv;rw[av m,av w]
 have q:=C1.root.to l;have E:=(C1.inv.nS q c E1).1;rw[D,E];generalize ft s o r p=t at*
 have hi:=dY p 0;obtain⟨y,G,H,J,K⟩:=C1.inv.zv (v:=0) E1.1 hi.1 hi.2 E1.2 (by rw[pB];exact KE) (by rw[pB];exact Ej _) (λ_=>rfl) E1 rfl;obtain⟨F,z,U,L⟩:=C1.inv.acI q c E1;rw[L];dsimp only;have U2:Up g1 (cZ t.1 (16*f0+px 0 p % 16) 0,t.2) o p F 0:=by
  refine⟨U.gh,λi h1 u=>?_⟩;have M:=U.ne (a:=i+1) (b:=0) (by omega) (by omega) (by omega) (by omega) (by omega);have T:=dY p (i+1);rw[z] at M;show aJ (cZ _ _ _) _= _;rw[gu (by omega)];exact U.ld i h1 u
 obtain⟨N,C3,c3,O⟩:=thin c 3 rfl y U2;have C2:tc (ow o 0 p) o g1 g1 t (cZ t.1 (16*f0+px 0 p % 16) 0,t.2):=⟨y,.refl _,G,H,λh k=>JI h k,⟨cG _ _ _,rfl⟩,C1.inv.C7 E1.1 hi.1 hi.2 _,λ_ nl=>nl.upd E1.1 hi.1 hi.2 (λb hb=>gu (λe=>hb e.symm)) λ_ _=>rfl,λh=> .inl h⟩;refine⟨N,((C1.mono λ_ _ h=>h.elim).trans C2).trans (C3.mono λ_ _ h=>h.elim),?_,m,⟨f,j,B,d,n,?_⟩,λh=>?_⟩
 ·obtain⟨f',V,h1,u⟩:=C3.DY (λh=>h) (J p rfl).1;rw[C3.inv.fW (C3.root.to q) c h1,u];show ki p 0 (aJ (cZ t.1 _ _) _)= _;rw[K,pB];rfl
 ·show cd _ 0+j= _;rw[c3];exact c1
 ·refine O λf1 o1 W x1 h1 P A=>?_;rw[z] at A;have X:f1≠f0:=λe=>A (by rw[e]);obtain⟨k,k0,Q,R⟩:=C h h1 P (by simp);exact⟨k,k0,Q,by show(aJ (cZ _ _ _) _).1=true;rw[gu (by omega)];exact R⟩
theorem tL (I:Inv g s) {o r p rt:Int} (i:g r=some (o,3,0)) (h0:Gt s o r false p rt=0):
 (0<=p/\p<65536)/\ ∃g',tc (ow o 0 p) o g g' s (rV s o r false p rt)/\(bz s r false p).2.2.1=0/\bz (rV s o r false p rt) r false p=((bz s r false p).1,rt,0,())/\
  cd s.2 0<=cd (rV s o r false p rt).2 0+1:=by
 have n: ¬ (false=true):=by decide
 unfold Gt at h0;rw[ao n] at h0;have a:mm p 0 rt=0:=by
  by_cases h:mm p 0 rt=0
  ·exact h
  ·rw[ao h] at h0;exact h0
 rw[av a] at h0;have z:(0<=p/\p<65536)/\1<=rt/\rt<=7:=by
  unfold mm at a;by_cases h1:p<0\/p>=65536\/(0:Int)<0\/(0:Int)>=4096
  ·rw[av h1] at a;exact absurd a (by decide)
  ·rw[ao h1] at a;by_cases A:rt<1\/rt>7
   ·rw[av A] at a;exact absurd a (by decide)
   ·omega
 obtain⟨c,M⟩:=z;refine⟨c,?_⟩;obtain⟨f,j,N,d⟩:=I.mA i c;obtain⟨B,eP⟩:=I.nS i c d;have O:=I.fW i c d;by_cases c1:(db s.1 r p).1=true
 ·rw[av c1] at h0;have C:rV s o r false p rt=(if((db s.1 r p).2.2.1&&(db s.1 r p).2.1==rt)=true then s
   else if mn s o r p=0 then dP (ft s o r p) (dD (ft s o r p).1 r p).2.2.1 (true,rt,false,qR p (dD s.1 r p) (db s.1 r p),()) else ft s o r p):=by
   unfold rV;rw[ao n,av a,av c1]
  rw[C];have l:(aJ s.1 (16*f+px j p % 16)).1=true:=by rw[<-eP];exact c1
  have m:bz s r false p=(qR p (dD s.1 r p) (db s.1 r p),(db s.1 r p).2.1,0,()):=by
   unfold bz;rw[ao n,ao (by omega),av c1]
  by_cases c2:((db s.1 r p).2.2.1&&(db s.1 r p).2.1==rt)=true
  ·rw[av c2];refine⟨g,.refl I _ _,by rw[m],?_,by omega⟩;rw[m];simp only[HB,beq_iff_eq] at c2;rw[c2.2]
  ·rw[ao c2] at h0;rw[ao c2,av h0];obtain⟨g1,f0,C1,E1,d1,P⟩:=I.split i c d l h0;have q:=C1.root.to i;have D:=(C1.inv.nS q c E1).1;rw[D];have u:0<=qR p (dD s.1 r p) (db s.1 r p)/\qR p (dD s.1 r p) (db s.1 r p)<4096:=by
    have w:=lI s.1 (16*f+px j p % 16);have x:=I.leaf d.1 (dY p j).1 (dY p j).2 l d.2;rw[eP,B];generalize aJ s.1 (16*f+px j p % 16)=e at*
    obtain⟨ep,er,el,ef,Q⟩:=e;dsimp only at l w x;subst l;obtain⟨R,S,E,F,T⟩:=mg.1 w;unfold qR;dsimp only;rcases x with ⟨rfl, _⟩|⟨rfl, _,U⟩
    ·rw[ao (by decide)];exact⟨E,F⟩
    ·rw[av (by decide)];omega
   have V:j<=1:=by
    rcases I.leaf d.1 (dY p j).1 (dY p j).2 l d.2 with h|h<;>omega
   have G:(bz s r false p).1=qR p (dD s.1 r p) (db s.1 r p):=by rw[m]
   rw[G];generalize qR p (dD s.1 r p) (db s.1 r p)=fr at*
   generalize ft s o r p=t at*
   have hv:fa (NY (true,rt,false,fr,()))=(true,rt,false,fr,()):=by
    show fa (F1 true rt false fr)= _;exact yd (mg.2 ⟨by omega,by omega,u.1,u.2,.inr rfl⟩)
   have hi:=dY p 0;obtain⟨y,H,J,K,L⟩:=C1.inv.zv (v:=NY (true,rt,false,fr,())) E1.1 hi.1 hi.2 E1.2 (by rw[hv];exact O1 (by omega)) (by rw[hv];exact λ_ _=> .inl ⟨rfl,rfl⟩) (λh=>by rw[hv] at h;cases h) E1 rfl;have C2:tc (ow o 0 p) o g1 g1 t (cZ t.1 (16*f0+px 0 p % 16) (NY (true,rt,false,fr,())),t.2):=⟨y,.refl _,H,J,λh k=>JI h k,⟨cG _ _ _,rfl⟩,C1.inv.C7 E1.1 hi.1 hi.2 _,λ_ nl=>nl.upd E1.1 hi.1 hi.2 (λb hb=>gu (λe=>hb e.symm)) λ_ _=>rfl,λh=> .inl h⟩;refine⟨g1,(C1.mono λ_ _ h=>h.elim).trans C2,by rw[m],?_,?_⟩
   ·show bz (cZ t.1 (16*f0+px 0 p % 16) _,t.2) r false p= _;rw[y.fW q c (K p rfl).1];show ki p 0 (aJ (cZ t.1 _ _) _)= _;rw[L,hv];rfl
   ·show _<=cd t.2 0+1;omega
 ·rw[ao c1] at h0;exact absurd h0 (by decide)
theorem map (I:Inv g s) {o r p f rt:Int} (c:g r=some (o,3,0)) (h0:lU s r false p f rt=0):
 (0<=p/\p<65536)/\ ∃g',tc (ow o 0 p) o g g' s (jC s o r false p f rt)/\bz (jC s o r false p f rt) r false p=(f,rt,0,())/\1<=rt/\(bz s r false p).2.2.1=4/\
  (∃f0,dG g' (jC s o r false p f rt) o p f0 0)/\
  (∃f0 j,dG g s o p f0 j/\cd (jC s o r false p f rt).2 0+j=cd s.2 0)/\(DK g s none->DK g' (jC s o r false p f rt) none):=by
 have d: ¬ (false=true):=by decide
 unfold lU at h0;rw[ao d] at h0;have a:mm p f rt=0:=by
  by_cases h:mm p f rt=0
  ·exact h
  ·rw[ao h] at h0;exact h0
 rw[av a] at h0;have l:(0<=p/\p<65536)/\(0<=f/\f<4096)/\1<=rt/\rt<=7:=by
  unfold mm at a;by_cases h1:p<0\/p>=65536\/f<0\/f>=4096
  ·rw[av h1] at a;exact absurd a (by decide)
  ·rw[ao h1] at a;by_cases m:rt<1\/rt>7
   ·rw[av m] at a;exact absurd a (by decide)
   ·omega
 obtain⟨b,i,n⟩:=l;have q:jC s o r false p f rt=rU s o r p 0 (true,rt,false,f,()):=by unfold jC;rw[ao d,av a]
 rw[q];have t:bT true rt false f=true:=mg.2 ⟨by omega,by omega,i.1,i.2,.inr rfl⟩;obtain⟨g',C,A,⟨f1,j,x,k,u,hc⟩,v⟩:=I.put c b (lv:=0) (e:=(true,rt,false,f,())) rfl t (O1 (by omega)) (λ_ _=> .inl ⟨rfl,rfl⟩) h0;obtain⟨f2,E2,w⟩:=A p rfl;refine⟨b,g',C,?_,n.1,?_,⟨f2,E2⟩,⟨f1,j,k,hc⟩,v⟩
 ·have h:=C.inv.fW (C.root.to c) b E2;rw[w] at h;exact h
 ·rw[I.fW c b k,Gw _ _ u]
end Inv
set_option maxRecDepth 100000
open Go.RX D
def fresh (n m:Nat):WD:=(Be n 0,Be m zD)
abbrev noG:Gh:=λ_=>none
theorem V8 (m:Nat) (v:Int):cd (Be m zD) v=if v=0 then m else 0:=by
 unfold cd;rw[List.countP_replicate];by_cases h:v=0
 ·subst h;rfl
 ·rw[ao h,ao];show ¬ (((0:Int)==v)=true);simp;omega
theorem MM {n m:Nat} (h:16*m<=n) (b:m<=4096):Inv noG (fresh n m) where
 len:=by
  show 16*(Be m zD).length<=(Be n (0:Int)).length;simpa using h
 le:=by
  show(Be m zD).length<=4096;simpa using b
 fz:=λd a _=>H4 a
 kd:=by intro f o l x h;cases h
 inj:=by intro f o l h;cases h
 sW:=by intro f o l x i h;cases h
 leaf:=by intro f o l x i h;cases h
 FO:=by intro f o l x h;cases h
 wf:=by intro f o l x i h;cases h
 tb:=by
  intro k d a c;have:d=zD:=H4 (CB a);subst this;cases c
namespace Inv
variable {g:Gh} {s:WD}
theorem born (I:Inv g s) {o:Int} (w:1<=o/\o<=16) (A: ∀f,g f≠some (o,3,0)) (hc:0<cd s.2 0):
 rL s o=0/\g (eA s o)=none/\0<=eA s o/\eA s o<s.2.length/\(iQ s o λ_=>0).2=s.2.set (eA s o).toNat (3,o,0,0,())/\s.2[(eA s o).toNat]? =some zD/\
 (∀b,(b<16*eA s o\/16*eA s o+16<=b)->dK (iQ s o λ_=>0).1 b=dK s.1 b)/\
 (∀k,0<=k->k<16->dK (iQ s o λ_=>0).1 (16*eA s o+k)=0)/\(iQ s o λ_=>0).1.length=s.1.length/\
 Inv (mI g (eA s o) (some (o,3,0))) (iQ s o λ_=>0):=by
 obtain⟨n,K,B,L,M,N⟩:=m_ hc I.fz w;have C:eA s o=(n:Int):=L;have D:rL s o=0:=M;have O:=I.len;have P:=I.le;have Q:16*(n:Int)+16<=s.1.length:=by omega
 obtain⟨W,r⟩: ∃W,W=fb s.1 (n:Int) (λ_=>0) 16:=⟨_,rfl⟩;have E:W.length=s.1.length:=by rw[r,gN]
 have F: ∀b,dK W b=if 16*(n:Int)<=b/\b<16*(n:Int)+16 then 0 else dK s.1 b:=λb=>by
  rw[r];exact tM (by omega) Q 16 (B4 _) b
 have R:iQ s o (λ_=>0)=(W,s.2.set n (3,o,0,0,())):=by unfold iQ;rw[av D,C,N,r]
 clear r;have gn:g (n:Int)=none:=by
  cases S:g (n:Int) with
  |none=>rfl
  |some v=>
   obtain⟨a,b,c⟩:=v;have:=(I.kd S).2.2.1;rw[show((n:Int)).toNat=n from rfl,B] at this;cases this
 have t: ∀{f':Int} {v},g f'=some v->f'≠(n:Int):=λh e=>by rw[e,gn] at h;cases h
 rw[R,C];have x: ∀b,(b<16*(n:Int)\/16*(n:Int)+16<=b)->dK W b=dK s.1 b:=λb h=>by rw[F b,ao (by omega)]
 have y: ∀k,0<=k->k<16->dK W (16*(n:Int)+k)=0:=λk h0 h1=>by rw[F,av (by omega)]
 have w1: ∀b,(b<16*(n:Int)\/16*(n:Int)+16<=b)->aJ W b=aJ s.1 b:=λb h=>by unfold aJ;rw[x b h]
 have G: ∀k,0<=k->k<16->aJ W (16*(n:Int)+k)=zE:=λk h0 h1=>by unfold aJ;rw[y k h0 h1];exact pB
 have fG: ∀{f0 l p k:Int} {i:Nat},g f0=some (l,i,p)->0<=k->k<16->aJ W (16*f0+k)=aJ s.1 (16*f0+k):=λ{f0 l p k i} h h0 h1=>by
  have:=t h;exact w1 _ (by omega)
 refine⟨D,gn,by omega,by omega,rfl,by rw[show((n:Int)).toNat=n from rfl];exact B,x,y,E,?_⟩;refine⟨?_,?_,?_,?_,?_,?_,?_,?_,?_,?_⟩
 ·show 16*(s.2.set n _).length<=W.length;rw[E,Ar];exact O
 ·show(s.2.set n _).length<=4096;rw[Ar];exact P
 ·intro d z h0;rcases Do z with z|rfl
  ·exact I.fz d z h0
  ·cases h0
 ·intro f0 l i p h;show _/\ _<((s.2.set n (3,o,0,0,())).length:Int)/\(s.2.set n (3,o,0,0,()))[f0.toNat]? = _/\ _;rw[Ar];by_cases e:f0=(n:Int)
  ·subst e;rw[bI] at h;cases h;refine⟨by omega,by omega,?_,w.1,w.2,by omega⟩;rw[show((n:Int)).toNat=n from rfl,DF K]
  ·rw[aY e] at h;obtain⟨a1,T,U,V⟩:=I.kd h;refine⟨a1,T,?_,V⟩;rw[B5 (by omega)];exact U
 ·intro a b v q hb;by_cases e:a=(n:Int)<;>by_cases e':b=(n:Int)
  ·rw[e,e']
  ·subst e;rw[bI] at q;rw[aY e'] at hb;cases q;exact absurd hb (A b)
  ·subst e';rw[bI] at hb;rw[aY e] at q;cases hb;exact absurd q (A a)
  ·rw[aY e] at q;rw[aY e'] at hb;exact I.inj q hb
 ·intro f0 l i p k h h0 h1 j;by_cases e:f0=(n:Int)
  ·subst e;have j:du (aJ W (16*(n:Int)+k))=true:=j;rw[G k h0 h1,KE] at j;cases j
  ·rw[aY e] at h;have j:du (aJ W (16*f0+k))=true:=j;show∃m,i=m+1/\mI g n _ (aJ W (16*f0+k)).2.2.2.1= _;rw[fG h h0 h1] at j ⊢;obtain⟨X,Y,H⟩:=I.sW h h0 h1 j;exact⟨X,Y,by rw[aY (t H)];exact H⟩
 ·intro f0 l i p k h h0 h1;show lB i (aJ W (16*f0+k));by_cases e:f0=(n:Int)
  ·subst e;rw[G k h0 h1];exact Ej _
  ·rw[aY e] at h;rw[fG h h0 h1];exact I.leaf h h0 h1
 ·intro f0 l i p h Z;by_cases e:f0=(n:Int)
  ·subst e;rw[bI] at h;cases h;omega
  ·rw[aY e] at h;obtain⟨f',p1,p2⟩:=I.FO h Z;refine⟨f',by rw[aY (t p1)];exact p1,?_⟩;show aJ W _= _;rw[fG p1 (by omega) (by omega)];exact p2
 ·intro f0 l i p k h h0 h1 u;show dK W (16*f0+k)=0;by_cases e:f0=(n:Int)
  ·subst e;exact y k h0 h1
  ·rw[aY e] at h;have u:(aJ W (16*f0+k)).1=false:=u;rw[fG h h0 h1] at u;have:=t h;rw[x _ (by omega)];exact I.wf h h0 h1 u
 ·intro J d qK h3;by_cases e:J=n
  ·subst e;exact⟨_,bI _ _ _⟩
  ·have h':(s.2.set n (3,o,0,0,()))[J]? =some d:=qK;rw[B5 (by omega)] at h';obtain⟨v,hv⟩:=I.tb h' h3;exact⟨v,by rw[aY (by omega)];exact hv⟩
end Inv
end Go.Proofs.YtlcenllcmeebhaaGreat
