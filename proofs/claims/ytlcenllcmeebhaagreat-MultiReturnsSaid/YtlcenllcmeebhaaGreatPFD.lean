import Derived.Test.YtlcenllcmeebhaaGreatPFC
/-! What the statement leans on: texts joined and shortened by a program of mine. -/
set_option linter.unusedVariables false
set_option linter.unusedSimpArgs false
open Go renaming World->A1,Addr->AB,Value->AC,MapEntry->AM
open Go.Proofs.Tryz renaming prog->A2
open Eq renaming mpr->AL
open Go.IntKind renaming i64->AY
open List renaming range->Ax,length_set->B1,getElem?_eq_some_iff->B2,length_cons->B4,getElem?_set_ne->Bx,replicate->CJ,getElem?_eq_getElem->CK,mem_of_getElem?->CL,sublist_cons_self->DA,mem_append_right->DB,getD_eq_getElem?_getD->DD,perm_middle->DJ,getElem?_set_self->DK,length_map->DO,append_nil->DQ,mem_or_eq_of_mem_set->Do,length_append->E4,mem_cons_self->E5,getElem?_append_left->Ef,mem_cons->Et,mem_singleton->F2,length_take->F4,drop_of_length_le->F5,take_add_one->F7,sublist_append_left->FP,drop_eq_getElem_cons->FR,length_eq_zero_iff->GF,findIdx?_eq_some_iff_getElem->GG,ext_getElem?->GH,append_assoc->GI,length_pos_iff->GJ,length_drop->GO,getElem?_map->GS,getElem?_take_of_lt->Ga,getElem?_drop->Gc,take_of_length_le->Gd,all_eq_false->Gi,all_eq_true->Gj,getElem?_of_mem->Gt,take_append_drop->Gu,range_succ->Gv,foldl_cons->Gw,getElem?_append_right->H4,findIdx?_eq_none_iff->H5,eq_of_mem_replicate->H6
open Int renaming toNat->Ay,le_refl->DV,eq_ofNat_of_zero_le->H7
open Prod.mk renaming injEq->B3
open Nat renaming le_refl->B5,mul_one->DI,eq_of_beq_eq_true->DY,ne_of_beq_eq_false->DZ,zero_add->FS
open Option.some renaming injEq->Bf
open Decidable renaming rec->Co
open List.Sublist renaming refl->D8
open Go.Value renaming func->Dn,pointer->HB,nilFunc->Hb
open Bool renaming or_eq_true->Ep,or_eq_false_iff->FZ
open List.Perm renaming swap->G1,cons->GD
namespace Go.Proofs.YtlcenllcmeebhaaGreat
set_option maxRecDepth 100000
open Go.RX
abbrev aa0:Sh:= .el (.one (.Ar 244 2))
abbrev G9:Sh:= .el (.one (.Ar 247 3))
noncomputable def N0:dM A2:={M0 with sh:=[(219,aa0),(239,G9)],quiet:=[117,118,62,30,88,56,215,194,241]}
theorem Mh (p:Option AB) (w:A1) (a:Int->A1->Prop):(aJ N0 (λ_=>[]) 88 [ag p] w a)=(
 ((!p.isNone)=true->p.isSome=true)/\((!p.isNone)=true->p.isSome=true)/\aj w (some !p.isNone) (ad p 0) lZ λx=>aI (p.isNone||x.isNone) (au w (a 10)) (acy p 4 w λx=>aI x (au w (a 6)) (au w (a 0)))):=by kernel_rfl
theorem R6 (p:Option AB) (w:A1) (a:Int->A1->Prop):(aJ N0 (λ_=>[]) 56 [ag p] w a)=(
 ∃(x:Int),ae A2 88 [ag p] w (aa x)/\aI (x != 0) (au w (a (-1))) (cN p 3 w λx=>au w (a x))):=by kernel_rfl
theorem Mi (p f r:Int) (w:A1) (a:Int->A1->Prop):(aJ N0 (λ_=>[]) 215 [aa p,aa f,aa r] w a)=(
 aI (decide (p<0)||decide (p>=65536)||decide (f<0)||decide (f>=4096)) (au w (a 2)) (aI (decide (r<1)||decide (r>7)) (au w (a 7)) (au w (a 0)))):=by kernel_rfl
theorem Mj (f:Int) (w:A1) (c:(Bool×Int×Bool×Int×Unit)->A1->Prop):(bT N0 (λ_=>[]) 241 [aa f] w c)=(
 aM w ⟨[.bool false,aa 0,.bool false,aa 0]⟩ 130 λb a=>aC a (af b) [.bool true,aa 0,.bool false,aa f] λa=>au a λw1=>aj w1 none (af b) kf λ(x:Bool×Int×Bool×Int×Unit)=>c (x.1,x.2.1,x.2.2.1,x.2.2.2.1,()) w1):=by kernel_rfl
theorem Ml (p d e f:Int) (ep:Bool) (er:Int) (el:Bool) (ef:Int) (w:A1) (c:Int->A1->Prop):(aJ N0 (λ_=>[]) 194 [aa p,.agg ⟨[aa d,aa e,aa f]⟩,.agg ⟨[.bool ep,aa er,.bool el,aa ef]⟩] w c)=(
 aM w ⟨[aa d,aa e,aa f]⟩ 270 λb a=>aM a ⟨[.bool ep,aa er,.bool el,aa ef]⟩ 130 λg a=>true=true/\aW a (ad (af b) 1) λx=>aI (x==1) (true=true/\aW a (ad (af g) 3) λx=>True/\gU 1≠0/\au a λw1=>c (aH .i64 x (dz p (gU 1))) w1) (true=true/\aW a (ad (af g) 3) λx=>au a (c x))):=by kernel_rfl
theorem PN (p:Option AB) (i:Int) (w:A1) (c:(Bool×Int×Bool×Int×Unit)->A1->Prop):(bT N0 (λ_=>[]) 235 [ag p,aa i] w c)=(
 aM w ⟨[.bool false,aa 0,.bool false,aa 0]⟩ 130 λb a=>bI p 0 a λx=>aA A2 37 (.bu [.one (.int .u64),.one (.int .i64)]) [ag x,aa i] a λ(x:Int×Int×Unit) a=>U (B x.1)=x.1/\aM a ⟨[.bool false,aa 0,.bool false,aa 0]⟩ 130 λd a=>aC a (af d) [.bool (IL (B x.1).toNat),aa (F' (B x.1).toNat),.bool (Kw (B x.1).toNat),aa (FV (B x.1).toNat)] λa=>aj a none (af d) kf λ(x:Bool×Int×Bool×Int×Unit)=>aC a (af b) [.bool x.1,aa x.2.1,.bool x.2.2.1,.int
 .i64 x.2.2.2.1] λa=>au a λw1=>aj w1 none (af b) kf λ(x:Bool×Int×Bool×Int×Unit)=>c (x.1,x.2.1,x.2.2.1,x.2.2.2.1,()) w1):=by kernel_rfl
theorem VS (p:Option AB) (i:Int) (ep:Bool) (er:Int) (el:Bool) (ef:Int) (w:A1) (c:Unit->A1->Prop):(aJ N0 (λ_=>[]) 222 [ag p,aa i,.agg ⟨[.bool ep,aa er,.bool el,aa ef]⟩] w c)=(
 aM w ⟨[.bool ep,aa er,.bool el,aa ef]⟩ 130 λb a=>aj a none (af b) kf λ(x:Bool×Int×Bool×Int×Unit)=>True/\bI p 0 a λd=>aA A2 38 (.el aV) [ag d,aa i,az (F_ x.1 x.2.1 x.2.2.1 x.2.2.2.1)] a λ(x:Int) a=>au a (c ())):=by kernel_rfl
theorem VT (p:Option AB) (pg:Int) (w:A1) (c:Option AB×Option AB×Unit->A1->Prop):(aJ N0 (λ_=>[]) 219 [ag p,aa pg] w c)=(
 aM w ⟨[ag p]⟩ 118 λb a=>aM a ⟨[aa pg]⟩ 3 λd a=>au a (c (some ⟨b,0,none⟩,some ⟨d,0,none⟩,()))):=by kernel_rfl
def uB:Nat->a6:=(λ|2=>[(4,Go.RX.El.one (Go.RX.Sc.int AY)),(5,Go.RX.El.one (Go.RX.Sc.int AY))]| _=>[])
theorem R7 (y:Nat) (p c:Option AB) (w:A1) (d:Unit->A1->Prop):(aJ N0 uB 244 [.func (.yield y) #[] #[],ag p,ag c] w d)=(
 gu w p λx=>cN x 3 w λx=> ∃(I:Nat->Int×Int×Unit->A1->Prop),(∃n, ∀w1,Ext w w1->I n (x,3,()) w1)/\ ∀(n:Nat) (s:Int×Int×Unit) (w1:A1),I n s w1->aI (decide (s.2.1>=0)) (aW w1 c λx=>True/\aM w1 ⟨[aa 0,aa 0,aa 0]⟩ 270 λb a=>aC a (af b) [aa s.1,aa s.2.1,aa (eB s.1 x s.2.1)] λa=>gu a p λx=>true=true/\aW a (ad (af b) 2) λh=>aA A2 235 (.el kf) [ag x,aa h] a λ(x:Bool×Int×Bool×Int×Unit) a=>aM a ⟨[.bool false,
 aa 0,.bool false,aa 0]⟩ 130 λe a=>aC a (af e) [.bool x.1,aa x.2.1,.bool x.2.2.1,aa x.2.2.2.1] λa=>aj a none (af b) xr λ(x:Int×Int×Int×Unit)=> ∀w1,Ext a w1->mz A2 y [.agg ⟨[aa x.1,aa x.2.1,aa x.2.2.1]⟩] w1 λ(b:Bool) a=>aj a (some !!b) (af e) kf λ(x:Bool×Int×Bool×Int×Unit)=>((!!b)=true->True)/\aI (!b|| !fV x.1 x.2.1 x.2.2.1 x.2.2.2.1) (au a (d ())) (true=true/\aW a (ad (af e) 3) λx=> ∀f,Ext a f-> ∃(g:Nat),g<n/\
 I g (x,aX .i64 s.2.1 1,()) f)) (au w1 (d ()))):=by kernel_rfl
def uC:Nat->a6:=(λ|4=>[(6,.agg [.int .i64,.int .i64,.int .i64])]| _=>[])
theorem R8 (p c:Option AB) (w:A1) (e:Option AB×Nat×Nat->A1->Prop):(bT N0 uC 218 [.func (.func 244) #[] #[ag p,ag c]] w e)=(
 aM w ⟨[.slice none 0 0]⟩ 285 λb a=>An A2 244 (λ(y:Nat)=>[.func (Fn.yield y) ⟨[]⟩ ⟨[]⟩,ag p,ag c]) ⟨[6]⟩ a (λ(x:(Int×Int×Int×Unit)×Unit)=>[.agg ⟨[aa x.1.1,aa x.1.2.1,aa x.1.2.2.1]⟩]) (λ(l:Nat) (rec:Loop) (x:(Int×Int×Int×Unit)×Unit) g (R:Bool->A1->Prop)=>DL l rec [Value.agg ⟨[aa x.1.1,aa x.1.2.1,aa x.1.2.2.1]⟩].length 1 g (aM g ⟨[aa 0,aa 0,aa 0]⟩ 270 λi a=>aC a (af i) [aa x.1.1,aa x.1.2.1,.int .i64
 x.1.2.2.1] λa=>Cs l rec a λd=>tc d (af b) λx=>aj d none (af i) xr λ(f:Int×Int×Int×Unit)=>aM d ⟨[aa f.1,aa f.2.1,aa f.2.2.1]⟩ 270 λj a=> ∀w1,Ext a w1->mH w1 270 3 24 ⟨[aa 0,aa 0,aa 0]⟩ (x.1,x.2.1,x.2.2) (some ⟨j,0,none⟩,1,1) λ(r:Option AB×Nat×Nat) a=>aC a (af b) [.slice r.1 r.2.1 r.2.2] λa=>sO l rec none a R)) λ(r:Nat) (rec:Loop) k=>dF (r+1) rec
 k (λd=>tc d (af b) λx=>sP [r] d λw1=>e (x.1,x.2.1,x.2.2) w1) (λ(id:Nat) d=>Co (λ(h:id=0->False)=>False) (λ(h:id=0)=>tc d (af b) λx=>sP [r] d λw1=>e (x.1,x.2.1,x.2.2) w1) (match h:id.beq 0 with|true=>isTrue (DY h)|false=>isFalse (DZ h))) λd=>sP [r] d λw1=>e (none,0,0) w1):=by kernel_rfl
theorem VU (p:Option AB) (pg:Int) (w:A1) (f:(Int×Int×Int×Unit)×(Bool×Int×Bool×Int×Unit)×Unit->A1->Prop):(bT N0 (λ_=>[]) 193 [ag p,aa pg] w f)=(
 aM w ⟨[aa 0,aa 0,aa 0]⟩ 270 λb a=>aM a ⟨[.bool false,aa 0,.bool false,aa 0]⟩ 130 λg a=>aA A2 219 (.el (.one (.Ar 244 2))) [ag p,aa pg] a λx a=>aA A2 218 (.el eH) [.func (.func 244) ⟨[]⟩ ⟨[ag x.1,ag x.2.1]⟩] a λx a=>(x.1.isSome=true/\0<=aX .i64 (↑x.2.1:Int) 1/\aX .i64 (↑x.2.1:Int) 1<(↑x.2.1:Int))/\aj a none (ad x.1 ((aX .i64 (↑x.2.1:Int) 1).toNat*3)) xr λ(x:Int×Int×Int×Unit)=>aM a ⟨[aa 0,aa 0,aa 0]⟩ 270 λc
 a=>aC a (af c) [aa x.1,aa x.2.1,aa x.2.2.1] λa=>aj a none (af c) xr λ(x:Int×Int×Int×Unit)=>true=true/\aW a (ad (af c) 2) λh=>aA A2 235 (.el kf) [ag p,aa h] a λ(d:Bool×Int×Bool×Int×Unit) a=>cL a (af c) xr x/\aC a (af b) [aa x.1,aa x.2.1,aa x.2.2.1] λa=>aC a (af g) [.bool d.1,aa d.2.1,.bool d.2.2.1,aa d.2.2.2.1] λa=>au a λw1=>aj w1 none (af b) xr λ(x:Int×Int×Int×Unit)=>aj w1
 none (af g) kf λ(e:Bool×Int×Bool×Int×Unit)=>f ((x.1,x.2.1,x.2.2.1,()),(e.1,e.2.1,e.2.2.1,e.2.2.2.1,()),()) w1):=by kernel_rfl
def rj:Nat->a6:=(λ|5=>[(24,Go.RX.El.one (Go.RX.Sc.int AY))]| _=>[])
theorem Mm (p:Option AB) (w:A1) (b:Int×Int×Unit->A1->Prop):(aJ N0 rj 205 [ag p,.func (.func 206) #[] #[]] w b)=(
 bI p 1 w λx=>cN p 2 w λf=>aA A2 172 (.bu [.one (.int .i64),.one (.int .i64)]) [ag x,aa 3,aa f] w λ(x:Int×Int×Unit) a=>aI (x.2.1 != 0) (au a (b (0,x.2.1,()))) (∃(I:Nat->Int×Unit->A1->Prop),(∃n, ∀w1,Ext a w1->I n (0,()) w1)/\ ∀(n:Nat) (s:Int×Unit) (w1:A1),I n s w1->aI (decide (s.1<16)) (bI p 0 w1 λc=>aA A2 206 (.el rI) [aa s.1] w1 λ(g:Int) a=>True/\True/\cL a (ad p 0) lZ c/\True/\True/\aA A2 38 (.el aV) [ag c,
 aa (aH .i64 (gq .i64 16 x.1) s.1),az g] a λ(x:Int) a=> ∀d,Ext a d-> ∃(e:Nat),e<n/\I e (aH .i64 s.1 1,()) d) (au w1 (b (x.1,0,()))))):=by kernel_rfl
def rk:Nat->a6:=(λ|5=>[(24,Go.RX.El.one (Go.RX.Sc.int AY))]| _=>[])
theorem Mn (p:Option AB) (w:A1) (b:Int×Int×Unit->A1->Prop):(aJ N0 rk 205 [ag p,.func (.func 240) #[] #[]] w b)=(
 bI p 1 w λx=>cN p 2 w λf=>aA A2 172 (.bu [.one (.int .i64),.one (.int .i64)]) [ag x,aa 3,aa f] w λ(x:Int×Int×Unit) a=>aI (x.2.1 != 0) (au a (b (0,x.2.1,()))) (∃(I:Nat->Int×Unit->A1->Prop),(∃n, ∀w1,Ext a w1->I n (0,()) w1)/\ ∀(n:Nat) (s:Int×Unit) (w1:A1),I n s w1->aI (decide (s.1<16)) (bI p 0 w1 λc=>aA A2 240 (.el rI) [aa s.1] w1 λ(g:Int) a=>True/\True/\cL a (ad p 0) lZ c/\True/\True/\aA A2 38 (.el aV) [ag c,
 aa (aH .i64 (gq .i64 16 x.1) s.1),az g] a λ(x:Int) a=> ∀d,Ext a d-> ∃(e:Nat),e<n/\I e (aH .i64 s.1 1,()) d) (au w1 (b (x.1,0,()))))):=by kernel_rfl
def rl:Nat->a6:=(λ|5=>[(24,Go.RX.El.one (Go.RX.Sc.int AY))]| _=>[])
theorem Mp (p e:Option AB) (w:A1) (b:Int×Int×Unit->A1->Prop):(aJ N0 rl 205 [ag p,.func (.func 242) #[] #[ag e]] w b)=(
 bI p 1 w λx=>cN p 2 w λg=>aA A2 172 (.bu [.one (.int .i64),.one (.int .i64)]) [ag x,aa 3,aa g] w λ(x:Int×Int×Unit) a=>aI (x.2.1 != 0) (au a (b (0,x.2.1,()))) (∃(I:Nat->Int×Unit->A1->Prop),(∃n, ∀w1,Ext a w1->I n (0,()) w1)/\ ∀(n:Nat) (s:Int×Unit) (w1:A1),I n s w1->aI (decide (s.1<16)) (bI p 0 w1 λc=>aA A2 242 (.el rI) [aa s.1,ag e] w1 λ(h:Int) a=>True/\True/\cL a (ad p 0) lZ c/\True/\True/\aA A2 38 (.el aV)
 [ag c,aa (aH .i64 (gq .i64 16 x.1) s.1),az h] a λ(x:Int) a=> ∀d,Ext a d-> ∃(f:Nat),f<n/\I f (aH .i64 s.1 1,()) d) (au w1 (b (x.1,0,()))))):=by kernel_rfl
theorem R9 (i:Int) (w:A1) (a:Int->A1->Prop):(aJ N0 (λ_=>[]) 206 [aa i] w a)=(
 au w (a 0)):=by kernel_rfl
theorem R_ (i:Int) (w:A1) (a:Int->A1->Prop):(aJ N0 (λ_=>[]) 240 [aa i] w a)=(
 au w (a 0)):=by kernel_rfl
theorem HZ (i:Int) (e:Option AB) (w:A1) (a:Int->A1->Prop):(aJ N0 (λ_=>[]) 242 [aa i,ag e] w a)=(
 e.isSome=true/\aW w (ad e 1) λx=>e.isSome=true/\aW w (ad e 3) λb=>True/\au w (a (F_ true x false (aH .i64 b i)))):=by kernel_rfl
def wI:Nat->a6:=(λ|6=>[]| _=>[])
theorem VV (p:Option AB) (pg lv:Int) (ep:Bool) (er:Int) (el:Bool) (ef:Int) (w:A1) (f:Int->A1->Prop):(aJ N0 wI 216 [ag p,aa pg,aa lv,.agg ⟨[.bool ep,aa er,.bool el,aa ef]⟩] w f)=(
 aM w ⟨[.bool ep,aa er,.bool el,aa ef]⟩ 130 λb a=>aA A2 193 (.bu [.agg [.int .i64,.int .i64,.int .i64],.agg [.bool,.int .i64,.bool,.int .i64]]) [ag p,aa pg] a λ(x:(Int×Int×Int×Unit)×(Bool×Int×Bool×Int×Unit)×Unit) a=>aM a ⟨[aa 0,aa 0,aa 0]⟩ 270 λc a=>aM a ⟨[.bool false,aa 0,.bool false,aa 0]⟩ 130 λg a=>aC a (af c) [aa x.1.1,aa x.1.2.1,aa x.1.2.2.1] λa=>aC a (af g) [.bool x.2.1.1,aa x.2.1.2.1,.bool
 x.2.1.2.2.1,aa x.2.1.2.2.2.1] λa=>true=true/\u9 a (ad (af g) 0) λx=>((!x)=true->true=true)/\aj a (some !x) (ad (af c) 1) aV λ(k:Int)=>aI (x||decide (k<lv)) (au a (f 5)) (bI p 1 a λx=> ∃(h:Int),ae A2 30 [ag x,aa 0] a (aa h)/\true=true/\aW a (ad (af c) 1) λx=>aI (decide (h<aX .i64 x lv)) (au a (f 12)) (∃(I:Nat->Unit->A1->Prop),(∃n, ∀w1,Ext a w1->I n () w1)/\ ∀(n:Nat) (s:Unit) (w1:A1),I n s w1->true=true/\aW w1 (ad
 (af c) 1) λx=>aI (decide (x>lv)) (aA A2 205 (.bu [.one (.int .i64),.one (.int .i64)]) [ag p,.func (.func 240) ⟨[]⟩ ⟨[]⟩] w1 λ(x:Int×Int×Unit) a=>true=true/\aW a (ad (af c) 2) λe=> ∃(d:Bool×Int×Bool×Int×Unit),ae A2 241 [aa x.1] a (.agg ⟨[.bool d.1,aa d.2.1,.bool d.2.2.1,aa d.2.2.2.1]⟩)/\aA A2 222 (.bu []) [ag p,aa e,.agg ⟨[.bool d.1,aa d.2.1,.bool d.2.2.1,aa d.2.2.2.1]⟩] a λo a=>true=true/\aW a (ad (af c) 1)
 λl=>true=true/\aW a (ad (af c) 1) λm=>True/\aC a (af c) [aa x.1,aa (aX .i64 l 1),aa (eB x.1 pg (aX .i64 m 1))] λa=> ∀i,Ext a i-> ∃(j:Nat),j<n/\I j () i) (true=true/\aW w1 (ad (af c) 2) λx=>aj w1 none (af b) kf λ(e:Bool×Int×Bool×Int×Unit)=>aA A2 222 (.bu []) [ag p,aa x,.agg ⟨[.bool e.1,aa e.2.1,.bool e.2.2.1,aa e.2.2.2.1]⟩] w1 λx a=>au a (f 0))))):=by kernel_rfl
theorem VW (p:Option AB) (pg f r:Int) (w:A1) (a:Int->A1->Prop):(aJ N0 (λ_=>[]) 173 [ag p,aa pg,aa f,aa r] w a)=(
 ∃(x:Int),ae A2 88 [ag p] w (aa x)/\aI (x != 0) (au w (a x)) (∃(x:Int),ae A2 215 [aa pg,aa f,aa r] w (aa x)/\aI (x != 0) (au w (a x)) (aA A2 216 (.el aV) [ag p,aa pg,aa 0,.agg ⟨[.bool true,aa r,.bool false,aa f]⟩] w λ(x:Int) b=>au b (a x)))):=by kernel_rfl
theorem Mq (p:Option AB) (pg:Int) (w:A1) (c:Int×Int×Int×Unit->A1->Prop):(aJ N0 (λ_=>[]) 139 [ag p,aa pg] w c)=(
 ∃(x:Int),ae A2 88 [ag p] w (aa x)/\aI (x != 0) (au w (c (0,0,x,()))) (aI (decide (pg<0)||decide (pg>=65536)) (au w (c (0,0,2,()))) (aA A2 193 (.bu [.agg [.int .i64,.int .i64,.int .i64],.agg [.bool,.int .i64,.bool,.int .i64]]) [ag p,aa pg] w λ(x:(Int×Int×Int×Unit)×(Bool×Int×Bool×Int×Unit)×Unit) a=>aM a ⟨[aa 0,aa 0,aa 0]⟩ 270 λb a=>aM a ⟨[.bool false,aa 0,.bool false,aa 0]⟩ 130 λd a=>aC a (af b) [aa x.1.1,.int
 .i64 x.1.2.1,aa x.1.2.2.1] λa=>aC a (af d) [.bool x.2.1.1,aa x.2.1.2.1,.bool x.2.1.2.2.1,aa x.2.1.2.2.2.1] λa=>true=true/\u9 a (ad (af d) 0) λx=>aI (!x) (au a (c (0,0,4,()))) (aj a none (af b) xr λ(x:Int×Int×Int×Unit)=>aj a none (af d) kf λ(e:Bool×Int×Bool×Int×Unit)=> ∃(f:Int),ae A2 194 [aa pg,.agg ⟨[aa x.1,aa x.2.1,aa x.2.2.1]⟩,.agg ⟨[.bool e.1,aa e.2.1,.bool e.2.2.1,aa e.2.2.2.1]⟩] a (aa f)/\
 true=true/\aW a (ad (af d) 1) λx=>au a (c (f,x,0,())))))):=by kernel_rfl
theorem Ms (p:Option AB) (pg:Int) (w:A1) (d:Int->A1->Prop):(aJ N0 (λ_=>[]) 217 [ag p,aa pg] w d)=(
 aA A2 193 (.bu [.agg [.int .i64,.int .i64,.int .i64],.agg [.bool,.int .i64,.bool,.int .i64]]) [ag p,aa pg] w λ(x:(Int×Int×Int×Unit)×(Bool×Int×Bool×Int×Unit)×Unit) a=>aM a ⟨[aa 0,aa 0,aa 0]⟩ 270 λb a=>aM a ⟨[.bool false,aa 0,.bool false,aa 0]⟩ 130 λe a=>aC a (af b) [aa x.1.1,aa x.1.2.1,aa x.1.2.2.1] λa=>aC a (af e) [.bool x.2.1.1,aa x.2.1.2.1,.bool x.2.1.2.2.1,aa x.2.1.2.2.2.1] λa=>true=true/\aW a (ad (af b) 1)
 λx=>aI (x==0) (au a (d 0)) (aA A2 205 (.bu [.one (.int .i64),.one (.int .i64)]) [ag p,.func (.func 242) ⟨[]⟩ {toList:=[ag (af e)]}] a λ(x:Int×Int×Unit) a=>aI (x.2.1==0) (true=true/\aW a (ad (af b) 2) λf=> ∃(c:Bool×Int×Bool×Int×Unit),ae A2 241 [aa x.1] a (.agg ⟨[.bool c.1,aa c.2.1,.bool c.2.2.1,aa c.2.2.2.1]⟩)/\aA A2 222 (.bu []) [ag p,aa f,.agg ⟨[.bool c.1,aa c.2.1,.bool c.2.2.1,aa c.2.2.2.1]⟩] a λg a=>
 au a (d x.2.1)) (au a (d x.2.1)))):=by kernel_rfl
def uD:Nat->a6:=(λ|1=>[(4,Go.RX.El.one (Go.RX.Sc.int AY))]|4=>[(26,Go.RX.El.one (Go.RX.Sc.int AY))]| _=>[])
theorem Sa (p q:Option AB) (n c:Nat) (w:A1) (g:Unit->A1->Prop):(aJ N0 uD 220 [ag p,.slice q n c] w g)=(
 ∃(I:Nat->Int×Unit->A1->Prop),(∃f, ∀w1,Ext w w1->I f (aX .i64 (↑n:Int) 1,()) w1)/\ ∀(f:Nat) (s:Int×Unit) (w1:A1),I f s w1->aI (decide (s.1>0)) (bI p 0 w1 λx=>(q.isSome=true/\0<=s.1/\s.1<(↑n:Int))/\(ad q (Ay s.1*3)).isSome=true/\aj w1 none (ad (ad q (Ay s.1*3)) 0) aV λ(j:Int)=>aA A2 45 (.el eH) [ag x,aa (gq .i64 16 j),aa 16] w1 λx a=> ∃(h:Nat->Int×Unit->A1->Prop),(∃n, ∀w1,Ext a w1->h n (0,()) w1)/\ ∀(i:Nat) (b
 :Int×Unit) (w1:A1),h i b w1->aI (decide (b.1<(↑x.2.1:Int))) ((x.1.isSome=true/\0<=b.1/\b.1<(↑x.2.1:Int))/\cM w1 (ad x.1 (Ay b.1*1)) λx=>aI (x != 0) (au w1 (g ())) (∀d,Ext w1 d-> ∃(e:Nat),e<i/\h e (aH .i64 b.1 1,()) d)) (bI p 0 w1 λx=>(q.isSome=true/\0<=aX .i64 s.1 1/\aX .i64 s.1 1<(↑n:Int))/\(ad q ((aX .i64 s.1 1).toNat*3)).isSome=true/\aj w1 none (ad (ad q ((aX .i64 s.1 1).toNat*3)) 2) aV λ(k:Int)=>aA A2 38 (.el aV) [ag x,.int
 .i64 k,az 0] w1 λ(x:Int) a=>bI p 1 a λx=>(q.isSome=true/\0<=s.1/\s.1<(↑n:Int))/\(ad q (Ay s.1*3)).isSome=true/\aj a none (ad (ad q (Ay s.1*3)) 0) aV λ(l:Int)=>aA A2 138 (.el aV) [ag x,aa l,aa 5,aa 0] a λ(x:Int) a=> ∀d,Ext a d-> ∃(e:Nat),e<f/\I e (aX .i64 s.1 1,()) d)) (au w1 (g ()))):=by kernel_rfl
theorem Mt (p:Option AB) (pg:Int) (w:A1) (c:Int×Int×Unit->A1->Prop):(aJ N0 (λ_=>[]) 175 [ag p,aa pg] w c)=(
 aA A2 139 (.bu [.one (.int .i64),.one (.int .i64),.one (.int .i64)]) [ag p,aa pg] w λ(x:Int×Int×Int×Unit) a=>aI (x.2.2.1 != 0) (au a (c (0,x.2.2.1,()))) (aA A2 217 (.el aV) [ag p,aa pg] a λ(d:Int) a=>aI (d != 0) (au a (c (0,d,()))) (aA A2 219 (.el (.one (.Ar 244 2))) [ag p,aa pg] a λe a=>aA A2 218 (.el eH) [.func (.func 244) ⟨[]⟩ ⟨[ag e.1,ag e.2.1]⟩] a λb a=>bI p 0 a λf=>(b.1.isSome=true/\0<=aX .i64
 (↑b.2.1:Int) 1/\aX .i64 (↑b.2.1:Int) 1<(↑b.2.1:Int))/\(ad b.1 ((aX .i64 (↑b.2.1:Int) 1).toNat*3)).isSome=true/\aj a none (ad (ad b.1 ((aX .i64 (↑b.2.1:Int) 1).toNat*3)) 2) aV λ(g:Int)=>aA A2 38 (.el aV) [ag f,aa g,az 0] a λ(h:Int) a=>aA A2 220 (.bu []) [ag p,.slice b.1 b.2.1 b.2.2] a λi a=>au a (c (x.1,0,()))))):=by kernel_rfl
theorem Sb (p:Option AB) (pg r:Int) (w:A1) (c:Int->A1->Prop):(aJ N0 (λ_=>[]) 177 [ag p,aa pg,aa r] w c)=(
 ∃(x:Int),ae A2 88 [ag p] w (aa x)/\aI (x != 0) (au w (c x)) (∃(x:Int),ae A2 215 [aa pg,aa 0,aa r] w (aa x)/\aI (x != 0) (au w (c x)) (aA A2 193 (.bu [.agg [.int .i64,.int .i64,.int .i64],.agg [.bool,.int .i64,.bool,.int .i64]]) [ag p,aa pg] w λ(x:(Int×Int×Int×Unit)×(Bool×Int×Bool×Int×Unit)×Unit) a=>aM a ⟨[aa 0,aa 0,aa 0]⟩ 270 λb a=>aM a ⟨[.bool false,aa 0,.bool false,aa 0]⟩ 130 λd a=>aC a (af b)
 [aa x.1.1,aa x.1.2.1,aa x.1.2.2.1] λa=>aC a (af d) [.bool x.2.1.1,aa x.2.1.2.1,.bool x.2.1.2.2.1,aa x.2.1.2.2.2.1] λa=>true=true/\u9 a (ad (af d) 0) λx=>aI (!x) (au a (c 4)) (true=true/\u9 a (ad (af d) 2) λx=>(x=true->true=true)/\aj a (some x) (ad (af d) 1) aV λ(g:Int)=>aI (x&&g==r) (au a (c 0)) (aj a none (af b) xr λ(x:Int×Int×Int×Unit)=>aj a none (af d) kf λ(e:Bool×Int×Bool×Int×Unit)=> ∃(f:Int),ae A2 194
 [aa pg,.agg ⟨[aa x.1,aa x.2.1,aa x.2.2.1]⟩,.agg ⟨[.bool e.1,aa e.2.1,.bool e.2.2.1,aa e.2.2.2.1]⟩] a (aa f)/\aA A2 217 (.el aV) [ag p,aa pg] a λ(x:Int) a=>aI (x != 0) (au a (c x)) (aA A2 193 (.bu [.agg [.int .i64,.int .i64,.int .i64],.agg [.bool,.int .i64,.bool,.int .i64]]) [ag p,aa pg] a λ(x:(Int×Int×Int×Unit)×(Bool×Int×Bool×Int×Unit)×Unit) a=>aC a (af b) [aa x.1.1,aa x.1.2.1,aa x.1.2.2.1] λa=>true=
 true/\aW a (ad (af b) 2) λx=>aA A2 222 (.bu []) [ag p,aa x,.agg ⟨[.bool true,aa r,.bool false,aa f]⟩] a λx a=>au a (c 0))))))):=by kernel_rfl
theorem BI (p:Option AB) (f lv:Int) (w:A1) (c:Option AB×Option AB×Option AB×Unit->A1->Prop):(aJ N0 (λ_=>[]) 239 [ag p,aa f,aa lv] w c)=(
 aM w ⟨[ag p]⟩ 118 λb a=>aM a ⟨[aa f]⟩ 3 λd a=>aM a ⟨[aa lv]⟩ 3 λe a=>au a (c (some ⟨d,0,none⟩,some ⟨b,0,none⟩,some ⟨e,0,none⟩,()))):=by kernel_rfl
def rm:Nat->a6:=(λ|4=>[(6,.one (.int .i64))]| _=>[])
theorem Mv (p c d:Option AB) (w:A1) (f:Option AB×Nat×Nat->A1->Prop):(bT N0 rm 238 [.func (.func 247) #[] #[ag p,ag c,ag d]] w f)=(
 aM w ⟨[.slice none 0 0]⟩ 39 λb e=>An A2 247 (λ(y:Nat)=>[.func (Fn.yield y) ⟨[]⟩ ⟨[]⟩,ag p,ag c,ag d]) ⟨[6]⟩ e (λ(x:Int×Unit)=>[aa x.1]) (λ(l:Nat) (rec:Loop) (x:Int×Unit) i (R:Bool->A1->Prop)=>DL l rec [aa x.1].length 1 i (Cs l rec i λa=>tc a (af b) λg=>aM a ⟨[aa x.1]⟩ 3 λj e=> ∀w1,Ext e w1->mH w1 3 1 8 ⟨[aa 0]⟩ (g.1,g.2.1,g.2.2) (some ⟨j,0,none⟩,1,1) λ(r:Option AB×Nat×Nat) e=>aC e (some ⟨b,0,
 none⟩) [.slice r.1 r.2.1 r.2.2] λe=>sO l rec none e R)) λ(r:Nat) (rec:Loop) k=>dF (r+1) rec k (λa=>tc a (af b) λx=>sP [r] a λw1=>f (x.1,x.2.1,x.2.2) w1) (λ(id:Nat) a=>Co (λ(h:id=0->False)=>False) (λ(h:id=0)=>tc a (af b) λx=>sP [r] a λw1=>f (x.1,x.2.1,x.2.2) w1) (match h:id.beq 0 with|true=>isTrue (DY h)|false=>isFalse (DZ h))) λa=>sP [r] a λw1=>f (none,0,0)
 w1):=by kernel_rfl
def wJ:Nat->a6:=(λ|5=>[(18,Go.RX.El.one (Go.RX.Sc.int AY))]|8=>[(5,Go.RX.El.one (Go.RX.Sc.int AY))]| _=>[])
theorem VX (p:Option AB) (w:A1) (e:Option AB×Nat×Nat->A1->Prop):(aJ N0 wJ 214 [ag p] w e)=(
 ∃(x:Int),ae A2 88 [ag p] w (aa x)/\aI (x != 0) (au w (e (none,0,0))) (cN p 3 w λx=>aA A2 239 (.el (.one (.Ar 247 3))) [ag p,aa x,aa 3] w λx b=>aA A2 238 (.el eH) [.func (.func 247) ⟨[]⟩ ⟨[ag x.1,ag x.2.1,ag x.2.2.1]⟩] b λx b=> ∃(I:Nat->Int×Unit->A1->Prop),(∃n, ∀w1,Ext b w1->I n (0,()) w1)/\ ∀(n:Nat) (s:Int×Unit) (w1:A1),I n s w1->aI (decide (s.1<(↑x.2.1:Int))) (∃(f:Nat->Int×Unit->A1->Prop),(∃n, ∀g,Ext w1 g->f
 n (s.1,()) g)/\ ∀(h:Nat) (a:Int×Unit) (w1:A1),f h a w1->(decide (a.1>0)=true->x.1.isSome=true/\0<=aX .i64 a.1 1/\aX .i64 a.1 1<(↑x.2.1:Int))/\aj w1 (some (decide (a.1>0))) (ad x.1 ((aX .i64 a.1 1).toNat*1)) aV λ(i:Int)=>(decide (a.1>0)=true->x.1.isSome=true/\0<=a.1/\a.1<(↑x.2.1:Int))/\aj w1 (some (decide (a.1>0))) (ad x.1 (Ay a.1*1)) aV λ(j:Int)=>aI (decide (a.1>0)&&decide (i>j)) ((x.1.isSome=true/\0<=a.1/\a.1<(↑x.2.1:Int))/\aW w1
 (ad x.1 (Ay a.1*1)) λk=>(x.1.isSome=true/\0<=aX .i64 a.1 1/\aX .i64 a.1 1<(↑x.2.1:Int))/\aj w1 none (ad x.1 ((aX .i64 a.1 1).toNat*1)) aV λ(l:Int)=>(x.1.isSome=true/\0<=aX .i64 a.1 1/\aX .i64 a.1 1<(↑x.2.1:Int))/\aC w1 (ad x.1 ((aX .i64 a.1 1).toNat*1)) [aa k] λb=>(x.1.isSome=true/\0<=a.1/\a.1<(↑x.2.1:Int))/\aC b (ad x.1 (Ay a.1*1)) [aa l] λb=> ∀c,Ext b c-> ∃(d:Nat),d<h/\f d (aX .i64 a.1 1,()) c) (∀c,Ext w1 c-> ∃(d
 :Nat),d<n/\I d (aH .i64 s.1 1,()) c)) (au w1 (e (x.1,x.2.1,x.2.2))))):=by kernel_rfl
def uE:Nat->a6:=(λ|5=>[(13,Go.RX.El.one (Go.RX.Sc.int AY))]| _=>[])
theorem Se (p:Option AB) (w:A1) (b:Option AB×Nat×Nat->A1->Prop):(aJ N0 uE 171 [ag p] w b)=(
 ∃(x:Int),ae A2 88 [ag p] w (aa x)/\aI (x != 0) (au w (b (none,0,0))) (aA A2 214 (.el eH) [ag p] w λx a=> ∃(I:Nat->Int×Unit->A1->Prop),(∃n, ∀w1,Ext a w1->I n (0,()) w1)/\ ∀(n:Nat) (s:Int×Unit) (w1:A1),I n s w1->aI (decide (s.1<(↑x.2.1:Int))) ((x.1.isSome=true/\0<=s.1/\s.1<(↑x.2.1:Int))/\aW w1 (ad x.1 (Ay s.1*1)) λx=>bI p 1 w1 λe=>aA A2 138 (.el aV) [ag e,aa x,aa 5,aa 0] w1 λ(x:Int) a=> ∀c,Ext a c-> ∃(d
 :Nat),d<n/\I d (aH .i64 s.1 1,()) c) (p.isSome=true/\p.isSome=true/\aC w1 (ad p 4) [.bool true] λa=>au a (b (x.1,x.2.1,x.2.2))))):=by kernel_rfl
theorem VY (m p:Option AB) (o:Int) (w:A1) (c:Option AB×Int×Unit->A1->Prop):(aJ N0 (λ_=>[]) 164 [ag m,ag p,aa o] w c)=(
 ∃(x:Int),ae A2 117 [ag m] w (aa x)/\ ∃(d:Int),((!x==0)=true->ae A2 62 [ag p] w (aa d))/\ ∃(e:Int),((!(x==0||d==0))=true->ae A2 117 [ag m] w (aa e))/\ ∃(f:Int),((!(x==0||d==0))=true->ae A2 62 [ag p] w (aa f))/\aI (x==0||d==0||decide (e<gq .i64 16 f)) (au w (c (none,1,()))) (aM w ⟨[ag m,ag p,aa o,aa 0,.bool false]⟩ 188 λb a=>aA A2 205 (.bu [.one (.int .i64),.one (.int
 .i64)]) [ag (af b),.func (.func 206) ⟨[]⟩ ⟨[]⟩] a λ(x:Int×Int×Unit) a=>aI (x.2.1 != 0) (au a (c (none,x.2.1,()))) (true=true/\true=true/\aC a (ad (af b) 3) [aa x.1] λa=>au a (c (some ⟨b,0,none⟩,0,()))))):=by kernel_rfl
theorem Mw (p:Option AB) (i n:Int) (w:A1) (a:Option AB×Nat×Nat->A1->Prop):(aJ N0 (λ_=>[]) 45 [ag p,aa i,aa n] w a)=(
 aI p.isNone (au w (a (none,0,0))) (p.isSome=true/\p.isSome=true/\aj w none (ad p 0) (.agg [.slice]) λx=>aA A2 80 (.el eH) [.agg ⟨[.slice x.1.1 x.1.2.1 x.1.2.2]⟩,aa i,aa n] w λx b=>au b (a (x.1,x.2.1,x.2.2)))):=by kernel_rfl
theorem VZ (p:Option AB) (n c:Nat) (i k:Int) (w:A1) (Post:Option AB×Nat×Nat->A1->Prop):(aJ N0 (λ_=>[]) 80 [.agg ⟨[.slice p n c]⟩,aa i,aa k] w Post)=(
 aM w ⟨[.slice p n c]⟩ 157 λb a=>((!(decide (k<1)||decide (i<0)))=true->true=true)/\aj a (some !(decide (k<1)||decide (i<0))) (ad (af b) 0) (.one .slice) λx=>((!(decide (k<1)||decide (i<0)||decide (i>(↑x.2.1:Int))))=true->true=true)/\aj a (some !(decide (k<1)||decide (i<0)||decide (i>(↑x.2.1:Int)))) (ad (af b) 0) (.one .slice) λe=>aI (decide (k<1)||decide (i<0)||decide (i>(↑x.2.1:Int))||decide (k>aX .i64 (↑e.2.1:Int) i)) (au a λw1=>Post (none,0,0) w1) (Od a 8
 1 k k ⟨[az 0]⟩ 29 λd a=>true=true/\aj a none (ad (af b) 0) (.one .slice) λx=>(0<=i/\i<=(↑x.2.1:Int)/\(↑x.2.1:Int)<=(↑x.2.2:Int)/\(↑x.2.2:Int)<=(↑x.2.2:Int))/\ ∀w1,Ext a w1->cpR w1 1 (some ⟨d,0,none⟩,k.toNat) (Co (λ(h:(↑x.2.2:Int).toNat=i.toNat->False)=>ad x.1 (i.toNat*1)) (λ(h:(↑x.2.2:Int).toNat=i.toNat)=>x.1) (instDecidableEqNat (↑x.2.2:Int).toNat i.toNat),(↑x.2.1:Int).toNat - i.toNat) λ(r:Int) a=>au a λw1=>Post (some ⟨d,0,none⟩,k.toNat,k.toNat) w1)):=by
 kernel_rfl
end Go.Proofs.YtlcenllcmeebhaaGreat
namespace Go.Proofs.YtlcenllcmeebhaaGreat.D
set_option maxRecDepth 100000
open Go.RX
noncomputable def E3:dM A2:={E0 with quiet:=[62,30,25]}
section
variable {D G:List Nat} {w0 w:A1} {L:List (Nat×List AC)}
theorem V2 (H:aK D G w0 w L) (i j:Nat) {bp bf n c:Nat} {ds:List DT} {rest:List AC} (b:L[i]? =some (bp,[.slice (af bf) n c])) (a:L[j]? =some (bf,flat eD ds++rest)) (e:i≠j) (g:n=ds.length) (l:0<n) (h:n<=4096) (f y o:Int) {K:Int->A1->Prop}
 (k: ∀d,aK D G w0 d (L.set j (bf,flat eD (dN ds f (aO y o))++rest))->K (vI ds f (aO y o)) d):aA A2 138 (.el (.one (.int .i64))) [ag (af bp),aa f,aa y,aa o] w K:=by
 subst g;exact aA.D5 H j a (λw1 H=>Db (H.get b) (H.get a) (H.ne b a e) h f y o) k
theorem V3 (H:aK D G w0 w L) (i j:Nat) {bp bf n c:Nat} {ds:List DT} {rest:List AC} (b:L[i]? =some (bp,[.slice (af bf) n c])) (a:L[j]? =some (bf,flat eD ds++rest)) (e:i≠j) (g:n=ds.length) (l:0<n) (h:n<=4096) (f x:Int) (hi: -9223372036854775808<=x/\x<9223372036854775808) {K:Int->A1->Prop}
 (k: ∀d,aK D G w0 d (L.set j (bf,flat eD (dN ds f (iu x))++rest))->K (vI ds f (iu x)) d):aA A2 183 (.el (.one (.int .i64))) [ag (af bp),aa f,aa x] w K:=by
 subst g;exact aA.D5 H j a (λw1 H=>VN (H.get b) (H.get a) (H.ne b a e) h f x hi) k
theorem V4 (H:aK D G w0 w L) (i j:Nat) {bp bf n c:Nat} {ds:List DT} {rest:List AC} (b:L[i]? =some (bp,[.slice (af bf) n c])) (a:L[j]? =some (bf,flat eD ds++rest)) (e:i≠j) (g:n=ds.length) (l:0<n) (h:n<=4096) (f:Int) {K:Int->A1->Prop}
 (k: ∀d,aK D G w0 d (L.set j (bf,flat eD (dN ds f (aO 0 0))++rest))->K (vI ds f (aO 0 0)) d):aA A2 79 (.el (.one (.int .i64))) [ag (af bp),aa f] w K:=by
 subst g;exact aA.D5 H j a (λw1 H=>VO (H.get b) (H.get a) (H.ne b a e) h f) k
theorem V5 (H:aK D G w0 w L) (i j:Nat) {bp bf n c:Nat} {ds:List DT} {rest:List AC} (b:L[i]? =some (bp,[.slice (af bf) n c])) (a:L[j]? =some (bf,flat eD ds++rest)) (e:i≠j) (f:n=ds.length) (h:0<n) (g:n<=4096) (y o:Int) {K:Int×Int×Unit->A1->Prop}
 (k: ∀d,aK D G w0 d (L.set j (bf,flat eD (dJ ds y o)++rest))->K (fl ds y o,dX ds y o,()) d):aA A2 172 (.bu [.one (.int .i64),.one (.int .i64)]) [ag (af bp),aa y,aa o] w K:=by
 subst f;exact aA.D5 H j a (λw1 H=>VR (H.get b) (H.get a) (H.ne b a e) rfl g y o) k
theorem abI (H:aK D G w0 w L) (i:Nat) {bp n c:Nat} {a:Option AB} (b:L[i]? =some (bp,[.slice a n c])):ae A2 62 [ag (af bp)] w (aa (n:Int)):=
 ae.of (s:= .el (.one (.int .i64))) λw' h=>r_ ((H.get b).ext h)
theorem V6 (H:aK D G w0 w L) (i j:Nat) {bp bf n c:Nat} {ds:List DT} {rest:List AC} (a:L[i]? =some (bp,[.slice (af bf) n c])) (b:L[j]? =some (bf,flat eD ds++rest)) (d:n=ds.length) (e:n<=4096) (v:Int):
 ae A2 30 [ag (af bp),aa v] w (aa (cm ds v:Nat)):=
 ae.of (s:= .el (.one (.int .i64))) λw' h=>EQ ((H.get a).ext h) ((H.get b).ext h) d e v
theorem acH (H:aK D G w0 w L) (i j:Nat) {bp bf n c:Nat} {ds:List DT} {rest:List AC} (a:L[i]? =some (bp,[.slice (af bf) n c])) (b:L[j]? =some (bf,flat eD ds++rest)) (d:n=ds.length) (f:Int):
 ae A2 25 [ag (af bp),aa f] w ((Sh.bu [eD,.one .bool]).ia (oN ds f,Cv ds f,())):=by
 subst d;exact ae.of (s:= .bu [eD,.one .bool]) λw' h=>PM ((H.get a).ext h) ((H.get b).ext h) f
theorem Sf (H:aK D G w0 w L) (i j:Nat) {bp bf n c:Nat} {ds:List DT} {rest:List AC} (b:L[i]? =some (bp,[.slice (af bf) n c])) (d:L[j]? =some (bf,flat eD ds++rest)) (e:n=ds.length) (f:n<=4096) (v:Int) {K:Option AB×Nat×Nat->A1->Prop}
 (k: ∀r rows a,aK D G w0 a (L++rows)->oo eI rows r ((gM ds v).map λi=>((i:Nat):Int))->K r a):aA A2 166 (.el (.one .slice)) [ag (af bp),aa v] w K:=
 aA.Zh H (λw1 H=>R5 (H.get b) (H.get d) e f v) k
end
end Go.Proofs.YtlcenllcmeebhaaGreat.D
namespace Go.Proofs.YtlcenllcmeebhaaGreat
set_option maxRecDepth 100000
open Go.RX D
abbrev ET:Type:=Bool×Int×Bool×Int×Unit
abbrev PT:Type:=Int×Int×Int×Unit
abbrev sEn:List Sc:=[.bool,.int .i64,.bool,.int .i64]
abbrev Uf:List Sc:=[.int .i64,.int .i64,.int .i64]
def zE:ET:=(false,0,false,0,())
def fc (v:Int):ET:=(IL (B v).toNat,F' (B v).toNat,Kw (B v).toNat,FV (B v).toNat,())
def dO (e:ET):Bool:=fV e.1 e.2.1 e.2.2.1 e.2.2.2.1
def TU (e:ET):Int:=F_ e.1 e.2.1 e.2.2.1 e.2.2.2.1
def cx (f:Int):ET:=(true,0,false,f,())
def aL (ws:List Int) (i:Int):ET:=fc (dQ ws i)
def dt (ws:List Int) (pg:Int):Nat->Int->List PT
 |0,f=>[(f,0,eB f pg 0,())]
 |l+1,f=>(f,((l+1:Nat):Int),eB f pg ((l+1:Nat):Int),())::if dO (aL ws (eB f pg ((l+1:Nat):Int)))=true then dt ws pg l (aL ws (eB f pg ((l+1:Nat):Int))).2.2.2.1 else[]
theorem xW (ws:List Int) (pg:Int) (l:Nat) (f:Int):dt ws pg l f≠[]:=by cases l<;>simp[dt]
theorem tQ (ws:List Int) (pg:Int): ∀(l:Nat) (f:Int),(dt ws pg l f).length<=l+1
 |0,f=>by simp[dt]
 |l+1,f=>by
  rw[dt];split
  ·have:=tQ ws pg l (aL ws (eB f pg ((l+1:Nat):Int))).2.2.2.1;simp only[B4];omega
  ·simp
def dH (ws:List Int) (r pg:Int):PT:=(dt ws pg 3 r).getLastD (0,0,0,())
def cW (ws:List Int) (r pg:Int):ET:=aL ws (dH ws r pg).2.2.1
def fe (ws:List Int) (f:Int) (g:Int->Int):Nat->List Int
 |0=>ws
 |i+1=>dT (fe ws f g i) (16*f+(i:Int)) (g i)
theorem gQ (ws:List Int) (f:Int) (g:Int->Int): ∀n,(fe ws f g n).length=ws.length
 |0=>rfl
 |n+1=>by rw[fe,cH,gQ ws f g n]
abbrev WD:Type:=List Int×List DT
def eV (s:WD) (o:Int):Int:=fl s.2 3 o
def rD (s:WD) (o:Int):Int:=dX s.2 3 o
def iV (s:WD) (o:Int) (g:Int->Int):WD:=(if rD s o=0 then fe s.1 (eV s o) g 16 else s.1,dJ s.2 3 o)
def dW (s:WD) (i:Int) (e:ET):WD:=(dT s.1 i (TU e),s.2)
def qV (o pg:Int):Nat->WD×PT->WD×PT
 |0,x=>x
 |n+1,x=>qV o pg n (dW (iV x.1 o λ_=>0) x.2.2.2.1 (cx (eV x.1 o)),(eV x.1 o,x.2.2.1 - 1,eB (eV x.1 o) pg (x.2.2.1 - 1),()))
def kZ (s:WD) (r pg lv:Int):Int:=
 if((cW s.1 r pg).1||decide ((dH s.1 r pg).2.1<lv))=true then 5
 else if(cm s.2 0:Int)<(dH s.1 r pg).2.1 - lv then 12 else 0
def rO (s:WD) (o r pg lv:Int) (e:ET):WD:=
 if kZ s r pg lv=0 then dW (qV o pg ((dH s.1 r pg).2.1 - lv).toNat (s,dH s.1 r pg)).1 (qV o pg ((dH s.1 r pg).2.1 - lv).toNat (s,dH s.1 r pg)).2.2.2.1 e else s
def k_ (pg f rt:Int):Int:=if pg<0\/pg>=65536\/f<0\/f>=4096 then 2 else if rt<1\/rt>7 then 7 else 0
def kh (s:WD) (r:Int) (gone:Bool) (pg f rt:Int):Int:=if gone=true then 6 else if k_ pg f rt=0 then kZ s r pg 0 else k_ pg f rt
def jD (s:WD) (o r:Int) (gone:Bool) (pg f rt:Int):WD:=if gone=true then s else if k_ pg f rt=0 then rO s o r pg 0 (true,rt,false,f,()) else s
def qK (pg:Int) (x:PT) (e:ET):Int:=if x.2.1=1 then e.2.2.2.1+pg % 16 else e.2.2.2.1
def bD (s:WD) (r:Int) (gone:Bool) (pg:Int):Int×Int×Int×Unit:=
 if gone=true then(0,0,6,()) else if pg<0\/pg>=65536 then(0,0,2,())
 else if(cW s.1 r pg).1=true then(qK pg (dH s.1 r pg) (cW s.1 r pg),(cW s.1 r pg).2.1,0,()) else(0,0,4,())
def oH (e:ET) (i:Int):Int:=TU (true,e.2.1,false,e.2.2.2.1+i,())
def mv (s:WD) (o r pg:Int):Int:=if(dH s.1 r pg).2.1=0 then 0 else rD s o
def fv (s:WD) (o r pg:Int):WD:=
 if(dH s.1 r pg).2.1=0 then s
 else if rD s o=0 then dW (iV s o (oH (cW s.1 r pg))) (dH s.1 r pg).2.2.1 (cx (eV s o)) else iV s o (oH (cW s.1 r pg))
def jE (ws:List Int) (i n:Int):List Int:=if n<1\/i<0\/i>ws.length\/n>ws.length - i then[] else(ws.drop i.toNat).take n.toNat
def xz (ws:List Int) (f:Int):Bool:=(jE ws (16*f) 16).all λv=>v==0
def jv:List PT->WD->WD
 |x::y::l,s=>if xz s.1 x.1=true then jv (y::l) (dT s.1 y.2.2.1 0,dN s.2 x.1 (aO 5 0)) else s
 | _,s=>s
def CI (s:WD) (o r:Int) (gone:Bool) (pg:Int):Int:=if(bD s r gone pg).2.2.1=0 then mv s o r pg else(bD s r gone pg).2.2.1
def Gx (s:WD) (o r:Int) (gone:Bool) (pg:Int):Int:=if CI s o r gone pg=0 then(bD s r gone pg).1 else 0
def nE (s:WD) (o r:Int) (gone:Bool) (pg:Int):WD:=
 if(bD s r gone pg).2.2.1=0 then
  if mv s o r pg=0 then jv (dt (fv s o r pg).1 pg 3 r).reverse (dT (fv s o r pg).1 (dH (fv s o r pg).1 r pg).2.2.1 0,(fv s o r pg).2)
  else fv s o r pg
 else s
def Gy (s:WD) (o r:Int) (gone:Bool) (pg rt:Int):Int:=
 if gone=true then 6 else if k_ pg 0 rt=0 then(if(cW s.1 r pg).1=true then(if((cW s.1 r pg).2.2.1&&(cW s.1 r pg).2.1==rt)=true then 0 else mv s o r pg) else 4) else k_ pg 0 rt
def rP (s:WD) (o r:Int) (gone:Bool) (pg rt:Int):WD:=
 if gone=true then s else if k_ pg 0 rt=0 then(if(cW s.1 r pg).1=true then(if((cW s.1 r pg).2.2.1&&(cW s.1 r pg).2.1==rt)=true then s
  else if mv s o r pg=0 then dW (fv s o r pg) (dH (fv s o r pg).1 r pg).2.2.1 (true,rt,false,qK pg (dH s.1 r pg) (cW s.1 r pg),()) else fv s o r pg) else s) else s
def cY (ws:List Int):Nat->Int->List Int
 |0,f=>[f]
 |l+1,f=>f::(Ax 16).flatMap λ(i:Nat)=>if dO (aL ws (16*f+(i:Int)))=true then cY ws l (aL ws (16*f+(i:Int))).2.2.2.1 else[]
def jF (x:Int):List Int->List Int
 |[]=>[x]
 |y::l=>if y>x then y::jF x l else x::y::l
def mQ (l:List Int):List Int:=(l.foldl (λa x=>jF x a) []).reverse
def mR (s:WD) (r:Int) (gone:Bool):List Int:=if gone=true then[] else mQ (cY s.1 3 r)
def cI (s:WD) (r:Int) (gone:Bool):WD:=if gone=true then s else(s.1,(mR s r gone).foldl (λds f=>dN ds f (aO 5 0)) s.2)
structure Sys where
 bm:Nat
 bw:Nat
 bf:Nat
 bp:Nat
 c:Nat
 cp:Nat
 rw:List AC
 rf:List AC
def Sys.L (Q:Sys) (ca la:Int) (s:WD) (L0:List (Nat×List AC)):List (Nat×List AC):=
 (Q.bm,l7 Q.bw s.1.length Q.c ca la)::(Q.bw,flat eW s.1++Q.rw)::(Q.bf,flat eD s.2++Q.rf)::(Q.bp,[.slice (af Q.bf) s.2.length Q.cp])::L0
structure bj (Q:Sys) (D G:List Nat) (w0 w:A1) (s:WD) (L0:List (Nat×List AC)):Prop where
 pos:0<s.1.length
 Gz:0<s.2.length
 le:s.2.length<=4096
 okw:okW s.1
 kn: ∃ca la,aK D G w0 w (Q.L ca la s L0)
abbrev oS (Q:Sys) (o r:Int) (gone:Bool):List AC:=[ag (af Q.bm),ag (af Q.bp),aa o,aa r,.bool gone]
theorem aai {ws:List Int} (h:okW ws) (i v:Int) (hv:0<=v/\v<18446744073709551616):okW (dT ws i v):=by
 intro x hx;unfold dT at hx;split at hx
 ·rcases Do hx with hx|rfl
  ·exact h x hx
  ·exact hv
 ·exact h x hx
theorem PO (p:Bool) (r:Int) (l:Bool) (f:Int):0<=F_ p r l f/\F_ p r l f<18446744073709551616:=by
 unfold F_;split
 ·rename_i h;unfold vR;cases p with
  |false=>
   unfold bU at h;simp at h;obtain⟨⟨h1,a⟩,b⟩:=h;subst h1;subst a;subst b;decide
  |true=>
   unfold bU at h;simp at h;have d:(nB l:Int)<=1:=by cases l<;>decide
   have b0:0<=(nB l:Int):=by omega
   have c:(nB true:Int)=1:=rfl;rw[c];omega
 ·exact⟨by decide,by decide⟩
theorem JG (n:Nat):0<=FV n/\FV n<4096:=by
 unfold FV;split<;>omega
section
variable {Q:Sys} {D G:List Nat} {w0 w w1:A1} {s:WD} {L0 L1:List (Nat×List AC)}
namespace bj
theorem ext (S:bj Q D G w0 w s L0) (h:Ext w w1):bj Q D G w0 w1 s L0:=by
 obtain⟨h1,a,b,c,ca,la,H⟩:=S;exact⟨h1,a,b,c,ca,la,H.ext h⟩
theorem al (S:bj Q D G w0 w s L0) {cs:List AC} {e:TypeId} {K:Nat->A1->Prop} (k: ∀b w1,bj Q D G w0 w1 s ((b,cs)::L0)->K b w1):aM w ⟨cs⟩ e K:=by
 obtain⟨h1,a,c,d,ca,la,H⟩:=S;exact aM.go H λb w1 H=>k b w1 ⟨h1,a,c,d,ca,la,H.perm (DJ (l₁:=[_, _, _, _]))⟩
theorem en (S:bj Q D G w0 w s L0) {K:A1->Prop} (k: ∀w1,bj Q D G w0 w1 s L0->K w1):au w K:=λ_ h=>k _ (S.ext h)
theorem get (S:bj Q D G w0 w s L0) {i b:Nat} {l:List AC} (h:L0[i]? =some (b,l)):bN w b l:=by
 obtain⟨h1,a,c,d,ca,la,H⟩:=S;exact H.get (i:=i+4) h
theorem ld (i:Nat) (S:bj Q D G w0 w s L0) {g:Option Bool} {el:El} {K:el.T->Prop} {b o:Nat} {l:List AC} {x:el.T} (a:L0[i]? =some (b,l)) (hv:k9 l o el=some x) (k:K x):aj w g (some ⟨b,o,none⟩) el K:=
 .of x (dZ (S.get a) hv) k
theorem cJ (i:Nat) (S:bj Q D G w0 w s L0) {g:Option Bool} {el:El} {K:el.T->Prop} {b o n:Nat} {l:List AC} {x:el.T} (a:L0[i]? =some (b,l)) (hv:k9 l (o+n) el=some x) (k:K x):aj w g (ad (some ⟨b,o,none⟩) n) el K:=by
 rw[aY];exact .of x (dZ (S.get a) hv) k
theorem fm (i:Nat) (S:bj Q D G w0 w s L0) {b:Nat} {l vs:List AC} {K:A1->Prop} (a:L0[i]? =some (b,l)) (c:vs.all (·.oneCell')=true) (d:vs.length=l.length)
 (k: ∀w1,bj Q D G w0 w1 s (L0.set i (b,vs))->K w1):aC w (af b) vs K:=by
 obtain⟨h1,e,f,g,ca,la,H⟩:=S;exact aC.all (i+4) H a c d λw1 H=>k w1 ⟨h1,e,f,g,ca,la,H⟩
theorem abJ (i:Nat) (S:bj Q D G w0 w s L0) {b o:Nat} {l:List AC} {x:AC} {K:A1->Prop} (a:L0[i]? =some (b,l)) (c:x.oneCell'=true) (d:Nat.blt o l.length=true)
 (k: ∀w1,bj Q D G w0 w1 s (L0.set i (b,l.set o x))->K w1):aC w (some ⟨b,o,none⟩) [x] K:=by
 obtain⟨h1,e,f,g,ca,la,H⟩:=S;exact aC.one (i+4) H a c d λw1 H=>k w1 ⟨h1,e,f,g,ca,la,H⟩
theorem CY (i:Nat) (S:bj Q D G w0 w s L0) {b o n:Nat} {l:List AC} {x:AC} {K:A1->Prop} (a:L0[i]? =some (b,l)) (c:x.oneCell'=true) (d:Nat.blt (o+n) l.length=true)
 (k: ∀w1,bj Q D G w0 w1 s (L0.set i (b,l.set (o+n) x))->K w1):aC w (ad (some ⟨b,o,none⟩) n) [x] K:=by
 rw[aY];exact S.abJ i a c d k
theorem go (S:bj Q D G w0 w s L0) {P:Program} {f:FuncId} {sh:Sh} {args:List AC} {K:sh.T->A1->Prop} (k: ∀w1,bj Q D G w0 w1 s L0->aD P f sh args w1 K):aA P f sh args w K:=λ_ h=>k _ (S.ext h)
theorem sub (S:bj Q D G w0 w s L0) (h:L1.Sublist L0):bj Q D G w0 w s L1:=by
 obtain⟨h1,a,b,c,ca,la,H⟩:=S;exact⟨h1,a,b,c,ca,la,H.sub (((((h.cons_cons _).cons_cons _).cons_cons _).cons_cons _))⟩
theorem tail {x:Nat×List AC} (S:bj Q D G w0 w s (x::L0)):bj Q D G w0 w s L0:=S.sub (DA _ _)
theorem perm (S:bj Q D G w0 w s L0) (h:L1.Perm L0):bj Q D G w0 w s L1:=by
 obtain⟨h1,a,b,c,ca,la,H⟩:=S;exact⟨h1,a,b,c,ca,la,H.perm ((((h.cons _).cons _).cons _).cons _)⟩
theorem load (S:bj Q D G w0 w s L0) (i:Int) {K:Int×Int×Unit->A1->Prop} (k: ∀a,bj Q D G w0 a s L0->K (dQ s.1 i,Ct s.1 i,()) a):
 aA A2 37 (.bu [.one (.int .u64),.one (.int .i64)]) [ag (af Q.bm),aa i] w K:=by
 obtain⟨h1,b,c,d,ca,la,H⟩:=S;exact EH H 0 1 rfl rfl (by decide) rfl h1 i λa H=>k a ⟨h1,b,c,d, _, _,H⟩
theorem store (S:bj Q D G w0 w s L0) (i v:Int) (hv:0<=v/\v<18446744073709551616) {K:Int->A1->Prop} (k: ∀a,bj Q D G w0 a (dT s.1 i v,s.2) L0->K (Ct s.1 i) a):
 aA A2 38 (.el (.one (.int .i64))) [ag (af Q.bm),aa i,az v] w K:=by
 obtain⟨h1,b,d,e,ca,la,H⟩:=S;refine LP H 0 1 rfl rfl (by decide) rfl h1 i v λa H=>k a ⟨?_,b,d,aai e i v hv,xh s.1 i ca,xh s.1 i la,?_⟩
 ·show 0<(dT s.1 i v).length;rw[cH];exact h1
 ·unfold Sys.L;show aK D G w0 a ((Q.bm,l7 Q.bw (dT s.1 i v).length Q.c _ _):: _);rw[cH];exact H
theorem take (S:bj Q D G w0 w s L0) (y o:Int) {K:Int×Int×Unit->A1->Prop} (k: ∀a,bj Q D G w0 a (s.1,dJ s.2 y o) L0->K (fl s.2 y o,dX s.2 y o,()) a):
 aA A2 172 (.bu [.one (.int .i64),.one (.int .i64)]) [ag (af Q.bp),aa y,aa o] w K:=by
 obtain⟨h1,b,c,d,ca,la,H⟩:=S;refine V5 H 3 2 rfl rfl (by decide) rfl b c y o λa H=>k a ⟨h1,?_,?_,d,ca,la,?_⟩
 ·show 0<(dJ s.2 y o).length;rw[vq];exact b
 ·show(dJ s.2 y o).length<=4096;rw[vq];exact c
 ·unfold Sys.L;show aK D G w0 a (_:: _:: _::(Q.bp,[.slice _ (dJ s.2 y o).length _]):: _);rw[vq];exact H
theorem Uz (S:bj Q D G w0 w s L0) (f y o:Int) {K:Int->A1->Prop} (k: ∀a,bj Q D G w0 a (s.1,dN s.2 f (aO y o)) L0->K (vI s.2 f (aO y o)) a):
 aA A2 138 (.el (.one (.int .i64))) [ag (af Q.bp),aa f,aa y,aa o] w K:=by
 obtain⟨h1,b,c,d,ca,la,H⟩:=S;refine V2 H 3 2 rfl rfl (by decide) rfl b c f y o λa H=>k a ⟨h1,?_,?_,d,ca,la,?_⟩
 ·show 0<(dN s.2 f (aO y o)).length;rw[ji];exact b
 ·show(dN s.2 f (aO y o)).length<=4096;rw[ji];exact c
 ·unfold Sys.L;show aK D G w0 a (_:: _:: _::(Q.bp,[.slice _ (dN s.2 f (aO y o)).length _]):: _);rw[ji];exact H
theorem cnt (S:bj Q D G w0 w s L0) (v:Int):ae A2 30 [ag (af Q.bp),aa v] w (aa (cm s.2 v:Nat)):=by
 obtain⟨h1,b,a,c,ca,la,H⟩:=S;exact V6 H 3 2 rfl rfl rfl a v
theorem aa1 (S:bj Q D G w0 w s L0):ae A2 117 [ag (af Q.bm)] w (aa (s.1.length:Nat)):=by
 obtain⟨h1,a,b,c,ca,la,H⟩:=S;exact ae.of (s:= .el (.one (.int .i64))) λw' h'=>Jz ((H.get (i:=0) rfl).ext h')
theorem Zl (S:bj Q D G w0 w s L0):ae A2 62 [ag (af Q.bp)] w (aa (s.2.length:Nat)):=by
 obtain⟨h1,a,b,c,ca,la,H⟩:=S;exact abI H 3 rfl
end bj
end
set_option maxRecDepth 100000
open Go.RX D
def stE (gone:Bool):Int:=if gone=true then 6 else 0
def abK (r:Int) (gone:Bool):Int:=if gone=true then -1 else r
theorem JH (pg f rt:Int) (w:A1):ae A2 215 [aa pg,aa f,aa rt] w (aa (k_ pg f rt)):=by
 refine ae.of (s:= .el (.one (.int .i64))) λw' _=>ai (C:=N0) (aT:=λ_=>[]) (AL (Mi _ _ _ w' _) ?_);unfold k_;refine ab (λc=>λw1 h1=>⟨?_,h1⟩) (λc=>ab (λd=>λw1 h1=>⟨?_,h1⟩) (λd=>λw1 h1=>⟨?_,h1⟩))
 ·simp at c;rw[aw (by omega)]
 ·simp at c d;rw[ao (by omega),aw (by omega)]
 ·simp at c d;rw[ao (by omega),ao (by omega)]
theorem JI (f:Int) (w:A1):ae A2 241 [aa f] w (.agg ⟨[.bool true,aa 0,.bool false,aa f]⟩):=by
 refine ae.of (s:= .el (.agg sEn)) (v:=cx f) λw' _=>aQ (C:=N0) (aT:=λ_=>[]) (AL (Mj f w' _) ?_);have H:=At.start [] w';exact aM.go H λb a H=>aC.all 0 H rfl rfl rfl λc H=>au.go H λd H=>aj.at 0 H rfl rfl ⟨rfl,H.all⟩
theorem JJ {pg:Int} (a:0<=pg) (x:PT) (e:ET) (g:0<=e.2.2.2.1/\e.2.2.2.1<4096) (w:A1):ae A2 194 [aa pg,.agg ⟨[aa x.1,aa x.2.1,aa x.2.2.1]⟩,.agg ⟨[.bool e.1,aa e.2.1,.bool e.2.2.1,aa e.2.2.2.1]⟩] w (aa (qK pg x e)):=by
 refine ae.of (s:= .el (.one (.int .i64))) λw' _=>ai (C:=N0) (aT:=λ_=>[]) (AL (Ml pg x.1 x.2.1 x.2.2.1 e.1 e.2.1 e.2.2.1 e.2.2.2.1 w' _) ?_);have H:=At.start [] w';unfold qK;refine aM.go H λb h H=>aM.go H λi j H=>⟨rfl,aj.cA 1 H rfl rfl (ab (λc=>⟨rfl,aj.cA 0 H rfl rfl ⟨trivial,by decide,au.go H λd H=>⟨?_,H.all⟩⟩⟩) (λc=>⟨rfl,aj.cA 0 H rfl rfl (au.go H λd H=>⟨?_,H.all⟩)⟩))⟩
 ·have c:x.2.1=1:=by simpa using c
  rw[aw c];have f:dz pg (gU 1)=pg % 16:=by
   have:gU 1=16:=rfl;rw[this];exact Int.tmod_eq_emod_of_nonneg a
  rw[f,av (by omega) (by omega)]
 ·have c: ¬ x.2.1=1:=by simpa using c
  rw[ao c]
section
variable {Q:Sys} {D G:List Nat} {w0 w:A1} {s:WD} {L0:List (Nat×List AC)} {bt:Nat} {o r:Int} {gone:Bool}
namespace bj
theorem state (S:bj Q D G w0 w s L0) (i:Nat) (a:L0[i]? =some (bt,oS Q o r gone)):ae A2 88 [ag (af bt)] w (aa (stE gone)):=by
 have hb:=S.get a;refine ae.of (s:= .el (.one (.int .i64))) λw' h'=>ai (C:=N0) (aT:=λ_=>[]) (AL (Mh _ w' _) ?_);have hb:=hb.ext h';refine⟨λ_=>rfl,λ_=>rfl,aj.of (af Q.bm) (by rw[aY];exact hb.oD rfl) (an rfl ⟨rfl,rfl,aj.of gone (by rw[aY];exact hb.oD rfl) ?_⟩)⟩;cases gone with
 |true=>exact ay rfl λw1 h1=>⟨rfl,h1⟩
 |false=>exact an rfl λw1 h1=>⟨rfl,h1⟩
theorem root (S:bj Q D G w0 w s L0) (i:Nat) (a:L0[i]? =some (bt,oS Q o r gone)):ae A2 56 [ag (af bt)] w (aa (abK r gone)):=by
 refine ae.of (s:= .el (.one (.int .i64))) λw' h'=>ai (C:=N0) (aT:=λ_=>[]) (AL (R6 _ w' _) ?_);have S:=S.ext h';refine⟨_,S.state i a,?_⟩;cases gone with
 |true=>exact ay rfl λw1 h1=>⟨rfl,h1⟩
 |false=>exact an rfl ⟨rfl,rfl,S.cJ i a rfl λw1 h1=>⟨rfl,h1⟩⟩
theorem at_ (S:bj Q D G w0 w s L0) (k:Nat) (d:L0[k]? =some (bt,oS Q o r gone)) (i:Int) {K:ET->A1->Prop} (c: ∀a,bj Q D G w0 a s L0->K (aL s.1 i) a):
 aA A2 235 (.el (.agg sEn)) [ag (af bt),aa i] w K:=by
 refine S.go λw1 S=>aQ (C:=N0) (aT:=λ_=>[]) (AL (PN _ i w1 K) ?_);refine S.al λb a S=>⟨rfl,rfl,S.cJ (k+1) d rfl (S.load i λf S=>⟨?_,S.al λg j S=>S.fm 0 rfl rfl rfl λl S=>S.ld 0 rfl rfl (S.fm 1 rfl rfl rfl λm S=>S.en λe S=>S.ld 1 rfl rfl (c e S.tail.tail))⟩)⟩;have h:=G6 S.okw i;exact CC h.1 h.2
theorem lay (S:bj Q D G w0 w s L0) (k:Nat) (d:L0[k]? =some (bt,oS Q o r gone)) (i:Int) (e:ET) {K:Unit->A1->Prop} (c: ∀a,bj Q D G w0 a (dW s i e) L0->K () a):
 aA A2 222 (.bu []) [ag (af bt),aa i,.agg ⟨[.bool e.1,aa e.2.1,.bool e.2.2.1,aa e.2.2.2.1]⟩] w K:=by
 refine S.go λw1 S=>ai (C:=N0) (aT:=λ_=>[]) (AL (VS _ i e.1 e.2.1 e.2.2.1 e.2.2.2.1 w1 K) ?_);exact S.al λb a S=>S.ld 0 rfl rfl ⟨trivial,rfl,rfl,S.cJ (k+1) d rfl (S.store i _ (PO _ _ _ _) λg S=>S.en λf S=>c f S.tail)⟩
end bj
theorem G_ {ds:List DT} {y o:Int} (h: ¬ dX ds y o=0):fl ds y o=0:=by
 unfold dX at h;unfold fl;cases a:iO ds with
 |none=>rfl
 |some n=>
  have b: ¬ ds.length=0:=λe=>by
   have:ds=[]:=GF.1 e;subst this;cases a
  rw[ao b,a] at h;exact ao h
theorem vt (ds:List DT) (y o:Int) (h0:0<ds.length):0<=fl ds y o/\fl ds y o<ds.length:=by
 unfold fl;cases a:iO ds with
 |none=>exact⟨DV 0,by show(0:Int)< _;omega⟩
 |some n=>
  unfold iO at a;rw[GG] at a;have h1:=a.1;dsimp only;split<;>omega
end
set_option maxRecDepth 100000
open Go.RX D
section
variable {Q:Sys} {D G:List Nat} {w0 w:A1} {s:WD} {L0:List (Nat×List AC)} {bt:Nat} {o r:Int} {gone:Bool}
namespace bj
theorem abL (S:bj Q D G w0 w s L0) (i:Nat) (b:L0[i]? =some (bt,oS Q o r gone)) {K:Int×Int×Unit->A1->Prop} (k: ∀d,bj Q D G w0 d (iV s o (λ_=>0)) L0->K (eV s o,rD s o,()) d):
 aA A2 205 (.bu [.one (.int .i64),.one (.int .i64)]) [ag (af bt),.func (.func 206) #[] #[]] w K:=by
 refine S.go λw1 S=>ai (C:=N0) (aT:=rj) (AL (Mm _ w1 K) ?_);have A:=vt s.2 3 o S.Gz;have B:=S.le;refine⟨rfl,rfl,S.cJ i b rfl ⟨rfl,rfl,S.cJ i b rfl (S.take 3 o λd S=>?_)⟩⟩;by_cases a:rD s o=0
 ·have f:iV s o (λ_=>0)=(fe s.1 (eV s o) (λ_=>0) 16,dJ s.2 3 o):=by unfold iV;rw[aw a]
  rw[f,a] at k;have g:dX s.2 3 o=0:=a;refine an (by simp[g]) ⟨λn v w'=> ∃m:Nat,n=16 - m/\m<=16/\v.1=(m:Int)/\bj Q D G w0 w' (fe s.1 (eV s o) (λ_=>0) m,dJ s.2 3 o) L0,⟨16,λj h=>⟨0,rfl,by omega,rfl,S.ext h⟩⟩,?_⟩;rintro n ⟨v,u⟩ j ⟨m,rfl,E,e,S⟩;dsimp only at e ⊢;subst e;refine ab (λc=>⟨rfl,rfl,S.cJ i b rfl ?_⟩) (λc=>S.en λl S=>k l ?_)
  ·have c:m<16:=by simp at c;omega
   refine λl p=>ai (C:=N0) (aT:=λ_=>[]) (AL (R9 _ l _) λF q=>?_);have S:=(S.ext p).ext q;have t:(0:Int)<=0/\(0:Int)<18446744073709551616:=by decide
   refine⟨trivial,trivial,by rw[aY];exact(S.get b).oD rfl,trivial,trivial,?_⟩;have x:aH .i64 (gq .i64 16 (fl s.2 3 o)) (m:Int)=16*eV s o+(m:Int):=by
    have:eV s o=fl s.2 3 o:=rfl;rw[eO (by omega) (by omega),av (by omega) (by omega),this]
   rw[x];refine S.store _ _ t λH S=>λI y=>⟨16 - (m+1),by omega,m+1,rfl,by omega,?_,S.ext y⟩;rw[av (by omega) (by omega)];omega
  ·have c: ¬ m<16:=by simp at c;omega
   have:m=16:=by omega
   subst this;exact S
 ·have f:iV s o (λ_=>0)=(s.1,dJ s.2 3 o):=by unfold iV;rw[ao a]
  have z:eV s o=0:=G_ a;rw[f,z] at k;have g: ¬ dX s.2 3 o=0:=a;exact ay (by simp[g]) (S.en λj S=>k j S)
theorem abM (S:bj Q D G w0 w s L0) (i:Nat) (b:L0[i]? =some (bt,oS Q o r gone)) {K:Int×Int×Unit->A1->Prop} (k: ∀d,bj Q D G w0 d (iV s o (λ_=>0)) L0->K (eV s o,rD s o,()) d):
 aA A2 205 (.bu [.one (.int .i64),.one (.int .i64)]) [ag (af bt),.func (.func 240) #[] #[]] w K:=by
 refine S.go λw1 S=>ai (C:=N0) (aT:=rk) (AL (Mn _ w1 K) ?_);have A:=vt s.2 3 o S.Gz;have B:=S.le;refine⟨rfl,rfl,S.cJ i b rfl ⟨rfl,rfl,S.cJ i b rfl (S.take 3 o λd S=>?_)⟩⟩;by_cases a:rD s o=0
 ·have f:iV s o (λ_=>0)=(fe s.1 (eV s o) (λ_=>0) 16,dJ s.2 3 o):=by unfold iV;rw[aw a]
  rw[f,a] at k;have g:dX s.2 3 o=0:=a;refine an (by simp[g]) ⟨λn v w'=> ∃m:Nat,n=16 - m/\m<=16/\v.1=(m:Int)/\bj Q D G w0 w' (fe s.1 (eV s o) (λ_=>0) m,dJ s.2 3 o) L0,⟨16,λj h=>⟨0,rfl,by omega,rfl,S.ext h⟩⟩,?_⟩;rintro n ⟨v,u⟩ j ⟨m,rfl,E,e,S⟩;dsimp only at e ⊢;subst e;refine ab (λc=>⟨rfl,rfl,S.cJ i b rfl ?_⟩) (λc=>S.en λl S=>k l ?_)
  ·have c:m<16:=by simp at c;omega
   refine λl p=>ai (C:=N0) (aT:=λ_=>[]) (AL (R_ _ l _) λF q=>?_);have S:=(S.ext p).ext q;have t:(0:Int)<=0/\(0:Int)<18446744073709551616:=by decide
   refine⟨trivial,trivial,by rw[aY];exact(S.get b).oD rfl,trivial,trivial,?_⟩;have x:aH .i64 (gq .i64 16 (fl s.2 3 o)) (m:Int)=16*eV s o+(m:Int):=by
    have:eV s o=fl s.2 3 o:=rfl;rw[eO (by omega) (by omega),av (by omega) (by omega),this]
   rw[x];refine S.store _ _ t λH S=>λI y=>⟨16 - (m+1),by omega,m+1,rfl,by omega,?_,S.ext y⟩;rw[av (by omega) (by omega)];omega
  ·have c: ¬ m<16:=by simp at c;omega
   have:m=16:=by omega
   subst this;exact S
 ·have f:iV s o (λ_=>0)=(s.1,dJ s.2 3 o):=by unfold iV;rw[ao a]
  have z:eV s o=0:=G_ a;rw[f,z] at k;have g: ¬ dX s.2 3 o=0:=a;exact ay (by simp[g]) (S.en λj S=>k j S)
theorem abN (S:bj Q D G w0 w s L0) (i:Nat) (b:L0[i]? =some (bt,oS Q o r gone)) (j:Nat) {be:Nat} {e:ET} (hb:L0[j]? =some (be,[.bool e.1,aa e.2.1,.bool e.2.2.1,aa e.2.2.2.1])) (B:0<=e.2.2.2.1/\e.2.2.2.1<4096) {K:Int×Int×Unit->A1->Prop} (k: ∀d,bj Q D G w0 d (iV s o (oH e)) L0->K (eV s o,rD s o,()) d):
 aA A2 205 (.bu [.one (.int .i64),.one (.int .i64)]) [ag (af bt),.func (.func 242) #[] #[ag (af be)]] w K:=by
 refine S.go λw1 S=>ai (C:=N0) (aT:=rl) (AL (Mp _ _ w1 K) ?_);have E:=vt s.2 3 o S.Gz;have F:=S.le;refine⟨rfl,rfl,S.cJ i b rfl ⟨rfl,rfl,S.cJ i b rfl (S.take 3 o λd S=>?_)⟩⟩;by_cases a:rD s o=0
 ·have f:iV s o (oH e)=(fe s.1 (eV s o) (oH e) 16,dJ s.2 3 o):=by unfold iV;rw[aw a]
  rw[f,a] at k;have g:dX s.2 3 o=0:=a;refine an (by simp[g]) ⟨λn v w'=> ∃m:Nat,n=16 - m/\m<=16/\v.1=(m:Int)/\bj Q D G w0 w' (fe s.1 (eV s o) (oH e) m,dJ s.2 3 o) L0,⟨16,λl h=>⟨0,rfl,by omega,rfl,S.ext h⟩⟩,?_⟩;rintro n ⟨v,u⟩ l ⟨m,rfl,H,ev,S⟩;dsimp only at ev ⊢;subst ev;refine ab (λc=>⟨rfl,rfl,S.cJ i b rfl ?_⟩) (λc=>S.en λp S=>k p ?_)
  ·have c:m<16:=by simp at c;omega
   refine λp q=>ai (C:=N0) (aT:=λ_=>[]) (AL (HZ _ _ p _) ?_);have S:=S.ext q;refine⟨rfl,S.cJ j hb rfl ⟨rfl,S.cJ j hb rfl ⟨trivial,S.en λI S=>?_⟩⟩⟩;have t:F_ true e.2.1 false (aH .i64 e.2.2.2.1 (m:Int))=oH e (m:Int):=by
    rw[av (by omega) (by omega)];rfl
   rw[t];have x:0<=oH e (m:Int)/\oH e (m:Int)<18446744073709551616:=PO _ _ _ _;refine⟨trivial,trivial,by rw[aY];exact(S.get b).oD rfl,trivial,trivial,?_⟩;have y:aH .i64 (gq .i64 16 (fl s.2 3 o)) (m:Int)=16*eV s o+(m:Int):=by
    have:eV s o=fl s.2 3 o:=rfl;rw[eO (by omega) (by omega),av (by omega) (by omega),this]
   rw[y];refine S.store _ _ x λJ S=>λL z=>⟨16 - (m+1),by omega,m+1,rfl,by omega,?_,S.ext z⟩;rw[av (by omega) (by omega)];omega
  ·have c: ¬ m<16:=by simp at c;omega
   have:m=16:=by omega
   subst this;exact S
 ·have f:iV s o (oH e)=(s.1,dJ s.2 3 o):=by unfold iV;rw[ao a]
  have A:eV s o=0:=G_ a;rw[f,A] at k;have g: ¬ dX s.2 3 o=0:=a;exact ay (by simp[g]) (S.en λl S=>k l S)
end bj
end
set_option maxRecDepth 100000
open Go.RX D
section
variable {D G:List Nat} {w0 w:A1} {L:List (Nat×List AC)}
def Yx (e:El) (b:Nat) (xs:List e.T) (a:List (Nat×List AC)):Prop:=
 (xs=[]/\a=[(b,[.slice none 0 0])])\/ ∃bs c rest,a=[(b,[.slice (af bs) xs.length c]),(bs,flat e xs++rest)]/\(flat e xs++rest).length=c*aF e/\xs.length<=c
theorem Yx.head {e:El} {b:Nat} {xs:List e.T} {a:List (Nat×List AC)} (h:Yx e b xs a): ∃s:Option AB×Nat×Nat,a[0]? =some (b,[.slice s.1 s.2.1 s.2.2]):=by
 rcases h with ⟨_,rfl⟩|⟨bs,c,rest,rfl, _⟩
 ·exact⟨(none,0,0),rfl⟩
 ·exact⟨(_, _, _),rfl⟩
theorem Yx.push {e:El} {b d:Nat} {xs:List e.T} {x:e.T} {f Z:List (Nat×List AC)} {s:Option AB×Nat×Nat} (hg:Yx e b xs f) (hs:f[0]? =some (b,[.slice s.1 s.2.1 s.2.2])) (H:aK D G w0 w ((d,cellsOf e x)::(f++Z)))
 (i:im e=true) {t:TypeId} {size bytes:Nat} {z:Array AC} (j:size=aF e) (l:z.size=aF e) (hb:(xs.length+1)*bytes<=140737488355328) {K:A1->Prop}
 (k: ∀m w',Yx e b (xs++[x]) m->aK D G w0 w' (m++Z)->K w'):
 mH w t size bytes z (s.1,s.2.1,s.2.2) (some ⟨d,0,none⟩,1,1) λr a=>aC a (af b) [.slice r.1 r.2.1 r.2.2] K:=by
 obtain⟨p,n,c⟩:=s;rcases hg with ⟨rfl,rfl⟩|⟨bs,v,rest,rfl,h1,q⟩
 ·cases hs;refine aK.grow (Ls:=[]) (L0:=(b,[.slice none 0 0])::Z) (xs:=[]) H (.inl ⟨rfl,rfl,rfl⟩) i j l hb λbs c rest w' g1 g H=>?_;refine aC.all 1 H rfl rfl rfl λa H=>k [(b,[.slice (af bs) 1 c]),(bs,flat e [x]++rest)] a (.inr ⟨bs,c,rest,rfl,g1,g⟩) ?_;exact H.perm (G1 _ _ _)
 ·cases hs;have u:aK D G w0 w ((d,cellsOf e x)::([(bs,flat e xs++rest)]++((b,[.slice (af bs) xs.length c])::Z))):=H.perm (GD _ (G1 _ _ _));refine aK.grow u (.inr ⟨bs,c,rest,rfl,rfl,h1,q⟩) i j l hb λh c2 o w' g1 g H=>?_;refine aC.all 1 H rfl rfl rfl λa H=>k [(b,[.slice (af h) (xs.length+1) c2]),(h,flat e (xs++[x])++o)] a (.inr ⟨h,c2,o,?_,g1,by simpa using g⟩) ?_
  ·rw[E4];rfl
  ·exact H.perm (G1 _ _ _)
theorem yk.new {l:Nat} {rec:Loop} {w':A1} {b:Nat} {cs:List AC} (h:yk D G w0 w L l rec) (H:At [] w w' [(b,cs)]):yk D G w0 w' ((b,cs)::L) l rec/\Ob l w w':=by
 have a:Ext w w':=H.all;have hb:w.heap.size<=b:=by
  rcases H.own (b,cs) E5 with h|h
  ·exact h
  ·cases h
 exact⟨⟨h.1,h.2.1.more a hb (H.dp (b,cs) E5),h.2.2.ext a⟩,Ob.vf a⟩
theorem Mx {bm bw n c:Nat} {ca la:Int} {ws:List Int} {rest:List AC} (H:aK D G w0 w L) (j:Nat) (b:L[j]? =some (bm,l7 bw n c ca la)) (f:bN w0 bw (flat eW ws++rest)) (g:bw∉G) (h:n=ws.length) (h0:0<n) (i:Int) {K:Int×Int×Unit->A1->Prop}
 (k: ∀a,aK D G w0 a (L.set j (bm,l7 bw n c (xh ws i ca) la))->K (dQ ws i,Ct ws i,()) a):
 aA A2 37 (.bu [.one (.int .u64),.one (.int .i64)]) [ag (af bm),aa i] w K:=by
 refine aA.go H λw1 H=>ai (C:=M0) (aT:=λ_=>[]) (AL (EG _ i w1 K) ?_);refine zn H j b h h0 i (λhi a H=>?_) (λhi a H=>?_)
 ·unfold xh dQ Ct at k;rw[hi,aw rfl,aw rfl,aw rfl] at k;have l:=jh.1 hi;refine an rfl ⟨rfl,?_⟩;rw[aY];have e:=aaW (ws:=ws) (rest:=rest) (i:=i.toNat) (by omega);rw[DI] at e;exact aj.fW H f g e (au.go H λd H=>k d H)
 ·unfold xh dQ Ct at k;rw[hi,ao (by decide),ao (by decide),ao (by decide)] at k;refine ay rfl (au.go H λd H=>k d ?_);rw[show L.set j (bm,l7 bw n c ca la)=L from GH λm=>by
   by_cases e:j=m
   ·subst e;rw[DK (B2.1 b).1,b]
   ·rw[Bx e]]
  exact H
structure TbR (Q:Sys) (ws:List Int) (w:A1) (bt:Nat) (o r:Int) (gone:Bool):Prop where
 tb:bN w bt (oS Q o r gone)
 wd:bN w Q.bw (flat eW ws++Q.rw)
 tne:bt≠Q.bm
 wne:Q.bw≠Q.bm
 okw:okW ws
 pos:0<ws.length
abbrev Mc (Q:Sys) (n:Nat) (l:List AC):Prop:= ∃ca la,l=l7 Q.bw n Q.c ca la
theorem PQ {Q:Sys} {ws:List Int} {bt:Nat} {o r:Int} {gone:Bool} {D:List Nat} {L:List (Nat×List AC)} {ca la:Int} (R:TbR Q ws w0 bt o r gone) (H:aK D [Q.bm] w0 w L) (j:Nat) (d:L[j]? =some (Q.bm,l7 Q.bw ws.length Q.c ca la)) (i:Int) {K:ET->A1->Prop}
 (k: ∀ca a,aK D [Q.bm] w0 a (L.set j (Q.bm,l7 Q.bw ws.length Q.c ca la))->K (aL ws i) a):
 aA A2 235 (.el (.agg sEn)) [ag (af bt),aa i] w K:=by
 have t1:bt∉[Q.bm]:=by simpa using R.tne
 have t2:Q.bw∉[Q.bm]:=by simpa using R.wne
 refine aA.go H λw1 H=>aQ (C:=N0) (aT:=λ_=>[]) (AL (PN _ i w1 K) ?_);refine aM.go H λb a H=>⟨rfl,rfl,aj.jC H R.tb t1 rfl (Mx H (j+1) d R.wd t2 rfl R.pos i λf H=>⟨?_,aM.go H λg l H=>aC.all 0 H rfl rfl rfl λm H=>aj.at 0 H rfl rfl (aC.all 1 H rfl rfl rfl λn H=>au.go H λe H=>aj.at 1 H rfl rfl (k (xh ws i ca) e (H.sub ?_)))⟩)⟩
 ·have h:=G6 R.okw i;exact CC h.1 h.2
 ·exact(DA _ _).trans (DA _ _)
end
abbrev emP (x:PT×Unit):List AC:=[.agg ⟨[aa x.1.1,aa x.1.2.1,aa x.1.2.2.1]⟩]
abbrev Yy (x:PT):PT×Unit:=(x,())
def ON (ws:List Int) (pg:Int):Nat->Int->List PT
 |0, _=>[]
 |l+1,f=>if dO (aL ws (eB f pg ((l+1:Nat):Int)))=true then dt ws pg l (aL ws (eB f pg ((l+1:Nat):Int))).2.2.2.1 else[]
theorem My (ws:List Int) (pg:Int): ∀(l:Nat) (f:Int),dt ws pg l f=(f,(l:Int),eB f pg (l:Int),())::ON ws pg l f
 |0, _=>rfl
 | _+1, _=>rfl
theorem Sg {ws:List Int} {pg:Int} {l:Nat} {f:Int} (h:dO (aL ws (eB f pg (l:Int)))=false):ON ws pg l f=[]:=by
 cases l with
 |zero=>rfl
 |succ l=>rw[ON,h,ao (by decide)]
theorem aaj {Q:Sys} {ws:List Int} {bt b c:Nat} {o r pg:Int} {gone:Bool} {N:Nat} (D:okW ws) (E:0<ws.length):
 ItJ A2 244 (λy=>[.func (.yield y) #[] #[],ag (af b),ag (af c)]) emP N Q.bm (Mc Q ws.length)
  [(bt,oS Q o r gone),(Q.bw,flat eW ws++Q.rw),(b,[ag (af bt)]),(c,[aa pg])] ((dt ws pg 3 r).map Yy):=by
 intro y J K F a X O w s g j;refine Calls.mono (ai (C:=N0) (aT:=uB) (Post:=λ_ w'=>J (a++(dt ws pg 3 r).map Yy) X O w') (AL (R7 y _ _ w _) ?_)) ?_
 rotate_left
 ·rintro e w' ⟨x,rfl,h⟩;exact⟨_,rfl,h⟩
 have x1:=g (bt,oS Q o r gone) (by simp);have t:=g (Q.bw,flat eW ws++Q.rw) (by simp);have z:=g (b,[ag (af bt)]) (by simp);have G:=g (c,[aa pg]) (by simp);refine aj.of (af bt) ((K.dp j z).2.oD rfl) ⟨rfl,rfl,aj.of r (by rw[aY];exact(K.dp j x1).2.oD rfl) ⟨λn v w'=>(∃l:Nat,v.2.1=(l:Int)/\n=l+1/\l<=3/\ ∃pre,dt ws pg 3 r=pre++dt ws pg l v.1/\J (a++pre.map Yy) X O w')\/(v.2.1= -1/\J (a++(dt ws pg 3 r).map Yy) X O w'),
  ⟨4,λw1 h1=> .inl ⟨3,rfl,rfl,B5 _,[],rfl,by simpa using K.ext j h1⟩⟩,?_⟩⟩
 rintro n ⟨f,lv,u⟩ w1 (⟨l,d,rfl,Z,pre,hx,j⟩|⟨d,j⟩)
 ·dsimp only at d hx ⊢;subst d;refine ay (by simp) (aj.of pg ((K.dp j G).2.oD rfl) ⟨trivial,?_⟩);obtain⟨lm,⟨ca,la,rfl⟩,H⟩:=K.at0 j;have R:TbR Q ws w1 bt o r gone:=⟨(K.dp j x1).2,(K.dp j t).2,(K.dp j x1).1,(K.dp j t).1,D,E⟩;have hb:=K.dp j z;have I:b∉[Q.bm]:=by simpa using hb.1
  refine aM.go H λL M H=>aC.all 0 H rfl rfl rfl λw3 H=>aj.fW H hb.2 I rfl ⟨rfl,aj.cA 0 H rfl rfl (PQ R H 1 rfl _ λca2 w4 H=>aM.go H λA w5 H=>aC.all 0 H rfl rfl rfl λw6 H=>aj.at 1 H rfl rfl λP S=>?_)⟩;have H:=H.ext S;rw[My ws pg l f] at hx;have T:(a++pre.map Yy).length<N:=by
   rw[hx] at s;simp only[List.map_append,E4,DO,B4] at s ⊢;omega
  have U:=K.tB (Y:=[(A, _),(L, _)]) j H ⟨_, _,rfl⟩;refine F _ (Yy (f,(l:Int),eB f pg (l:Int),())) _ _ P _ T U λw8 k=>?_;have B:=(K.dp k (x:=(A, _)) (E5)).2;refine aj.of (aL ws (eB f pg (l:Int))) (dZ B rfl) ⟨λ_=>trivial,ab (λm V p=>?_) (λm=>⟨rfl,aj.of (aL ws (eB f pg (l:Int))).2.2.2.1 (by rw[aY];exact B.oD rfl) λV p=>?_⟩)⟩
  ·have q:dO (aL ws (eB f pg (l:Int)))=false:=by simpa[dO] using m
   have i:=K.sub (K.ext k p) (X':=X) (λx h=>by simp[h]) (D8 _);rw[Sg q] at hx;rw[hx];simpa using i
  ·have q:dO (aL ws (eB f pg (l:Int)))=true:=by simpa[dO] using m
   have i:=K.sub (K.ext k p) (X':=X) (λx h=>by simp[h]) (D8 _);rcases l with _|l
   ·refine⟨0,by omega,.inr ⟨rfl,?_⟩⟩;rw[hx];simpa[ON] using i
   ·refine⟨l+1,by omega,.inl ⟨l,?_,rfl,by omega,pre++[(f,((l+1:Nat):Int),eB f pg ((l+1:Nat):Int),())],?_,by simpa using i⟩⟩
    ·show aX .i64 ((l+1:Nat):Int) 1=(l:Int);rw[bC (by omega) (by omega)];omega
    ·rw[hx,ON,aw q,GI];rfl
 ·dsimp only at d ⊢;subst d;exact an rfl λM W=>K.ext j W
section
variable {Q:Sys} {D G:List Nat} {w0 w:A1} {s:WD} {L0:List (Nat×List AC)} {bt:Nat} {o r:Int} {gone:Bool}
namespace bj
theorem way (S:bj Q D G w0 w s L0) (pg:Int) {K:Option AB×Option AB×Unit->A1->Prop} (k: ∀b c a,bj Q D G w0 a s ((c,[aa pg])::(b,[ag (af bt)])::L0)->K (some ⟨b,0,none⟩,some ⟨c,0,none⟩,()) a):
 aA A2 219 aa0 [ag (af bt),aa pg] w K:=by
 refine S.go λw1 S=>ai (C:=N0) (aT:=λ_=>[]) (AL (VT _ pg w1 K) ?_);exact S.al λb a S=>S.al λc e S=>S.en λd S=>k b c d S
theorem OH (S:bj Q D G w0 w s L0) (k0:Nat) (m:L0[k0]? =some (bt,oS Q o r gone)) {b c:Nat} {pg:Int} (hb:(b,[HB (af bt)])∈L0) (hc:(c,[aa pg])∈L0)
 {K:Option AB×Nat×Nat->A1->Prop} (k: ∀bs cs rest e,bj Q D G w0 e s ((bs,flat (.agg Uf) (dt s.1 pg 3 r)++rest)::L0)->K (some ⟨bs,0,none⟩,(dt s.1 pg 3 r).length,cs) e):
 aA A2 218 (.el (.one .slice)) [.func (.func 244) #[] #[ag (af b),ag (af c)]] w K:=by
 refine S.go λw1 S=>aQ (C:=N0) (aT:=uC) (AL (R8 _ _ w1 K) ?_);obtain⟨h1,n,p,i,ca,la,H0⟩:=S;have H:=H0.again;refine aM.go H λbl e H=>?_;have q:(dt s.1 pg 3 r).length<=4:=tQ s.1 pg 3 r;refine An.OH (N:=4) (bm:=Q.bm) (mc:=Mc Q s.1.length) (Rg0:=[(bl,[.slice none 0 0])]) (Lb:=(Q.bw,flat eW s.1++Q.rw)::(Q.bf,flat eD s.2++Q.rf)::(Q.bp,[.slice (af Q.bf) s.2.length Q.cp])::L0) H ⟨_, _,rfl⟩
  (aaj (o:=o) (r:=r) (gone:=gone) (bt:=bt) (pg:=pg) i h1) ?_ (by simpa using q) (λxs a=>Yx (.agg Uf) bl (xs.map (·.1)) a) (.inl ⟨rfl,rfl⟩) ?_ ?_
 ·intro x hx;simp only[Et,List.not_mem_nil,or_false] at hx;rcases hx with rfl|rfl|rfl|rfl
  ·simp[CL m]
  ·simp
  ·simp[hb]
  ·simp[hc]
 ·intro b0 x a Z rr l rec t R hN hg d u;refine DL.go d rfl ?_;refine aM.go (At.start [] t) λv y f=>aC.all 0 f rfl rfl rfl λz f=>?_;obtain⟨A,B⟩:=yk.new d f;obtain⟨sl,g⟩:=hg.head;refine Cs.goO A λwb H E F=>aj.at 1 H (by rw[List.getElem?_cons_succ,Ef (B2.1 g).1];exact g) rfl (aj.at 0 H rfl rfl (aM.go H λI j H=>λJ L=>?_));have H:=H.ext L;have M:aK [] _ wb J ((I,cellsOf (.agg Uf) x.1)::(a++((v,[aa x.1.1,aa x.1.2.1,aa x.1.2.2.1])::Z))):=H.perm (GD _ DJ);refine hg.push g M rfl rfl rfl (by simp only[DO];omega) λO w8 P T=>sO.lq E (T.sub (List.Sublist.append (D8 _) (DA _ _))) λU V W=>u O U (by simpa using P) V ((B.trans F).trans W)
 ·rintro rr rec y l' a ⟨X,Y,rfl⟩ hg d;refine dF.none d λz H=>?_;have TT:((dt s.1 pg 3 r).map Yy).map (·.1)=dt s.1 pg 3 r:=by
   rw[List.map_map];exact List.map_id _
  rw[TT] at hg;rcases hg with ⟨h, _⟩|⟨bs,cs,rest,rfl,g1,g2⟩
  ·exact absurd h (xW _ _ _ _)
  ·refine aj.at 0 H rfl rfl (sP.go H λj H=>k bs cs rest j ⟨h1,n,p,i,X,Y,H0.join (λx hx=>hx) ?_⟩);refine(H.sub (DA _ _)).perm ?_;exact DJ (l₁:=[_, _, _, _])
end bj
end
set_option maxRecDepth 100000
open Go.RX D
theorem De (ws:List Int) (r pg:Int):(dt ws pg 3 r)[(dt ws pg 3 r).length - 1]? =some (dH ws r pg):=by
 have a:=xW ws pg 3 r;unfold dH;rw[List.getLastD_eq_getLast?, <-List.getLast?_eq_getElem?,List.getLast?_eq_some_getLast a];rfl
theorem pJ (ws:List Int) (a:Int):0<=(aL ws a).2.2.2.1/\(aL ws a).2.2.2.1<4096:=JG _
section
variable {Q:Sys} {D G:List Nat} {w0 w:A1} {s:WD} {L0:List (Nat×List AC)} {bt:Nat} {o r:Int} {gone:Bool}
namespace bj
theorem end_ (S:bj Q D G w0 w s L0) (k0:Nat) (c:L0[k0]? =some (bt,oS Q o r gone)) (pg:Int) {K:PT×ET×Unit->A1->Prop} (k: ∀a,bj Q D G w0 a s L0->K (dH s.1 r pg,cW s.1 r pg,()) a):
 aA A2 193 (.bu [.agg Uf,.agg sEn]) [ag (af bt),aa pg] w K:=by
 refine S.go λw1 S=>aQ (C:=N0) (aT:=λ_=>[]) (AL (VU _ pg w1 K) ?_);refine S.al λb a S=>S.al λg h S=>S.way pg λj bc l S=>S.OH (pg:=pg) (k0+4) c (by simp) (by simp) λbs cs rest m S=>?_;have n:(dt s.1 pg 3 r).length<=4:=tQ s.1 pg 3 r;have p:0<(dt s.1 pg 3 r).length:=GJ.2 (xW s.1 pg 3 r);have d:aX .i64 (((dt s.1 pg 3 r).length:Nat):Int) 1=(((dt s.1 pg 3 r).length - 1:Nat):Int):=by rw[bC (by omega) (by omega)];omega
 have e:=f_ (S.get (i:=0) rfl) (De s.1 r pg);dsimp only;rw[d];refine⟨⟨rfl,by omega,by omega⟩,aj.of (dH s.1 r pg) e ?_⟩;refine S.al λq t S=>S.fm 0 rfl rfl rfl λu S=>S.ld 0 rfl rfl ⟨rfl,S.cJ 0 rfl rfl (S.at_ (k0+6) c _ λv S=>⟨dZ (S.get (i:=0) rfl) rfl,S.fm 5 rfl rfl rfl λx S=>S.fm 4 rfl rfl rfl λy S=>S.en λf S=>S.ld 5 rfl rfl (S.ld 4 rfl rfl (k f S.tail.tail.tail.tail.tail.tail))⟩)⟩
theorem query (S:bj Q D G w0 w s L0) (k0:Nat) (e:L0[k0]? =some (bt,oS Q o r gone)) (pg:Int) {K:Int×Int×Int×Unit->A1->Prop} (k: ∀a,bj Q D G w0 a s L0->K (bD s r gone pg) a):
 aA A2 139 (.bu [.one (.int .i64),.one (.int .i64),.one (.int .i64)]) [ag (af bt),aa pg] w K:=by
 refine S.go λw1 S=>ai (C:=N0) (aT:=λ_=>[]) (AL (Mq _ pg w1 K) ?_);refine⟨_,S.state k0 e,?_⟩;unfold bD at k;cases gone with
 |true=>
  rw[aw rfl] at k;exact ay rfl (S.en λa S=>k a S)
 |false=>
  rw[ao (by decide)] at k;refine an rfl (ab (λc=>S.en λa S=>?_) (λc=>?_))
  ·simp only[Ep,decide_eq_true_eq] at c;rw[aw c] at k;exact k a S
  ·simp only[FZ,decide_eq_false_iff_not] at c;rw[ao (by omega)] at k;refine S.end_ k0 e pg λa S=>S.al λb f S=>S.al λg h S=>S.fm 1 rfl rfl rfl λi S=>S.fm 0 rfl rfl rfl λj S=>⟨rfl,S.cJ 0 rfl rfl (ab (λc2=>S.en λd S=>?_) (λc2=>S.ld 1 rfl rfl (S.ld 0 rfl rfl ⟨_,JJ (by omega) (dH s.1 r pg) (cW s.1 r pg) (pJ _ _) _,rfl,S.cJ 0 rfl rfl (S.en λd S=>?_)⟩)))⟩
   ·have c2:(cW s.1 r pg).1=false:=by simpa using c2
    rw[c2,ao (by decide)] at k;exact k d S.tail.tail
   ·have c2:(cW s.1 r pg).1=true:=by simpa using c2
    rw[c2,aw rfl] at k;exact k d S.tail.tail
theorem split (S:bj Q D G w0 w s L0) (k0:Nat) (a:L0[k0]? =some (bt,oS Q o r gone)) (pg:Int) {K:Int->A1->Prop} (k: ∀d,bj Q D G w0 d (fv s o r pg) L0->K (mv s o r pg) d):
 aA A2 217 (.el (.one (.int .i64))) [ag (af bt),aa pg] w K:=by
 refine S.go λw1 S=>ai (C:=N0) (aT:=λ_=>[]) (AL (Ms _ pg w1 K) ?_);unfold fv mv at k;refine S.end_ k0 a pg λd S=>S.al λb j S=>S.al λh l S=>S.fm 1 rfl rfl rfl λm S=>S.fm 0 rfl rfl rfl λn S=>⟨rfl,S.cJ 1 rfl rfl (ab (λc=>S.en λf S=>?_) (λc=>?_))⟩
 ·have c:(dH s.1 r pg).2.1=0:=by simpa using c
  rw[aw c,aw c] at k;exact k f S.tail.tail
 ·have c: ¬ (dH s.1 r pg).2.1=0:=by simpa using c
  rw[ao c,ao c] at k;refine S.abN (k0+2) a 0 (be:=h) (e:=cW s.1 r pg) rfl (pJ _ _) λf S=>ab (λc2=>⟨rfl,S.cJ 1 rfl rfl ⟨cx (eV s o),JI _ _,S.lay (k0+2) a _ (cx (eV s o)) λg S=>S.en λi S=>?_⟩⟩) (λc2=>S.en λg S=>?_)
  ·have c2:rD s o=0:=by simpa using c2
   rw[aw c2] at k;exact k i S.tail.tail
  ·have c2: ¬ rD s o=0:=by simpa using c2
   rw[ao c2] at k;exact k g S.tail.tail
end bj
end
set_option maxRecDepth 100000
open Go.RX D
theorem JL (ws:List Int) (pg:Int): ∀(l:Nat) (f:Int) (x:PT),x∈dt ws pg l f->0<=x.2.1/\x.2.1<=(l:Int)
 |0,f,x,h=>by
  rw[dt,F2] at h;subst h;exact⟨DV _,DV _⟩
 |l+1,f,x,h=>by
  rw[dt] at h;rcases Et.1 h with rfl|h
  ·exact⟨by show(0:Int)<=((l+1:Nat):Int);omega,DV _⟩
  ·split at h
   ·have:=JL ws pg l _ x h;omega
   ·cases h
theorem V7 (ws:List Int) (r pg:Int):0<=(dH ws r pg).2.1/\(dH ws r pg).2.1<=3:=by
 have:=JL ws pg 3 r _ (CL (De ws r pg));omega
section
variable {Q:Sys} {D G:List Nat} {w0 w:A1} {s:WD} {L0:List (Nat×List AC)} {bt:Nat} {o r:Int} {gone:Bool}
namespace bj
theorem put (S:bj Q D G w0 w s L0) (k0:Nat) (a:L0[k0]? =some (bt,oS Q o r gone)) (pg lv:Int) (E:0<=lv/\lv<=3) (e:ET) {K:Int->A1->Prop} (k: ∀f,bj Q D G w0 f (rO s o r pg lv e) L0->K (kZ s r pg lv) f):
 aA A2 216 (.el (.one (.int .i64))) [ag (af bt),aa pg,aa lv,.agg ⟨[.bool e.1,aa e.2.1,.bool e.2.2.1,aa e.2.2.2.1]⟩] w K:=by
 refine S.go λw1 S=>ai (C:=N0) (aT:=wI) (AL (VV _ pg lv e.1 e.2.1 e.2.2.1 e.2.2.2.1 w1 K) ?_);have hx:=V7 s.1 r pg;unfold rO at k;refine S.al λb f S=>S.end_ (k0+1) a pg λf S=>S.al λj F S=>S.al λl H S=>S.fm 1 rfl rfl rfl λI S=>S.fm 0 rfl rfl rfl λJ S=>⟨rfl,S.cJ 0 rfl rfl ⟨λ_=>rfl,S.cJ 1 rfl rfl ?_⟩⟩;by_cases c1:((cW s.1 r pg).1||decide ((dH s.1 r pg).2.1<lv))=true
 ·have c:kZ s r pg lv=5:=by unfold kZ;rw[aw c1]
  rw[c,ao (by decide)] at k;exact ay c1 (S.en λd S=>k d S.tail.tail.tail)
 have m:=c1;simp only[Ep,decide_eq_true_eq,not_or] at m;refine an (by simpa using c1) ⟨rfl,rfl,S.cJ (k0+3) a rfl ⟨_,S.cnt 0,rfl,S.cJ 1 rfl rfl ?_⟩⟩;have p:aX .i64 (dH s.1 r pg).2.1 lv=(dH s.1 r pg).2.1 - lv:=bC (by omega) (by omega);dsimp only;rw[p];by_cases c2:(cm s.2 0:Int)<(dH s.1 r pg).2.1 - lv
 ·have c:kZ s r pg lv=12:=by unfold kZ;rw[ao c1,aw c2]
  rw[c,ao (by decide)] at k;exact ay (by simpa using c2) (S.en λd S=>k d S.tail.tail.tail)
 have c:kZ s r pg lv=0:=by unfold kZ;rw[ao c1,ao c2]
 rw[c,aw rfl] at k;obtain⟨n0,q⟩: ∃n0,n0=((dH s.1 r pg).2.1 - lv).toNat:=⟨_,rfl⟩;rw[<-q] at k;obtain⟨z,g⟩: ∃z,z=qV o pg n0 (s,dH s.1 r pg):=⟨_,rfl⟩;rw[<-g] at k;refine an (by simpa using c2) ⟨λn _ w'=> ∃t:WD, ∃x:PT,qV o pg n (t,x)=z/\x.2.1=lv+(n:Int)/\n<=3/\bj Q D G w0 w' t ((l,[.bool (cW s.1 r pg).1,aa (cW s.1 r pg).2.1,.bool (cW s.1 r pg).2.2.1,aa (cW s.1 r pg).2.2.2.1])::(j,[aa x.1,aa x.2.1,aa x.2.2.1])::(b,[.bool e.1,aa e.2.1,.bool e.2.2.1,aa e.2.2.2.1])::L0),
  ⟨n0,λd v=>⟨s,dH s.1 r pg,g.symm,by omega,by omega,S.ext v⟩⟩,?_⟩
 rintro n u d ⟨t,x,h,L,M,S⟩;refine⟨rfl,S.cJ 1 rfl rfl ?_⟩;rcases n with _|n
 ·refine an (by simp;omega) ⟨rfl,S.cJ 1 rfl rfl (S.ld 2 rfl rfl (S.lay (k0+3) a _ e λy S=>S.en λi S=>k i ?_))⟩;have:z=(t,x):=h.symm;rw[this];exact S.tail.tail.tail
 ·refine ay (by simp;omega) (S.abM (k0+3) a λy S=>⟨rfl,S.cJ 1 rfl rfl ⟨cx (eV t o),JI _ _,S.lay (k0+3) a _ (cx (eV t o)) λi S=>⟨rfl,S.cJ 1 rfl rfl ⟨rfl,S.cJ 1 rfl rfl ⟨trivial,S.fm 1 rfl rfl rfl λN S=>λO A=>⟨n,by omega,dW (iV t o λ_=>0) x.2.2.1 (cx (eV t o)),(eV t o,x.2.1 - 1,eB (eV t o) pg (x.2.1 - 1),()),h,by show x.2.1 - 1= _;omega,by omega,?_⟩⟩⟩⟩⟩⟩);have B:aX .i64 x.2.1 1=x.2.1 - 1:=bC (by omega) (by omega);have S:=S.ext A;rw[B] at S;exact S
theorem map (S:bj Q D G w0 w s L0) (k0:Nat) (b:L0[k0]? =some (bt,oS Q o r gone)) (pg f rt:Int) {K:Int->A1->Prop} (k: ∀a,bj Q D G w0 a (jD s o r gone pg f rt) L0->K (kh s r gone pg f rt) a):
 aA A2 173 (.el (.one (.int .i64))) [ag (af bt),aa pg,aa f,aa rt] w K:=by
 refine S.go λw1 S=>ai (C:=N0) (aT:=λ_=>[]) (AL (VW _ pg f rt w1 K) ?_);unfold jD kh at k;refine⟨_,S.state k0 b,?_⟩;cases gone with
 |true=>
  rw[aw rfl,aw rfl] at k;exact ay rfl (S.en λa S=>k a S)
 |false=>
  have d: ¬ (false=true):=by decide
  rw[ao d,ao d] at k;refine an rfl ⟨_,JH _ _ _ _,ab (λc=>S.en λa S=>?_) (λc=>S.put k0 b pg 0 ⟨by decide,by decide⟩ (true,rt,false,f,()) λa S=>S.en λe S=>?_)⟩
  ·have c: ¬ k_ pg f rt=0:=by simpa using c
   rw[ao c,ao c] at k;exact k a S
  ·have c:k_ pg f rt=0:=by simpa using c
   rw[aw c,aw c] at k;exact k e S
end bj
end
set_option maxRecDepth 100000
open Go.RX D
theorem V8 {p:Prop} {α:Type} (d:Decidable p) (c: ¬ p) (a b:α):(Co (λ_=>a) (λ_=>b) d:α)=a:=by
 cases d with
 |isFalse h=>rfl
 |isTrue h=>exact absurd h c
theorem JM {ws:List Int} {i n:Int} (h: ¬ (n<1\/i<0\/i>ws.length\/n>ws.length - i)):(jE ws i n).length=n.toNat:=by
 unfold jE;rw[ao h,F4,GO];omega
section
variable {D G:List Nat} {w0 w:A1} {L:List (Nat×List AC)}
theorem aak {bw n c:Nat} {ws:List Int} {rest:List AC} (q:bN w bw (flat eW ws++rest)) (K:n=ws.length) (hc:n<=c) (hb:n<=1048576) (i k:Int):
 aD A2 80 (.el (.one .slice)) [.agg ⟨[.slice (af bw) n c]⟩,aa i,aa k] w (λr w'=>lU w w' eW r (jE ws i k)/\Ext w w'):=by
 refine ai (C:=N0) (aT:=λ_=>[]) (AL (VZ _ n c i k w _) ?_);have H:=At.start [] w;refine aM.go H λb L H=>⟨λ_=>rfl,aj.cA 0 H rfl rfl ⟨λ_=>rfl,aj.cA 0 H rfl rfl ?_⟩⟩;by_cases f:k<1\/i<0\/i>ws.length\/k>ws.length - i
 ·have s:jE ws i k=[]:=aw f;rw[s];refine ay ?_ (au.go H λm H=>⟨lU.nil w m eW,H.all⟩);dsimp only;simp only[Ep,decide_eq_true_eq];by_cases h1:k<1
  ·exact .inl (.inl (.inl h1))
  ·by_cases t:i<0
   ·exact .inl (.inl (.inr t))
   ·by_cases u:i>(n:Int)
    ·exact .inl (.inr u)
    ·refine .inr ?_;rw[bC (by omega) (by omega)];omega
 ·have hg:1<=k/\0<=i/\i+k<=n:=by omega
  have v:aX .i64 (n:Int) i=(n:Int) - i:=bC (by omega) (by omega);refine an ?_ ?_
  ·dsimp only;rw[v];simp only[FZ,decide_eq_false_iff_not];omega
  refine Od.go H (z:=[az 0]) rfl (by omega) (DV _) (by omega) (by omega) λd m H=>⟨rfl,aj.cA 1 H rfl rfl ⟨by dsimp only;omega,λx y=>?_⟩⟩;have H:=H.ext y;have A:=q.ext H.all;dsimp only;rw[V8 _ (by show ¬ (((c:Nat):Int).toNat=i.toNat);omega)];have e:(jE ws i k).length=k.toNat:=JM f;have B:jE ws i k=(ws.drop i.toNat).take k.toNat:=ao f;have a:(flat eW (jE ws i k)).length=k.toNat:=by rw[aG,e];exact DI _
  have D:Nat.min (((n:Nat):Int).toNat - i.toNat) k.toNat=k.toNat:=Nat.min_eq_right (by omega);have g:(CJ k.toNat [az 0]).flatten.length=k.toNat:=by simp
  refine⟨flat eW (jE ws i k),?_,.inr (.inr ⟨?_,?_⟩),?_⟩
  ·show oQ x (ad (af bw) (i.toNat*1)) (Nat.min (((n:Nat):Int).toNat - i.toNat) k.toNat*1) _;rw[D,aY,DI,DI];refine A.oQ a λj E=>?_;have F:=I7 ws;have G:=I7 (jE ws i k);rw[FS,F,G,Ef (by rw[DO];omega),GS,GS,B,Ga E,Gc]
  ·rw[a];exact(H.get (i:=0) rfl).st (by rw[g];omega)
  ·have:=jR eW (jE ws i k) rfl;exact this
  ·have p:=H.put 0 (b:=d) (o:=0) rfl (flat eW (jE ws i k)) (by rw[a,g];omega);have I:List.drop k.toNat (CJ k.toNat [az 0]).flatten=[]:=F5 (Nat.le_of_eq g);rw[FS,a,I,DQ,List.take_zero,List.nil_append] at p;refine au.go p λM l=>⟨?_,l.all⟩;have J:w.heap.size<=d:=by
    rcases l.own (d,flat eW (jE ws i k)) E5 with h|h
    ·exact h
    ·cases h
   refine⟨e.symm,by rw[e];exact B5 _,.inr ⟨d, _,rfl,J,l.get (i:=0) rfl,by rw[a];exact(DI _).symm,?_⟩⟩;rw[e];exact Gd (by rw[a];exact Nat.le_of_eq (DI _).symm)
theorem Mz {e:El} {xs:List e.T} {rest:List AC} {i:Nat} {x:e.T} (hx:xs[i]? =some x) {j:Nat} (a:j<aF e):(flat e xs++rest)[i*aF e+j]? =(cellsOf e x)[j]? :=by
 have hi:i<xs.length:=(B2.1 hx).1;have b:i*aF e+j<(flat e xs).length:=by
  rw[aG];have:(i+1)*aF e<=xs.length*aF e:=Nat.mul_le_mul_right _ hi;rw[Nat.add_mul] at this;omega
 rw[Ef b];exact zh e xs i x hx j a
end
section
variable {Q:Sys} {D G:List Nat} {w0 w:A1} {s:WD} {L0:List (Nat×List AC)} {bt:Nat} {o r:Int} {gone:Bool}
abbrev Oq (Q:Sys) (s:WD):Prop:=s.1.length<=Q.c/\s.1.length<=1048576
namespace bj
theorem words (S:bj Q D G w0 w s L0) (hc:Oq Q s) (i n:Int) {K:Option AB×Nat×Nat->A1->Prop} (k: ∀x rows a,bj Q D G w0 a s (L0++rows)->oo eW rows x (jE s.1 i n)->K x a):
 aA A2 45 (.el (.one .slice)) [ag (af Q.bm),aa i,aa n] w K:=by
 refine S.go λw1 S=>ai (C:=N0) (aT:=λ_=>[]) (AL (Mw _ i n w1 K) ?_);obtain⟨h1,b,c,d,ca,la,H⟩:=S;refine an rfl ⟨rfl,rfl,aj.cA 0 H rfl rfl ?_⟩;refine aA.Zh H (λa H=>aak (H.get (i:=1) rfl) rfl hc.1 hc.2 i n) λx rows a H e=>au.go H λf H=>k x rows f ⟨h1,b,c,d,ca,la,H⟩ e
theorem tR (S:bj Q D G w0 w s L0) {j bs:Nat} {l:List PT} {rest:List AC} (hb:L0[j]? =some (bs,flat (.agg Uf) l++rest)) {i:Nat} {x:PT} (hx:l[i]? =some x) (q:Nat) {K:Int->Prop} {v:Int} (a:q<3) (hv:(cellsOf (.agg Uf) x)[q]? =some (aa v)) (k:K v):
 aj w none (ad (ad (af bs) (i*3)) q) (.one (.int .i64)) K:=by
 rw[aY,aY,FS];refine aj.of v ((S.get hb).oD ?_) k;have:=Mz (e:= .agg Uf) (rest:=rest) hx (j:=q) a;rw[show i*3+q=i*aF (.agg Uf)+q from rfl,this,hv];rfl
end bj
end
set_option maxRecDepth 100000
open Go.RX D
theorem abO (x:PT) (t:WD):jv [x] t=t:=rfl
theorem abP (x y:PT) (l:List PT) (t:WD):jv (x::y::l) t=if xz t.1 x.1=true then jv (y::l) (dT t.1 y.2.2.1 0,dN t.2 x.1 (aO 5 0)) else t:=rfl
theorem MC {l:List PT} {q:Nat} {x y:PT} (b:l[q]? =some y) (hx:l[q+1]? =some x):(l.take (q+2)).reverse=x::y::(l.take q).reverse/\(l.take (q+1)).reverse=y::(l.take q).reverse:=by
 have a:l.take (q+1)=l.take q++[y]:=by rw[F7,b];rfl
 have c:l.take (q+2)=l.take q++[y]++[x]:=by rw[F7,hx,a];rfl
 exact⟨by rw[c];simp,by rw[a];simp⟩
theorem JN {ws:List Int} (pg:Int): ∀(l:Nat) (f:Int),(0<=f/\f<4096)-> ∀x∈dt ws pg l f,0<=x.1/\x.1<4096
 |0,f,a,x,h=>by
  rw[dt,F2] at h;subst h;exact a
 |l+1,f,a,x,h=>by
  rw[dt] at h;rcases Et.1 h with rfl|h
  ·exact a
  ·split at h
   ·exact JN pg l _ (pJ _ _) x h
   ·cases h
section
variable {Q:Sys} {D G:List Nat} {w0 w:A1} {s:WD} {L0:List (Nat×List AC)} {bt:Nat} {o r:Int} {gone:Bool}
namespace bj
theorem thin (S:bj Q D G w0 w s L0) (hc:Oq Q s) (k0:Nat) (h:L0[k0]? =some (bt,oS Q o r gone)) {j bs c:Nat} {l:List PT} {rest:List AC} (hb:L0[j]? =some (bs,flat (.agg Uf) l++rest)) (hl:l.length<=4) (R: ∀x∈l,0<=x.1/\x.1<4096)
 {K:Unit->A1->Prop} (k: ∀d,bj Q D G w0 d (jv l.reverse s) L0->K () d):
 aA A2 220 (.bu []) [ag (af bt),.slice (af bs) l.length c] w K:=by
 refine S.go λw1 S=>ai (C:=N0) (aT:=uD) (AL (Sa _ _ _ c w1 K) ?_);obtain⟨z,I⟩: ∃z,z=jv l.reverse s:=⟨_,rfl⟩;rw[<-I] at k;refine⟨λn v w'=> ∃t:WD,v.1+1=(n:Int)/\n<=l.length/\t.1.length=s.1.length/\jv (l.take n).reverse t=z/\bj Q D G w0 w' t L0,
  ⟨l.length,λd T=>⟨s,?_,B5 _,rfl,by rw[List.take_length];exact I.symm,S.ext T⟩⟩,?_⟩
 ·show aX .i64 ((l.length:Nat):Int) 1+1= _;rw[bC (by omega) (by omega)];omega
 rintro n ⟨v,u⟩ d ⟨t,f,hn,p,a,S⟩;dsimp only at f ⊢;rcases n with _| _|q
 ·refine an (by simp;omega) (S.en λg S=>k g ?_);rw[<-a];exact S
 ·refine an (by simp;omega) (S.en λg S=>k g ?_);have:jv (l.take (0+1)).reverse t=t:=by
   cases l with
   |nil=>rfl
   |cons x l=>exact abO x t
  rw[<-a,this];exact S
 ·obtain rfl:v=((q+1:Nat):Int):=by omega
  have hx:l[q+1]? =some l[q+1]:=CK (by omega);have A:l[q]? =some l[q]:=CK (by omega);generalize l[q+1]=x at hx;generalize l[q]=y at A;obtain⟨t2,t1⟩:=MC A hx;rw[t2,abP, <-t1] at a;have hfx:=R x (CL hx);have U:gq .i64 16 x.1=16*x.1:=eO (by omega) (by omega);have es:aX .i64 ((q+1:Nat):Int) 1=(q:Int):=by rw[bC (by omega) (by omega)];omega
  refine ay (by simp) ⟨rfl,rfl,S.cJ k0 h rfl ⟨⟨rfl,by omega,by omega⟩,rfl,S.tR hb hx 0 (by decide) rfl ?_⟩⟩;rw[U];refine S.words ⟨by rw[p];exact hc.1,by rw[p];exact hc.2⟩ (16*x.1) 16 λrr rows g S J=>?_;have hll:(jE t.1 (16*x.1) 16).length<=16:=by
   by_cases L:(16:Int)<1\/16*x.1<0\/16*x.1>t.1.length\/16>t.1.length - 16*x.1
   ·rw[show jE t.1 (16*x.1) 16=[] from aw L];simp
   ·rw[JM L];decide
  have V:rr.2.1=(jE t.1 (16*x.1) 16).length:=J.1;refine⟨λn v w'=> ∃m:Nat,v.1=(m:Int)/\n+m=(jE t.1 (16*x.1) 16).length/\(∀i,i<m->(jE t.1 (16*x.1) 16)[i]? =some 0)/\bj Q D G w0 w' t (L0++rows),⟨(jE t.1 (16*x.1) 16).length,λM W=>⟨0,rfl,rfl,λi hi=>by omega,S.ext W⟩⟩,?_⟩;rintro n ⟨v,u2⟩ M ⟨m,f,hnm,N,S⟩;dsimp only at f ⊢;subst f;rw[V];refine ab (λB=>?_) (λB=>?_)
  ·have O:m<(jE t.1 (16*x.1) 16).length:=by simpa using B
   have hv:=CK O;generalize (jE t.1 (16*x.1) 16)[m]=b at hv;obtain⟨g1,X,Y,Z,ca,la,H⟩:=S;have P:=J.sl H (λx hx=>by
    show x∈ _:: _:: _:: _::(L0++rows);simp[hx]) m b hv
   have S:bj Q D G w0 M t (L0++rows):=⟨g1,X,Y,Z,ca,la,H⟩;refine⟨⟨P.1,by omega,by omega⟩,aj.of b P.2 (ab (λc2=>S.en λE S=>k E ?_) (λc2=>λE h5=>⟨n - 1,by omega,m+1,?_,by omega,λi hi=>?_,S.ext h5⟩))⟩
   ·have c2: ¬ b=0:=by simpa using c2
    have F:xz t.1 x.1=false:=by
     unfold xz;rw[Gi];exact⟨b,CL hv,by simpa using c2⟩
    rw[F,ao (by decide)] at a;rw[<-a];exact S.sub (FP _ _)
   ·rw[av (by omega) (by omega)];omega
   ·have c2:b=0:=by simpa using c2
    by_cases e:i=m
    ·subst e;rw[hv,c2]
    ·exact N i (by omega)
  ·have O: ¬ m<(jE t.1 (16*x.1) 16).length:=by simpa using B
   have F:xz t.1 x.1=true:=by
    unfold xz;rw[Gj];intro b YA;obtain⟨i,hi⟩:=Gt YA;have:=N i (by have:=(B2.1 hi).1;omega);rw[hi] at this;cases this;rfl
   rw[F,aw rfl] at a;have S:=S.sub (FP L0 rows);refine⟨rfl,rfl,S.cJ k0 h rfl ?_⟩;rw[es];refine⟨⟨rfl,by omega,by omega⟩,rfl,S.tR hb A 2 (by decide) rfl (S.store _ 0 ⟨by decide,by decide⟩ λE S=>⟨rfl,rfl,S.cJ k0 h rfl ⟨⟨rfl,by omega,by omega⟩,rfl,S.tR hb hx 0 (by decide) rfl (S.Uz x.1 5 0 λw6 S=>λw7 h7=>⟨q+1,by omega, _,by show(q:Int)+1= _;omega,by omega,?_,a,S.ext h7⟩)⟩⟩)⟩;show(dT t.1 y.2.2.1 0).length=s.1.length;rw[cH];exact p
theorem Em (S:bj Q D G w0 w s L0) (hc:Oq Q s) (k0:Nat) (b:L0[k0]? =some (bt,oS Q o r gone)) (m:0<=r/\r<4096) (pg:Int) {K:Int×Int×Unit->A1->Prop} (k: ∀g,bj Q D G w0 g (nE s o r gone pg) L0->K (Gx s o r gone pg,CI s o r gone pg,()) g):
 aA A2 175 (.bu [.one (.int .i64),.one (.int .i64)]) [ag (af bt),aa pg] w K:=by
 refine S.go λw1 S=>ai (C:=N0) (aT:=λ_=>[]) (AL (Mt _ pg w1 K) ?_);refine S.query k0 b pg λg S=>ab (λc=>S.en λh S=>?_) (λc=>?_)
 ·have c: ¬ (bD s r gone pg).2.2.1=0:=by simpa using c
  have a:CI s o r gone pg=(bD s r gone pg).2.2.1:=ao c;have e:Gx s o r gone pg=0:=by unfold Gx;rw[a,ao c]
  have f:nE s o r gone pg=s:=ao c;rw[a,e,f] at k;exact k h S
 have c:(bD s r gone pg).2.2.1=0:=by simpa using c
 have a:CI s o r gone pg=mv s o r pg:=aw c;have f:nE s o r gone pg=if mv s o r pg=0 then jv (dt (fv s o r pg).1 pg 3 r).reverse (dT (fv s o r pg).1 (dH (fv s o r pg).1 r pg).2.2.1 0,(fv s o r pg).2) else fv s o r pg:=aw c;refine S.split k0 b pg λh S=>ab (λd=>S.en λi S=>?_) (λd=>?_)
 ·have d: ¬ mv s o r pg=0:=by simpa using d
  have e:Gx s o r gone pg=0:=by unfold Gx;rw[a,ao d]
  rw[a,e,f,ao d] at k;exact k i S
 have d:mv s o r pg=0:=by simpa using d
 have e:Gx s o r gone pg=(bD s r gone pg).1:=by unfold Gx;rw[a,aw d]
 rw[e,a,f,aw d,d] at k;have l:(fv s o r pg).1.length=s.1.length:=by
  unfold fv iV dW;split
  ·rfl
  ·split
   ·show(dT _ _ _).length= _;rw[cH,gQ]
   ·rfl
 generalize fv s o r pg=t at*
 refine S.way pg λq bc i S=>S.OH (pg:=pg) (k0+2) b (by simp) (by simp) λbs cs rest u S=>⟨rfl,rfl,S.cJ (k0+3) b rfl ?_⟩;have n:(dt t.1 pg 3 r).length<=4:=tQ t.1 pg 3 r;have v:0<(dt t.1 pg 3 r).length:=GJ.2 (xW t.1 pg 3 r);have es:aX .i64 (((dt t.1 pg 3 r).length:Nat):Int) 1=(((dt t.1 pg 3 r).length - 1:Nat):Int):=by rw[bC (by omega) (by omega)];omega
 dsimp only;rw[es];refine⟨⟨rfl,by omega,by omega⟩,rfl,S.tR (j:=0) rfl (De t.1 r pg) 2 (by decide) rfl (S.store _ 0 ⟨by decide,by decide⟩ λx S=>S.thin ⟨by show(dT _ _ _).length<= _;rw[cH,l];exact hc.1,by show(dT _ _ _).length<= _;rw[cH,l];exact hc.2⟩ (k0+3) b (j:=0) rfl n (JN pg 3 r m) λy S=>S.en λp S=>k p S.tail.tail.tail)⟩
theorem tD (S:bj Q D G w0 w s L0) (k0:Nat) (g:L0[k0]? =some (bt,oS Q o r gone)) (pg rt:Int) {K:Int->A1->Prop} (k: ∀a,bj Q D G w0 a (rP s o r gone pg rt) L0->K (Gy s o r gone pg rt) a):
 aA A2 177 (.el (.one (.int .i64))) [ag (af bt),aa pg,aa rt] w K:=by
 refine S.go λw1 S=>ai (C:=N0) (aT:=λ_=>[]) (AL (Sb _ pg rt w1 K) ?_);unfold rP Gy at k;refine⟨_,S.state k0 g,?_⟩;cases gone with
 |true=>
  rw[aw rfl,aw rfl] at k;exact ay rfl (S.en λa S=>k a S)
 |false=>
  have j: ¬ (false=true):=by decide
  rw[ao j,ao j] at k;refine an rfl ⟨_,JH _ _ _ _,ab (λc=>S.en λa S=>?_) (λc=>?_)⟩
  ·have c: ¬ k_ pg 0 rt=0:=by simpa using c
   rw[ao c,ao c] at k;exact k a S
  have c:k_ pg 0 rt=0:=by simpa using c
  rw[aw c,aw c] at k;have m:0<=pg:=by
   unfold k_ at c;by_cases h:pg<0\/pg>=65536\/(0:Int)<0\/(0:Int)>=4096
   ·rw[aw h] at c;cases c
   ·omega
  refine S.end_ k0 g pg λa S=>S.al λb p S=>S.al λq t S=>S.fm 1 rfl rfl rfl λu S=>S.fm 0 rfl rfl rfl λv S=>⟨rfl,S.cJ 0 rfl rfl (ab (λd=>S.en λi S=>?_) (λd=>⟨rfl,S.cJ 0 rfl rfl ⟨λ_=>rfl,S.cJ 0 rfl rfl (ab (λe=>S.en λi S=>?_) (λe=>?_))⟩⟩))⟩
  ·have d: ¬ (cW s.1 r pg).1=true:=by simpa using d
   rw[ao d,ao d] at k;exact k i S.tail.tail
  ·have d:(cW s.1 r pg).1=true:=by simpa using d
   rw[aw d,aw d] at k;have e:((cW s.1 r pg).2.2.1&&(cW s.1 r pg).2.1==rt)=true:=e;rw[aw e,aw e] at k;exact k i S.tail.tail
  have d:(cW s.1 r pg).1=true:=by simpa using d
  rw[aw d,aw d] at k;have e: ¬ ((cW s.1 r pg).2.2.1&&(cW s.1 r pg).2.1==rt)=true:=by
   have e':((cW s.1 r pg).2.2.1&&(cW s.1 r pg).2.1==rt)=false:=e;rw[e'];decide
  rw[ao e,ao e] at k;refine S.ld 1 rfl rfl (S.ld 0 rfl rfl ⟨_,JJ m (dH s.1 r pg) (cW s.1 r pg) (pJ _ _) _,S.split (k0+2) g pg λi S=>ab (λf=>S.en λl S=>?_) (λf=>S.end_ (k0+2) g pg λl S=>S.fm 1 rfl rfl rfl λx S=>⟨rfl,S.cJ 1 rfl rfl (S.lay (k0+2) g _ (true,rt,false,qK pg (dH s.1 r pg) (cW s.1 r pg),()) λy S=>S.en λn S=>?_)⟩)⟩)
  ·have f: ¬ mv s o r pg=0:=by simpa using f
   rw[ao f] at k;exact k l S.tail.tail
  ·have f:mv s o r pg=0:=by simpa using f
   rw[aw f,f] at k;exact k n S.tail.tail
end bj
end
set_option maxRecDepth 100000
open Go.RX
noncomputable def N1:dM A2:={N0 with cl:=[(38,.X8)]}
def pX:Nat->a6:=(λ|3=>[(12,Go.RX.El.one (Go.RX.Sc.int AY))]|9=>[(34,.one (.int .i64))]| _=>[])
theorem H_ (y:Nat) (p c d:Option AB) (w:A1) (i:Unit->A1->Prop):(bT N1 pX 247 [.func (.yield y) #[] #[],ag p,ag c,ag d] w i)=(
 aM w {toList:=[.func (Fn.yield y) ⟨[]⟩ ⟨[]⟩]} 38 λb a=>aj a none (af b) (.one .X8) λx=>aW a p λm=> ∀w1,Ext a w1->mz A2 x [aa m] w1 λ(o:Bool) a=>aI (!o) (au a (i ())) (∃(I:Nat->Int×Unit->List Nat->A1->Prop),(∃n, ∀w1,Ext a w1->I n (0,()) [] w1)/\ ∀(n:Nat) (s:Int×Unit) (D1:List Nat) (w1:A1),I n s D1 w1->aI (decide (s.1<16)) (gu w1 c λx=>aW w1 p λq=>aA
 A2 235 (.el kf) [ag x,aa (aH .i64 (gq .i64 16 q) s.1)] w1 λ(x:Bool×Int×Bool×Int×Unit) a=>aM a ⟨[.bool false,aa 0,.bool false,aa 0]⟩ 130 λk a=>aC a (af k) [.bool x.1,aa x.2.1,.bool x.2.2.1,aa x.2.2.2.1] λa=>aW a d λx=>aj a (some !x==0) (af k) kf λ(j:Bool×Int×Bool×Int×Unit)=>((!x==0)=true->True)/\aI (x==0|| !fV j.1
 j.2.1 j.2.2.1 j.2.2.2.1) (∀e,Ext a e-> ∃(f:Nat),f<n/\I f (aH .i64 s.1 1,()) D1 e) (gu a c λx=>true=true/\aW a (ad (af k) 3) λt=>aW a d λu=>aA A2 239 (.el (.one (.Ar 247 3))) [ag x,aa t,aa (aX .i64 u 1)] a λx a=>An A2 247 (λ(y:Nat)=>[.func (Fn.yield y) ⟨[]⟩ ⟨[]⟩,ag x.1,ag x.2.1,ag x.2.2.1]) ⟨[34]⟩ a (λ(x:Int×Unit)=>[aa x.1]) (λ(l:Nat)
 (rec:Loop) (x:Int×Unit) e (R:Bool->A1->Prop)=>DL l rec [aa x.1].length 1 e (Cs l rec e λg=>aj g none (af b) (.one .X8) λv=> ∀w1,Ext g w1->mz A2 v [aa x.1] w1 λ(b:Bool) a=>aI (!b) (sO l rec (some Code.ret) a R) (sO l rec none a R))) λ(r:Nat) (rec:Loop) z=>dF (r+1) rec z (λg=> ∀e,Ext g e-> ∃(f:Nat),f<n/\I f (aH .i64 s.1 1,()) (r::D1) e) (λ(id:Nat) g=>Co (λ(h:id=2->False)=>Co (λ(h:id=1->False)=>
 Co (λ(h:id=0->False)=>False) (λ(h:id=0)=>sP (r::D1) g λw1=>i () w1) (match h:id.beq 0 with|true=>isTrue (DY h)|false=>isFalse (DZ h))) (λ(h:id=1)=> ∀e,Ext g e-> ∃(f:Nat),f<n/\I f (aH .i64 s.1 1,()) (r::D1) e) (match h:id.beq 1 with|true=>isTrue (DY h)|false=>isFalse (DZ h))) (λ(h:id=2)=> ∀e,Ext g e-> ∃(f:Nat),f<n/\I f (aH .i64 s.1 1,()) (r::D1) e)
 (match h:id.beq 2 with|true=>isTrue (DY h)|false=>isFalse (DZ h))) λg=>sP (r::D1) g λw1=>i () w1)) (byD D1 (au w1 (i ())) λ(r:Nat) (D:List Nat)=>sP (r::D) w1 λw1=>i () w1))):=by kernel_rfl
open Go.RX D
section
variable {T:Type} {bm:Nat} {mc:List AC->Prop} {J:List T->List (Nat×List AC)->List (Nat×Obj)->A1->Prop} {a:List T} {X:List (Nat×List AC)} {O:List (Nat×Obj)} {w w':A1}
theorem An.inX (K:JK bm mc J) {P:Program} {k:FuncId} {args:Nat->List AC} {ps:Array Nat} {f:T->List AC} {m:Nat->Loop->T->A1->(Bool->A1->Prop)->Prop} {n:Nat->Loop->A1->Prop} {N:Nat} {p:List (Nat×List AC)} {xs:List T}
 (j:J a X O w) (t:ItJ P k args f N bm mc p xs) (u: ∀x∈p,x∈X) (y:a.length+xs.length<=N)
 (z: ∀b x X' O' l rec d (R:Bool->A1->Prop),b.length<N->J b (X'++X) ((l,Oj rec)::O') d->(∀w',J (b++[x]) (X'++X) ((l,Oj rec)::O') w'->R true w')->m l rec x d R)
 (A: ∀r rec g,J (a++xs) X ((r+1,Oj rec)::(r,.deferred (some []))::O) g->n r rec g):An P k args ps w f m n:=by
 intro w1 h1 rec _ _ B C D;have V:rec={rec with state:= .ready,pending:= .none}:=by rw[<-B, <-C]
 have sz:(w1.alloc (.deferred (some []))).heap.size=w1.heap.size+1:=lK _ _;have j1:J a X _ (w1.alloc (.deferred (some []))):=K.alO (K.ext j h1) (λ_ _ _ e=>by cases e);have q:=K.alO (o:=Oj rec) j1 (I4 rec _ _);rw[sz] at q
 let Z:=(w1.heap.size+1,Oj rec)::(w1.heap.size,.deferred (some []))::O
 let i:=λb X' O' w=>J b (X'++X) (O'++Z) w
 have E:JK bm mc i:=
  {step:=λ{a' X' O' W d l' Y} h F hb G H I=>by
    have:=K.step h F hb G H I
    grind
   mem:=λh=>K.mem h
   dp:=λh hm=>K.dp h (by grind)
   obj:=λh hm=>K.obj h (by grind)
   alO:=λh c=>K.alO h c
   puO:=λh c=>K.puO h c
   sub:=λh hx c=>K.sub h (by grind) (c.append_right Z)
   perm:=λh c=>K.perm h (c.append_right Z)}
 have L:Yd P (w1.heap.size+1) f N i:=λb x X' O' d R hb h M=>by
  refine D x d R ?_;have s:((w1.heap.size+1,Oj rec)::(O'++((w1.heap.size,.deferred (some []))::O))).Perm (O'++Z):=(DJ).symm;exact z b x X' _ _ rec d R hb (K.perm h s) (λw' h'=>M w' (K.perm h' s.symm))
 have Q:(w1.alloc (.deferred (some []))).alloc (.loop rec)=(w1.alloc (.deferred (some []))).alloc (Oj rec):=by
  grind
 rw[Q];have S:=K.sub q (λx hm=>by
  rcases List.mem_append.1 hm with hm|hm<;>exact hm) (D8 _)
 refine Calls.mono (t (w1.heap.size+1) i E L a X [] _ y u S) ?_;rintro e g ⟨v,U,h⟩;exact⟨v,U,A _ _ _ (K.sub h (by grind) (by grind))⟩
end
def oI (ws:List Int) (l:Nat) (f:Int) (i:Nat):List Int:=match l with
 |0=>[]
 |l+1=>if dO (aL ws (16*f+(i:Int)))=true then cY ws l (aL ws (16*f+(i:Int))).2.2.2.1 else[]
theorem nc (ws:List Int): ∀(l:Nat) (f:Int),cY ws l f=f::(Ax 16).flatMap (oI ws l f)
 |0,f=>by
  simp[cY,oI]
 |l+1,f=>rfl
theorem MD {m:Nat} (a:m<16) (g:Nat->List Int): ∃z,(Ax 16).flatMap g=(Ax m).flatMap g++(g m++z):=by
 obtain⟨z,e⟩: ∃z,Ax _=Ax (m+1)++z:=by
  refine⟨(Ax 16).drop (m+1),?_⟩
  conv=>rw[<-Gu (m+1) (Ax 16)]
  grind
 rw[e,Gv];simp
abbrev emI (x:Int×Unit):List AC:=[aa x.1]
abbrev Ug (x:Int):Int×Unit:=(x,())
abbrev ucs (bt c1 c2 c3:Nat) (f:Int) (l:Nat):List (Nat×List AC):=[(c1,[aa f]),(c2,[ag (af bt)]),(c3,[aa (l:Int)])]
theorem ME {D G:List Nat} {w0 w:A1} {L:List (Nat×List AC)} (H:aK D G w0 w L) (p:Option AB) (f lv:Int) {K:Option AB×Option AB×Option AB×Unit->A1->Prop}
 (k: ∀b a c d,aK D G w0 d ((c,[aa lv])::(a,[aa f])::(b,[ag p])::L)->K (some ⟨a,0,none⟩,some ⟨b,0,none⟩,some ⟨c,0,none⟩,()) d):
 aA A2 239 G9 [ag p,aa f,aa lv] w K:=
 aA.go H λw1 H=>ai (AL (BI p f lv w1 K) (aM.go H λb d H=>aM.go H λa e H=>aM.go H λc g H=>au.go H (by grind)))
abbrev UIt (Q:Sys) (ws:List Int) (bt:Nat) (o r:Int) (gone:Bool) (N lv:Nat):Prop:= ∀(f:Int) (a:0<=f/\f<4096) (c1 c2 c3:Nat),
 ItJ A2 247 (λy=>[.func (.yield y) #[] #[],ag (af c1),ag (af c2),ag (af c3)]) emI N Q.bm (Mc Q ws.length)
  ((bt,oS Q o r gone)::(Q.bw,flat eW ws++Q.rw)::ucs bt c1 c2 c3 f lv) ((cY ws lv f).map Ug)
theorem Ia {Q:Sys} {ws:List Int} {bt:Nat} {o r:Int} {gone:Bool} {N:Nat} (W:okW ws) (Z:0<ws.length) (lv:Nat) (xK:lv<=3) (ih: ∀l',lv=l'+1->UIt Q ws bt o r gone N l'):UIt Q ws bt o r gone N lv:=by
 intro f hf c1 c2 c3 y J K D a X O w i hX j;refine Calls.mono (aQ (C:=N1) (aT:=pX) (Post:=λ_ w'=>J (a++(cY ws lv f).map Ug) X O w') (AL (H_ y _ _ _ w _) ?_)) ?_
 rotate_left
 ·rintro e w' ⟨x,rfl,h⟩;exact⟨_,rfl,h⟩
 rw[nc] at i ⊢;simp only[List.map_cons,B4,DO] at i;obtain⟨lm,⟨ca,la,rfl⟩,H⟩:=K.at0 j;refine aM.go H λb w2 H=>?_;have j:=K.tB (Y:=[(b, _)]) j H ⟨_, _,rfl⟩;have g: ∀x∈(bt,oS Q o r gone)::(Q.bw,flat eW ws++Q.rw)::ucs bt c1 c2 c3 f lv,x∈[(b,[Dn (.yield y) #[] #[]])]++X:=λx hx=>DB _ (hX x hx);have p:(b,[Dn (.yield y) #[] #[]])∈[(b,[Dn (.yield y) #[] #[]])]++X:=List.mem_append_left _ (F2.2 rfl);have back: ∀{a':List (Int×Unit)} {w':A1},J a' ([(b,[Dn (.yield y) #[] #[]])]++X) O w'->J a' X O w':=λh=>K.sub h (λx hx=>DB _ hx) (D8 _);generalize [(b,[Dn (.yield y) #[] #[]])]++X=k at j g p back;have x1:=g (bt,oS Q o r gone) (by simp);have E:=g (Q.bw,flat eW ws++Q.rw) (by simp);have F:=g (c1,[aa f]) (by simp);have G:=g (c2,[ag (af bt)]) (by simp);have x5:=g (c3,[aa (lv:Int)]) (by simp);refine aj.of y ((K.dp j p).2.oD rfl) (aj.of f ((K.dp j F).2.oD rfl) λw3 h3=>D a (Ug f) k O w3 _ (by omega) (K.ext j h3) λw4 j=>?_);refine an rfl ⟨λn v D1 w'=> ∃m:Nat,v.1=(m:Int)/\n+m=16/\J (a++Ug f::((Ax m).flatMap (oI ws lv f)).map Ug) k (D1.map (λr=>(r,Obj.deferred (some [])))++O) w',⟨16,λI h5=>⟨0,rfl,rfl,by simpa using K.ext j h5⟩⟩,?_⟩;rintro n ⟨v,u⟩ D1 I ⟨m,L,hnm,j⟩;dsimp only at L ⊢;subst L;refine ab (λq=>?_) (λq=>?_)
 ·have s:m<16:=by simp at q;omega
  obtain⟨z,hz⟩:=MD s (oI ws lv f);have M:(a++Ug f::((Ax m).flatMap (oI ws lv f)).map Ug).length+((oI ws lv f m).map Ug).length<=N:=by
   rw[hz] at i;simp only[E4,B4,DO] at i ⊢;omega
  have t:(Ax (m+1)).flatMap (oI ws lv f)=(Ax m).flatMap (oI ws lv f)++oI ws lv f m:=by
   rw[Gv,List.flatMap_append];simp
  have acI:aH .i64 (gq .i64 16 f) (m:Int)=16*f+(m:Int):=by rw[eO (by omega) (by omega),av (by omega) (by omega)]
  have acJ:aH .i64 (m:Int) 1=((m+1:Nat):Int):=by rw[av (by omega) (by omega)];omega
  refine aj.of (af bt) ((K.dp j G).2.oD rfl) (aj.of f ((K.dp j F).2.oD rfl) ?_);rw[acI,acJ];obtain⟨lm,⟨ca,la,rfl⟩,H⟩:=K.at0 j;have R:TbR Q ws I bt o r gone:=⟨(K.dp j x1).2,(K.dp j E).2,(K.dp j x1).1,(K.dp j E).1,W,Z⟩;have A:=K.dp j x5;have P:=K.dp j G;have S:c3∉[Q.bm]:=by simpa using A.1
  have n4:c2∉[Q.bm]:=by simpa using P.1
  refine PQ R H 0 rfl _ λca2 T H=>aM.go H λU w7 H=>aC.all 0 H rfl rfl rfl λw8 H=>aj.fW H A.2 S rfl (aj.at 0 H rfl rfl ⟨λ_=>trivial,ab (λc=>λw9 h9=>?_) (λc=>?_)⟩)
  ·have B:=K.sub (K.ext (K.tB (Y:=[(U, _)]) j H ⟨_, _,rfl⟩) h9) (X':=k) (λx h=>DB _ h) (D8 _);refine⟨n - 1,by omega,m+1,rfl,by omega,?_⟩;have hs:oI ws lv f m=[]:=by
    cases lv with
    |zero=>rfl
    |succ l=>
     have c:dO (aL ws (16*f+(m:Int)))=false:=by
      have h0:((((l+1:Nat):Int))==0)=false:=by simp;omega
      simp only[h0,Bool.false_or,Bool.not_eq_true'] at c;exact c
     exact ao (by rw[c];decide)
   rw[t,hs,DQ];exact B
  ·have c0: ¬ lv=0/\dO (aL ws (16*f+(m:Int)))=true:=by
    simp only[FZ,Bool.not_eq_false'] at c;refine⟨λe=>?_,c.2⟩;subst e;simp at c
   obtain⟨l,rfl⟩: ∃l,lv=l+1:=⟨lv - 1,by omega⟩;have hs:oI ws (l+1) f m=cY ws l (aL ws (16*f+(m:Int))).2.2.2.1:=aw c0.2;have elv:aX .i64 ((l+1:Nat):Int) 1=(l:Int):=by rw[bC (by omega) (by omega)];omega
   refine aj.fW H P.2 n4 rfl ⟨rfl,aj.cA 0 H rfl rfl (aj.fW H A.2 S rfl ?_)⟩;rw[elv];refine ME H _ _ _ λd d1 d2 w9 H=>?_;have B:=K.tB (Y:=[(d2, _),(d1, _),(d, _),(U, _)]) j H ⟨_, _,rfl⟩;rw[hs] at M t;refine An.inX K B (ih l rfl _ (pJ _ _) d1 d d2) ?_ M ?_ ?_
   grind
   ·intro b0 x X' O' l' rec lP R hb j hR;refine DL.Ys K j rfl (Cs.Ys K j λwb j=>aj.of y ((K.dp j (DB _ (DB _ p))).2.oD rfl) λV FW=>D b0 x _ _ V _ hb (K.ext j FW) λDN j=>an rfl (sO.Ys K j λOm j=>hR Om j))
   ·intro r' rec lP j;refine dF.Ys K j λV j=>λDN N3=>⟨n - 1,by omega,m+1,rfl,by omega,?_⟩;have j3:=K.sub (K.ext j N3) (X':=k) (λx h=>DB _ h) (D8 _);rw[t];simpa using j3
 ·have s:m=16:=by simp at q;omega
  subst s;cases D1 with
  |nil=>exact λT h6=>back (K.ext j h6)
  |cons r' D1=>exact K.sP (r'::D1) j λT j=>back j
theorem Si {Q:Sys} {ws:List Int} {bt:Nat} {o r:Int} {gone:Bool} {N:Nat} (a:okW ws) (b:0<ws.length): ∀lv:Nat,lv<=3->UIt Q ws bt o r gone N lv:=by
 intro lv
 induction lv with
 |zero
 |succ=>
  intro h;refine Ia a b _ h λe=>?_
  grind
abbrev eN:El:= .one (.int .i64)
theorem zZ (ws:List Int): ∀(l:Nat) (f:Int),(cY ws l f).length<=(match l with|0=>1|1=>17|2=>273| _=>4369)\/3<l
 |0,f=> .inl (by simp[cY])
 |l+1,f=>by
  by_cases a:3<l+1
  ·exact .inr a
  refine .inl ?_;have step: ∀(c:Nat) (is:List Nat),(∀i,(oI ws (l+1) f i).length<=c)->(is.flatMap (oI ws (l+1) f)).length<=is.length*c:=by
   intro c is h
   induction is with
   |nil=>simp
   |cons i is b=>
    rw[List.flatMap_cons,E4,B4,Nat.add_mul];have:=h i;omega
  have sub: ∀(c:Nat),(∀g,(cY ws l g).length<=c)-> ∀i,(oI ws (l+1) f i).length<=c:=by
   intro c h i;unfold oI
   grind
  rw[nc];have b:=zZ ws l;rcases l with _| _| _|l
  ·have:=step 1 (Ax 16) (sub 1 (by grind))
   grind
  ·have:=step 17 (Ax 16) (sub 17 (by grind))
   grind
  ·have:=step 273 (Ax 16) (sub 273 (by grind))
   grind
  ·omega
theorem pR (ws:List Int) (f:Int):(cY ws 3 f).length<=4369:=by grind[zZ]
theorem BJ (ws:List Int) (l:Nat) (f:Int):cY ws l f≠[]:=by simp[nc]
theorem ES (x:Int): ∀l:List Int,(jF x l).length=l.length+1
 |[]=>rfl
 |y::l=>by
  rw[jF];split
  ·rw[B4,ES];rfl
  ·rfl
theorem zp: ∀(l a:List Int),(l.foldl (λa x=>jF x a) a).length=a.length+l.length
 |[],a=>rfl
 |x::l,a=>by
  rw[Gw,zp,ES,B4];omega
theorem jN (l:List Int):(mQ l).length=l.length:=by simp[mQ,zp]
theorem aal (p z:List Int) (a c:Int):(p++a::z).set p.length c=p++c::z:=by simp
section
variable {Q:Sys} {D G:List Nat} {w0 w:A1} {s:WD} {L0:List (Nat×List AC)} {bt:Nat} {o r:Int} {gone:Bool}
namespace bj
theorem under (S:bj Q D G w0 w s L0) (f lv:Int) {K:Option AB×Option AB×Option AB×Unit->A1->Prop} (k: ∀b a c d,bj Q D G w0 d s ((c,[aa lv])::(a,[aa f])::(b,[ag (af bt)])::L0)->K (some ⟨a,0,none⟩,some ⟨b,0,none⟩,some ⟨c,0,none⟩,()) d):
 aA A2 239 G9 [ag (af bt),aa f,aa lv] w K:=by
 refine S.go λw1 S=>ai (AL (BI _ f lv w1 K) ?_);exact S.al λb d S=>S.al λa e S=>S.al λc g S=>S.en (by grind)
theorem abQ (S:bj Q D G w0 w s L0) (k0:Nat) (L:L0[k0]? =some (bt,oS Q o r gone)) {c1 c2 c3:Nat} {f:Int} (i:0<=f/\f<4096) (h1:(c1,[aa f])∈L0) (M:(c2,[HB (af bt)])∈L0) (O:(c3,[aa 3])∈L0)
 {K:Option AB×Nat×Nat->A1->Prop} (k: ∀bs cs rest b,bj Q D G w0 b s ((bs,flat eN (cY s.1 3 f)++rest)::L0)->K (some ⟨bs,0,none⟩,(cY s.1 3 f).length,cs) b):
 aA A2 238 (.el (.one .slice)) [.func (.func 247) #[] #[ag (af c1),ag (af c2),ag (af c3)]] w K:=by
 refine S.go λw1 S=>aQ (C:=N0) (aT:=rm) (AL (Mv _ _ _ w1 K) ?_);obtain⟨g1,j,m,e,ca,la,H0⟩:=S;have H:=H0.again;refine aM.go H λbl b H=>?_;have n:=pR s.1 f;refine An.OH (N:=4369) (bm:=Q.bm) (mc:=Mc Q s.1.length) (Rg0:=[(bl,[.slice none 0 0])]) H ⟨_, _,rfl⟩
  (Si (o:=o) (r:=r) (gone:=gone) (bt:=bt) e g1 3 (B5 _) f i c1 c2 c3) ?_ (by simpa using n) (λxs c=>Yx eN bl (xs.map (·.1)) c) (.inl ⟨rfl,rfl⟩) ?_ ?_
 grind
 ·intro b0 x c Z rr l rec P R T hg a p;obtain⟨sl,d⟩:=hg.head;refine DL.go a rfl (Cs.goO a λwb H q t=>aj.at 0 H (by rw[Ef (B2.1 d).1];exact d) rfl (aM.go H λU g H=>λV u=>?_));have H:=H.ext u;exact hg.push d (x:=x.1) H rfl rfl rfl (by grind) λv W y z=>sO.lq q z λA B E=>p v A (by simpa using y) B (t.trans E)
 ·rintro rr rec X l' c ⟨F,I,rfl⟩ hg a;refine dF.none a λY H=>?_;have J:((cY s.1 3 f).map Ug).map (·.1)=cY s.1 3 f:=by
   rw[List.map_map];exact List.map_id _
  rw[J] at hg;rcases hg with ⟨h, _⟩|⟨bs,cs,rest,rfl,q1,q2⟩
  ·exact absurd h (BJ _ _ _)
  ·refine aj.at 0 H rfl rfl (sP.go H λg H=>k bs cs rest g ⟨g1,j,m,e,F,I,H0.join (λx hx=>hx) ?_⟩);refine(H.sub (DA _ _)).perm ?_;exact DJ (l₁:=[_, _, _, _])
theorem I9 (S:bj Q D G w0 w s L0) {j bs:Nat} {xs:List Int} {rest:List AC} (a:L0[j]? =some (bs,flat eN xs++rest)) {i:Nat} {x:Int} (hx:xs[i]? =some x):cL w (ad (af bs) (i*1)) eN x:=f_ (S.get a) hx
theorem XV (S:bj Q D G w0 w s L0) (j:Nat) {bs:Nat} {xs:List Int} {rest:List AC} (a:L0[j]? =some (bs,flat eN xs++rest)) {i:Nat} (hi:i<xs.length) (v:Int) {K:A1->Prop} (k: ∀w1,bj Q D G w0 w1 s (L0.set j (bs,flat eN (xs.set i v)++rest))->K w1):aC w (ad (af bs) (i*1)) [aa v] K:=by
 obtain⟨h1,b,c,d,ca,la,H⟩:=S;exact aC.flat (e:=eN) (j+4) H v a rfl rfl hi λw1 H=>k w1 ⟨h1,b,c,d,ca,la,H⟩
theorem all (S:bj Q D G w0 w s L0) (k0:Nat) (q:L0[k0]? =some (bt,oS Q o r gone)) (U:0<=r/\r<4096) {K:Option AB×Nat×Nat->A1->Prop} (k: ∀x rows d,bj Q D G w0 d s (L0++rows)->oo eN rows x (mR s r gone)->K x d):
 aA A2 214 (.el (.one .slice)) [ag (af bt)] w K:=by
 refine S.go λw1 S=>ai (C:=N0) (aT:=wJ) (AL (VX _ w1 K) ?_);refine⟨_,S.state k0 q,?_⟩;cases gone with
 |true=>exact ay rfl (S.en λd S=>k (none,0,0) [] d (by rw[DQ];exact S) ⟨rfl,.inl ⟨rfl,rfl⟩⟩)
 |false=>
  refine an rfl ⟨rfl,rfl,S.cJ k0 q rfl (S.under r 3 λc2 c1 c3 d S=>S.abQ (k0+3) q U (by simp) (by simp) (by simp) λbs cs rest i S=>?_)⟩;have S:=S.perm (L1:=(bs,flat eN (cY s.1 3 r)++rest)::(L0++[(c3,[aa 3]),(c1,[aa r]),(c2,[ag (af bt)])])) (GD _ (by exact List.perm_append_comm (l₂:=[_, _, _])));have S:=S.sub (List.Sublist.cons_cons _ (FP _ _));have hlen:=pR s.1 r;have V:mR s r false=mQ (cY s.1 3 r):=ao (by decide);rw[V] at k;have dg:=BJ s.1 3 r;generalize cY s.1 3 r=l at*
  refine⟨λn v w'=> ∃m:Nat,v.1=(m:Int)/\n+m=l.length/\bj Q D G w0 w' s ((bs,flat eN (((l.take m).foldl (λa x=>jF x a) []).reverse++l.drop m)++rest)::L0),⟨l.length,λW X=>⟨0,rfl,rfl,by simpa using S.ext X⟩⟩,?_⟩;rintro n ⟨v,u⟩ W ⟨m,b,hnm,S⟩;dsimp only at b ⊢;subst b;refine ab (λt=>?_) (λt=>?_)
  ·have z:m<l.length:=by simpa using t
   obtain⟨R,E⟩: ∃R,R=(l.take m).foldl (λa x=>jF x a) []:=⟨_,rfl⟩;have F:R.length=m:=by rw[E,zp,F4];simp;omega
   have hx:=CK z;obtain⟨x,L⟩: ∃x,x=l[m]:=⟨_,rfl⟩;rw[<-L] at hx;have Y:l.drop m=x::l.drop (m+1):=by rw[FR z,L]
   have En:(l.take (m+1)).foldl (λa x=>jF x a) []=jF x R:=by
    rw[F7,hx,Option.toList_some,List.foldl_append, <-E];rfl
   obtain⟨Z,M⟩: ∃Z,Z=l.drop (m+1):=⟨_,rfl⟩;rw[<-E,Y, <-M] at S;refine⟨λN v w'=> ∃A B:List Int,v.1=(A.length:Int)/\N=A.length/\A.length+B.length=m/\B++jF x A=jF x R/\bj Q D G w0 w' s ((bs,flat eN (A.reverse++x::(B.reverse++Z))++rest)::L0),⟨m,λf h5=>⟨R,[],by rw[F],F.symm,by simp[F],rfl,by simpa using S.ext h5⟩⟩,?_⟩;rintro N ⟨v,u2⟩ f ⟨A,B,b,rfl,hAB,H,S⟩;dsimp only at b ⊢;subst b;have O: ∀(C:List Int),C=jF x R-> ∀{w':A1},bj Q D G w0 w' s ((bs,flat eN (C.reverse++Z)++rest)::L0)-> ∀i,Ext w' i-> ∃P,P<n/\ ∃p:Nat,aH .i64 (m:Int) 1=(p:Int)/\P+p=l.length/\bj Q D G w0 i s ((bs,flat eN (((l.take p).foldl (λa x=>jF x a) []).reverse++l.drop p)++rest)::L0):=by
    intro C hC w' S i h3;refine⟨n - 1,by omega,m+1,by rw[av (by omega) (by omega)];omega,by omega,?_⟩;rw[En, <-hC, <-M];exact S.ext h3
   cases A with
   |nil=>
    refine⟨λh=>by simp at h,0,λh=>by simp at h,λh=>by simp at h,0,λh=>by simp at h,an rfl (O (B++jF x []) H (w':=f) ?_)⟩;have e:(B++jF x []).reverse++Z=[].reverse++x::(B.reverse++Z):=by simp[jF]
    rw[e];exact S
   |cons y A=>
    have e:(y::A).reverse++x::(B.reverse++Z)=A.reverse++y::x::(B.reverse++Z):=by simp
    rw[e] at S;simp only[B4] at hAB;have es:aX .i64 (((y::A).length:Nat):Int) 1=(A.length:Int):=by rw[B4,bC (by omega) (by omega)];omega
    rw[es];have I:(A.reverse++y::x::(B.reverse++Z))[A.length]? =some y:=by rw[H4 (by simp)];simp
    have T:(A.reverse++y::x::(B.reverse++Z))[A.length+1]? =some x:=by rw[H4 (by simp)];simp
    have Xm:A.length<(A.reverse++y::x::(B.reverse++Z)).length:=(B2.1 I).1;have s1:(A.reverse++y::x::(B.reverse++Z)).set A.length x=A.reverse++x::x::(B.reverse++Z):=by
     have:=aal A.reverse (x::(B.reverse++Z)) y x;rwa[List.length_reverse] at this
    have s2:(A.reverse++x::x::(B.reverse++Z)).set (A.length+1) y=A.reverse++x::y::(B.reverse++Z):=by
     simp
    have KA:A.length+1<(A.reverse++x::x::(B.reverse++Z)).length:=by simp
    have t1:((A.length:Nat):Int).toNat=A.length:=rfl;have t2:(((y::A).length:Nat):Int).toNat=A.length+1:=rfl;rw[t1,t2];have g1:(some (⟨bs,0,none⟩:AB)).isSome=true/\0<=(A.length:Int)/\(A.length:Int)<(l.length:Int):=⟨rfl,by omega,by omega⟩;have J:(some (⟨bs,0,none⟩:AB)).isSome=true/\0<=(((y::A).length:Nat):Int)/\(((y::A).length:Nat):Int)<(l.length:Int):=⟨rfl,by omega,by rw[B4];omega⟩;refine⟨λ_=>g1,aj.of y (S.I9 (j:=0) rfl I) ⟨λ_=>J,aj.of x (S.I9 (j:=0) rfl T) (ab (λc=>⟨J,aj.of x (S.I9 (j:=0) rfl T) ⟨g1,aj.of y (S.I9 (j:=0) rfl I) ⟨g1,S.XV 0 rfl Xm x λw6 S=>⟨J,?_⟩⟩⟩⟩) (λc=>O (B++jF x (y::A)) H (w':=f) ?_))⟩⟩
    ·rw[s1] at S;refine S.XV 0 rfl KA y λw7 S=>λw8 h8=>⟨A.length,Nat.lt_succ_self _,A,B++[y],rfl,rfl,by simp;omega,?_,?_⟩
     ·have c2:y>x:=by simpa using c
      rw[<-H,jF,aw c2,GI];rfl
     ·rw[s2] at S;have g:A.reverse++x::((B++[y]).reverse++Z)=A.reverse++x::y::(B.reverse++Z):=by simp
      rw[g];exact S.ext h8
    ·have c2: ¬ y>x:=by simpa using c
     have g:(B++jF x (y::A)).reverse++Z=A.reverse++y::x::(B.reverse++Z):=by rw[jF,ao c2];simp
     rw[g];exact S
  ·have z: ¬ m<l.length:=by simpa using t
   have b:l.take m=l:=Gd (by omega);have g:l.drop m=[]:=F5 (by omega);rw[b,g,DQ] at S;refine S.en λf S=>k (some ⟨bs,0,none⟩,l.length,cs) [(bs,flat eN (mQ l)++rest)] f (S.perm (List.perm_append_singleton _ _)) ⟨(jN l).symm,.inr ⟨bs,rest,rfl,rfl⟩⟩
theorem drop (S:bj Q D G w0 w s L0) (k0:Nat) (d:L0[k0]? =some (bt,oS Q o r gone)) (E:0<=r/\r<4096) {K:Option AB×Nat×Nat->A1->Prop} (k: ∀x rows b,bj Q D G w0 b (cI s r gone) (L0.set k0 (bt,oS Q o r true)++rows)->oo eN rows x (mR s r gone)->K x b):
 aA A2 171 (.el (.one .slice)) [ag (af bt)] w K:=by
 refine S.go λw1 S=>ai (C:=N0) (aT:=uE) (AL (Se _ w1 K) ?_);refine⟨_,S.state k0 d,?_⟩;have F:k0<L0.length:=(B2.1 d).1;cases gone with
 |true=>
  have e:L0.set k0 (bt,oS Q o r true)=L0:=GH (by grind);exact ay rfl (S.en λb S=>k (none,0,0) [] b (by rw[DQ,e];exact S) ⟨rfl,.inl ⟨rfl,rfl⟩⟩)
 |false=>
  refine an rfl (S.all k0 d E λx rows b S g=>?_);have I:cI s r false=(s.1,(mR s r false).foldl (λds f=>dN ds f (aO 5 0)) s.2):=ao (by decide);rw[I] at k;have W:(mR s r false).length<=4369:=by
   rw[show mR s r false=mQ (cY s.1 3 r) from ao (by decide),jN];exact pR _ _
  generalize mR s r false=l at*
  obtain⟨J,L,M⟩:=x;have N:L=l.length:=g.1;subst N;obtain⟨c,j⟩: ∃c,c=l.foldl (λds f=>dN ds f (aO 5 0)) s.2:=⟨_,rfl⟩;rw[<-j] at k;have p:(L0++rows)[k0]? =some (bt,oS Q o r false):=by grind
  refine⟨λn v w'=> ∃(m:Nat) (ds:List DT),v.1=(m:Int)/\n+m=l.length/\(l.drop m).foldl (λds f=>dN ds f (aO 5 0)) ds=c/\bj Q D G w0 w' (s.1,ds) (L0++rows),⟨l.length,λq O=>⟨0,s.2,rfl,rfl,j.symm,S.ext O⟩⟩,?_⟩;rintro n ⟨v,u⟩ q ⟨m,ds,t,X,a,S⟩;dsimp only at t ⊢;subst t;refine ab (λh=>?_) (λh=>?_)
  ·have i:m<l.length:=by simpa using h
   have y:=CK i;obtain⟨f,z⟩: ∃f,f=l[m]:=⟨_,rfl⟩;rw[<-z] at y;rw[FR i, <-z,Gw] at a;obtain⟨g1,P,R,T,ca,la,H⟩:=S;have A:=g.sl H (λx hx=>by
    show x∈ _:: _:: _:: _::(L0++rows);simp[hx]) m f y
   have S:bj Q D G w0 q (s.1,ds) (L0++rows):=⟨g1,P,R,T,ca,la,H⟩;refine⟨⟨A.1,by omega,by omega⟩,aj.of f A.2 ⟨rfl,rfl,S.cJ k0 p rfl (S.Uz f 5 0 λU S=>λB V=>⟨n - 1,by omega,m+1, _,?_,by omega,a,S.ext V⟩)⟩⟩;rw[av (by omega) (by omega)];omega
  ·have i: ¬ m<l.length:=by simpa using h
   rw[F5 (by omega)] at a;have a:ds=c:=a;subst a;refine⟨rfl,rfl,S.CY k0 p rfl rfl λU S=>S.en λB S=>k (J,l.length,M) rows B ?_ g⟩;rw[List.set_append_left _ _ F] at S;exact S
theorem new (S:bj Q D G w0 w s L0) (o:Int) {K:Option AB×Int×Unit->A1->Prop}
 (f:(s.1.length:Int)<16*(s.2.length:Int)-> ∀a,bj Q D G w0 a s L0->K (none,1,()) a)
 (g: ¬ (s.1.length:Int)<16*(s.2.length:Int)-> ¬ rD s o=0-> ∀a,bj Q D G w0 a (iV s o λ_=>0) L0->K (none,rD s o,()) a)
 (i: ¬ (s.1.length:Int)<16*(s.2.length:Int)->rD s o=0-> ∀b a,bj Q D G w0 a (iV s o λ_=>0) ((b,oS Q o (eV s o) false)::L0)->K (some ⟨b,0,none⟩,0,()) a):
 aA A2 164 (.bu [.one .ptr,.one (.int .i64)]) [ag (af Q.bm),ag (af Q.bp),aa o] w K:=by
 refine S.go λw1 S=>ai (C:=N0) (aT:=λ_=>[]) (AL (VY _ _ o w1 K) ?_);have h1:=S.pos;have j:=S.Gz;have k:=S.le;have c1:(((s.1.length:Nat):Int)==0)=false:=by grind
 have c2:(((s.2.length:Nat):Int)==0)=false:=by grind
 have h:gq .i64 16 ((s.2.length:Nat):Int)=16*(s.2.length:Int):=eO (by omega) (by omega);refine⟨_,S.aa1, _,λ_=>S.Zl, _,λ_=>S.aa1, _,λ_=>S.Zl,?_⟩;rw[c1,c2,h];refine ab (λc=>S.en λa S=>f (by simpa using c) a S) (λc=>S.al λb a S=>S.abL (r:=0) (gone:=false) 0 rfl λl S=>ab (λd=>S.en λe S=>?_) (λd=>⟨rfl,rfl,S.CY 0 rfl rfl rfl λe S=>S.en (by grind)⟩));exact g (by simpa using c) (by simpa using d) e S.tail
end bj
end
set_option maxRecDepth 100000
open Go.RX
abbrev ik:List Sc:=[.int .u64,.int .i64]
abbrev RS:Type:=Int×Int×Unit
noncomputable def B0:dM A2:={N0 with quiet:=[]}
theorem V9 (e:Int) (w:A1) (c:RS->A1->Prop):(bT B0 (λ_=>[]) 75 [aa e] w c)=(
 aM w ⟨[az 0,aa 0]⟩ 61 λb a=>aC a (af b) [az 0,aa e] λa=>au a λw1=>aj w1 none (af b) cD λ(x:Int×Int×Unit)=>c (x.1,x.2.1,()) w1):=by kernel_rfl
theorem V_ (e:Int) (w:A1):aD A2 75 (.el (.agg ik)) [aa e] w (λx w'=>x=(0,e,())/\Ext w w'):=by
 refine aQ (C:=B0) (aT:=λ_=>[]) (AL (V9 e w _) ?_);have H:=At.start [] w;exact aM.go H λb a H=>aC.all 0 H rfl rfl rfl λc H=>au.go H λd H=>aj.at 0 H rfl (show _=some (0,e,()) from rfl) ⟨rfl,H.all⟩
noncomputable def abR:Entry A2 where
 f:=75
 fn l:=match l with
  |[.int .i64 e]=>some (True,.agg ⟨[.int .u64 0,.int .i64 e]⟩)
  | _=>none
 ok args pre v h a w:=by
  split at h
  ·rename_i e;cases h;exact bW (V_ e w)
  ·cases h
noncomputable def V0:dM A2:={N0 with sM:=abR::N0.sM,quiet:=[53,19,165,21,179,174,76,77,176,25,62,117,56]}
noncomputable def V1:dM A2:={V0 with dyn:=some (.el (.agg ik))}
theorem MF (p:Option AB) (w:A1) (a:Bool->A1->Prop):(aJ V0 (λ_=>[]) 53 [ag p] w a)=(
 ((!p.isNone)=true->p.isSome=true)/\((!p.isNone)=true->p.isSome=true)/\aj w (some !p.isNone) (ad p 0) lZ λx=>au w (a (!p.isNone&& !x.isNone))):=by kernel_rfl
theorem Sj (p:Option AB) (v:Int) (w:A1) (a:Bool->A1->Prop):(aJ V0 (λ_=>[]) 19 [ag p,aa v] w a)=(
 ∃x,ae A2 53 [ag p] w (.bool x)/\((x&&decide (v>=1)&&decide (v<=16))=true->p.isSome=true)/\((x&&decide (v>=1)&&decide (v<=16))=true->p.isSome=true)/\((x&&decide (v>=1)&&decide (v<=16))=true->(ad p 4).isSome=true/\0<=v/\v<(↑17:Int))/\aj w (some (x&&decide (v>=1)&&decide (v<=16))) (ad (ad p 4) (v.toNat*1)) lZ λb=>au w (a (x&&decide (v>=1)&&decide (v<=16)&& !b.isNone))):=by kernel_rfl
theorem MH (p:Option AB) (a:Int) (w:A1) (b:Bool->A1->Prop):(aJ V0 (λ_=>[]) 165 [ag p,az a] w b)=(
 ∃x,(decide (a<=16)=true->ae A2 19 [ag p,aa (aE .i64 a)] w (.bool x))/\au w (b (decide (a<=16)&&x))):=by kernel_rfl
theorem Sk (p:Option AB) (v:Int) (w:A1) (a:Int->A1->Prop):(aJ V0 (λ_=>[]) 21 [ag p,aa v] w a)=(
 ∃x,ae A2 19 [ag p,aa v] w (.bool x)/\aI (!x) (au w (a (-1))) (p.isSome=true/\p.isSome=true/\((ad p 4).isSome=true/\0<=v/\v<(↑17:Int))/\gu w (ad (ad p 4) (v.toNat*1)) λx=>bI x 0 w λx=> ∃(b:Int),ae A2 56 [ag x] w (aa b)/\au w (a b))):=by kernel_rfl
theorem MJ (p:Option AB) (v g:Int) (w:A1) (a:Int×Int×Int×Unit->A1->Prop):(aJ V0 (λ_=>[]) 81 [ag p,aa v,aa g] w a)=(
 ∃x,ae A2 53 [ag p] w (.bool x)/\aI (!x) (au w (a (0,0,10,()))) (∃x,ae A2 19 [ag p,aa v] w (.bool x)/\aI (!x) (au w (a (0,0,4,()))) (p.isSome=true/\p.isSome=true/\((ad p 4).isSome=true/\0<=v/\v<(↑17:Int))/\gu w (ad (ad p 4) (v.toNat*1)) λx=>bI x 0 w λx=>aA A2 139 (.bu [.one (.int .i64),.one (.int .i64),.one (.int .i64)]) [ag x,aa g] w λ(x:Int×Int×Int×Unit) b=>au b (a (x.1,x.2.1,x.2.2.1,()))))):=by kernel_rfl
theorem MK (p:Option AB) (v g:Int) (w:A1) (d:Int×Bool×Unit->A1->Prop):(aJ V0 (λ_=>[]) 174 [ag p,aa v,aa g] w d)=(
 ∃x,ae A2 19 [ag p,aa v] w (.bool x)/\aI (!x) (au w (d (0,false,()))) (p.isSome=true/\p.isSome=true/\((ad p 4).isSome=true/\0<=v/\v<(↑17:Int))/\gu w (ad (ad p 4) (v.toNat*1)) λx=>td x 1 w λx=> ∃(a:Int×Int×Unit), ∃(b:Bool),mA w x .i64 g (.agg ⟨[aa 0,aa 0]⟩) (.agg ⟨[aa a.1,aa a.2.1]⟩) b/\aM w ⟨[aa 0,aa 0]⟩ 263 λe c=>aC c (af e) [aa a.1,aa a.2.1] λc=>true=true/\aW c (ad (af e) 0) λx=>au c (d (x,
 b,())))):=by kernel_rfl
theorem Ib (p:Option AB) (w:A1) (a:Option AB->A1->Prop):(aJ V0 (λ_=>[]) 18 [ag p] w a)=(
 ∃x,ae A2 53 [ag p] w (.bool x)/\aI (!x) (au w (a none)) (bI p 1 w λx=>aA A2 54 (.el lZ) [ag x] w λx b=>au b (a x))):=by kernel_rfl
theorem Ic (p:Option AB) (w:A1) (a:Option AB->A1->Prop):(aJ V0 (λ_=>[]) 23 [ag p] w a)=(
 ∃x,ae A2 53 [ag p] w (.bool x)/\aI (!x) (au w (a none)) (bI p 0 w λx=>au w (a x))):=by kernel_rfl
theorem Sm (p:Option AB) (f:Int) (w:A1) (d:Int->A1->Prop):(aJ V0 (λ_=>[]) 43 [ag p,aa f] w d)=(
 ∃x,ae A2 53 [ag p] w (.bool x)/\aI (!x) (au w (d 10)) (bI p 1 w λx=> ∃(a:(Int×Int×Int×Int×Unit)×Bool×Unit),ae A2 25 [ag x,aa f] w (.tuple {toList:=[.agg ⟨[aa a.1.1,aa a.1.2.1,aa a.1.2.2.1,aa a.1.2.2.2.1]⟩,.bool a.2.1]})/\aM w ⟨[aa 0,aa 0,aa 0,aa 0]⟩ 52 λb c=>aC c (af b) [aa a.1.1,aa a.1.2.1,aa a.1.2.2.1,aa a.1.2.2.2.1] λc=>aI (!a.2.1) (au c (d 2)) (true=true/\aW c (ad (af
 b) 0) λx=>aI (x != 5) (au c (d 6)) (bI p 1 c λx=>aA A2 79 (.el aV) [ag x,aa f] c λ(x:Int) c=>au c (d x))))):=by kernel_rfl
theorem ML (p:Option AB) (v a:Int) (w:A1) (b:Int->A1->Prop):(aJ V0 (λ_=>[]) 179 [ag p,aa v,az a] w b)=(
 aI (decide (a<1)||decide (a>16)||aE .i64 a==v) (au w (b 1)) (∃x,ae A2 165 [ag p,az a] w (.bool x)/\aI (!x) (au w (b 4)) (au w (b 0)))):=by kernel_rfl
theorem Sn (p:Option AB) (v a t:Int) (w:A1) (d:Int×Int×Unit->A1->Prop):(aJ V0 (λ_=>[]) 178 [ag p,aa v,az a,aa t] w d)=(
 aI (decide (a>=1048576)) (au w (d (0,2,()))) (bI p 0 w λx=> ∃(e:Int),ae A2 21 [ag p,aa v] w (aa e)/\(aA A2 223 (.el dV) [ag x,aa e,aa (aE .i64 (xm .u64 a 16)),aa t] w λ(x:Int×Int×Int×Int×Unit) c=>aM c ⟨[aa 0,aa 0,aa 0,aa 0]⟩ 48 λb c=>aC c (af b) [aa x.1,aa x.2.1,aa x.2.2.1,aa x.2.2.2.1] λc=>true=true/\aW c (ad (af b) 0) λx=>true=true/\aW c (ad (af b) 3) λf=>au
 c λw1=>d (aH .i64 (gq .i64 16 x) (aE .i64 (dz a 16)),f,()) w1)/\aM w ⟨[aa 0,aa 0,aa 0,aa 0]⟩ 48 λb c=>aA A2 223 (.el dV) [ag x,aa e,aa (aE .i64 (xm .u64 a 16)),aa t] c λ(x:Int×Int×Int×Int×Unit) c=>aC c (af b) [aa x.1,aa x.2.1,aa x.2.2.1,aa x.2.2.2.1] λc=>true=true/\aW c (ad (af b) 0) λx=>true=true/\aW c (ad (af b) 3) λf=>au c λw1=>d (aH .i64 (gq .i64 16 x) (aE .i64 (dz a 16)),
 f,()) w1)):=by kernel_rfl
def rn:Nat->a6:=(λ|3=>[(3,Go.RX.El.one (Go.RX.Sc.int AY))]| _=>[])
theorem MM (p:Option AB) (w:A1) (c:Int->A1->Prop):(aJ V0 rn 168 [ag p] w c)=(
 td p 1 w λx=>RgP w x λb a=> ∃(I:Nat->Int×Unit->A1->Prop),(∃n, ∀w1,Ext a w1->I n (65536,()) w1)/\ ∀(n:Nat) (s:Int×Unit) (w1:A1),I n s w1->NxP w1 (af b) (λa=>au a (c s.1)) λ(k v:AC) a=> ∃(x:Int), ∃(v:AC),AE a (af b) (aa x) v/\ ∀d,Ext a d-> ∃(e:Nat),e<n/\I e (kK s.1 x,()) d):=by kernel_rfl
def uF:Nat->a6:=(λ_=>[])
theorem So (p:Option AB) (v g:Int) (w:A1) (d:Unit->A1->Prop):(aJ V0 uF 167 [ag p,aa v,aa g] w d)=(
 p.isSome=true/\p.isSome=true/\((ad p 4).isSome=true/\0<=v/\v<(↑17:Int))/\gu w (ad (ad p 4) (v.toNat*1)) λx=>td x 1 w λf=> ∃(c:Int×Int×Unit),jV w f .i64 g (.agg ⟨[aa 0,aa 0]⟩) (.agg ⟨[aa c.1,aa c.2.1]⟩)/\aM w ⟨[aa 0,aa 0]⟩ 263 λb a=>aC a (af b) [aa c.1,aa c.2.1] λa=>td x 1 a λh=> ∀w1,Ext a w1-> ∃(r:Nat), ∃(es:Array AM), ∃(e:Nat),h=some r/\bH w1 r es e/\AD w1 r .i64 g es e λa=>bI x 0 a λx=>aA
 A2 175 (.bu [.one (.int .i64),.one (.int .i64)]) [ag x,aa g] a λ(x:Int×Int×Unit) a=>bI p 1 a λx=>true=true/\aW a (ad (af b) 1) λi=>aA A2 183 (.el aV) [ag x,aa i,aa (-1)] a λ(x:Int) a=>bI p 2 a λx=>true=true/\aW a (ad (af b) 0) λj=>aA A2 182 (.el aV) [ag x,aa j,aa v] a λ(x:Int) a=>au a (d ())):=by kernel_rfl
theorem V' (n:Int) (w:A1) (c:Option AB×Int×Unit->A1->Prop):(aJ V0 (λ_=>[]) 40 [aa n] w c)=(
 aI (decide (n<4)||decide (n>4096)) (au w (c (none,1,()))) (aM w {toList:=[ag none,ag none,ag none,ag none,ag none,ag none,ag none,ag none,ag none,ag none,ag none,ag none,ag none,ag none,ag none,ag none,ag none,ag none,ag none,ag none,ag none]} 115 λb a=>aA A2 33 (.bu [.one .ptr,.one (.int .i64)]) [aa (gq .i64 16 n)] a λ(x:Option AB×Int×Unit) a=>true=true/\true=true/\aC a (ad
 (af b) 0) [ag x.1] λa=>aA A2 72 (.bu [.one .ptr,.one (.int .i64)]) [aa n] a λ(x:Option AB×Int×Unit) a=>true=true/\true=true/\aC a (ad (af b) 1) [ag x.1] λa=>aA A2 73 (.bu [.one .ptr,.one (.int .i64)]) [aa 16] a λ(x:Option AB×Int×Unit) a=>true=true/\true=true/\aC a (ad (af b) 2) [ag x.1] λa=>aA A2 74 (.bu [.one .ptr,.one (.int .i64)]) [aa 4] a λ(x:Option AB×Int×Unit) a=>true=true/\true=true/\aC a (ad (af b) 3) [ag x.1] λ
 a=>au a (c (some ⟨b,0,none⟩,0,())))):=by kernel_rfl
theorem MN (w:A1) (u:Option Nat->A1->Prop):(aJ V0 (λ_=>[]) 78 [] w u)=(
 ∀w1,Ext w w1-> ∀c,Ext (w1.alloc (Obj.map ⟨[]⟩ 0)) c-> ∃(r:Nat), ∃(es:Array AM), ∃(a:Nat),some w1.heap.size=some r/\bH c r es a/\ib c r .i64 1 (.func (.func 121) ⟨[]⟩ ⟨[]⟩) es a λb=> ∀d,Ext b d-> ∃(r:Nat), ∃(es:Array AM), ∃(a:Nat),some w1.heap.size=some r/\bH d r es a/\ib d r .i64 2 (.func (.func 122) ⟨[]⟩ ⟨[]⟩) es a λb=> ∀e,Ext b e-> ∃(r:Nat), ∃(es:Array AM), ∃(a:Nat),some w1.heap.size=some r/\bH e r es a/\ib e r .i64 17 (.func (.func
 123) ⟨[]⟩ ⟨[]⟩) es a λb=> ∀f,Ext b f-> ∃(r:Nat), ∃(es:Array AM), ∃(a:Nat),some w1.heap.size=some r/\bH f r es a/\ib f r .i64 3 (.func (.func 124) ⟨[]⟩ ⟨[]⟩) es a λb=> ∀g,Ext b g-> ∃(r:Nat), ∃(es:Array AM), ∃(a:Nat),some w1.heap.size=some r/\bH g r es a/\ib g r .i64 4 (.func (.func 125) ⟨[]⟩ ⟨[]⟩) es a λb=> ∀h,Ext b h-> ∃(r:Nat), ∃(es:Array AM), ∃(a:Nat),some w1.heap.size=some r/\bH h r es a/\ib h r .i64 5 (.func (.func 126) ⟨[]⟩
 ⟨[]⟩) es a λb=> ∀i,Ext b i-> ∃(r:Nat), ∃(es:Array AM), ∃(a:Nat),some w1.heap.size=some r/\bH i r es a/\ib i r .i64 6 (.func (.func 127) ⟨[]⟩ ⟨[]⟩) es a λb=> ∀j,Ext b j-> ∃(r:Nat), ∃(es:Array AM), ∃(a:Nat),some w1.heap.size=some r/\bH j r es a/\ib j r .i64 7 (.func (.func 128) ⟨[]⟩ ⟨[]⟩) es a λb=> ∀k,Ext b k-> ∃(r:Nat), ∃(es:Array AM), ∃(a:Nat),some w1.heap.size=some r/\bH k r es a/\ib k r .i64 8 (.func (.func 129) ⟨[]⟩ ⟨[]⟩) es
 a λb=> ∀l,Ext b l-> ∃(r:Nat), ∃(es:Array AM), ∃(a:Nat),some w1.heap.size=some r/\bH l r es a/\ib l r .i64 9 (.func (.func 130) ⟨[]⟩ ⟨[]⟩) es a λb=> ∀m,Ext b m-> ∃(r:Nat), ∃(es:Array AM), ∃(a:Nat),some w1.heap.size=some r/\bH m r es a/\ib m r .i64 10 (.func (.func 131) ⟨[]⟩ ⟨[]⟩) es a λb=> ∀n,Ext b n-> ∃(r:Nat), ∃(es:Array AM), ∃(a:Nat),some w1.heap.size=some r/\bH n r es a/\ib n r .i64 11 (.func (.func 132) ⟨[]⟩ ⟨[]⟩)
 es a λb=> ∀o,Ext b o-> ∃(r:Nat), ∃(es:Array AM), ∃(a:Nat),some w1.heap.size=some r/\bH o r es a/\ib o r .i64 12 (.func (.func 133) ⟨[]⟩ ⟨[]⟩) es a λb=> ∀p,Ext b p-> ∃(r:Nat), ∃(es:Array AM), ∃(a:Nat),some w1.heap.size=some r/\bH p r es a/\ib p r .i64 13 (.func (.func 134) ⟨[]⟩ ⟨[]⟩) es a λb=> ∀q,Ext b q-> ∃(r:Nat), ∃(es:Array AM), ∃(a:Nat),some w1.heap.size=some r/\bH q r es a/\ib q r .i64 14 (.func (.func 135) ⟨[]⟩
 ⟨[]⟩) es a λb=> ∀s,Ext b s-> ∃(r:Nat), ∃(es:Array AM), ∃(a:Nat),some w1.heap.size=some r/\bH s r es a/\ib s r .i64 15 (.func (.func 136) ⟨[]⟩ ⟨[]⟩) es a λb=> ∀t,Ext b t-> ∃(r:Nat), ∃(es:Array AM), ∃(a:Nat),some w1.heap.size=some r/\bH t r es a/\ib t r .i64 16 (.func (.func 137) ⟨[]⟩ ⟨[]⟩) es a λb=>au b (u (some w1.heap.size))):=by kernel_rfl
def ov:Nat->a6:=(λ|2=>[(7,Go.RX.El.one (Go.RX.Sc.int AY))]| _=>[])
theorem FH (p:Option AB) (v k a b c:Int) (w:A1) (e:RS->A1->Prop):(bT V0 ov 121 [ag p,aa v,.agg ⟨[aa k,az a,az b,az c]⟩] w e)=(
 aM w ⟨[aa k,az a,az b,az c]⟩ 31 λb d=>aM d ⟨[az 0,aa 0]⟩ 61 λb d=> ∃(I:Nat->Int×Unit->A1->Prop),(∃n, ∀w1,Ext d w1->I n (1,()) w1)/\ ∀(n:Nat) (s:Int×Unit) (w1:A1),I n s w1->aI (decide (s.1<=16)) (p.isSome=true/\p.isSome=true/\((ad p 4).isSome=true/\0<=s.1/\s.1<(↑17:Int))/\gu w1 (ad (ad p 4) (Ay s.1*1)) λx=>aI (!x.isNone) (∀f,Ext w1 f-> ∃(g:Nat),g<n/\I g (aH .i64 s.1 1,()) f) (bI p 0 w1 λx=>bI p 1 w1 λh=>aA
 A2 164 (.bu [.one .ptr,.one (.int .i64)]) [ag x,ag h,aa s.1] w1 λ(x:Option AB×Int×Unit) d=>aI (x.2.1==0) (∀w1,Ext d w1->aM (w1.alloc (Obj.map ⟨[]⟩ 0)) ⟨[ag x.1,.map (some w1.heap.size)]⟩ 121 λi d=>p.isSome=true/\p.isSome=true/\((ad p 4).isSome=true/\0<=s.1/\s.1<(↑17:Int))/\aC d (ad (ad p 4) (Ay s.1*1)) [ag (af i)] λd=>aC d (af b) [az (aE .u64 s.1),aa x.2.1] λd=>au d λw1=>aj w1 none (af b) cD λ(x:Int×Int×Unit)=>e (x.1,x.2.1,
 ()) w1) (aC d (af b) [az (aE .u64 s.1),aa x.2.1] λd=>au d λw1=>aj w1 none (af b) cD λ(x:Int×Int×Unit)=>e (x.1,x.2.1,()) w1))) (True/\aC w1 (af b) [az 0,aa 3] λd=>au d λw1=>aj w1 none (af b) cD λ(x:Int×Int×Unit)=>e (x.1,x.2.1,()) w1)):=by kernel_rfl
def nr:Nat->a6:=(λ|5=>[(34,Go.RX.El.one (Go.RX.Sc.int AY))]|12=>[]|19=>[(13,Go.RX.El.one (Go.RX.Sc.int AY)),(93,Go.RX.El.one (Go.RX.Sc.int AY))]| _=>[])
theorem Dx (p:Option AB) (v k a b c:Int) (w:A1) (l:RS->A1->Prop):(bT V0 nr 122 [ag p,aa v,.agg ⟨[aa k,az a,az b,az c]⟩] w l)=(
 aM w ⟨[aa k,az a,az b,az c]⟩ 31 λb d=>aM d ⟨[az 0,aa 0]⟩ 61 λi d=>true=true/\cM d (ad (af b) 1) λx=> ∃r,ae A2 165 [ag p,az x] d (.bool r)/\aI (!r) (True/\aC d (af i) [az 0,aa 4] λd=>au d λw1=>aj w1 none (af i) cD λ(x:Int×Int×Unit)=>l (x.1,x.2.1,()) w1) (true=true/\cM d (ad (af b) 1) λx=>bI p 1 d λz=>aA A2 166 (.el eH) [ag z,aa (aE .i64 x)] d λm d=> ∃(I:Nat->
 Int×Unit->A1->Prop),(∃n, ∀w1,Ext d w1->I n (0,()) w1)/\ ∀(n:Nat) (s:Int×Unit) (w1:A1),I n s w1->aI (decide (s.1<(↑m.2.1:Int))) ((m.1.isSome=true/\0<=s.1/\s.1<(↑m.2.1:Int))/\aW w1 (ad m.1 (Ay s.1*1)) λx=>bI p 1 w1 λj=> ∃(e:(Int×Int×Int×Int×Unit)×Bool×Unit),ae A2 25 [ag j,aa x] w1 (.tuple {toList:=[.agg ⟨[aa e.1.1,aa e.1.2.1,aa e.1.2.2.1,aa e.1.2.2.2.1]⟩,.bool e.2.1]})/\aM w1 ⟨[aa 0,aa 0,aa 0,.int
 .i64 0]⟩ 52 λb d=>aC d (af b) [aa e.1.1,aa e.1.2.1,aa e.1.2.2.1,aa e.1.2.2.2.1] λd=>true=true/\aW d (ad (af b) 2) λx=>aI (decide (x>0)) (True/\aC d (af i) [az 0,aa 9] λd=>au d λw1=>aj w1 none (af i) cD λ(x:Int×Int×Unit)=>l (x.1,x.2.1,()) w1) (∀f,Ext d f-> ∃(g:Nat),g<n/\I g (aH .i64 s.1 1,()) f)) (p.isSome=true/\p.isSome=true/\((ad p 4).isSome=true/\0<=aE .i64 x/\aE .i64 x<(↑17:Int))/\aj w1 none (ad (ad p 4)
 ((aE .i64 x).toNat*1)) lZ λj=> ∃(I:Nat->Unit->A1->Prop),(∃n, ∀t,Ext w1 t->I n () t)/\ ∀(n:Nat) (s:Unit) (w1:A1),I n s w1->td j 1 w1 λe=> ∃u,Us w1 e u/\aI (decide ((↑u:Int)>0)) (aA A2 168 (.el aV) [ag j] w1 λ(q:Int) d=>aA A2 167 (.bu []) [ag p,aa (aE .i64 x),aa q] d λx d=> ∀f,Ext d f-> ∃(g:Nat),g<n/\I g () f) (bI p 2 w1 λq=>aA A2 169 (.el aV) [ag q,aa (aE .i64 x)] w1 λ(G:Int)
 d=>bI p 3 d λA=>aA A2 170 (.el aV) [ag A,aa (aE .i64 x)] d λ(H:Int) d=>bI j 0 d λB=>aA A2 171 (.el eH) [ag B] d λJ d=>bI p 1 d λC=>aA A2 166 (.el eH) [ag C,aa (aE .i64 x)] d λo d=> ∃(I:Nat->Int×Int×Unit->A1->Prop),(∃n, ∀w1,Ext d w1->I n (0,0,()) w1)/\ ∀(n:Nat) (s:Int×Int×Unit) (w1:A1),I n s w1->aI (decide (s.2.1<(↑o.2.1:Int))) ((o.1.isSome=true/\0<=s.2.1/\s.2.1<(↑o.2.1:Int))/\aW w1
 (ad o.1 (Ay s.2.1*1)) λy=>bI p 1 w1 λD=> ∃(h:(Int×Int×Int×Int×Unit)×Bool×Unit),ae A2 25 [ag D,aa y] w1 (.tuple {toList:=[.agg ⟨[aa h.1.1,aa h.1.2.1,aa h.1.2.2.1,aa h.1.2.2.2.1]⟩,.bool h.2.1]})/\aM w1 ⟨[aa 0,aa 0,aa 0,aa 0]⟩ 52 λb d=>aC d (af b) [aa h.1.1,aa h.1.2.1,aa h.1.2.2.1,aa h.1.2.2.2.1] λd=>true=true/\aW d (ad (af b) 0) λE=>aI (E==4) (bI p 1
 d λF=>aA A2 138 (.el aV) [ag F,aa y,aa 5,aa (aE .i64 x)] d λ(x:Int) d=> ∀f,Ext d f-> ∃(g:Nat),g<n/\I g (aH .i64 s.1 1,aH .i64 s.2.1 1,()) f) (∀f,Ext d f-> ∃(g:Nat),g<n/\I g (s.1,aH .i64 s.2.1 1,()) f)) (p.isSome=true/\p.isSome=true/\((ad p 4).isSome=true/\0<=aE .i64 x/\aE .i64 x<(↑17:Int))/\aC w1 (ad (ad p 4) ((aE .i64 x).toNat*1)) [ag none] λd=>aC d (af i) [az (aE .u64 s.1),aa 0] λd=>au d λw1
 =>aj w1 none (af i) cD λ(x:Int×Int×Unit)=>l (x.1,x.2.1,()) w1))))):=by kernel_rfl
def pY:Nat->a6:=(λ|3=>[(7,Go.RX.El.one (Go.RX.Sc.int AY)),(14,Go.RX.El.one (Go.RX.Sc.int AY))]| _=>[])
theorem Ie (p:Option AB) (v k a b c:Int) (w:A1) (g:RS->A1->Prop):(bT V0 pY 123 [ag p,aa v,.agg ⟨[aa k,az a,az b,az c]⟩] w g)=(
 aM w ⟨[aa k,az a,az b,az c]⟩ 31 λb d=>aM d ⟨[az 0,aa 0]⟩ 61 λb d=>bI p 1 d λx=> ∃(h:Int),ae A2 62 [ag x] d (aa h)/\ ∃(I:Nat->Int×Int×Unit->A1->Prop),(∃n, ∀w1,Ext d w1->I n (0,0,()) w1)/\ ∀(n:Nat) (s:Int×Int×Unit) (w1:A1),I n s w1->aI (decide (s.2.1<h)) (aA A2 43 (.el aV) [ag p,aa s.2.1] w1 λ(x:Int) d=>aI (x==0) (∀e,Ext d e-> ∃(f:Nat),f<n/\I f (aH .i64 s.1 1,aH .i64 s.2.1 1,()) e)
 (∀e,Ext d e-> ∃(f:Nat),f<n/\I f (s.1,aH .i64 s.2.1 1,()) e)) (aC w1 (af b) [az (aE .u64 s.1),aa 0] λd=>au d λw1=>aj w1 none (af b) cD λ(x:Int×Int×Unit)=>g (x.1,x.2.1,()) w1)):=by kernel_rfl
def ow:Nat->a6:=(λ|13=>[(66,Go.RX.El.one (Go.RX.Sc.int AY))]| _=>[])
abbrev gD (a:RS->A1->Prop) (b:A1) (c:Nat):Prop:=
 au b λw1=>aj w1 none (af c) cD λ(x:Int×Int×Unit)=>a (x.1,x.2.1,()) w1
theorem FI (p:Option AB) (v k a b c:Int) (w:A1) (f:RS->A1->Prop):(bT V0 ow 124 [ag p,aa v,.agg ⟨[aa k,az a,az b,az c]⟩] w f)=(
 aM w ⟨[aa k,az a,az b,az c]⟩ 31 λb d=>aM d ⟨[az 0,aa 0]⟩ 61 λe d=>true=true/\cM d (ad (af b) 1) λx=>aI (decide (x>=65536)) (True/\aC d (af e) [az 0,aa 2] λd=>gD f d e) (true=true/\cM d (ad (af b) 2) λx=>((!decide (x<1))=true->true=true)/\aj d (some !decide (x<1)) (ad (af b) 2) rI λ(l:Int)=>aI (decide (x<1)||decide (l>7)) (True/\aC d (af e) [az 0,aa 7] λd=>gD f d e) (bI p 1 d
 λx=>aA A2 172 (.bu [.one (.int .i64),.one (.int .i64)]) [ag x,aa 4,aa v] d λ(x:Int×Int×Unit) d=>aI (x.2.1 != 0) (True/\aC d (af e) [az 0,aa x.2.1] λd=>gD f d e) (p.isSome=true/\p.isSome=true/\((ad p 4).isSome=true/\0<=v/\v<(↑17:Int))/\gu d (ad (ad p 4) (v.toNat*1)) λm=>bI m 0 d λo=>true=true/\cM d (ad (af b) 1) λq=>true=true/\cM d (ad (af b) 2) λr=>aA A2 173 (.el aV) [ag o,aa (aE .i64 q),
 aa x.1,aa (aE .i64 r)] d λ(h:Int) d=>aI (h != 0) (bI p 1 d λg=>aA A2 79 (.el aV) [ag g,aa x.1] d λ(x:Int) d=>True/\aC d (af e) [az 0,aa h] λd=>gD f d e) (∃(I:Nat->Int×Unit->A1->Prop),(∃n, ∀w1,Ext d w1->I n (0,()) w1)/\ ∀(n:Nat) (s:Int×Unit) (w1:A1),I n s w1->aI (decide (s.1<16)) (bI p 0 w1 λg=>aA A2 38 (.el aV) [ag g,aa (aH .i64 (gq .i64 16 x.1) s.1),az 0] w1 λ(x:Int) d=> ∀
 i,Ext d i-> ∃(j:Nat),j<n/\I j (aH .i64 s.1 1,()) i) (aC w1 (af e) [az (aE .u64 x.1),aa 0] λd=>gD f d e)))))):=by kernel_rfl
abbrev fN (a:RS->A1->Prop) (b:A1) (c:Nat):Prop:=
 au b λw1=>aj w1 none (af c) cD λ(x:Int×Int×Unit)=>a (x.1,x.2.1,()) w1
theorem Dy (p:Option AB) (v k a b c:Int) (w:A1) (g:RS->A1->Prop):(bT V0 (λ_=>[]) 125 [ag p,aa v,.agg ⟨[aa k,az a,az b,az c]⟩] w g)=(
 aM w ⟨[aa k,az a,az b,az c]⟩ 31 λb d=>aM d ⟨[az 0,aa 0]⟩ 61 λe d=>true=true/\cM d (ad (af b) 1) λx=>aI (decide (x>=65536)) (True/\aC d (af e) [az 0,aa 2] λd=>fN g d e) (true=true/\cM d (ad (af b) 1) λx=>aA A2 81 (.bu [.one (.int .i64),.one (.int .i64),.one (.int .i64)]) [ag p,aa v,aa (aE .i64 x)] d λ(h:Int×Int×Int×Unit) d=>aI (h.2.2.1 != 0) (True/\aC d (af e) [az 0,aa h.2.2.1]
 λd=>fN g d e) (∃(i:Int×Bool×Unit),ae A2 174 [ag p,aa v,aa (aE .i64 x)] d (.tuple ⟨[aa i.1,.bool i.2.1]⟩)/\aI i.2.1 (True/\aC d (af e) [az 0,aa 7] λd=>fN g d e) (bI p 1 d λj=> ∃(f:(Int×Int×Int×Int×Unit)×Bool×Unit),ae A2 25 [ag j,aa h.1] d (.tuple {toList:=[.agg ⟨[aa f.1.1,aa f.1.2.1,aa f.1.2.2.1,aa f.1.2.2.2.1]⟩,.bool f.2.1]})/\aM d ⟨[aa 0,aa 0,
 aa 0,aa 0]⟩ 52 λb d=>aC d (af b) [aa f.1.1,aa f.1.2.1,aa f.1.2.2.1,aa f.1.2.2.2.1] λd=>true=true/\aW d (ad (af b) 2) λl=>aI (decide (l>0)) (True/\aC d (af e) [az 0,aa 9] λd=>fN g d e) (p.isSome=true/\p.isSome=true/\((ad p 4).isSome=true/\0<=v/\v<(↑17:Int))/\gu d (ad (ad p 4) (v.toNat*1)) λm=>bI m 0 d λn=>aA A2 175 (.bu [.one (.int .i64),.one (.int .i64)]) [ag n,aa (aE .i64 x)] d λ(x
 :Int×Int×Unit) d=>bI p 1 d λx=>aA A2 138 (.el aV) [ag x,aa h.1,aa 5,aa v] d λ(x:Int) d=>aC d (af e) [az (aE .u64 h.1),aa 0] λd=>fN g d e))))):=by kernel_rfl
abbrev kr (a:RS->A1->Prop) (b:A1) (c:Nat):Prop:=
 au b λw1=>aj w1 none (af c) cD λ(x:Int×Int×Unit)=>a (x.1,x.2.1,()) w1
abbrev ox (p:Option AB) (v:Int) (e:RS->A1->Prop) (a:A1) (c:Nat) (d:Nat):Prop:=
 p.isSome=true/\p.isSome=true/\((ad p 4).isSome=true/\0<=v/\v<(↑17:Int))/\gu a (ad (ad p 4) (v.toNat*1)) λx=>bI x 0 a λx=>true=true/\cM a (ad (af c) 1) λf=>true=true/\cM a (ad (af c) 2) λg=>aA A2 177 (.el aV) [ag x,aa (aE .i64 f),aa (aE .i64 g)] a λ(x:Int) b=>True/\aC b (af d) [az 0,aa x] λb=>kr e b d
abbrev oy (b:RS->A1->Prop) (c:A1) (a:Nat):Prop:=
 True/\aC c (af a) [az 0,aa 7] λd=>kr b d a
theorem Dz (p:Option AB) (v k a b c:Int) (w:A1) (f:RS->A1->Prop):(bT V0 (λ_=>[]) 126 [ag p,aa v,.agg ⟨[aa k,az a,az b,az c]⟩] w f)=(
 aM w ⟨[aa k,az a,az b,az c]⟩ 31 λb d=>aM d ⟨[az 0,aa 0]⟩ 61 λg d=>true=true/\cM d (ad (af b) 1) λx=>aI (decide (x>=65536)) (True/\aC d (af g) [az 0,aa 2] λd=>kr f d g) (true=true/\cM d (ad (af b) 2) λx=>((!decide (x<1))=true->true=true)/\aj d (some !decide (x<1)) (ad (af b) 2) rI λ(j:Int)=>aI (decide (x<1)||decide (j>7)) (oy f d g) (true=true/\cM d (ad (af b) 1) λx=> ∃(h:Int×Bool×
 Unit),ae A2 174 [ag p,aa v,aa (aE .i64 x)] d (.tuple ⟨[aa h.1,.bool h.2.1]⟩)/\(h.2.1=true->true=true)/\aj d (some h.2.1) (ad (af b) 2) rI λ(x:Int)=>aI (h.2.1&&decide (ny .u64 x 2>0)) (bI p 2 d λx=> ∃(e:(Int×Int×Int×Bool×Int×Unit)×Bool×Unit),ae A2 176 [ag x,aa h.1] d (.tuple {toList:=[.agg ⟨[aa e.1.1,aa e.1.2.1,aa e.1.2.2.1,.bool e.1.2.2.2.1,aa e.1.2.2.2.2.1]⟩,.bool e.2.1]})/\aM d ⟨[aa 0,.int .i64
 0,aa 0,.bool false,aa 0]⟩ 255 λi d=>aC d (af i) [aa e.1.1,aa e.1.2.1,aa e.1.2.2.1,.bool e.1.2.2.2.1,aa e.1.2.2.2.2.1] λd=>true=true/\u9 d (ad (af i) 3) λx=>aI (!x) (oy f d g) (ox p v f d b g)) (ox p v f d b g)))):=by kernel_rfl
theorem MO (p:Option AB) (v k a b c:Int) (w:A1) (f:RS->A1->Prop):(bT V0 (λ_=>[]) 127 [ag p,aa v,.agg ⟨[aa k,az a,az b,az c]⟩] w f)=(
 aM w ⟨[aa k,az a,az b,az c]⟩ 31 λb d=>aM d ⟨[az 0,aa 0]⟩ 61 λe d=>true=true/\cM d (ad (af b) 1) λx=>aA A2 178 (.bu [.one (.int .i64),.one (.int .i64)]) [ag p,aa v,az x,aa 1] d λ(x:Int×Int×Unit) d=>aI (x.2.1 != 0) (True/\aC d (af e) [az 0,aa x.2.1] λd=>au d λw1=>aj w1 none (af e) cD λ(x:Int×Int×Unit)=>f (x.1,x.2.1,()) w1) (bI p 0 d λg=>aA A2 37 (.bu [.one (.int .u64),.one (.int
 .i64)]) [ag g,aa x.1] d λ(x:Int×Int×Unit) d=>aC d (af e) [az x.1,aa x.2.1] λd=>au d λw1=>aj w1 none (af e) cD λ(x:Int×Int×Unit)=>f (x.1,x.2.1,()) w1)):=by kernel_rfl
theorem If (p:Option AB) (v k a b c:Int) (w:A1) (f:RS->A1->Prop):(bT V0 (λ_=>[]) 128 [ag p,aa v,.agg ⟨[aa k,az a,az b,az c]⟩] w f)=(
 aM w ⟨[aa k,az a,az b,az c]⟩ 31 λb d=>aM d ⟨[az 0,aa 0]⟩ 61 λe d=>true=true/\cM d (ad (af b) 1) λx=>aA A2 178 (.bu [.one (.int .i64),.one (.int .i64)]) [ag p,aa v,az x,aa 2] d λ(x:Int×Int×Unit) d=>aI (x.2.1 != 0) (True/\aC d (af e) [az 0,aa x.2.1] λd=>au d λw1=>aj w1 none (af e) cD λ(x:Int×Int×Unit)=>f (x.1,x.2.1,()) w1) (bI p 0 d λg=>true=true/\cM d (ad (af b) 2) λh=>aA
 A2 38 (.el aV) [ag g,aa x.1,az h] d λ(x:Int) d=>True/\aC d (af e) [az 0,aa x] λd=>au d λw1=>aj w1 none (af e) cD λ(x:Int×Int×Unit)=>f (x.1,x.2.1,()) w1)):=by kernel_rfl
abbrev iE (a:RS->A1->Prop) (b:A1) (c:Nat):Prop:=
 au b λw1=>aj w1 none (af c) cD λ(x:Int×Int×Unit)=>a (x.1,x.2.1,()) w1
theorem Ig (p:Option AB) (v k a b c:Int) (w:A1) (f:RS->A1->Prop):(bT V0 (λ_=>[]) 129 [ag p,aa v,.agg ⟨[aa k,az a,az b,az c]⟩] w f)=(
 aM w ⟨[aa k,az a,az b,az c]⟩ 31 λb d=>aM d ⟨[az 0,aa 0]⟩ 61 λe d=>true=true/\cM d (ad (af b) 2) λx=> ∃(g:Int),ae A2 179 [ag p,aa v,az x] d (aa g)/\true=true/\cM d (ad (af b) 1) λx=>aI (decide (x>=65536)) (True/\aC d (af e) [az 0,aa 2] λd=>iE f d e) (((!g==1)=true->true=true)/\aj d (some !g==1) (ad (af b) 3) rI λ(x:Int)=>aI (g==1||decide (x>1)) (True/\aC d (af e) [.int
 .u64 0,aa 1] λd=>iE f d e) (true=true/\cM d (ad (af b) 1) λx=>aA A2 81 (.bu [.one (.int .i64),.one (.int .i64),.one (.int .i64)]) [ag p,aa v,aa (aE .i64 x)] d λ(x:Int×Int×Int×Unit) d=>aI (x.2.2.1 != 0||g != 0) (True/\aC d (af e) [az 0,aa 4] λd=>iE f d e) (true=true/\cM d (ad (af b) 1) λx=> ∃(h:Int×Bool×Unit),ae A2 174 [ag p,aa v,aa (aE .i64 x)] d (.tuple ⟨[aa h.1,.bool h.2.1]⟩)/\
 aI h.2.1 (True/\aC d (af e) [az 0,aa 7] λd=>iE f d e) (bI p 2 d λx=>true=true/\cM d (ad (af b) 1) λi=>true=true/\cM d (ad (af b) 2) λj=>true=true/\cM d (ad (af b) 3) λl=>aA A2 180 (.bu [.one (.int .i64),.one (.int .i64)]) [ag x,aa v,aa (aE .i64 i),aa (aE .i64 j),.bool (l==1)] d λ(x:Int×Int×Unit) d=>aC d (af e) [az (aE .u64 x.1),aa x.2.1] λd=>iE f d e))))):=by kernel_rfl
theorem MP (p:Option AB) (v k a b c:Int) (w:A1) (f:RS->A1->Prop):(bT V0 (λ_=>[]) 130 [ag p,aa v,.agg ⟨[aa k,az a,az b,az c]⟩] w f)=(
 aM w ⟨[aa k,az a,az b,az c]⟩ 31 λb d=>aM d ⟨[az 0,aa 0]⟩ 61 λe d=>true=true/\cM d (ad (af b) 2) λx=>aI (decide (x>=65536)) (True/\aC d (af e) [az 0,aa 2] λd=>au d λw1=>aj w1 none (af e) cD λ(x:Int×Int×Unit)=>f (x.1,x.2.1,()) w1) (true=true/\cM d (ad (af b) 1) λx=>((!decide (x>=16))=true->true=true)/\aj d (some !decide (x>=16)) (ad (af b) 3) rI λ(A:Int)=>aI (decide (x>=16)||decide (A>1)) (True/\aC d (af
 e) [az 0,aa 1] λd=>au d λw1=>aj w1 none (af e) cD λ(x:Int×Int×Unit)=>f (x.1,x.2.1,()) w1) (true=true/\cM d (ad (af b) 1) λx=>true=true/\cM d (ad (af b) 2) λn=>true=true/\cM d (ad (af b) 3) λj=>bI p 2 d λB=> ∃(g:(Int×Int×Int×Bool×Int×Unit)×Bool×Unit),ae A2 176 [ag B,aa (aE .i64 x)] d (.tuple {toList:=[.agg ⟨[aa g.1.1,aa g.1.2.1,aa g.1.2.2.1,.bool g.1.2.2.2.1,aa g.1.2.2.2.2.1]⟩,.bool
 g.2.1]})/\aM d ⟨[aa 0,aa 0,aa 0,.bool false,aa 0]⟩ 255 λb d=>aC d (af b) [aa g.1.1,aa g.1.2.1,aa g.1.2.2.1,.bool g.1.2.2.2.1,aa g.1.2.2.2.2.1] λd=>aI (!g.2.1) (True/\aC d (af e) [az 0,aa 4] λd=>au d λw1=>aj w1 none (af e) cD λ(x:Int×Int×Unit)=>f (x.1,x.2.1,()) w1) (true=true/\aW d (ad (af b) 2) λo=>((!o != v&&j==1)=true->true=true)/\aj d (some (!o != v&&j==1)) (ad (af b) 3) rJ λC=>aI
 (o != v||j==1&& !C) (True/\aC d (af e) [az 0,aa 7] λd=>au d λw1=>aj w1 none (af e) cD λ(x:Int×Int×Unit)=>f (x.1,x.2.1,()) w1) (true=true/\aW d (ad (af b) 0) λD=>true=true/\aW d (ad (af b) 1) λE=>aA A2 81 (.bu [.one (.int .i64),.one (.int .i64),.one (.int .i64)]) [ag p,aa D,aa E] d λ(h:Int×Int×Int×Unit) d=>aI (h.2.2.1 != 0) (True/\aC d (af e) [az 0,aa 4] λd=>au d λw1=>aj w1 none (af e) cD λ
 (x:Int×Int×Unit)=>f (x.1,x.2.1,()) w1) (true=true/\aW d (ad (af b) 0) λF=>true=true/\aW d (ad (af b) 1) λG=> ∃(q:Int×Bool×Unit),ae A2 174 [ag p,aa F,aa G] d (.tuple ⟨[aa q.1,.bool q.2.1]⟩)/\aI q.2.1 (True/\aC d (af e) [az 0,aa 7] λd=>au d λw1=>aj w1 none (af e) cD λ(x:Int×Int×Unit)=>f (x.1,x.2.1,()) w1) (bI p 2 d λH=>aA A2 181 (.el aV) [ag H,aa (aE .i64 x),aa v,
 .bool (j==1)] d λ(z:Int) d=>aI (z != 0) (True/\aC d (af e) [az 0,aa z] λd=>au d λw1=>aj w1 none (af e) cD λ(x:Int×Int×Unit)=>f (x.1,x.2.1,()) w1) (aI (j==1) (p.isSome=true/\p.isSome=true/\((ad p 4).isSome=true/\0<=v/\v<(↑17:Int))/\gu d (ad (ad p 4) (v.toNat*1)) λs=>bI s 0 d λt=>aA A2 173 (.el aV) [ag t,aa (aE .i64 n),aa h.1,aa (orI .i64 1 2)] d λ(l:Int) d=>aI (l != 0) (bI p 2 d λi
 =>aA A2 182 (.el aV) [ag i,aa (aE .i64 x),aa v] d λ(x:Int) d=>True/\aC d (af e) [az 0,aa l] λd=>au d λw1=>aj w1 none (af e) cD λ(x:Int×Int×Unit)=>f (x.1,x.2.1,()) w1) (bI p 1 d λi=>aA A2 183 (.el aV) [ag i,aa h.1,aa 1] d λ(I:Int) d=>p.isSome=true/\p.isSome=true/\((ad p 4).isSome=true/\0<=v/\v<(↑17:Int))/\gu d (ad (ad p 4) (v.toNat*1)) λu=>td u 1 d λy=> ∀w1,Ext d w1-> ∃(r
 :Nat), ∃(es:Array AM), ∃(m:Nat),y=some r/\bH w1 r es m/\ib w1 r .i64 (aE .i64 n) (.agg ⟨[aa (aE .i64 x),aa h.1]⟩) es m λd=>aC d (af e) [az 0,aa 0] λd=>au d λw1=>aj w1 none (af e) cD λ(x:Int×Int×Unit)=>f (x.1,x.2.1,()) w1)) (p.isSome=true/\p.isSome=true/\((ad p 4).isSome=true/\0<=v/\v<(↑17:Int))/\gu d (ad (ad p 4) (v.toNat*1)) λs=>bI s 0 d λt=>aA A2 173 (.el aV) [ag t,aa (aE .i64 n),
 aa h.1,aa 1] d λ(l:Int) d=>aI (l != 0) (bI p 2 d λi=>aA A2 182 (.el aV) [ag i,aa (aE .i64 x),aa v] d λ(x:Int) d=>True/\aC d (af e) [az 0,aa l] λd=>au d λw1=>aj w1 none (af e) cD λ(x:Int×Int×Unit)=>f (x.1,x.2.1,()) w1) (bI p 1 d λi=>aA A2 183 (.el aV) [ag i,aa h.1,aa 1] d λ(I:Int) d=>p.isSome=true/\p.isSome=true/\((ad p 4).isSome=true/\0<=v/\v<(↑17:Int))/\gu
 d (ad (ad p 4) (v.toNat*1)) λu=>td u 1 d λy=> ∀w1,Ext d w1-> ∃(r:Nat), ∃(es:Array AM), ∃(m:Nat),y=some r/\bH w1 r es m/\ib w1 r .i64 (aE .i64 n) (.agg ⟨[aa (aE .i64 x),aa h.1]⟩) es m λd=>aC d (af e) [az 0,aa 0] λd=>au d λw1=>aj w1 none (af e) cD λ(x:Int×Int×Unit)=>f (x.1,x.2.1,()) w1)))))))))):=by kernel_rfl
abbrev oa (a:RS->A1->Prop) (b:A1) (c:Nat):Prop:=
 au b λw1=>aj w1 none (af c) cD λ(x:Int×Int×Unit)=>a (x.1,x.2.1,()) w1
theorem MQ (p:Option AB) (v k a b c:Int) (w:A1) (f:RS->A1->Prop):(bT V0 (λ_=>[]) 131 [ag p,aa v,.agg ⟨[aa k,az a,az b,az c]⟩] w f)=(
 aM w ⟨[aa k,az a,az b,az c]⟩ 31 λb d=>aM d ⟨[az 0,aa 0]⟩ 61 λe d=>true=true/\cM d (ad (af b) 1) λx=>aI (decide (x>=65536)) (True/\aC d (af e) [az 0,aa 2] λd=>oa f d e) (true=true/\cM d (ad (af b) 1) λx=> ∃(g:Int×Bool×Unit),ae A2 174 [ag p,aa v,aa (aE .i64 x)] d (.tuple ⟨[aa g.1,.bool g.2.1]⟩)/\aI (!g.2.1) (True/\aC d (af e) [az 0,aa 4] λd=>oa f d e) (true=
 true/\cM d (ad (af b) 1) λx=>aA A2 167 (.bu []) [ag p,aa v,aa (aE .i64 x)] d λx d=>aC d (af e) [az 0,aa 0] λd=>oa f d e))):=by kernel_rfl
theorem FJ (p:Option AB) (v k a b c:Int) (w:A1) (f:RS->A1->Prop):(bT V0 (λ_=>[]) 132 [ag p,aa v,.agg ⟨[aa k,az a,az b,az c]⟩] w f)=(
 aM w ⟨[aa k,az a,az b,az c]⟩ 31 λb d=>aM d ⟨[az 0,aa 0]⟩ 61 λe d=>true=true/\cM d (ad (af b) 1) λx=>aI (decide (x>=16)) (True/\aC d (af e) [az 0,aa 1] λd=>au d λw1=>aj w1 none (af e) cD λ(x:Int×Int×Unit)=>f (x.1,x.2.1,()) w1) (bI p 2 d λx=>true=true/\cM d (ad (af b) 1) λg=>aA A2 184 (.el aV) [ag x,aa (aE .i64 g),aa v] d λ(x:Int) d=>True/\aC d (af e) [az 0,aa x]
 λd=>au d λw1=>aj w1 none (af e) cD λ(x:Int×Int×Unit)=>f (x.1,x.2.1,()) w1)):=by kernel_rfl
theorem MV (p:Option AB) (v k a b c:Int) (w:A1) (f:RS->A1->Prop):(bT V0 (λ_=>[]) 133 [ag p,aa v,.agg ⟨[aa k,az a,az b,az c]⟩] w f)=(
 aM w ⟨[aa k,az a,az b,az c]⟩ 31 λb d=>aM d ⟨[az 0,aa 0]⟩ 61 λe d=>true=true/\cM d (ad (af b) 1) λx=> ∃(g:Int),ae A2 179 [ag p,aa v,az x] d (aa g)/\aI (g != 0) (True/\aC d (af e) [az 0,aa g] λd=>au d λw1=>aj w1 none (af e) cD λ(x:Int×Int×Unit)=>f (x.1,x.2.1,()) w1) (bI p 3 d λx=>true=true/\cM d (ad (af b) 1) λh=>aA A2 185 (.bu [.one (.int .i64),.one (.int .i64)])
 [ag x,aa v,aa (aE .i64 h)] d λ(x:Int×Int×Unit) d=>aC d (af e) [az (aE .u64 x.1),aa x.2.1] λd=>au d λw1=>aj w1 none (af e) cD λ(x:Int×Int×Unit)=>f (x.1,x.2.1,()) w1)):=by kernel_rfl
abbrev od (a:RS->A1->Prop) (b:A1) (c:Nat):Prop:=
 au b λw1=>aj w1 none (af c) cD λ(x:Int×Int×Unit)=>a (x.1,x.2.1,()) w1
theorem MW (p:Option AB) (v k a b c:Int) (w:A1) (g:RS->A1->Prop):(bT V0 (λ_=>[]) 134 [ag p,aa v,.agg ⟨[aa k,az a,az b,az c]⟩] w g)=(
 aM w ⟨[aa k,az a,az b,az c]⟩ 31 λb d=>aM d ⟨[az 0,aa 0]⟩ 61 λe d=>true=true/\cM d (ad (af b) 1) λx=> ∃(f:Int),ae A2 179 [ag p,aa v,az x] d (aa f)/\((!f==1)=true->true=true)/\aj d (some !f==1) (ad (af b) 2) rI λ(x:Int)=>aI (f==1||decide (x>=4)) (True/\aC d (af e) [az 0,aa 1] λd=>od g d e) (aI (f != 0) (True/\aC d (af e) [az 0,aa f] λd=>od g d e)
 (bI p 3 d λx=>true=true/\cM d (ad (af b) 1) λh=>true=true/\cM d (ad (af b) 2) λi=>aA A2 186 (.bu [.one (.int .i64),.one (.int .i64)]) [ag x,aa v,aa (aE .i64 h),aa (aE .i64 i)] d λ(x:Int×Int×Unit) d=>aC d (af e) [az (aE .u64 x.1),aa x.2.1] λd=>od g d e))):=by kernel_rfl
theorem MX (p:Option AB) (v k a b c:Int) (w:A1) (f:RS->A1->Prop):(bT V0 (λ_=>[]) 135 [ag p,aa v,.agg ⟨[aa k,az a,az b,az c]⟩] w f)=(
 aM w ⟨[aa k,az a,az b,az c]⟩ 31 λb d=>aM d ⟨[az 0,aa 0]⟩ 61 λe d=>true=true/\cM d (ad (af b) 1) λx=>aI (decide (x>=4)) (True/\aC d (af e) [az 0,aa 1] λd=>au d λw1=>aj w1 none (af e) cD λ(x:Int×Int×Unit)=>f (x.1,x.2.1,()) w1) (bI p 3 d λx=>true=true/\cM d (ad (af b) 1) λg=>aA A2 187 (.el aV) [ag x,aa v,aa (aE .i64 g)] d λ(x:Int) d=>True/\aC d (af e) [az 0,aa x] λ
 d=>au d λw1=>aj w1 none (af e) cD λ(x:Int×Int×Unit)=>f (x.1,x.2.1,()) w1)):=by kernel_rfl
theorem MY (p:Option AB) (v k a b c:Int) (w:A1) (e:RS->A1->Prop):(bT V0 (λ_=>[]) 136 [ag p,aa v,.agg ⟨[aa k,az a,az b,az c]⟩] w e)=(
 aM w ⟨[aa k,az a,az b,az c]⟩ 31 λb d=>aM d ⟨[az 0,aa 0]⟩ 61 λb d=>bI p 3 d λx=>aA A2 188 (.bu [.one (.int .i64),.one .bool]) [ag x,aa v] d λ(x:Int×Bool×Unit) d=>aI (!x.2.1) (aC d (af b) [az 0,aa 0] λd=>au d λw1=>aj w1 none (af b) cD λ(x:Int×Int×Unit)=>e (x.1,x.2.1,()) w1) (aC d (af b) [az (aE .u64 (aH .i64 x.1 1)),aa 0] λd=>au d λw1=>aj w1 none (af b) cD λ(x:Int×Int×Unit)=>e
 (x.1,x.2.1,()) w1)):=by kernel_rfl
theorem Ih (p:Option AB) (v k a b c:Int) (w:A1) (f:RS->A1->Prop):(bT V0 (λ_=>[]) 137 [ag p,aa v,.agg ⟨[aa k,az a,az b,az c]⟩] w f)=(
 aM w ⟨[aa k,az a,az b,az c]⟩ 31 λb d=>aM d ⟨[az 0,aa 0]⟩ 61 λe d=>true=true/\cM d (ad (af b) 1) λx=>aI (decide (x>=4)) (True/\aC d (af e) [az 0,aa 1] λd=>au d λw1=>aj w1 none (af e) cD λ(x:Int×Int×Unit)=>f (x.1,x.2.1,()) w1) (bI p 3 d λx=>true=true/\cM d (ad (af b) 1) λg=>aA A2 189 (.el aV) [ag x,aa v,aa (aE .i64 g)] d λ(x:Int) d=>True/\aC d (af e) [az 0,aa x] λ
 d=>au d λw1=>aj w1 none (af e) cD λ(x:Int×Int×Unit)=>f (x.1,x.2.1,()) w1)):=by kernel_rfl
abbrev kT (a:RS->A1->Prop) (b:A1) (c:Nat):Prop:=
 au b λw1=>aj w1 none (af c) cD λ(x:Int×Int×Unit)=>a (x.1,x.2.1,()) w1
abbrev BK (d:RS->A1->Prop) (f:A1) (b:Nat) (e:Int×Int×Unit) (c:Nat):Prop:=
 aC f (af b) [az e.1,aa e.2.1] λa=>true=true/\aW a (ad (af b) 1) λx=>aI (x != 0) (true=true/\aW a (ad (af b) 1) λx=>True/\aC a (af c) [az 0,aa x] λa=>kT d a c) (aj a none (af b) cD λ(x:Int×Int×Unit)=>aC a (af c) [az x.1,aa x.2.1] λa=>kT d a c)
abbrev BL (p:Option AB) (v:Int) (b:RS->A1->Prop) (c:AC) (a:Int×Int×Int×Int×Unit) (d:A1) (e:Nat) (f:Nat):Prop:=
 Ak A2 c (.el cD) [ag p,aa v,.agg ⟨[aa a.1,az a.2.1,az a.2.2.1,az a.2.2.2.1]⟩] d λ(x:Int×Int×Unit) g=>BK b g e x f
theorem aam (p:Option AB) (v k a b c:Int) (w:A1) (f:RS->A1->Prop):(bT V1 (λ_=>[]) 42 [ag p,aa v,.agg ⟨[aa k,az a,az b,az c]⟩] w f)=(
 aM w ⟨[aa k,az a,az b,az c]⟩ 31 λb d=>aM d ⟨[az 0,aa 0]⟩ 61 λe d=> ∃x,ae A2 53 [ag p] d (.bool x)/\aI (!x) (True/\aC d (af e) [az 0,aa 10] λd=>kT f d e) (aj d (some !(decide (v<0)||decide (v>16))) (af b) rK λ(x:Int×Int×Int×Int×Unit)=> ∃j,((!(decide (v<0)||decide (v>16)))=true->ae A2 76 [.agg ⟨[aa x.1,az x.2.1,az x.2.2.1,az x.2.2.2.1]⟩] d (.bool j))/\aI (decide (v<0)||decide (v>16)
 || !j) (True/\aC d (af e) [az 0,aa 1] λd=>kT f d e) (true=true/\aW d (ad (af b) 0) λx=> ∃l,ae A2 77 [aa x] d (.bool l)/\aI (!(v==0)==l) (True/\aC d (af e) [az 0,aa 7] λd=>kT f d e) (∃x,(decide (v>0)=true->ae A2 19 [ag p,aa v] d (.bool x))/\aI (decide (v>0)&& !x) (True/\aC d (af e) [az 0,aa 4] λd=>kT f d e) (true=true/\aW d (ad (af b) 0) λx=>aj d none (af b) rK λ(g:Int
 ×Int×Int×Int×Unit)=>(aA A2 78 (.el OE) [] d λi d=>cL d (af b) rK g/\cL d (ad (af b) 0) aV x/\True/\ ∃(h:AC),jV d i .i64 x Hb h/\(Ak A2 h (.el cD) [ag p,aa v,.agg ⟨[aa g.1,az g.2.1,az g.2.2.1,az g.2.2.2.1]⟩] d λ(x:Int×Int×Unit) d=>aM d ⟨[az 0,aa 0]⟩ 61 λb d=>BK f d b x e)/\aM d ⟨[az 0,aa 0]⟩ 61 λb d=>BL p v f h g d b e)/\aM d ⟨[az 0,aa 0]⟩ 61 λm
 d=>aA A2 78 (.el OE) [] d λi d=>cL d (af b) rK g/\cL d (ad (af b) 0) aV x/\True/\ ∃(h:AC),jV d i .i64 x Hb h/\BL p v f h g d m e))))):=by kernel_rfl
open Go.RX D
def px:Nat->Int->Int
 |0,p=>p
 |l+1,p=>px l p / 16
theorem px4 {p:Int} (h:0<=p/\p<65536):px 4 p=0:=by simp only[px];omega
theorem nV (p:Int) (l:Nat):px l p=16*px (l+1) p+px l p % 16:=by simp only[px];omega
theorem eY (p:Int) (l:Nat):0<=px l p % 16/\px l p % 16<16:=by omega
theorem aan {p:Int} (h:0<=p/\p<65536) {l:Nat} (a:l<=3):fw p (l:Int)=px l p % 16:=by
 unfold fw;rw[aw (by omega)];congr 1;rcases l with _| _| _| _|l
 ·show p / 1=p;omega
 ·rfl
 ·show p / 256=p / 16 / 16;omega
 ·show p / 4096=p / 16 / 16 / 16;omega
 ·omega
theorem lA {f p:Int} (b:0<=f/\f<4096) (h:0<=p/\p<65536) {l:Nat} (a:l<=3):eB f p (l:Int)=16*f+px l p % 16:=by
 unfold eB;rw[aan h a,ao (by omega)]
theorem pk:fc 0=zE:=by decide+kernel
theorem KO:dO zE=false:=by decide
theorem Ii (v:Int):bU (fc v).1 (fc v).2.1 (fc v).2.2.1 (fc v).2.2.2.1=true:=by
 unfold fc IL F' Kw FV;cases h:uP (B v).toNat with
 |false=>simp;decide
 |true=>
  unfold uP at h;simp only[Bool.and_eq_true] at h;simpa using h.2
theorem xX {p:Bool} {r:Int} {l:Bool} {f:Int} (h:bU p r l f=true):fc (F_ p r l f)=(p,r,l,f,()):=by
 have hb:=zm h;unfold F_;rw[aw h];obtain⟨h1,v,k,w,m⟩:=hb;obtain⟨r,rfl⟩:=H7 h1;obtain⟨f,rfl⟩:=H7 k;have key: ∀n:Nat,vR p (r:Int) l (f:Int)=(n:Int)->n<18446744073709551616->(n % 2==1)=p->n / 2 % 8=r->(n / 16 % 2==1)=l->n / 32 % 128=0->n / 4096 % 4096=f->n / 16777216 % 1099511627776=0->fc (vR p (r:Int) l (f:Int))=(p,(r:Int),l,(f:Int),()):=by
  intro n e x d g i o j q;have s:(B (vR p (r:Int) l (f:Int))).toNat=n:=by rw[e,I6 (by omega) (by omega)];omega
  have ok:uP n=true:=by
   unfold uP;rw[o,q,d,g,i,j,h];decide
  unfold fc IL F' Kw FV;rw[s,ok,d,g,i,j];simp
 cases p with
 |false=>
  obtain⟨a,b,c⟩:=m rfl;subst b;have t:r=0:=by omega
  have u:f=0:=by omega
  subst t;subst u;exact key 0 rfl (by decide) rfl rfl rfl rfl rfl rfl
 |true=>
  have y:nB l<=1:=OZ l;refine key (1+2*r+16*nB l+4096*f) ?_ (by omega) ?_ (by omega) ?_ (by omega) (by omega) (by omega)
  ·unfold vR;have:nB true=1:=rfl;rw[this];omega
  ·have:(1+2*r+16*nB l+4096*f) % 2=1:=by omega
   rw[this];rfl
  ·have:(1+2*r+16*nB l+4096*f) / 16 % 2=nB l:=by omega
   rw[this];cases l<;>rfl
theorem lM (ws:List Int) (a:Int):bU (aL ws a).1 (aL ws a).2.1 (aL ws a).2.2.1 (aL ws a).2.2.2.1=true:=Ii _
theorem dL {f:Int} (h:0<=f/\f<4096):dO (cx f)=true:=by
 unfold dO cx fV bU;simp;omega
theorem Ij {f:Int} (h:0<=f/\f<4096):bU true 0 false f=true:=by
 unfold bU;simp;omega
theorem Sp {f:Int} (h:0<=f/\f<4096):fc (TU (cx f))=cx f:=xX (Ij h)
theorem jj {ws:List Int} {i:Int} (h:0<=i) (h':i<ws.length):uQ ws i=true:=jh.2 ⟨h,h'⟩
theorem xY {ws:List Int} {a v:Int} (h:uQ ws a=true):dQ (dT ws a v) a=v:=by
 have hi:=jh.1 h;have b:uQ (dT ws a v) a=true:=jh.2 ⟨hi.1,by rw[cH];exact hi.2⟩;unfold dQ;rw[aw b];unfold dT;rw[aw h,DD,DK (by omega)];rfl
theorem mS {ws:List Int} {a b v:Int} (h:a≠b):dQ (dT ws a v) b=dQ ws b:=by
 have e:uQ (dT ws a v) b=uQ ws b:=by unfold uQ;rw[cH]
 unfold dQ;rw[e];by_cases hb:uQ ws b=true
 ·rw[aw hb,aw hb];unfold dT;split
  ·rename_i c;have h1:=jh.1 c;have d:=jh.1 hb;rw[DD,DD,Bx (by omega)]
  ·rfl
 ·rw[ao hb,ao hb]
theorem tE {ws:List Int} {f:Int} {G:Int->Int} (a:0<=f) (c:16*f+16<=ws.length): ∀n:Nat,n<=16-> ∀b,dQ (fe ws f G n) b=if 16*f<=b/\b<16*f+(n:Int) then G (b - 16*f) else dQ ws b
 |0, _,b=>by rw[ao (by omega)];rfl
 |n+1,d,b=>by
  rw[fe];by_cases e:16*f+(n:Int)=b
  ·subst e;rw[xY (jj (by omega) (by rw[gQ];omega)),aw (by omega)];congr 1;omega
  ·rw[mS e,tE a c n (by omega) b];by_cases h:16*f<=b/\b<16*f+(n:Int)
   ·rw[aw h,aw (by omega)]
   ·rw[ao h,ao (by omega)]
theorem EU {ds:List DT} (h:0<cm ds 0): ∃i d,iO ds=some i/\i<ds.length/\ds[i]? =some d/\d.1=0:=by
 unfold cm at h;rw[List.countP_pos_iff] at h;obtain⟨a,c,h0⟩:=h;cases b:iO ds with
 |none=>
  unfold iO at b;rw[H5] at b;have:=b a c;rw[this] at h0;cases h0
 |some i=>
  unfold iO at b;rw[GG] at b;obtain⟨h1,e, _⟩:=b;exact⟨i,ds[i],rfl,h1,CK h1,by simpa using e⟩
theorem BM {o:Int} (h:1<=o/\o<=16):aO 3 o zD=((3,o,0,0,()),0):=by
 have e:gX 0 0 0 0 3 o=0:=by
  unfold gX;rw[ao (by decide),ao (by decide),aw (by decide),ao ?_];unfold dY jL;simp;omega
 unfold aO zD mP lq;dsimp only;rw[e];simp
theorem nf {ds:List DT} {o:Int} (h:0<cm ds 0) (e: ∀d∈ds,d.1=0->d=zD) (b:1<=o/\o<=16): ∃i:Nat,i<ds.length/\ds[i]? =some zD/\fl ds 3 o=(i:Int)/\dX ds 3 o=0/\dJ ds 3 o=ds.set i (3,o,0,0,()):=by
 obtain⟨i,d,h1,f,a,g⟩:=EU h;have j:d=zD:=e d (CL a) g;subst j;have hg:ds.getD i zD=zD:=by rw[DD,a];rfl
 have c:vI ds (i:Int) (aO 3 o)=0:=by
  rw[yZ (by omega)];show(aO 3 o (ds.getD i zD)).2=0;rw[hg,BM b]
 have k:dN ds (i:Int) (aO 3 o)=ds.set i (3,o,0,0,()):=by
  rw[pC (by omega)];show(if(aO 3 o (ds.getD i zD)).2=0 then ds.set i (aO 3 o (ds.getD i zD)).1 else ds)= _;rw[hg,BM b,aw rfl]
 refine⟨i,f,a,?_,?_,?_⟩
 ·unfold fl;rw[h1];dsimp only;rw[aw c]
 ·unfold dX;rw[ao (by omega),h1];exact c
 ·unfold dJ;rw[h1];exact k
theorem qg {ds:List DT} {i:Nat} {d d':DT} (h:ds[i]? =some d) (v:Int):cm (ds.set i d') v+(if d.1=v then 1 else 0)=cm ds v+(if d'.1=v then 1 else 0):=by
 have hi:i<ds.length:=(B2.1 h).1;have a:ds=ds.take i++d::ds.drop (i+1):=by
  have:=(Gu i ds).symm;rw[FR hi,(B2.1 h).2] at this;exact this
 have b:ds.set i d'=ds.take i++d'::ds.drop (i+1):=by rw[List.set_eq_take_append_cons_drop,aw hi]
 unfold cm;rw[b]
 conv=>rhs;rw[a]
 simp only[List.countP_append,List.countP_cons];by_cases h1:d.1=v<;>by_cases c:d'.1=v<;>simp[h1,c]<;>omega
theorem EV {o:Int} (h:1<=o/\o<=16):aO 5 0 (3,o,0,0,())=((5,o,0,0,()),0):=by
 have a:dY 3 o 0 0=true:=by unfold dY jL;simp;omega
 have b:dY 5 o 0 0=true:=by unfold dY jL;simp;omega
 have e:gX 3 o 0 0 5 0=0:=by
  unfold gX;rw[a,ao (by decide),ao (by decide),aw (by decide),aw rfl,b,ao (by decide)]
 unfold aO mP lq;dsimp only;rw[e];simp
abbrev Gh:Type:=Int->Option (Int×Nat×Int)
def mL (g:Gh) (f:Int) (v:Option (Int×Nat×Int)):Gh:=λx=>if x=f then v else g x
theorem bL (g:Gh) (f:Int) (v:Option (Int×Nat×Int)):mL g f v f=v:=aw rfl
theorem aZ {g:Gh} {f x:Int} (h:x≠f) (v:Option (Int×Nat×Int)):mL g f v x=g x:=ao h
def lC (l:Nat) (e:ET):Prop:=e.1=true->dO e=false->(l=0/\e.2.2.1=false)\/(l=1/\e.2.2.1=true/\e.2.2.2.1 % 16=0)
theorem Eo (l:Nat):lC l zE:=λh=>by cases h
theorem abS (l:Nat) {e:ET} (h:dO e=true):lC l e:=λh'=>by grind
structure Inv (g:Gh) (s:WD):Prop where
 len:16*s.2.length<=s.1.length
 le:s.2.length<=4096
 fz: ∀d∈s.2,d.1=0->d=zD
 kd: ∀{f o l x},g f=some (o,l,x)->0<=f/\f<s.2.length/\s.2[f.toNat]? =some (3,o,0,0,())/\1<=o/\o<=16/\l<=3
 inj: ∀{f f' v},g f=some v->g f'=some v->f=f'
 sM: ∀{f o l x i},g f=some (o,l,x)->0<=i->i<16->dO (aL s.1 (16*f+i))=true-> ∃m,l=m+1/\g (aL s.1 (16*f+i)).2.2.2.1=some (o,m,16*x+i)
 leaf: ∀{f o l x i},g f=some (o,l,x)->0<=i->i<16->lC l (aL s.1 (16*f+i))
 FX: ∀{f o l x},g f=some (o,l,x)->l<3-> ∃f',g f'=some (o,l+1,x / 16)/\aL s.1 (16*f'+x % 16)=cx f
 wf: ∀{f o l x i},g f=some (o,l,x)->0<=i->i<16->(aL s.1 (16*f+i)).1=false->dQ s.1 (16*f+i)=0
 tb: ∀{n:Nat} {d},s.2[n]? =some d->d.1=3-> ∃v,g (n:Int)=some v
def dD (g:Gh) (s:WD) (o p f:Int) (j:Nat):Prop:=g f=some (o,j,px (j+1) p)/\dO (aL s.1 (16*f+px j p % 16))=false
theorem gy {ws:List Int} {a v b:Int} (h:a≠b):aL (dT ws a v) b=aL ws b:=by grind[aL,mS]
theorem zq {ws:List Int} {a v:Int} (h:uQ ws a=true):aL (dT ws a v) a=fc v:=by grind[aL,xY]
namespace Inv
variable {g:Gh} {s:WD}
theorem vJ (I:Inv g s) {f o:Int} {l:Nat} {x:Int} (h:g f=some (o,l,x)):0<=f/\f<4096/\16*f+16<=s.1.length:=by
 have:=I.kd h;have:=I.len;have:=I.le;omega
theorem reach (I:Inv g s) {o r p:Int} (c:g r=some (o,3,0)) (b:0<=p/\p<65536): ∀(n:Nat) {f:Int} {j:Nat},j+n=3->g f=some (o,j,px (j+1) p)-> ∃a,dt s.1 p 3 r=a++dt s.1 p j f
 |0,f,j,d,h=>by
  have:j=3:=by omega
  subst this;rw[px4 b] at h;rw[I.inj h c];simp
 |n+1,f,j,d,h=>by
  obtain⟨f',h1,i⟩:=I.FX h (by omega);have k:=h1;obtain⟨a,u⟩:=I.reach c b n (by omega) k;obtain⟨l,m, _⟩:=I.vJ h1;refine⟨a++[(f',(j+1:Int),eB f' p (j+1:Nat),())],?_⟩;have q:j+1<=3:=by omega
  have e:dt s.1 p (j+1) f'=(f',(j+1:Int),eB f' p (j+1:Nat),())::dt s.1 p j f:=by
   rw[dt];have t:aL s.1 (eB f' p (j+1:Nat))=cx f:=by rw[lA ⟨l,m⟩ b q];exact i
   obtain⟨c1,c2, _⟩:=I.vJ h;rw[t,aw (dL ⟨c1,c2⟩)];rfl
  grind
theorem acK {ws:List Int} {p f:Int} {j:Nat} (h:dO (aL ws (eB f p (j:Int)))=false):dt ws p j f=[(f,(j:Int),eB f p (j:Int),())]:=by
 cases j with
 |zero=>rfl
 |succ=>rw[dt,ao (by grind)]
theorem ml (I:Inv g s) {o r p:Int} (e:g r=some (o,3,0)) (b:0<=p/\p<65536) {f:Int} {j:Nat} (h:dD g s o p f j):
 dH s.1 r p=(f,(j:Int),16*f+px j p % 16,())/\cW s.1 r p=aL s.1 (16*f+px j p % 16):=by
 have i:=I.kd h.1;obtain⟨k,l, _⟩:=I.vJ h.1;obtain⟨a,m⟩:=I.reach e b (3 - j) (by omega) h.1;have c:=lA ⟨k,l⟩ b i.2.2.2.2.2;have d:dH s.1 r p=(f,(j:Int),16*f+px j p % 16,()):=by
  unfold dH;rw[m,acK (by rw[c];exact h.2),c,List.getLastD_concat]
 exact⟨d,by unfold cW;rw[d]⟩
theorem PU (I:Inv g s) {o p:Int}: ∀(l:Nat) {f:Int},g f=some (o,l,px (l+1) p)-> ∃f' j,j<=l/\dD g s o p f' j
 |l,f,h=>by
  cases a:dO _ with
  |false=>exact⟨f,l,by simp,h,a⟩
  |true=>
   obtain⟨m,rfl,b⟩:=I.sM h (eY p l).1 (eY p l).2 a;rw[<-nV] at b;obtain:=I.PU m b
   grind
theorem lD (I:Inv g s) {o r p:Int} (a:g r=some (o,3,0)) (b:0<=p/\p<65536): ∃f j,j<=3/\dD g s o p f j:=I.PU 3 (by rw[px4 b];exact a)
theorem grow (I:Inv g s) {f o x i:Int} {m:Nat} (r:g f=some (o,m+1,x)) (IN:0<=i) (Ao:i<16) (l:dO (aL s.1 (16*f+i))=false) (hc:0<cm s.2 0) (G:Int->Int)
 (J: ∀k,0<=k->k<16->dO (fc (G k))=false/\lC m (fc (G k))/\((fc (G k)).1=false->G k=0)):
 rD s o=0/\g (eV s o)=none/\0<=eV s o/\eV s o<s.2.length/\(dW (iV s o G) (16*f+i) (cx (eV s o))).2=s.2.set (eV s o).toNat (3,o,0,0,())/\s.2[(eV s o).toNat]? =some zD/\
 (∀b,b≠16*f+i->(b<16*eV s o\/16*eV s o+16<=b)->aL (dW (iV s o G) (16*f+i) (cx (eV s o))).1 b=aL s.1 b)/\
 (∀k,0<=k->k<16->aL (dW (iV s o G) (16*f+i) (cx (eV s o))).1 (16*eV s o+k)=fc (G k))/\
 aL (dW (iV s o G) (16*f+i) (cx (eV s o))).1 (16*f+i)=cx (eV s o)/\
 Inv (mL g (eV s o) (some (o,m,16*x+i))) (dW (iV s o G) (16*f+i) (cx (eV s o))):=by
 have B:=I.kd r;obtain⟨n,T,M,j,C,N⟩:=nf hc I.fz ⟨B.2.2.2.1,B.2.2.2.2.1⟩;have O:eV s o=(n:Int):=j;have P:rD s o=0:=C;have U:=I.len;have V:=I.le;have X:16*(n:Int)+16<=s.1.length:=by omega
 obtain⟨W,D⟩: ∃W,W=fe s.1 (n:Int) G 16:=⟨_,rfl⟩;have Q:W.length=s.1.length:=by rw[D,gQ]
 have Y: ∀b,dQ W b=if 16*(n:Int)<=b/\b<16*(n:Int)+16 then G (b - 16*(n:Int)) else dQ s.1 b:=λb=>by
  rw[D];exact tE (by omega) X 16 (B5 _) b
 have Z:iV s o G=(W,s.2.set n (3,o,0,0,())):=by unfold iV;rw[aw P,O,N,D]
 clear D;have ig:=I.vJ r;have gn:g (n:Int)=none:=by
  cases hg:g (n:Int) with
  |none=>rfl
  |some v=>
   obtain⟨a,b,c⟩:=v;have:=(I.kd hg).2.2.1;rw[show((n:Int)).toNat=n from rfl,M] at this;cases this
 have E: ∀{f':Int} {v},g f'=some v->f'≠(n:Int):=λh e=>by rw[e,gn] at h;cases h
 have rB:f≠(n:Int):=E r;rw[Z,O];have YC:uQ (W) (16*f+i)=true:=jj (by omega) (by rw[Q];omega);have K: ∀b,b≠16*f+i->dQ (dT (W) (16*f+i) (TU (cx (n:Int)))) b=if 16*(n:Int)<=b/\b<16*(n:Int)+16 then G (b - 16*(n:Int)) else dQ s.1 b:=λb hb=>by
  rw[mS (λe=>hb e.symm),Y b]
 have w0: ∀b,b≠16*f+i->aL (dT (W) (16*f+i) (TU (cx (n:Int)))) b=if 16*(n:Int)<=b/\b<16*(n:Int)+16 then fc (G (b - 16*(n:Int))) else aL s.1 b:=λb hb=>by
  unfold aL;rw[K b hb];split<;>rfl
 have w1: ∀b,b≠16*f+i->(b<16*(n:Int)\/16*(n:Int)+16<=b)->aL (dW (W,s.2.set n (3,o,0,0,())) (16*f+i) (cx (n:Int))).1 b=aL s.1 b:=λb hb h=>by
  show aL (dT _ _ _) b= _;rw[w0 b hb,ao (by omega)]
 have F: ∀k,0<=k->k<16->aL (dW (W,s.2.set n (3,o,0,0,())) (16*f+i) (cx (n:Int))).1 (16*(n:Int)+k)=fc (G k):=λk h0 h1=>by
  show aL (dT _ _ _) _= _;rw[w0 _ (by omega),aw (by omega)];congr 2;omega
 have y:aL (dW (W,s.2.set n (3,o,0,0,())) (16*f+i) (cx (n:Int))).1 (16*f+i)=cx (n:Int):=by
  show aL (dT _ _ _) _= _;rw[zq YC,Sp (by omega)]
 refine⟨P,gn,by omega,by omega,rfl,by rw[show((n:Int)).toNat=n from rfl];exact M,w1,F,y,?_⟩;have fW: ∀{f0 t p k:Int} {u:Nat},g f0=some (t,u,p)->0<=k->k<16->(16*f0+k=16*f+i/\f0=f/\k=i)\/aL (dW (W,s.2.set n (3,o,0,0,())) (16*f+i) (cx (n:Int))).1 (16*f0+k)=aL s.1 (16*f0+k):=λ{f0 t p k u} h h0 h1=>by
  by_cases e:16*f0+k=16*f+i
  ·exact .inl ⟨e,by omega,by omega⟩
  ·have:=E h;exact .inr (w1 _ e (by omega))
 refine⟨?_,?_,?_,?_,?_,?_,?_,?_,?_,?_⟩
 ·show 16*(s.2.set n _).length<=(dT W _ _).length;rw[cH,Q,B1];exact U
 ·show(s.2.set n _).length<=4096;rw[B1];exact V
 ·intro d L h0;rcases Do L with L|rfl
  ·exact I.fz d L h0
  ·cases h0
 ·intro f0 t u p h;show _/\ _<((s.2.set n (3,o,0,0,())).length:Int)/\(s.2.set n (3,o,0,0,()))[f0.toNat]? = _/\ _;rw[B1];by_cases e:f0=(n:Int)
  ·subst e;rw[bL] at h;cases h;refine⟨by omega,by omega,?_,B.2.2.2.1,B.2.2.2.2.1,by omega⟩;rw[show((n:Int)).toNat=n from rfl,DK T]
  ·rw[aZ e] at h;obtain⟨a1,a2,a3,a4⟩:=I.kd h;refine⟨a1,a2,?_,a4⟩;rw[Bx (by omega)];exact a3
 ·intro a b v w hb;by_cases e:a=(n:Int)<;>by_cases e':b=(n:Int)
  ·rw[e,e']
  ·subst e;rw[bL] at w;rw[aZ e'] at hb;cases w;exfalso;obtain⟨f',p1,p2⟩:=I.FX hb (by omega);have z:(16*x+i) / 16=x:=by omega
   have A:(16*x+i) % 16=i:=by omega
   rw[z] at p1;rw[A] at p2;rw[I.inj p1 r, ] at p2;rw[p2] at l;obtain⟨c1,c2, _⟩:=I.vJ hb;rw[dL ⟨c1,c2⟩] at l;cases l
  ·subst e';rw[bL] at hb;rw[aZ e] at w;cases hb;exfalso;obtain⟨f',p1,p2⟩:=I.FX w (by omega);have z:(16*x+i) / 16=x:=by omega
   have A:(16*x+i) % 16=i:=by omega
   rw[z] at p1;rw[A] at p2;rw[I.inj p1 r, ] at p2;rw[p2] at l;obtain⟨c1,c2, _⟩:=I.vJ w;rw[dL ⟨c1,c2⟩] at l;cases l
  ·rw[aZ e] at w;rw[aZ e'] at hb;exact I.inj w hb
 ·intro f0 t u p k h h0 h1 H;by_cases e:f0=(n:Int)
  ·subst e;rw[F k h0 h1,(J k h0 h1).1] at H;cases H
  ·rw[aZ e] at h;rcases fW h h0 h1 with ⟨j,rfl,rfl⟩|j
   ·rw[j,y];rw[r] at h;cases h;exact⟨m,rfl,bL _ _ _⟩
   ·rw[j] at H ⊢;obtain⟨m',q1,R⟩:=I.sM h h0 h1 H;exact⟨m',q1,by rw[aZ (E R)];exact R⟩
 ·intro f0 t u p k h h0 h1;by_cases e:f0=(n:Int)
  ·subst e;rw[bL] at h;cases h;rw[F k h0 h1];exact(J k h0 h1).2.1
  ·rw[aZ e] at h;rcases fW h h0 h1 with ⟨j,rfl,rfl⟩|j
   ·rw[j,y];exact abS _ (dL (by omega))
   ·rw[j];exact I.leaf h h0 h1
 ·intro f0 t u p h hl;by_cases e:f0=(n:Int)
  ·subst e;rw[bL] at h;cases h;have z:(16*x+i) / 16=x:=by omega
   have A:(16*x+i) % 16=i:=by omega
   exact⟨f,by rw[aZ rB,z];exact r,by rw[A];exact y⟩
  ·rw[aZ e] at h;obtain⟨f',p1,p2⟩:=I.FX h hl;refine⟨f',by rw[aZ (E p1)];exact p1,?_⟩;rcases fW p1 (by omega:0<=p % 16) (by omega) with ⟨j,rfl,N⟩|j
   ·exfalso;rw[j] at p2;rw[p2] at l;obtain⟨c1,c2, _⟩:=I.vJ h;rw[dL ⟨c1,c2⟩] at l;cases l
   ·rw[j];exact p2
 ·intro f0 t u p k h h0 h1 q;by_cases e:f0=(n:Int)
  ·subst e;rw[F k h0 h1] at q;show dQ (dT _ _ _) _=0;rw[K _ (by omega),aw (by omega),show 16*(n:Int)+k - 16*(n:Int)=k from by omega];exact(J k h0 h1).2.2 q
  ·rw[aZ e] at h;rcases fW h h0 h1 with ⟨j,rfl,rfl⟩|j
   ·rw[j,y] at q;cases q
   ·rw[j] at q;have hb:16*f0+k≠16*f+i:=λC=>by
     rw[C,y] at j;rw[C, <-j] at q;cases q
    show dQ (dT _ _ _) _=0;rw[K _ hb,ao (by omega)];exact I.wf h h0 h1 q
 ·intro S d oF h3;by_cases e:S=n
  ·subst e;exact⟨_,bL _ _ _⟩
  ·have h':(s.2.set n (3,o,0,0,()))[S]? =some d:=oF;rw[Bx (by omega)] at h';obtain⟨v,hv⟩:=I.tb h' h3;exact⟨v,by rw[aZ (by omega)];exact hv⟩
theorem Wa (I:Inv g s) {f o x i v:Int} {l:Nat} (t:g f=some (o,l,x)) (z:0<=i) (A:i<16) (d:dO (aL s.1 (16*f+i))=false) (hv:dO (fc v)=false) (q:lC l (fc v)) (u:(fc v).1=false->v=0):
 aL (dT s.1 (16*f+i) v) (16*f+i)=fc v/\Inv g (dT s.1 (16*f+i) v,s.2):=by
 have B:=I.vJ t;have r:uQ s.1 (16*f+i)=true:=jj (by omega) (by omega);have j:=zq (v:=v) r;have fW: ∀{f0 k:Int},0<=k->k<16->(16*f0+k=16*f+i/\f0=f/\k=i)\/aL (dT s.1 (16*f+i) v) (16*f0+k)=aL s.1 (16*f0+k):=λ{f0 k} h0 h1=>by
  by_cases e:16*f0+k=16*f+i
  grind
  ·exact .inr (gy (λe'=>e e'.symm))
 refine⟨j,by rw[cH];exact I.len,I.le,I.fz,I.kd,I.inj,?_,?_,?_,?_,I.tb⟩
 ·intro f0 m n b k h h0 h1 p;rcases fW (f0:=f0) h0 h1 with ⟨a,rfl,rfl⟩|a
  ·rw[j,hv] at p;cases p
  ·have w:dO (aL s.1 (16*f0+k))=true:=by rw[<-a];exact p
   rw[a];exact I.sM h h0 h1 w
 ·intro f0 m n b k h h0 h1;rcases fW (f0:=f0) h0 h1 with ⟨a,rfl,rfl⟩|a
  grind
  ·rw[a];exact I.leaf h h0 h1
 ·intro f0 m n b h q;obtain⟨f',p1,p2⟩:=I.FX h q;refine⟨f',p1,?_⟩;rcases fW (f0:=f') (by omega:0<=b % 16) (by omega) with ⟨a,rfl,C⟩|a
  ·exfalso;rw[a] at p2;rw[p2] at d;obtain⟨c1,c2, _⟩:=I.vJ h;rw[dL ⟨c1,c2⟩] at d;cases d
  ·rw[a];exact p2
 ·intro f0 m n b k h h0 h1 y;have c:=y;by_cases e:16*f0+k=16*f+i
  ·rw[e,j] at c;rw[e,xY r];exact u c
  ·rw[gy (λe'=>e e'.symm)] at c;rw[mS (λe'=>e e'.symm)];exact I.wf h h0 h1 c
theorem abT (I:Inv g s) {f o x i f2:Int} {m:Nat} (u:g f=some (o,m+1,x)) (V:0<=i) (W:i<16) (hg:g f2=some (o,m,16*x+i)) (J:aL s.1 (16*f+i)=cx f2) (K: ∀k,0<=k->k<16->aL s.1 (16*f2+k)=zE):
 aL (dT s.1 (16*f+i) 0) (16*f+i)=zE/\dN s.2 f2 (aO 5 0)=s.2.set f2.toNat (5,o,0,0,())/\Inv (mL g f2 none) (dT s.1 (16*f+i) 0,dN s.2 f2 (aO 5 0)):=by
 have X:=I.vJ u;have B:=I.kd u;have w:=I.kd hg;have C:uQ s.1 (16*f+i)=true:=jj (by omega) (by omega);have q:aL (dT s.1 (16*f+i) 0) (16*f+i)=zE:=by rw[zq C];exact pk
 have D:dN s.2 f2 (aO 5 0)=s.2.set f2.toNat (5,o,0,0,()):=by
  rw[pC ⟨w.1,w.2.1⟩,DD,w.2.2.1];show(if(aO 5 0 (3,o,0,0,())).2=0 then s.2.set f2.toNat (aO 5 0 (3,o,0,0,())).1 else _)= _;rw[EV ⟨B.2.2.2.1,B.2.2.2.2.1⟩,aw rfl]
 have j: ∀{f0 v},mL g f2 none f0=some v->f0≠f2/\g f0=some v:=λ{f0 v} h=>by
  by_cases e:f0=f2
  ·rw[e,bL] at h;cases h
  ·rw[aZ e] at h;exact⟨e,h⟩
 have fW: ∀{f0 k:Int},0<=k->k<16->(16*f0+k=16*f+i/\f0=f/\k=i)\/aL (dT s.1 (16*f+i) 0) (16*f0+k)=aL s.1 (16*f0+k):=λ{f0 k} h0 h1=>by
  by_cases e:16*f0+k=16*f+i
  ·exact .inl ⟨e,by omega,by omega⟩
  ·exact .inr (gy (λe'=>e e'.symm))
 refine⟨q,D,?_⟩;rw[D];refine⟨?_,?_,?_,?_,?_,?_,?_,?_,?_,?_⟩
 ·show 16*(s.2.set _ _).length<=(dT _ _ _).length;rw[cH,B1];exact I.len
 ·show(s.2.set _ _).length<=4096;rw[B1];exact I.le
 ·intro d y h0;rcases Do y with y|rfl
  ·exact I.fz d y h0
  ·cases h0
 ·intro f0 r n l h;obtain⟨p,h⟩:=j h;rw[B1];obtain⟨a1,E,L,Y⟩:=I.kd h
  grind
 ·intro a b v M hb;exact I.inj (j M).2 (j hb).2
 ·intro f0 r n l k h h0 h1 z;obtain⟨p,h⟩:=j h;rcases fW (f0:=f0) h0 h1 with ⟨c,rfl,rfl⟩|c
  ·rw[q] at z;cases z
  ·have A:dO (aL s.1 (16*f0+k))=true:=by rw[<-c];exact z
   rw[c];obtain⟨N,F,t⟩:=I.sM h h0 h1 A;refine⟨N,F,?_⟩;rw[aZ]
   ·exact t
   ·intro e;rw[e,hg] at t;simp only[Bf,B3] at t;obtain⟨a1,E,L⟩:=t;have O:k=i:=by omega
    have P:l=x:=by omega
    subst O;subst P;subst a1;subst E;subst F;have:=I.inj h u;subst this;rw[q] at c;rw[<-c] at A;cases A
 ·intro f0 r n l k h h0 h1;obtain⟨p,h⟩:=j h;show lC n (aL (dT s.1 (16*f+i) 0) (16*f0+k));rcases fW (f0:=f0) h0 h1 with ⟨c,rfl,rfl⟩|c
  ·rw[q];exact Eo _
  ·rw[c];exact I.leaf h h0 h1
 ·intro f0 r n l h Q;obtain⟨p,h⟩:=j h;obtain⟨f',p1,p2⟩:=I.FX h Q;have R:f'≠f2:=λe=>by
   rw[e,K _ (by omega) (by omega)] at p2;cases p2
  refine⟨f',by rw[aZ R];exact p1,?_⟩;show aL (dT s.1 (16*f+i) 0) (16*f'+l % 16)= _;rcases fW (f0:=f') (by omega:0<=l % 16) (by omega) with ⟨c,rfl,Z⟩|c
  ·exfalso;rw[c,J] at p2;unfold cx at p2;simp only[B3,and_true,true_and] at p2;exact p p2.symm
  ·rw[c];exact p2
 ·intro f0 r n l k h h0 h1 S;obtain⟨p,h⟩:=j h;show dQ (dT s.1 (16*f+i) 0) (16*f0+k)=0;have G:(aL (dT s.1 (16*f+i) 0) (16*f0+k)).1=false:=S;by_cases e:16*f0+k=16*f+i
  ·rw[e,xY C]
  ·rw[gy (λe'=>e e'.symm)] at G;rw[mS (λe'=>e e'.symm)];exact I.wf h h0 h1 G
 ·intro H d T U;have h':(s.2.set f2.toNat (5,o,0,0,()))[H]? =some d:=T;by_cases e:H=f2.toNat
  grind
  ·rw[Bx (by omega)] at h';obtain⟨v,hv⟩:=I.tb h' U;exact⟨v,by rw[aZ (by omega)];exact hv⟩
end Inv
set_option maxRecDepth 100000
open Go.RX D
def l5 (p:Int) (j:Nat) (e:ET):Int×Int×Int×Unit:=if e.1=true then(if j=1 then e.2.2.2.1+p % 16 else e.2.2.2.1,e.2.1,0,()) else(0,0,4,())
theorem GL (p:Int) (j:Nat) {e:ET} (h:e.1=false):l5 p j e=(0,0,4,()):=by grind[l5]
def mT (g g':Gh):Prop:= ∀o r x,g' r=some (o,3,x)<->g r=some (o,3,x)
theorem mT.refl (g:Gh):mT g g:=λ_ _ _=>Iff.rfl
theorem mT.trans {a b c:Gh} (h:mT a b) (k:mT b c):mT a c:=λo r x=>(k o r x).trans (h o r x)
theorem mT.to {g g':Gh} {o r x:Int} (h:mT g g') (k:g r=some (o,3,x)):g' r=some (o,3,x):=(h _ _ _).2 k
def AN (o:Int) (g g':Gh) (s s':WD):Prop:= ∀ ⦃f o' l x⦄,o'≠o->g f=some (o',l,x)->g' f=some (o',l,x)/\ ∀k,0<=k->k<16->aL s'.1 (16*f+k)=aL s.1 (16*f+k)
theorem AN.refl (o:Int) (g:Gh) (s:WD):AN o g g s s:=λ_ _ _ _ _ h=>⟨h,λ_ _ _=>rfl⟩
theorem AN.trans {o:Int} {a b c:Gh} {s t u:WD} (h:AN o a b s t) (k:AN o b c t u):AN o a c s u:=λ_ _ _ _ d e=>by
 obtain⟨h1⟩:=h d e;obtain:=k d h1
 grind
def th (P:Int->Int->Prop) (g g':Gh) (s s':WD):Prop:= ∀ ⦃o p f j⦄,¬ P o p->dD g s o p f j-> ∃f' a,dD g' s' o p f' a/\l5 p a (aL s'.1 (16*f'+px a p % 16))=l5 p j (aL s.1 (16*f+px j p % 16))
theorem th.refl (P:Int->Int->Prop) (g:Gh) (s:WD):th P g g s s:=λ_ _ _ _ _ h=>⟨_, _,h,rfl⟩
theorem th.trans {P:Int->Int->Prop} {a b c:Gh} {s t u:WD} (h:th P a b s t) (k:th P b c t u):th P a c s u:=λ_ _ _ _ d e=>by
 obtain⟨f1,j1,h1,f⟩:=h d e;obtain:=k d h1
 grind
theorem th.mono {P c:Int->Int->Prop} {a b:Gh} {s t:WD} (h:th P a b s t) (e: ∀o p,P o p->c o p):th c a b s t:=λ_ _ _ _ f d=>h (by grind) d
def YE:Int->Int->Prop:=λ_ _=>False
def oq (o:Int) (l:Nat) (p:Int):Int->Int->Prop:=λo' q=>o'=o/\px l q=px l p
namespace Inv
variable {g:Gh} {s:WD}
theorem fy (I:Inv g s) {o r p:Int} (a:g r=some (o,3,0)) (b:0<=p/\p<65536) {f:Int} {j:Nat} (h:dD g s o p f j):bD s r false p=l5 p j (aL s.1 (16*f+px j p % 16)):=by
 obtain:=I.ml a b h;unfold bD l5;unfold qK
 grind
theorem zt (I:Inv g s) {g':Gh} {s':WD} (c:Inv g' s') {P:Int->Int->Prop} (d:th P g g' s s') (i:mT g g') {o r p:Int} (a:g r=some (o,3,0)) (k: ¬ P o p):bD s' r false p=bD s r false p:=by
 by_cases h:0<=p/\p<65536
 ·obtain⟨f,j, _,b⟩:=I.lD a h;obtain⟨f',m,h1,l⟩:=d k b;rw[I.fy a h b,c.fy (i.to a) h h1,l]
 ·have e: ∀t,bD t r false p=(0,0,2,()):=λt=>by
   unfold bD
   grind
  grind
theorem EW (I:Inv g s) {f o x i:Int} {m:Nat} (b:g f=some (o,m+1,x)) (w:0<=i) (y:i<16) (z:dO (aL s.1 (16*f+i))=false) (hc:0<cm s.2 0) (G:Int->Int)
 (d: ∀k,0<=k->k<16->dO (fc (G k))=false/\lC m (fc (G k))/\((fc (G k)).1=false->G k=0))
 (J: ∀p,0<=px m p % 16->px (m+1) p % 16=i->l5 p m (fc (G (px m p % 16)))=l5 p (m+1) (aL s.1 (16*f+i))):
 let n:=eV s o
 let s':=dW (iV s o G) (16*f+i) (cx n)
 let g':=mL g n (some (o,m,16*x+i))
 rD s o=0/\Inv g' s'/\mT g g'/\AN o g g' s s'/\th YE g g' s s'/\s'.2=s.2.set n.toNat (3,o,0,0,())/\s.2[n.toNat]? =some zD/\
 (∀p,dD g s o p f (m+1)->px (m+1) p % 16=i->dD g' s' o p n m/\aL s'.1 (16*n+px m p % 16)=fc (G (px m p % 16)))/\0<=n/\n<4096:=by
 obtain⟨A,q,B,K,C,D,r,E,L,F⟩:=I.grow b w y z hc G d;dsimp only;have c: ∀{f':Int} {v},g f'=some v->f'≠eV s o:=λh e=>by rw[e,q] at h;cases h
 have F6: ∀p,dD g s o p f (m+1)->px (m+1) p % 16=i->dD (mL g (eV s o) (some (o,m,16*x+i))) (dW (iV s o G) (16*f+i) (cx (eV s o))) o p (eV s o) m/\aL _ (16*eV s o+px m p % 16)=fc (G (px m p % 16)):=λp a t=>by
  have e:=E (px m p % 16) (eY p m).1 (eY p m).2;refine⟨⟨?_,by rw[e];exact(d _ (eY p m).1 (eY p m).2).1⟩,e⟩;rw[bL];have h1:=a.1;rw[b] at h1;simp only[Bf,B3,true_and] at h1;rw[h1, <-t, <-nV]
 refine⟨A,F,λo' r' x'=>?_,λ⦃f0 o' l M⦄ H h=>⟨?_,λk h0 h1=>?_⟩,λ⦃o' p f' j⦄ _ a=>?_,C,D,F6,B,by have:=I.le;omega⟩
 ·by_cases e:r'=eV s o
  ·rw[e,bL,q];refine⟨λh=>?_,λh=>by cases h⟩;have:=(I.kd b).2.2.2.2.2;simp only[Bf,B3] at h;omega
  ·rw[aZ e]
 ·rw[aZ (c h)];exact h
 ·have:=c h;refine r _ (λe=>?_) (by omega);have:f0=f:=by omega
  subst this;rw[b] at h;cases h;exact H rfl
 ·by_cases u:f'=f/\px j p % 16=i
  ·obtain⟨rfl,t⟩:=u;have h1:=a.1;rw[b] at h1
   grind
  ·have e:aL (dW (iV s o G) (16*f+i) (cx (eV s o))).1 (16*f'+px j p % 16)=aL s.1 (16*f'+px j p % 16):=by
    have:=c a.1;have:=eY p j;refine r _ (λe=>u ?_) (by omega);omega
   refine⟨f',j,⟨by rw[aZ (c a.1)];exact a.1,by rw[e];exact a.2⟩,by rw[e]⟩
theorem zu (I:Inv g s) {f o x i v:Int} {l:Nat} (b:g f=some (o,l,x)) (m:0<=i) (n:i<16) (d:dO (aL s.1 (16*f+i))=false) (hv:dO (fc v)=false) (r:lC l (fc v)) (t:(fc v).1=false->v=0) {q:Int} (u:dD g s o q f l) (w:px l q % 16=i):
 Inv g (dT s.1 (16*f+i) v,s.2)/\AN o g g s (dT s.1 (16*f+i) v,s.2)/\th (oq o l q) g g s (dT s.1 (16*f+i) v,s.2)/\
 (∀p,px l p=px l q->dD g (dT s.1 (16*f+i) v,s.2) o p f l/\dD g s o p f l)/\aL (dT s.1 (16*f+i) v) (16*f+i)=fc v:=by
 obtain⟨y,z⟩:=I.Wa b m n d hv r t;have hx:=u.1;rw[b] at hx;simp only[Bf,B3,true_and] at hx;refine⟨z,λ⦃f0 o' D E⦄ A h=>⟨h,λk h0 h1=>?_⟩,λ⦃o' p f' j⦄ a c=>?_,λp a=>?_,y⟩
 ·refine gy (λe=>A ?_)
  grind
 ·have e:aL (dT s.1 (16*f+i) v) (16*f'+px j p % 16)=aL s.1 (16*f'+px j p % 16):=by
   refine gy (λe=>a ?_);have:f'=f:=by omega
   subst this;have h1:=c.1;rw[b] at h1;simp only[Bf,B3] at h1;obtain⟨rfl,rfl,B⟩:=h1;refine⟨rfl,?_⟩;rw[nV p,nV q, <-B, <-hx];omega
  exact⟨f',j,⟨c.1,by rw[e];exact c.2⟩,by grind⟩
 ·have h1:px (l+1) p=px (l+1) q:=by simp only[px];rw[a]
  have C:px l p % 16=i:=by rw[a];exact w
  refine⟨⟨by grind,?_⟩,⟨by grind,by rw[C];exact d⟩⟩
  grind
theorem MZ (I:Inv g s) {f o x i f2:Int} {m:Nat} (a:g f=some (o,m+1,x)) (u:0<=i) (v:i<16) (hg:g f2=some (o,m,16*x+i)) (n:aL s.1 (16*f+i)=cx f2) (q: ∀k,0<=k->k<16->aL s.1 (16*f2+k)=zE):
 let s':WD:=(dT s.1 (16*f+i) 0,dN s.2 f2 (aO 5 0))
 let g':=mL g f2 none
 Inv g' s'/\mT g g'/\AN o g g' s s'/\th YE g g' s s'/\s'.2=s.2.set f2.toNat (5,o,0,0,())/\s.2[f2.toNat]? =some (3,o,0,0,())/\(∀p,dD g s o p f2 m->dD g' s' o p f (m+1))/\aL s'.1 (16*f+i)=zE:=by
 obtain⟨b,w,y⟩:=I.abT a u v hg n q;dsimp only;have r:=I.vJ hg;have z:f≠f2:=λe=>by
  subst e;rw[a] at hg;simp at hg
 have A:dO (aL s.1 (16*f+i))=true:=by rw[n];exact dL ⟨r.1,r.2.1⟩
 have F6: ∀p,dD g s o p f2 m->dD (mL g f2 none) (dT s.1 (16*f+i) 0,dN s.2 f2 (aO 5 0)) o p f (m+1)/\px (m+1) p % 16=i:=λp h=>by
  have h1:=h.1;rw[hg] at h1;simp only[Bf,B3,true_and] at h1;have c:=nV p (m+1);have E:=eY p (m+1);have d:px (m+1+1) p=x:=by omega
  have t:px (m+1) p % 16=i:=by omega
  refine⟨⟨by rw[aZ z,d];exact a,?_⟩,t⟩;rw[t,b];exact KO
 refine⟨y,λo' r' x'=>?_,λ⦃f0 o' l F⦄ B h=>⟨?_,λk h0 h1=>?_⟩,λ⦃o' p f' j⦄ _ h=>?_,w,(I.kd hg).2.2.1,λp h=>(F6 p h).1,b⟩
 ·by_cases e:r'=f2
  ·subst e;rw[bL,hg];refine⟨λh=>(by cases h),λh=>?_⟩;simp only[Bf,B3] at h;have:=(I.kd a).2.2.2.2.2;omega
  ·rw[aZ e]
 ·rw[aZ]
  ·exact h
  grind
 ·refine gy (λe=>B ?_);have:f0=f:=by omega
  grind
 ·by_cases e:f'=f2
  ·subst e;have h1:=h.1;rw[hg] at h1;simp only[Bf,B3] at h1;obtain⟨rfl,rfl,h1⟩:=h1;obtain⟨C,D⟩:=F6 p h;refine⟨_, _,C,?_⟩;rw[D,b,q _ (eY p m).1 (eY p m).2,GL _ _ rfl,GL _ _ rfl]
  ·have d:aL (dT s.1 (16*f+i) 0) (16*f'+px j p % 16)=aL s.1 (16*f'+px j p % 16):=by
    refine gy (λe=>?_);have c:=h.2;rw[<-e,A] at c;cases c
   refine⟨f',j,⟨by rw[aZ e];exact h.1,?_⟩,?_⟩
   ·rw[d];exact h.2
   grind
end Inv
set_option maxRecDepth 100000
open Go.RX D
structure Kept (s s':WD):Prop where
 ks5: ∀{n:Nat} {d:DT},s.2[n]? =some d->d.1=4\/d.1=5->s'.2[n]? =some d
 ws5: ∀{n:Nat} {d:DT},s.2[n]? =some d->d.1=4\/d.1=5-> ∀k:Int,0<=k->k<16->dQ s'.1 (16*(n:Int)+k)=dQ s.1 (16*(n:Int)+k)
 nw: ∀{n:Nat} {d:DT},s'.2[n]? =some d->s.2[n]? =some d\/((d.1=3\/d.1=5)/\d.2.2=(0,0,())/\1<=d.2.1/\d.2.1<=16)
theorem Kept.ks {s s':WD} (K:Kept s s') {n:Nat} {d:DT} (h:s.2[n]? =some d) (a:d.1=4):s'.2[n]? =some d:=K.ks5 h (.inl a)
theorem Kept.ws {s s':WD} (K:Kept s s') {n:Nat} {d:DT} (h:s.2[n]? =some d) (a:d.1=4) (k:Int) (k0:0<=k) (b:k<16):dQ s'.1 (16*(n:Int)+k)=dQ s.1 (16*(n:Int)+k):=K.ws5 h (.inl a) k k0 b
theorem Kept.refl (s:WD):Kept s s:=⟨λh _=>h,by simp,λh=> .inl h⟩
theorem Kept.trans {s t u:WD} (h:Kept s t) (k:Kept t u):Kept s u:=
 ⟨λh1 a=>k.ks5 (h.ks5 h1 a) a,λh1 a i i0 i1=>(k.ws5 (h.ks5 h1 a) a i i0 i1).trans (h.ws5 h1 a i i0 i1),λh1=>(k.nw h1).elim h.nw .inr⟩
theorem Kept.set {s:WD} {W:List Int} {n:Nat} {d0 d1:DT} (h0:s.2[n]? =some d0) (c:d0.1≠4/\d0.1≠5) (h1:(d1.1=3\/d1.1=5)/\d1.2.2=(0,0,())/\1<=d1.2.1/\d1.2.1<=16) (b: ∀{m:Nat} {d:DT},s.2[m]? =some d->d.1=4\/d.1=5-> ∀k:Int,0<=k->k<16->dQ W (16*(m:Int)+k)=dQ s.1 (16*(m:Int)+k)):Kept s (W,s.2.set n d1):=by
 refine⟨λ{m d} a f=>?_,b,λ{m d} a=>?_⟩
 ·have e:n≠m:=λe=>by grind
  rw[Bx e];exact a
 grind
def iP (s:WD) (f:Int):Prop:=0<=f/\ ∃d,s.2[f.toNat]? =some d/\d.1=5/\ ∀k:Int,0<=k->k<16->dQ s.1 (16*f+k)=0
theorem iP.kept {s s':WD} {f:Int} (h:iP s f) (K:Kept s s'):iP s' f:=by
 obtain⟨h0,d,h1,a,b⟩:=h;refine⟨h0,d,K.ks5 h1 (.inr a),a,λk k0 c=>?_⟩;have:=K.ws5 h1
 grind
theorem Inv.off {g:Gh} {s:WD} (I:Inv g s) {f o x i:Int} {l:Nat} (a:g f=some (o,l,x)) (h0:0<=i) (h1:i<16) {n:Nat} {d:DT} (b:s.2[n]? =some d) (c:d.1=4\/d.1=5) {k:Int} (k0:0<=k) (e:k<16):16*f+i≠16*(n:Int)+k:=by
 have h:=I.kd a
 grind
theorem Inv.Df {g:Gh} {s:WD} (I:Inv g s) {f o x i:Int} {l:Nat} (a:g f=some (o,l,x)) (h0:0<=i) (h1:i<16) (v:Int):Kept s (dT s.1 (16*f+i) v,s.2):=
 ⟨λh _=>h,λb c k k0 d=>by exact mS (I.off a h0 h1 b c k0 d),λh=> .inl h⟩
theorem Inv.BN {g:Gh} {s:WD} (I:Inv g s) {f o x i:Int} {m:Nat} (h:g f=some (o,m+1,x)) (r:0<=i) (t:i<16) (hc:0<cm s.2 0) (G:Int->Int) (e:ET):Kept s (dW (iV s o G) (16*f+i) e):=by
 have j:=I.kd h;obtain⟨n,B,l,u,v,C⟩:=nf hc I.fz ⟨j.2.2.2.1,j.2.2.2.2.1⟩;have D:eV s o=n:=u;have E:rD s o=0:=v;have F:=I.len;have w:16*(n:Int)+16<=s.1.length:=by omega
 have p:iV s o G=(fe s.1 n G 16,s.2.set n (3,o,0,0,())):=by unfold iV;grind
 obtain⟨W,a⟩: ∃W,W=fe s.1 n G 16:=⟨_,rfl⟩;have y: ∀b,dQ W b=if 16*n<=b/\b<16*n+16 then G _ else dQ s.1 b:=λb=>by
  rw[a];exact tE (by omega) w 16 (by grind) b
 rw[<-a] at p;clear a;have z:dW (W,s.2.set n (3,o,0,0,())) _ e=(dT W (16*f+i) (TU e),s.2.set n _):=rfl;rw[p,z];refine Kept.set l (by decide) (by grind) λ{m d} c q k k0 A=>?_;have H:n≠m:=λe=>by subst e;rw[l] at c;cases c;exact absurd q (by decide)
 rw[mS (I.off h r t c q k0 A),y,ao (by omega)]
def Az (g:Gh) (s:WD):Prop:= ∀ ⦃f o l x i⦄,g f=some (o,l,x)->0<=i->i<16->(aL s.1 (16*f+i)).1=true->dO (aL s.1 (16*f+i))=false->l=0
theorem Az.upd {g:Gh} {s s':WD} (h:Az g s) {f o x i:Int} {l:Nat} (n:g f=some (o,l,x)) (h0:0<=i) (h1:i<16) (d: ∀b,b≠16*f+i->aL s'.1 b=aL s.1 b)
 (p:(aL s'.1 (16*f+i)).1=true->dO (aL s'.1 (16*f+i))=false->l=0):Az g s':=λf2 q r t k j k0 m a c=>by
 by_cases e:16*f2+k=16*f+i
 grind
 ·rw[d _ e] at a c;exact h j k0 m a c
theorem Az.grow {g:Gh} {s s':WD} (h:Az g s) {f i F o x a:Int} {m:Nat} (l: ∀b,b≠a->(b<16*F\/16*F+16<=b)->aL s'.1 b=aL s.1 b)
 (q: ∀k,0<=k->k<16->(aL s'.1 (16*F+k)).1=true->m=0) (r:dO (aL s'.1 a)=true):Az (mL g F (some (o,m,x))) s':=λf2 t u v k c k0 n d j=>by
 by_cases e:f2=F
 ·subst e;rw[bL] at c
  grind
 ·rw[aZ e] at c;by_cases p:16*f2+k=a
  grind
  ·rw[l _ p (by omega)] at d j;exact h c k0 n d j
theorem Az.del {g:Gh} {s:WD} (h:Az g s) (F:Int):Az (mL g F none) s:=λf2 f i j k a k0 b c d=>by
 by_cases e:f2=F
 ·subst e;rw[bL] at a;grind
 ·rw[aZ e] at a;exact h a k0 b c d
def Zo (P:Int->Int->Prop):Prop:= ∀o q a,P o q->P o a->q=a
theorem PV (l:Nat) (p:Int):px (l+1) p=px l (p / 16):=by
 induction l with
 |zero=>rfl
 |succ l a=>rw[px,a];rfl
theorem Zo.lv {o p:Int} {lv:Nat} (h:Zo (λo' q=>o'=o/\px lv q=px lv p)):lv=0:=by
 cases lv with
 |zero=>rfl
 |succ=>
  have a:(16*(p / 16)+(p % 16+1) % 16) / 16=p / 16:=by omega
  have:=h o p (16*(p / 16)+(p % 16+1) % 16) (by grind) ⟨rfl,by rw[PV,PV,a]⟩;omega
structure sY (P:Int->Int->Prop) (o:Int) (g g':Gh) (s s':WD):Prop where
 inv:Inv g' s'
 root:mT g g'
 UA:AN o g g' s s'
 D7:th P g g' s s'
 kk: ∀{n:Nat} {d:DT},s.2[n]? =some d->d.1=3\/d.1=5-> ∃d':DT,s'.2[n]? =some d'/\(d'.1=5\/(d'.1=3/\d.1=3))
 len:s'.1.length=s.1.length/\s'.2.length=s.2.length
 kp:Kept s s'
 lg:Zo P->Az g s->Az g' s'
 gk: ∀{f:Int} {v:Int×Nat×Int},g f=some v->g' f=some v\/iP s' f
theorem sY.refl {g:Gh} {s:WD} (I:Inv g s) (P:Int->Int->Prop) (o:Int):sY P o g g s s:=
 ⟨I,.refl g,.refl o g s,.refl P g s,by grind,by simp,.refl s,λ_ h=>h,λh=> .inl h⟩
theorem sY.trans {P:Int->Int->Prop} {o:Int} {a b c:Gh} {s t u:WD} (h:sY P o a b s t) (k:sY P o b c t u):sY P o a c s u where
 inv:=k.inv
 root:=h.root.trans k.root
 UA:=h.UA.trans k.UA
 D7:=h.D7.trans k.D7
 kk:=λd f=>by
  obtain⟨d1,h1,g⟩:=h.kk d f;obtain:=k.kk h1
  grind
 len:=⟨k.len.1.trans h.len.1,k.len.2.trans h.len.2⟩
 kp:=h.kp.trans k.kp
 lg:=λo n=>k.lg o (h.lg o n)
 gk:=λh1=>(h.gk h1).elim (λe=>k.gk e) λe=> .inr (e.kept k.kp)
theorem sY.mono {P d:Int->Int->Prop} {o:Int} {a b:Gh} {s t:WD} (h:sY P o a b s t) (c: ∀o p,P o p->d o p):sY d o a b s t:=⟨h.inv,h.root,h.UA,h.D7.mono c,h.kk,h.len,h.kp,λo1 n=>h.lg (λo q e a b=>o1 o q e (c _ _ a) (c _ _ b)) n,h.gk⟩
theorem PW {ds:List DT} {i:Nat} {d0 d1:DT} (h0:ds[i]? =some d0) (a:d0.1=3\/d0.1=5->d1.1=5) {n:Nat} {d:DT} (h:ds[n]? =some d) (k:d.1=3\/d.1=5): ∃d':DT,(ds.set i d1)[n]? =some d'/\(d'.1=5\/(d'.1=3/\d.1=3)):=by
 grind
theorem xZ (s:WD) (o:Int) (G:Int->Int) (i:Int) (e:ET):(dW (iV s o G) i e).1.length=s.1.length:=by grind[dW,iV,cH,gQ]
def DP (g:Gh) (s:WD) (e:Option Int):Prop:= ∀ ⦃f o l x⦄,g f=some (o,l,x)->l<3->some f≠e-> ∃k,0<=k/\k<16/\(aL s.1 (16*f+k)).1=true
theorem DP.some {g:Gh} {s:WD} (h:DP g s none) (f:Int):DP g s (some f):=λ_ _ _ _ hg a _=>h hg a (by simp)
namespace Inv
variable {g:Gh} {s:WD}
theorem down {o p:Int} (b:0<=p/\p<65536) (lv:Nat): ∀(n:Nat) {g:Gh} {s:WD} {f:Int},Inv g s->dD g s o p f (lv+n)->(aL s.1 (16*f+px (lv+n) p % 16)).1=false->n<=cm s.2 0->
 ∃g' s' f',qV o p n (s,(f,((lv+n:Nat):Int),16*f+px (lv+n) p % 16,()))=(s',(f',(lv:Int),16*f'+px lv p % 16,()))/\sY YE o g g' s s'/\dD g' s' o p f' lv/\(aL s'.1 (16*f'+px lv p % 16)).1=false/\cm s'.2 0+n=cm s.2 0/\(DP g s (some f)->DP g' s' (some f'))
 |0,g,s,f,I,a,c, _=>⟨g,s,f,rfl,.refl I _ _,a,c,rfl,λh=>h⟩
 |n+1,g,s,f,I,a,c,hc=>by
  have v:=I.kd a.1;have w:lv+n<=3:=by have:=v.2.2.2.2.2;omega
  have hi:=eY p (lv+n+1);obtain⟨Y,j,x,y,z,l,q,A,B,C⟩:=I.EW (m:=lv+n) a.1 hi.1 hi.2 a.2 (by omega) (λ_=>0) (λk _ _=>by
   rw[pk];exact⟨KO,Eo _,λ_=>rfl⟩) (λp' _ Z=>by
   rw[pk,GL _ _ rfl,GL];exact c)
  obtain⟨D,E⟩:=A p a rfl;have r:0<=eV s o/\eV s o<4096:=⟨B,C⟩;have F:=qg (d':=(3,o,0,0,())) q 0;have Ky:cm (dW (iV s o λ_=>0) (16*f+px (lv+n+1) p % 16) (cx (eV s o))).2 0+1=cm s.2 0:=by
   rw[l];simpa[zD] using F
  obtain⟨_,u1, _, _, _, _,t,G,u, _⟩:=I.grow (m:=lv+n) a.1 hi.1 hi.2 a.2 (by omega) (λ_=>0) (λk _ _=>by
   rw[pk];exact⟨KO,Eo _,λ_=>rfl⟩)
  have H:sY YE o g _ s (dW (iV s o λ_=>0) (16*f+px (lv+n+1) p % 16) (cx (eV s o))):=
   ⟨j,x,y,z,by grind,⟨xZ _ _ _ _ _,by rw[l,B1]⟩,I.BN (m:=lv+n) a.1 hi.1 hi.2 (by omega) _ _,λ_ nl=>nl.grow (f:=f) (i:=0) t (λk k0 d b=>by rw[G k k0 d,pk] at b;cases b) (by rw[u];exact dL r),λ{f0 J} hg=> .inl (by
    rw[aZ (λe=>?_)]
    ·exact hg
    ·obtain⟨K,L,M⟩:=J;have:=(I.kd hg).2.2.1;rw[e,q] at this;cases this)⟩
  have N:DP g s (some f)->DP (mL g (eV s o) (some (o,lv+n,16*px (lv+n+1+1) p+px (lv+n+1) p % 16))) (dW (iV s o λ_=>0) (16*f+px (lv+n+1) p % 16) (cx (eV s o))) (some (eV s o)):=λh f0 K L M h0 O P=>by
   have Q:f0≠eV s o:=λe=>P (by rw[e]);rw[aZ Q] at h0;by_cases e:f0=f
   ·subst e;exact⟨_,hi.1,hi.2,by rw[u];rfl⟩
   ·obtain⟨k,d,R,S⟩:=h h0 O (by simpa using e);exact⟨k,d,R,by rw[t _ (by omega) (by omega)];exact S⟩
  obtain⟨g',s',f',T,U,V,W,r5,X⟩:=down b lv n j D (by rw[E,pk];rfl) (by omega);refine⟨g',s',f',?_,H.trans U,V,W,by omega,λh=>X (N h)⟩;rw[<-T];show qV o p n _= _;have el:((lv+(n+1):Nat):Int) - 1=((lv+n:Nat):Int):=by omega
  rw[el,lA r b w];rfl
end Inv
set_option maxRecDepth 100000
open Go.RX D
theorem XW {ds:List DT} (h:cm ds 0=0):iO ds=none:=by
 unfold cm at h;unfold iO;rw[H5];intro d a;have:=List.countP_eq_zero.1 h d a;simpa using this
theorem BO {ds:List DT} {y o:Int} (h: ¬ dX ds y o=0):dJ ds y o=ds:=by
 unfold dX at h;unfold dJ;cases a:iO ds with
 |none=>rfl
 |some n=>
  have b: ¬ ds.length=0:=λe=>by
   have:ds=[]:=GF.1 e;subst this;cases a
  rw[ao b,a] at h;dsimp only at h ⊢;by_cases c:(n:Int)<0\/(n:Int)>=ds.length
  ·exact xV c _
  ·rw[yZ (by omega)] at h;rw[pC (by omega),ao h]
theorem JO {s:WD} {o:Int} {G:Int->Int} (h: ¬ rD s o=0):iV s o G=s:=by
 unfold iV;rw[ao h,BO h]
theorem Sq {s:WD} {o:Int} (h:cm s.2 0=0) (a:0<s.2.length): ¬ rD s o=0:=by
 unfold rD dX;rw[ao (by omega),XW h];show ¬ (12:Int)=0;decide
theorem Dg {p:Int} {j:Nat} {e:ET} (h:(l5 p j e).2.2.1=0):e.1=true:=by
 cases a:e.1 with
 |true=>rfl
 |false=>
  rw[GL p j a] at h;exact absurd h (by decide)
theorem PX {ws:List Int} {f:Int} (c:0<=f) (d:16*f+16<=ws.length) {k:Nat} (a:k<16):(jE ws (16*f) 16)[k]? =some (dQ ws (16*f+(k:Int))):=by
 have e:jE ws (16*f) 16=(ws.drop (16*f).toNat).take 16:=ao (by omega);rw[e,Ga a,Gc];unfold dQ;have hi:(16*f).toNat+k<ws.length:=by omega
 rw[aw (jj (by omega) (by omega)),CK hi,DD];have b:(16*f+(k:Int)).toNat=(16*f).toNat+k:=by omega
 rw[b,CK hi];rfl
theorem EX {ws:List Int} {f:Int} (a:0<=f) (b:16*f+16<=ws.length) (h:xz ws f=true) (k:Int) (h0:0<=k) (h1:k<16):dQ ws (16*f+k)=0:=by
 have c:=PX a b (k:=k.toNat) (by omega);unfold xz at h;rw[Gj] at h;have:=h _ (CL c);rw[show((k.toNat:Nat):Int)=k from by omega] at this;simpa using this
theorem Sr {ws:List Int} {f:Int} (b:0<=f) (c:16*f+16<=ws.length) (h:xz ws f=false): ∃k:Int,0<=k/\k<16/\dQ ws (16*f+k)≠0:=by
 unfold xz at h;rw[Gi] at h;obtain⟨v,hv,d⟩:=h;obtain⟨k,a⟩:=Gt hv;have i:(jE ws (16*f) 16).length=16:=by
  have e:jE ws (16*f) 16=(ws.drop (16*f).toNat).take 16:=ao (by omega);rw[e,F4,GO];omega
 have g:k<16:=by have:=(B2.1 a).1;omega
 have:=PX b c g;rw[a] at this;refine⟨(k:Int),by omega,by omega,λe=>d ?_⟩;cases this;simpa using e
def Xo (F:Nat->Int) (p:Int):Nat->Nat->List PT
 |j,0=>[(F j,(j:Int),16*F j+px j p % 16,())]
 |j,n+1=>(F j,(j:Int),16*F j+px j p % 16,())::Xo F p (j+1) n
structure Up (g:Gh) (s:WD) (o p:Int) (F:Nat->Int) (j:Nat):Prop where
 gh: ∀i,j<=i->i<=3->g (F i)=some (o,i,px (i+1) p)
 ld: ∀i,j<=i->i<3->aL s.1 (16*F (i+1)+px (i+1) p % 16)=cx (F i)
theorem Ss (F:Nat->Int) (p:Int) (j n:Nat): ∃l,Xo F p j n=(F j,(j:Int),16*F j+px j p % 16,())::l:=by cases n<;>exact⟨_,rfl⟩
namespace Inv
theorem put {g:Gh} {s:WD} (I:Inv g s) {o r p:Int} (l:g r=some (o,3,0)) (c:0<=p/\p<65536) {lv:Nat} {e:ET} (t:e.1=true) (y:bU e.1 e.2.1 e.2.2.1 e.2.2.2.1=true) (z:dO e=false) (A:lC lv e) (h0:kZ s r p lv=0):
 ∃g',sY (oq o lv p) o g g' s (rO s o r p lv e)/\(∀q,px lv q=px lv p-> ∃f,dD g' (rO s o r p lv e) o q f lv/\aL (rO s o r p lv e).1 (16*f+px lv q % 16)=e)/\
  (∃f j,lv<=j/\dD g s o p f j/\(aL s.1 (16*f+px j p % 16)).1=false/\cm (rO s o r p lv e).2 0+(j - lv)=cm s.2 0)/\(DP g s none->DP g' (rO s o r p lv e) none):=by
 obtain⟨f,j,L,i⟩:=I.lD l c;obtain⟨u,eP⟩:=I.ml l c i;have a:=h0;unfold kZ at a;rw[u,eP] at a;dsimp only at a;by_cases c1:((aL s.1 (16*f+px j p % 16)).1||decide (((j:Nat):Int)<((lv:Nat):Int)))=true
 ·rw[aw c1] at a;exact absurd a (by decide)
 rw[ao c1] at a;by_cases c2:(cm s.2 0:Int)<((j:Nat):Int) - ((lv:Nat):Int)
 ·rw[aw c2] at a;exact absurd a (by decide)
 simp only[Ep,decide_eq_true_eq,not_or,Bool.not_eq_true] at c1;obtain⟨n,rfl⟩: ∃n,j=lv+n:=⟨j - lv,by omega⟩;obtain⟨g1,s1,f1,d1,C1,E1,M,N,x1⟩:=down c lv n I i c1.1 (by omega);have B:rO s o r p lv e=(dT s1.1 (16*f1+px lv p % 16) (TU e),s1.2):=by
  unfold rO;rw[aw h0,u];have en:(((lv+n:Nat):Int) - ((lv:Nat):Int)).toNat=n:=by omega
  dsimp only;rw[en,d1];rfl
 rw[B];have hv:fc (TU e)=e:=xX y;have hi:=eY p lv;obtain⟨C,D,E,F,w⟩:=C1.inv.zu (v:=TU e) E1.1 hi.1 hi.2 E1.2 (by rw[hv];exact z) (by rw[hv];exact A) (λh=>by rw[hv,t] at h;cases h) E1 rfl;refine⟨g1,(C1.mono λ_ _ h=>h.elim).trans ⟨C,.refl _,D,E,λ{m d} h k=>⟨d,h,k.elim (λe=> .inr ⟨e,e⟩) .inl⟩,⟨cH _ _ _,rfl⟩,C1.inv.Df E1.1 hi.1 hi.2 _,λo1 nl=>nl.upd E1.1 hi.1 hi.2 (λb hb=>gy (λe=>hb e.symm)) λ_ _=>o1.lv,λh=> .inl h⟩,λq x=>⟨f1,(F q x).1,?_⟩,⟨f,lv+n,by omega,i,c1.1,?_⟩,λh=>?_⟩
 ·show aL (dT s1.1 _ _) _= _;rw[x,w,hv]
 ·show cm s1.2 0+ _= _;omega
 ·intro f0 O P Q h0 G _;by_cases ef:f0=f1
  ·subst ef;exact⟨_,hi.1,hi.2,by show(aL (dT s1.1 _ _) _).1=true;rw[w,hv];exact t⟩
  ·obtain⟨k,H,J,K⟩:=x1 (h.some f) h0 G (by simpa using ef);exact⟨k,H,J,by show(aL (dT s1.1 _ _) _).1=true;rw[gy (by omega)];exact K⟩
end Inv
set_option maxRecDepth 100000
open Go.RX D
theorem aao (x y:PT) (l:List PT) (t:WD):jv (x::y::l) t=if xz t.1 x.1=true then jv (y::l) (dT t.1 y.2.2.1 0,dN t.2 x.1 (aO 5 0)) else t:=rfl
theorem Zp {ws:List Int} {a:Int} (h:dQ ws a=0):aL ws a=zE:=by unfold aL;rw[h];exact pk
theorem Up.ne {g:Gh} {s:WD} {o p:Int} {F:Nat->Int} {j:Nat} (U:Up g s o p F j) {a b:Nat} (c:j<=a) (d:a<=3) (hb:j<=b) (f:b<=3) (h:a≠b):F a≠F b:=λe=>by
 have h1:=U.gh a c d;rw[e,U.gh b hb f] at h1;simp only[Bf,B3,true_and] at h1;exact h h1.1.symm
theorem mm {r:Int} {l:Bool} {f:Int}:bU true r l f=true<->(0<=r/\r<=7/\0<=f/\f<4096/\(r>0\/l=false)):=by
 unfold bU;cases l<;>simp<;>omega
theorem O7 {p:Bool} {r:Int} {l:Bool} {f:Int} (h:r≠0):dO (p,r,l,f,())=false:=by
 unfold dO fV;simp[h]
namespace Inv
theorem split {g:Gh} {s:WD} (I:Inv g s) {o r p:Int} (E:g r=some (o,3,0)) (F:0<=p/\p<65536) {f:Int} {j:Nat} (a:dD g s o p f j) (b:(aL s.1 (16*f+px j p % 16)).1=true) (h0:mv s o r p=0):
 ∃g' f',sY YE o g g' s (fv s o r p)/\dD g' (fv s o r p) o p f' 0/\cm (fv s o r p).2 0+j=cm s.2 0/\(DP g s none->DP g' (fv s o r p) none):=by
 obtain⟨l,eP⟩:=I.ml E F a;have hi:=eY p j;rcases I.leaf a.1 hi.1 hi.2 b a.2 with ⟨rfl, _⟩|⟨rfl,n,x⟩
 ·have q:fv s o r p=s:=by unfold fv;rw[l];exact aw rfl
  rw[q];exact⟨g,f,.refl I _ _,a,rfl,λh=>h⟩
 ·have G:mv s o r p=rD s o:=by unfold mv;rw[l];exact ao (by show ¬ ((1:Int)=0);decide)
  rw[G] at h0;have q:fv s o r p=dW (iV s o (oH (aL s.1 (16*f+px 1 p % 16)))) (16*f+px 1 p % 16) (cx (eV s o)):=by
   unfold fv;rw[l,eP];rw[ao (by show ¬ ((1:Int)=0);decide),aw h0]
  have y:=I.kd a.1;have hc:0<cm s.2 0:=by
   rcases Nat.eq_zero_or_pos (cm s.2 0) with e|e
   ·exact absurd h0 (Sq e (by omega))
   ·exact e
  have t:=lM s.1 (16*f+px 1 p % 16);rw[q];have H:=a.2;generalize J:aL s.1 (16*f+px 1 p % 16)=e at n x t b H ⊢;obtain⟨ep,er,el,ef,eu⟩:=e;dsimp only at n x t b;subst n;subst b;obtain⟨K,L,b3,b4,z⟩:=mm.1 t;have z:er>0:=z.elim id (λh=>by cases h);have u: ∀k:Int,0<=k->k<16->fc (oH (true,er,true,ef,()) k)=(true,er,false,ef+k,()):=λk k0 c=>by
   show fc (F_ true er false (ef+k))= _;exact xX (mm.2 ⟨K,L,by omega,by omega,.inr rfl⟩)
  have A: ∀k,0<=k->k<16->dO (fc (oH (true,er,true,ef,()) k))=false/\lC 0 (fc (oH (true,er,true,ef,()) k))/\((fc (oH (true,er,true,ef,()) k)).1=false->oH (true,er,true,ef,()) k=0):=λk k0 c=>by
   rw[u k k0 c];exact⟨O7 (by omega),λ_ _=> .inl ⟨rfl,rfl⟩,λh=>by cases h⟩
  obtain⟨q0,M,N,O,P,v,w,Q,R,S⟩:=I.EW (m:=0) a.1 hi.1 hi.2 a.2 hc (oH (true,er,true,ef,())) A (λp' hp0 oB=>by
   rw[u _ (eY p' 0).1 (eY p' 0).2,J];rfl)
  obtain⟨_,u1, _, _, _, _,B,T,C, _⟩:=I.grow (m:=0) a.1 hi.1 hi.2 a.2 hc (oH (true,er,true,ef,())) A;obtain⟨U,e2⟩:=Q p a rfl;have V:=qg (d':=(3,o,0,0,())) w 0;refine⟨_,eV s o,⟨M,N,O,P,λ{m d} W y=>by rw[v];exact PW w (λh=>by rcases h with h|h<;>exact absurd h (by decide)) W y,⟨xZ _ _ _ _ _,by rw[v,B1]⟩,I.BN (m:=0) a.1 hi.1 hi.2 hc _ _,λ_ nl=>nl.grow (f:=f) (i:=0) B (λ_ _ _ _=>rfl) (by rw[C];exact dL ⟨R,S⟩),λ{f0 X} hg=> .inl (by
   rw[aZ (λe=>?_)]
   ·exact hg
   ·obtain⟨Y,Z,x0⟩:=X;have:=(I.kd hg).2.2.1;rw[e,w] at this;cases this)⟩,U,?_,?_⟩
  ·rw[v];simpa[zD] using V
  ·intro h f0 Y Z x0 h0 IS _;by_cases D:f0=eV s o
   ·subst D;exact⟨0,by decide,by decide,by rw[T 0 (by decide) (by decide),u 0 (by decide) (by decide)]⟩
   ·rw[aZ D] at h0;by_cases e:f0=f
    ·subst e;exact⟨_,hi.1,hi.2,by rw[C];rfl⟩
    ·obtain⟨k,c,k2,k3⟩:=h h0 IS (by simp);exact⟨k,c,k2,by rw[B _ (by omega) (by omega)];exact k3⟩
theorem thin {o p:Int} (t:0<=p/\p<65536) {F:Nat->Int}: ∀(n:Nat) {j:Nat} {g:Gh} {s:WD},j+n=3->Inv g s->Up g s o p F j->
 ∃g',sY YE o g g' s (jv (Xo F p j n) s)/\cm (jv (Xo F p j n) s).2 0=cm s.2 0/\(DP g s (some (F j))->DP g' (jv (Xo F p j n) s) none)
 |0,j,g,s,M,I,U=>by
  refine⟨g,.refl I _ _,rfl,λh f0 A B C h0 q _=>h h0 q (λe=>?_)⟩;have D:=U.gh j (B5 _) (by omega);cases e;rw[h0] at D;simp only[Bf,B3] at D;omega
 |n+1,j,g,s,M,I,U=>by
  obtain⟨l',E⟩:=Ss F p (j+1) n;have N:Xo F p j (n+1)=(F j,(j:Int),16*F j+px j p % 16,())::(F (j+1),((j+1:Nat):Int),16*F (j+1)+px (j+1) p % 16,())::l':=by rw[Xo,E]
  have v:=U.gh j (B5 _) (by omega);have g1:=U.gh (j+1) (by omega) (by omega);have O:=U.ld j (B5 _) (by omega);have hi:=eY p (j+1);have f:=I.vJ v;rw[N,aao];cases w:xz s.1 (F j) with
  |false=>
   rw[ao (by decide)];refine⟨g,.refl I _ _,rfl,λh f0 A B C h0 q _=>?_⟩;by_cases e:f0=F j
   ·subst e;obtain⟨k,k0,c,x⟩:=Sr f.1 f.2.2 w;refine⟨k,k0,c,?_⟩;cases hb:(aL s.1 (16*F j+k)).1 with
    |true=>rfl
    |false=>exact absurd (I.wf v k0 c hb) x
   ·exact h h0 q (by simpa using e)
  |true=>
   rw[aw rfl];dsimp only;have P:g (F j)=some (o,j,16*px (j+1+1) p+px (j+1) p % 16):=by rw[<-nV];exact v
   obtain⟨y,G,H,J,l,r,Q,K⟩:=I.MZ g1 hi.1 hi.2 P O (λk k0 c=>Zp (EX f.1 f.2.2 w k k0 c));dsimp only at y G H J l r Q K;have C1:sY YE o g (mL g (F j) none) s (dT s.1 (16*F (j+1)+px (j+1) p % 16) 0,dN s.2 (F j) (aO 5 0)):=
    ⟨y,G,H,J,λ{m d} z R=>by rw[l];exact PW r (λ_=>rfl) z R,⟨cH _ _ _,by rw[l,B1]⟩,by rw[l];exact Kept.set r (show ¬ (3:Int)=4/\ ¬ (3:Int)=5 by decide) ⟨.inr rfl,rfl,(I.kd g1).2.2.2.1,(I.kd g1).2.2.2.2.1⟩ λ{m d} z S k k0 c=>by rw[mS (I.off g1 hi.1 hi.2 z S k0 c)],λ_ nl=>(nl.upd (s':=(dT s.1 (16*F (j+1)+px (j+1) p % 16) 0,dN s.2 (F j) (aO 5 0))) g1 hi.1 hi.2 (λb hb=>gy (λe=>hb e.symm)) λt _=>by rw[K] at t;cases t).del _,λ{f0 W} hg=>by
     by_cases e:f0=F j
     ·subst e;have T:=U.ne (a:=j) (b:=j+1) (by omega) (by omega) (by omega) (by omega) (by omega);refine .inr ⟨f.1, _,by rw[l];exact DK (B2.1 r).1,rfl,λk k0 c=>?_⟩;show dQ (dT s.1 _ _) _=0;rw[mS (by omega)];exact EX f.1 f.2.2 w k k0 c
     ·exact .inl (by rw[aZ e];exact hg)⟩
   have U1:Up (mL g (F j) none) (dT s.1 (16*F (j+1)+px (j+1) p % 16) 0,dN s.2 (F j) (aO 5 0)) o p F (j+1):=by
    refine⟨λi h1 u=>?_,λi h1 u=>?_⟩
    ·rw[aZ (U.ne (by omega) u (B5 _) (by omega) (by omega))];exact U.gh i (by omega) u
    ·have T:=U.ne (a:=i+1) (b:=j+1) (by omega) (by omega) (by omega) (by omega) (by omega);have X:=eY p (i+1);show aL (dT _ _ _) _= _;rw[gy (by omega)];exact U.ld i (by omega) u
   obtain⟨g',c1,c2,c3⟩:=thin t n (by omega) y U1;rw[E] at c1 c2 c3;refine⟨g',C1.trans c1,c2.trans ?_,λh=>c3 λf0 A B C h0 q V=>?_⟩
   ·have:=qg (d':=(5,o,0,0,())) r 0;rw[l];simpa using this
   ·have L:f0≠F j:=λe=>by rw[e,bL] at h0;cases h0
    have Y:f0≠F (j+1):=λe=>V (by rw[e]);rw[aZ L] at h0;obtain⟨k,k0,c,x⟩:=h h0 q (by simpa using L);exact⟨k,k0,c,by show(aL (dT _ _ _) _).1=true;rw[gy (by omega)];exact x⟩
end Inv
set_option maxRecDepth 100000
open Go.RX D
namespace Inv
variable {g:Gh} {s:WD}
theorem acM (I:Inv g s) {o r p f0:Int} (t:g r=some (o,3,0)) (a:0<=p/\p<65536) (E:dD g s o p f0 0):
 ∃F:Nat->Int,F 0=f0/\Up g s o p F 0/\(dt s.1 p 3 r).reverse=Xo F p 0 3:=by
 obtain⟨f1,a1,u⟩:=I.FX E.1 (by decide);obtain⟨f2,e,j⟩:=I.FX a1 (by decide);obtain⟨f3,f,k⟩:=I.FX e (by decide);have v:f3=r:=by
  refine I.inj f ?_;rw[t];have:=px4 a;simp only[px] at this ⊢;rw[this]
 subst v;have b:=I.vJ E.1;have c:=I.vJ a1;have d:=I.vJ e;have m:=I.vJ f;refine⟨λi=>match i with|0=>f0|1=>f1|2=>f2| _=>f3,rfl,⟨λi _ h=>?_,λi _ h=>?_⟩,?_⟩
 ·rcases i with _| _| _| _|i
  ·exact E.1
  ·exact a1
  ·exact e
  ·exact f
  ·omega
 ·rcases i with _| _| _|i
  ·exact u
  ·exact j
  ·exact k
  ·omega
 ·have n:=lA ⟨m.1,m.2.1⟩ a (l:=3) (by omega);have q:=lA ⟨d.1,d.2.1⟩ a (l:=2) (by omega);have w:=lA ⟨c.1,c.2.1⟩ a (l:=1) (by omega);have x:=lA ⟨b.1,b.2.1⟩ a (l:=0) (by omega);have t2:=dL ⟨d.1,d.2.1⟩;have t1:=dL ⟨c.1,c.2.1⟩;have t0:=dL ⟨b.1,b.2.1⟩;have c3:aL s.1 (eB f3 p (2+1:Nat))=cx f2:=by rw[n];exact k
  have c2:aL s.1 (eB f2 p (1+1:Nat))=cx f1:=by rw[q];exact j
  have c1:aL s.1 (eB f1 p ((0+1:Nat):Int))=cx f0:=by grind
  have w1:dt s.1 p 1 f1=[(f1,((0+1:Nat):Int),eB f1 p ((0+1:Nat):Int),()),(f0,0,eB f0 p 0,())]:=by rw[dt,c1,aw t0];rfl
  have y:dt s.1 p 2 f2=[(f2,((1+1:Nat):Int),eB f2 p ((1+1:Nat):Int),()),(f1,((0+1:Nat):Int),eB f1 p ((0+1:Nat):Int),()),(f0,0,eB f0 p 0,())]:=by
   rw[dt,c2,aw t1];show _::dt s.1 p 1 f1= _;rw[w1]
  have z:dt s.1 p 3 f3=[(f3,((2+1:Nat):Int),eB f3 p ((2+1:Nat):Int),()),(f2,((1+1:Nat):Int),eB f2 p ((1+1:Nat):Int),()),(f1,((0+1:Nat):Int),eB f1 p ((0+1:Nat):Int),()),(f0,0,eB f0 p 0,())]:=by
   rw[dt,c3,aw t2];show _::dt s.1 p 2 f2= _;rw[y]
  have A:eB f0 p 0=16*f0+px 0 p % 16:=x;have B:=w;have C:=q;have D:=n;rw[z,A,B,C,D];rfl
theorem JP {s:WD} {n:Nat} {d:DT} (h:s.2[n]? =some d) (k:d.1=3\/d.1=5): ∃d':DT,s.2[n]? =some d'/\(d'.1=5\/(d'.1=3/\d.1=3)):=by grind
theorem Em (I:Inv g s) {o r p:Int} (l:g r=some (o,3,0)) (c:0<=p/\p<65536) (h0:CI s o r false p=0):
 ∃g',sY (oq o 0 p) o g g' s (nE s o r false p)/\bD (nE s o r false p) r false p=(0,0,4,())/\(bD s r false p).2.2.1=0/\
  (∃f j,j<=1/\dD g s o p f j/\(aL s.1 (16*f+px j p % 16)).1=true/\cm (nE s o r false p).2 0+j=cm s.2 0)/\(DP g s none->DP g' (nE s o r false p) none):=by
 have u:(bD s r false p).2.2.1=0:=by
  unfold CI at h0
  grind
 have hs:mv s o r p=0:=by unfold CI at h0;grind
 obtain⟨f,j,R,d⟩:=I.lD l c;have w:=u;rw[I.fy l c d] at w;have m:=Dg w;have A:j<=1:=by
  rcases I.leaf d.1 (eY p j).1 (eY p j).2 m d.2 with h|h<;>omega
 obtain⟨g1,f0,C1,E1,c1,B⟩:=I.split l c d m hs;have C:nE s o r false p=jv (dt (fv s o r p).1 p 3 r).reverse (dT (fv s o r p).1 (dH (fv s o r p).1 r p).2.2.1 0,(fv s o r p).2):=by
  unfold nE;grind
 have n:=C1.root.to l;have D:=(C1.inv.ml n c E1).1;rw[C,D];generalize fv s o r p=t at*
 have hi:=eY p 0;obtain⟨x,E,G,H,J⟩:=C1.inv.zu (v:=0) E1.1 hi.1 hi.2 E1.2 (by rw[pk];exact KO) (by rw[pk];exact Eo _) (λ_=>rfl) E1 rfl;obtain⟨F,y,U,K⟩:=C1.inv.acM n c E1;rw[K];dsimp only;have U2:Up g1 (dT t.1 (16*f0+px 0 p % 16) 0,t.2) o p F 0:=by
  refine⟨U.gh,λi h1 q=>?_⟩;have L:=U.ne (a:=i+1) (b:=0) (by omega) (by omega) (by omega) (by omega) (by omega);rw[y] at L;rw[gy (by omega)];exact U.ld i h1 q
 obtain⟨M,C3,c3,N⟩:=thin c 3 rfl x U2;have C2:sY (oq o 0 p) o g1 g1 t _:=⟨x,.refl _,E,G,λh k=>JP h k,⟨cH _ _ _,rfl⟩,C1.inv.Df E1.1 hi.1 hi.2 _,λ_ nl=>nl.upd E1.1 hi.1 hi.2 (λb hb=>gy (λe=>hb e.symm)) λ_ _=>rfl,λh=> .inl h⟩;refine⟨M,((C1.mono λ_ _ h=>h.elim).trans C2).trans (C3.mono λ_ _ h=>h.elim),?_,u,⟨f,j,A,d,m,?_⟩,λh=>?_⟩
 ·obtain⟨f',S,h1,q⟩:=C3.D7 (λh=>h) (H p rfl).1;rw[C3.inv.fy (C3.root.to n) c h1,q];rw[J,pk];rfl
 grind
 ·refine N λf1 o1 T x1 h1 O z=>?_;rw[y] at z;have V:f1≠f0:=λe=>z (by rw[e]);obtain⟨k,k0,P,Q⟩:=B h h1 O (by simp);exact⟨k,k0,P,by rw[gy (by omega)];exact Q⟩
theorem tD (I:Inv g s) {o r p rt:Int} (d:g r=some (o,3,0)) (h0:Gy s o r false p rt=0):
 (0<=p/\p<65536)/\ ∃g',sY (oq o 0 p) o g g' s (rP s o r false p rt)/\(bD s r false p).2.2.1=0/\bD (rP s o r false p rt) r false p=((bD s r false p).1,rt,0,())/\
  cm s.2 0<=cm (rP s o r false p rt).2 0+1:=by
 have n: ¬ (false=true):=by decide
 unfold Gy at h0;rw[ao n] at h0;have l:k_ p 0 rt=0:=by
  grind
 rw[aw l] at h0;have w:(0<=p/\p<65536)/\1<=rt/\rt<=7:=by
  unfold k_ at l
  grind
 obtain⟨a,G⟩:=w;refine⟨a,?_⟩;obtain⟨f,j,H,c⟩:=I.lD d a;obtain⟨x,eP⟩:=I.ml d a c;have J:=I.fy d a c;by_cases c1:(cW s.1 r p).1=true
 ·rw[aw c1] at h0;have y:rP s o r false p rt=(if((cW s.1 r p).2.2.1&&(cW s.1 r p).2.1==rt)=true then s
   else if mv s o r p=0 then dW (fv s o r p) (dH (fv s o r p).1 r p).2.2.1 (true,rt,false,qK p (dH s.1 r p) (cW s.1 r p),()) else fv s o r p):=by
   unfold rP;rw[ao n,aw l,aw c1]
  rw[y];have i:(aL s.1 (16*f+px j p % 16)).1=true:=by rw[<-eP];exact c1
  have m:bD s r false p=(qK p (dH s.1 r p) (cW s.1 r p),(cW s.1 r p).2.1,0,()):=by
   unfold bD
   grind
  by_cases c2:((cW s.1 r p).2.2.1&&(cW s.1 r p).2.1==rt)=true
  ·rw[aw c2];refine⟨g,.refl I _ _,by rw[m],?_,by omega⟩
   grind
  ·rw[ao c2] at h0;rw[ao c2,aw h0];obtain⟨g1,f0,C1,E1,d1,K⟩:=I.split d a c i h0;have q:=C1.root.to d;have z:=(C1.inv.ml q a E1).1;rw[z];have L:0<=qK p (dH s.1 r p) (cW s.1 r p)/\qK p (dH s.1 r p) (cW s.1 r p)<4096:=by
    have u:=lM s.1 (16*f+px j p % 16);have A:=I.leaf c.1 (eY p j).1 (eY p j).2 i c.2;rw[eP,x];generalize aL s.1 (16*f+px j p % 16)=e at*
    obtain⟨ep,er,el,ef,M⟩:=e;dsimp only at i u A;subst i;obtain⟨N,O,P,Q,R⟩:=mm.1 u;unfold qK
    grind
   have S:j<=1:=by
    rcases I.leaf c.1 (eY p j).1 (eY p j).2 i c.2 with h|h<;>omega
   have B:(bD s r false p).1=qK p (dH s.1 r p) (cW s.1 r p):=by rw[m]
   rw[B];generalize qK p (dH s.1 r p) (cW s.1 r p)=fr at*
   generalize fv s o r p=t at*
   have hv:fc (TU (true,rt,false,fr,()))=(true,rt,false,fr,()):=by
    show fc (F_ true rt false fr)= _;exact xX (mm.2 (by omega))
   have hi:=eY p 0;obtain⟨v,C,D,E,F⟩:=C1.inv.zu E1.1 hi.1 hi.2 E1.2 (by rw[hv];exact O7 (by omega)) (by rw[hv];exact λ_ _=> .inl ⟨rfl,rfl⟩) (λh=>by rw[hv] at h;cases h) E1 rfl;have C2:sY (oq o 0 p) o g1 g1 t _:=⟨v,.refl _,C,D,λh k=>JP h k,⟨cH _ _ _,rfl⟩,C1.inv.Df E1.1 hi.1 hi.2 _,λ_ nl=>nl.upd E1.1 hi.1 hi.2 (λb hb=>gy (λe=>hb e.symm)) λ_ _=>rfl,λh=> .inl h⟩;refine⟨g1,(C1.mono λ_ _ h=>h.elim).trans C2,by rw[m],?_,?_⟩
   ·show bD (dT t.1 (16*f0+px 0 p % 16) _,t.2) r false p= _;rw[v.fy q a (E p rfl).1];show l5 p 0 (aL (dT t.1 _ _) _)= _;rw[F,hv];rfl
   ·show _<=cm t.2 0+1;omega
 grind
theorem map (I:Inv g s) {o r p f rt:Int} (b:g r=some (o,3,0)) (h0:kh s r false p f rt=0):
 (0<=p/\p<65536)/\ ∃g',sY (oq o 0 p) o g g' s (jD s o r false p f rt)/\bD (jD s o r false p f rt) r false p=(f,rt,0,())/\1<=rt/\(bD s r false p).2.2.1=4/\
  (∃f0,dD g' (jD s o r false p f rt) o p f0 0)/\
  (∃f0 j,dD g s o p f0 j/\cm (jD s o r false p f rt).2 0+j=cm s.2 0)/\(DP g s none->DP g' (jD s o r false p f rt) none):=by
 unfold kh at h0;have c:k_ p f rt=0:=by
  grind
 rw[aw c] at h0;have d:(0<=p/\p<65536)/\(0<=f/\f<4096)/\1<=rt/\rt<=7:=by
  unfold k_ at c
  grind
 obtain⟨a,q,e⟩:=d;have i:jD s o r false p f rt=rO s o r p 0 (true,rt,false,f,()):=by unfold jD;grind
 rw[i];have k:bU _ rt false f=true:=mm.2 (by omega);obtain⟨g',C,A,⟨f1,j,t,l,m,hc⟩,u⟩:=I.put b a rfl k (O7 (by omega)) (λ_ _=> .inl (by grind)) h0;obtain⟨f2,E2,n⟩:=A p rfl;refine⟨a,g',C,?_,e.1,?_,⟨f2,E2⟩,by grind⟩
 ·have h:=C.inv.fy (C.root.to b) a E2;rw[n] at h;exact h
 ·rw[I.fy b a l,GL _ _ m]
end Inv
set_option maxRecDepth 100000
open Go.RX D
def fresh (n m:Nat):WD:=(CJ n 0,CJ m zD)
abbrev noG:Gh:=λ_=>none
theorem Wb (m:Nat) (v:Int):cm (CJ m zD) v=if v=0 then m else 0:=by
 unfold cm;rw[List.countP_replicate];by_cases h:v=0
 ·subst h;rfl
 ·rw[ao h,ao];show ¬ (((0:Int)==v)=true);simp;omega
theorem M6 {n m:Nat} (h:16*m<=n) (b:m<=4096):Inv noG (fresh n m) where
 len:=by
  show 16*(CJ m zD).length<=(CJ n (0:Int)).length;simpa using h
 le:=by
  show(CJ m zD).length<=4096;simpa using b
 fz:=λd a _=>H6 a
 kd:=by intro f o l x h;cases h
 inj:=by intro f o l h;cases h
 sM:=by intro f o l x i h;cases h
 leaf:=by intro f o l x i h;cases h
 FX:=by intro f o l x h;cases h
 wf:=by intro f o l x i h;cases h
 tb:=by
  intro k d a c;have:d=zD:=H6 (CL a);subst this;cases c
namespace Inv
variable {g:Gh} {s:WD}
theorem born (I:Inv g s) {o:Int} (w:1<=o/\o<=16) (A: ∀f,g f≠some (o,3,0)) (hc:0<cm s.2 0):
 rD s o=0/\g (eV s o)=none/\0<=eV s o/\eV s o<s.2.length/\(iV s o λ_=>0).2=s.2.set (eV s o).toNat (3,o,0,0,())/\s.2[(eV s o).toNat]? =some zD/\
 (∀b,(b<16*eV s o\/16*eV s o+16<=b)->dQ (iV s o λ_=>0).1 b=dQ s.1 b)/\
 (∀k,0<=k->k<16->dQ (iV s o λ_=>0).1 (16*eV s o+k)=0)/\(iV s o λ_=>0).1.length=s.1.length/\
 Inv (mL g (eV s o) (some (o,3,0))) (iV s o λ_=>0):=by
 obtain⟨n,K,B,L,M,N⟩:=nf hc I.fz w;have C:eV s o=(n:Int):=L;have D:rD s o=0:=M;have O:=I.len;have P:=I.le;have Q:16*(n:Int)+16<=s.1.length:=by omega
 obtain⟨W,r⟩: ∃W,W=fe s.1 (n:Int) (λ_=>0) 16:=⟨_,rfl⟩;have E:W.length=s.1.length:=by rw[r,gQ]
 have F: ∀b,dQ W b=if 16*(n:Int)<=b/\b<16*(n:Int)+16 then 0 else dQ s.1 b:=λb=>by
  rw[r];exact tE (by omega) Q 16 (B5 _) b
 have R:iV s o (λ_=>0)=(W,s.2.set n (3,o,0,0,())):=by unfold iV;rw[aw D,C,N,r]
 clear r;have gn:g (n:Int)=none:=by
  cases hg:g (n:Int) with
  |none=>rfl
  |some v=>
   obtain⟨a,b,c⟩:=v;have:=(I.kd hg).2.2.1;rw[show((n:Int)).toNat=n from rfl,B] at this;cases this
 have t: ∀{f':Int} {v},g f'=some v->f'≠(n:Int):=λh e=>by rw[e,gn] at h;cases h
 rw[R,C];have x: ∀b,(b<16*(n:Int)\/16*(n:Int)+16<=b)->dQ W b=dQ s.1 b:=λb h=>by rw[F b,ao (by omega)]
 have y: ∀k,0<=k->k<16->dQ W (16*(n:Int)+k)=0:=λk h0 h1=>by rw[F,aw (by omega)]
 have w1: ∀b,(b<16*(n:Int)\/16*(n:Int)+16<=b)->aL W b=aL s.1 b:=λb h=>by unfold aL;rw[x b h]
 have G: ∀k,0<=k->k<16->aL W (16*(n:Int)+k)=zE:=λk h0 h1=>by unfold aL;rw[y k h0 h1];exact pk
 have fW: ∀{f0 l p k:Int} {i:Nat},g f0=some (l,i,p)->0<=k->k<16->aL W (16*f0+k)=aL s.1 (16*f0+k):=λ{f0 l p k i} h h0 h1=>by
  have:=t h;exact w1 _ (by omega)
 refine⟨D,gn,by omega,by omega,rfl,by rw[show((n:Int)).toNat=n from rfl];exact B,x,y,E,?_⟩;refine⟨?_,?_,?_,?_,?_,?_,?_,?_,?_,?_⟩
 ·show 16*(s.2.set n _).length<=W.length;rw[E,B1];exact O
 ·show(s.2.set n _).length<=4096;rw[B1];exact P
 ·intro d z h0;rcases Do z with z|rfl
  ·exact I.fz d z h0
  ·cases h0
 ·intro f0 l i p h;show _/\ _<((s.2.set n (3,o,0,0,())).length:Int)/\(s.2.set n (3,o,0,0,()))[f0.toNat]? = _/\ _;rw[B1];by_cases e:f0=(n:Int)
  ·subst e;rw[bL] at h;cases h;refine⟨by omega,by omega,?_,w.1,w.2,by omega⟩;rw[show((n:Int)).toNat=n from rfl,DK K]
  ·rw[aZ e] at h;obtain⟨a1,S,T,U⟩:=I.kd h;refine⟨a1,S,?_,U⟩;rw[Bx (by omega)];exact T
 ·intro a b v q hb;by_cases e:a=(n:Int)<;>by_cases e':b=(n:Int)
  ·rw[e,e']
  ·subst e;rw[bL] at q;rw[aZ e'] at hb;cases q;exact absurd hb (A b)
  ·subst e';rw[bL] at hb;rw[aZ e] at q;cases hb;exact absurd q (A a)
  ·rw[aZ e] at q;rw[aZ e'] at hb;exact I.inj q hb
 ·intro f0 l i p k h h0 h1 j;by_cases e:f0=(n:Int)
  ·subst e;have j:dO (aL W (16*(n:Int)+k))=true:=j;rw[G k h0 h1,KO] at j;cases j
  ·rw[aZ e] at h;have j:dO (aL W (16*f0+k))=true:=j;show∃m,i=m+1/\mL g n _ (aL W (16*f0+k)).2.2.2.1= _;rw[fW h h0 h1] at j ⊢;obtain⟨V,X,H⟩:=I.sM h h0 h1 j;exact⟨V,X,by rw[aZ (t H)];exact H⟩
 ·intro f0 l i p k h h0 h1;show lC i (aL W (16*f0+k));by_cases e:f0=(n:Int)
  ·subst e;rw[G k h0 h1];exact Eo _
  ·rw[aZ e] at h;rw[fW h h0 h1];exact I.leaf h h0 h1
 ·intro f0 l i p h Y;by_cases e:f0=(n:Int)
  ·subst e;rw[bL] at h;cases h;omega
  ·rw[aZ e] at h;obtain⟨f',p1,p2⟩:=I.FX h Y;refine⟨f',by rw[aZ (t p1)];exact p1,?_⟩;show aL W _= _;rw[fW p1 (by omega) (by omega)];exact p2
 ·intro f0 l i p k h h0 h1 u;show dQ W (16*f0+k)=0;by_cases e:f0=(n:Int)
  ·subst e;exact y k h0 h1
  ·rw[aZ e] at h;have u:(aL W (16*f0+k)).1=false:=u;rw[fW h h0 h1] at u;have:=t h;rw[x _ (by omega)];exact I.wf h h0 h1 u
 ·intro J d Z h3;by_cases e:J=n
  ·subst e;exact⟨_,bL _ _ _⟩
  ·have h':(s.2.set n (3,o,0,0,()))[J]? =some d:=Z;rw[Bx (by omega)] at h';obtain⟨v,hv⟩:=I.tb h' h3;exact⟨v,by rw[aZ (by omega)];exact hv⟩
end Inv
end Go.Proofs.YtlcenllcmeebhaaGreat
