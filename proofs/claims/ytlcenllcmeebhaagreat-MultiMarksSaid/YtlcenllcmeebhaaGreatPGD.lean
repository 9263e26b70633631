import Derived.Test.YtlcenllcmeebhaaGreatPGC
/-! What the statement leans on: texts joined and shortened by a program of mine. -/
set_option linter.unusedVariables false
set_option linter.unusedSimpArgs false
open Go renaming World->A2,Addr->AI,Value->Ag,MapEntry->B1
open Go.Proofs.Tryz renaming prog->AC
open Eq renaming mpr->Aq
open Go.IntKind renaming i64->B2
open List renaming range->B3,length_set->B5,getElem?_eq_some_iff->B6,length_cons->BJ,getElem?_set_ne->Bx,replicate->CW,getElem?_eq_getElem->DA,mem_of_getElem?->DB,sublist_cons_self->Dc,mem_append_right->Dg,getD_eq_getElem?_getD->Dj,perm_middle->Dn,getElem?_set_self->Do,length_map->Dq,append_nil->Dr,mem_or_eq_of_mem_set->FE,length_append->FP,mem_cons_self->FQ,getElem?_append_left->FR,mem_cons->FU,mem_singleton->Fg,length_take->Fi,drop_of_length_le->Fm,take_add_one->Fo,sublist_append_left->Ft,drop_eq_getElem_cons->Fw,length_eq_zero_iff->GG,findIdx?_eq_some_iff_getElem->GH,ext_getElem?->GI,append_assoc->GJ,length_pos_iff->GS,length_drop->Ga,getElem?_map->Gd,getElem?_take_of_lt->Gi,getElem?_drop->Gj,take_of_length_le->H4,all_eq_false->H5,all_eq_true->H6,getElem?_of_mem->H7,take_append_drop->HB,range_succ->HZ,foldl_cons->Hb,getElem?_append_right->Hh,findIdx?_eq_none_iff->Hq,eq_of_mem_replicate->Hr
open Int renaming toNat->B4,le_refl->Dx,eq_ofNat_of_zero_le->I1
open Prod.mk renaming injEq->B7
open Nat renaming le_refl->BP,mul_one->Dk,eq_of_beq_eq_true->E4,ne_of_beq_eq_false->E5,zero_add->Fx
open Option.some renaming injEq->BY
open Decidable renaming rec->DH
open List.Sublist renaming refl->DQ
open Go.Value renaming func->F2,pointer->I2,nilFunc->ID
open Bool renaming or_eq_true->FS,or_eq_false_iff->G1
open List.Perm renaming swap->GD,cons->GF
namespace Go.Proofs.YtlcenllcmeebhaaGreat
set_option maxRecDepth 100000
open Go.RX
abbrev aat:Sh:= .el (.one (.zV 244 2))
abbrev Gl:Sh:= .el (.one (.zV 247 3))
noncomputable def N0:dD AC:={M0 with sh:=[(219,aat),(239,Gl)],quiet:=[117,118,62,30,88,56,215,194,241]}
theorem LG (p:Option AI) (w:A2) (a:Int->A2->Prop):(aJ N0 (λ_=>[]) 88 [ag p] w a)=(
 ((!p.isNone)=true->p.isSome=true)/\((!p.isNone)=true->p.isSome=true)/\aj w (some !p.isNone) (ad p 0) jh λx=>aH (p.isNone||x.isNone) (ao w (a 10)) (ab3 p 4 w λx=>aH x (ao w (a 6)) (ao w (a 0)))):=by kernel_rfl
theorem Rz (p:Option AI) (w:A2) (a:Int->A2->Prop):(aJ N0 (λ_=>[]) 56 [ag p] w a)=(
 ∃(x:Int),af AC 88 [ag p] w (aa x)/\aH (x != 0) (ao w (a (-1))) (cL p 3 w λx=>ao w (a x))):=by kernel_rfl
theorem LH (p f r:Int) (w:A2) (a:Int->A2->Prop):(aJ N0 (λ_=>[]) 215 [aa p,aa f,aa r] w a)=(
 aH (decide (p<0)||decide (p>=65536)||decide (f<0)||decide (f>=4096)) (ao w (a 2)) (aH (decide (r<1)||decide (r>7)) (ao w (a 7)) (ao w (a 0)))):=by kernel_rfl
theorem LI (f:Int) (w:A2) (c:(Bool×Int×Bool×Int×Unit)->A2->Prop):(bQ N0 (λ_=>[]) 241 [aa f] w c)=(
 aM w ⟨[.bool false,aa 0,.bool false,aa 0]⟩ 130 λb a=>aA a (ae b) [.bool true,aa 0,.bool false,aa f] λa=>ao a λw1=>aj w1 none (ae b) jU λ(x:Bool×Int×Bool×Int×Unit)=>c (x.1,x.2.1,x.2.2.1,x.2.2.2.1,()) w1):=by kernel_rfl
theorem LJ (p d e f:Int) (ep:Bool) (er:Int) (el:Bool) (ef:Int) (w:A2) (c:Int->A2->Prop):(aJ N0 (λ_=>[]) 194 [aa p,.agg ⟨[aa d,aa e,aa f]⟩,.agg ⟨[.bool ep,aa er,.bool el,aa ef]⟩] w c)=(
 aM w ⟨[aa d,aa e,aa f]⟩ 270 λb a=>aM a ⟨[.bool ep,aa er,.bool el,aa ef]⟩ 130 λg a=>true=true/\aR a (ad (ae b) 1) λx=>aH (x==1) (true=true/\aR a (ad (ae g) 3) λx=>True/\gK 1≠0/\ao a λw1=>c (aI .i64 x (ff p (gK 1))) w1) (true=true/\aR a (ad (ae g) 3) λx=>ao a (c x))):=by kernel_rfl
theorem Pf (p:Option AI) (i:Int) (w:A2) (c:(Bool×Int×Bool×Int×Unit)->A2->Prop):(bQ N0 (λ_=>[]) 235 [ag p,aa i] w c)=(
 aM w ⟨[.bool false,aa 0,.bool false,aa 0]⟩ 130 λb a=>bE p 0 a λx=>az AC 37 (.bu [.one (.int .u64),.one (.int .i64)]) [ag x,aa i] a λ(x:Int×Int×Unit) a=>U (B x.1)=x.1/\aM a ⟨[.bool false,aa 0,.bool false,aa 0]⟩ 130 λd a=>aA a (ae d) [.bool (Ib (B x.1).toNat),aa (FB (B x.1).toNat),.bool (JZ (B x.1).toNat),aa (Fk (B x.1).toNat)] λa=>aj a none (ae d) jU λ(x:Bool×Int×Bool×Int×Unit)=>aA a (ae b) [.bool x.1,aa x.2.1,.bool x.2.2.1,.int
 .i64 x.2.2.2.1] λa=>ao a λw1=>aj w1 none (ae b) jU λ(x:Bool×Int×Bool×Int×Unit)=>c (x.1,x.2.1,x.2.2.1,x.2.2.2.1,()) w1):=by kernel_rfl
theorem Vq (p:Option AI) (i:Int) (ep:Bool) (er:Int) (el:Bool) (ef:Int) (w:A2) (c:Unit->A2->Prop):(aJ N0 (λ_=>[]) 222 [ag p,aa i,.agg ⟨[.bool ep,aa er,.bool el,aa ef]⟩] w c)=(
 aM w ⟨[.bool ep,aa er,.bool el,aa ef]⟩ 130 λb a=>aj a none (ae b) jU λ(x:Bool×Int×Bool×Int×Unit)=>True/\bE p 0 a λd=>az AC 38 (.el aT) [ag d,aa i,ax (FA x.1 x.2.1 x.2.2.1 x.2.2.2.1)] a λ(x:Int) a=>ao a (c ())):=by kernel_rfl
theorem Vr (p:Option AI) (pg:Int) (w:A2) (c:Option AI×Option AI×Unit->A2->Prop):(aJ N0 (λ_=>[]) 219 [ag p,aa pg] w c)=(
 aM w ⟨[ag p]⟩ 118 λb a=>aM a ⟨[aa pg]⟩ 3 λd a=>ao a (c (some ⟨b,0,none⟩,some ⟨d,0,none⟩,()))):=by kernel_rfl
def ug:Nat->aY:=(λ|2=>[(4,Go.RX.El.one (Go.RX.Sc.int B2)),(5,Go.RX.El.one (Go.RX.Sc.int B2))]| _=>[])
theorem RA (y:Nat) (p c:Option AI) (w:A2) (d:Unit->A2->Prop):(aJ N0 ug 244 [.func (.yield y) #[] #[],ag p,ag c] w d)=(
 fT w p λx=>cL x 3 w λx=> ∃(I:Nat->Int×Int×Unit->A2->Prop),(∃n, ∀w1,Ext w w1->I n (x,3,()) w1)/\ ∀(n:Nat) (s:Int×Int×Unit) (w1:A2),I n s w1->aH (decide (s.2.1>=0)) (aR w1 c λx=>True/\aM w1 ⟨[aa 0,aa 0,aa 0]⟩ 270 λb a=>aA a (ae b) [aa s.1,aa s.2.1,aa (dX s.1 x s.2.1)] λa=>fT a p λx=>true=true/\aR a (ad (ae b) 2) λh=>az AC 235 (.el jU) [ag x,aa h] a λ(x:Bool×Int×Bool×Int×Unit) a=>aM a ⟨[.bool false,
 aa 0,.bool false,aa 0]⟩ 130 λe a=>aA a (ae e) [.bool x.1,aa x.2.1,.bool x.2.2.1,aa x.2.2.2.1] λa=>aj a none (ae b) wR λ(x:Int×Int×Int×Unit)=> ∀w1,Ext a w1->ml AC y [.agg ⟨[aa x.1,aa x.2.1,aa x.2.2.1]⟩] w1 λ(b:Bool) a=>aj a (some !!b) (ae e) jU λ(x:Bool×Int×Bool×Int×Unit)=>((!!b)=true->True)/\aH (!b|| !fG x.1 x.2.1 x.2.2.1 x.2.2.2.1) (ao a (d ())) (true=true/\aR a (ad (ae e) 3) λx=> ∀f,Ext a f-> ∃(g:Nat),g<n/\
 I g (x,aX .i64 s.2.1 1,()) f)) (ao w1 (d ()))):=by kernel_rfl
def uh:Nat->aY:=(λ|4=>[(6,.agg [.int .i64,.int .i64,.int .i64])]| _=>[])
theorem RB (p c:Option AI) (w:A2) (e:Option AI×Nat×Nat->A2->Prop):(bQ N0 uh 218 [.func (.func 244) #[] #[ag p,ag c]] w e)=(
 aM w ⟨[.slice none 0 0]⟩ 285 λb a=>zS AC 244 (λ(y:Nat)=>[.func (Fn.yield y) ⟨[]⟩ ⟨[]⟩,ag p,ag c]) ⟨[6]⟩ a (λ(x:(Int×Int×Int×Unit)×Unit)=>[.agg ⟨[aa x.1.1,aa x.1.2.1,aa x.1.2.2.1]⟩]) (λ(l:Nat) (rec:Loop) (x:(Int×Int×Int×Unit)×Unit) g (R:Bool->A2->Prop)=>Dd l rec [Value.agg ⟨[aa x.1.1,aa x.1.2.1,aa x.1.2.2.1]⟩].length 1 g (aM g ⟨[aa 0,aa 0,aa 0]⟩ 270 λi a=>aA a (ae i) [aa x.1.1,aa x.1.2.1,.int .i64
 x.1.2.2.1] λa=>BN l rec a λd=>sT d (ae b) λx=>aj d none (ae i) wR λ(f:Int×Int×Int×Unit)=>aM d ⟨[aa f.1,aa f.2.1,aa f.2.2.1]⟩ 270 λj a=> ∀w1,Ext a w1->mz w1 270 3 24 ⟨[aa 0,aa 0,aa 0]⟩ (x.1,x.2.1,x.2.2) (some ⟨j,0,none⟩,1,1) λ(r:Option AI×Nat×Nat) a=>aA a (ae b) [.slice r.1 r.2.1 r.2.2] λa=>sj l rec none a R)) λ(r:Nat) (rec:Loop) k=>du (r+1) rec
 k (λd=>sT d (ae b) λx=>sk [r] d λw1=>e (x.1,x.2.1,x.2.2) w1) (λ(id:Nat) d=>DH (λ(h:id=0->False)=>False) (λ(h:id=0)=>sT d (ae b) λx=>sk [r] d λw1=>e (x.1,x.2.1,x.2.2) w1) (match h:id.beq 0 with|true=>isTrue (E4 h)|false=>isFalse (E5 h))) λd=>sk [r] d λw1=>e (none,0,0) w1):=by kernel_rfl
theorem Vs (p:Option AI) (pg:Int) (w:A2) (f:(Int×Int×Int×Unit)×(Bool×Int×Bool×Int×Unit)×Unit->A2->Prop):(bQ N0 (λ_=>[]) 193 [ag p,aa pg] w f)=(
 aM w ⟨[aa 0,aa 0,aa 0]⟩ 270 λb a=>aM a ⟨[.bool false,aa 0,.bool false,aa 0]⟩ 130 λg a=>az AC 219 (.el (.one (.zV 244 2))) [ag p,aa pg] a λx a=>az AC 218 (.el eJ) [.func (.func 244) ⟨[]⟩ ⟨[ag x.1,ag x.2.1]⟩] a λx a=>(x.1.isSome=true/\0<=aX .i64 (↑x.2.1:Int) 1/\aX .i64 (↑x.2.1:Int) 1<(↑x.2.1:Int))/\aj a none (ad x.1 ((aX .i64 (↑x.2.1:Int) 1).toNat*3)) wR λ(x:Int×Int×Int×Unit)=>aM a ⟨[aa 0,aa 0,aa 0]⟩ 270 λc
 a=>aA a (ae c) [aa x.1,aa x.2.1,aa x.2.2.1] λa=>aj a none (ae c) wR λ(x:Int×Int×Int×Unit)=>true=true/\aR a (ad (ae c) 2) λh=>az AC 235 (.el jU) [ag p,aa h] a λ(d:Bool×Int×Bool×Int×Unit) a=>cC a (ae c) wR x/\aA a (ae b) [aa x.1,aa x.2.1,aa x.2.2.1] λa=>aA a (ae g) [.bool d.1,aa d.2.1,.bool d.2.2.1,aa d.2.2.2.1] λa=>ao a λw1=>aj w1 none (ae b) wR λ(x:Int×Int×Int×Unit)=>aj w1
 none (ae g) jU λ(e:Bool×Int×Bool×Int×Unit)=>f ((x.1,x.2.1,x.2.2.1,()),(e.1,e.2.1,e.2.2.1,e.2.2.2.1,()),()) w1):=by kernel_rfl
def qR:Nat->aY:=(λ|5=>[(24,Go.RX.El.one (Go.RX.Sc.int B2))]| _=>[])
theorem LK (p:Option AI) (w:A2) (b:Int×Int×Unit->A2->Prop):(aJ N0 qR 205 [ag p,.func (.func 206) #[] #[]] w b)=(
 bE p 1 w λx=>cL p 2 w λf=>az AC 172 (.bu [.one (.int .i64),.one (.int .i64)]) [ag x,aa 3,aa f] w λ(x:Int×Int×Unit) a=>aH (x.2.1 != 0) (ao a (b (0,x.2.1,()))) (∃(I:Nat->Int×Unit->A2->Prop),(∃n, ∀w1,Ext a w1->I n (0,()) w1)/\ ∀(n:Nat) (s:Int×Unit) (w1:A2),I n s w1->aH (decide (s.1<16)) (bE p 0 w1 λc=>az AC 206 (.el ou) [aa s.1] w1 λ(g:Int) a=>True/\True/\cC a (ad p 0) jh c/\True/\True/\az AC 38 (.el aT) [ag c,
 aa (aI .i64 (gq .i64 16 x.1) s.1),ax g] a λ(x:Int) a=> ∀d,Ext a d-> ∃(e:Nat),e<n/\I e (aI .i64 s.1 1,()) d) (ao w1 (b (x.1,0,()))))):=by kernel_rfl
def qS:Nat->aY:=(λ|5=>[(24,Go.RX.El.one (Go.RX.Sc.int B2))]| _=>[])
theorem LM (p:Option AI) (w:A2) (b:Int×Int×Unit->A2->Prop):(aJ N0 qS 205 [ag p,.func (.func 240) #[] #[]] w b)=(
 bE p 1 w λx=>cL p 2 w λf=>az AC 172 (.bu [.one (.int .i64),.one (.int .i64)]) [ag x,aa 3,aa f] w λ(x:Int×Int×Unit) a=>aH (x.2.1 != 0) (ao a (b (0,x.2.1,()))) (∃(I:Nat->Int×Unit->A2->Prop),(∃n, ∀w1,Ext a w1->I n (0,()) w1)/\ ∀(n:Nat) (s:Int×Unit) (w1:A2),I n s w1->aH (decide (s.1<16)) (bE p 0 w1 λc=>az AC 240 (.el ou) [aa s.1] w1 λ(g:Int) a=>True/\True/\cC a (ad p 0) jh c/\True/\True/\az AC 38 (.el aT) [ag c,
 aa (aI .i64 (gq .i64 16 x.1) s.1),ax g] a λ(x:Int) a=> ∀d,Ext a d-> ∃(e:Nat),e<n/\I e (aI .i64 s.1 1,()) d) (ao w1 (b (x.1,0,()))))):=by kernel_rfl
def qT:Nat->aY:=(λ|5=>[(24,Go.RX.El.one (Go.RX.Sc.int B2))]| _=>[])
theorem LN (p e:Option AI) (w:A2) (b:Int×Int×Unit->A2->Prop):(aJ N0 qT 205 [ag p,.func (.func 242) #[] #[ag e]] w b)=(
 bE p 1 w λx=>cL p 2 w λg=>az AC 172 (.bu [.one (.int .i64),.one (.int .i64)]) [ag x,aa 3,aa g] w λ(x:Int×Int×Unit) a=>aH (x.2.1 != 0) (ao a (b (0,x.2.1,()))) (∃(I:Nat->Int×Unit->A2->Prop),(∃n, ∀w1,Ext a w1->I n (0,()) w1)/\ ∀(n:Nat) (s:Int×Unit) (w1:A2),I n s w1->aH (decide (s.1<16)) (bE p 0 w1 λc=>az AC 242 (.el ou) [aa s.1,ag e] w1 λ(h:Int) a=>True/\True/\cC a (ad p 0) jh c/\True/\True/\az AC 38 (.el aT)
 [ag c,aa (aI .i64 (gq .i64 16 x.1) s.1),ax h] a λ(x:Int) a=> ∀d,Ext a d-> ∃(f:Nat),f<n/\I f (aI .i64 s.1 1,()) d) (ao w1 (b (x.1,0,()))))):=by kernel_rfl
theorem RC (i:Int) (w:A2) (a:Int->A2->Prop):(aJ N0 (λ_=>[]) 206 [aa i] w a)=(
 ao w (a 0)):=by kernel_rfl
theorem RD (i:Int) (w:A2) (a:Int->A2->Prop):(aJ N0 (λ_=>[]) 240 [aa i] w a)=(
 ao w (a 0)):=by kernel_rfl
theorem Hl (i:Int) (e:Option AI) (w:A2) (a:Int->A2->Prop):(aJ N0 (λ_=>[]) 242 [aa i,ag e] w a)=(
 e.isSome=true/\aR w (ad e 1) λx=>e.isSome=true/\aR w (ad e 3) λb=>True/\ao w (a (FA true x false (aI .i64 b i)))):=by kernel_rfl
def v8:Nat->aY:=(λ|6=>[]| _=>[])
theorem Vt (p:Option AI) (pg lv:Int) (ep:Bool) (er:Int) (el:Bool) (ef:Int) (w:A2) (f:Int->A2->Prop):(aJ N0 v8 216 [ag p,aa pg,aa lv,.agg ⟨[.bool ep,aa er,.bool el,aa ef]⟩] w f)=(
 aM w ⟨[.bool ep,aa er,.bool el,aa ef]⟩ 130 λb a=>az AC 193 (.bu [.agg [.int .i64,.int .i64,.int .i64],.agg [.bool,.int .i64,.bool,.int .i64]]) [ag p,aa pg] a λ(x:(Int×Int×Int×Unit)×(Bool×Int×Bool×Int×Unit)×Unit) a=>aM a ⟨[aa 0,aa 0,aa 0]⟩ 270 λc a=>aM a ⟨[.bool false,aa 0,.bool false,aa 0]⟩ 130 λg a=>aA a (ae c) [aa x.1.1,aa x.1.2.1,aa x.1.2.2.1] λa=>aA a (ae g) [.bool x.2.1.1,aa x.2.1.2.1,.bool
 x.2.1.2.2.1,aa x.2.1.2.2.2.1] λa=>true=true/\sU a (ad (ae g) 0) λx=>((!x)=true->true=true)/\aj a (some !x) (ad (ae c) 1) aT λ(k:Int)=>aH (x||decide (k<lv)) (ao a (f 5)) (bE p 1 a λx=> ∃(h:Int),af AC 30 [ag x,aa 0] a (aa h)/\true=true/\aR a (ad (ae c) 1) λx=>aH (decide (h<aX .i64 x lv)) (ao a (f 12)) (∃(I:Nat->Unit->A2->Prop),(∃n, ∀w1,Ext a w1->I n () w1)/\ ∀(n:Nat) (s:Unit) (w1:A2),I n s w1->true=true/\aR w1 (ad
 (ae c) 1) λx=>aH (decide (x>lv)) (az AC 205 (.bu [.one (.int .i64),.one (.int .i64)]) [ag p,.func (.func 240) ⟨[]⟩ ⟨[]⟩] w1 λ(x:Int×Int×Unit) a=>true=true/\aR a (ad (ae c) 2) λe=> ∃(d:Bool×Int×Bool×Int×Unit),af AC 241 [aa x.1] a (.agg ⟨[.bool d.1,aa d.2.1,.bool d.2.2.1,aa d.2.2.2.1]⟩)/\az AC 222 (.bu []) [ag p,aa e,.agg ⟨[.bool d.1,aa d.2.1,.bool d.2.2.1,aa d.2.2.2.1]⟩] a λo a=>true=true/\aR a (ad (ae c) 1)
 λl=>true=true/\aR a (ad (ae c) 1) λm=>True/\aA a (ae c) [aa x.1,aa (aX .i64 l 1),aa (dX x.1 pg (aX .i64 m 1))] λa=> ∀i,Ext a i-> ∃(j:Nat),j<n/\I j () i) (true=true/\aR w1 (ad (ae c) 2) λx=>aj w1 none (ae b) jU λ(e:Bool×Int×Bool×Int×Unit)=>az AC 222 (.bu []) [ag p,aa x,.agg ⟨[.bool e.1,aa e.2.1,.bool e.2.2.1,aa e.2.2.2.1]⟩] w1 λx a=>ao a (f 0))))):=by kernel_rfl
theorem Vu (p:Option AI) (pg f r:Int) (w:A2) (a:Int->A2->Prop):(aJ N0 (λ_=>[]) 173 [ag p,aa pg,aa f,aa r] w a)=(
 ∃(x:Int),af AC 88 [ag p] w (aa x)/\aH (x != 0) (ao w (a x)) (∃(x:Int),af AC 215 [aa pg,aa f,aa r] w (aa x)/\aH (x != 0) (ao w (a x)) (az AC 216 (.el aT) [ag p,aa pg,aa 0,.agg ⟨[.bool true,aa r,.bool false,aa f]⟩] w λ(x:Int) b=>ao b (a x)))):=by kernel_rfl
theorem LO (p:Option AI) (pg:Int) (w:A2) (c:Int×Int×Int×Unit->A2->Prop):(aJ N0 (λ_=>[]) 139 [ag p,aa pg] w c)=(
 ∃(x:Int),af AC 88 [ag p] w (aa x)/\aH (x != 0) (ao w (c (0,0,x,()))) (aH (decide (pg<0)||decide (pg>=65536)) (ao w (c (0,0,2,()))) (az AC 193 (.bu [.agg [.int .i64,.int .i64,.int .i64],.agg [.bool,.int .i64,.bool,.int .i64]]) [ag p,aa pg] w λ(x:(Int×Int×Int×Unit)×(Bool×Int×Bool×Int×Unit)×Unit) a=>aM a ⟨[aa 0,aa 0,aa 0]⟩ 270 λb a=>aM a ⟨[.bool false,aa 0,.bool false,aa 0]⟩ 130 λd a=>aA a (ae b) [aa x.1.1,.int
 .i64 x.1.2.1,aa x.1.2.2.1] λa=>aA a (ae d) [.bool x.2.1.1,aa x.2.1.2.1,.bool x.2.1.2.2.1,aa x.2.1.2.2.2.1] λa=>true=true/\sU a (ad (ae d) 0) λx=>aH (!x) (ao a (c (0,0,4,()))) (aj a none (ae b) wR λ(x:Int×Int×Int×Unit)=>aj a none (ae d) jU λ(e:Bool×Int×Bool×Int×Unit)=> ∃(f:Int),af AC 194 [aa pg,.agg ⟨[aa x.1,aa x.2.1,aa x.2.2.1]⟩,.agg ⟨[.bool e.1,aa e.2.1,.bool e.2.2.1,aa e.2.2.2.1]⟩] a (aa f)/\
 true=true/\aR a (ad (ae d) 1) λx=>ao a (c (f,x,0,())))))):=by kernel_rfl
theorem LP (p:Option AI) (pg:Int) (w:A2) (d:Int->A2->Prop):(aJ N0 (λ_=>[]) 217 [ag p,aa pg] w d)=(
 az AC 193 (.bu [.agg [.int .i64,.int .i64,.int .i64],.agg [.bool,.int .i64,.bool,.int .i64]]) [ag p,aa pg] w λ(x:(Int×Int×Int×Unit)×(Bool×Int×Bool×Int×Unit)×Unit) a=>aM a ⟨[aa 0,aa 0,aa 0]⟩ 270 λb a=>aM a ⟨[.bool false,aa 0,.bool false,aa 0]⟩ 130 λe a=>aA a (ae b) [aa x.1.1,aa x.1.2.1,aa x.1.2.2.1] λa=>aA a (ae e) [.bool x.2.1.1,aa x.2.1.2.1,.bool x.2.1.2.2.1,aa x.2.1.2.2.2.1] λa=>true=true/\aR a (ad (ae b) 1)
 λx=>aH (x==0) (ao a (d 0)) (az AC 205 (.bu [.one (.int .i64),.one (.int .i64)]) [ag p,.func (.func 242) ⟨[]⟩ {toList:=[ag (ae e)]}] a λ(x:Int×Int×Unit) a=>aH (x.2.1==0) (true=true/\aR a (ad (ae b) 2) λf=> ∃(c:Bool×Int×Bool×Int×Unit),af AC 241 [aa x.1] a (.agg ⟨[.bool c.1,aa c.2.1,.bool c.2.2.1,aa c.2.2.2.1]⟩)/\az AC 222 (.bu []) [ag p,aa f,.agg ⟨[.bool c.1,aa c.2.1,.bool c.2.2.1,aa c.2.2.2.1]⟩] a λg a=>
 ao a (d x.2.1)) (ao a (d x.2.1)))):=by kernel_rfl
def ui:Nat->aY:=(λ|1=>[(4,Go.RX.El.one (Go.RX.Sc.int B2))]|4=>[(26,Go.RX.El.one (Go.RX.Sc.int B2))]| _=>[])
theorem RE (p q:Option AI) (n c:Nat) (w:A2) (g:Unit->A2->Prop):(aJ N0 ui 220 [ag p,.slice q n c] w g)=(
 ∃(I:Nat->Int×Unit->A2->Prop),(∃f, ∀w1,Ext w w1->I f (aX .i64 (↑n:Int) 1,()) w1)/\ ∀(f:Nat) (s:Int×Unit) (w1:A2),I f s w1->aH (decide (s.1>0)) (bE p 0 w1 λx=>(q.isSome=true/\0<=s.1/\s.1<(↑n:Int))/\(ad q (B4 s.1*3)).isSome=true/\aj w1 none (ad (ad q (B4 s.1*3)) 0) aT λ(j:Int)=>az AC 45 (.el eJ) [ag x,aa (gq .i64 16 j),aa 16] w1 λx a=> ∃(h:Nat->Int×Unit->A2->Prop),(∃n, ∀w1,Ext a w1->h n (0,()) w1)/\ ∀(i:Nat) (b
 :Int×Unit) (w1:A2),h i b w1->aH (decide (b.1<(↑x.2.1:Int))) ((x.1.isSome=true/\0<=b.1/\b.1<(↑x.2.1:Int))/\cH w1 (ad x.1 (B4 b.1*1)) λx=>aH (x != 0) (ao w1 (g ())) (∀d,Ext w1 d-> ∃(e:Nat),e<i/\h e (aI .i64 b.1 1,()) d)) (bE p 0 w1 λx=>(q.isSome=true/\0<=aX .i64 s.1 1/\aX .i64 s.1 1<(↑n:Int))/\(ad q ((aX .i64 s.1 1).toNat*3)).isSome=true/\aj w1 none (ad (ad q ((aX .i64 s.1 1).toNat*3)) 2) aT λ(k:Int)=>az AC 38 (.el aT) [ag x,.int
 .i64 k,ax 0] w1 λ(x:Int) a=>bE p 1 a λx=>(q.isSome=true/\0<=s.1/\s.1<(↑n:Int))/\(ad q (B4 s.1*3)).isSome=true/\aj a none (ad (ad q (B4 s.1*3)) 0) aT λ(l:Int)=>az AC 138 (.el aT) [ag x,aa l,aa 5,aa 0] a λ(x:Int) a=> ∀d,Ext a d-> ∃(e:Nat),e<f/\I e (aX .i64 s.1 1,()) d)) (ao w1 (g ()))):=by kernel_rfl
theorem LQ (p:Option AI) (pg:Int) (w:A2) (c:Int×Int×Unit->A2->Prop):(aJ N0 (λ_=>[]) 175 [ag p,aa pg] w c)=(
 az AC 139 (.bu [.one (.int .i64),.one (.int .i64),.one (.int .i64)]) [ag p,aa pg] w λ(x:Int×Int×Int×Unit) a=>aH (x.2.2.1 != 0) (ao a (c (0,x.2.2.1,()))) (az AC 217 (.el aT) [ag p,aa pg] a λ(d:Int) a=>aH (d != 0) (ao a (c (0,d,()))) (az AC 219 (.el (.one (.zV 244 2))) [ag p,aa pg] a λe a=>az AC 218 (.el eJ) [.func (.func 244) ⟨[]⟩ ⟨[ag e.1,ag e.2.1]⟩] a λb a=>bE p 0 a λf=>(b.1.isSome=true/\0<=aX .i64
 (↑b.2.1:Int) 1/\aX .i64 (↑b.2.1:Int) 1<(↑b.2.1:Int))/\(ad b.1 ((aX .i64 (↑b.2.1:Int) 1).toNat*3)).isSome=true/\aj a none (ad (ad b.1 ((aX .i64 (↑b.2.1:Int) 1).toNat*3)) 2) aT λ(g:Int)=>az AC 38 (.el aT) [ag f,aa g,ax 0] a λ(h:Int) a=>az AC 220 (.bu []) [ag p,.slice b.1 b.2.1 b.2.2] a λi a=>ao a (c (x.1,0,()))))):=by kernel_rfl
theorem RF (p:Option AI) (pg r:Int) (w:A2) (c:Int->A2->Prop):(aJ N0 (λ_=>[]) 177 [ag p,aa pg,aa r] w c)=(
 ∃(x:Int),af AC 88 [ag p] w (aa x)/\aH (x != 0) (ao w (c x)) (∃(x:Int),af AC 215 [aa pg,aa 0,aa r] w (aa x)/\aH (x != 0) (ao w (c x)) (az AC 193 (.bu [.agg [.int .i64,.int .i64,.int .i64],.agg [.bool,.int .i64,.bool,.int .i64]]) [ag p,aa pg] w λ(x:(Int×Int×Int×Unit)×(Bool×Int×Bool×Int×Unit)×Unit) a=>aM a ⟨[aa 0,aa 0,aa 0]⟩ 270 λb a=>aM a ⟨[.bool false,aa 0,.bool false,aa 0]⟩ 130 λd a=>aA a (ae b)
 [aa x.1.1,aa x.1.2.1,aa x.1.2.2.1] λa=>aA a (ae d) [.bool x.2.1.1,aa x.2.1.2.1,.bool x.2.1.2.2.1,aa x.2.1.2.2.2.1] λa=>true=true/\sU a (ad (ae d) 0) λx=>aH (!x) (ao a (c 4)) (true=true/\sU a (ad (ae d) 2) λx=>(x=true->true=true)/\aj a (some x) (ad (ae d) 1) aT λ(g:Int)=>aH (x&&g==r) (ao a (c 0)) (aj a none (ae b) wR λ(x:Int×Int×Int×Unit)=>aj a none (ae d) jU λ(e:Bool×Int×Bool×Int×Unit)=> ∃(f:Int),af AC 194
 [aa pg,.agg ⟨[aa x.1,aa x.2.1,aa x.2.2.1]⟩,.agg ⟨[.bool e.1,aa e.2.1,.bool e.2.2.1,aa e.2.2.2.1]⟩] a (aa f)/\az AC 217 (.el aT) [ag p,aa pg] a λ(x:Int) a=>aH (x != 0) (ao a (c x)) (az AC 193 (.bu [.agg [.int .i64,.int .i64,.int .i64],.agg [.bool,.int .i64,.bool,.int .i64]]) [ag p,aa pg] a λ(x:(Int×Int×Int×Unit)×(Bool×Int×Bool×Int×Unit)×Unit) a=>aA a (ae b) [aa x.1.1,aa x.1.2.1,aa x.1.2.2.1] λa=>true=
 true/\aR a (ad (ae b) 2) λx=>az AC 222 (.bu []) [ag p,aa x,.agg ⟨[.bool true,aa r,.bool false,aa f]⟩] a λx a=>ao a (c 0))))))):=by kernel_rfl
theorem A9 (p:Option AI) (f lv:Int) (w:A2) (c:Option AI×Option AI×Option AI×Unit->A2->Prop):(aJ N0 (λ_=>[]) 239 [ag p,aa f,aa lv] w c)=(
 aM w ⟨[ag p]⟩ 118 λb a=>aM a ⟨[aa f]⟩ 3 λd a=>aM a ⟨[aa lv]⟩ 3 λe a=>ao a (c (some ⟨d,0,none⟩,some ⟨b,0,none⟩,some ⟨e,0,none⟩,()))):=by kernel_rfl
def qU:Nat->aY:=(λ|4=>[(6,.one (.int .i64))]| _=>[])
theorem LR (p c d:Option AI) (w:A2) (f:Option AI×Nat×Nat->A2->Prop):(bQ N0 qU 238 [.func (.func 247) #[] #[ag p,ag c,ag d]] w f)=(
 aM w ⟨[.slice none 0 0]⟩ 39 λb e=>zS AC 247 (λ(y:Nat)=>[.func (Fn.yield y) ⟨[]⟩ ⟨[]⟩,ag p,ag c,ag d]) ⟨[6]⟩ e (λ(x:Int×Unit)=>[aa x.1]) (λ(l:Nat) (rec:Loop) (x:Int×Unit) i (R:Bool->A2->Prop)=>Dd l rec [aa x.1].length 1 i (BN l rec i λa=>sT a (ae b) λg=>aM a ⟨[aa x.1]⟩ 3 λj e=> ∀w1,Ext e w1->mz w1 3 1 8 ⟨[aa 0]⟩ (g.1,g.2.1,g.2.2) (some ⟨j,0,none⟩,1,1) λ(r:Option AI×Nat×Nat) e=>aA e (some ⟨b,0,
 none⟩) [.slice r.1 r.2.1 r.2.2] λe=>sj l rec none e R)) λ(r:Nat) (rec:Loop) k=>du (r+1) rec k (λa=>sT a (ae b) λx=>sk [r] a λw1=>f (x.1,x.2.1,x.2.2) w1) (λ(id:Nat) a=>DH (λ(h:id=0->False)=>False) (λ(h:id=0)=>sT a (ae b) λx=>sk [r] a λw1=>f (x.1,x.2.1,x.2.2) w1) (match h:id.beq 0 with|true=>isTrue (E4 h)|false=>isFalse (E5 h))) λa=>sk [r] a λw1=>f (none,0,0)
 w1):=by kernel_rfl
def v9:Nat->aY:=(λ|5=>[(18,Go.RX.El.one (Go.RX.Sc.int B2))]|8=>[(5,Go.RX.El.one (Go.RX.Sc.int B2))]| _=>[])
theorem Vv (p:Option AI) (w:A2) (e:Option AI×Nat×Nat->A2->Prop):(aJ N0 v9 214 [ag p] w e)=(
 ∃(x:Int),af AC 88 [ag p] w (aa x)/\aH (x != 0) (ao w (e (none,0,0))) (cL p 3 w λx=>az AC 239 (.el (.one (.zV 247 3))) [ag p,aa x,aa 3] w λx b=>az AC 238 (.el eJ) [.func (.func 247) ⟨[]⟩ ⟨[ag x.1,ag x.2.1,ag x.2.2.1]⟩] b λx b=> ∃(I:Nat->Int×Unit->A2->Prop),(∃n, ∀w1,Ext b w1->I n (0,()) w1)/\ ∀(n:Nat) (s:Int×Unit) (w1:A2),I n s w1->aH (decide (s.1<(↑x.2.1:Int))) (∃(f:Nat->Int×Unit->A2->Prop),(∃n, ∀g,Ext w1 g->f
 n (s.1,()) g)/\ ∀(h:Nat) (a:Int×Unit) (w1:A2),f h a w1->(decide (a.1>0)=true->x.1.isSome=true/\0<=aX .i64 a.1 1/\aX .i64 a.1 1<(↑x.2.1:Int))/\aj w1 (some (decide (a.1>0))) (ad x.1 ((aX .i64 a.1 1).toNat*1)) aT λ(i:Int)=>(decide (a.1>0)=true->x.1.isSome=true/\0<=a.1/\a.1<(↑x.2.1:Int))/\aj w1 (some (decide (a.1>0))) (ad x.1 (B4 a.1*1)) aT λ(j:Int)=>aH (decide (a.1>0)&&decide (i>j)) ((x.1.isSome=true/\0<=a.1/\a.1<(↑x.2.1:Int))/\aR w1
 (ad x.1 (B4 a.1*1)) λk=>(x.1.isSome=true/\0<=aX .i64 a.1 1/\aX .i64 a.1 1<(↑x.2.1:Int))/\aj w1 none (ad x.1 ((aX .i64 a.1 1).toNat*1)) aT λ(l:Int)=>(x.1.isSome=true/\0<=aX .i64 a.1 1/\aX .i64 a.1 1<(↑x.2.1:Int))/\aA w1 (ad x.1 ((aX .i64 a.1 1).toNat*1)) [aa k] λb=>(x.1.isSome=true/\0<=a.1/\a.1<(↑x.2.1:Int))/\aA b (ad x.1 (B4 a.1*1)) [aa l] λb=> ∀c,Ext b c-> ∃(d:Nat),d<h/\f d (aX .i64 a.1 1,()) c) (∀c,Ext w1 c-> ∃(d
 :Nat),d<n/\I d (aI .i64 s.1 1,()) c)) (ao w1 (e (x.1,x.2.1,x.2.2))))):=by kernel_rfl
def uj:Nat->aY:=(λ|5=>[(13,Go.RX.El.one (Go.RX.Sc.int B2))]| _=>[])
theorem RG (p:Option AI) (w:A2) (b:Option AI×Nat×Nat->A2->Prop):(aJ N0 uj 171 [ag p] w b)=(
 ∃(x:Int),af AC 88 [ag p] w (aa x)/\aH (x != 0) (ao w (b (none,0,0))) (az AC 214 (.el eJ) [ag p] w λx a=> ∃(I:Nat->Int×Unit->A2->Prop),(∃n, ∀w1,Ext a w1->I n (0,()) w1)/\ ∀(n:Nat) (s:Int×Unit) (w1:A2),I n s w1->aH (decide (s.1<(↑x.2.1:Int))) ((x.1.isSome=true/\0<=s.1/\s.1<(↑x.2.1:Int))/\aR w1 (ad x.1 (B4 s.1*1)) λx=>bE p 1 w1 λe=>az AC 138 (.el aT) [ag e,aa x,aa 5,aa 0] w1 λ(x:Int) a=> ∀c,Ext a c-> ∃(d
 :Nat),d<n/\I d (aI .i64 s.1 1,()) c) (p.isSome=true/\p.isSome=true/\aA w1 (ad p 4) [.bool true] λa=>ao a (b (x.1,x.2.1,x.2.2))))):=by kernel_rfl
theorem Vw (m p:Option AI) (o:Int) (w:A2) (c:Option AI×Int×Unit->A2->Prop):(aJ N0 (λ_=>[]) 164 [ag m,ag p,aa o] w c)=(
 ∃(x:Int),af AC 117 [ag m] w (aa x)/\ ∃(d:Int),((!x==0)=true->af AC 62 [ag p] w (aa d))/\ ∃(e:Int),((!(x==0||d==0))=true->af AC 117 [ag m] w (aa e))/\ ∃(f:Int),((!(x==0||d==0))=true->af AC 62 [ag p] w (aa f))/\aH (x==0||d==0||decide (e<gq .i64 16 f)) (ao w (c (none,1,()))) (aM w ⟨[ag m,ag p,aa o,aa 0,.bool false]⟩ 188 λb a=>az AC 205 (.bu [.one (.int .i64),.one (.int
 .i64)]) [ag (ae b),.func (.func 206) ⟨[]⟩ ⟨[]⟩] a λ(x:Int×Int×Unit) a=>aH (x.2.1 != 0) (ao a (c (none,x.2.1,()))) (true=true/\true=true/\aA a (ad (ae b) 3) [aa x.1] λa=>ao a (c (some ⟨b,0,none⟩,0,()))))):=by kernel_rfl
theorem LU (p:Option AI) (i n:Int) (w:A2) (a:Option AI×Nat×Nat->A2->Prop):(aJ N0 (λ_=>[]) 45 [ag p,aa i,aa n] w a)=(
 aH p.isNone (ao w (a (none,0,0))) (p.isSome=true/\p.isSome=true/\aj w none (ad p 0) (.agg [.slice]) λx=>az AC 80 (.el eJ) [.agg ⟨[.slice x.1.1 x.1.2.1 x.1.2.2]⟩,aa i,aa n] w λx b=>ao b (a (x.1,x.2.1,x.2.2)))):=by kernel_rfl
theorem Vx (p:Option AI) (n c:Nat) (i k:Int) (w:A2) (Post:Option AI×Nat×Nat->A2->Prop):(aJ N0 (λ_=>[]) 80 [.agg ⟨[.slice p n c]⟩,aa i,aa k] w Post)=(
 aM w ⟨[.slice p n c]⟩ 157 λb a=>((!(decide (k<1)||decide (i<0)))=true->true=true)/\aj a (some !(decide (k<1)||decide (i<0))) (ad (ae b) 0) (.one .slice) λx=>((!(decide (k<1)||decide (i<0)||decide (i>(↑x.2.1:Int))))=true->true=true)/\aj a (some !(decide (k<1)||decide (i<0)||decide (i>(↑x.2.1:Int)))) (ad (ae b) 0) (.one .slice) λe=>aH (decide (k<1)||decide (i<0)||decide (i>(↑x.2.1:Int))||decide (k>aX .i64 (↑e.2.1:Int) i)) (ao a λw1=>Post (none,0,0) w1) (NJ a 8
 1 k k ⟨[ax 0]⟩ 29 λd a=>true=true/\aj a none (ad (ae b) 0) (.one .slice) λx=>(0<=i/\i<=(↑x.2.1:Int)/\(↑x.2.1:Int)<=(↑x.2.2:Int)/\(↑x.2.2:Int)<=(↑x.2.2:Int))/\ ∀w1,Ext a w1->cpR w1 1 (some ⟨d,0,none⟩,k.toNat) (DH (λ(h:(↑x.2.2:Int).toNat=i.toNat->False)=>ad x.1 (i.toNat*1)) (λ(h:(↑x.2.2:Int).toNat=i.toNat)=>x.1) (instDecidableEqNat (↑x.2.2:Int).toNat i.toNat),(↑x.2.1:Int).toNat - i.toNat) λ(r:Int) a=>ao a λw1=>Post (some ⟨d,0,none⟩,k.toNat,k.toNat) w1)):=by
 kernel_rfl
end Go.Proofs.YtlcenllcmeebhaaGreat
namespace Go.Proofs.YtlcenllcmeebhaaGreat.D
set_option maxRecDepth 100000
open Go.RX
noncomputable def E3:dD AC:={E0 with quiet:=[62,30,25]}
section
variable {D G:List Nat} {w0 w:A2} {L:List (Nat×List Ag)}
theorem Vy (H:aK D G w0 w L) (i j:Nat) {bp bf n c:Nat} {ds:List DT} {rest:List Ag} (b:L[i]? =some (bp,[.slice (ae bf) n c])) (a:L[j]? =some (bf,flat eD ds++rest)) (e:i≠j) (g:n=ds.length) (l:0<n) (h:n<=4096) (f y o:Int) {K:Int->A2->Prop}
 (k: ∀d,aK D G w0 d (L.set j (bf,flat eD (dF ds f (aO y o))++rest))->K (vn ds f (aO y o)) d):az AC 138 (.el (.one (.int .i64))) [ag (ae bp),aa f,aa y,aa o] w K:=by
 subst g;exact az.Dt H j a (λw1 H=>Ct (H.get b) (H.get a) (H.ne b a e) h f y o) k
theorem Vz (H:aK D G w0 w L) (i j:Nat) {bp bf n c:Nat} {ds:List DT} {rest:List Ag} (b:L[i]? =some (bp,[.slice (ae bf) n c])) (a:L[j]? =some (bf,flat eD ds++rest)) (e:i≠j) (g:n=ds.length) (l:0<n) (h:n<=4096) (f x:Int) (hi: -9223372036854775808<=x/\x<9223372036854775808) {K:Int->A2->Prop}
 (k: ∀d,aK D G w0 d (L.set j (bf,flat eD (dF ds f (gX x))++rest))->K (vn ds f (gX x)) d):az AC 183 (.el (.one (.int .i64))) [ag (ae bp),aa f,aa x] w K:=by
 subst g;exact az.Dt H j a (λw1 H=>Vl (H.get b) (H.get a) (H.ne b a e) h f x hi) k
theorem VA (H:aK D G w0 w L) (i j:Nat) {bp bf n c:Nat} {ds:List DT} {rest:List Ag} (b:L[i]? =some (bp,[.slice (ae bf) n c])) (a:L[j]? =some (bf,flat eD ds++rest)) (e:i≠j) (g:n=ds.length) (l:0<n) (h:n<=4096) (f:Int) {K:Int->A2->Prop}
 (k: ∀d,aK D G w0 d (L.set j (bf,flat eD (dF ds f (aO 0 0))++rest))->K (vn ds f (aO 0 0)) d):az AC 79 (.el (.one (.int .i64))) [ag (ae bp),aa f] w K:=by
 subst g;exact az.Dt H j a (λw1 H=>Vm (H.get b) (H.get a) (H.ne b a e) h f) k
theorem VB (H:aK D G w0 w L) (i j:Nat) {bp bf n c:Nat} {ds:List DT} {rest:List Ag} (b:L[i]? =some (bp,[.slice (ae bf) n c])) (a:L[j]? =some (bf,flat eD ds++rest)) (e:i≠j) (f:n=ds.length) (h:0<n) (g:n<=4096) (y o:Int) {K:Int×Int×Unit->A2->Prop}
 (k: ∀d,aK D G w0 d (L.set j (bf,flat eD (dy ds y o)++rest))->K (e_ ds y o,dO ds y o,()) d):az AC 172 (.bu [.one (.int .i64),.one (.int .i64)]) [ag (ae bp),aa y,aa o] w K:=by
 subst f;exact az.Dt H j a (λw1 H=>Vp (H.get b) (H.get a) (H.ne b a e) rfl g y o) k
theorem abb (H:aK D G w0 w L) (i:Nat) {bp n c:Nat} {a:Option AI} (b:L[i]? =some (bp,[.slice a n c])):af AC 62 [ag (ae bp)] w (aa (n:Int)):=
 af.of (s:= .el (.one (.int .i64))) λw' h=>rM ((H.get b).ext h)
theorem VC (H:aK D G w0 w L) (i j:Nat) {bp bf n c:Nat} {ds:List DT} {rest:List Ag} (a:L[i]? =some (bp,[.slice (ae bf) n c])) (b:L[j]? =some (bf,flat eD ds++rest)) (d:n=ds.length) (e:n<=4096) (v:Int):
 af AC 30 [ag (ae bp),aa v] w (aa (cj ds v:Nat)):=
 af.of (s:= .el (.one (.int .i64))) λw' h=>Ek ((H.get a).ext h) ((H.get b).ext h) d e v
theorem aca (H:aK D G w0 w L) (i j:Nat) {bp bf n c:Nat} {ds:List DT} {rest:List Ag} (a:L[i]? =some (bp,[.slice (ae bf) n c])) (b:L[j]? =some (bf,flat eD ds++rest)) (d:n=ds.length) (f:Int):
 af AC 25 [ag (ae bp),aa f] w ((Sh.bu [eD,.one .bool]).gR (oE ds f,As ds f,())):=by
 subst d;exact af.of (s:= .bu [eD,.one .bool]) λw' h=>Gg ((H.get a).ext h) ((H.get b).ext h) f
theorem RH (H:aK D G w0 w L) (i j:Nat) {bp bf n c:Nat} {ds:List DT} {rest:List Ag} (b:L[i]? =some (bp,[.slice (ae bf) n c])) (d:L[j]? =some (bf,flat eD ds++rest)) (e:n=ds.length) (f:n<=4096) (v:Int) {K:Option AI×Nat×Nat->A2->Prop}
 (k: ∀r rows a,aK D G w0 a (L++rows)->kh eI rows r ((gA ds v).map λi=>((i:Nat):Int))->K r a):az AC 166 (.el (.one .slice)) [ag (ae bp),aa v] w K:=
 az.YI H (λw1 H=>Ry (H.get b) (H.get d) e f v) k
end
end Go.Proofs.YtlcenllcmeebhaaGreat.D
namespace Go.Proofs.YtlcenllcmeebhaaGreat
set_option maxRecDepth 100000
open Go.RX D
abbrev ET:Type:=Bool×Int×Bool×Int×Unit
abbrev PT:Type:=Int×Int×Int×Unit
abbrev sEn:List Sc:=[.bool,.int .i64,.bool,.int .i64]
abbrev TM:List Sc:=[.int .i64,.int .i64,.int .i64]
def zE:ET:=(false,0,false,0,())
def eR (v:Int):ET:=(Ib (B v).toNat,FB (B v).toNat,JZ (B v).toNat,Fk (B v).toNat,())
def dH (e:ET):Bool:=fG e.1 e.2.1 e.2.2.1 e.2.2.2.1
def Tp (e:ET):Int:=FA e.1 e.2.1 e.2.2.1 e.2.2.2.1
def cd (f:Int):ET:=(true,0,false,f,())
def aL (ws:List Int) (i:Int):ET:=eR (dE ws i)
def dh (ws:List Int) (pg:Int):Nat->Int->List PT
 |0,f=>[(f,0,dX f pg 0,())]
 |l+1,f=>(f,((l+1:Nat):Int),dX f pg ((l+1:Nat):Int),())::if dH (aL ws (dX f pg ((l+1:Nat):Int)))=true then dh ws pg l (aL ws (dX f pg ((l+1:Nat):Int))).2.2.2.1 else[]
theorem xA (ws:List Int) (pg:Int) (l:Nat) (f:Int):dh ws pg l f≠[]:=by cases l<;>simp[dh]
theorem tB (ws:List Int) (pg:Int): ∀(l:Nat) (f:Int),(dh ws pg l f).length<=l+1
 |0,f=>by simp[dh]
 |l+1,f=>by
  rw[dh];split
  ·have:=tB ws pg l (aL ws (dX f pg ((l+1:Nat):Int))).2.2.2.1;simp only[BJ];omega
  ·simp
def dw (ws:List Int) (r pg:Int):PT:=(dh ws pg 3 r).getLastD (0,0,0,())
def cY (ws:List Int) (r pg:Int):ET:=aL ws (dw ws r pg).2.2.1
def eT (ws:List Int) (f:Int) (g:Int->Int):Nat->List Int
 |0=>ws
 |i+1=>dJ (eT ws f g i) (16*f+(i:Int)) (g i)
theorem gF (ws:List Int) (f:Int) (g:Int->Int): ∀n,(eT ws f g n).length=ws.length
 |0=>rfl
 |n+1=>by rw[eT,cA,gF ws f g n]
abbrev WD:Type:=List Int×List DT
def eh (s:WD) (o:Int):Int:=e_ s.2 3 o
def rj (s:WD) (o:Int):Int:=dO s.2 3 o
def iK (s:WD) (o:Int) (g:Int->Int):WD:=(if rj s o=0 then eT s.1 (eh s o) g 16 else s.1,dy s.2 3 o)
def dN (s:WD) (i:Int) (e:ET):WD:=(dJ s.1 i (Tp e),s.2)
def qH (o pg:Int):Nat->WD×PT->WD×PT
 |0,x=>x
 |n+1,x=>qH o pg n (dN (iK x.1 o λ_=>0) x.2.2.2.1 (cd (eh x.1 o)),(eh x.1 o,x.2.2.1 - 1,dX (eh x.1 o) pg (x.2.2.1 - 1),()))
def l_ (s:WD) (r pg lv:Int):Int:=
 if((cY s.1 r pg).1||decide ((dw s.1 r pg).2.1<lv))=true then 5
 else if(cj s.2 0:Int)<(dw s.1 r pg).2.1 - lv then 12 else 0
def rB (s:WD) (o r pg lv:Int) (e:ET):WD:=
 if l_ s r pg lv=0 then dN (qH o pg ((dw s.1 r pg).2.1 - lv).toNat (s,dw s.1 r pg)).1 (qH o pg ((dw s.1 r pg).2.1 - lv).toNat (s,dw s.1 r pg)).2.2.2.1 e else s
def nc (pg f rt:Int):Int:=if pg<0\/pg>=65536\/f<0\/f>=4096 then 2 else if rt<1\/rt>7 then 7 else 0
def lQ (s:WD) (r:Int) (gone:Bool) (pg f rt:Int):Int:=if gone=true then 6 else if nc pg f rt=0 then l_ s r pg 0 else nc pg f rt
def jt (s:WD) (o r:Int) (gone:Bool) (pg f rt:Int):WD:=if gone=true then s else if nc pg f rt=0 then rB s o r pg 0 (true,rt,false,f,()) else s
def qt (pg:Int) (x:PT) (e:ET):Int:=if x.2.1=1 then e.2.2.2.1+pg % 16 else e.2.2.2.1
def bA (s:WD) (r:Int) (gone:Bool) (pg:Int):Int×Int×Int×Unit:=
 if gone=true then(0,0,6,()) else if pg<0\/pg>=65536 then(0,0,2,())
 else if(cY s.1 r pg).1=true then(qt pg (dw s.1 r pg) (cY s.1 r pg),(cY s.1 r pg).2.1,0,()) else(0,0,4,())
def ov (e:ET) (i:Int):Int:=Tp (true,e.2.1,false,e.2.2.2.1+i,())
def mg (s:WD) (o r pg:Int):Int:=if(dw s.1 r pg).2.1=0 then 0 else rj s o
def fh (s:WD) (o r pg:Int):WD:=
 if(dw s.1 r pg).2.1=0 then s
 else if rj s o=0 then dN (iK s o (ov (cY s.1 r pg))) (dw s.1 r pg).2.2.1 (cd (eh s o)) else iK s o (ov (cY s.1 r pg))
def gY (ws:List Int) (i n:Int):List Int:=if n<1\/i<0\/i>ws.length\/n>ws.length - i then[] else(ws.drop i.toNat).take n.toNat
def wV (ws:List Int) (f:Int):Bool:=(gY ws (16*f) 16).all λv=>v==0
def jk:List PT->WD->WD
 |x::y::l,s=>if wV s.1 x.1=true then jk (y::l) (dJ s.1 y.2.2.1 0,dF s.2 x.1 (aO 5 0)) else s
 | _,s=>s
def BX (s:WD) (o r:Int) (gone:Bool) (pg:Int):Int:=if(bA s r gone pg).2.2.1=0 then mg s o r pg else(bA s r gone pg).2.2.1
def FV (s:WD) (o r:Int) (gone:Bool) (pg:Int):Int:=if BX s o r gone pg=0 then(bA s r gone pg).1 else 0
def nf (s:WD) (o r:Int) (gone:Bool) (pg:Int):WD:=
 if(bA s r gone pg).2.2.1=0 then
  if mg s o r pg=0 then jk (dh (fh s o r pg).1 pg 3 r).reverse (dJ (fh s o r pg).1 (dw (fh s o r pg).1 r pg).2.2.1 0,(fh s o r pg).2)
  else fh s o r pg
 else s
def FW (s:WD) (o r:Int) (gone:Bool) (pg rt:Int):Int:=
 if gone=true then 6 else if nc pg 0 rt=0 then(if(cY s.1 r pg).1=true then(if((cY s.1 r pg).2.2.1&&(cY s.1 r pg).2.1==rt)=true then 0 else mg s o r pg) else 4) else nc pg 0 rt
def rC (s:WD) (o r:Int) (gone:Bool) (pg rt:Int):WD:=
 if gone=true then s else if nc pg 0 rt=0 then(if(cY s.1 r pg).1=true then(if((cY s.1 r pg).2.2.1&&(cY s.1 r pg).2.1==rt)=true then s
  else if mg s o r pg=0 then dN (fh s o r pg) (dw (fh s o r pg).1 r pg).2.2.1 (true,rt,false,qt pg (dw s.1 r pg) (cY s.1 r pg),()) else fh s o r pg) else s) else s
def cR (ws:List Int):Nat->Int->List Int
 |0,f=>[f]
 |l+1,f=>f::(B3 16).flatMap λ(i:Nat)=>if dH (aL ws (16*f+(i:Int)))=true then cR ws l (aL ws (16*f+(i:Int))).2.2.2.1 else[]
def ju (x:Int):List Int->List Int
 |[]=>[x]
 |y::l=>if y>x then y::ju x l else x::y::l
def mH (l:List Int):List Int:=(l.foldl (λa x=>ju x a) []).reverse
def mI (s:WD) (r:Int) (gone:Bool):List Int:=if gone=true then[] else mH (cR s.1 3 r)
def cG (s:WD) (r:Int) (gone:Bool):WD:=if gone=true then s else(s.1,(mI s r gone).foldl (λds f=>dF ds f (aO 5 0)) s.2)
structure Sys where
 bm:Nat
 bw:Nat
 bf:Nat
 bp:Nat
 c:Nat
 cp:Nat
 rw:List Ag
 rf:List Ag
def Sys.L (Q:Sys) (ca la:Int) (s:WD) (L0:List (Nat×List Ag)):List (Nat×List Ag):=
 (Q.bm,lU Q.bw s.1.length Q.c ca la)::(Q.bw,flat eW s.1++Q.rw)::(Q.bf,flat eD s.2++Q.rf)::(Q.bp,[.slice (ae Q.bf) s.2.length Q.cp])::L0
structure bh (Q:Sys) (D G:List Nat) (w0 w:A2) (s:WD) (L0:List (Nat×List Ag)):Prop where
 pos:0<s.1.length
 Dv:0<s.2.length
 le:s.2.length<=4096
 XV:okW s.1
 kn: ∃ca la,aK D G w0 w (Q.L ca la s L0)
abbrev oF (Q:Sys) (o r:Int) (gone:Bool):List Ag:=[ag (ae Q.bm),ag (ae Q.bp),aa o,aa r,.bool gone]
theorem ZN {ws:List Int} (h:okW ws) (i v:Int) (hv:0<=v/\v<18446744073709551616):okW (dJ ws i v):=by
 intro x a;unfold dJ at a;split at a
 ·rcases FE a with a|rfl
  ·exact h x a
  ·exact hv
 ·exact h x a
theorem Ph (p:Bool) (r:Int) (l:Bool) (f:Int):0<=FA p r l f/\FA p r l f<18446744073709551616:=by
 unfold FA;split
 ·rename_i h;unfold vx;cases p with
  |false=>
   unfold bR at h;simp at h;obtain⟨⟨h1,a⟩,b⟩:=h;subst h1;subst a;subst b;decide
  |true=>
   unfold bR at h;simp at h;have d:(nB l:Int)<=1:=by cases l<;>decide
   have e:0<=(nB l:Int):=by omega
   have c:(nB true:Int)=1:=rfl;rw[c];omega
 ·exact⟨by decide,by decide⟩
theorem I_ (n:Nat):0<=Fk n/\Fk n<4096:=by
 unfold Fk;split<;>omega
section
variable {Q:Sys} {D G:List Nat} {w0 w w1:A2} {s:WD} {L0 L1:List (Nat×List Ag)}
namespace bh
theorem ext (S:bh Q D G w0 w s L0) (h:Ext w w1):bh Q D G w0 w1 s L0:=by
 obtain⟨h1,a,b,c,ca,la,H⟩:=S;exact⟨h1,a,b,c,ca,la,H.ext h⟩
theorem al (S:bh Q D G w0 w s L0) {cs:List Ag} {e:TypeId} {K:Nat->A2->Prop} (k: ∀b w1,bh Q D G w0 w1 s ((b,cs)::L0)->K b w1):aM w ⟨cs⟩ e K:=by
 obtain⟨h1,a,c,d,ca,la,H⟩:=S;exact aM.go H λb w1 H=>k b w1 ⟨h1,a,c,d,ca,la,H.perm (Dn (l₁:=[_, _, _, _]))⟩
theorem en (S:bh Q D G w0 w s L0) {K:A2->Prop} (k: ∀w1,bh Q D G w0 w1 s L0->K w1):ao w K:=λ_ h=>k _ (S.ext h)
theorem get (S:bh Q D G w0 w s L0) {i b:Nat} {l:List Ag} (h:L0[i]? =some (b,l)):bL w b l:=by
 obtain⟨h1,a,c,d,ca,la,H⟩:=S;exact H.get (i:=i+4) h
theorem ld (i:Nat) (S:bh Q D G w0 w s L0) {g:Option Bool} {el:El} {K:el.T->Prop} {b o:Nat} {l:List Ag} {x:el.T} (a:L0[i]? =some (b,l)) (hv:kr l o el=some x) (k:K x):aj w g (some ⟨b,o,none⟩) el K:=
 .of x (dR (S.get a) hv) k
theorem cg (i:Nat) (S:bh Q D G w0 w s L0) {g:Option Bool} {el:El} {K:el.T->Prop} {b o n:Nat} {l:List Ag} {x:el.T} (a:L0[i]? =some (b,l)) (hv:kr l (o+n) el=some x) (k:K x):aj w g (ad (some ⟨b,o,none⟩) n) el K:=by
 rw[aV];exact .of x (dR (S.get a) hv) k
theorem fa (i:Nat) (S:bh Q D G w0 w s L0) {b:Nat} {l vs:List Ag} {K:A2->Prop} (a:L0[i]? =some (b,l)) (c:vs.all (·.oneCell')=true) (d:vs.length=l.length)
 (k: ∀w1,bh Q D G w0 w1 s (L0.set i (b,vs))->K w1):aA w (ae b) vs K:=by
 obtain⟨h1,e,f,g,ca,la,H⟩:=S;exact aA.all (i+4) H a c d λw1 H=>k w1 ⟨h1,e,f,g,ca,la,H⟩
theorem abc (i:Nat) (S:bh Q D G w0 w s L0) {b o:Nat} {l:List Ag} {x:Ag} {K:A2->Prop} (a:L0[i]? =some (b,l)) (c:x.oneCell'=true) (d:Nat.blt o l.length=true)
 (k: ∀w1,bh Q D G w0 w1 s (L0.set i (b,l.set o x))->K w1):aA w (some ⟨b,o,none⟩) [x] K:=by
 obtain⟨h1,e,f,g,ca,la,H⟩:=S;exact aA.one (i+4) H a c d λw1 H=>k w1 ⟨h1,e,f,g,ca,la,H⟩
theorem Ci (i:Nat) (S:bh Q D G w0 w s L0) {b o n:Nat} {l:List Ag} {x:Ag} {K:A2->Prop} (a:L0[i]? =some (b,l)) (c:x.oneCell'=true) (d:Nat.blt (o+n) l.length=true)
 (k: ∀w1,bh Q D G w0 w1 s (L0.set i (b,l.set (o+n) x))->K w1):aA w (ad (some ⟨b,o,none⟩) n) [x] K:=by
 rw[aV];exact S.abc i a c d k
theorem go (S:bh Q D G w0 w s L0) {P:Program} {f:FuncId} {sh:Sh} {args:List Ag} {K:sh.T->A2->Prop} (k: ∀w1,bh Q D G w0 w1 s L0->aD P f sh args w1 K):az P f sh args w K:=λ_ h=>k _ (S.ext h)
theorem sub (S:bh Q D G w0 w s L0) (h:L1.Sublist L0):bh Q D G w0 w s L1:=by
 obtain⟨h1,a,b,c,ca,la,H⟩:=S;exact⟨h1,a,b,c,ca,la,H.sub (((((h.cons_cons _).cons_cons _).cons_cons _).cons_cons _))⟩
theorem tail {x:Nat×List Ag} (S:bh Q D G w0 w s (x::L0)):bh Q D G w0 w s L0:=S.sub (Dc _ _)
theorem perm (S:bh Q D G w0 w s L0) (h:L1.Perm L0):bh Q D G w0 w s L1:=by
 obtain⟨h1,a,b,c,ca,la,H⟩:=S;exact⟨h1,a,b,c,ca,la,H.perm ((((h.cons _).cons _).cons _).cons _)⟩
theorem load (S:bh Q D G w0 w s L0) (i:Int) {K:Int×Int×Unit->A2->Prop} (k: ∀a,bh Q D G w0 a s L0->K (dE s.1 i,wH s.1 i,()) a):
 az AC 37 (.bu [.one (.int .u64),.one (.int .i64)]) [ag (ae Q.bm),aa i] w K:=by
 obtain⟨h1,b,c,d,ca,la,H⟩:=S;exact Ea H 0 1 rfl rfl (by decide) rfl h1 i λa H=>k a ⟨h1,b,c,d, _, _,H⟩
theorem store (S:bh Q D G w0 w s L0) (i v:Int) (hv:0<=v/\v<18446744073709551616) {K:Int->A2->Prop} (k: ∀a,bh Q D G w0 a (dJ s.1 i v,s.2) L0->K (wH s.1 i) a):
 az AC 38 (.el (.one (.int .i64))) [ag (ae Q.bm),aa i,ax v] w K:=by
 obtain⟨h1,b,d,e,ca,la,H⟩:=S;refine KZ H 0 1 rfl rfl (by decide) rfl h1 i v λa H=>k a ⟨?_,b,d,ZN e i v hv,wI s.1 i ca,wI s.1 i la,?_⟩
 ·show 0<(dJ s.1 i v).length;rw[cA];exact h1
 ·unfold Sys.L;show aK D G w0 a ((Q.bm,lU Q.bw (dJ s.1 i v).length Q.c _ _):: _);rw[cA];exact H
theorem take (S:bh Q D G w0 w s L0) (y o:Int) {K:Int×Int×Unit->A2->Prop} (k: ∀a,bh Q D G w0 a (s.1,dy s.2 y o) L0->K (e_ s.2 y o,dO s.2 y o,()) a):
 az AC 172 (.bu [.one (.int .i64),.one (.int .i64)]) [ag (ae Q.bp),aa y,aa o] w K:=by
 obtain⟨h1,b,c,d,ca,la,H⟩:=S;refine VB H 3 2 rfl rfl (by decide) rfl b c y o λa H=>k a ⟨h1,?_,?_,d,ca,la,?_⟩
 ·show 0<(dy s.2 y o).length;rw[u7];exact b
 ·show(dy s.2 y o).length<=4096;rw[u7];exact c
 ·unfold Sys.L;show aK D G w0 a (_:: _:: _::(Q.bp,[.slice _ (dy s.2 y o).length _]):: _);rw[u7];exact H
theorem T8 (S:bh Q D G w0 w s L0) (f y o:Int) {K:Int->A2->Prop} (k: ∀a,bh Q D G w0 a (s.1,dF s.2 f (aO y o)) L0->K (vn s.2 f (aO y o)) a):
 az AC 138 (.el (.one (.int .i64))) [ag (ae Q.bp),aa f,aa y,aa o] w K:=by
 obtain⟨h1,b,c,d,ca,la,H⟩:=S;refine Vy H 3 2 rfl rfl (by decide) rfl b c f y o λa H=>k a ⟨h1,?_,?_,d,ca,la,?_⟩
 ·show 0<(dF s.2 f (aO y o)).length;rw[im];exact b
 ·show(dF s.2 f (aO y o)).length<=4096;rw[im];exact c
 ·unfold Sys.L;show aK D G w0 a (_:: _:: _::(Q.bp,[.slice _ (dF s.2 f (aO y o)).length _]):: _);rw[im];exact H
theorem cnt (S:bh Q D G w0 w s L0) (v:Int):af AC 30 [ag (ae Q.bp),aa v] w (aa (cj s.2 v:Nat)):=by
 obtain⟨h1,b,a,c,ca,la,H⟩:=S;exact VC H 3 2 rfl rfl rfl a v
theorem aau (S:bh Q D G w0 w s L0):af AC 117 [ag (ae Q.bm)] w (aa (s.1.length:Nat)):=by
 obtain⟨h1,a,b,c,ca,la,H⟩:=S;exact af.of (s:= .el (.one (.int .i64))) λw' h'=>I3 ((H.get (i:=0) rfl).ext h')
theorem YM (S:bh Q D G w0 w s L0):af AC 62 [ag (ae Q.bp)] w (aa (s.2.length:Nat)):=by
 obtain⟨h1,a,b,c,ca,la,H⟩:=S;exact abb H 3 rfl
end bh
end
set_option maxRecDepth 100000
open Go.RX D
def stE (gone:Bool):Int:=if gone=true then 6 else 0
def abd (r:Int) (gone:Bool):Int:=if gone=true then -1 else r
theorem Ja (pg f rt:Int) (w:A2):af AC 215 [aa pg,aa f,aa rt] w (aa (nc pg f rt)):=by
 refine af.of (s:= .el (.one (.int .i64))) λw' _=>ai (C:=N0) (aQ:=λ_=>[]) (Aq (LH _ _ _ w' _) ?_);unfold nc;refine ab (λc=>λw1 h1=>⟨?_,h1⟩) (λc=>ab (λd=>λw1 h1=>⟨?_,h1⟩) (λd=>λw1 h1=>⟨?_,h1⟩))
 ·simp at c;rw[ay (by omega)]
 ·simp at c d;rw[au (by omega),ay (by omega)]
 ·simp at c d;rw[au (by omega),au (by omega)]
theorem Jb (f:Int) (w:A2):af AC 241 [aa f] w (.agg ⟨[.bool true,aa 0,.bool false,aa f]⟩):=by
 refine af.of (s:= .el (.agg sEn)) (v:=cd f) λw' _=>aP (C:=N0) (aQ:=λ_=>[]) (Aq (LI f w' _) ?_);have H:=At.start [] w';exact aM.go H λb a H=>aA.all 0 H rfl rfl rfl λc H=>ao.go H λd H=>aj.at 0 H rfl rfl ⟨rfl,H.all⟩
theorem Jc {pg:Int} (a:0<=pg) (x:PT) (e:ET) (g:0<=e.2.2.2.1/\e.2.2.2.1<4096) (w:A2):af AC 194 [aa pg,.agg ⟨[aa x.1,aa x.2.1,aa x.2.2.1]⟩,.agg ⟨[.bool e.1,aa e.2.1,.bool e.2.2.1,aa e.2.2.2.1]⟩] w (aa (qt pg x e)):=by
 refine af.of (s:= .el (.one (.int .i64))) λw' _=>ai (C:=N0) (aQ:=λ_=>[]) (Aq (LJ pg x.1 x.2.1 x.2.2.1 e.1 e.2.1 e.2.2.1 e.2.2.2.1 w' _) ?_);have H:=At.start [] w';unfold qt;refine aM.go H λb h H=>aM.go H λi j H=>⟨rfl,aj.cq 1 H rfl rfl (ab (λc=>⟨rfl,aj.cq 0 H rfl rfl ⟨trivial,by decide,ao.go H λd H=>⟨?_,H.all⟩⟩⟩) (λc=>⟨rfl,aj.cq 0 H rfl rfl (ao.go H λd H=>⟨?_,H.all⟩)⟩))⟩
 ·have c:x.2.1=1:=by simpa using c
  rw[ay c];have f:ff pg (gK 1)=pg % 16:=by
   have:gK 1=16:=rfl;rw[this];exact Int.tmod_eq_emod_of_nonneg a
  rw[f,aw (by omega) (by omega)]
 ·have c: ¬ x.2.1=1:=by simpa using c
  rw[au c]
section
variable {Q:Sys} {D G:List Nat} {w0 w:A2} {s:WD} {L0:List (Nat×List Ag)} {bt:Nat} {o r:Int} {gone:Bool}
namespace bh
theorem state (S:bh Q D G w0 w s L0) (i:Nat) (a:L0[i]? =some (bt,oF Q o r gone)):af AC 88 [ag (ae bt)] w (aa (stE gone)):=by
 have hb:=S.get a;refine af.of (s:= .el (.one (.int .i64))) λw' h'=>ai (C:=N0) (aQ:=λ_=>[]) (Aq (LG _ w' _) ?_);have hb:=hb.ext h';refine⟨λ_=>rfl,λ_=>rfl,aj.of (ae Q.bm) (by rw[aV];exact hb.om rfl) (an rfl ⟨rfl,rfl,aj.of gone (by rw[aV];exact hb.om rfl) ?_⟩)⟩;cases gone with
 |true=>exact aB rfl λw1 h1=>⟨rfl,h1⟩
 |false=>exact an rfl λw1 h1=>⟨rfl,h1⟩
theorem root (S:bh Q D G w0 w s L0) (i:Nat) (a:L0[i]? =some (bt,oF Q o r gone)):af AC 56 [ag (ae bt)] w (aa (abd r gone)):=by
 refine af.of (s:= .el (.one (.int .i64))) λw' h'=>ai (C:=N0) (aQ:=λ_=>[]) (Aq (Rz _ w' _) ?_);have S:=S.ext h';refine⟨_,S.state i a,?_⟩;cases gone with
 |true=>exact aB rfl λw1 h1=>⟨rfl,h1⟩
 |false=>exact an rfl ⟨rfl,rfl,S.cg i a rfl λw1 h1=>⟨rfl,h1⟩⟩
theorem at_ (S:bh Q D G w0 w s L0) (k:Nat) (d:L0[k]? =some (bt,oF Q o r gone)) (i:Int) {K:ET->A2->Prop} (c: ∀a,bh Q D G w0 a s L0->K (aL s.1 i) a):
 az AC 235 (.el (.agg sEn)) [ag (ae bt),aa i] w K:=by
 refine S.go λw1 S=>aP (C:=N0) (aQ:=λ_=>[]) (Aq (Pf _ i w1 K) ?_);refine S.al λb a S=>⟨rfl,rfl,S.cg (k+1) d rfl (S.load i λf S=>⟨?_,S.al λg j S=>S.fa 0 rfl rfl rfl λl S=>S.ld 0 rfl rfl (S.fa 1 rfl rfl rfl λm S=>S.en λe S=>S.ld 1 rfl rfl (c e S.tail.tail))⟩)⟩;have h:=Gc S.XV i;exact BS h.1 h.2
theorem lay (S:bh Q D G w0 w s L0) (k:Nat) (d:L0[k]? =some (bt,oF Q o r gone)) (i:Int) (e:ET) {K:Unit->A2->Prop} (c: ∀a,bh Q D G w0 a (dN s i e) L0->K () a):
 az AC 222 (.bu []) [ag (ae bt),aa i,.agg ⟨[.bool e.1,aa e.2.1,.bool e.2.2.1,aa e.2.2.2.1]⟩] w K:=by
 refine S.go λw1 S=>ai (C:=N0) (aQ:=λ_=>[]) (Aq (Vq _ i e.1 e.2.1 e.2.2.1 e.2.2.2.1 w1 K) ?_);exact S.al λb a S=>S.ld 0 rfl rfl ⟨trivial,rfl,rfl,S.cg (k+1) d rfl (S.store i _ (Ph _ _ _ _) λg S=>S.en λf S=>c f S.tail)⟩
end bh
theorem Gm {ds:List DT} {y o:Int} (h: ¬ dO ds y o=0):e_ ds y o=0:=by
 unfold dO at h;unfold e_;cases a:iC ds with
 |none=>rfl
 |some n=>
  have b: ¬ ds.length=0:=λe=>by
   have:ds=[]:=GG.1 e;subst this;cases a
  rw[au b,a] at h;exact au h
theorem u9 (ds:List DT) (y o:Int) (h0:0<ds.length):0<=e_ ds y o/\e_ ds y o<ds.length:=by
 unfold e_;cases a:iC ds with
 |none=>exact⟨Dx 0,by show(0:Int)< _;omega⟩
 |some n=>
  unfold iC at a;rw[GH] at a;have h1:=a.1;dsimp only;split<;>omega
end
set_option maxRecDepth 100000
open Go.RX D
section
variable {Q:Sys} {D G:List Nat} {w0 w:A2} {s:WD} {L0:List (Nat×List Ag)} {bt:Nat} {o r:Int} {gone:Bool}
namespace bh
theorem abe (S:bh Q D G w0 w s L0) (i:Nat) (b:L0[i]? =some (bt,oF Q o r gone)) {K:Int×Int×Unit->A2->Prop} (k: ∀d,bh Q D G w0 d (iK s o (λ_=>0)) L0->K (eh s o,rj s o,()) d):
 az AC 205 (.bu [.one (.int .i64),.one (.int .i64)]) [ag (ae bt),.func (.func 206) #[] #[]] w K:=by
 refine S.go λw1 S=>ai (C:=N0) (aQ:=qR) (Aq (LK _ w1 K) ?_);have A:=u9 s.2 3 o S.Dv;have B:=S.le;refine⟨rfl,rfl,S.cg i b rfl ⟨rfl,rfl,S.cg i b rfl (S.take 3 o λd S=>?_)⟩⟩;by_cases a:rj s o=0
 ·have f:iK s o (λ_=>0)=(eT s.1 (eh s o) (λ_=>0) 16,dy s.2 3 o):=by unfold iK;rw[ay a]
  rw[f,a] at k;have g:dO s.2 3 o=0:=a;refine an (by simp[g]) ⟨λn v w'=> ∃m:Nat,n=16 - m/\m<=16/\v.1=(m:Int)/\bh Q D G w0 w' (eT s.1 (eh s o) (λ_=>0) m,dy s.2 3 o) L0,⟨16,λj h=>⟨0,rfl,by omega,rfl,S.ext h⟩⟩,?_⟩;rintro n ⟨v,u⟩ j ⟨m,rfl,E,e,S⟩;dsimp only at e ⊢;subst e;refine ab (λc=>⟨rfl,rfl,S.cg i b rfl ?_⟩) (λc=>S.en λl S=>k l ?_)
  ·have c:m<16:=by simp at c;omega
   refine λl p=>ai (C:=N0) (aQ:=λ_=>[]) (Aq (RC _ l _) λF q=>?_);have S:=(S.ext p).ext q;have t:(0:Int)<=0/\(0:Int)<18446744073709551616:=by decide
   refine⟨trivial,trivial,by rw[aV];exact(S.get b).om rfl,trivial,trivial,?_⟩;have x:aI .i64 (gq .i64 16 (e_ s.2 3 o)) (m:Int)=16*eh s o+(m:Int):=by
    have:eh s o=e_ s.2 3 o:=rfl;rw[d_ (by omega) (by omega),aw (by omega) (by omega),this]
   rw[x];refine S.store _ _ t λH S=>λI y=>⟨16 - (m+1),by omega,m+1,rfl,by omega,?_,S.ext y⟩;rw[aw (by omega) (by omega)];omega
  ·have c: ¬ m<16:=by simp at c;omega
   have:m=16:=by omega
   subst this;exact S
 ·have f:iK s o (λ_=>0)=(s.1,dy s.2 3 o):=by unfold iK;rw[au a]
  have z:eh s o=0:=Gm a;rw[f,z] at k;have g: ¬ dO s.2 3 o=0:=a;exact aB (by simp[g]) (S.en λj S=>k j S)
theorem abf (S:bh Q D G w0 w s L0) (i:Nat) (b:L0[i]? =some (bt,oF Q o r gone)) {K:Int×Int×Unit->A2->Prop} (k: ∀d,bh Q D G w0 d (iK s o (λ_=>0)) L0->K (eh s o,rj s o,()) d):
 az AC 205 (.bu [.one (.int .i64),.one (.int .i64)]) [ag (ae bt),.func (.func 240) #[] #[]] w K:=by
 refine S.go λw1 S=>ai (C:=N0) (aQ:=qS) (Aq (LM _ w1 K) ?_);have A:=u9 s.2 3 o S.Dv;have B:=S.le;refine⟨rfl,rfl,S.cg i b rfl ⟨rfl,rfl,S.cg i b rfl (S.take 3 o λd S=>?_)⟩⟩;by_cases a:rj s o=0
 ·have f:iK s o (λ_=>0)=(eT s.1 (eh s o) (λ_=>0) 16,dy s.2 3 o):=by unfold iK;rw[ay a]
  rw[f,a] at k;have g:dO s.2 3 o=0:=a;refine an (by simp[g]) ⟨λn v w'=> ∃m:Nat,n=16 - m/\m<=16/\v.1=(m:Int)/\bh Q D G w0 w' (eT s.1 (eh s o) (λ_=>0) m,dy s.2 3 o) L0,⟨16,λj h=>⟨0,rfl,by omega,rfl,S.ext h⟩⟩,?_⟩;rintro n ⟨v,u⟩ j ⟨m,rfl,E,e,S⟩;dsimp only at e ⊢;subst e;refine ab (λc=>⟨rfl,rfl,S.cg i b rfl ?_⟩) (λc=>S.en λl S=>k l ?_)
  ·have c:m<16:=by simp at c;omega
   refine λl p=>ai (C:=N0) (aQ:=λ_=>[]) (Aq (RD _ l _) λF q=>?_);have S:=(S.ext p).ext q;have t:(0:Int)<=0/\(0:Int)<18446744073709551616:=by decide
   refine⟨trivial,trivial,by rw[aV];exact(S.get b).om rfl,trivial,trivial,?_⟩;have x:aI .i64 (gq .i64 16 (e_ s.2 3 o)) (m:Int)=16*eh s o+(m:Int):=by
    have:eh s o=e_ s.2 3 o:=rfl;rw[d_ (by omega) (by omega),aw (by omega) (by omega),this]
   rw[x];refine S.store _ _ t λH S=>λI y=>⟨16 - (m+1),by omega,m+1,rfl,by omega,?_,S.ext y⟩;rw[aw (by omega) (by omega)];omega
  ·have c: ¬ m<16:=by simp at c;omega
   have:m=16:=by omega
   subst this;exact S
 ·have f:iK s o (λ_=>0)=(s.1,dy s.2 3 o):=by unfold iK;rw[au a]
  have z:eh s o=0:=Gm a;rw[f,z] at k;have g: ¬ dO s.2 3 o=0:=a;exact aB (by simp[g]) (S.en λj S=>k j S)
theorem abg (S:bh Q D G w0 w s L0) (i:Nat) (b:L0[i]? =some (bt,oF Q o r gone)) (j:Nat) {be:Nat} {e:ET} (hb:L0[j]? =some (be,[.bool e.1,aa e.2.1,.bool e.2.2.1,aa e.2.2.2.1])) (B:0<=e.2.2.2.1/\e.2.2.2.1<4096) {K:Int×Int×Unit->A2->Prop} (k: ∀d,bh Q D G w0 d (iK s o (ov e)) L0->K (eh s o,rj s o,()) d):
 az AC 205 (.bu [.one (.int .i64),.one (.int .i64)]) [ag (ae bt),.func (.func 242) #[] #[ag (ae be)]] w K:=by
 refine S.go λw1 S=>ai (C:=N0) (aQ:=qT) (Aq (LN _ _ w1 K) ?_);have E:=u9 s.2 3 o S.Dv;have F:=S.le;refine⟨rfl,rfl,S.cg i b rfl ⟨rfl,rfl,S.cg i b rfl (S.take 3 o λd S=>?_)⟩⟩;by_cases a:rj s o=0
 ·have f:iK s o (ov e)=(eT s.1 (eh s o) (ov e) 16,dy s.2 3 o):=by unfold iK;rw[ay a]
  rw[f,a] at k;have g:dO s.2 3 o=0:=a;refine an (by simp[g]) ⟨λn v w'=> ∃m:Nat,n=16 - m/\m<=16/\v.1=(m:Int)/\bh Q D G w0 w' (eT s.1 (eh s o) (ov e) m,dy s.2 3 o) L0,⟨16,λl h=>⟨0,rfl,by omega,rfl,S.ext h⟩⟩,?_⟩;rintro n ⟨v,u⟩ l ⟨m,rfl,H,ev,S⟩;dsimp only at ev ⊢;subst ev;refine ab (λc=>⟨rfl,rfl,S.cg i b rfl ?_⟩) (λc=>S.en λp S=>k p ?_)
  ·have c:m<16:=by simp at c;omega
   refine λp q=>ai (C:=N0) (aQ:=λ_=>[]) (Aq (Hl _ _ p _) ?_);have S:=S.ext q;refine⟨rfl,S.cg j hb rfl ⟨rfl,S.cg j hb rfl ⟨trivial,S.en λI S=>?_⟩⟩⟩;have t:FA true e.2.1 false (aI .i64 e.2.2.2.1 (m:Int))=ov e (m:Int):=by
    rw[aw (by omega) (by omega)];rfl
   rw[t];have x:0<=ov e (m:Int)/\ov e (m:Int)<18446744073709551616:=Ph _ _ _ _;refine⟨trivial,trivial,by rw[aV];exact(S.get b).om rfl,trivial,trivial,?_⟩;have y:aI .i64 (gq .i64 16 (e_ s.2 3 o)) (m:Int)=16*eh s o+(m:Int):=by
    have:eh s o=e_ s.2 3 o:=rfl;rw[d_ (by omega) (by omega),aw (by omega) (by omega),this]
   rw[y];refine S.store _ _ x λJ S=>λL z=>⟨16 - (m+1),by omega,m+1,rfl,by omega,?_,S.ext z⟩;rw[aw (by omega) (by omega)];omega
  ·have c: ¬ m<16:=by simp at c;omega
   have:m=16:=by omega
   subst this;exact S
 ·have f:iK s o (ov e)=(s.1,dy s.2 3 o):=by unfold iK;rw[au a]
  have A:eh s o=0:=Gm a;rw[f,A] at k;have g: ¬ dO s.2 3 o=0:=a;exact aB (by simp[g]) (S.en λl S=>k l S)
end bh
end
set_option maxRecDepth 100000
open Go.RX D
section
variable {D G:List Nat} {w0 w:A2} {L:List (Nat×List Ag)}
def XW (e:El) (b:Nat) (xs:List e.T) (a:List (Nat×List Ag)):Prop:=
 (xs=[]/\a=[(b,[.slice none 0 0])])\/ ∃bs c rest,a=[(b,[.slice (ae bs) xs.length c]),(bs,flat e xs++rest)]/\(flat e xs++rest).length=c*aE e/\xs.length<=c
theorem XW.head {e:El} {b:Nat} {xs:List e.T} {a:List (Nat×List Ag)} (h:XW e b xs a): ∃s:Option AI×Nat×Nat,a[0]? =some (b,[.slice s.1 s.2.1 s.2.2]):=by
 rcases h with ⟨_,rfl⟩|⟨bs,c,rest,rfl, _⟩
 ·exact⟨(none,0,0),rfl⟩
 ·exact⟨(_, _, _),rfl⟩
theorem XW.push {e:El} {b d:Nat} {xs:List e.T} {x:e.T} {f Z:List (Nat×List Ag)} {s:Option AI×Nat×Nat} (u:XW e b xs f) (i:f[0]? =some (b,[.slice s.1 s.2.1 s.2.2])) (H:aK D G w0 w ((d,cellsOf e x)::(f++Z)))
 (j:gT e=true) {t:TypeId} {size bytes:Nat} {z:Array Ag} (l:size=aE e) (m:z.size=aE e) (hb:(xs.length+1)*bytes<=140737488355328) {K:A2->Prop}
 (k: ∀o w',XW e b (xs++[x]) o->aK D G w0 w' (o++Z)->K w'):
 mz w t size bytes z (s.1,s.2.1,s.2.2) (some ⟨d,0,none⟩,1,1) λr a=>aA a (ae b) [.slice r.1 r.2.1 r.2.2] K:=by
 obtain⟨p,n,c⟩:=s;rcases u with ⟨rfl,rfl⟩|⟨bs,A,rest,rfl,h1,v⟩
 ·cases i;refine aK.grow (Ls:=[]) (L0:=(b,[.slice none 0 0])::Z) (xs:=[]) H (.inl ⟨rfl,rfl,rfl⟩) j l m hb λbs c rest w' g1 g H=>?_;refine aA.all 1 H rfl rfl rfl λa H=>k [(b,[.slice (ae bs) 1 c]),(bs,flat e [x]++rest)] a (.inr ⟨bs,c,rest,rfl,g1,g⟩) ?_;exact H.perm (GD _ _ _)
 ·cases i;have y:aK D G w0 w ((d,cellsOf e x)::([(bs,flat e xs++rest)]++((b,[.slice (ae bs) xs.length c])::Z))):=H.perm (GF _ (GD _ _ _));refine aK.grow y (.inr ⟨bs,c,rest,rfl,rfl,h1,v⟩) j l m hb λh c2 q w' g1 g H=>?_;refine aA.all 1 H rfl rfl rfl λa H=>k [(b,[.slice (ae h) (xs.length+1) c2]),(h,flat e (xs++[x])++q)] a (.inr ⟨h,c2,q,?_,g1,by simpa using g⟩) ?_
  ·rw[FP];rfl
  ·exact H.perm (GD _ _ _)
theorem xO.new {l:Nat} {rec:Loop} {w':A2} {b:Nat} {cs:List Ag} (h:xO D G w0 w L l rec) (H:At [] w w' [(b,cs)]):xO D G w0 w' ((b,cs)::L) l rec/\Ob l w w':=by
 have a:Ext w w':=H.all;have hb:w.heap.size<=b:=by
  rcases H.own (b,cs) FQ with h|h
  ·exact h
  ·cases h
 exact⟨⟨h.1,h.2.1.more a hb (H.db (b,cs) FQ),h.2.2.ext a⟩,Ob.uT a⟩
theorem LV {bm bw n c:Nat} {ca la:Int} {ws:List Int} {rest:List Ag} (H:aK D G w0 w L) (j:Nat) (b:L[j]? =some (bm,lU bw n c ca la)) (f:bL w0 bw (flat eW ws++rest)) (g:bw∉G) (h:n=ws.length) (h0:0<n) (i:Int) {K:Int×Int×Unit->A2->Prop}
 (k: ∀a,aK D G w0 a (L.set j (bm,lU bw n c (wI ws i ca) la))->K (dE ws i,wH ws i,()) a):
 az AC 37 (.bu [.one (.int .u64),.one (.int .i64)]) [ag (ae bm),aa i] w K:=by
 refine az.go H λw1 H=>ai (C:=M0) (aQ:=λ_=>[]) (Aq (D_ _ i w1 K) ?_);refine yS H j b h h0 i (λhi a H=>?_) (λhi a H=>?_)
 ·unfold wI dE wH at k;rw[hi,ay rfl,ay rfl,ay rfl] at k;have l:=iX.1 hi;refine an rfl ⟨rfl,?_⟩;rw[aV];have e:=aap (ws:=ws) (rest:=rest) (i:=i.toNat) (by omega);rw[Dk] at e;exact aj.fI H f g e (ao.go H λd H=>k d H)
 ·unfold wI dE wH at k;rw[hi,au (by decide),au (by decide),au (by decide)] at k;refine aB rfl (ao.go H λd H=>k d ?_);rw[show L.set j (bm,lU bw n c ca la)=L from GI λm=>by
   by_cases e:j=m
   ·subst e;rw[Do (B6.1 b).1,b]
   ·rw[Bx e]]
  exact H
structure TbR (Q:Sys) (ws:List Int) (w:A2) (bt:Nat) (o r:Int) (gone:Bool):Prop where
 tb:bL w bt (oF Q o r gone)
 wd:bL w Q.bw (flat eW ws++Q.rw)
 tne:bt≠Q.bm
 wne:Q.bw≠Q.bm
 XV:okW ws
 pos:0<ws.length
abbrev Mc (Q:Sys) (n:Nat) (l:List Ag):Prop:= ∃ca la,l=lU Q.bw n Q.c ca la
theorem Pj {Q:Sys} {ws:List Int} {bt:Nat} {o r:Int} {gone:Bool} {D:List Nat} {L:List (Nat×List Ag)} {ca la:Int} (R:TbR Q ws w0 bt o r gone) (H:aK D [Q.bm] w0 w L) (j:Nat) (d:L[j]? =some (Q.bm,lU Q.bw ws.length Q.c ca la)) (i:Int) {K:ET->A2->Prop}
 (k: ∀ca a,aK D [Q.bm] w0 a (L.set j (Q.bm,lU Q.bw ws.length Q.c ca la))->K (aL ws i) a):
 az AC 235 (.el (.agg sEn)) [ag (ae bt),aa i] w K:=by
 have t1:bt∉[Q.bm]:=by simpa using R.tne
 have t2:Q.bw∉[Q.bm]:=by simpa using R.wne
 refine az.go H λw1 H=>aP (C:=N0) (aQ:=λ_=>[]) (Aq (Pf _ i w1 K) ?_);refine aM.go H λb a H=>⟨rfl,rfl,aj.kZ H R.tb t1 rfl (LV H (j+1) d R.wd t2 rfl R.pos i λf H=>⟨?_,aM.go H λg l H=>aA.all 0 H rfl rfl rfl λm H=>aj.at 0 H rfl rfl (aA.all 1 H rfl rfl rfl λn H=>ao.go H λe H=>aj.at 1 H rfl rfl (k (wI ws i ca) e (H.sub ?_)))⟩)⟩
 ·have h:=Gc R.XV i;exact BS h.1 h.2
 ·exact(Dc _ _).trans (Dc _ _)
end
abbrev emP (x:PT×Unit):List Ag:=[.agg ⟨[aa x.1.1,aa x.1.2.1,aa x.1.2.2.1]⟩]
abbrev XX (x:PT):PT×Unit:=(x,())
def Oi (ws:List Int) (pg:Int):Nat->Int->List PT
 |0, _=>[]
 |l+1,f=>if dH (aL ws (dX f pg ((l+1:Nat):Int)))=true then dh ws pg l (aL ws (dX f pg ((l+1:Nat):Int))).2.2.2.1 else[]
theorem LW (ws:List Int) (pg:Int): ∀(l:Nat) (f:Int),dh ws pg l f=(f,(l:Int),dX f pg (l:Int),())::Oi ws pg l f
 |0, _=>rfl
 | _+1, _=>rfl
theorem RI {ws:List Int} {pg:Int} {l:Nat} {f:Int} (h:dH (aL ws (dX f pg (l:Int)))=false):Oi ws pg l f=[]:=by
 cases l with
 |zero=>rfl
 |succ l=>rw[Oi,h,au (by decide)]
theorem ZO {Q:Sys} {ws:List Int} {bt b c:Nat} {o r pg:Int} {gone:Bool} {N:Nat} (E:okW ws) (F:0<ws.length):
 ItJ AC 244 (λy=>[.func (.yield y) #[] #[],ag (ae b),ag (ae c)]) emP N Q.bm (Mc Q ws.length)
  [(bt,oF Q o r gone),(Q.bw,flat eW ws++Q.rw),(b,[ag (ae bt)]),(c,[aa pg])] ((dh ws pg 3 r).map XX):=by
 intro y J K G a X O w t i j;refine Calls.mono (ai (C:=N0) (aQ:=ug) (Post:=λ_ w'=>J (a++(dh ws pg 3 r).map XX) X O w') (Aq (RA y _ _ w _) ?_)) ?_
 rotate_left
 ·rintro e w' ⟨x,rfl,h⟩;exact⟨_,rfl,h⟩
 have x1:=i (bt,oF Q o r gone) (by simp);have z:=i (Q.bw,flat eW ws++Q.rw) (by simp);have A:=i (b,[ag (ae bt)]) (by simp);have I:=i (c,[aa pg]) (by simp);refine aj.of (ae bt) ((K.db j A).2.om rfl) ⟨rfl,rfl,aj.of r (by rw[aV];exact(K.db j x1).2.om rfl) ⟨λn v w'=>(∃l:Nat,v.2.1=(l:Int)/\n=l+1/\l<=3/\ ∃pre,dh ws pg 3 r=pre++dh ws pg l v.1/\J (a++pre.map XX) X O w')\/(v.2.1= -1/\J (a++(dh ws pg 3 r).map XX) X O w'),
  ⟨4,λw1 h1=> .inl ⟨3,rfl,rfl,BP _,[],rfl,by simpa using K.ext j h1⟩⟩,?_⟩⟩
 rintro n ⟨f,lv,u⟩ w1 (⟨l,g,rfl,hl,pre,d,j⟩|⟨g,j⟩)
 ·dsimp only at g d ⊢;subst g;refine aB (by simp) (aj.of pg ((K.db j I).2.om rfl) ⟨trivial,?_⟩);obtain⟨lm,⟨ca,la,rfl⟩,H⟩:=K.at0 j;have R:TbR Q ws w1 bt o r gone:=⟨(K.db j x1).2,(K.db j z).2,(K.db j x1).1,(K.db j z).1,E,F⟩;have hb:=K.db j A;have L:b∉[Q.bm]:=by simpa using hb.1
  refine aM.go H λM P H=>aA.all 0 H rfl rfl rfl λw3 H=>aj.fI H hb.2 L rfl ⟨rfl,aj.cq 0 H rfl rfl (Pj R H 1 rfl _ λWJ w4 H=>aM.go H λB w5 H=>aA.all 0 H rfl rfl rfl λw6 H=>aj.at 1 H rfl rfl λS T=>?_)⟩;have H:=H.ext T;rw[LW ws pg l f] at d;have U:(a++pre.map XX).length<N:=by
   rw[d] at t;simp only[List.map_append,FP,Dq,BJ] at t ⊢;omega
  have V:=K.td (Y:=[(B, _),(M, _)]) j H ⟨_, _,rfl⟩;refine G _ (XX (f,(l:Int),dX f pg (l:Int),())) _ _ S _ U V λw8 m=>?_;have D:=(K.db m (x:=(B, _)) (FQ)).2;refine aj.of (aL ws (dX f pg (l:Int))) (dR D rfl) ⟨λ_=>trivial,ab (λp W q=>?_) (λp=>⟨rfl,aj.of (aL ws (dX f pg (l:Int))).2.2.2.1 (by rw[aV];exact D.om rfl) λW q=>?_⟩)⟩
  ·have s:dH (aL ws (dX f pg (l:Int)))=false:=by simpa[dH] using p
   have k:=K.sub (K.ext m q) (X':=X) (λx h=>by simp[h]) (DQ _);rw[RI s] at d;rw[d];simpa using k
  ·have s:dH (aL ws (dX f pg (l:Int)))=true:=by simpa[dH] using p
   have k:=K.sub (K.ext m q) (X':=X) (λx h=>by simp[h]) (DQ _);rcases l with _|l
   ·refine⟨0,by omega,.inr ⟨rfl,?_⟩⟩;rw[d];simpa[Oi] using k
   ·refine⟨l+1,by omega,.inl ⟨l,?_,rfl,by omega,pre++[(f,((l+1:Nat):Int),dX f pg ((l+1:Nat):Int),())],?_,by simpa using k⟩⟩
    ·show aX .i64 ((l+1:Nat):Int) 1=(l:Int);rw[bC (by omega) (by omega)];omega
    ·rw[d,Oi,ay s,GJ];rfl
 ·dsimp only at g ⊢;subst g;exact an rfl λP Z=>K.ext j Z
section
variable {Q:Sys} {D G:List Nat} {w0 w:A2} {s:WD} {L0:List (Nat×List Ag)} {bt:Nat} {o r:Int} {gone:Bool}
namespace bh
theorem way (S:bh Q D G w0 w s L0) (pg:Int) {K:Option AI×Option AI×Unit->A2->Prop} (k: ∀b c a,bh Q D G w0 a s ((c,[aa pg])::(b,[ag (ae bt)])::L0)->K (some ⟨b,0,none⟩,some ⟨c,0,none⟩,()) a):
 az AC 219 aat [ag (ae bt),aa pg] w K:=by
 refine S.go λw1 S=>ai (C:=N0) (aQ:=λ_=>[]) (Aq (Vr _ pg w1 K) ?_);exact S.al λb a S=>S.al λc e S=>S.en λd S=>k b c d S
theorem Oc (S:bh Q D G w0 w s L0) (k0:Nat) (p:L0[k0]? =some (bt,oF Q o r gone)) {b c:Nat} {pg:Int} (hb:(b,[I2 (ae bt)])∈L0) (hc:(c,[aa pg])∈L0)
 {K:Option AI×Nat×Nat->A2->Prop} (k: ∀bs cs rest g,bh Q D G w0 g s ((bs,flat (.agg TM) (dh s.1 pg 3 r)++rest)::L0)->K (some ⟨bs,0,none⟩,(dh s.1 pg 3 r).length,cs) g):
 az AC 218 (.el (.one .slice)) [.func (.func 244) #[] #[ag (ae b),ag (ae c)]] w K:=by
 refine S.go λw1 S=>aP (C:=N0) (aQ:=uh) (Aq (RB _ _ w1 K) ?_);obtain⟨h1,q,t,m,ca,la,H0⟩:=S;have H:=H0.again;refine aM.go H λbl g H=>?_;have u:(dh s.1 pg 3 r).length<=4:=tB s.1 pg 3 r;refine zS.Oc (N:=4) (bm:=Q.bm) (mc:=Mc Q s.1.length) (Rg0:=[(bl,[.slice none 0 0])]) (Lb:=(Q.bw,flat eW s.1++Q.rw)::(Q.bf,flat eD s.2++Q.rf)::(Q.bp,[.slice (ae Q.bf) s.2.length Q.cp])::L0) H ⟨_, _,rfl⟩
  (ZO (o:=o) (r:=r) (gone:=gone) (bt:=bt) (pg:=pg) m h1) ?_ (by simpa using u) (λxs d=>XW (.agg TM) bl (xs.map (·.1)) d) (.inl ⟨rfl,rfl⟩) ?_ ?_
 ·intro x e;simp only[FU,List.not_mem_nil,or_false] at e;rcases e with rfl|rfl|rfl|rfl
  ·simp[DB p]
  ·simp
  ·simp[hb]
  ·simp[hc]
 ·intro b0 x d Z rr l rec v R hN a f y;refine Dd.go f rfl ?_;refine aM.go (At.start [] v) λz A i=>aA.all 0 i rfl rfl rfl λB i=>?_;obtain⟨E,F⟩:=xO.new f i;obtain⟨sl,j⟩:=a.head;refine BN.goO E λwb H I J=>aj.at 1 H (by rw[List.getElem?_cons_succ,FR (B6.1 j).1];exact j) rfl (aj.at 0 H rfl rfl (aM.go H λL n H=>λM O=>?_));have H:=H.ext O;have P:aK [] _ wb M ((L,cellsOf (.agg TM) x.1)::(d++((z,[aa x.1.1,aa x.1.2.1,aa x.1.2.2.1])::Z))):=H.perm (GF _ Dn);refine a.push j P rfl rfl rfl (by simp only[Dq];omega) λT w8 U V=>sj.lf I (V.sub (List.Sublist.append (DQ _) (Dc _ _))) λW X Y=>y T W (by simpa using U) X ((F.trans J).trans Y)
 ·rintro rr rec A l' d ⟨WJ,la2,rfl⟩ a f;refine du.none f λB H=>?_;have WI:((dh s.1 pg 3 r).map XX).map (·.1)=dh s.1 pg 3 r:=by
   rw[List.map_map];exact List.map_id _
  rw[WI] at a;rcases a with ⟨h, _⟩|⟨bs,cs,rest,rfl,g1,g2⟩
  ·exact absurd h (xA _ _ _ _)
  ·refine aj.at 0 H rfl rfl (sk.go H λn H=>k bs cs rest n ⟨h1,q,t,m,WJ,la2,H0.join (λx e=>e) ?_⟩);refine(H.sub (Dc _ _)).perm ?_;exact Dn (l₁:=[_, _, _, _])
end bh
end
set_option maxRecDepth 100000
open Go.RX D
theorem Cw (ws:List Int) (r pg:Int):(dh ws pg 3 r)[(dh ws pg 3 r).length - 1]? =some (dw ws r pg):=by
 have a:=xA ws pg 3 r;unfold dw;rw[List.getLastD_eq_getLast?, <-List.getLast?_eq_getElem?,List.getLast?_eq_some_getLast a];rfl
theorem pv (ws:List Int) (a:Int):0<=(aL ws a).2.2.2.1/\(aL ws a).2.2.2.1<4096:=I_ _
section
variable {Q:Sys} {D G:List Nat} {w0 w:A2} {s:WD} {L0:List (Nat×List Ag)} {bt:Nat} {o r:Int} {gone:Bool}
namespace bh
theorem end_ (S:bh Q D G w0 w s L0) (k0:Nat) (c:L0[k0]? =some (bt,oF Q o r gone)) (pg:Int) {K:PT×ET×Unit->A2->Prop} (k: ∀a,bh Q D G w0 a s L0->K (dw s.1 r pg,cY s.1 r pg,()) a):
 az AC 193 (.bu [.agg TM,.agg sEn]) [ag (ae bt),aa pg] w K:=by
 refine S.go λw1 S=>aP (C:=N0) (aQ:=λ_=>[]) (Aq (Vs _ pg w1 K) ?_);refine S.al λb a S=>S.al λg h S=>S.way pg λj bc l S=>S.Oc (pg:=pg) (k0+4) c (by simp) (by simp) λbs cs rest m S=>?_;have n:(dh s.1 pg 3 r).length<=4:=tB s.1 pg 3 r;have p:0<(dh s.1 pg 3 r).length:=GS.2 (xA s.1 pg 3 r);have d:aX .i64 (((dh s.1 pg 3 r).length:Nat):Int) 1=(((dh s.1 pg 3 r).length - 1:Nat):Int):=by rw[bC (by omega) (by omega)];omega
 have e:=fN (S.get (i:=0) rfl) (Cw s.1 r pg);dsimp only;rw[d];refine⟨⟨rfl,by omega,by omega⟩,aj.of (dw s.1 r pg) e ?_⟩;refine S.al λq t S=>S.fa 0 rfl rfl rfl λu S=>S.ld 0 rfl rfl ⟨rfl,S.cg 0 rfl rfl (S.at_ (k0+6) c _ λv S=>⟨dR (S.get (i:=0) rfl) rfl,S.fa 5 rfl rfl rfl λx S=>S.fa 4 rfl rfl rfl λy S=>S.en λf S=>S.ld 5 rfl rfl (S.ld 4 rfl rfl (k f S.tail.tail.tail.tail.tail.tail))⟩)⟩
theorem query (S:bh Q D G w0 w s L0) (k0:Nat) (e:L0[k0]? =some (bt,oF Q o r gone)) (pg:Int) {K:Int×Int×Int×Unit->A2->Prop} (k: ∀a,bh Q D G w0 a s L0->K (bA s r gone pg) a):
 az AC 139 (.bu [.one (.int .i64),.one (.int .i64),.one (.int .i64)]) [ag (ae bt),aa pg] w K:=by
 refine S.go λw1 S=>ai (C:=N0) (aQ:=λ_=>[]) (Aq (LO _ pg w1 K) ?_);refine⟨_,S.state k0 e,?_⟩;unfold bA at k;cases gone with
 |true=>
  rw[ay rfl] at k;exact aB rfl (S.en λa S=>k a S)
 |false=>
  rw[au (by decide)] at k;refine an rfl (ab (λc=>S.en λa S=>?_) (λc=>?_))
  ·simp only[FS,decide_eq_true_eq] at c;rw[ay c] at k;exact k a S
  ·simp only[G1,decide_eq_false_iff_not] at c;rw[au (by omega)] at k;refine S.end_ k0 e pg λa S=>S.al λb f S=>S.al λg h S=>S.fa 1 rfl rfl rfl λi S=>S.fa 0 rfl rfl rfl λj S=>⟨rfl,S.cg 0 rfl rfl (ab (λc2=>S.en λd S=>?_) (λc2=>S.ld 1 rfl rfl (S.ld 0 rfl rfl ⟨_,Jc (by omega) (dw s.1 r pg) (cY s.1 r pg) (pv _ _) _,rfl,S.cg 0 rfl rfl (S.en λd S=>?_)⟩)))⟩
   ·have c2:(cY s.1 r pg).1=false:=by simpa using c2
    rw[c2,au (by decide)] at k;exact k d S.tail.tail
   ·have c2:(cY s.1 r pg).1=true:=by simpa using c2
    rw[c2,ay rfl] at k;exact k d S.tail.tail
theorem split (S:bh Q D G w0 w s L0) (k0:Nat) (a:L0[k0]? =some (bt,oF Q o r gone)) (pg:Int) {K:Int->A2->Prop} (k: ∀d,bh Q D G w0 d (fh s o r pg) L0->K (mg s o r pg) d):
 az AC 217 (.el (.one (.int .i64))) [ag (ae bt),aa pg] w K:=by
 refine S.go λw1 S=>ai (C:=N0) (aQ:=λ_=>[]) (Aq (LP _ pg w1 K) ?_);unfold fh mg at k;refine S.end_ k0 a pg λd S=>S.al λb j S=>S.al λh l S=>S.fa 1 rfl rfl rfl λm S=>S.fa 0 rfl rfl rfl λn S=>⟨rfl,S.cg 1 rfl rfl (ab (λc=>S.en λf S=>?_) (λc=>?_))⟩
 ·have c:(dw s.1 r pg).2.1=0:=by simpa using c
  rw[ay c,ay c] at k;exact k f S.tail.tail
 ·have c: ¬ (dw s.1 r pg).2.1=0:=by simpa using c
  rw[au c,au c] at k;refine S.abg (k0+2) a 0 (be:=h) (e:=cY s.1 r pg) rfl (pv _ _) λf S=>ab (λc2=>⟨rfl,S.cg 1 rfl rfl ⟨cd (eh s o),Jb _ _,S.lay (k0+2) a _ (cd (eh s o)) λg S=>S.en λi S=>?_⟩⟩) (λc2=>S.en λg S=>?_)
  ·have c2:rj s o=0:=by simpa using c2
   rw[ay c2] at k;exact k i S.tail.tail
  ·have c2: ¬ rj s o=0:=by simpa using c2
   rw[au c2] at k;exact k g S.tail.tail
end bh
end
set_option maxRecDepth 100000
open Go.RX D
theorem Jd (ws:List Int) (pg:Int): ∀(l:Nat) (f:Int) (x:PT),x∈dh ws pg l f->0<=x.2.1/\x.2.1<=(l:Int)
 |0,f,x,h=>by
  rw[dh,Fg] at h;subst h;exact⟨Dx _,Dx _⟩
 |l+1,f,x,h=>by
  rw[dh] at h;rcases FU.1 h with rfl|h
  ·exact⟨by show(0:Int)<=((l+1:Nat):Int);omega,Dx _⟩
  ·split at h
   ·have:=Jd ws pg l _ x h;omega
   ·cases h
theorem VD (ws:List Int) (r pg:Int):0<=(dw ws r pg).2.1/\(dw ws r pg).2.1<=3:=by
 have:=Jd ws pg 3 r _ (DB (Cw ws r pg));omega
section
variable {Q:Sys} {D G:List Nat} {w0 w:A2} {s:WD} {L0:List (Nat×List Ag)} {bt:Nat} {o r:Int} {gone:Bool}
namespace bh
theorem put (S:bh Q D G w0 w s L0) (k0:Nat) (a:L0[k0]? =some (bt,oF Q o r gone)) (pg lv:Int) (E:0<=lv/\lv<=3) (e:ET) {K:Int->A2->Prop} (k: ∀f,bh Q D G w0 f (rB s o r pg lv e) L0->K (l_ s r pg lv) f):
 az AC 216 (.el (.one (.int .i64))) [ag (ae bt),aa pg,aa lv,.agg ⟨[.bool e.1,aa e.2.1,.bool e.2.2.1,aa e.2.2.2.1]⟩] w K:=by
 refine S.go λw1 S=>ai (C:=N0) (aQ:=v8) (Aq (Vt _ pg lv e.1 e.2.1 e.2.2.1 e.2.2.2.1 w1 K) ?_);have F:=VD s.1 r pg;unfold rB at k;refine S.al λb f S=>S.end_ (k0+1) a pg λf S=>S.al λj H S=>S.al λl I S=>S.fa 1 rfl rfl rfl λJ S=>S.fa 0 rfl rfl rfl λL S=>⟨rfl,S.cg 0 rfl rfl ⟨λ_=>rfl,S.cg 1 rfl rfl ?_⟩⟩;by_cases c1:((cY s.1 r pg).1||decide ((dw s.1 r pg).2.1<lv))=true
 ·have c:l_ s r pg lv=5:=by unfold l_;rw[ay c1]
  rw[c,au (by decide)] at k;exact aB c1 (S.en λd S=>k d S.tail.tail.tail)
 have m:=c1;simp only[FS,decide_eq_true_eq,not_or] at m;refine an (by simpa using c1) ⟨rfl,rfl,S.cg (k0+3) a rfl ⟨_,S.cnt 0,rfl,S.cg 1 rfl rfl ?_⟩⟩;have p:aX .i64 (dw s.1 r pg).2.1 lv=(dw s.1 r pg).2.1 - lv:=bC (by omega) (by omega);dsimp only;rw[p];by_cases c2:(cj s.2 0:Int)<(dw s.1 r pg).2.1 - lv
 ·have c:l_ s r pg lv=12:=by unfold l_;rw[au c1,ay c2]
  rw[c,au (by decide)] at k;exact aB (by simpa using c2) (S.en λd S=>k d S.tail.tail.tail)
 have c:l_ s r pg lv=0:=by unfold l_;rw[au c1,au c2]
 rw[c,ay rfl] at k;obtain⟨n0,q⟩: ∃n0,n0=((dw s.1 r pg).2.1 - lv).toNat:=⟨_,rfl⟩;rw[<-q] at k;obtain⟨z,g⟩: ∃z,z=qH o pg n0 (s,dw s.1 r pg):=⟨_,rfl⟩;rw[<-g] at k;refine an (by simpa using c2) ⟨λn _ w'=> ∃t:WD, ∃x:PT,qH o pg n (t,x)=z/\x.2.1=lv+(n:Int)/\n<=3/\bh Q D G w0 w' t ((l,[.bool (cY s.1 r pg).1,aa (cY s.1 r pg).2.1,.bool (cY s.1 r pg).2.2.1,aa (cY s.1 r pg).2.2.2.1])::(j,[aa x.1,aa x.2.1,aa x.2.2.1])::(b,[.bool e.1,aa e.2.1,.bool e.2.2.1,aa e.2.2.2.1])::L0),
  ⟨n0,λd v=>⟨s,dw s.1 r pg,g.symm,by omega,by omega,S.ext v⟩⟩,?_⟩
 rintro n u d ⟨t,x,h,M,N,S⟩;refine⟨rfl,S.cg 1 rfl rfl ?_⟩;rcases n with _|n
 ·refine an (by simp;omega) ⟨rfl,S.cg 1 rfl rfl (S.ld 2 rfl rfl (S.lay (k0+3) a _ e λy S=>S.en λi S=>k i ?_))⟩;have:z=(t,x):=h.symm;rw[this];exact S.tail.tail.tail
 ·refine aB (by simp;omega) (S.abf (k0+3) a λy S=>⟨rfl,S.cg 1 rfl rfl ⟨cd (eh t o),Jb _ _,S.lay (k0+3) a _ (cd (eh t o)) λi S=>⟨rfl,S.cg 1 rfl rfl ⟨rfl,S.cg 1 rfl rfl ⟨trivial,S.fa 1 rfl rfl rfl λO S=>λP A=>⟨n,by omega,dN (iK t o λ_=>0) x.2.2.1 (cd (eh t o)),(eh t o,x.2.1 - 1,dX (eh t o) pg (x.2.1 - 1),()),h,by show x.2.1 - 1= _;omega,by omega,?_⟩⟩⟩⟩⟩⟩);have B:aX .i64 x.2.1 1=x.2.1 - 1:=bC (by omega) (by omega);have S:=S.ext A;rw[B] at S;exact S
theorem map (S:bh Q D G w0 w s L0) (k0:Nat) (b:L0[k0]? =some (bt,oF Q o r gone)) (pg f rt:Int) {K:Int->A2->Prop} (k: ∀a,bh Q D G w0 a (jt s o r gone pg f rt) L0->K (lQ s r gone pg f rt) a):
 az AC 173 (.el (.one (.int .i64))) [ag (ae bt),aa pg,aa f,aa rt] w K:=by
 refine S.go λw1 S=>ai (C:=N0) (aQ:=λ_=>[]) (Aq (Vu _ pg f rt w1 K) ?_);unfold jt lQ at k;refine⟨_,S.state k0 b,?_⟩;cases gone with
 |true=>
  rw[ay rfl,ay rfl] at k;exact aB rfl (S.en λa S=>k a S)
 |false=>
  have d: ¬ (false=true):=by decide
  rw[au d,au d] at k;refine an rfl ⟨_,Ja _ _ _ _,ab (λc=>S.en λa S=>?_) (λc=>S.put k0 b pg 0 ⟨by decide,by decide⟩ (true,rt,false,f,()) λa S=>S.en λe S=>?_)⟩
  ·have c: ¬ nc pg f rt=0:=by simpa using c
   rw[au c,au c] at k;exact k a S
  ·have c:nc pg f rt=0:=by simpa using c
   rw[ay c,ay c] at k;exact k e S
end bh
end
set_option maxRecDepth 100000
open Go.RX D
theorem VE {p:Prop} {α:Type} (d:Decidable p) (c: ¬ p) (a b:α):(DH (λ_=>a) (λ_=>b) d:α)=a:=by
 cases d with
 |isFalse h=>rfl
 |isTrue h=>exact absurd h c
theorem Je {ws:List Int} {i n:Int} (h: ¬ (n<1\/i<0\/i>ws.length\/n>ws.length - i)):(gY ws i n).length=n.toNat:=by
 unfold gY;rw[au h,Fi,Ga];omega
section
variable {D G:List Nat} {w0 w:A2} {L:List (Nat×List Ag)}
theorem ZP {bw n c:Nat} {ws:List Int} {rest:List Ag} (q:bL w bw (flat eW ws++rest)) (K:n=ws.length) (hc:n<=c) (hb:n<=1048576) (i k:Int):
 aD AC 80 (.el (.one .slice)) [.agg ⟨[.slice (ae bw) n c]⟩,aa i,aa k] w (λr w'=>lM w w' eW r (gY ws i k)/\Ext w w'):=by
 refine ai (C:=N0) (aQ:=λ_=>[]) (Aq (Vx _ n c i k w _) ?_);have H:=At.start [] w;refine aM.go H λb L H=>⟨λ_=>rfl,aj.cq 0 H rfl rfl ⟨λ_=>rfl,aj.cq 0 H rfl rfl ?_⟩⟩;by_cases f:k<1\/i<0\/i>ws.length\/k>ws.length - i
 ·have s:gY ws i k=[]:=ay f;rw[s];refine aB ?_ (ao.go H λm H=>⟨lM.nil w m eW,H.all⟩);dsimp only;simp only[FS,decide_eq_true_eq];by_cases h1:k<1
  ·exact .inl (.inl (.inl h1))
  ·by_cases t:i<0
   ·exact .inl (.inl (.inr t))
   ·by_cases u:i>(n:Int)
    ·exact .inl (.inr u)
    ·refine .inr ?_;rw[bC (by omega) (by omega)];omega
 ·have M:1<=k/\0<=i/\i+k<=n:=by omega
  have v:aX .i64 (n:Int) i=(n:Int) - i:=bC (by omega) (by omega);refine an ?_ ?_
  ·dsimp only;rw[v];simp only[G1,decide_eq_false_iff_not];omega
  refine NJ.go H (z:=[ax 0]) rfl (by omega) (Dx _) (by omega) (by omega) λd m H=>⟨rfl,aj.cq 1 H rfl rfl ⟨by dsimp only;omega,λx y=>?_⟩⟩;have H:=H.ext y;have A:=q.ext H.all;dsimp only;rw[VE _ (by show ¬ (((c:Nat):Int).toNat=i.toNat);omega)];have e:(gY ws i k).length=k.toNat:=Je f;have B:gY ws i k=(ws.drop i.toNat).take k.toNat:=au f;have a:(flat eW (gY ws i k)).length=k.toNat:=by rw[aF,e];exact Dk _
  have D:Nat.min (((n:Nat):Int).toNat - i.toNat) k.toNat=k.toNat:=Nat.min_eq_right (by omega);have g:(CW k.toNat [ax 0]).flatten.length=k.toNat:=by simp
  refine⟨flat eW (gY ws i k),?_,.inr (.inr ⟨?_,?_⟩),?_⟩
  ·show oB x (ad (ae bw) (i.toNat*1)) (Nat.min (((n:Nat):Int).toNat - i.toNat) k.toNat*1) _;rw[D,aV,Dk,Dk];refine A.oB a λj E=>?_;have F:=Iw ws;have G:=Iw (gY ws i k);rw[Fx,F,G,FR (by rw[Dq];omega),Gd,Gd,B,Gi E,Gj]
  ·rw[a];exact(H.get (i:=0) rfl).st (by rw[g];omega)
  ·have:=jG eW (gY ws i k) rfl;exact this
  ·have p:=H.put 0 (b:=d) (o:=0) rfl (flat eW (gY ws i k)) (by rw[a,g];omega);have I:List.drop k.toNat (CW k.toNat [ax 0]).flatten=[]:=Fm (Nat.le_of_eq g);rw[Fx,a,I,Dr,List.take_zero,List.nil_append] at p;refine ao.go p λN l=>⟨?_,l.all⟩;have J:w.heap.size<=d:=by
    rcases l.own (d,flat eW (gY ws i k)) FQ with h|h
    ·exact h
    ·cases h
   refine⟨e.symm,by rw[e];exact BP _,.inr ⟨d, _,rfl,J,l.get (i:=0) rfl,by rw[a];exact(Dk _).symm,?_⟩⟩;rw[e];exact H4 (by rw[a];exact Nat.le_of_eq (Dk _).symm)
theorem LX {e:El} {xs:List e.T} {rest:List Ag} {i:Nat} {x:e.T} (a:xs[i]? =some x) {j:Nat} (b:j<aE e):(flat e xs++rest)[i*aE e+j]? =(cellsOf e x)[j]? :=by
 have hi:i<xs.length:=(B6.1 a).1;have c:i*aE e+j<(flat e xs).length:=by
  rw[aF];have:(i+1)*aE e<=xs.length*aE e:=Nat.mul_le_mul_right _ hi;rw[Nat.add_mul] at this;omega
 rw[FR c];exact yN e xs i x a j b
end
section
variable {Q:Sys} {D G:List Nat} {w0 w:A2} {s:WD} {L0:List (Nat×List Ag)} {bt:Nat} {o r:Int} {gone:Bool}
abbrev Dh (Q:Sys) (s:WD):Prop:=s.1.length<=Q.c/\s.1.length<=1048576
namespace bh
theorem words (S:bh Q D G w0 w s L0) (hc:Dh Q s) (i n:Int) {K:Option AI×Nat×Nat->A2->Prop} (k: ∀x rows a,bh Q D G w0 a s (L0++rows)->kh eW rows x (gY s.1 i n)->K x a):
 az AC 45 (.el (.one .slice)) [ag (ae Q.bm),aa i,aa n] w K:=by
 refine S.go λw1 S=>ai (C:=N0) (aQ:=λ_=>[]) (Aq (LU _ i n w1 K) ?_);obtain⟨h1,b,c,d,ca,la,H⟩:=S;refine an rfl ⟨rfl,rfl,aj.cq 0 H rfl rfl ?_⟩;refine az.YI H (λa H=>ZP (H.get (i:=1) rfl) rfl hc.1 hc.2 i n) λx rows a H e=>ao.go H λf H=>k x rows f ⟨h1,b,c,d,ca,la,H⟩ e
theorem tC (S:bh Q D G w0 w s L0) {j bs:Nat} {l:List PT} {rest:List Ag} (hb:L0[j]? =some (bs,flat (.agg TM) l++rest)) {i:Nat} {x:PT} (a:l[i]? =some x) (q:Nat) {K:Int->Prop} {v:Int} (b:q<3) (hv:(cellsOf (.agg TM) x)[q]? =some (aa v)) (k:K v):
 aj w none (ad (ad (ae bs) (i*3)) q) (.one (.int .i64)) K:=by
 rw[aV,aV,Fx];refine aj.of v ((S.get hb).om ?_) k;have:=LX (e:= .agg TM) (rest:=rest) a (j:=q) b;rw[show i*3+q=i*aE (.agg TM)+q from rfl,this,hv];rfl
end bh
end
set_option maxRecDepth 100000
open Go.RX D
theorem abh (x:PT) (t:WD):jk [x] t=t:=rfl
theorem abi (x y:PT) (l:List PT) (t:WD):jk (x::y::l) t=if wV t.1 x.1=true then jk (y::l) (dJ t.1 y.2.2.1 0,dF t.2 x.1 (aO 5 0)) else t:=rfl
theorem LY {l:List PT} {q:Nat} {x y:PT} (b:l[q]? =some y) (c:l[q+1]? =some x):(l.take (q+2)).reverse=x::y::(l.take q).reverse/\(l.take (q+1)).reverse=y::(l.take q).reverse:=by
 have a:l.take (q+1)=l.take q++[y]:=by rw[Fo,b];rfl
 have d:l.take (q+2)=l.take q++[y]++[x]:=by rw[Fo,c,a];rfl
 exact⟨by rw[d];simp,by rw[a];simp⟩
theorem Jf {ws:List Int} (pg:Int): ∀(l:Nat) (f:Int),(0<=f/\f<4096)-> ∀x∈dh ws pg l f,0<=x.1/\x.1<4096
 |0,f,a,x,h=>by
  rw[dh,Fg] at h;subst h;exact a
 |l+1,f,a,x,h=>by
  rw[dh] at h;rcases FU.1 h with rfl|h
  ·exact a
  ·split at h
   ·exact Jf pg l _ (pv _ _) x h
   ·cases h
section
variable {Q:Sys} {D G:List Nat} {w0 w:A2} {s:WD} {L0:List (Nat×List Ag)} {bt:Nat} {o r:Int} {gone:Bool}
namespace bh
theorem thin (S:bh Q D G w0 w s L0) (hc:Dh Q s) (k0:Nat) (p:L0[k0]? =some (bt,oF Q o r gone)) {j bs c:Nat} {l:List PT} {rest:List Ag} (hb:L0[j]? =some (bs,flat (.agg TM) l++rest)) (hl:l.length<=4) (T: ∀x∈l,0<=x.1/\x.1<4096)
 {K:Unit->A2->Prop} (k: ∀f,bh Q D G w0 f (jk l.reverse s) L0->K () f):
 az AC 220 (.bu []) [ag (ae bt),.slice (ae bs) l.length c] w K:=by
 refine S.go λw1 S=>ai (C:=N0) (aQ:=ui) (Aq (RE _ _ _ c w1 K) ?_);obtain⟨z,J⟩: ∃z,z=jk l.reverse s:=⟨_,rfl⟩;rw[<-J] at k;refine⟨λn v w'=> ∃t:WD,v.1+1=(n:Int)/\n<=l.length/\t.1.length=s.1.length/\jk (l.take n).reverse t=z/\bh Q D G w0 w' t L0,
  ⟨l.length,λf U=>⟨s,?_,BP _,rfl,by rw[List.take_length];exact J.symm,S.ext U⟩⟩,?_⟩
 ·show aX .i64 ((l.length:Nat):Int) 1+1= _;rw[bC (by omega) (by omega)];omega
 rintro n ⟨v,u⟩ f ⟨t,g,hn,A,a,S⟩;dsimp only at g ⊢;rcases n with _| _|q
 ·refine an (by simp;omega) (S.en λh S=>k h ?_);rw[<-a];exact S
 ·refine an (by simp;omega) (S.en λh S=>k h ?_);have:jk (l.take (0+1)).reverse t=t:=by
   cases l with
   |nil=>rfl
   |cons x l=>exact abh x t
  rw[<-a,this];exact S
 ·obtain rfl:v=((q+1:Nat):Int):=by omega
  have b:l[q+1]? =some l[q+1]:=DA (by omega);have B:l[q]? =some l[q]:=DA (by omega);generalize l[q+1]=x at b;generalize l[q]=y at B;obtain⟨t2,t1⟩:=LY B b;rw[t2,abi, <-t1] at a;have hfx:=T x (DB b);have V:gq .i64 16 x.1=16*x.1:=d_ (by omega) (by omega);have es:aX .i64 ((q+1:Nat):Int) 1=(q:Int):=by rw[bC (by omega) (by omega)];omega
  refine aB (by simp) ⟨rfl,rfl,S.cg k0 p rfl ⟨⟨rfl,by omega,by omega⟩,rfl,S.tC hb b 0 (by decide) rfl ?_⟩⟩;rw[V];refine S.words ⟨by rw[A];exact hc.1,by rw[A];exact hc.2⟩ (16*x.1) 16 λrr rows h S L=>?_;have hll:(gY t.1 (16*x.1) 16).length<=16:=by
   by_cases M:(16:Int)<1\/16*x.1<0\/16*x.1>t.1.length\/16>t.1.length - 16*x.1
   ·rw[show gY t.1 (16*x.1) 16=[] from ay M];simp
   ·rw[Je M];decide
  have W:rr.2.1=(gY t.1 (16*x.1) 16).length:=L.1;refine⟨λn v w'=> ∃m:Nat,v.1=(m:Int)/\n+m=(gY t.1 (16*x.1) 16).length/\(∀i,i<m->(gY t.1 (16*x.1) 16)[i]? =some 0)/\bh Q D G w0 w' t (L0++rows),⟨(gY t.1 (16*x.1) 16).length,λN X=>⟨0,rfl,rfl,λi hi=>by omega,S.ext X⟩⟩,?_⟩;rintro n ⟨v,u2⟩ N ⟨m,g,XM,O,S⟩;dsimp only at g ⊢;subst g;rw[W];refine ab (λE=>?_) (λE=>?_)
  ·have P:m<(gY t.1 (16*x.1) 16).length:=by simpa using E
   have hv:=DA P;generalize (gY t.1 (16*x.1) 16)[m]=d at hv;obtain⟨g1,Y,Z,g4,ca,la,H⟩:=S;have R:=L.sl H (λx b=>by
    show x∈ _:: _:: _:: _::(L0++rows);simp[b]) m d hv
   have S:bh Q D G w0 N t (L0++rows):=⟨g1,Y,Z,g4,ca,la,H⟩;refine⟨⟨R.1,by omega,by omega⟩,aj.of d R.2 (ab (λc2=>S.en λF S=>k F ?_) (λc2=>λF h5=>⟨n - 1,by omega,m+1,?_,by omega,λi hi=>?_,S.ext h5⟩))⟩
   ·have c2: ¬ d=0:=by simpa using c2
    have I:wV t.1 x.1=false:=by
     unfold wV;rw[H5];exact⟨d,DB hv,by simpa using c2⟩
    rw[I,au (by decide)] at a;rw[<-a];exact S.sub (Ft _ _)
   ·rw[aw (by omega) (by omega)];omega
   ·have c2:d=0:=by simpa using c2
    by_cases e:i=m
    ·subst e;rw[hv,c2]
    ·exact O i (by omega)
  ·have P: ¬ m<(gY t.1 (16*x.1) 16).length:=by simpa using E
   have I:wV t.1 x.1=true:=by
    unfold wV;rw[H6];intro d XZ;obtain⟨i,hi⟩:=H7 XZ;have:=O i (by have:=(B6.1 hi).1;omega);rw[hi] at this;cases this;rfl
   rw[I,ay rfl] at a;have S:=S.sub (Ft L0 rows);refine⟨rfl,rfl,S.cg k0 p rfl ?_⟩;rw[es];refine⟨⟨rfl,by omega,by omega⟩,rfl,S.tC hb B 2 (by decide) rfl (S.store _ 0 ⟨by decide,by decide⟩ λF S=>⟨rfl,rfl,S.cg k0 p rfl ⟨⟨rfl,by omega,by omega⟩,rfl,S.tC hb b 0 (by decide) rfl (S.T8 x.1 5 0 λw6 S=>λw7 h7=>⟨q+1,by omega, _,by show(q:Int)+1= _;omega,by omega,?_,a,S.ext h7⟩)⟩⟩)⟩;show(dJ t.1 y.2.2.1 0).length=s.1.length;rw[cA];exact A
theorem DO (S:bh Q D G w0 w s L0) (hc:Dh Q s) (k0:Nat) (b:L0[k0]? =some (bt,oF Q o r gone)) (m:0<=r/\r<4096) (pg:Int) {K:Int×Int×Unit->A2->Prop} (k: ∀g,bh Q D G w0 g (nf s o r gone pg) L0->K (FV s o r gone pg,BX s o r gone pg,()) g):
 az AC 175 (.bu [.one (.int .i64),.one (.int .i64)]) [ag (ae bt),aa pg] w K:=by
 refine S.go λw1 S=>ai (C:=N0) (aQ:=λ_=>[]) (Aq (LQ _ pg w1 K) ?_);refine S.query k0 b pg λg S=>ab (λc=>S.en λh S=>?_) (λc=>?_)
 ·have c: ¬ (bA s r gone pg).2.2.1=0:=by simpa using c
  have a:BX s o r gone pg=(bA s r gone pg).2.2.1:=au c;have e:FV s o r gone pg=0:=by unfold FV;rw[a,au c]
  have f:nf s o r gone pg=s:=au c;rw[a,e,f] at k;exact k h S
 have c:(bA s r gone pg).2.2.1=0:=by simpa using c
 have a:BX s o r gone pg=mg s o r pg:=ay c;have f:nf s o r gone pg=if mg s o r pg=0 then jk (dh (fh s o r pg).1 pg 3 r).reverse (dJ (fh s o r pg).1 (dw (fh s o r pg).1 r pg).2.2.1 0,(fh s o r pg).2) else fh s o r pg:=ay c;refine S.split k0 b pg λh S=>ab (λd=>S.en λi S=>?_) (λd=>?_)
 ·have d: ¬ mg s o r pg=0:=by simpa using d
  have e:FV s o r gone pg=0:=by unfold FV;rw[a,au d]
  rw[a,e,f,au d] at k;exact k i S
 have d:mg s o r pg=0:=by simpa using d
 have e:FV s o r gone pg=(bA s r gone pg).1:=by unfold FV;rw[a,ay d]
 rw[e,a,f,ay d,d] at k;have l:(fh s o r pg).1.length=s.1.length:=by
  unfold fh iK dN;split
  ·rfl
  ·split
   ·show(dJ _ _ _).length= _;rw[cA,gF]
   ·rfl
 generalize fh s o r pg=t at*
 refine S.way pg λq bc i S=>S.Oc (pg:=pg) (k0+2) b (by simp) (by simp) λbs cs rest u S=>⟨rfl,rfl,S.cg (k0+3) b rfl ?_⟩;have n:(dh t.1 pg 3 r).length<=4:=tB t.1 pg 3 r;have v:0<(dh t.1 pg 3 r).length:=GS.2 (xA t.1 pg 3 r);have es:aX .i64 (((dh t.1 pg 3 r).length:Nat):Int) 1=(((dh t.1 pg 3 r).length - 1:Nat):Int):=by rw[bC (by omega) (by omega)];omega
 dsimp only;rw[es];refine⟨⟨rfl,by omega,by omega⟩,rfl,S.tC (j:=0) rfl (Cw t.1 r pg) 2 (by decide) rfl (S.store _ 0 ⟨by decide,by decide⟩ λx S=>S.thin ⟨by show(dJ _ _ _).length<= _;rw[cA,l];exact hc.1,by show(dJ _ _ _).length<= _;rw[cA,l];exact hc.2⟩ (k0+3) b (j:=0) rfl n (Jf pg 3 r m) λy S=>S.en λp S=>k p S.tail.tail.tail)⟩
theorem te (S:bh Q D G w0 w s L0) (k0:Nat) (g:L0[k0]? =some (bt,oF Q o r gone)) (pg rt:Int) {K:Int->A2->Prop} (k: ∀a,bh Q D G w0 a (rC s o r gone pg rt) L0->K (FW s o r gone pg rt) a):
 az AC 177 (.el (.one (.int .i64))) [ag (ae bt),aa pg,aa rt] w K:=by
 refine S.go λw1 S=>ai (C:=N0) (aQ:=λ_=>[]) (Aq (RF _ pg rt w1 K) ?_);unfold rC FW at k;refine⟨_,S.state k0 g,?_⟩;cases gone with
 |true=>
  rw[ay rfl,ay rfl] at k;exact aB rfl (S.en λa S=>k a S)
 |false=>
  have j: ¬ (false=true):=by decide
  rw[au j,au j] at k;refine an rfl ⟨_,Ja _ _ _ _,ab (λc=>S.en λa S=>?_) (λc=>?_)⟩
  ·have c: ¬ nc pg 0 rt=0:=by simpa using c
   rw[au c,au c] at k;exact k a S
  have c:nc pg 0 rt=0:=by simpa using c
  rw[ay c,ay c] at k;have m:0<=pg:=by
   unfold nc at c;by_cases h:pg<0\/pg>=65536\/(0:Int)<0\/(0:Int)>=4096
   ·rw[ay h] at c;cases c
   ·omega
  refine S.end_ k0 g pg λa S=>S.al λb p S=>S.al λq t S=>S.fa 1 rfl rfl rfl λu S=>S.fa 0 rfl rfl rfl λv S=>⟨rfl,S.cg 0 rfl rfl (ab (λd=>S.en λi S=>?_) (λd=>⟨rfl,S.cg 0 rfl rfl ⟨λ_=>rfl,S.cg 0 rfl rfl (ab (λe=>S.en λi S=>?_) (λe=>?_))⟩⟩))⟩
  ·have d: ¬ (cY s.1 r pg).1=true:=by simpa using d
   rw[au d,au d] at k;exact k i S.tail.tail
  ·have d:(cY s.1 r pg).1=true:=by simpa using d
   rw[ay d,ay d] at k;have e:((cY s.1 r pg).2.2.1&&(cY s.1 r pg).2.1==rt)=true:=e;rw[ay e,ay e] at k;exact k i S.tail.tail
  have d:(cY s.1 r pg).1=true:=by simpa using d
  rw[ay d,ay d] at k;have e: ¬ ((cY s.1 r pg).2.2.1&&(cY s.1 r pg).2.1==rt)=true:=by
   have e':((cY s.1 r pg).2.2.1&&(cY s.1 r pg).2.1==rt)=false:=e;rw[e'];decide
  rw[au e,au e] at k;refine S.ld 1 rfl rfl (S.ld 0 rfl rfl ⟨_,Jc m (dw s.1 r pg) (cY s.1 r pg) (pv _ _) _,S.split (k0+2) g pg λi S=>ab (λf=>S.en λl S=>?_) (λf=>S.end_ (k0+2) g pg λl S=>S.fa 1 rfl rfl rfl λx S=>⟨rfl,S.cg 1 rfl rfl (S.lay (k0+2) g _ (true,rt,false,qt pg (dw s.1 r pg) (cY s.1 r pg),()) λy S=>S.en λn S=>?_)⟩)⟩)
  ·have f: ¬ mg s o r pg=0:=by simpa using f
   rw[au f] at k;exact k l S.tail.tail
  ·have f:mg s o r pg=0:=by simpa using f
   rw[ay f,f] at k;exact k n S.tail.tail
end bh
end
set_option maxRecDepth 100000
open Go.RX
noncomputable def N1:dD AC:={N0 with cl:=[(38,.Xx)]}
def pJ:Nat->aY:=(λ|3=>[(12,Go.RX.El.one (Go.RX.Sc.int B2))]|9=>[(34,.one (.int .i64))]| _=>[])
theorem Hm (y:Nat) (p c d:Option AI) (w:A2) (i:Unit->A2->Prop):(bQ N1 pJ 247 [.func (.yield y) #[] #[],ag p,ag c,ag d] w i)=(
 aM w {toList:=[.func (Fn.yield y) ⟨[]⟩ ⟨[]⟩]} 38 λb a=>aj a none (ae b) (.one .Xx) λx=>aR a p λm=> ∀w1,Ext a w1->ml AC x [aa m] w1 λ(o:Bool) a=>aH (!o) (ao a (i ())) (∃(I:Nat->Int×Unit->List Nat->A2->Prop),(∃n, ∀w1,Ext a w1->I n (0,()) [] w1)/\ ∀(n:Nat) (s:Int×Unit) (D1:List Nat) (w1:A2),I n s D1 w1->aH (decide (s.1<16)) (fT w1 c λx=>aR w1 p λq=>az
 AC 235 (.el jU) [ag x,aa (aI .i64 (gq .i64 16 q) s.1)] w1 λ(x:Bool×Int×Bool×Int×Unit) a=>aM a ⟨[.bool false,aa 0,.bool false,aa 0]⟩ 130 λk a=>aA a (ae k) [.bool x.1,aa x.2.1,.bool x.2.2.1,aa x.2.2.2.1] λa=>aR a d λx=>aj a (some !x==0) (ae k) jU λ(j:Bool×Int×Bool×Int×Unit)=>((!x==0)=true->True)/\aH (x==0|| !fG j.1
 j.2.1 j.2.2.1 j.2.2.2.1) (∀e,Ext a e-> ∃(f:Nat),f<n/\I f (aI .i64 s.1 1,()) D1 e) (fT a c λx=>true=true/\aR a (ad (ae k) 3) λt=>aR a d λu=>az AC 239 (.el (.one (.zV 247 3))) [ag x,aa t,aa (aX .i64 u 1)] a λx a=>zS AC 247 (λ(y:Nat)=>[.func (Fn.yield y) ⟨[]⟩ ⟨[]⟩,ag x.1,ag x.2.1,ag x.2.2.1]) ⟨[34]⟩ a (λ(x:Int×Unit)=>[aa x.1]) (λ(l:Nat)
 (rec:Loop) (x:Int×Unit) e (R:Bool->A2->Prop)=>Dd l rec [aa x.1].length 1 e (BN l rec e λg=>aj g none (ae b) (.one .Xx) λv=> ∀w1,Ext g w1->ml AC v [aa x.1] w1 λ(b:Bool) a=>aH (!b) (sj l rec (some Code.ret) a R) (sj l rec none a R))) λ(r:Nat) (rec:Loop) z=>du (r+1) rec z (λg=> ∀e,Ext g e-> ∃(f:Nat),f<n/\I f (aI .i64 s.1 1,()) (r::D1) e) (λ(id:Nat) g=>DH (λ(h:id=2->False)=>DH (λ(h:id=1->False)=>
 DH (λ(h:id=0->False)=>False) (λ(h:id=0)=>sk (r::D1) g λw1=>i () w1) (match h:id.beq 0 with|true=>isTrue (E4 h)|false=>isFalse (E5 h))) (λ(h:id=1)=> ∀e,Ext g e-> ∃(f:Nat),f<n/\I f (aI .i64 s.1 1,()) (r::D1) e) (match h:id.beq 1 with|true=>isTrue (E4 h)|false=>isFalse (E5 h))) (λ(h:id=2)=> ∀e,Ext g e-> ∃(f:Nat),f<n/\I f (aI .i64 s.1 1,()) (r::D1) e)
 (match h:id.beq 2 with|true=>isTrue (E4 h)|false=>isFalse (E5 h))) λg=>sk (r::D1) g λw1=>i () w1)) (byD D1 (ao w1 (i ())) λ(r:Nat) (D:List Nat)=>sk (r::D) w1 λw1=>i () w1))):=by kernel_rfl
open Go.RX D
section
variable {T:Type} {bm:Nat} {mc:List Ag->Prop} {J:List T->List (Nat×List Ag)->List (Nat×Obj)->A2->Prop} {a:List T} {X:List (Nat×List Ag)} {O:List (Nat×Obj)} {w w':A2}
theorem zS.inX (K:JK bm mc J) {P:Program} {k:FuncId} {args:Nat->List Ag} {ps:Array Nat} {f:T->List Ag} {m:Nat->Loop->T->A2->(Bool->A2->Prop)->Prop} {n:Nat->Loop->A2->Prop} {N:Nat} {p:List (Nat×List Ag)} {xs:List T}
 (j:J a X O w) (t:ItJ P k args f N bm mc p xs) (u: ∀x∈p,x∈X) (y:a.length+xs.length<=N)
 (z: ∀b x X' O' l rec d (R:Bool->A2->Prop),b.length<N->J b (X'++X) ((l,NQ rec)::O') d->(∀w',J (b++[x]) (X'++X) ((l,NQ rec)::O') w'->R true w')->m l rec x d R)
 (A: ∀r rec g,J (a++xs) X ((r+1,NQ rec)::(r,.deferred (some []))::O) g->n r rec g):zS P k args ps w f m n:=by
 intro w1 h1 rec _ _ B C D;have V:rec={rec with state:= .ready,pending:= .none}:=by rw[<-B, <-C]
 have sz:(w1.alloc (.deferred (some []))).heap.size=w1.heap.size+1:=lB _ _;have j1:J a X _ (w1.alloc (.deferred (some []))):=K.alO (K.ext j h1) (λ_ _ _ e=>by cases e);have q:=K.alO (o:=NQ rec) j1 (Is rec _ _);rw[sz] at q
 let Z:=(w1.heap.size+1,NQ rec)::(w1.heap.size,.deferred (some []))::O
 let i:=λb X' O' w=>J b (X'++X) (O'++Z) w
 have E:JK bm mc i:=
  {step:=λ{a' X' O' W d l' Y} h F hb G H I=>by
    have:=K.step h F hb G H I
    grind
   mem:=λh=>K.mem h
   db:=λh hm=>K.db h (by grind)
   obj:=λh hm=>K.obj h (by grind)
   alO:=λh c=>K.alO h c
   puO:=λh c=>K.puO h c
   sub:=λh hx c=>K.sub h (by grind) (c.append_right Z)
   perm:=λh c=>K.perm h (c.append_right Z)}
 have L:Yd P (w1.heap.size+1) f N i:=λb x X' O' d R hb h M=>by
  refine D x d R ?_;have s:((w1.heap.size+1,NQ rec)::(O'++((w1.heap.size,.deferred (some []))::O))).Perm (O'++Z):=(Dn).symm;exact z b x X' _ _ rec d R hb (K.perm h s) (λw' h'=>M w' (K.perm h' s.symm))
 have Q:(w1.alloc (.deferred (some []))).alloc (.loop rec)=(w1.alloc (.deferred (some []))).alloc (NQ rec):=by
  grind
 rw[Q];have S:=K.sub q (λx hm=>by
  rcases List.mem_append.1 hm with hm|hm<;>exact hm) (DQ _)
 refine Calls.mono (t (w1.heap.size+1) i E L a X [] _ y u S) ?_;rintro e g ⟨v,U,h⟩;exact⟨v,U,A _ _ _ (K.sub h (by grind) (by grind))⟩
end
def ow (ws:List Int) (l:Nat) (f:Int) (i:Nat):List Int:=match l with
 |0=>[]
 |l+1=>if dH (aL ws (16*f+(i:Int)))=true then cR ws l (aL ws (16*f+(i:Int))).2.2.2.1 else[]
theorem mX (ws:List Int): ∀(l:Nat) (f:Int),cR ws l f=f::(B3 16).flatMap (ow ws l f)
 |0,f=>by
  simp[cR,ow]
 |l+1,f=>rfl
theorem LZ {m:Nat} (a:m<16) (g:Nat->List Int): ∃z,(B3 16).flatMap g=(B3 m).flatMap g++(g m++z):=by
 obtain⟨z,e⟩: ∃z,B3 _=B3 (m+1)++z:=by
  refine⟨(B3 16).drop (m+1),?_⟩
  conv=>rw[<-HB (m+1) (B3 16)]
  grind
 rw[e,HZ];simp
abbrev emI (x:Int×Unit):List Ag:=[aa x.1]
abbrev TN (x:Int):Int×Unit:=(x,())
abbrev ucs (bt c1 c2 c3:Nat) (f:Int) (l:Nat):List (Nat×List Ag):=[(c1,[aa f]),(c2,[ag (ae bt)]),(c3,[aa (l:Int)])]
theorem L3 {D G:List Nat} {w0 w:A2} {L:List (Nat×List Ag)} (H:aK D G w0 w L) (p:Option AI) (f lv:Int) {K:Option AI×Option AI×Option AI×Unit->A2->Prop}
 (k: ∀b a c d,aK D G w0 d ((c,[aa lv])::(a,[aa f])::(b,[ag p])::L)->K (some ⟨a,0,none⟩,some ⟨b,0,none⟩,some ⟨c,0,none⟩,()) d):
 az AC 239 Gl [ag p,aa f,aa lv] w K:=
 az.go H λw1 H=>ai (Aq (A9 p f lv w1 K) (aM.go H λb d H=>aM.go H λa e H=>aM.go H λc g H=>ao.go H (by grind)))
abbrev UIt (Q:Sys) (ws:List Int) (bt:Nat) (o r:Int) (gone:Bool) (N lv:Nat):Prop:= ∀(f:Int) (a:0<=f/\f<4096) (c1 c2 c3:Nat),
 ItJ AC 247 (λy=>[.func (.yield y) #[] #[],ag (ae c1),ag (ae c2),ag (ae c3)]) emI N Q.bm (Mc Q ws.length)
  ((bt,oF Q o r gone)::(Q.bw,flat eW ws++Q.rw)::ucs bt c1 c2 c3 f lv) ((cR ws lv f).map TN)
theorem Hn {Q:Sys} {ws:List Int} {bt:Nat} {o r:Int} {gone:Bool} {N:Nat} (jI:okW ws) (oH:0<ws.length) (lv:Nat) (C5:lv<=3) (ih: ∀l',lv=l'+1->UIt Q ws bt o r gone N l'):UIt Q ws bt o r gone N lv:=by
 intro f hf c1 c2 c3 y J K F a X O w i hX j;refine Calls.mono (aP (C:=N1) (aQ:=pJ) (Post:=λ_ w'=>J (a++(cR ws lv f).map TN) X O w') (Aq (Hm y _ _ _ w _) ?_)) ?_
 rotate_left
 ·rintro e w' ⟨x,rfl,h⟩;exact⟨_,rfl,h⟩
 rw[mX] at i ⊢;simp only[List.map_cons,BJ,Dq] at i;obtain⟨lm,⟨ca,la,rfl⟩,H⟩:=K.at0 j;refine aM.go H λb w2 H=>?_;have j:=K.td (Y:=[(b, _)]) j H ⟨_, _,rfl⟩;have g: ∀x∈(bt,oF Q o r gone)::(Q.bw,flat eW ws++Q.rw)::ucs bt c1 c2 c3 f lv,x∈[(b,[F2 (.yield y) #[] #[]])]++X:=λx p=>Dg _ (hX x p);have q:(b,[F2 (.yield y) #[] #[]])∈[(b,[F2 (.yield y) #[] #[]])]++X:=List.mem_append_left _ (Fg.2 rfl);have back: ∀{a':List (Int×Unit)} {w':A2},J a' ([(b,[F2 (.yield y) #[] #[]])]++X) O w'->J a' X O w':=λh=>K.sub h (λx p=>Dg _ p) (DQ _);generalize [(b,[F2 (.yield y) #[] #[]])]++X=k at j g q back;have x1:=g (bt,oF Q o r gone) (by simp);have G:=g (Q.bw,flat eW ws++Q.rw) (by simp);have I:=g (c1,[aa f]) (by simp);have L:=g (c2,[ag (ae bt)]) (by simp);have x5:=g (c3,[aa (lv:Int)]) (by simp);refine aj.of y ((K.db j q).2.om rfl) (aj.of f ((K.db j I).2.om rfl) λw3 h3=>F a (TN f) k O w3 _ (by omega) (K.ext j h3) λw4 j=>?_);refine an rfl ⟨λn v D1 w'=> ∃m:Nat,v.1=(m:Int)/\n+m=16/\J (a++TN f::((B3 m).flatMap (ow ws lv f)).map TN) k (D1.map (λr=>(r,Obj.deferred (some [])))++O) w',⟨16,λM h5=>⟨0,rfl,rfl,by simpa using K.ext j h5⟩⟩,?_⟩;rintro n ⟨v,u⟩ D1 M ⟨m,P,XM,j⟩;dsimp only at P ⊢;subst P;refine ab (λs=>?_) (λs=>?_)
 ·have t:m<16:=by simp at s;omega
  obtain⟨z,hz⟩:=LZ t (ow ws lv f);have S:(a++TN f::((B3 m).flatMap (ow ws lv f)).map TN).length+((ow ws lv f m).map TN).length<=N:=by
   rw[hz] at i;simp only[FP,BJ,Dq] at i ⊢;omega
  have A:(B3 (m+1)).flatMap (ow ws lv f)=(B3 m).flatMap (ow ws lv f)++ow ws lv f m:=by
   rw[HZ,List.flatMap_append];simp
  have acb:aI .i64 (gq .i64 16 f) (m:Int)=16*f+(m:Int):=by rw[d_ (by omega) (by omega),aw (by omega) (by omega)]
  have acd:aI .i64 (m:Int) 1=((m+1:Nat):Int):=by rw[aw (by omega) (by omega)];omega
  refine aj.of (ae bt) ((K.db j L).2.om rfl) (aj.of f ((K.db j I).2.om rfl) ?_);rw[acb,acd];obtain⟨lm,⟨ca,la,rfl⟩,H⟩:=K.at0 j;have R:TbR Q ws M bt o r gone:=⟨(K.db j x1).2,(K.db j G).2,(K.db j x1).1,(K.db j G).1,jI,oH⟩;have B:=K.db j x5;have T:=K.db j L;have U:c3∉[Q.bm]:=by simpa using B.1
  have n4:c2∉[Q.bm]:=by simpa using T.1
  refine Pj R H 0 rfl _ λWJ V H=>aM.go H λW w7 H=>aA.all 0 H rfl rfl rfl λw8 H=>aj.fI H B.2 U rfl (aj.at 0 H rfl rfl ⟨λ_=>trivial,ab (λc=>λw9 h9=>?_) (λc=>?_)⟩)
  ·have D:=K.sub (K.ext (K.td (Y:=[(W, _)]) j H ⟨_, _,rfl⟩) h9) (X':=k) (λx h=>Dg _ h) (DQ _);refine⟨n - 1,by omega,m+1,rfl,by omega,?_⟩;have E:ow ws lv f m=[]:=by
    cases lv with
    |zero=>rfl
    |succ l=>
     have c:dH (aL ws (16*f+(m:Int)))=false:=by
      have h0:((((l+1:Nat):Int))==0)=false:=by simp;omega
      simp only[h0,Bool.false_or,Bool.not_eq_true'] at c;exact c
     exact au (by rw[c];decide)
   rw[A,E,Dr];exact D
  ·have c0: ¬ lv=0/\dH (aL ws (16*f+(m:Int)))=true:=by
    simp only[G1,Bool.not_eq_false'] at c;refine⟨λe=>?_,c.2⟩;subst e;simp at c
   obtain⟨l,rfl⟩: ∃l,lv=l+1:=⟨lv - 1,by omega⟩;have E:ow ws (l+1) f m=cR ws l (aL ws (16*f+(m:Int))).2.2.2.1:=ay c0.2;have elv:aX .i64 ((l+1:Nat):Int) 1=(l:Int):=by rw[bC (by omega) (by omega)];omega
   refine aj.fI H T.2 n4 rfl ⟨rfl,aj.cq 0 H rfl rfl (aj.fI H B.2 U rfl ?_)⟩;rw[elv];refine L3 H _ _ _ λd d1 d2 w9 H=>?_;have D:=K.td (Y:=[(d2, _),(d1, _),(d, _),(W, _)]) j H ⟨_, _,rfl⟩;rw[E] at S A;refine zS.inX K D (ih l rfl _ (pv _ _) d1 d d2) ?_ S ?_ ?_
   grind
   ·intro b0 x X' O' l' rec j_ R hb j hR;refine Dd.XQ K j rfl (BN.XQ K j λwb j=>aj.of y ((K.db j (Dg _ (Dg _ q))).2.om rfl) λZ Ic=>F b0 x _ _ Z _ hb (K.ext j Ic) λCY j=>an rfl (sj.XQ K j λNz j=>hR Nz j))
   ·intro r' rec j_ j;refine du.XQ K j λZ j=>λCY TI=>⟨n - 1,by omega,m+1,rfl,by omega,?_⟩;have j3:=K.sub (K.ext j TI) (X':=k) (λx h=>Dg _ h) (DQ _);rw[A];simpa using j3
 ·have t:m=16:=by simp at s;omega
  subst t;cases D1 with
  |nil=>exact λV h6=>back (K.ext j h6)
  |cons r' D1=>exact K.sk (r'::D1) j λV j=>back j
theorem RJ {Q:Sys} {ws:List Int} {bt:Nat} {o r:Int} {gone:Bool} {N:Nat} (a:okW ws) (b:0<ws.length): ∀lv:Nat,lv<=3->UIt Q ws bt o r gone N lv:=by
 intro lv
 induction lv with
 |zero
 |succ=>
  intro h;refine Hn a b _ h λe=>?_
  grind
abbrev eN:El:= .one (.int .i64)
theorem zx (ws:List Int): ∀(l:Nat) (f:Int),(cR ws l f).length<=(match l with|0=>1|1=>17|2=>273| _=>4369)\/3<l
 |0,f=> .inl (by simp[cR])
 |l+1,f=>by
  by_cases a:3<l+1
  ·exact .inr a
  refine .inl ?_;have step: ∀(c:Nat) (is:List Nat),(∀i,(ow ws (l+1) f i).length<=c)->(is.flatMap (ow ws (l+1) f)).length<=is.length*c:=by
   intro c is h
   induction is with
   |nil=>simp
   |cons i is b=>
    rw[List.flatMap_cons,FP,BJ,Nat.add_mul];have:=h i;omega
  have sub: ∀(c:Nat),(∀g,(cR ws l g).length<=c)-> ∀i,(ow ws (l+1) f i).length<=c:=by
   intro c h i;unfold ow
   grind
  rw[mX];have b:=zx ws l;rcases l with _| _| _|l
  ·have:=step 1 (B3 16) (sub 1 (by grind))
   grind
  ·have:=step 17 (B3 16) (sub 17 (by grind))
   grind
  ·have:=step 273 (B3 16) (sub 273 (by grind))
   grind
  ·omega
theorem pD (ws:List Int) (f:Int):(cR ws 3 f).length<=4369:=by grind[zx]
theorem A_ (ws:List Int) (l:Nat) (f:Int):cR ws l f≠[]:=by simp[mX]
theorem En (x:Int): ∀l:List Int,(ju x l).length=l.length+1
 |[]=>rfl
 |y::l=>by
  rw[ju];split
  ·rw[BJ,En];rfl
  ·rfl
theorem yU: ∀(l a:List Int),(l.foldl (λa x=>ju x a) a).length=a.length+l.length
 |[],a=>rfl
 |x::l,a=>by
  rw[Hb,yU,En,BJ];omega
theorem jD (l:List Int):(mH l).length=l.length:=by simp[mH,yU]
theorem ZQ (p z:List Int) (a c:Int):(p++a::z).set p.length c=p++c::z:=by simp
section
variable {Q:Sys} {D G:List Nat} {w0 w:A2} {s:WD} {L0:List (Nat×List Ag)} {bt:Nat} {o r:Int} {gone:Bool}
namespace bh
theorem under (S:bh Q D G w0 w s L0) (f lv:Int) {K:Option AI×Option AI×Option AI×Unit->A2->Prop} (k: ∀b a c d,bh Q D G w0 d s ((c,[aa lv])::(a,[aa f])::(b,[ag (ae bt)])::L0)->K (some ⟨a,0,none⟩,some ⟨b,0,none⟩,some ⟨c,0,none⟩,()) d):
 az AC 239 Gl [ag (ae bt),aa f,aa lv] w K:=by
 refine S.go λw1 S=>ai (Aq (A9 _ f lv w1 K) ?_);exact S.al λb d S=>S.al λa e S=>S.al λc g S=>S.en (by grind)
theorem abj (S:bh Q D G w0 w s L0) (k0:Nat) (O:L0[k0]? =some (bt,oF Q o r gone)) {c1 c2 c3:Nat} {f:Int} (j:0<=f/\f<4096) (h1:(c1,[aa f])∈L0) (P:(c2,[I2 (ae bt)])∈L0) (T:(c3,[aa 3])∈L0)
 {K:Option AI×Nat×Nat->A2->Prop} (k: ∀bs cs rest c,bh Q D G w0 c s ((bs,flat eN (cR s.1 3 f)++rest)::L0)->K (some ⟨bs,0,none⟩,(cR s.1 3 f).length,cs) c):
 az AC 238 (.el (.one .slice)) [.func (.func 247) #[] #[ag (ae c1),ag (ae c2),ag (ae c3)]] w K:=by
 refine S.go λw1 S=>aP (C:=N0) (aQ:=qU) (Aq (LR _ _ _ w1 K) ?_);obtain⟨g1,m,n,g,ca,la,H0⟩:=S;have H:=H0.again;refine aM.go H λbl c H=>?_;have p:=pD s.1 f;refine zS.Oc (N:=4369) (bm:=Q.bm) (mc:=Mc Q s.1.length) (Rg0:=[(bl,[.slice none 0 0])]) H ⟨_, _,rfl⟩
  (RJ (o:=o) (r:=r) (gone:=gone) (bt:=bt) g g1 3 (BP _) f j c1 c2 c3) ?_ (by simpa using p) (λxs d=>XW eN bl (xs.map (·.1)) d) (.inl ⟨rfl,rfl⟩) ?_ ?_
 grind
 ·intro U x d Z rr l rec V R W a b q;obtain⟨sl,e⟩:=a.head;refine Dd.go b rfl (BN.goO b λwb H t u=>aj.at 0 H (by rw[FR (B6.1 e).1];exact e) rfl (aM.go H λX i H=>λY v=>?_));have H:=H.ext v;exact a.push e (x:=x.1) H rfl rfl rfl (by grind) λy w8 z A=>sj.lf t A λB E F=>q y B (by simpa using z) E (u.trans F)
 ·rintro rr rec w4 l' d ⟨I,J,rfl⟩ a b;refine du.none b λw5 H=>?_;have L:((cR s.1 3 f).map TN).map (·.1)=cR s.1 3 f:=by
   rw[List.map_map];exact List.map_id _
  rw[L] at a;rcases a with ⟨h, _⟩|⟨bs,cs,rest,rfl,q1,q2⟩
  ·exact absurd h (A_ _ _ _)
  ·refine aj.at 0 H rfl rfl (sk.go H λi H=>k bs cs rest i ⟨g1,m,n,g,I,J,H0.join (λx M=>M) ?_⟩);refine(H.sub (Dc _ _)).perm ?_;exact Dn (l₁:=[_, _, _, _])
theorem Iy (S:bh Q D G w0 w s L0) {j bs:Nat} {xs:List Int} {rest:List Ag} (a:L0[j]? =some (bs,flat eN xs++rest)) {i:Nat} {x:Int} (b:xs[i]? =some x):cC w (ad (ae bs) (i*1)) eN x:=fN (S.get a) b
theorem Xl (S:bh Q D G w0 w s L0) (j:Nat) {bs:Nat} {xs:List Int} {rest:List Ag} (a:L0[j]? =some (bs,flat eN xs++rest)) {i:Nat} (hi:i<xs.length) (v:Int) {K:A2->Prop} (k: ∀w1,bh Q D G w0 w1 s (L0.set j (bs,flat eN (xs.set i v)++rest))->K w1):aA w (ad (ae bs) (i*1)) [aa v] K:=by
 obtain⟨h1,b,c,d,ca,la,H⟩:=S;exact aA.flat (e:=eN) (j+4) H v a rfl rfl hi λw1 H=>k w1 ⟨h1,b,c,d,ca,la,H⟩
theorem all (S:bh Q D G w0 w s L0) (k0:Nat) (q:L0[k0]? =some (bt,oF Q o r gone)) (V:0<=r/\r<4096) {K:Option AI×Nat×Nat->A2->Prop} (k: ∀x rows d,bh Q D G w0 d s (L0++rows)->kh eN rows x (mI s r gone)->K x d):
 az AC 214 (.el (.one .slice)) [ag (ae bt)] w K:=by
 refine S.go λw1 S=>ai (C:=N0) (aQ:=v9) (Aq (Vv _ w1 K) ?_);refine⟨_,S.state k0 q,?_⟩;cases gone with
 |true=>exact aB rfl (S.en λd S=>k (none,0,0) [] d (by rw[Dr];exact S) ⟨rfl,.inl ⟨rfl,rfl⟩⟩)
 |false=>
  refine an rfl ⟨rfl,rfl,S.cg k0 q rfl (S.under r 3 λc2 c1 c3 d S=>S.abj (k0+3) q V (by simp) (by simp) (by simp) λbs cs rest i S=>?_)⟩;have S:=S.perm (L1:=(bs,flat eN (cR s.1 3 r)++rest)::(L0++[(c3,[aa 3]),(c1,[aa r]),(c2,[ag (ae bt)])])) (GF _ (by exact List.perm_append_comm (l₂:=[_, _, _])));have S:=S.sub (List.Sublist.cons_cons _ (Ft _ _));have hlen:=pD s.1 r;have W:mI s r false=mH (cR s.1 3 r):=au (by decide);rw[W] at k;have cW:=A_ s.1 3 r;generalize cR s.1 3 r=l at*
  refine⟨λn v w'=> ∃m:Nat,v.1=(m:Int)/\n+m=l.length/\bh Q D G w0 w' s ((bs,flat eN (((l.take m).foldl (λa x=>ju x a) []).reverse++l.drop m)++rest)::L0),⟨l.length,λX Y=>⟨0,rfl,rfl,by simpa using S.ext Y⟩⟩,?_⟩;rintro n ⟨v,u⟩ X ⟨m,b,XM,S⟩;dsimp only at b ⊢;subst b;refine ab (λt=>?_) (λt=>?_)
  ·have z:m<l.length:=by simpa using t
   obtain⟨R,E⟩: ∃R,R=(l.take m).foldl (λa x=>ju x a) []:=⟨_,rfl⟩;have F:R.length=m:=by rw[E,yU,Fi];simp;omega
   have L:=DA z;obtain⟨x,M⟩: ∃x,x=l[m]:=⟨_,rfl⟩;rw[<-M] at L;have hd:l.drop m=x::l.drop (m+1):=by rw[Fw z,M]
   have abk:(l.take (m+1)).foldl (λa x=>ju x a) []=ju x R:=by
    rw[Fo,L,Option.toList_some,List.foldl_append, <-E];rfl
   obtain⟨Z,N⟩: ∃Z,Z=l.drop (m+1):=⟨_,rfl⟩;rw[<-E,hd, <-N] at S;refine⟨λO v w'=> ∃A B:List Int,v.1=(A.length:Int)/\O=A.length/\A.length+B.length=m/\B++ju x A=ju x R/\bh Q D G w0 w' s ((bs,flat eN (A.reverse++x::(B.reverse++Z))++rest)::L0),⟨m,λf h5=>⟨R,[],by rw[F],F.symm,by simp[F],rfl,by simpa using S.ext h5⟩⟩,?_⟩;rintro O ⟨v,u2⟩ f ⟨A,B,b,rfl,hAB,H,S⟩;dsimp only at b ⊢;subst b;have P: ∀(C:List Int),C=ju x R-> ∀{w':A2},bh Q D G w0 w' s ((bs,flat eN (C.reverse++Z)++rest)::L0)-> ∀i,Ext w' i-> ∃T,T<n/\ ∃p:Nat,aI .i64 (m:Int) 1=(p:Int)/\T+p=l.length/\bh Q D G w0 i s ((bs,flat eN (((l.take p).foldl (λa x=>ju x a) []).reverse++l.drop p)++rest)::L0):=by
    intro C hC w' S i h3;refine⟨n - 1,by omega,m+1,by rw[aw (by omega) (by omega)];omega,by omega,?_⟩;rw[abk, <-hC, <-N];exact S.ext h3
   cases A with
   |nil=>
    refine⟨λh=>by simp at h,0,λh=>by simp at h,λh=>by simp at h,0,λh=>by simp at h,an rfl (P (B++ju x []) H (w':=f) ?_)⟩;have e:(B++ju x []).reverse++Z=[].reverse++x::(B.reverse++Z):=by simp[ju]
    rw[e];exact S
   |cons y A=>
    have e:(y::A).reverse++x::(B.reverse++Z)=A.reverse++y::x::(B.reverse++Z):=by simp
    rw[e] at S;simp only[BJ] at hAB;have es:aX .i64 (((y::A).length:Nat):Int) 1=(A.length:Int):=by rw[BJ,bC (by omega) (by omega)];omega
    rw[es];have I:(A.reverse++y::x::(B.reverse++Z))[A.length]? =some y:=by rw[Hh (by simp)];simp
    have U:(A.reverse++y::x::(B.reverse++Z))[A.length+1]? =some x:=by rw[Hh (by simp)];simp
    have WK:A.length<(A.reverse++y::x::(B.reverse++Z)).length:=(B6.1 I).1;have s1:(A.reverse++y::x::(B.reverse++Z)).set A.length x=A.reverse++x::x::(B.reverse++Z):=by
     have:=ZQ A.reverse (x::(B.reverse++Z)) y x;rwa[List.length_reverse] at this
    have s2:(A.reverse++x::x::(B.reverse++Z)).set (A.length+1) y=A.reverse++x::y::(B.reverse++Z):=by
     simp
    have J1:A.length+1<(A.reverse++x::x::(B.reverse++Z)).length:=by simp
    have t1:((A.length:Nat):Int).toNat=A.length:=rfl;have t2:(((y::A).length:Nat):Int).toNat=A.length+1:=rfl;rw[t1,t2];have g1:(some (⟨bs,0,none⟩:AI)).isSome=true/\0<=(A.length:Int)/\(A.length:Int)<(l.length:Int):=⟨rfl,by omega,by omega⟩;have J:(some (⟨bs,0,none⟩:AI)).isSome=true/\0<=(((y::A).length:Nat):Int)/\(((y::A).length:Nat):Int)<(l.length:Int):=⟨rfl,by omega,by rw[BJ];omega⟩;refine⟨λ_=>g1,aj.of y (S.Iy (j:=0) rfl I) ⟨λ_=>J,aj.of x (S.Iy (j:=0) rfl U) (ab (λc=>⟨J,aj.of x (S.Iy (j:=0) rfl U) ⟨g1,aj.of y (S.Iy (j:=0) rfl I) ⟨g1,S.Xl 0 rfl WK x λw6 S=>⟨J,?_⟩⟩⟩⟩) (λc=>P (B++ju x (y::A)) H (w':=f) ?_))⟩⟩
    ·rw[s1] at S;refine S.Xl 0 rfl J1 y λw7 S=>λw8 h8=>⟨A.length,Nat.lt_succ_self _,A,B++[y],rfl,rfl,by simp;omega,?_,?_⟩
     ·have c2:y>x:=by simpa using c
      rw[<-H,ju,ay c2,GJ];rfl
     ·rw[s2] at S;have g:A.reverse++x::((B++[y]).reverse++Z)=A.reverse++x::y::(B.reverse++Z):=by simp
      rw[g];exact S.ext h8
    ·have c2: ¬ y>x:=by simpa using c
     have g:(B++ju x (y::A)).reverse++Z=A.reverse++y::x::(B.reverse++Z):=by rw[ju,au c2];simp
     rw[g];exact S
  ·have z: ¬ m<l.length:=by simpa using t
   have b:l.take m=l:=H4 (by omega);have g:l.drop m=[]:=Fm (by omega);rw[b,g,Dr] at S;refine S.en λf S=>k (some ⟨bs,0,none⟩,l.length,cs) [(bs,flat eN (mH l)++rest)] f (S.perm (List.perm_append_singleton _ _)) ⟨(jD l).symm,.inr ⟨bs,rest,rfl,rfl⟩⟩
theorem drop (S:bh Q D G w0 w s L0) (k0:Nat) (d:L0[k0]? =some (bt,oF Q o r gone)) (E:0<=r/\r<4096) {K:Option AI×Nat×Nat->A2->Prop} (k: ∀x rows b,bh Q D G w0 b (cG s r gone) (L0.set k0 (bt,oF Q o r true)++rows)->kh eN rows x (mI s r gone)->K x b):
 az AC 171 (.el (.one .slice)) [ag (ae bt)] w K:=by
 refine S.go λw1 S=>ai (C:=N0) (aQ:=uj) (Aq (RG _ w1 K) ?_);refine⟨_,S.state k0 d,?_⟩;have F:k0<L0.length:=(B6.1 d).1;cases gone with
 |true=>
  have e:L0.set k0 (bt,oF Q o r true)=L0:=GI (by grind);exact aB rfl (S.en λb S=>k (none,0,0) [] b (by rw[Dr,e];exact S) ⟨rfl,.inl ⟨rfl,rfl⟩⟩)
 |false=>
  refine an rfl (S.all k0 d E λx rows b S g=>?_);have I:cG s r false=(s.1,(mI s r false).foldl (λds f=>dF ds f (aO 5 0)) s.2):=au (by decide);rw[I] at k;have X:(mI s r false).length<=4369:=by
   rw[show mI s r false=mH (cR s.1 3 r) from au (by decide),jD];exact pD _ _
  generalize mI s r false=l at*
  obtain⟨J,L,M⟩:=x;have N:L=l.length:=g.1;subst N;obtain⟨c,j⟩: ∃c,c=l.foldl (λds f=>dF ds f (aO 5 0)) s.2:=⟨_,rfl⟩;rw[<-j] at k;have p:(L0++rows)[k0]? =some (bt,oF Q o r false):=by grind
  refine⟨λn v w'=> ∃(m:Nat) (ds:List DT),v.1=(m:Int)/\n+m=l.length/\(l.drop m).foldl (λds f=>dF ds f (aO 5 0)) ds=c/\bh Q D G w0 w' (s.1,ds) (L0++rows),⟨l.length,λq O=>⟨0,s.2,rfl,rfl,j.symm,S.ext O⟩⟩,?_⟩;rintro n ⟨v,u⟩ q ⟨m,ds,t,Y,a,S⟩;dsimp only at t ⊢;subst t;refine ab (λh=>?_) (λh=>?_)
  ·have i:m<l.length:=by simpa using h
   have y:=DA i;obtain⟨f,z⟩: ∃f,f=l[m]:=⟨_,rfl⟩;rw[<-z] at y;rw[Fw i, <-z,Hb] at a;obtain⟨g1,P,R,T,ca,la,H⟩:=S;have A:=g.sl H (λx U=>by
    show x∈ _:: _:: _:: _::(L0++rows);simp[U]) m f y
   have S:bh Q D G w0 q (s.1,ds) (L0++rows):=⟨g1,P,R,T,ca,la,H⟩;refine⟨⟨A.1,by omega,by omega⟩,aj.of f A.2 ⟨rfl,rfl,S.cg k0 p rfl (S.T8 f 5 0 λV S=>λB W=>⟨n - 1,by omega,m+1, _,?_,by omega,a,S.ext W⟩)⟩⟩;rw[aw (by omega) (by omega)];omega
  ·have i: ¬ m<l.length:=by simpa using h
   rw[Fm (by omega)] at a;have a:ds=c:=a;subst a;refine⟨rfl,rfl,S.Ci k0 p rfl rfl λV S=>S.en λB S=>k (J,l.length,M) rows B ?_ g⟩;rw[List.set_append_left _ _ F] at S;exact S
theorem new (S:bh Q D G w0 w s L0) (o:Int) {K:Option AI×Int×Unit->A2->Prop}
 (f:(s.1.length:Int)<16*(s.2.length:Int)-> ∀a,bh Q D G w0 a s L0->K (none,1,()) a)
 (g: ¬ (s.1.length:Int)<16*(s.2.length:Int)-> ¬ rj s o=0-> ∀a,bh Q D G w0 a (iK s o λ_=>0) L0->K (none,rj s o,()) a)
 (i: ¬ (s.1.length:Int)<16*(s.2.length:Int)->rj s o=0-> ∀b a,bh Q D G w0 a (iK s o λ_=>0) ((b,oF Q o (eh s o) false)::L0)->K (some ⟨b,0,none⟩,0,()) a):
 az AC 164 (.bu [.one .ptr,.one (.int .i64)]) [ag (ae Q.bm),ag (ae Q.bp),aa o] w K:=by
 refine S.go λw1 S=>ai (C:=N0) (aQ:=λ_=>[]) (Aq (Vw _ _ o w1 K) ?_);have h1:=S.pos;have j:=S.Dv;have k:=S.le;have c1:(((s.1.length:Nat):Int)==0)=false:=by grind
 have c2:(((s.2.length:Nat):Int)==0)=false:=by grind
 have h:gq .i64 16 ((s.2.length:Nat):Int)=16*(s.2.length:Int):=d_ (by omega) (by omega);refine⟨_,S.aau, _,λ_=>S.YM, _,λ_=>S.aau, _,λ_=>S.YM,?_⟩;rw[c1,c2,h];refine ab (λc=>S.en λa S=>f (by simpa using c) a S) (λc=>S.al λb a S=>S.abe (r:=0) (gone:=false) 0 rfl λl S=>ab (λd=>S.en λe S=>?_) (λd=>⟨rfl,rfl,S.Ci 0 rfl rfl rfl λe S=>S.en (by grind)⟩));exact g (by simpa using c) (by simpa using d) e S.tail
end bh
end
set_option maxRecDepth 100000
open Go.RX
abbrev iv:List Sc:=[.int .u64,.int .i64]
abbrev RS:Type:=Int×Int×Unit
noncomputable def B0:dD AC:={N0 with quiet:=[]}
theorem VF (e:Int) (w:A2) (c:RS->A2->Prop):(bQ B0 (λ_=>[]) 75 [aa e] w c)=(
 aM w ⟨[ax 0,aa 0]⟩ 61 λb a=>aA a (ae b) [ax 0,aa e] λa=>ao a λw1=>aj w1 none (ae b) cw λ(x:Int×Int×Unit)=>c (x.1,x.2.1,()) w1):=by kernel_rfl
theorem VG (e:Int) (w:A2):aD AC 75 (.el (.agg iv)) [aa e] w (λx w'=>x=(0,e,())/\Ext w w'):=by
 refine aP (C:=B0) (aQ:=λ_=>[]) (Aq (VF e w _) ?_);have H:=At.start [] w;exact aM.go H λb a H=>aA.all 0 H rfl rfl rfl λc H=>ao.go H λd H=>aj.at 0 H rfl (show _=some (0,e,()) from rfl) ⟨rfl,H.all⟩
noncomputable def abl:Entry AC where
 f:=75
 fn l:=match l with
  |[.int .i64 e]=>some (True,.agg ⟨[.int .u64 0,.int .i64 e]⟩)
  | _=>none
 ok args pre v h a w:=by
  split at h
  ·rename_i e;cases h;exact bU (VG e w)
  ·cases h
noncomputable def V0:dD AC:={N0 with si:=abl::N0.si,quiet:=[53,19,165,21,179,174,76,77,176,25,62,117,56]}
noncomputable def V1:dD AC:={V0 with dyn:=some (.el (.agg iv))}
theorem L4 (p:Option AI) (w:A2) (a:Bool->A2->Prop):(aJ V0 (λ_=>[]) 53 [ag p] w a)=(
 ((!p.isNone)=true->p.isSome=true)/\((!p.isNone)=true->p.isSome=true)/\aj w (some !p.isNone) (ad p 0) jh λx=>ao w (a (!p.isNone&& !x.isNone))):=by kernel_rfl
theorem RK (p:Option AI) (v:Int) (w:A2) (a:Bool->A2->Prop):(aJ V0 (λ_=>[]) 19 [ag p,aa v] w a)=(
 ∃x,af AC 53 [ag p] w (.bool x)/\((x&&decide (v>=1)&&decide (v<=16))=true->p.isSome=true)/\((x&&decide (v>=1)&&decide (v<=16))=true->p.isSome=true)/\((x&&decide (v>=1)&&decide (v<=16))=true->(ad p 4).isSome=true/\0<=v/\v<(↑17:Int))/\aj w (some (x&&decide (v>=1)&&decide (v<=16))) (ad (ad p 4) (v.toNat*1)) jh λb=>ao w (a (x&&decide (v>=1)&&decide (v<=16)&& !b.isNone))):=by kernel_rfl
theorem L5 (p:Option AI) (a:Int) (w:A2) (b:Bool->A2->Prop):(aJ V0 (λ_=>[]) 165 [ag p,ax a] w b)=(
 ∃x,(decide (a<=16)=true->af AC 19 [ag p,aa (aG .i64 a)] w (.bool x))/\ao w (b (decide (a<=16)&&x))):=by kernel_rfl
theorem RM (p:Option AI) (v:Int) (w:A2) (a:Int->A2->Prop):(aJ V0 (λ_=>[]) 21 [ag p,aa v] w a)=(
 ∃x,af AC 19 [ag p,aa v] w (.bool x)/\aH (!x) (ao w (a (-1))) (p.isSome=true/\p.isSome=true/\((ad p 4).isSome=true/\0<=v/\v<(↑17:Int))/\fT w (ad (ad p 4) (v.toNat*1)) λx=>bE x 0 w λx=> ∃(b:Int),af AC 56 [ag x] w (aa b)/\ao w (a b))):=by kernel_rfl
theorem L6 (p:Option AI) (v g:Int) (w:A2) (a:Int×Int×Int×Unit->A2->Prop):(aJ V0 (λ_=>[]) 81 [ag p,aa v,aa g] w a)=(
 ∃x,af AC 53 [ag p] w (.bool x)/\aH (!x) (ao w (a (0,0,10,()))) (∃x,af AC 19 [ag p,aa v] w (.bool x)/\aH (!x) (ao w (a (0,0,4,()))) (p.isSome=true/\p.isSome=true/\((ad p 4).isSome=true/\0<=v/\v<(↑17:Int))/\fT w (ad (ad p 4) (v.toNat*1)) λx=>bE x 0 w λx=>az AC 139 (.bu [.one (.int .i64),.one (.int .i64),.one (.int .i64)]) [ag x,aa g] w λ(x:Int×Int×Int×Unit) b=>ao b (a (x.1,x.2.1,x.2.2.1,()))))):=by kernel_rfl
theorem L7 (p:Option AI) (v g:Int) (w:A2) (d:Int×Bool×Unit->A2->Prop):(aJ V0 (λ_=>[]) 174 [ag p,aa v,aa g] w d)=(
 ∃x,af AC 19 [ag p,aa v] w (.bool x)/\aH (!x) (ao w (d (0,false,()))) (p.isSome=true/\p.isSome=true/\((ad p 4).isSome=true/\0<=v/\v<(↑17:Int))/\fT w (ad (ad p 4) (v.toNat*1)) λx=>sV x 1 w λx=> ∃(a:Int×Int×Unit), ∃(b:Bool),mm w x .i64 g (.agg ⟨[aa 0,aa 0]⟩) (.agg ⟨[aa a.1,aa a.2.1]⟩) b/\aM w ⟨[aa 0,aa 0]⟩ 263 λe c=>aA c (ae e) [aa a.1,aa a.2.1] λc=>true=true/\aR c (ad (ae e) 0) λx=>ao c (d (x,
 b,())))):=by kernel_rfl
theorem Ho (p:Option AI) (w:A2) (a:Option AI->A2->Prop):(aJ V0 (λ_=>[]) 18 [ag p] w a)=(
 ∃x,af AC 53 [ag p] w (.bool x)/\aH (!x) (ao w (a none)) (bE p 1 w λx=>az AC 54 (.el jh) [ag x] w λx b=>ao b (a x))):=by kernel_rfl
theorem Hs (p:Option AI) (w:A2) (a:Option AI->A2->Prop):(aJ V0 (λ_=>[]) 23 [ag p] w a)=(
 ∃x,af AC 53 [ag p] w (.bool x)/\aH (!x) (ao w (a none)) (bE p 0 w λx=>ao w (a x))):=by kernel_rfl
theorem RN (p:Option AI) (f:Int) (w:A2) (d:Int->A2->Prop):(aJ V0 (λ_=>[]) 43 [ag p,aa f] w d)=(
 ∃x,af AC 53 [ag p] w (.bool x)/\aH (!x) (ao w (d 10)) (bE p 1 w λx=> ∃(a:(Int×Int×Int×Int×Unit)×Bool×Unit),af AC 25 [ag x,aa f] w (.tuple {toList:=[.agg ⟨[aa a.1.1,aa a.1.2.1,aa a.1.2.2.1,aa a.1.2.2.2.1]⟩,.bool a.2.1]})/\aM w ⟨[aa 0,aa 0,aa 0,aa 0]⟩ 52 λb c=>aA c (ae b) [aa a.1.1,aa a.1.2.1,aa a.1.2.2.1,aa a.1.2.2.2.1] λc=>aH (!a.2.1) (ao c (d 2)) (true=true/\aR c (ad (ae
 b) 0) λx=>aH (x != 5) (ao c (d 6)) (bE p 1 c λx=>az AC 79 (.el aT) [ag x,aa f] c λ(x:Int) c=>ao c (d x))))):=by kernel_rfl
theorem L8 (p:Option AI) (v a:Int) (w:A2) (b:Int->A2->Prop):(aJ V0 (λ_=>[]) 179 [ag p,aa v,ax a] w b)=(
 aH (decide (a<1)||decide (a>16)||aG .i64 a==v) (ao w (b 1)) (∃x,af AC 165 [ag p,ax a] w (.bool x)/\aH (!x) (ao w (b 4)) (ao w (b 0)))):=by kernel_rfl
theorem RO (p:Option AI) (v a t:Int) (w:A2) (d:Int×Int×Unit->A2->Prop):(aJ V0 (λ_=>[]) 178 [ag p,aa v,ax a,aa t] w d)=(
 aH (decide (a>=1048576)) (ao w (d (0,2,()))) (bE p 0 w λx=> ∃(e:Int),af AC 21 [ag p,aa v] w (aa e)/\(az AC 223 (.el dG) [ag x,aa e,aa (aG .i64 (wO .u64 a 16)),aa t] w λ(x:Int×Int×Int×Int×Unit) c=>aM c ⟨[aa 0,aa 0,aa 0,aa 0]⟩ 48 λb c=>aA c (ae b) [aa x.1,aa x.2.1,aa x.2.2.1,aa x.2.2.2.1] λc=>true=true/\aR c (ad (ae b) 0) λx=>true=true/\aR c (ad (ae b) 3) λf=>ao
 c λw1=>d (aI .i64 (gq .i64 16 x) (aG .i64 (ff a 16)),f,()) w1)/\aM w ⟨[aa 0,aa 0,aa 0,aa 0]⟩ 48 λb c=>az AC 223 (.el dG) [ag x,aa e,aa (aG .i64 (wO .u64 a 16)),aa t] c λ(x:Int×Int×Int×Int×Unit) c=>aA c (ae b) [aa x.1,aa x.2.1,aa x.2.2.1,aa x.2.2.2.1] λc=>true=true/\aR c (ad (ae b) 0) λx=>true=true/\aR c (ad (ae b) 3) λf=>ao c λw1=>d (aI .i64 (gq .i64 16 x) (aG .i64 (ff a 16)),
 f,()) w1)):=by kernel_rfl
def qV:Nat->aY:=(λ|3=>[(3,Go.RX.El.one (Go.RX.Sc.int B2))]| _=>[])
theorem L9 (p:Option AI) (w:A2) (c:Int->A2->Prop):(aJ V0 qV 168 [ag p] w c)=(
 sV p 1 w λx=>RgP w x λb a=> ∃(I:Nat->Int×Unit->A2->Prop),(∃n, ∀w1,Ext a w1->I n (65536,()) w1)/\ ∀(n:Nat) (s:Int×Unit) (w1:A2),I n s w1->NxP w1 (ae b) (λa=>ao a (c s.1)) λ(k v:Ag) a=> ∃(x:Int), ∃(v:Ag),z_ a (ae b) (aa x) v/\ ∀d,Ext a d-> ∃(e:Nat),e<n/\I e (ko s.1 x,()) d):=by kernel_rfl
def uk:Nat->aY:=(λ_=>[])
theorem RP (p:Option AI) (v g:Int) (w:A2) (d:Unit->A2->Prop):(aJ V0 uk 167 [ag p,aa v,aa g] w d)=(
 p.isSome=true/\p.isSome=true/\((ad p 4).isSome=true/\0<=v/\v<(↑17:Int))/\fT w (ad (ad p 4) (v.toNat*1)) λx=>sV x 1 w λf=> ∃(c:Int×Int×Unit),jM w f .i64 g (.agg ⟨[aa 0,aa 0]⟩) (.agg ⟨[aa c.1,aa c.2.1]⟩)/\aM w ⟨[aa 0,aa 0]⟩ 263 λb a=>aA a (ae b) [aa c.1,aa c.2.1] λa=>sV x 1 a λh=> ∀w1,Ext a w1-> ∃(r:Nat), ∃(es:Array B1), ∃(e:Nat),h=some r/\bD w1 r es e/\z9 w1 r .i64 g es e λa=>bE x 0 a λx=>az
 AC 175 (.bu [.one (.int .i64),.one (.int .i64)]) [ag x,aa g] a λ(x:Int×Int×Unit) a=>bE p 1 a λx=>true=true/\aR a (ad (ae b) 1) λi=>az AC 183 (.el aT) [ag x,aa i,aa (-1)] a λ(x:Int) a=>bE p 2 a λx=>true=true/\aR a (ad (ae b) 0) λj=>az AC 182 (.el aT) [ag x,aa j,aa v] a λ(x:Int) a=>ao a (d ())):=by kernel_rfl
theorem VH (n:Int) (w:A2) (c:Option AI×Int×Unit->A2->Prop):(aJ V0 (λ_=>[]) 40 [aa n] w c)=(
 aH (decide (n<4)||decide (n>4096)) (ao w (c (none,1,()))) (aM w {toList:=[ag none,ag none,ag none,ag none,ag none,ag none,ag none,ag none,ag none,ag none,ag none,ag none,ag none,ag none,ag none,ag none,ag none,ag none,ag none,ag none,ag none]} 115 λb a=>az AC 33 (.bu [.one .ptr,.one (.int .i64)]) [aa (gq .i64 16 n)] a λ(x:Option AI×Int×Unit) a=>true=true/\true=true/\aA a (ad
 (ae b) 0) [ag x.1] λa=>az AC 72 (.bu [.one .ptr,.one (.int .i64)]) [aa n] a λ(x:Option AI×Int×Unit) a=>true=true/\true=true/\aA a (ad (ae b) 1) [ag x.1] λa=>az AC 73 (.bu [.one .ptr,.one (.int .i64)]) [aa 16] a λ(x:Option AI×Int×Unit) a=>true=true/\true=true/\aA a (ad (ae b) 2) [ag x.1] λa=>az AC 74 (.bu [.one .ptr,.one (.int .i64)]) [aa 4] a λ(x:Option AI×Int×Unit) a=>true=true/\true=true/\aA a (ad (ae b) 3) [ag x.1] λ
 a=>ao a (c (some ⟨b,0,none⟩,0,())))):=by kernel_rfl
theorem L_ (w:A2) (u:Option Nat->A2->Prop):(aJ V0 (λ_=>[]) 78 [] w u)=(
 ∀w1,Ext w w1-> ∀c,Ext (w1.alloc (Obj.map ⟨[]⟩ 0)) c-> ∃(r:Nat), ∃(es:Array B1), ∃(a:Nat),some w1.heap.size=some r/\bD c r es a/\gS c r .i64 1 (.func (.func 121) ⟨[]⟩ ⟨[]⟩) es a λb=> ∀d,Ext b d-> ∃(r:Nat), ∃(es:Array B1), ∃(a:Nat),some w1.heap.size=some r/\bD d r es a/\gS d r .i64 2 (.func (.func 122) ⟨[]⟩ ⟨[]⟩) es a λb=> ∀e,Ext b e-> ∃(r:Nat), ∃(es:Array B1), ∃(a:Nat),some w1.heap.size=some r/\bD e r es a/\gS e r .i64 17 (.func (.func
 123) ⟨[]⟩ ⟨[]⟩) es a λb=> ∀f,Ext b f-> ∃(r:Nat), ∃(es:Array B1), ∃(a:Nat),some w1.heap.size=some r/\bD f r es a/\gS f r .i64 3 (.func (.func 124) ⟨[]⟩ ⟨[]⟩) es a λb=> ∀g,Ext b g-> ∃(r:Nat), ∃(es:Array B1), ∃(a:Nat),some w1.heap.size=some r/\bD g r es a/\gS g r .i64 4 (.func (.func 125) ⟨[]⟩ ⟨[]⟩) es a λb=> ∀h,Ext b h-> ∃(r:Nat), ∃(es:Array B1), ∃(a:Nat),some w1.heap.size=some r/\bD h r es a/\gS h r .i64 5 (.func (.func 126) ⟨[]⟩
 ⟨[]⟩) es a λb=> ∀i,Ext b i-> ∃(r:Nat), ∃(es:Array B1), ∃(a:Nat),some w1.heap.size=some r/\bD i r es a/\gS i r .i64 6 (.func (.func 127) ⟨[]⟩ ⟨[]⟩) es a λb=> ∀j,Ext b j-> ∃(r:Nat), ∃(es:Array B1), ∃(a:Nat),some w1.heap.size=some r/\bD j r es a/\gS j r .i64 7 (.func (.func 128) ⟨[]⟩ ⟨[]⟩) es a λb=> ∀k,Ext b k-> ∃(r:Nat), ∃(es:Array B1), ∃(a:Nat),some w1.heap.size=some r/\bD k r es a/\gS k r .i64 8 (.func (.func 129) ⟨[]⟩ ⟨[]⟩) es
 a λb=> ∀l,Ext b l-> ∃(r:Nat), ∃(es:Array B1), ∃(a:Nat),some w1.heap.size=some r/\bD l r es a/\gS l r .i64 9 (.func (.func 130) ⟨[]⟩ ⟨[]⟩) es a λb=> ∀m,Ext b m-> ∃(r:Nat), ∃(es:Array B1), ∃(a:Nat),some w1.heap.size=some r/\bD m r es a/\gS m r .i64 10 (.func (.func 131) ⟨[]⟩ ⟨[]⟩) es a λb=> ∀n,Ext b n-> ∃(r:Nat), ∃(es:Array B1), ∃(a:Nat),some w1.heap.size=some r/\bD n r es a/\gS n r .i64 11 (.func (.func 132) ⟨[]⟩ ⟨[]⟩)
 es a λb=> ∀o,Ext b o-> ∃(r:Nat), ∃(es:Array B1), ∃(a:Nat),some w1.heap.size=some r/\bD o r es a/\gS o r .i64 12 (.func (.func 133) ⟨[]⟩ ⟨[]⟩) es a λb=> ∀p,Ext b p-> ∃(r:Nat), ∃(es:Array B1), ∃(a:Nat),some w1.heap.size=some r/\bD p r es a/\gS p r .i64 13 (.func (.func 134) ⟨[]⟩ ⟨[]⟩) es a λb=> ∀q,Ext b q-> ∃(r:Nat), ∃(es:Array B1), ∃(a:Nat),some w1.heap.size=some r/\bD q r es a/\gS q r .i64 14 (.func (.func 135) ⟨[]⟩
 ⟨[]⟩) es a λb=> ∀s,Ext b s-> ∃(r:Nat), ∃(es:Array B1), ∃(a:Nat),some w1.heap.size=some r/\bD s r es a/\gS s r .i64 15 (.func (.func 136) ⟨[]⟩ ⟨[]⟩) es a λb=> ∀t,Ext b t-> ∃(r:Nat), ∃(es:Array B1), ∃(a:Nat),some w1.heap.size=some r/\bD t r es a/\gS t r .i64 16 (.func (.func 137) ⟨[]⟩ ⟨[]⟩) es a λb=>ao b (u (some w1.heap.size))):=by kernel_rfl
def n9:Nat->aY:=(λ|2=>[(7,Go.RX.El.one (Go.RX.Sc.int B2))]| _=>[])
theorem E9 (p:Option AI) (v k a b c:Int) (w:A2) (e:RS->A2->Prop):(bQ V0 n9 121 [ag p,aa v,.agg ⟨[aa k,ax a,ax b,ax c]⟩] w e)=(
 aM w ⟨[aa k,ax a,ax b,ax c]⟩ 31 λb d=>aM d ⟨[ax 0,aa 0]⟩ 61 λb d=> ∃(I:Nat->Int×Unit->A2->Prop),(∃n, ∀w1,Ext d w1->I n (1,()) w1)/\ ∀(n:Nat) (s:Int×Unit) (w1:A2),I n s w1->aH (decide (s.1<=16)) (p.isSome=true/\p.isSome=true/\((ad p 4).isSome=true/\0<=s.1/\s.1<(↑17:Int))/\fT w1 (ad (ad p 4) (B4 s.1*1)) λx=>aH (!x.isNone) (∀f,Ext w1 f-> ∃(g:Nat),g<n/\I g (aI .i64 s.1 1,()) f) (bE p 0 w1 λx=>bE p 1 w1 λh=>az
 AC 164 (.bu [.one .ptr,.one (.int .i64)]) [ag x,ag h,aa s.1] w1 λ(x:Option AI×Int×Unit) d=>aH (x.2.1==0) (∀w1,Ext d w1->aM (w1.alloc (Obj.map ⟨[]⟩ 0)) ⟨[ag x.1,.map (some w1.heap.size)]⟩ 121 λi d=>p.isSome=true/\p.isSome=true/\((ad p 4).isSome=true/\0<=s.1/\s.1<(↑17:Int))/\aA d (ad (ad p 4) (B4 s.1*1)) [ag (ae i)] λd=>aA d (ae b) [ax (aG .u64 s.1),aa x.2.1] λd=>ao d λw1=>aj w1 none (ae b) cw λ(x:Int×Int×Unit)=>e (x.1,x.2.1,
 ()) w1) (aA d (ae b) [ax (aG .u64 s.1),aa x.2.1] λd=>ao d λw1=>aj w1 none (ae b) cw λ(x:Int×Int×Unit)=>e (x.1,x.2.1,()) w1))) (True/\aA w1 (ae b) [ax 0,aa 3] λd=>ao d λw1=>aj w1 none (ae b) cw λ(x:Int×Int×Unit)=>e (x.1,x.2.1,()) w1)):=by kernel_rfl
def m8:Nat->aY:=(λ|5=>[(34,Go.RX.El.one (Go.RX.Sc.int B2))]|12=>[]|19=>[(13,Go.RX.El.one (Go.RX.Sc.int B2)),(93,Go.RX.El.one (Go.RX.Sc.int B2))]| _=>[])
theorem CQ (p:Option AI) (v k a b c:Int) (w:A2) (l:RS->A2->Prop):(bQ V0 m8 122 [ag p,aa v,.agg ⟨[aa k,ax a,ax b,ax c]⟩] w l)=(
 aM w ⟨[aa k,ax a,ax b,ax c]⟩ 31 λb d=>aM d ⟨[ax 0,aa 0]⟩ 61 λi d=>true=true/\cH d (ad (ae b) 1) λx=> ∃r,af AC 165 [ag p,ax x] d (.bool r)/\aH (!r) (True/\aA d (ae i) [ax 0,aa 4] λd=>ao d λw1=>aj w1 none (ae i) cw λ(x:Int×Int×Unit)=>l (x.1,x.2.1,()) w1) (true=true/\cH d (ad (ae b) 1) λx=>bE p 1 d λz=>az AC 166 (.el eJ) [ag z,aa (aG .i64 x)] d λm d=> ∃(I:Nat->
 Int×Unit->A2->Prop),(∃n, ∀w1,Ext d w1->I n (0,()) w1)/\ ∀(n:Nat) (s:Int×Unit) (w1:A2),I n s w1->aH (decide (s.1<(↑m.2.1:Int))) ((m.1.isSome=true/\0<=s.1/\s.1<(↑m.2.1:Int))/\aR w1 (ad m.1 (B4 s.1*1)) λx=>bE p 1 w1 λj=> ∃(e:(Int×Int×Int×Int×Unit)×Bool×Unit),af AC 25 [ag j,aa x] w1 (.tuple {toList:=[.agg ⟨[aa e.1.1,aa e.1.2.1,aa e.1.2.2.1,aa e.1.2.2.2.1]⟩,.bool e.2.1]})/\aM w1 ⟨[aa 0,aa 0,aa 0,.int
 .i64 0]⟩ 52 λb d=>aA d (ae b) [aa e.1.1,aa e.1.2.1,aa e.1.2.2.1,aa e.1.2.2.2.1] λd=>true=true/\aR d (ad (ae b) 2) λx=>aH (decide (x>0)) (True/\aA d (ae i) [ax 0,aa 9] λd=>ao d λw1=>aj w1 none (ae i) cw λ(x:Int×Int×Unit)=>l (x.1,x.2.1,()) w1) (∀f,Ext d f-> ∃(g:Nat),g<n/\I g (aI .i64 s.1 1,()) f)) (p.isSome=true/\p.isSome=true/\((ad p 4).isSome=true/\0<=aG .i64 x/\aG .i64 x<(↑17:Int))/\aj w1 none (ad (ad p 4)
 ((aG .i64 x).toNat*1)) jh λj=> ∃(I:Nat->Unit->A2->Prop),(∃n, ∀t,Ext w1 t->I n () t)/\ ∀(n:Nat) (s:Unit) (w1:A2),I n s w1->sV j 1 w1 λe=> ∃u,TY w1 e u/\aH (decide ((↑u:Int)>0)) (az AC 168 (.el aT) [ag j] w1 λ(q:Int) d=>az AC 167 (.bu []) [ag p,aa (aG .i64 x),aa q] d λx d=> ∀f,Ext d f-> ∃(g:Nat),g<n/\I g () f) (bE p 2 w1 λq=>az AC 169 (.el aT) [ag q,aa (aG .i64 x)] w1 λ(G:Int)
 d=>bE p 3 d λA=>az AC 170 (.el aT) [ag A,aa (aG .i64 x)] d λ(H:Int) d=>bE j 0 d λB=>az AC 171 (.el eJ) [ag B] d λJ d=>bE p 1 d λC=>az AC 166 (.el eJ) [ag C,aa (aG .i64 x)] d λo d=> ∃(I:Nat->Int×Int×Unit->A2->Prop),(∃n, ∀w1,Ext d w1->I n (0,0,()) w1)/\ ∀(n:Nat) (s:Int×Int×Unit) (w1:A2),I n s w1->aH (decide (s.2.1<(↑o.2.1:Int))) ((o.1.isSome=true/\0<=s.2.1/\s.2.1<(↑o.2.1:Int))/\aR w1
 (ad o.1 (B4 s.2.1*1)) λy=>bE p 1 w1 λD=> ∃(h:(Int×Int×Int×Int×Unit)×Bool×Unit),af AC 25 [ag D,aa y] w1 (.tuple {toList:=[.agg ⟨[aa h.1.1,aa h.1.2.1,aa h.1.2.2.1,aa h.1.2.2.2.1]⟩,.bool h.2.1]})/\aM w1 ⟨[aa 0,aa 0,aa 0,aa 0]⟩ 52 λb d=>aA d (ae b) [aa h.1.1,aa h.1.2.1,aa h.1.2.2.1,aa h.1.2.2.2.1] λd=>true=true/\aR d (ad (ae b) 0) λE=>aH (E==4) (bE p 1
 d λF=>az AC 138 (.el aT) [ag F,aa y,aa 5,aa (aG .i64 x)] d λ(x:Int) d=> ∀f,Ext d f-> ∃(g:Nat),g<n/\I g (aI .i64 s.1 1,aI .i64 s.2.1 1,()) f) (∀f,Ext d f-> ∃(g:Nat),g<n/\I g (s.1,aI .i64 s.2.1 1,()) f)) (p.isSome=true/\p.isSome=true/\((ad p 4).isSome=true/\0<=aG .i64 x/\aG .i64 x<(↑17:Int))/\aA w1 (ad (ad p 4) ((aG .i64 x).toNat*1)) [ag none] λd=>aA d (ae i) [ax (aG .u64 s.1),aa 0] λd=>ao d λw1
 =>aj w1 none (ae i) cw λ(x:Int×Int×Unit)=>l (x.1,x.2.1,()) w1))))):=by kernel_rfl
def pK:Nat->aY:=(λ|3=>[(7,Go.RX.El.one (Go.RX.Sc.int B2)),(14,Go.RX.El.one (Go.RX.Sc.int B2))]| _=>[])
theorem Ht (p:Option AI) (v k a b c:Int) (w:A2) (g:RS->A2->Prop):(bQ V0 pK 123 [ag p,aa v,.agg ⟨[aa k,ax a,ax b,ax c]⟩] w g)=(
 aM w ⟨[aa k,ax a,ax b,ax c]⟩ 31 λb d=>aM d ⟨[ax 0,aa 0]⟩ 61 λb d=>bE p 1 d λx=> ∃(h:Int),af AC 62 [ag x] d (aa h)/\ ∃(I:Nat->Int×Int×Unit->A2->Prop),(∃n, ∀w1,Ext d w1->I n (0,0,()) w1)/\ ∀(n:Nat) (s:Int×Int×Unit) (w1:A2),I n s w1->aH (decide (s.2.1<h)) (az AC 43 (.el aT) [ag p,aa s.2.1] w1 λ(x:Int) d=>aH (x==0) (∀e,Ext d e-> ∃(f:Nat),f<n/\I f (aI .i64 s.1 1,aI .i64 s.2.1 1,()) e)
 (∀e,Ext d e-> ∃(f:Nat),f<n/\I f (s.1,aI .i64 s.2.1 1,()) e)) (aA w1 (ae b) [ax (aG .u64 s.1),aa 0] λd=>ao d λw1=>aj w1 none (ae b) cw λ(x:Int×Int×Unit)=>g (x.1,x.2.1,()) w1)):=by kernel_rfl
def n_:Nat->aY:=(λ|13=>[(66,Go.RX.El.one (Go.RX.Sc.int B2))]| _=>[])
abbrev gi (a:RS->A2->Prop) (b:A2) (c:Nat):Prop:=
 ao b λw1=>aj w1 none (ae c) cw λ(x:Int×Int×Unit)=>a (x.1,x.2.1,()) w1
theorem E_ (p:Option AI) (v k a b c:Int) (w:A2) (f:RS->A2->Prop):(bQ V0 n_ 124 [ag p,aa v,.agg ⟨[aa k,ax a,ax b,ax c]⟩] w f)=(
 aM w ⟨[aa k,ax a,ax b,ax c]⟩ 31 λb d=>aM d ⟨[ax 0,aa 0]⟩ 61 λe d=>true=true/\cH d (ad (ae b) 1) λx=>aH (decide (x>=65536)) (True/\aA d (ae e) [ax 0,aa 2] λd=>gi f d e) (true=true/\cH d (ad (ae b) 2) λx=>((!decide (x<1))=true->true=true)/\aj d (some !decide (x<1)) (ad (ae b) 2) ou λ(l:Int)=>aH (decide (x<1)||decide (l>7)) (True/\aA d (ae e) [ax 0,aa 7] λd=>gi f d e) (bE p 1 d
 λx=>az AC 172 (.bu [.one (.int .i64),.one (.int .i64)]) [ag x,aa 4,aa v] d λ(x:Int×Int×Unit) d=>aH (x.2.1 != 0) (True/\aA d (ae e) [ax 0,aa x.2.1] λd=>gi f d e) (p.isSome=true/\p.isSome=true/\((ad p 4).isSome=true/\0<=v/\v<(↑17:Int))/\fT d (ad (ad p 4) (v.toNat*1)) λm=>bE m 0 d λo=>true=true/\cH d (ad (ae b) 1) λq=>true=true/\cH d (ad (ae b) 2) λr=>az AC 173 (.el aT) [ag o,aa (aG .i64 q),
 aa x.1,aa (aG .i64 r)] d λ(h:Int) d=>aH (h != 0) (bE p 1 d λg=>az AC 79 (.el aT) [ag g,aa x.1] d λ(x:Int) d=>True/\aA d (ae e) [ax 0,aa h] λd=>gi f d e) (∃(I:Nat->Int×Unit->A2->Prop),(∃n, ∀w1,Ext d w1->I n (0,()) w1)/\ ∀(n:Nat) (s:Int×Unit) (w1:A2),I n s w1->aH (decide (s.1<16)) (bE p 0 w1 λg=>az AC 38 (.el aT) [ag g,aa (aI .i64 (gq .i64 16 x.1) s.1),ax 0] w1 λ(x:Int) d=> ∀
 i,Ext d i-> ∃(j:Nat),j<n/\I j (aI .i64 s.1 1,()) i) (aA w1 (ae e) [ax (aG .u64 x.1),aa 0] λd=>gi f d e)))))):=by kernel_rfl
abbrev fw (a:RS->A2->Prop) (b:A2) (c:Nat):Prop:=
 ao b λw1=>aj w1 none (ae c) cw λ(x:Int×Int×Unit)=>a (x.1,x.2.1,()) w1
theorem CS (p:Option AI) (v k a b c:Int) (w:A2) (g:RS->A2->Prop):(bQ V0 (λ_=>[]) 125 [ag p,aa v,.agg ⟨[aa k,ax a,ax b,ax c]⟩] w g)=(
 aM w ⟨[aa k,ax a,ax b,ax c]⟩ 31 λb d=>aM d ⟨[ax 0,aa 0]⟩ 61 λe d=>true=true/\cH d (ad (ae b) 1) λx=>aH (decide (x>=65536)) (True/\aA d (ae e) [ax 0,aa 2] λd=>fw g d e) (true=true/\cH d (ad (ae b) 1) λx=>az AC 81 (.bu [.one (.int .i64),.one (.int .i64),.one (.int .i64)]) [ag p,aa v,aa (aG .i64 x)] d λ(h:Int×Int×Int×Unit) d=>aH (h.2.2.1 != 0) (True/\aA d (ae e) [ax 0,aa h.2.2.1]
 λd=>fw g d e) (∃(i:Int×Bool×Unit),af AC 174 [ag p,aa v,aa (aG .i64 x)] d (.tuple ⟨[aa i.1,.bool i.2.1]⟩)/\aH i.2.1 (True/\aA d (ae e) [ax 0,aa 7] λd=>fw g d e) (bE p 1 d λj=> ∃(f:(Int×Int×Int×Int×Unit)×Bool×Unit),af AC 25 [ag j,aa h.1] d (.tuple {toList:=[.agg ⟨[aa f.1.1,aa f.1.2.1,aa f.1.2.2.1,aa f.1.2.2.2.1]⟩,.bool f.2.1]})/\aM d ⟨[aa 0,aa 0,
 aa 0,aa 0]⟩ 52 λb d=>aA d (ae b) [aa f.1.1,aa f.1.2.1,aa f.1.2.2.1,aa f.1.2.2.2.1] λd=>true=true/\aR d (ad (ae b) 2) λl=>aH (decide (l>0)) (True/\aA d (ae e) [ax 0,aa 9] λd=>fw g d e) (p.isSome=true/\p.isSome=true/\((ad p 4).isSome=true/\0<=v/\v<(↑17:Int))/\fT d (ad (ad p 4) (v.toNat*1)) λm=>bE m 0 d λn=>az AC 175 (.bu [.one (.int .i64),.one (.int .i64)]) [ag n,aa (aG .i64 x)] d λ(x
 :Int×Int×Unit) d=>bE p 1 d λx=>az AC 138 (.el aT) [ag x,aa h.1,aa 5,aa v] d λ(x:Int) d=>aA d (ae e) [ax (aG .u64 h.1),aa 0] λd=>fw g d e))))):=by kernel_rfl
abbrev j7 (a:RS->A2->Prop) (b:A2) (c:Nat):Prop:=
 ao b λw1=>aj w1 none (ae c) cw λ(x:Int×Int×Unit)=>a (x.1,x.2.1,()) w1
abbrev oa (p:Option AI) (v:Int) (e:RS->A2->Prop) (a:A2) (c:Nat) (d:Nat):Prop:=
 p.isSome=true/\p.isSome=true/\((ad p 4).isSome=true/\0<=v/\v<(↑17:Int))/\fT a (ad (ad p 4) (v.toNat*1)) λx=>bE x 0 a λx=>true=true/\cH a (ad (ae c) 1) λf=>true=true/\cH a (ad (ae c) 2) λg=>az AC 177 (.el aT) [ag x,aa (aG .i64 f),aa (aG .i64 g)] a λ(x:Int) b=>True/\aA b (ae d) [ax 0,aa x] λb=>j7 e b d
abbrev od (b:RS->A2->Prop) (c:A2) (a:Nat):Prop:=
 True/\aA c (ae a) [ax 0,aa 7] λd=>j7 b d a
theorem CU (p:Option AI) (v k a b c:Int) (w:A2) (f:RS->A2->Prop):(bQ V0 (λ_=>[]) 126 [ag p,aa v,.agg ⟨[aa k,ax a,ax b,ax c]⟩] w f)=(
 aM w ⟨[aa k,ax a,ax b,ax c]⟩ 31 λb d=>aM d ⟨[ax 0,aa 0]⟩ 61 λg d=>true=true/\cH d (ad (ae b) 1) λx=>aH (decide (x>=65536)) (True/\aA d (ae g) [ax 0,aa 2] λd=>j7 f d g) (true=true/\cH d (ad (ae b) 2) λx=>((!decide (x<1))=true->true=true)/\aj d (some !decide (x<1)) (ad (ae b) 2) ou λ(j:Int)=>aH (decide (x<1)||decide (j>7)) (od f d g) (true=true/\cH d (ad (ae b) 1) λx=> ∃(h:Int×Bool×
 Unit),af AC 174 [ag p,aa v,aa (aG .i64 x)] d (.tuple ⟨[aa h.1,.bool h.2.1]⟩)/\(h.2.1=true->true=true)/\aj d (some h.2.1) (ad (ae b) 2) ou λ(x:Int)=>aH (h.2.1&&decide (wP .u64 x 2>0)) (bE p 2 d λx=> ∃(e:(Int×Int×Int×Bool×Int×Unit)×Bool×Unit),af AC 176 [ag x,aa h.1] d (.tuple {toList:=[.agg ⟨[aa e.1.1,aa e.1.2.1,aa e.1.2.2.1,.bool e.1.2.2.2.1,aa e.1.2.2.2.2.1]⟩,.bool e.2.1]})/\aM d ⟨[aa 0,.int .i64
 0,aa 0,.bool false,aa 0]⟩ 255 λi d=>aA d (ae i) [aa e.1.1,aa e.1.2.1,aa e.1.2.2.1,.bool e.1.2.2.2.1,aa e.1.2.2.2.2.1] λd=>true=true/\sU d (ad (ae i) 3) λx=>aH (!x) (od f d g) (oa p v f d b g)) (oa p v f d b g)))):=by kernel_rfl
theorem Ma (p:Option AI) (v k a b c:Int) (w:A2) (f:RS->A2->Prop):(bQ V0 (λ_=>[]) 127 [ag p,aa v,.agg ⟨[aa k,ax a,ax b,ax c]⟩] w f)=(
 aM w ⟨[aa k,ax a,ax b,ax c]⟩ 31 λb d=>aM d ⟨[ax 0,aa 0]⟩ 61 λe d=>true=true/\cH d (ad (ae b) 1) λx=>az AC 178 (.bu [.one (.int .i64),.one (.int .i64)]) [ag p,aa v,ax x,aa 1] d λ(x:Int×Int×Unit) d=>aH (x.2.1 != 0) (True/\aA d (ae e) [ax 0,aa x.2.1] λd=>ao d λw1=>aj w1 none (ae e) cw λ(x:Int×Int×Unit)=>f (x.1,x.2.1,()) w1) (bE p 0 d λg=>az AC 37 (.bu [.one (.int .u64),.one (.int
 .i64)]) [ag g,aa x.1] d λ(x:Int×Int×Unit) d=>aA d (ae e) [ax x.1,aa x.2.1] λd=>ao d λw1=>aj w1 none (ae e) cw λ(x:Int×Int×Unit)=>f (x.1,x.2.1,()) w1)):=by kernel_rfl
theorem Hu (p:Option AI) (v k a b c:Int) (w:A2) (f:RS->A2->Prop):(bQ V0 (λ_=>[]) 128 [ag p,aa v,.agg ⟨[aa k,ax a,ax b,ax c]⟩] w f)=(
 aM w ⟨[aa k,ax a,ax b,ax c]⟩ 31 λb d=>aM d ⟨[ax 0,aa 0]⟩ 61 λe d=>true=true/\cH d (ad (ae b) 1) λx=>az AC 178 (.bu [.one (.int .i64),.one (.int .i64)]) [ag p,aa v,ax x,aa 2] d λ(x:Int×Int×Unit) d=>aH (x.2.1 != 0) (True/\aA d (ae e) [ax 0,aa x.2.1] λd=>ao d λw1=>aj w1 none (ae e) cw λ(x:Int×Int×Unit)=>f (x.1,x.2.1,()) w1) (bE p 0 d λg=>true=true/\cH d (ad (ae b) 2) λh=>az
 AC 38 (.el aT) [ag g,aa x.1,ax h] d λ(x:Int) d=>True/\aA d (ae e) [ax 0,aa x] λd=>ao d λw1=>aj w1 none (ae e) cw λ(x:Int×Int×Unit)=>f (x.1,x.2.1,()) w1)):=by kernel_rfl
abbrev ik (a:RS->A2->Prop) (b:A2) (c:Nat):Prop:=
 ao b λw1=>aj w1 none (ae c) cw λ(x:Int×Int×Unit)=>a (x.1,x.2.1,()) w1
theorem Hv (p:Option AI) (v k a b c:Int) (w:A2) (f:RS->A2->Prop):(bQ V0 (λ_=>[]) 129 [ag p,aa v,.agg ⟨[aa k,ax a,ax b,ax c]⟩] w f)=(
 aM w ⟨[aa k,ax a,ax b,ax c]⟩ 31 λb d=>aM d ⟨[ax 0,aa 0]⟩ 61 λe d=>true=true/\cH d (ad (ae b) 2) λx=> ∃(g:Int),af AC 179 [ag p,aa v,ax x] d (aa g)/\true=true/\cH d (ad (ae b) 1) λx=>aH (decide (x>=65536)) (True/\aA d (ae e) [ax 0,aa 2] λd=>ik f d e) (((!g==1)=true->true=true)/\aj d (some !g==1) (ad (ae b) 3) ou λ(x:Int)=>aH (g==1||decide (x>1)) (True/\aA d (ae e) [.int
 .u64 0,aa 1] λd=>ik f d e) (true=true/\cH d (ad (ae b) 1) λx=>az AC 81 (.bu [.one (.int .i64),.one (.int .i64),.one (.int .i64)]) [ag p,aa v,aa (aG .i64 x)] d λ(x:Int×Int×Int×Unit) d=>aH (x.2.2.1 != 0||g != 0) (True/\aA d (ae e) [ax 0,aa 4] λd=>ik f d e) (true=true/\cH d (ad (ae b) 1) λx=> ∃(h:Int×Bool×Unit),af AC 174 [ag p,aa v,aa (aG .i64 x)] d (.tuple ⟨[aa h.1,.bool h.2.1]⟩)/\
 aH h.2.1 (True/\aA d (ae e) [ax 0,aa 7] λd=>ik f d e) (bE p 2 d λx=>true=true/\cH d (ad (ae b) 1) λi=>true=true/\cH d (ad (ae b) 2) λj=>true=true/\cH d (ad (ae b) 3) λl=>az AC 180 (.bu [.one (.int .i64),.one (.int .i64)]) [ag x,aa v,aa (aG .i64 i),aa (aG .i64 j),.bool (l==1)] d λ(x:Int×Int×Unit) d=>aA d (ae e) [ax (aG .u64 x.1),aa x.2.1] λd=>ik f d e))))):=by kernel_rfl
theorem Mb (p:Option AI) (v k a b c:Int) (w:A2) (f:RS->A2->Prop):(bQ V0 (λ_=>[]) 130 [ag p,aa v,.agg ⟨[aa k,ax a,ax b,ax c]⟩] w f)=(
 aM w ⟨[aa k,ax a,ax b,ax c]⟩ 31 λb d=>aM d ⟨[ax 0,aa 0]⟩ 61 λe d=>true=true/\cH d (ad (ae b) 2) λx=>aH (decide (x>=65536)) (True/\aA d (ae e) [ax 0,aa 2] λd=>ao d λw1=>aj w1 none (ae e) cw λ(x:Int×Int×Unit)=>f (x.1,x.2.1,()) w1) (true=true/\cH d (ad (ae b) 1) λx=>((!decide (x>=16))=true->true=true)/\aj d (some !decide (x>=16)) (ad (ae b) 3) ou λ(A:Int)=>aH (decide (x>=16)||decide (A>1)) (True/\aA d (ae
 e) [ax 0,aa 1] λd=>ao d λw1=>aj w1 none (ae e) cw λ(x:Int×Int×Unit)=>f (x.1,x.2.1,()) w1) (true=true/\cH d (ad (ae b) 1) λx=>true=true/\cH d (ad (ae b) 2) λn=>true=true/\cH d (ad (ae b) 3) λj=>bE p 2 d λB=> ∃(g:(Int×Int×Int×Bool×Int×Unit)×Bool×Unit),af AC 176 [ag B,aa (aG .i64 x)] d (.tuple {toList:=[.agg ⟨[aa g.1.1,aa g.1.2.1,aa g.1.2.2.1,.bool g.1.2.2.2.1,aa g.1.2.2.2.2.1]⟩,.bool
 g.2.1]})/\aM d ⟨[aa 0,aa 0,aa 0,.bool false,aa 0]⟩ 255 λb d=>aA d (ae b) [aa g.1.1,aa g.1.2.1,aa g.1.2.2.1,.bool g.1.2.2.2.1,aa g.1.2.2.2.2.1] λd=>aH (!g.2.1) (True/\aA d (ae e) [ax 0,aa 4] λd=>ao d λw1=>aj w1 none (ae e) cw λ(x:Int×Int×Unit)=>f (x.1,x.2.1,()) w1) (true=true/\aR d (ad (ae b) 2) λo=>((!o != v&&j==1)=true->true=true)/\aj d (some (!o != v&&j==1)) (ad (ae b) 3) rq λC=>aH
 (o != v||j==1&& !C) (True/\aA d (ae e) [ax 0,aa 7] λd=>ao d λw1=>aj w1 none (ae e) cw λ(x:Int×Int×Unit)=>f (x.1,x.2.1,()) w1) (true=true/\aR d (ad (ae b) 0) λD=>true=true/\aR d (ad (ae b) 1) λE=>az AC 81 (.bu [.one (.int .i64),.one (.int .i64),.one (.int .i64)]) [ag p,aa D,aa E] d λ(h:Int×Int×Int×Unit) d=>aH (h.2.2.1 != 0) (True/\aA d (ae e) [ax 0,aa 4] λd=>ao d λw1=>aj w1 none (ae e) cw λ
 (x:Int×Int×Unit)=>f (x.1,x.2.1,()) w1) (true=true/\aR d (ad (ae b) 0) λF=>true=true/\aR d (ad (ae b) 1) λG=> ∃(q:Int×Bool×Unit),af AC 174 [ag p,aa F,aa G] d (.tuple ⟨[aa q.1,.bool q.2.1]⟩)/\aH q.2.1 (True/\aA d (ae e) [ax 0,aa 7] λd=>ao d λw1=>aj w1 none (ae e) cw λ(x:Int×Int×Unit)=>f (x.1,x.2.1,()) w1) (bE p 2 d λH=>az AC 181 (.el aT) [ag H,aa (aG .i64 x),aa v,
 .bool (j==1)] d λ(z:Int) d=>aH (z != 0) (True/\aA d (ae e) [ax 0,aa z] λd=>ao d λw1=>aj w1 none (ae e) cw λ(x:Int×Int×Unit)=>f (x.1,x.2.1,()) w1) (aH (j==1) (p.isSome=true/\p.isSome=true/\((ad p 4).isSome=true/\0<=v/\v<(↑17:Int))/\fT d (ad (ad p 4) (v.toNat*1)) λs=>bE s 0 d λt=>az AC 173 (.el aT) [ag t,aa (aG .i64 n),aa h.1,aa (orI .i64 1 2)] d λ(l:Int) d=>aH (l != 0) (bE p 2 d λi
 =>az AC 182 (.el aT) [ag i,aa (aG .i64 x),aa v] d λ(x:Int) d=>True/\aA d (ae e) [ax 0,aa l] λd=>ao d λw1=>aj w1 none (ae e) cw λ(x:Int×Int×Unit)=>f (x.1,x.2.1,()) w1) (bE p 1 d λi=>az AC 183 (.el aT) [ag i,aa h.1,aa 1] d λ(I:Int) d=>p.isSome=true/\p.isSome=true/\((ad p 4).isSome=true/\0<=v/\v<(↑17:Int))/\fT d (ad (ad p 4) (v.toNat*1)) λu=>sV u 1 d λy=> ∀w1,Ext d w1-> ∃(r
 :Nat), ∃(es:Array B1), ∃(m:Nat),y=some r/\bD w1 r es m/\gS w1 r .i64 (aG .i64 n) (.agg ⟨[aa (aG .i64 x),aa h.1]⟩) es m λd=>aA d (ae e) [ax 0,aa 0] λd=>ao d λw1=>aj w1 none (ae e) cw λ(x:Int×Int×Unit)=>f (x.1,x.2.1,()) w1)) (p.isSome=true/\p.isSome=true/\((ad p 4).isSome=true/\0<=v/\v<(↑17:Int))/\fT d (ad (ad p 4) (v.toNat*1)) λs=>bE s 0 d λt=>az AC 173 (.el aT) [ag t,aa (aG .i64 n),
 aa h.1,aa 1] d λ(l:Int) d=>aH (l != 0) (bE p 2 d λi=>az AC 182 (.el aT) [ag i,aa (aG .i64 x),aa v] d λ(x:Int) d=>True/\aA d (ae e) [ax 0,aa l] λd=>ao d λw1=>aj w1 none (ae e) cw λ(x:Int×Int×Unit)=>f (x.1,x.2.1,()) w1) (bE p 1 d λi=>az AC 183 (.el aT) [ag i,aa h.1,aa 1] d λ(I:Int) d=>p.isSome=true/\p.isSome=true/\((ad p 4).isSome=true/\0<=v/\v<(↑17:Int))/\fT
 d (ad (ad p 4) (v.toNat*1)) λu=>sV u 1 d λy=> ∀w1,Ext d w1-> ∃(r:Nat), ∃(es:Array B1), ∃(m:Nat),y=some r/\bD w1 r es m/\gS w1 r .i64 (aG .i64 n) (.agg ⟨[aa (aG .i64 x),aa h.1]⟩) es m λd=>aA d (ae e) [ax 0,aa 0] λd=>ao d λw1=>aj w1 none (ae e) cw λ(x:Int×Int×Unit)=>f (x.1,x.2.1,()) w1)))))))))):=by kernel_rfl
abbrev nU (a:RS->A2->Prop) (b:A2) (c:Nat):Prop:=
 ao b λw1=>aj w1 none (ae c) cw λ(x:Int×Int×Unit)=>a (x.1,x.2.1,()) w1
theorem Me (p:Option AI) (v k a b c:Int) (w:A2) (f:RS->A2->Prop):(bQ V0 (λ_=>[]) 131 [ag p,aa v,.agg ⟨[aa k,ax a,ax b,ax c]⟩] w f)=(
 aM w ⟨[aa k,ax a,ax b,ax c]⟩ 31 λb d=>aM d ⟨[ax 0,aa 0]⟩ 61 λe d=>true=true/\cH d (ad (ae b) 1) λx=>aH (decide (x>=65536)) (True/\aA d (ae e) [ax 0,aa 2] λd=>nU f d e) (true=true/\cH d (ad (ae b) 1) λx=> ∃(g:Int×Bool×Unit),af AC 174 [ag p,aa v,aa (aG .i64 x)] d (.tuple ⟨[aa g.1,.bool g.2.1]⟩)/\aH (!g.2.1) (True/\aA d (ae e) [ax 0,aa 4] λd=>nU f d e) (true=
 true/\cH d (ad (ae b) 1) λx=>az AC 167 (.bu []) [ag p,aa v,aa (aG .i64 x)] d λx d=>aA d (ae e) [ax 0,aa 0] λd=>nU f d e))):=by kernel_rfl
theorem E' (p:Option AI) (v k a b c:Int) (w:A2) (f:RS->A2->Prop):(bQ V0 (λ_=>[]) 132 [ag p,aa v,.agg ⟨[aa k,ax a,ax b,ax c]⟩] w f)=(
 aM w ⟨[aa k,ax a,ax b,ax c]⟩ 31 λb d=>aM d ⟨[ax 0,aa 0]⟩ 61 λe d=>true=true/\cH d (ad (ae b) 1) λx=>aH (decide (x>=16)) (True/\aA d (ae e) [ax 0,aa 1] λd=>ao d λw1=>aj w1 none (ae e) cw λ(x:Int×Int×Unit)=>f (x.1,x.2.1,()) w1) (bE p 2 d λx=>true=true/\cH d (ad (ae b) 1) λg=>az AC 184 (.el aT) [ag x,aa (aG .i64 g),aa v] d λ(x:Int) d=>True/\aA d (ae e) [ax 0,aa x]
 λd=>ao d λw1=>aj w1 none (ae e) cw λ(x:Int×Int×Unit)=>f (x.1,x.2.1,()) w1)):=by kernel_rfl
theorem Mf (p:Option AI) (v k a b c:Int) (w:A2) (f:RS->A2->Prop):(bQ V0 (λ_=>[]) 133 [ag p,aa v,.agg ⟨[aa k,ax a,ax b,ax c]⟩] w f)=(
 aM w ⟨[aa k,ax a,ax b,ax c]⟩ 31 λb d=>aM d ⟨[ax 0,aa 0]⟩ 61 λe d=>true=true/\cH d (ad (ae b) 1) λx=> ∃(g:Int),af AC 179 [ag p,aa v,ax x] d (aa g)/\aH (g != 0) (True/\aA d (ae e) [ax 0,aa g] λd=>ao d λw1=>aj w1 none (ae e) cw λ(x:Int×Int×Unit)=>f (x.1,x.2.1,()) w1) (bE p 3 d λx=>true=true/\cH d (ad (ae b) 1) λh=>az AC 185 (.bu [.one (.int .i64),.one (.int .i64)])
 [ag x,aa v,aa (aG .i64 h)] d λ(x:Int×Int×Unit) d=>aA d (ae e) [ax (aG .u64 x.1),aa x.2.1] λd=>ao d λw1=>aj w1 none (ae e) cw λ(x:Int×Int×Unit)=>f (x.1,x.2.1,()) w1)):=by kernel_rfl
abbrev nV (a:RS->A2->Prop) (b:A2) (c:Nat):Prop:=
 ao b λw1=>aj w1 none (ae c) cw λ(x:Int×Int×Unit)=>a (x.1,x.2.1,()) w1
theorem Mg (p:Option AI) (v k a b c:Int) (w:A2) (g:RS->A2->Prop):(bQ V0 (λ_=>[]) 134 [ag p,aa v,.agg ⟨[aa k,ax a,ax b,ax c]⟩] w g)=(
 aM w ⟨[aa k,ax a,ax b,ax c]⟩ 31 λb d=>aM d ⟨[ax 0,aa 0]⟩ 61 λe d=>true=true/\cH d (ad (ae b) 1) λx=> ∃(f:Int),af AC 179 [ag p,aa v,ax x] d (aa f)/\((!f==1)=true->true=true)/\aj d (some !f==1) (ad (ae b) 2) ou λ(x:Int)=>aH (f==1||decide (x>=4)) (True/\aA d (ae e) [ax 0,aa 1] λd=>nV g d e) (aH (f != 0) (True/\aA d (ae e) [ax 0,aa f] λd=>nV g d e)
 (bE p 3 d λx=>true=true/\cH d (ad (ae b) 1) λh=>true=true/\cH d (ad (ae b) 2) λi=>az AC 186 (.bu [.one (.int .i64),.one (.int .i64)]) [ag x,aa v,aa (aG .i64 h),aa (aG .i64 i)] d λ(x:Int×Int×Unit) d=>aA d (ae e) [ax (aG .u64 x.1),aa x.2.1] λd=>nV g d e))):=by kernel_rfl
theorem Mh (p:Option AI) (v k a b c:Int) (w:A2) (f:RS->A2->Prop):(bQ V0 (λ_=>[]) 135 [ag p,aa v,.agg ⟨[aa k,ax a,ax b,ax c]⟩] w f)=(
 aM w ⟨[aa k,ax a,ax b,ax c]⟩ 31 λb d=>aM d ⟨[ax 0,aa 0]⟩ 61 λe d=>true=true/\cH d (ad (ae b) 1) λx=>aH (decide (x>=4)) (True/\aA d (ae e) [ax 0,aa 1] λd=>ao d λw1=>aj w1 none (ae e) cw λ(x:Int×Int×Unit)=>f (x.1,x.2.1,()) w1) (bE p 3 d λx=>true=true/\cH d (ad (ae b) 1) λg=>az AC 187 (.el aT) [ag x,aa v,aa (aG .i64 g)] d λ(x:Int) d=>True/\aA d (ae e) [ax 0,aa x] λ
 d=>ao d λw1=>aj w1 none (ae e) cw λ(x:Int×Int×Unit)=>f (x.1,x.2.1,()) w1)):=by kernel_rfl
theorem Mj (p:Option AI) (v k a b c:Int) (w:A2) (e:RS->A2->Prop):(bQ V0 (λ_=>[]) 136 [ag p,aa v,.agg ⟨[aa k,ax a,ax b,ax c]⟩] w e)=(
 aM w ⟨[aa k,ax a,ax b,ax c]⟩ 31 λb d=>aM d ⟨[ax 0,aa 0]⟩ 61 λb d=>bE p 3 d λx=>az AC 188 (.bu [.one (.int .i64),.one .bool]) [ag x,aa v] d λ(x:Int×Bool×Unit) d=>aH (!x.2.1) (aA d (ae b) [ax 0,aa 0] λd=>ao d λw1=>aj w1 none (ae b) cw λ(x:Int×Int×Unit)=>e (x.1,x.2.1,()) w1) (aA d (ae b) [ax (aG .u64 (aI .i64 x.1 1)),aa 0] λd=>ao d λw1=>aj w1 none (ae b) cw λ(x:Int×Int×Unit)=>e
 (x.1,x.2.1,()) w1)):=by kernel_rfl
theorem Hw (p:Option AI) (v k a b c:Int) (w:A2) (f:RS->A2->Prop):(bQ V0 (λ_=>[]) 137 [ag p,aa v,.agg ⟨[aa k,ax a,ax b,ax c]⟩] w f)=(
 aM w ⟨[aa k,ax a,ax b,ax c]⟩ 31 λb d=>aM d ⟨[ax 0,aa 0]⟩ 61 λe d=>true=true/\cH d (ad (ae b) 1) λx=>aH (decide (x>=4)) (True/\aA d (ae e) [ax 0,aa 1] λd=>ao d λw1=>aj w1 none (ae e) cw λ(x:Int×Int×Unit)=>f (x.1,x.2.1,()) w1) (bE p 3 d λx=>true=true/\cH d (ad (ae b) 1) λg=>az AC 189 (.el aT) [ag x,aa v,aa (aG .i64 g)] d λ(x:Int) d=>True/\aA d (ae e) [ax 0,aa x] λ
 d=>ao d λw1=>aj w1 none (ae e) cw λ(x:Int×Int×Unit)=>f (x.1,x.2.1,()) w1)):=by kernel_rfl
abbrev kS (a:RS->A2->Prop) (b:A2) (c:Nat):Prop:=
 ao b λw1=>aj w1 none (ae c) cw λ(x:Int×Int×Unit)=>a (x.1,x.2.1,()) w1
abbrev Ba (d:RS->A2->Prop) (f:A2) (b:Nat) (e:Int×Int×Unit) (c:Nat):Prop:=
 aA f (ae b) [ax e.1,aa e.2.1] λa=>true=true/\aR a (ad (ae b) 1) λx=>aH (x != 0) (true=true/\aR a (ad (ae b) 1) λx=>True/\aA a (ae c) [ax 0,aa x] λa=>kS d a c) (aj a none (ae b) cw λ(x:Int×Int×Unit)=>aA a (ae c) [ax x.1,aa x.2.1] λa=>kS d a c)
abbrev Bb (p:Option AI) (v:Int) (b:RS->A2->Prop) (c:Ag) (a:Int×Int×Int×Int×Unit) (d:A2) (e:Nat) (f:Nat):Prop:=
 zO AC c (.el cw) [ag p,aa v,.agg ⟨[aa a.1,ax a.2.1,ax a.2.2.1,ax a.2.2.2.1]⟩] d λ(x:Int×Int×Unit) g=>Ba b g e x f
theorem ZR (p:Option AI) (v k a b c:Int) (w:A2) (f:RS->A2->Prop):(bQ V1 (λ_=>[]) 42 [ag p,aa v,.agg ⟨[aa k,ax a,ax b,ax c]⟩] w f)=(
 aM w ⟨[aa k,ax a,ax b,ax c]⟩ 31 λb d=>aM d ⟨[ax 0,aa 0]⟩ 61 λe d=> ∃x,af AC 53 [ag p] d (.bool x)/\aH (!x) (True/\aA d (ae e) [ax 0,aa 10] λd=>kS f d e) (aj d (some !(decide (v<0)||decide (v>16))) (ae b) sW λ(x:Int×Int×Int×Int×Unit)=> ∃j,((!(decide (v<0)||decide (v>16)))=true->af AC 76 [.agg ⟨[aa x.1,ax x.2.1,ax x.2.2.1,ax x.2.2.2.1]⟩] d (.bool j))/\aH (decide (v<0)||decide (v>16)
 || !j) (True/\aA d (ae e) [ax 0,aa 1] λd=>kS f d e) (true=true/\aR d (ad (ae b) 0) λx=> ∃l,af AC 77 [aa x] d (.bool l)/\aH (!(v==0)==l) (True/\aA d (ae e) [ax 0,aa 7] λd=>kS f d e) (∃x,(decide (v>0)=true->af AC 19 [ag p,aa v] d (.bool x))/\aH (decide (v>0)&& !x) (True/\aA d (ae e) [ax 0,aa 4] λd=>kS f d e) (true=true/\aR d (ad (ae b) 0) λx=>aj d none (ae b) sW λ(g:Int
 ×Int×Int×Int×Unit)=>(az AC 78 (.el N9) [] d λi d=>cC d (ae b) sW g/\cC d (ad (ae b) 0) aT x/\True/\ ∃(h:Ag),jM d i .i64 x ID h/\(zO AC h (.el cw) [ag p,aa v,.agg ⟨[aa g.1,ax g.2.1,ax g.2.2.1,ax g.2.2.2.1]⟩] d λ(x:Int×Int×Unit) d=>aM d ⟨[ax 0,aa 0]⟩ 61 λb d=>Ba f d b x e)/\aM d ⟨[ax 0,aa 0]⟩ 61 λb d=>Bb p v f h g d b e)/\aM d ⟨[ax 0,aa 0]⟩ 61 λm
 d=>az AC 78 (.el N9) [] d λi d=>cC d (ae b) sW g/\cC d (ad (ae b) 0) aT x/\True/\ ∃(h:Ag),jM d i .i64 x ID h/\Bb p v f h g d m e))))):=by kernel_rfl
open Go.RX D
def px:Nat->Int->Int
 |0,p=>p
 |l+1,p=>px l p / 16
theorem px4 {p:Int} (h:0<=p/\p<65536):px 4 p=0:=by simp only[px];omega
theorem nJ (p:Int) (l:Nat):px l p=16*px (l+1) p+px l p % 16:=by simp only[px];omega
theorem eo (p:Int) (l:Nat):0<=px l p % 16/\px l p % 16<16:=by omega
theorem ZS {p:Int} (h:0<=p/\p<65536) {l:Nat} (a:l<=3):fj p (l:Int)=px l p % 16:=by
 unfold fj;rw[ay (by omega)];congr 1;rcases l with _| _| _| _|l
 ·show p / 1=p;omega
 ·rfl
 ·show p / 256=p / 16 / 16;omega
 ·show p / 4096=p / 16 / 16 / 16;omega
 ·omega
theorem lq {f p:Int} (b:0<=f/\f<4096) (h:0<=p/\p<65536) {l:Nat} (a:l<=3):dX f p (l:Int)=16*f+px l p % 16:=by
 unfold dX;rw[ZS h a,au (by omega)]
theorem oV:eR 0=zE:=by decide+kernel
theorem Ke:dH zE=false:=by decide
theorem Hx (v:Int):bR (eR v).1 (eR v).2.1 (eR v).2.2.1 (eR v).2.2.2.1=true:=by
 unfold eR Ib FB JZ Fk;cases h:ux (B v).toNat with
 |false=>simp;decide
 |true=>
  unfold ux at h;simp only[Bool.and_eq_true] at h;simpa using h.2
theorem xB {p:Bool} {r:Int} {l:Bool} {f:Int} (h:bR p r l f=true):eR (FA p r l f)=(p,r,l,f,()):=by
 have hb:=yR h;unfold FA;rw[ay h];obtain⟨h1,v,k,w,m⟩:=hb;obtain⟨r,rfl⟩:=I1 h1;obtain⟨f,rfl⟩:=I1 k;have key: ∀n:Nat,vx p (r:Int) l (f:Int)=(n:Int)->n<18446744073709551616->(n % 2==1)=p->n / 2 % 8=r->(n / 16 % 2==1)=l->n / 32 % 128=0->n / 4096 % 4096=f->n / 16777216 % 1099511627776=0->eR (vx p (r:Int) l (f:Int))=(p,(r:Int),l,(f:Int),()):=by
  intro n e x d g i o j q;have s:(B (vx p (r:Int) l (f:Int))).toNat=n:=by rw[e,Iv (by omega) (by omega)];omega
  have ok:ux n=true:=by
   unfold ux;rw[o,q,d,g,i,j,h];decide
  unfold eR Ib FB JZ Fk;rw[s,ok,d,g,i,j];simp
 cases p with
 |false=>
  obtain⟨a,b,c⟩:=m rfl;subst b;have t:r=0:=by omega
  have u:f=0:=by omega
  subst t;subst u;exact key 0 rfl (by decide) rfl rfl rfl rfl rfl rfl
 |true=>
  have y:nB l<=1:=Oy l;refine key (1+2*r+16*nB l+4096*f) ?_ (by omega) ?_ (by omega) ?_ (by omega) (by omega) (by omega)
  ·unfold vx;have:nB true=1:=rfl;rw[this];omega
  ·have:(1+2*r+16*nB l+4096*f) % 2=1:=by omega
   rw[this];rfl
  ·have:(1+2*r+16*nB l+4096*f) / 16 % 2=nB l:=by omega
   rw[this];cases l<;>rfl
theorem lD (ws:List Int) (a:Int):bR (aL ws a).1 (aL ws a).2.1 (aL ws a).2.2.1 (aL ws a).2.2.2.1=true:=Hx _
theorem dC {f:Int} (h:0<=f/\f<4096):dH (cd f)=true:=by
 unfold dH cd fG bR;simp;omega
theorem Hy {f:Int} (h:0<=f/\f<4096):bR true 0 false f=true:=by
 unfold bR;simp;omega
theorem RQ {f:Int} (h:0<=f/\f<4096):eR (Tp (cd f))=cd f:=xB (Hy h)
theorem iY {ws:List Int} {i:Int} (h:0<=i) (h':i<ws.length):sq ws i=true:=iX.2 ⟨h,h'⟩
theorem xC {ws:List Int} {a v:Int} (h:sq ws a=true):dE (dJ ws a v) a=v:=by
 have hi:=iX.1 h;have b:sq (dJ ws a v) a=true:=iX.2 ⟨hi.1,by rw[cA];exact hi.2⟩;unfold dE;rw[ay b];unfold dJ;rw[ay h,Dj,Do (by omega)];rfl
theorem mJ {ws:List Int} {a b v:Int} (h:a≠b):dE (dJ ws a v) b=dE ws b:=by
 have e:sq (dJ ws a v) b=sq ws b:=by unfold sq;rw[cA]
 unfold dE;rw[e];by_cases hb:sq ws b=true
 ·rw[ay hb,ay hb];unfold dJ;split
  ·rename_i c;have h1:=iX.1 c;have d:=iX.1 hb;rw[Dj,Dj,Bx (by omega)]
  ·rfl
 ·rw[au hb,au hb]
theorem tg {ws:List Int} {f:Int} {G:Int->Int} (a:0<=f) (c:16*f+16<=ws.length): ∀n:Nat,n<=16-> ∀b,dE (eT ws f G n) b=if 16*f<=b/\b<16*f+(n:Int) then G (b - 16*f) else dE ws b
 |0, _,b=>by rw[au (by omega)];rfl
 |n+1,d,b=>by
  rw[eT];by_cases e:16*f+(n:Int)=b
  ·subst e;rw[xC (iY (by omega) (by rw[gF];omega)),ay (by omega)];congr 1;omega
  ·rw[mJ e,tg a c n (by omega) b];by_cases h:16*f<=b/\b<16*f+(n:Int)
   ·rw[ay h,ay (by omega)]
   ·rw[au h,au (by omega)]
theorem Eo {ds:List DT} (h:0<cj ds 0): ∃i d,iC ds=some i/\i<ds.length/\ds[i]? =some d/\d.1=0:=by
 unfold cj at h;rw[List.countP_pos_iff] at h;obtain⟨a,c,h0⟩:=h;cases b:iC ds with
 |none=>
  unfold iC at b;rw[Hq] at b;have:=b a c;rw[this] at h0;cases h0
 |some i=>
  unfold iC at b;rw[GH] at b;obtain⟨h1,e, _⟩:=b;exact⟨i,ds[i],rfl,h1,DA h1,by simpa using e⟩
theorem Bc {o:Int} (h:1<=o/\o<=16):aO 3 o zD=((3,o,0,0,()),0):=by
 have e:gN 0 0 0 0 3 o=0:=by
  unfold gN;rw[au (by decide),au (by decide),ay (by decide),au ?_];unfold dP jB;simp;omega
 unfold aO zD mG lf;dsimp only;rw[e];simp
theorem mY {ds:List DT} {o:Int} (h:0<cj ds 0) (f: ∀d∈ds,d.1=0->d=zD) (b:1<=o/\o<=16): ∃i:Nat,i<ds.length/\ds[i]? =some zD/\e_ ds 3 o=(i:Int)/\dO ds 3 o=0/\dy ds 3 o=ds.set i (3,o,0,0,()):=by
 obtain⟨i,d,h1,g,a,j⟩:=Eo h;have k:d=zD:=f d (DB a) j;subst k;have c:ds.getD i zD=zD:=by rw[Dj,a];rfl
 have e:vn ds (i:Int) (aO 3 o)=0:=by
  rw[yB (by omega)];show(aO 3 o (ds.getD i zD)).2=0;rw[c,Bc b]
 have l:dF ds (i:Int) (aO 3 o)=ds.set i (3,o,0,0,()):=by
  rw[o9 (by omega)];show(if(aO 3 o (ds.getD i zD)).2=0 then ds.set i (aO 3 o (ds.getD i zD)).1 else ds)= _;rw[c,Bc b,ay rfl]
 refine⟨i,g,a,?_,?_,?_⟩
 ·unfold e_;rw[h1];dsimp only;rw[ay e]
 ·unfold dO;rw[au (by omega),h1];exact e
 ·unfold dy;rw[h1];exact l
theorem th {ds:List DT} {i:Nat} {d d':DT} (h:ds[i]? =some d) (v:Int):cj (ds.set i d') v+(if d.1=v then 1 else 0)=cj ds v+(if d'.1=v then 1 else 0):=by
 have hi:i<ds.length:=(B6.1 h).1;have a:ds=ds.take i++d::ds.drop (i+1):=by
  have:=(HB i ds).symm;rw[Fw hi,(B6.1 h).2] at this;exact this
 have b:ds.set i d'=ds.take i++d'::ds.drop (i+1):=by rw[List.set_eq_take_append_cons_drop,ay hi]
 unfold cj;rw[b]
 conv=>rhs;rw[a]
 simp only[List.countP_append,List.countP_cons];by_cases h1:d.1=v<;>by_cases c:d'.1=v<;>simp[h1,c]<;>omega
theorem Ep {o:Int} (h:1<=o/\o<=16):aO 5 0 (3,o,0,0,())=((5,o,0,0,()),0):=by
 have a:dP 3 o 0 0=true:=by unfold dP jB;simp;omega
 have b:dP 5 o 0 0=true:=by unfold dP jB;simp;omega
 have e:gN 3 o 0 0 5 0=0:=by
  unfold gN;rw[a,au (by decide),au (by decide),ay (by decide),ay rfl,b,au (by decide)]
 unfold aO mG lf;dsimp only;rw[e];simp
abbrev Gh:Type:=Int->Option (Int×Nat×Int)
def mD (g:Gh) (f:Int) (v:Option (Int×Nat×Int)):Gh:=λx=>if x=f then v else g x
theorem bI (g:Gh) (f:Int) (v:Option (Int×Nat×Int)):mD g f v f=v:=ay rfl
theorem aW {g:Gh} {f x:Int} (h:x≠f) (v:Option (Int×Nat×Int)):mD g f v x=g x:=au h
def lx (l:Nat) (e:ET):Prop:=e.1=true->dH e=false->(l=0/\e.2.2.1=false)\/(l=1/\e.2.2.1=true/\e.2.2.2.1 % 16=0)
theorem DP (l:Nat):lx l zE:=λh=>by cases h
theorem abm (l:Nat) {e:ET} (h:dH e=true):lx l e:=λh'=>by grind
structure Inv (g:Gh) (s:WD):Prop where
 len:16*s.2.length<=s.1.length
 le:s.2.length<=4096
 fz: ∀d∈s.2,d.1=0->d=zD
 kd: ∀{f o l x},g f=some (o,l,x)->0<=f/\f<s.2.length/\s.2[f.toNat]? =some (3,o,0,0,())/\1<=o/\o<=16/\l<=3
 inj: ∀{f f' v},g f=some v->g f'=some v->f=f'
 si: ∀{f o l x i},g f=some (o,l,x)->0<=i->i<16->dH (aL s.1 (16*f+i))=true-> ∃m,l=m+1/\g (aL s.1 (16*f+i)).2.2.2.1=some (o,m,16*x+i)
 leaf: ∀{f o l x i},g f=some (o,l,x)->0<=i->i<16->lx l (aL s.1 (16*f+i))
 Fl: ∀{f o l x},g f=some (o,l,x)->l<3-> ∃f',g f'=some (o,l+1,x / 16)/\aL s.1 (16*f'+x % 16)=cd f
 wf: ∀{f o l x i},g f=some (o,l,x)->0<=i->i<16->(aL s.1 (16*f+i)).1=false->dE s.1 (16*f+i)=0
 tb: ∀{n:Nat} {d},s.2[n]? =some d->d.1=3-> ∃v,g (n:Int)=some v
def dz (g:Gh) (s:WD) (o p f:Int) (j:Nat):Prop:=g f=some (o,j,px (j+1) p)/\dH (aL s.1 (16*f+px j p % 16))=false
theorem fW {ws:List Int} {a v b:Int} (h:a≠b):aL (dJ ws a v) b=aL ws b:=by grind[aL,mJ]
theorem yV {ws:List Int} {a v:Int} (h:sq ws a=true):aL (dJ ws a v) a=eR v:=by grind[aL,xC]
namespace Inv
variable {g:Gh} {s:WD}
theorem vo (I:Inv g s) {f o:Int} {l:Nat} {x:Int} (h:g f=some (o,l,x)):0<=f/\f<4096/\16*f+16<=s.1.length:=by
 have:=I.kd h;have:=I.len;have:=I.le;omega
theorem reach (I:Inv g s) {o r p:Int} (c:g r=some (o,3,0)) (b:0<=p/\p<65536): ∀(n:Nat) {f:Int} {j:Nat},j+n=3->g f=some (o,j,px (j+1) p)-> ∃a,dh s.1 p 3 r=a++dh s.1 p j f
 |0,f,j,d,h=>by
  have:j=3:=by omega
  subst this;rw[px4 b] at h;rw[I.inj h c];simp
 |n+1,f,j,d,h=>by
  obtain⟨f',h1,i⟩:=I.Fl h (by omega);have k:=h1;obtain⟨a,u⟩:=I.reach c b n (by omega) k;obtain⟨l,m, _⟩:=I.vo h1;refine⟨a++[(f',(j+1:Int),dX f' p (j+1:Nat),())],?_⟩;have q:j+1<=3:=by omega
  have e:dh s.1 p (j+1) f'=(f',(j+1:Int),dX f' p (j+1:Nat),())::dh s.1 p j f:=by
   rw[dh];have t:aL s.1 (dX f' p (j+1:Nat))=cd f:=by rw[lq ⟨l,m⟩ b q];exact i
   obtain⟨c1,c2, _⟩:=I.vo h;rw[t,ay (dC ⟨c1,c2⟩)];rfl
  grind
theorem ace {ws:List Int} {p f:Int} {j:Nat} (h:dH (aL ws (dX f p (j:Int)))=false):dh ws p j f=[(f,(j:Int),dX f p (j:Int),())]:=by
 cases j with
 |zero=>rfl
 |succ=>rw[dh,au (by grind)]
theorem nK (I:Inv g s) {o r p:Int} (e:g r=some (o,3,0)) (b:0<=p/\p<65536) {f:Int} {j:Nat} (h:dz g s o p f j):
 dw s.1 r p=(f,(j:Int),16*f+px j p % 16,())/\cY s.1 r p=aL s.1 (16*f+px j p % 16):=by
 have i:=I.kd h.1;obtain⟨k,l, _⟩:=I.vo h.1;obtain⟨a,m⟩:=I.reach e b (3 - j) (by omega) h.1;have c:=lq ⟨k,l⟩ b i.2.2.2.2.2;have d:dw s.1 r p=(f,(j:Int),16*f+px j p % 16,()):=by
  unfold dw;rw[m,ace (by rw[c];exact h.2),c,List.getLastD_concat]
 exact⟨d,by unfold cY;rw[d]⟩
theorem Pm (I:Inv g s) {o p:Int}: ∀(l:Nat) {f:Int},g f=some (o,l,px (l+1) p)-> ∃f' j,j<=l/\dz g s o p f' j
 |l,f,h=>by
  cases a:dH _ with
  |false=>exact⟨f,l,by simp,h,a⟩
  |true=>
   obtain⟨m,rfl,b⟩:=I.si h (eo p l).1 (eo p l).2 a;rw[<-nJ] at b;obtain:=I.Pm m b
   grind
theorem mv (I:Inv g s) {o r p:Int} (a:g r=some (o,3,0)) (b:0<=p/\p<65536): ∃f j,j<=3/\dz g s o p f j:=I.Pm 3 (by rw[px4 b];exact a)
theorem grow (I:Inv g s) {f o x i:Int} {m:Nat} (r:g f=some (o,m+1,x)) (FC:0<=i) (zT:i<16) (l:dH (aL s.1 (16*f+i))=false) (hc:0<cj s.2 0) (G:Int->Int)
 (J: ∀k,0<=k->k<16->dH (eR (G k))=false/\lx m (eR (G k))/\((eR (G k)).1=false->G k=0)):
 rj s o=0/\g (eh s o)=none/\0<=eh s o/\eh s o<s.2.length/\(dN (iK s o G) (16*f+i) (cd (eh s o))).2=s.2.set (eh s o).toNat (3,o,0,0,())/\s.2[(eh s o).toNat]? =some zD/\
 (∀b,b≠16*f+i->(b<16*eh s o\/16*eh s o+16<=b)->aL (dN (iK s o G) (16*f+i) (cd (eh s o))).1 b=aL s.1 b)/\
 (∀k,0<=k->k<16->aL (dN (iK s o G) (16*f+i) (cd (eh s o))).1 (16*eh s o+k)=eR (G k))/\
 aL (dN (iK s o G) (16*f+i) (cd (eh s o))).1 (16*f+i)=cd (eh s o)/\
 Inv (mD g (eh s o) (some (o,m,16*x+i))) (dN (iK s o G) (16*f+i) (cd (eh s o))):=by
 have B:=I.kd r;obtain⟨n,T,M,j,C,N⟩:=mY hc I.fz ⟨B.2.2.2.1,B.2.2.2.2.1⟩;have O:eh s o=(n:Int):=j;have P:rj s o=0:=C;have U:=I.len;have V:=I.le;have X:16*(n:Int)+16<=s.1.length:=by omega
 obtain⟨W,D⟩: ∃W,W=eT s.1 (n:Int) G 16:=⟨_,rfl⟩;have Q:W.length=s.1.length:=by rw[D,gF]
 have Y: ∀b,dE W b=if 16*(n:Int)<=b/\b<16*(n:Int)+16 then G (b - 16*(n:Int)) else dE s.1 b:=λb=>by
  rw[D];exact tg (by omega) X 16 (BP _) b
 have Z:iK s o G=(W,s.2.set n (3,o,0,0,())):=by unfold iK;rw[ay P,O,N,D]
 clear D;have iq:=I.vo r;have gn:g (n:Int)=none:=by
  cases hg:g (n:Int) with
  |none=>rfl
  |some v=>
   obtain⟨a,b,c⟩:=v;have:=(I.kd hg).2.2.1;rw[show((n:Int)).toNat=n from rfl,M] at this;cases this
 have E: ∀{f':Int} {v},g f'=some v->f'≠(n:Int):=λh e=>by rw[e,gn] at h;cases h
 have rb:f≠(n:Int):=E r;rw[Z,O];have X4:sq (W) (16*f+i)=true:=iY (by omega) (by rw[Q];omega);have K: ∀b,b≠16*f+i->dE (dJ (W) (16*f+i) (Tp (cd (n:Int)))) b=if 16*(n:Int)<=b/\b<16*(n:Int)+16 then G (b - 16*(n:Int)) else dE s.1 b:=λb hb=>by
  rw[mJ (λe=>hb e.symm),Y b]
 have w0: ∀b,b≠16*f+i->aL (dJ (W) (16*f+i) (Tp (cd (n:Int)))) b=if 16*(n:Int)<=b/\b<16*(n:Int)+16 then eR (G (b - 16*(n:Int))) else aL s.1 b:=λb hb=>by
  unfold aL;rw[K b hb];split<;>rfl
 have w1: ∀b,b≠16*f+i->(b<16*(n:Int)\/16*(n:Int)+16<=b)->aL (dN (W,s.2.set n (3,o,0,0,())) (16*f+i) (cd (n:Int))).1 b=aL s.1 b:=λb hb h=>by
  show aL (dJ _ _ _) b= _;rw[w0 b hb,au (by omega)]
 have F: ∀k,0<=k->k<16->aL (dN (W,s.2.set n (3,o,0,0,())) (16*f+i) (cd (n:Int))).1 (16*(n:Int)+k)=eR (G k):=λk h0 h1=>by
  show aL (dJ _ _ _) _= _;rw[w0 _ (by omega),ay (by omega)];congr 2;omega
 have y:aL (dN (W,s.2.set n (3,o,0,0,())) (16*f+i) (cd (n:Int))).1 (16*f+i)=cd (n:Int):=by
  show aL (dJ _ _ _) _= _;rw[yV X4,RQ (by omega)]
 refine⟨P,gn,by omega,by omega,rfl,by rw[show((n:Int)).toNat=n from rfl];exact M,w1,F,y,?_⟩;have fI: ∀{f0 t p k:Int} {u:Nat},g f0=some (t,u,p)->0<=k->k<16->(16*f0+k=16*f+i/\f0=f/\k=i)\/aL (dN (W,s.2.set n (3,o,0,0,())) (16*f+i) (cd (n:Int))).1 (16*f0+k)=aL s.1 (16*f0+k):=λ{f0 t p k u} h h0 h1=>by
  by_cases e:16*f0+k=16*f+i
  ·exact .inl ⟨e,by omega,by omega⟩
  ·have:=E h;exact .inr (w1 _ e (by omega))
 refine⟨?_,?_,?_,?_,?_,?_,?_,?_,?_,?_⟩
 ·show 16*(s.2.set n _).length<=(dJ W _ _).length;rw[cA,Q,B5];exact U
 ·show(s.2.set n _).length<=4096;rw[B5];exact V
 ·intro d L h0;rcases FE L with L|rfl
  ·exact I.fz d L h0
  ·cases h0
 ·intro f0 t u p h;show _/\ _<((s.2.set n (3,o,0,0,())).length:Int)/\(s.2.set n (3,o,0,0,()))[f0.toNat]? = _/\ _;rw[B5];by_cases e:f0=(n:Int)
  ·subst e;rw[bI] at h;cases h;refine⟨by omega,by omega,?_,B.2.2.2.1,B.2.2.2.2.1,by omega⟩;rw[show((n:Int)).toNat=n from rfl,Do T]
  ·rw[aW e] at h;obtain⟨a1,a2,a3,a4⟩:=I.kd h;refine⟨a1,a2,?_,a4⟩;rw[Bx (by omega)];exact a3
 ·intro a b v w hb;by_cases e:a=(n:Int)<;>by_cases e':b=(n:Int)
  ·rw[e,e']
  ·subst e;rw[bI] at w;rw[aW e'] at hb;cases w;exfalso;obtain⟨f',p1,p2⟩:=I.Fl hb (by omega);have z:(16*x+i) / 16=x:=by omega
   have A:(16*x+i) % 16=i:=by omega
   rw[z] at p1;rw[A] at p2;rw[I.inj p1 r, ] at p2;rw[p2] at l;obtain⟨c1,c2, _⟩:=I.vo hb;rw[dC ⟨c1,c2⟩] at l;cases l
  ·subst e';rw[bI] at hb;rw[aW e] at w;cases hb;exfalso;obtain⟨f',p1,p2⟩:=I.Fl w (by omega);have z:(16*x+i) / 16=x:=by omega
   have A:(16*x+i) % 16=i:=by omega
   rw[z] at p1;rw[A] at p2;rw[I.inj p1 r, ] at p2;rw[p2] at l;obtain⟨c1,c2, _⟩:=I.vo w;rw[dC ⟨c1,c2⟩] at l;cases l
  ·rw[aW e] at w;rw[aW e'] at hb;exact I.inj w hb
 ·intro f0 t u p k h h0 h1 H;by_cases e:f0=(n:Int)
  ·subst e;rw[F k h0 h1,(J k h0 h1).1] at H;cases H
  ·rw[aW e] at h;rcases fI h h0 h1 with ⟨j,rfl,rfl⟩|j
   ·rw[j,y];rw[r] at h;cases h;exact⟨m,rfl,bI _ _ _⟩
   ·rw[j] at H ⊢;obtain⟨m',q1,R⟩:=I.si h h0 h1 H;exact⟨m',q1,by rw[aW (E R)];exact R⟩
 ·intro f0 t u p k h h0 h1;by_cases e:f0=(n:Int)
  ·subst e;rw[bI] at h;cases h;rw[F k h0 h1];exact(J k h0 h1).2.1
  ·rw[aW e] at h;rcases fI h h0 h1 with ⟨j,rfl,rfl⟩|j
   ·rw[j,y];exact abm _ (dC (by omega))
   ·rw[j];exact I.leaf h h0 h1
 ·intro f0 t u p h hl;by_cases e:f0=(n:Int)
  ·subst e;rw[bI] at h;cases h;have z:(16*x+i) / 16=x:=by omega
   have A:(16*x+i) % 16=i:=by omega
   exact⟨f,by rw[aW rb,z];exact r,by rw[A];exact y⟩
  ·rw[aW e] at h;obtain⟨f',p1,p2⟩:=I.Fl h hl;refine⟨f',by rw[aW (E p1)];exact p1,?_⟩;rcases fI p1 (by omega:0<=p % 16) (by omega) with ⟨j,rfl,N⟩|j
   ·exfalso;rw[j] at p2;rw[p2] at l;obtain⟨c1,c2, _⟩:=I.vo h;rw[dC ⟨c1,c2⟩] at l;cases l
   ·rw[j];exact p2
 ·intro f0 t u p k h h0 h1 q;by_cases e:f0=(n:Int)
  ·subst e;rw[F k h0 h1] at q;show dE (dJ _ _ _) _=0;rw[K _ (by omega),ay (by omega),show 16*(n:Int)+k - 16*(n:Int)=k from by omega];exact(J k h0 h1).2.2 q
  ·rw[aW e] at h;rcases fI h h0 h1 with ⟨j,rfl,rfl⟩|j
   ·rw[j,y] at q;cases q
   ·rw[j] at q;have hb:16*f0+k≠16*f+i:=λC=>by
     rw[C,y] at j;rw[C, <-j] at q;cases q
    show dE (dJ _ _ _) _=0;rw[K _ hb,au (by omega)];exact I.wf h h0 h1 q
 ·intro S d rh h3;by_cases e:S=n
  ·subst e;exact⟨_,bI _ _ _⟩
  ·have h':(s.2.set n (3,o,0,0,()))[S]? =some d:=rh;rw[Bx (by omega)] at h';obtain⟨v,hv⟩:=I.tb h' h3;exact⟨v,by rw[aW (by omega)];exact hv⟩
theorem VI (I:Inv g s) {f o x i v:Int} {l:Nat} (t:g f=some (o,l,x)) (z:0<=i) (A:i<16) (d:dH (aL s.1 (16*f+i))=false) (hv:dH (eR v)=false) (q:lx l (eR v)) (u:(eR v).1=false->v=0):
 aL (dJ s.1 (16*f+i) v) (16*f+i)=eR v/\Inv g (dJ s.1 (16*f+i) v,s.2):=by
 have B:=I.vo t;have r:sq s.1 (16*f+i)=true:=iY (by omega) (by omega);have j:=yV (v:=v) r;have fI: ∀{f0 k:Int},0<=k->k<16->(16*f0+k=16*f+i/\f0=f/\k=i)\/aL (dJ s.1 (16*f+i) v) (16*f0+k)=aL s.1 (16*f0+k):=λ{f0 k} h0 h1=>by
  by_cases e:16*f0+k=16*f+i
  grind
  ·exact .inr (fW (λe'=>e e'.symm))
 refine⟨j,by rw[cA];exact I.len,I.le,I.fz,I.kd,I.inj,?_,?_,?_,?_,I.tb⟩
 ·intro f0 m n b k h h0 h1 p;rcases fI (f0:=f0) h0 h1 with ⟨a,rfl,rfl⟩|a
  ·rw[j,hv] at p;cases p
  ·have w:dH (aL s.1 (16*f0+k))=true:=by rw[<-a];exact p
   rw[a];exact I.si h h0 h1 w
 ·intro f0 m n b k h h0 h1;rcases fI (f0:=f0) h0 h1 with ⟨a,rfl,rfl⟩|a
  grind
  ·rw[a];exact I.leaf h h0 h1
 ·intro f0 m n b h q;obtain⟨f',p1,p2⟩:=I.Fl h q;refine⟨f',p1,?_⟩;rcases fI (f0:=f') (by omega:0<=b % 16) (by omega) with ⟨a,rfl,C⟩|a
  ·exfalso;rw[a] at p2;rw[p2] at d;obtain⟨c1,c2, _⟩:=I.vo h;rw[dC ⟨c1,c2⟩] at d;cases d
  ·rw[a];exact p2
 ·intro f0 m n b k h h0 h1 y;have c:=y;by_cases e:16*f0+k=16*f+i
  ·rw[e,j] at c;rw[e,xC r];exact u c
  ·rw[fW (λe'=>e e'.symm)] at c;rw[mJ (λe'=>e e'.symm)];exact I.wf h h0 h1 c
theorem abn (I:Inv g s) {f o x i f2:Int} {m:Nat} (u:g f=some (o,m+1,x)) (W:0<=i) (X:i<16) (B:g f2=some (o,m,16*x+i)) (K:aL s.1 (16*f+i)=cd f2) (L: ∀k,0<=k->k<16->aL s.1 (16*f2+k)=zE):
 aL (dJ s.1 (16*f+i) 0) (16*f+i)=zE/\dF s.2 f2 (aO 5 0)=s.2.set f2.toNat (5,o,0,0,())/\Inv (mD g f2 none) (dJ s.1 (16*f+i) 0,dF s.2 f2 (aO 5 0)):=by
 have Y:=I.vo u;have C:=I.kd u;have w:=I.kd B;have D:sq s.1 (16*f+i)=true:=iY (by omega) (by omega);have q:aL (dJ s.1 (16*f+i) 0) (16*f+i)=zE:=by rw[yV D];exact oV
 have E:dF s.2 f2 (aO 5 0)=s.2.set f2.toNat (5,o,0,0,()):=by
  rw[o9 ⟨w.1,w.2.1⟩,Dj,w.2.2.1];show(if(aO 5 0 (3,o,0,0,())).2=0 then s.2.set f2.toNat (aO 5 0 (3,o,0,0,())).1 else _)= _;rw[Ep ⟨C.2.2.2.1,C.2.2.2.2.1⟩,ay rfl]
 have j: ∀{f0 v},mD g f2 none f0=some v->f0≠f2/\g f0=some v:=λ{f0 v} h=>by
  by_cases e:f0=f2
  ·rw[e,bI] at h;cases h
  ·rw[aW e] at h;exact⟨e,h⟩
 have fI: ∀{f0 k:Int},0<=k->k<16->(16*f0+k=16*f+i/\f0=f/\k=i)\/aL (dJ s.1 (16*f+i) 0) (16*f0+k)=aL s.1 (16*f0+k):=λ{f0 k} h0 h1=>by
  by_cases e:16*f0+k=16*f+i
  ·exact .inl ⟨e,by omega,by omega⟩
  ·exact .inr (fW (λe'=>e e'.symm))
 refine⟨q,E,?_⟩;rw[E];refine⟨?_,?_,?_,?_,?_,?_,?_,?_,?_,?_⟩
 ·show 16*(s.2.set _ _).length<=(dJ _ _ _).length;rw[cA,B5];exact I.len
 ·show(s.2.set _ _).length<=4096;rw[B5];exact I.le
 ·intro d y h0;rcases FE y with y|rfl
  ·exact I.fz d y h0
  ·cases h0
 ·intro f0 r n l h;obtain⟨p,h⟩:=j h;rw[B5];obtain⟨a1,F,M,Z⟩:=I.kd h
  grind
 ·intro a b v N hb;exact I.inj (j N).2 (j hb).2
 ·intro f0 r n l k h h0 h1 z;obtain⟨p,h⟩:=j h;rcases fI (f0:=f0) h0 h1 with ⟨c,rfl,rfl⟩|c
  ·rw[q] at z;cases z
  ·have A:dH (aL s.1 (16*f0+k))=true:=by rw[<-c];exact z
   rw[c];obtain⟨O,G,t⟩:=I.si h h0 h1 A;refine⟨O,G,?_⟩;rw[aW]
   ·exact t
   ·intro e;rw[e,B] at t;simp only[BY,B7] at t;obtain⟨a1,F,M⟩:=t;have P:k=i:=by omega
    have Q:l=x:=by omega
    subst P;subst Q;subst a1;subst F;subst G;have:=I.inj h u;subst this;rw[q] at c;rw[<-c] at A;cases A
 ·intro f0 r n l k h h0 h1;obtain⟨p,h⟩:=j h;show lx n (aL (dJ s.1 (16*f+i) 0) (16*f0+k));rcases fI (f0:=f0) h0 h1 with ⟨c,rfl,rfl⟩|c
  ·rw[q];exact DP _
  ·rw[c];exact I.leaf h h0 h1
 ·intro f0 r n l h R;obtain⟨p,h⟩:=j h;obtain⟨f',p1,p2⟩:=I.Fl h R;have S:f'≠f2:=λe=>by
   rw[e,L _ (by omega) (by omega)] at p2;cases p2
  refine⟨f',by rw[aW S];exact p1,?_⟩;show aL (dJ s.1 (16*f+i) 0) (16*f'+l % 16)= _;rcases fI (f0:=f') (by omega:0<=l % 16) (by omega) with ⟨c,rfl,e3⟩|c
  ·exfalso;rw[c,K] at p2;unfold cd at p2;simp only[B7,and_true,true_and] at p2;exact p p2.symm
  ·rw[c];exact p2
 ·intro f0 r n l k h h0 h1 T;obtain⟨p,h⟩:=j h;show dE (dJ s.1 (16*f+i) 0) (16*f0+k)=0;have H:(aL (dJ s.1 (16*f+i) 0) (16*f0+k)).1=false:=T;by_cases e:16*f0+k=16*f+i
  ·rw[e,xC D]
  ·rw[fW (λe'=>e e'.symm)] at H;rw[mJ (λe'=>e e'.symm)];exact I.wf h h0 h1 H
 ·intro J d U V;have h':(s.2.set f2.toNat (5,o,0,0,()))[J]? =some d:=U;by_cases e:J=f2.toNat
  grind
  ·rw[Bx (by omega)] at h';obtain⟨v,hv⟩:=I.tb h' V;exact⟨v,by rw[aW (by omega)];exact hv⟩
end Inv
set_option maxRecDepth 100000
open Go.RX D
def mi (p:Int) (j:Nat) (e:ET):Int×Int×Int×Unit:=if e.1=true then(if j=1 then e.2.2.2.1+p % 16 else e.2.2.2.1,e.2.1,0,()) else(0,0,4,())
theorem FY (p:Int) (j:Nat) {e:ET} (h:e.1=false):mi p j e=(0,0,4,()):=by grind[mi]
def mK (g g':Gh):Prop:= ∀o r x,g' r=some (o,3,x)<->g r=some (o,3,x)
theorem mK.refl (g:Gh):mK g g:=λ_ _ _=>Iff.rfl
theorem mK.trans {a b c:Gh} (h:mK a b) (k:mK b c):mK a c:=λo r x=>(k o r x).trans (h o r x)
theorem mK.to {g g':Gh} {o r x:Int} (h:mK g g') (k:g r=some (o,3,x)):g' r=some (o,3,x):=(h _ _ _).2 k
def Ah (o:Int) (g g':Gh) (s s':WD):Prop:= ∀ ⦃f o' l x⦄,o'≠o->g f=some (o',l,x)->g' f=some (o',l,x)/\ ∀k,0<=k->k<16->aL s'.1 (16*f+k)=aL s.1 (16*f+k)
theorem Ah.refl (o:Int) (g:Gh) (s:WD):Ah o g g s s:=λ_ _ _ _ _ h=>⟨h,λ_ _ _=>rfl⟩
theorem Ah.trans {o:Int} {a b c:Gh} {s t u:WD} (h:Ah o a b s t) (k:Ah o b c t u):Ah o a c s u:=λ_ _ _ _ d e=>by
 obtain⟨h1⟩:=h d e;obtain:=k d h1
 grind
def sY (P:Int->Int->Prop) (g g':Gh) (s s':WD):Prop:= ∀ ⦃o p f j⦄,¬ P o p->dz g s o p f j-> ∃f' a,dz g' s' o p f' a/\mi p a (aL s'.1 (16*f'+px a p % 16))=mi p j (aL s.1 (16*f+px j p % 16))
theorem sY.refl (P:Int->Int->Prop) (g:Gh) (s:WD):sY P g g s s:=λ_ _ _ _ _ h=>⟨_, _,h,rfl⟩
theorem sY.trans {P:Int->Int->Prop} {a b c:Gh} {s t u:WD} (h:sY P a b s t) (k:sY P b c t u):sY P a c s u:=λ_ _ _ _ d e=>by
 obtain⟨f1,j1,h1,f⟩:=h d e;obtain:=k d h1
 grind
theorem sY.mono {P c:Int->Int->Prop} {a b:Gh} {s t:WD} (h:sY P a b s t) (e: ∀o p,P o p->c o p):sY c a b s t:=λ_ _ _ _ f d=>h (by grind) d
def X6:Int->Int->Prop:=λ_ _=>False
def n7 (o:Int) (l:Nat) (p:Int):Int->Int->Prop:=λo' q=>o'=o/\px l q=px l p
namespace Inv
variable {g:Gh} {s:WD}
theorem fH (I:Inv g s) {o r p:Int} (a:g r=some (o,3,0)) (b:0<=p/\p<65536) {f:Int} {j:Nat} (h:dz g s o p f j):bA s r false p=mi p j (aL s.1 (16*f+px j p % 16)):=by
 obtain:=I.nK a b h;unfold bA mi;unfold qt
 grind
theorem yW (I:Inv g s) {g':Gh} {s':WD} (c:Inv g' s') {P:Int->Int->Prop} (d:sY P g g' s s') (i:mK g g') {o r p:Int} (a:g r=some (o,3,0)) (k: ¬ P o p):bA s' r false p=bA s r false p:=by
 by_cases h:0<=p/\p<65536
 ·obtain⟨f,j, _,b⟩:=I.mv a h;obtain⟨f',m,h1,l⟩:=d k b;rw[I.fH a h b,c.fH (i.to a) h h1,l]
 ·have e: ∀t,bA t r false p=(0,0,2,()):=λt=>by
   unfold bA
   grind
  grind
theorem Er (I:Inv g s) {f o x i:Int} {m:Nat} (b:g f=some (o,m+1,x)) (w:0<=i) (y:i<16) (z:dH (aL s.1 (16*f+i))=false) (hc:0<cj s.2 0) (G:Int->Int)
 (d: ∀k,0<=k->k<16->dH (eR (G k))=false/\lx m (eR (G k))/\((eR (G k)).1=false->G k=0))
 (J: ∀p,0<=px m p % 16->px (m+1) p % 16=i->mi p m (eR (G (px m p % 16)))=mi p (m+1) (aL s.1 (16*f+i))):
 let n:=eh s o
 let s':=dN (iK s o G) (16*f+i) (cd n)
 let g':=mD g n (some (o,m,16*x+i))
 rj s o=0/\Inv g' s'/\mK g g'/\Ah o g g' s s'/\sY X6 g g' s s'/\s'.2=s.2.set n.toNat (3,o,0,0,())/\s.2[n.toNat]? =some zD/\
 (∀p,dz g s o p f (m+1)->px (m+1) p % 16=i->dz g' s' o p n m/\aL s'.1 (16*n+px m p % 16)=eR (G (px m p % 16)))/\0<=n/\n<4096:=by
 obtain⟨A,q,B,K,C,D,r,E,L,F⟩:=I.grow b w y z hc G d;dsimp only;have c: ∀{f':Int} {v},g f'=some v->f'≠eh s o:=λh e=>by rw[e,q] at h;cases h
 have Fy: ∀p,dz g s o p f (m+1)->px (m+1) p % 16=i->dz (mD g (eh s o) (some (o,m,16*x+i))) (dN (iK s o G) (16*f+i) (cd (eh s o))) o p (eh s o) m/\aL _ (16*eh s o+px m p % 16)=eR (G (px m p % 16)):=λp a t=>by
  have e:=E (px m p % 16) (eo p m).1 (eo p m).2;refine⟨⟨?_,by rw[e];exact(d _ (eo p m).1 (eo p m).2).1⟩,e⟩;rw[bI];have h1:=a.1;rw[b] at h1;simp only[BY,B7,true_and] at h1;rw[h1, <-t, <-nJ]
 refine⟨A,F,λo' r' x'=>?_,λ⦃f0 o' l M⦄ H h=>⟨?_,λk h0 h1=>?_⟩,λ⦃o' p f' j⦄ _ a=>?_,C,D,Fy,B,by have:=I.le;omega⟩
 ·by_cases e:r'=eh s o
  ·rw[e,bI,q];refine⟨λh=>?_,λh=>by cases h⟩;have:=(I.kd b).2.2.2.2.2;simp only[BY,B7] at h;omega
  ·rw[aW e]
 ·rw[aW (c h)];exact h
 ·have:=c h;refine r _ (λe=>?_) (by omega);have:f0=f:=by omega
  subst this;rw[b] at h;cases h;exact H rfl
 ·by_cases u:f'=f/\px j p % 16=i
  ·obtain⟨rfl,t⟩:=u;have h1:=a.1;rw[b] at h1
   grind
  ·have e:aL (dN (iK s o G) (16*f+i) (cd (eh s o))).1 (16*f'+px j p % 16)=aL s.1 (16*f'+px j p % 16):=by
    have:=c a.1;have:=eo p j;refine r _ (λe=>u ?_) (by omega);omega
   refine⟨f',j,⟨by rw[aW (c a.1)];exact a.1,by rw[e];exact a.2⟩,by rw[e]⟩
theorem yX (I:Inv g s) {f o x i v:Int} {l:Nat} (b:g f=some (o,l,x)) (n:0<=i) (r:i<16) (m:dH (aL s.1 (16*f+i))=false) (hv:dH (eR v)=false) (t:lx l (eR v)) (u:(eR v).1=false->v=0) {q:Int} (w:dz g s o q f l) (y:px l q % 16=i):
 Inv g (dJ s.1 (16*f+i) v,s.2)/\Ah o g g s (dJ s.1 (16*f+i) v,s.2)/\sY (n7 o l q) g g s (dJ s.1 (16*f+i) v,s.2)/\
 (∀p,px l p=px l q->dz g (dJ s.1 (16*f+i) v,s.2) o p f l/\dz g s o p f l)/\aL (dJ s.1 (16*f+i) v) (16*f+i)=eR v:=by
 obtain⟨z,A⟩:=I.VI b n r m hv t u;have c:=w.1;rw[b] at c;simp only[BY,B7,true_and] at c;refine⟨A,λ⦃f0 o' E F⦄ B h=>⟨h,λk h0 h1=>?_⟩,λ⦃o' p f' j⦄ a d=>?_,λp a=>?_,z⟩
 ·refine fW (λe=>B ?_)
  grind
 ·have e:aL (dJ s.1 (16*f+i) v) (16*f'+px j p % 16)=aL s.1 (16*f'+px j p % 16):=by
   refine fW (λe=>a ?_);have:f'=f:=by omega
   subst this;have h1:=d.1;rw[b] at h1;simp only[BY,B7] at h1;obtain⟨rfl,rfl,C⟩:=h1;refine⟨rfl,?_⟩;rw[nJ p,nJ q, <-C, <-c];omega
  exact⟨f',j,⟨d.1,by rw[e];exact d.2⟩,by grind⟩
 ·have h1:px (l+1) p=px (l+1) q:=by simp only[px];rw[a]
  have D:px l p % 16=i:=by rw[a];exact y
  refine⟨⟨by grind,?_⟩,⟨by grind,by rw[D];exact m⟩⟩
  grind
theorem Ml (I:Inv g s) {f o x i f2:Int} {m:Nat} (b:g f=some (o,m+1,x)) (v:0<=i) (w:i<16) (a:g f2=some (o,m,16*x+i)) (q:aL s.1 (16*f+i)=cd f2) (r: ∀k,0<=k->k<16->aL s.1 (16*f2+k)=zE):
 let s':WD:=(dJ s.1 (16*f+i) 0,dF s.2 f2 (aO 5 0))
 let g':=mD g f2 none
 Inv g' s'/\mK g g'/\Ah o g g' s s'/\sY X6 g g' s s'/\s'.2=s.2.set f2.toNat (5,o,0,0,())/\s.2[f2.toNat]? =some (3,o,0,0,())/\(∀p,dz g s o p f2 m->dz g' s' o p f (m+1))/\aL s'.1 (16*f+i)=zE:=by
 obtain⟨c,y,z⟩:=I.abn b v w a q r;dsimp only;have t:=I.vo a;have A:f≠f2:=λe=>by
  subst e;rw[b] at a;simp at a
 have B:dH (aL s.1 (16*f+i))=true:=by rw[q];exact dC ⟨t.1,t.2.1⟩
 have Fy: ∀p,dz g s o p f2 m->dz (mD g f2 none) (dJ s.1 (16*f+i) 0,dF s.2 f2 (aO 5 0)) o p f (m+1)/\px (m+1) p % 16=i:=λp h=>by
  have h1:=h.1;rw[a] at h1;simp only[BY,B7,true_and] at h1;have d:=nJ p (m+1);have F:=eo p (m+1);have n:px (m+1+1) p=x:=by omega
  have u:px (m+1) p % 16=i:=by omega
  refine⟨⟨by rw[aW A,n];exact b,?_⟩,u⟩;rw[u,c];exact Ke
 refine⟨z,λo' r' x'=>?_,λ⦃f0 o' l G⦄ C h=>⟨?_,λk h0 h1=>?_⟩,λ⦃o' p f' j⦄ _ h=>?_,y,(I.kd a).2.2.1,λp h=>(Fy p h).1,c⟩
 ·by_cases e:r'=f2
  ·subst e;rw[bI,a];refine⟨λh=>(by cases h),λh=>?_⟩;simp only[BY,B7] at h;have:=(I.kd b).2.2.2.2.2;omega
  ·rw[aW e]
 ·rw[aW]
  ·exact h
  grind
 ·refine fW (λe=>C ?_);have:f0=f:=by omega
  grind
 ·by_cases e:f'=f2
  ·subst e;have h1:=h.1;rw[a] at h1;simp only[BY,B7] at h1;obtain⟨rfl,rfl,h1⟩:=h1;obtain⟨D,E⟩:=Fy p h;refine⟨_, _,D,?_⟩;rw[E,c,r _ (eo p m).1 (eo p m).2,FY _ _ rfl,FY _ _ rfl]
  ·have n:aL (dJ s.1 (16*f+i) 0) (16*f'+px j p % 16)=aL s.1 (16*f'+px j p % 16):=by
    refine fW (λe=>?_);have d:=h.2;rw[<-e,B] at d;cases d
   refine⟨f',j,⟨by rw[aW e];exact h.1,?_⟩,?_⟩
   ·rw[n];exact h.2
   grind
end Inv
set_option maxRecDepth 100000
open Go.RX D
structure Kept (s s':WD):Prop where
 ks5: ∀{n:Nat} {d:DT},s.2[n]? =some d->d.1=4\/d.1=5->s'.2[n]? =some d
 ws5: ∀{n:Nat} {d:DT},s.2[n]? =some d->d.1=4\/d.1=5-> ∀k:Int,0<=k->k<16->dE s'.1 (16*(n:Int)+k)=dE s.1 (16*(n:Int)+k)
 nw: ∀{n:Nat} {d:DT},s'.2[n]? =some d->s.2[n]? =some d\/((d.1=3\/d.1=5)/\d.2.2=(0,0,())/\1<=d.2.1/\d.2.1<=16)
theorem Kept.ks {s s':WD} (K:Kept s s') {n:Nat} {d:DT} (h:s.2[n]? =some d) (a:d.1=4):s'.2[n]? =some d:=K.ks5 h (.inl a)
theorem Kept.ws {s s':WD} (K:Kept s s') {n:Nat} {d:DT} (h:s.2[n]? =some d) (a:d.1=4) (k:Int) (k0:0<=k) (b:k<16):dE s'.1 (16*(n:Int)+k)=dE s.1 (16*(n:Int)+k):=K.ws5 h (.inl a) k k0 b
theorem Kept.refl (s:WD):Kept s s:=⟨λh _=>h,by simp,λh=> .inl h⟩
theorem Kept.trans {s t u:WD} (h:Kept s t) (k:Kept t u):Kept s u:=
 ⟨λh1 a=>k.ks5 (h.ks5 h1 a) a,λh1 a i i0 i1=>(k.ws5 (h.ks5 h1 a) a i i0 i1).trans (h.ws5 h1 a i i0 i1),λh1=>(k.nw h1).elim h.nw .inr⟩
theorem Kept.set {s:WD} {W:List Int} {n:Nat} {d0 d1:DT} (h0:s.2[n]? =some d0) (c:d0.1≠4/\d0.1≠5) (h1:(d1.1=3\/d1.1=5)/\d1.2.2=(0,0,())/\1<=d1.2.1/\d1.2.1<=16) (b: ∀{m:Nat} {d:DT},s.2[m]? =some d->d.1=4\/d.1=5-> ∀k:Int,0<=k->k<16->dE W (16*(m:Int)+k)=dE s.1 (16*(m:Int)+k)):Kept s (W,s.2.set n d1):=by
 refine⟨λ{m d} a f=>?_,b,λ{m d} a=>?_⟩
 ·have e:n≠m:=λe=>by grind
  rw[Bx e];exact a
 grind
def iD (s:WD) (f:Int):Prop:=0<=f/\ ∃d,s.2[f.toNat]? =some d/\d.1=5/\ ∀k:Int,0<=k->k<16->dE s.1 (16*f+k)=0
theorem iD.kept {s s':WD} {f:Int} (h:iD s f) (K:Kept s s'):iD s' f:=by
 obtain⟨h0,d,h1,a,b⟩:=h;refine⟨h0,d,K.ks5 h1 (.inr a),a,λk k0 c=>?_⟩;have:=K.ws5 h1
 grind
theorem Inv.off {g:Gh} {s:WD} (I:Inv g s) {f o x i:Int} {l:Nat} (a:g f=some (o,l,x)) (h0:0<=i) (h1:i<16) {n:Nat} {d:DT} (b:s.2[n]? =some d) (c:d.1=4\/d.1=5) {k:Int} (k0:0<=k) (e:k<16):16*f+i≠16*(n:Int)+k:=by
 have h:=I.kd a
 grind
theorem Inv.Cx {g:Gh} {s:WD} (I:Inv g s) {f o x i:Int} {l:Nat} (a:g f=some (o,l,x)) (h0:0<=i) (h1:i<16) (v:Int):Kept s (dJ s.1 (16*f+i) v,s.2):=
 ⟨λh _=>h,λb c k k0 d=>by exact mJ (I.off a h0 h1 b c k0 d),λh=> .inl h⟩
theorem Inv.Be {g:Gh} {s:WD} (I:Inv g s) {f o x i:Int} {m:Nat} (h:g f=some (o,m+1,x)) (r:0<=i) (t:i<16) (hc:0<cj s.2 0) (G:Int->Int) (e:ET):Kept s (dN (iK s o G) (16*f+i) e):=by
 have j:=I.kd h;obtain⟨n,B,l,u,v,C⟩:=mY hc I.fz ⟨j.2.2.2.1,j.2.2.2.2.1⟩;have D:eh s o=n:=u;have E:rj s o=0:=v;have F:=I.len;have w:16*(n:Int)+16<=s.1.length:=by omega
 have p:iK s o G=(eT s.1 n G 16,s.2.set n (3,o,0,0,())):=by unfold iK;grind
 obtain⟨W,a⟩: ∃W,W=eT s.1 n G 16:=⟨_,rfl⟩;have y: ∀b,dE W b=if 16*n<=b/\b<16*n+16 then G _ else dE s.1 b:=λb=>by
  rw[a];exact tg (by omega) w 16 (by grind) b
 rw[<-a] at p;clear a;have z:dN (W,s.2.set n (3,o,0,0,())) _ e=(dJ W (16*f+i) (Tp e),s.2.set n _):=rfl;rw[p,z];refine Kept.set l (by decide) (by grind) λ{m d} c q k k0 A=>?_;have H:n≠m:=λe=>by subst e;rw[l] at c;cases c;exact absurd q (by decide)
 rw[mJ (I.off h r t c q k0 A),y,au (by omega)]
def z6 (g:Gh) (s:WD):Prop:= ∀ ⦃f o l x i⦄,g f=some (o,l,x)->0<=i->i<16->(aL s.1 (16*f+i)).1=true->dH (aL s.1 (16*f+i))=false->l=0
theorem z6.upd {g:Gh} {s s':WD} (h:z6 g s) {f o x i:Int} {l:Nat} (n:g f=some (o,l,x)) (h0:0<=i) (h1:i<16) (d: ∀b,b≠16*f+i->aL s'.1 b=aL s.1 b)
 (p:(aL s'.1 (16*f+i)).1=true->dH (aL s'.1 (16*f+i))=false->l=0):z6 g s':=λf2 q r t k j k0 m a c=>by
 by_cases e:16*f2+k=16*f+i
 grind
 ·rw[d _ e] at a c;exact h j k0 m a c
theorem z6.grow {g:Gh} {s s':WD} (h:z6 g s) {f i F o x a:Int} {m:Nat} (l: ∀b,b≠a->(b<16*F\/16*F+16<=b)->aL s'.1 b=aL s.1 b)
 (q: ∀k,0<=k->k<16->(aL s'.1 (16*F+k)).1=true->m=0) (r:dH (aL s'.1 a)=true):z6 (mD g F (some (o,m,x))) s':=λf2 t u v k c k0 n d j=>by
 by_cases e:f2=F
 ·subst e;rw[bI] at c
  grind
 ·rw[aW e] at c;by_cases p:16*f2+k=a
  grind
  ·rw[l _ p (by omega)] at d j;exact h c k0 n d j
theorem z6.del {g:Gh} {s:WD} (h:z6 g s) (F:Int):z6 (mD g F none) s:=λf2 f i j k a k0 b c d=>by
 by_cases e:f2=F
 ·subst e;rw[bI] at a;grind
 ·rw[aW e] at a;exact h a k0 b c d
def YP (P:Int->Int->Prop):Prop:= ∀o q a,P o q->P o a->q=a
theorem Pn (l:Nat) (p:Int):px (l+1) p=px l (p / 16):=by
 induction l with
 |zero=>rfl
 |succ l a=>rw[px,a];rfl
theorem YP.lv {o p:Int} {lv:Nat} (h:YP (λo' q=>o'=o/\px lv q=px lv p)):lv=0:=by
 cases lv with
 |zero=>rfl
 |succ=>
  have a:(16*(p / 16)+(p % 16+1) % 16) / 16=p / 16:=by omega
  have:=h o p (16*(p / 16)+(p % 16+1) % 16) (by grind) ⟨rfl,by rw[Pn,Pn,a]⟩;omega
structure sM (P:Int->Int->Prop) (o:Int) (g g':Gh) (s s':WD):Prop where
 inv:Inv g' s'
 root:mK g g'
 T9:Ah o g g' s s'
 Dw:sY P g g' s s'
 kk: ∀{n:Nat} {d:DT},s.2[n]? =some d->d.1=3\/d.1=5-> ∃d':DT,s'.2[n]? =some d'/\(d'.1=5\/(d'.1=3/\d.1=3))
 len:s'.1.length=s.1.length/\s'.2.length=s.2.length
 kp:Kept s s'
 lg:YP P->z6 g s->z6 g' s'
 gk: ∀{f:Int} {v:Int×Nat×Int},g f=some v->g' f=some v\/iD s' f
theorem sM.refl {g:Gh} {s:WD} (I:Inv g s) (P:Int->Int->Prop) (o:Int):sM P o g g s s:=
 ⟨I,.refl g,.refl o g s,.refl P g s,by grind,by simp,.refl s,λ_ h=>h,λh=> .inl h⟩
theorem sM.trans {P:Int->Int->Prop} {o:Int} {a b c:Gh} {s t u:WD} (h:sM P o a b s t) (k:sM P o b c t u):sM P o a c s u where
 inv:=k.inv
 root:=h.root.trans k.root
 T9:=h.T9.trans k.T9
 Dw:=h.Dw.trans k.Dw
 kk:=λd f=>by
  obtain⟨d1,h1,g⟩:=h.kk d f;obtain:=k.kk h1
  grind
 len:=⟨k.len.1.trans h.len.1,k.len.2.trans h.len.2⟩
 kp:=h.kp.trans k.kp
 lg:=λo n=>k.lg o (h.lg o n)
 gk:=λh1=>(h.gk h1).elim (λe=>k.gk e) λe=> .inr (e.kept k.kp)
theorem sM.mono {P d:Int->Int->Prop} {o:Int} {a b:Gh} {s t:WD} (h:sM P o a b s t) (c: ∀o p,P o p->d o p):sM d o a b s t:=⟨h.inv,h.root,h.T9,h.Dw.mono c,h.kk,h.len,h.kp,λo1 n=>h.lg (λo q e a b=>o1 o q e (c _ _ a) (c _ _ b)) n,h.gk⟩
theorem Pq {ds:List DT} {i:Nat} {d0 d1:DT} (h0:ds[i]? =some d0) (a:d0.1=3\/d0.1=5->d1.1=5) {n:Nat} {d:DT} (h:ds[n]? =some d) (k:d.1=3\/d.1=5): ∃d':DT,(ds.set i d1)[n]? =some d'/\(d'.1=5\/(d'.1=3/\d.1=3)):=by
 grind
theorem xD (s:WD) (o:Int) (G:Int->Int) (i:Int) (e:ET):(dN (iK s o G) i e).1.length=s.1.length:=by grind[dN,iK,cA,gF]
def Di (g:Gh) (s:WD) (e:Option Int):Prop:= ∀ ⦃f o l x⦄,g f=some (o,l,x)->l<3->some f≠e-> ∃k,0<=k/\k<16/\(aL s.1 (16*f+k)).1=true
theorem Di.some {g:Gh} {s:WD} (h:Di g s none) (f:Int):Di g s (some f):=λ_ _ _ _ a b _=>h a b (by simp)
namespace Inv
variable {g:Gh} {s:WD}
theorem down {o p:Int} (b:0<=p/\p<65536) (lv:Nat): ∀(n:Nat) {g:Gh} {s:WD} {f:Int},Inv g s->dz g s o p f (lv+n)->(aL s.1 (16*f+px (lv+n) p % 16)).1=false->n<=cj s.2 0->
 ∃g' s' f',qH o p n (s,(f,((lv+n:Nat):Int),16*f+px (lv+n) p % 16,()))=(s',(f',(lv:Int),16*f'+px lv p % 16,()))/\sM X6 o g g' s s'/\dz g' s' o p f' lv/\(aL s'.1 (16*f'+px lv p % 16)).1=false/\cj s'.2 0+n=cj s.2 0/\(Di g s (some f)->Di g' s' (some f'))
 |0,g,s,f,I,a,c, _=>⟨g,s,f,rfl,.refl I _ _,a,c,rfl,λh=>h⟩
 |n+1,g,s,f,I,a,c,hc=>by
  have w:=I.kd a.1;have x:lv+n<=3:=by have:=w.2.2.2.2.2;omega
  have hi:=eo p (lv+n+1);obtain⟨Z,j,y,z,A,l,q,B,C,D⟩:=I.Er (m:=lv+n) a.1 hi.1 hi.2 a.2 (by omega) (λ_=>0) (λk _ _=>by
   rw[oV];exact⟨Ke,DP _,λ_=>rfl⟩) (λp' _ oh=>by
   rw[oV,FY _ _ rfl,FY];exact c)
  obtain⟨E,F⟩:=B p a rfl;have r:0<=eh s o/\eh s o<4096:=⟨C,D⟩;have G:=th (d':=(3,o,0,0,())) q 0;have NT:cj (dN (iK s o λ_=>0) (16*f+px (lv+n+1) p % 16) (cd (eh s o))).2 0+1=cj s.2 0:=by
   rw[l];simpa[zD] using G
  obtain⟨_,u1, _, _, _, _,t,H,u, _⟩:=I.grow (m:=lv+n) a.1 hi.1 hi.2 a.2 (by omega) (λ_=>0) (λk _ _=>by
   rw[oV];exact⟨Ke,DP _,λ_=>rfl⟩)
  have J:sM X6 o g _ s (dN (iK s o λ_=>0) (16*f+px (lv+n+1) p % 16) (cd (eh s o))):=
   ⟨j,y,z,A,by grind,⟨xD _ _ _ _ _,by rw[l,B5]⟩,I.Be (m:=lv+n) a.1 hi.1 hi.2 (by omega) _ _,λ_ nl=>nl.grow (f:=f) (i:=0) t (λk k0 d b=>by rw[H k k0 d,oV] at b;cases b) (by rw[u];exact dC r),λ{f0 K} v=> .inl (by
    rw[aW (λe=>?_)]
    ·exact v
    ·obtain⟨L,M,N⟩:=K;have:=(I.kd v).2.2.1;rw[e,q] at this;cases this)⟩
  have O:Di g s (some f)->Di (mD g (eh s o) (some (o,lv+n,16*px (lv+n+1+1) p+px (lv+n+1) p % 16))) (dN (iK s o λ_=>0) (16*f+px (lv+n+1) p % 16) (cd (eh s o))) (some (eh s o)):=λh f0 L M N h0 P Q=>by
   have R:f0≠eh s o:=λe=>Q (by rw[e]);rw[aW R] at h0;by_cases e:f0=f
   ·subst e;exact⟨_,hi.1,hi.2,by rw[u];rfl⟩
   ·obtain⟨k,d,S,T⟩:=h h0 P (by simpa using e);exact⟨k,d,S,by rw[t _ (by omega) (by omega)];exact T⟩
  obtain⟨g',s',f',U,V,W,X,r5,Y⟩:=down b lv n j E (by rw[F,oV];rfl) (by omega);refine⟨g',s',f',?_,J.trans V,W,X,by omega,λh=>Y (O h)⟩;rw[<-U];show qH o p n _= _;have el:((lv+(n+1):Nat):Int) - 1=((lv+n:Nat):Int):=by omega
  rw[el,lq r b x];rfl
end Inv
set_option maxRecDepth 100000
open Go.RX D
theorem Xm {ds:List DT} (h:cj ds 0=0):iC ds=none:=by
 unfold cj at h;unfold iC;rw[Hq];intro d a;have:=List.countP_eq_zero.1 h d a;simpa using this
theorem Bf {ds:List DT} {y o:Int} (h: ¬ dO ds y o=0):dy ds y o=ds:=by
 unfold dO at h;unfold dy;cases a:iC ds with
 |none=>rfl
 |some n=>
  have b: ¬ ds.length=0:=λe=>by
   have:ds=[]:=GG.1 e;subst this;cases a
  rw[au b,a] at h;dsimp only at h ⊢;by_cases c:(n:Int)<0\/(n:Int)>=ds.length
  ·exact xz c _
  ·rw[yB (by omega)] at h;rw[o9 (by omega),au h]
theorem Jg {s:WD} {o:Int} {G:Int->Int} (h: ¬ rj s o=0):iK s o G=s:=by
 unfold iK;rw[au h,Bf h]
theorem RR {s:WD} {o:Int} (h:cj s.2 0=0) (a:0<s.2.length): ¬ rj s o=0:=by
 unfold rj dO;rw[au (by omega),Xm h];show ¬ (12:Int)=0;decide
theorem Cy {p:Int} {j:Nat} {e:ET} (h:(mi p j e).2.2.1=0):e.1=true:=by
 cases a:e.1 with
 |true=>rfl
 |false=>
  rw[FY p j a] at h;exact absurd h (by decide)
theorem Pr {ws:List Int} {f:Int} (c:0<=f) (d:16*f+16<=ws.length) {k:Nat} (a:k<16):(gY ws (16*f) 16)[k]? =some (dE ws (16*f+(k:Int))):=by
 have e:gY ws (16*f) 16=(ws.drop (16*f).toNat).take 16:=au (by omega);rw[e,Gi a,Gj];unfold dE;have hi:(16*f).toNat+k<ws.length:=by omega
 rw[ay (iY (by omega) (by omega)),DA hi,Dj];have b:(16*f+(k:Int)).toNat=(16*f).toNat+k:=by omega
 rw[b,DA hi];rfl
theorem Es {ws:List Int} {f:Int} (a:0<=f) (b:16*f+16<=ws.length) (h:wV ws f=true) (k:Int) (h0:0<=k) (h1:k<16):dE ws (16*f+k)=0:=by
 have c:=Pr a b (k:=k.toNat) (by omega);unfold wV at h;rw[H6] at h;have:=h _ (DB c);rw[show((k.toNat:Nat):Int)=k from by omega] at this;simpa using this
theorem RU {ws:List Int} {f:Int} (b:0<=f) (c:16*f+16<=ws.length) (h:wV ws f=false): ∃k:Int,0<=k/\k<16/\dE ws (16*f+k)≠0:=by
 unfold wV at h;rw[H5] at h;obtain⟨v,hv,d⟩:=h;obtain⟨k,a⟩:=H7 hv;have i:(gY ws (16*f) 16).length=16:=by
  have e:gY ws (16*f) 16=(ws.drop (16*f).toNat).take 16:=au (by omega);rw[e,Fi,Ga];omega
 have g:k<16:=by have:=(B6.1 a).1;omega
 have:=Pr b c g;rw[a] at this;refine⟨(k:Int),by omega,by omega,λe=>d ?_⟩;cases this;simpa using e
def WM (F:Nat->Int) (p:Int):Nat->Nat->List PT
 |j,0=>[(F j,(j:Int),16*F j+px j p % 16,())]
 |j,n+1=>(F j,(j:Int),16*F j+px j p % 16,())::WM F p (j+1) n
structure Up (g:Gh) (s:WD) (o p:Int) (F:Nat->Int) (j:Nat):Prop where
 gh: ∀i,j<=i->i<=3->g (F i)=some (o,i,px (i+1) p)
 ld: ∀i,j<=i->i<3->aL s.1 (16*F (i+1)+px (i+1) p % 16)=cd (F i)
theorem RV (F:Nat->Int) (p:Int) (j n:Nat): ∃l,WM F p j n=(F j,(j:Int),16*F j+px j p % 16,())::l:=by cases n<;>exact⟨_,rfl⟩
namespace Inv
theorem put {g:Gh} {s:WD} (I:Inv g s) {o r p:Int} (l:g r=some (o,3,0)) (c:0<=p/\p<65536) {lv:Nat} {e:ET} (t:e.1=true) (y:bR e.1 e.2.1 e.2.2.1 e.2.2.2.1=true) (z:dH e=false) (A:lx lv e) (h0:l_ s r p lv=0):
 ∃g',sM (n7 o lv p) o g g' s (rB s o r p lv e)/\(∀q,px lv q=px lv p-> ∃f,dz g' (rB s o r p lv e) o q f lv/\aL (rB s o r p lv e).1 (16*f+px lv q % 16)=e)/\
  (∃f j,lv<=j/\dz g s o p f j/\(aL s.1 (16*f+px j p % 16)).1=false/\cj (rB s o r p lv e).2 0+(j - lv)=cj s.2 0)/\(Di g s none->Di g' (rB s o r p lv e) none):=by
 obtain⟨f,j,L,i⟩:=I.mv l c;obtain⟨u,eP⟩:=I.nK l c i;have a:=h0;unfold l_ at a;rw[u,eP] at a;dsimp only at a;by_cases c1:((aL s.1 (16*f+px j p % 16)).1||decide (((j:Nat):Int)<((lv:Nat):Int)))=true
 ·rw[ay c1] at a;exact absurd a (by decide)
 rw[au c1] at a;by_cases c2:(cj s.2 0:Int)<((j:Nat):Int) - ((lv:Nat):Int)
 ·rw[ay c2] at a;exact absurd a (by decide)
 simp only[FS,decide_eq_true_eq,not_or,Bool.not_eq_true] at c1;obtain⟨n,rfl⟩: ∃n,j=lv+n:=⟨j - lv,by omega⟩;obtain⟨g1,s1,f1,d1,C1,E1,M,N,x1⟩:=down c lv n I i c1.1 (by omega);have B:rB s o r p lv e=(dJ s1.1 (16*f1+px lv p % 16) (Tp e),s1.2):=by
  unfold rB;rw[ay h0,u];have en:(((lv+n:Nat):Int) - ((lv:Nat):Int)).toNat=n:=by omega
  dsimp only;rw[en,d1];rfl
 rw[B];have hv:eR (Tp e)=e:=xB y;have hi:=eo p lv;obtain⟨C,D,E,F,w⟩:=C1.inv.yX (v:=Tp e) E1.1 hi.1 hi.2 E1.2 (by rw[hv];exact z) (by rw[hv];exact A) (λh=>by rw[hv,t] at h;cases h) E1 rfl;refine⟨g1,(C1.mono λ_ _ h=>h.elim).trans ⟨C,.refl _,D,E,λ{m d} h k=>⟨d,h,k.elim (λe=> .inr ⟨e,e⟩) .inl⟩,⟨cA _ _ _,rfl⟩,C1.inv.Cx E1.1 hi.1 hi.2 _,λo1 nl=>nl.upd E1.1 hi.1 hi.2 (λb hb=>fW (λe=>hb e.symm)) λ_ _=>o1.lv,λh=> .inl h⟩,λq x=>⟨f1,(F q x).1,?_⟩,⟨f,lv+n,by omega,i,c1.1,?_⟩,λh=>?_⟩
 ·show aL (dJ s1.1 _ _) _= _;rw[x,w,hv]
 ·show cj s1.2 0+ _= _;omega
 ·intro f0 O P Q h0 G _;by_cases ef:f0=f1
  ·subst ef;exact⟨_,hi.1,hi.2,by show(aL (dJ s1.1 _ _) _).1=true;rw[w,hv];exact t⟩
  ·obtain⟨k,H,J,K⟩:=x1 (h.some f) h0 G (by simpa using ef);exact⟨k,H,J,by show(aL (dJ s1.1 _ _) _).1=true;rw[fW (by omega)];exact K⟩
end Inv
set_option maxRecDepth 100000
open Go.RX D
theorem ZT (x y:PT) (l:List PT) (t:WD):jk (x::y::l) t=if wV t.1 x.1=true then jk (y::l) (dJ t.1 y.2.2.1 0,dF t.2 x.1 (aO 5 0)) else t:=rfl
theorem YQ {ws:List Int} {a:Int} (h:dE ws a=0):aL ws a=zE:=by unfold aL;rw[h];exact oV
theorem Up.ne {g:Gh} {s:WD} {o p:Int} {F:Nat->Int} {j:Nat} (U:Up g s o p F j) {a b:Nat} (c:j<=a) (d:a<=3) (hb:j<=b) (f:b<=3) (h:a≠b):F a≠F b:=λe=>by
 have h1:=U.gh a c d;rw[e,U.gh b hb f] at h1;simp only[BY,B7,true_and] at h1;exact h h1.1.symm
theorem l7 {r:Int} {l:Bool} {f:Int}:bR true r l f=true<->(0<=r/\r<=7/\0<=f/\f<4096/\(r>0\/l=false)):=by
 unfold bR;cases l<;>simp<;>omega
theorem OF {p:Bool} {r:Int} {l:Bool} {f:Int} (h:r≠0):dH (p,r,l,f,())=false:=by
 unfold dH fG;simp[h]
namespace Inv
theorem split {g:Gh} {s:WD} (I:Inv g s) {o r p:Int} (F:g r=some (o,3,0)) (G:0<=p/\p<65536) {f:Int} {j:Nat} (a:dz g s o p f j) (b:(aL s.1 (16*f+px j p % 16)).1=true) (h0:mg s o r p=0):
 ∃g' f',sM X6 o g g' s (fh s o r p)/\dz g' (fh s o r p) o p f' 0/\cj (fh s o r p).2 0+j=cj s.2 0/\(Di g s none->Di g' (fh s o r p) none):=by
 obtain⟨l,eP⟩:=I.nK F G a;have hi:=eo p j;rcases I.leaf a.1 hi.1 hi.2 b a.2 with ⟨rfl, _⟩|⟨rfl,n,x⟩
 ·have q:fh s o r p=s:=by unfold fh;rw[l];exact ay rfl
  rw[q];exact⟨g,f,.refl I _ _,a,rfl,λh=>h⟩
 ·have H:mg s o r p=rj s o:=by unfold mg;rw[l];exact au (by show ¬ ((1:Int)=0);decide)
  rw[H] at h0;have q:fh s o r p=dN (iK s o (ov (aL s.1 (16*f+px 1 p % 16)))) (16*f+px 1 p % 16) (cd (eh s o)):=by
   unfold fh;rw[l,eP];rw[au (by show ¬ ((1:Int)=0);decide),ay h0]
  have y:=I.kd a.1;have hc:0<cj s.2 0:=by
   rcases Nat.eq_zero_or_pos (cj s.2 0) with e|e
   ·exact absurd h0 (RR e (by omega))
   ·exact e
  have t:=lD s.1 (16*f+px 1 p % 16);rw[q];have J:=a.2;generalize K:aL s.1 (16*f+px 1 p % 16)=e at n x t b J ⊢;obtain⟨ep,er,el,ef,eu⟩:=e;dsimp only at n x t b;subst n;subst b;obtain⟨L,M,b3,b4,z⟩:=l7.1 t;have z:er>0:=z.elim id (λh=>by cases h);have u: ∀k:Int,0<=k->k<16->eR (ov (true,er,true,ef,()) k)=(true,er,false,ef+k,()):=λk k0 c=>by
   show eR (FA true er false (ef+k))= _;exact xB (l7.2 ⟨L,M,by omega,by omega,.inr rfl⟩)
  have A: ∀k,0<=k->k<16->dH (eR (ov (true,er,true,ef,()) k))=false/\lx 0 (eR (ov (true,er,true,ef,()) k))/\((eR (ov (true,er,true,ef,()) k)).1=false->ov (true,er,true,ef,()) k=0):=λk k0 c=>by
   rw[u k k0 c];exact⟨OF (by omega),λ_ _=> .inl ⟨rfl,rfl⟩,λh=>by cases h⟩
  obtain⟨q0,N,O,P,Q,v,w,R,S,T⟩:=I.Er (m:=0) a.1 hi.1 hi.2 a.2 hc (ov (true,er,true,ef,())) A (λp' hp0 oh=>by
   rw[u _ (eo p' 0).1 (eo p' 0).2,K];rfl)
  obtain⟨_,u1, _, _, _, _,B,U,C, _⟩:=I.grow (m:=0) a.1 hi.1 hi.2 a.2 hc (ov (true,er,true,ef,())) A;obtain⟨V,e2⟩:=R p a rfl;have W:=th (d':=(3,o,0,0,())) w 0;refine⟨_,eh s o,⟨N,O,P,Q,λ{m d} X y=>by rw[v];exact Pq w (λh=>by rcases h with h|h<;>exact absurd h (by decide)) X y,⟨xD _ _ _ _ _,by rw[v,B5]⟩,I.Be (m:=0) a.1 hi.1 hi.2 hc _ _,λ_ nl=>nl.grow (f:=f) (i:=0) B (λ_ _ _ _=>rfl) (by rw[C];exact dC ⟨S,T⟩),λ{f0 Y} D=> .inl (by
   rw[aW (λe=>?_)]
   ·exact D
   ·obtain⟨Z,l0,x0⟩:=Y;have:=(I.kd D).2.2.1;rw[e,w] at this;cases this)⟩,V,?_,?_⟩
  ·rw[v];simpa[zD] using W
  ·intro h f0 Z l0 x0 h0 Ii _;by_cases E:f0=eh s o
   ·subst E;exact⟨0,by decide,by decide,by rw[U 0 (by decide) (by decide),u 0 (by decide) (by decide)]⟩
   ·rw[aW E] at h0;by_cases e:f0=f
    ·subst e;exact⟨_,hi.1,hi.2,by rw[C];rfl⟩
    ·obtain⟨k,c,k2,k3⟩:=h h0 Ii (by simp);exact⟨k,c,k2,by rw[B _ (by omega) (by omega)];exact k3⟩
theorem thin {o p:Int} (t:0<=p/\p<65536) {F:Nat->Int}: ∀(n:Nat) {j:Nat} {g:Gh} {s:WD},j+n=3->Inv g s->Up g s o p F j->
 ∃g',sM X6 o g g' s (jk (WM F p j n) s)/\cj (jk (WM F p j n) s).2 0=cj s.2 0/\(Di g s (some (F j))->Di g' (jk (WM F p j n) s) none)
 |0,j,g,s,M,I,U=>by
  refine⟨g,.refl I _ _,rfl,λh f0 A B C h0 q _=>h h0 q (λe=>?_)⟩;have D:=U.gh j (BP _) (by omega);cases e;rw[h0] at D;simp only[BY,B7] at D;omega
 |n+1,j,g,s,M,I,U=>by
  obtain⟨l',E⟩:=RV F p (j+1) n;have N:WM F p j (n+1)=(F j,(j:Int),16*F j+px j p % 16,())::(F (j+1),((j+1:Nat):Int),16*F (j+1)+px (j+1) p % 16,())::l':=by rw[WM,E]
  have v:=U.gh j (BP _) (by omega);have g1:=U.gh (j+1) (by omega) (by omega);have O:=U.ld j (BP _) (by omega);have hi:=eo p (j+1);have f:=I.vo v;rw[N,ZT];cases w:wV s.1 (F j) with
  |false=>
   rw[au (by decide)];refine⟨g,.refl I _ _,rfl,λh f0 A B C h0 q _=>?_⟩;by_cases e:f0=F j
   ·subst e;obtain⟨k,k0,c,x⟩:=RU f.1 f.2.2 w;refine⟨k,k0,c,?_⟩;cases hb:(aL s.1 (16*F j+k)).1 with
    |true=>rfl
    |false=>exact absurd (I.wf v k0 c hb) x
   ·exact h h0 q (by simpa using e)
  |true=>
   rw[ay rfl];dsimp only;have P:g (F j)=some (o,j,16*px (j+1+1) p+px (j+1) p % 16):=by rw[<-nJ];exact v
   obtain⟨y,G,H,J,l,r,Q,K⟩:=I.Ml g1 hi.1 hi.2 P O (λk k0 c=>YQ (Es f.1 f.2.2 w k k0 c));dsimp only at y G H J l r Q K;have C1:sM X6 o g (mD g (F j) none) s (dJ s.1 (16*F (j+1)+px (j+1) p % 16) 0,dF s.2 (F j) (aO 5 0)):=
    ⟨y,G,H,J,λ{m d} z R=>by rw[l];exact Pq r (λ_=>rfl) z R,⟨cA _ _ _,by rw[l,B5]⟩,by rw[l];exact Kept.set r (show ¬ (3:Int)=4/\ ¬ (3:Int)=5 by decide) ⟨.inr rfl,rfl,(I.kd g1).2.2.2.1,(I.kd g1).2.2.2.2.1⟩ λ{m d} z S k k0 c=>by rw[mJ (I.off g1 hi.1 hi.2 z S k0 c)],λ_ nl=>(nl.upd (s':=(dJ s.1 (16*F (j+1)+px (j+1) p % 16) 0,dF s.2 (F j) (aO 5 0))) g1 hi.1 hi.2 (λb hb=>fW (λe=>hb e.symm)) λt _=>by rw[K] at t;cases t).del _,λ{f0 X} T=>by
     by_cases e:f0=F j
     ·subst e;have V:=U.ne (a:=j) (b:=j+1) (by omega) (by omega) (by omega) (by omega) (by omega);refine .inr ⟨f.1, _,by rw[l];exact Do (B6.1 r).1,rfl,λk k0 c=>?_⟩;show dE (dJ s.1 _ _) _=0;rw[mJ (by omega)];exact Es f.1 f.2.2 w k k0 c
     ·exact .inl (by rw[aW e];exact T)⟩
   have U1:Up (mD g (F j) none) (dJ s.1 (16*F (j+1)+px (j+1) p % 16) 0,dF s.2 (F j) (aO 5 0)) o p F (j+1):=by
    refine⟨λi h1 u=>?_,λi h1 u=>?_⟩
    ·rw[aW (U.ne (by omega) u (BP _) (by omega) (by omega))];exact U.gh i (by omega) u
    ·have V:=U.ne (a:=i+1) (b:=j+1) (by omega) (by omega) (by omega) (by omega) (by omega);have Y:=eo p (i+1);show aL (dJ _ _ _) _= _;rw[fW (by omega)];exact U.ld i (by omega) u
   obtain⟨g',c1,c2,c3⟩:=thin t n (by omega) y U1;rw[E] at c1 c2 c3;refine⟨g',C1.trans c1,c2.trans ?_,λh=>c3 λf0 A B C h0 q W=>?_⟩
   ·have:=th (d':=(5,o,0,0,())) r 0;rw[l];simpa using this
   ·have L:f0≠F j:=λe=>by rw[e,bI] at h0;cases h0
    have Z:f0≠F (j+1):=λe=>W (by rw[e]);rw[aW L] at h0;obtain⟨k,k0,c,x⟩:=h h0 q (by simpa using L);exact⟨k,k0,c,by show(aL (dJ _ _ _) _).1=true;rw[fW (by omega)];exact x⟩
end Inv
set_option maxRecDepth 100000
open Go.RX D
namespace Inv
variable {g:Gh} {s:WD}
theorem acg (I:Inv g s) {o r p f0:Int} (t:g r=some (o,3,0)) (a:0<=p/\p<65536) (E:dz g s o p f0 0):
 ∃F:Nat->Int,F 0=f0/\Up g s o p F 0/\(dh s.1 p 3 r).reverse=WM F p 0 3:=by
 obtain⟨f1,a1,u⟩:=I.Fl E.1 (by decide);obtain⟨f2,e,j⟩:=I.Fl a1 (by decide);obtain⟨f3,f,k⟩:=I.Fl e (by decide);have v:f3=r:=by
  refine I.inj f ?_;rw[t];have:=px4 a;simp only[px] at this ⊢;rw[this]
 subst v;have b:=I.vo E.1;have c:=I.vo a1;have d:=I.vo e;have m:=I.vo f;refine⟨λi=>match i with|0=>f0|1=>f1|2=>f2| _=>f3,rfl,⟨λi _ h=>?_,λi _ h=>?_⟩,?_⟩
 ·rcases i with _| _| _| _|i
  ·exact E.1
  ·exact a1
  ·exact e
  ·exact f
  ·omega
 ·rcases i with _| _| _|i
  ·exact u
  ·exact j
  ·exact k
  ·omega
 ·have n:=lq ⟨m.1,m.2.1⟩ a (l:=3) (by omega);have q:=lq ⟨d.1,d.2.1⟩ a (l:=2) (by omega);have w:=lq ⟨c.1,c.2.1⟩ a (l:=1) (by omega);have x:=lq ⟨b.1,b.2.1⟩ a (l:=0) (by omega);have t2:=dC ⟨d.1,d.2.1⟩;have t1:=dC ⟨c.1,c.2.1⟩;have t0:=dC ⟨b.1,b.2.1⟩;have c3:aL s.1 (dX f3 p (2+1:Nat))=cd f2:=by rw[n];exact k
  have c2:aL s.1 (dX f2 p (1+1:Nat))=cd f1:=by rw[q];exact j
  have c1:aL s.1 (dX f1 p ((0+1:Nat):Int))=cd f0:=by grind
  have w1:dh s.1 p 1 f1=[(f1,((0+1:Nat):Int),dX f1 p ((0+1:Nat):Int),()),(f0,0,dX f0 p 0,())]:=by rw[dh,c1,ay t0];rfl
  have y:dh s.1 p 2 f2=[(f2,((1+1:Nat):Int),dX f2 p ((1+1:Nat):Int),()),(f1,((0+1:Nat):Int),dX f1 p ((0+1:Nat):Int),()),(f0,0,dX f0 p 0,())]:=by
   rw[dh,c2,ay t1];show _::dh s.1 p 1 f1= _;rw[w1]
  have z:dh s.1 p 3 f3=[(f3,((2+1:Nat):Int),dX f3 p ((2+1:Nat):Int),()),(f2,((1+1:Nat):Int),dX f2 p ((1+1:Nat):Int),()),(f1,((0+1:Nat):Int),dX f1 p ((0+1:Nat):Int),()),(f0,0,dX f0 p 0,())]:=by
   rw[dh,c3,ay t2];show _::dh s.1 p 2 f2= _;rw[y]
  have A:dX f0 p 0=16*f0+px 0 p % 16:=x;have B:=w;have C:=q;have D:=n;rw[z,A,B,C,D];rfl
theorem Jh {s:WD} {n:Nat} {d:DT} (h:s.2[n]? =some d) (k:d.1=3\/d.1=5): ∃d':DT,s.2[n]? =some d'/\(d'.1=5\/(d'.1=3/\d.1=3)):=by grind
theorem DO (I:Inv g s) {o r p:Int} (l:g r=some (o,3,0)) (c:0<=p/\p<65536) (h0:BX s o r false p=0):
 ∃g',sM (n7 o 0 p) o g g' s (nf s o r false p)/\bA (nf s o r false p) r false p=(0,0,4,())/\(bA s r false p).2.2.1=0/\
  (∃f j,j<=1/\dz g s o p f j/\(aL s.1 (16*f+px j p % 16)).1=true/\cj (nf s o r false p).2 0+j=cj s.2 0)/\(Di g s none->Di g' (nf s o r false p) none):=by
 have u:(bA s r false p).2.2.1=0:=by
  unfold BX at h0
  grind
 have A:mg s o r p=0:=by unfold BX at h0;grind
 obtain⟨f,j,S,d⟩:=I.mv l c;have w:=u;rw[I.fH l c d] at w;have m:=Cy w;have B:j<=1:=by
  rcases I.leaf d.1 (eo p j).1 (eo p j).2 m d.2 with h|h<;>omega
 obtain⟨g1,f0,C1,E1,c1,C⟩:=I.split l c d m A;have D:nf s o r false p=jk (dh (fh s o r p).1 p 3 r).reverse (dJ (fh s o r p).1 (dw (fh s o r p).1 r p).2.2.1 0,(fh s o r p).2):=by
  unfold nf;grind
 have n:=C1.root.to l;have E:=(C1.inv.nK n c E1).1;rw[D,E];generalize fh s o r p=t at*
 have hi:=eo p 0;obtain⟨x,G,H,J,K⟩:=C1.inv.yX (v:=0) E1.1 hi.1 hi.2 E1.2 (by rw[oV];exact Ke) (by rw[oV];exact DP _) (λ_=>rfl) E1 rfl;obtain⟨F,y,U,L⟩:=C1.inv.acg n c E1;rw[L];dsimp only;have U2:Up g1 (dJ t.1 (16*f0+px 0 p % 16) 0,t.2) o p F 0:=by
  refine⟨U.gh,λi h1 q=>?_⟩;have M:=U.ne (a:=i+1) (b:=0) (by omega) (by omega) (by omega) (by omega) (by omega);rw[y] at M;rw[fW (by omega)];exact U.ld i h1 q
 obtain⟨N,C3,c3,O⟩:=thin c 3 rfl x U2;have C2:sM (n7 o 0 p) o g1 g1 t _:=⟨x,.refl _,G,H,λh k=>Jh h k,⟨cA _ _ _,rfl⟩,C1.inv.Cx E1.1 hi.1 hi.2 _,λ_ nl=>nl.upd E1.1 hi.1 hi.2 (λb hb=>fW (λe=>hb e.symm)) λ_ _=>rfl,λh=> .inl h⟩;refine⟨N,((C1.mono λ_ _ h=>h.elim).trans C2).trans (C3.mono λ_ _ h=>h.elim),?_,u,⟨f,j,B,d,m,?_⟩,λh=>?_⟩
 ·obtain⟨f',T,h1,q⟩:=C3.Dw (λh=>h) (J p rfl).1;rw[C3.inv.fH (C3.root.to n) c h1,q];rw[K,oV];rfl
 grind
 ·refine O λf1 o1 V x1 h1 P z=>?_;rw[y] at z;have W:f1≠f0:=λe=>z (by rw[e]);obtain⟨k,k0,Q,R⟩:=C h h1 P (by simp);exact⟨k,k0,Q,by rw[fW (by omega)];exact R⟩
theorem te (I:Inv g s) {o r p rt:Int} (d:g r=some (o,3,0)) (h0:FW s o r false p rt=0):
 (0<=p/\p<65536)/\ ∃g',sM (n7 o 0 p) o g g' s (rC s o r false p rt)/\(bA s r false p).2.2.1=0/\bA (rC s o r false p rt) r false p=((bA s r false p).1,rt,0,())/\
  cj s.2 0<=cj (rC s o r false p rt).2 0+1:=by
 have n: ¬ (false=true):=by decide
 unfold FW at h0;rw[au n] at h0;have l:nc p 0 rt=0:=by
  grind
 rw[ay l] at h0;have w:(0<=p/\p<65536)/\1<=rt/\rt<=7:=by
  unfold nc at l
  grind
 obtain⟨a,G⟩:=w;refine⟨a,?_⟩;obtain⟨f,j,H,c⟩:=I.mv d a;obtain⟨x,eP⟩:=I.nK d a c;have J:=I.fH d a c;by_cases c1:(cY s.1 r p).1=true
 ·rw[ay c1] at h0;have y:rC s o r false p rt=(if((cY s.1 r p).2.2.1&&(cY s.1 r p).2.1==rt)=true then s
   else if mg s o r p=0 then dN (fh s o r p) (dw (fh s o r p).1 r p).2.2.1 (true,rt,false,qt p (dw s.1 r p) (cY s.1 r p),()) else fh s o r p):=by
   unfold rC;rw[au n,ay l,ay c1]
  rw[y];have i:(aL s.1 (16*f+px j p % 16)).1=true:=by rw[<-eP];exact c1
  have m:bA s r false p=(qt p (dw s.1 r p) (cY s.1 r p),(cY s.1 r p).2.1,0,()):=by
   unfold bA
   grind
  by_cases c2:((cY s.1 r p).2.2.1&&(cY s.1 r p).2.1==rt)=true
  ·rw[ay c2];refine⟨g,.refl I _ _,by rw[m],?_,by omega⟩
   grind
  ·rw[au c2] at h0;rw[au c2,ay h0];obtain⟨g1,f0,C1,E1,d1,K⟩:=I.split d a c i h0;have q:=C1.root.to d;have z:=(C1.inv.nK q a E1).1;rw[z];have L:0<=qt p (dw s.1 r p) (cY s.1 r p)/\qt p (dw s.1 r p) (cY s.1 r p)<4096:=by
    have u:=lD s.1 (16*f+px j p % 16);have A:=I.leaf c.1 (eo p j).1 (eo p j).2 i c.2;rw[eP,x];generalize aL s.1 (16*f+px j p % 16)=e at*
    obtain⟨ep,er,el,ef,M⟩:=e;dsimp only at i u A;subst i;obtain⟨N,O,P,Q,R⟩:=l7.1 u;unfold qt
    grind
   have S:j<=1:=by
    rcases I.leaf c.1 (eo p j).1 (eo p j).2 i c.2 with h|h<;>omega
   have B:(bA s r false p).1=qt p (dw s.1 r p) (cY s.1 r p):=by rw[m]
   rw[B];generalize qt p (dw s.1 r p) (cY s.1 r p)=fr at*
   generalize fh s o r p=t at*
   have hv:eR (Tp (true,rt,false,fr,()))=(true,rt,false,fr,()):=by
    show eR (FA true rt false fr)= _;exact xB (l7.2 (by omega))
   have hi:=eo p 0;obtain⟨v,C,D,E,F⟩:=C1.inv.yX E1.1 hi.1 hi.2 E1.2 (by rw[hv];exact OF (by omega)) (by rw[hv];exact λ_ _=> .inl ⟨rfl,rfl⟩) (λh=>by rw[hv] at h;cases h) E1 rfl;have C2:sM (n7 o 0 p) o g1 g1 t _:=⟨v,.refl _,C,D,λh k=>Jh h k,⟨cA _ _ _,rfl⟩,C1.inv.Cx E1.1 hi.1 hi.2 _,λ_ nl=>nl.upd E1.1 hi.1 hi.2 (λb hb=>fW (λe=>hb e.symm)) λ_ _=>rfl,λh=> .inl h⟩;refine⟨g1,(C1.mono λ_ _ h=>h.elim).trans C2,by rw[m],?_,?_⟩
   ·show bA (dJ t.1 (16*f0+px 0 p % 16) _,t.2) r false p= _;rw[v.fH q a (E p rfl).1];show mi p 0 (aL (dJ t.1 _ _) _)= _;rw[F,hv];rfl
   ·show _<=cj t.2 0+1;omega
 grind
theorem map (I:Inv g s) {o r p f rt:Int} (b:g r=some (o,3,0)) (h0:lQ s r false p f rt=0):
 (0<=p/\p<65536)/\ ∃g',sM (n7 o 0 p) o g g' s (jt s o r false p f rt)/\bA (jt s o r false p f rt) r false p=(f,rt,0,())/\1<=rt/\(bA s r false p).2.2.1=4/\
  (∃f0,dz g' (jt s o r false p f rt) o p f0 0)/\
  (∃f0 j,dz g s o p f0 j/\cj (jt s o r false p f rt).2 0+j=cj s.2 0)/\(Di g s none->Di g' (jt s o r false p f rt) none):=by
 unfold lQ at h0;have c:nc p f rt=0:=by
  grind
 rw[ay c] at h0;have d:(0<=p/\p<65536)/\(0<=f/\f<4096)/\1<=rt/\rt<=7:=by
  unfold nc at c
  grind
 obtain⟨a,q,e⟩:=d;have i:jt s o r false p f rt=rB s o r p 0 (true,rt,false,f,()):=by unfold jt;grind
 rw[i];have k:bR _ rt false f=true:=l7.2 (by omega);obtain⟨g',C,A,⟨f1,j,t,l,m,hc⟩,u⟩:=I.put b a rfl k (OF (by omega)) (λ_ _=> .inl (by grind)) h0;obtain⟨f2,E2,n⟩:=A p rfl;refine⟨a,g',C,?_,e.1,?_,⟨f2,E2⟩,by grind⟩
 ·have h:=C.inv.fH (C.root.to b) a E2;rw[n] at h;exact h
 ·rw[I.fH b a l,FY _ _ m]
end Inv
set_option maxRecDepth 100000
open Go.RX D
def fresh (n m:Nat):WD:=(CW n 0,CW m zD)
abbrev noG:Gh:=λ_=>none
theorem VJ (m:Nat) (v:Int):cj (CW m zD) v=if v=0 then m else 0:=by
 unfold cj;rw[List.countP_replicate];by_cases h:v=0
 ·subst h;rfl
 ·rw[au h,au];show ¬ (((0:Int)==v)=true);simp;omega
theorem Mm {n m:Nat} (h:16*m<=n) (b:m<=4096):Inv noG (fresh n m) where
 len:=by
  show 16*(CW m zD).length<=(CW n (0:Int)).length;simpa using h
 le:=by
  show(CW m zD).length<=4096;simpa using b
 fz:=λd a _=>Hr a
 kd:=by intro f o l x h;cases h
 inj:=by intro f o l h;cases h
 si:=by intro f o l x i h;cases h
 leaf:=by intro f o l x i h;cases h
 Fl:=by intro f o l x h;cases h
 wf:=by intro f o l x i h;cases h
 tb:=by
  intro k d a c;have:d=zD:=Hr (DB a);subst this;cases c
namespace Inv
variable {g:Gh} {s:WD}
theorem born (I:Inv g s) {o:Int} (w:1<=o/\o<=16) (A: ∀f,g f≠some (o,3,0)) (hc:0<cj s.2 0):
 rj s o=0/\g (eh s o)=none/\0<=eh s o/\eh s o<s.2.length/\(iK s o λ_=>0).2=s.2.set (eh s o).toNat (3,o,0,0,())/\s.2[(eh s o).toNat]? =some zD/\
 (∀b,(b<16*eh s o\/16*eh s o+16<=b)->dE (iK s o λ_=>0).1 b=dE s.1 b)/\
 (∀k,0<=k->k<16->dE (iK s o λ_=>0).1 (16*eh s o+k)=0)/\(iK s o λ_=>0).1.length=s.1.length/\
 Inv (mD g (eh s o) (some (o,3,0))) (iK s o λ_=>0):=by
 obtain⟨n,K,B,L,M,N⟩:=mY hc I.fz w;have C:eh s o=(n:Int):=L;have D:rj s o=0:=M;have O:=I.len;have P:=I.le;have Q:16*(n:Int)+16<=s.1.length:=by omega
 obtain⟨W,r⟩: ∃W,W=eT s.1 (n:Int) (λ_=>0) 16:=⟨_,rfl⟩;have E:W.length=s.1.length:=by rw[r,gF]
 have F: ∀b,dE W b=if 16*(n:Int)<=b/\b<16*(n:Int)+16 then 0 else dE s.1 b:=λb=>by
  rw[r];exact tg (by omega) Q 16 (BP _) b
 have R:iK s o (λ_=>0)=(W,s.2.set n (3,o,0,0,())):=by unfold iK;rw[ay D,C,N,r]
 clear r;have gn:g (n:Int)=none:=by
  cases S:g (n:Int) with
  |none=>rfl
  |some v=>
   obtain⟨a,b,c⟩:=v;have:=(I.kd S).2.2.1;rw[show((n:Int)).toNat=n from rfl,B] at this;cases this
 have t: ∀{f':Int} {v},g f'=some v->f'≠(n:Int):=λh e=>by rw[e,gn] at h;cases h
 rw[R,C];have x: ∀b,(b<16*(n:Int)\/16*(n:Int)+16<=b)->dE W b=dE s.1 b:=λb h=>by rw[F b,au (by omega)]
 have y: ∀k,0<=k->k<16->dE W (16*(n:Int)+k)=0:=λk h0 h1=>by rw[F,ay (by omega)]
 have w1: ∀b,(b<16*(n:Int)\/16*(n:Int)+16<=b)->aL W b=aL s.1 b:=λb h=>by unfold aL;rw[x b h]
 have G: ∀k,0<=k->k<16->aL W (16*(n:Int)+k)=zE:=λk h0 h1=>by unfold aL;rw[y k h0 h1];exact oV
 have fI: ∀{f0 l p k:Int} {i:Nat},g f0=some (l,i,p)->0<=k->k<16->aL W (16*f0+k)=aL s.1 (16*f0+k):=λ{f0 l p k i} h h0 h1=>by
  have:=t h;exact w1 _ (by omega)
 refine⟨D,gn,by omega,by omega,rfl,by rw[show((n:Int)).toNat=n from rfl];exact B,x,y,E,?_⟩;refine⟨?_,?_,?_,?_,?_,?_,?_,?_,?_,?_⟩
 ·show 16*(s.2.set n _).length<=W.length;rw[E,B5];exact O
 ·show(s.2.set n _).length<=4096;rw[B5];exact P
 ·intro d z h0;rcases FE z with z|rfl
  ·exact I.fz d z h0
  ·cases h0
 ·intro f0 l i p h;show _/\ _<((s.2.set n (3,o,0,0,())).length:Int)/\(s.2.set n (3,o,0,0,()))[f0.toNat]? = _/\ _;rw[B5];by_cases e:f0=(n:Int)
  ·subst e;rw[bI] at h;cases h;refine⟨by omega,by omega,?_,w.1,w.2,by omega⟩;rw[show((n:Int)).toNat=n from rfl,Do K]
  ·rw[aW e] at h;obtain⟨a1,T,U,V⟩:=I.kd h;refine⟨a1,T,?_,V⟩;rw[Bx (by omega)];exact U
 ·intro a b v q hb;by_cases e:a=(n:Int)<;>by_cases e':b=(n:Int)
  ·rw[e,e']
  ·subst e;rw[bI] at q;rw[aW e'] at hb;cases q;exact absurd hb (A b)
  ·subst e';rw[bI] at hb;rw[aW e] at q;cases hb;exact absurd q (A a)
  ·rw[aW e] at q;rw[aW e'] at hb;exact I.inj q hb
 ·intro f0 l i p k h h0 h1 j;by_cases e:f0=(n:Int)
  ·subst e;have j:dH (aL W (16*(n:Int)+k))=true:=j;rw[G k h0 h1,Ke] at j;cases j
  ·rw[aW e] at h;have j:dH (aL W (16*f0+k))=true:=j;show∃m,i=m+1/\mD g n _ (aL W (16*f0+k)).2.2.2.1= _;rw[fI h h0 h1] at j ⊢;obtain⟨X,Y,H⟩:=I.si h h0 h1 j;exact⟨X,Y,by rw[aW (t H)];exact H⟩
 ·intro f0 l i p k h h0 h1;show lx i (aL W (16*f0+k));by_cases e:f0=(n:Int)
  ·subst e;rw[G k h0 h1];exact DP _
  ·rw[aW e] at h;rw[fI h h0 h1];exact I.leaf h h0 h1
 ·intro f0 l i p h Z;by_cases e:f0=(n:Int)
  ·subst e;rw[bI] at h;cases h;omega
  ·rw[aW e] at h;obtain⟨f',p1,p2⟩:=I.Fl h Z;refine⟨f',by rw[aW (t p1)];exact p1,?_⟩;show aL W _= _;rw[fI p1 (by omega) (by omega)];exact p2
 ·intro f0 l i p k h h0 h1 u;show dE W (16*f0+k)=0;by_cases e:f0=(n:Int)
  ·subst e;exact y k h0 h1
  ·rw[aW e] at h;have u:(aL W (16*f0+k)).1=false:=u;rw[fI h h0 h1] at u;have:=t h;rw[x _ (by omega)];exact I.wf h h0 h1 u
 ·intro J d rh h3;by_cases e:J=n
  ·subst e;exact⟨_,bI _ _ _⟩
  ·have h':(s.2.set n (3,o,0,0,()))[J]? =some d:=rh;rw[Bx (by omega)] at h';obtain⟨v,hv⟩:=I.tb h' h3;exact⟨v,by rw[aW (by omega)];exact hv⟩
end Inv
end Go.Proofs.YtlcenllcmeebhaaGreat
