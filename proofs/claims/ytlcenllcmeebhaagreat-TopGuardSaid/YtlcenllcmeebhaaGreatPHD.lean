import Derived.Test.YtlcenllcmeebhaaGreatPHC
/-! What the statement leans on: texts joined and shortened by a program of mine. -/
set_option linter.unusedVariables false
set_option linter.unusedSimpArgs false
open Go renaming World->A2,Addr->Ab,Value->Ad,MapEntry->Av
open Go.Proofs.Tryz renaming prog->AC
open Eq renaming mpr->Ae
open Go.IntKind renaming i64->B1
open List renaming range->B2,length_set->B4,getElem?_eq_some_iff->B5,length_cons->BK,getElem?_set_ne->BO,replicate->Bp,getElem?_eq_getElem->Bs,mem_of_getElem?->Bv,sublist_cons_self->C6,mem_append_right->C7,getD_eq_getElem?_getD->CH,perm_middle->CO,getElem?_set_self->CP,length_map->CV,append_nil->CX,mem_or_eq_of_mem_set->Db,length_append->Dc,mem_cons_self->De,getElem?_append_left->Dl,mem_cons->Do,mem_singleton->Dv,length_take->E4,drop_of_length_le->E5,take_add_one->E6,sublist_append_left->E9,drop_eq_getElem_cons->EO,length_eq_zero_iff->FF,findIdx?_eq_some_iff_getElem->FS,ext_getElem?->Ff,append_assoc->Fs,length_pos_iff->Fu,length_drop->Fv,getElem?_map->Fw,getElem?_take_of_lt->Fx,getElem?_drop->G1,take_of_length_le->GS,all_eq_false->Ga,all_eq_true->Gd,getElem?_of_mem->Gi,take_append_drop->H4,range_succ->H5,foldl_cons->H6,getElem?_append_right->H7,findIdx?_eq_none_iff->HB,eq_of_mem_replicate->HE
open Int renaming toNat->B3,le_refl->Cb,eq_ofNat_of_zero_le->HG
open Prod.mk renaming injEq->BJ
open Nat renaming le_refl->BL,mul_one->CN,eq_of_beq_eq_true->DA,ne_of_beq_eq_false->DB,zero_add->EU
open Option.some renaming injEq->BN
open Decidable renaming rec->Bx
open List.Sublist renaming refl->Bz
open Go.Value renaming func->Da,pointer->HM,nilFunc->HZ
open Bool renaming or_eq_true->Dn,or_eq_false_iff->EW
open List.Perm renaming swap->EY,cons->F0
namespace Go.Proofs.YtlcenllcmeebhaaGreat
set_option maxRecDepth 100000
open Go.RX
abbrev aaq:Sh:= .el (.one (.zF 244 2))
abbrev FU:Sh:= .el (.one (.zF 247 3))
noncomputable def N0:dj AC:={M0 with sh:=[(219,aaq),(239,FU)],quiet:=[117,118,62,30,88,56,215,194,241]}
theorem uR (p:Option Ab) (w:A2) (a:Int->A2->Prop):(aN N0 (λ_=>[]) 88 [ag p] w a)=(
 ((!p.isNone)=true->p.isSome=true)/\((!p.isNone)=true->p.isSome=true)/\aj w (some !p.isNone) (ad p 0) kQ λx=>aL (p.isNone||x.isNone) (ao w (a 10)) (aal p 4 w λx=>aL x (ao w (a 6)) (ao w (a 0)))):=by kernel_rfl
theorem QT (p:Option Ab) (w:A2) (a:Int->A2->Prop):(aN N0 (λ_=>[]) 56 [ag p] w a)=(
 ∃(x:Int),ah AC 88 [ag p] w (aa x)/\aL (x != 0) (ao w (a (-1))) (cv p 3 w λx=>ao w (a x))):=by kernel_rfl
theorem KP (p f r:Int) (w:A2) (a:Int->A2->Prop):(aN N0 (λ_=>[]) 215 [aa p,aa f,aa r] w a)=(
 aL (decide (p<0)||decide (p>=65536)||decide (f<0)||decide (f>=4096)) (ao w (a 2)) (aL (decide (r<1)||decide (r>7)) (ao w (a 7)) (ao w (a 0)))):=by kernel_rfl
theorem KQ (f:Int) (w:A2) (c:(Bool×Int×Bool×Int×Unit)->A2->Prop):(bQ N0 (λ_=>[]) 241 [aa f] w c)=(
 aK w ⟨[.bool false,aa 0,.bool false,aa 0]⟩ 130 λb a=>aC a (ae b) [.bool true,aa 0,.bool false,aa f] λa=>ao a λw1=>aj w1 none (ae b) jX λ(x:Bool×Int×Bool×Int×Unit)=>c (x.1,x.2.1,x.2.2.1,x.2.2.2.1,()) w1):=by kernel_rfl
theorem KR (p d e f:Int) (ep:Bool) (er:Int) (el:Bool) (ef:Int) (w:A2) (c:Int->A2->Prop):(aN N0 (λ_=>[]) 194 [aa p,.agg ⟨[aa d,aa e,aa f]⟩,.agg ⟨[.bool ep,aa er,.bool el,aa ef]⟩] w c)=(
 aK w ⟨[aa d,aa e,aa f]⟩ 270 λb a=>aK a ⟨[.bool ep,aa er,.bool el,aa ef]⟩ 130 λg a=>true=true/\aU a (ad (ae b) 1) λx=>aL (x==1) (true=true/\aU a (ad (ae g) 3) λx=>True/\gK 1≠0/\ao a λw1=>c (aB .i64 x (bH p (gK 1))) w1) (true=true/\aU a (ad (ae g) 3) λx=>ao a (c x))):=by kernel_rfl
theorem OG (p:Option Ab) (i:Int) (w:A2) (c:(Bool×Int×Bool×Int×Unit)->A2->Prop):(bQ N0 (λ_=>[]) 235 [ag p,aa i] w c)=(
 aK w ⟨[.bool false,aa 0,.bool false,aa 0]⟩ 130 λb a=>bN p 0 a λx=>aD AC 37 (.bu [.one (.int .u64),.one (.int .i64)]) [ag x,aa i] a λ(x:Int×Int×Unit) a=>U (B x.1)=x.1/\aK a ⟨[.bool false,aa 0,.bool false,aa 0]⟩ 130 λd a=>aC a (ae d) [.bool (Hs (B x.1).toNat),aa (Fc (B x.1).toNat),.bool (Jx (B x.1).toNat),aa (ES (B x.1).toNat)] λa=>aj a none (ae d) jX λ(x:Bool×Int×Bool×Int×Unit)=>aC a (ae b) [.bool x.1,aa x.2.1,.bool x.2.2.1,.int
 .i64 x.2.2.2.1] λa=>ao a λw1=>aj w1 none (ae b) jX λ(x:Bool×Int×Bool×Int×Unit)=>c (x.1,x.2.1,x.2.2.1,x.2.2.2.1,()) w1):=by kernel_rfl
theorem UO (p:Option Ab) (i:Int) (ep:Bool) (er:Int) (el:Bool) (ef:Int) (w:A2) (c:Unit->A2->Prop):(aN N0 (λ_=>[]) 222 [ag p,aa i,.agg ⟨[.bool ep,aa er,.bool el,aa ef]⟩] w c)=(
 aK w ⟨[.bool ep,aa er,.bool el,aa ef]⟩ 130 λb a=>aj a none (ae b) jX λ(x:Bool×Int×Bool×Int×Unit)=>True/\bN p 0 a λd=>aD AC 38 (.el aV) [ag d,aa i,ay (Fb x.1 x.2.1 x.2.2.1 x.2.2.2.1)] a λ(x:Int) a=>ao a (c ())):=by kernel_rfl
theorem UP (p:Option Ab) (pg:Int) (w:A2) (c:Option Ab×Option Ab×Unit->A2->Prop):(aN N0 (λ_=>[]) 219 [ag p,aa pg] w c)=(
 aK w ⟨[ag p]⟩ 118 λb a=>aK a ⟨[aa pg]⟩ 3 λd a=>ao a (c (some ⟨b,0,none⟩,some ⟨d,0,none⟩,()))):=by kernel_rfl
def tP:Nat->aZ:=(λ|2=>[(4,Go.RX.El.one (Go.RX.Sc.int B1)),(5,Go.RX.El.one (Go.RX.Sc.int B1))]| _=>[])
theorem QU (y:Nat) (p c:Option Ab) (w:A2) (d:Unit->A2->Prop):(aN N0 tP 244 [.func (.yield y) #[] #[],ag p,ag c] w d)=(
 fR w p λx=>cv x 3 w λx=> ∃(I:Nat->Int×Int×Unit->A2->Prop),(∃n, ∀w1,Ext w w1->I n (x,3,()) w1)/\ ∀(n:Nat) (s:Int×Int×Unit) (w1:A2),I n s w1->aL (decide (s.2.1>=0)) (aU w1 c λx=>True/\aK w1 ⟨[aa 0,aa 0,aa 0]⟩ 270 λb a=>aC a (ae b) [aa s.1,aa s.2.1,aa (dY s.1 x s.2.1)] λa=>fR a p λx=>true=true/\aU a (ad (ae b) 2) λh=>aD AC 235 (.el jX) [ag x,aa h] a λ(x:Bool×Int×Bool×Int×Unit) a=>aK a ⟨[.bool false,
 aa 0,.bool false,aa 0]⟩ 130 λe a=>aC a (ae e) [.bool x.1,aa x.2.1,.bool x.2.2.1,aa x.2.2.2.1] λa=>aj a none (ae b) wH λ(x:Int×Int×Int×Unit)=> ∀w1,Ext a w1->ma AC y [.agg ⟨[aa x.1,aa x.2.1,aa x.2.2.1]⟩] w1 λ(b:Bool) a=>aj a (some !!b) (ae e) jX λ(x:Bool×Int×Bool×Int×Unit)=>((!!b)=true->True)/\aL (!b|| !fH x.1 x.2.1 x.2.2.1 x.2.2.2.1) (ao a (d ())) (true=true/\aU a (ad (ae e) 3) λx=> ∀f,Ext a f-> ∃(g:Nat),g<n/\
 I g (x,aY .i64 s.2.1 1,()) f)) (ao w1 (d ()))):=by kernel_rfl
def tQ:Nat->aZ:=(λ|4=>[(6,.agg [.int .i64,.int .i64,.int .i64])]| _=>[])
theorem QV (p c:Option Ab) (w:A2) (e:Option Ab×Nat×Nat->A2->Prop):(bQ N0 tQ 218 [.func (.func 244) #[] #[ag p,ag c]] w e)=(
 aK w ⟨[.slice none 0 0]⟩ 285 λb a=>zz AC 244 (λ(y:Nat)=>[.func (Fn.yield y) ⟨[]⟩ ⟨[]⟩,ag p,ag c]) ⟨[6]⟩ a (λ(x:(Int×Int×Int×Unit)×Unit)=>[.agg ⟨[aa x.1.1,aa x.1.2.1,aa x.1.2.2.1]⟩]) (λ(l:Nat) (rec:Loop) (x:(Int×Int×Int×Unit)×Unit) g (R:Bool->A2->Prop)=>CQ l rec [Value.agg ⟨[aa x.1.1,aa x.1.2.1,aa x.1.2.2.1]⟩].length 1 g (aK g ⟨[aa 0,aa 0,aa 0]⟩ 270 λi a=>aC a (ae i) [aa x.1.1,aa x.1.2.1,.int .i64
 x.1.2.2.1] λa=>Bu l rec a λd=>sw d (ae b) λx=>aj d none (ae i) wH λ(f:Int×Int×Int×Unit)=>aK d ⟨[aa f.1,aa f.2.1,aa f.2.2.1]⟩ 270 λj a=> ∀w1,Ext a w1->m7 w1 270 3 24 ⟨[aa 0,aa 0,aa 0]⟩ (x.1,x.2.1,x.2.2) (some ⟨j,0,none⟩,1,1) λ(r:Option Ab×Nat×Nat) a=>aC a (ae b) [.slice r.1 r.2.1 r.2.2] λa=>rY l rec none a R)) λ(r:Nat) (rec:Loop) k=>dv (r+1) rec
 k (λd=>sw d (ae b) λx=>rZ [r] d λw1=>e (x.1,x.2.1,x.2.2) w1) (λ(id:Nat) d=>Bx (λ(h:id=0->False)=>False) (λ(h:id=0)=>sw d (ae b) λx=>rZ [r] d λw1=>e (x.1,x.2.1,x.2.2) w1) (match h:id.beq 0 with|true=>isTrue (DA h)|false=>isFalse (DB h))) λd=>rZ [r] d λw1=>e (none,0,0) w1):=by kernel_rfl
theorem UQ (p:Option Ab) (pg:Int) (w:A2) (f:(Int×Int×Int×Unit)×(Bool×Int×Bool×Int×Unit)×Unit->A2->Prop):(bQ N0 (λ_=>[]) 193 [ag p,aa pg] w f)=(
 aK w ⟨[aa 0,aa 0,aa 0]⟩ 270 λb a=>aK a ⟨[.bool false,aa 0,.bool false,aa 0]⟩ 130 λg a=>aD AC 219 (.el (.one (.zF 244 2))) [ag p,aa pg] a λx a=>aD AC 218 (.el iu) [.func (.func 244) ⟨[]⟩ ⟨[ag x.1,ag x.2.1]⟩] a λx a=>(x.1.isSome=true/\0<=aY .i64 (↑x.2.1:Int) 1/\aY .i64 (↑x.2.1:Int) 1<(↑x.2.1:Int))/\aj a none (ad x.1 ((aY .i64 (↑x.2.1:Int) 1).toNat*3)) wH λ(x:Int×Int×Int×Unit)=>aK a ⟨[aa 0,aa 0,aa 0]⟩ 270 λc
 a=>aC a (ae c) [aa x.1,aa x.2.1,aa x.2.2.1] λa=>aj a none (ae c) wH λ(x:Int×Int×Int×Unit)=>true=true/\aU a (ad (ae c) 2) λh=>aD AC 235 (.el jX) [ag p,aa h] a λ(d:Bool×Int×Bool×Int×Unit) a=>cP a (ae c) wH x/\aC a (ae b) [aa x.1,aa x.2.1,aa x.2.2.1] λa=>aC a (ae g) [.bool d.1,aa d.2.1,.bool d.2.2.1,aa d.2.2.2.1] λa=>ao a λw1=>aj w1 none (ae b) wH λ(x:Int×Int×Int×Unit)=>aj w1
 none (ae g) jX λ(e:Bool×Int×Bool×Int×Unit)=>f ((x.1,x.2.1,x.2.2.1,()),(e.1,e.2.1,e.2.2.1,e.2.2.2.1,()),()) w1):=by kernel_rfl
def qQ:Nat->aZ:=(λ|5=>[(24,Go.RX.El.one (Go.RX.Sc.int B1))]| _=>[])
theorem KS (p:Option Ab) (w:A2) (b:Int×Int×Unit->A2->Prop):(aN N0 qQ 205 [ag p,.func (.func 206) #[] #[]] w b)=(
 bN p 1 w λx=>cv p 2 w λf=>aD AC 172 (.bu [.one (.int .i64),.one (.int .i64)]) [ag x,aa 3,aa f] w λ(x:Int×Int×Unit) a=>aL (x.2.1 != 0) (ao a (b (0,x.2.1,()))) (∃(I:Nat->Int×Unit->A2->Prop),(∃n, ∀w1,Ext a w1->I n (0,()) w1)/\ ∀(n:Nat) (s:Int×Unit) (w1:A2),I n s w1->aL (decide (s.1<16)) (bN p 0 w1 λc=>aD AC 206 (.el ou) [aa s.1] w1 λ(g:Int) a=>True/\True/\cP a (ad p 0) kQ c/\True/\True/\aD AC 38 (.el aV) [ag c,
 aa (aB .i64 (ir .i64 16 x.1) s.1),ay g] a λ(x:Int) a=> ∀d,Ext a d-> ∃(e:Nat),e<n/\I e (aB .i64 s.1 1,()) d) (ao w1 (b (x.1,0,()))))):=by kernel_rfl
def qR:Nat->aZ:=(λ|5=>[(24,Go.RX.El.one (Go.RX.Sc.int B1))]| _=>[])
theorem KT (p:Option Ab) (w:A2) (b:Int×Int×Unit->A2->Prop):(aN N0 qR 205 [ag p,.func (.func 240) #[] #[]] w b)=(
 bN p 1 w λx=>cv p 2 w λf=>aD AC 172 (.bu [.one (.int .i64),.one (.int .i64)]) [ag x,aa 3,aa f] w λ(x:Int×Int×Unit) a=>aL (x.2.1 != 0) (ao a (b (0,x.2.1,()))) (∃(I:Nat->Int×Unit->A2->Prop),(∃n, ∀w1,Ext a w1->I n (0,()) w1)/\ ∀(n:Nat) (s:Int×Unit) (w1:A2),I n s w1->aL (decide (s.1<16)) (bN p 0 w1 λc=>aD AC 240 (.el ou) [aa s.1] w1 λ(g:Int) a=>True/\True/\cP a (ad p 0) kQ c/\True/\True/\aD AC 38 (.el aV) [ag c,
 aa (aB .i64 (ir .i64 16 x.1) s.1),ay g] a λ(x:Int) a=> ∀d,Ext a d-> ∃(e:Nat),e<n/\I e (aB .i64 s.1 1,()) d) (ao w1 (b (x.1,0,()))))):=by kernel_rfl
def qS:Nat->aZ:=(λ|5=>[(24,Go.RX.El.one (Go.RX.Sc.int B1))]| _=>[])
theorem KU (p e:Option Ab) (w:A2) (b:Int×Int×Unit->A2->Prop):(aN N0 qS 205 [ag p,.func (.func 242) #[] #[ag e]] w b)=(
 bN p 1 w λx=>cv p 2 w λg=>aD AC 172 (.bu [.one (.int .i64),.one (.int .i64)]) [ag x,aa 3,aa g] w λ(x:Int×Int×Unit) a=>aL (x.2.1 != 0) (ao a (b (0,x.2.1,()))) (∃(I:Nat->Int×Unit->A2->Prop),(∃n, ∀w1,Ext a w1->I n (0,()) w1)/\ ∀(n:Nat) (s:Int×Unit) (w1:A2),I n s w1->aL (decide (s.1<16)) (bN p 0 w1 λc=>aD AC 242 (.el ou) [aa s.1,ag e] w1 λ(h:Int) a=>True/\True/\cP a (ad p 0) kQ c/\True/\True/\aD AC 38 (.el aV)
 [ag c,aa (aB .i64 (ir .i64 16 x.1) s.1),ay h] a λ(x:Int) a=> ∀d,Ext a d-> ∃(f:Nat),f<n/\I f (aB .i64 s.1 1,()) d) (ao w1 (b (x.1,0,()))))):=by kernel_rfl
theorem QW (i:Int) (w:A2) (a:Int->A2->Prop):(aN N0 (λ_=>[]) 206 [aa i] w a)=(
 ao w (a 0)):=by kernel_rfl
theorem QX (i:Int) (w:A2) (a:Int->A2->Prop):(aN N0 (λ_=>[]) 240 [aa i] w a)=(
 ao w (a 0)):=by kernel_rfl
theorem GH (i:Int) (e:Option Ab) (w:A2) (a:Int->A2->Prop):(aN N0 (λ_=>[]) 242 [aa i,ag e] w a)=(
 e.isSome=true/\aU w (ad e 1) λx=>e.isSome=true/\aU w (ad e 3) λb=>True/\ao w (a (Fb true x false (aB .i64 b i)))):=by kernel_rfl
def vU:Nat->aZ:=(λ|6=>[]| _=>[])
theorem UR (p:Option Ab) (pg lv:Int) (ep:Bool) (er:Int) (el:Bool) (ef:Int) (w:A2) (f:Int->A2->Prop):(aN N0 vU 216 [ag p,aa pg,aa lv,.agg ⟨[.bool ep,aa er,.bool el,aa ef]⟩] w f)=(
 aK w ⟨[.bool ep,aa er,.bool el,aa ef]⟩ 130 λb a=>aD AC 193 (.bu [.agg [.int .i64,.int .i64,.int .i64],.agg [.bool,.int .i64,.bool,.int .i64]]) [ag p,aa pg] a λ(x:(Int×Int×Int×Unit)×(Bool×Int×Bool×Int×Unit)×Unit) a=>aK a ⟨[aa 0,aa 0,aa 0]⟩ 270 λc a=>aK a ⟨[.bool false,aa 0,.bool false,aa 0]⟩ 130 λg a=>aC a (ae c) [aa x.1.1,aa x.1.2.1,aa x.1.2.2.1] λa=>aC a (ae g) [.bool x.2.1.1,aa x.2.1.2.1,.bool
 x.2.1.2.2.1,aa x.2.1.2.2.2.1] λa=>true=true/\uu a (ad (ae g) 0) λx=>((!x)=true->true=true)/\aj a (some !x) (ad (ae c) 1) aV λ(k:Int)=>aL (x||decide (k<lv)) (ao a (f 5)) (bN p 1 a λx=> ∃(h:Int),ah AC 30 [ag x,aa 0] a (aa h)/\true=true/\aU a (ad (ae c) 1) λx=>aL (decide (h<aY .i64 x lv)) (ao a (f 12)) (∃(I:Nat->Unit->A2->Prop),(∃n, ∀w1,Ext a w1->I n () w1)/\ ∀(n:Nat) (s:Unit) (w1:A2),I n s w1->true=true/\aU w1 (ad
 (ae c) 1) λx=>aL (decide (x>lv)) (aD AC 205 (.bu [.one (.int .i64),.one (.int .i64)]) [ag p,.func (.func 240) ⟨[]⟩ ⟨[]⟩] w1 λ(x:Int×Int×Unit) a=>true=true/\aU a (ad (ae c) 2) λe=> ∃(d:Bool×Int×Bool×Int×Unit),ah AC 241 [aa x.1] a (.agg ⟨[.bool d.1,aa d.2.1,.bool d.2.2.1,aa d.2.2.2.1]⟩)/\aD AC 222 (.bu []) [ag p,aa e,.agg ⟨[.bool d.1,aa d.2.1,.bool d.2.2.1,aa d.2.2.2.1]⟩] a λo a=>true=true/\aU a (ad (ae c) 1)
 λl=>true=true/\aU a (ad (ae c) 1) λm=>True/\aC a (ae c) [aa x.1,aa (aY .i64 l 1),aa (dY x.1 pg (aY .i64 m 1))] λa=> ∀i,Ext a i-> ∃(j:Nat),j<n/\I j () i) (true=true/\aU w1 (ad (ae c) 2) λx=>aj w1 none (ae b) jX λ(e:Bool×Int×Bool×Int×Unit)=>aD AC 222 (.bu []) [ag p,aa x,.agg ⟨[.bool e.1,aa e.2.1,.bool e.2.2.1,aa e.2.2.2.1]⟩] w1 λx a=>ao a (f 0))))):=by kernel_rfl
theorem US (p:Option Ab) (pg f r:Int) (w:A2) (a:Int->A2->Prop):(aN N0 (λ_=>[]) 173 [ag p,aa pg,aa f,aa r] w a)=(
 ∃(x:Int),ah AC 88 [ag p] w (aa x)/\aL (x != 0) (ao w (a x)) (∃(x:Int),ah AC 215 [aa pg,aa f,aa r] w (aa x)/\aL (x != 0) (ao w (a x)) (aD AC 216 (.el aV) [ag p,aa pg,aa 0,.agg ⟨[.bool true,aa r,.bool false,aa f]⟩] w λ(x:Int) b=>ao b (a x)))):=by kernel_rfl
theorem KW (p:Option Ab) (pg:Int) (w:A2) (c:Int×Int×Int×Unit->A2->Prop):(aN N0 (λ_=>[]) 139 [ag p,aa pg] w c)=(
 ∃(x:Int),ah AC 88 [ag p] w (aa x)/\aL (x != 0) (ao w (c (0,0,x,()))) (aL (decide (pg<0)||decide (pg>=65536)) (ao w (c (0,0,2,()))) (aD AC 193 (.bu [.agg [.int .i64,.int .i64,.int .i64],.agg [.bool,.int .i64,.bool,.int .i64]]) [ag p,aa pg] w λ(x:(Int×Int×Int×Unit)×(Bool×Int×Bool×Int×Unit)×Unit) a=>aK a ⟨[aa 0,aa 0,aa 0]⟩ 270 λb a=>aK a ⟨[.bool false,aa 0,.bool false,aa 0]⟩ 130 λd a=>aC a (ae b) [aa x.1.1,.int
 .i64 x.1.2.1,aa x.1.2.2.1] λa=>aC a (ae d) [.bool x.2.1.1,aa x.2.1.2.1,.bool x.2.1.2.2.1,aa x.2.1.2.2.2.1] λa=>true=true/\uu a (ad (ae d) 0) λx=>aL (!x) (ao a (c (0,0,4,()))) (aj a none (ae b) wH λ(x:Int×Int×Int×Unit)=>aj a none (ae d) jX λ(e:Bool×Int×Bool×Int×Unit)=> ∃(f:Int),ah AC 194 [aa pg,.agg ⟨[aa x.1,aa x.2.1,aa x.2.2.1]⟩,.agg ⟨[.bool e.1,aa e.2.1,.bool e.2.2.1,aa e.2.2.2.1]⟩] a (aa f)/\
 true=true/\aU a (ad (ae d) 1) λx=>ao a (c (f,x,0,())))))):=by kernel_rfl
theorem KX (p:Option Ab) (pg:Int) (w:A2) (d:Int->A2->Prop):(aN N0 (λ_=>[]) 217 [ag p,aa pg] w d)=(
 aD AC 193 (.bu [.agg [.int .i64,.int .i64,.int .i64],.agg [.bool,.int .i64,.bool,.int .i64]]) [ag p,aa pg] w λ(x:(Int×Int×Int×Unit)×(Bool×Int×Bool×Int×Unit)×Unit) a=>aK a ⟨[aa 0,aa 0,aa 0]⟩ 270 λb a=>aK a ⟨[.bool false,aa 0,.bool false,aa 0]⟩ 130 λe a=>aC a (ae b) [aa x.1.1,aa x.1.2.1,aa x.1.2.2.1] λa=>aC a (ae e) [.bool x.2.1.1,aa x.2.1.2.1,.bool x.2.1.2.2.1,aa x.2.1.2.2.2.1] λa=>true=true/\aU a (ad (ae b) 1)
 λx=>aL (x==0) (ao a (d 0)) (aD AC 205 (.bu [.one (.int .i64),.one (.int .i64)]) [ag p,.func (.func 242) ⟨[]⟩ {toList:=[ag (ae e)]}] a λ(x:Int×Int×Unit) a=>aL (x.2.1==0) (true=true/\aU a (ad (ae b) 2) λf=> ∃(c:Bool×Int×Bool×Int×Unit),ah AC 241 [aa x.1] a (.agg ⟨[.bool c.1,aa c.2.1,.bool c.2.2.1,aa c.2.2.2.1]⟩)/\aD AC 222 (.bu []) [ag p,aa f,.agg ⟨[.bool c.1,aa c.2.1,.bool c.2.2.1,aa c.2.2.2.1]⟩] a λg a=>
 ao a (d x.2.1)) (ao a (d x.2.1)))):=by kernel_rfl
def tR:Nat->aZ:=(λ|1=>[(4,Go.RX.El.one (Go.RX.Sc.int B1))]|4=>[(26,Go.RX.El.one (Go.RX.Sc.int B1))]| _=>[])
theorem QY (p q:Option Ab) (n c:Nat) (w:A2) (g:Unit->A2->Prop):(aN N0 tR 220 [ag p,.slice q n c] w g)=(
 ∃(I:Nat->Int×Unit->A2->Prop),(∃f, ∀w1,Ext w w1->I f (aY .i64 (↑n:Int) 1,()) w1)/\ ∀(f:Nat) (s:Int×Unit) (w1:A2),I f s w1->aL (decide (s.1>0)) (bN p 0 w1 λx=>(q.isSome=true/\0<=s.1/\s.1<(↑n:Int))/\(ad q (B3 s.1*3)).isSome=true/\aj w1 none (ad (ad q (B3 s.1*3)) 0) aV λ(j:Int)=>aD AC 45 (.el iu) [ag x,aa (ir .i64 16 j),aa 16] w1 λx a=> ∃(h:Nat->Int×Unit->A2->Prop),(∃n, ∀w1,Ext a w1->h n (0,()) w1)/\ ∀(i:Nat) (b
 :Int×Unit) (w1:A2),h i b w1->aL (decide (b.1<(↑x.2.1:Int))) ((x.1.isSome=true/\0<=b.1/\b.1<(↑x.2.1:Int))/\cB w1 (ad x.1 (B3 b.1*1)) λx=>aL (x != 0) (ao w1 (g ())) (∀d,Ext w1 d-> ∃(e:Nat),e<i/\h e (aB .i64 b.1 1,()) d)) (bN p 0 w1 λx=>(q.isSome=true/\0<=aY .i64 s.1 1/\aY .i64 s.1 1<(↑n:Int))/\(ad q ((aY .i64 s.1 1).toNat*3)).isSome=true/\aj w1 none (ad (ad q ((aY .i64 s.1 1).toNat*3)) 2) aV λ(k:Int)=>aD AC 38 (.el aV) [ag x,.int
 .i64 k,ay 0] w1 λ(x:Int) a=>bN p 1 a λx=>(q.isSome=true/\0<=s.1/\s.1<(↑n:Int))/\(ad q (B3 s.1*3)).isSome=true/\aj a none (ad (ad q (B3 s.1*3)) 0) aV λ(l:Int)=>aD AC 138 (.el aV) [ag x,aa l,aa 5,aa 0] a λ(x:Int) a=> ∀d,Ext a d-> ∃(e:Nat),e<f/\I e (aY .i64 s.1 1,()) d)) (ao w1 (g ()))):=by kernel_rfl
theorem KY (p:Option Ab) (pg:Int) (w:A2) (c:Int×Int×Unit->A2->Prop):(aN N0 (λ_=>[]) 175 [ag p,aa pg] w c)=(
 aD AC 139 (.bu [.one (.int .i64),.one (.int .i64),.one (.int .i64)]) [ag p,aa pg] w λ(x:Int×Int×Int×Unit) a=>aL (x.2.2.1 != 0) (ao a (c (0,x.2.2.1,()))) (aD AC 217 (.el aV) [ag p,aa pg] a λ(d:Int) a=>aL (d != 0) (ao a (c (0,d,()))) (aD AC 219 (.el (.one (.zF 244 2))) [ag p,aa pg] a λe a=>aD AC 218 (.el iu) [.func (.func 244) ⟨[]⟩ ⟨[ag e.1,ag e.2.1]⟩] a λb a=>bN p 0 a λf=>(b.1.isSome=true/\0<=aY .i64
 (↑b.2.1:Int) 1/\aY .i64 (↑b.2.1:Int) 1<(↑b.2.1:Int))/\(ad b.1 ((aY .i64 (↑b.2.1:Int) 1).toNat*3)).isSome=true/\aj a none (ad (ad b.1 ((aY .i64 (↑b.2.1:Int) 1).toNat*3)) 2) aV λ(g:Int)=>aD AC 38 (.el aV) [ag f,aa g,ay 0] a λ(h:Int) a=>aD AC 220 (.bu []) [ag p,.slice b.1 b.2.1 b.2.2] a λi a=>ao a (c (x.1,0,()))))):=by kernel_rfl
theorem QZ (p:Option Ab) (pg r:Int) (w:A2) (c:Int->A2->Prop):(aN N0 (λ_=>[]) 177 [ag p,aa pg,aa r] w c)=(
 ∃(x:Int),ah AC 88 [ag p] w (aa x)/\aL (x != 0) (ao w (c x)) (∃(x:Int),ah AC 215 [aa pg,aa 0,aa r] w (aa x)/\aL (x != 0) (ao w (c x)) (aD AC 193 (.bu [.agg [.int .i64,.int .i64,.int .i64],.agg [.bool,.int .i64,.bool,.int .i64]]) [ag p,aa pg] w λ(x:(Int×Int×Int×Unit)×(Bool×Int×Bool×Int×Unit)×Unit) a=>aK a ⟨[aa 0,aa 0,aa 0]⟩ 270 λb a=>aK a ⟨[.bool false,aa 0,.bool false,aa 0]⟩ 130 λd a=>aC a (ae b)
 [aa x.1.1,aa x.1.2.1,aa x.1.2.2.1] λa=>aC a (ae d) [.bool x.2.1.1,aa x.2.1.2.1,.bool x.2.1.2.2.1,aa x.2.1.2.2.2.1] λa=>true=true/\uu a (ad (ae d) 0) λx=>aL (!x) (ao a (c 4)) (true=true/\uu a (ad (ae d) 2) λx=>(x=true->true=true)/\aj a (some x) (ad (ae d) 1) aV λ(g:Int)=>aL (x&&g==r) (ao a (c 0)) (aj a none (ae b) wH λ(x:Int×Int×Int×Unit)=>aj a none (ae d) jX λ(e:Bool×Int×Bool×Int×Unit)=> ∃(f:Int),ah AC 194
 [aa pg,.agg ⟨[aa x.1,aa x.2.1,aa x.2.2.1]⟩,.agg ⟨[.bool e.1,aa e.2.1,.bool e.2.2.1,aa e.2.2.2.1]⟩] a (aa f)/\aD AC 217 (.el aV) [ag p,aa pg] a λ(x:Int) a=>aL (x != 0) (ao a (c x)) (aD AC 193 (.bu [.agg [.int .i64,.int .i64,.int .i64],.agg [.bool,.int .i64,.bool,.int .i64]]) [ag p,aa pg] a λ(x:(Int×Int×Int×Unit)×(Bool×Int×Bool×Int×Unit)×Unit) a=>aC a (ae b) [aa x.1.1,aa x.1.2.1,aa x.1.2.2.1] λa=>true=
 true/\aU a (ad (ae b) 2) λx=>aD AC 222 (.bu []) [ag p,aa x,.agg ⟨[.bool true,aa r,.bool false,aa f]⟩] a λx a=>ao a (c 0))))))):=by kernel_rfl
theorem AV (p:Option Ab) (f lv:Int) (w:A2) (c:Option Ab×Option Ab×Option Ab×Unit->A2->Prop):(aN N0 (λ_=>[]) 239 [ag p,aa f,aa lv] w c)=(
 aK w ⟨[ag p]⟩ 118 λb a=>aK a ⟨[aa f]⟩ 3 λd a=>aK a ⟨[aa lv]⟩ 3 λe a=>ao a (c (some ⟨d,0,none⟩,some ⟨b,0,none⟩,some ⟨e,0,none⟩,()))):=by kernel_rfl
def qT:Nat->aZ:=(λ|4=>[(6,.one (.int .i64))]| _=>[])
theorem KZ (p c d:Option Ab) (w:A2) (f:Option Ab×Nat×Nat->A2->Prop):(bQ N0 qT 238 [.func (.func 247) #[] #[ag p,ag c,ag d]] w f)=(
 aK w ⟨[.slice none 0 0]⟩ 39 λb e=>zz AC 247 (λ(y:Nat)=>[.func (Fn.yield y) ⟨[]⟩ ⟨[]⟩,ag p,ag c,ag d]) ⟨[6]⟩ e (λ(x:Int×Unit)=>[aa x.1]) (λ(l:Nat) (rec:Loop) (x:Int×Unit) i (R:Bool->A2->Prop)=>CQ l rec [aa x.1].length 1 i (Bu l rec i λa=>sw a (ae b) λg=>aK a ⟨[aa x.1]⟩ 3 λj e=> ∀w1,Ext e w1->m7 w1 3 1 8 ⟨[aa 0]⟩ (g.1,g.2.1,g.2.2) (some ⟨j,0,none⟩,1,1) λ(r:Option Ab×Nat×Nat) e=>aC e (some ⟨b,0,
 none⟩) [.slice r.1 r.2.1 r.2.2] λe=>rY l rec none e R)) λ(r:Nat) (rec:Loop) k=>dv (r+1) rec k (λa=>sw a (ae b) λx=>rZ [r] a λw1=>f (x.1,x.2.1,x.2.2) w1) (λ(id:Nat) a=>Bx (λ(h:id=0->False)=>False) (λ(h:id=0)=>sw a (ae b) λx=>rZ [r] a λw1=>f (x.1,x.2.1,x.2.2) w1) (match h:id.beq 0 with|true=>isTrue (DA h)|false=>isFalse (DB h))) λa=>rZ [r] a λw1=>f (none,0,0)
 w1):=by kernel_rfl
def vV:Nat->aZ:=(λ|5=>[(18,Go.RX.El.one (Go.RX.Sc.int B1))]|8=>[(5,Go.RX.El.one (Go.RX.Sc.int B1))]| _=>[])
theorem UT (p:Option Ab) (w:A2) (e:Option Ab×Nat×Nat->A2->Prop):(aN N0 vV 214 [ag p] w e)=(
 ∃(x:Int),ah AC 88 [ag p] w (aa x)/\aL (x != 0) (ao w (e (none,0,0))) (cv p 3 w λx=>aD AC 239 (.el (.one (.zF 247 3))) [ag p,aa x,aa 3] w λx b=>aD AC 238 (.el iu) [.func (.func 247) ⟨[]⟩ ⟨[ag x.1,ag x.2.1,ag x.2.2.1]⟩] b λx b=> ∃(I:Nat->Int×Unit->A2->Prop),(∃n, ∀w1,Ext b w1->I n (0,()) w1)/\ ∀(n:Nat) (s:Int×Unit) (w1:A2),I n s w1->aL (decide (s.1<(↑x.2.1:Int))) (∃(f:Nat->Int×Unit->A2->Prop),(∃n, ∀g,Ext w1 g->f
 n (s.1,()) g)/\ ∀(h:Nat) (a:Int×Unit) (w1:A2),f h a w1->(decide (a.1>0)=true->x.1.isSome=true/\0<=aY .i64 a.1 1/\aY .i64 a.1 1<(↑x.2.1:Int))/\aj w1 (some (decide (a.1>0))) (ad x.1 ((aY .i64 a.1 1).toNat*1)) aV λ(i:Int)=>(decide (a.1>0)=true->x.1.isSome=true/\0<=a.1/\a.1<(↑x.2.1:Int))/\aj w1 (some (decide (a.1>0))) (ad x.1 (B3 a.1*1)) aV λ(j:Int)=>aL (decide (a.1>0)&&decide (i>j)) ((x.1.isSome=true/\0<=a.1/\a.1<(↑x.2.1:Int))/\aU w1
 (ad x.1 (B3 a.1*1)) λk=>(x.1.isSome=true/\0<=aY .i64 a.1 1/\aY .i64 a.1 1<(↑x.2.1:Int))/\aj w1 none (ad x.1 ((aY .i64 a.1 1).toNat*1)) aV λ(l:Int)=>(x.1.isSome=true/\0<=aY .i64 a.1 1/\aY .i64 a.1 1<(↑x.2.1:Int))/\aC w1 (ad x.1 ((aY .i64 a.1 1).toNat*1)) [aa k] λb=>(x.1.isSome=true/\0<=a.1/\a.1<(↑x.2.1:Int))/\aC b (ad x.1 (B3 a.1*1)) [aa l] λb=> ∀c,Ext b c-> ∃(d:Nat),d<h/\f d (aY .i64 a.1 1,()) c) (∀c,Ext w1 c-> ∃(d
 :Nat),d<n/\I d (aB .i64 s.1 1,()) c)) (ao w1 (e (x.1,x.2.1,x.2.2))))):=by kernel_rfl
def tS:Nat->aZ:=(λ|5=>[(13,Go.RX.El.one (Go.RX.Sc.int B1))]| _=>[])
theorem Q0 (p:Option Ab) (w:A2) (b:Option Ab×Nat×Nat->A2->Prop):(aN N0 tS 171 [ag p] w b)=(
 ∃(x:Int),ah AC 88 [ag p] w (aa x)/\aL (x != 0) (ao w (b (none,0,0))) (aD AC 214 (.el iu) [ag p] w λx a=> ∃(I:Nat->Int×Unit->A2->Prop),(∃n, ∀w1,Ext a w1->I n (0,()) w1)/\ ∀(n:Nat) (s:Int×Unit) (w1:A2),I n s w1->aL (decide (s.1<(↑x.2.1:Int))) ((x.1.isSome=true/\0<=s.1/\s.1<(↑x.2.1:Int))/\aU w1 (ad x.1 (B3 s.1*1)) λx=>bN p 1 w1 λe=>aD AC 138 (.el aV) [ag e,aa x,aa 5,aa 0] w1 λ(x:Int) a=> ∀c,Ext a c-> ∃(d
 :Nat),d<n/\I d (aB .i64 s.1 1,()) c) (p.isSome=true/\p.isSome=true/\aC w1 (ad p 4) [.bool true] λa=>ao a (b (x.1,x.2.1,x.2.2))))):=by kernel_rfl
theorem UU (m p:Option Ab) (o:Int) (w:A2) (c:Option Ab×Int×Unit->A2->Prop):(aN N0 (λ_=>[]) 164 [ag m,ag p,aa o] w c)=(
 ∃(x:Int),ah AC 117 [ag m] w (aa x)/\ ∃(d:Int),((!x==0)=true->ah AC 62 [ag p] w (aa d))/\ ∃(e:Int),((!(x==0||d==0))=true->ah AC 117 [ag m] w (aa e))/\ ∃(f:Int),((!(x==0||d==0))=true->ah AC 62 [ag p] w (aa f))/\aL (x==0||d==0||decide (e<ir .i64 16 f)) (ao w (c (none,1,()))) (aK w ⟨[ag m,ag p,aa o,aa 0,.bool false]⟩ 188 λb a=>aD AC 205 (.bu [.one (.int .i64),.one (.int
 .i64)]) [ag (ae b),.func (.func 206) ⟨[]⟩ ⟨[]⟩] a λ(x:Int×Int×Unit) a=>aL (x.2.1 != 0) (ao a (c (none,x.2.1,()))) (true=true/\true=true/\aC a (ad (ae b) 3) [aa x.1] λa=>ao a (c (some ⟨b,0,none⟩,0,()))))):=by kernel_rfl
theorem K8 (p:Option Ab) (i n:Int) (w:A2) (a:Option Ab×Nat×Nat->A2->Prop):(aN N0 (λ_=>[]) 45 [ag p,aa i,aa n] w a)=(
 aL p.isNone (ao w (a (none,0,0))) (p.isSome=true/\p.isSome=true/\aj w none (ad p 0) (.agg [.slice]) λx=>aD AC 80 (.el iu) [.agg ⟨[.slice x.1.1 x.1.2.1 x.1.2.2]⟩,aa i,aa n] w λx b=>ao b (a (x.1,x.2.1,x.2.2)))):=by kernel_rfl
theorem UW (p:Option Ab) (n c:Nat) (i k:Int) (w:A2) (Post:Option Ab×Nat×Nat->A2->Prop):(aN N0 (λ_=>[]) 80 [.agg ⟨[.slice p n c]⟩,aa i,aa k] w Post)=(
 aK w ⟨[.slice p n c]⟩ 157 λb a=>((!(decide (k<1)||decide (i<0)))=true->true=true)/\aj a (some !(decide (k<1)||decide (i<0))) (ad (ae b) 0) (.one .slice) λx=>((!(decide (k<1)||decide (i<0)||decide (i>(↑x.2.1:Int))))=true->true=true)/\aj a (some !(decide (k<1)||decide (i<0)||decide (i>(↑x.2.1:Int)))) (ad (ae b) 0) (.one .slice) λe=>aL (decide (k<1)||decide (i<0)||decide (i>(↑x.2.1:Int))||decide (k>aY .i64 (↑e.2.1:Int) i)) (ao a λw1=>Post (none,0,0) w1) (E7 a 8
 1 k k ⟨[ay 0]⟩ 29 λd a=>true=true/\aj a none (ad (ae b) 0) (.one .slice) λx=>(0<=i/\i<=(↑x.2.1:Int)/\(↑x.2.1:Int)<=(↑x.2.2:Int)/\(↑x.2.2:Int)<=(↑x.2.2:Int))/\ ∀w1,Ext a w1->cpR w1 1 (some ⟨d,0,none⟩,k.toNat) (Bx (λ(h:(↑x.2.2:Int).toNat=i.toNat->False)=>ad x.1 (i.toNat*1)) (λ(h:(↑x.2.2:Int).toNat=i.toNat)=>x.1) (instDecidableEqNat (↑x.2.2:Int).toNat i.toNat),(↑x.2.1:Int).toNat - i.toNat) λ(r:Int) a=>ao a λw1=>Post (some ⟨d,0,none⟩,k.toNat,k.toNat) w1)):=by
 kernel_rfl
end Go.Proofs.YtlcenllcmeebhaaGreat
namespace Go.Proofs.YtlcenllcmeebhaaGreat.D
set_option maxRecDepth 100000
open Go.RX
noncomputable def E3:dj AC:={E0 with quiet:=[62,30,25]}
section
variable {D G:List Nat} {w0 w:A2} {L:List (Nat×List Ad)}
theorem UX (H:aJ D G w0 w L) (i j:Nat) {bp bf n c:Nat} {ds:List DT} {rest:List Ad} (b:L[i]? =some (bp,[.slice (ae bf) n c])) (a:L[j]? =some (bf,flat eD ds++rest)) (e:i≠j) (g:n=ds.length) (l:0<n) (h:n<=4096) (f y o:Int) {K:Int->A2->Prop}
 (k: ∀d,aJ D G w0 d (L.set j (bf,flat eD (dF ds f (aP y o))++rest))->K (vd ds f (aP y o)) d):aD AC 138 (.el (.one (.int .i64))) [ag (ae bp),aa f,aa y,aa o] w K:=by
 subst g;exact aD.C_ H j a (λw1 H=>Cd (H.get b) (H.get a) (H.ne b a e) h f y o) k
theorem UY (H:aJ D G w0 w L) (i j:Nat) {bp bf n c:Nat} {ds:List DT} {rest:List Ad} (b:L[i]? =some (bp,[.slice (ae bf) n c])) (a:L[j]? =some (bf,flat eD ds++rest)) (e:i≠j) (g:n=ds.length) (l:0<n) (h:n<=4096) (f x:Int) (hi: -9223372036854775808<=x/\x<9223372036854775808) {K:Int->A2->Prop}
 (k: ∀d,aJ D G w0 d (L.set j (bf,flat eD (dF ds f (gX x))++rest))->K (vd ds f (gX x)) d):aD AC 183 (.el (.one (.int .i64))) [ag (ae bp),aa f,aa x] w K:=by
 subst g;exact aD.C_ H j a (λw1 H=>UJ (H.get b) (H.get a) (H.ne b a e) h f x hi) k
theorem UZ (H:aJ D G w0 w L) (i j:Nat) {bp bf n c:Nat} {ds:List DT} {rest:List Ad} (b:L[i]? =some (bp,[.slice (ae bf) n c])) (a:L[j]? =some (bf,flat eD ds++rest)) (e:i≠j) (g:n=ds.length) (l:0<n) (h:n<=4096) (f:Int) {K:Int->A2->Prop}
 (k: ∀d,aJ D G w0 d (L.set j (bf,flat eD (dF ds f (aP 0 0))++rest))->K (vd ds f (aP 0 0)) d):aD AC 79 (.el (.one (.int .i64))) [ag (ae bp),aa f] w K:=by
 subst g;exact aD.C_ H j a (λw1 H=>UK (H.get b) (H.get a) (H.ne b a e) h f) k
theorem U8 (H:aJ D G w0 w L) (i j:Nat) {bp bf n c:Nat} {ds:List DT} {rest:List Ad} (b:L[i]? =some (bp,[.slice (ae bf) n c])) (a:L[j]? =some (bf,flat eD ds++rest)) (e:i≠j) (f:n=ds.length) (h:0<n) (g:n<=4096) (y o:Int) {K:Int×Int×Unit->A2->Prop}
 (k: ∀d,aJ D G w0 d (L.set j (bf,flat eD (dB ds y o)++rest))->K (fc ds y o,dQ ds y o,()) d):aD AC 172 (.bu [.one (.int .i64),.one (.int .i64)]) [ag (ae bp),aa y,aa o] w K:=by
 subst f;exact aD.C_ H j a (λw1 H=>UN (H.get b) (H.get a) (H.ne b a e) rfl g y o) k
theorem aa2 (H:aJ D G w0 w L) (i:Nat) {bp n c:Nat} {a:Option Ab} (b:L[i]? =some (bp,[.slice a n c])):ah AC 62 [ag (ae bp)] w (aa (n:Int)):=
 ah.of (s:= .el (.one (.int .i64))) λw' h=>rH ((H.get b).ext h)
theorem U9 (H:aJ D G w0 w L) (i j:Nat) {bp bf n c:Nat} {ds:List DT} {rest:List Ad} (a:L[i]? =some (bp,[.slice (ae bf) n c])) (b:L[j]? =some (bf,flat eD ds++rest)) (d:n=ds.length) (e:n<=4096) (v:Int):
 ah AC 30 [ag (ae bp),aa v] w (aa (cA ds v:Nat)):=
 ah.of (s:= .el (.one (.int .i64))) λw' h=>QR ((H.get a).ext h) ((H.get b).ext h) d e v
theorem abW (H:aJ D G w0 w L) (i j:Nat) {bp bf n c:Nat} {ds:List DT} {rest:List Ad} (a:L[i]? =some (bp,[.slice (ae bf) n c])) (b:L[j]? =some (bf,flat eD ds++rest)) (d:n=ds.length) (f:Int):
 ah AC 25 [ag (ae bp),aa f] w ((Sh.bu [eD,.one .bool]).gR (qp ds f,By ds f,())):=by
 subst d;exact ah.of (s:= .bu [eD,.one .bool]) λw' h=>OF ((H.get a).ext h) ((H.get b).ext h) f
theorem Q1 (H:aJ D G w0 w L) (i j:Nat) {bp bf n c:Nat} {ds:List DT} {rest:List Ad} (b:L[i]? =some (bp,[.slice (ae bf) n c])) (d:L[j]? =some (bf,flat eD ds++rest)) (e:n=ds.length) (f:n<=4096) (v:Int) {K:Option Ab×Nat×Nat->A2->Prop}
 (k: ∀r rows a,aJ D G w0 a (L++rows)->n5 eI rows r ((gB ds v).map λi=>((i:Nat):Int))->K r a):aD AC 166 (.el (.one .slice)) [ag (ae bp),aa v] w K:=
 aD.X_ H (λw1 H=>QS (H.get b) (H.get d) e f v) k
end
end Go.Proofs.YtlcenllcmeebhaaGreat.D
namespace Go.Proofs.YtlcenllcmeebhaaGreat
set_option maxRecDepth 100000
open Go.RX D
abbrev ET:Type:=Bool×Int×Bool×Int×Unit
abbrev PT:Type:=Int×Int×Int×Unit
abbrev sEn:List Sc:=[.bool,.int .i64,.bool,.int .i64]
abbrev Te:List Sc:=[.int .i64,.int .i64,.int .i64]
def zE:ET:=(false,0,false,0,())
def eY (v:Int):ET:=(Hs (B v).toNat,Fc (B v).toNat,Jx (B v).toNat,ES (B v).toNat,())
def dG (e:ET):Bool:=fH e.1 e.2.1 e.2.2.1 e.2.2.2.1
def SO (e:ET):Int:=Fb e.1 e.2.1 e.2.2.1 e.2.2.2.1
def cj (f:Int):ET:=(true,0,false,f,())
def aM (ws:List Int) (i:Int):ET:=eY (dJ ws i)
def dg (ws:List Int) (pg:Int):Nat->Int->List PT
 |0,f=>[(f,0,dY f pg 0,())]
 |l+1,f=>(f,((l+1:Nat):Int),dY f pg ((l+1:Nat):Int),())::if dG (aM ws (dY f pg ((l+1:Nat):Int)))=true then dg ws pg l (aM ws (dY f pg ((l+1:Nat):Int))).2.2.2.1 else[]
theorem xg (ws:List Int) (pg:Int) (l:Nat) (f:Int):dg ws pg l f≠[]:=by cases l<;>simp[dg]
theorem s8 (ws:List Int) (pg:Int): ∀(l:Nat) (f:Int),(dg ws pg l f).length<=l+1
 |0,f=>by simp[dg]
 |l+1,f=>by
  rw[dg];split
  ·have:=s8 ws pg l (aM ws (dY f pg ((l+1:Nat):Int))).2.2.2.1;simp only[BK];omega
  ·simp
def dz (ws:List Int) (r pg:Int):PT:=(dg ws pg 3 r).getLastD (0,0,0,())
def cZ (ws:List Int) (r pg:Int):ET:=aM ws (dz ws r pg).2.2.1
def eZ (ws:List Int) (f:Int) (g:Int->Int):Nat->List Int
 |0=>ws
 |i+1=>dK (eZ ws f g i) (16*f+(i:Int)) (g i)
theorem gH (ws:List Int) (f:Int) (g:Int->Int): ∀n,(eZ ws f g n).length=ws.length
 |0=>rfl
 |n+1=>by rw[eZ,cF,gH ws f g n]
abbrev WD:Type:=List Int×List DT
def eA (s:WD) (o:Int):Int:=fc s.2 3 o
def rj (s:WD) (o:Int):Int:=dQ s.2 3 o
def iN (s:WD) (o:Int) (g:Int->Int):WD:=(if rj s o=0 then eZ s.1 (eA s o) g 16 else s.1,dB s.2 3 o)
def dP (s:WD) (i:Int) (e:ET):WD:=(dK s.1 i (SO e),s.2)
def qI (o pg:Int):Nat->WD×PT->WD×PT
 |0,x=>x
 |n+1,x=>qI o pg n (dP (iN x.1 o λ_=>0) x.2.2.2.1 (cj (eA x.1 o)),(eA x.1 o,x.2.2.1 - 1,dY (eA x.1 o) pg (x.2.2.1 - 1),()))
def l6 (s:WD) (r pg lv:Int):Int:=
 if((cZ s.1 r pg).1||decide ((dz s.1 r pg).2.1<lv))=true then 5
 else if(cA s.2 0:Int)<(dz s.1 r pg).2.1 - lv then 12 else 0
def rz (s:WD) (o r pg lv:Int) (e:ET):WD:=
 if l6 s r pg lv=0 then dP (qI o pg ((dz s.1 r pg).2.1 - lv).toNat (s,dz s.1 r pg)).1 (qI o pg ((dz s.1 r pg).2.1 - lv).toNat (s,dz s.1 r pg)).2.2.2.1 e else s
def na (pg f rt:Int):Int:=if pg<0\/pg>=65536\/f<0\/f>=4096 then 2 else if rt<1\/rt>7 then 7 else 0
def lK (s:WD) (r:Int) (gone:Bool) (pg f rt:Int):Int:=if gone=true then 6 else if na pg f rt=0 then l6 s r pg 0 else na pg f rt
def jv (s:WD) (o r:Int) (gone:Bool) (pg f rt:Int):WD:=if gone=true then s else if na pg f rt=0 then rz s o r pg 0 (true,rt,false,f,()) else s
def qu (pg:Int) (x:PT) (e:ET):Int:=if x.2.1=1 then e.2.2.2.1+pg % 16 else e.2.2.2.1
def bA (s:WD) (r:Int) (gone:Bool) (pg:Int):Int×Int×Int×Unit:=
 if gone=true then(0,0,6,()) else if pg<0\/pg>=65536 then(0,0,2,())
 else if(cZ s.1 r pg).1=true then(qu pg (dz s.1 r pg) (cZ s.1 r pg),(cZ s.1 r pg).2.1,0,()) else(0,0,4,())
def ov (e:ET) (i:Int):Int:=SO (true,e.2.1,false,e.2.2.2.1+i,())
def l8 (s:WD) (o r pg:Int):Int:=if(dz s.1 r pg).2.1=0 then 0 else rj s o
def fi (s:WD) (o r pg:Int):WD:=
 if(dz s.1 r pg).2.1=0 then s
 else if rj s o=0 then dP (iN s o (ov (cZ s.1 r pg))) (dz s.1 r pg).2.2.1 (cj (eA s o)) else iN s o (ov (cZ s.1 r pg))
def jx (ws:List Int) (i n:Int):List Int:=if n<1\/i<0\/i>ws.length\/n>ws.length - i then[] else(ws.drop i.toNat).take n.toNat
def wL (ws:List Int) (f:Int):Bool:=(jx ws (16*f) 16).all λv=>v==0
def jn:List PT->WD->WD
 |x::y::l,s=>if wL s.1 x.1=true then jn (y::l) (dK s.1 y.2.2.1 0,dF s.2 x.1 (aP 5 0)) else s
 | _,s=>s
def BI (s:WD) (o r:Int) (gone:Bool) (pg:Int):Int:=if(bA s r gone pg).2.2.1=0 then l8 s o r pg else(bA s r gone pg).2.2.1
def Fy (s:WD) (o r:Int) (gone:Bool) (pg:Int):Int:=if BI s o r gone pg=0 then(bA s r gone pg).1 else 0
def nb (s:WD) (o r:Int) (gone:Bool) (pg:Int):WD:=
 if(bA s r gone pg).2.2.1=0 then
  if l8 s o r pg=0 then jn (dg (fi s o r pg).1 pg 3 r).reverse (dK (fi s o r pg).1 (dz (fi s o r pg).1 r pg).2.2.1 0,(fi s o r pg).2)
  else fi s o r pg
 else s
def Fz (s:WD) (o r:Int) (gone:Bool) (pg rt:Int):Int:=
 if gone=true then 6 else if na pg 0 rt=0 then(if(cZ s.1 r pg).1=true then(if((cZ s.1 r pg).2.2.1&&(cZ s.1 r pg).2.1==rt)=true then 0 else l8 s o r pg) else 4) else na pg 0 rt
def rA (s:WD) (o r:Int) (gone:Bool) (pg rt:Int):WD:=
 if gone=true then s else if na pg 0 rt=0 then(if(cZ s.1 r pg).1=true then(if((cZ s.1 r pg).2.2.1&&(cZ s.1 r pg).2.1==rt)=true then s
  else if l8 s o r pg=0 then dP (fi s o r pg) (dz (fi s o r pg).1 r pg).2.2.1 (true,rt,false,qu pg (dz s.1 r pg) (cZ s.1 r pg),()) else fi s o r pg) else s) else s
def cW (ws:List Int):Nat->Int->List Int
 |0,f=>[f]
 |l+1,f=>f::(B2 16).flatMap λ(i:Nat)=>if dG (aM ws (16*f+(i:Int)))=true then cW ws l (aM ws (16*f+(i:Int))).2.2.2.1 else[]
def jy (x:Int):List Int->List Int
 |[]=>[x]
 |y::l=>if y>x then y::jy x l else x::y::l
def n7 (l:List Int):List Int:=(l.foldl (λa x=>jy x a) []).reverse
def mG (s:WD) (r:Int) (gone:Bool):List Int:=if gone=true then[] else n7 (cW s.1 3 r)
def cH (s:WD) (r:Int) (gone:Bool):WD:=if gone=true then s else(s.1,(mG s r gone).foldl (λds f=>dF ds f (aP 5 0)) s.2)
structure Sys where
 bm:Nat
 bw:Nat
 bf:Nat
 bp:Nat
 c:Nat
 cp:Nat
 rw:List Ad
 rf:List Ad
def Sys.L (Q:Sys) (ca la:Int) (s:WD) (L0:List (Nat×List Ad)):List (Nat×List Ad):=
 (Q.bm,iP Q.bw s.1.length Q.c ca la)::(Q.bw,flat eW s.1++Q.rw)::(Q.bf,flat eD s.2++Q.rf)::(Q.bp,[.slice (ae Q.bf) s.2.length Q.cp])::L0
structure a_ (Q:Sys) (D G:List Nat) (w0 w:A2) (s:WD) (L0:List (Nat×List Ad)):Prop where
 pos:0<s.1.length
 FA:0<s.2.length
 le:s.2.length<=4096
 ZX:okW s.1
 kn: ∃ca la,aJ D G w0 w (Q.L ca la s L0)
abbrev kF (Q:Sys) (o r:Int) (gone:Bool):List Ad:=[ag (ae Q.bm),ag (ae Q.bp),aa o,aa r,.bool gone]
theorem Zc {ws:List Int} (h:okW ws) (i v:Int) (hv:0<=v/\v<18446744073709551616):okW (dK ws i v):=by
 intro x a;unfold dK at a;split at a
 ·rcases Db a with a|rfl
  ·exact h x a
  ·exact hv
 ·exact h x a
theorem OH (p:Bool) (r:Int) (l:Bool) (f:Int):0<=Fb p r l f/\Fb p r l f<18446744073709551616:=by
 unfold Fb;split
 ·rename_i h;unfold vn;cases p with
  |false=>
   unfold bU at h;simp at h;obtain⟨⟨h1,a⟩,b⟩:=h;subst h1;subst a;subst b;decide
  |true=>
   unfold bU at h;simp at h;have d:(nB l:Int)<=1:=by cases l<;>decide
   have e:0<=(nB l:Int):=by omega
   have c:(nB true:Int)=1:=rfl;rw[c];omega
 ·exact⟨by decide,by decide⟩
theorem IE (n:Nat):0<=ES n/\ES n<4096:=by
 unfold ES;split<;>omega
section
variable {Q:Sys} {D G:List Nat} {w0 w w1:A2} {s:WD} {L0 L1:List (Nat×List Ad)}
namespace a_
theorem ext (S:a_ Q D G w0 w s L0) (h:Ext w w1):a_ Q D G w0 w1 s L0:=by
 obtain⟨h1,a,b,c,ca,la,H⟩:=S;exact⟨h1,a,b,c,ca,la,H.ext h⟩
theorem al (S:a_ Q D G w0 w s L0) {cs:List Ad} {e:TypeId} {K:Nat->A2->Prop} (k: ∀b w1,a_ Q D G w0 w1 s ((b,cs)::L0)->K b w1):aK w ⟨cs⟩ e K:=by
 obtain⟨h1,a,c,d,ca,la,H⟩:=S;exact aK.go H λb w1 H=>k b w1 ⟨h1,a,c,d,ca,la,H.perm (CO (l₁:=[_, _, _, _]))⟩
theorem en (S:a_ Q D G w0 w s L0) {K:A2->Prop} (k: ∀w1,a_ Q D G w0 w1 s L0->K w1):ao w K:=λ_ h=>k _ (S.ext h)
theorem get (S:a_ Q D G w0 w s L0) {i b:Nat} {l:List Ad} (h:L0[i]? =some (b,l)):bM w b l:=by
 obtain⟨h1,a,c,d,ca,la,H⟩:=S;exact H.get (i:=i+4) h
theorem ld (i:Nat) (S:a_ Q D G w0 w s L0) {g:Option Bool} {el:El} {K:el.T->Prop} {b o:Nat} {l:List Ad} {x:el.T} (a:L0[i]? =some (b,l)) (hv:lI l o el=some x) (k:K x):aj w g (some ⟨b,o,none⟩) el K:=
 .of x (dI (S.get a) hv) k
theorem cI (i:Nat) (S:a_ Q D G w0 w s L0) {g:Option Bool} {el:El} {K:el.T->Prop} {b o n:Nat} {l:List Ad} {x:el.T} (a:L0[i]? =some (b,l)) (hv:lI l (o+n) el=some x) (k:K x):aj w g (ad (some ⟨b,o,none⟩) n) el K:=by
 rw[aR];exact .of x (dI (S.get a) hv) k
theorem fe (i:Nat) (S:a_ Q D G w0 w s L0) {b:Nat} {l vs:List Ad} {K:A2->Prop} (a:L0[i]? =some (b,l)) (c:vs.all (·.oneCell')=true) (d:vs.length=l.length)
 (k: ∀w1,a_ Q D G w0 w1 s (L0.set i (b,vs))->K w1):aC w (ae b) vs K:=by
 obtain⟨h1,e,f,g,ca,la,H⟩:=S;exact aC.all (i+4) H a c d λw1 H=>k w1 ⟨h1,e,f,g,ca,la,H⟩
theorem aa3 (i:Nat) (S:a_ Q D G w0 w s L0) {b o:Nat} {l:List Ad} {x:Ad} {K:A2->Prop} (a:L0[i]? =some (b,l)) (c:x.oneCell'=true) (d:Nat.blt o l.length=true)
 (k: ∀w1,a_ Q D G w0 w1 s (L0.set i (b,l.set o x))->K w1):aC w (some ⟨b,o,none⟩) [x] K:=by
 obtain⟨h1,e,f,g,ca,la,H⟩:=S;exact aC.one (i+4) H a c d λw1 H=>k w1 ⟨h1,e,f,g,ca,la,H⟩
theorem BZ (i:Nat) (S:a_ Q D G w0 w s L0) {b o n:Nat} {l:List Ad} {x:Ad} {K:A2->Prop} (a:L0[i]? =some (b,l)) (c:x.oneCell'=true) (d:Nat.blt (o+n) l.length=true)
 (k: ∀w1,a_ Q D G w0 w1 s (L0.set i (b,l.set (o+n) x))->K w1):aC w (ad (some ⟨b,o,none⟩) n) [x] K:=by
 rw[aR];exact S.aa3 i a c d k
theorem go (S:a_ Q D G w0 w s L0) {P:Program} {f:FuncId} {sh:Sh} {args:List Ad} {K:sh.T->A2->Prop} (k: ∀w1,a_ Q D G w0 w1 s L0->aE P f sh args w1 K):aD P f sh args w K:=λ_ h=>k _ (S.ext h)
theorem sub (S:a_ Q D G w0 w s L0) (h:L1.Sublist L0):a_ Q D G w0 w s L1:=by
 obtain⟨h1,a,b,c,ca,la,H⟩:=S;exact⟨h1,a,b,c,ca,la,H.sub (((((h.cons_cons _).cons_cons _).cons_cons _).cons_cons _))⟩
theorem tail {x:Nat×List Ad} (S:a_ Q D G w0 w s (x::L0)):a_ Q D G w0 w s L0:=S.sub (C6 _ _)
theorem perm (S:a_ Q D G w0 w s L0) (h:L1.Perm L0):a_ Q D G w0 w s L1:=by
 obtain⟨h1,a,b,c,ca,la,H⟩:=S;exact⟨h1,a,b,c,ca,la,H.perm ((((h.cons _).cons _).cons _).cons _)⟩
theorem load (S:a_ Q D G w0 w s L0) (i:Int) {K:Int×Int×Unit->A2->Prop} (k: ∀a,a_ Q D G w0 a s L0->K (dJ s.1 i,zM s.1 i,()) a):
 aD AC 37 (.bu [.one (.int .u64),.one (.int .i64)]) [ag (ae Q.bm),aa i] w K:=by
 obtain⟨h1,b,c,d,ca,la,H⟩:=S;exact sZ H 0 1 rfl rfl (by decide) rfl h1 i λa H=>k a ⟨h1,b,c,d, _, _,H⟩
theorem store (S:a_ Q D G w0 w s L0) (i v:Int) (hv:0<=v/\v<18446744073709551616) {K:Int->A2->Prop} (k: ∀a,a_ Q D G w0 a (dK s.1 i v,s.2) L0->K (zM s.1 i) a):
 aD AC 38 (.el (.one (.int .i64))) [ag (ae Q.bm),aa i,ay v] w K:=by
 obtain⟨h1,b,d,e,ca,la,H⟩:=S;refine uO H 0 1 rfl rfl (by decide) rfl h1 i v λa H=>k a ⟨?_,b,d,Zc e i v hv,qo s.1 i ca,qo s.1 i la,?_⟩
 ·show 0<(dK s.1 i v).length;rw[cF];exact h1
 ·unfold Sys.L;show aJ D G w0 a ((Q.bm,iP Q.bw (dK s.1 i v).length Q.c _ _):: _);rw[cF];exact H
theorem take (S:a_ Q D G w0 w s L0) (y o:Int) {K:Int×Int×Unit->A2->Prop} (k: ∀a,a_ Q D G w0 a (s.1,dB s.2 y o) L0->K (fc s.2 y o,dQ s.2 y o,()) a):
 aD AC 172 (.bu [.one (.int .i64),.one (.int .i64)]) [ag (ae Q.bp),aa y,aa o] w K:=by
 obtain⟨h1,b,c,d,ca,la,H⟩:=S;refine U8 H 3 2 rfl rfl (by decide) rfl b c y o λa H=>k a ⟨h1,?_,?_,d,ca,la,?_⟩
 ·show 0<(dB s.2 y o).length;rw[uQ];exact b
 ·show(dB s.2 y o).length<=4096;rw[uQ];exact c
 ·unfold Sys.L;show aJ D G w0 a (_:: _:: _::(Q.bp,[.slice _ (dB s.2 y o).length _]):: _);rw[uQ];exact H
theorem Ty (S:a_ Q D G w0 w s L0) (f y o:Int) {K:Int->A2->Prop} (k: ∀a,a_ Q D G w0 a (s.1,dF s.2 f (aP y o)) L0->K (vd s.2 f (aP y o)) a):
 aD AC 138 (.el (.one (.int .i64))) [ag (ae Q.bp),aa f,aa y,aa o] w K:=by
 obtain⟨h1,b,c,d,ca,la,H⟩:=S;refine UX H 3 2 rfl rfl (by decide) rfl b c f y o λa H=>k a ⟨h1,?_,?_,d,ca,la,?_⟩
 ·show 0<(dF s.2 f (aP y o)).length;rw[iY];exact b
 ·show(dF s.2 f (aP y o)).length<=4096;rw[iY];exact c
 ·unfold Sys.L;show aJ D G w0 a (_:: _:: _::(Q.bp,[.slice _ (dF s.2 f (aP y o)).length _]):: _);rw[iY];exact H
theorem cnt (S:a_ Q D G w0 w s L0) (v:Int):ah AC 30 [ag (ae Q.bp),aa v] w (aa (cA s.2 v:Nat)):=by
 obtain⟨h1,b,a,c,ca,la,H⟩:=S;exact U9 H 3 2 rfl rfl rfl a v
theorem aar (S:a_ Q D G w0 w s L0):ah AC 117 [ag (ae Q.bm)] w (aa (s.1.length:Nat)):=by
 obtain⟨h1,a,b,c,ca,la,H⟩:=S;exact ah.of (s:= .el (.one (.int .i64))) λw' h'=>Iw ((H.get (i:=0) rfl).ext h')
theorem Yg (S:a_ Q D G w0 w s L0):ah AC 62 [ag (ae Q.bp)] w (aa (s.2.length:Nat)):=by
 obtain⟨h1,a,b,c,ca,la,H⟩:=S;exact aa2 H 3 rfl
end a_
end
set_option maxRecDepth 100000
open Go.RX D
def stE (gone:Bool):Int:=if gone=true then 6 else 0
def aa4 (r:Int) (gone:Bool):Int:=if gone=true then -1 else r
theorem IF (pg f rt:Int) (w:A2):ah AC 215 [aa pg,aa f,aa rt] w (aa (na pg f rt)):=by
 refine ah.of (s:= .el (.one (.int .i64))) λw' _=>ai (C:=N0) (aT:=λ_=>[]) (Ae (KP _ _ _ w' _) ?_);unfold na;refine ab (λc=>λw1 h1=>⟨?_,h1⟩) (λc=>ab (λd=>λw1 h1=>⟨?_,h1⟩) (λd=>λw1 h1=>⟨?_,h1⟩))
 ·simp at c;rw[az (by omega)]
 ·simp at c d;rw[au (by omega),az (by omega)]
 ·simp at c d;rw[au (by omega),au (by omega)]
theorem IG (f:Int) (w:A2):ah AC 241 [aa f] w (.agg ⟨[.bool true,aa 0,.bool false,aa f]⟩):=by
 refine ah.of (s:= .el (.agg sEn)) (v:=cj f) λw' _=>aQ (C:=N0) (aT:=λ_=>[]) (Ae (KQ f w' _) ?_);have H:=At.start [] w';exact aK.go H λb a H=>aC.all 0 H rfl rfl rfl λc H=>ao.go H λd H=>aj.at 0 H rfl rfl ⟨rfl,H.all⟩
theorem IH {pg:Int} (a:0<=pg) (x:PT) (e:ET) (g:0<=e.2.2.2.1/\e.2.2.2.1<4096) (w:A2):ah AC 194 [aa pg,.agg ⟨[aa x.1,aa x.2.1,aa x.2.2.1]⟩,.agg ⟨[.bool e.1,aa e.2.1,.bool e.2.2.1,aa e.2.2.2.1]⟩] w (aa (qu pg x e)):=by
 refine ah.of (s:= .el (.one (.int .i64))) λw' _=>ai (C:=N0) (aT:=λ_=>[]) (Ae (KR pg x.1 x.2.1 x.2.2.1 e.1 e.2.1 e.2.2.1 e.2.2.2.1 w' _) ?_);have H:=At.start [] w';unfold qu;refine aK.go H λb h H=>aK.go H λi j H=>⟨rfl,aj.bP 1 H rfl rfl (ab (λc=>⟨rfl,aj.bP 0 H rfl rfl ⟨trivial,by decide,ao.go H λd H=>⟨?_,H.all⟩⟩⟩) (λc=>⟨rfl,aj.bP 0 H rfl rfl (ao.go H λd H=>⟨?_,H.all⟩)⟩))⟩
 ·have c:x.2.1=1:=by simpa using c
  rw[az c];have f:bH pg (gK 1)=pg % 16:=by
   have:gK 1=16:=rfl;rw[this];exact Int.tmod_eq_emod_of_nonneg a
  rw[f,ax (by omega) (by omega)]
 ·have c: ¬ x.2.1=1:=by simpa using c
  rw[au c]
section
variable {Q:Sys} {D G:List Nat} {w0 w:A2} {s:WD} {L0:List (Nat×List Ad)} {bt:Nat} {o r:Int} {gone:Bool}
namespace a_
theorem state (S:a_ Q D G w0 w s L0) (i:Nat) (a:L0[i]? =some (bt,kF Q o r gone)):ah AC 88 [ag (ae bt)] w (aa (stE gone)):=by
 have hb:=S.get a;refine ah.of (s:= .el (.one (.int .i64))) λw' h'=>ai (C:=N0) (aT:=λ_=>[]) (Ae (uR _ w' _) ?_);have hb:=hb.ext h';refine⟨λ_=>rfl,λ_=>rfl,aj.of (ae Q.bm) (by rw[aR];exact hb.lM rfl) (an rfl ⟨rfl,rfl,aj.of gone (by rw[aR];exact hb.lM rfl) ?_⟩)⟩;cases gone with
 |true=>exact aF rfl λw1 h1=>⟨rfl,h1⟩
 |false=>exact an rfl λw1 h1=>⟨rfl,h1⟩
theorem root (S:a_ Q D G w0 w s L0) (i:Nat) (a:L0[i]? =some (bt,kF Q o r gone)):ah AC 56 [ag (ae bt)] w (aa (aa4 r gone)):=by
 refine ah.of (s:= .el (.one (.int .i64))) λw' h'=>ai (C:=N0) (aT:=λ_=>[]) (Ae (QT _ w' _) ?_);have S:=S.ext h';refine⟨_,S.state i a,?_⟩;cases gone with
 |true=>exact aF rfl λw1 h1=>⟨rfl,h1⟩
 |false=>exact an rfl ⟨rfl,rfl,S.cI i a rfl λw1 h1=>⟨rfl,h1⟩⟩
theorem at_ (S:a_ Q D G w0 w s L0) (k:Nat) (d:L0[k]? =some (bt,kF Q o r gone)) (i:Int) {K:ET->A2->Prop} (c: ∀a,a_ Q D G w0 a s L0->K (aM s.1 i) a):
 aD AC 235 (.el (.agg sEn)) [ag (ae bt),aa i] w K:=by
 refine S.go λw1 S=>aQ (C:=N0) (aT:=λ_=>[]) (Ae (OG _ i w1 K) ?_);refine S.al λb a S=>⟨rfl,rfl,S.cI (k+1) d rfl (S.load i λf S=>⟨?_,S.al λg j S=>S.fe 0 rfl rfl rfl λl S=>S.ld 0 rfl rfl (S.fe 1 rfl rfl rfl λm S=>S.en λe S=>S.ld 1 rfl rfl (c e S.tail.tail))⟩)⟩;have h:=FP S.ZX i;exact BD h.1 h.2
theorem lay (S:a_ Q D G w0 w s L0) (k:Nat) (d:L0[k]? =some (bt,kF Q o r gone)) (i:Int) (e:ET) {K:Unit->A2->Prop} (c: ∀a,a_ Q D G w0 a (dP s i e) L0->K () a):
 aD AC 222 (.bu []) [ag (ae bt),aa i,.agg ⟨[.bool e.1,aa e.2.1,.bool e.2.2.1,aa e.2.2.2.1]⟩] w K:=by
 refine S.go λw1 S=>ai (C:=N0) (aT:=λ_=>[]) (Ae (UO _ i e.1 e.2.1 e.2.2.1 e.2.2.2.1 w1 K) ?_);exact S.al λb a S=>S.ld 0 rfl rfl ⟨trivial,rfl,rfl,S.cI (k+1) d rfl (S.store i _ (OH _ _ _ _) λg S=>S.en λf S=>c f S.tail)⟩
end a_
theorem FV {ds:List DT} {y o:Int} (h: ¬ dQ ds y o=0):fc ds y o=0:=by
 unfold dQ at h;unfold fc;cases a:iA ds with
 |none=>rfl
 |some n=>
  have b: ¬ ds.length=0:=λe=>by
   have:ds=[]:=FF.1 e;subst this;cases a
  rw[au b,a] at h;exact au h
theorem uS (ds:List DT) (y o:Int) (h0:0<ds.length):0<=fc ds y o/\fc ds y o<ds.length:=by
 unfold fc;cases a:iA ds with
 |none=>exact⟨Cb 0,by show(0:Int)< _;omega⟩
 |some n=>
  unfold iA at a;rw[FS] at a;have h1:=a.1;dsimp only;split<;>omega
end
set_option maxRecDepth 100000
open Go.RX D
section
variable {Q:Sys} {D G:List Nat} {w0 w:A2} {s:WD} {L0:List (Nat×List Ad)} {bt:Nat} {o r:Int} {gone:Bool}
namespace a_
theorem aa5 (S:a_ Q D G w0 w s L0) (i:Nat) (b:L0[i]? =some (bt,kF Q o r gone)) {K:Int×Int×Unit->A2->Prop} (k: ∀d,a_ Q D G w0 d (iN s o (λ_=>0)) L0->K (eA s o,rj s o,()) d):
 aD AC 205 (.bu [.one (.int .i64),.one (.int .i64)]) [ag (ae bt),.func (.func 206) #[] #[]] w K:=by
 refine S.go λw1 S=>ai (C:=N0) (aT:=qQ) (Ae (KS _ w1 K) ?_);have A:=uS s.2 3 o S.FA;have B:=S.le;refine⟨rfl,rfl,S.cI i b rfl ⟨rfl,rfl,S.cI i b rfl (S.take 3 o λd S=>?_)⟩⟩;by_cases a:rj s o=0
 ·have f:iN s o (λ_=>0)=(eZ s.1 (eA s o) (λ_=>0) 16,dB s.2 3 o):=by unfold iN;rw[az a]
  rw[f,a] at k;have g:dQ s.2 3 o=0:=a;refine an (by simp[g]) ⟨λn v w'=> ∃m:Nat,n=16 - m/\m<=16/\v.1=(m:Int)/\a_ Q D G w0 w' (eZ s.1 (eA s o) (λ_=>0) m,dB s.2 3 o) L0,⟨16,λj h=>⟨0,rfl,by omega,rfl,S.ext h⟩⟩,?_⟩;rintro n ⟨v,u⟩ j ⟨m,rfl,E,e,S⟩;dsimp only at e ⊢;subst e;refine ab (λc=>⟨rfl,rfl,S.cI i b rfl ?_⟩) (λc=>S.en λl S=>k l ?_)
  ·have c:m<16:=by simp at c;omega
   refine λl p=>ai (C:=N0) (aT:=λ_=>[]) (Ae (QW _ l _) λF q=>?_);have S:=(S.ext p).ext q;have t:(0:Int)<=0/\(0:Int)<18446744073709551616:=by decide
   refine⟨trivial,trivial,by rw[aR];exact(S.get b).lM rfl,trivial,trivial,?_⟩;have x:aB .i64 (ir .i64 16 (fc s.2 3 o)) (m:Int)=16*eA s o+(m:Int):=by
    have:eA s o=fc s.2 3 o:=rfl;rw[eo (by omega) (by omega),ax (by omega) (by omega),this]
   rw[x];refine S.store _ _ t λH S=>λI y=>⟨16 - (m+1),by omega,m+1,rfl,by omega,?_,S.ext y⟩;rw[ax (by omega) (by omega)];omega
  ·have c: ¬ m<16:=by simp at c;omega
   have:m=16:=by omega
   subst this;exact S
 ·have f:iN s o (λ_=>0)=(s.1,dB s.2 3 o):=by unfold iN;rw[au a]
  have z:eA s o=0:=FV a;rw[f,z] at k;have g: ¬ dQ s.2 3 o=0:=a;exact aF (by simp[g]) (S.en λj S=>k j S)
theorem aa6 (S:a_ Q D G w0 w s L0) (i:Nat) (b:L0[i]? =some (bt,kF Q o r gone)) {K:Int×Int×Unit->A2->Prop} (k: ∀d,a_ Q D G w0 d (iN s o (λ_=>0)) L0->K (eA s o,rj s o,()) d):
 aD AC 205 (.bu [.one (.int .i64),.one (.int .i64)]) [ag (ae bt),.func (.func 240) #[] #[]] w K:=by
 refine S.go λw1 S=>ai (C:=N0) (aT:=qR) (Ae (KT _ w1 K) ?_);have A:=uS s.2 3 o S.FA;have B:=S.le;refine⟨rfl,rfl,S.cI i b rfl ⟨rfl,rfl,S.cI i b rfl (S.take 3 o λd S=>?_)⟩⟩;by_cases a:rj s o=0
 ·have f:iN s o (λ_=>0)=(eZ s.1 (eA s o) (λ_=>0) 16,dB s.2 3 o):=by unfold iN;rw[az a]
  rw[f,a] at k;have g:dQ s.2 3 o=0:=a;refine an (by simp[g]) ⟨λn v w'=> ∃m:Nat,n=16 - m/\m<=16/\v.1=(m:Int)/\a_ Q D G w0 w' (eZ s.1 (eA s o) (λ_=>0) m,dB s.2 3 o) L0,⟨16,λj h=>⟨0,rfl,by omega,rfl,S.ext h⟩⟩,?_⟩;rintro n ⟨v,u⟩ j ⟨m,rfl,E,e,S⟩;dsimp only at e ⊢;subst e;refine ab (λc=>⟨rfl,rfl,S.cI i b rfl ?_⟩) (λc=>S.en λl S=>k l ?_)
  ·have c:m<16:=by simp at c;omega
   refine λl p=>ai (C:=N0) (aT:=λ_=>[]) (Ae (QX _ l _) λF q=>?_);have S:=(S.ext p).ext q;have t:(0:Int)<=0/\(0:Int)<18446744073709551616:=by decide
   refine⟨trivial,trivial,by rw[aR];exact(S.get b).lM rfl,trivial,trivial,?_⟩;have x:aB .i64 (ir .i64 16 (fc s.2 3 o)) (m:Int)=16*eA s o+(m:Int):=by
    have:eA s o=fc s.2 3 o:=rfl;rw[eo (by omega) (by omega),ax (by omega) (by omega),this]
   rw[x];refine S.store _ _ t λH S=>λI y=>⟨16 - (m+1),by omega,m+1,rfl,by omega,?_,S.ext y⟩;rw[ax (by omega) (by omega)];omega
  ·have c: ¬ m<16:=by simp at c;omega
   have:m=16:=by omega
   subst this;exact S
 ·have f:iN s o (λ_=>0)=(s.1,dB s.2 3 o):=by unfold iN;rw[au a]
  have z:eA s o=0:=FV a;rw[f,z] at k;have g: ¬ dQ s.2 3 o=0:=a;exact aF (by simp[g]) (S.en λj S=>k j S)
theorem aa7 (S:a_ Q D G w0 w s L0) (i:Nat) (b:L0[i]? =some (bt,kF Q o r gone)) (j:Nat) {be:Nat} {e:ET} (hb:L0[j]? =some (be,[.bool e.1,aa e.2.1,.bool e.2.2.1,aa e.2.2.2.1])) (B:0<=e.2.2.2.1/\e.2.2.2.1<4096) {K:Int×Int×Unit->A2->Prop} (k: ∀d,a_ Q D G w0 d (iN s o (ov e)) L0->K (eA s o,rj s o,()) d):
 aD AC 205 (.bu [.one (.int .i64),.one (.int .i64)]) [ag (ae bt),.func (.func 242) #[] #[ag (ae be)]] w K:=by
 refine S.go λw1 S=>ai (C:=N0) (aT:=qS) (Ae (KU _ _ w1 K) ?_);have E:=uS s.2 3 o S.FA;have F:=S.le;refine⟨rfl,rfl,S.cI i b rfl ⟨rfl,rfl,S.cI i b rfl (S.take 3 o λd S=>?_)⟩⟩;by_cases a:rj s o=0
 ·have f:iN s o (ov e)=(eZ s.1 (eA s o) (ov e) 16,dB s.2 3 o):=by unfold iN;rw[az a]
  rw[f,a] at k;have g:dQ s.2 3 o=0:=a;refine an (by simp[g]) ⟨λn v w'=> ∃m:Nat,n=16 - m/\m<=16/\v.1=(m:Int)/\a_ Q D G w0 w' (eZ s.1 (eA s o) (ov e) m,dB s.2 3 o) L0,⟨16,λl h=>⟨0,rfl,by omega,rfl,S.ext h⟩⟩,?_⟩;rintro n ⟨v,u⟩ l ⟨m,rfl,H,ev,S⟩;dsimp only at ev ⊢;subst ev;refine ab (λc=>⟨rfl,rfl,S.cI i b rfl ?_⟩) (λc=>S.en λp S=>k p ?_)
  ·have c:m<16:=by simp at c;omega
   refine λp q=>ai (C:=N0) (aT:=λ_=>[]) (Ae (GH _ _ p _) ?_);have S:=S.ext q;refine⟨rfl,S.cI j hb rfl ⟨rfl,S.cI j hb rfl ⟨trivial,S.en λI S=>?_⟩⟩⟩;have t:Fb true e.2.1 false (aB .i64 e.2.2.2.1 (m:Int))=ov e (m:Int):=by
    rw[ax (by omega) (by omega)];rfl
   rw[t];have x:0<=ov e (m:Int)/\ov e (m:Int)<18446744073709551616:=OH _ _ _ _;refine⟨trivial,trivial,by rw[aR];exact(S.get b).lM rfl,trivial,trivial,?_⟩;have y:aB .i64 (ir .i64 16 (fc s.2 3 o)) (m:Int)=16*eA s o+(m:Int):=by
    have:eA s o=fc s.2 3 o:=rfl;rw[eo (by omega) (by omega),ax (by omega) (by omega),this]
   rw[y];refine S.store _ _ x λJ S=>λL z=>⟨16 - (m+1),by omega,m+1,rfl,by omega,?_,S.ext z⟩;rw[ax (by omega) (by omega)];omega
  ·have c: ¬ m<16:=by simp at c;omega
   have:m=16:=by omega
   subst this;exact S
 ·have f:iN s o (ov e)=(s.1,dB s.2 3 o):=by unfold iN;rw[au a]
  have A:eA s o=0:=FV a;rw[f,A] at k;have g: ¬ dQ s.2 3 o=0:=a;exact aF (by simp[g]) (S.en λl S=>k l S)
end a_
end
set_option maxRecDepth 100000
open Go.RX D
section
variable {D G:List Nat} {w0 w:A2} {L:List (Nat×List Ad)}
def Xq (e:El) (b:Nat) (xs:List e.T) (a:List (Nat×List Ad)):Prop:=
 (xs=[]/\a=[(b,[.slice none 0 0])])\/ ∃bs c rest,a=[(b,[.slice (ae bs) xs.length c]),(bs,flat e xs++rest)]/\(flat e xs++rest).length=c*aG e/\xs.length<=c
theorem Xq.head {e:El} {b:Nat} {xs:List e.T} {a:List (Nat×List Ad)} (h:Xq e b xs a): ∃s:Option Ab×Nat×Nat,a[0]? =some (b,[.slice s.1 s.2.1 s.2.2]):=by
 rcases h with ⟨_,rfl⟩|⟨bs,c,rest,rfl, _⟩
 ·exact⟨(none,0,0),rfl⟩
 ·exact⟨(_, _, _),rfl⟩
theorem Xq.push {e:El} {b d:Nat} {xs:List e.T} {x:e.T} {f Z:List (Nat×List Ad)} {s:Option Ab×Nat×Nat} (u:Xq e b xs f) (i:f[0]? =some (b,[.slice s.1 s.2.1 s.2.2])) (H:aJ D G w0 w ((d,cellsOf e x)::(f++Z)))
 (j:gU e=true) {t:TypeId} {size bytes:Nat} {z:Array Ad} (l:size=aG e) (m:z.size=aG e) (hb:(xs.length+1)*bytes<=140737488355328) {K:A2->Prop}
 (k: ∀o w',Xq e b (xs++[x]) o->aJ D G w0 w' (o++Z)->K w'):
 m7 w t size bytes z (s.1,s.2.1,s.2.2) (some ⟨d,0,none⟩,1,1) λr a=>aC a (ae b) [.slice r.1 r.2.1 r.2.2] K:=by
 obtain⟨p,n,c⟩:=s;rcases u with ⟨rfl,rfl⟩|⟨bs,A,rest,rfl,h1,v⟩
 ·cases i;refine aJ.grow (Ls:=[]) (L0:=(b,[.slice none 0 0])::Z) (xs:=[]) H (.inl ⟨rfl,rfl,rfl⟩) j l m hb λbs c rest w' g1 g H=>?_;refine aC.all 1 H rfl rfl rfl λa H=>k [(b,[.slice (ae bs) 1 c]),(bs,flat e [x]++rest)] a (.inr ⟨bs,c,rest,rfl,g1,g⟩) ?_;exact H.perm (EY _ _ _)
 ·cases i;have y:aJ D G w0 w ((d,cellsOf e x)::([(bs,flat e xs++rest)]++((b,[.slice (ae bs) xs.length c])::Z))):=H.perm (F0 _ (EY _ _ _));refine aJ.grow y (.inr ⟨bs,c,rest,rfl,rfl,h1,v⟩) j l m hb λh c2 q w' g1 g H=>?_;refine aC.all 1 H rfl rfl rfl λa H=>k [(b,[.slice (ae h) (xs.length+1) c2]),(h,flat e (xs++[x])++q)] a (.inr ⟨h,c2,q,?_,g1,by simpa using g⟩) ?_
  ·rw[Dc];rfl
  ·exact H.perm (EY _ _ _)
theorem xB.new {l:Nat} {rec:Loop} {w':A2} {b:Nat} {cs:List Ad} (h:xB D G w0 w L l rec) (H:At [] w w' [(b,cs)]):xB D G w0 w' ((b,cs)::L) l rec/\Ob l w w':=by
 have a:Ext w w':=H.all;have hb:w.heap.size<=b:=by
  rcases H.own (b,cs) De with h|h
  ·exact h
  ·cases h
 exact⟨⟨h.1,h.2.1.more a hb (H.dp (b,cs) De),h.2.2.ext a⟩,Ob.uE a⟩
theorem K9 {bm bw n c:Nat} {ca la:Int} {ws:List Int} {rest:List Ad} (H:aJ D G w0 w L) (j:Nat) (b:L[j]? =some (bm,iP bw n c ca la)) (f:bM w0 bw (flat eW ws++rest)) (g:bw∉G) (h:n=ws.length) (h0:0<n) (i:Int) {K:Int×Int×Unit->A2->Prop}
 (k: ∀a,aJ D G w0 a (L.set j (bm,iP bw n c (qo ws i ca) la))->K (dJ ws i,zM ws i,()) a):
 aD AC 37 (.bu [.one (.int .u64),.one (.int .i64)]) [ag (ae bm),aa i] w K:=by
 refine aD.go H λw1 H=>ai (C:=M0) (aT:=λ_=>[]) (Ae (DK _ i w1 K) ?_);refine sY H j b h h0 i (λhi a H=>?_) (λhi a H=>?_)
 ·unfold qo dJ zM at k;rw[hi,az rfl,az rfl,az rfl] at k;have l:=gF.1 hi;refine an rfl ⟨rfl,?_⟩;rw[aR];have e:=Yc (ws:=ws) (rest:=rest) (i:=i.toNat) (by omega);rw[CN] at e;exact aj.fa H f g e (ao.go H λd H=>k d H)
 ·unfold qo dJ zM at k;rw[hi,au (by decide),au (by decide),au (by decide)] at k;refine aF rfl (ao.go H λd H=>k d ?_);rw[show L.set j (bm,iP bw n c ca la)=L from Ff λm=>by
   by_cases e:j=m
   ·subst e;rw[CP (B5.1 b).1,b]
   ·rw[BO e]]
  exact H
structure TbR (Q:Sys) (ws:List Int) (w:A2) (bt:Nat) (o r:Int) (gone:Bool):Prop where
 tb:bM w bt (kF Q o r gone)
 wd:bM w Q.bw (flat eW ws++Q.rw)
 tne:bt≠Q.bm
 wne:Q.bw≠Q.bm
 ZX:okW ws
 pos:0<ws.length
abbrev Mc (Q:Sys) (n:Nat) (l:List Ad):Prop:= ∃ca la,l=iP Q.bw n Q.c ca la
theorem OI {Q:Sys} {ws:List Int} {bt:Nat} {o r:Int} {gone:Bool} {D:List Nat} {L:List (Nat×List Ad)} {ca la:Int} (R:TbR Q ws w0 bt o r gone) (H:aJ D [Q.bm] w0 w L) (j:Nat) (d:L[j]? =some (Q.bm,iP Q.bw ws.length Q.c ca la)) (i:Int) {K:ET->A2->Prop}
 (k: ∀ca a,aJ D [Q.bm] w0 a (L.set j (Q.bm,iP Q.bw ws.length Q.c ca la))->K (aM ws i) a):
 aD AC 235 (.el (.agg sEn)) [ag (ae bt),aa i] w K:=by
 have t1:bt∉[Q.bm]:=by simpa using R.tne
 have t2:Q.bw∉[Q.bm]:=by simpa using R.wne
 refine aD.go H λw1 H=>aQ (C:=N0) (aT:=λ_=>[]) (Ae (OG _ i w1 K) ?_);refine aK.go H λb a H=>⟨rfl,rfl,aj.kR H R.tb t1 rfl (K9 H (j+1) d R.wd t2 rfl R.pos i λf H=>⟨?_,aK.go H λg l H=>aC.all 0 H rfl rfl rfl λm H=>aj.at 0 H rfl rfl (aC.all 1 H rfl rfl rfl λn H=>ao.go H λe H=>aj.at 1 H rfl rfl (k (qo ws i ca) e (H.sub ?_)))⟩)⟩
 ·have h:=FP R.ZX i;exact BD h.1 h.2
 ·exact(C6 _ _).trans (C6 _ _)
end
abbrev emP (x:PT×Unit):List Ad:=[.agg ⟨[aa x.1.1,aa x.1.2.1,aa x.1.2.2.1]⟩]
abbrev Xr (x:PT):PT×Unit:=(x,())
def NB (ws:List Int) (pg:Int):Nat->Int->List PT
 |0, _=>[]
 |l+1,f=>if dG (aM ws (dY f pg ((l+1:Nat):Int)))=true then dg ws pg l (aM ws (dY f pg ((l+1:Nat):Int))).2.2.2.1 else[]
theorem K_ (ws:List Int) (pg:Int): ∀(l:Nat) (f:Int),dg ws pg l f=(f,(l:Int),dY f pg (l:Int),())::NB ws pg l f
 |0, _=>rfl
 | _+1, _=>rfl
theorem Q2 {ws:List Int} {pg:Int} {l:Nat} {f:Int} (h:dG (aM ws (dY f pg (l:Int)))=false):NB ws pg l f=[]:=by
 cases l with
 |zero=>rfl
 |succ l=>rw[NB,h,au (by decide)]
theorem Zd {Q:Sys} {ws:List Int} {bt b c:Nat} {o r pg:Int} {gone:Bool} {N:Nat} (D:okW ws) (E:0<ws.length):
 ItJ AC 244 (λy=>[.func (.yield y) #[] #[],ag (ae b),ag (ae c)]) emP N Q.bm (Mc Q ws.length)
  [(bt,kF Q o r gone),(Q.bw,flat eW ws++Q.rw),(b,[ag (ae bt)]),(c,[aa pg])] ((dg ws pg 3 r).map Xr):=by
 intro y J K F a X O w s i j;refine Calls.mono (ai (C:=N0) (aT:=tP) (Post:=λ_ w'=>J (a++(dg ws pg 3 r).map Xr) X O w') (Ae (QU y _ _ w _) ?_)) ?_
 rotate_left
 ·rintro e w' ⟨x,rfl,h⟩;exact⟨_,rfl,h⟩
 have x1:=i (bt,kF Q o r gone) (by simp);have t:=i (Q.bw,flat eW ws++Q.rw) (by simp);have z:=i (b,[ag (ae bt)]) (by simp);have G:=i (c,[aa pg]) (by simp);refine aj.of (ae bt) ((K.dp j z).2.lM rfl) ⟨rfl,rfl,aj.of r (by rw[aR];exact(K.dp j x1).2.lM rfl) ⟨λn v w'=>(∃l:Nat,v.2.1=(l:Int)/\n=l+1/\l<=3/\ ∃pre,dg ws pg 3 r=pre++dg ws pg l v.1/\J (a++pre.map Xr) X O w')\/(v.2.1= -1/\J (a++(dg ws pg 3 r).map Xr) X O w'),
  ⟨4,λw1 h1=> .inl ⟨3,rfl,rfl,BL _,[],rfl,by simpa using K.ext j h1⟩⟩,?_⟩⟩
 rintro n ⟨f,lv,u⟩ w1 (⟨l,g,rfl,Z,pre,d,j⟩|⟨g,j⟩)
 ·dsimp only at g d ⊢;subst g;refine aF (by simp) (aj.of pg ((K.dp j G).2.lM rfl) ⟨trivial,?_⟩);obtain⟨lm,⟨ca,la,rfl⟩,H⟩:=K.at0 j;have R:TbR Q ws w1 bt o r gone:=⟨(K.dp j x1).2,(K.dp j t).2,(K.dp j x1).1,(K.dp j t).1,D,E⟩;have hb:=K.dp j z;have I:b∉[Q.bm]:=by simpa using hb.1
  refine aK.go H λL M H=>aC.all 0 H rfl rfl rfl λw3 H=>aj.fa H hb.2 I rfl ⟨rfl,aj.bP 0 H rfl rfl (OI R H 1 rfl _ λca2 w4 H=>aK.go H λA w5 H=>aC.all 0 H rfl rfl rfl λw6 H=>aj.at 1 H rfl rfl λP S=>?_)⟩;have H:=H.ext S;rw[K_ ws pg l f] at d;have T:(a++pre.map Xr).length<N:=by
   rw[d] at s;simp only[List.map_append,Dc,CV,BK] at s ⊢;omega
  have U:=K.sL (Y:=[(A, _),(L, _)]) j H ⟨_, _,rfl⟩;refine F _ (Xr (f,(l:Int),dY f pg (l:Int),())) _ _ P _ T U λw8 m=>?_;have B:=(K.dp m (x:=(A, _)) (De)).2;refine aj.of (aM ws (dY f pg (l:Int))) (dI B rfl) ⟨λ_=>trivial,ab (λcc V p=>?_) (λcc=>⟨rfl,aj.of (aM ws (dY f pg (l:Int))).2.2.2.1 (by rw[aR];exact B.lM rfl) λV p=>?_⟩)⟩
  ·have q:dG (aM ws (dY f pg (l:Int)))=false:=by simpa[dG] using cc
   have k:=K.sub (K.ext m p) (X':=X) (λx h=>by simp[h]) (Bz _);rw[Q2 q] at d;rw[d];simpa using k
  ·have q:dG (aM ws (dY f pg (l:Int)))=true:=by simpa[dG] using cc
   have k:=K.sub (K.ext m p) (X':=X) (λx h=>by simp[h]) (Bz _);rcases l with _|l
   ·refine⟨0,by omega,.inr ⟨rfl,?_⟩⟩;rw[d];simpa[NB] using k
   ·refine⟨l+1,by omega,.inl ⟨l,?_,rfl,by omega,pre++[(f,((l+1:Nat):Int),dY f pg ((l+1:Nat):Int),())],?_,by simpa using k⟩⟩
    ·show aY .i64 ((l+1:Nat):Int) 1=(l:Int);rw[bD (by omega) (by omega)];omega
    ·rw[d,NB,az q,Fs];rfl
 ·dsimp only at g ⊢;subst g;exact an rfl λM W=>K.ext j W
section
variable {Q:Sys} {D G:List Nat} {w0 w:A2} {s:WD} {L0:List (Nat×List Ad)} {bt:Nat} {o r:Int} {gone:Bool}
namespace a_
theorem way (S:a_ Q D G w0 w s L0) (pg:Int) {K:Option Ab×Option Ab×Unit->A2->Prop} (k: ∀b c a,a_ Q D G w0 a s ((c,[aa pg])::(b,[ag (ae bt)])::L0)->K (some ⟨b,0,none⟩,some ⟨c,0,none⟩,()) a):
 aD AC 219 aaq [ag (ae bt),aa pg] w K:=by
 refine S.go λw1 S=>ai (C:=N0) (aT:=λ_=>[]) (Ae (UP _ pg w1 K) ?_);exact S.al λb a S=>S.al λc e S=>S.en λd S=>k b c d S
theorem Nv (S:a_ Q D G w0 w s L0) (k0:Nat) (p:L0[k0]? =some (bt,kF Q o r gone)) {b c:Nat} {pg:Int} (hb:(b,[HM (ae bt)])∈L0) (hc:(c,[aa pg])∈L0)
 {K:Option Ab×Nat×Nat->A2->Prop} (k: ∀bs cs rest g,a_ Q D G w0 g s ((bs,flat (.agg Te) (dg s.1 pg 3 r)++rest)::L0)->K (some ⟨bs,0,none⟩,(dg s.1 pg 3 r).length,cs) g):
 aD AC 218 (.el (.one .slice)) [.func (.func 244) #[] #[ag (ae b),ag (ae c)]] w K:=by
 refine S.go λw1 S=>aQ (C:=N0) (aT:=tQ) (Ae (QV _ _ w1 K) ?_);obtain⟨h1,q,t,m,ca,la,H0⟩:=S;have H:=H0.again;refine aK.go H λbl g H=>?_;have u:(dg s.1 pg 3 r).length<=4:=s8 s.1 pg 3 r;refine zz.Nv (N:=4) (bm:=Q.bm) (mc:=Mc Q s.1.length) (ZS:=[(bl,[.slice none 0 0])]) (Lb:=(Q.bw,flat eW s.1++Q.rw)::(Q.bf,flat eD s.2++Q.rf)::(Q.bp,[.slice (ae Q.bf) s.2.length Q.cp])::L0) H ⟨_, _,rfl⟩
  (Zd (o:=o) (r:=r) (gone:=gone) (bt:=bt) (pg:=pg) m h1) ?_ (by simpa using u) (λxs d=>Xq (.agg Te) bl (xs.map (·.1)) d) (.inl ⟨rfl,rfl⟩) ?_ ?_
 ·intro x e;simp only[Do,List.not_mem_nil,or_false] at e;rcases e with rfl|rfl|rfl|rfl
  ·simp[Bv p]
  ·simp
  ·simp[hb]
  ·simp[hc]
 ·intro b0 x d Z rr l rec v R hN a f y;refine CQ.go f rfl ?_;refine aK.go (At.start [] v) λz A i=>aC.all 0 i rfl rfl rfl λB i=>?_;obtain⟨E,F⟩:=xB.new f i;obtain⟨sl,j⟩:=a.head;refine Bu.goO E λwb H I J=>aj.at 1 H (by rw[List.getElem?_cons_succ,Dl (B5.1 j).1];exact j) rfl (aj.at 0 H rfl rfl (aK.go H λL n H=>λM O=>?_));have H:=H.ext O;have P:aJ [] _ wb M ((L,cellsOf (.agg Te) x.1)::(d++((z,[aa x.1.1,aa x.1.2.1,aa x.1.2.2.1])::Z))):=H.perm (F0 _ CO);refine a.push j P rfl rfl rfl (by simp only[CV];omega) λT w8 U V=>rY.kV I (V.sub (List.Sublist.append (Bz _) (C6 _ _))) λW X Y=>y T W (by simpa using U) X ((F.trans J).trans Y)
 ·rintro rr rec A l' d ⟨ca2,la2,rfl⟩ a f;refine dv.none f λB H=>?_;have V7:((dg s.1 pg 3 r).map Xr).map (·.1)=dg s.1 pg 3 r:=by
   rw[List.map_map];exact List.map_id _
  rw[V7] at a;rcases a with ⟨h, _⟩|⟨bs,cs,rest,rfl,g1,g2⟩
  ·exact absurd h (xg _ _ _ _)
  ·refine aj.at 0 H rfl rfl (rZ.go H λn H=>k bs cs rest n ⟨h1,q,t,m,ca2,la2,H0.join (λx e=>e) ?_⟩);refine(H.sub (C6 _ _)).perm ?_;exact CO (l₁:=[_, _, _, _])
end a_
end
set_option maxRecDepth 100000
open Go.RX D
theorem Cg (ws:List Int) (r pg:Int):(dg ws pg 3 r)[(dg ws pg 3 r).length - 1]? =some (dz ws r pg):=by
 have a:=xg ws pg 3 r;unfold dz;rw[List.getLastD_eq_getLast?, <-List.getLast?_eq_getElem?,List.getLast?_eq_some_getLast a];rfl
theorem py (ws:List Int) (a:Int):0<=(aM ws a).2.2.2.1/\(aM ws a).2.2.2.1<4096:=IE _
section
variable {Q:Sys} {D G:List Nat} {w0 w:A2} {s:WD} {L0:List (Nat×List Ad)} {bt:Nat} {o r:Int} {gone:Bool}
namespace a_
theorem end_ (S:a_ Q D G w0 w s L0) (k0:Nat) (c:L0[k0]? =some (bt,kF Q o r gone)) (pg:Int) {K:PT×ET×Unit->A2->Prop} (k: ∀a,a_ Q D G w0 a s L0->K (dz s.1 r pg,cZ s.1 r pg,()) a):
 aD AC 193 (.bu [.agg Te,.agg sEn]) [ag (ae bt),aa pg] w K:=by
 refine S.go λw1 S=>aQ (C:=N0) (aT:=λ_=>[]) (Ae (UQ _ pg w1 K) ?_);refine S.al λb a S=>S.al λg h S=>S.way pg λj bc l S=>S.Nv (pg:=pg) (k0+4) c (by simp) (by simp) λbs cs rest m S=>?_;have n:(dg s.1 pg 3 r).length<=4:=s8 s.1 pg 3 r;have p:0<(dg s.1 pg 3 r).length:=Fu.2 (xg s.1 pg 3 r);have d:aY .i64 (((dg s.1 pg 3 r).length:Nat):Int) 1=(((dg s.1 pg 3 r).length - 1:Nat):Int):=by rw[bD (by omega) (by omega)];omega
 have e:=eh (S.get (i:=0) rfl) (Cg s.1 r pg);dsimp only;rw[d];refine⟨⟨rfl,by omega,by omega⟩,aj.of (dz s.1 r pg) e ?_⟩;refine S.al λq t S=>S.fe 0 rfl rfl rfl λu S=>S.ld 0 rfl rfl ⟨rfl,S.cI 0 rfl rfl (S.at_ (k0+6) c _ λv S=>⟨dI (S.get (i:=0) rfl) rfl,S.fe 5 rfl rfl rfl λx S=>S.fe 4 rfl rfl rfl λy S=>S.en λf S=>S.ld 5 rfl rfl (S.ld 4 rfl rfl (k f S.tail.tail.tail.tail.tail.tail))⟩)⟩
theorem query (S:a_ Q D G w0 w s L0) (k0:Nat) (e:L0[k0]? =some (bt,kF Q o r gone)) (pg:Int) {K:Int×Int×Int×Unit->A2->Prop} (k: ∀a,a_ Q D G w0 a s L0->K (bA s r gone pg) a):
 aD AC 139 (.bu [.one (.int .i64),.one (.int .i64),.one (.int .i64)]) [ag (ae bt),aa pg] w K:=by
 refine S.go λw1 S=>ai (C:=N0) (aT:=λ_=>[]) (Ae (KW _ pg w1 K) ?_);refine⟨_,S.state k0 e,?_⟩;unfold bA at k;cases gone with
 |true=>
  rw[az rfl] at k;exact aF rfl (S.en λa S=>k a S)
 |false=>
  rw[au (by decide)] at k;refine an rfl (ab (λc=>S.en λa S=>?_) (λc=>?_))
  ·simp only[Dn,decide_eq_true_eq] at c;rw[az c] at k;exact k a S
  ·simp only[EW,decide_eq_false_iff_not] at c;rw[au (by omega)] at k;refine S.end_ k0 e pg λa S=>S.al λb f S=>S.al λg h S=>S.fe 1 rfl rfl rfl λi S=>S.fe 0 rfl rfl rfl λj S=>⟨rfl,S.cI 0 rfl rfl (ab (λc2=>S.en λd S=>?_) (λc2=>S.ld 1 rfl rfl (S.ld 0 rfl rfl ⟨_,IH (by omega) (dz s.1 r pg) (cZ s.1 r pg) (py _ _) _,rfl,S.cI 0 rfl rfl (S.en λd S=>?_)⟩)))⟩
   ·have c2:(cZ s.1 r pg).1=false:=by simpa using c2
    rw[c2,au (by decide)] at k;exact k d S.tail.tail
   ·have c2:(cZ s.1 r pg).1=true:=by simpa using c2
    rw[c2,az rfl] at k;exact k d S.tail.tail
theorem split (S:a_ Q D G w0 w s L0) (k0:Nat) (a:L0[k0]? =some (bt,kF Q o r gone)) (pg:Int) {K:Int->A2->Prop} (k: ∀d,a_ Q D G w0 d (fi s o r pg) L0->K (l8 s o r pg) d):
 aD AC 217 (.el (.one (.int .i64))) [ag (ae bt),aa pg] w K:=by
 refine S.go λw1 S=>ai (C:=N0) (aT:=λ_=>[]) (Ae (KX _ pg w1 K) ?_);unfold fi l8 at k;refine S.end_ k0 a pg λd S=>S.al λb j S=>S.al λh l S=>S.fe 1 rfl rfl rfl λm S=>S.fe 0 rfl rfl rfl λn S=>⟨rfl,S.cI 1 rfl rfl (ab (λc=>S.en λf S=>?_) (λc=>?_))⟩
 ·have c:(dz s.1 r pg).2.1=0:=by simpa using c
  rw[az c,az c] at k;exact k f S.tail.tail
 ·have c: ¬ (dz s.1 r pg).2.1=0:=by simpa using c
  rw[au c,au c] at k;refine S.aa7 (k0+2) a 0 (be:=h) (e:=cZ s.1 r pg) rfl (py _ _) λf S=>ab (λc2=>⟨rfl,S.cI 1 rfl rfl ⟨cj (eA s o),IG _ _,S.lay (k0+2) a _ (cj (eA s o)) λg S=>S.en λi S=>?_⟩⟩) (λc2=>S.en λg S=>?_)
  ·have c2:rj s o=0:=by simpa using c2
   rw[az c2] at k;exact k i S.tail.tail
  ·have c2: ¬ rj s o=0:=by simpa using c2
   rw[au c2] at k;exact k g S.tail.tail
end a_
end
set_option maxRecDepth 100000
open Go.RX D
theorem II (ws:List Int) (pg:Int): ∀(l:Nat) (f:Int) (x:PT),x∈dg ws pg l f->0<=x.2.1/\x.2.1<=(l:Int)
 |0,f,x,h=>by
  rw[dg,Dv] at h;subst h;exact⟨Cb _,Cb _⟩
 |l+1,f,x,h=>by
  rw[dg] at h;rcases Do.1 h with rfl|h
  ·exact⟨by show(0:Int)<=((l+1:Nat):Int);omega,Cb _⟩
  ·split at h
   ·have:=II ws pg l _ x h;omega
   ·cases h
theorem U_ (ws:List Int) (r pg:Int):0<=(dz ws r pg).2.1/\(dz ws r pg).2.1<=3:=by
 have:=II ws pg 3 r _ (Bv (Cg ws r pg));omega
section
variable {Q:Sys} {D G:List Nat} {w0 w:A2} {s:WD} {L0:List (Nat×List Ad)} {bt:Nat} {o r:Int} {gone:Bool}
namespace a_
theorem put (S:a_ Q D G w0 w s L0) (k0:Nat) (a:L0[k0]? =some (bt,kF Q o r gone)) (pg lv:Int) (E:0<=lv/\lv<=3) (e:ET) {K:Int->A2->Prop} (k: ∀f,a_ Q D G w0 f (rz s o r pg lv e) L0->K (l6 s r pg lv) f):
 aD AC 216 (.el (.one (.int .i64))) [ag (ae bt),aa pg,aa lv,.agg ⟨[.bool e.1,aa e.2.1,.bool e.2.2.1,aa e.2.2.2.1]⟩] w K:=by
 refine S.go λw1 S=>ai (C:=N0) (aT:=vU) (Ae (UR _ pg lv e.1 e.2.1 e.2.2.1 e.2.2.2.1 w1 K) ?_);have F:=U_ s.1 r pg;unfold rz at k;refine S.al λb f S=>S.end_ (k0+1) a pg λf S=>S.al λj H S=>S.al λl I S=>S.fe 1 rfl rfl rfl λJ S=>S.fe 0 rfl rfl rfl λL S=>⟨rfl,S.cI 0 rfl rfl ⟨λ_=>rfl,S.cI 1 rfl rfl ?_⟩⟩;by_cases c1:((cZ s.1 r pg).1||decide ((dz s.1 r pg).2.1<lv))=true
 ·have c:l6 s r pg lv=5:=by unfold l6;rw[az c1]
  rw[c,au (by decide)] at k;exact aF c1 (S.en λd S=>k d S.tail.tail.tail)
 have m:=c1;simp only[Dn,decide_eq_true_eq,not_or] at m;refine an (by simpa using c1) ⟨rfl,rfl,S.cI (k0+3) a rfl ⟨_,S.cnt 0,rfl,S.cI 1 rfl rfl ?_⟩⟩;have p:aY .i64 (dz s.1 r pg).2.1 lv=(dz s.1 r pg).2.1 - lv:=bD (by omega) (by omega);dsimp only;rw[p];by_cases c2:(cA s.2 0:Int)<(dz s.1 r pg).2.1 - lv
 ·have c:l6 s r pg lv=12:=by unfold l6;rw[au c1,az c2]
  rw[c,au (by decide)] at k;exact aF (by simpa using c2) (S.en λd S=>k d S.tail.tail.tail)
 have c:l6 s r pg lv=0:=by unfold l6;rw[au c1,au c2]
 rw[c,az rfl] at k;obtain⟨n0,q⟩: ∃n0,n0=((dz s.1 r pg).2.1 - lv).toNat:=⟨_,rfl⟩;rw[<-q] at k;obtain⟨z,g⟩: ∃z,z=qI o pg n0 (s,dz s.1 r pg):=⟨_,rfl⟩;rw[<-g] at k;refine an (by simpa using c2) ⟨λn _ w'=> ∃t:WD, ∃x:PT,qI o pg n (t,x)=z/\x.2.1=lv+(n:Int)/\n<=3/\a_ Q D G w0 w' t ((l,[.bool (cZ s.1 r pg).1,aa (cZ s.1 r pg).2.1,.bool (cZ s.1 r pg).2.2.1,aa (cZ s.1 r pg).2.2.2.1])::(j,[aa x.1,aa x.2.1,aa x.2.2.1])::(b,[.bool e.1,aa e.2.1,.bool e.2.2.1,aa e.2.2.2.1])::L0),
  ⟨n0,λd v=>⟨s,dz s.1 r pg,g.symm,by omega,by omega,S.ext v⟩⟩,?_⟩
 rintro n u d ⟨t,x,h,M,N,S⟩;refine⟨rfl,S.cI 1 rfl rfl ?_⟩;rcases n with _|n
 ·refine an (by simp;omega) ⟨rfl,S.cI 1 rfl rfl (S.ld 2 rfl rfl (S.lay (k0+3) a _ e λy S=>S.en λi S=>k i ?_))⟩;have:z=(t,x):=h.symm;rw[this];exact S.tail.tail.tail
 ·refine aF (by simp;omega) (S.aa6 (k0+3) a λy S=>⟨rfl,S.cI 1 rfl rfl ⟨cj (eA t o),IG _ _,S.lay (k0+3) a _ (cj (eA t o)) λi S=>⟨rfl,S.cI 1 rfl rfl ⟨rfl,S.cI 1 rfl rfl ⟨trivial,S.fe 1 rfl rfl rfl λO S=>λP A=>⟨n,by omega,dP (iN t o λ_=>0) x.2.2.1 (cj (eA t o)),(eA t o,x.2.1 - 1,dY (eA t o) pg (x.2.1 - 1),()),h,by show x.2.1 - 1= _;omega,by omega,?_⟩⟩⟩⟩⟩⟩);have B:aY .i64 x.2.1 1=x.2.1 - 1:=bD (by omega) (by omega);have S:=S.ext A;rw[B] at S;exact S
theorem map (S:a_ Q D G w0 w s L0) (k0:Nat) (b:L0[k0]? =some (bt,kF Q o r gone)) (pg f rt:Int) {K:Int->A2->Prop} (k: ∀a,a_ Q D G w0 a (jv s o r gone pg f rt) L0->K (lK s r gone pg f rt) a):
 aD AC 173 (.el (.one (.int .i64))) [ag (ae bt),aa pg,aa f,aa rt] w K:=by
 refine S.go λw1 S=>ai (C:=N0) (aT:=λ_=>[]) (Ae (US _ pg f rt w1 K) ?_);unfold jv lK at k;refine⟨_,S.state k0 b,?_⟩;cases gone with
 |true=>
  rw[az rfl,az rfl] at k;exact aF rfl (S.en λa S=>k a S)
 |false=>
  have d: ¬ (false=true):=by decide
  rw[au d,au d] at k;refine an rfl ⟨_,IF _ _ _ _,ab (λc=>S.en λa S=>?_) (λc=>S.put k0 b pg 0 ⟨by decide,by decide⟩ (true,rt,false,f,()) λa S=>S.en λe S=>?_)⟩
  ·have c: ¬ na pg f rt=0:=by simpa using c
   rw[au c,au c] at k;exact k a S
  ·have c:na pg f rt=0:=by simpa using c
   rw[az c,az c] at k;exact k e S
end a_
end
set_option maxRecDepth 100000
open Go.RX D
theorem U' {p:Prop} {α:Type} (d:Decidable p) (c: ¬ p) (a b:α):(Bx (λ_=>a) (λ_=>b) d:α)=a:=by
 cases d with
 |isFalse h=>rfl
 |isTrue h=>exact absurd h c
theorem IJ {ws:List Int} {i n:Int} (h: ¬ (n<1\/i<0\/i>ws.length\/n>ws.length - i)):(jx ws i n).length=n.toNat:=by
 unfold jx;rw[au h,E4,Fv];omega
section
variable {D G:List Nat} {w0 w:A2} {L:List (Nat×List Ad)}
theorem Ze {bw n c:Nat} {ws:List Int} {rest:List Ad} (q:bM w bw (flat eW ws++rest)) (K:n=ws.length) (hc:n<=c) (hb:n<=1048576) (i k:Int):
 aE AC 80 (.el (.one .slice)) [.agg ⟨[.slice (ae bw) n c]⟩,aa i,aa k] w (λr w'=>lD w w' eW r (jx ws i k)/\Ext w w'):=by
 refine ai (C:=N0) (aT:=λ_=>[]) (Ae (UW _ n c i k w _) ?_);have H:=At.start [] w;refine aK.go H λb L H=>⟨λ_=>rfl,aj.bP 0 H rfl rfl ⟨λ_=>rfl,aj.bP 0 H rfl rfl ?_⟩⟩;by_cases f:k<1\/i<0\/i>ws.length\/k>ws.length - i
 ·have s:jx ws i k=[]:=az f;rw[s];refine aF ?_ (ao.go H λm H=>⟨lD.nil w m eW,H.all⟩);dsimp only;simp only[Dn,decide_eq_true_eq];by_cases h1:k<1
  ·exact .inl (.inl (.inl h1))
  ·by_cases t:i<0
   ·exact .inl (.inl (.inr t))
   ·by_cases u:i>(n:Int)
    ·exact .inl (.inr u)
    ·refine .inr ?_;rw[bD (by omega) (by omega)];omega
 ·have M:1<=k/\0<=i/\i+k<=n:=by omega
  have v:aY .i64 (n:Int) i=(n:Int) - i:=bD (by omega) (by omega);refine an ?_ ?_
  ·dsimp only;rw[v];simp only[EW,decide_eq_false_iff_not];omega
  refine E7.go H (z:=[ay 0]) rfl (by omega) (Cb _) (by omega) (by omega) λd m H=>⟨rfl,aj.bP 1 H rfl rfl ⟨by dsimp only;omega,λx y=>?_⟩⟩;have H:=H.ext y;have A:=q.ext H.all;dsimp only;rw[U' _ (by show ¬ (((c:Nat):Int).toNat=i.toNat);omega)];have e:(jx ws i k).length=k.toNat:=IJ f;have B:jx ws i k=(ws.drop i.toNat).take k.toNat:=au f;have a:(flat eW (jx ws i k)).length=k.toNat:=by rw[aI,e];exact CN _
  have D:Nat.min (((n:Nat):Int).toNat - i.toNat) k.toNat=k.toNat:=Nat.min_eq_right (by omega);have g:(Bp k.toNat [ay 0]).flatten.length=k.toNat:=by simp
  refine⟨flat eW (jx ws i k),?_,.inr (.inr ⟨?_,?_⟩),?_⟩
  ·show qn x (ad (ae bw) (i.toNat*1)) (Nat.min (((n:Nat):Int).toNat - i.toNat) k.toNat*1) _;rw[D,aR,CN,CN];refine A.qn a λj E=>?_;have F:=HR ws;have G:=HR (jx ws i k);rw[EU,F,G,Dl (by rw[CV];omega),Fw,Fw,B,Fx E,G1]
  ·rw[a];exact(H.get (i:=0) rfl).st (by rw[g];omega)
  ·have:=jJ eW (jx ws i k) rfl;exact this
  ·have p:=H.put 0 (b:=d) (o:=0) rfl (flat eW (jx ws i k)) (by rw[a,g];omega);have I:List.drop k.toNat (Bp k.toNat [ay 0]).flatten=[]:=E5 (Nat.le_of_eq g);rw[EU,a,I,CX,List.take_zero,List.nil_append] at p;refine ao.go p λN l=>⟨?_,l.all⟩;have J:w.heap.size<=d:=by
    rcases l.own (d,flat eW (jx ws i k)) De with h|h
    ·exact h
    ·cases h
   refine⟨e.symm,by rw[e];exact BL _,.inr ⟨d, _,rfl,J,l.get (i:=0) rfl,by rw[a];exact(CN _).symm,?_⟩⟩;rw[e];exact GS (by rw[a];exact Nat.le_of_eq (CN _).symm)
theorem La {e:El} {xs:List e.T} {rest:List Ad} {i:Nat} {x:e.T} (a:xs[i]? =some x) {j:Nat} (b:j<aG e):(flat e xs++rest)[i*aG e+j]? =(cellsOf e x)[j]? :=by
 have hi:i<xs.length:=(B5.1 a).1;have c:i*aG e+j<(flat e xs).length:=by
  rw[aI];have:(i+1)*aG e<=xs.length*aG e:=Nat.mul_le_mul_right _ hi;rw[Nat.add_mul] at this;omega
 rw[Dl c];exact yD e xs i x a j b
end
section
variable {Q:Sys} {D G:List Nat} {w0 w:A2} {s:WD} {L0:List (Nat×List Ad)} {bt:Nat} {o r:Int} {gone:Bool}
abbrev M_ (Q:Sys) (s:WD):Prop:=s.1.length<=Q.c/\s.1.length<=1048576
namespace a_
theorem words (S:a_ Q D G w0 w s L0) (hc:M_ Q s) (i n:Int) {K:Option Ab×Nat×Nat->A2->Prop} (k: ∀x rows a,a_ Q D G w0 a s (L0++rows)->n5 eW rows x (jx s.1 i n)->K x a):
 aD AC 45 (.el (.one .slice)) [ag (ae Q.bm),aa i,aa n] w K:=by
 refine S.go λw1 S=>ai (C:=N0) (aT:=λ_=>[]) (Ae (K8 _ i n w1 K) ?_);obtain⟨h1,b,c,d,ca,la,H⟩:=S;refine an rfl ⟨rfl,rfl,aj.bP 0 H rfl rfl ?_⟩;refine aD.X_ H (λa H=>Ze (H.get (i:=1) rfl) rfl hc.1 hc.2 i n) λx rows a H e=>ao.go H λf H=>k x rows f ⟨h1,b,c,d,ca,la,H⟩ e
theorem s9 (S:a_ Q D G w0 w s L0) {j bs:Nat} {l:List PT} {rest:List Ad} (hb:L0[j]? =some (bs,flat (.agg Te) l++rest)) {i:Nat} {x:PT} (a:l[i]? =some x) (q:Nat) {K:Int->Prop} {v:Int} (b:q<3) (hv:(cellsOf (.agg Te) x)[q]? =some (aa v)) (k:K v):
 aj w none (ad (ad (ae bs) (i*3)) q) (.one (.int .i64)) K:=by
 rw[aR,aR,EU];refine aj.of v ((S.get hb).lM ?_) k;have:=La (e:= .agg Te) (rest:=rest) a (j:=q) b;rw[show i*3+q=i*aG (.agg Te)+q from rfl,this,hv];rfl
end a_
end
set_option maxRecDepth 100000
open Go.RX D
theorem aa8 (x:PT) (t:WD):jn [x] t=t:=rfl
theorem aa9 (x y:PT) (l:List PT) (t:WD):jn (x::y::l) t=if wL t.1 x.1=true then jn (y::l) (dK t.1 y.2.2.1 0,dF t.2 x.1 (aP 5 0)) else t:=rfl
theorem Ld {l:List PT} {q:Nat} {x y:PT} (b:l[q]? =some y) (c:l[q+1]? =some x):(l.take (q+2)).reverse=x::y::(l.take q).reverse/\(l.take (q+1)).reverse=y::(l.take q).reverse:=by
 have a:l.take (q+1)=l.take q++[y]:=by rw[E6,b];rfl
 have d:l.take (q+2)=l.take q++[y]++[x]:=by rw[E6,c,a];rfl
 exact⟨by rw[d];simp,by rw[a];simp⟩
theorem IK {ws:List Int} (pg:Int): ∀(l:Nat) (f:Int),(0<=f/\f<4096)-> ∀x∈dg ws pg l f,0<=x.1/\x.1<4096
 |0,f,a,x,h=>by
  rw[dg,Dv] at h;subst h;exact a
 |l+1,f,a,x,h=>by
  rw[dg] at h;rcases Do.1 h with rfl|h
  ·exact a
  ·split at h
   ·exact IK pg l _ (py _ _) x h
   ·cases h
section
variable {Q:Sys} {D G:List Nat} {w0 w:A2} {s:WD} {L0:List (Nat×List Ad)} {bt:Nat} {o r:Int} {gone:Bool}
namespace a_
theorem thin (S:a_ Q D G w0 w s L0) (hc:M_ Q s) (k0:Nat) (p:L0[k0]? =some (bt,kF Q o r gone)) {j bs c:Nat} {l:List PT} {rest:List Ad} (hb:L0[j]? =some (bs,flat (.agg Te) l++rest)) (hl:l.length<=4) (R: ∀x∈l,0<=x.1/\x.1<4096)
 {K:Unit->A2->Prop} (k: ∀f,a_ Q D G w0 f (jn l.reverse s) L0->K () f):
 aD AC 220 (.bu []) [ag (ae bt),.slice (ae bs) l.length c] w K:=by
 refine S.go λw1 S=>ai (C:=N0) (aT:=tR) (Ae (QY _ _ _ c w1 K) ?_);obtain⟨z,I⟩: ∃z,z=jn l.reverse s:=⟨_,rfl⟩;rw[<-I] at k;refine⟨λn v w'=> ∃t:WD,v.1+1=(n:Int)/\n<=l.length/\t.1.length=s.1.length/\jn (l.take n).reverse t=z/\a_ Q D G w0 w' t L0,
  ⟨l.length,λf T=>⟨s,?_,BL _,rfl,by rw[List.take_length];exact I.symm,S.ext T⟩⟩,?_⟩
 ·show aY .i64 ((l.length:Nat):Int) 1+1= _;rw[bD (by omega) (by omega)];omega
 rintro n ⟨v,u⟩ f ⟨t,g,hn,A,a,S⟩;dsimp only at g ⊢;rcases n with _| _|q
 ·refine an (by simp;omega) (S.en λh S=>k h ?_);rw[<-a];exact S
 ·refine an (by simp;omega) (S.en λh S=>k h ?_);have:jn (l.take (0+1)).reverse t=t:=by
   cases l with
   |nil=>rfl
   |cons x l=>exact aa8 x t
  rw[<-a,this];exact S
 ·obtain rfl:v=((q+1:Nat):Int):=by omega
  have b:l[q+1]? =some l[q+1]:=Bs (by omega);have B:l[q]? =some l[q]:=Bs (by omega);generalize l[q+1]=x at b;generalize l[q]=y at B;obtain⟨t2,t1⟩:=Ld B b;rw[t2,aa9, <-t1] at a;have hfx:=R x (Bv b);have U:ir .i64 16 x.1=16*x.1:=eo (by omega) (by omega);have es:aY .i64 ((q+1:Nat):Int) 1=(q:Int):=by rw[bD (by omega) (by omega)];omega
  refine aF (by simp) ⟨rfl,rfl,S.cI k0 p rfl ⟨⟨rfl,by omega,by omega⟩,rfl,S.s9 hb b 0 (by decide) rfl ?_⟩⟩;rw[U];refine S.words ⟨by rw[A];exact hc.1,by rw[A];exact hc.2⟩ (16*x.1) 16 λrr rows h S J=>?_;have hll:(jx t.1 (16*x.1) 16).length<=16:=by
   by_cases L:(16:Int)<1\/16*x.1<0\/16*x.1>t.1.length\/16>t.1.length - 16*x.1
   ·rw[show jx t.1 (16*x.1) 16=[] from az L];simp
   ·rw[IJ L];decide
  have V:rr.2.1=(jx t.1 (16*x.1) 16).length:=J.1;refine⟨λn v w'=> ∃m:Nat,v.1=(m:Int)/\n+m=(jx t.1 (16*x.1) 16).length/\(∀i,i<m->(jx t.1 (16*x.1) 16)[i]? =some 0)/\a_ Q D G w0 w' t (L0++rows),⟨(jx t.1 (16*x.1) 16).length,λM W=>⟨0,rfl,rfl,λi hi=>by omega,S.ext W⟩⟩,?_⟩;rintro n ⟨v,u2⟩ M ⟨m,g,ZY,N,S⟩;dsimp only at g ⊢;subst g;rw[V];refine ab (λcc=>?_) (λcc=>?_)
  ·have O:m<(jx t.1 (16*x.1) 16).length:=by simpa using cc
   have hv:=Bs O;generalize (jx t.1 (16*x.1) 16)[m]=d at hv;obtain⟨g1,X,Y,Z,ca,la,H⟩:=S;have P:=J.sl H (λx b=>by
    show x∈ _:: _:: _:: _::(L0++rows);simp[b]) m d hv
   have S:a_ Q D G w0 M t (L0++rows):=⟨g1,X,Y,Z,ca,la,H⟩;refine⟨⟨P.1,by omega,by omega⟩,aj.of d P.2 (ab (λc2=>S.en λE S=>k E ?_) (λc2=>λE h5=>⟨n - 1,by omega,m+1,?_,by omega,λi hi=>?_,S.ext h5⟩))⟩
   ·have c2: ¬ d=0:=by simpa using c2
    have F:wL t.1 x.1=false:=by
     unfold wL;rw[Ga];exact⟨d,Bv hv,by simpa using c2⟩
    rw[F,au (by decide)] at a;rw[<-a];exact S.sub (E9 _ _)
   ·rw[ax (by omega) (by omega)];omega
   ·have c2:d=0:=by simpa using c2
    by_cases e:i=m
    ·subst e;rw[hv,c2]
    ·exact N i (by omega)
  ·have O: ¬ m<(jx t.1 (16*x.1) 16).length:=by simpa using cc
   have F:wL t.1 x.1=true:=by
    unfold wL;rw[Gd];intro d Xt;obtain⟨i,hi⟩:=Gi Xt;have:=N i (by have:=(B5.1 hi).1;omega);rw[hi] at this;cases this;rfl
   rw[F,az rfl] at a;have S:=S.sub (E9 L0 rows);refine⟨rfl,rfl,S.cI k0 p rfl ?_⟩;rw[es];refine⟨⟨rfl,by omega,by omega⟩,rfl,S.s9 hb B 2 (by decide) rfl (S.store _ 0 ⟨by decide,by decide⟩ λE S=>⟨rfl,rfl,S.cI k0 p rfl ⟨⟨rfl,by omega,by omega⟩,rfl,S.s9 hb b 0 (by decide) rfl (S.Ty x.1 5 0 λw6 S=>λw7 h7=>⟨q+1,by omega, _,by show(q:Int)+1= _;omega,by omega,?_,a,S.ext h7⟩)⟩⟩)⟩;show(dK t.1 y.2.2.1 0).length=s.1.length;rw[cF];exact A
theorem Dt (S:a_ Q D G w0 w s L0) (hc:M_ Q s) (k0:Nat) (b:L0[k0]? =some (bt,kF Q o r gone)) (m:0<=r/\r<4096) (pg:Int) {K:Int×Int×Unit->A2->Prop} (k: ∀g,a_ Q D G w0 g (nb s o r gone pg) L0->K (Fy s o r gone pg,BI s o r gone pg,()) g):
 aD AC 175 (.bu [.one (.int .i64),.one (.int .i64)]) [ag (ae bt),aa pg] w K:=by
 refine S.go λw1 S=>ai (C:=N0) (aT:=λ_=>[]) (Ae (KY _ pg w1 K) ?_);refine S.query k0 b pg λg S=>ab (λc=>S.en λh S=>?_) (λc=>?_)
 ·have c: ¬ (bA s r gone pg).2.2.1=0:=by simpa using c
  have a:BI s o r gone pg=(bA s r gone pg).2.2.1:=au c;have e:Fy s o r gone pg=0:=by unfold Fy;rw[a,au c]
  have f:nb s o r gone pg=s:=au c;rw[a,e,f] at k;exact k h S
 have c:(bA s r gone pg).2.2.1=0:=by simpa using c
 have a:BI s o r gone pg=l8 s o r pg:=az c;have f:nb s o r gone pg=if l8 s o r pg=0 then jn (dg (fi s o r pg).1 pg 3 r).reverse (dK (fi s o r pg).1 (dz (fi s o r pg).1 r pg).2.2.1 0,(fi s o r pg).2) else fi s o r pg:=az c;refine S.split k0 b pg λh S=>ab (λd=>S.en λi S=>?_) (λd=>?_)
 ·have d: ¬ l8 s o r pg=0:=by simpa using d
  have e:Fy s o r gone pg=0:=by unfold Fy;rw[a,au d]
  rw[a,e,f,au d] at k;exact k i S
 have d:l8 s o r pg=0:=by simpa using d
 have e:Fy s o r gone pg=(bA s r gone pg).1:=by unfold Fy;rw[a,az d]
 rw[e,a,f,az d,d] at k;have l:(fi s o r pg).1.length=s.1.length:=by
  unfold fi iN dP;split
  ·rfl
  ·split
   ·show(dK _ _ _).length= _;rw[cF,gH]
   ·rfl
 generalize fi s o r pg=t at*
 refine S.way pg λq bc i S=>S.Nv (pg:=pg) (k0+2) b (by simp) (by simp) λbs cs rest u S=>⟨rfl,rfl,S.cI (k0+3) b rfl ?_⟩;have n:(dg t.1 pg 3 r).length<=4:=s8 t.1 pg 3 r;have v:0<(dg t.1 pg 3 r).length:=Fu.2 (xg t.1 pg 3 r);have es:aY .i64 (((dg t.1 pg 3 r).length:Nat):Int) 1=(((dg t.1 pg 3 r).length - 1:Nat):Int):=by rw[bD (by omega) (by omega)];omega
 dsimp only;rw[es];refine⟨⟨rfl,by omega,by omega⟩,rfl,S.s9 (j:=0) rfl (Cg t.1 r pg) 2 (by decide) rfl (S.store _ 0 ⟨by decide,by decide⟩ λx S=>S.thin ⟨by show(dK _ _ _).length<= _;rw[cF,l];exact hc.1,by show(dK _ _ _).length<= _;rw[cF,l];exact hc.2⟩ (k0+3) b (j:=0) rfl n (IK pg 3 r m) λy S=>S.en λp S=>k p S.tail.tail.tail)⟩
theorem sM (S:a_ Q D G w0 w s L0) (k0:Nat) (g:L0[k0]? =some (bt,kF Q o r gone)) (pg rt:Int) {K:Int->A2->Prop} (k: ∀a,a_ Q D G w0 a (rA s o r gone pg rt) L0->K (Fz s o r gone pg rt) a):
 aD AC 177 (.el (.one (.int .i64))) [ag (ae bt),aa pg,aa rt] w K:=by
 refine S.go λw1 S=>ai (C:=N0) (aT:=λ_=>[]) (Ae (QZ _ pg rt w1 K) ?_);unfold rA Fz at k;refine⟨_,S.state k0 g,?_⟩;cases gone with
 |true=>
  rw[az rfl,az rfl] at k;exact aF rfl (S.en λa S=>k a S)
 |false=>
  have j: ¬ (false=true):=by decide
  rw[au j,au j] at k;refine an rfl ⟨_,IF _ _ _ _,ab (λc=>S.en λa S=>?_) (λc=>?_)⟩
  ·have c: ¬ na pg 0 rt=0:=by simpa using c
   rw[au c,au c] at k;exact k a S
  have c:na pg 0 rt=0:=by simpa using c
  rw[az c,az c] at k;have m:0<=pg:=by
   unfold na at c;by_cases h:pg<0\/pg>=65536\/(0:Int)<0\/(0:Int)>=4096
   ·rw[az h] at c;cases c
   ·omega
  refine S.end_ k0 g pg λa S=>S.al λb p S=>S.al λq t S=>S.fe 1 rfl rfl rfl λu S=>S.fe 0 rfl rfl rfl λv S=>⟨rfl,S.cI 0 rfl rfl (ab (λd=>S.en λi S=>?_) (λd=>⟨rfl,S.cI 0 rfl rfl ⟨λ_=>rfl,S.cI 0 rfl rfl (ab (λe=>S.en λi S=>?_) (λe=>?_))⟩⟩))⟩
  ·have d: ¬ (cZ s.1 r pg).1=true:=by simpa using d
   rw[au d,au d] at k;exact k i S.tail.tail
  ·have d:(cZ s.1 r pg).1=true:=by simpa using d
   rw[az d,az d] at k;have e:((cZ s.1 r pg).2.2.1&&(cZ s.1 r pg).2.1==rt)=true:=e;rw[az e,az e] at k;exact k i S.tail.tail
  have d:(cZ s.1 r pg).1=true:=by simpa using d
  rw[az d,az d] at k;have e: ¬ ((cZ s.1 r pg).2.2.1&&(cZ s.1 r pg).2.1==rt)=true:=by
   have e':((cZ s.1 r pg).2.2.1&&(cZ s.1 r pg).2.1==rt)=false:=e;rw[e'];decide
  rw[au e,au e] at k;refine S.ld 1 rfl rfl (S.ld 0 rfl rfl ⟨_,IH m (dz s.1 r pg) (cZ s.1 r pg) (py _ _) _,S.split (k0+2) g pg λi S=>ab (λf=>S.en λl S=>?_) (λf=>S.end_ (k0+2) g pg λl S=>S.fe 1 rfl rfl rfl λx S=>⟨rfl,S.cI 1 rfl rfl (S.lay (k0+2) g _ (true,rt,false,qu pg (dz s.1 r pg) (cZ s.1 r pg),()) λy S=>S.en λn S=>?_)⟩)⟩)
  ·have f: ¬ l8 s o r pg=0:=by simpa using f
   rw[au f] at k;exact k l S.tail.tail
  ·have f:l8 s o r pg=0:=by simpa using f
   rw[az f,f] at k;exact k n S.tail.tail
end a_
end
set_option maxRecDepth 100000
open Go.RX
noncomputable def N1:dj AC:={N0 with cl:=[(38,.WZ)]}
def pJ:Nat->aZ:=(λ|3=>[(12,Go.RX.El.one (Go.RX.Sc.int B1))]|9=>[(34,.one (.int .i64))]| _=>[])
theorem GI (y:Nat) (p c d:Option Ab) (w:A2) (i:Unit->A2->Prop):(bQ N1 pJ 247 [.func (.yield y) #[] #[],ag p,ag c,ag d] w i)=(
 aK w {toList:=[.func (Fn.yield y) ⟨[]⟩ ⟨[]⟩]} 38 λb a=>aj a none (ae b) (.one .WZ) λx=>aU a p λm=> ∀w1,Ext a w1->ma AC x [aa m] w1 λ(o:Bool) a=>aL (!o) (ao a (i ())) (∃(I:Nat->Int×Unit->List Nat->A2->Prop),(∃n, ∀w1,Ext a w1->I n (0,()) [] w1)/\ ∀(n:Nat) (s:Int×Unit) (D1:List Nat) (w1:A2),I n s D1 w1->aL (decide (s.1<16)) (fR w1 c λx=>aU w1 p λq=>aD
 AC 235 (.el jX) [ag x,aa (aB .i64 (ir .i64 16 q) s.1)] w1 λ(x:Bool×Int×Bool×Int×Unit) a=>aK a ⟨[.bool false,aa 0,.bool false,aa 0]⟩ 130 λk a=>aC a (ae k) [.bool x.1,aa x.2.1,.bool x.2.2.1,aa x.2.2.2.1] λa=>aU a d λx=>aj a (some !x==0) (ae k) jX λ(j:Bool×Int×Bool×Int×Unit)=>((!x==0)=true->True)/\aL (x==0|| !fH j.1
 j.2.1 j.2.2.1 j.2.2.2.1) (∀e,Ext a e-> ∃(f:Nat),f<n/\I f (aB .i64 s.1 1,()) D1 e) (fR a c λx=>true=true/\aU a (ad (ae k) 3) λt=>aU a d λu=>aD AC 239 (.el (.one (.zF 247 3))) [ag x,aa t,aa (aY .i64 u 1)] a λx a=>zz AC 247 (λ(y:Nat)=>[.func (Fn.yield y) ⟨[]⟩ ⟨[]⟩,ag x.1,ag x.2.1,ag x.2.2.1]) ⟨[34]⟩ a (λ(x:Int×Unit)=>[aa x.1]) (λ(l:Nat)
 (rec:Loop) (x:Int×Unit) e (R:Bool->A2->Prop)=>CQ l rec [aa x.1].length 1 e (Bu l rec e λg=>aj g none (ae b) (.one .WZ) λv=> ∀w1,Ext g w1->ma AC v [aa x.1] w1 λ(b:Bool) a=>aL (!b) (rY l rec (some Code.ret) a R) (rY l rec none a R))) λ(r:Nat) (rec:Loop) z=>dv (r+1) rec z (λg=> ∀e,Ext g e-> ∃(f:Nat),f<n/\I f (aB .i64 s.1 1,()) (r::D1) e) (λ(id:Nat) g=>Bx (λ(h:id=2->False)=>Bx (λ(h:id=1->False)=>
 Bx (λ(h:id=0->False)=>False) (λ(h:id=0)=>rZ (r::D1) g λw1=>i () w1) (match h:id.beq 0 with|true=>isTrue (DA h)|false=>isFalse (DB h))) (λ(h:id=1)=> ∀e,Ext g e-> ∃(f:Nat),f<n/\I f (aB .i64 s.1 1,()) (r::D1) e) (match h:id.beq 1 with|true=>isTrue (DA h)|false=>isFalse (DB h))) (λ(h:id=2)=> ∀e,Ext g e-> ∃(f:Nat),f<n/\I f (aB .i64 s.1 1,()) (r::D1) e)
 (match h:id.beq 2 with|true=>isTrue (DA h)|false=>isFalse (DB h))) λg=>rZ (r::D1) g λw1=>i () w1)) (byD D1 (ao w1 (i ())) λ(r:Nat) (D:List Nat)=>rZ (r::D) w1 λw1=>i () w1))):=by kernel_rfl
open Go.RX D
section
variable {T:Type} {bm:Nat} {mc:List Ad->Prop} {J:List T->List (Nat×List Ad)->List (Nat×Obj)->A2->Prop} {a:List T} {X:List (Nat×List Ad)} {O:List (Nat×Obj)} {w w':A2}
theorem zz.inX (K:JK bm mc J) {P:Program} {k:FuncId} {args:Nat->List Ad} {ps:Array Nat} {f:T->List Ad} {m:Nat->Loop->T->A2->(Bool->A2->Prop)->Prop} {n:Nat->Loop->A2->Prop} {N:Nat} {p:List (Nat×List Ad)} {xs:List T}
 (j:J a X O w) (t:ItJ P k args f N bm mc p xs) (u: ∀x∈p,x∈X) (y:a.length+xs.length<=N)
 (z: ∀b x X' O' l rec d (R:Bool->A2->Prop),b.length<N->J b (X'++X) ((l,M6 rec)::O') d->(∀w',J (b++[x]) (X'++X) ((l,M6 rec)::O') w'->R true w')->m l rec x d R)
 (A: ∀r rec g,J (a++xs) X ((r+1,M6 rec)::(r,.deferred (some []))::O) g->n r rec g):zz P k args ps w f m n:=by
 intro w1 h1 rec _ _ B C D;have V:rec={rec with state:= .ready,pending:= .none}:=by rw[<-B, <-C]
 have sz:(w1.alloc (.deferred (some []))).heap.size=w1.heap.size+1:=lr _ _;have j1:J a X _ (w1.alloc (.deferred (some []))):=K.alO (K.ext j h1) (λ_ _ _ e=>by cases e);have q:=K.alO (o:=M6 rec) j1 (HO rec _ _);rw[sz] at q
 let Z:=(w1.heap.size+1,M6 rec)::(w1.heap.size,.deferred (some []))::O
 let i:=λb X' O' w=>J b (X'++X) (O'++Z) w
 have E:JK bm mc i:=
  {step:=λ{a' X' O' W d l' Y} h F hb G H I=>by
    have:=K.step h F hb G H I
    grind
   mem:=λh=>K.mem h
   dp:=λh hm=>K.dp h (by grind)
   obj:=λh hm=>K.obj h (by grind)
   alO:=λh c=>K.alO h c
   ZR:=λh c=>K.ZR h c
   sub:=λh hx c=>K.sub h (by grind) (c.append_right Z)
   perm:=λh c=>K.perm h (c.append_right Z)}
 have L:Yd P (w1.heap.size+1) f N i:=λb x X' O' d R hb h M=>by
  refine D x d R ?_;have s:((w1.heap.size+1,M6 rec)::(O'++((w1.heap.size,.deferred (some []))::O))).Perm (O'++Z):=(CO).symm;exact z b x X' _ _ rec d R hb (K.perm h s) (λw' h'=>M w' (K.perm h' s.symm))
 have Q:(w1.alloc (.deferred (some []))).alloc (.loop rec)=(w1.alloc (.deferred (some []))).alloc (M6 rec):=by
  grind
 rw[Q];have S:=K.sub q (λx hm=>by
  rcases List.mem_append.1 hm with hm|hm<;>exact hm) (Bz _)
 refine Calls.mono (t (w1.heap.size+1) i E L a X [] _ y u S) ?_;rintro e g ⟨v,U,h⟩;exact⟨v,U,A _ _ _ (K.sub h (by grind) (by grind))⟩
end
def ow (ws:List Int) (l:Nat) (f:Int) (i:Nat):List Int:=match l with
 |0=>[]
 |l+1=>if dG (aM ws (16*f+(i:Int)))=true then cW ws l (aM ws (16*f+(i:Int))).2.2.2.1 else[]
theorem mU (ws:List Int): ∀(l:Nat) (f:Int),cW ws l f=f::(B2 16).flatMap (ow ws l f)
 |0,f=>by
  simp[cW,ow]
 |l+1,f=>rfl
theorem Le {m:Nat} (a:m<16) (g:Nat->List Int): ∃z,(B2 16).flatMap g=(B2 m).flatMap g++(g m++z):=by
 obtain⟨z,e⟩: ∃z,B2 _=B2 (m+1)++z:=by
  refine⟨(B2 16).drop (m+1),?_⟩
  conv=>rw[<-H4 (m+1) (B2 16)]
  grind
 rw[e,H5];simp
abbrev emI (x:Int×Unit):List Ad:=[aa x.1]
abbrev Tf (x:Int):Int×Unit:=(x,())
abbrev ucs (bt c1 c2 c3:Nat) (f:Int) (l:Nat):List (Nat×List Ad):=[(c1,[aa f]),(c2,[ag (ae bt)]),(c3,[aa (l:Int)])]
theorem Lg {D G:List Nat} {w0 w:A2} {L:List (Nat×List Ad)} (H:aJ D G w0 w L) (p:Option Ab) (f lv:Int) {K:Option Ab×Option Ab×Option Ab×Unit->A2->Prop}
 (k: ∀b a c d,aJ D G w0 d ((c,[aa lv])::(a,[aa f])::(b,[ag p])::L)->K (some ⟨a,0,none⟩,some ⟨b,0,none⟩,some ⟨c,0,none⟩,()) d):
 aD AC 239 FU [ag p,aa f,aa lv] w K:=
 aD.go H λw1 H=>ai (Ae (AV p f lv w1 K) (aK.go H λb d H=>aK.go H λa e H=>aK.go H λc g H=>ao.go H (by grind)))
abbrev UIt (Q:Sys) (ws:List Int) (bt:Nat) (o r:Int) (gone:Bool) (N lv:Nat):Prop:= ∀(f:Int) (a:0<=f/\f<4096) (c1 c2 c3:Nat),
 ItJ AC 247 (λy=>[.func (.yield y) #[] #[],ag (ae c1),ag (ae c2),ag (ae c3)]) emI N Q.bm (Mc Q ws.length)
  ((bt,kF Q o r gone)::(Q.bw,flat eW ws++Q.rw)::ucs bt c1 c2 c3 f lv) ((cW ws lv f).map Tf)
theorem GJ {Q:Sys} {ws:List Int} {bt:Nat} {o r:Int} {gone:Bool} {N:Nat} (Z:okW ws) (oJ:0<ws.length) (lv:Nat) (CK:lv<=3) (ih: ∀l',lv=l'+1->UIt Q ws bt o r gone N l'):UIt Q ws bt o r gone N lv:=by
 intro f hf c1 c2 c3 y J K E a X O w i hX j;refine Calls.mono (aQ (C:=N1) (aT:=pJ) (Post:=λ_ w'=>J (a++(cW ws lv f).map Tf) X O w') (Ae (GI y _ _ _ w _) ?_)) ?_
 rotate_left
 ·rintro e w' ⟨x,rfl,h⟩;exact⟨_,rfl,h⟩
 rw[mU] at i ⊢;simp only[List.map_cons,BK,CV] at i;obtain⟨lm,⟨ca,la,rfl⟩,H⟩:=K.at0 j;refine aK.go H λb w2 H=>?_;have j:=K.sL (Y:=[(b, _)]) j H ⟨_, _,rfl⟩;have g: ∀x∈(bt,kF Q o r gone)::(Q.bw,flat eW ws++Q.rw)::ucs bt c1 c2 c3 f lv,x∈[(b,[Da (.yield y) #[] #[]])]++X:=λx p=>C7 _ (hX x p);have q:(b,[Da (.yield y) #[] #[]])∈[(b,[Da (.yield y) #[] #[]])]++X:=List.mem_append_left _ (Dv.2 rfl);have back: ∀{a':List (Int×Unit)} {w':A2},J a' ([(b,[Da (.yield y) #[] #[]])]++X) O w'->J a' X O w':=λh=>K.sub h (λx p=>C7 _ p) (Bz _);generalize [(b,[Da (.yield y) #[] #[]])]++X=k at j g q back;have x1:=g (bt,kF Q o r gone) (by simp);have F:=g (Q.bw,flat eW ws++Q.rw) (by simp);have G:=g (c1,[aa f]) (by simp);have I:=g (c2,[ag (ae bt)]) (by simp);have x5:=g (c3,[aa (lv:Int)]) (by simp);refine aj.of y ((K.dp j q).2.lM rfl) (aj.of f ((K.dp j G).2.lM rfl) λw3 h3=>E a (Tf f) k O w3 _ (by omega) (K.ext j h3) λw4 j=>?_);refine an rfl ⟨λn v D1 w'=> ∃m:Nat,v.1=(m:Int)/\n+m=16/\J (a++Tf f::((B2 m).flatMap (ow ws lv f)).map Tf) k (D1.map (λr=>(r,Obj.deferred (some [])))++O) w',⟨16,λL h5=>⟨0,rfl,rfl,by simpa using K.ext j h5⟩⟩,?_⟩;rintro n ⟨v,u⟩ D1 L ⟨m,M,ZY,j⟩;dsimp only at M ⊢;subst M;refine ab (λcc=>?_) (λcc=>?_)
 ·have s:m<16:=by simp at cc;omega
  obtain⟨z,hz⟩:=Le s (ow ws lv f);have P:(a++Tf f::((B2 m).flatMap (ow ws lv f)).map Tf).length+((ow ws lv f m).map Tf).length<=N:=by
   rw[hz] at i;simp only[Dc,BK,CV] at i ⊢;omega
  have t:(B2 (m+1)).flatMap (ow ws lv f)=(B2 m).flatMap (ow ws lv f)++ow ws lv f m:=by
   rw[H5,List.flatMap_append];simp
  have abX:aB .i64 (ir .i64 16 f) (m:Int)=16*f+(m:Int):=by rw[eo (by omega) (by omega),ax (by omega) (by omega)]
  have abY:aB .i64 (m:Int) 1=((m+1:Nat):Int):=by rw[ax (by omega) (by omega)];omega
  refine aj.of (ae bt) ((K.dp j I).2.lM rfl) (aj.of f ((K.dp j G).2.lM rfl) ?_);rw[abX,abY];obtain⟨lm,⟨ca,la,rfl⟩,H⟩:=K.at0 j;have R:TbR Q ws L bt o r gone:=⟨(K.dp j x1).2,(K.dp j F).2,(K.dp j x1).1,(K.dp j F).1,Z,oJ⟩;have A:=K.dp j x5;have S:=K.dp j I;have T:c3∉[Q.bm]:=by simpa using A.1
  have n4:c2∉[Q.bm]:=by simpa using S.1
  refine OI R H 0 rfl _ λca2 U H=>aK.go H λV w7 H=>aC.all 0 H rfl rfl rfl λw8 H=>aj.fa H A.2 T rfl (aj.at 0 H rfl rfl ⟨λ_=>trivial,ab (λc=>λw9 h9=>?_) (λc=>?_)⟩)
  ·have B:=K.sub (K.ext (K.sL (Y:=[(V, _)]) j H ⟨_, _,rfl⟩) h9) (X':=k) (λx h=>C7 _ h) (Bz _);refine⟨n - 1,by omega,m+1,rfl,by omega,?_⟩;have D:ow ws lv f m=[]:=by
    cases lv with
    |zero=>rfl
    |succ l=>
     have c:dG (aM ws (16*f+(m:Int)))=false:=by
      have h0:((((l+1:Nat):Int))==0)=false:=by simp;omega
      simp only[h0,Bool.false_or,Bool.not_eq_true'] at c;exact c
     exact au (by rw[c];decide)
   rw[t,D,CX];exact B
  ·have c0: ¬ lv=0/\dG (aM ws (16*f+(m:Int)))=true:=by
    simp only[EW,Bool.not_eq_false'] at c;refine⟨λe=>?_,c.2⟩;subst e;simp at c
   obtain⟨l,rfl⟩: ∃l,lv=l+1:=⟨lv - 1,by omega⟩;have D:ow ws (l+1) f m=cW ws l (aM ws (16*f+(m:Int))).2.2.2.1:=az c0.2;have elv:aY .i64 ((l+1:Nat):Int) 1=(l:Int):=by rw[bD (by omega) (by omega)];omega
   refine aj.fa H S.2 n4 rfl ⟨rfl,aj.bP 0 H rfl rfl (aj.fa H A.2 T rfl ?_)⟩;rw[elv];refine Lg H _ _ _ λd d1 d2 w9 H=>?_;have B:=K.sL (Y:=[(d2, _),(d1, _),(d, _),(V, _)]) j H ⟨_, _,rfl⟩;rw[D] at P t;refine zz.inX K B (ih l rfl _ (py _ _) d1 d d2) ?_ P ?_ ?_
   grind
   ·intro b0 x X' O' l' rec l5 R hb j hR;refine CQ.Xk K j rfl (Bu.Xk K j λwb j=>aj.of y ((K.dp j (C7 _ (C7 _ q))).2.lM rfl) λW Fe=>E b0 x _ _ W _ hb (K.ext j Fe) λva j=>an rfl (rY.Xk K j λJy j=>hR Jy j))
   ·intro r' rec l5 j;refine dv.Xk K j λW j=>λva Tb=>⟨n - 1,by omega,m+1,rfl,by omega,?_⟩;have j3:=K.sub (K.ext j Tb) (X':=k) (λx h=>C7 _ h) (Bz _);rw[t];simpa using j3
 ·have s:m=16:=by simp at cc;omega
  subst s;cases D1 with
  |nil=>exact λU h6=>back (K.ext j h6)
  |cons r' D1=>exact K.rZ (r'::D1) j λU j=>back j
theorem Q3 {Q:Sys} {ws:List Int} {bt:Nat} {o r:Int} {gone:Bool} {N:Nat} (a:okW ws) (b:0<ws.length): ∀lv:Nat,lv<=3->UIt Q ws bt o r gone N lv:=by
 intro lv
 induction lv with
 |zero
 |succ=>
  intro h;refine GJ a b _ h λe=>?_
  grind
abbrev eN:El:= .one (.int .i64)
theorem zh (ws:List Int): ∀(l:Nat) (f:Int),(cW ws l f).length<=(match l with|0=>1|1=>17|2=>273| _=>4369)\/3<l
 |0,f=> .inl (by simp[cW])
 |l+1,f=>by
  by_cases a:3<l+1
  ·exact .inr a
  refine .inl ?_;have step: ∀(c:Nat) (is:List Nat),(∀i,(ow ws (l+1) f i).length<=c)->(is.flatMap (ow ws (l+1) f)).length<=is.length*c:=by
   intro c is h
   induction is with
   |nil=>simp
   |cons i is b=>
    rw[List.flatMap_cons,Dc,BK,Nat.add_mul];have:=h i;omega
  have sub: ∀(c:Nat),(∀g,(cW ws l g).length<=c)-> ∀i,(ow ws (l+1) f i).length<=c:=by
   intro c h i;unfold ow
   grind
  rw[mU];have b:=zh ws l;rcases l with _| _| _|l
  ·have:=step 1 (B2 16) (sub 1 (by grind))
   grind
  ·have:=step 17 (B2 16) (sub 17 (by grind))
   grind
  ·have:=step 273 (B2 16) (sub 273 (by grind))
   grind
  ·omega
theorem pD (ws:List Int) (f:Int):(cW ws 3 f).length<=4369:=by grind[zh]
theorem AW (ws:List Int) (l:Nat) (f:Int):cW ws l f≠[]:=by simp[mU]
theorem DW (x:Int): ∀l:List Int,(jy x l).length=l.length+1
 |[]=>rfl
 |y::l=>by
  rw[jy];split
  ·rw[BK,DW];rfl
  ·rfl
theorem yK: ∀(l a:List Int),(l.foldl (λa x=>jy x a) a).length=a.length+l.length
 |[],a=>rfl
 |x::l,a=>by
  rw[H6,yK,DW,BK];omega
theorem mV (l:List Int):(n7 l).length=l.length:=by simp[n7,yK]
theorem Zf (p z:List Int) (a c:Int):(p++a::z).set p.length c=p++c::z:=by simp
section
variable {Q:Sys} {D G:List Nat} {w0 w:A2} {s:WD} {L0:List (Nat×List Ad)} {bt:Nat} {o r:Int} {gone:Bool}
namespace a_
theorem under (S:a_ Q D G w0 w s L0) (f lv:Int) {K:Option Ab×Option Ab×Option Ab×Unit->A2->Prop} (k: ∀b a c d,a_ Q D G w0 d s ((c,[aa lv])::(a,[aa f])::(b,[ag (ae bt)])::L0)->K (some ⟨a,0,none⟩,some ⟨b,0,none⟩,some ⟨c,0,none⟩,()) d):
 aD AC 239 FU [ag (ae bt),aa f,aa lv] w K:=by
 refine S.go λw1 S=>ai (Ae (AV _ f lv w1 K) ?_);exact S.al λb d S=>S.al λa e S=>S.al λc g S=>S.en (by grind)
theorem aa_ (S:a_ Q D G w0 w s L0) (k0:Nat) (O:L0[k0]? =some (bt,kF Q o r gone)) {c1 c2 c3:Nat} {f:Int} (j:0<=f/\f<4096) (h1:(c1,[aa f])∈L0) (P:(c2,[HM (ae bt)])∈L0) (T:(c3,[aa 3])∈L0)
 {K:Option Ab×Nat×Nat->A2->Prop} (k: ∀bs cs rest c,a_ Q D G w0 c s ((bs,flat eN (cW s.1 3 f)++rest)::L0)->K (some ⟨bs,0,none⟩,(cW s.1 3 f).length,cs) c):
 aD AC 238 (.el (.one .slice)) [.func (.func 247) #[] #[ag (ae c1),ag (ae c2),ag (ae c3)]] w K:=by
 refine S.go λw1 S=>aQ (C:=N0) (aT:=qT) (Ae (KZ _ _ _ w1 K) ?_);obtain⟨g1,m,n,g,ca,la,H0⟩:=S;have H:=H0.again;refine aK.go H λbl c H=>?_;have p:=pD s.1 f;refine zz.Nv (N:=4369) (bm:=Q.bm) (mc:=Mc Q s.1.length) (ZS:=[(bl,[.slice none 0 0])]) H ⟨_, _,rfl⟩
  (Q3 (o:=o) (r:=r) (gone:=gone) (bt:=bt) g g1 3 (BL _) f j c1 c2 c3) ?_ (by simpa using p) (λxs d=>Xq eN bl (xs.map (·.1)) d) (.inl ⟨rfl,rfl⟩) ?_ ?_
 grind
 ·intro U x d Z rr l rec V R W a b q;obtain⟨sl,e⟩:=a.head;refine CQ.go b rfl (Bu.goO b λwb H t u=>aj.at 0 H (by rw[Dl (B5.1 e).1];exact e) rfl (aK.go H λX i H=>λY v=>?_));have H:=H.ext v;exact a.push e (x:=x.1) H rfl rfl rfl (by grind) λy w8 z A=>rY.kV t A λB E F=>q y B (by simpa using z) E (u.trans F)
 ·rintro rr rec w4 l' d ⟨I,J,rfl⟩ a b;refine dv.none b λw5 H=>?_;have L:((cW s.1 3 f).map Tf).map (·.1)=cW s.1 3 f:=by
   rw[List.map_map];exact List.map_id _
  rw[L] at a;rcases a with ⟨h, _⟩|⟨bs,cs,rest,rfl,q1,q2⟩
  ·exact absurd h (AW _ _ _)
  ·refine aj.at 0 H rfl rfl (rZ.go H λi H=>k bs cs rest i ⟨g1,m,n,g,I,J,H0.join (λx M=>M) ?_⟩);refine(H.sub (C6 _ _)).perm ?_;exact CO (l₁:=[_, _, _, _])
theorem HU (S:a_ Q D G w0 w s L0) {j bs:Nat} {xs:List Int} {rest:List Ad} (a:L0[j]? =some (bs,flat eN xs++rest)) {i:Nat} {x:Int} (b:xs[i]? =some x):cP w (ad (ae bs) (i*1)) eN x:=eh (S.get a) b
theorem WL (S:a_ Q D G w0 w s L0) (j:Nat) {bs:Nat} {xs:List Int} {rest:List Ad} (a:L0[j]? =some (bs,flat eN xs++rest)) {i:Nat} (hi:i<xs.length) (v:Int) {K:A2->Prop} (k: ∀w1,a_ Q D G w0 w1 s (L0.set j (bs,flat eN (xs.set i v)++rest))->K w1):aC w (ad (ae bs) (i*1)) [aa v] K:=by
 obtain⟨h1,b,c,d,ca,la,H⟩:=S;exact aC.flat (e:=eN) (j+4) H v a rfl rfl hi λw1 H=>k w1 ⟨h1,b,c,d,ca,la,H⟩
theorem all (S:a_ Q D G w0 w s L0) (k0:Nat) (q:L0[k0]? =some (bt,kF Q o r gone)) (U:0<=r/\r<4096) {K:Option Ab×Nat×Nat->A2->Prop} (k: ∀x rows d,a_ Q D G w0 d s (L0++rows)->n5 eN rows x (mG s r gone)->K x d):
 aD AC 214 (.el (.one .slice)) [ag (ae bt)] w K:=by
 refine S.go λw1 S=>ai (C:=N0) (aT:=vV) (Ae (UT _ w1 K) ?_);refine⟨_,S.state k0 q,?_⟩;cases gone with
 |true=>exact aF rfl (S.en λd S=>k (none,0,0) [] d (by rw[CX];exact S) ⟨rfl,.inl ⟨rfl,rfl⟩⟩)
 |false=>
  refine an rfl ⟨rfl,rfl,S.cI k0 q rfl (S.under r 3 λc2 c1 c3 d S=>S.aa_ (k0+3) q U (by simp) (by simp) (by simp) λbs cs rest i S=>?_)⟩;have S:=S.perm (L1:=(bs,flat eN (cW s.1 3 r)++rest)::(L0++[(c3,[aa 3]),(c1,[aa r]),(c2,[ag (ae bt)])])) (F0 _ (by exact List.perm_append_comm (l₂:=[_, _, _])));have S:=S.sub (List.Sublist.cons_cons _ (E9 _ _));have hlen:=pD s.1 r;have V:mG s r false=n7 (cW s.1 3 r):=au (by decide);rw[V] at k;have cG:=AW s.1 3 r;generalize cW s.1 3 r=l at*
  refine⟨λn v w'=> ∃m:Nat,v.1=(m:Int)/\n+m=l.length/\a_ Q D G w0 w' s ((bs,flat eN (((l.take m).foldl (λa x=>jy x a) []).reverse++l.drop m)++rest)::L0),⟨l.length,λW X=>⟨0,rfl,rfl,by simpa using S.ext X⟩⟩,?_⟩;rintro n ⟨v,u⟩ W ⟨m,b,ZY,S⟩;dsimp only at b ⊢;subst b;refine ab (λcc=>?_) (λcc=>?_)
  ·have t:m<l.length:=by simpa using cc
   obtain⟨R,z⟩: ∃R,R=(l.take m).foldl (λa x=>jy x a) []:=⟨_,rfl⟩;have E:R.length=m:=by rw[z,yK,E4];simp;omega
   have J:=Bs t;obtain⟨x,L⟩: ∃x,x=l[m]:=⟨_,rfl⟩;rw[<-L] at J;have Y:l.drop m=x::l.drop (m+1):=by rw[EO t,L]
   have aa':(l.take (m+1)).foldl (λa x=>jy x a) []=jy x R:=by
    rw[E6,J,Option.toList_some,List.foldl_append, <-z];rfl
   obtain⟨Z,M⟩: ∃Z,Z=l.drop (m+1):=⟨_,rfl⟩;rw[<-z,Y, <-M] at S;refine⟨λN v w'=> ∃A B:List Int,v.1=(A.length:Int)/\N=A.length/\A.length+B.length=m/\B++jy x A=jy x R/\a_ Q D G w0 w' s ((bs,flat eN (A.reverse++x::(B.reverse++Z))++rest)::L0),⟨m,λf h5=>⟨R,[],by rw[E],E.symm,by simp[E],rfl,by simpa using S.ext h5⟩⟩,?_⟩;rintro N ⟨v,u2⟩ f ⟨A,B,b,rfl,hAB,F,S⟩;dsimp only at b ⊢;subst b;have O: ∀(C:List Int),C=jy x R-> ∀{w':A2},a_ Q D G w0 w' s ((bs,flat eN (C.reverse++Z)++rest)::L0)-> ∀i,Ext w' i-> ∃P,P<n/\ ∃p:Nat,aB .i64 (m:Int) 1=(p:Int)/\P+p=l.length/\a_ Q D G w0 i s ((bs,flat eN (((l.take p).foldl (λa x=>jy x a) []).reverse++l.drop p)++rest)::L0):=by
    intro C hC w' S i h3;refine⟨n - 1,by omega,m+1,by rw[ax (by omega) (by omega)];omega,by omega,?_⟩;rw[aa', <-hC, <-M];exact S.ext h3
   cases A with
   |nil=>
    refine⟨λh=>by simp at h,0,λh=>by simp at h,λh=>by simp at h,0,λh=>by simp at h,an rfl (O (B++jy x []) F (w':=f) ?_)⟩;have e:(B++jy x []).reverse++Z=[].reverse++x::(B.reverse++Z):=by simp[jy]
    rw[e];exact S
   |cons y A=>
    have e:(y::A).reverse++x::(B.reverse++Z)=A.reverse++y::x::(B.reverse++Z):=by simp
    rw[e] at S;simp only[BK] at hAB;have es:aY .i64 (((y::A).length:Nat):Int) 1=(A.length:Int):=by rw[BK,bD (by omega) (by omega)];omega
    rw[es];have H:(A.reverse++y::x::(B.reverse++Z))[A.length]? =some y:=by rw[H7 (by simp)];simp
    have T:(A.reverse++y::x::(B.reverse++Z))[A.length+1]? =some x:=by rw[H7 (by simp)];simp
    have V_:A.length<(A.reverse++y::x::(B.reverse++Z)).length:=(B5.1 H).1;have s1:(A.reverse++y::x::(B.reverse++Z)).set A.length x=A.reverse++x::x::(B.reverse++Z):=by
     have:=Zf A.reverse (x::(B.reverse++Z)) y x;rwa[List.length_reverse] at this
    have s2:(A.reverse++x::x::(B.reverse++Z)).set (A.length+1) y=A.reverse++x::y::(B.reverse++Z):=by
     simp
    have Hx:A.length+1<(A.reverse++x::x::(B.reverse++Z)).length:=by simp
    have t1:((A.length:Nat):Int).toNat=A.length:=rfl;have t2:(((y::A).length:Nat):Int).toNat=A.length+1:=rfl;rw[t1,t2];have g1:(some (⟨bs,0,none⟩:Ab)).isSome=true/\0<=(A.length:Int)/\(A.length:Int)<(l.length:Int):=⟨rfl,by omega,by omega⟩;have I:(some (⟨bs,0,none⟩:Ab)).isSome=true/\0<=(((y::A).length:Nat):Int)/\(((y::A).length:Nat):Int)<(l.length:Int):=⟨rfl,by omega,by rw[BK];omega⟩;refine⟨λ_=>g1,aj.of y (S.HU (j:=0) rfl H) ⟨λ_=>I,aj.of x (S.HU (j:=0) rfl T) (ab (λc=>⟨I,aj.of x (S.HU (j:=0) rfl T) ⟨g1,aj.of y (S.HU (j:=0) rfl H) ⟨g1,S.WL 0 rfl V_ x λw6 S=>⟨I,?_⟩⟩⟩⟩) (λc=>O (B++jy x (y::A)) F (w':=f) ?_))⟩⟩
    ·rw[s1] at S;refine S.WL 0 rfl Hx y λw7 S=>λw8 h8=>⟨A.length,Nat.lt_succ_self _,A,B++[y],rfl,rfl,by simp;omega,?_,?_⟩
     ·have c2:y>x:=by simpa using c
      rw[<-F,jy,az c2,Fs];rfl
     ·rw[s2] at S;have g:A.reverse++x::((B++[y]).reverse++Z)=A.reverse++x::y::(B.reverse++Z):=by simp
      rw[g];exact S.ext h8
    ·have c2: ¬ y>x:=by simpa using c
     have g:(B++jy x (y::A)).reverse++Z=A.reverse++y::x::(B.reverse++Z):=by rw[jy,au c2];simp
     rw[g];exact S
  ·have t: ¬ m<l.length:=by simpa using cc
   have b:l.take m=l:=GS (by omega);have g:l.drop m=[]:=E5 (by omega);rw[b,g,CX] at S;refine S.en λf S=>k (some ⟨bs,0,none⟩,l.length,cs) [(bs,flat eN (n7 l)++rest)] f (S.perm (List.perm_append_singleton _ _)) ⟨(mV l).symm,.inr ⟨bs,rest,rfl,rfl⟩⟩
theorem drop (S:a_ Q D G w0 w s L0) (k0:Nat) (d:L0[k0]? =some (bt,kF Q o r gone)) (B:0<=r/\r<4096) {K:Option Ab×Nat×Nat->A2->Prop} (k: ∀x rows b,a_ Q D G w0 b (cH s r gone) (L0.set k0 (bt,kF Q o r true)++rows)->n5 eN rows x (mG s r gone)->K x b):
 aD AC 171 (.el (.one .slice)) [ag (ae bt)] w K:=by
 refine S.go λw1 S=>ai (C:=N0) (aT:=tS) (Ae (Q0 _ w1 K) ?_);refine⟨_,S.state k0 d,?_⟩;have E:k0<L0.length:=(B5.1 d).1;cases gone with
 |true=>
  have e:L0.set k0 (bt,kF Q o r true)=L0:=Ff (by grind);exact aF rfl (S.en λb S=>k (none,0,0) [] b (by rw[CX,e];exact S) ⟨rfl,.inl ⟨rfl,rfl⟩⟩)
 |false=>
  refine an rfl (S.all k0 d B λx rows b S g=>?_);have F:cH s r false=(s.1,(mG s r false).foldl (λds f=>dF ds f (aP 5 0)) s.2):=au (by decide);rw[F] at k;have W:(mG s r false).length<=4369:=by
   rw[show mG s r false=n7 (cW s.1 3 r) from au (by decide),mV];exact pD _ _
  generalize mG s r false=l at*
  obtain⟨I,J,L⟩:=x;have M:J=l.length:=g.1;subst M;obtain⟨c,i⟩: ∃c,c=l.foldl (λds f=>dF ds f (aP 5 0)) s.2:=⟨_,rfl⟩;rw[<-i] at k;have j:(L0++rows)[k0]? =some (bt,kF Q o r false):=by grind
  refine⟨λn v w'=> ∃(m:Nat) (ds:List DT),v.1=(m:Int)/\n+m=l.length/\(l.drop m).foldl (λds f=>dF ds f (aP 5 0)) ds=c/\a_ Q D G w0 w' (s.1,ds) (L0++rows),⟨l.length,λp N=>⟨0,s.2,rfl,rfl,i.symm,S.ext N⟩⟩,?_⟩;rintro n ⟨v,u⟩ p ⟨m,ds,q,X,a,S⟩;dsimp only at q ⊢;subst q;refine ab (λcc=>?_) (λcc=>?_)
  ·have h:m<l.length:=by simpa using cc
   have t:=Bs h;obtain⟨f,y⟩: ∃f,f=l[m]:=⟨_,rfl⟩;rw[<-y] at t;rw[EO h, <-y,H6] at a;obtain⟨g1,O,P,R,ca,la,H⟩:=S;have z:=g.sl H (λx T=>by
    show x∈ _:: _:: _:: _::(L0++rows);simp[T]) m f t
   have S:a_ Q D G w0 p (s.1,ds) (L0++rows):=⟨g1,O,P,R,ca,la,H⟩;refine⟨⟨z.1,by omega,by omega⟩,aj.of f z.2 ⟨rfl,rfl,S.cI k0 j rfl (S.Ty f 5 0 λU S=>λA V=>⟨n - 1,by omega,m+1, _,?_,by omega,a,S.ext V⟩)⟩⟩;rw[ax (by omega) (by omega)];omega
  ·have h: ¬ m<l.length:=by simpa using cc
   rw[E5 (by omega)] at a;have a:ds=c:=a;subst a;refine⟨rfl,rfl,S.BZ k0 j rfl rfl λU S=>S.en λA S=>k (I,l.length,L) rows A ?_ g⟩;rw[List.set_append_left _ _ E] at S;exact S
theorem new (S:a_ Q D G w0 w s L0) (o:Int) {K:Option Ab×Int×Unit->A2->Prop}
 (f:(s.1.length:Int)<16*(s.2.length:Int)-> ∀a,a_ Q D G w0 a s L0->K (none,1,()) a)
 (g: ¬ (s.1.length:Int)<16*(s.2.length:Int)-> ¬ rj s o=0-> ∀a,a_ Q D G w0 a (iN s o λ_=>0) L0->K (none,rj s o,()) a)
 (i: ¬ (s.1.length:Int)<16*(s.2.length:Int)->rj s o=0-> ∀b a,a_ Q D G w0 a (iN s o λ_=>0) ((b,kF Q o (eA s o) false)::L0)->K (some ⟨b,0,none⟩,0,()) a):
 aD AC 164 (.bu [.one .ptr,.one (.int .i64)]) [ag (ae Q.bm),ag (ae Q.bp),aa o] w K:=by
 refine S.go λw1 S=>ai (C:=N0) (aT:=λ_=>[]) (Ae (UU _ _ o w1 K) ?_);have h1:=S.pos;have j:=S.FA;have k:=S.le;have c1:(((s.1.length:Nat):Int)==0)=false:=by grind
 have c2:(((s.2.length:Nat):Int)==0)=false:=by grind
 have h:ir .i64 16 ((s.2.length:Nat):Int)=16*(s.2.length:Int):=eo (by omega) (by omega);refine⟨_,S.aar, _,λ_=>S.Yg, _,λ_=>S.aar, _,λ_=>S.Yg,?_⟩;rw[c1,c2,h];refine ab (λc=>S.en λa S=>f (by simpa using c) a S) (λc=>S.al λb a S=>S.aa5 (r:=0) (gone:=false) 0 rfl λl S=>ab (λd=>S.en λe S=>?_) (λd=>⟨rfl,rfl,S.BZ 0 rfl rfl rfl λe S=>S.en (by grind)⟩));exact g (by simpa using c) (by simpa using d) e S.tail
end a_
end
set_option maxRecDepth 100000
open Go.RX
abbrev iI:List Sc:=[.int .u64,.int .i64]
abbrev RS:Type:=Int×Int×Unit
noncomputable def B0:dj AC:={N0 with quiet:=[]}
theorem Va (e:Int) (w:A2) (c:RS->A2->Prop):(bQ B0 (λ_=>[]) 75 [aa e] w c)=(
 aK w ⟨[ay 0,aa 0]⟩ 61 λb a=>aC a (ae b) [ay 0,aa e] λa=>ao a λw1=>aj w1 none (ae b) cK λ(x:Int×Int×Unit)=>c (x.1,x.2.1,()) w1):=by kernel_rfl
theorem Vb (e:Int) (w:A2):aE AC 75 (.el (.agg iI)) [aa e] w (λx w'=>x=(0,e,())/\Ext w w'):=by
 refine aQ (C:=B0) (aT:=λ_=>[]) (Ae (Va e w _) ?_);have H:=At.start [] w;exact aK.go H λb a H=>aC.all 0 H rfl rfl rfl λc H=>ao.go H λd H=>aj.at 0 H rfl (show _=some (0,e,()) from rfl) ⟨rfl,H.all⟩
noncomputable def aba:Entry AC where
 f:=75
 fn l:=match l with
  |[.int .i64 e]=>some (True,.agg ⟨[.int .u64 0,.int .i64 e]⟩)
  | _=>none
 ok args pre v h a w:=by
  split at h
  ·rename_i e;cases h;exact bW (Vb e w)
  ·cases h
noncomputable def V0:dj AC:={N0 with rX:=aba::N0.rX,quiet:=[53,19,165,21,179,174,76,77,176,25,62,117,56]}
noncomputable def V1:dj AC:={V0 with ZF:=some (.el (.agg iI))}
theorem Lh (p:Option Ab) (w:A2) (a:Bool->A2->Prop):(aN V0 (λ_=>[]) 53 [ag p] w a)=(
 ((!p.isNone)=true->p.isSome=true)/\((!p.isNone)=true->p.isSome=true)/\aj w (some !p.isNone) (ad p 0) kQ λx=>ao w (a (!p.isNone&& !x.isNone))):=by kernel_rfl
theorem Q4 (p:Option Ab) (v:Int) (w:A2) (a:Bool->A2->Prop):(aN V0 (λ_=>[]) 19 [ag p,aa v] w a)=(
 ∃x,ah AC 53 [ag p] w (.bool x)/\((x&&decide (v>=1)&&decide (v<=16))=true->p.isSome=true)/\((x&&decide (v>=1)&&decide (v<=16))=true->p.isSome=true)/\((x&&decide (v>=1)&&decide (v<=16))=true->(ad p 4).isSome=true/\0<=v/\v<(↑17:Int))/\aj w (some (x&&decide (v>=1)&&decide (v<=16))) (ad (ad p 4) (v.toNat*1)) kQ λb=>ao w (a (x&&decide (v>=1)&&decide (v<=16)&& !b.isNone))):=by kernel_rfl
theorem Li (p:Option Ab) (a:Int) (w:A2) (b:Bool->A2->Prop):(aN V0 (λ_=>[]) 165 [ag p,ay a] w b)=(
 ∃x,(decide (a<=16)=true->ah AC 19 [ag p,aa (aw .i64 a)] w (.bool x))/\ao w (b (decide (a<=16)&&x))):=by kernel_rfl
theorem Q5 (p:Option Ab) (v:Int) (w:A2) (a:Int->A2->Prop):(aN V0 (λ_=>[]) 21 [ag p,aa v] w a)=(
 ∃x,ah AC 19 [ag p,aa v] w (.bool x)/\aL (!x) (ao w (a (-1))) (p.isSome=true/\p.isSome=true/\((ad p 4).isSome=true/\0<=v/\v<(↑17:Int))/\fR w (ad (ad p 4) (v.toNat*1)) λx=>bN x 0 w λx=> ∃(b:Int),ah AC 56 [ag x] w (aa b)/\ao w (a b))):=by kernel_rfl
theorem Lj (p:Option Ab) (v g:Int) (w:A2) (a:Int×Int×Int×Unit->A2->Prop):(aN V0 (λ_=>[]) 81 [ag p,aa v,aa g] w a)=(
 ∃x,ah AC 53 [ag p] w (.bool x)/\aL (!x) (ao w (a (0,0,10,()))) (∃x,ah AC 19 [ag p,aa v] w (.bool x)/\aL (!x) (ao w (a (0,0,4,()))) (p.isSome=true/\p.isSome=true/\((ad p 4).isSome=true/\0<=v/\v<(↑17:Int))/\fR w (ad (ad p 4) (v.toNat*1)) λx=>bN x 0 w λx=>aD AC 139 (.bu [.one (.int .i64),.one (.int .i64),.one (.int .i64)]) [ag x,aa g] w λ(x:Int×Int×Int×Unit) b=>ao b (a (x.1,x.2.1,x.2.2.1,()))))):=by kernel_rfl
theorem Ll (p:Option Ab) (v g:Int) (w:A2) (d:Int×Bool×Unit->A2->Prop):(aN V0 (λ_=>[]) 174 [ag p,aa v,aa g] w d)=(
 ∃x,ah AC 19 [ag p,aa v] w (.bool x)/\aL (!x) (ao w (d (0,false,()))) (p.isSome=true/\p.isSome=true/\((ad p 4).isSome=true/\0<=v/\v<(↑17:Int))/\fR w (ad (ad p 4) (v.toNat*1)) λx=>uv x 1 w λx=> ∃(a:Int×Int×Unit), ∃(b:Bool),mg w x .i64 g (.agg ⟨[aa 0,aa 0]⟩) (.agg ⟨[aa a.1,aa a.2.1]⟩) b/\aK w ⟨[aa 0,aa 0]⟩ 263 λe c=>aC c (ae e) [aa a.1,aa a.2.1] λc=>true=true/\aU c (ad (ae e) 0) λx=>ao c (d (x,
 b,())))):=by kernel_rfl
theorem GK (p:Option Ab) (w:A2) (a:Option Ab->A2->Prop):(aN V0 (λ_=>[]) 18 [ag p] w a)=(
 ∃x,ah AC 53 [ag p] w (.bool x)/\aL (!x) (ao w (a none)) (bN p 1 w λx=>aD AC 54 (.el kQ) [ag x] w λx b=>ao b (a x))):=by kernel_rfl
theorem GL (p:Option Ab) (w:A2) (a:Option Ab->A2->Prop):(aN V0 (λ_=>[]) 23 [ag p] w a)=(
 ∃x,ah AC 53 [ag p] w (.bool x)/\aL (!x) (ao w (a none)) (bN p 0 w λx=>ao w (a x))):=by kernel_rfl
theorem Q6 (p:Option Ab) (f:Int) (w:A2) (d:Int->A2->Prop):(aN V0 (λ_=>[]) 43 [ag p,aa f] w d)=(
 ∃x,ah AC 53 [ag p] w (.bool x)/\aL (!x) (ao w (d 10)) (bN p 1 w λx=> ∃(a:(Int×Int×Int×Int×Unit)×Bool×Unit),ah AC 25 [ag x,aa f] w (.tuple {toList:=[.agg ⟨[aa a.1.1,aa a.1.2.1,aa a.1.2.2.1,aa a.1.2.2.2.1]⟩,.bool a.2.1]})/\aK w ⟨[aa 0,aa 0,aa 0,aa 0]⟩ 52 λb c=>aC c (ae b) [aa a.1.1,aa a.1.2.1,aa a.1.2.2.1,aa a.1.2.2.2.1] λc=>aL (!a.2.1) (ao c (d 2)) (true=true/\aU c (ad (ae
 b) 0) λx=>aL (x != 5) (ao c (d 6)) (bN p 1 c λx=>aD AC 79 (.el aV) [ag x,aa f] c λ(x:Int) c=>ao c (d x))))):=by kernel_rfl
theorem Ln (p:Option Ab) (v a:Int) (w:A2) (b:Int->A2->Prop):(aN V0 (λ_=>[]) 179 [ag p,aa v,ay a] w b)=(
 aL (decide (a<1)||decide (a>16)||aw .i64 a==v) (ao w (b 1)) (∃x,ah AC 165 [ag p,ay a] w (.bool x)/\aL (!x) (ao w (b 4)) (ao w (b 0)))):=by kernel_rfl
theorem Q7 (p:Option Ab) (v a t:Int) (w:A2) (d:Int×Int×Unit->A2->Prop):(aN V0 (λ_=>[]) 178 [ag p,aa v,ay a,aa t] w d)=(
 aL (decide (a>=1048576)) (ao w (d (0,2,()))) (bN p 0 w λx=> ∃(e:Int),ah AC 21 [ag p,aa v] w (aa e)/\(aD AC 223 (.el dO) [ag x,aa e,aa (aw .i64 (wD .u64 a 16)),aa t] w λ(x:Int×Int×Int×Int×Unit) c=>aK c ⟨[aa 0,aa 0,aa 0,aa 0]⟩ 48 λb c=>aC c (ae b) [aa x.1,aa x.2.1,aa x.2.2.1,aa x.2.2.2.1] λc=>true=true/\aU c (ad (ae b) 0) λx=>true=true/\aU c (ad (ae b) 3) λf=>ao
 c λw1=>d (aB .i64 (ir .i64 16 x) (aw .i64 (bH a 16)),f,()) w1)/\aK w ⟨[aa 0,aa 0,aa 0,aa 0]⟩ 48 λb c=>aD AC 223 (.el dO) [ag x,aa e,aa (aw .i64 (wD .u64 a 16)),aa t] c λ(x:Int×Int×Int×Int×Unit) c=>aC c (ae b) [aa x.1,aa x.2.1,aa x.2.2.1,aa x.2.2.2.1] λc=>true=true/\aU c (ad (ae b) 0) λx=>true=true/\aU c (ad (ae b) 3) λf=>ao c λw1=>d (aB .i64 (ir .i64 16 x) (aw .i64 (bH a 16)),
 f,()) w1)):=by kernel_rfl
def qU:Nat->aZ:=(λ|3=>[(3,Go.RX.El.one (Go.RX.Sc.int B1))]| _=>[])
theorem Lu (p:Option Ab) (w:A2) (c:Int->A2->Prop):(aN V0 qU 168 [ag p] w c)=(
 uv p 1 w λx=>RgP w x λb a=> ∃(I:Nat->Int×Unit->A2->Prop),(∃n, ∀w1,Ext a w1->I n (65536,()) w1)/\ ∀(n:Nat) (s:Int×Unit) (w1:A2),I n s w1->NxP w1 (ae b) (λa=>ao a (c s.1)) λ(k v:Ad) a=> ∃(x:Int), ∃(v:Ad),BB a (ae b) (aa x) v/\ ∀d,Ext a d-> ∃(e:Nat),e<n/\I e (kl s.1 x,()) d):=by kernel_rfl
def tT:Nat->aZ:=(λ_=>[])
theorem Q8 (p:Option Ab) (v g:Int) (w:A2) (d:Unit->A2->Prop):(aN V0 tT 167 [ag p,aa v,aa g] w d)=(
 p.isSome=true/\p.isSome=true/\((ad p 4).isSome=true/\0<=v/\v<(↑17:Int))/\fR w (ad (ad p 4) (v.toNat*1)) λx=>uv x 1 w λf=> ∃(c:Int×Int×Unit),jP w f .i64 g (.agg ⟨[aa 0,aa 0]⟩) (.agg ⟨[aa c.1,aa c.2.1]⟩)/\aK w ⟨[aa 0,aa 0]⟩ 263 λb a=>aC a (ae b) [aa c.1,aa c.2.1] λa=>uv x 1 a λh=> ∀w1,Ext a w1-> ∃(r:Nat), ∃(es:Array Av), ∃(e:Nat),h=some r/\bE w1 r es e/\zS w1 r .i64 g es e λa=>bN x 0 a λx=>aD
 AC 175 (.bu [.one (.int .i64),.one (.int .i64)]) [ag x,aa g] a λ(x:Int×Int×Unit) a=>bN p 1 a λx=>true=true/\aU a (ad (ae b) 1) λi=>aD AC 183 (.el aV) [ag x,aa i,aa (-1)] a λ(x:Int) a=>bN p 2 a λx=>true=true/\aU a (ad (ae b) 0) λj=>aD AC 182 (.el aV) [ag x,aa j,aa v] a λ(x:Int) a=>ao a (d ())):=by kernel_rfl
theorem Vc (n:Int) (w:A2) (c:Option Ab×Int×Unit->A2->Prop):(aN V0 (λ_=>[]) 40 [aa n] w c)=(
 aL (decide (n<4)||decide (n>4096)) (ao w (c (none,1,()))) (aK w {toList:=[ag none,ag none,ag none,ag none,ag none,ag none,ag none,ag none,ag none,ag none,ag none,ag none,ag none,ag none,ag none,ag none,ag none,ag none,ag none,ag none,ag none]} 115 λb a=>aD AC 33 (.bu [.one .ptr,.one (.int .i64)]) [aa (ir .i64 16 n)] a λ(x:Option Ab×Int×Unit) a=>true=true/\true=true/\aC a (ad
 (ae b) 0) [ag x.1] λa=>aD AC 72 (.bu [.one .ptr,.one (.int .i64)]) [aa n] a λ(x:Option Ab×Int×Unit) a=>true=true/\true=true/\aC a (ad (ae b) 1) [ag x.1] λa=>aD AC 73 (.bu [.one .ptr,.one (.int .i64)]) [aa 16] a λ(x:Option Ab×Int×Unit) a=>true=true/\true=true/\aC a (ad (ae b) 2) [ag x.1] λa=>aD AC 74 (.bu [.one .ptr,.one (.int .i64)]) [aa 4] a λ(x:Option Ab×Int×Unit) a=>true=true/\true=true/\aC a (ad (ae b) 3) [ag x.1] λ
 a=>ao a (c (some ⟨b,0,none⟩,0,())))):=by kernel_rfl
theorem Lv (w:A2) (u:Option Nat->A2->Prop):(aN V0 (λ_=>[]) 78 [] w u)=(
 ∀w1,Ext w w1-> ∀c,Ext (w1.alloc (Obj.map ⟨[]⟩ 0)) c-> ∃(r:Nat), ∃(es:Array Av), ∃(a:Nat),some w1.heap.size=some r/\bE c r es a/\gS c r .i64 1 (.func (.func 121) ⟨[]⟩ ⟨[]⟩) es a λb=> ∀d,Ext b d-> ∃(r:Nat), ∃(es:Array Av), ∃(a:Nat),some w1.heap.size=some r/\bE d r es a/\gS d r .i64 2 (.func (.func 122) ⟨[]⟩ ⟨[]⟩) es a λb=> ∀e,Ext b e-> ∃(r:Nat), ∃(es:Array Av), ∃(a:Nat),some w1.heap.size=some r/\bE e r es a/\gS e r .i64 17 (.func (.func
 123) ⟨[]⟩ ⟨[]⟩) es a λb=> ∀f,Ext b f-> ∃(r:Nat), ∃(es:Array Av), ∃(a:Nat),some w1.heap.size=some r/\bE f r es a/\gS f r .i64 3 (.func (.func 124) ⟨[]⟩ ⟨[]⟩) es a λb=> ∀g,Ext b g-> ∃(r:Nat), ∃(es:Array Av), ∃(a:Nat),some w1.heap.size=some r/\bE g r es a/\gS g r .i64 4 (.func (.func 125) ⟨[]⟩ ⟨[]⟩) es a λb=> ∀h,Ext b h-> ∃(r:Nat), ∃(es:Array Av), ∃(a:Nat),some w1.heap.size=some r/\bE h r es a/\gS h r .i64 5 (.func (.func 126) ⟨[]⟩
 ⟨[]⟩) es a λb=> ∀i,Ext b i-> ∃(r:Nat), ∃(es:Array Av), ∃(a:Nat),some w1.heap.size=some r/\bE i r es a/\gS i r .i64 6 (.func (.func 127) ⟨[]⟩ ⟨[]⟩) es a λb=> ∀j,Ext b j-> ∃(r:Nat), ∃(es:Array Av), ∃(a:Nat),some w1.heap.size=some r/\bE j r es a/\gS j r .i64 7 (.func (.func 128) ⟨[]⟩ ⟨[]⟩) es a λb=> ∀k,Ext b k-> ∃(r:Nat), ∃(es:Array Av), ∃(a:Nat),some w1.heap.size=some r/\bE k r es a/\gS k r .i64 8 (.func (.func 129) ⟨[]⟩ ⟨[]⟩) es
 a λb=> ∀l,Ext b l-> ∃(r:Nat), ∃(es:Array Av), ∃(a:Nat),some w1.heap.size=some r/\bE l r es a/\gS l r .i64 9 (.func (.func 130) ⟨[]⟩ ⟨[]⟩) es a λb=> ∀m,Ext b m-> ∃(r:Nat), ∃(es:Array Av), ∃(a:Nat),some w1.heap.size=some r/\bE m r es a/\gS m r .i64 10 (.func (.func 131) ⟨[]⟩ ⟨[]⟩) es a λb=> ∀n,Ext b n-> ∃(r:Nat), ∃(es:Array Av), ∃(a:Nat),some w1.heap.size=some r/\bE n r es a/\gS n r .i64 11 (.func (.func 132) ⟨[]⟩ ⟨[]⟩)
 es a λb=> ∀o,Ext b o-> ∃(r:Nat), ∃(es:Array Av), ∃(a:Nat),some w1.heap.size=some r/\bE o r es a/\gS o r .i64 12 (.func (.func 133) ⟨[]⟩ ⟨[]⟩) es a λb=> ∀p,Ext b p-> ∃(r:Nat), ∃(es:Array Av), ∃(a:Nat),some w1.heap.size=some r/\bE p r es a/\gS p r .i64 13 (.func (.func 134) ⟨[]⟩ ⟨[]⟩) es a λb=> ∀q,Ext b q-> ∃(r:Nat), ∃(es:Array Av), ∃(a:Nat),some w1.heap.size=some r/\bE q r es a/\gS q r .i64 14 (.func (.func 135) ⟨[]⟩
 ⟨[]⟩) es a λb=> ∀s,Ext b s-> ∃(r:Nat), ∃(es:Array Av), ∃(a:Nat),some w1.heap.size=some r/\bE s r es a/\gS s r .i64 15 (.func (.func 136) ⟨[]⟩ ⟨[]⟩) es a λb=> ∀t,Ext b t-> ∃(r:Nat), ∃(es:Array Av), ∃(a:Nat),some w1.heap.size=some r/\bE t r es a/\gS t r .i64 16 (.func (.func 137) ⟨[]⟩ ⟨[]⟩) es a λb=>ao b (u (some w1.heap.size))):=by kernel_rfl
def oa:Nat->aZ:=(λ|2=>[(7,Go.RX.El.one (Go.RX.Sc.int B1))]| _=>[])
theorem EG (p:Option Ab) (v k a b c:Int) (w:A2) (e:RS->A2->Prop):(bQ V0 oa 121 [ag p,aa v,.agg ⟨[aa k,ay a,ay b,ay c]⟩] w e)=(
 aK w ⟨[aa k,ay a,ay b,ay c]⟩ 31 λb d=>aK d ⟨[ay 0,aa 0]⟩ 61 λb d=> ∃(I:Nat->Int×Unit->A2->Prop),(∃n, ∀w1,Ext d w1->I n (1,()) w1)/\ ∀(n:Nat) (s:Int×Unit) (w1:A2),I n s w1->aL (decide (s.1<=16)) (p.isSome=true/\p.isSome=true/\((ad p 4).isSome=true/\0<=s.1/\s.1<(↑17:Int))/\fR w1 (ad (ad p 4) (B3 s.1*1)) λx=>aL (!x.isNone) (∀f,Ext w1 f-> ∃(g:Nat),g<n/\I g (aB .i64 s.1 1,()) f) (bN p 0 w1 λx=>bN p 1 w1 λh=>aD
 AC 164 (.bu [.one .ptr,.one (.int .i64)]) [ag x,ag h,aa s.1] w1 λ(x:Option Ab×Int×Unit) d=>aL (x.2.1==0) (∀w1,Ext d w1->aK (w1.alloc (Obj.map ⟨[]⟩ 0)) ⟨[ag x.1,.map (some w1.heap.size)]⟩ 121 λi d=>p.isSome=true/\p.isSome=true/\((ad p 4).isSome=true/\0<=s.1/\s.1<(↑17:Int))/\aC d (ad (ad p 4) (B3 s.1*1)) [ag (ae i)] λd=>aC d (ae b) [ay (aw .u64 s.1),aa x.2.1] λd=>ao d λw1=>aj w1 none (ae b) cK λ(x:Int×Int×Unit)=>e (x.1,x.2.1,
 ()) w1) (aC d (ae b) [ay (aw .u64 s.1),aa x.2.1] λd=>ao d λw1=>aj w1 none (ae b) cK λ(x:Int×Int×Unit)=>e (x.1,x.2.1,()) w1))) (True/\aC w1 (ae b) [ay 0,aa 3] λd=>ao d λw1=>aj w1 none (ae b) cK λ(x:Int×Int×Unit)=>e (x.1,x.2.1,()) w1)):=by kernel_rfl
def m6:Nat->aZ:=(λ|5=>[(34,Go.RX.El.one (Go.RX.Sc.int B1))]|12=>[]|19=>[(13,Go.RX.El.one (Go.RX.Sc.int B1)),(93,Go.RX.El.one (Go.RX.Sc.int B1))]| _=>[])
theorem CC (p:Option Ab) (v k a b c:Int) (w:A2) (l:RS->A2->Prop):(bQ V0 m6 122 [ag p,aa v,.agg ⟨[aa k,ay a,ay b,ay c]⟩] w l)=(
 aK w ⟨[aa k,ay a,ay b,ay c]⟩ 31 λb d=>aK d ⟨[ay 0,aa 0]⟩ 61 λi d=>true=true/\cB d (ad (ae b) 1) λx=> ∃r,ah AC 165 [ag p,ay x] d (.bool r)/\aL (!r) (True/\aC d (ae i) [ay 0,aa 4] λd=>ao d λw1=>aj w1 none (ae i) cK λ(x:Int×Int×Unit)=>l (x.1,x.2.1,()) w1) (true=true/\cB d (ad (ae b) 1) λx=>bN p 1 d λz=>aD AC 166 (.el iu) [ag z,aa (aw .i64 x)] d λm d=> ∃(I:Nat->
 Int×Unit->A2->Prop),(∃n, ∀w1,Ext d w1->I n (0,()) w1)/\ ∀(n:Nat) (s:Int×Unit) (w1:A2),I n s w1->aL (decide (s.1<(↑m.2.1:Int))) ((m.1.isSome=true/\0<=s.1/\s.1<(↑m.2.1:Int))/\aU w1 (ad m.1 (B3 s.1*1)) λx=>bN p 1 w1 λj=> ∃(e:(Int×Int×Int×Int×Unit)×Bool×Unit),ah AC 25 [ag j,aa x] w1 (.tuple {toList:=[.agg ⟨[aa e.1.1,aa e.1.2.1,aa e.1.2.2.1,aa e.1.2.2.2.1]⟩,.bool e.2.1]})/\aK w1 ⟨[aa 0,aa 0,aa 0,.int
 .i64 0]⟩ 52 λb d=>aC d (ae b) [aa e.1.1,aa e.1.2.1,aa e.1.2.2.1,aa e.1.2.2.2.1] λd=>true=true/\aU d (ad (ae b) 2) λx=>aL (decide (x>0)) (True/\aC d (ae i) [ay 0,aa 9] λd=>ao d λw1=>aj w1 none (ae i) cK λ(x:Int×Int×Unit)=>l (x.1,x.2.1,()) w1) (∀f,Ext d f-> ∃(g:Nat),g<n/\I g (aB .i64 s.1 1,()) f)) (p.isSome=true/\p.isSome=true/\((ad p 4).isSome=true/\0<=aw .i64 x/\aw .i64 x<(↑17:Int))/\aj w1 none (ad (ad p 4)
 ((aw .i64 x).toNat*1)) kQ λj=> ∃(I:Nat->Unit->A2->Prop),(∃n, ∀t,Ext w1 t->I n () t)/\ ∀(n:Nat) (s:Unit) (w1:A2),I n s w1->uv j 1 w1 λe=> ∃u,Tr w1 e u/\aL (decide ((↑u:Int)>0)) (aD AC 168 (.el aV) [ag j] w1 λ(q:Int) d=>aD AC 167 (.bu []) [ag p,aa (aw .i64 x),aa q] d λx d=> ∀f,Ext d f-> ∃(g:Nat),g<n/\I g () f) (bN p 2 w1 λq=>aD AC 169 (.el aV) [ag q,aa (aw .i64 x)] w1 λ(G:Int)
 d=>bN p 3 d λA=>aD AC 170 (.el aV) [ag A,aa (aw .i64 x)] d λ(H:Int) d=>bN j 0 d λB=>aD AC 171 (.el iu) [ag B] d λJ d=>bN p 1 d λC=>aD AC 166 (.el iu) [ag C,aa (aw .i64 x)] d λo d=> ∃(I:Nat->Int×Int×Unit->A2->Prop),(∃n, ∀w1,Ext d w1->I n (0,0,()) w1)/\ ∀(n:Nat) (s:Int×Int×Unit) (w1:A2),I n s w1->aL (decide (s.2.1<(↑o.2.1:Int))) ((o.1.isSome=true/\0<=s.2.1/\s.2.1<(↑o.2.1:Int))/\aU w1
 (ad o.1 (B3 s.2.1*1)) λy=>bN p 1 w1 λD=> ∃(h:(Int×Int×Int×Int×Unit)×Bool×Unit),ah AC 25 [ag D,aa y] w1 (.tuple {toList:=[.agg ⟨[aa h.1.1,aa h.1.2.1,aa h.1.2.2.1,aa h.1.2.2.2.1]⟩,.bool h.2.1]})/\aK w1 ⟨[aa 0,aa 0,aa 0,aa 0]⟩ 52 λb d=>aC d (ae b) [aa h.1.1,aa h.1.2.1,aa h.1.2.2.1,aa h.1.2.2.2.1] λd=>true=true/\aU d (ad (ae b) 0) λE=>aL (E==4) (bN p 1
 d λF=>aD AC 138 (.el aV) [ag F,aa y,aa 5,aa (aw .i64 x)] d λ(x:Int) d=> ∀f,Ext d f-> ∃(g:Nat),g<n/\I g (aB .i64 s.1 1,aB .i64 s.2.1 1,()) f) (∀f,Ext d f-> ∃(g:Nat),g<n/\I g (s.1,aB .i64 s.2.1 1,()) f)) (p.isSome=true/\p.isSome=true/\((ad p 4).isSome=true/\0<=aw .i64 x/\aw .i64 x<(↑17:Int))/\aC w1 (ad (ad p 4) ((aw .i64 x).toNat*1)) [ag none] λd=>aC d (ae i) [ay (aw .u64 s.1),aa 0] λd=>ao d λw1
 =>aj w1 none (ae i) cK λ(x:Int×Int×Unit)=>l (x.1,x.2.1,()) w1))))):=by kernel_rfl
def pK:Nat->aZ:=(λ|3=>[(7,Go.RX.El.one (Go.RX.Sc.int B1)),(14,Go.RX.El.one (Go.RX.Sc.int B1))]| _=>[])
theorem GM (p:Option Ab) (v k a b c:Int) (w:A2) (g:RS->A2->Prop):(bQ V0 pK 123 [ag p,aa v,.agg ⟨[aa k,ay a,ay b,ay c]⟩] w g)=(
 aK w ⟨[aa k,ay a,ay b,ay c]⟩ 31 λb d=>aK d ⟨[ay 0,aa 0]⟩ 61 λb d=>bN p 1 d λx=> ∃(h:Int),ah AC 62 [ag x] d (aa h)/\ ∃(I:Nat->Int×Int×Unit->A2->Prop),(∃n, ∀w1,Ext d w1->I n (0,0,()) w1)/\ ∀(n:Nat) (s:Int×Int×Unit) (w1:A2),I n s w1->aL (decide (s.2.1<h)) (aD AC 43 (.el aV) [ag p,aa s.2.1] w1 λ(x:Int) d=>aL (x==0) (∀e,Ext d e-> ∃(f:Nat),f<n/\I f (aB .i64 s.1 1,aB .i64 s.2.1 1,()) e)
 (∀e,Ext d e-> ∃(f:Nat),f<n/\I f (s.1,aB .i64 s.2.1 1,()) e)) (aC w1 (ae b) [ay (aw .u64 s.1),aa 0] λd=>ao d λw1=>aj w1 none (ae b) cK λ(x:Int×Int×Unit)=>g (x.1,x.2.1,()) w1)):=by kernel_rfl
def od:Nat->aZ:=(λ|13=>[(66,Go.RX.El.one (Go.RX.Sc.int B1))]| _=>[])
abbrev gu (a:RS->A2->Prop) (b:A2) (c:Nat):Prop:=
 ao b λw1=>aj w1 none (ae c) cK λ(x:Int×Int×Unit)=>a (x.1,x.2.1,()) w1
theorem EH (p:Option Ab) (v k a b c:Int) (w:A2) (f:RS->A2->Prop):(bQ V0 od 124 [ag p,aa v,.agg ⟨[aa k,ay a,ay b,ay c]⟩] w f)=(
 aK w ⟨[aa k,ay a,ay b,ay c]⟩ 31 λb d=>aK d ⟨[ay 0,aa 0]⟩ 61 λe d=>true=true/\cB d (ad (ae b) 1) λx=>aL (decide (x>=65536)) (True/\aC d (ae e) [ay 0,aa 2] λd=>gu f d e) (true=true/\cB d (ad (ae b) 2) λx=>((!decide (x<1))=true->true=true)/\aj d (some !decide (x<1)) (ad (ae b) 2) ou λ(l:Int)=>aL (decide (x<1)||decide (l>7)) (True/\aC d (ae e) [ay 0,aa 7] λd=>gu f d e) (bN p 1 d
 λx=>aD AC 172 (.bu [.one (.int .i64),.one (.int .i64)]) [ag x,aa 4,aa v] d λ(x:Int×Int×Unit) d=>aL (x.2.1 != 0) (True/\aC d (ae e) [ay 0,aa x.2.1] λd=>gu f d e) (p.isSome=true/\p.isSome=true/\((ad p 4).isSome=true/\0<=v/\v<(↑17:Int))/\fR d (ad (ad p 4) (v.toNat*1)) λm=>bN m 0 d λo=>true=true/\cB d (ad (ae b) 1) λq=>true=true/\cB d (ad (ae b) 2) λr=>aD AC 173 (.el aV) [ag o,aa (aw .i64 q),
 aa x.1,aa (aw .i64 r)] d λ(h:Int) d=>aL (h != 0) (bN p 1 d λg=>aD AC 79 (.el aV) [ag g,aa x.1] d λ(x:Int) d=>True/\aC d (ae e) [ay 0,aa h] λd=>gu f d e) (∃(I:Nat->Int×Unit->A2->Prop),(∃n, ∀w1,Ext d w1->I n (0,()) w1)/\ ∀(n:Nat) (s:Int×Unit) (w1:A2),I n s w1->aL (decide (s.1<16)) (bN p 0 w1 λg=>aD AC 38 (.el aV) [ag g,aa (aB .i64 (ir .i64 16 x.1) s.1),ay 0] w1 λ(x:Int) d=> ∀
 i,Ext d i-> ∃(j:Nat),j<n/\I j (aB .i64 s.1 1,()) i) (aC w1 (ae e) [ay (aw .u64 x.1),aa 0] λd=>gu f d e)))))):=by kernel_rfl
abbrev fw (a:RS->A2->Prop) (b:A2) (c:Nat):Prop:=
 ao b λw1=>aj w1 none (ae c) cK λ(x:Int×Int×Unit)=>a (x.1,x.2.1,()) w1
theorem CD (p:Option Ab) (v k a b c:Int) (w:A2) (g:RS->A2->Prop):(bQ V0 (λ_=>[]) 125 [ag p,aa v,.agg ⟨[aa k,ay a,ay b,ay c]⟩] w g)=(
 aK w ⟨[aa k,ay a,ay b,ay c]⟩ 31 λb d=>aK d ⟨[ay 0,aa 0]⟩ 61 λe d=>true=true/\cB d (ad (ae b) 1) λx=>aL (decide (x>=65536)) (True/\aC d (ae e) [ay 0,aa 2] λd=>fw g d e) (true=true/\cB d (ad (ae b) 1) λx=>aD AC 81 (.bu [.one (.int .i64),.one (.int .i64),.one (.int .i64)]) [ag p,aa v,aa (aw .i64 x)] d λ(h:Int×Int×Int×Unit) d=>aL (h.2.2.1 != 0) (True/\aC d (ae e) [ay 0,aa h.2.2.1]
 λd=>fw g d e) (∃(i:Int×Bool×Unit),ah AC 174 [ag p,aa v,aa (aw .i64 x)] d (.tuple ⟨[aa i.1,.bool i.2.1]⟩)/\aL i.2.1 (True/\aC d (ae e) [ay 0,aa 7] λd=>fw g d e) (bN p 1 d λj=> ∃(f:(Int×Int×Int×Int×Unit)×Bool×Unit),ah AC 25 [ag j,aa h.1] d (.tuple {toList:=[.agg ⟨[aa f.1.1,aa f.1.2.1,aa f.1.2.2.1,aa f.1.2.2.2.1]⟩,.bool f.2.1]})/\aK d ⟨[aa 0,aa 0,
 aa 0,aa 0]⟩ 52 λb d=>aC d (ae b) [aa f.1.1,aa f.1.2.1,aa f.1.2.2.1,aa f.1.2.2.2.1] λd=>true=true/\aU d (ad (ae b) 2) λl=>aL (decide (l>0)) (True/\aC d (ae e) [ay 0,aa 9] λd=>fw g d e) (p.isSome=true/\p.isSome=true/\((ad p 4).isSome=true/\0<=v/\v<(↑17:Int))/\fR d (ad (ad p 4) (v.toNat*1)) λm=>bN m 0 d λn=>aD AC 175 (.bu [.one (.int .i64),.one (.int .i64)]) [ag n,aa (aw .i64 x)] d λ(x
 :Int×Int×Unit) d=>bN p 1 d λx=>aD AC 138 (.el aV) [ag x,aa h.1,aa 5,aa v] d λ(x:Int) d=>aC d (ae e) [ay (aw .u64 h.1),aa 0] λd=>fw g d e))))):=by kernel_rfl
abbrev ka (a:RS->A2->Prop) (b:A2) (c:Nat):Prop:=
 ao b λw1=>aj w1 none (ae c) cK λ(x:Int×Int×Unit)=>a (x.1,x.2.1,()) w1
abbrev oe (p:Option Ab) (v:Int) (e:RS->A2->Prop) (a:A2) (c:Nat) (d:Nat):Prop:=
 p.isSome=true/\p.isSome=true/\((ad p 4).isSome=true/\0<=v/\v<(↑17:Int))/\fR a (ad (ad p 4) (v.toNat*1)) λx=>bN x 0 a λx=>true=true/\cB a (ad (ae c) 1) λf=>true=true/\cB a (ad (ae c) 2) λg=>aD AC 177 (.el aV) [ag x,aa (aw .i64 f),aa (aw .i64 g)] a λ(x:Int) b=>True/\aC b (ae d) [ay 0,aa x] λb=>ka e b d
abbrev og (b:RS->A2->Prop) (c:A2) (a:Nat):Prop:=
 True/\aC c (ae a) [ay 0,aa 7] λd=>ka b d a
theorem CF (p:Option Ab) (v k a b c:Int) (w:A2) (f:RS->A2->Prop):(bQ V0 (λ_=>[]) 126 [ag p,aa v,.agg ⟨[aa k,ay a,ay b,ay c]⟩] w f)=(
 aK w ⟨[aa k,ay a,ay b,ay c]⟩ 31 λb d=>aK d ⟨[ay 0,aa 0]⟩ 61 λg d=>true=true/\cB d (ad (ae b) 1) λx=>aL (decide (x>=65536)) (True/\aC d (ae g) [ay 0,aa 2] λd=>ka f d g) (true=true/\cB d (ad (ae b) 2) λx=>((!decide (x<1))=true->true=true)/\aj d (some !decide (x<1)) (ad (ae b) 2) ou λ(j:Int)=>aL (decide (x<1)||decide (j>7)) (og f d g) (true=true/\cB d (ad (ae b) 1) λx=> ∃(h:Int×Bool×
 Unit),ah AC 174 [ag p,aa v,aa (aw .i64 x)] d (.tuple ⟨[aa h.1,.bool h.2.1]⟩)/\(h.2.1=true->true=true)/\aj d (some h.2.1) (ad (ae b) 2) ou λ(x:Int)=>aL (h.2.1&&decide (wE .u64 x 2>0)) (bN p 2 d λx=> ∃(e:(Int×Int×Int×Bool×Int×Unit)×Bool×Unit),ah AC 176 [ag x,aa h.1] d (.tuple {toList:=[.agg ⟨[aa e.1.1,aa e.1.2.1,aa e.1.2.2.1,.bool e.1.2.2.2.1,aa e.1.2.2.2.2.1]⟩,.bool e.2.1]})/\aK d ⟨[aa 0,.int .i64
 0,aa 0,.bool false,aa 0]⟩ 255 λi d=>aC d (ae i) [aa e.1.1,aa e.1.2.1,aa e.1.2.2.1,.bool e.1.2.2.2.1,aa e.1.2.2.2.2.1] λd=>true=true/\uu d (ad (ae i) 3) λx=>aL (!x) (og f d g) (oe p v f d b g)) (oe p v f d b g)))):=by kernel_rfl
theorem Lx (p:Option Ab) (v k a b c:Int) (w:A2) (f:RS->A2->Prop):(bQ V0 (λ_=>[]) 127 [ag p,aa v,.agg ⟨[aa k,ay a,ay b,ay c]⟩] w f)=(
 aK w ⟨[aa k,ay a,ay b,ay c]⟩ 31 λb d=>aK d ⟨[ay 0,aa 0]⟩ 61 λe d=>true=true/\cB d (ad (ae b) 1) λx=>aD AC 178 (.bu [.one (.int .i64),.one (.int .i64)]) [ag p,aa v,ay x,aa 1] d λ(x:Int×Int×Unit) d=>aL (x.2.1 != 0) (True/\aC d (ae e) [ay 0,aa x.2.1] λd=>ao d λw1=>aj w1 none (ae e) cK λ(x:Int×Int×Unit)=>f (x.1,x.2.1,()) w1) (bN p 0 d λg=>aD AC 37 (.bu [.one (.int .u64),.one (.int
 .i64)]) [ag g,aa x.1] d λ(x:Int×Int×Unit) d=>aC d (ae e) [ay x.1,aa x.2.1] λd=>ao d λw1=>aj w1 none (ae e) cK λ(x:Int×Int×Unit)=>f (x.1,x.2.1,()) w1)):=by kernel_rfl
theorem GN (p:Option Ab) (v k a b c:Int) (w:A2) (f:RS->A2->Prop):(bQ V0 (λ_=>[]) 128 [ag p,aa v,.agg ⟨[aa k,ay a,ay b,ay c]⟩] w f)=(
 aK w ⟨[aa k,ay a,ay b,ay c]⟩ 31 λb d=>aK d ⟨[ay 0,aa 0]⟩ 61 λe d=>true=true/\cB d (ad (ae b) 1) λx=>aD AC 178 (.bu [.one (.int .i64),.one (.int .i64)]) [ag p,aa v,ay x,aa 2] d λ(x:Int×Int×Unit) d=>aL (x.2.1 != 0) (True/\aC d (ae e) [ay 0,aa x.2.1] λd=>ao d λw1=>aj w1 none (ae e) cK λ(x:Int×Int×Unit)=>f (x.1,x.2.1,()) w1) (bN p 0 d λg=>true=true/\cB d (ad (ae b) 2) λh=>aD
 AC 38 (.el aV) [ag g,aa x.1,ay h] d λ(x:Int) d=>True/\aC d (ae e) [ay 0,aa x] λd=>ao d λw1=>aj w1 none (ae e) cK λ(x:Int×Int×Unit)=>f (x.1,x.2.1,()) w1)):=by kernel_rfl
abbrev ik (a:RS->A2->Prop) (b:A2) (c:Nat):Prop:=
 ao b λw1=>aj w1 none (ae c) cK λ(x:Int×Int×Unit)=>a (x.1,x.2.1,()) w1
theorem GO (p:Option Ab) (v k a b c:Int) (w:A2) (f:RS->A2->Prop):(bQ V0 (λ_=>[]) 129 [ag p,aa v,.agg ⟨[aa k,ay a,ay b,ay c]⟩] w f)=(
 aK w ⟨[aa k,ay a,ay b,ay c]⟩ 31 λb d=>aK d ⟨[ay 0,aa 0]⟩ 61 λe d=>true=true/\cB d (ad (ae b) 2) λx=> ∃(g:Int),ah AC 179 [ag p,aa v,ay x] d (aa g)/\true=true/\cB d (ad (ae b) 1) λx=>aL (decide (x>=65536)) (True/\aC d (ae e) [ay 0,aa 2] λd=>ik f d e) (((!g==1)=true->true=true)/\aj d (some !g==1) (ad (ae b) 3) ou λ(x:Int)=>aL (g==1||decide (x>1)) (True/\aC d (ae e) [.int
 .u64 0,aa 1] λd=>ik f d e) (true=true/\cB d (ad (ae b) 1) λx=>aD AC 81 (.bu [.one (.int .i64),.one (.int .i64),.one (.int .i64)]) [ag p,aa v,aa (aw .i64 x)] d λ(x:Int×Int×Int×Unit) d=>aL (x.2.2.1 != 0||g != 0) (True/\aC d (ae e) [ay 0,aa 4] λd=>ik f d e) (true=true/\cB d (ad (ae b) 1) λx=> ∃(h:Int×Bool×Unit),ah AC 174 [ag p,aa v,aa (aw .i64 x)] d (.tuple ⟨[aa h.1,.bool h.2.1]⟩)/\
 aL h.2.1 (True/\aC d (ae e) [ay 0,aa 7] λd=>ik f d e) (bN p 2 d λx=>true=true/\cB d (ad (ae b) 1) λi=>true=true/\cB d (ad (ae b) 2) λj=>true=true/\cB d (ad (ae b) 3) λl=>aD AC 180 (.bu [.one (.int .i64),.one (.int .i64)]) [ag x,aa v,aa (aw .i64 i),aa (aw .i64 j),.bool (l==1)] d λ(x:Int×Int×Unit) d=>aC d (ae e) [ay (aw .u64 x.1),aa x.2.1] λd=>ik f d e))))):=by kernel_rfl
theorem Ly (p:Option Ab) (v k a b c:Int) (w:A2) (f:RS->A2->Prop):(bQ V0 (λ_=>[]) 130 [ag p,aa v,.agg ⟨[aa k,ay a,ay b,ay c]⟩] w f)=(
 aK w ⟨[aa k,ay a,ay b,ay c]⟩ 31 λb d=>aK d ⟨[ay 0,aa 0]⟩ 61 λe d=>true=true/\cB d (ad (ae b) 2) λx=>aL (decide (x>=65536)) (True/\aC d (ae e) [ay 0,aa 2] λd=>ao d λw1=>aj w1 none (ae e) cK λ(x:Int×Int×Unit)=>f (x.1,x.2.1,()) w1) (true=true/\cB d (ad (ae b) 1) λx=>((!decide (x>=16))=true->true=true)/\aj d (some !decide (x>=16)) (ad (ae b) 3) ou λ(A:Int)=>aL (decide (x>=16)||decide (A>1)) (True/\aC d (ae
 e) [ay 0,aa 1] λd=>ao d λw1=>aj w1 none (ae e) cK λ(x:Int×Int×Unit)=>f (x.1,x.2.1,()) w1) (true=true/\cB d (ad (ae b) 1) λx=>true=true/\cB d (ad (ae b) 2) λn=>true=true/\cB d (ad (ae b) 3) λj=>bN p 2 d λB=> ∃(g:(Int×Int×Int×Bool×Int×Unit)×Bool×Unit),ah AC 176 [ag B,aa (aw .i64 x)] d (.tuple {toList:=[.agg ⟨[aa g.1.1,aa g.1.2.1,aa g.1.2.2.1,.bool g.1.2.2.2.1,aa g.1.2.2.2.2.1]⟩,.bool
 g.2.1]})/\aK d ⟨[aa 0,aa 0,aa 0,.bool false,aa 0]⟩ 255 λb d=>aC d (ae b) [aa g.1.1,aa g.1.2.1,aa g.1.2.2.1,.bool g.1.2.2.2.1,aa g.1.2.2.2.2.1] λd=>aL (!g.2.1) (True/\aC d (ae e) [ay 0,aa 4] λd=>ao d λw1=>aj w1 none (ae e) cK λ(x:Int×Int×Unit)=>f (x.1,x.2.1,()) w1) (true=true/\aU d (ad (ae b) 2) λo=>((!o != v&&j==1)=true->true=true)/\aj d (some (!o != v&&j==1)) (ad (ae b) 3) oI λC=>aL
 (o != v||j==1&& !C) (True/\aC d (ae e) [ay 0,aa 7] λd=>ao d λw1=>aj w1 none (ae e) cK λ(x:Int×Int×Unit)=>f (x.1,x.2.1,()) w1) (true=true/\aU d (ad (ae b) 0) λD=>true=true/\aU d (ad (ae b) 1) λE=>aD AC 81 (.bu [.one (.int .i64),.one (.int .i64),.one (.int .i64)]) [ag p,aa D,aa E] d λ(h:Int×Int×Int×Unit) d=>aL (h.2.2.1 != 0) (True/\aC d (ae e) [ay 0,aa 4] λd=>ao d λw1=>aj w1 none (ae e) cK λ
 (x:Int×Int×Unit)=>f (x.1,x.2.1,()) w1) (true=true/\aU d (ad (ae b) 0) λF=>true=true/\aU d (ad (ae b) 1) λG=> ∃(q:Int×Bool×Unit),ah AC 174 [ag p,aa F,aa G] d (.tuple ⟨[aa q.1,.bool q.2.1]⟩)/\aL q.2.1 (True/\aC d (ae e) [ay 0,aa 7] λd=>ao d λw1=>aj w1 none (ae e) cK λ(x:Int×Int×Unit)=>f (x.1,x.2.1,()) w1) (bN p 2 d λH=>aD AC 181 (.el aV) [ag H,aa (aw .i64 x),aa v,
 .bool (j==1)] d λ(z:Int) d=>aL (z != 0) (True/\aC d (ae e) [ay 0,aa z] λd=>ao d λw1=>aj w1 none (ae e) cK λ(x:Int×Int×Unit)=>f (x.1,x.2.1,()) w1) (aL (j==1) (p.isSome=true/\p.isSome=true/\((ad p 4).isSome=true/\0<=v/\v<(↑17:Int))/\fR d (ad (ad p 4) (v.toNat*1)) λs=>bN s 0 d λt=>aD AC 173 (.el aV) [ag t,aa (aw .i64 n),aa h.1,aa (ZC .i64 1 2)] d λ(l:Int) d=>aL (l != 0) (bN p 2 d λi
 =>aD AC 182 (.el aV) [ag i,aa (aw .i64 x),aa v] d λ(x:Int) d=>True/\aC d (ae e) [ay 0,aa l] λd=>ao d λw1=>aj w1 none (ae e) cK λ(x:Int×Int×Unit)=>f (x.1,x.2.1,()) w1) (bN p 1 d λi=>aD AC 183 (.el aV) [ag i,aa h.1,aa 1] d λ(I:Int) d=>p.isSome=true/\p.isSome=true/\((ad p 4).isSome=true/\0<=v/\v<(↑17:Int))/\fR d (ad (ad p 4) (v.toNat*1)) λu=>uv u 1 d λy=> ∀w1,Ext d w1-> ∃(r
 :Nat), ∃(es:Array Av), ∃(m:Nat),y=some r/\bE w1 r es m/\gS w1 r .i64 (aw .i64 n) (.agg ⟨[aa (aw .i64 x),aa h.1]⟩) es m λd=>aC d (ae e) [ay 0,aa 0] λd=>ao d λw1=>aj w1 none (ae e) cK λ(x:Int×Int×Unit)=>f (x.1,x.2.1,()) w1)) (p.isSome=true/\p.isSome=true/\((ad p 4).isSome=true/\0<=v/\v<(↑17:Int))/\fR d (ad (ad p 4) (v.toNat*1)) λs=>bN s 0 d λt=>aD AC 173 (.el aV) [ag t,aa (aw .i64 n),
 aa h.1,aa 1] d λ(l:Int) d=>aL (l != 0) (bN p 2 d λi=>aD AC 182 (.el aV) [ag i,aa (aw .i64 x),aa v] d λ(x:Int) d=>True/\aC d (ae e) [ay 0,aa l] λd=>ao d λw1=>aj w1 none (ae e) cK λ(x:Int×Int×Unit)=>f (x.1,x.2.1,()) w1) (bN p 1 d λi=>aD AC 183 (.el aV) [ag i,aa h.1,aa 1] d λ(I:Int) d=>p.isSome=true/\p.isSome=true/\((ad p 4).isSome=true/\0<=v/\v<(↑17:Int))/\fR
 d (ad (ad p 4) (v.toNat*1)) λu=>uv u 1 d λy=> ∀w1,Ext d w1-> ∃(r:Nat), ∃(es:Array Av), ∃(m:Nat),y=some r/\bE w1 r es m/\gS w1 r .i64 (aw .i64 n) (.agg ⟨[aa (aw .i64 x),aa h.1]⟩) es m λd=>aC d (ae e) [ay 0,aa 0] λd=>ao d λw1=>aj w1 none (ae e) cK λ(x:Int×Int×Unit)=>f (x.1,x.2.1,()) w1)))))))))):=by kernel_rfl
abbrev nT (a:RS->A2->Prop) (b:A2) (c:Nat):Prop:=
 ao b λw1=>aj w1 none (ae c) cK λ(x:Int×Int×Unit)=>a (x.1,x.2.1,()) w1
theorem Lz (p:Option Ab) (v k a b c:Int) (w:A2) (f:RS->A2->Prop):(bQ V0 (λ_=>[]) 131 [ag p,aa v,.agg ⟨[aa k,ay a,ay b,ay c]⟩] w f)=(
 aK w ⟨[aa k,ay a,ay b,ay c]⟩ 31 λb d=>aK d ⟨[ay 0,aa 0]⟩ 61 λe d=>true=true/\cB d (ad (ae b) 1) λx=>aL (decide (x>=65536)) (True/\aC d (ae e) [ay 0,aa 2] λd=>nT f d e) (true=true/\cB d (ad (ae b) 1) λx=> ∃(g:Int×Bool×Unit),ah AC 174 [ag p,aa v,aa (aw .i64 x)] d (.tuple ⟨[aa g.1,.bool g.2.1]⟩)/\aL (!g.2.1) (True/\aC d (ae e) [ay 0,aa 4] λd=>nT f d e) (true=
 true/\cB d (ad (ae b) 1) λx=>aD AC 167 (.bu []) [ag p,aa v,aa (aw .i64 x)] d λx d=>aC d (ae e) [ay 0,aa 0] λd=>nT f d e))):=by kernel_rfl
theorem EI (p:Option Ab) (v k a b c:Int) (w:A2) (f:RS->A2->Prop):(bQ V0 (λ_=>[]) 132 [ag p,aa v,.agg ⟨[aa k,ay a,ay b,ay c]⟩] w f)=(
 aK w ⟨[aa k,ay a,ay b,ay c]⟩ 31 λb d=>aK d ⟨[ay 0,aa 0]⟩ 61 λe d=>true=true/\cB d (ad (ae b) 1) λx=>aL (decide (x>=16)) (True/\aC d (ae e) [ay 0,aa 1] λd=>ao d λw1=>aj w1 none (ae e) cK λ(x:Int×Int×Unit)=>f (x.1,x.2.1,()) w1) (bN p 2 d λx=>true=true/\cB d (ad (ae b) 1) λg=>aD AC 184 (.el aV) [ag x,aa (aw .i64 g),aa v] d λ(x:Int) d=>True/\aC d (ae e) [ay 0,aa x]
 λd=>ao d λw1=>aj w1 none (ae e) cK λ(x:Int×Int×Unit)=>f (x.1,x.2.1,()) w1)):=by kernel_rfl
theorem LA (p:Option Ab) (v k a b c:Int) (w:A2) (f:RS->A2->Prop):(bQ V0 (λ_=>[]) 133 [ag p,aa v,.agg ⟨[aa k,ay a,ay b,ay c]⟩] w f)=(
 aK w ⟨[aa k,ay a,ay b,ay c]⟩ 31 λb d=>aK d ⟨[ay 0,aa 0]⟩ 61 λe d=>true=true/\cB d (ad (ae b) 1) λx=> ∃(g:Int),ah AC 179 [ag p,aa v,ay x] d (aa g)/\aL (g != 0) (True/\aC d (ae e) [ay 0,aa g] λd=>ao d λw1=>aj w1 none (ae e) cK λ(x:Int×Int×Unit)=>f (x.1,x.2.1,()) w1) (bN p 3 d λx=>true=true/\cB d (ad (ae b) 1) λh=>aD AC 185 (.bu [.one (.int .i64),.one (.int .i64)])
 [ag x,aa v,aa (aw .i64 h)] d λ(x:Int×Int×Unit) d=>aC d (ae e) [ay (aw .u64 x.1),aa x.2.1] λd=>ao d λw1=>aj w1 none (ae e) cK λ(x:Int×Int×Unit)=>f (x.1,x.2.1,()) w1)):=by kernel_rfl
abbrev nU (a:RS->A2->Prop) (b:A2) (c:Nat):Prop:=
 ao b λw1=>aj w1 none (ae c) cK λ(x:Int×Int×Unit)=>a (x.1,x.2.1,()) w1
theorem LB (p:Option Ab) (v k a b c:Int) (w:A2) (g:RS->A2->Prop):(bQ V0 (λ_=>[]) 134 [ag p,aa v,.agg ⟨[aa k,ay a,ay b,ay c]⟩] w g)=(
 aK w ⟨[aa k,ay a,ay b,ay c]⟩ 31 λb d=>aK d ⟨[ay 0,aa 0]⟩ 61 λe d=>true=true/\cB d (ad (ae b) 1) λx=> ∃(f:Int),ah AC 179 [ag p,aa v,ay x] d (aa f)/\((!f==1)=true->true=true)/\aj d (some !f==1) (ad (ae b) 2) ou λ(x:Int)=>aL (f==1||decide (x>=4)) (True/\aC d (ae e) [ay 0,aa 1] λd=>nU g d e) (aL (f != 0) (True/\aC d (ae e) [ay 0,aa f] λd=>nU g d e)
 (bN p 3 d λx=>true=true/\cB d (ad (ae b) 1) λh=>true=true/\cB d (ad (ae b) 2) λi=>aD AC 186 (.bu [.one (.int .i64),.one (.int .i64)]) [ag x,aa v,aa (aw .i64 h),aa (aw .i64 i)] d λ(x:Int×Int×Unit) d=>aC d (ae e) [ay (aw .u64 x.1),aa x.2.1] λd=>nU g d e))):=by kernel_rfl
theorem LC (p:Option Ab) (v k a b c:Int) (w:A2) (f:RS->A2->Prop):(bQ V0 (λ_=>[]) 135 [ag p,aa v,.agg ⟨[aa k,ay a,ay b,ay c]⟩] w f)=(
 aK w ⟨[aa k,ay a,ay b,ay c]⟩ 31 λb d=>aK d ⟨[ay 0,aa 0]⟩ 61 λe d=>true=true/\cB d (ad (ae b) 1) λx=>aL (decide (x>=4)) (True/\aC d (ae e) [ay 0,aa 1] λd=>ao d λw1=>aj w1 none (ae e) cK λ(x:Int×Int×Unit)=>f (x.1,x.2.1,()) w1) (bN p 3 d λx=>true=true/\cB d (ad (ae b) 1) λg=>aD AC 187 (.el aV) [ag x,aa v,aa (aw .i64 g)] d λ(x:Int) d=>True/\aC d (ae e) [ay 0,aa x] λ
 d=>ao d λw1=>aj w1 none (ae e) cK λ(x:Int×Int×Unit)=>f (x.1,x.2.1,()) w1)):=by kernel_rfl
theorem LD (p:Option Ab) (v k a b c:Int) (w:A2) (e:RS->A2->Prop):(bQ V0 (λ_=>[]) 136 [ag p,aa v,.agg ⟨[aa k,ay a,ay b,ay c]⟩] w e)=(
 aK w ⟨[aa k,ay a,ay b,ay c]⟩ 31 λb d=>aK d ⟨[ay 0,aa 0]⟩ 61 λb d=>bN p 3 d λx=>aD AC 188 (.bu [.one (.int .i64),.one .bool]) [ag x,aa v] d λ(x:Int×Bool×Unit) d=>aL (!x.2.1) (aC d (ae b) [ay 0,aa 0] λd=>ao d λw1=>aj w1 none (ae b) cK λ(x:Int×Int×Unit)=>e (x.1,x.2.1,()) w1) (aC d (ae b) [ay (aw .u64 (aB .i64 x.1 1)),aa 0] λd=>ao d λw1=>aj w1 none (ae b) cK λ(x:Int×Int×Unit)=>e
 (x.1,x.2.1,()) w1)):=by kernel_rfl
theorem GP (p:Option Ab) (v k a b c:Int) (w:A2) (f:RS->A2->Prop):(bQ V0 (λ_=>[]) 137 [ag p,aa v,.agg ⟨[aa k,ay a,ay b,ay c]⟩] w f)=(
 aK w ⟨[aa k,ay a,ay b,ay c]⟩ 31 λb d=>aK d ⟨[ay 0,aa 0]⟩ 61 λe d=>true=true/\cB d (ad (ae b) 1) λx=>aL (decide (x>=4)) (True/\aC d (ae e) [ay 0,aa 1] λd=>ao d λw1=>aj w1 none (ae e) cK λ(x:Int×Int×Unit)=>f (x.1,x.2.1,()) w1) (bN p 3 d λx=>true=true/\cB d (ad (ae b) 1) λg=>aD AC 189 (.el aV) [ag x,aa v,aa (aw .i64 g)] d λ(x:Int) d=>True/\aC d (ae e) [ay 0,aa x] λ
 d=>ao d λw1=>aj w1 none (ae e) cK λ(x:Int×Int×Unit)=>f (x.1,x.2.1,()) w1)):=by kernel_rfl
abbrev kJ (a:RS->A2->Prop) (b:A2) (c:Nat):Prop:=
 ao b λw1=>aj w1 none (ae c) cK λ(x:Int×Int×Unit)=>a (x.1,x.2.1,()) w1
abbrev AX (d:RS->A2->Prop) (f:A2) (b:Nat) (e:Int×Int×Unit) (c:Nat):Prop:=
 aC f (ae b) [ay e.1,aa e.2.1] λa=>true=true/\aU a (ad (ae b) 1) λx=>aL (x != 0) (true=true/\aU a (ad (ae b) 1) λx=>True/\aC a (ae c) [ay 0,aa x] λa=>kJ d a c) (aj a none (ae b) cK λ(x:Int×Int×Unit)=>aC a (ae c) [ay x.1,aa x.2.1] λa=>kJ d a c)
abbrev AY (p:Option Ab) (v:Int) (b:RS->A2->Prop) (c:Ad) (a:Int×Int×Int×Int×Unit) (d:A2) (e:Nat) (f:Nat):Prop:=
 wR AC c (.el cK) [ag p,aa v,.agg ⟨[aa a.1,ay a.2.1,ay a.2.2.1,ay a.2.2.2.1]⟩] d λ(x:Int×Int×Unit) g=>AX b g e x f
theorem Zg (p:Option Ab) (v k a b c:Int) (w:A2) (f:RS->A2->Prop):(bQ V1 (λ_=>[]) 42 [ag p,aa v,.agg ⟨[aa k,ay a,ay b,ay c]⟩] w f)=(
 aK w ⟨[aa k,ay a,ay b,ay c]⟩ 31 λb d=>aK d ⟨[ay 0,aa 0]⟩ 61 λe d=> ∃x,ah AC 53 [ag p] d (.bool x)/\aL (!x) (True/\aC d (ae e) [ay 0,aa 10] λd=>kJ f d e) (aj d (some !(decide (v<0)||decide (v>16))) (ae b) wG λ(x:Int×Int×Int×Int×Unit)=> ∃j,((!(decide (v<0)||decide (v>16)))=true->ah AC 76 [.agg ⟨[aa x.1,ay x.2.1,ay x.2.2.1,ay x.2.2.2.1]⟩] d (.bool j))/\aL (decide (v<0)||decide (v>16)
 || !j) (True/\aC d (ae e) [ay 0,aa 1] λd=>kJ f d e) (true=true/\aU d (ad (ae b) 0) λx=> ∃l,ah AC 77 [aa x] d (.bool l)/\aL (!(v==0)==l) (True/\aC d (ae e) [ay 0,aa 7] λd=>kJ f d e) (∃x,(decide (v>0)=true->ah AC 19 [ag p,aa v] d (.bool x))/\aL (decide (v>0)&& !x) (True/\aC d (ae e) [ay 0,aa 4] λd=>kJ f d e) (true=true/\aU d (ad (ae b) 0) λx=>aj d none (ae b) wG λ(g:Int
 ×Int×Int×Int×Unit)=>(aD AC 78 (.el Ns) [] d λi d=>cP d (ae b) wG g/\cP d (ad (ae b) 0) aV x/\True/\ ∃(h:Ad),jP d i .i64 x HZ h/\(wR AC h (.el cK) [ag p,aa v,.agg ⟨[aa g.1,ay g.2.1,ay g.2.2.1,ay g.2.2.2.1]⟩] d λ(x:Int×Int×Unit) d=>aK d ⟨[ay 0,aa 0]⟩ 61 λb d=>AX f d b x e)/\aK d ⟨[ay 0,aa 0]⟩ 61 λb d=>AY p v f h g d b e)/\aK d ⟨[ay 0,aa 0]⟩ 61 λm
 d=>aD AC 78 (.el Ns) [] d λi d=>cP d (ae b) wG g/\cP d (ad (ae b) 0) aV x/\True/\ ∃(h:Ad),jP d i .i64 x HZ h/\AY p v f h g d m e))))):=by kernel_rfl
open Go.RX D
def px:Nat->Int->Int
 |0,p=>p
 |l+1,p=>px l p / 16
theorem Z1 {p:Int} (h:0<=p/\p<65536):px 4 p=0:=by simp only[px];omega
theorem nH (p:Int) (l:Nat):px l p=16*px (l+1) p+px l p % 16:=by simp only[px];omega
theorem eH (p:Int) (l:Nat):0<=px l p % 16/\px l p % 16<16:=by omega
theorem Zh {p:Int} (h:0<=p/\p<65536) {l:Nat} (a:l<=3):fl p (l:Int)=px l p % 16:=by
 unfold fl;rw[az (by omega)];congr 1;rcases l with _| _| _| _|l
 ·show p / 1=p;omega
 ·rfl
 ·show p / 256=p / 16 / 16;omega
 ·show p / 4096=p / 16 / 16 / 16;omega
 ·omega
theorem k8 {f p:Int} (b:0<=f/\f<4096) (h:0<=p/\p<65536) {l:Nat} (a:l<=3):dY f p (l:Int)=16*f+px l p % 16:=by
 unfold dY;rw[Zh h a,au (by omega)]
theorem oV:eY 0=zE:=by decide+kernel
theorem JO:dG zE=false:=by decide
theorem GQ (v:Int):bU (eY v).1 (eY v).2.1 (eY v).2.2.1 (eY v).2.2.2.1=true:=by
 unfold eY Hs Fc Jx ES;cases h:ua (B v).toNat with
 |false=>simp;decide
 |true=>
  unfold ua at h;simp only[Bool.and_eq_true] at h;simpa using h.2
theorem xh {p:Bool} {r:Int} {l:Bool} {f:Int} (h:bU p r l f=true):eY (Fb p r l f)=(p,r,l,f,()):=by
 have hb:=yH h;unfold Fb;rw[az h];obtain⟨h1,v,k,w,m⟩:=hb;obtain⟨r,rfl⟩:=HG h1;obtain⟨f,rfl⟩:=HG k;have key: ∀n:Nat,vn p (r:Int) l (f:Int)=(n:Int)->n<18446744073709551616->(n % 2==1)=p->n / 2 % 8=r->(n / 16 % 2==1)=l->n / 32 % 128=0->n / 4096 % 4096=f->n / 16777216 % 1099511627776=0->eY (vn p (r:Int) l (f:Int))=(p,(r:Int),l,(f:Int),()):=by
  intro n e x d g i o j q;have s:(B (vn p (r:Int) l (f:Int))).toNat=n:=by rw[e,HQ (by omega) (by omega)];omega
  have ok:ua n=true:=by
   unfold ua;rw[o,q,d,g,i,j,h];decide
  unfold eY Hs Fc Jx ES;rw[s,ok,d,g,i,j];simp
 cases p with
 |false=>
  obtain⟨a,b,c⟩:=m rfl;subst b;have t:r=0:=by omega
  have u:f=0:=by omega
  subst t;subst u;exact key 0 rfl (by decide) rfl rfl rfl rfl rfl rfl
 |true=>
  have y:nB l<=1:=NR l;refine key (1+2*r+16*nB l+4096*f) ?_ (by omega) ?_ (by omega) ?_ (by omega) (by omega) (by omega)
  ·unfold vn;have:nB true=1:=rfl;rw[this];omega
  ·have:(1+2*r+16*nB l+4096*f) % 2=1:=by omega
   rw[this];rfl
  ·have:(1+2*r+16*nB l+4096*f) / 16 % 2=nB l:=by omega
   rw[this];cases l<;>rfl
theorem lx (ws:List Int) (a:Int):bU (aM ws a).1 (aM ws a).2.1 (aM ws a).2.2.1 (aM ws a).2.2.2.1=true:=GQ _
theorem dE {f:Int} (h:0<=f/\f<4096):dG (cj f)=true:=by
 unfold dG cj fH bU;simp;omega
theorem GR {f:Int} (h:0<=f/\f<4096):bU true 0 false f=true:=by
 unfold bU;simp;omega
theorem Q9 {f:Int} (h:0<=f/\f<4096):eY (SO (cj f))=cj f:=xh (GR h)
theorem iZ {ws:List Int} {i:Int} (h:0<=i) (h':i<ws.length):ri ws i=true:=gF.2 ⟨h,h'⟩
theorem xi {ws:List Int} {a v:Int} (h:ri ws a=true):dJ (dK ws a v) a=v:=by
 have hi:=gF.1 h;have b:ri (dK ws a v) a=true:=gF.2 ⟨hi.1,by rw[cF];exact hi.2⟩;unfold dJ;rw[az b];unfold dK;rw[az h,CH,CP (by omega)];rfl
theorem mH {ws:List Int} {a b v:Int} (h:a≠b):dJ (dK ws a v) b=dJ ws b:=by
 have e:ri (dK ws a v) b=ri ws b:=by unfold ri;rw[cF]
 unfold dJ;rw[e];by_cases hb:ri ws b=true
 ·rw[az hb,az hb];unfold dK;split
  ·rename_i c;have h1:=gF.1 c;have d:=gF.1 hb;rw[CH,CH,BO (by omega)]
  ·rfl
 ·rw[au hb,au hb]
theorem sN {ws:List Int} {f:Int} {G:Int->Int} (a:0<=f) (c:16*f+16<=ws.length): ∀n:Nat,n<=16-> ∀b,dJ (eZ ws f G n) b=if 16*f<=b/\b<16*f+(n:Int) then G (b - 16*f) else dJ ws b
 |0, _,b=>by rw[au (by omega)];rfl
 |n+1,d,b=>by
  rw[eZ];by_cases e:16*f+(n:Int)=b
  ·subst e;rw[xi (iZ (by omega) (by rw[gH];omega)),az (by omega)];congr 1;omega
  ·rw[mH e,sN a c n (by omega) b];by_cases h:16*f<=b/\b<16*f+(n:Int)
   ·rw[az h,az (by omega)]
   ·rw[au h,au (by omega)]
theorem DX {ds:List DT} (h:0<cA ds 0): ∃i d,iA ds=some i/\i<ds.length/\ds[i]? =some d/\d.1=0:=by
 unfold cA at h;rw[List.countP_pos_iff] at h;obtain⟨a,c,h0⟩:=h;cases b:iA ds with
 |none=>
  unfold iA at b;rw[HB] at b;have:=b a c;rw[this] at h0;cases h0
 |some i=>
  unfold iA at b;rw[FS] at b;obtain⟨h1,e, _⟩:=b;exact⟨i,ds[i],rfl,h1,Bs h1,by simpa using e⟩
theorem AZ {o:Int} (h:1<=o/\o<=16):aP 3 o zD=((3,o,0,0,()),0):=by
 have e:gN 0 0 0 0 3 o=0:=by
  unfold gN;rw[au (by decide),au (by decide),az (by decide),au ?_];unfold dR jD;simp;omega
 unfold aP zD mF kV;dsimp only;rw[e];simp
theorem mW {ds:List DT} {o:Int} (h:0<cA ds 0) (f: ∀d∈ds,d.1=0->d=zD) (b:1<=o/\o<=16): ∃i:Nat,i<ds.length/\ds[i]? =some zD/\fc ds 3 o=(i:Int)/\dQ ds 3 o=0/\dB ds 3 o=ds.set i (3,o,0,0,()):=by
 obtain⟨i,d,h1,g,a,j⟩:=DX h;have k:d=zD:=f d (Bv a) j;subst k;have c:ds.getD i zD=zD:=by rw[CH,a];rfl
 have e:vd ds (i:Int) (aP 3 o)=0:=by
  rw[ym (by omega)];show(aP 3 o (ds.getD i zD)).2=0;rw[c,AZ b]
 have l:dF ds (i:Int) (aP 3 o)=ds.set i (3,o,0,0,()):=by
  rw[o_ (by omega)];show(if(aP 3 o (ds.getD i zD)).2=0 then ds.set i (aP 3 o (ds.getD i zD)).1 else ds)= _;rw[c,AZ b,az rfl]
 refine⟨i,g,a,?_,?_,?_⟩
 ·unfold fc;rw[h1];dsimp only;rw[az e]
 ·unfold dQ;rw[au (by omega),h1];exact e
 ·unfold dB;rw[h1];exact l
theorem ky {ds:List DT} {i:Nat} {d d':DT} (h:ds[i]? =some d) (v:Int):cA (ds.set i d') v+(if d.1=v then 1 else 0)=cA ds v+(if d'.1=v then 1 else 0):=by
 have hi:i<ds.length:=(B5.1 h).1;have a:ds=ds.take i++d::ds.drop (i+1):=by
  have:=(H4 i ds).symm;rw[EO hi,(B5.1 h).2] at this;exact this
 have b:ds.set i d'=ds.take i++d'::ds.drop (i+1):=by rw[List.set_eq_take_append_cons_drop,az hi]
 unfold cA;rw[b]
 conv=>rhs;rw[a]
 simp only[List.countP_append,List.countP_cons];by_cases h1:d.1=v<;>by_cases c:d'.1=v<;>simp[h1,c]<;>omega
theorem DY {o:Int} (h:1<=o/\o<=16):aP 5 0 (3,o,0,0,())=((5,o,0,0,()),0):=by
 have a:dR 3 o 0 0=true:=by unfold dR jD;simp;omega
 have b:dR 5 o 0 0=true:=by unfold dR jD;simp;omega
 have e:gN 3 o 0 0 5 0=0:=by
  unfold gN;rw[a,au (by decide),au (by decide),az (by decide),az rfl,b,au (by decide)]
 unfold aP mF kV;dsimp only;rw[e];simp
abbrev Gh:Type:=Int->Option (Int×Nat×Int)
def mB (g:Gh) (f:Int) (v:Option (Int×Nat×Int)):Gh:=λx=>if x=f then v else g x
theorem bJ (g:Gh) (f:Int) (v:Option (Int×Nat×Int)):mB g f v f=v:=az rfl
theorem aX {g:Gh} {f x:Int} (h:x≠f) (v:Option (Int×Nat×Int)):mB g f v x=g x:=au h
def lf (l:Nat) (e:ET):Prop:=e.1=true->dG e=false->(l=0/\e.2.2.1=false)\/(l=1/\e.2.2.1=true/\e.2.2.2.1 % 16=0)
theorem Du (l:Nat):lf l zE:=λh=>by cases h
theorem abb (l:Nat) {e:ET} (h:dG e=true):lf l e:=λh'=>by grind
structure Inv (g:Gh) (s:WD):Prop where
 len:16*s.2.length<=s.1.length
 le:s.2.length<=4096
 fz: ∀d∈s.2,d.1=0->d=zD
 kd: ∀{f o l x},g f=some (o,l,x)->0<=f/\f<s.2.length/\s.2[f.toNat]? =some (3,o,0,0,())/\1<=o/\o<=16/\l<=3
 inj: ∀{f f' v},g f=some v->g f'=some v->f=f'
 rX: ∀{f o l x i},g f=some (o,l,x)->0<=i->i<16->dG (aM s.1 (16*f+i))=true-> ∃m,l=m+1/\g (aM s.1 (16*f+i)).2.2.2.1=some (o,m,16*x+i)
 leaf: ∀{f o l x i},g f=some (o,l,x)->0<=i->i<16->lf l (aM s.1 (16*f+i))
 EV: ∀{f o l x},g f=some (o,l,x)->l<3-> ∃f',g f'=some (o,l+1,x / 16)/\aM s.1 (16*f'+x % 16)=cj f
 wf: ∀{f o l x i},g f=some (o,l,x)->0<=i->i<16->(aM s.1 (16*f+i)).1=false->dJ s.1 (16*f+i)=0
 tb: ∀{n:Nat} {d},s.2[n]? =some d->d.1=3-> ∃v,g (n:Int)=some v
def dC (g:Gh) (s:WD) (o p f:Int) (j:Nat):Prop:=g f=some (o,j,px (j+1) p)/\dG (aM s.1 (16*f+px j p % 16))=false
theorem fW {ws:List Int} {a v b:Int} (h:a≠b):aM (dK ws a v) b=aM ws b:=by grind[aM,mH]
theorem yL {ws:List Int} {a v:Int} (h:ri ws a=true):aM (dK ws a v) a=eY v:=by grind[aM,xi]
namespace Inv
variable {g:Gh} {s:WD}
theorem vf (I:Inv g s) {f o:Int} {l:Nat} {x:Int} (h:g f=some (o,l,x)):0<=f/\f<4096/\16*f+16<=s.1.length:=by
 have:=I.kd h;have:=I.len;have:=I.le;omega
theorem reach (I:Inv g s) {o r p:Int} (c:g r=some (o,3,0)) (b:0<=p/\p<65536): ∀(n:Nat) {f:Int} {j:Nat},j+n=3->g f=some (o,j,px (j+1) p)-> ∃a,dg s.1 p 3 r=a++dg s.1 p j f
 |0,f,j,d,h=>by
  have:j=3:=by omega
  subst this;rw[Z1 b] at h;rw[I.inj h c];simp
 |n+1,f,j,d,h=>by
  obtain⟨f',h1,i⟩:=I.EV h (by omega);have k:=h1;obtain⟨a,u⟩:=I.reach c b n (by omega) k;obtain⟨l,m, _⟩:=I.vf h1;refine⟨a++[(f',(j+1:Int),dY f' p (j+1:Nat),())],?_⟩;have q:j+1<=3:=by omega
  have e:dg s.1 p (j+1) f'=(f',(j+1:Int),dY f' p (j+1:Nat),())::dg s.1 p j f:=by
   rw[dg];have t:aM s.1 (dY f' p (j+1:Nat))=cj f:=by rw[k8 ⟨l,m⟩ b q];exact i
   obtain⟨c1,c2, _⟩:=I.vf h;rw[t,az (dE ⟨c1,c2⟩)];rfl
  grind
theorem abZ {ws:List Int} {p f:Int} {j:Nat} (h:dG (aM ws (dY f p (j:Int)))=false):dg ws p j f=[(f,(j:Int),dY f p (j:Int),())]:=by
 cases j with
 |zero=>rfl
 |succ=>rw[dg,au (by grind)]
theorem nI (I:Inv g s) {o r p:Int} (e:g r=some (o,3,0)) (b:0<=p/\p<65536) {f:Int} {j:Nat} (h:dC g s o p f j):
 dz s.1 r p=(f,(j:Int),16*f+px j p % 16,())/\cZ s.1 r p=aM s.1 (16*f+px j p % 16):=by
 have i:=I.kd h.1;obtain⟨k,l, _⟩:=I.vf h.1;obtain⟨a,m⟩:=I.reach e b (3 - j) (by omega) h.1;have c:=k8 ⟨k,l⟩ b i.2.2.2.2.2;have d:dz s.1 r p=(f,(j:Int),16*f+px j p % 16,()):=by
  unfold dz;rw[m,abZ (by rw[c];exact h.2),c,List.getLastD_concat]
 exact⟨d,by unfold cZ;rw[d]⟩
theorem OJ (I:Inv g s) {o p:Int}: ∀(l:Nat) {f:Int},g f=some (o,l,px (l+1) p)-> ∃f' j,j<=l/\dC g s o p f' j
 |l,f,h=>by
  cases a:dG _ with
  |false=>exact⟨f,l,by simp,h,a⟩
  |true=>
   obtain⟨m,rfl,b⟩:=I.rX h (eH p l).1 (eH p l).2 a;rw[<-nH] at b;obtain:=I.OJ m b
   grind
theorem mn (I:Inv g s) {o r p:Int} (a:g r=some (o,3,0)) (b:0<=p/\p<65536): ∃f j,j<=3/\dC g s o p f j:=I.OJ 3 (by rw[Z1 b];exact a)
theorem grow (I:Inv g s) {f o x i:Int} {m:Nat} (r:g f=some (o,m+1,x)) (Hu:0<=i) (zK:i<16) (l:dG (aM s.1 (16*f+i))=false) (hc:0<cA s.2 0) (G:Int->Int)
 (J: ∀k,0<=k->k<16->dG (eY (G k))=false/\lf m (eY (G k))/\((eY (G k)).1=false->G k=0)):
 rj s o=0/\g (eA s o)=none/\0<=eA s o/\eA s o<s.2.length/\(dP (iN s o G) (16*f+i) (cj (eA s o))).2=s.2.set (eA s o).toNat (3,o,0,0,())/\s.2[(eA s o).toNat]? =some zD/\
 (∀b,b≠16*f+i->(b<16*eA s o\/16*eA s o+16<=b)->aM (dP (iN s o G) (16*f+i) (cj (eA s o))).1 b=aM s.1 b)/\
 (∀k,0<=k->k<16->aM (dP (iN s o G) (16*f+i) (cj (eA s o))).1 (16*eA s o+k)=eY (G k))/\
 aM (dP (iN s o G) (16*f+i) (cj (eA s o))).1 (16*f+i)=cj (eA s o)/\
 Inv (mB g (eA s o) (some (o,m,16*x+i))) (dP (iN s o G) (16*f+i) (cj (eA s o))):=by
 have B:=I.kd r;obtain⟨n,T,M,j,C,N⟩:=mW hc I.fz ⟨B.2.2.2.1,B.2.2.2.2.1⟩;have O:eA s o=(n:Int):=j;have P:rj s o=0:=C;have U:=I.len;have V:=I.le;have X:16*(n:Int)+16<=s.1.length:=by omega
 obtain⟨W,D⟩: ∃W,W=eZ s.1 (n:Int) G 16:=⟨_,rfl⟩;have Q:W.length=s.1.length:=by rw[D,gH]
 have Y: ∀b,dJ W b=if 16*(n:Int)<=b/\b<16*(n:Int)+16 then G (b - 16*(n:Int)) else dJ s.1 b:=λb=>by
  rw[D];exact sN (by omega) X 16 (BL _) b
 have Z:iN s o G=(W,s.2.set n (3,o,0,0,())):=by unfold iN;rw[az P,O,N,D]
 clear D;have im:=I.vf r;have gn:g (n:Int)=none:=by
  cases hg:g (n:Int) with
  |none=>rfl
  |some v=>
   obtain⟨a,b,c⟩:=v;have:=(I.kd hg).2.2.1;rw[show((n:Int)).toNat=n from rfl,M] at this;cases this
 have E: ∀{f':Int} {v},g f'=some v->f'≠(n:Int):=λh e=>by rw[e,gn] at h;cases h
 have q_:f≠(n:Int):=E r;rw[Z,O];have Xv:ri (W) (16*f+i)=true:=iZ (by omega) (by rw[Q];omega);have K: ∀b,b≠16*f+i->dJ (dK (W) (16*f+i) (SO (cj (n:Int)))) b=if 16*(n:Int)<=b/\b<16*(n:Int)+16 then G (b - 16*(n:Int)) else dJ s.1 b:=λb hb=>by
  rw[mH (λe=>hb e.symm),Y b]
 have w0: ∀b,b≠16*f+i->aM (dK (W) (16*f+i) (SO (cj (n:Int)))) b=if 16*(n:Int)<=b/\b<16*(n:Int)+16 then eY (G (b - 16*(n:Int))) else aM s.1 b:=λb hb=>by
  unfold aM;rw[K b hb];split<;>rfl
 have w1: ∀b,b≠16*f+i->(b<16*(n:Int)\/16*(n:Int)+16<=b)->aM (dP (W,s.2.set n (3,o,0,0,())) (16*f+i) (cj (n:Int))).1 b=aM s.1 b:=λb hb h=>by
  show aM (dK _ _ _) b= _;rw[w0 b hb,au (by omega)]
 have F: ∀k,0<=k->k<16->aM (dP (W,s.2.set n (3,o,0,0,())) (16*f+i) (cj (n:Int))).1 (16*(n:Int)+k)=eY (G k):=λk h0 h1=>by
  show aM (dK _ _ _) _= _;rw[w0 _ (by omega),az (by omega)];congr 2;omega
 have y:aM (dP (W,s.2.set n (3,o,0,0,())) (16*f+i) (cj (n:Int))).1 (16*f+i)=cj (n:Int):=by
  show aM (dK _ _ _) _= _;rw[yL Xv,Q9 (by omega)]
 refine⟨P,gn,by omega,by omega,rfl,by rw[show((n:Int)).toNat=n from rfl];exact M,w1,F,y,?_⟩;have fa: ∀{f0 t p k:Int} {u:Nat},g f0=some (t,u,p)->0<=k->k<16->(16*f0+k=16*f+i/\f0=f/\k=i)\/aM (dP (W,s.2.set n (3,o,0,0,())) (16*f+i) (cj (n:Int))).1 (16*f0+k)=aM s.1 (16*f0+k):=λ{f0 t p k u} h h0 h1=>by
  by_cases e:16*f0+k=16*f+i
  ·exact .inl ⟨e,by omega,by omega⟩
  ·have:=E h;exact .inr (w1 _ e (by omega))
 refine⟨?_,?_,?_,?_,?_,?_,?_,?_,?_,?_⟩
 ·show 16*(s.2.set n _).length<=(dK W _ _).length;rw[cF,Q,B4];exact U
 ·show(s.2.set n _).length<=4096;rw[B4];exact V
 ·intro d L h0;rcases Db L with L|rfl
  ·exact I.fz d L h0
  ·cases h0
 ·intro f0 t u p h;show _/\ _<((s.2.set n (3,o,0,0,())).length:Int)/\(s.2.set n (3,o,0,0,()))[f0.toNat]? = _/\ _;rw[B4];by_cases e:f0=(n:Int)
  ·subst e;rw[bJ] at h;cases h;refine⟨by omega,by omega,?_,B.2.2.2.1,B.2.2.2.2.1,by omega⟩;rw[show((n:Int)).toNat=n from rfl,CP T]
  ·rw[aX e] at h;obtain⟨a1,a2,a3,a4⟩:=I.kd h;refine⟨a1,a2,?_,a4⟩;rw[BO (by omega)];exact a3
 ·intro a b v w hb;by_cases e:a=(n:Int)<;>by_cases e':b=(n:Int)
  ·rw[e,e']
  ·subst e;rw[bJ] at w;rw[aX e'] at hb;cases w;exfalso;obtain⟨f',p1,p2⟩:=I.EV hb (by omega);have z:(16*x+i) / 16=x:=by omega
   have A:(16*x+i) % 16=i:=by omega
   rw[z] at p1;rw[A] at p2;rw[I.inj p1 r, ] at p2;rw[p2] at l;obtain⟨c1,c2, _⟩:=I.vf hb;rw[dE ⟨c1,c2⟩] at l;cases l
  ·subst e';rw[bJ] at hb;rw[aX e] at w;cases hb;exfalso;obtain⟨f',p1,p2⟩:=I.EV w (by omega);have z:(16*x+i) / 16=x:=by omega
   have A:(16*x+i) % 16=i:=by omega
   rw[z] at p1;rw[A] at p2;rw[I.inj p1 r, ] at p2;rw[p2] at l;obtain⟨c1,c2, _⟩:=I.vf w;rw[dE ⟨c1,c2⟩] at l;cases l
  ·rw[aX e] at w;rw[aX e'] at hb;exact I.inj w hb
 ·intro f0 t u p k h h0 h1 H;by_cases e:f0=(n:Int)
  ·subst e;rw[F k h0 h1,(J k h0 h1).1] at H;cases H
  ·rw[aX e] at h;rcases fa h h0 h1 with ⟨j,rfl,rfl⟩|j
   ·rw[j,y];rw[r] at h;cases h;exact⟨m,rfl,bJ _ _ _⟩
   ·rw[j] at H ⊢;obtain⟨m',q1,R⟩:=I.rX h h0 h1 H;exact⟨m',q1,by rw[aX (E R)];exact R⟩
 ·intro f0 t u p k h h0 h1;by_cases e:f0=(n:Int)
  ·subst e;rw[bJ] at h;cases h;rw[F k h0 h1];exact(J k h0 h1).2.1
  ·rw[aX e] at h;rcases fa h h0 h1 with ⟨j,rfl,rfl⟩|j
   ·rw[j,y];exact abb _ (dE (by omega))
   ·rw[j];exact I.leaf h h0 h1
 ·intro f0 t u p h hl;by_cases e:f0=(n:Int)
  ·subst e;rw[bJ] at h;cases h;have z:(16*x+i) / 16=x:=by omega
   have A:(16*x+i) % 16=i:=by omega
   exact⟨f,by rw[aX q_,z];exact r,by rw[A];exact y⟩
  ·rw[aX e] at h;obtain⟨f',p1,p2⟩:=I.EV h hl;refine⟨f',by rw[aX (E p1)];exact p1,?_⟩;rcases fa p1 (by omega:0<=p % 16) (by omega) with ⟨j,rfl,N⟩|j
   ·exfalso;rw[j] at p2;rw[p2] at l;obtain⟨c1,c2, _⟩:=I.vf h;rw[dE ⟨c1,c2⟩] at l;cases l
   ·rw[j];exact p2
 ·intro f0 t u p k h h0 h1 q;by_cases e:f0=(n:Int)
  ·subst e;rw[F k h0 h1] at q;show dJ (dK _ _ _) _=0;rw[K _ (by omega),az (by omega),show 16*(n:Int)+k - 16*(n:Int)=k from by omega];exact(J k h0 h1).2.2 q
  ·rw[aX e] at h;rcases fa h h0 h1 with ⟨j,rfl,rfl⟩|j
   ·rw[j,y] at q;cases q
   ·rw[j] at q;have hb:16*f0+k≠16*f+i:=λC=>by
     rw[C,y] at j;rw[C, <-j] at q;cases q
    show dJ (dK _ _ _) _=0;rw[K _ hb,au (by omega)];exact I.wf h h0 h1 q
 ·intro S d uh h3;by_cases e:S=n
  ·subst e;exact⟨_,bJ _ _ _⟩
  ·have h':(s.2.set n (3,o,0,0,()))[S]? =some d:=uh;rw[BO (by omega)] at h';obtain⟨v,hv⟩:=I.tb h' h3;exact⟨v,by rw[aX (by omega)];exact hv⟩
theorem Vd (I:Inv g s) {f o x i v:Int} {l:Nat} (t:g f=some (o,l,x)) (z:0<=i) (A:i<16) (d:dG (aM s.1 (16*f+i))=false) (hv:dG (eY v)=false) (q:lf l (eY v)) (u:(eY v).1=false->v=0):
 aM (dK s.1 (16*f+i) v) (16*f+i)=eY v/\Inv g (dK s.1 (16*f+i) v,s.2):=by
 have B:=I.vf t;have r:ri s.1 (16*f+i)=true:=iZ (by omega) (by omega);have j:=yL (v:=v) r;have fa: ∀{f0 k:Int},0<=k->k<16->(16*f0+k=16*f+i/\f0=f/\k=i)\/aM (dK s.1 (16*f+i) v) (16*f0+k)=aM s.1 (16*f0+k):=λ{f0 k} h0 h1=>by
  by_cases e:16*f0+k=16*f+i
  grind
  ·exact .inr (fW (λe'=>e e'.symm))
 refine⟨j,by rw[cF];exact I.len,I.le,I.fz,I.kd,I.inj,?_,?_,?_,?_,I.tb⟩
 ·intro f0 m n b k h h0 h1 p;rcases fa (f0:=f0) h0 h1 with ⟨a,rfl,rfl⟩|a
  ·rw[j,hv] at p;cases p
  ·have w:dG (aM s.1 (16*f0+k))=true:=by rw[<-a];exact p
   rw[a];exact I.rX h h0 h1 w
 ·intro f0 m n b k h h0 h1;rcases fa (f0:=f0) h0 h1 with ⟨a,rfl,rfl⟩|a
  grind
  ·rw[a];exact I.leaf h h0 h1
 ·intro f0 m n b h q;obtain⟨f',p1,p2⟩:=I.EV h q;refine⟨f',p1,?_⟩;rcases fa (f0:=f') (by omega:0<=b % 16) (by omega) with ⟨a,rfl,C⟩|a
  ·exfalso;rw[a] at p2;rw[p2] at d;obtain⟨c1,c2, _⟩:=I.vf h;rw[dE ⟨c1,c2⟩] at d;cases d
  ·rw[a];exact p2
 ·intro f0 m n b k h h0 h1 y;have c:=y;by_cases e:16*f0+k=16*f+i
  ·rw[e,j] at c;rw[e,xi r];exact u c
  ·rw[fW (λe'=>e e'.symm)] at c;rw[mH (λe'=>e e'.symm)];exact I.wf h h0 h1 c
theorem abc (I:Inv g s) {f o x i f2:Int} {m:Nat} (u:g f=some (o,m+1,x)) (W:0<=i) (X:i<16) (B:g f2=some (o,m,16*x+i)) (K:aM s.1 (16*f+i)=cj f2) (L: ∀k,0<=k->k<16->aM s.1 (16*f2+k)=zE):
 aM (dK s.1 (16*f+i) 0) (16*f+i)=zE/\dF s.2 f2 (aP 5 0)=s.2.set f2.toNat (5,o,0,0,())/\Inv (mB g f2 none) (dK s.1 (16*f+i) 0,dF s.2 f2 (aP 5 0)):=by
 have Y:=I.vf u;have C:=I.kd u;have w:=I.kd B;have D:ri s.1 (16*f+i)=true:=iZ (by omega) (by omega);have q:aM (dK s.1 (16*f+i) 0) (16*f+i)=zE:=by rw[yL D];exact oV
 have E:dF s.2 f2 (aP 5 0)=s.2.set f2.toNat (5,o,0,0,()):=by
  rw[o_ ⟨w.1,w.2.1⟩,CH,w.2.2.1];show(if(aP 5 0 (3,o,0,0,())).2=0 then s.2.set f2.toNat (aP 5 0 (3,o,0,0,())).1 else _)= _;rw[DY ⟨C.2.2.2.1,C.2.2.2.2.1⟩,az rfl]
 have j: ∀{f0 v},mB g f2 none f0=some v->f0≠f2/\g f0=some v:=λ{f0 v} h=>by
  by_cases e:f0=f2
  ·rw[e,bJ] at h;cases h
  ·rw[aX e] at h;exact⟨e,h⟩
 have fa: ∀{f0 k:Int},0<=k->k<16->(16*f0+k=16*f+i/\f0=f/\k=i)\/aM (dK s.1 (16*f+i) 0) (16*f0+k)=aM s.1 (16*f0+k):=λ{f0 k} h0 h1=>by
  by_cases e:16*f0+k=16*f+i
  ·exact .inl ⟨e,by omega,by omega⟩
  ·exact .inr (fW (λe'=>e e'.symm))
 refine⟨q,E,?_⟩;rw[E];refine⟨?_,?_,?_,?_,?_,?_,?_,?_,?_,?_⟩
 ·show 16*(s.2.set _ _).length<=(dK _ _ _).length;rw[cF,B4];exact I.len
 ·show(s.2.set _ _).length<=4096;rw[B4];exact I.le
 ·intro d y h0;rcases Db y with y|rfl
  ·exact I.fz d y h0
  ·cases h0
 ·intro f0 r n l h;obtain⟨p,h⟩:=j h;rw[B4];obtain⟨a1,F,M,Z⟩:=I.kd h
  grind
 ·intro a b v N hb;exact I.inj (j N).2 (j hb).2
 ·intro f0 r n l k h h0 h1 z;obtain⟨p,h⟩:=j h;rcases fa (f0:=f0) h0 h1 with ⟨c,rfl,rfl⟩|c
  ·rw[q] at z;cases z
  ·have A:dG (aM s.1 (16*f0+k))=true:=by rw[<-c];exact z
   rw[c];obtain⟨O,G,t⟩:=I.rX h h0 h1 A;refine⟨O,G,?_⟩;rw[aX]
   ·exact t
   ·intro e;rw[e,B] at t;simp only[BN,BJ] at t;obtain⟨a1,F,M⟩:=t;have P:k=i:=by omega
    have Q:l=x:=by omega
    subst P;subst Q;subst a1;subst F;subst G;have:=I.inj h u;subst this;rw[q] at c;rw[<-c] at A;cases A
 ·intro f0 r n l k h h0 h1;obtain⟨p,h⟩:=j h;show lf n (aM (dK s.1 (16*f+i) 0) (16*f0+k));rcases fa (f0:=f0) h0 h1 with ⟨c,rfl,rfl⟩|c
  ·rw[q];exact Du _
  ·rw[c];exact I.leaf h h0 h1
 ·intro f0 r n l h R;obtain⟨p,h⟩:=j h;obtain⟨f',p1,p2⟩:=I.EV h R;have S:f'≠f2:=λe=>by
   rw[e,L _ (by omega) (by omega)] at p2;cases p2
  refine⟨f',by rw[aX S];exact p1,?_⟩;show aM (dK s.1 (16*f+i) 0) (16*f'+l % 16)= _;rcases fa (f0:=f') (by omega:0<=l % 16) (by omega) with ⟨c,rfl,e3⟩|c
  ·exfalso;rw[c,K] at p2;unfold cj at p2;simp only[BJ,and_true,true_and] at p2;exact p p2.symm
  ·rw[c];exact p2
 ·intro f0 r n l k h h0 h1 T;obtain⟨p,h⟩:=j h;show dJ (dK s.1 (16*f+i) 0) (16*f0+k)=0;have H:(aM (dK s.1 (16*f+i) 0) (16*f0+k)).1=false:=T;by_cases e:16*f0+k=16*f+i
  ·rw[e,xi D]
  ·rw[fW (λe'=>e e'.symm)] at H;rw[mH (λe'=>e e'.symm)];exact I.wf h h0 h1 H
 ·intro J d U V;have h':(s.2.set f2.toNat (5,o,0,0,()))[J]? =some d:=U;by_cases e:J=f2.toNat
  grind
  ·rw[BO (by omega)] at h';obtain⟨v,hv⟩:=I.tb h' V;exact⟨v,by rw[aX (by omega)];exact hv⟩
end Inv
set_option maxRecDepth 100000
open Go.RX D
def l9 (p:Int) (j:Nat) (e:ET):Int×Int×Int×Unit:=if e.1=true then(if j=1 then e.2.2.2.1+p % 16 else e.2.2.2.1,e.2.1,0,()) else(0,0,4,())
theorem FC (p:Int) (j:Nat) {e:ET} (h:e.1=false):l9 p j e=(0,0,4,()):=by grind[l9]
def mI (g g':Gh):Prop:= ∀o r x,g' r=some (o,3,x)<->g r=some (o,3,x)
theorem mI.refl (g:Gh):mI g g:=λ_ _ _=>Iff.rfl
theorem mI.trans {a b c:Gh} (h:mI a b) (k:mI b c):mI a c:=λo r x=>(k o r x).trans (h o r x)
theorem mI.to {g g':Gh} {o r x:Int} (h:mI g g') (k:g r=some (o,3,x)):g' r=some (o,3,x):=(h _ _ _).2 k
def zZ (o:Int) (g g':Gh) (s s':WD):Prop:= ∀ ⦃f o' l x⦄,o'≠o->g f=some (o',l,x)->g' f=some (o',l,x)/\ ∀k,0<=k->k<16->aM s'.1 (16*f+k)=aM s.1 (16*f+k)
theorem zZ.refl (o:Int) (g:Gh) (s:WD):zZ o g g s s:=λ_ _ _ _ _ h=>⟨h,λ_ _ _=>rfl⟩
theorem zZ.trans {o:Int} {a b c:Gh} {s t u:WD} (h:zZ o a b s t) (k:zZ o b c t u):zZ o a c s u:=λ_ _ _ _ d e=>by
 obtain⟨h1⟩:=h d e;obtain:=k d h1
 grind
def sB (P:Int->Int->Prop) (g g':Gh) (s s':WD):Prop:= ∀ ⦃o p f j⦄,¬ P o p->dC g s o p f j-> ∃f' a,dC g' s' o p f' a/\l9 p a (aM s'.1 (16*f'+px a p % 16))=l9 p j (aM s.1 (16*f+px j p % 16))
theorem sB.refl (P:Int->Int->Prop) (g:Gh) (s:WD):sB P g g s s:=λ_ _ _ _ _ h=>⟨_, _,h,rfl⟩
theorem sB.trans {P:Int->Int->Prop} {a b c:Gh} {s t u:WD} (h:sB P a b s t) (k:sB P b c t u):sB P a c s u:=λ_ _ _ _ d e=>by
 obtain⟨f1,j1,h1,f⟩:=h d e;obtain:=k d h1
 grind
theorem sB.mono {P c:Int->Int->Prop} {a b:Gh} {s t:WD} (h:sB P a b s t) (e: ∀o p,P o p->c o p):sB c a b s t:=λ_ _ _ _ f d=>h (by grind) d
def Xx:Int->Int->Prop:=λ_ _=>False
def n9 (o:Int) (l:Nat) (p:Int):Int->Int->Prop:=λo' q=>o'=o/\px l q=px l p
namespace Inv
variable {g:Gh} {s:WD}
theorem fI (I:Inv g s) {o r p:Int} (a:g r=some (o,3,0)) (b:0<=p/\p<65536) {f:Int} {j:Nat} (h:dC g s o p f j):bA s r false p=l9 p j (aM s.1 (16*f+px j p % 16)):=by
 obtain:=I.nI a b h;unfold bA l9;unfold qu
 grind
theorem yM (I:Inv g s) {g':Gh} {s':WD} (c:Inv g' s') {P:Int->Int->Prop} (d:sB P g g' s s') (i:mI g g') {o r p:Int} (a:g r=some (o,3,0)) (k: ¬ P o p):bA s' r false p=bA s r false p:=by
 by_cases h:0<=p/\p<65536
 ·obtain⟨f,j, _,b⟩:=I.mn a h;obtain⟨f',m,h1,l⟩:=d k b;rw[I.fI a h b,c.fI (i.to a) h h1,l]
 ·have e: ∀t,bA t r false p=(0,0,2,()):=λt=>by
   unfold bA
   grind
  grind
theorem DZ (I:Inv g s) {f o x i:Int} {m:Nat} (b:g f=some (o,m+1,x)) (w:0<=i) (y:i<16) (z:dG (aM s.1 (16*f+i))=false) (hc:0<cA s.2 0) (G:Int->Int)
 (d: ∀k,0<=k->k<16->dG (eY (G k))=false/\lf m (eY (G k))/\((eY (G k)).1=false->G k=0))
 (J: ∀p,0<=px m p % 16->px (m+1) p % 16=i->l9 p m (eY (G (px m p % 16)))=l9 p (m+1) (aM s.1 (16*f+i))):
 let n:=eA s o
 let s':=dP (iN s o G) (16*f+i) (cj n)
 let g':=mB g n (some (o,m,16*x+i))
 rj s o=0/\Inv g' s'/\mI g g'/\zZ o g g' s s'/\sB Xx g g' s s'/\s'.2=s.2.set n.toNat (3,o,0,0,())/\s.2[n.toNat]? =some zD/\
 (∀p,dC g s o p f (m+1)->px (m+1) p % 16=i->dC g' s' o p n m/\aM s'.1 (16*n+px m p % 16)=eY (G (px m p % 16)))/\0<=n/\n<4096:=by
 obtain⟨A,q,B,K,C,D,r,E,L,F⟩:=I.grow b w y z hc G d;dsimp only;have c: ∀{f':Int} {v},g f'=some v->f'≠eA s o:=λh e=>by rw[e,q] at h;cases h
 have Fa: ∀p,dC g s o p f (m+1)->px (m+1) p % 16=i->dC (mB g (eA s o) (some (o,m,16*x+i))) (dP (iN s o G) (16*f+i) (cj (eA s o))) o p (eA s o) m/\aM _ (16*eA s o+px m p % 16)=eY (G (px m p % 16)):=λp a t=>by
  have e:=E (px m p % 16) (eH p m).1 (eH p m).2;refine⟨⟨?_,by rw[e];exact(d _ (eH p m).1 (eH p m).2).1⟩,e⟩;rw[bJ];have h1:=a.1;rw[b] at h1;simp only[BN,BJ,true_and] at h1;rw[h1, <-t, <-nH]
 refine⟨A,F,λo' r' x'=>?_,λ⦃f0 o' l M⦄ H h=>⟨?_,λk h0 h1=>?_⟩,λ⦃o' p f' j⦄ _ a=>?_,C,D,Fa,B,by have:=I.le;omega⟩
 ·by_cases e:r'=eA s o
  ·rw[e,bJ,q];refine⟨λh=>?_,λh=>by cases h⟩;have:=(I.kd b).2.2.2.2.2;simp only[BN,BJ] at h;omega
  ·rw[aX e]
 ·rw[aX (c h)];exact h
 ·have:=c h;refine r _ (λe=>?_) (by omega);have:f0=f:=by omega
  subst this;rw[b] at h;cases h;exact H rfl
 ·by_cases u:f'=f/\px j p % 16=i
  ·obtain⟨rfl,t⟩:=u;have h1:=a.1;rw[b] at h1
   grind
  ·have e:aM (dP (iN s o G) (16*f+i) (cj (eA s o))).1 (16*f'+px j p % 16)=aM s.1 (16*f'+px j p % 16):=by
    have:=c a.1;have:=eH p j;refine r _ (λe=>u ?_) (by omega);omega
   refine⟨f',j,⟨by rw[aX (c a.1)];exact a.1,by rw[e];exact a.2⟩,by rw[e]⟩
theorem yN (I:Inv g s) {f o x i v:Int} {l:Nat} (b:g f=some (o,l,x)) (n:0<=i) (r:i<16) (m:dG (aM s.1 (16*f+i))=false) (hv:dG (eY v)=false) (t:lf l (eY v)) (u:(eY v).1=false->v=0) {q:Int} (w:dC g s o q f l) (y:px l q % 16=i):
 Inv g (dK s.1 (16*f+i) v,s.2)/\zZ o g g s (dK s.1 (16*f+i) v,s.2)/\sB (n9 o l q) g g s (dK s.1 (16*f+i) v,s.2)/\
 (∀p,px l p=px l q->dC g (dK s.1 (16*f+i) v,s.2) o p f l/\dC g s o p f l)/\aM (dK s.1 (16*f+i) v) (16*f+i)=eY v:=by
 obtain⟨z,A⟩:=I.Vd b n r m hv t u;have c:=w.1;rw[b] at c;simp only[BN,BJ,true_and] at c;refine⟨A,λ⦃f0 o' E F⦄ B h=>⟨h,λk h0 h1=>?_⟩,λ⦃o' p f' j⦄ a d=>?_,λp a=>?_,z⟩
 ·refine fW (λe=>B ?_)
  grind
 ·have e:aM (dK s.1 (16*f+i) v) (16*f'+px j p % 16)=aM s.1 (16*f'+px j p % 16):=by
   refine fW (λe=>a ?_);have:f'=f:=by omega
   subst this;have h1:=d.1;rw[b] at h1;simp only[BN,BJ] at h1;obtain⟨rfl,rfl,C⟩:=h1;refine⟨rfl,?_⟩;rw[nH p,nH q, <-C, <-c];omega
  exact⟨f',j,⟨d.1,by rw[e];exact d.2⟩,by grind⟩
 ·have h1:px (l+1) p=px (l+1) q:=by simp only[px];rw[a]
  have D:px l p % 16=i:=by rw[a];exact y
  refine⟨⟨by grind,?_⟩,⟨by grind,by rw[D];exact m⟩⟩
  grind
theorem LF (I:Inv g s) {f o x i f2:Int} {m:Nat} (b:g f=some (o,m+1,x)) (v:0<=i) (w:i<16) (a:g f2=some (o,m,16*x+i)) (q:aM s.1 (16*f+i)=cj f2) (r: ∀k,0<=k->k<16->aM s.1 (16*f2+k)=zE):
 let s':WD:=(dK s.1 (16*f+i) 0,dF s.2 f2 (aP 5 0))
 let g':=mB g f2 none
 Inv g' s'/\mI g g'/\zZ o g g' s s'/\sB Xx g g' s s'/\s'.2=s.2.set f2.toNat (5,o,0,0,())/\s.2[f2.toNat]? =some (3,o,0,0,())/\(∀p,dC g s o p f2 m->dC g' s' o p f (m+1))/\aM s'.1 (16*f+i)=zE:=by
 obtain⟨c,y,z⟩:=I.abc b v w a q r;dsimp only;have t:=I.vf a;have A:f≠f2:=λe=>by
  subst e;rw[b] at a;simp at a
 have B:dG (aM s.1 (16*f+i))=true:=by rw[q];exact dE ⟨t.1,t.2.1⟩
 have Fa: ∀p,dC g s o p f2 m->dC (mB g f2 none) (dK s.1 (16*f+i) 0,dF s.2 f2 (aP 5 0)) o p f (m+1)/\px (m+1) p % 16=i:=λp h=>by
  have h1:=h.1;rw[a] at h1;simp only[BN,BJ,true_and] at h1;have d:=nH p (m+1);have F:=eH p (m+1);have n:px (m+1+1) p=x:=by omega
  have u:px (m+1) p % 16=i:=by omega
  refine⟨⟨by rw[aX A,n];exact b,?_⟩,u⟩;rw[u,c];exact JO
 refine⟨z,λo' r' x'=>?_,λ⦃f0 o' l G⦄ C h=>⟨?_,λk h0 h1=>?_⟩,λ⦃o' p f' j⦄ _ h=>?_,y,(I.kd a).2.2.1,λp h=>(Fa p h).1,c⟩
 ·by_cases e:r'=f2
  ·subst e;rw[bJ,a];refine⟨λh=>(by cases h),λh=>?_⟩;simp only[BN,BJ] at h;have:=(I.kd b).2.2.2.2.2;omega
  ·rw[aX e]
 ·rw[aX]
  ·exact h
  grind
 ·refine fW (λe=>C ?_);have:f0=f:=by omega
  grind
 ·by_cases e:f'=f2
  ·subst e;have h1:=h.1;rw[a] at h1;simp only[BN,BJ] at h1;obtain⟨rfl,rfl,h1⟩:=h1;obtain⟨D,E⟩:=Fa p h;refine⟨_, _,D,?_⟩;rw[E,c,r _ (eH p m).1 (eH p m).2,FC _ _ rfl,FC _ _ rfl]
  ·have n:aM (dK s.1 (16*f+i) 0) (16*f'+px j p % 16)=aM s.1 (16*f'+px j p % 16):=by
    refine fW (λe=>?_);have d:=h.2;rw[<-e,B] at d;cases d
   refine⟨f',j,⟨by rw[aX e];exact h.1,?_⟩,?_⟩
   ·rw[n];exact h.2
   grind
end Inv
set_option maxRecDepth 100000
open Go.RX D
structure Kept (s s':WD):Prop where
 ks5: ∀{n:Nat} {d:DT},s.2[n]? =some d->d.1=4\/d.1=5->s'.2[n]? =some d
 ws5: ∀{n:Nat} {d:DT},s.2[n]? =some d->d.1=4\/d.1=5-> ∀k:Int,0<=k->k<16->dJ s'.1 (16*(n:Int)+k)=dJ s.1 (16*(n:Int)+k)
 nw: ∀{n:Nat} {d:DT},s'.2[n]? =some d->s.2[n]? =some d\/((d.1=3\/d.1=5)/\d.2.2=(0,0,())/\1<=d.2.1/\d.2.1<=16)
theorem Kept.ks {s s':WD} (K:Kept s s') {n:Nat} {d:DT} (h:s.2[n]? =some d) (a:d.1=4):s'.2[n]? =some d:=K.ks5 h (.inl a)
theorem Kept.ws {s s':WD} (K:Kept s s') {n:Nat} {d:DT} (h:s.2[n]? =some d) (a:d.1=4) (k:Int) (k0:0<=k) (b:k<16):dJ s'.1 (16*(n:Int)+k)=dJ s.1 (16*(n:Int)+k):=K.ws5 h (.inl a) k k0 b
theorem Kept.refl (s:WD):Kept s s:=⟨λh _=>h,by simp,λh=> .inl h⟩
theorem Kept.trans {s t u:WD} (h:Kept s t) (k:Kept t u):Kept s u:=
 ⟨λh1 a=>k.ks5 (h.ks5 h1 a) a,λh1 a i i0 i1=>(k.ws5 (h.ks5 h1 a) a i i0 i1).trans (h.ws5 h1 a i i0 i1),λh1=>(k.nw h1).elim h.nw .inr⟩
theorem Kept.set {s:WD} {W:List Int} {n:Nat} {d0 d1:DT} (h0:s.2[n]? =some d0) (c:d0.1≠4/\d0.1≠5) (h1:(d1.1=3\/d1.1=5)/\d1.2.2=(0,0,())/\1<=d1.2.1/\d1.2.1<=16) (b: ∀{m:Nat} {d:DT},s.2[m]? =some d->d.1=4\/d.1=5-> ∀k:Int,0<=k->k<16->dJ W (16*(m:Int)+k)=dJ s.1 (16*(m:Int)+k)):Kept s (W,s.2.set n d1):=by
 refine⟨λ{m d} a f=>?_,b,λ{m d} a=>?_⟩
 ·have e:n≠m:=λe=>by grind
  rw[BO e];exact a
 grind
def iB (s:WD) (f:Int):Prop:=0<=f/\ ∃d,s.2[f.toNat]? =some d/\d.1=5/\ ∀k:Int,0<=k->k<16->dJ s.1 (16*f+k)=0
theorem iB.kept {s s':WD} {f:Int} (h:iB s f) (K:Kept s s'):iB s' f:=by
 obtain⟨h0,d,h1,a,b⟩:=h;refine⟨h0,d,K.ks5 h1 (.inr a),a,λk k0 c=>?_⟩;have:=K.ws5 h1
 grind
theorem Inv.off {g:Gh} {s:WD} (I:Inv g s) {f o x i:Int} {l:Nat} (a:g f=some (o,l,x)) (h0:0<=i) (h1:i<16) {n:Nat} {d:DT} (b:s.2[n]? =some d) (c:d.1=4\/d.1=5) {k:Int} (k0:0<=k) (e:k<16):16*f+i≠16*(n:Int)+k:=by
 have h:=I.kd a
 grind
theorem Inv.Ci {g:Gh} {s:WD} (I:Inv g s) {f o x i:Int} {l:Nat} (a:g f=some (o,l,x)) (h0:0<=i) (h1:i<16) (v:Int):Kept s (dK s.1 (16*f+i) v,s.2):=
 ⟨λh _=>h,λb c k k0 d=>by exact mH (I.off a h0 h1 b c k0 d),λh=> .inl h⟩
theorem Inv.A0 {g:Gh} {s:WD} (I:Inv g s) {f o x i:Int} {m:Nat} (h:g f=some (o,m+1,x)) (r:0<=i) (t:i<16) (hc:0<cA s.2 0) (G:Int->Int) (e:ET):Kept s (dP (iN s o G) (16*f+i) e):=by
 have j:=I.kd h;obtain⟨n,B,l,u,v,C⟩:=mW hc I.fz ⟨j.2.2.2.1,j.2.2.2.2.1⟩;have D:eA s o=n:=u;have E:rj s o=0:=v;have F:=I.len;have w:16*(n:Int)+16<=s.1.length:=by omega
 have p:iN s o G=(eZ s.1 n G 16,s.2.set n (3,o,0,0,())):=by unfold iN;grind
 obtain⟨W,a⟩: ∃W,W=eZ s.1 n G 16:=⟨_,rfl⟩;have y: ∀b,dJ W b=if 16*n<=b/\b<16*n+16 then G _ else dJ s.1 b:=λb=>by
  rw[a];exact sN (by omega) w 16 (by grind) b
 rw[<-a] at p;clear a;have z:dP (W,s.2.set n (3,o,0,0,())) _ e=(dK W (16*f+i) (SO e),s.2.set n _):=rfl;rw[p,z];refine Kept.set l (by decide) (by grind) λ{m d} c q k k0 A=>?_;have H:n≠m:=λe=>by subst e;rw[l] at c;cases c;exact absurd q (by decide)
 rw[mH (I.off h r t c q k0 A),y,au (by omega)]
def zO (g:Gh) (s:WD):Prop:= ∀ ⦃f o l x i⦄,g f=some (o,l,x)->0<=i->i<16->(aM s.1 (16*f+i)).1=true->dG (aM s.1 (16*f+i))=false->l=0
theorem zO.upd {g:Gh} {s s':WD} (h:zO g s) {f o x i:Int} {l:Nat} (n:g f=some (o,l,x)) (h0:0<=i) (h1:i<16) (d: ∀b,b≠16*f+i->aM s'.1 b=aM s.1 b)
 (p:(aM s'.1 (16*f+i)).1=true->dG (aM s'.1 (16*f+i))=false->l=0):zO g s':=λf2 q r t k j k0 m a c=>by
 by_cases e:16*f2+k=16*f+i
 grind
 ·rw[d _ e] at a c;exact h j k0 m a c
theorem zO.grow {g:Gh} {s s':WD} (h:zO g s) {f i F o x a:Int} {m:Nat} (l: ∀b,b≠a->(b<16*F\/16*F+16<=b)->aM s'.1 b=aM s.1 b)
 (q: ∀k,0<=k->k<16->(aM s'.1 (16*F+k)).1=true->m=0) (r:dG (aM s'.1 a)=true):zO (mB g F (some (o,m,x))) s':=λf2 t u v k c k0 n d j=>by
 by_cases e:f2=F
 ·subst e;rw[bJ] at c
  grind
 ·rw[aX e] at c;by_cases p:16*f2+k=a
  grind
  ·rw[l _ p (by omega)] at d j;exact h c k0 n d j
theorem zO.del {g:Gh} {s:WD} (h:zO g s) (F:Int):zO (mB g F none) s:=λf2 f i j k a k0 b c d=>by
 by_cases e:f2=F
 ·subst e;rw[bJ] at a;grind
 ·rw[aX e] at a;exact h a k0 b c d
def Yk (P:Int->Int->Prop):Prop:= ∀o q a,P o q->P o a->q=a
theorem OK (l:Nat) (p:Int):px (l+1) p=px l (p / 16):=by
 induction l with
 |zero=>rfl
 |succ l a=>rw[px,a];rfl
theorem Yk.lv {o p:Int} {lv:Nat} (h:Yk (λo' q=>o'=o/\px lv q=px lv p)):lv=0:=by
 cases lv with
 |zero=>rfl
 |succ=>
  have a:(16*(p / 16)+(p % 16+1) % 16) / 16=p / 16:=by omega
  have:=h o p (16*(p / 16)+(p % 16+1) % 16) (by grind) ⟨rfl,by rw[OK,OK,a]⟩;omega
structure sq (P:Int->Int->Prop) (o:Int) (g g':Gh) (s s':WD):Prop where
 inv:Inv g' s'
 root:mI g g'
 Tz:zZ o g g' s s'
 Dd:sB P g g' s s'
 kk: ∀{n:Nat} {d:DT},s.2[n]? =some d->d.1=3\/d.1=5-> ∃d':DT,s'.2[n]? =some d'/\(d'.1=5\/(d'.1=3/\d.1=3))
 len:s'.1.length=s.1.length/\s'.2.length=s.2.length
 kp:Kept s s'
 lg:Yk P->zO g s->zO g' s'
 gk: ∀{f:Int} {v:Int×Nat×Int},g f=some v->g' f=some v\/iB s' f
theorem sq.refl {g:Gh} {s:WD} (I:Inv g s) (P:Int->Int->Prop) (o:Int):sq P o g g s s:=
 ⟨I,.refl g,.refl o g s,.refl P g s,by grind,by simp,.refl s,λ_ h=>h,λh=> .inl h⟩
theorem sq.trans {P:Int->Int->Prop} {o:Int} {a b c:Gh} {s t u:WD} (h:sq P o a b s t) (k:sq P o b c t u):sq P o a c s u where
 inv:=k.inv
 root:=h.root.trans k.root
 Tz:=h.Tz.trans k.Tz
 Dd:=h.Dd.trans k.Dd
 kk:=λd f=>by
  obtain⟨d1,h1,g⟩:=h.kk d f;obtain:=k.kk h1
  grind
 len:=⟨k.len.1.trans h.len.1,k.len.2.trans h.len.2⟩
 kp:=h.kp.trans k.kp
 lg:=λo n=>k.lg o (h.lg o n)
 gk:=λh1=>(h.gk h1).elim (λe=>k.gk e) λe=> .inr (e.kept k.kp)
theorem sq.mono {P d:Int->Int->Prop} {o:Int} {a b:Gh} {s t:WD} (h:sq P o a b s t) (c: ∀o p,P o p->d o p):sq d o a b s t:=⟨h.inv,h.root,h.Tz,h.Dd.mono c,h.kk,h.len,h.kp,λo1 n=>h.lg (λo q e a b=>o1 o q e (c _ _ a) (c _ _ b)) n,h.gk⟩
theorem OL {ds:List DT} {i:Nat} {d0 d1:DT} (h0:ds[i]? =some d0) (a:d0.1=3\/d0.1=5->d1.1=5) {n:Nat} {d:DT} (h:ds[n]? =some d) (k:d.1=3\/d.1=5): ∃d':DT,(ds.set i d1)[n]? =some d'/\(d'.1=5\/(d'.1=3/\d.1=3)):=by
 grind
theorem xj (s:WD) (o:Int) (G:Int->Int) (i:Int) (e:ET):(dP (iN s o G) i e).1.length=s.1.length:=by grind[dP,iN,cF,gH]
def CW (g:Gh) (s:WD) (e:Option Int):Prop:= ∀ ⦃f o l x⦄,g f=some (o,l,x)->l<3->some f≠e-> ∃k,0<=k/\k<16/\(aM s.1 (16*f+k)).1=true
theorem CW.some {g:Gh} {s:WD} (h:CW g s none) (f:Int):CW g s (some f):=λ_ _ _ _ a b _=>h a b (by simp)
namespace Inv
variable {g:Gh} {s:WD}
theorem down {o p:Int} (b:0<=p/\p<65536) (lv:Nat): ∀(n:Nat) {g:Gh} {s:WD} {f:Int},Inv g s->dC g s o p f (lv+n)->(aM s.1 (16*f+px (lv+n) p % 16)).1=false->n<=cA s.2 0->
 ∃g' s' f',qI o p n (s,(f,((lv+n:Nat):Int),16*f+px (lv+n) p % 16,()))=(s',(f',(lv:Int),16*f'+px lv p % 16,()))/\sq Xx o g g' s s'/\dC g' s' o p f' lv/\(aM s'.1 (16*f'+px lv p % 16)).1=false/\cA s'.2 0+n=cA s.2 0/\(CW g s (some f)->CW g' s' (some f'))
 |0,g,s,f,I,a,c, _=>⟨g,s,f,rfl,.refl I _ _,a,c,rfl,λh=>h⟩
 |n+1,g,s,f,I,a,c,hc=>by
  have w:=I.kd a.1;have x:lv+n<=3:=by have:=w.2.2.2.2.2;omega
  have hi:=eH p (lv+n+1);obtain⟨Z,j,y,z,A,l,q,B,C,D⟩:=I.DZ (m:=lv+n) a.1 hi.1 hi.2 a.2 (by omega) (λ_=>0) (λk _ _=>by
   rw[oV];exact⟨JO,Du _,λ_=>rfl⟩) (λp' _ oo=>by
   rw[oV,FC _ _ rfl,FC];exact c)
  obtain⟨E,F⟩:=B p a rfl;have r:0<=eA s o/\eA s o<4096:=⟨C,D⟩;have G:=ky (d':=(3,o,0,0,())) q 0;have M8:cA (dP (iN s o λ_=>0) (16*f+px (lv+n+1) p % 16) (cj (eA s o))).2 0+1=cA s.2 0:=by
   rw[l];simpa[zD] using G
  obtain⟨_,u1, _, _, _, _,t,H,u, _⟩:=I.grow (m:=lv+n) a.1 hi.1 hi.2 a.2 (by omega) (λ_=>0) (λk _ _=>by
   rw[oV];exact⟨JO,Du _,λ_=>rfl⟩)
  have J:sq Xx o g _ s (dP (iN s o λ_=>0) (16*f+px (lv+n+1) p % 16) (cj (eA s o))):=
   ⟨j,y,z,A,by grind,⟨xj _ _ _ _ _,by rw[l,B4]⟩,I.A0 (m:=lv+n) a.1 hi.1 hi.2 (by omega) _ _,λ_ nl=>nl.grow (f:=f) (i:=0) t (λk k0 d b=>by rw[H k k0 d,oV] at b;cases b) (by rw[u];exact dE r),λ{f0 K} v=> .inl (by
    rw[aX (λe=>?_)]
    ·exact v
    ·obtain⟨L,M,N⟩:=K;have:=(I.kd v).2.2.1;rw[e,q] at this;cases this)⟩
  have O:CW g s (some f)->CW (mB g (eA s o) (some (o,lv+n,16*px (lv+n+1+1) p+px (lv+n+1) p % 16))) (dP (iN s o λ_=>0) (16*f+px (lv+n+1) p % 16) (cj (eA s o))) (some (eA s o)):=λh f0 L M N h0 P Q=>by
   have R:f0≠eA s o:=λe=>Q (by rw[e]);rw[aX R] at h0;by_cases e:f0=f
   ·subst e;exact⟨_,hi.1,hi.2,by rw[u];rfl⟩
   ·obtain⟨k,d,S,T⟩:=h h0 P (by simpa using e);exact⟨k,d,S,by rw[t _ (by omega) (by omega)];exact T⟩
  obtain⟨g',s',f',U,V,W,X,r5,Y⟩:=down b lv n j E (by rw[F,oV];rfl) (by omega);refine⟨g',s',f',?_,J.trans V,W,X,by omega,λh=>Y (O h)⟩;rw[<-U];show qI o p n _= _;have el:((lv+(n+1):Nat):Int) - 1=((lv+n:Nat):Int):=by omega
  rw[el,k8 r b x];rfl
end Inv
set_option maxRecDepth 100000
open Go.RX D
theorem WM {ds:List DT} (h:cA ds 0=0):iA ds=none:=by
 unfold cA at h;unfold iA;rw[HB];intro d a;have:=List.countP_eq_zero.1 h d a;simpa using this
theorem A1 {ds:List DT} {y o:Int} (h: ¬ dQ ds y o=0):dB ds y o=ds:=by
 unfold dQ at h;unfold dB;cases a:iA ds with
 |none=>rfl
 |some n=>
  have b: ¬ ds.length=0:=λe=>by
   have:ds=[]:=FF.1 e;subst this;cases a
  rw[au b,a] at h;dsimp only at h ⊢;by_cases c:(n:Int)<0\/(n:Int)>=ds.length
  ·exact xe c _
  ·rw[ym (by omega)] at h;rw[o_ (by omega),au h]
theorem IL {s:WD} {o:Int} {G:Int->Int} (h: ¬ rj s o=0):iN s o G=s:=by
 unfold iN;rw[au h,A1 h]
theorem Q_ {s:WD} {o:Int} (h:cA s.2 0=0) (a:0<s.2.length): ¬ rj s o=0:=by
 unfold rj dQ;rw[au (by omega),WM h];show ¬ (12:Int)=0;decide
theorem Cj {p:Int} {j:Nat} {e:ET} (h:(l9 p j e).2.2.1=0):e.1=true:=by
 cases a:e.1 with
 |true=>rfl
 |false=>
  rw[FC p j a] at h;exact absurd h (by decide)
theorem OM {ws:List Int} {f:Int} (c:0<=f) (d:16*f+16<=ws.length) {k:Nat} (a:k<16):(jx ws (16*f) 16)[k]? =some (dJ ws (16*f+(k:Int))):=by
 have e:jx ws (16*f) 16=(ws.drop (16*f).toNat).take 16:=au (by omega);rw[e,Fx a,G1];unfold dJ;have hi:(16*f).toNat+k<ws.length:=by omega
 rw[az (iZ (by omega) (by omega)),Bs hi,CH];have b:(16*f+(k:Int)).toNat=(16*f).toNat+k:=by omega
 rw[b,Bs hi];rfl
theorem D4 {ws:List Int} {f:Int} (a:0<=f) (b:16*f+16<=ws.length) (h:wL ws f=true) (k:Int) (h0:0<=k) (h1:k<16):dJ ws (16*f+k)=0:=by
 have c:=OM a b (k:=k.toNat) (by omega);unfold wL at h;rw[Gd] at h;have:=h _ (Bv c);rw[show((k.toNat:Nat):Int)=k from by omega] at this;simpa using this
theorem Ra {ws:List Int} {f:Int} (b:0<=f) (c:16*f+16<=ws.length) (h:wL ws f=false): ∃k:Int,0<=k/\k<16/\dJ ws (16*f+k)≠0:=by
 unfold wL at h;rw[Ga] at h;obtain⟨v,hv,d⟩:=h;obtain⟨k,a⟩:=Gi hv;have i:(jx ws (16*f) 16).length=16:=by
  have e:jx ws (16*f) 16=(ws.drop (16*f).toNat).take 16:=au (by omega);rw[e,E4,Fv];omega
 have g:k<16:=by have:=(B5.1 a).1;omega
 have:=OM b c g;rw[a] at this;refine⟨(k:Int),by omega,by omega,λe=>d ?_⟩;cases this;simpa using e
def Wa (F:Nat->Int) (p:Int):Nat->Nat->List PT
 |j,0=>[(F j,(j:Int),16*F j+px j p % 16,())]
 |j,n+1=>(F j,(j:Int),16*F j+px j p % 16,())::Wa F p (j+1) n
structure Up (g:Gh) (s:WD) (o p:Int) (F:Nat->Int) (j:Nat):Prop where
 gh: ∀i,j<=i->i<=3->g (F i)=some (o,i,px (i+1) p)
 ld: ∀i,j<=i->i<3->aM s.1 (16*F (i+1)+px (i+1) p % 16)=cj (F i)
theorem Rb (F:Nat->Int) (p:Int) (j n:Nat): ∃l,Wa F p j n=(F j,(j:Int),16*F j+px j p % 16,())::l:=by cases n<;>exact⟨_,rfl⟩
namespace Inv
theorem put {g:Gh} {s:WD} (I:Inv g s) {o r p:Int} (l:g r=some (o,3,0)) (c:0<=p/\p<65536) {lv:Nat} {e:ET} (t:e.1=true) (y:bU e.1 e.2.1 e.2.2.1 e.2.2.2.1=true) (z:dG e=false) (A:lf lv e) (h0:l6 s r p lv=0):
 ∃g',sq (n9 o lv p) o g g' s (rz s o r p lv e)/\(∀q,px lv q=px lv p-> ∃f,dC g' (rz s o r p lv e) o q f lv/\aM (rz s o r p lv e).1 (16*f+px lv q % 16)=e)/\
  (∃f j,lv<=j/\dC g s o p f j/\(aM s.1 (16*f+px j p % 16)).1=false/\cA (rz s o r p lv e).2 0+(j - lv)=cA s.2 0)/\(CW g s none->CW g' (rz s o r p lv e) none):=by
 obtain⟨f,j,L,i⟩:=I.mn l c;obtain⟨u,eP⟩:=I.nI l c i;have a:=h0;unfold l6 at a;rw[u,eP] at a;dsimp only at a;by_cases c1:((aM s.1 (16*f+px j p % 16)).1||decide (((j:Nat):Int)<((lv:Nat):Int)))=true
 ·rw[az c1] at a;exact absurd a (by decide)
 rw[au c1] at a;by_cases c2:(cA s.2 0:Int)<((j:Nat):Int) - ((lv:Nat):Int)
 ·rw[az c2] at a;exact absurd a (by decide)
 simp only[Dn,decide_eq_true_eq,not_or,Bool.not_eq_true] at c1;obtain⟨n,rfl⟩: ∃n,j=lv+n:=⟨j - lv,by omega⟩;obtain⟨g1,s1,f1,d1,C1,E1,M,N,x1⟩:=down c lv n I i c1.1 (by omega);have B:rz s o r p lv e=(dK s1.1 (16*f1+px lv p % 16) (SO e),s1.2):=by
  unfold rz;rw[az h0,u];have en:(((lv+n:Nat):Int) - ((lv:Nat):Int)).toNat=n:=by omega
  dsimp only;rw[en,d1];rfl
 rw[B];have hv:eY (SO e)=e:=xh y;have hi:=eH p lv;obtain⟨C,D,E,F,w⟩:=C1.inv.yN (v:=SO e) E1.1 hi.1 hi.2 E1.2 (by rw[hv];exact z) (by rw[hv];exact A) (λh=>by rw[hv,t] at h;cases h) E1 rfl;refine⟨g1,(C1.mono λ_ _ h=>h.elim).trans ⟨C,.refl _,D,E,λ{m d} h k=>⟨d,h,k.elim (λe=> .inr ⟨e,e⟩) .inl⟩,⟨cF _ _ _,rfl⟩,C1.inv.Ci E1.1 hi.1 hi.2 _,λo1 nl=>nl.upd E1.1 hi.1 hi.2 (λb hb=>fW (λe=>hb e.symm)) λ_ _=>o1.lv,λh=> .inl h⟩,λq x=>⟨f1,(F q x).1,?_⟩,⟨f,lv+n,by omega,i,c1.1,?_⟩,λh=>?_⟩
 ·show aM (dK s1.1 _ _) _= _;rw[x,w,hv]
 ·show cA s1.2 0+ _= _;omega
 ·intro f0 O P Q h0 G _;by_cases ef:f0=f1
  ·subst ef;exact⟨_,hi.1,hi.2,by show(aM (dK s1.1 _ _) _).1=true;rw[w,hv];exact t⟩
  ·obtain⟨k,H,J,K⟩:=x1 (h.some f) h0 G (by simpa using ef);exact⟨k,H,J,by show(aM (dK s1.1 _ _) _).1=true;rw[fW (by omega)];exact K⟩
end Inv
set_option maxRecDepth 100000
open Go.RX D
theorem Zi (x y:PT) (l:List PT) (t:WD):jn (x::y::l) t=if wL t.1 x.1=true then jn (y::l) (dK t.1 y.2.2.1 0,dF t.2 x.1 (aP 5 0)) else t:=rfl
theorem Yl {ws:List Int} {a:Int} (h:dJ ws a=0):aM ws a=zE:=by unfold aM;rw[h];exact oV
theorem Up.ne {g:Gh} {s:WD} {o p:Int} {F:Nat->Int} {j:Nat} (U:Up g s o p F j) {a b:Nat} (c:j<=a) (d:a<=3) (hb:j<=b) (f:b<=3) (h:a≠b):F a≠F b:=λe=>by
 have h1:=U.gh a c d;rw[e,U.gh b hb f] at h1;simp only[BN,BJ,true_and] at h1;exact h h1.1.symm
theorem lW {r:Int} {l:Bool} {f:Int}:bU true r l f=true<->(0<=r/\r<=7/\0<=f/\f<4096/\(r>0\/l=false)):=by
 unfold bU;cases l<;>simp<;>omega
theorem NY {p:Bool} {r:Int} {l:Bool} {f:Int} (h:r≠0):dG (p,r,l,f,())=false:=by
 unfold dG fH;simp[h]
namespace Inv
theorem split {g:Gh} {s:WD} (I:Inv g s) {o r p:Int} (F:g r=some (o,3,0)) (G:0<=p/\p<65536) {f:Int} {j:Nat} (a:dC g s o p f j) (b:(aM s.1 (16*f+px j p % 16)).1=true) (h0:l8 s o r p=0):
 ∃g' f',sq Xx o g g' s (fi s o r p)/\dC g' (fi s o r p) o p f' 0/\cA (fi s o r p).2 0+j=cA s.2 0/\(CW g s none->CW g' (fi s o r p) none):=by
 obtain⟨l,eP⟩:=I.nI F G a;have hi:=eH p j;rcases I.leaf a.1 hi.1 hi.2 b a.2 with ⟨rfl, _⟩|⟨rfl,n,x⟩
 ·have q:fi s o r p=s:=by unfold fi;rw[l];exact az rfl
  rw[q];exact⟨g,f,.refl I _ _,a,rfl,λh=>h⟩
 ·have H:l8 s o r p=rj s o:=by unfold l8;rw[l];exact au (by show ¬ ((1:Int)=0);decide)
  rw[H] at h0;have q:fi s o r p=dP (iN s o (ov (aM s.1 (16*f+px 1 p % 16)))) (16*f+px 1 p % 16) (cj (eA s o)):=by
   unfold fi;rw[l,eP];rw[au (by show ¬ ((1:Int)=0);decide),az h0]
  have y:=I.kd a.1;have hc:0<cA s.2 0:=by
   rcases Nat.eq_zero_or_pos (cA s.2 0) with e|e
   ·exact absurd h0 (Q_ e (by omega))
   ·exact e
  have t:=lx s.1 (16*f+px 1 p % 16);rw[q];have J:=a.2;generalize K:aM s.1 (16*f+px 1 p % 16)=e at n x t b J ⊢;obtain⟨ep,er,el,ef,eu⟩:=e;dsimp only at n x t b;subst n;subst b;obtain⟨L,M,b3,b4,z⟩:=lW.1 t;have z:er>0:=z.elim id (λh=>by cases h);have u: ∀k:Int,0<=k->k<16->eY (ov (true,er,true,ef,()) k)=(true,er,false,ef+k,()):=λk k0 c=>by
   show eY (Fb true er false (ef+k))= _;exact xh (lW.2 ⟨L,M,by omega,by omega,.inr rfl⟩)
  have A: ∀k,0<=k->k<16->dG (eY (ov (true,er,true,ef,()) k))=false/\lf 0 (eY (ov (true,er,true,ef,()) k))/\((eY (ov (true,er,true,ef,()) k)).1=false->ov (true,er,true,ef,()) k=0):=λk k0 c=>by
   rw[u k k0 c];exact⟨NY (by omega),λ_ _=> .inl ⟨rfl,rfl⟩,λh=>by cases h⟩
  obtain⟨q0,N,O,P,Q,v,w,R,S,T⟩:=I.DZ (m:=0) a.1 hi.1 hi.2 a.2 hc (ov (true,er,true,ef,())) A (λp' hp0 oo=>by
   rw[u _ (eH p' 0).1 (eH p' 0).2,K];rfl)
  obtain⟨_,u1, _, _, _, _,B,U,C, _⟩:=I.grow (m:=0) a.1 hi.1 hi.2 a.2 hc (ov (true,er,true,ef,())) A;obtain⟨V,e2⟩:=R p a rfl;have W:=ky (d':=(3,o,0,0,())) w 0;refine⟨_,eA s o,⟨N,O,P,Q,λ{m d} X y=>by rw[v];exact OL w (λh=>by rcases h with h|h<;>exact absurd h (by decide)) X y,⟨xj _ _ _ _ _,by rw[v,B4]⟩,I.A0 (m:=0) a.1 hi.1 hi.2 hc _ _,λ_ nl=>nl.grow (f:=f) (i:=0) B (λ_ _ _ _=>rfl) (by rw[C];exact dE ⟨S,T⟩),λ{f0 Y} D=> .inl (by
   rw[aX (λe=>?_)]
   ·exact D
   ·obtain⟨Z,l0,x0⟩:=Y;have:=(I.kd D).2.2.1;rw[e,w] at this;cases this)⟩,V,?_,?_⟩
  ·rw[v];simpa[zD] using W
  ·intro h f0 Z l0 x0 h0 Hz _;by_cases E:f0=eA s o
   ·subst E;exact⟨0,by decide,by decide,by rw[U 0 (by decide) (by decide),u 0 (by decide) (by decide)]⟩
   ·rw[aX E] at h0;by_cases e:f0=f
    ·subst e;exact⟨_,hi.1,hi.2,by rw[C];rfl⟩
    ·obtain⟨k,c,k2,k3⟩:=h h0 Hz (by simp);exact⟨k,c,k2,by rw[B _ (by omega) (by omega)];exact k3⟩
theorem thin {o p:Int} (t:0<=p/\p<65536) {F:Nat->Int}: ∀(n:Nat) {j:Nat} {g:Gh} {s:WD},j+n=3->Inv g s->Up g s o p F j->
 ∃g',sq Xx o g g' s (jn (Wa F p j n) s)/\cA (jn (Wa F p j n) s).2 0=cA s.2 0/\(CW g s (some (F j))->CW g' (jn (Wa F p j n) s) none)
 |0,j,g,s,M,I,U=>by
  refine⟨g,.refl I _ _,rfl,λh f0 A B C h0 q _=>h h0 q (λe=>?_)⟩;have D:=U.gh j (BL _) (by omega);cases e;rw[h0] at D;simp only[BN,BJ] at D;omega
 |n+1,j,g,s,M,I,U=>by
  obtain⟨l',E⟩:=Rb F p (j+1) n;have N:Wa F p j (n+1)=(F j,(j:Int),16*F j+px j p % 16,())::(F (j+1),((j+1:Nat):Int),16*F (j+1)+px (j+1) p % 16,())::l':=by rw[Wa,E]
  have v:=U.gh j (BL _) (by omega);have g1:=U.gh (j+1) (by omega) (by omega);have O:=U.ld j (BL _) (by omega);have hi:=eH p (j+1);have f:=I.vf v;rw[N,Zi];cases w:wL s.1 (F j) with
  |false=>
   rw[au (by decide)];refine⟨g,.refl I _ _,rfl,λh f0 A B C h0 q _=>?_⟩;by_cases e:f0=F j
   ·subst e;obtain⟨k,k0,c,x⟩:=Ra f.1 f.2.2 w;refine⟨k,k0,c,?_⟩;cases hb:(aM s.1 (16*F j+k)).1 with
    |true=>rfl
    |false=>exact absurd (I.wf v k0 c hb) x
   ·exact h h0 q (by simpa using e)
  |true=>
   rw[az rfl];dsimp only;have P:g (F j)=some (o,j,16*px (j+1+1) p+px (j+1) p % 16):=by rw[<-nH];exact v
   obtain⟨y,G,H,J,l,r,Q,K⟩:=I.LF g1 hi.1 hi.2 P O (λk k0 c=>Yl (D4 f.1 f.2.2 w k k0 c));dsimp only at y G H J l r Q K;have C1:sq Xx o g (mB g (F j) none) s (dK s.1 (16*F (j+1)+px (j+1) p % 16) 0,dF s.2 (F j) (aP 5 0)):=
    ⟨y,G,H,J,λ{m d} z R=>by rw[l];exact OL r (λ_=>rfl) z R,⟨cF _ _ _,by rw[l,B4]⟩,by rw[l];exact Kept.set r (show ¬ (3:Int)=4/\ ¬ (3:Int)=5 by decide) ⟨.inr rfl,rfl,(I.kd g1).2.2.2.1,(I.kd g1).2.2.2.2.1⟩ λ{m d} z S k k0 c=>by rw[mH (I.off g1 hi.1 hi.2 z S k0 c)],λ_ nl=>(nl.upd (s':=(dK s.1 (16*F (j+1)+px (j+1) p % 16) 0,dF s.2 (F j) (aP 5 0))) g1 hi.1 hi.2 (λb hb=>fW (λe=>hb e.symm)) λt _=>by rw[K] at t;cases t).del _,λ{f0 X} T=>by
     by_cases e:f0=F j
     ·subst e;have V:=U.ne (a:=j) (b:=j+1) (by omega) (by omega) (by omega) (by omega) (by omega);refine .inr ⟨f.1, _,by rw[l];exact CP (B5.1 r).1,rfl,λk k0 c=>?_⟩;show dJ (dK s.1 _ _) _=0;rw[mH (by omega)];exact D4 f.1 f.2.2 w k k0 c
     ·exact .inl (by rw[aX e];exact T)⟩
   have U1:Up (mB g (F j) none) (dK s.1 (16*F (j+1)+px (j+1) p % 16) 0,dF s.2 (F j) (aP 5 0)) o p F (j+1):=by
    refine⟨λi h1 u=>?_,λi h1 u=>?_⟩
    ·rw[aX (U.ne (by omega) u (BL _) (by omega) (by omega))];exact U.gh i (by omega) u
    ·have V:=U.ne (a:=i+1) (b:=j+1) (by omega) (by omega) (by omega) (by omega) (by omega);have Y:=eH p (i+1);show aM (dK _ _ _) _= _;rw[fW (by omega)];exact U.ld i (by omega) u
   obtain⟨g',c1,c2,c3⟩:=thin t n (by omega) y U1;rw[E] at c1 c2 c3;refine⟨g',C1.trans c1,c2.trans ?_,λh=>c3 λf0 A B C h0 q W=>?_⟩
   ·have:=ky (d':=(5,o,0,0,())) r 0;rw[l];simpa using this
   ·have L:f0≠F j:=λe=>by rw[e,bJ] at h0;cases h0
    have Z:f0≠F (j+1):=λe=>W (by rw[e]);rw[aX L] at h0;obtain⟨k,k0,c,x⟩:=h h0 q (by simpa using L);exact⟨k,k0,c,by show(aM (dK _ _ _) _).1=true;rw[fW (by omega)];exact x⟩
end Inv
set_option maxRecDepth 100000
open Go.RX D
namespace Inv
variable {g:Gh} {s:WD}
theorem ab1 (I:Inv g s) {o r p f0:Int} (t:g r=some (o,3,0)) (a:0<=p/\p<65536) (E:dC g s o p f0 0):
 ∃F:Nat->Int,F 0=f0/\Up g s o p F 0/\(dg s.1 p 3 r).reverse=Wa F p 0 3:=by
 obtain⟨f1,a1,u⟩:=I.EV E.1 (by decide);obtain⟨f2,e,j⟩:=I.EV a1 (by decide);obtain⟨f3,f,k⟩:=I.EV e (by decide);have v:f3=r:=by
  refine I.inj f ?_;rw[t];have:=Z1 a;simp only[px] at this ⊢;rw[this]
 subst v;have b:=I.vf E.1;have c:=I.vf a1;have d:=I.vf e;have m:=I.vf f;refine⟨λi=>match i with|0=>f0|1=>f1|2=>f2| _=>f3,rfl,⟨λi _ h=>?_,λi _ h=>?_⟩,?_⟩
 ·rcases i with _| _| _| _|i
  ·exact E.1
  ·exact a1
  ·exact e
  ·exact f
  ·omega
 ·rcases i with _| _| _|i
  ·exact u
  ·exact j
  ·exact k
  ·omega
 ·have n:=k8 ⟨m.1,m.2.1⟩ a (l:=3) (by omega);have q:=k8 ⟨d.1,d.2.1⟩ a (l:=2) (by omega);have w:=k8 ⟨c.1,c.2.1⟩ a (l:=1) (by omega);have x:=k8 ⟨b.1,b.2.1⟩ a (l:=0) (by omega);have t2:=dE ⟨d.1,d.2.1⟩;have t1:=dE ⟨c.1,c.2.1⟩;have t0:=dE ⟨b.1,b.2.1⟩;have c3:aM s.1 (dY f3 p (2+1:Nat))=cj f2:=by rw[n];exact k
  have c2:aM s.1 (dY f2 p (1+1:Nat))=cj f1:=by rw[q];exact j
  have c1:aM s.1 (dY f1 p ((0+1:Nat):Int))=cj f0:=by grind
  have w1:dg s.1 p 1 f1=[(f1,((0+1:Nat):Int),dY f1 p ((0+1:Nat):Int),()),(f0,0,dY f0 p 0,())]:=by rw[dg,c1,az t0];rfl
  have y:dg s.1 p 2 f2=[(f2,((1+1:Nat):Int),dY f2 p ((1+1:Nat):Int),()),(f1,((0+1:Nat):Int),dY f1 p ((0+1:Nat):Int),()),(f0,0,dY f0 p 0,())]:=by
   rw[dg,c2,az t1];show _::dg s.1 p 1 f1= _;rw[w1]
  have z:dg s.1 p 3 f3=[(f3,((2+1:Nat):Int),dY f3 p ((2+1:Nat):Int),()),(f2,((1+1:Nat):Int),dY f2 p ((1+1:Nat):Int),()),(f1,((0+1:Nat):Int),dY f1 p ((0+1:Nat):Int),()),(f0,0,dY f0 p 0,())]:=by
   rw[dg,c3,az t2];show _::dg s.1 p 2 f2= _;rw[y]
  have A:dY f0 p 0=16*f0+px 0 p % 16:=x;have B:=w;have C:=q;have D:=n;rw[z,A,B,C,D];rfl
theorem IM {s:WD} {n:Nat} {d:DT} (h:s.2[n]? =some d) (k:d.1=3\/d.1=5): ∃d':DT,s.2[n]? =some d'/\(d'.1=5\/(d'.1=3/\d.1=3)):=by grind
theorem Dt (I:Inv g s) {o r p:Int} (l:g r=some (o,3,0)) (c:0<=p/\p<65536) (h0:BI s o r false p=0):
 ∃g',sq (n9 o 0 p) o g g' s (nb s o r false p)/\bA (nb s o r false p) r false p=(0,0,4,())/\(bA s r false p).2.2.1=0/\
  (∃f j,j<=1/\dC g s o p f j/\(aM s.1 (16*f+px j p % 16)).1=true/\cA (nb s o r false p).2 0+j=cA s.2 0)/\(CW g s none->CW g' (nb s o r false p) none):=by
 have u:(bA s r false p).2.2.1=0:=by
  unfold BI at h0
  grind
 have A:l8 s o r p=0:=by unfold BI at h0;grind
 obtain⟨f,j,S,d⟩:=I.mn l c;have w:=u;rw[I.fI l c d] at w;have m:=Cj w;have B:j<=1:=by
  rcases I.leaf d.1 (eH p j).1 (eH p j).2 m d.2 with h|h<;>omega
 obtain⟨g1,f0,C1,E1,c1,C⟩:=I.split l c d m A;have D:nb s o r false p=jn (dg (fi s o r p).1 p 3 r).reverse (dK (fi s o r p).1 (dz (fi s o r p).1 r p).2.2.1 0,(fi s o r p).2):=by
  unfold nb;grind
 have n:=C1.root.to l;have E:=(C1.inv.nI n c E1).1;rw[D,E];generalize fi s o r p=t at*
 have hi:=eH p 0;obtain⟨x,G,H,J,K⟩:=C1.inv.yN (v:=0) E1.1 hi.1 hi.2 E1.2 (by rw[oV];exact JO) (by rw[oV];exact Du _) (λ_=>rfl) E1 rfl;obtain⟨F,y,U,L⟩:=C1.inv.ab1 n c E1;rw[L];dsimp only;have U2:Up g1 (dK t.1 (16*f0+px 0 p % 16) 0,t.2) o p F 0:=by
  refine⟨U.gh,λi h1 q=>?_⟩;have M:=U.ne (a:=i+1) (b:=0) (by omega) (by omega) (by omega) (by omega) (by omega);rw[y] at M;rw[fW (by omega)];exact U.ld i h1 q
 obtain⟨N,C3,c3,O⟩:=thin c 3 rfl x U2;have C2:sq (n9 o 0 p) o g1 g1 t _:=⟨x,.refl _,G,H,λh k=>IM h k,⟨cF _ _ _,rfl⟩,C1.inv.Ci E1.1 hi.1 hi.2 _,λ_ nl=>nl.upd E1.1 hi.1 hi.2 (λb hb=>fW (λe=>hb e.symm)) λ_ _=>rfl,λh=> .inl h⟩;refine⟨N,((C1.mono λ_ _ h=>h.elim).trans C2).trans (C3.mono λ_ _ h=>h.elim),?_,u,⟨f,j,B,d,m,?_⟩,λh=>?_⟩
 ·obtain⟨f',T,h1,q⟩:=C3.Dd (λh=>h) (J p rfl).1;rw[C3.inv.fI (C3.root.to n) c h1,q];rw[K,oV];rfl
 grind
 ·refine O λf1 o1 V x1 h1 P z=>?_;rw[y] at z;have W:f1≠f0:=λe=>z (by rw[e]);obtain⟨k,k0,Q,R⟩:=C h h1 P (by simp);exact⟨k,k0,Q,by rw[fW (by omega)];exact R⟩
theorem sM (I:Inv g s) {o r p rt:Int} (d:g r=some (o,3,0)) (h0:Fz s o r false p rt=0):
 (0<=p/\p<65536)/\ ∃g',sq (n9 o 0 p) o g g' s (rA s o r false p rt)/\(bA s r false p).2.2.1=0/\bA (rA s o r false p rt) r false p=((bA s r false p).1,rt,0,())/\
  cA s.2 0<=cA (rA s o r false p rt).2 0+1:=by
 have n: ¬ (false=true):=by decide
 unfold Fz at h0;rw[au n] at h0;have l:na p 0 rt=0:=by
  grind
 rw[az l] at h0;have w:(0<=p/\p<65536)/\1<=rt/\rt<=7:=by
  unfold na at l
  grind
 obtain⟨a,G⟩:=w;refine⟨a,?_⟩;obtain⟨f,j,H,c⟩:=I.mn d a;obtain⟨x,eP⟩:=I.nI d a c;have J:=I.fI d a c;by_cases c1:(cZ s.1 r p).1=true
 ·rw[az c1] at h0;have y:rA s o r false p rt=(if((cZ s.1 r p).2.2.1&&(cZ s.1 r p).2.1==rt)=true then s
   else if l8 s o r p=0 then dP (fi s o r p) (dz (fi s o r p).1 r p).2.2.1 (true,rt,false,qu p (dz s.1 r p) (cZ s.1 r p),()) else fi s o r p):=by
   unfold rA;rw[au n,az l,az c1]
  rw[y];have i:(aM s.1 (16*f+px j p % 16)).1=true:=by rw[<-eP];exact c1
  have m:bA s r false p=(qu p (dz s.1 r p) (cZ s.1 r p),(cZ s.1 r p).2.1,0,()):=by
   unfold bA
   grind
  by_cases c2:((cZ s.1 r p).2.2.1&&(cZ s.1 r p).2.1==rt)=true
  ·rw[az c2];refine⟨g,.refl I _ _,by rw[m],?_,by omega⟩
   grind
  ·rw[au c2] at h0;rw[au c2,az h0];obtain⟨g1,f0,C1,E1,d1,K⟩:=I.split d a c i h0;have q:=C1.root.to d;have z:=(C1.inv.nI q a E1).1;rw[z];have L:0<=qu p (dz s.1 r p) (cZ s.1 r p)/\qu p (dz s.1 r p) (cZ s.1 r p)<4096:=by
    have u:=lx s.1 (16*f+px j p % 16);have A:=I.leaf c.1 (eH p j).1 (eH p j).2 i c.2;rw[eP,x];generalize aM s.1 (16*f+px j p % 16)=e at*
    obtain⟨ep,er,el,ef,M⟩:=e;dsimp only at i u A;subst i;obtain⟨N,O,P,Q,R⟩:=lW.1 u;unfold qu
    grind
   have S:j<=1:=by
    rcases I.leaf c.1 (eH p j).1 (eH p j).2 i c.2 with h|h<;>omega
   have B:(bA s r false p).1=qu p (dz s.1 r p) (cZ s.1 r p):=by rw[m]
   rw[B];generalize qu p (dz s.1 r p) (cZ s.1 r p)=fr at*
   generalize fi s o r p=t at*
   have hv:eY (SO (true,rt,false,fr,()))=(true,rt,false,fr,()):=by
    show eY (Fb true rt false fr)= _;exact xh (lW.2 (by omega))
   have hi:=eH p 0;obtain⟨v,C,D,E,F⟩:=C1.inv.yN E1.1 hi.1 hi.2 E1.2 (by rw[hv];exact NY (by omega)) (by rw[hv];exact λ_ _=> .inl ⟨rfl,rfl⟩) (λh=>by rw[hv] at h;cases h) E1 rfl;have C2:sq (n9 o 0 p) o g1 g1 t _:=⟨v,.refl _,C,D,λh k=>IM h k,⟨cF _ _ _,rfl⟩,C1.inv.Ci E1.1 hi.1 hi.2 _,λ_ nl=>nl.upd E1.1 hi.1 hi.2 (λb hb=>fW (λe=>hb e.symm)) λ_ _=>rfl,λh=> .inl h⟩;refine⟨g1,(C1.mono λ_ _ h=>h.elim).trans C2,by rw[m],?_,?_⟩
   ·show bA (dK t.1 (16*f0+px 0 p % 16) _,t.2) r false p= _;rw[v.fI q a (E p rfl).1];show l9 p 0 (aM (dK t.1 _ _) _)= _;rw[F,hv];rfl
   ·show _<=cA t.2 0+1;omega
 grind
theorem map (I:Inv g s) {o r p f rt:Int} (b:g r=some (o,3,0)) (h0:lK s r false p f rt=0):
 (0<=p/\p<65536)/\ ∃g',sq (n9 o 0 p) o g g' s (jv s o r false p f rt)/\bA (jv s o r false p f rt) r false p=(f,rt,0,())/\1<=rt/\(bA s r false p).2.2.1=4/\
  (∃f0,dC g' (jv s o r false p f rt) o p f0 0)/\
  (∃f0 j,dC g s o p f0 j/\cA (jv s o r false p f rt).2 0+j=cA s.2 0)/\(CW g s none->CW g' (jv s o r false p f rt) none):=by
 unfold lK at h0;have c:na p f rt=0:=by
  grind
 rw[az c] at h0;have d:(0<=p/\p<65536)/\(0<=f/\f<4096)/\1<=rt/\rt<=7:=by
  unfold na at c
  grind
 obtain⟨a,q,e⟩:=d;have i:jv s o r false p f rt=rz s o r p 0 (true,rt,false,f,()):=by unfold jv;grind
 rw[i];have k:bU _ rt false f=true:=lW.2 (by omega);obtain⟨g',C,A,⟨f1,j,t,l,m,hc⟩,u⟩:=I.put b a rfl k (NY (by omega)) (λ_ _=> .inl (by grind)) h0;obtain⟨f2,E2,n⟩:=A p rfl;refine⟨a,g',C,?_,e.1,?_,⟨f2,E2⟩,by grind⟩
 ·have h:=C.inv.fI (C.root.to b) a E2;rw[n] at h;exact h
 ·rw[I.fI b a l,FC _ _ m]
end Inv
set_option maxRecDepth 100000
open Go.RX D
def fresh (n m:Nat):WD:=(Bp n 0,Bp m zD)
abbrev Wc:Gh:=λ_=>none
theorem Ve (m:Nat) (v:Int):cA (Bp m zD) v=if v=0 then m else 0:=by
 unfold cA;rw[List.countP_replicate];by_cases h:v=0
 ·subst h;rfl
 ·rw[au h,au];show ¬ (((0:Int)==v)=true);simp;omega
theorem LG {n m:Nat} (h:16*m<=n) (b:m<=4096):Inv Wc (fresh n m) where
 len:=by
  show 16*(Bp m zD).length<=(Bp n (0:Int)).length;simpa using h
 le:=by
  show(Bp m zD).length<=4096;simpa using b
 fz:=λd a _=>HE a
 kd:=by intro f o l x h;cases h
 inj:=by intro f o l h;cases h
 rX:=by intro f o l x i h;cases h
 leaf:=by intro f o l x i h;cases h
 EV:=by intro f o l x h;cases h
 wf:=by intro f o l x i h;cases h
 tb:=by
  intro k d a c;have:d=zD:=HE (Bv a);subst this;cases c
namespace Inv
variable {g:Gh} {s:WD}
theorem born (I:Inv g s) {o:Int} (w:1<=o/\o<=16) (A: ∀f,g f≠some (o,3,0)) (hc:0<cA s.2 0):
 rj s o=0/\g (eA s o)=none/\0<=eA s o/\eA s o<s.2.length/\(iN s o λ_=>0).2=s.2.set (eA s o).toNat (3,o,0,0,())/\s.2[(eA s o).toNat]? =some zD/\
 (∀b,(b<16*eA s o\/16*eA s o+16<=b)->dJ (iN s o λ_=>0).1 b=dJ s.1 b)/\
 (∀k,0<=k->k<16->dJ (iN s o λ_=>0).1 (16*eA s o+k)=0)/\(iN s o λ_=>0).1.length=s.1.length/\
 Inv (mB g (eA s o) (some (o,3,0))) (iN s o λ_=>0):=by
 obtain⟨n,K,B,L,M,N⟩:=mW hc I.fz w;have C:eA s o=(n:Int):=L;have D:rj s o=0:=M;have O:=I.len;have P:=I.le;have Q:16*(n:Int)+16<=s.1.length:=by omega
 obtain⟨W,r⟩: ∃W,W=eZ s.1 (n:Int) (λ_=>0) 16:=⟨_,rfl⟩;have E:W.length=s.1.length:=by rw[r,gH]
 have F: ∀b,dJ W b=if 16*(n:Int)<=b/\b<16*(n:Int)+16 then 0 else dJ s.1 b:=λb=>by
  rw[r];exact sN (by omega) Q 16 (BL _) b
 have R:iN s o (λ_=>0)=(W,s.2.set n (3,o,0,0,())):=by unfold iN;rw[az D,C,N,r]
 clear r;have gn:g (n:Int)=none:=by
  cases S:g (n:Int) with
  |none=>rfl
  |some v=>
   obtain⟨a,b,c⟩:=v;have:=(I.kd S).2.2.1;rw[show((n:Int)).toNat=n from rfl,B] at this;cases this
 have t: ∀{f':Int} {v},g f'=some v->f'≠(n:Int):=λh e=>by rw[e,gn] at h;cases h
 rw[R,C];have x: ∀b,(b<16*(n:Int)\/16*(n:Int)+16<=b)->dJ W b=dJ s.1 b:=λb h=>by rw[F b,au (by omega)]
 have y: ∀k,0<=k->k<16->dJ W (16*(n:Int)+k)=0:=λk h0 h1=>by rw[F,az (by omega)]
 have w1: ∀b,(b<16*(n:Int)\/16*(n:Int)+16<=b)->aM W b=aM s.1 b:=λb h=>by unfold aM;rw[x b h]
 have G: ∀k,0<=k->k<16->aM W (16*(n:Int)+k)=zE:=λk h0 h1=>by unfold aM;rw[y k h0 h1];exact oV
 have fa: ∀{f0 l p k:Int} {i:Nat},g f0=some (l,i,p)->0<=k->k<16->aM W (16*f0+k)=aM s.1 (16*f0+k):=λ{f0 l p k i} h h0 h1=>by
  have:=t h;exact w1 _ (by omega)
 refine⟨D,gn,by omega,by omega,rfl,by rw[show((n:Int)).toNat=n from rfl];exact B,x,y,E,?_⟩;refine⟨?_,?_,?_,?_,?_,?_,?_,?_,?_,?_⟩
 ·show 16*(s.2.set n _).length<=W.length;rw[E,B4];exact O
 ·show(s.2.set n _).length<=4096;rw[B4];exact P
 ·intro d z h0;rcases Db z with z|rfl
  ·exact I.fz d z h0
  ·cases h0
 ·intro f0 l i p h;show _/\ _<((s.2.set n (3,o,0,0,())).length:Int)/\(s.2.set n (3,o,0,0,()))[f0.toNat]? = _/\ _;rw[B4];by_cases e:f0=(n:Int)
  ·subst e;rw[bJ] at h;cases h;refine⟨by omega,by omega,?_,w.1,w.2,by omega⟩;rw[show((n:Int)).toNat=n from rfl,CP K]
  ·rw[aX e] at h;obtain⟨a1,T,U,V⟩:=I.kd h;refine⟨a1,T,?_,V⟩;rw[BO (by omega)];exact U
 ·intro a b v q hb;by_cases e:a=(n:Int)<;>by_cases e':b=(n:Int)
  ·rw[e,e']
  ·subst e;rw[bJ] at q;rw[aX e'] at hb;cases q;exact absurd hb (A b)
  ·subst e';rw[bJ] at hb;rw[aX e] at q;cases hb;exact absurd q (A a)
  ·rw[aX e] at q;rw[aX e'] at hb;exact I.inj q hb
 ·intro f0 l i p k h h0 h1 j;by_cases e:f0=(n:Int)
  ·subst e;have j:dG (aM W (16*(n:Int)+k))=true:=j;rw[G k h0 h1,JO] at j;cases j
  ·rw[aX e] at h;have j:dG (aM W (16*f0+k))=true:=j;show∃m,i=m+1/\mB g n _ (aM W (16*f0+k)).2.2.2.1= _;rw[fa h h0 h1] at j ⊢;obtain⟨X,Y,H⟩:=I.rX h h0 h1 j;exact⟨X,Y,by rw[aX (t H)];exact H⟩
 ·intro f0 l i p k h h0 h1;show lf i (aM W (16*f0+k));by_cases e:f0=(n:Int)
  ·subst e;rw[G k h0 h1];exact Du _
  ·rw[aX e] at h;rw[fa h h0 h1];exact I.leaf h h0 h1
 ·intro f0 l i p h Z;by_cases e:f0=(n:Int)
  ·subst e;rw[bJ] at h;cases h;omega
  ·rw[aX e] at h;obtain⟨f',p1,p2⟩:=I.EV h Z;refine⟨f',by rw[aX (t p1)];exact p1,?_⟩;show aM W _= _;rw[fa p1 (by omega) (by omega)];exact p2
 ·intro f0 l i p k h h0 h1 u;show dJ W (16*f0+k)=0;by_cases e:f0=(n:Int)
  ·subst e;exact y k h0 h1
  ·rw[aX e] at h;have u:(aM W (16*f0+k)).1=false:=u;rw[fa h h0 h1] at u;have:=t h;rw[x _ (by omega)];exact I.wf h h0 h1 u
 ·intro J d uh h3;by_cases e:J=n
  ·subst e;exact⟨_,bJ _ _ _⟩
  ·have h':(s.2.set n (3,o,0,0,()))[J]? =some d:=uh;rw[BO (by omega)] at h';obtain⟨v,hv⟩:=I.tb h' h3;exact⟨v,by rw[aX (by omega)];exact hv⟩
end Inv
end Go.Proofs.YtlcenllcmeebhaaGreat
