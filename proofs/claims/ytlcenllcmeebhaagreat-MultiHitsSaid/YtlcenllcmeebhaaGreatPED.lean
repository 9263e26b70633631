import Derived.Test.YtlcenllcmeebhaaGreatPEC
/-! What the statement leans on: texts joined and shortened by a program of mine. -/
set_option linter.unusedVariables false
set_option linter.unusedSimpArgs false
open Go renaming World->A2,Addr->AC,Value->AN,MapEntry->Al
open Go.Proofs.Tryz renaming prog->AA
open Eq renaming mpr->Ak
open Go.IntKind renaming i64->Av
open List renaming range->Ay,length_set->B2,getElem?_eq_some_iff->B3,length_cons->B5,getElem?_set_ne->B9,replicate->BI,getElem?_eq_getElem->BQ,mem_of_getElem?->Bs,sublist_cons_self->C8,mem_append_right->C9,getD_eq_getElem?_getD->CX,perm_middle->DB,getElem?_set_self->DE,length_map->DK,append_nil->Dd,mem_or_eq_of_mem_set->Do,length_append->Ds,mem_cons_self->Dz,getElem?_append_left->E4,mem_cons->F1,mem_singleton->FB,length_take->FM,drop_of_length_le->FN,take_add_one->FO,sublist_append_left->FP,drop_eq_getElem_cons->FS,length_eq_zero_iff->Fv,findIdx?_eq_some_iff_getElem->G1,ext_getElem?->GD,append_assoc->GF,length_pos_iff->GG,length_drop->GH,getElem?_map->GI,getElem?_take_of_lt->GJ,getElem?_drop->GS,take_of_length_le->Ga,all_eq_false->Gd,all_eq_true->Gi,getElem?_of_mem->Gj,take_append_drop->H4,range_succ->H5,foldl_cons->H6,getElem?_append_right->H7,findIdx?_eq_none_iff->HB,eq_of_mem_replicate->Hb
open Int renaming toNat->B1,le_refl->Df,eq_ofNat_of_zero_le->Hr
open Prod.mk renaming injEq->B4
open Nat renaming le_refl->B6,mul_one->DA,eq_of_beq_eq_true->Dk,ne_of_beq_eq_false->Dl,zero_add->FY
open Option.some renaming injEq->B8
open Decidable renaming rec->Bx
open List.Sublist renaming refl->C7
open Go.Value renaming func->Dn,pointer->I1,nilFunc->I2
open Bool renaming or_eq_true->E5,or_eq_false_iff->Fg
open List.Perm renaming swap->Fp,cons->Fu
namespace Go.Proofs.YtlcenllcmeebhaaGreat
set_option maxRecDepth 100000
open Go.RX
abbrev aap:Sh:= .el (.one (.z5 244 2))
abbrev Gf:Sh:= .el (.one (.z5 247 3))
noncomputable def N0:dI AA:={M0 with sh:=[(219,aap),(239,Gf)],quiet:=[117,118,62,30,88,56,215,194,241]}
theorem Lv (p:Option AC) (w:A2) (a:Int->A2->Prop):(aI N0 (λ_=>[]) 88 [ag p] w a)=(
 ((!p.isNone)=true->p.isSome=true)/\((!p.isNone)=true->p.isSome=true)/\aj w (some !p.isNone) (ad p 0) lW λx=>aH (p.isNone||x.isNone) (au w (a 10)) (abZ p 4 w λx=>aH x (au w (a 6)) (au w (a 0)))):=by kernel_rfl
theorem Re (p:Option AC) (w:A2) (a:Int->A2->Prop):(aI N0 (λ_=>[]) 56 [ag p] w a)=(
 ∃(x:Int),af AA 88 [ag p] w (aa x)/\aH (x != 0) (au w (a (-1))) (cL p 3 w λx=>au w (a x))):=by kernel_rfl
theorem Lx (p f r:Int) (w:A2) (a:Int->A2->Prop):(aI N0 (λ_=>[]) 215 [aa p,aa f,aa r] w a)=(
 aH (decide (p<0)||decide (p>=65536)||decide (f<0)||decide (f>=4096)) (au w (a 2)) (aH (decide (r<1)||decide (r>7)) (au w (a 7)) (au w (a 0)))):=by kernel_rfl
theorem Ly (f:Int) (w:A2) (c:(Bool×Int×Bool×Int×Unit)->A2->Prop):(bV N0 (λ_=>[]) 241 [aa f] w c)=(
 aM w ⟨[.bool false,aa 0,.bool false,aa 0]⟩ 130 λb a=>az a (ae b) [.bool true,aa 0,.bool false,aa f] λa=>au a λw1=>aj w1 none (ae b) kj λ(x:Bool×Int×Bool×Int×Unit)=>c (x.1,x.2.1,x.2.2.1,x.2.2.2.1,()) w1):=by kernel_rfl
theorem Lz (p d e f:Int) (ep:Bool) (er:Int) (el:Bool) (ef:Int) (w:A2) (c:Int->A2->Prop):(aI N0 (λ_=>[]) 194 [aa p,.agg ⟨[aa d,aa e,aa f]⟩,.agg ⟨[.bool ep,aa er,.bool el,aa ef]⟩] w c)=(
 aM w ⟨[aa d,aa e,aa f]⟩ 270 λb a=>aM a ⟨[.bool ep,aa er,.bool el,aa ef]⟩ 130 λg a=>true=true/\aW a (ad (ae b) 1) λx=>aH (x==1) (true=true/\aW a (ad (ae g) 3) λx=>True/\gN 1≠0/\au a λw1=>c (aL .i64 x (f_ p (gN 1))) w1) (true=true/\aW a (ad (ae g) 3) λx=>au a (c x))):=by kernel_rfl
theorem O6 (p:Option AC) (i:Int) (w:A2) (c:(Bool×Int×Bool×Int×Unit)->A2->Prop):(bV N0 (λ_=>[]) 235 [ag p,aa i] w c)=(
 aM w ⟨[.bool false,aa 0,.bool false,aa 0]⟩ 130 λb a=>bH p 0 a λx=>aA AA 37 (.bA [.one (.int .u64),.one (.int .i64)]) [ag x,aa i] a λ(x:Int×Int×Unit) a=>U (B x.1)=x.1/\aM a ⟨[.bool false,aa 0,.bool false,aa 0]⟩ 130 λd a=>az a (ae d) [.bool (HZ (B x.1).toNat),aa (FA (B x.1).toNat),.bool (JT (B x.1).toNat),aa (Fi (B x.1).toNat)] λa=>aj a none (ae d) kj λ(x:Bool×Int×Bool×Int×Unit)=>az a (ae b) [.bool x.1,aa x.2.1,.bool x.2.2.1,.int
 .i64 x.2.2.2.1] λa=>au a λw1=>aj w1 none (ae b) kj λ(x:Bool×Int×Bool×Int×Unit)=>c (x.1,x.2.1,x.2.2.1,x.2.2.2.1,()) w1):=by kernel_rfl
theorem U_ (p:Option AC) (i:Int) (ep:Bool) (er:Int) (el:Bool) (ef:Int) (w:A2) (c:Unit->A2->Prop):(aI N0 (λ_=>[]) 222 [ag p,aa i,.agg ⟨[.bool ep,aa er,.bool el,aa ef]⟩] w c)=(
 aM w ⟨[.bool ep,aa er,.bool el,aa ef]⟩ 130 λb a=>aj a none (ae b) kj λ(x:Bool×Int×Bool×Int×Unit)=>True/\bH p 0 a λd=>aA AA 38 (.el aX) [ag d,aa i,ay (Fz x.1 x.2.1 x.2.2.1 x.2.2.2.1)] a λ(x:Int) a=>au a (c ())):=by kernel_rfl
theorem U' (p:Option AC) (pg:Int) (w:A2) (c:Option AC×Option AC×Unit->A2->Prop):(aI N0 (λ_=>[]) 219 [ag p,aa pg] w c)=(
 aM w ⟨[ag p]⟩ 118 λb a=>aM a ⟨[aa pg]⟩ 3 λd a=>au a (c (some ⟨b,0,none⟩,some ⟨d,0,none⟩,()))):=by kernel_rfl
def uh:Nat->a8:=(λ|2=>[(4,Go.RX.El.one (Go.RX.Sc.int Av)),(5,Go.RX.El.one (Go.RX.Sc.int Av))]| _=>[])
theorem Rf (y:Nat) (p c:Option AC) (w:A2) (d:Unit->A2->Prop):(aI N0 uh 244 [.func (.yield y) #[] #[],ag p,ag c] w d)=(
 gf w p λx=>cL x 3 w λx=> ∃(I:Nat->Int×Int×Unit->A2->Prop),(∃n, ∀w1,Ext w w1->I n (x,3,()) w1)/\ ∀(n:Nat) (s:Int×Int×Unit) (w1:A2),I n s w1->aH (decide (s.2.1>=0)) (aW w1 c λx=>True/\aM w1 ⟨[aa 0,aa 0,aa 0]⟩ 270 λb a=>az a (ae b) [aa s.1,aa s.2.1,aa (dZ s.1 x s.2.1)] λa=>gf a p λx=>true=true/\aW a (ad (ae b) 2) λh=>aA AA 235 (.el kj) [ag x,aa h] a λ(x:Bool×Int×Bool×Int×Unit) a=>aM a ⟨[.bool false,
 aa 0,.bool false,aa 0]⟩ 130 λe a=>az a (ae e) [.bool x.1,aa x.2.1,.bool x.2.2.1,aa x.2.2.2.1] λa=>aj a none (ae b) wX λ(x:Int×Int×Int×Unit)=> ∀w1,Ext a w1->mq AA y [.agg ⟨[aa x.1,aa x.2.1,aa x.2.2.1]⟩] w1 λ(b:Bool) a=>aj a (some !!b) (ae e) kj λ(x:Bool×Int×Bool×Int×Unit)=>((!!b)=true->True)/\aH (!b|| !fM x.1 x.2.1 x.2.2.1 x.2.2.2.1) (au a (d ())) (true=true/\aW a (ad (ae e) 3) λx=> ∀f,Ext a f-> ∃(g:Nat),g<n/\
 I g (x,aZ .i64 s.2.1 1,()) f)) (au w1 (d ()))):=by kernel_rfl
def ui:Nat->a8:=(λ|4=>[(6,.agg [.int .i64,.int .i64,.int .i64])]| _=>[])
theorem Rh (p c:Option AC) (w:A2) (e:Option AC×Nat×Nat->A2->Prop):(bV N0 ui 218 [.func (.func 244) #[] #[ag p,ag c]] w e)=(
 aM w ⟨[.slice none 0 0]⟩ 285 λb a=>zX AA 244 (λ(y:Nat)=>[.func (Fn.yield y) ⟨[]⟩ ⟨[]⟩,ag p,ag c]) ⟨[6]⟩ a (λ(x:(Int×Int×Int×Unit)×Unit)=>[.agg ⟨[aa x.1.1,aa x.1.2.1,aa x.1.2.2.1]⟩]) (λ(l:Nat) (rec:Loop) (x:(Int×Int×Int×Unit)×Unit) g (R:Bool->A2->Prop)=>Da l rec [Value.agg ⟨[aa x.1.1,aa x.1.2.1,aa x.1.2.2.1]⟩].length 1 g (aM g ⟨[aa 0,aa 0,aa 0]⟩ 270 λi a=>az a (ae i) [aa x.1.1,aa x.1.2.1,.int .i64
 x.1.2.2.1] λa=>BM l rec a λd=>sU d (ae b) λx=>aj d none (ae i) wX λ(f:Int×Int×Int×Unit)=>aM d ⟨[aa f.1,aa f.2.1,aa f.2.2.1]⟩ 270 λj a=> ∀w1,Ext a w1->mD w1 270 3 24 ⟨[aa 0,aa 0,aa 0]⟩ (x.1,x.2.1,x.2.2) (some ⟨j,0,none⟩,1,1) λ(r:Option AC×Nat×Nat) a=>az a (ae b) [.slice r.1 r.2.1 r.2.2] λa=>sk l rec none a R)) λ(r:Nat) (rec:Loop) k=>dB (r+1) rec
 k (λd=>sU d (ae b) λx=>sq [r] d λw1=>e (x.1,x.2.1,x.2.2) w1) (λ(id:Nat) d=>Bx (λ(h:id=0->False)=>False) (λ(h:id=0)=>sU d (ae b) λx=>sq [r] d λw1=>e (x.1,x.2.1,x.2.2) w1) (match h:id.beq 0 with|true=>isTrue (Dk h)|false=>isFalse (Dl h))) λd=>sq [r] d λw1=>e (none,0,0) w1):=by kernel_rfl
theorem Va (p:Option AC) (pg:Int) (w:A2) (f:(Int×Int×Int×Unit)×(Bool×Int×Bool×Int×Unit)×Unit->A2->Prop):(bV N0 (λ_=>[]) 193 [ag p,aa pg] w f)=(
 aM w ⟨[aa 0,aa 0,aa 0]⟩ 270 λb a=>aM a ⟨[.bool false,aa 0,.bool false,aa 0]⟩ 130 λg a=>aA AA 219 (.el (.one (.z5 244 2))) [ag p,aa pg] a λx a=>aA AA 218 (.el fi) [.func (.func 244) ⟨[]⟩ ⟨[ag x.1,ag x.2.1]⟩] a λx a=>(x.1.isSome=true/\0<=aZ .i64 (↑x.2.1:Int) 1/\aZ .i64 (↑x.2.1:Int) 1<(↑x.2.1:Int))/\aj a none (ad x.1 ((aZ .i64 (↑x.2.1:Int) 1).toNat*3)) wX λ(x:Int×Int×Int×Unit)=>aM a ⟨[aa 0,aa 0,aa 0]⟩ 270 λc
 a=>az a (ae c) [aa x.1,aa x.2.1,aa x.2.2.1] λa=>aj a none (ae c) wX λ(x:Int×Int×Int×Unit)=>true=true/\aW a (ad (ae c) 2) λh=>aA AA 235 (.el kj) [ag p,aa h] a λ(d:Bool×Int×Bool×Int×Unit) a=>cQ a (ae c) wX x/\az a (ae b) [aa x.1,aa x.2.1,aa x.2.2.1] λa=>az a (ae g) [.bool d.1,aa d.2.1,.bool d.2.2.1,aa d.2.2.2.1] λa=>au a λw1=>aj w1 none (ae b) wX λ(x:Int×Int×Int×Unit)=>aj w1
 none (ae g) kj λ(e:Bool×Int×Bool×Int×Unit)=>f ((x.1,x.2.1,x.2.2.1,()),(e.1,e.2.1,e.2.2.1,e.2.2.2.1,()),()) w1):=by kernel_rfl
def qT:Nat->a8:=(λ|5=>[(24,Go.RX.El.one (Go.RX.Sc.int Av))]| _=>[])
theorem LA (p:Option AC) (w:A2) (b:Int×Int×Unit->A2->Prop):(aI N0 qT 205 [ag p,.func (.func 206) #[] #[]] w b)=(
 bH p 1 w λx=>cL p 2 w λf=>aA AA 172 (.bA [.one (.int .i64),.one (.int .i64)]) [ag x,aa 3,aa f] w λ(x:Int×Int×Unit) a=>aH (x.2.1 != 0) (au a (b (0,x.2.1,()))) (∃(I:Nat->Int×Unit->A2->Prop),(∃n, ∀w1,Ext a w1->I n (0,()) w1)/\ ∀(n:Nat) (s:Int×Unit) (w1:A2),I n s w1->aH (decide (s.1<16)) (bH p 0 w1 λc=>aA AA 206 (.el ru) [aa s.1] w1 λ(g:Int) a=>True/\True/\cQ a (ad p 0) lW c/\True/\True/\aA AA 38 (.el aX) [ag c,
 aa (aL .i64 (fy .i64 16 x.1) s.1),ay g] a λ(x:Int) a=> ∀d,Ext a d-> ∃(e:Nat),e<n/\I e (aL .i64 s.1 1,()) d) (au w1 (b (x.1,0,()))))):=by kernel_rfl
def qU:Nat->a8:=(λ|5=>[(24,Go.RX.El.one (Go.RX.Sc.int Av))]| _=>[])
theorem LB (p:Option AC) (w:A2) (b:Int×Int×Unit->A2->Prop):(aI N0 qU 205 [ag p,.func (.func 240) #[] #[]] w b)=(
 bH p 1 w λx=>cL p 2 w λf=>aA AA 172 (.bA [.one (.int .i64),.one (.int .i64)]) [ag x,aa 3,aa f] w λ(x:Int×Int×Unit) a=>aH (x.2.1 != 0) (au a (b (0,x.2.1,()))) (∃(I:Nat->Int×Unit->A2->Prop),(∃n, ∀w1,Ext a w1->I n (0,()) w1)/\ ∀(n:Nat) (s:Int×Unit) (w1:A2),I n s w1->aH (decide (s.1<16)) (bH p 0 w1 λc=>aA AA 240 (.el ru) [aa s.1] w1 λ(g:Int) a=>True/\True/\cQ a (ad p 0) lW c/\True/\True/\aA AA 38 (.el aX) [ag c,
 aa (aL .i64 (fy .i64 16 x.1) s.1),ay g] a λ(x:Int) a=> ∀d,Ext a d-> ∃(e:Nat),e<n/\I e (aL .i64 s.1 1,()) d) (au w1 (b (x.1,0,()))))):=by kernel_rfl
def qV:Nat->a8:=(λ|5=>[(24,Go.RX.El.one (Go.RX.Sc.int Av))]| _=>[])
theorem LC (p e:Option AC) (w:A2) (b:Int×Int×Unit->A2->Prop):(aI N0 qV 205 [ag p,.func (.func 242) #[] #[ag e]] w b)=(
 bH p 1 w λx=>cL p 2 w λg=>aA AA 172 (.bA [.one (.int .i64),.one (.int .i64)]) [ag x,aa 3,aa g] w λ(x:Int×Int×Unit) a=>aH (x.2.1 != 0) (au a (b (0,x.2.1,()))) (∃(I:Nat->Int×Unit->A2->Prop),(∃n, ∀w1,Ext a w1->I n (0,()) w1)/\ ∀(n:Nat) (s:Int×Unit) (w1:A2),I n s w1->aH (decide (s.1<16)) (bH p 0 w1 λc=>aA AA 242 (.el ru) [aa s.1,ag e] w1 λ(h:Int) a=>True/\True/\cQ a (ad p 0) lW c/\True/\True/\aA AA 38 (.el aX)
 [ag c,aa (aL .i64 (fy .i64 16 x.1) s.1),ay h] a λ(x:Int) a=> ∀d,Ext a d-> ∃(f:Nat),f<n/\I f (aL .i64 s.1 1,()) d) (au w1 (b (x.1,0,()))))):=by kernel_rfl
theorem Ri (i:Int) (w:A2) (a:Int->A2->Prop):(aI N0 (λ_=>[]) 206 [aa i] w a)=(
 au w (a 0)):=by kernel_rfl
theorem Rj (i:Int) (w:A2) (a:Int->A2->Prop):(aI N0 (λ_=>[]) 240 [aa i] w a)=(
 au w (a 0)):=by kernel_rfl
theorem Hj (i:Int) (e:Option AC) (w:A2) (a:Int->A2->Prop):(aI N0 (λ_=>[]) 242 [aa i,ag e] w a)=(
 e.isSome=true/\aW w (ad e 1) λx=>e.isSome=true/\aW w (ad e 3) λb=>True/\au w (a (Fz true x false (aL .i64 b i)))):=by kernel_rfl
def wh:Nat->a8:=(λ|6=>[]| _=>[])
theorem Vb (p:Option AC) (pg lv:Int) (ep:Bool) (er:Int) (el:Bool) (ef:Int) (w:A2) (f:Int->A2->Prop):(aI N0 wh 216 [ag p,aa pg,aa lv,.agg ⟨[.bool ep,aa er,.bool el,aa ef]⟩] w f)=(
 aM w ⟨[.bool ep,aa er,.bool el,aa ef]⟩ 130 λb a=>aA AA 193 (.bA [.agg [.int .i64,.int .i64,.int .i64],.agg [.bool,.int .i64,.bool,.int .i64]]) [ag p,aa pg] a λ(x:(Int×Int×Int×Unit)×(Bool×Int×Bool×Int×Unit)×Unit) a=>aM a ⟨[aa 0,aa 0,aa 0]⟩ 270 λc a=>aM a ⟨[.bool false,aa 0,.bool false,aa 0]⟩ 130 λg a=>az a (ae c) [aa x.1.1,aa x.1.2.1,aa x.1.2.2.1] λa=>az a (ae g) [.bool x.2.1.1,aa x.2.1.2.1,.bool
 x.2.1.2.2.1,aa x.2.1.2.2.2.1] λa=>true=true/\uR a (ad (ae g) 0) λx=>((!x)=true->true=true)/\aj a (some !x) (ad (ae c) 1) aX λ(k:Int)=>aH (x||decide (k<lv)) (au a (f 5)) (bH p 1 a λx=> ∃(h:Int),af AA 30 [ag x,aa 0] a (aa h)/\true=true/\aW a (ad (ae c) 1) λx=>aH (decide (h<aZ .i64 x lv)) (au a (f 12)) (∃(I:Nat->Unit->A2->Prop),(∃n, ∀w1,Ext a w1->I n () w1)/\ ∀(n:Nat) (s:Unit) (w1:A2),I n s w1->true=true/\aW w1 (ad
 (ae c) 1) λx=>aH (decide (x>lv)) (aA AA 205 (.bA [.one (.int .i64),.one (.int .i64)]) [ag p,.func (.func 240) ⟨[]⟩ ⟨[]⟩] w1 λ(x:Int×Int×Unit) a=>true=true/\aW a (ad (ae c) 2) λe=> ∃(d:Bool×Int×Bool×Int×Unit),af AA 241 [aa x.1] a (.agg ⟨[.bool d.1,aa d.2.1,.bool d.2.2.1,aa d.2.2.2.1]⟩)/\aA AA 222 (.bA []) [ag p,aa e,.agg ⟨[.bool d.1,aa d.2.1,.bool d.2.2.1,aa d.2.2.2.1]⟩] a λo a=>true=true/\aW a (ad (ae c) 1)
 λl=>true=true/\aW a (ad (ae c) 1) λm=>True/\az a (ae c) [aa x.1,aa (aZ .i64 l 1),aa (dZ x.1 pg (aZ .i64 m 1))] λa=> ∀i,Ext a i-> ∃(j:Nat),j<n/\I j () i) (true=true/\aW w1 (ad (ae c) 2) λx=>aj w1 none (ae b) kj λ(e:Bool×Int×Bool×Int×Unit)=>aA AA 222 (.bA []) [ag p,aa x,.agg ⟨[.bool e.1,aa e.2.1,.bool e.2.2.1,aa e.2.2.2.1]⟩] w1 λx a=>au a (f 0))))):=by kernel_rfl
theorem Vc (p:Option AC) (pg f r:Int) (w:A2) (a:Int->A2->Prop):(aI N0 (λ_=>[]) 173 [ag p,aa pg,aa f,aa r] w a)=(
 ∃(x:Int),af AA 88 [ag p] w (aa x)/\aH (x != 0) (au w (a x)) (∃(x:Int),af AA 215 [aa pg,aa f,aa r] w (aa x)/\aH (x != 0) (au w (a x)) (aA AA 216 (.el aX) [ag p,aa pg,aa 0,.agg ⟨[.bool true,aa r,.bool false,aa f]⟩] w λ(x:Int) b=>au b (a x)))):=by kernel_rfl
theorem LD (p:Option AC) (pg:Int) (w:A2) (c:Int×Int×Int×Unit->A2->Prop):(aI N0 (λ_=>[]) 139 [ag p,aa pg] w c)=(
 ∃(x:Int),af AA 88 [ag p] w (aa x)/\aH (x != 0) (au w (c (0,0,x,()))) (aH (decide (pg<0)||decide (pg>=65536)) (au w (c (0,0,2,()))) (aA AA 193 (.bA [.agg [.int .i64,.int .i64,.int .i64],.agg [.bool,.int .i64,.bool,.int .i64]]) [ag p,aa pg] w λ(x:(Int×Int×Int×Unit)×(Bool×Int×Bool×Int×Unit)×Unit) a=>aM a ⟨[aa 0,aa 0,aa 0]⟩ 270 λb a=>aM a ⟨[.bool false,aa 0,.bool false,aa 0]⟩ 130 λd a=>az a (ae b) [aa x.1.1,.int
 .i64 x.1.2.1,aa x.1.2.2.1] λa=>az a (ae d) [.bool x.2.1.1,aa x.2.1.2.1,.bool x.2.1.2.2.1,aa x.2.1.2.2.2.1] λa=>true=true/\uR a (ad (ae d) 0) λx=>aH (!x) (au a (c (0,0,4,()))) (aj a none (ae b) wX λ(x:Int×Int×Int×Unit)=>aj a none (ae d) kj λ(e:Bool×Int×Bool×Int×Unit)=> ∃(f:Int),af AA 194 [aa pg,.agg ⟨[aa x.1,aa x.2.1,aa x.2.2.1]⟩,.agg ⟨[.bool e.1,aa e.2.1,.bool e.2.2.1,aa e.2.2.2.1]⟩] a (aa f)/\
 true=true/\aW a (ad (ae d) 1) λx=>au a (c (f,x,0,())))))):=by kernel_rfl
theorem LF (p:Option AC) (pg:Int) (w:A2) (d:Int->A2->Prop):(aI N0 (λ_=>[]) 217 [ag p,aa pg] w d)=(
 aA AA 193 (.bA [.agg [.int .i64,.int .i64,.int .i64],.agg [.bool,.int .i64,.bool,.int .i64]]) [ag p,aa pg] w λ(x:(Int×Int×Int×Unit)×(Bool×Int×Bool×Int×Unit)×Unit) a=>aM a ⟨[aa 0,aa 0,aa 0]⟩ 270 λb a=>aM a ⟨[.bool false,aa 0,.bool false,aa 0]⟩ 130 λe a=>az a (ae b) [aa x.1.1,aa x.1.2.1,aa x.1.2.2.1] λa=>az a (ae e) [.bool x.2.1.1,aa x.2.1.2.1,.bool x.2.1.2.2.1,aa x.2.1.2.2.2.1] λa=>true=true/\aW a (ad (ae b) 1)
 λx=>aH (x==0) (au a (d 0)) (aA AA 205 (.bA [.one (.int .i64),.one (.int .i64)]) [ag p,.func (.func 242) ⟨[]⟩ {toList:=[ag (ae e)]}] a λ(x:Int×Int×Unit) a=>aH (x.2.1==0) (true=true/\aW a (ad (ae b) 2) λf=> ∃(c:Bool×Int×Bool×Int×Unit),af AA 241 [aa x.1] a (.agg ⟨[.bool c.1,aa c.2.1,.bool c.2.2.1,aa c.2.2.2.1]⟩)/\aA AA 222 (.bA []) [ag p,aa f,.agg ⟨[.bool c.1,aa c.2.1,.bool c.2.2.1,aa c.2.2.2.1]⟩] a λg a=>
 au a (d x.2.1)) (au a (d x.2.1)))):=by kernel_rfl
def uj:Nat->a8:=(λ|1=>[(4,Go.RX.El.one (Go.RX.Sc.int Av))]|4=>[(26,Go.RX.El.one (Go.RX.Sc.int Av))]| _=>[])
theorem Rk (p q:Option AC) (n c:Nat) (w:A2) (g:Unit->A2->Prop):(aI N0 uj 220 [ag p,.slice q n c] w g)=(
 ∃(I:Nat->Int×Unit->A2->Prop),(∃f, ∀w1,Ext w w1->I f (aZ .i64 (↑n:Int) 1,()) w1)/\ ∀(f:Nat) (s:Int×Unit) (w1:A2),I f s w1->aH (decide (s.1>0)) (bH p 0 w1 λx=>(q.isSome=true/\0<=s.1/\s.1<(↑n:Int))/\(ad q (B1 s.1*3)).isSome=true/\aj w1 none (ad (ad q (B1 s.1*3)) 0) aX λ(j:Int)=>aA AA 45 (.el fi) [ag x,aa (fy .i64 16 j),aa 16] w1 λx a=> ∃(h:Nat->Int×Unit->A2->Prop),(∃n, ∀w1,Ext a w1->h n (0,()) w1)/\ ∀(i:Nat) (b
 :Int×Unit) (w1:A2),h i b w1->aH (decide (b.1<(↑x.2.1:Int))) ((x.1.isSome=true/\0<=b.1/\b.1<(↑x.2.1:Int))/\cK w1 (ad x.1 (B1 b.1*1)) λx=>aH (x != 0) (au w1 (g ())) (∀d,Ext w1 d-> ∃(e:Nat),e<i/\h e (aL .i64 b.1 1,()) d)) (bH p 0 w1 λx=>(q.isSome=true/\0<=aZ .i64 s.1 1/\aZ .i64 s.1 1<(↑n:Int))/\(ad q ((aZ .i64 s.1 1).toNat*3)).isSome=true/\aj w1 none (ad (ad q ((aZ .i64 s.1 1).toNat*3)) 2) aX λ(k:Int)=>aA AA 38 (.el aX) [ag x,.int
 .i64 k,ay 0] w1 λ(x:Int) a=>bH p 1 a λx=>(q.isSome=true/\0<=s.1/\s.1<(↑n:Int))/\(ad q (B1 s.1*3)).isSome=true/\aj a none (ad (ad q (B1 s.1*3)) 0) aX λ(l:Int)=>aA AA 138 (.el aX) [ag x,aa l,aa 5,aa 0] a λ(x:Int) a=> ∀d,Ext a d-> ∃(e:Nat),e<f/\I e (aZ .i64 s.1 1,()) d)) (au w1 (g ()))):=by kernel_rfl
theorem LG (p:Option AC) (pg:Int) (w:A2) (c:Int×Int×Unit->A2->Prop):(aI N0 (λ_=>[]) 175 [ag p,aa pg] w c)=(
 aA AA 139 (.bA [.one (.int .i64),.one (.int .i64),.one (.int .i64)]) [ag p,aa pg] w λ(x:Int×Int×Int×Unit) a=>aH (x.2.2.1 != 0) (au a (c (0,x.2.2.1,()))) (aA AA 217 (.el aX) [ag p,aa pg] a λ(d:Int) a=>aH (d != 0) (au a (c (0,d,()))) (aA AA 219 (.el (.one (.z5 244 2))) [ag p,aa pg] a λe a=>aA AA 218 (.el fi) [.func (.func 244) ⟨[]⟩ ⟨[ag e.1,ag e.2.1]⟩] a λb a=>bH p 0 a λf=>(b.1.isSome=true/\0<=aZ .i64
 (↑b.2.1:Int) 1/\aZ .i64 (↑b.2.1:Int) 1<(↑b.2.1:Int))/\(ad b.1 ((aZ .i64 (↑b.2.1:Int) 1).toNat*3)).isSome=true/\aj a none (ad (ad b.1 ((aZ .i64 (↑b.2.1:Int) 1).toNat*3)) 2) aX λ(g:Int)=>aA AA 38 (.el aX) [ag f,aa g,ay 0] a λ(h:Int) a=>aA AA 220 (.bA []) [ag p,.slice b.1 b.2.1 b.2.2] a λi a=>au a (c (x.1,0,()))))):=by kernel_rfl
theorem Rl (p:Option AC) (pg r:Int) (w:A2) (c:Int->A2->Prop):(aI N0 (λ_=>[]) 177 [ag p,aa pg,aa r] w c)=(
 ∃(x:Int),af AA 88 [ag p] w (aa x)/\aH (x != 0) (au w (c x)) (∃(x:Int),af AA 215 [aa pg,aa 0,aa r] w (aa x)/\aH (x != 0) (au w (c x)) (aA AA 193 (.bA [.agg [.int .i64,.int .i64,.int .i64],.agg [.bool,.int .i64,.bool,.int .i64]]) [ag p,aa pg] w λ(x:(Int×Int×Int×Unit)×(Bool×Int×Bool×Int×Unit)×Unit) a=>aM a ⟨[aa 0,aa 0,aa 0]⟩ 270 λb a=>aM a ⟨[.bool false,aa 0,.bool false,aa 0]⟩ 130 λd a=>az a (ae b)
 [aa x.1.1,aa x.1.2.1,aa x.1.2.2.1] λa=>az a (ae d) [.bool x.2.1.1,aa x.2.1.2.1,.bool x.2.1.2.2.1,aa x.2.1.2.2.2.1] λa=>true=true/\uR a (ad (ae d) 0) λx=>aH (!x) (au a (c 4)) (true=true/\uR a (ad (ae d) 2) λx=>(x=true->true=true)/\aj a (some x) (ad (ae d) 1) aX λ(g:Int)=>aH (x&&g==r) (au a (c 0)) (aj a none (ae b) wX λ(x:Int×Int×Int×Unit)=>aj a none (ae d) kj λ(e:Bool×Int×Bool×Int×Unit)=> ∃(f:Int),af AA 194
 [aa pg,.agg ⟨[aa x.1,aa x.2.1,aa x.2.2.1]⟩,.agg ⟨[.bool e.1,aa e.2.1,.bool e.2.2.1,aa e.2.2.2.1]⟩] a (aa f)/\aA AA 217 (.el aX) [ag p,aa pg] a λ(x:Int) a=>aH (x != 0) (au a (c x)) (aA AA 193 (.bA [.agg [.int .i64,.int .i64,.int .i64],.agg [.bool,.int .i64,.bool,.int .i64]]) [ag p,aa pg] a λ(x:(Int×Int×Int×Unit)×(Bool×Int×Bool×Int×Unit)×Unit) a=>az a (ae b) [aa x.1.1,aa x.1.2.1,aa x.1.2.2.1] λa=>true=
 true/\aW a (ad (ae b) 2) λx=>aA AA 222 (.bA []) [ag p,aa x,.agg ⟨[.bool true,aa r,.bool false,aa f]⟩] a λx a=>au a (c 0))))))):=by kernel_rfl
theorem Ba (p:Option AC) (f lv:Int) (w:A2) (c:Option AC×Option AC×Option AC×Unit->A2->Prop):(aI N0 (λ_=>[]) 239 [ag p,aa f,aa lv] w c)=(
 aM w ⟨[ag p]⟩ 118 λb a=>aM a ⟨[aa f]⟩ 3 λd a=>aM a ⟨[aa lv]⟩ 3 λe a=>au a (c (some ⟨d,0,none⟩,some ⟨b,0,none⟩,some ⟨e,0,none⟩,()))):=by kernel_rfl
def qW:Nat->a8:=(λ|4=>[(6,.one (.int .i64))]| _=>[])
theorem LH (p c d:Option AC) (w:A2) (f:Option AC×Nat×Nat->A2->Prop):(bV N0 qW 238 [.func (.func 247) #[] #[ag p,ag c,ag d]] w f)=(
 aM w ⟨[.slice none 0 0]⟩ 39 λb e=>zX AA 247 (λ(y:Nat)=>[.func (Fn.yield y) ⟨[]⟩ ⟨[]⟩,ag p,ag c,ag d]) ⟨[6]⟩ e (λ(x:Int×Unit)=>[aa x.1]) (λ(l:Nat) (rec:Loop) (x:Int×Unit) i (R:Bool->A2->Prop)=>Da l rec [aa x.1].length 1 i (BM l rec i λa=>sU a (ae b) λg=>aM a ⟨[aa x.1]⟩ 3 λj e=> ∀w1,Ext e w1->mD w1 3 1 8 ⟨[aa 0]⟩ (g.1,g.2.1,g.2.2) (some ⟨j,0,none⟩,1,1) λ(r:Option AC×Nat×Nat) e=>az e (some ⟨b,0,
 none⟩) [.slice r.1 r.2.1 r.2.2] λe=>sk l rec none e R)) λ(r:Nat) (rec:Loop) k=>dB (r+1) rec k (λa=>sU a (ae b) λx=>sq [r] a λw1=>f (x.1,x.2.1,x.2.2) w1) (λ(id:Nat) a=>Bx (λ(h:id=0->False)=>False) (λ(h:id=0)=>sU a (ae b) λx=>sq [r] a λw1=>f (x.1,x.2.1,x.2.2) w1) (match h:id.beq 0 with|true=>isTrue (Dk h)|false=>isFalse (Dl h))) λa=>sq [r] a λw1=>f (none,0,0)
 w1):=by kernel_rfl
def wi:Nat->a8:=(λ|5=>[(18,Go.RX.El.one (Go.RX.Sc.int Av))]|8=>[(5,Go.RX.El.one (Go.RX.Sc.int Av))]| _=>[])
theorem Vd (p:Option AC) (w:A2) (e:Option AC×Nat×Nat->A2->Prop):(aI N0 wi 214 [ag p] w e)=(
 ∃(x:Int),af AA 88 [ag p] w (aa x)/\aH (x != 0) (au w (e (none,0,0))) (cL p 3 w λx=>aA AA 239 (.el (.one (.z5 247 3))) [ag p,aa x,aa 3] w λx b=>aA AA 238 (.el fi) [.func (.func 247) ⟨[]⟩ ⟨[ag x.1,ag x.2.1,ag x.2.2.1]⟩] b λx b=> ∃(I:Nat->Int×Unit->A2->Prop),(∃n, ∀w1,Ext b w1->I n (0,()) w1)/\ ∀(n:Nat) (s:Int×Unit) (w1:A2),I n s w1->aH (decide (s.1<(↑x.2.1:Int))) (∃(f:Nat->Int×Unit->A2->Prop),(∃n, ∀g,Ext w1 g->f
 n (s.1,()) g)/\ ∀(h:Nat) (a:Int×Unit) (w1:A2),f h a w1->(decide (a.1>0)=true->x.1.isSome=true/\0<=aZ .i64 a.1 1/\aZ .i64 a.1 1<(↑x.2.1:Int))/\aj w1 (some (decide (a.1>0))) (ad x.1 ((aZ .i64 a.1 1).toNat*1)) aX λ(i:Int)=>(decide (a.1>0)=true->x.1.isSome=true/\0<=a.1/\a.1<(↑x.2.1:Int))/\aj w1 (some (decide (a.1>0))) (ad x.1 (B1 a.1*1)) aX λ(j:Int)=>aH (decide (a.1>0)&&decide (i>j)) ((x.1.isSome=true/\0<=a.1/\a.1<(↑x.2.1:Int))/\aW w1
 (ad x.1 (B1 a.1*1)) λk=>(x.1.isSome=true/\0<=aZ .i64 a.1 1/\aZ .i64 a.1 1<(↑x.2.1:Int))/\aj w1 none (ad x.1 ((aZ .i64 a.1 1).toNat*1)) aX λ(l:Int)=>(x.1.isSome=true/\0<=aZ .i64 a.1 1/\aZ .i64 a.1 1<(↑x.2.1:Int))/\az w1 (ad x.1 ((aZ .i64 a.1 1).toNat*1)) [aa k] λb=>(x.1.isSome=true/\0<=a.1/\a.1<(↑x.2.1:Int))/\az b (ad x.1 (B1 a.1*1)) [aa l] λb=> ∀c,Ext b c-> ∃(d:Nat),d<h/\f d (aZ .i64 a.1 1,()) c) (∀c,Ext w1 c-> ∃(d
 :Nat),d<n/\I d (aL .i64 s.1 1,()) c)) (au w1 (e (x.1,x.2.1,x.2.2))))):=by kernel_rfl
def uk:Nat->a8:=(λ|5=>[(13,Go.RX.El.one (Go.RX.Sc.int Av))]| _=>[])
theorem Rm (p:Option AC) (w:A2) (b:Option AC×Nat×Nat->A2->Prop):(aI N0 uk 171 [ag p] w b)=(
 ∃(x:Int),af AA 88 [ag p] w (aa x)/\aH (x != 0) (au w (b (none,0,0))) (aA AA 214 (.el fi) [ag p] w λx a=> ∃(I:Nat->Int×Unit->A2->Prop),(∃n, ∀w1,Ext a w1->I n (0,()) w1)/\ ∀(n:Nat) (s:Int×Unit) (w1:A2),I n s w1->aH (decide (s.1<(↑x.2.1:Int))) ((x.1.isSome=true/\0<=s.1/\s.1<(↑x.2.1:Int))/\aW w1 (ad x.1 (B1 s.1*1)) λx=>bH p 1 w1 λe=>aA AA 138 (.el aX) [ag e,aa x,aa 5,aa 0] w1 λ(x:Int) a=> ∀c,Ext a c-> ∃(d
 :Nat),d<n/\I d (aL .i64 s.1 1,()) c) (p.isSome=true/\p.isSome=true/\az w1 (ad p 4) [.bool true] λa=>au a (b (x.1,x.2.1,x.2.2))))):=by kernel_rfl
theorem Ve (m p:Option AC) (o:Int) (w:A2) (c:Option AC×Int×Unit->A2->Prop):(aI N0 (λ_=>[]) 164 [ag m,ag p,aa o] w c)=(
 ∃(x:Int),af AA 117 [ag m] w (aa x)/\ ∃(d:Int),((!x==0)=true->af AA 62 [ag p] w (aa d))/\ ∃(e:Int),((!(x==0||d==0))=true->af AA 117 [ag m] w (aa e))/\ ∃(f:Int),((!(x==0||d==0))=true->af AA 62 [ag p] w (aa f))/\aH (x==0||d==0||decide (e<fy .i64 16 f)) (au w (c (none,1,()))) (aM w ⟨[ag m,ag p,aa o,aa 0,.bool false]⟩ 188 λb a=>aA AA 205 (.bA [.one (.int .i64),.one (.int
 .i64)]) [ag (ae b),.func (.func 206) ⟨[]⟩ ⟨[]⟩] a λ(x:Int×Int×Unit) a=>aH (x.2.1 != 0) (au a (c (none,x.2.1,()))) (true=true/\true=true/\az a (ad (ae b) 3) [aa x.1] λa=>au a (c (some ⟨b,0,none⟩,0,()))))):=by kernel_rfl
theorem LI (p:Option AC) (i n:Int) (w:A2) (a:Option AC×Nat×Nat->A2->Prop):(aI N0 (λ_=>[]) 45 [ag p,aa i,aa n] w a)=(
 aH p.isNone (au w (a (none,0,0))) (p.isSome=true/\p.isSome=true/\aj w none (ad p 0) (.agg [.slice]) λx=>aA AA 80 (.el fi) [.agg ⟨[.slice x.1.1 x.1.2.1 x.1.2.2]⟩,aa i,aa n] w λx b=>au b (a (x.1,x.2.1,x.2.2)))):=by kernel_rfl
theorem Vf (p:Option AC) (n c:Nat) (i k:Int) (w:A2) (Post:Option AC×Nat×Nat->A2->Prop):(aI N0 (λ_=>[]) 80 [.agg ⟨[.slice p n c]⟩,aa i,aa k] w Post)=(
 aM w ⟨[.slice p n c]⟩ 157 λb a=>((!(decide (k<1)||decide (i<0)))=true->true=true)/\aj a (some !(decide (k<1)||decide (i<0))) (ad (ae b) 0) (.one .slice) λx=>((!(decide (k<1)||decide (i<0)||decide (i>(↑x.2.1:Int))))=true->true=true)/\aj a (some !(decide (k<1)||decide (i<0)||decide (i>(↑x.2.1:Int)))) (ad (ae b) 0) (.one .slice) λe=>aH (decide (k<1)||decide (i<0)||decide (i>(↑x.2.1:Int))||decide (k>aZ .i64 (↑e.2.1:Int) i)) (au a λw1=>Post (none,0,0) w1) (Nx a 8
 1 k k ⟨[ay 0]⟩ 29 λd a=>true=true/\aj a none (ad (ae b) 0) (.one .slice) λx=>(0<=i/\i<=(↑x.2.1:Int)/\(↑x.2.1:Int)<=(↑x.2.2:Int)/\(↑x.2.2:Int)<=(↑x.2.2:Int))/\ ∀w1,Ext a w1->cpR w1 1 (some ⟨d,0,none⟩,k.toNat) (Bx (λ(h:(↑x.2.2:Int).toNat=i.toNat->False)=>ad x.1 (i.toNat*1)) (λ(h:(↑x.2.2:Int).toNat=i.toNat)=>x.1) (instDecidableEqNat (↑x.2.2:Int).toNat i.toNat),(↑x.2.1:Int).toNat - i.toNat) λ(r:Int) a=>au a λw1=>Post (some ⟨d,0,none⟩,k.toNat,k.toNat) w1)):=by
 kernel_rfl
end Go.Proofs.YtlcenllcmeebhaaGreat
namespace Go.Proofs.YtlcenllcmeebhaaGreat.D
set_option maxRecDepth 100000
open Go.RX
noncomputable def E3:dI AA:={E0 with quiet:=[62,30,25]}
section
variable {D G:List Nat} {w0 w:A2} {L:List (Nat×List AN)}
theorem Vg (H:aJ D G w0 w L) (i j:Nat) {bp bf n c:Nat} {ds:List DT} {rest:List AN} (b:L[i]? =some (bp,[.slice (ae bf) n c])) (a:L[j]? =some (bf,flat eD ds++rest)) (e:i≠j) (g:n=ds.length) (l:0<n) (h:n<=4096) (f y o:Int) {K:Int->A2->Prop}
 (k: ∀d,aJ D G w0 d (L.set j (bf,flat eD (dJ ds f (aO y o))++rest))->K (vq ds f (aO y o)) d):aA AA 138 (.el (.one (.int .i64))) [ag (ae bp),aa f,aa y,aa o] w K:=by
 subst g;exact aA.Dp H j a (λw1 H=>Ct (H.get b) (H.get a) (H.ne b a e) h f y o) k
theorem Vh (H:aJ D G w0 w L) (i j:Nat) {bp bf n c:Nat} {ds:List DT} {rest:List AN} (b:L[i]? =some (bp,[.slice (ae bf) n c])) (a:L[j]? =some (bf,flat eD ds++rest)) (e:i≠j) (g:n=ds.length) (l:0<n) (h:n<=4096) (f x:Int) (hi: -9223372036854775808<=x/\x<9223372036854775808) {K:Int->A2->Prop}
 (k: ∀d,aJ D G w0 d (L.set j (bf,flat eD (dJ ds f (g_ x))++rest))->K (vq ds f (g_ x)) d):aA AA 183 (.el (.one (.int .i64))) [ag (ae bp),aa f,aa x] w K:=by
 subst g;exact aA.Dp H j a (λw1 H=>UY (H.get b) (H.get a) (H.ne b a e) h f x hi) k
theorem Vi (H:aJ D G w0 w L) (i j:Nat) {bp bf n c:Nat} {ds:List DT} {rest:List AN} (b:L[i]? =some (bp,[.slice (ae bf) n c])) (a:L[j]? =some (bf,flat eD ds++rest)) (e:i≠j) (g:n=ds.length) (l:0<n) (h:n<=4096) (f:Int) {K:Int->A2->Prop}
 (k: ∀d,aJ D G w0 d (L.set j (bf,flat eD (dJ ds f (aO 0 0))++rest))->K (vq ds f (aO 0 0)) d):aA AA 79 (.el (.one (.int .i64))) [ag (ae bp),aa f] w K:=by
 subst g;exact aA.Dp H j a (λw1 H=>UZ (H.get b) (H.get a) (H.ne b a e) h f) k
theorem Vj (H:aJ D G w0 w L) (i j:Nat) {bp bf n c:Nat} {ds:List DT} {rest:List AN} (b:L[i]? =some (bp,[.slice (ae bf) n c])) (a:L[j]? =some (bf,flat eD ds++rest)) (e:i≠j) (f:n=ds.length) (h:0<n) (g:n<=4096) (y o:Int) {K:Int×Int×Unit->A2->Prop}
 (k: ∀d,aJ D G w0 d (L.set j (bf,flat eD (dF ds y o)++rest))->K (ff ds y o,dS ds y o,()) d):aA AA 172 (.bA [.one (.int .i64),.one (.int .i64)]) [ag (ae bp),aa y,aa o] w K:=by
 subst f;exact aA.Dp H j a (λw1 H=>U9 (H.get b) (H.get a) (H.ne b a e) rfl g y o) k
theorem aa9 (H:aJ D G w0 w L) (i:Nat) {bp n c:Nat} {a:Option AC} (b:L[i]? =some (bp,[.slice a n c])):af AA 62 [ag (ae bp)] w (aa (n:Int)):=
 af.of (s:= .el (.one (.int .i64))) λw' h=>rQ ((H.get b).ext h)
theorem Vk (H:aJ D G w0 w L) (i j:Nat) {bp bf n c:Nat} {ds:List DT} {rest:List AN} (a:L[i]? =some (bp,[.slice (ae bf) n c])) (b:L[j]? =some (bf,flat eD ds++rest)) (d:n=ds.length) (e:n<=4096) (v:Int):
 af AA 30 [ag (ae bp),aa v] w (aa (cd ds v:Nat)):=
 af.of (s:= .el (.one (.int .i64))) λw' h=>Eg ((H.get a).ext h) ((H.get b).ext h) d e v
theorem ab6 (H:aJ D G w0 w L) (i j:Nat) {bp bf n c:Nat} {ds:List DT} {rest:List AN} (a:L[i]? =some (bp,[.slice (ae bf) n c])) (b:L[j]? =some (bf,flat eD ds++rest)) (d:n=ds.length) (f:Int):
 af AA 25 [ag (ae bp),aa f] w ((Sh.bA [eD,.one .bool]).gZ (qt ds f,BP ds f,())):=by
 subst d;exact af.of (s:= .bA [eD,.one .bool]) λw' h=>O5 ((H.get a).ext h) ((H.get b).ext h) f
theorem Rn (H:aJ D G w0 w L) (i j:Nat) {bp bf n c:Nat} {ds:List DT} {rest:List AN} (b:L[i]? =some (bp,[.slice (ae bf) n c])) (d:L[j]? =some (bf,flat eD ds++rest)) (e:n=ds.length) (f:n<=4096) (v:Int) {K:Option AC×Nat×Nat->A2->Prop}
 (k: ∀r rows a,aJ D G w0 a (L++rows)->n_ eI rows r ((fW ds v).map λi=>((i:Nat):Int))->K r a):aA AA 166 (.el (.one .slice)) [ag (ae bp),aa v] w K:=
 aA.Yo H (λw1 H=>Rb (H.get b) (H.get d) e f v) k
end
end Go.Proofs.YtlcenllcmeebhaaGreat.D
namespace Go.Proofs.YtlcenllcmeebhaaGreat
set_option maxRecDepth 100000
open Go.RX D
abbrev ET:Type:=Bool×Int×Bool×Int×Unit
abbrev PT:Type:=Int×Int×Int×Unit
abbrev sEn:List Sc:=[.bool,.int .i64,.bool,.int .i64]
abbrev Tu:List Sc:=[.int .i64,.int .i64,.int .i64]
def zE:ET:=(false,0,false,0,())
def eY (v:Int):ET:=(HZ (B v).toNat,FA (B v).toNat,JT (B v).toNat,Fi (B v).toNat,())
def dK (e:ET):Bool:=fM e.1 e.2.1 e.2.2.1 e.2.2.2.1
def Tb (e:ET):Int:=Fz e.1 e.2.1 e.2.2.1 e.2.2.2.1
def cv (f:Int):ET:=(true,0,false,f,())
def aK (ws:List Int) (i:Int):ET:=eY (dv ws i)
def dj (ws:List Int) (pg:Int):Nat->Int->List PT
 |0,f=>[(f,0,dZ f pg 0,())]
 |l+1,f=>(f,((l+1:Nat):Int),dZ f pg ((l+1:Nat):Int),())::if dK (aK ws (dZ f pg ((l+1:Nat):Int)))=true then dj ws pg l (aK ws (dZ f pg ((l+1:Nat):Int))).2.2.2.1 else[]
theorem xE (ws:List Int) (pg:Int) (l:Nat) (f:Int):dj ws pg l f≠[]:=by cases l<;>simp[dj]
theorem tD (ws:List Int) (pg:Int): ∀(l:Nat) (f:Int),(dj ws pg l f).length<=l+1
 |0,f=>by simp[dj]
 |l+1,f=>by
  rw[dj];split
  ·have:=tD ws pg l (aK ws (dZ f pg ((l+1:Nat):Int))).2.2.2.1;simp only[B5];omega
  ·simp
def dD (ws:List Int) (r pg:Int):PT:=(dj ws pg 3 r).getLastD (0,0,0,())
def cR (ws:List Int) (r pg:Int):ET:=aK ws (dD ws r pg).2.2.1
def eZ (ws:List Int) (f:Int) (g:Int->Int):Nat->List Int
 |0=>ws
 |i+1=>dO (eZ ws f g i) (16*f+(i:Int)) (g i)
theorem gK (ws:List Int) (f:Int) (g:Int->Int): ∀n,(eZ ws f g n).length=ws.length
 |0=>rfl
 |n+1=>by rw[eZ,cF,gK ws f g n]
abbrev WD:Type:=List Int×List DT
def eK (s:WD) (o:Int):Int:=ff s.2 3 o
def rk (s:WD) (o:Int):Int:=dS s.2 3 o
def iT (s:WD) (o:Int) (g:Int->Int):WD:=(if rk s o=0 then eZ s.1 (eK s o) g 16 else s.1,dF s.2 3 o)
def dR (s:WD) (i:Int) (e:ET):WD:=(dO s.1 i (Tb e),s.2)
def qL (o pg:Int):Nat->WD×PT->WD×PT
 |0,x=>x
 |n+1,x=>qL o pg n (dR (iT x.1 o λ_=>0) x.2.2.2.1 (cv (eK x.1 o)),(eK x.1 o,x.2.2.1 - 1,dZ (eK x.1 o) pg (x.2.2.1 - 1),()))
def k8 (s:WD) (r pg lv:Int):Int:=
 if((cR s.1 r pg).1||decide ((dD s.1 r pg).2.1<lv))=true then 5
 else if(cd s.2 0:Int)<(dD s.1 r pg).2.1 - lv then 12 else 0
def rD (s:WD) (o r pg lv:Int) (e:ET):WD:=
 if k8 s r pg lv=0 then dR (qL o pg ((dD s.1 r pg).2.1 - lv).toNat (s,dD s.1 r pg)).1 (qL o pg ((dD s.1 r pg).2.1 - lv).toNat (s,dD s.1 r pg)).2.2.2.1 e else s
def lh (pg f rt:Int):Int:=if pg<0\/pg>=65536\/f<0\/f>=4096 then 2 else if rt<1\/rt>7 then 7 else 0
def kl (s:WD) (r:Int) (gone:Bool) (pg f rt:Int):Int:=if gone=true then 6 else if lh pg f rt=0 then k8 s r pg 0 else lh pg f rt
def jE (s:WD) (o r:Int) (gone:Bool) (pg f rt:Int):WD:=if gone=true then s else if lh pg f rt=0 then rD s o r pg 0 (true,rt,false,f,()) else s
def qy (pg:Int) (x:PT) (e:ET):Int:=if x.2.1=1 then e.2.2.2.1+pg % 16 else e.2.2.2.1
def bu (s:WD) (r:Int) (gone:Bool) (pg:Int):Int×Int×Int×Unit:=
 if gone=true then(0,0,6,()) else if pg<0\/pg>=65536 then(0,0,2,())
 else if(cR s.1 r pg).1=true then(qy pg (dD s.1 r pg) (cR s.1 r pg),(cR s.1 r pg).2.1,0,()) else(0,0,4,())
def oy (e:ET) (i:Int):Int:=Tb (true,e.2.1,false,e.2.2.2.1+i,())
def mn (s:WD) (o r pg:Int):Int:=if(dD s.1 r pg).2.1=0 then 0 else rk s o
def fm (s:WD) (o r pg:Int):WD:=
 if(dD s.1 r pg).2.1=0 then s
 else if rk s o=0 then dR (iT s o (oy (cR s.1 r pg))) (dD s.1 r pg).2.2.1 (cv (eK s o)) else iT s o (oy (cR s.1 r pg))
def jF (ws:List Int) (i n:Int):List Int:=if n<1\/i<0\/i>ws.length\/n>ws.length - i then[] else(ws.drop i.toNat).take n.toNat
def xd (ws:List Int) (f:Int):Bool:=(jF ws (16*f) 16).all λv=>v==0
def jv:List PT->WD->WD
 |x::y::l,s=>if xd s.1 x.1=true then jv (y::l) (dO s.1 y.2.2.1 0,dJ s.2 x.1 (aO 5 0)) else s
 | _,s=>s
def BZ (s:WD) (o r:Int) (gone:Bool) (pg:Int):Int:=if(bu s r gone pg).2.2.1=0 then mn s o r pg else(bu s r gone pg).2.2.1
def FQ (s:WD) (o r:Int) (gone:Bool) (pg:Int):Int:=if BZ s o r gone pg=0 then(bu s r gone pg).1 else 0
def nj (s:WD) (o r:Int) (gone:Bool) (pg:Int):WD:=
 if(bu s r gone pg).2.2.1=0 then
  if mn s o r pg=0 then jv (dj (fm s o r pg).1 pg 3 r).reverse (dO (fm s o r pg).1 (dD (fm s o r pg).1 r pg).2.2.1 0,(fm s o r pg).2)
  else fm s o r pg
 else s
def FR (s:WD) (o r:Int) (gone:Bool) (pg rt:Int):Int:=
 if gone=true then 6 else if lh pg 0 rt=0 then(if(cR s.1 r pg).1=true then(if((cR s.1 r pg).2.2.1&&(cR s.1 r pg).2.1==rt)=true then 0 else mn s o r pg) else 4) else lh pg 0 rt
def rE (s:WD) (o r:Int) (gone:Bool) (pg rt:Int):WD:=
 if gone=true then s else if lh pg 0 rt=0 then(if(cR s.1 r pg).1=true then(if((cR s.1 r pg).2.2.1&&(cR s.1 r pg).2.1==rt)=true then s
  else if mn s o r pg=0 then dR (fm s o r pg) (dD (fm s o r pg).1 r pg).2.2.1 (true,rt,false,qy pg (dD s.1 r pg) (cR s.1 r pg),()) else fm s o r pg) else s) else s
def cU (ws:List Int):Nat->Int->List Int
 |0,f=>[f]
 |l+1,f=>f::(Ay 16).flatMap λ(i:Nat)=>if dK (aK ws (16*f+(i:Int)))=true then cU ws l (aK ws (16*f+(i:Int))).2.2.2.1 else[]
def jG (x:Int):List Int->List Int
 |[]=>[x]
 |y::l=>if y>x then y::jG x l else x::y::l
def mN (l:List Int):List Int:=(l.foldl (λa x=>jG x a) []).reverse
def mO (s:WD) (r:Int) (gone:Bool):List Int:=if gone=true then[] else mN (cU s.1 3 r)
def cG (s:WD) (r:Int) (gone:Bool):WD:=if gone=true then s else(s.1,(mO s r gone).foldl (λds f=>dJ ds f (aO 5 0)) s.2)
structure Sys where
 bm:Nat
 bw:Nat
 bf:Nat
 bp:Nat
 c:Nat
 cp:Nat
 rw:List AN
 rf:List AN
def Sys.L (Q:Sys) (ca la:Int) (s:WD) (L0:List (Nat×List AN)):List (Nat×List AN):=
 (Q.bm,l5 Q.bw s.1.length Q.c ca la)::(Q.bw,flat eW s.1++Q.rw)::(Q.bf,flat eD s.2++Q.rf)::(Q.bp,[.slice (ae Q.bf) s.2.length Q.cp])::L0
structure bj (Q:Sys) (D G:List Nat) (w0 w:A2) (s:WD) (L0:List (Nat×List AN)):Prop where
 pos:0<s.1.length
 FU:0<s.2.length
 le:s.2.length<=4096
 Z':okW s.1
 kn: ∃ca la,aJ D G w0 w (Q.L ca la s L0)
abbrev oH (Q:Sys) (o r:Int) (gone:Bool):List AN:=[ag (ae Q.bm),ag (ae Q.bp),aa o,aa r,.bool gone]
theorem Zo {ws:List Int} (h:okW ws) (i v:Int) (hv:0<=v/\v<18446744073709551616):okW (dO ws i v):=by
 intro x a;unfold dO at a;split at a
 ·rcases Do a with a|rfl
  ·exact h x a
  ·exact hv
 ·exact h x a
theorem O7 (p:Bool) (r:Int) (l:Bool) (f:Int):0<=Fz p r l f/\Fz p r l f<18446744073709551616:=by
 unfold Fz;split
 ·rename_i h;unfold vC;cases p with
  |false=>
   unfold bT at h;simp at h;obtain⟨⟨h1,a⟩,b⟩:=h;subst h1;subst a;subst b;decide
  |true=>
   unfold bT at h;simp at h;have d:(nB l:Int)<=1:=by cases l<;>decide
   have e:0<=(nB l:Int):=by omega
   have c:(nB true:Int)=1:=rfl;rw[c];omega
 ·exact⟨by decide,by decide⟩
theorem I5 (n:Nat):0<=Fi n/\Fi n<4096:=by
 unfold Fi;split<;>omega
section
variable {Q:Sys} {D G:List Nat} {w0 w w1:A2} {s:WD} {L0 L1:List (Nat×List AN)}
namespace bj
theorem ext (S:bj Q D G w0 w s L0) (h:Ext w w1):bj Q D G w0 w1 s L0:=by
 obtain⟨h1,a,b,c,ca,la,H⟩:=S;exact⟨h1,a,b,c,ca,la,H.ext h⟩
theorem al (S:bj Q D G w0 w s L0) {cs:List AN} {e:TypeId} {K:Nat->A2->Prop} (k: ∀b w1,bj Q D G w0 w1 s ((b,cs)::L0)->K b w1):aM w ⟨cs⟩ e K:=by
 obtain⟨h1,a,c,d,ca,la,H⟩:=S;exact aM.go H λb w1 H=>k b w1 ⟨h1,a,c,d,ca,la,H.perm (DB (l₁:=[_, _, _, _]))⟩
theorem en (S:bj Q D G w0 w s L0) {K:A2->Prop} (k: ∀w1,bj Q D G w0 w1 s L0->K w1):au w K:=λ_ h=>k _ (S.ext h)
theorem get (S:bj Q D G w0 w s L0) {i b:Nat} {l:List AN} (h:L0[i]? =some (b,l)):bN w b l:=by
 obtain⟨h1,a,c,d,ca,la,H⟩:=S;exact H.get (i:=i+4) h
theorem ld (i:Nat) (S:bj Q D G w0 w s L0) {g:Option Bool} {el:El} {K:el.T->Prop} {b o:Nat} {l:List AN} {x:el.T} (a:L0[i]? =some (b,l)) (hv:k_ l o el=some x) (k:K x):aj w g (some ⟨b,o,none⟩) el K:=
 .of x (dU (S.get a) hv) k
theorem cH (i:Nat) (S:bj Q D G w0 w s L0) {g:Option Bool} {el:El} {K:el.T->Prop} {b o n:Nat} {l:List AN} {x:el.T} (a:L0[i]? =some (b,l)) (hv:k_ l (o+n) el=some x) (k:K x):aj w g (ad (some ⟨b,o,none⟩) n) el K:=by
 rw[aY];exact .of x (dU (S.get a) hv) k
theorem fg (i:Nat) (S:bj Q D G w0 w s L0) {b:Nat} {l vs:List AN} {K:A2->Prop} (a:L0[i]? =some (b,l)) (c:vs.all (·.oneCell')=true) (d:vs.length=l.length)
 (k: ∀w1,bj Q D G w0 w1 s (L0.set i (b,vs))->K w1):az w (ae b) vs K:=by
 obtain⟨h1,e,f,g,ca,la,H⟩:=S;exact az.all (i+4) H a c d λw1 H=>k w1 ⟨h1,e,f,g,ca,la,H⟩
theorem aa_ (i:Nat) (S:bj Q D G w0 w s L0) {b o:Nat} {l:List AN} {x:AN} {K:A2->Prop} (a:L0[i]? =some (b,l)) (c:x.oneCell'=true) (d:Nat.blt o l.length=true)
 (k: ∀w1,bj Q D G w0 w1 s (L0.set i (b,l.set o x))->K w1):az w (some ⟨b,o,none⟩) [x] K:=by
 obtain⟨h1,e,f,g,ca,la,H⟩:=S;exact az.one (i+4) H a c d λw1 H=>k w1 ⟨h1,e,f,g,ca,la,H⟩
theorem Cj (i:Nat) (S:bj Q D G w0 w s L0) {b o n:Nat} {l:List AN} {x:AN} {K:A2->Prop} (a:L0[i]? =some (b,l)) (c:x.oneCell'=true) (d:Nat.blt (o+n) l.length=true)
 (k: ∀w1,bj Q D G w0 w1 s (L0.set i (b,l.set (o+n) x))->K w1):az w (ad (some ⟨b,o,none⟩) n) [x] K:=by
 rw[aY];exact S.aa_ i a c d k
theorem go (S:bj Q D G w0 w s L0) {P:Program} {f:FuncId} {sh:Sh} {args:List AN} {K:sh.T->A2->Prop} (k: ∀w1,bj Q D G w0 w1 s L0->aC P f sh args w1 K):aA P f sh args w K:=λ_ h=>k _ (S.ext h)
theorem sub (S:bj Q D G w0 w s L0) (h:L1.Sublist L0):bj Q D G w0 w s L1:=by
 obtain⟨h1,a,b,c,ca,la,H⟩:=S;exact⟨h1,a,b,c,ca,la,H.sub (((((h.cons_cons _).cons_cons _).cons_cons _).cons_cons _))⟩
theorem tail {x:Nat×List AN} (S:bj Q D G w0 w s (x::L0)):bj Q D G w0 w s L0:=S.sub (C8 _ _)
theorem perm (S:bj Q D G w0 w s L0) (h:L1.Perm L0):bj Q D G w0 w s L1:=by
 obtain⟨h1,a,b,c,ca,la,H⟩:=S;exact⟨h1,a,b,c,ca,la,H.perm ((((h.cons _).cons _).cons _).cons _)⟩
theorem load (S:bj Q D G w0 w s L0) (i:Int) {K:Int×Int×Unit->A2->Prop} (k: ∀a,bj Q D G w0 a s L0->K (dv s.1 i,BN s.1 i,()) a):
 aA AA 37 (.bA [.one (.int .u64),.one (.int .i64)]) [ag (ae Q.bm),aa i] w K:=by
 obtain⟨h1,b,c,d,ca,la,H⟩:=S;exact D7 H 0 1 rfl rfl (by decide) rfl h1 i λa H=>k a ⟨h1,b,c,d, _, _,H⟩
theorem store (S:bj Q D G w0 w s L0) (i v:Int) (hv:0<=v/\v<18446744073709551616) {K:Int->A2->Prop} (k: ∀a,bj Q D G w0 a (dO s.1 i v,s.2) L0->K (BN s.1 i) a):
 aA AA 38 (.el (.one (.int .i64))) [ag (ae Q.bm),aa i,ay v] w K:=by
 obtain⟨h1,b,d,e,ca,la,H⟩:=S;refine KQ H 0 1 rfl rfl (by decide) rfl h1 i v λa H=>k a ⟨?_,b,d,Zo e i v hv,wM s.1 i ca,wM s.1 i la,?_⟩
 ·show 0<(dO s.1 i v).length;rw[cF];exact h1
 ·unfold Sys.L;show aJ D G w0 a ((Q.bm,l5 Q.bw (dO s.1 i v).length Q.c _ _):: _);rw[cF];exact H
theorem take (S:bj Q D G w0 w s L0) (y o:Int) {K:Int×Int×Unit->A2->Prop} (k: ∀a,bj Q D G w0 a (s.1,dF s.2 y o) L0->K (ff s.2 y o,dS s.2 y o,()) a):
 aA AA 172 (.bA [.one (.int .i64),.one (.int .i64)]) [ag (ae Q.bp),aa y,aa o] w K:=by
 obtain⟨h1,b,c,d,ca,la,H⟩:=S;refine Vj H 3 2 rfl rfl (by decide) rfl b c y o λa H=>k a ⟨h1,?_,?_,d,ca,la,?_⟩
 ·show 0<(dF s.2 y o).length;rw[va];exact b
 ·show(dF s.2 y o).length<=4096;rw[va];exact c
 ·unfold Sys.L;show aJ D G w0 a (_:: _:: _::(Q.bp,[.slice _ (dF s.2 y o).length _]):: _);rw[va];exact H
theorem TO (S:bj Q D G w0 w s L0) (f y o:Int) {K:Int->A2->Prop} (k: ∀a,bj Q D G w0 a (s.1,dJ s.2 f (aO y o)) L0->K (vq s.2 f (aO y o)) a):
 aA AA 138 (.el (.one (.int .i64))) [ag (ae Q.bp),aa f,aa y,aa o] w K:=by
 obtain⟨h1,b,c,d,ca,la,H⟩:=S;refine Vg H 3 2 rfl rfl (by decide) rfl b c f y o λa H=>k a ⟨h1,?_,?_,d,ca,la,?_⟩
 ·show 0<(dJ s.2 f (aO y o)).length;rw[jc];exact b
 ·show(dJ s.2 f (aO y o)).length<=4096;rw[jc];exact c
 ·unfold Sys.L;show aJ D G w0 a (_:: _:: _::(Q.bp,[.slice _ (dJ s.2 f (aO y o)).length _]):: _);rw[jc];exact H
theorem cnt (S:bj Q D G w0 w s L0) (v:Int):af AA 30 [ag (ae Q.bp),aa v] w (aa (cd s.2 v:Nat)):=by
 obtain⟨h1,b,a,c,ca,la,H⟩:=S;exact Vk H 3 2 rfl rfl rfl a v
theorem aaq (S:bj Q D G w0 w s L0):af AA 117 [ag (ae Q.bm)] w (aa (s.1.length:Nat)):=by
 obtain⟨h1,a,b,c,ca,la,H⟩:=S;exact af.of (s:= .el (.one (.int .i64))) λw' h'=>IX ((H.get (i:=0) rfl).ext h')
theorem Ys (S:bj Q D G w0 w s L0):af AA 62 [ag (ae Q.bp)] w (aa (s.2.length:Nat)):=by
 obtain⟨h1,a,b,c,ca,la,H⟩:=S;exact aa9 H 3 rfl
end bj
end
set_option maxRecDepth 100000
open Go.RX D
def stE (gone:Bool):Int:=if gone=true then 6 else 0
def aa' (r:Int) (gone:Bool):Int:=if gone=true then -1 else r
theorem I6 (pg f rt:Int) (w:A2):af AA 215 [aa pg,aa f,aa rt] w (aa (lh pg f rt)):=by
 refine af.of (s:= .el (.one (.int .i64))) λw' _=>ai (C:=N0) (aS:=λ_=>[]) (Ak (Lx _ _ _ w' _) ?_);unfold lh;refine ab (λc=>λw1 h1=>⟨?_,h1⟩) (λc=>ab (λd=>λw1 h1=>⟨?_,h1⟩) (λd=>λw1 h1=>⟨?_,h1⟩))
 ·simp at c;rw[av (by omega)]
 ·simp at c d;rw[ao (by omega),av (by omega)]
 ·simp at c d;rw[ao (by omega),ao (by omega)]
theorem I7 (f:Int) (w:A2):af AA 241 [aa f] w (.agg ⟨[.bool true,aa 0,.bool false,aa f]⟩):=by
 refine af.of (s:= .el (.agg sEn)) (v:=cv f) λw' _=>aQ (C:=N0) (aS:=λ_=>[]) (Ak (Ly f w' _) ?_);have H:=At.start [] w';exact aM.go H λb a H=>az.all 0 H rfl rfl rfl λc H=>au.go H λd H=>aj.at 0 H rfl rfl ⟨rfl,H.all⟩
theorem I8 {pg:Int} (a:0<=pg) (x:PT) (e:ET) (g:0<=e.2.2.2.1/\e.2.2.2.1<4096) (w:A2):af AA 194 [aa pg,.agg ⟨[aa x.1,aa x.2.1,aa x.2.2.1]⟩,.agg ⟨[.bool e.1,aa e.2.1,.bool e.2.2.1,aa e.2.2.2.1]⟩] w (aa (qy pg x e)):=by
 refine af.of (s:= .el (.one (.int .i64))) λw' _=>ai (C:=N0) (aS:=λ_=>[]) (Ak (Lz pg x.1 x.2.1 x.2.2.1 e.1 e.2.1 e.2.2.1 e.2.2.2.1 w' _) ?_);have H:=At.start [] w';unfold qy;refine aM.go H λb h H=>aM.go H λi j H=>⟨rfl,aj.cw 1 H rfl rfl (ab (λc=>⟨rfl,aj.cw 0 H rfl rfl ⟨trivial,by decide,au.go H λd H=>⟨?_,H.all⟩⟩⟩) (λc=>⟨rfl,aj.cw 0 H rfl rfl (au.go H λd H=>⟨?_,H.all⟩)⟩))⟩
 ·have c:x.2.1=1:=by simpa using c
  rw[av c];have f:f_ pg (gN 1)=pg % 16:=by
   have:gN 1=16:=rfl;rw[this];exact Int.tmod_eq_emod_of_nonneg a
  rw[f,ax (by omega) (by omega)]
 ·have c: ¬ x.2.1=1:=by simpa using c
  rw[ao c]
section
variable {Q:Sys} {D G:List Nat} {w0 w:A2} {s:WD} {L0:List (Nat×List AN)} {bt:Nat} {o r:Int} {gone:Bool}
namespace bj
theorem state (S:bj Q D G w0 w s L0) (i:Nat) (a:L0[i]? =some (bt,oH Q o r gone)):af AA 88 [ag (ae bt)] w (aa (stE gone)):=by
 have hb:=S.get a;refine af.of (s:= .el (.one (.int .i64))) λw' h'=>ai (C:=N0) (aS:=λ_=>[]) (Ak (Lv _ w' _) ?_);have hb:=hb.ext h';refine⟨λ_=>rfl,λ_=>rfl,aj.of (ae Q.bm) (by rw[aY];exact hb.ov rfl) (an rfl ⟨rfl,rfl,aj.of gone (by rw[aY];exact hb.ov rfl) ?_⟩)⟩;cases gone with
 |true=>exact aB rfl λw1 h1=>⟨rfl,h1⟩
 |false=>exact an rfl λw1 h1=>⟨rfl,h1⟩
theorem root (S:bj Q D G w0 w s L0) (i:Nat) (a:L0[i]? =some (bt,oH Q o r gone)):af AA 56 [ag (ae bt)] w (aa (aa' r gone)):=by
 refine af.of (s:= .el (.one (.int .i64))) λw' h'=>ai (C:=N0) (aS:=λ_=>[]) (Ak (Re _ w' _) ?_);have S:=S.ext h';refine⟨_,S.state i a,?_⟩;cases gone with
 |true=>exact aB rfl λw1 h1=>⟨rfl,h1⟩
 |false=>exact an rfl ⟨rfl,rfl,S.cH i a rfl λw1 h1=>⟨rfl,h1⟩⟩
theorem at_ (S:bj Q D G w0 w s L0) (k:Nat) (d:L0[k]? =some (bt,oH Q o r gone)) (i:Int) {K:ET->A2->Prop} (c: ∀a,bj Q D G w0 a s L0->K (aK s.1 i) a):
 aA AA 235 (.el (.agg sEn)) [ag (ae bt),aa i] w K:=by
 refine S.go λw1 S=>aQ (C:=N0) (aS:=λ_=>[]) (Ak (O6 _ i w1 K) ?_);refine S.al λb a S=>⟨rfl,rfl,S.cH (k+1) d rfl (S.load i λf S=>⟨?_,S.al λg j S=>S.fg 0 rfl rfl rfl λl S=>S.ld 0 rfl rfl (S.fg 1 rfl rfl rfl λm S=>S.en λe S=>S.ld 1 rfl rfl (c e S.tail.tail))⟩)⟩;have h:=Gb S.Z' i;exact BU h.1 h.2
theorem lay (S:bj Q D G w0 w s L0) (k:Nat) (d:L0[k]? =some (bt,oH Q o r gone)) (i:Int) (e:ET) {K:Unit->A2->Prop} (c: ∀a,bj Q D G w0 a (dR s i e) L0->K () a):
 aA AA 222 (.bA []) [ag (ae bt),aa i,.agg ⟨[.bool e.1,aa e.2.1,.bool e.2.2.1,aa e.2.2.2.1]⟩] w K:=by
 refine S.go λw1 S=>ai (C:=N0) (aS:=λ_=>[]) (Ak (U_ _ i e.1 e.2.1 e.2.2.1 e.2.2.2.1 w1 K) ?_);exact S.al λb a S=>S.ld 0 rfl rfl ⟨trivial,rfl,rfl,S.cH (k+1) d rfl (S.store i _ (O7 _ _ _ _) λg S=>S.en λf S=>c f S.tail)⟩
end bj
theorem Gg {ds:List DT} {y o:Int} (h: ¬ dS ds y o=0):ff ds y o=0:=by
 unfold dS at h;unfold ff;cases a:iE ds with
 |none=>rfl
 |some n=>
  have b: ¬ ds.length=0:=λe=>by
   have:ds=[]:=Fv.1 e;subst this;cases a
  rw[ao b,a] at h;exact ao h
theorem vb (ds:List DT) (y o:Int) (h0:0<ds.length):0<=ff ds y o/\ff ds y o<ds.length:=by
 unfold ff;cases a:iE ds with
 |none=>exact⟨Df 0,by show(0:Int)< _;omega⟩
 |some n=>
  unfold iE at a;rw[G1] at a;have h1:=a.1;dsimp only;split<;>omega
end
set_option maxRecDepth 100000
open Go.RX D
section
variable {Q:Sys} {D G:List Nat} {w0 w:A2} {s:WD} {L0:List (Nat×List AN)} {bt:Nat} {o r:Int} {gone:Bool}
namespace bj
theorem aba (S:bj Q D G w0 w s L0) (i:Nat) (b:L0[i]? =some (bt,oH Q o r gone)) {K:Int×Int×Unit->A2->Prop} (k: ∀d,bj Q D G w0 d (iT s o (λ_=>0)) L0->K (eK s o,rk s o,()) d):
 aA AA 205 (.bA [.one (.int .i64),.one (.int .i64)]) [ag (ae bt),.func (.func 206) #[] #[]] w K:=by
 refine S.go λw1 S=>ai (C:=N0) (aS:=qT) (Ak (LA _ w1 K) ?_);have A:=vb s.2 3 o S.FU;have B:=S.le;refine⟨rfl,rfl,S.cH i b rfl ⟨rfl,rfl,S.cH i b rfl (S.take 3 o λd S=>?_)⟩⟩;by_cases a:rk s o=0
 ·have f:iT s o (λ_=>0)=(eZ s.1 (eK s o) (λ_=>0) 16,dF s.2 3 o):=by unfold iT;rw[av a]
  rw[f,a] at k;have g:dS s.2 3 o=0:=a;refine an (by simp[g]) ⟨λn v w'=> ∃m:Nat,n=16 - m/\m<=16/\v.1=(m:Int)/\bj Q D G w0 w' (eZ s.1 (eK s o) (λ_=>0) m,dF s.2 3 o) L0,⟨16,λj h=>⟨0,rfl,by omega,rfl,S.ext h⟩⟩,?_⟩;rintro n ⟨v,u⟩ j ⟨m,rfl,E,e,S⟩;dsimp only at e ⊢;subst e;refine ab (λc=>⟨rfl,rfl,S.cH i b rfl ?_⟩) (λc=>S.en λl S=>k l ?_)
  ·have c:m<16:=by simp at c;omega
   refine λl p=>ai (C:=N0) (aS:=λ_=>[]) (Ak (Ri _ l _) λF q=>?_);have S:=(S.ext p).ext q;have t:(0:Int)<=0/\(0:Int)<18446744073709551616:=by decide
   refine⟨trivial,trivial,by rw[aY];exact(S.get b).ov rfl,trivial,trivial,?_⟩;have x:aL .i64 (fy .i64 16 (ff s.2 3 o)) (m:Int)=16*eK s o+(m:Int):=by
    have:eK s o=ff s.2 3 o:=rfl;rw[eH (by omega) (by omega),ax (by omega) (by omega),this]
   rw[x];refine S.store _ _ t λH S=>λI y=>⟨16 - (m+1),by omega,m+1,rfl,by omega,?_,S.ext y⟩;rw[ax (by omega) (by omega)];omega
  ·have c: ¬ m<16:=by simp at c;omega
   have:m=16:=by omega
   subst this;exact S
 ·have f:iT s o (λ_=>0)=(s.1,dF s.2 3 o):=by unfold iT;rw[ao a]
  have z:eK s o=0:=Gg a;rw[f,z] at k;have g: ¬ dS s.2 3 o=0:=a;exact aB (by simp[g]) (S.en λj S=>k j S)
theorem abb (S:bj Q D G w0 w s L0) (i:Nat) (b:L0[i]? =some (bt,oH Q o r gone)) {K:Int×Int×Unit->A2->Prop} (k: ∀d,bj Q D G w0 d (iT s o (λ_=>0)) L0->K (eK s o,rk s o,()) d):
 aA AA 205 (.bA [.one (.int .i64),.one (.int .i64)]) [ag (ae bt),.func (.func 240) #[] #[]] w K:=by
 refine S.go λw1 S=>ai (C:=N0) (aS:=qU) (Ak (LB _ w1 K) ?_);have A:=vb s.2 3 o S.FU;have B:=S.le;refine⟨rfl,rfl,S.cH i b rfl ⟨rfl,rfl,S.cH i b rfl (S.take 3 o λd S=>?_)⟩⟩;by_cases a:rk s o=0
 ·have f:iT s o (λ_=>0)=(eZ s.1 (eK s o) (λ_=>0) 16,dF s.2 3 o):=by unfold iT;rw[av a]
  rw[f,a] at k;have g:dS s.2 3 o=0:=a;refine an (by simp[g]) ⟨λn v w'=> ∃m:Nat,n=16 - m/\m<=16/\v.1=(m:Int)/\bj Q D G w0 w' (eZ s.1 (eK s o) (λ_=>0) m,dF s.2 3 o) L0,⟨16,λj h=>⟨0,rfl,by omega,rfl,S.ext h⟩⟩,?_⟩;rintro n ⟨v,u⟩ j ⟨m,rfl,E,e,S⟩;dsimp only at e ⊢;subst e;refine ab (λc=>⟨rfl,rfl,S.cH i b rfl ?_⟩) (λc=>S.en λl S=>k l ?_)
  ·have c:m<16:=by simp at c;omega
   refine λl p=>ai (C:=N0) (aS:=λ_=>[]) (Ak (Rj _ l _) λF q=>?_);have S:=(S.ext p).ext q;have t:(0:Int)<=0/\(0:Int)<18446744073709551616:=by decide
   refine⟨trivial,trivial,by rw[aY];exact(S.get b).ov rfl,trivial,trivial,?_⟩;have x:aL .i64 (fy .i64 16 (ff s.2 3 o)) (m:Int)=16*eK s o+(m:Int):=by
    have:eK s o=ff s.2 3 o:=rfl;rw[eH (by omega) (by omega),ax (by omega) (by omega),this]
   rw[x];refine S.store _ _ t λH S=>λI y=>⟨16 - (m+1),by omega,m+1,rfl,by omega,?_,S.ext y⟩;rw[ax (by omega) (by omega)];omega
  ·have c: ¬ m<16:=by simp at c;omega
   have:m=16:=by omega
   subst this;exact S
 ·have f:iT s o (λ_=>0)=(s.1,dF s.2 3 o):=by unfold iT;rw[ao a]
  have z:eK s o=0:=Gg a;rw[f,z] at k;have g: ¬ dS s.2 3 o=0:=a;exact aB (by simp[g]) (S.en λj S=>k j S)
theorem abc (S:bj Q D G w0 w s L0) (i:Nat) (b:L0[i]? =some (bt,oH Q o r gone)) (j:Nat) {be:Nat} {e:ET} (hb:L0[j]? =some (be,[.bool e.1,aa e.2.1,.bool e.2.2.1,aa e.2.2.2.1])) (B:0<=e.2.2.2.1/\e.2.2.2.1<4096) {K:Int×Int×Unit->A2->Prop} (k: ∀d,bj Q D G w0 d (iT s o (oy e)) L0->K (eK s o,rk s o,()) d):
 aA AA 205 (.bA [.one (.int .i64),.one (.int .i64)]) [ag (ae bt),.func (.func 242) #[] #[ag (ae be)]] w K:=by
 refine S.go λw1 S=>ai (C:=N0) (aS:=qV) (Ak (LC _ _ w1 K) ?_);have E:=vb s.2 3 o S.FU;have F:=S.le;refine⟨rfl,rfl,S.cH i b rfl ⟨rfl,rfl,S.cH i b rfl (S.take 3 o λd S=>?_)⟩⟩;by_cases a:rk s o=0
 ·have f:iT s o (oy e)=(eZ s.1 (eK s o) (oy e) 16,dF s.2 3 o):=by unfold iT;rw[av a]
  rw[f,a] at k;have g:dS s.2 3 o=0:=a;refine an (by simp[g]) ⟨λn v w'=> ∃m:Nat,n=16 - m/\m<=16/\v.1=(m:Int)/\bj Q D G w0 w' (eZ s.1 (eK s o) (oy e) m,dF s.2 3 o) L0,⟨16,λl h=>⟨0,rfl,by omega,rfl,S.ext h⟩⟩,?_⟩;rintro n ⟨v,u⟩ l ⟨m,rfl,H,ev,S⟩;dsimp only at ev ⊢;subst ev;refine ab (λc=>⟨rfl,rfl,S.cH i b rfl ?_⟩) (λc=>S.en λp S=>k p ?_)
  ·have c:m<16:=by simp at c;omega
   refine λp q=>ai (C:=N0) (aS:=λ_=>[]) (Ak (Hj _ _ p _) ?_);have S:=S.ext q;refine⟨rfl,S.cH j hb rfl ⟨rfl,S.cH j hb rfl ⟨trivial,S.en λI S=>?_⟩⟩⟩;have t:Fz true e.2.1 false (aL .i64 e.2.2.2.1 (m:Int))=oy e (m:Int):=by
    rw[ax (by omega) (by omega)];rfl
   rw[t];have x:0<=oy e (m:Int)/\oy e (m:Int)<18446744073709551616:=O7 _ _ _ _;refine⟨trivial,trivial,by rw[aY];exact(S.get b).ov rfl,trivial,trivial,?_⟩;have y:aL .i64 (fy .i64 16 (ff s.2 3 o)) (m:Int)=16*eK s o+(m:Int):=by
    have:eK s o=ff s.2 3 o:=rfl;rw[eH (by omega) (by omega),ax (by omega) (by omega),this]
   rw[y];refine S.store _ _ x λJ S=>λL z=>⟨16 - (m+1),by omega,m+1,rfl,by omega,?_,S.ext z⟩;rw[ax (by omega) (by omega)];omega
  ·have c: ¬ m<16:=by simp at c;omega
   have:m=16:=by omega
   subst this;exact S
 ·have f:iT s o (oy e)=(s.1,dF s.2 3 o):=by unfold iT;rw[ao a]
  have A:eK s o=0:=Gg a;rw[f,A] at k;have g: ¬ dS s.2 3 o=0:=a;exact aB (by simp[g]) (S.en λl S=>k l S)
end bj
end
set_option maxRecDepth 100000
open Go.RX D
section
variable {D G:List Nat} {w0 w:A2} {L:List (Nat×List AN)}
def Xz (e:El) (b:Nat) (xs:List e.T) (a:List (Nat×List AN)):Prop:=
 (xs=[]/\a=[(b,[.slice none 0 0])])\/ ∃bs c rest,a=[(b,[.slice (ae bs) xs.length c]),(bs,flat e xs++rest)]/\(flat e xs++rest).length=c*aD e/\xs.length<=c
theorem Xz.head {e:El} {b:Nat} {xs:List e.T} {a:List (Nat×List AN)} (h:Xz e b xs a): ∃s:Option AC×Nat×Nat,a[0]? =some (b,[.slice s.1 s.2.1 s.2.2]):=by
 rcases h with ⟨_,rfl⟩|⟨bs,c,rest,rfl, _⟩
 ·exact⟨(none,0,0),rfl⟩
 ·exact⟨(_, _, _),rfl⟩
theorem Xz.push {e:El} {b d:Nat} {xs:List e.T} {x:e.T} {f Z:List (Nat×List AN)} {s:Option AC×Nat×Nat} (u:Xz e b xs f) (i:f[0]? =some (b,[.slice s.1 s.2.1 s.2.2])) (H:aJ D G w0 w ((d,cellsOf e x)::(f++Z)))
 (j:gW e=true) {t:TypeId} {size bytes:Nat} {z:Array AN} (l:size=aD e) (m:z.size=aD e) (hb:(xs.length+1)*bytes<=140737488355328) {K:A2->Prop}
 (k: ∀o w',Xz e b (xs++[x]) o->aJ D G w0 w' (o++Z)->K w'):
 mD w t size bytes z (s.1,s.2.1,s.2.2) (some ⟨d,0,none⟩,1,1) λr a=>az a (ae b) [.slice r.1 r.2.1 r.2.2] K:=by
 obtain⟨p,n,c⟩:=s;rcases u with ⟨rfl,rfl⟩|⟨bs,A,rest,rfl,h1,v⟩
 ·cases i;refine aJ.grow (Ls:=[]) (L0:=(b,[.slice none 0 0])::Z) (xs:=[]) H (.inl ⟨rfl,rfl,rfl⟩) j l m hb λbs c rest w' g1 g H=>?_;refine az.all 1 H rfl rfl rfl λa H=>k [(b,[.slice (ae bs) 1 c]),(bs,flat e [x]++rest)] a (.inr ⟨bs,c,rest,rfl,g1,g⟩) ?_;exact H.perm (Fp _ _ _)
 ·cases i;have y:aJ D G w0 w ((d,cellsOf e x)::([(bs,flat e xs++rest)]++((b,[.slice (ae bs) xs.length c])::Z))):=H.perm (Fu _ (Fp _ _ _));refine aJ.grow y (.inr ⟨bs,c,rest,rfl,rfl,h1,v⟩) j l m hb λh c2 q w' g1 g H=>?_;refine az.all 1 H rfl rfl rfl λa H=>k [(b,[.slice (ae h) (xs.length+1) c2]),(h,flat e (xs++[x])++q)] a (.inr ⟨h,c2,q,?_,g1,by simpa using g⟩) ?_
  ·rw[Ds];rfl
  ·exact H.perm (Fp _ _ _)
theorem xX.new {l:Nat} {rec:Loop} {w':A2} {b:Nat} {cs:List AN} (h:xX D G w0 w L l rec) (H:At [] w w' [(b,cs)]):xX D G w0 w' ((b,cs)::L) l rec/\Ob l w w':=by
 have a:Ext w w':=H.all;have hb:w.heap.size<=b:=by
  rcases H.own (b,cs) Dz with h|h
  ·exact h
  ·cases h
 exact⟨⟨h.1,h.2.1.more a hb (H.dm (b,cs) Dz),h.2.2.ext a⟩,Ob.uX a⟩
theorem LJ {bm bw n c:Nat} {ca la:Int} {ws:List Int} {rest:List AN} (H:aJ D G w0 w L) (j:Nat) (b:L[j]? =some (bm,l5 bw n c ca la)) (f:bN w0 bw (flat eW ws++rest)) (g:bw∉G) (h:n=ws.length) (h0:0<n) (i:Int) {K:Int×Int×Unit->A2->Prop}
 (k: ∀a,aJ D G w0 a (L.set j (bm,l5 bw n c (wM ws i ca) la))->K (dv ws i,BN ws i,()) a):
 aA AA 37 (.bA [.one (.int .u64),.one (.int .i64)]) [ag (ae bm),aa i] w K:=by
 refine aA.go H λw1 H=>ai (C:=M0) (aS:=λ_=>[]) (Ak (D6 _ i w1 K) ?_);refine yZ H j b h h0 i (λhi a H=>?_) (λhi a H=>?_)
 ·unfold wM dv BN at k;rw[hi,av rfl,av rfl,av rfl] at k;have l:=i_.1 hi;refine an rfl ⟨rfl,?_⟩;rw[aY];have e:=aal (ws:=ws) (rest:=rest) (i:=i.toNat) (by omega);rw[DA] at e;exact aj.fP H f g e (au.go H λd H=>k d H)
 ·unfold wM dv BN at k;rw[hi,ao (by decide),ao (by decide),ao (by decide)] at k;refine aB rfl (au.go H λd H=>k d ?_);rw[show L.set j (bm,l5 bw n c ca la)=L from GD λm=>by
   by_cases e:j=m
   ·subst e;rw[DE (B3.1 b).1,b]
   ·rw[B9 e]]
  exact H
structure TbR (Q:Sys) (ws:List Int) (w:A2) (bt:Nat) (o r:Int) (gone:Bool):Prop where
 tb:bN w bt (oH Q o r gone)
 wd:bN w Q.bw (flat eW ws++Q.rw)
 tne:bt≠Q.bm
 wne:Q.bw≠Q.bm
 Z':okW ws
 pos:0<ws.length
abbrev Mc (Q:Sys) (n:Nat) (l:List AN):Prop:= ∃ca la,l=l5 Q.bw n Q.c ca la
theorem O8 {Q:Sys} {ws:List Int} {bt:Nat} {o r:Int} {gone:Bool} {D:List Nat} {L:List (Nat×List AN)} {ca la:Int} (R:TbR Q ws w0 bt o r gone) (H:aJ D [Q.bm] w0 w L) (j:Nat) (d:L[j]? =some (Q.bm,l5 Q.bw ws.length Q.c ca la)) (i:Int) {K:ET->A2->Prop}
 (k: ∀ca a,aJ D [Q.bm] w0 a (L.set j (Q.bm,l5 Q.bw ws.length Q.c ca la))->K (aK ws i) a):
 aA AA 235 (.el (.agg sEn)) [ag (ae bt),aa i] w K:=by
 have t1:bt∉[Q.bm]:=by simpa using R.tne
 have t2:Q.bw∉[Q.bm]:=by simpa using R.wne
 refine aA.go H λw1 H=>aQ (C:=N0) (aS:=λ_=>[]) (Ak (O6 _ i w1 K) ?_);refine aM.go H λb a H=>⟨rfl,rfl,aj.lf H R.tb t1 rfl (LJ H (j+1) d R.wd t2 rfl R.pos i λf H=>⟨?_,aM.go H λg l H=>az.all 0 H rfl rfl rfl λm H=>aj.at 0 H rfl rfl (az.all 1 H rfl rfl rfl λn H=>au.go H λe H=>aj.at 1 H rfl rfl (k (wM ws i ca) e (H.sub ?_)))⟩)⟩
 ·have h:=Gb R.Z' i;exact BU h.1 h.2
 ·exact(C8 _ _).trans (C8 _ _)
end
abbrev emP (x:PT×Unit):List AN:=[.agg ⟨[aa x.1.1,aa x.1.2.1,aa x.1.2.2.1]⟩]
abbrev XA (x:PT):PT×Unit:=(x,())
def N8 (ws:List Int) (pg:Int):Nat->Int->List PT
 |0, _=>[]
 |l+1,f=>if dK (aK ws (dZ f pg ((l+1:Nat):Int)))=true then dj ws pg l (aK ws (dZ f pg ((l+1:Nat):Int))).2.2.2.1 else[]
theorem LK (ws:List Int) (pg:Int): ∀(l:Nat) (f:Int),dj ws pg l f=(f,(l:Int),dZ f pg (l:Int),())::N8 ws pg l f
 |0, _=>rfl
 | _+1, _=>rfl
theorem Ro {ws:List Int} {pg:Int} {l:Nat} {f:Int} (h:dK (aK ws (dZ f pg (l:Int)))=false):N8 ws pg l f=[]:=by
 cases l with
 |zero=>rfl
 |succ l=>rw[N8,h,ao (by decide)]
theorem Zp {Q:Sys} {ws:List Int} {bt b c:Nat} {o r pg:Int} {gone:Bool} {N:Nat} (E:okW ws) (F:0<ws.length):
 ItJ AA 244 (λy=>[.func (.yield y) #[] #[],ag (ae b),ag (ae c)]) emP N Q.bm (Mc Q ws.length)
  [(bt,oH Q o r gone),(Q.bw,flat eW ws++Q.rw),(b,[ag (ae bt)]),(c,[aa pg])] ((dj ws pg 3 r).map XA):=by
 intro y J K G a X O w t i j;refine Calls.mono (ai (C:=N0) (aS:=uh) (Post:=λ_ w'=>J (a++(dj ws pg 3 r).map XA) X O w') (Ak (Rf y _ _ w _) ?_)) ?_
 rotate_left
 ·rintro e w' ⟨x,rfl,h⟩;exact⟨_,rfl,h⟩
 have x1:=i (bt,oH Q o r gone) (by simp);have z:=i (Q.bw,flat eW ws++Q.rw) (by simp);have A:=i (b,[ag (ae bt)]) (by simp);have I:=i (c,[aa pg]) (by simp);refine aj.of (ae bt) ((K.dm j A).2.ov rfl) ⟨rfl,rfl,aj.of r (by rw[aY];exact(K.dm j x1).2.ov rfl) ⟨λn v w'=>(∃l:Nat,v.2.1=(l:Int)/\n=l+1/\l<=3/\ ∃pre,dj ws pg 3 r=pre++dj ws pg l v.1/\J (a++pre.map XA) X O w')\/(v.2.1= -1/\J (a++(dj ws pg 3 r).map XA) X O w'),
  ⟨4,λw1 h1=> .inl ⟨3,rfl,rfl,B6 _,[],rfl,by simpa using K.ext j h1⟩⟩,?_⟩⟩
 rintro n ⟨f,lv,u⟩ w1 (⟨l,g,rfl,hl,pre,d,j⟩|⟨g,j⟩)
 ·dsimp only at g d ⊢;subst g;refine aB (by simp) (aj.of pg ((K.dm j I).2.ov rfl) ⟨trivial,?_⟩);obtain⟨lm,⟨ca,la,rfl⟩,H⟩:=K.at0 j;have R:TbR Q ws w1 bt o r gone:=⟨(K.dm j x1).2,(K.dm j z).2,(K.dm j x1).1,(K.dm j z).1,E,F⟩;have hb:=K.dm j A;have L:b∉[Q.bm]:=by simpa using hb.1
  refine aM.go H λM P H=>az.all 0 H rfl rfl rfl λw3 H=>aj.fP H hb.2 L rfl ⟨rfl,aj.cw 0 H rfl rfl (O8 R H 1 rfl _ λca2 w4 H=>aM.go H λB w5 H=>az.all 0 H rfl rfl rfl λw6 H=>aj.at 1 H rfl rfl λS T=>?_)⟩;have H:=H.ext T;rw[LK ws pg l f] at d;have U:(a++pre.map XA).length<N:=by
   rw[d] at t;simp only[List.map_append,Ds,DK,B5] at t ⊢;omega
  have V:=K.tg (Y:=[(B, _),(M, _)]) j H ⟨_, _,rfl⟩;refine G _ (XA (f,(l:Int),dZ f pg (l:Int),())) _ _ S _ U V λw8 m=>?_;have D:=(K.dm m (x:=(B, _)) (Dz)).2;refine aj.of (aK ws (dZ f pg (l:Int))) (dU D rfl) ⟨λ_=>trivial,ab (λp W q=>?_) (λp=>⟨rfl,aj.of (aK ws (dZ f pg (l:Int))).2.2.2.1 (by rw[aY];exact D.ov rfl) λW q=>?_⟩)⟩
  ·have s:dK (aK ws (dZ f pg (l:Int)))=false:=by simpa[dK] using p
   have k:=K.sub (K.ext m q) (X':=X) (λx h=>by simp[h]) (C7 _);rw[Ro s] at d;rw[d];simpa using k
  ·have s:dK (aK ws (dZ f pg (l:Int)))=true:=by simpa[dK] using p
   have k:=K.sub (K.ext m q) (X':=X) (λx h=>by simp[h]) (C7 _);rcases l with _|l
   ·refine⟨0,by omega,.inr ⟨rfl,?_⟩⟩;rw[d];simpa[N8] using k
   ·refine⟨l+1,by omega,.inl ⟨l,?_,rfl,by omega,pre++[(f,((l+1:Nat):Int),dZ f pg ((l+1:Nat):Int),())],?_,by simpa using k⟩⟩
    ·show aZ .i64 ((l+1:Nat):Int) 1=(l:Int);rw[bF (by omega) (by omega)];omega
    ·rw[d,N8,av s,GF];rfl
 ·dsimp only at g ⊢;subst g;exact an rfl λP Z=>K.ext j Z
section
variable {Q:Sys} {D G:List Nat} {w0 w:A2} {s:WD} {L0:List (Nat×List AN)} {bt:Nat} {o r:Int} {gone:Bool}
namespace bj
theorem way (S:bj Q D G w0 w s L0) (pg:Int) {K:Option AC×Option AC×Unit->A2->Prop} (k: ∀b c a,bj Q D G w0 a s ((c,[aa pg])::(b,[ag (ae bt)])::L0)->K (some ⟨b,0,none⟩,some ⟨c,0,none⟩,()) a):
 aA AA 219 aap [ag (ae bt),aa pg] w K:=by
 refine S.go λw1 S=>ai (C:=N0) (aS:=λ_=>[]) (Ak (U' _ pg w1 K) ?_);exact S.al λb a S=>S.al λc e S=>S.en λd S=>k b c d S
theorem N2 (S:bj Q D G w0 w s L0) (k0:Nat) (p:L0[k0]? =some (bt,oH Q o r gone)) {b c:Nat} {pg:Int} (hb:(b,[I1 (ae bt)])∈L0) (hc:(c,[aa pg])∈L0)
 {K:Option AC×Nat×Nat->A2->Prop} (k: ∀bs cs rest g,bj Q D G w0 g s ((bs,flat (.agg Tu) (dj s.1 pg 3 r)++rest)::L0)->K (some ⟨bs,0,none⟩,(dj s.1 pg 3 r).length,cs) g):
 aA AA 218 (.el (.one .slice)) [.func (.func 244) #[] #[ag (ae b),ag (ae c)]] w K:=by
 refine S.go λw1 S=>aQ (C:=N0) (aS:=ui) (Ak (Rh _ _ w1 K) ?_);obtain⟨h1,q,t,m,ca,la,H0⟩:=S;have H:=H0.again;refine aM.go H λbl g H=>?_;have u:(dj s.1 pg 3 r).length<=4:=tD s.1 pg 3 r;refine zX.N2 (N:=4) (bm:=Q.bm) (mc:=Mc Q s.1.length) (Z5:=[(bl,[.slice none 0 0])]) (Lb:=(Q.bw,flat eW s.1++Q.rw)::(Q.bf,flat eD s.2++Q.rf)::(Q.bp,[.slice (ae Q.bf) s.2.length Q.cp])::L0) H ⟨_, _,rfl⟩
  (Zp (o:=o) (r:=r) (gone:=gone) (bt:=bt) (pg:=pg) m h1) ?_ (by simpa using u) (λxs d=>Xz (.agg Tu) bl (xs.map (·.1)) d) (.inl ⟨rfl,rfl⟩) ?_ ?_
 ·intro x e;simp only[F1,List.not_mem_nil,or_false] at e;rcases e with rfl|rfl|rfl|rfl
  ·simp[Bs p]
  ·simp
  ·simp[hb]
  ·simp[hc]
 ·intro b0 x d Z rr l rec v R hN a f y;refine Da.go f rfl ?_;refine aM.go (At.start [] v) λz A i=>az.all 0 i rfl rfl rfl λB i=>?_;obtain⟨E,F⟩:=xX.new f i;obtain⟨sl,j⟩:=a.head;refine BM.goO E λwb H I J=>aj.at 1 H (by rw[List.getElem?_cons_succ,E4 (B3.1 j).1];exact j) rfl (aj.at 0 H rfl rfl (aM.go H λL n H=>λM O=>?_));have H:=H.ext O;have P:aJ [] _ wb M ((L,cellsOf (.agg Tu) x.1)::(d++((z,[aa x.1.1,aa x.1.2.1,aa x.1.2.2.1])::Z))):=H.perm (Fu _ DB);refine a.push j P rfl rfl rfl (by simp only[DK];omega) λT w8 U V=>sk.lx I (V.sub (List.Sublist.append (C7 _) (C8 _ _))) λW X Y=>y T W (by simpa using U) X ((F.trans J).trans Y)
 ·rintro rr rec A l' d ⟨ca2,la2,rfl⟩ a f;refine dB.none f λB H=>?_;have hmm:((dj s.1 pg 3 r).map XA).map (·.1)=dj s.1 pg 3 r:=by
   rw[List.map_map];exact List.map_id _
  rw[hmm] at a;rcases a with ⟨h, _⟩|⟨bs,cs,rest,rfl,g1,g2⟩
  ·exact absurd h (xE _ _ _ _)
  ·refine aj.at 0 H rfl rfl (sq.go H λn H=>k bs cs rest n ⟨h1,q,t,m,ca2,la2,H0.join (λx e=>e) ?_⟩);refine(H.sub (C8 _ _)).perm ?_;exact DB (l₁:=[_, _, _, _])
end bj
end
set_option maxRecDepth 100000
open Go.RX D
theorem Cw (ws:List Int) (r pg:Int):(dj ws pg 3 r)[(dj ws pg 3 r).length - 1]? =some (dD ws r pg):=by
 have a:=xE ws pg 3 r;unfold dD;rw[List.getLastD_eq_getLast?, <-List.getLast?_eq_getElem?,List.getLast?_eq_some_getLast a];rfl
theorem py (ws:List Int) (a:Int):0<=(aK ws a).2.2.2.1/\(aK ws a).2.2.2.1<4096:=I5 _
section
variable {Q:Sys} {D G:List Nat} {w0 w:A2} {s:WD} {L0:List (Nat×List AN)} {bt:Nat} {o r:Int} {gone:Bool}
namespace bj
theorem end_ (S:bj Q D G w0 w s L0) (k0:Nat) (c:L0[k0]? =some (bt,oH Q o r gone)) (pg:Int) {K:PT×ET×Unit->A2->Prop} (k: ∀a,bj Q D G w0 a s L0->K (dD s.1 r pg,cR s.1 r pg,()) a):
 aA AA 193 (.bA [.agg Tu,.agg sEn]) [ag (ae bt),aa pg] w K:=by
 refine S.go λw1 S=>aQ (C:=N0) (aS:=λ_=>[]) (Ak (Va _ pg w1 K) ?_);refine S.al λb a S=>S.al λg h S=>S.way pg λj bc l S=>S.N2 (pg:=pg) (k0+4) c (by simp) (by simp) λbs cs rest m S=>?_;have n:(dj s.1 pg 3 r).length<=4:=tD s.1 pg 3 r;have p:0<(dj s.1 pg 3 r).length:=GG.2 (xE s.1 pg 3 r);have d:aZ .i64 (((dj s.1 pg 3 r).length:Nat):Int) 1=(((dj s.1 pg 3 r).length - 1:Nat):Int):=by rw[bF (by omega) (by omega)];omega
 have e:=fT (S.get (i:=0) rfl) (Cw s.1 r pg);dsimp only;rw[d];refine⟨⟨rfl,by omega,by omega⟩,aj.of (dD s.1 r pg) e ?_⟩;refine S.al λq t S=>S.fg 0 rfl rfl rfl λu S=>S.ld 0 rfl rfl ⟨rfl,S.cH 0 rfl rfl (S.at_ (k0+6) c _ λv S=>⟨dU (S.get (i:=0) rfl) rfl,S.fg 5 rfl rfl rfl λx S=>S.fg 4 rfl rfl rfl λy S=>S.en λf S=>S.ld 5 rfl rfl (S.ld 4 rfl rfl (k f S.tail.tail.tail.tail.tail.tail))⟩)⟩
theorem query (S:bj Q D G w0 w s L0) (k0:Nat) (e:L0[k0]? =some (bt,oH Q o r gone)) (pg:Int) {K:Int×Int×Int×Unit->A2->Prop} (k: ∀a,bj Q D G w0 a s L0->K (bu s r gone pg) a):
 aA AA 139 (.bA [.one (.int .i64),.one (.int .i64),.one (.int .i64)]) [ag (ae bt),aa pg] w K:=by
 refine S.go λw1 S=>ai (C:=N0) (aS:=λ_=>[]) (Ak (LD _ pg w1 K) ?_);refine⟨_,S.state k0 e,?_⟩;unfold bu at k;cases gone with
 |true=>
  rw[av rfl] at k;exact aB rfl (S.en λa S=>k a S)
 |false=>
  rw[ao (by decide)] at k;refine an rfl (ab (λc=>S.en λa S=>?_) (λc=>?_))
  ·simp only[E5,decide_eq_true_eq] at c;rw[av c] at k;exact k a S
  ·simp only[Fg,decide_eq_false_iff_not] at c;rw[ao (by omega)] at k;refine S.end_ k0 e pg λa S=>S.al λb f S=>S.al λg h S=>S.fg 1 rfl rfl rfl λi S=>S.fg 0 rfl rfl rfl λj S=>⟨rfl,S.cH 0 rfl rfl (ab (λc2=>S.en λd S=>?_) (λc2=>S.ld 1 rfl rfl (S.ld 0 rfl rfl ⟨_,I8 (by omega) (dD s.1 r pg) (cR s.1 r pg) (py _ _) _,rfl,S.cH 0 rfl rfl (S.en λd S=>?_)⟩)))⟩
   ·have c2:(cR s.1 r pg).1=false:=by simpa using c2
    rw[c2,ao (by decide)] at k;exact k d S.tail.tail
   ·have c2:(cR s.1 r pg).1=true:=by simpa using c2
    rw[c2,av rfl] at k;exact k d S.tail.tail
theorem split (S:bj Q D G w0 w s L0) (k0:Nat) (a:L0[k0]? =some (bt,oH Q o r gone)) (pg:Int) {K:Int->A2->Prop} (k: ∀d,bj Q D G w0 d (fm s o r pg) L0->K (mn s o r pg) d):
 aA AA 217 (.el (.one (.int .i64))) [ag (ae bt),aa pg] w K:=by
 refine S.go λw1 S=>ai (C:=N0) (aS:=λ_=>[]) (Ak (LF _ pg w1 K) ?_);unfold fm mn at k;refine S.end_ k0 a pg λd S=>S.al λb j S=>S.al λh l S=>S.fg 1 rfl rfl rfl λm S=>S.fg 0 rfl rfl rfl λn S=>⟨rfl,S.cH 1 rfl rfl (ab (λc=>S.en λf S=>?_) (λc=>?_))⟩
 ·have c:(dD s.1 r pg).2.1=0:=by simpa using c
  rw[av c,av c] at k;exact k f S.tail.tail
 ·have c: ¬ (dD s.1 r pg).2.1=0:=by simpa using c
  rw[ao c,ao c] at k;refine S.abc (k0+2) a 0 (be:=h) (e:=cR s.1 r pg) rfl (py _ _) λf S=>ab (λc2=>⟨rfl,S.cH 1 rfl rfl ⟨cv (eK s o),I7 _ _,S.lay (k0+2) a _ (cv (eK s o)) λg S=>S.en λi S=>?_⟩⟩) (λc2=>S.en λg S=>?_)
  ·have c2:rk s o=0:=by simpa using c2
   rw[av c2] at k;exact k i S.tail.tail
  ·have c2: ¬ rk s o=0:=by simpa using c2
   rw[ao c2] at k;exact k g S.tail.tail
end bj
end
set_option maxRecDepth 100000
open Go.RX D
theorem I9 (ws:List Int) (pg:Int): ∀(l:Nat) (f:Int) (x:PT),x∈dj ws pg l f->0<=x.2.1/\x.2.1<=(l:Int)
 |0,f,x,h=>by
  rw[dj,FB] at h;subst h;exact⟨Df _,Df _⟩
 |l+1,f,x,h=>by
  rw[dj] at h;rcases F1.1 h with rfl|h
  ·exact⟨by show(0:Int)<=((l+1:Nat):Int);omega,Df _⟩
  ·split at h
   ·have:=I9 ws pg l _ x h;omega
   ·cases h
theorem Vl (ws:List Int) (r pg:Int):0<=(dD ws r pg).2.1/\(dD ws r pg).2.1<=3:=by
 have:=I9 ws pg 3 r _ (Bs (Cw ws r pg));omega
section
variable {Q:Sys} {D G:List Nat} {w0 w:A2} {s:WD} {L0:List (Nat×List AN)} {bt:Nat} {o r:Int} {gone:Bool}
namespace bj
theorem put (S:bj Q D G w0 w s L0) (k0:Nat) (a:L0[k0]? =some (bt,oH Q o r gone)) (pg lv:Int) (E:0<=lv/\lv<=3) (e:ET) {K:Int->A2->Prop} (k: ∀f,bj Q D G w0 f (rD s o r pg lv e) L0->K (k8 s r pg lv) f):
 aA AA 216 (.el (.one (.int .i64))) [ag (ae bt),aa pg,aa lv,.agg ⟨[.bool e.1,aa e.2.1,.bool e.2.2.1,aa e.2.2.2.1]⟩] w K:=by
 refine S.go λw1 S=>ai (C:=N0) (aS:=wh) (Ak (Vb _ pg lv e.1 e.2.1 e.2.2.1 e.2.2.2.1 w1 K) ?_);have F:=Vl s.1 r pg;unfold rD at k;refine S.al λb f S=>S.end_ (k0+1) a pg λf S=>S.al λj H S=>S.al λl I S=>S.fg 1 rfl rfl rfl λJ S=>S.fg 0 rfl rfl rfl λL S=>⟨rfl,S.cH 0 rfl rfl ⟨λ_=>rfl,S.cH 1 rfl rfl ?_⟩⟩;by_cases c1:((cR s.1 r pg).1||decide ((dD s.1 r pg).2.1<lv))=true
 ·have c:k8 s r pg lv=5:=by unfold k8;rw[av c1]
  rw[c,ao (by decide)] at k;exact aB c1 (S.en λd S=>k d S.tail.tail.tail)
 have m:=c1;simp only[E5,decide_eq_true_eq,not_or] at m;refine an (by simpa using c1) ⟨rfl,rfl,S.cH (k0+3) a rfl ⟨_,S.cnt 0,rfl,S.cH 1 rfl rfl ?_⟩⟩;have p:aZ .i64 (dD s.1 r pg).2.1 lv=(dD s.1 r pg).2.1 - lv:=bF (by omega) (by omega);dsimp only;rw[p];by_cases c2:(cd s.2 0:Int)<(dD s.1 r pg).2.1 - lv
 ·have c:k8 s r pg lv=12:=by unfold k8;rw[ao c1,av c2]
  rw[c,ao (by decide)] at k;exact aB (by simpa using c2) (S.en λd S=>k d S.tail.tail.tail)
 have c:k8 s r pg lv=0:=by unfold k8;rw[ao c1,ao c2]
 rw[c,av rfl] at k;obtain⟨n0,q⟩: ∃n0,n0=((dD s.1 r pg).2.1 - lv).toNat:=⟨_,rfl⟩;rw[<-q] at k;obtain⟨z,g⟩: ∃z,z=qL o pg n0 (s,dD s.1 r pg):=⟨_,rfl⟩;rw[<-g] at k;refine an (by simpa using c2) ⟨λn _ w'=> ∃t:WD, ∃x:PT,qL o pg n (t,x)=z/\x.2.1=lv+(n:Int)/\n<=3/\bj Q D G w0 w' t ((l,[.bool (cR s.1 r pg).1,aa (cR s.1 r pg).2.1,.bool (cR s.1 r pg).2.2.1,aa (cR s.1 r pg).2.2.2.1])::(j,[aa x.1,aa x.2.1,aa x.2.2.1])::(b,[.bool e.1,aa e.2.1,.bool e.2.2.1,aa e.2.2.2.1])::L0),
  ⟨n0,λd v=>⟨s,dD s.1 r pg,g.symm,by omega,by omega,S.ext v⟩⟩,?_⟩
 rintro n u d ⟨t,x,h,M,N,S⟩;refine⟨rfl,S.cH 1 rfl rfl ?_⟩;rcases n with _|n
 ·refine an (by simp;omega) ⟨rfl,S.cH 1 rfl rfl (S.ld 2 rfl rfl (S.lay (k0+3) a _ e λy S=>S.en λi S=>k i ?_))⟩;have:z=(t,x):=h.symm;rw[this];exact S.tail.tail.tail
 ·refine aB (by simp;omega) (S.abb (k0+3) a λy S=>⟨rfl,S.cH 1 rfl rfl ⟨cv (eK t o),I7 _ _,S.lay (k0+3) a _ (cv (eK t o)) λi S=>⟨rfl,S.cH 1 rfl rfl ⟨rfl,S.cH 1 rfl rfl ⟨trivial,S.fg 1 rfl rfl rfl λO S=>λP A=>⟨n,by omega,dR (iT t o λ_=>0) x.2.2.1 (cv (eK t o)),(eK t o,x.2.1 - 1,dZ (eK t o) pg (x.2.1 - 1),()),h,by show x.2.1 - 1= _;omega,by omega,?_⟩⟩⟩⟩⟩⟩);have B:aZ .i64 x.2.1 1=x.2.1 - 1:=bF (by omega) (by omega);have S:=S.ext A;rw[B] at S;exact S
theorem map (S:bj Q D G w0 w s L0) (k0:Nat) (b:L0[k0]? =some (bt,oH Q o r gone)) (pg f rt:Int) {K:Int->A2->Prop} (k: ∀a,bj Q D G w0 a (jE s o r gone pg f rt) L0->K (kl s r gone pg f rt) a):
 aA AA 173 (.el (.one (.int .i64))) [ag (ae bt),aa pg,aa f,aa rt] w K:=by
 refine S.go λw1 S=>ai (C:=N0) (aS:=λ_=>[]) (Ak (Vc _ pg f rt w1 K) ?_);unfold jE kl at k;refine⟨_,S.state k0 b,?_⟩;cases gone with
 |true=>
  rw[av rfl,av rfl] at k;exact aB rfl (S.en λa S=>k a S)
 |false=>
  have d: ¬ (false=true):=by decide
  rw[ao d,ao d] at k;refine an rfl ⟨_,I6 _ _ _ _,ab (λc=>S.en λa S=>?_) (λc=>S.put k0 b pg 0 ⟨by decide,by decide⟩ (true,rt,false,f,()) λa S=>S.en λe S=>?_)⟩
  ·have c: ¬ lh pg f rt=0:=by simpa using c
   rw[ao c,ao c] at k;exact k a S
  ·have c:lh pg f rt=0:=by simpa using c
   rw[av c,av c] at k;exact k e S
end bj
end
set_option maxRecDepth 100000
open Go.RX D
theorem Vm {p:Prop} {α:Type} (d:Decidable p) (c: ¬ p) (a b:α):(Bx (λ_=>a) (λ_=>b) d:α)=a:=by
 cases d with
 |isFalse h=>rfl
 |isTrue h=>exact absurd h c
theorem I_ {ws:List Int} {i n:Int} (h: ¬ (n<1\/i<0\/i>ws.length\/n>ws.length - i)):(jF ws i n).length=n.toNat:=by
 unfold jF;rw[ao h,FM,GH];omega
section
variable {D G:List Nat} {w0 w:A2} {L:List (Nat×List AN)}
theorem Zq {bw n c:Nat} {ws:List Int} {rest:List AN} (q:bN w bw (flat eW ws++rest)) (K:n=ws.length) (hc:n<=c) (hb:n<=1048576) (i k:Int):
 aC AA 80 (.el (.one .slice)) [.agg ⟨[.slice (ae bw) n c]⟩,aa i,aa k] w (λr w'=>lS w w' eW r (jF ws i k)/\Ext w w'):=by
 refine ai (C:=N0) (aS:=λ_=>[]) (Ak (Vf _ n c i k w _) ?_);have H:=At.start [] w;refine aM.go H λb L H=>⟨λ_=>rfl,aj.cw 0 H rfl rfl ⟨λ_=>rfl,aj.cw 0 H rfl rfl ?_⟩⟩;by_cases f:k<1\/i<0\/i>ws.length\/k>ws.length - i
 ·have s:jF ws i k=[]:=av f;rw[s];refine aB ?_ (au.go H λm H=>⟨lS.nil w m eW,H.all⟩);dsimp only;simp only[E5,decide_eq_true_eq];by_cases h1:k<1
  ·exact .inl (.inl (.inl h1))
  ·by_cases t:i<0
   ·exact .inl (.inl (.inr t))
   ·by_cases u:i>(n:Int)
    ·exact .inl (.inr u)
    ·refine .inr ?_;rw[bF (by omega) (by omega)];omega
 ·have M:1<=k/\0<=i/\i+k<=n:=by omega
  have v:aZ .i64 (n:Int) i=(n:Int) - i:=bF (by omega) (by omega);refine an ?_ ?_
  ·dsimp only;rw[v];simp only[Fg,decide_eq_false_iff_not];omega
  refine Nx.go H (z:=[ay 0]) rfl (by omega) (Df _) (by omega) (by omega) λd m H=>⟨rfl,aj.cw 1 H rfl rfl ⟨by dsimp only;omega,λx y=>?_⟩⟩;have H:=H.ext y;have A:=q.ext H.all;dsimp only;rw[Vm _ (by show ¬ (((c:Nat):Int).toNat=i.toNat);omega)];have e:(jF ws i k).length=k.toNat:=I_ f;have B:jF ws i k=(ws.drop i.toNat).take k.toNat:=ao f;have a:(flat eW (jF ws i k)).length=k.toNat:=by rw[aF,e];exact DA _
  have D:Nat.min (((n:Nat):Int).toNat - i.toNat) k.toNat=k.toNat:=Nat.min_eq_right (by omega);have g:(BI k.toNat [ay 0]).flatten.length=k.toNat:=by simp
  refine⟨flat eW (jF ws i k),?_,.inr (.inr ⟨?_,?_⟩),?_⟩
  ·show oE x (ad (ae bw) (i.toNat*1)) (Nat.min (((n:Nat):Int).toNat - i.toNat) k.toNat*1) _;rw[D,aY,DA,DA];refine A.oE a λj E=>?_;have F:=Is ws;have G:=Is (jF ws i k);rw[FY,F,G,E4 (by rw[DK];omega),GI,GI,B,GJ E,GS]
  ·rw[a];exact(H.get (i:=0) rfl).st (by rw[g];omega)
  ·have:=jU eW (jF ws i k) rfl;exact this
  ·have p:=H.put 0 (b:=d) (o:=0) rfl (flat eW (jF ws i k)) (by rw[a,g];omega);have I:List.drop k.toNat (BI k.toNat [ay 0]).flatten=[]:=FN (Nat.le_of_eq g);rw[FY,a,I,Dd,List.take_zero,List.nil_append] at p;refine au.go p λN l=>⟨?_,l.all⟩;have J:w.heap.size<=d:=by
    rcases l.own (d,flat eW (jF ws i k)) Dz with h|h
    ·exact h
    ·cases h
   refine⟨e.symm,by rw[e];exact B6 _,.inr ⟨d, _,rfl,J,l.get (i:=0) rfl,by rw[a];exact(DA _).symm,?_⟩⟩;rw[e];exact Ga (by rw[a];exact Nat.le_of_eq (DA _).symm)
theorem LM {e:El} {xs:List e.T} {rest:List AN} {i:Nat} {x:e.T} (a:xs[i]? =some x) {j:Nat} (b:j<aD e):(flat e xs++rest)[i*aD e+j]? =(cellsOf e x)[j]? :=by
 have hi:i<xs.length:=(B3.1 a).1;have c:i*aD e+j<(flat e xs).length:=by
  rw[aF];have:(i+1)*aD e<=xs.length*aD e:=Nat.mul_le_mul_right _ hi;rw[Nat.add_mul] at this;omega
 rw[E4 c];exact yU e xs i x a j b
end
section
variable {Q:Sys} {D G:List Nat} {w0 w:A2} {s:WD} {L0:List (Nat×List AN)} {bt:Nat} {o r:Int} {gone:Bool}
abbrev NK (Q:Sys) (s:WD):Prop:=s.1.length<=Q.c/\s.1.length<=1048576
namespace bj
theorem words (S:bj Q D G w0 w s L0) (hc:NK Q s) (i n:Int) {K:Option AC×Nat×Nat->A2->Prop} (k: ∀x rows a,bj Q D G w0 a s (L0++rows)->n_ eW rows x (jF s.1 i n)->K x a):
 aA AA 45 (.el (.one .slice)) [ag (ae Q.bm),aa i,aa n] w K:=by
 refine S.go λw1 S=>ai (C:=N0) (aS:=λ_=>[]) (Ak (LI _ i n w1 K) ?_);obtain⟨h1,b,c,d,ca,la,H⟩:=S;refine an rfl ⟨rfl,rfl,aj.cw 0 H rfl rfl ?_⟩;refine aA.Yo H (λa H=>Zq (H.get (i:=1) rfl) rfl hc.1 hc.2 i n) λx rows a H e=>au.go H λf H=>k x rows f ⟨h1,b,c,d,ca,la,H⟩ e
theorem tE (S:bj Q D G w0 w s L0) {j bs:Nat} {l:List PT} {rest:List AN} (hb:L0[j]? =some (bs,flat (.agg Tu) l++rest)) {i:Nat} {x:PT} (a:l[i]? =some x) (q:Nat) {K:Int->Prop} {v:Int} (b:q<3) (hv:(cellsOf (.agg Tu) x)[q]? =some (aa v)) (k:K v):
 aj w none (ad (ad (ae bs) (i*3)) q) (.one (.int .i64)) K:=by
 rw[aY,aY,FY];refine aj.of v ((S.get hb).ov ?_) k;have:=LM (e:= .agg Tu) (rest:=rest) a (j:=q) b;rw[show i*3+q=i*aD (.agg Tu)+q from rfl,this,hv];rfl
end bj
end
set_option maxRecDepth 100000
open Go.RX D
theorem abd (x:PT) (t:WD):jv [x] t=t:=rfl
theorem abe (x y:PT) (l:List PT) (t:WD):jv (x::y::l) t=if xd t.1 x.1=true then jv (y::l) (dO t.1 y.2.2.1 0,dJ t.2 x.1 (aO 5 0)) else t:=rfl
theorem LN {l:List PT} {q:Nat} {x y:PT} (b:l[q]? =some y) (c:l[q+1]? =some x):(l.take (q+2)).reverse=x::y::(l.take q).reverse/\(l.take (q+1)).reverse=y::(l.take q).reverse:=by
 have a:l.take (q+1)=l.take q++[y]:=by rw[FO,b];rfl
 have d:l.take (q+2)=l.take q++[y]++[x]:=by rw[FO,c,a];rfl
 exact⟨by rw[d];simp,by rw[a];simp⟩
theorem Ja {ws:List Int} (pg:Int): ∀(l:Nat) (f:Int),(0<=f/\f<4096)-> ∀x∈dj ws pg l f,0<=x.1/\x.1<4096
 |0,f,a,x,h=>by
  rw[dj,FB] at h;subst h;exact a
 |l+1,f,a,x,h=>by
  rw[dj] at h;rcases F1.1 h with rfl|h
  ·exact a
  ·split at h
   ·exact Ja pg l _ (py _ _) x h
   ·cases h
section
variable {Q:Sys} {D G:List Nat} {w0 w:A2} {s:WD} {L0:List (Nat×List AN)} {bt:Nat} {o r:Int} {gone:Bool}
namespace bj
theorem thin (S:bj Q D G w0 w s L0) (hc:NK Q s) (k0:Nat) (p:L0[k0]? =some (bt,oH Q o r gone)) {j bs c:Nat} {l:List PT} {rest:List AN} (hb:L0[j]? =some (bs,flat (.agg Tu) l++rest)) (hl:l.length<=4) (T: ∀x∈l,0<=x.1/\x.1<4096)
 {K:Unit->A2->Prop} (k: ∀f,bj Q D G w0 f (jv l.reverse s) L0->K () f):
 aA AA 220 (.bA []) [ag (ae bt),.slice (ae bs) l.length c] w K:=by
 refine S.go λw1 S=>ai (C:=N0) (aS:=uj) (Ak (Rk _ _ _ c w1 K) ?_);obtain⟨z,J⟩: ∃z,z=jv l.reverse s:=⟨_,rfl⟩;rw[<-J] at k;refine⟨λn v w'=> ∃t:WD,v.1+1=(n:Int)/\n<=l.length/\t.1.length=s.1.length/\jv (l.take n).reverse t=z/\bj Q D G w0 w' t L0,
  ⟨l.length,λf U=>⟨s,?_,B6 _,rfl,by rw[List.take_length];exact J.symm,S.ext U⟩⟩,?_⟩
 ·show aZ .i64 ((l.length:Nat):Int) 1+1= _;rw[bF (by omega) (by omega)];omega
 rintro n ⟨v,u⟩ f ⟨t,g,hn,A,a,S⟩;dsimp only at g ⊢;rcases n with _| _|q
 ·refine an (by simp;omega) (S.en λh S=>k h ?_);rw[<-a];exact S
 ·refine an (by simp;omega) (S.en λh S=>k h ?_);have:jv (l.take (0+1)).reverse t=t:=by
   cases l with
   |nil=>rfl
   |cons x l=>exact abd x t
  rw[<-a,this];exact S
 ·obtain rfl:v=((q+1:Nat):Int):=by omega
  have b:l[q+1]? =some l[q+1]:=BQ (by omega);have B:l[q]? =some l[q]:=BQ (by omega);generalize l[q+1]=x at b;generalize l[q]=y at B;obtain⟨t2,t1⟩:=LN B b;rw[t2,abe, <-t1] at a;have hfx:=T x (Bs b);have V:fy .i64 16 x.1=16*x.1:=eH (by omega) (by omega);have es:aZ .i64 ((q+1:Nat):Int) 1=(q:Int):=by rw[bF (by omega) (by omega)];omega
  refine aB (by simp) ⟨rfl,rfl,S.cH k0 p rfl ⟨⟨rfl,by omega,by omega⟩,rfl,S.tE hb b 0 (by decide) rfl ?_⟩⟩;rw[V];refine S.words ⟨by rw[A];exact hc.1,by rw[A];exact hc.2⟩ (16*x.1) 16 λrr rows h S L=>?_;have hll:(jF t.1 (16*x.1) 16).length<=16:=by
   by_cases M:(16:Int)<1\/16*x.1<0\/16*x.1>t.1.length\/16>t.1.length - 16*x.1
   ·rw[show jF t.1 (16*x.1) 16=[] from av M];simp
   ·rw[I_ M];decide
  have W:rr.2.1=(jF t.1 (16*x.1) 16).length:=L.1;refine⟨λn v w'=> ∃m:Nat,v.1=(m:Int)/\n+m=(jF t.1 (16*x.1) 16).length/\(∀i,i<m->(jF t.1 (16*x.1) 16)[i]? =some 0)/\bj Q D G w0 w' t (L0++rows),⟨(jF t.1 (16*x.1) 16).length,λN X=>⟨0,rfl,rfl,λi hi=>by omega,S.ext X⟩⟩,?_⟩;rintro n ⟨v,u2⟩ N ⟨m,g,hnm,O,S⟩;dsimp only at g ⊢;subst g;rw[W];refine ab (λE=>?_) (λE=>?_)
  ·have P:m<(jF t.1 (16*x.1) 16).length:=by simpa using E
   have hv:=BQ P;generalize (jF t.1 (16*x.1) 16)[m]=d at hv;obtain⟨g1,Y,Z,g4,ca,la,H⟩:=S;have R:=L.sl H (λx b=>by
    show x∈ _:: _:: _:: _::(L0++rows);simp[b]) m d hv
   have S:bj Q D G w0 N t (L0++rows):=⟨g1,Y,Z,g4,ca,la,H⟩;refine⟨⟨R.1,by omega,by omega⟩,aj.of d R.2 (ab (λc2=>S.en λF S=>k F ?_) (λc2=>λF h5=>⟨n - 1,by omega,m+1,?_,by omega,λi hi=>?_,S.ext h5⟩))⟩
   ·have c2: ¬ d=0:=by simpa using c2
    have I:xd t.1 x.1=false:=by
     unfold xd;rw[Gd];exact⟨d,Bs hv,by simpa using c2⟩
    rw[I,ao (by decide)] at a;rw[<-a];exact S.sub (FP _ _)
   ·rw[ax (by omega) (by omega)];omega
   ·have c2:d=0:=by simpa using c2
    by_cases e:i=m
    ·subst e;rw[hv,c2]
    ·exact O i (by omega)
  ·have P: ¬ m<(jF t.1 (16*x.1) 16).length:=by simpa using E
   have I:xd t.1 x.1=true:=by
    unfold xd;rw[Gi];intro d XC;obtain⟨i,hi⟩:=Gj XC;have:=O i (by have:=(B3.1 hi).1;omega);rw[hi] at this;cases this;rfl
   rw[I,av rfl] at a;have S:=S.sub (FP L0 rows);refine⟨rfl,rfl,S.cH k0 p rfl ?_⟩;rw[es];refine⟨⟨rfl,by omega,by omega⟩,rfl,S.tE hb B 2 (by decide) rfl (S.store _ 0 ⟨by decide,by decide⟩ λF S=>⟨rfl,rfl,S.cH k0 p rfl ⟨⟨rfl,by omega,by omega⟩,rfl,S.tE hb b 0 (by decide) rfl (S.TO x.1 5 0 λw6 S=>λw7 h7=>⟨q+1,by omega, _,by show(q:Int)+1= _;omega,by omega,?_,a,S.ext h7⟩)⟩⟩)⟩;show(dO t.1 y.2.2.1 0).length=s.1.length;rw[cF];exact A
theorem DI (S:bj Q D G w0 w s L0) (hc:NK Q s) (k0:Nat) (b:L0[k0]? =some (bt,oH Q o r gone)) (m:0<=r/\r<4096) (pg:Int) {K:Int×Int×Unit->A2->Prop} (k: ∀g,bj Q D G w0 g (nj s o r gone pg) L0->K (FQ s o r gone pg,BZ s o r gone pg,()) g):
 aA AA 175 (.bA [.one (.int .i64),.one (.int .i64)]) [ag (ae bt),aa pg] w K:=by
 refine S.go λw1 S=>ai (C:=N0) (aS:=λ_=>[]) (Ak (LG _ pg w1 K) ?_);refine S.query k0 b pg λg S=>ab (λc=>S.en λh S=>?_) (λc=>?_)
 ·have c: ¬ (bu s r gone pg).2.2.1=0:=by simpa using c
  have a:BZ s o r gone pg=(bu s r gone pg).2.2.1:=ao c;have e:FQ s o r gone pg=0:=by unfold FQ;rw[a,ao c]
  have f:nj s o r gone pg=s:=ao c;rw[a,e,f] at k;exact k h S
 have c:(bu s r gone pg).2.2.1=0:=by simpa using c
 have a:BZ s o r gone pg=mn s o r pg:=av c;have f:nj s o r gone pg=if mn s o r pg=0 then jv (dj (fm s o r pg).1 pg 3 r).reverse (dO (fm s o r pg).1 (dD (fm s o r pg).1 r pg).2.2.1 0,(fm s o r pg).2) else fm s o r pg:=av c;refine S.split k0 b pg λh S=>ab (λd=>S.en λi S=>?_) (λd=>?_)
 ·have d: ¬ mn s o r pg=0:=by simpa using d
  have e:FQ s o r gone pg=0:=by unfold FQ;rw[a,ao d]
  rw[a,e,f,ao d] at k;exact k i S
 have d:mn s o r pg=0:=by simpa using d
 have e:FQ s o r gone pg=(bu s r gone pg).1:=by unfold FQ;rw[a,av d]
 rw[e,a,f,av d,d] at k;have l:(fm s o r pg).1.length=s.1.length:=by
  unfold fm iT dR;split
  ·rfl
  ·split
   ·show(dO _ _ _).length= _;rw[cF,gK]
   ·rfl
 generalize fm s o r pg=t at*
 refine S.way pg λq bc i S=>S.N2 (pg:=pg) (k0+2) b (by simp) (by simp) λbs cs rest u S=>⟨rfl,rfl,S.cH (k0+3) b rfl ?_⟩;have n:(dj t.1 pg 3 r).length<=4:=tD t.1 pg 3 r;have v:0<(dj t.1 pg 3 r).length:=GG.2 (xE t.1 pg 3 r);have es:aZ .i64 (((dj t.1 pg 3 r).length:Nat):Int) 1=(((dj t.1 pg 3 r).length - 1:Nat):Int):=by rw[bF (by omega) (by omega)];omega
 dsimp only;rw[es];refine⟨⟨rfl,by omega,by omega⟩,rfl,S.tE (j:=0) rfl (Cw t.1 r pg) 2 (by decide) rfl (S.store _ 0 ⟨by decide,by decide⟩ λx S=>S.thin ⟨by show(dO _ _ _).length<= _;rw[cF,l];exact hc.1,by show(dO _ _ _).length<= _;rw[cF,l];exact hc.2⟩ (k0+3) b (j:=0) rfl n (Ja pg 3 r m) λy S=>S.en λp S=>k p S.tail.tail.tail)⟩
theorem tj (S:bj Q D G w0 w s L0) (k0:Nat) (g:L0[k0]? =some (bt,oH Q o r gone)) (pg rt:Int) {K:Int->A2->Prop} (k: ∀a,bj Q D G w0 a (rE s o r gone pg rt) L0->K (FR s o r gone pg rt) a):
 aA AA 177 (.el (.one (.int .i64))) [ag (ae bt),aa pg,aa rt] w K:=by
 refine S.go λw1 S=>ai (C:=N0) (aS:=λ_=>[]) (Ak (Rl _ pg rt w1 K) ?_);unfold rE FR at k;refine⟨_,S.state k0 g,?_⟩;cases gone with
 |true=>
  rw[av rfl,av rfl] at k;exact aB rfl (S.en λa S=>k a S)
 |false=>
  have j: ¬ (false=true):=by decide
  rw[ao j,ao j] at k;refine an rfl ⟨_,I6 _ _ _ _,ab (λc=>S.en λa S=>?_) (λc=>?_)⟩
  ·have c: ¬ lh pg 0 rt=0:=by simpa using c
   rw[ao c,ao c] at k;exact k a S
  have c:lh pg 0 rt=0:=by simpa using c
  rw[av c,av c] at k;have m:0<=pg:=by
   unfold lh at c;by_cases h:pg<0\/pg>=65536\/(0:Int)<0\/(0:Int)>=4096
   ·rw[av h] at c;cases c
   ·omega
  refine S.end_ k0 g pg λa S=>S.al λb p S=>S.al λq t S=>S.fg 1 rfl rfl rfl λu S=>S.fg 0 rfl rfl rfl λv S=>⟨rfl,S.cH 0 rfl rfl (ab (λd=>S.en λi S=>?_) (λd=>⟨rfl,S.cH 0 rfl rfl ⟨λ_=>rfl,S.cH 0 rfl rfl (ab (λe=>S.en λi S=>?_) (λe=>?_))⟩⟩))⟩
  ·have d: ¬ (cR s.1 r pg).1=true:=by simpa using d
   rw[ao d,ao d] at k;exact k i S.tail.tail
  ·have d:(cR s.1 r pg).1=true:=by simpa using d
   rw[av d,av d] at k;have e:((cR s.1 r pg).2.2.1&&(cR s.1 r pg).2.1==rt)=true:=e;rw[av e,av e] at k;exact k i S.tail.tail
  have d:(cR s.1 r pg).1=true:=by simpa using d
  rw[av d,av d] at k;have e: ¬ ((cR s.1 r pg).2.2.1&&(cR s.1 r pg).2.1==rt)=true:=by
   have e':((cR s.1 r pg).2.2.1&&(cR s.1 r pg).2.1==rt)=false:=e;rw[e'];decide
  rw[ao e,ao e] at k;refine S.ld 1 rfl rfl (S.ld 0 rfl rfl ⟨_,I8 m (dD s.1 r pg) (cR s.1 r pg) (py _ _) _,S.split (k0+2) g pg λi S=>ab (λf=>S.en λl S=>?_) (λf=>S.end_ (k0+2) g pg λl S=>S.fg 1 rfl rfl rfl λx S=>⟨rfl,S.cH 1 rfl rfl (S.lay (k0+2) g _ (true,rt,false,qy pg (dD s.1 r pg) (cR s.1 r pg),()) λy S=>S.en λn S=>?_)⟩)⟩)
  ·have f: ¬ mn s o r pg=0:=by simpa using f
   rw[ao f] at k;exact k l S.tail.tail
  ·have f:mn s o r pg=0:=by simpa using f
   rw[av f,f] at k;exact k n S.tail.tail
end bj
end
set_option maxRecDepth 100000
open Go.RX
noncomputable def N1:dI AA:={N0 with cl:=[(38,.Xb)]}
def pM:Nat->a8:=(λ|3=>[(12,Go.RX.El.one (Go.RX.Sc.int Av))]|9=>[(34,.one (.int .i64))]| _=>[])
theorem Hk (y:Nat) (p c d:Option AC) (w:A2) (i:Unit->A2->Prop):(bV N1 pM 247 [.func (.yield y) #[] #[],ag p,ag c,ag d] w i)=(
 aM w {toList:=[.func (Fn.yield y) ⟨[]⟩ ⟨[]⟩]} 38 λb a=>aj a none (ae b) (.one .Xb) λx=>aW a p λm=> ∀w1,Ext a w1->mq AA x [aa m] w1 λ(o:Bool) a=>aH (!o) (au a (i ())) (∃(I:Nat->Int×Unit->List Nat->A2->Prop),(∃n, ∀w1,Ext a w1->I n (0,()) [] w1)/\ ∀(n:Nat) (s:Int×Unit) (D1:List Nat) (w1:A2),I n s D1 w1->aH (decide (s.1<16)) (gf w1 c λx=>aW w1 p λq=>aA
 AA 235 (.el kj) [ag x,aa (aL .i64 (fy .i64 16 q) s.1)] w1 λ(x:Bool×Int×Bool×Int×Unit) a=>aM a ⟨[.bool false,aa 0,.bool false,aa 0]⟩ 130 λk a=>az a (ae k) [.bool x.1,aa x.2.1,.bool x.2.2.1,aa x.2.2.2.1] λa=>aW a d λx=>aj a (some !x==0) (ae k) kj λ(j:Bool×Int×Bool×Int×Unit)=>((!x==0)=true->True)/\aH (x==0|| !fM j.1
 j.2.1 j.2.2.1 j.2.2.2.1) (∀e,Ext a e-> ∃(f:Nat),f<n/\I f (aL .i64 s.1 1,()) D1 e) (gf a c λx=>true=true/\aW a (ad (ae k) 3) λt=>aW a d λu=>aA AA 239 (.el (.one (.z5 247 3))) [ag x,aa t,aa (aZ .i64 u 1)] a λx a=>zX AA 247 (λ(y:Nat)=>[.func (Fn.yield y) ⟨[]⟩ ⟨[]⟩,ag x.1,ag x.2.1,ag x.2.2.1]) ⟨[34]⟩ a (λ(x:Int×Unit)=>[aa x.1]) (λ(l:Nat)
 (rec:Loop) (x:Int×Unit) e (R:Bool->A2->Prop)=>Da l rec [aa x.1].length 1 e (BM l rec e λg=>aj g none (ae b) (.one .Xb) λv=> ∀w1,Ext g w1->mq AA v [aa x.1] w1 λ(b:Bool) a=>aH (!b) (sk l rec (some Code.ret) a R) (sk l rec none a R))) λ(r:Nat) (rec:Loop) z=>dB (r+1) rec z (λg=> ∀e,Ext g e-> ∃(f:Nat),f<n/\I f (aL .i64 s.1 1,()) (r::D1) e) (λ(id:Nat) g=>Bx (λ(h:id=2->False)=>Bx (λ(h:id=1->False)=>
 Bx (λ(h:id=0->False)=>False) (λ(h:id=0)=>sq (r::D1) g λw1=>i () w1) (match h:id.beq 0 with|true=>isTrue (Dk h)|false=>isFalse (Dl h))) (λ(h:id=1)=> ∀e,Ext g e-> ∃(f:Nat),f<n/\I f (aL .i64 s.1 1,()) (r::D1) e) (match h:id.beq 1 with|true=>isTrue (Dk h)|false=>isFalse (Dl h))) (λ(h:id=2)=> ∀e,Ext g e-> ∃(f:Nat),f<n/\I f (aL .i64 s.1 1,()) (r::D1) e)
 (match h:id.beq 2 with|true=>isTrue (Dk h)|false=>isFalse (Dl h))) λg=>sq (r::D1) g λw1=>i () w1)) (byD D1 (au w1 (i ())) λ(r:Nat) (D:List Nat)=>sq (r::D) w1 λw1=>i () w1))):=by kernel_rfl
open Go.RX D
section
variable {T:Type} {bm:Nat} {mc:List AN->Prop} {J:List T->List (Nat×List AN)->List (Nat×Obj)->A2->Prop} {a:List T} {X:List (Nat×List AN)} {O:List (Nat×Obj)} {w w':A2}
theorem zX.inX (K:JK bm mc J) {P:Program} {k:FuncId} {args:Nat->List AN} {ps:Array Nat} {f:T->List AN} {m:Nat->Loop->T->A2->(Bool->A2->Prop)->Prop} {n:Nat->Loop->A2->Prop} {N:Nat} {p:List (Nat×List AN)} {xs:List T}
 (j:J a X O w) (t:ItJ P k args f N bm mc p xs) (u: ∀x∈p,x∈X) (y:a.length+xs.length<=N)
 (z: ∀b x X' O' l rec d (R:Bool->A2->Prop),b.length<N->J b (X'++X) ((l,NF rec)::O') d->(∀w',J (b++[x]) (X'++X) ((l,NF rec)::O') w'->R true w')->m l rec x d R)
 (A: ∀r rec g,J (a++xs) X ((r+1,NF rec)::(r,.deferred (some []))::O) g->n r rec g):zX P k args ps w f m n:=by
 intro w1 h1 rec _ _ B C D;have V:rec={rec with state:= .ready,pending:= .none}:=by rw[<-B, <-C]
 have sz:(w1.alloc (.deferred (some []))).heap.size=w1.heap.size+1:=lI _ _;have j1:J a X _ (w1.alloc (.deferred (some []))):=K.alO (K.ext j h1) (λ_ _ _ e=>by cases e);have q:=K.alO (o:=NF rec) j1 (Ip rec _ _);rw[sz] at q
 let Z:=(w1.heap.size+1,NF rec)::(w1.heap.size,.deferred (some []))::O
 let i:=λb X' O' w=>J b (X'++X) (O'++Z) w
 have E:JK bm mc i:=
  {step:=λ{a' X' O' W d l' Y} h F hb G H I=>by
    have:=K.step h F hb G H I
    grind
   mem:=λh=>K.mem h
   dm:=λh hm=>K.dm h (by grind)
   obj:=λh hm=>K.obj h (by grind)
   alO:=λh c=>K.alO h c
   Z4:=λh c=>K.Z4 h c
   sub:=λh hx c=>K.sub h (by grind) (c.append_right Z)
   perm:=λh c=>K.perm h (c.append_right Z)}
 have L:Yd P (w1.heap.size+1) f N i:=λb x X' O' d R hb h M=>by
  refine D x d R ?_;have s:((w1.heap.size+1,NF rec)::(O'++((w1.heap.size,.deferred (some []))::O))).Perm (O'++Z):=(DB).symm;exact z b x X' _ _ rec d R hb (K.perm h s) (λw' h'=>M w' (K.perm h' s.symm))
 have Q:(w1.alloc (.deferred (some []))).alloc (.loop rec)=(w1.alloc (.deferred (some []))).alloc (NF rec):=by
  grind
 rw[Q];have S:=K.sub q (λx hm=>by
  rcases List.mem_append.1 hm with hm|hm<;>exact hm) (C7 _)
 refine Calls.mono (t (w1.heap.size+1) i E L a X [] _ y u S) ?_;rintro e g ⟨v,U,h⟩;exact⟨v,U,A _ _ _ (K.sub h (by grind) (by grind))⟩
end
def oz (ws:List Int) (l:Nat) (f:Int) (i:Nat):List Int:=match l with
 |0=>[]
 |l+1=>if dK (aK ws (16*f+(i:Int)))=true then cU ws l (aK ws (16*f+(i:Int))).2.2.2.1 else[]
theorem m8 (ws:List Int): ∀(l:Nat) (f:Int),cU ws l f=f::(Ay 16).flatMap (oz ws l f)
 |0,f=>by
  simp[cU,oz]
 |l+1,f=>rfl
theorem LO {m:Nat} (a:m<16) (g:Nat->List Int): ∃z,(Ay 16).flatMap g=(Ay m).flatMap g++(g m++z):=by
 obtain⟨z,e⟩: ∃z,Ay _=Ay (m+1)++z:=by
  refine⟨(Ay 16).drop (m+1),?_⟩
  conv=>rw[<-H4 (m+1) (Ay 16)]
  grind
 rw[e,H5];simp
abbrev emI (x:Int×Unit):List AN:=[aa x.1]
abbrev Tv (x:Int):Int×Unit:=(x,())
abbrev ucs (bt c1 c2 c3:Nat) (f:Int) (l:Nat):List (Nat×List AN):=[(c1,[aa f]),(c2,[ag (ae bt)]),(c3,[aa (l:Int)])]
theorem LP {D G:List Nat} {w0 w:A2} {L:List (Nat×List AN)} (H:aJ D G w0 w L) (p:Option AC) (f lv:Int) {K:Option AC×Option AC×Option AC×Unit->A2->Prop}
 (k: ∀b a c d,aJ D G w0 d ((c,[aa lv])::(a,[aa f])::(b,[ag p])::L)->K (some ⟨a,0,none⟩,some ⟨b,0,none⟩,some ⟨c,0,none⟩,()) d):
 aA AA 239 Gf [ag p,aa f,aa lv] w K:=
 aA.go H λw1 H=>ai (Ak (Ba p f lv w1 K) (aM.go H λb d H=>aM.go H λa e H=>aM.go H λc g H=>au.go H (by grind)))
abbrev UIt (Q:Sys) (ws:List Int) (bt:Nat) (o r:Int) (gone:Bool) (N lv:Nat):Prop:= ∀(f:Int) (a:0<=f/\f<4096) (c1 c2 c3:Nat),
 ItJ AA 247 (λy=>[.func (.yield y) #[] #[],ag (ae c1),ag (ae c2),ag (ae c3)]) emI N Q.bm (Mc Q ws.length)
  ((bt,oH Q o r gone)::(Q.bw,flat eW ws++Q.rw)::ucs bt c1 c2 c3 f lv) ((cU ws lv f).map Tv)
theorem Hl {Q:Sys} {ws:List Int} {bt:Nat} {o r:Int} {gone:Bool} {N:Nat} (jS:okW ws) (oJ:0<ws.length) (lv:Nat) (zZ:lv<=3) (ih: ∀l',lv=l'+1->UIt Q ws bt o r gone N l'):UIt Q ws bt o r gone N lv:=by
 intro f hf c1 c2 c3 y J K F a X O w i hX j;refine Calls.mono (aQ (C:=N1) (aS:=pM) (Post:=λ_ w'=>J (a++(cU ws lv f).map Tv) X O w') (Ak (Hk y _ _ _ w _) ?_)) ?_
 rotate_left
 ·rintro e w' ⟨x,rfl,h⟩;exact⟨_,rfl,h⟩
 rw[m8] at i ⊢;simp only[List.map_cons,B5,DK] at i;obtain⟨lm,⟨ca,la,rfl⟩,H⟩:=K.at0 j;refine aM.go H λb w2 H=>?_;have j:=K.tg (Y:=[(b, _)]) j H ⟨_, _,rfl⟩;have g: ∀x∈(bt,oH Q o r gone)::(Q.bw,flat eW ws++Q.rw)::ucs bt c1 c2 c3 f lv,x∈[(b,[Dn (.yield y) #[] #[]])]++X:=λx p=>C9 _ (hX x p);have q:(b,[Dn (.yield y) #[] #[]])∈[(b,[Dn (.yield y) #[] #[]])]++X:=List.mem_append_left _ (FB.2 rfl);have back: ∀{a':List (Int×Unit)} {w':A2},J a' ([(b,[Dn (.yield y) #[] #[]])]++X) O w'->J a' X O w':=λh=>K.sub h (λx p=>C9 _ p) (C7 _);generalize [(b,[Dn (.yield y) #[] #[]])]++X=k at j g q back;have x1:=g (bt,oH Q o r gone) (by simp);have G:=g (Q.bw,flat eW ws++Q.rw) (by simp);have I:=g (c1,[aa f]) (by simp);have L:=g (c2,[ag (ae bt)]) (by simp);have x5:=g (c3,[aa (lv:Int)]) (by simp);refine aj.of y ((K.dm j q).2.ov rfl) (aj.of f ((K.dm j I).2.ov rfl) λw3 h3=>F a (Tv f) k O w3 _ (by omega) (K.ext j h3) λw4 j=>?_);refine an rfl ⟨λn v D1 w'=> ∃m:Nat,v.1=(m:Int)/\n+m=16/\J (a++Tv f::((Ay m).flatMap (oz ws lv f)).map Tv) k (D1.map (λr=>(r,Obj.deferred (some [])))++O) w',⟨16,λM h5=>⟨0,rfl,rfl,by simpa using K.ext j h5⟩⟩,?_⟩;rintro n ⟨v,u⟩ D1 M ⟨m,P,hnm,j⟩;dsimp only at P ⊢;subst P;refine ab (λs=>?_) (λs=>?_)
 ·have t:m<16:=by simp at s;omega
  obtain⟨z,hz⟩:=LO t (oz ws lv f);have S:(a++Tv f::((Ay m).flatMap (oz ws lv f)).map Tv).length+((oz ws lv f m).map Tv).length<=N:=by
   rw[hz] at i;simp only[Ds,B5,DK] at i ⊢;omega
  have A:(Ay (m+1)).flatMap (oz ws lv f)=(Ay m).flatMap (oz ws lv f)++oz ws lv f m:=by
   rw[H5,List.flatMap_append];simp
  have ab7:aL .i64 (fy .i64 16 f) (m:Int)=16*f+(m:Int):=by rw[eH (by omega) (by omega),ax (by omega) (by omega)]
  have ab8:aL .i64 (m:Int) 1=((m+1:Nat):Int):=by rw[ax (by omega) (by omega)];omega
  refine aj.of (ae bt) ((K.dm j L).2.ov rfl) (aj.of f ((K.dm j I).2.ov rfl) ?_);rw[ab7,ab8];obtain⟨lm,⟨ca,la,rfl⟩,H⟩:=K.at0 j;have R:TbR Q ws M bt o r gone:=⟨(K.dm j x1).2,(K.dm j G).2,(K.dm j x1).1,(K.dm j G).1,jS,oJ⟩;have B:=K.dm j x5;have T:=K.dm j L;have U:c3∉[Q.bm]:=by simpa using B.1
  have n4:c2∉[Q.bm]:=by simpa using T.1
  refine O8 R H 0 rfl _ λca2 V H=>aM.go H λW w7 H=>az.all 0 H rfl rfl rfl λw8 H=>aj.fP H B.2 U rfl (aj.at 0 H rfl rfl ⟨λ_=>trivial,ab (λc=>λw9 h9=>?_) (λc=>?_)⟩)
  ·have D:=K.sub (K.ext (K.tg (Y:=[(W, _)]) j H ⟨_, _,rfl⟩) h9) (X':=k) (λx h=>C9 _ h) (C7 _);refine⟨n - 1,by omega,m+1,rfl,by omega,?_⟩;have E:oz ws lv f m=[]:=by
    cases lv with
    |zero=>rfl
    |succ l=>
     have c:dK (aK ws (16*f+(m:Int)))=false:=by
      have h0:((((l+1:Nat):Int))==0)=false:=by simp;omega
      simp only[h0,Bool.false_or,Bool.not_eq_true'] at c;exact c
     exact ao (by rw[c];decide)
   rw[A,E,Dd];exact D
  ·have c0: ¬ lv=0/\dK (aK ws (16*f+(m:Int)))=true:=by
    simp only[Fg,Bool.not_eq_false'] at c;refine⟨λe=>?_,c.2⟩;subst e;simp at c
   obtain⟨l,rfl⟩: ∃l,lv=l+1:=⟨lv - 1,by omega⟩;have E:oz ws (l+1) f m=cU ws l (aK ws (16*f+(m:Int))).2.2.2.1:=av c0.2;have elv:aZ .i64 ((l+1:Nat):Int) 1=(l:Int):=by rw[bF (by omega) (by omega)];omega
   refine aj.fP H T.2 n4 rfl ⟨rfl,aj.cw 0 H rfl rfl (aj.fP H B.2 U rfl ?_)⟩;rw[elv];refine LP H _ _ _ λd d1 d2 w9 H=>?_;have D:=K.tg (Y:=[(d2, _),(d1, _),(d, _),(W, _)]) j H ⟨_, _,rfl⟩;rw[E] at S A;refine zX.inX K D (ih l rfl _ (py _ _) d1 d d2) ?_ S ?_ ?_
   grind
   ·intro b0 x X' O' l' rec nh R hb j hR;refine Da.Xt K j rfl (BM.Xt K j λwb j=>aj.of y ((K.dm j (C9 _ (C9 _ q))).2.ov rfl) λZ H_=>F b0 x _ _ Z _ hb (K.ext j H_) λFj j=>an rfl (sk.Xt K j λTa j=>hR Ta j))
   ·intro r' rec nh j;refine dB.Xt K j λZ j=>λFj Tr=>⟨n - 1,by omega,m+1,rfl,by omega,?_⟩;have j3:=K.sub (K.ext j Tr) (X':=k) (λx h=>C9 _ h) (C7 _);rw[A];simpa using j3
 ·have t:m=16:=by simp at s;omega
  subst t;cases D1 with
  |nil=>exact λV h6=>back (K.ext j h6)
  |cons r' D1=>exact K.sq (r'::D1) j λV j=>back j
theorem Rq {Q:Sys} {ws:List Int} {bt:Nat} {o r:Int} {gone:Bool} {N:Nat} (a:okW ws) (b:0<ws.length): ∀lv:Nat,lv<=3->UIt Q ws bt o r gone N lv:=by
 intro lv
 induction lv with
 |zero
 |succ=>
  intro h;refine Hl a b _ h λe=>?_
  grind
abbrev eN:El:= .one (.int .i64)
theorem zF (ws:List Int): ∀(l:Nat) (f:Int),(cU ws l f).length<=(match l with|0=>1|1=>17|2=>273| _=>4369)\/3<l
 |0,f=> .inl (by simp[cU])
 |l+1,f=>by
  by_cases a:3<l+1
  ·exact .inr a
  refine .inl ?_;have step: ∀(c:Nat) (is:List Nat),(∀i,(oz ws (l+1) f i).length<=c)->(is.flatMap (oz ws (l+1) f)).length<=is.length*c:=by
   intro c is h
   induction is with
   |nil=>simp
   |cons i is b=>
    rw[List.flatMap_cons,Ds,B5,Nat.add_mul];have:=h i;omega
  have sub: ∀(c:Nat),(∀g,(cU ws l g).length<=c)-> ∀i,(oz ws (l+1) f i).length<=c:=by
   intro c h i;unfold oz
   grind
  rw[m8];have b:=zF ws l;rcases l with _| _| _|l
  ·have:=step 1 (Ay 16) (sub 1 (by grind))
   grind
  ·have:=step 17 (Ay 16) (sub 17 (by grind))
   grind
  ·have:=step 273 (Ay 16) (sub 273 (by grind))
   grind
  ·omega
theorem pG (ws:List Int) (f:Int):(cU ws 3 f).length<=4369:=by grind[zF]
theorem Bb (ws:List Int) (l:Nat) (f:Int):cU ws l f≠[]:=by simp[m8]
theorem Ei (x:Int): ∀l:List Int,(jG x l).length=l.length+1
 |[]=>rfl
 |y::l=>by
  rw[jG];split
  ·rw[B5,Ei];rfl
  ·rfl
theorem y7: ∀(l a:List Int),(l.foldl (λa x=>jG x a) a).length=a.length+l.length
 |[],a=>rfl
 |x::l,a=>by
  rw[H6,y7,Ei,B5];omega
theorem jP (l:List Int):(mN l).length=l.length:=by simp[mN,y7]
theorem Zr (p z:List Int) (a c:Int):(p++a::z).set p.length c=p++c::z:=by simp
section
variable {Q:Sys} {D G:List Nat} {w0 w:A2} {s:WD} {L0:List (Nat×List AN)} {bt:Nat} {o r:Int} {gone:Bool}
namespace bj
theorem under (S:bj Q D G w0 w s L0) (f lv:Int) {K:Option AC×Option AC×Option AC×Unit->A2->Prop} (k: ∀b a c d,bj Q D G w0 d s ((c,[aa lv])::(a,[aa f])::(b,[ag (ae bt)])::L0)->K (some ⟨a,0,none⟩,some ⟨b,0,none⟩,some ⟨c,0,none⟩,()) d):
 aA AA 239 Gf [ag (ae bt),aa f,aa lv] w K:=by
 refine S.go λw1 S=>ai (Ak (Ba _ f lv w1 K) ?_);exact S.al λb d S=>S.al λa e S=>S.al λc g S=>S.en (by grind)
theorem abf (S:bj Q D G w0 w s L0) (k0:Nat) (O:L0[k0]? =some (bt,oH Q o r gone)) {c1 c2 c3:Nat} {f:Int} (j:0<=f/\f<4096) (h1:(c1,[aa f])∈L0) (P:(c2,[I1 (ae bt)])∈L0) (T:(c3,[aa 3])∈L0)
 {K:Option AC×Nat×Nat->A2->Prop} (k: ∀bs cs rest c,bj Q D G w0 c s ((bs,flat eN (cU s.1 3 f)++rest)::L0)->K (some ⟨bs,0,none⟩,(cU s.1 3 f).length,cs) c):
 aA AA 238 (.el (.one .slice)) [.func (.func 247) #[] #[ag (ae c1),ag (ae c2),ag (ae c3)]] w K:=by
 refine S.go λw1 S=>aQ (C:=N0) (aS:=qW) (Ak (LH _ _ _ w1 K) ?_);obtain⟨g1,m,n,g,ca,la,H0⟩:=S;have H:=H0.again;refine aM.go H λbl c H=>?_;have p:=pG s.1 f;refine zX.N2 (N:=4369) (bm:=Q.bm) (mc:=Mc Q s.1.length) (Z5:=[(bl,[.slice none 0 0])]) H ⟨_, _,rfl⟩
  (Rq (o:=o) (r:=r) (gone:=gone) (bt:=bt) g g1 3 (B6 _) f j c1 c2 c3) ?_ (by simpa using p) (λxs d=>Xz eN bl (xs.map (·.1)) d) (.inl ⟨rfl,rfl⟩) ?_ ?_
 grind
 ·intro U x d Z rr l rec V R W a b q;obtain⟨sl,e⟩:=a.head;refine Da.go b rfl (BM.goO b λwb H t u=>aj.at 0 H (by rw[E4 (B3.1 e).1];exact e) rfl (aM.go H λX i H=>λY v=>?_));have H:=H.ext v;exact a.push e (x:=x.1) H rfl rfl rfl (by grind) λy w8 z A=>sk.lx t A λB E F=>q y B (by simpa using z) E (u.trans F)
 ·rintro rr rec w4 l' d ⟨I,J,rfl⟩ a b;refine dB.none b λw5 H=>?_;have L:((cU s.1 3 f).map Tv).map (·.1)=cU s.1 3 f:=by
   rw[List.map_map];exact List.map_id _
  rw[L] at a;rcases a with ⟨h, _⟩|⟨bs,cs,rest,rfl,q1,q2⟩
  ·exact absurd h (Bb _ _ _)
  ·refine aj.at 0 H rfl rfl (sq.go H λi H=>k bs cs rest i ⟨g1,m,n,g,I,J,H0.join (λx M=>M) ?_⟩);refine(H.sub (C8 _ _)).perm ?_;exact DB (l₁:=[_, _, _, _])
theorem Iv (S:bj Q D G w0 w s L0) {j bs:Nat} {xs:List Int} {rest:List AN} (a:L0[j]? =some (bs,flat eN xs++rest)) {i:Nat} {x:Int} (b:xs[i]? =some x):cQ w (ad (ae bs) (i*1)) eN x:=fT (S.get a) b
theorem WU (S:bj Q D G w0 w s L0) (j:Nat) {bs:Nat} {xs:List Int} {rest:List AN} (a:L0[j]? =some (bs,flat eN xs++rest)) {i:Nat} (hi:i<xs.length) (v:Int) {K:A2->Prop} (k: ∀w1,bj Q D G w0 w1 s (L0.set j (bs,flat eN (xs.set i v)++rest))->K w1):az w (ad (ae bs) (i*1)) [aa v] K:=by
 obtain⟨h1,b,c,d,ca,la,H⟩:=S;exact az.flat (e:=eN) (j+4) H v a rfl rfl hi λw1 H=>k w1 ⟨h1,b,c,d,ca,la,H⟩
theorem all (S:bj Q D G w0 w s L0) (k0:Nat) (q:L0[k0]? =some (bt,oH Q o r gone)) (V:0<=r/\r<4096) {K:Option AC×Nat×Nat->A2->Prop} (k: ∀x rows d,bj Q D G w0 d s (L0++rows)->n_ eN rows x (mO s r gone)->K x d):
 aA AA 214 (.el (.one .slice)) [ag (ae bt)] w K:=by
 refine S.go λw1 S=>ai (C:=N0) (aS:=wi) (Ak (Vd _ w1 K) ?_);refine⟨_,S.state k0 q,?_⟩;cases gone with
 |true=>exact aB rfl (S.en λd S=>k (none,0,0) [] d (by rw[Dd];exact S) ⟨rfl,.inl ⟨rfl,rfl⟩⟩)
 |false=>
  refine an rfl ⟨rfl,rfl,S.cH k0 q rfl (S.under r 3 λc2 c1 c3 d S=>S.abf (k0+3) q V (by simp) (by simp) (by simp) λbs cs rest i S=>?_)⟩;have S:=S.perm (L1:=(bs,flat eN (cU s.1 3 r)++rest)::(L0++[(c3,[aa 3]),(c1,[aa r]),(c2,[ag (ae bt)])])) (Fu _ (by exact List.perm_append_comm (l₂:=[_, _, _])));have S:=S.sub (List.Sublist.cons_cons _ (FP _ _));have hlen:=pG s.1 r;have W:mO s r false=mN (cU s.1 3 r):=ao (by decide);rw[W] at k;have dh:=Bb s.1 3 r;generalize cU s.1 3 r=l at*
  refine⟨λn v w'=> ∃m:Nat,v.1=(m:Int)/\n+m=l.length/\bj Q D G w0 w' s ((bs,flat eN (((l.take m).foldl (λa x=>jG x a) []).reverse++l.drop m)++rest)::L0),⟨l.length,λX Y=>⟨0,rfl,rfl,by simpa using S.ext Y⟩⟩,?_⟩;rintro n ⟨v,u⟩ X ⟨m,b,hnm,S⟩;dsimp only at b ⊢;subst b;refine ab (λt=>?_) (λt=>?_)
  ·have z:m<l.length:=by simpa using t
   obtain⟨R,E⟩: ∃R,R=(l.take m).foldl (λa x=>jG x a) []:=⟨_,rfl⟩;have F:R.length=m:=by rw[E,y7,FM];simp;omega
   have L:=BQ z;obtain⟨x,M⟩: ∃x,x=l[m]:=⟨_,rfl⟩;rw[<-M] at L;have hd:l.drop m=x::l.drop (m+1):=by rw[FS z,M]
   have abg:(l.take (m+1)).foldl (λa x=>jG x a) []=jG x R:=by
    rw[FO,L,Option.toList_some,List.foldl_append, <-E];rfl
   obtain⟨Z,N⟩: ∃Z,Z=l.drop (m+1):=⟨_,rfl⟩;rw[<-E,hd, <-N] at S;refine⟨λO v w'=> ∃A B:List Int,v.1=(A.length:Int)/\O=A.length/\A.length+B.length=m/\B++jG x A=jG x R/\bj Q D G w0 w' s ((bs,flat eN (A.reverse++x::(B.reverse++Z))++rest)::L0),⟨m,λf h5=>⟨R,[],by rw[F],F.symm,by simp[F],rfl,by simpa using S.ext h5⟩⟩,?_⟩;rintro O ⟨v,u2⟩ f ⟨A,B,b,rfl,hAB,H,S⟩;dsimp only at b ⊢;subst b;have P: ∀(C:List Int),C=jG x R-> ∀{w':A2},bj Q D G w0 w' s ((bs,flat eN (C.reverse++Z)++rest)::L0)-> ∀i,Ext w' i-> ∃T,T<n/\ ∃p:Nat,aL .i64 (m:Int) 1=(p:Int)/\T+p=l.length/\bj Q D G w0 i s ((bs,flat eN (((l.take p).foldl (λa x=>jG x a) []).reverse++l.drop p)++rest)::L0):=by
    intro C hC w' S i h3;refine⟨n - 1,by omega,m+1,by rw[ax (by omega) (by omega)];omega,by omega,?_⟩;rw[abg, <-hC, <-N];exact S.ext h3
   cases A with
   |nil=>
    refine⟨λh=>by simp at h,0,λh=>by simp at h,λh=>by simp at h,0,λh=>by simp at h,an rfl (P (B++jG x []) H (w':=f) ?_)⟩;have e:(B++jG x []).reverse++Z=[].reverse++x::(B.reverse++Z):=by simp[jG]
    rw[e];exact S
   |cons y A=>
    have e:(y::A).reverse++x::(B.reverse++Z)=A.reverse++y::x::(B.reverse++Z):=by simp
    rw[e] at S;simp only[B5] at hAB;have es:aZ .i64 (((y::A).length:Nat):Int) 1=(A.length:Int):=by rw[B5,bF (by omega) (by omega)];omega
    rw[es];have I:(A.reverse++y::x::(B.reverse++Z))[A.length]? =some y:=by rw[H7 (by simp)];simp
    have U:(A.reverse++y::x::(B.reverse++Z))[A.length+1]? =some x:=by rw[H7 (by simp)];simp
    have Wk:A.length<(A.reverse++y::x::(B.reverse++Z)).length:=(B3.1 I).1;have s1:(A.reverse++y::x::(B.reverse++Z)).set A.length x=A.reverse++x::x::(B.reverse++Z):=by
     have:=Zr A.reverse (x::(B.reverse++Z)) y x;rwa[List.length_reverse] at this
    have s2:(A.reverse++x::x::(B.reverse++Z)).set (A.length+1) y=A.reverse++x::y::(B.reverse++Z):=by
     simp
    have Ie:A.length+1<(A.reverse++x::x::(B.reverse++Z)).length:=by simp
    have t1:((A.length:Nat):Int).toNat=A.length:=rfl;have t2:(((y::A).length:Nat):Int).toNat=A.length+1:=rfl;rw[t1,t2];have g1:(some (⟨bs,0,none⟩:AC)).isSome=true/\0<=(A.length:Int)/\(A.length:Int)<(l.length:Int):=⟨rfl,by omega,by omega⟩;have J:(some (⟨bs,0,none⟩:AC)).isSome=true/\0<=(((y::A).length:Nat):Int)/\(((y::A).length:Nat):Int)<(l.length:Int):=⟨rfl,by omega,by rw[B5];omega⟩;refine⟨λ_=>g1,aj.of y (S.Iv (j:=0) rfl I) ⟨λ_=>J,aj.of x (S.Iv (j:=0) rfl U) (ab (λc=>⟨J,aj.of x (S.Iv (j:=0) rfl U) ⟨g1,aj.of y (S.Iv (j:=0) rfl I) ⟨g1,S.WU 0 rfl Wk x λw6 S=>⟨J,?_⟩⟩⟩⟩) (λc=>P (B++jG x (y::A)) H (w':=f) ?_))⟩⟩
    ·rw[s1] at S;refine S.WU 0 rfl Ie y λw7 S=>λw8 h8=>⟨A.length,Nat.lt_succ_self _,A,B++[y],rfl,rfl,by simp;omega,?_,?_⟩
     ·have c2:y>x:=by simpa using c
      rw[<-H,jG,av c2,GF];rfl
     ·rw[s2] at S;have g:A.reverse++x::((B++[y]).reverse++Z)=A.reverse++x::y::(B.reverse++Z):=by simp
      rw[g];exact S.ext h8
    ·have c2: ¬ y>x:=by simpa using c
     have g:(B++jG x (y::A)).reverse++Z=A.reverse++y::x::(B.reverse++Z):=by rw[jG,ao c2];simp
     rw[g];exact S
  ·have z: ¬ m<l.length:=by simpa using t
   have b:l.take m=l:=Ga (by omega);have g:l.drop m=[]:=FN (by omega);rw[b,g,Dd] at S;refine S.en λf S=>k (some ⟨bs,0,none⟩,l.length,cs) [(bs,flat eN (mN l)++rest)] f (S.perm (List.perm_append_singleton _ _)) ⟨(jP l).symm,.inr ⟨bs,rest,rfl,rfl⟩⟩
theorem drop (S:bj Q D G w0 w s L0) (k0:Nat) (d:L0[k0]? =some (bt,oH Q o r gone)) (E:0<=r/\r<4096) {K:Option AC×Nat×Nat->A2->Prop} (k: ∀x rows b,bj Q D G w0 b (cG s r gone) (L0.set k0 (bt,oH Q o r true)++rows)->n_ eN rows x (mO s r gone)->K x b):
 aA AA 171 (.el (.one .slice)) [ag (ae bt)] w K:=by
 refine S.go λw1 S=>ai (C:=N0) (aS:=uk) (Ak (Rm _ w1 K) ?_);refine⟨_,S.state k0 d,?_⟩;have F:k0<L0.length:=(B3.1 d).1;cases gone with
 |true=>
  have e:L0.set k0 (bt,oH Q o r true)=L0:=GD (by grind);exact aB rfl (S.en λb S=>k (none,0,0) [] b (by rw[Dd,e];exact S) ⟨rfl,.inl ⟨rfl,rfl⟩⟩)
 |false=>
  refine an rfl (S.all k0 d E λx rows b S g=>?_);have I:cG s r false=(s.1,(mO s r false).foldl (λds f=>dJ ds f (aO 5 0)) s.2):=ao (by decide);rw[I] at k;have X:(mO s r false).length<=4369:=by
   rw[show mO s r false=mN (cU s.1 3 r) from ao (by decide),jP];exact pG _ _
  generalize mO s r false=l at*
  obtain⟨J,L,M⟩:=x;have N:L=l.length:=g.1;subst N;obtain⟨c,j⟩: ∃c,c=l.foldl (λds f=>dJ ds f (aO 5 0)) s.2:=⟨_,rfl⟩;rw[<-j] at k;have p:(L0++rows)[k0]? =some (bt,oH Q o r false):=by grind
  refine⟨λn v w'=> ∃(m:Nat) (ds:List DT),v.1=(m:Int)/\n+m=l.length/\(l.drop m).foldl (λds f=>dJ ds f (aO 5 0)) ds=c/\bj Q D G w0 w' (s.1,ds) (L0++rows),⟨l.length,λq O=>⟨0,s.2,rfl,rfl,j.symm,S.ext O⟩⟩,?_⟩;rintro n ⟨v,u⟩ q ⟨m,ds,t,Y,a,S⟩;dsimp only at t ⊢;subst t;refine ab (λh=>?_) (λh=>?_)
  ·have i:m<l.length:=by simpa using h
   have y:=BQ i;obtain⟨f,z⟩: ∃f,f=l[m]:=⟨_,rfl⟩;rw[<-z] at y;rw[FS i, <-z,H6] at a;obtain⟨g1,P,R,T,ca,la,H⟩:=S;have A:=g.sl H (λx U=>by
    show x∈ _:: _:: _:: _::(L0++rows);simp[U]) m f y
   have S:bj Q D G w0 q (s.1,ds) (L0++rows):=⟨g1,P,R,T,ca,la,H⟩;refine⟨⟨A.1,by omega,by omega⟩,aj.of f A.2 ⟨rfl,rfl,S.cH k0 p rfl (S.TO f 5 0 λV S=>λB W=>⟨n - 1,by omega,m+1, _,?_,by omega,a,S.ext W⟩)⟩⟩;rw[ax (by omega) (by omega)];omega
  ·have i: ¬ m<l.length:=by simpa using h
   rw[FN (by omega)] at a;have a:ds=c:=a;subst a;refine⟨rfl,rfl,S.Cj k0 p rfl rfl λV S=>S.en λB S=>k (J,l.length,M) rows B ?_ g⟩;rw[List.set_append_left _ _ F] at S;exact S
theorem new (S:bj Q D G w0 w s L0) (o:Int) {K:Option AC×Int×Unit->A2->Prop}
 (f:(s.1.length:Int)<16*(s.2.length:Int)-> ∀a,bj Q D G w0 a s L0->K (none,1,()) a)
 (g: ¬ (s.1.length:Int)<16*(s.2.length:Int)-> ¬ rk s o=0-> ∀a,bj Q D G w0 a (iT s o λ_=>0) L0->K (none,rk s o,()) a)
 (i: ¬ (s.1.length:Int)<16*(s.2.length:Int)->rk s o=0-> ∀b a,bj Q D G w0 a (iT s o λ_=>0) ((b,oH Q o (eK s o) false)::L0)->K (some ⟨b,0,none⟩,0,()) a):
 aA AA 164 (.bA [.one .ptr,.one (.int .i64)]) [ag (ae Q.bm),ag (ae Q.bp),aa o] w K:=by
 refine S.go λw1 S=>ai (C:=N0) (aS:=λ_=>[]) (Ak (Ve _ _ o w1 K) ?_);have h1:=S.pos;have j:=S.FU;have k:=S.le;have c1:(((s.1.length:Nat):Int)==0)=false:=by grind
 have c2:(((s.2.length:Nat):Int)==0)=false:=by grind
 have h:fy .i64 16 ((s.2.length:Nat):Int)=16*(s.2.length:Int):=eH (by omega) (by omega);refine⟨_,S.aaq, _,λ_=>S.Ys, _,λ_=>S.aaq, _,λ_=>S.Ys,?_⟩;rw[c1,c2,h];refine ab (λc=>S.en λa S=>f (by simpa using c) a S) (λc=>S.al λb a S=>S.aba (r:=0) (gone:=false) 0 rfl λl S=>ab (λd=>S.en λe S=>?_) (λd=>⟨rfl,rfl,S.Cj 0 rfl rfl rfl λe S=>S.en (by grind)⟩));exact g (by simpa using c) (by simpa using d) e S.tail
end bj
end
set_option maxRecDepth 100000
open Go.RX
abbrev iN:List Sc:=[.int .u64,.int .i64]
abbrev RS:Type:=Int×Int×Unit
noncomputable def B0:dI AA:={N0 with quiet:=[]}
theorem Vn (e:Int) (w:A2) (c:RS->A2->Prop):(bV B0 (λ_=>[]) 75 [aa e] w c)=(
 aM w ⟨[ay 0,aa 0]⟩ 61 λb a=>az a (ae b) [ay 0,aa e] λa=>au a λw1=>aj w1 none (ae b) cD λ(x:Int×Int×Unit)=>c (x.1,x.2.1,()) w1):=by kernel_rfl
theorem Vo (e:Int) (w:A2):aC AA 75 (.el (.agg iN)) [aa e] w (λx w'=>x=(0,e,())/\Ext w w'):=by
 refine aQ (C:=B0) (aS:=λ_=>[]) (Ak (Vn e w _) ?_);have H:=At.start [] w;exact aM.go H λb a H=>az.all 0 H rfl rfl rfl λc H=>au.go H λd H=>aj.at 0 H rfl (show _=some (0,e,()) from rfl) ⟨rfl,H.all⟩
noncomputable def abh:Entry AA where
 f:=75
 fn l:=match l with
  |[.int .i64 e]=>some (True,.agg ⟨[.int .u64 0,.int .i64 e]⟩)
  | _=>none
 ok args pre v h a w:=by
  split at h
  ·rename_i e;cases h;exact bX (Vo e w)
  ·cases h
noncomputable def V0:dI AA:={N0 with si:=abh::N0.si,quiet:=[53,19,165,21,179,174,76,77,176,25,62,117,56]}
noncomputable def V1:dI AA:={V0 with ZT:=some (.el (.agg iN))}
theorem LQ (p:Option AC) (w:A2) (a:Bool->A2->Prop):(aI V0 (λ_=>[]) 53 [ag p] w a)=(
 ((!p.isNone)=true->p.isSome=true)/\((!p.isNone)=true->p.isSome=true)/\aj w (some !p.isNone) (ad p 0) lW λx=>au w (a (!p.isNone&& !x.isNone))):=by kernel_rfl
theorem Rs (p:Option AC) (v:Int) (w:A2) (a:Bool->A2->Prop):(aI V0 (λ_=>[]) 19 [ag p,aa v] w a)=(
 ∃x,af AA 53 [ag p] w (.bool x)/\((x&&decide (v>=1)&&decide (v<=16))=true->p.isSome=true)/\((x&&decide (v>=1)&&decide (v<=16))=true->p.isSome=true)/\((x&&decide (v>=1)&&decide (v<=16))=true->(ad p 4).isSome=true/\0<=v/\v<(↑17:Int))/\aj w (some (x&&decide (v>=1)&&decide (v<=16))) (ad (ad p 4) (v.toNat*1)) lW λb=>au w (a (x&&decide (v>=1)&&decide (v<=16)&& !b.isNone))):=by kernel_rfl
theorem LR (p:Option AC) (a:Int) (w:A2) (b:Bool->A2->Prop):(aI V0 (λ_=>[]) 165 [ag p,ay a] w b)=(
 ∃x,(decide (a<=16)=true->af AA 19 [ag p,aa (aG .i64 a)] w (.bool x))/\au w (b (decide (a<=16)&&x))):=by kernel_rfl
theorem Ru (p:Option AC) (v:Int) (w:A2) (a:Int->A2->Prop):(aI V0 (λ_=>[]) 21 [ag p,aa v] w a)=(
 ∃x,af AA 19 [ag p,aa v] w (.bool x)/\aH (!x) (au w (a (-1))) (p.isSome=true/\p.isSome=true/\((ad p 4).isSome=true/\0<=v/\v<(↑17:Int))/\gf w (ad (ad p 4) (v.toNat*1)) λx=>bH x 0 w λx=> ∃(b:Int),af AA 56 [ag x] w (aa b)/\au w (a b))):=by kernel_rfl
theorem LU (p:Option AC) (v g:Int) (w:A2) (a:Int×Int×Int×Unit->A2->Prop):(aI V0 (λ_=>[]) 81 [ag p,aa v,aa g] w a)=(
 ∃x,af AA 53 [ag p] w (.bool x)/\aH (!x) (au w (a (0,0,10,()))) (∃x,af AA 19 [ag p,aa v] w (.bool x)/\aH (!x) (au w (a (0,0,4,()))) (p.isSome=true/\p.isSome=true/\((ad p 4).isSome=true/\0<=v/\v<(↑17:Int))/\gf w (ad (ad p 4) (v.toNat*1)) λx=>bH x 0 w λx=>aA AA 139 (.bA [.one (.int .i64),.one (.int .i64),.one (.int .i64)]) [ag x,aa g] w λ(x:Int×Int×Int×Unit) b=>au b (a (x.1,x.2.1,x.2.2.1,()))))):=by kernel_rfl
theorem LV (p:Option AC) (v g:Int) (w:A2) (d:Int×Bool×Unit->A2->Prop):(aI V0 (λ_=>[]) 174 [ag p,aa v,aa g] w d)=(
 ∃x,af AA 19 [ag p,aa v] w (.bool x)/\aH (!x) (au w (d (0,false,()))) (p.isSome=true/\p.isSome=true/\((ad p 4).isSome=true/\0<=v/\v<(↑17:Int))/\gf w (ad (ad p 4) (v.toNat*1)) λx=>sV x 1 w λx=> ∃(a:Int×Int×Unit), ∃(b:Bool),mr w x .i64 g (.agg ⟨[aa 0,aa 0]⟩) (.agg ⟨[aa a.1,aa a.2.1]⟩) b/\aM w ⟨[aa 0,aa 0]⟩ 263 λe c=>az c (ae e) [aa a.1,aa a.2.1] λc=>true=true/\aW c (ad (ae e) 0) λx=>au c (d (x,
 b,())))):=by kernel_rfl
theorem Hm (p:Option AC) (w:A2) (a:Option AC->A2->Prop):(aI V0 (λ_=>[]) 18 [ag p] w a)=(
 ∃x,af AA 53 [ag p] w (.bool x)/\aH (!x) (au w (a none)) (bH p 1 w λx=>aA AA 54 (.el lW) [ag x] w λx b=>au b (a x))):=by kernel_rfl
theorem Hn (p:Option AC) (w:A2) (a:Option AC->A2->Prop):(aI V0 (λ_=>[]) 23 [ag p] w a)=(
 ∃x,af AA 53 [ag p] w (.bool x)/\aH (!x) (au w (a none)) (bH p 0 w λx=>au w (a x))):=by kernel_rfl
theorem Rv (p:Option AC) (f:Int) (w:A2) (d:Int->A2->Prop):(aI V0 (λ_=>[]) 43 [ag p,aa f] w d)=(
 ∃x,af AA 53 [ag p] w (.bool x)/\aH (!x) (au w (d 10)) (bH p 1 w λx=> ∃(a:(Int×Int×Int×Int×Unit)×Bool×Unit),af AA 25 [ag x,aa f] w (.tuple {toList:=[.agg ⟨[aa a.1.1,aa a.1.2.1,aa a.1.2.2.1,aa a.1.2.2.2.1]⟩,.bool a.2.1]})/\aM w ⟨[aa 0,aa 0,aa 0,aa 0]⟩ 52 λb c=>az c (ae b) [aa a.1.1,aa a.1.2.1,aa a.1.2.2.1,aa a.1.2.2.2.1] λc=>aH (!a.2.1) (au c (d 2)) (true=true/\aW c (ad (ae
 b) 0) λx=>aH (x != 5) (au c (d 6)) (bH p 1 c λx=>aA AA 79 (.el aX) [ag x,aa f] c λ(x:Int) c=>au c (d x))))):=by kernel_rfl
theorem LW (p:Option AC) (v a:Int) (w:A2) (b:Int->A2->Prop):(aI V0 (λ_=>[]) 179 [ag p,aa v,ay a] w b)=(
 aH (decide (a<1)||decide (a>16)||aG .i64 a==v) (au w (b 1)) (∃x,af AA 165 [ag p,ay a] w (.bool x)/\aH (!x) (au w (b 4)) (au w (b 0)))):=by kernel_rfl
theorem Rw (p:Option AC) (v a t:Int) (w:A2) (d:Int×Int×Unit->A2->Prop):(aI V0 (λ_=>[]) 178 [ag p,aa v,ay a,aa t] w d)=(
 aH (decide (a>=1048576)) (au w (d (0,2,()))) (bH p 0 w λx=> ∃(e:Int),af AA 21 [ag p,aa v] w (aa e)/\(aA AA 223 (.el dQ) [ag x,aa e,aa (aG .i64 (wT .u64 a 16)),aa t] w λ(x:Int×Int×Int×Int×Unit) c=>aM c ⟨[aa 0,aa 0,aa 0,aa 0]⟩ 48 λb c=>az c (ae b) [aa x.1,aa x.2.1,aa x.2.2.1,aa x.2.2.2.1] λc=>true=true/\aW c (ad (ae b) 0) λx=>true=true/\aW c (ad (ae b) 3) λf=>au
 c λw1=>d (aL .i64 (fy .i64 16 x) (aG .i64 (f_ a 16)),f,()) w1)/\aM w ⟨[aa 0,aa 0,aa 0,aa 0]⟩ 48 λb c=>aA AA 223 (.el dQ) [ag x,aa e,aa (aG .i64 (wT .u64 a 16)),aa t] c λ(x:Int×Int×Int×Int×Unit) c=>az c (ae b) [aa x.1,aa x.2.1,aa x.2.2.1,aa x.2.2.2.1] λc=>true=true/\aW c (ad (ae b) 0) λx=>true=true/\aW c (ad (ae b) 3) λf=>au c λw1=>d (aL .i64 (fy .i64 16 x) (aG .i64 (f_ a 16)),
 f,()) w1)):=by kernel_rfl
def qX:Nat->a8:=(λ|3=>[(3,Go.RX.El.one (Go.RX.Sc.int Av))]| _=>[])
theorem LX (p:Option AC) (w:A2) (c:Int->A2->Prop):(aI V0 qX 168 [ag p] w c)=(
 sV p 1 w λx=>RgP w x λb a=> ∃(I:Nat->Int×Unit->A2->Prop),(∃n, ∀w1,Ext a w1->I n (65536,()) w1)/\ ∀(n:Nat) (s:Int×Unit) (w1:A2),I n s w1->NxP w1 (ae b) (λa=>au a (c s.1)) λ(k v:AN) a=> ∃(x:Int), ∃(v:AN),Ad a (ae b) (aa x) v/\ ∀d,Ext a d-> ∃(e:Nat),e<n/\I e (kM s.1 x,()) d):=by kernel_rfl
def um:Nat->a8:=(λ_=>[])
theorem Rx (p:Option AC) (v g:Int) (w:A2) (d:Unit->A2->Prop):(aI V0 um 167 [ag p,aa v,aa g] w d)=(
 p.isSome=true/\p.isSome=true/\((ad p 4).isSome=true/\0<=v/\v<(↑17:Int))/\gf w (ad (ad p 4) (v.toNat*1)) λx=>sV x 1 w λf=> ∃(c:Int×Int×Unit),jX w f .i64 g (.agg ⟨[aa 0,aa 0]⟩) (.agg ⟨[aa c.1,aa c.2.1]⟩)/\aM w ⟨[aa 0,aa 0]⟩ 263 λb a=>az a (ae b) [aa c.1,aa c.2.1] λa=>sV x 1 a λh=> ∀w1,Ext a w1-> ∃(r:Nat), ∃(es:Array Al), ∃(e:Nat),h=some r/\bG w1 r es e/\Ac w1 r .i64 g es e λa=>bH x 0 a λx=>aA
 AA 175 (.bA [.one (.int .i64),.one (.int .i64)]) [ag x,aa g] a λ(x:Int×Int×Unit) a=>bH p 1 a λx=>true=true/\aW a (ad (ae b) 1) λi=>aA AA 183 (.el aX) [ag x,aa i,aa (-1)] a λ(x:Int) a=>bH p 2 a λx=>true=true/\aW a (ad (ae b) 0) λj=>aA AA 182 (.el aX) [ag x,aa j,aa v] a λ(x:Int) a=>au a (d ())):=by kernel_rfl
theorem Vp (n:Int) (w:A2) (c:Option AC×Int×Unit->A2->Prop):(aI V0 (λ_=>[]) 40 [aa n] w c)=(
 aH (decide (n<4)||decide (n>4096)) (au w (c (none,1,()))) (aM w {toList:=[ag none,ag none,ag none,ag none,ag none,ag none,ag none,ag none,ag none,ag none,ag none,ag none,ag none,ag none,ag none,ag none,ag none,ag none,ag none,ag none,ag none]} 115 λb a=>aA AA 33 (.bA [.one .ptr,.one (.int .i64)]) [aa (fy .i64 16 n)] a λ(x:Option AC×Int×Unit) a=>true=true/\true=true/\az a (ad
 (ae b) 0) [ag x.1] λa=>aA AA 72 (.bA [.one .ptr,.one (.int .i64)]) [aa n] a λ(x:Option AC×Int×Unit) a=>true=true/\true=true/\az a (ad (ae b) 1) [ag x.1] λa=>aA AA 73 (.bA [.one .ptr,.one (.int .i64)]) [aa 16] a λ(x:Option AC×Int×Unit) a=>true=true/\true=true/\az a (ad (ae b) 2) [ag x.1] λa=>aA AA 74 (.bA [.one .ptr,.one (.int .i64)]) [aa 4] a λ(x:Option AC×Int×Unit) a=>true=true/\true=true/\az a (ad (ae b) 3) [ag x.1] λ
 a=>au a (c (some ⟨b,0,none⟩,0,())))):=by kernel_rfl
theorem LY (w:A2) (u:Option Nat->A2->Prop):(aI V0 (λ_=>[]) 78 [] w u)=(
 ∀w1,Ext w w1-> ∀c,Ext (w1.alloc (Obj.map ⟨[]⟩ 0)) c-> ∃(r:Nat), ∃(es:Array Al), ∃(a:Nat),some w1.heap.size=some r/\bG c r es a/\gU c r .i64 1 (.func (.func 121) ⟨[]⟩ ⟨[]⟩) es a λb=> ∀d,Ext b d-> ∃(r:Nat), ∃(es:Array Al), ∃(a:Nat),some w1.heap.size=some r/\bG d r es a/\gU d r .i64 2 (.func (.func 122) ⟨[]⟩ ⟨[]⟩) es a λb=> ∀e,Ext b e-> ∃(r:Nat), ∃(es:Array Al), ∃(a:Nat),some w1.heap.size=some r/\bG e r es a/\gU e r .i64 17 (.func (.func
 123) ⟨[]⟩ ⟨[]⟩) es a λb=> ∀f,Ext b f-> ∃(r:Nat), ∃(es:Array Al), ∃(a:Nat),some w1.heap.size=some r/\bG f r es a/\gU f r .i64 3 (.func (.func 124) ⟨[]⟩ ⟨[]⟩) es a λb=> ∀g,Ext b g-> ∃(r:Nat), ∃(es:Array Al), ∃(a:Nat),some w1.heap.size=some r/\bG g r es a/\gU g r .i64 4 (.func (.func 125) ⟨[]⟩ ⟨[]⟩) es a λb=> ∀h,Ext b h-> ∃(r:Nat), ∃(es:Array Al), ∃(a:Nat),some w1.heap.size=some r/\bG h r es a/\gU h r .i64 5 (.func (.func 126) ⟨[]⟩
 ⟨[]⟩) es a λb=> ∀i,Ext b i-> ∃(r:Nat), ∃(es:Array Al), ∃(a:Nat),some w1.heap.size=some r/\bG i r es a/\gU i r .i64 6 (.func (.func 127) ⟨[]⟩ ⟨[]⟩) es a λb=> ∀j,Ext b j-> ∃(r:Nat), ∃(es:Array Al), ∃(a:Nat),some w1.heap.size=some r/\bG j r es a/\gU j r .i64 7 (.func (.func 128) ⟨[]⟩ ⟨[]⟩) es a λb=> ∀k,Ext b k-> ∃(r:Nat), ∃(es:Array Al), ∃(a:Nat),some w1.heap.size=some r/\bG k r es a/\gU k r .i64 8 (.func (.func 129) ⟨[]⟩ ⟨[]⟩) es
 a λb=> ∀l,Ext b l-> ∃(r:Nat), ∃(es:Array Al), ∃(a:Nat),some w1.heap.size=some r/\bG l r es a/\gU l r .i64 9 (.func (.func 130) ⟨[]⟩ ⟨[]⟩) es a λb=> ∀m,Ext b m-> ∃(r:Nat), ∃(es:Array Al), ∃(a:Nat),some w1.heap.size=some r/\bG m r es a/\gU m r .i64 10 (.func (.func 131) ⟨[]⟩ ⟨[]⟩) es a λb=> ∀n,Ext b n-> ∃(r:Nat), ∃(es:Array Al), ∃(a:Nat),some w1.heap.size=some r/\bG n r es a/\gU n r .i64 11 (.func (.func 132) ⟨[]⟩ ⟨[]⟩)
 es a λb=> ∀o,Ext b o-> ∃(r:Nat), ∃(es:Array Al), ∃(a:Nat),some w1.heap.size=some r/\bG o r es a/\gU o r .i64 12 (.func (.func 133) ⟨[]⟩ ⟨[]⟩) es a λb=> ∀p,Ext b p-> ∃(r:Nat), ∃(es:Array Al), ∃(a:Nat),some w1.heap.size=some r/\bG p r es a/\gU p r .i64 13 (.func (.func 134) ⟨[]⟩ ⟨[]⟩) es a λb=> ∀q,Ext b q-> ∃(r:Nat), ∃(es:Array Al), ∃(a:Nat),some w1.heap.size=some r/\bG q r es a/\gU q r .i64 14 (.func (.func 135) ⟨[]⟩
 ⟨[]⟩) es a λb=> ∀s,Ext b s-> ∃(r:Nat), ∃(es:Array Al), ∃(a:Nat),some w1.heap.size=some r/\bG s r es a/\gU s r .i64 15 (.func (.func 136) ⟨[]⟩ ⟨[]⟩) es a λb=> ∀t,Ext b t-> ∃(r:Nat), ∃(es:Array Al), ∃(a:Nat),some w1.heap.size=some r/\bG t r es a/\gU t r .i64 16 (.func (.func 137) ⟨[]⟩ ⟨[]⟩) es a λb=>au b (u (some w1.heap.size))):=by kernel_rfl
def oe:Nat->a8:=(λ|2=>[(7,Go.RX.El.one (Go.RX.Sc.int Av))]| _=>[])
theorem E8 (p:Option AC) (v k a b c:Int) (w:A2) (e:RS->A2->Prop):(bV V0 oe 121 [ag p,aa v,.agg ⟨[aa k,ay a,ay b,ay c]⟩] w e)=(
 aM w ⟨[aa k,ay a,ay b,ay c]⟩ 31 λb d=>aM d ⟨[ay 0,aa 0]⟩ 61 λb d=> ∃(I:Nat->Int×Unit->A2->Prop),(∃n, ∀w1,Ext d w1->I n (1,()) w1)/\ ∀(n:Nat) (s:Int×Unit) (w1:A2),I n s w1->aH (decide (s.1<=16)) (p.isSome=true/\p.isSome=true/\((ad p 4).isSome=true/\0<=s.1/\s.1<(↑17:Int))/\gf w1 (ad (ad p 4) (B1 s.1*1)) λx=>aH (!x.isNone) (∀f,Ext w1 f-> ∃(g:Nat),g<n/\I g (aL .i64 s.1 1,()) f) (bH p 0 w1 λx=>bH p 1 w1 λh=>aA
 AA 164 (.bA [.one .ptr,.one (.int .i64)]) [ag x,ag h,aa s.1] w1 λ(x:Option AC×Int×Unit) d=>aH (x.2.1==0) (∀w1,Ext d w1->aM (w1.alloc (Obj.map ⟨[]⟩ 0)) ⟨[ag x.1,.map (some w1.heap.size)]⟩ 121 λi d=>p.isSome=true/\p.isSome=true/\((ad p 4).isSome=true/\0<=s.1/\s.1<(↑17:Int))/\az d (ad (ad p 4) (B1 s.1*1)) [ag (ae i)] λd=>az d (ae b) [ay (aG .u64 s.1),aa x.2.1] λd=>au d λw1=>aj w1 none (ae b) cD λ(x:Int×Int×Unit)=>e (x.1,x.2.1,
 ()) w1) (az d (ae b) [ay (aG .u64 s.1),aa x.2.1] λd=>au d λw1=>aj w1 none (ae b) cD λ(x:Int×Int×Unit)=>e (x.1,x.2.1,()) w1))) (True/\az w1 (ae b) [ay 0,aa 3] λd=>au d λw1=>aj w1 none (ae b) cD λ(x:Int×Int×Unit)=>e (x.1,x.2.1,()) w1)):=by kernel_rfl
def nf:Nat->a8:=(λ|5=>[(34,Go.RX.El.one (Go.RX.Sc.int Av))]|12=>[]|19=>[(13,Go.RX.El.one (Go.RX.Sc.int Av)),(93,Go.RX.El.one (Go.RX.Sc.int Av))]| _=>[])
theorem CS (p:Option AC) (v k a b c:Int) (w:A2) (l:RS->A2->Prop):(bV V0 nf 122 [ag p,aa v,.agg ⟨[aa k,ay a,ay b,ay c]⟩] w l)=(
 aM w ⟨[aa k,ay a,ay b,ay c]⟩ 31 λb d=>aM d ⟨[ay 0,aa 0]⟩ 61 λi d=>true=true/\cK d (ad (ae b) 1) λx=> ∃r,af AA 165 [ag p,ay x] d (.bool r)/\aH (!r) (True/\az d (ae i) [ay 0,aa 4] λd=>au d λw1=>aj w1 none (ae i) cD λ(x:Int×Int×Unit)=>l (x.1,x.2.1,()) w1) (true=true/\cK d (ad (ae b) 1) λx=>bH p 1 d λz=>aA AA 166 (.el fi) [ag z,aa (aG .i64 x)] d λm d=> ∃(I:Nat->
 Int×Unit->A2->Prop),(∃n, ∀w1,Ext d w1->I n (0,()) w1)/\ ∀(n:Nat) (s:Int×Unit) (w1:A2),I n s w1->aH (decide (s.1<(↑m.2.1:Int))) ((m.1.isSome=true/\0<=s.1/\s.1<(↑m.2.1:Int))/\aW w1 (ad m.1 (B1 s.1*1)) λx=>bH p 1 w1 λj=> ∃(e:(Int×Int×Int×Int×Unit)×Bool×Unit),af AA 25 [ag j,aa x] w1 (.tuple {toList:=[.agg ⟨[aa e.1.1,aa e.1.2.1,aa e.1.2.2.1,aa e.1.2.2.2.1]⟩,.bool e.2.1]})/\aM w1 ⟨[aa 0,aa 0,aa 0,.int
 .i64 0]⟩ 52 λb d=>az d (ae b) [aa e.1.1,aa e.1.2.1,aa e.1.2.2.1,aa e.1.2.2.2.1] λd=>true=true/\aW d (ad (ae b) 2) λx=>aH (decide (x>0)) (True/\az d (ae i) [ay 0,aa 9] λd=>au d λw1=>aj w1 none (ae i) cD λ(x:Int×Int×Unit)=>l (x.1,x.2.1,()) w1) (∀f,Ext d f-> ∃(g:Nat),g<n/\I g (aL .i64 s.1 1,()) f)) (p.isSome=true/\p.isSome=true/\((ad p 4).isSome=true/\0<=aG .i64 x/\aG .i64 x<(↑17:Int))/\aj w1 none (ad (ad p 4)
 ((aG .i64 x).toNat*1)) lW λj=> ∃(I:Nat->Unit->A2->Prop),(∃n, ∀t,Ext w1 t->I n () t)/\ ∀(n:Nat) (s:Unit) (w1:A2),I n s w1->sV j 1 w1 λe=> ∃u,TG w1 e u/\aH (decide ((↑u:Int)>0)) (aA AA 168 (.el aX) [ag j] w1 λ(q:Int) d=>aA AA 167 (.bA []) [ag p,aa (aG .i64 x),aa q] d λx d=> ∀f,Ext d f-> ∃(g:Nat),g<n/\I g () f) (bH p 2 w1 λq=>aA AA 169 (.el aX) [ag q,aa (aG .i64 x)] w1 λ(G:Int)
 d=>bH p 3 d λA=>aA AA 170 (.el aX) [ag A,aa (aG .i64 x)] d λ(H:Int) d=>bH j 0 d λB=>aA AA 171 (.el fi) [ag B] d λJ d=>bH p 1 d λC=>aA AA 166 (.el fi) [ag C,aa (aG .i64 x)] d λo d=> ∃(I:Nat->Int×Int×Unit->A2->Prop),(∃n, ∀w1,Ext d w1->I n (0,0,()) w1)/\ ∀(n:Nat) (s:Int×Int×Unit) (w1:A2),I n s w1->aH (decide (s.2.1<(↑o.2.1:Int))) ((o.1.isSome=true/\0<=s.2.1/\s.2.1<(↑o.2.1:Int))/\aW w1
 (ad o.1 (B1 s.2.1*1)) λy=>bH p 1 w1 λD=> ∃(h:(Int×Int×Int×Int×Unit)×Bool×Unit),af AA 25 [ag D,aa y] w1 (.tuple {toList:=[.agg ⟨[aa h.1.1,aa h.1.2.1,aa h.1.2.2.1,aa h.1.2.2.2.1]⟩,.bool h.2.1]})/\aM w1 ⟨[aa 0,aa 0,aa 0,aa 0]⟩ 52 λb d=>az d (ae b) [aa h.1.1,aa h.1.2.1,aa h.1.2.2.1,aa h.1.2.2.2.1] λd=>true=true/\aW d (ad (ae b) 0) λE=>aH (E==4) (bH p 1
 d λF=>aA AA 138 (.el aX) [ag F,aa y,aa 5,aa (aG .i64 x)] d λ(x:Int) d=> ∀f,Ext d f-> ∃(g:Nat),g<n/\I g (aL .i64 s.1 1,aL .i64 s.2.1 1,()) f) (∀f,Ext d f-> ∃(g:Nat),g<n/\I g (s.1,aL .i64 s.2.1 1,()) f)) (p.isSome=true/\p.isSome=true/\((ad p 4).isSome=true/\0<=aG .i64 x/\aG .i64 x<(↑17:Int))/\az w1 (ad (ad p 4) ((aG .i64 x).toNat*1)) [ag none] λd=>az d (ae i) [ay (aG .u64 s.1),aa 0] λd=>au d λw1
 =>aj w1 none (ae i) cD λ(x:Int×Int×Unit)=>l (x.1,x.2.1,()) w1))))):=by kernel_rfl
def pN:Nat->a8:=(λ|3=>[(7,Go.RX.El.one (Go.RX.Sc.int Av)),(14,Go.RX.El.one (Go.RX.Sc.int Av))]| _=>[])
theorem Ho (p:Option AC) (v k a b c:Int) (w:A2) (g:RS->A2->Prop):(bV V0 pN 123 [ag p,aa v,.agg ⟨[aa k,ay a,ay b,ay c]⟩] w g)=(
 aM w ⟨[aa k,ay a,ay b,ay c]⟩ 31 λb d=>aM d ⟨[ay 0,aa 0]⟩ 61 λb d=>bH p 1 d λx=> ∃(h:Int),af AA 62 [ag x] d (aa h)/\ ∃(I:Nat->Int×Int×Unit->A2->Prop),(∃n, ∀w1,Ext d w1->I n (0,0,()) w1)/\ ∀(n:Nat) (s:Int×Int×Unit) (w1:A2),I n s w1->aH (decide (s.2.1<h)) (aA AA 43 (.el aX) [ag p,aa s.2.1] w1 λ(x:Int) d=>aH (x==0) (∀e,Ext d e-> ∃(f:Nat),f<n/\I f (aL .i64 s.1 1,aL .i64 s.2.1 1,()) e)
 (∀e,Ext d e-> ∃(f:Nat),f<n/\I f (s.1,aL .i64 s.2.1 1,()) e)) (az w1 (ae b) [ay (aG .u64 s.1),aa 0] λd=>au d λw1=>aj w1 none (ae b) cD λ(x:Int×Int×Unit)=>g (x.1,x.2.1,()) w1)):=by kernel_rfl
def og:Nat->a8:=(λ|13=>[(66,Go.RX.El.one (Go.RX.Sc.int Av))]| _=>[])
abbrev gA (a:RS->A2->Prop) (b:A2) (c:Nat):Prop:=
 au b λw1=>aj w1 none (ae c) cD λ(x:Int×Int×Unit)=>a (x.1,x.2.1,()) w1
theorem E9 (p:Option AC) (v k a b c:Int) (w:A2) (f:RS->A2->Prop):(bV V0 og 124 [ag p,aa v,.agg ⟨[aa k,ay a,ay b,ay c]⟩] w f)=(
 aM w ⟨[aa k,ay a,ay b,ay c]⟩ 31 λb d=>aM d ⟨[ay 0,aa 0]⟩ 61 λe d=>true=true/\cK d (ad (ae b) 1) λx=>aH (decide (x>=65536)) (True/\az d (ae e) [ay 0,aa 2] λd=>gA f d e) (true=true/\cK d (ad (ae b) 2) λx=>((!decide (x<1))=true->true=true)/\aj d (some !decide (x<1)) (ad (ae b) 2) ru λ(l:Int)=>aH (decide (x<1)||decide (l>7)) (True/\az d (ae e) [ay 0,aa 7] λd=>gA f d e) (bH p 1 d
 λx=>aA AA 172 (.bA [.one (.int .i64),.one (.int .i64)]) [ag x,aa 4,aa v] d λ(x:Int×Int×Unit) d=>aH (x.2.1 != 0) (True/\az d (ae e) [ay 0,aa x.2.1] λd=>gA f d e) (p.isSome=true/\p.isSome=true/\((ad p 4).isSome=true/\0<=v/\v<(↑17:Int))/\gf d (ad (ad p 4) (v.toNat*1)) λm=>bH m 0 d λo=>true=true/\cK d (ad (ae b) 1) λq=>true=true/\cK d (ad (ae b) 2) λr=>aA AA 173 (.el aX) [ag o,aa (aG .i64 q),
 aa x.1,aa (aG .i64 r)] d λ(h:Int) d=>aH (h != 0) (bH p 1 d λg=>aA AA 79 (.el aX) [ag g,aa x.1] d λ(x:Int) d=>True/\az d (ae e) [ay 0,aa h] λd=>gA f d e) (∃(I:Nat->Int×Unit->A2->Prop),(∃n, ∀w1,Ext d w1->I n (0,()) w1)/\ ∀(n:Nat) (s:Int×Unit) (w1:A2),I n s w1->aH (decide (s.1<16)) (bH p 0 w1 λg=>aA AA 38 (.el aX) [ag g,aa (aL .i64 (fy .i64 16 x.1) s.1),ay 0] w1 λ(x:Int) d=> ∀
 i,Ext d i-> ∃(j:Nat),j<n/\I j (aL .i64 s.1 1,()) i) (az w1 (ae e) [ay (aG .u64 x.1),aa 0] λd=>gA f d e)))))):=by kernel_rfl
abbrev fD (a:RS->A2->Prop) (b:A2) (c:Nat):Prop:=
 au b λw1=>aj w1 none (ae c) cD λ(x:Int×Int×Unit)=>a (x.1,x.2.1,()) w1
theorem CU (p:Option AC) (v k a b c:Int) (w:A2) (g:RS->A2->Prop):(bV V0 (λ_=>[]) 125 [ag p,aa v,.agg ⟨[aa k,ay a,ay b,ay c]⟩] w g)=(
 aM w ⟨[aa k,ay a,ay b,ay c]⟩ 31 λb d=>aM d ⟨[ay 0,aa 0]⟩ 61 λe d=>true=true/\cK d (ad (ae b) 1) λx=>aH (decide (x>=65536)) (True/\az d (ae e) [ay 0,aa 2] λd=>fD g d e) (true=true/\cK d (ad (ae b) 1) λx=>aA AA 81 (.bA [.one (.int .i64),.one (.int .i64),.one (.int .i64)]) [ag p,aa v,aa (aG .i64 x)] d λ(h:Int×Int×Int×Unit) d=>aH (h.2.2.1 != 0) (True/\az d (ae e) [ay 0,aa h.2.2.1]
 λd=>fD g d e) (∃(i:Int×Bool×Unit),af AA 174 [ag p,aa v,aa (aG .i64 x)] d (.tuple ⟨[aa i.1,.bool i.2.1]⟩)/\aH i.2.1 (True/\az d (ae e) [ay 0,aa 7] λd=>fD g d e) (bH p 1 d λj=> ∃(f:(Int×Int×Int×Int×Unit)×Bool×Unit),af AA 25 [ag j,aa h.1] d (.tuple {toList:=[.agg ⟨[aa f.1.1,aa f.1.2.1,aa f.1.2.2.1,aa f.1.2.2.2.1]⟩,.bool f.2.1]})/\aM d ⟨[aa 0,aa 0,
 aa 0,aa 0]⟩ 52 λb d=>az d (ae b) [aa f.1.1,aa f.1.2.1,aa f.1.2.2.1,aa f.1.2.2.2.1] λd=>true=true/\aW d (ad (ae b) 2) λl=>aH (decide (l>0)) (True/\az d (ae e) [ay 0,aa 9] λd=>fD g d e) (p.isSome=true/\p.isSome=true/\((ad p 4).isSome=true/\0<=v/\v<(↑17:Int))/\gf d (ad (ad p 4) (v.toNat*1)) λm=>bH m 0 d λn=>aA AA 175 (.bA [.one (.int .i64),.one (.int .i64)]) [ag n,aa (aG .i64 x)] d λ(x
 :Int×Int×Unit) d=>bH p 1 d λx=>aA AA 138 (.el aX) [ag x,aa h.1,aa 5,aa v] d λ(x:Int) d=>az d (ae e) [ay (aG .u64 h.1),aa 0] λd=>fD g d e))))):=by kernel_rfl
abbrev ku (a:RS->A2->Prop) (b:A2) (c:Nat):Prop:=
 au b λw1=>aj w1 none (ae c) cD λ(x:Int×Int×Unit)=>a (x.1,x.2.1,()) w1
abbrev oh (p:Option AC) (v:Int) (e:RS->A2->Prop) (a:A2) (c:Nat) (d:Nat):Prop:=
 p.isSome=true/\p.isSome=true/\((ad p 4).isSome=true/\0<=v/\v<(↑17:Int))/\gf a (ad (ad p 4) (v.toNat*1)) λx=>bH x 0 a λx=>true=true/\cK a (ad (ae c) 1) λf=>true=true/\cK a (ad (ae c) 2) λg=>aA AA 177 (.el aX) [ag x,aa (aG .i64 f),aa (aG .i64 g)] a λ(x:Int) b=>True/\az b (ae d) [ay 0,aa x] λb=>ku e b d
abbrev om (b:RS->A2->Prop) (c:A2) (a:Nat):Prop:=
 True/\az c (ae a) [ay 0,aa 7] λd=>ku b d a
theorem CV (p:Option AC) (v k a b c:Int) (w:A2) (f:RS->A2->Prop):(bV V0 (λ_=>[]) 126 [ag p,aa v,.agg ⟨[aa k,ay a,ay b,ay c]⟩] w f)=(
 aM w ⟨[aa k,ay a,ay b,ay c]⟩ 31 λb d=>aM d ⟨[ay 0,aa 0]⟩ 61 λg d=>true=true/\cK d (ad (ae b) 1) λx=>aH (decide (x>=65536)) (True/\az d (ae g) [ay 0,aa 2] λd=>ku f d g) (true=true/\cK d (ad (ae b) 2) λx=>((!decide (x<1))=true->true=true)/\aj d (some !decide (x<1)) (ad (ae b) 2) ru λ(j:Int)=>aH (decide (x<1)||decide (j>7)) (om f d g) (true=true/\cK d (ad (ae b) 1) λx=> ∃(h:Int×Bool×
 Unit),af AA 174 [ag p,aa v,aa (aG .i64 x)] d (.tuple ⟨[aa h.1,.bool h.2.1]⟩)/\(h.2.1=true->true=true)/\aj d (some h.2.1) (ad (ae b) 2) ru λ(x:Int)=>aH (h.2.1&&decide (wU .u64 x 2>0)) (bH p 2 d λx=> ∃(e:(Int×Int×Int×Bool×Int×Unit)×Bool×Unit),af AA 176 [ag x,aa h.1] d (.tuple {toList:=[.agg ⟨[aa e.1.1,aa e.1.2.1,aa e.1.2.2.1,.bool e.1.2.2.2.1,aa e.1.2.2.2.2.1]⟩,.bool e.2.1]})/\aM d ⟨[aa 0,.int .i64
 0,aa 0,.bool false,aa 0]⟩ 255 λi d=>az d (ae i) [aa e.1.1,aa e.1.2.1,aa e.1.2.2.1,.bool e.1.2.2.2.1,aa e.1.2.2.2.2.1] λd=>true=true/\uR d (ad (ae i) 3) λx=>aH (!x) (om f d g) (oh p v f d b g)) (oh p v f d b g)))):=by kernel_rfl
theorem LZ (p:Option AC) (v k a b c:Int) (w:A2) (f:RS->A2->Prop):(bV V0 (λ_=>[]) 127 [ag p,aa v,.agg ⟨[aa k,ay a,ay b,ay c]⟩] w f)=(
 aM w ⟨[aa k,ay a,ay b,ay c]⟩ 31 λb d=>aM d ⟨[ay 0,aa 0]⟩ 61 λe d=>true=true/\cK d (ad (ae b) 1) λx=>aA AA 178 (.bA [.one (.int .i64),.one (.int .i64)]) [ag p,aa v,ay x,aa 1] d λ(x:Int×Int×Unit) d=>aH (x.2.1 != 0) (True/\az d (ae e) [ay 0,aa x.2.1] λd=>au d λw1=>aj w1 none (ae e) cD λ(x:Int×Int×Unit)=>f (x.1,x.2.1,()) w1) (bH p 0 d λg=>aA AA 37 (.bA [.one (.int .u64),.one (.int
 .i64)]) [ag g,aa x.1] d λ(x:Int×Int×Unit) d=>az d (ae e) [ay x.1,aa x.2.1] λd=>au d λw1=>aj w1 none (ae e) cD λ(x:Int×Int×Unit)=>f (x.1,x.2.1,()) w1)):=by kernel_rfl
theorem Hs (p:Option AC) (v k a b c:Int) (w:A2) (f:RS->A2->Prop):(bV V0 (λ_=>[]) 128 [ag p,aa v,.agg ⟨[aa k,ay a,ay b,ay c]⟩] w f)=(
 aM w ⟨[aa k,ay a,ay b,ay c]⟩ 31 λb d=>aM d ⟨[ay 0,aa 0]⟩ 61 λe d=>true=true/\cK d (ad (ae b) 1) λx=>aA AA 178 (.bA [.one (.int .i64),.one (.int .i64)]) [ag p,aa v,ay x,aa 2] d λ(x:Int×Int×Unit) d=>aH (x.2.1 != 0) (True/\az d (ae e) [ay 0,aa x.2.1] λd=>au d λw1=>aj w1 none (ae e) cD λ(x:Int×Int×Unit)=>f (x.1,x.2.1,()) w1) (bH p 0 d λg=>true=true/\cK d (ad (ae b) 2) λh=>aA
 AA 38 (.el aX) [ag g,aa x.1,ay h] d λ(x:Int) d=>True/\az d (ae e) [ay 0,aa x] λd=>au d λw1=>aj w1 none (ae e) cD λ(x:Int×Int×Unit)=>f (x.1,x.2.1,()) w1)):=by kernel_rfl
abbrev ir (a:RS->A2->Prop) (b:A2) (c:Nat):Prop:=
 au b λw1=>aj w1 none (ae c) cD λ(x:Int×Int×Unit)=>a (x.1,x.2.1,()) w1
theorem Ht (p:Option AC) (v k a b c:Int) (w:A2) (f:RS->A2->Prop):(bV V0 (λ_=>[]) 129 [ag p,aa v,.agg ⟨[aa k,ay a,ay b,ay c]⟩] w f)=(
 aM w ⟨[aa k,ay a,ay b,ay c]⟩ 31 λb d=>aM d ⟨[ay 0,aa 0]⟩ 61 λe d=>true=true/\cK d (ad (ae b) 2) λx=> ∃(g:Int),af AA 179 [ag p,aa v,ay x] d (aa g)/\true=true/\cK d (ad (ae b) 1) λx=>aH (decide (x>=65536)) (True/\az d (ae e) [ay 0,aa 2] λd=>ir f d e) (((!g==1)=true->true=true)/\aj d (some !g==1) (ad (ae b) 3) ru λ(x:Int)=>aH (g==1||decide (x>1)) (True/\az d (ae e) [.int
 .u64 0,aa 1] λd=>ir f d e) (true=true/\cK d (ad (ae b) 1) λx=>aA AA 81 (.bA [.one (.int .i64),.one (.int .i64),.one (.int .i64)]) [ag p,aa v,aa (aG .i64 x)] d λ(x:Int×Int×Int×Unit) d=>aH (x.2.2.1 != 0||g != 0) (True/\az d (ae e) [ay 0,aa 4] λd=>ir f d e) (true=true/\cK d (ad (ae b) 1) λx=> ∃(h:Int×Bool×Unit),af AA 174 [ag p,aa v,aa (aG .i64 x)] d (.tuple ⟨[aa h.1,.bool h.2.1]⟩)/\
 aH h.2.1 (True/\az d (ae e) [ay 0,aa 7] λd=>ir f d e) (bH p 2 d λx=>true=true/\cK d (ad (ae b) 1) λi=>true=true/\cK d (ad (ae b) 2) λj=>true=true/\cK d (ad (ae b) 3) λl=>aA AA 180 (.bA [.one (.int .i64),.one (.int .i64)]) [ag x,aa v,aa (aG .i64 i),aa (aG .i64 j),.bool (l==1)] d λ(x:Int×Int×Unit) d=>az d (ae e) [ay (aG .u64 x.1),aa x.2.1] λd=>ir f d e))))):=by kernel_rfl
theorem L3 (p:Option AC) (v k a b c:Int) (w:A2) (f:RS->A2->Prop):(bV V0 (λ_=>[]) 130 [ag p,aa v,.agg ⟨[aa k,ay a,ay b,ay c]⟩] w f)=(
 aM w ⟨[aa k,ay a,ay b,ay c]⟩ 31 λb d=>aM d ⟨[ay 0,aa 0]⟩ 61 λe d=>true=true/\cK d (ad (ae b) 2) λx=>aH (decide (x>=65536)) (True/\az d (ae e) [ay 0,aa 2] λd=>au d λw1=>aj w1 none (ae e) cD λ(x:Int×Int×Unit)=>f (x.1,x.2.1,()) w1) (true=true/\cK d (ad (ae b) 1) λx=>((!decide (x>=16))=true->true=true)/\aj d (some !decide (x>=16)) (ad (ae b) 3) ru λ(A:Int)=>aH (decide (x>=16)||decide (A>1)) (True/\az d (ae
 e) [ay 0,aa 1] λd=>au d λw1=>aj w1 none (ae e) cD λ(x:Int×Int×Unit)=>f (x.1,x.2.1,()) w1) (true=true/\cK d (ad (ae b) 1) λx=>true=true/\cK d (ad (ae b) 2) λn=>true=true/\cK d (ad (ae b) 3) λj=>bH p 2 d λB=> ∃(g:(Int×Int×Int×Bool×Int×Unit)×Bool×Unit),af AA 176 [ag B,aa (aG .i64 x)] d (.tuple {toList:=[.agg ⟨[aa g.1.1,aa g.1.2.1,aa g.1.2.2.1,.bool g.1.2.2.2.1,aa g.1.2.2.2.2.1]⟩,.bool
 g.2.1]})/\aM d ⟨[aa 0,aa 0,aa 0,.bool false,aa 0]⟩ 255 λb d=>az d (ae b) [aa g.1.1,aa g.1.2.1,aa g.1.2.2.1,.bool g.1.2.2.2.1,aa g.1.2.2.2.2.1] λd=>aH (!g.2.1) (True/\az d (ae e) [ay 0,aa 4] λd=>au d λw1=>aj w1 none (ae e) cD λ(x:Int×Int×Unit)=>f (x.1,x.2.1,()) w1) (true=true/\aW d (ad (ae b) 2) λo=>((!o != v&&j==1)=true->true=true)/\aj d (some (!o != v&&j==1)) (ad (ae b) 3) sT λC=>aH
 (o != v||j==1&& !C) (True/\az d (ae e) [ay 0,aa 7] λd=>au d λw1=>aj w1 none (ae e) cD λ(x:Int×Int×Unit)=>f (x.1,x.2.1,()) w1) (true=true/\aW d (ad (ae b) 0) λD=>true=true/\aW d (ad (ae b) 1) λE=>aA AA 81 (.bA [.one (.int .i64),.one (.int .i64),.one (.int .i64)]) [ag p,aa D,aa E] d λ(h:Int×Int×Int×Unit) d=>aH (h.2.2.1 != 0) (True/\az d (ae e) [ay 0,aa 4] λd=>au d λw1=>aj w1 none (ae e) cD λ
 (x:Int×Int×Unit)=>f (x.1,x.2.1,()) w1) (true=true/\aW d (ad (ae b) 0) λF=>true=true/\aW d (ad (ae b) 1) λG=> ∃(q:Int×Bool×Unit),af AA 174 [ag p,aa F,aa G] d (.tuple ⟨[aa q.1,.bool q.2.1]⟩)/\aH q.2.1 (True/\az d (ae e) [ay 0,aa 7] λd=>au d λw1=>aj w1 none (ae e) cD λ(x:Int×Int×Unit)=>f (x.1,x.2.1,()) w1) (bH p 2 d λH=>aA AA 181 (.el aX) [ag H,aa (aG .i64 x),aa v,
 .bool (j==1)] d λ(z:Int) d=>aH (z != 0) (True/\az d (ae e) [ay 0,aa z] λd=>au d λw1=>aj w1 none (ae e) cD λ(x:Int×Int×Unit)=>f (x.1,x.2.1,()) w1) (aH (j==1) (p.isSome=true/\p.isSome=true/\((ad p 4).isSome=true/\0<=v/\v<(↑17:Int))/\gf d (ad (ad p 4) (v.toNat*1)) λs=>bH s 0 d λt=>aA AA 173 (.el aX) [ag t,aa (aG .i64 n),aa h.1,aa (ZQ .i64 1 2)] d λ(l:Int) d=>aH (l != 0) (bH p 2 d λi
 =>aA AA 182 (.el aX) [ag i,aa (aG .i64 x),aa v] d λ(x:Int) d=>True/\az d (ae e) [ay 0,aa l] λd=>au d λw1=>aj w1 none (ae e) cD λ(x:Int×Int×Unit)=>f (x.1,x.2.1,()) w1) (bH p 1 d λi=>aA AA 183 (.el aX) [ag i,aa h.1,aa 1] d λ(I:Int) d=>p.isSome=true/\p.isSome=true/\((ad p 4).isSome=true/\0<=v/\v<(↑17:Int))/\gf d (ad (ad p 4) (v.toNat*1)) λu=>sV u 1 d λy=> ∀w1,Ext d w1-> ∃(r
 :Nat), ∃(es:Array Al), ∃(m:Nat),y=some r/\bG w1 r es m/\gU w1 r .i64 (aG .i64 n) (.agg ⟨[aa (aG .i64 x),aa h.1]⟩) es m λd=>az d (ae e) [ay 0,aa 0] λd=>au d λw1=>aj w1 none (ae e) cD λ(x:Int×Int×Unit)=>f (x.1,x.2.1,()) w1)) (p.isSome=true/\p.isSome=true/\((ad p 4).isSome=true/\0<=v/\v<(↑17:Int))/\gf d (ad (ad p 4) (v.toNat*1)) λs=>bH s 0 d λt=>aA AA 173 (.el aX) [ag t,aa (aG .i64 n),
 aa h.1,aa 1] d λ(l:Int) d=>aH (l != 0) (bH p 2 d λi=>aA AA 182 (.el aX) [ag i,aa (aG .i64 x),aa v] d λ(x:Int) d=>True/\az d (ae e) [ay 0,aa l] λd=>au d λw1=>aj w1 none (ae e) cD λ(x:Int×Int×Unit)=>f (x.1,x.2.1,()) w1) (bH p 1 d λi=>aA AA 183 (.el aX) [ag i,aa h.1,aa 1] d λ(I:Int) d=>p.isSome=true/\p.isSome=true/\((ad p 4).isSome=true/\0<=v/\v<(↑17:Int))/\gf
 d (ad (ad p 4) (v.toNat*1)) λu=>sV u 1 d λy=> ∀w1,Ext d w1-> ∃(r:Nat), ∃(es:Array Al), ∃(m:Nat),y=some r/\bG w1 r es m/\gU w1 r .i64 (aG .i64 n) (.agg ⟨[aa (aG .i64 x),aa h.1]⟩) es m λd=>az d (ae e) [ay 0,aa 0] λd=>au d λw1=>aj w1 none (ae e) cD λ(x:Int×Int×Unit)=>f (x.1,x.2.1,()) w1)))))))))):=by kernel_rfl
abbrev nX (a:RS->A2->Prop) (b:A2) (c:Nat):Prop:=
 au b λw1=>aj w1 none (ae c) cD λ(x:Int×Int×Unit)=>a (x.1,x.2.1,()) w1
theorem L4 (p:Option AC) (v k a b c:Int) (w:A2) (f:RS->A2->Prop):(bV V0 (λ_=>[]) 131 [ag p,aa v,.agg ⟨[aa k,ay a,ay b,ay c]⟩] w f)=(
 aM w ⟨[aa k,ay a,ay b,ay c]⟩ 31 λb d=>aM d ⟨[ay 0,aa 0]⟩ 61 λe d=>true=true/\cK d (ad (ae b) 1) λx=>aH (decide (x>=65536)) (True/\az d (ae e) [ay 0,aa 2] λd=>nX f d e) (true=true/\cK d (ad (ae b) 1) λx=> ∃(g:Int×Bool×Unit),af AA 174 [ag p,aa v,aa (aG .i64 x)] d (.tuple ⟨[aa g.1,.bool g.2.1]⟩)/\aH (!g.2.1) (True/\az d (ae e) [ay 0,aa 4] λd=>nX f d e) (true=
 true/\cK d (ad (ae b) 1) λx=>aA AA 167 (.bA []) [ag p,aa v,aa (aG .i64 x)] d λx d=>az d (ae e) [ay 0,aa 0] λd=>nX f d e))):=by kernel_rfl
theorem E_ (p:Option AC) (v k a b c:Int) (w:A2) (f:RS->A2->Prop):(bV V0 (λ_=>[]) 132 [ag p,aa v,.agg ⟨[aa k,ay a,ay b,ay c]⟩] w f)=(
 aM w ⟨[aa k,ay a,ay b,ay c]⟩ 31 λb d=>aM d ⟨[ay 0,aa 0]⟩ 61 λe d=>true=true/\cK d (ad (ae b) 1) λx=>aH (decide (x>=16)) (True/\az d (ae e) [ay 0,aa 1] λd=>au d λw1=>aj w1 none (ae e) cD λ(x:Int×Int×Unit)=>f (x.1,x.2.1,()) w1) (bH p 2 d λx=>true=true/\cK d (ad (ae b) 1) λg=>aA AA 184 (.el aX) [ag x,aa (aG .i64 g),aa v] d λ(x:Int) d=>True/\az d (ae e) [ay 0,aa x]
 λd=>au d λw1=>aj w1 none (ae e) cD λ(x:Int×Int×Unit)=>f (x.1,x.2.1,()) w1)):=by kernel_rfl
theorem L5 (p:Option AC) (v k a b c:Int) (w:A2) (f:RS->A2->Prop):(bV V0 (λ_=>[]) 133 [ag p,aa v,.agg ⟨[aa k,ay a,ay b,ay c]⟩] w f)=(
 aM w ⟨[aa k,ay a,ay b,ay c]⟩ 31 λb d=>aM d ⟨[ay 0,aa 0]⟩ 61 λe d=>true=true/\cK d (ad (ae b) 1) λx=> ∃(g:Int),af AA 179 [ag p,aa v,ay x] d (aa g)/\aH (g != 0) (True/\az d (ae e) [ay 0,aa g] λd=>au d λw1=>aj w1 none (ae e) cD λ(x:Int×Int×Unit)=>f (x.1,x.2.1,()) w1) (bH p 3 d λx=>true=true/\cK d (ad (ae b) 1) λh=>aA AA 185 (.bA [.one (.int .i64),.one (.int .i64)])
 [ag x,aa v,aa (aG .i64 h)] d λ(x:Int×Int×Unit) d=>az d (ae e) [ay (aG .u64 x.1),aa x.2.1] λd=>au d λw1=>aj w1 none (ae e) cD λ(x:Int×Int×Unit)=>f (x.1,x.2.1,()) w1)):=by kernel_rfl
abbrev nY (a:RS->A2->Prop) (b:A2) (c:Nat):Prop:=
 au b λw1=>aj w1 none (ae c) cD λ(x:Int×Int×Unit)=>a (x.1,x.2.1,()) w1
theorem L6 (p:Option AC) (v k a b c:Int) (w:A2) (g:RS->A2->Prop):(bV V0 (λ_=>[]) 134 [ag p,aa v,.agg ⟨[aa k,ay a,ay b,ay c]⟩] w g)=(
 aM w ⟨[aa k,ay a,ay b,ay c]⟩ 31 λb d=>aM d ⟨[ay 0,aa 0]⟩ 61 λe d=>true=true/\cK d (ad (ae b) 1) λx=> ∃(f:Int),af AA 179 [ag p,aa v,ay x] d (aa f)/\((!f==1)=true->true=true)/\aj d (some !f==1) (ad (ae b) 2) ru λ(x:Int)=>aH (f==1||decide (x>=4)) (True/\az d (ae e) [ay 0,aa 1] λd=>nY g d e) (aH (f != 0) (True/\az d (ae e) [ay 0,aa f] λd=>nY g d e)
 (bH p 3 d λx=>true=true/\cK d (ad (ae b) 1) λh=>true=true/\cK d (ad (ae b) 2) λi=>aA AA 186 (.bA [.one (.int .i64),.one (.int .i64)]) [ag x,aa v,aa (aG .i64 h),aa (aG .i64 i)] d λ(x:Int×Int×Unit) d=>az d (ae e) [ay (aG .u64 x.1),aa x.2.1] λd=>nY g d e))):=by kernel_rfl
theorem L7 (p:Option AC) (v k a b c:Int) (w:A2) (f:RS->A2->Prop):(bV V0 (λ_=>[]) 135 [ag p,aa v,.agg ⟨[aa k,ay a,ay b,ay c]⟩] w f)=(
 aM w ⟨[aa k,ay a,ay b,ay c]⟩ 31 λb d=>aM d ⟨[ay 0,aa 0]⟩ 61 λe d=>true=true/\cK d (ad (ae b) 1) λx=>aH (decide (x>=4)) (True/\az d (ae e) [ay 0,aa 1] λd=>au d λw1=>aj w1 none (ae e) cD λ(x:Int×Int×Unit)=>f (x.1,x.2.1,()) w1) (bH p 3 d λx=>true=true/\cK d (ad (ae b) 1) λg=>aA AA 187 (.el aX) [ag x,aa v,aa (aG .i64 g)] d λ(x:Int) d=>True/\az d (ae e) [ay 0,aa x] λ
 d=>au d λw1=>aj w1 none (ae e) cD λ(x:Int×Int×Unit)=>f (x.1,x.2.1,()) w1)):=by kernel_rfl
theorem L8 (p:Option AC) (v k a b c:Int) (w:A2) (e:RS->A2->Prop):(bV V0 (λ_=>[]) 136 [ag p,aa v,.agg ⟨[aa k,ay a,ay b,ay c]⟩] w e)=(
 aM w ⟨[aa k,ay a,ay b,ay c]⟩ 31 λb d=>aM d ⟨[ay 0,aa 0]⟩ 61 λb d=>bH p 3 d λx=>aA AA 188 (.bA [.one (.int .i64),.one .bool]) [ag x,aa v] d λ(x:Int×Bool×Unit) d=>aH (!x.2.1) (az d (ae b) [ay 0,aa 0] λd=>au d λw1=>aj w1 none (ae b) cD λ(x:Int×Int×Unit)=>e (x.1,x.2.1,()) w1) (az d (ae b) [ay (aG .u64 (aL .i64 x.1 1)),aa 0] λd=>au d λw1=>aj w1 none (ae b) cD λ(x:Int×Int×Unit)=>e
 (x.1,x.2.1,()) w1)):=by kernel_rfl
theorem Hu (p:Option AC) (v k a b c:Int) (w:A2) (f:RS->A2->Prop):(bV V0 (λ_=>[]) 137 [ag p,aa v,.agg ⟨[aa k,ay a,ay b,ay c]⟩] w f)=(
 aM w ⟨[aa k,ay a,ay b,ay c]⟩ 31 λb d=>aM d ⟨[ay 0,aa 0]⟩ 61 λe d=>true=true/\cK d (ad (ae b) 1) λx=>aH (decide (x>=4)) (True/\az d (ae e) [ay 0,aa 1] λd=>au d λw1=>aj w1 none (ae e) cD λ(x:Int×Int×Unit)=>f (x.1,x.2.1,()) w1) (bH p 3 d λx=>true=true/\cK d (ad (ae b) 1) λg=>aA AA 189 (.el aX) [ag x,aa v,aa (aG .i64 g)] d λ(x:Int) d=>True/\az d (ae e) [ay 0,aa x] λ
 d=>au d λw1=>aj w1 none (ae e) cD λ(x:Int×Int×Unit)=>f (x.1,x.2.1,()) w1)):=by kernel_rfl
abbrev kV (a:RS->A2->Prop) (b:A2) (c:Nat):Prop:=
 au b λw1=>aj w1 none (ae c) cD λ(x:Int×Int×Unit)=>a (x.1,x.2.1,()) w1
abbrev Bc (d:RS->A2->Prop) (f:A2) (b:Nat) (e:Int×Int×Unit) (c:Nat):Prop:=
 az f (ae b) [ay e.1,aa e.2.1] λa=>true=true/\aW a (ad (ae b) 1) λx=>aH (x != 0) (true=true/\aW a (ad (ae b) 1) λx=>True/\az a (ae c) [ay 0,aa x] λa=>kV d a c) (aj a none (ae b) cD λ(x:Int×Int×Unit)=>az a (ae c) [ay x.1,aa x.2.1] λa=>kV d a c)
abbrev Be (p:Option AC) (v:Int) (b:RS->A2->Prop) (c:AN) (a:Int×Int×Int×Int×Unit) (d:A2) (e:Nat) (f:Nat):Prop:=
 zW AA c (.el cD) [ag p,aa v,.agg ⟨[aa a.1,ay a.2.1,ay a.2.2.1,ay a.2.2.2.1]⟩] d λ(x:Int×Int×Unit) g=>Bc b g e x f
theorem Zt (p:Option AC) (v k a b c:Int) (w:A2) (f:RS->A2->Prop):(bV V1 (λ_=>[]) 42 [ag p,aa v,.agg ⟨[aa k,ay a,ay b,ay c]⟩] w f)=(
 aM w ⟨[aa k,ay a,ay b,ay c]⟩ 31 λb d=>aM d ⟨[ay 0,aa 0]⟩ 61 λe d=> ∃x,af AA 53 [ag p] d (.bool x)/\aH (!x) (True/\az d (ae e) [ay 0,aa 10] λd=>kV f d e) (aj d (some !(decide (v<0)||decide (v>16))) (ae b) wW λ(x:Int×Int×Int×Int×Unit)=> ∃j,((!(decide (v<0)||decide (v>16)))=true->af AA 76 [.agg ⟨[aa x.1,ay x.2.1,ay x.2.2.1,ay x.2.2.2.1]⟩] d (.bool j))/\aH (decide (v<0)||decide (v>16)
 || !j) (True/\az d (ae e) [ay 0,aa 1] λd=>kV f d e) (true=true/\aW d (ad (ae b) 0) λx=> ∃l,af AA 77 [aa x] d (.bool l)/\aH (!(v==0)==l) (True/\az d (ae e) [ay 0,aa 7] λd=>kV f d e) (∃x,(decide (v>0)=true->af AA 19 [ag p,aa v] d (.bool x))/\aH (decide (v>0)&& !x) (True/\az d (ae e) [ay 0,aa 4] λd=>kV f d e) (true=true/\aW d (ad (ae b) 0) λx=>aj d none (ae b) wW λ(g:Int
 ×Int×Int×Int×Unit)=>(aA AA 78 (.el NX) [] d λi d=>cQ d (ae b) wW g/\cQ d (ad (ae b) 0) aX x/\True/\ ∃(h:AN),jX d i .i64 x I2 h/\(zW AA h (.el cD) [ag p,aa v,.agg ⟨[aa g.1,ay g.2.1,ay g.2.2.1,ay g.2.2.2.1]⟩] d λ(x:Int×Int×Unit) d=>aM d ⟨[ay 0,aa 0]⟩ 61 λb d=>Bc f d b x e)/\aM d ⟨[ay 0,aa 0]⟩ 61 λb d=>Be p v f h g d b e)/\aM d ⟨[ay 0,aa 0]⟩ 61 λm
 d=>aA AA 78 (.el NX) [] d λi d=>cQ d (ae b) wW g/\cQ d (ad (ae b) 0) aX x/\True/\ ∃(h:AN),jX d i .i64 x I2 h/\Be p v f h g d m e))))):=by kernel_rfl
open Go.RX D
def px:Nat->Int->Int
 |0,p=>p
 |l+1,p=>px l p / 16
theorem XE {p:Int} (h:0<=p/\p<65536):px 4 p=0:=by simp only[px];omega
theorem nM (p:Int) (l:Nat):px l p=16*px (l+1) p+px l p % 16:=by simp only[px];omega
theorem ee (p:Int) (l:Nat):0<=px l p % 16/\px l p % 16<16:=by omega
theorem Zu {p:Int} (h:0<=p/\p<65536) {l:Nat} (a:l<=3):fp p (l:Int)=px l p % 16:=by
 unfold fp;rw[av (by omega)];congr 1;rcases l with _| _| _| _|l
 ·show p / 1=p;omega
 ·rfl
 ·show p / 256=p / 16 / 16;omega
 ·show p / 4096=p / 16 / 16 / 16;omega
 ·omega
theorem kL {f p:Int} (b:0<=f/\f<4096) (h:0<=p/\p<65536) {l:Nat} (a:l<=3):dZ f p (l:Int)=16*f+px l p % 16:=by
 unfold dZ;rw[Zu h a,ao (by omega)]
theorem oW:eY 0=zE:=by decide+kernel
theorem J_:dK zE=false:=by decide
theorem Hv (v:Int):bT (eY v).1 (eY v).2.1 (eY v).2.2.1 (eY v).2.2.2.1=true:=by
 unfold eY HZ FA JT Fi;cases h:uz (B v).toNat with
 |false=>simp;decide
 |true=>
  unfold uz at h;simp only[Bool.and_eq_true] at h;simpa using h.2
theorem xF {p:Bool} {r:Int} {l:Bool} {f:Int} (h:bT p r l f=true):eY (Fz p r l f)=(p,r,l,f,()):=by
 have hb:=yY h;unfold Fz;rw[av h];obtain⟨h1,v,k,w,m⟩:=hb;obtain⟨r,rfl⟩:=Hr h1;obtain⟨f,rfl⟩:=Hr k;have key: ∀n:Nat,vC p (r:Int) l (f:Int)=(n:Int)->n<18446744073709551616->(n % 2==1)=p->n / 2 % 8=r->(n / 16 % 2==1)=l->n / 32 % 128=0->n / 4096 % 4096=f->n / 16777216 % 1099511627776=0->eY (vC p (r:Int) l (f:Int))=(p,(r:Int),l,(f:Int),()):=by
  intro n e x d g i o j q;have s:(B (vC p (r:Int) l (f:Int))).toNat=n:=by rw[e,Ir (by omega) (by omega)];omega
  have ok:uz n=true:=by
   unfold uz;rw[o,q,d,g,i,j,h];decide
  unfold eY HZ FA JT Fi;rw[s,ok,d,g,i,j];simp
 cases p with
 |false=>
  obtain⟨a,b,c⟩:=m rfl;subst b;have t:r=0:=by omega
  have u:f=0:=by omega
  subst t;subst u;exact key 0 rfl (by decide) rfl rfl rfl rfl rfl rfl
 |true=>
  have y:nB l<=1:=Ok l;refine key (1+2*r+16*nB l+4096*f) ?_ (by omega) ?_ (by omega) ?_ (by omega) (by omega) (by omega)
  ·unfold vC;have:nB true=1:=rfl;rw[this];omega
  ·have:(1+2*r+16*nB l+4096*f) % 2=1:=by omega
   rw[this];rfl
  ·have:(1+2*r+16*nB l+4096*f) / 16 % 2=nB l:=by omega
   rw[this];cases l<;>rfl
theorem lK (ws:List Int) (a:Int):bT (aK ws a).1 (aK ws a).2.1 (aK ws a).2.2.1 (aK ws a).2.2.2.1=true:=Hv _
theorem dH {f:Int} (h:0<=f/\f<4096):dK (cv f)=true:=by
 unfold dK cv fM bT;simp;omega
theorem Hw {f:Int} (h:0<=f/\f<4096):bT true 0 false f=true:=by
 unfold bT;simp;omega
theorem Ry {f:Int} (h:0<=f/\f<4096):eY (Tb (cv f))=cv f:=xF (Hw h)
theorem jd {ws:List Int} {i:Int} (h:0<=i) (h':i<ws.length):uA ws i=true:=i_.2 ⟨h,h'⟩
theorem xG {ws:List Int} {a v:Int} (h:uA ws a=true):dv (dO ws a v) a=v:=by
 have hi:=i_.1 h;have b:uA (dO ws a v) a=true:=i_.2 ⟨hi.1,by rw[cF];exact hi.2⟩;unfold dv;rw[av b];unfold dO;rw[av h,CX,DE (by omega)];rfl
theorem mP {ws:List Int} {a b v:Int} (h:a≠b):dv (dO ws a v) b=dv ws b:=by
 have e:uA (dO ws a v) b=uA ws b:=by unfold uA;rw[cF]
 unfold dv;rw[e];by_cases hb:uA ws b=true
 ·rw[av hb,av hb];unfold dO;split
  ·rename_i c;have h1:=i_.1 c;have d:=i_.1 hb;rw[CX,CX,B9 (by omega)]
  ·rfl
 ·rw[ao hb,ao hb]
theorem tn {ws:List Int} {f:Int} {G:Int->Int} (a:0<=f) (c:16*f+16<=ws.length): ∀n:Nat,n<=16-> ∀b,dv (eZ ws f G n) b=if 16*f<=b/\b<16*f+(n:Int) then G (b - 16*f) else dv ws b
 |0, _,b=>by rw[ao (by omega)];rfl
 |n+1,d,b=>by
  rw[eZ];by_cases e:16*f+(n:Int)=b
  ·subst e;rw[xG (jd (by omega) (by rw[gK];omega)),av (by omega)];congr 1;omega
  ·rw[mP e,tn a c n (by omega) b];by_cases h:16*f<=b/\b<16*f+(n:Int)
   ·rw[av h,av (by omega)]
   ·rw[ao h,ao (by omega)]
theorem Ej {ds:List DT} (h:0<cd ds 0): ∃i d,iE ds=some i/\i<ds.length/\ds[i]? =some d/\d.1=0:=by
 unfold cd at h;rw[List.countP_pos_iff] at h;obtain⟨a,c,h0⟩:=h;cases b:iE ds with
 |none=>
  unfold iE at b;rw[HB] at b;have:=b a c;rw[this] at h0;cases h0
 |some i=>
  unfold iE at b;rw[G1] at b;obtain⟨h1,e, _⟩:=b;exact⟨i,ds[i],rfl,h1,BQ h1,by simpa using e⟩
theorem Bf {o:Int} (h:1<=o/\o<=16):aO 3 o zD=((3,o,0,0,()),0):=by
 have e:gQ 0 0 0 0 3 o=0:=by
  unfold gQ;rw[ao (by decide),ao (by decide),av (by decide),ao ?_];unfold dT jN;simp;omega
 unfold aO zD mM lx;dsimp only;rw[e];simp
theorem m9 {ds:List DT} {o:Int} (h:0<cd ds 0) (f: ∀d∈ds,d.1=0->d=zD) (b:1<=o/\o<=16): ∃i:Nat,i<ds.length/\ds[i]? =some zD/\ff ds 3 o=(i:Int)/\dS ds 3 o=0/\dF ds 3 o=ds.set i (3,o,0,0,()):=by
 obtain⟨i,d,h1,g,a,j⟩:=Ej h;have k:d=zD:=f d (Bs a) j;subst k;have c:ds.getD i zD=zD:=by rw[CX,a];rfl
 have e:vq ds (i:Int) (aO 3 o)=0:=by
  rw[yI (by omega)];show(aO 3 o (ds.getD i zD)).2=0;rw[c,Bf b]
 have l:dJ ds (i:Int) (aO 3 o)=ds.set i (3,o,0,0,()):=by
  rw[o_ (by omega)];show(if(aO 3 o (ds.getD i zD)).2=0 then ds.set i (aO 3 o (ds.getD i zD)).1 else ds)= _;rw[c,Bf b,av rfl]
 refine⟨i,g,a,?_,?_,?_⟩
 ·unfold ff;rw[h1];dsimp only;rw[av e]
 ·unfold dS;rw[ao (by omega),h1];exact e
 ·unfold dF;rw[h1];exact l
theorem pX {ds:List DT} {i:Nat} {d d':DT} (h:ds[i]? =some d) (v:Int):cd (ds.set i d') v+(if d.1=v then 1 else 0)=cd ds v+(if d'.1=v then 1 else 0):=by
 have hi:i<ds.length:=(B3.1 h).1;have a:ds=ds.take i++d::ds.drop (i+1):=by
  have:=(H4 i ds).symm;rw[FS hi,(B3.1 h).2] at this;exact this
 have b:ds.set i d'=ds.take i++d'::ds.drop (i+1):=by rw[List.set_eq_take_append_cons_drop,av hi]
 unfold cd;rw[b]
 conv=>rhs;rw[a]
 simp only[List.countP_append,List.countP_cons];by_cases h1:d.1=v<;>by_cases c:d'.1=v<;>simp[h1,c]<;>omega
theorem Ek {o:Int} (h:1<=o/\o<=16):aO 5 0 (3,o,0,0,())=((5,o,0,0,()),0):=by
 have a:dT 3 o 0 0=true:=by unfold dT jN;simp;omega
 have b:dT 5 o 0 0=true:=by unfold dT jN;simp;omega
 have e:gQ 3 o 0 0 5 0=0:=by
  unfold gQ;rw[a,ao (by decide),ao (by decide),av (by decide),av rfl,b,ao (by decide)]
 unfold aO mM lx;dsimp only;rw[e];simp
abbrev Gh:Type:=Int->Option (Int×Nat×Int)
def mH (g:Gh) (f:Int) (v:Option (Int×Nat×Int)):Gh:=λx=>if x=f then v else g x
theorem bJ (g:Gh) (f:Int) (v:Option (Int×Nat×Int)):mH g f v f=v:=av rfl
theorem a7 {g:Gh} {f x:Int} (h:x≠f) (v:Option (Int×Nat×Int)):mH g f v x=g x:=ao h
def lD (l:Nat) (e:ET):Prop:=e.1=true->dK e=false->(l=0/\e.2.2.1=false)\/(l=1/\e.2.2.1=true/\e.2.2.2.1 % 16=0)
theorem DJ (l:Nat):lD l zE:=λh=>by cases h
theorem abi (l:Nat) {e:ET} (h:dK e=true):lD l e:=λh'=>by grind
structure Inv (g:Gh) (s:WD):Prop where
 len:16*s.2.length<=s.1.length
 le:s.2.length<=4096
 fz: ∀d∈s.2,d.1=0->d=zD
 kd: ∀{f o l x},g f=some (o,l,x)->0<=f/\f<s.2.length/\s.2[f.toNat]? =some (3,o,0,0,())/\1<=o/\o<=16/\l<=3
 inj: ∀{f f' v},g f=some v->g f'=some v->f=f'
 si: ∀{f o l x i},g f=some (o,l,x)->0<=i->i<16->dK (aK s.1 (16*f+i))=true-> ∃m,l=m+1/\g (aK s.1 (16*f+i)).2.2.2.1=some (o,m,16*x+i)
 leaf: ∀{f o l x i},g f=some (o,l,x)->0<=i->i<16->lD l (aK s.1 (16*f+i))
 Fl: ∀{f o l x},g f=some (o,l,x)->l<3-> ∃f',g f'=some (o,l+1,x / 16)/\aK s.1 (16*f'+x % 16)=cv f
 wf: ∀{f o l x i},g f=some (o,l,x)->0<=i->i<16->(aK s.1 (16*f+i)).1=false->dv s.1 (16*f+i)=0
 tb: ∀{n:Nat} {d},s.2[n]? =some d->d.1=3-> ∃v,g (n:Int)=some v
def dz (g:Gh) (s:WD) (o p f:Int) (j:Nat):Prop:=g f=some (o,j,px (j+1) p)/\dK (aK s.1 (16*f+px j p % 16))=false
theorem gm {ws:List Int} {a v b:Int} (h:a≠b):aK (dO ws a v) b=aK ws b:=by grind[aK,mP]
theorem y8 {ws:List Int} {a v:Int} (h:uA ws a=true):aK (dO ws a v) a=eY v:=by grind[aK,xG]
namespace Inv
variable {g:Gh} {s:WD}
theorem uJ (I:Inv g s) {f o:Int} {l:Nat} {x:Int} (h:g f=some (o,l,x)):0<=f/\f<4096/\16*f+16<=s.1.length:=by
 have:=I.kd h;have:=I.len;have:=I.le;omega
theorem reach (I:Inv g s) {o r p:Int} (c:g r=some (o,3,0)) (b:0<=p/\p<65536): ∀(n:Nat) {f:Int} {j:Nat},j+n=3->g f=some (o,j,px (j+1) p)-> ∃a,dj s.1 p 3 r=a++dj s.1 p j f
 |0,f,j,d,h=>by
  have:j=3:=by omega
  subst this;rw[XE b] at h;rw[I.inj h c];simp
 |n+1,f,j,d,h=>by
  obtain⟨f',h1,i⟩:=I.Fl h (by omega);have k:=h1;obtain⟨a,u⟩:=I.reach c b n (by omega) k;obtain⟨l,m, _⟩:=I.uJ h1;refine⟨a++[(f',(j+1:Int),dZ f' p (j+1:Nat),())],?_⟩;have q:j+1<=3:=by omega
  have e:dj s.1 p (j+1) f'=(f',(j+1:Int),dZ f' p (j+1:Nat),())::dj s.1 p j f:=by
   rw[dj];have t:aK s.1 (dZ f' p (j+1:Nat))=cv f:=by rw[kL ⟨l,m⟩ b q];exact i
   obtain⟨c1,c2, _⟩:=I.uJ h;rw[t,av (dH ⟨c1,c2⟩)];rfl
  grind
theorem ab9 {ws:List Int} {p f:Int} {j:Nat} (h:dK (aK ws (dZ f p (j:Int)))=false):dj ws p j f=[(f,(j:Int),dZ f p (j:Int),())]:=by
 cases j with
 |zero=>rfl
 |succ=>rw[dj,ao (by grind)]
theorem mh (I:Inv g s) {o r p:Int} (e:g r=some (o,3,0)) (b:0<=p/\p<65536) {f:Int} {j:Nat} (h:dz g s o p f j):
 dD s.1 r p=(f,(j:Int),16*f+px j p % 16,())/\cR s.1 r p=aK s.1 (16*f+px j p % 16):=by
 have i:=I.kd h.1;obtain⟨k,l, _⟩:=I.uJ h.1;obtain⟨a,m⟩:=I.reach e b (3 - j) (by omega) h.1;have c:=kL ⟨k,l⟩ b i.2.2.2.2.2;have d:dD s.1 r p=(f,(j:Int),16*f+px j p % 16,()):=by
  unfold dD;rw[m,ab9 (by rw[c];exact h.2),c,List.getLastD_concat]
 exact⟨d,by unfold cR;rw[d]⟩
theorem O9 (I:Inv g s) {o p:Int}: ∀(l:Nat) {f:Int},g f=some (o,l,px (l+1) p)-> ∃f' j,j<=l/\dz g s o p f' j
 |l,f,h=>by
  cases a:dK _ with
  |false=>exact⟨f,l,by simp,h,a⟩
  |true=>
   obtain⟨m,rfl,b⟩:=I.si h (ee p l).1 (ee p l).2 a;rw[<-nM] at b;obtain:=I.O9 m b
   grind
theorem lE (I:Inv g s) {o r p:Int} (a:g r=some (o,3,0)) (b:0<=p/\p<65536): ∃f j,j<=3/\dz g s o p f j:=I.O9 3 (by rw[XE b];exact a)
theorem grow (I:Inv g s) {f o x i:Int} {m:Nat} (r:g f=some (o,m+1,x)) (Ib:0<=i) (xY:i<16) (l:dK (aK s.1 (16*f+i))=false) (hc:0<cd s.2 0) (G:Int->Int)
 (J: ∀k,0<=k->k<16->dK (eY (G k))=false/\lD m (eY (G k))/\((eY (G k)).1=false->G k=0)):
 rk s o=0/\g (eK s o)=none/\0<=eK s o/\eK s o<s.2.length/\(dR (iT s o G) (16*f+i) (cv (eK s o))).2=s.2.set (eK s o).toNat (3,o,0,0,())/\s.2[(eK s o).toNat]? =some zD/\
 (∀b,b≠16*f+i->(b<16*eK s o\/16*eK s o+16<=b)->aK (dR (iT s o G) (16*f+i) (cv (eK s o))).1 b=aK s.1 b)/\
 (∀k,0<=k->k<16->aK (dR (iT s o G) (16*f+i) (cv (eK s o))).1 (16*eK s o+k)=eY (G k))/\
 aK (dR (iT s o G) (16*f+i) (cv (eK s o))).1 (16*f+i)=cv (eK s o)/\
 Inv (mH g (eK s o) (some (o,m,16*x+i))) (dR (iT s o G) (16*f+i) (cv (eK s o))):=by
 have B:=I.kd r;obtain⟨n,T,M,j,C,N⟩:=m9 hc I.fz ⟨B.2.2.2.1,B.2.2.2.2.1⟩;have O:eK s o=(n:Int):=j;have P:rk s o=0:=C;have U:=I.len;have V:=I.le;have X:16*(n:Int)+16<=s.1.length:=by omega
 obtain⟨W,D⟩: ∃W,W=eZ s.1 (n:Int) G 16:=⟨_,rfl⟩;have Q:W.length=s.1.length:=by rw[D,gK]
 have Y: ∀b,dv W b=if 16*(n:Int)<=b/\b<16*(n:Int)+16 then G (b - 16*(n:Int)) else dv s.1 b:=λb=>by
  rw[D];exact tn (by omega) X 16 (B6 _) b
 have Z:iT s o G=(W,s.2.set n (3,o,0,0,())):=by unfold iT;rw[av P,O,N,D]
 clear D;have gV:=I.uJ r;have gn:g (n:Int)=none:=by
  cases hg:g (n:Int) with
  |none=>rfl
  |some v=>
   obtain⟨a,b,c⟩:=v;have:=(I.kd hg).2.2.1;rw[show((n:Int)).toNat=n from rfl,M] at this;cases this
 have E: ∀{f':Int} {v},g f'=some v->f'≠(n:Int):=λh e=>by rw[e,gn] at h;cases h
 have rh:f≠(n:Int):=E r;rw[Z,O];have XF:uA (W) (16*f+i)=true:=jd (by omega) (by rw[Q];omega);have K: ∀b,b≠16*f+i->dv (dO (W) (16*f+i) (Tb (cv (n:Int)))) b=if 16*(n:Int)<=b/\b<16*(n:Int)+16 then G (b - 16*(n:Int)) else dv s.1 b:=λb hb=>by
  rw[mP (λe=>hb e.symm),Y b]
 have w0: ∀b,b≠16*f+i->aK (dO (W) (16*f+i) (Tb (cv (n:Int)))) b=if 16*(n:Int)<=b/\b<16*(n:Int)+16 then eY (G (b - 16*(n:Int))) else aK s.1 b:=λb hb=>by
  unfold aK;rw[K b hb];split<;>rfl
 have w1: ∀b,b≠16*f+i->(b<16*(n:Int)\/16*(n:Int)+16<=b)->aK (dR (W,s.2.set n (3,o,0,0,())) (16*f+i) (cv (n:Int))).1 b=aK s.1 b:=λb hb h=>by
  show aK (dO _ _ _) b= _;rw[w0 b hb,ao (by omega)]
 have F: ∀k,0<=k->k<16->aK (dR (W,s.2.set n (3,o,0,0,())) (16*f+i) (cv (n:Int))).1 (16*(n:Int)+k)=eY (G k):=λk h0 h1=>by
  show aK (dO _ _ _) _= _;rw[w0 _ (by omega),av (by omega)];congr 2;omega
 have y:aK (dR (W,s.2.set n (3,o,0,0,())) (16*f+i) (cv (n:Int))).1 (16*f+i)=cv (n:Int):=by
  show aK (dO _ _ _) _= _;rw[y8 XF,Ry (by omega)]
 refine⟨P,gn,by omega,by omega,rfl,by rw[show((n:Int)).toNat=n from rfl];exact M,w1,F,y,?_⟩;have fP: ∀{f0 t p k:Int} {u:Nat},g f0=some (t,u,p)->0<=k->k<16->(16*f0+k=16*f+i/\f0=f/\k=i)\/aK (dR (W,s.2.set n (3,o,0,0,())) (16*f+i) (cv (n:Int))).1 (16*f0+k)=aK s.1 (16*f0+k):=λ{f0 t p k u} h h0 h1=>by
  by_cases e:16*f0+k=16*f+i
  ·exact .inl ⟨e,by omega,by omega⟩
  ·have:=E h;exact .inr (w1 _ e (by omega))
 refine⟨?_,?_,?_,?_,?_,?_,?_,?_,?_,?_⟩
 ·show 16*(s.2.set n _).length<=(dO W _ _).length;rw[cF,Q,B2];exact U
 ·show(s.2.set n _).length<=4096;rw[B2];exact V
 ·intro d L h0;rcases Do L with L|rfl
  ·exact I.fz d L h0
  ·cases h0
 ·intro f0 t u p h;show _/\ _<((s.2.set n (3,o,0,0,())).length:Int)/\(s.2.set n (3,o,0,0,()))[f0.toNat]? = _/\ _;rw[B2];by_cases e:f0=(n:Int)
  ·subst e;rw[bJ] at h;cases h;refine⟨by omega,by omega,?_,B.2.2.2.1,B.2.2.2.2.1,by omega⟩;rw[show((n:Int)).toNat=n from rfl,DE T]
  ·rw[a7 e] at h;obtain⟨a1,a2,a3,a4⟩:=I.kd h;refine⟨a1,a2,?_,a4⟩;rw[B9 (by omega)];exact a3
 ·intro a b v w hb;by_cases e:a=(n:Int)<;>by_cases e':b=(n:Int)
  ·rw[e,e']
  ·subst e;rw[bJ] at w;rw[a7 e'] at hb;cases w;exfalso;obtain⟨f',p1,p2⟩:=I.Fl hb (by omega);have z:(16*x+i) / 16=x:=by omega
   have A:(16*x+i) % 16=i:=by omega
   rw[z] at p1;rw[A] at p2;rw[I.inj p1 r, ] at p2;rw[p2] at l;obtain⟨c1,c2, _⟩:=I.uJ hb;rw[dH ⟨c1,c2⟩] at l;cases l
  ·subst e';rw[bJ] at hb;rw[a7 e] at w;cases hb;exfalso;obtain⟨f',p1,p2⟩:=I.Fl w (by omega);have z:(16*x+i) / 16=x:=by omega
   have A:(16*x+i) % 16=i:=by omega
   rw[z] at p1;rw[A] at p2;rw[I.inj p1 r, ] at p2;rw[p2] at l;obtain⟨c1,c2, _⟩:=I.uJ w;rw[dH ⟨c1,c2⟩] at l;cases l
  ·rw[a7 e] at w;rw[a7 e'] at hb;exact I.inj w hb
 ·intro f0 t u p k h h0 h1 H;by_cases e:f0=(n:Int)
  ·subst e;rw[F k h0 h1,(J k h0 h1).1] at H;cases H
  ·rw[a7 e] at h;rcases fP h h0 h1 with ⟨j,rfl,rfl⟩|j
   ·rw[j,y];rw[r] at h;cases h;exact⟨m,rfl,bJ _ _ _⟩
   ·rw[j] at H ⊢;obtain⟨m',q1,R⟩:=I.si h h0 h1 H;exact⟨m',q1,by rw[a7 (E R)];exact R⟩
 ·intro f0 t u p k h h0 h1;by_cases e:f0=(n:Int)
  ·subst e;rw[bJ] at h;cases h;rw[F k h0 h1];exact(J k h0 h1).2.1
  ·rw[a7 e] at h;rcases fP h h0 h1 with ⟨j,rfl,rfl⟩|j
   ·rw[j,y];exact abi _ (dH (by omega))
   ·rw[j];exact I.leaf h h0 h1
 ·intro f0 t u p h hl;by_cases e:f0=(n:Int)
  ·subst e;rw[bJ] at h;cases h;have z:(16*x+i) / 16=x:=by omega
   have A:(16*x+i) % 16=i:=by omega
   exact⟨f,by rw[a7 rh,z];exact r,by rw[A];exact y⟩
  ·rw[a7 e] at h;obtain⟨f',p1,p2⟩:=I.Fl h hl;refine⟨f',by rw[a7 (E p1)];exact p1,?_⟩;rcases fP p1 (by omega:0<=p % 16) (by omega) with ⟨j,rfl,N⟩|j
   ·exfalso;rw[j] at p2;rw[p2] at l;obtain⟨c1,c2, _⟩:=I.uJ h;rw[dH ⟨c1,c2⟩] at l;cases l
   ·rw[j];exact p2
 ·intro f0 t u p k h h0 h1 q;by_cases e:f0=(n:Int)
  ·subst e;rw[F k h0 h1] at q;show dv (dO _ _ _) _=0;rw[K _ (by omega),av (by omega),show 16*(n:Int)+k - 16*(n:Int)=k from by omega];exact(J k h0 h1).2.2 q
  ·rw[a7 e] at h;rcases fP h h0 h1 with ⟨j,rfl,rfl⟩|j
   ·rw[j,y] at q;cases q
   ·rw[j] at q;have hb:16*f0+k≠16*f+i:=λC=>by
     rw[C,y] at j;rw[C, <-j] at q;cases q
    show dv (dO _ _ _) _=0;rw[K _ hb,ao (by omega)];exact I.wf h h0 h1 q
 ·intro S d qs h3;by_cases e:S=n
  ·subst e;exact⟨_,bJ _ _ _⟩
  ·have h':(s.2.set n (3,o,0,0,()))[S]? =some d:=qs;rw[B9 (by omega)] at h';obtain⟨v,hv⟩:=I.tb h' h3;exact⟨v,by rw[a7 (by omega)];exact hv⟩
theorem Vq (I:Inv g s) {f o x i v:Int} {l:Nat} (t:g f=some (o,l,x)) (z:0<=i) (A:i<16) (d:dK (aK s.1 (16*f+i))=false) (hv:dK (eY v)=false) (q:lD l (eY v)) (u:(eY v).1=false->v=0):
 aK (dO s.1 (16*f+i) v) (16*f+i)=eY v/\Inv g (dO s.1 (16*f+i) v,s.2):=by
 have B:=I.uJ t;have r:uA s.1 (16*f+i)=true:=jd (by omega) (by omega);have j:=y8 (v:=v) r;have fP: ∀{f0 k:Int},0<=k->k<16->(16*f0+k=16*f+i/\f0=f/\k=i)\/aK (dO s.1 (16*f+i) v) (16*f0+k)=aK s.1 (16*f0+k):=λ{f0 k} h0 h1=>by
  by_cases e:16*f0+k=16*f+i
  grind
  ·exact .inr (gm (λe'=>e e'.symm))
 refine⟨j,by rw[cF];exact I.len,I.le,I.fz,I.kd,I.inj,?_,?_,?_,?_,I.tb⟩
 ·intro f0 m n b k h h0 h1 p;rcases fP (f0:=f0) h0 h1 with ⟨a,rfl,rfl⟩|a
  ·rw[j,hv] at p;cases p
  ·have w:dK (aK s.1 (16*f0+k))=true:=by rw[<-a];exact p
   rw[a];exact I.si h h0 h1 w
 ·intro f0 m n b k h h0 h1;rcases fP (f0:=f0) h0 h1 with ⟨a,rfl,rfl⟩|a
  grind
  ·rw[a];exact I.leaf h h0 h1
 ·intro f0 m n b h q;obtain⟨f',p1,p2⟩:=I.Fl h q;refine⟨f',p1,?_⟩;rcases fP (f0:=f') (by omega:0<=b % 16) (by omega) with ⟨a,rfl,C⟩|a
  ·exfalso;rw[a] at p2;rw[p2] at d;obtain⟨c1,c2, _⟩:=I.uJ h;rw[dH ⟨c1,c2⟩] at d;cases d
  ·rw[a];exact p2
 ·intro f0 m n b k h h0 h1 y;have c:=y;by_cases e:16*f0+k=16*f+i
  ·rw[e,j] at c;rw[e,xG r];exact u c
  ·rw[gm (λe'=>e e'.symm)] at c;rw[mP (λe'=>e e'.symm)];exact I.wf h h0 h1 c
theorem abj (I:Inv g s) {f o x i f2:Int} {m:Nat} (u:g f=some (o,m+1,x)) (W:0<=i) (X:i<16) (B:g f2=some (o,m,16*x+i)) (K:aK s.1 (16*f+i)=cv f2) (L: ∀k,0<=k->k<16->aK s.1 (16*f2+k)=zE):
 aK (dO s.1 (16*f+i) 0) (16*f+i)=zE/\dJ s.2 f2 (aO 5 0)=s.2.set f2.toNat (5,o,0,0,())/\Inv (mH g f2 none) (dO s.1 (16*f+i) 0,dJ s.2 f2 (aO 5 0)):=by
 have Y:=I.uJ u;have C:=I.kd u;have w:=I.kd B;have D:uA s.1 (16*f+i)=true:=jd (by omega) (by omega);have q:aK (dO s.1 (16*f+i) 0) (16*f+i)=zE:=by rw[y8 D];exact oW
 have E:dJ s.2 f2 (aO 5 0)=s.2.set f2.toNat (5,o,0,0,()):=by
  rw[o_ ⟨w.1,w.2.1⟩,CX,w.2.2.1];show(if(aO 5 0 (3,o,0,0,())).2=0 then s.2.set f2.toNat (aO 5 0 (3,o,0,0,())).1 else _)= _;rw[Ek ⟨C.2.2.2.1,C.2.2.2.2.1⟩,av rfl]
 have j: ∀{f0 v},mH g f2 none f0=some v->f0≠f2/\g f0=some v:=λ{f0 v} h=>by
  by_cases e:f0=f2
  ·rw[e,bJ] at h;cases h
  ·rw[a7 e] at h;exact⟨e,h⟩
 have fP: ∀{f0 k:Int},0<=k->k<16->(16*f0+k=16*f+i/\f0=f/\k=i)\/aK (dO s.1 (16*f+i) 0) (16*f0+k)=aK s.1 (16*f0+k):=λ{f0 k} h0 h1=>by
  by_cases e:16*f0+k=16*f+i
  ·exact .inl ⟨e,by omega,by omega⟩
  ·exact .inr (gm (λe'=>e e'.symm))
 refine⟨q,E,?_⟩;rw[E];refine⟨?_,?_,?_,?_,?_,?_,?_,?_,?_,?_⟩
 ·show 16*(s.2.set _ _).length<=(dO _ _ _).length;rw[cF,B2];exact I.len
 ·show(s.2.set _ _).length<=4096;rw[B2];exact I.le
 ·intro d y h0;rcases Do y with y|rfl
  ·exact I.fz d y h0
  ·cases h0
 ·intro f0 r n l h;obtain⟨p,h⟩:=j h;rw[B2];obtain⟨a1,F,M,Z⟩:=I.kd h
  grind
 ·intro a b v N hb;exact I.inj (j N).2 (j hb).2
 ·intro f0 r n l k h h0 h1 z;obtain⟨p,h⟩:=j h;rcases fP (f0:=f0) h0 h1 with ⟨c,rfl,rfl⟩|c
  ·rw[q] at z;cases z
  ·have A:dK (aK s.1 (16*f0+k))=true:=by rw[<-c];exact z
   rw[c];obtain⟨O,G,t⟩:=I.si h h0 h1 A;refine⟨O,G,?_⟩;rw[a7]
   ·exact t
   ·intro e;rw[e,B] at t;simp only[B8,B4] at t;obtain⟨a1,F,M⟩:=t;have P:k=i:=by omega
    have Q:l=x:=by omega
    subst P;subst Q;subst a1;subst F;subst G;have:=I.inj h u;subst this;rw[q] at c;rw[<-c] at A;cases A
 ·intro f0 r n l k h h0 h1;obtain⟨p,h⟩:=j h;show lD n (aK (dO s.1 (16*f+i) 0) (16*f0+k));rcases fP (f0:=f0) h0 h1 with ⟨c,rfl,rfl⟩|c
  ·rw[q];exact DJ _
  ·rw[c];exact I.leaf h h0 h1
 ·intro f0 r n l h R;obtain⟨p,h⟩:=j h;obtain⟨f',p1,p2⟩:=I.Fl h R;have S:f'≠f2:=λe=>by
   rw[e,L _ (by omega) (by omega)] at p2;cases p2
  refine⟨f',by rw[a7 S];exact p1,?_⟩;show aK (dO s.1 (16*f+i) 0) (16*f'+l % 16)= _;rcases fP (f0:=f') (by omega:0<=l % 16) (by omega) with ⟨c,rfl,e3⟩|c
  ·exfalso;rw[c,K] at p2;unfold cv at p2;simp only[B4,and_true,true_and] at p2;exact p p2.symm
  ·rw[c];exact p2
 ·intro f0 r n l k h h0 h1 T;obtain⟨p,h⟩:=j h;show dv (dO s.1 (16*f+i) 0) (16*f0+k)=0;have H:(aK (dO s.1 (16*f+i) 0) (16*f0+k)).1=false:=T;by_cases e:16*f0+k=16*f+i
  ·rw[e,xG D]
  ·rw[gm (λe'=>e e'.symm)] at H;rw[mP (λe'=>e e'.symm)];exact I.wf h h0 h1 H
 ·intro J d U V;have h':(s.2.set f2.toNat (5,o,0,0,()))[J]? =some d:=U;by_cases e:J=f2.toNat
  grind
  ·rw[B9 (by omega)] at h';obtain⟨v,hv⟩:=I.tb h' V;exact⟨v,by rw[a7 (by omega)];exact hv⟩
end Inv
set_option maxRecDepth 100000
open Go.RX D
def lY (p:Int) (j:Nat) (e:ET):Int×Int×Int×Unit:=if e.1=true then(if j=1 then e.2.2.2.1+p % 16 else e.2.2.2.1,e.2.1,0,()) else(0,0,4,())
theorem FW (p:Int) (j:Nat) {e:ET} (h:e.1=false):lY p j e=(0,0,4,()):=by grind[lY]
def mQ (g g':Gh):Prop:= ∀o r x,g' r=some (o,3,x)<->g r=some (o,3,x)
theorem mQ.refl (g:Gh):mQ g g:=λ_ _ _=>Iff.rfl
theorem mQ.trans {a b c:Gh} (h:mQ a b) (k:mQ b c):mQ a c:=λo r x=>(k o r x).trans (h o r x)
theorem mQ.to {g g':Gh} {o r x:Int} (h:mQ g g') (k:g r=some (o,3,x)):g' r=some (o,3,x):=(h _ _ _).2 k
def Am (o:Int) (g g':Gh) (s s':WD):Prop:= ∀ ⦃f o' l x⦄,o'≠o->g f=some (o',l,x)->g' f=some (o',l,x)/\ ∀k,0<=k->k<16->aK s'.1 (16*f+k)=aK s.1 (16*f+k)
theorem Am.refl (o:Int) (g:Gh) (s:WD):Am o g g s s:=λ_ _ _ _ _ h=>⟨h,λ_ _ _=>rfl⟩
theorem Am.trans {o:Int} {a b c:Gh} {s t u:WD} (h:Am o a b s t) (k:Am o b c t u):Am o a c s u:=λ_ _ _ _ d e=>by
 obtain⟨h1⟩:=h d e;obtain:=k d h1
 grind
def sY (P:Int->Int->Prop) (g g':Gh) (s s':WD):Prop:= ∀ ⦃o p f j⦄,¬ P o p->dz g s o p f j-> ∃f' a,dz g' s' o p f' a/\lY p a (aK s'.1 (16*f'+px a p % 16))=lY p j (aK s.1 (16*f+px j p % 16))
theorem sY.refl (P:Int->Int->Prop) (g:Gh) (s:WD):sY P g g s s:=λ_ _ _ _ _ h=>⟨_, _,h,rfl⟩
theorem sY.trans {P:Int->Int->Prop} {a b c:Gh} {s t u:WD} (h:sY P a b s t) (k:sY P b c t u):sY P a c s u:=λ_ _ _ _ d e=>by
 obtain⟨f1,j1,h1,f⟩:=h d e;obtain:=k d h1
 grind
theorem sY.mono {P c:Int->Int->Prop} {a b:Gh} {s t:WD} (h:sY P a b s t) (e: ∀o p,P o p->c o p):sY c a b s t:=λ_ _ _ _ f d=>h (by grind) d
def XH:Int->Int->Prop:=λ_ _=>False
def oa (o:Int) (l:Nat) (p:Int):Int->Int->Prop:=λo' q=>o'=o/\px l q=px l p
namespace Inv
variable {g:Gh} {s:WD}
theorem ft (I:Inv g s) {o r p:Int} (a:g r=some (o,3,0)) (b:0<=p/\p<65536) {f:Int} {j:Nat} (h:dz g s o p f j):bu s r false p=lY p j (aK s.1 (16*f+px j p % 16)):=by
 obtain:=I.mh a b h;unfold bu lY;unfold qy
 grind
theorem y9 (I:Inv g s) {g':Gh} {s':WD} (c:Inv g' s') {P:Int->Int->Prop} (d:sY P g g' s s') (i:mQ g g') {o r p:Int} (a:g r=some (o,3,0)) (k: ¬ P o p):bu s' r false p=bu s r false p:=by
 by_cases h:0<=p/\p<65536
 ·obtain⟨f,j, _,b⟩:=I.lE a h;obtain⟨f',m,h1,l⟩:=d k b;rw[I.ft a h b,c.ft (i.to a) h h1,l]
 ·have e: ∀t,bu t r false p=(0,0,2,()):=λt=>by
   unfold bu
   grind
  grind
theorem Em (I:Inv g s) {f o x i:Int} {m:Nat} (b:g f=some (o,m+1,x)) (w:0<=i) (y:i<16) (z:dK (aK s.1 (16*f+i))=false) (hc:0<cd s.2 0) (G:Int->Int)
 (d: ∀k,0<=k->k<16->dK (eY (G k))=false/\lD m (eY (G k))/\((eY (G k)).1=false->G k=0))
 (J: ∀p,0<=px m p % 16->px (m+1) p % 16=i->lY p m (eY (G (px m p % 16)))=lY p (m+1) (aK s.1 (16*f+i))):
 let n:=eK s o
 let s':=dR (iT s o G) (16*f+i) (cv n)
 let g':=mH g n (some (o,m,16*x+i))
 rk s o=0/\Inv g' s'/\mQ g g'/\Am o g g' s s'/\sY XH g g' s s'/\s'.2=s.2.set n.toNat (3,o,0,0,())/\s.2[n.toNat]? =some zD/\
 (∀p,dz g s o p f (m+1)->px (m+1) p % 16=i->dz g' s' o p n m/\aK s'.1 (16*n+px m p % 16)=eY (G (px m p % 16)))/\0<=n/\n<4096:=by
 obtain⟨A,q,B,K,C,D,r,E,L,F⟩:=I.grow b w y z hc G d;dsimp only;have c: ∀{f':Int} {v},g f'=some v->f'≠eK s o:=λh e=>by rw[e,q] at h;cases h
 have Fw: ∀p,dz g s o p f (m+1)->px (m+1) p % 16=i->dz (mH g (eK s o) (some (o,m,16*x+i))) (dR (iT s o G) (16*f+i) (cv (eK s o))) o p (eK s o) m/\aK _ (16*eK s o+px m p % 16)=eY (G (px m p % 16)):=λp a t=>by
  have e:=E (px m p % 16) (ee p m).1 (ee p m).2;refine⟨⟨?_,by rw[e];exact(d _ (ee p m).1 (ee p m).2).1⟩,e⟩;rw[bJ];have h1:=a.1;rw[b] at h1;simp only[B8,B4,true_and] at h1;rw[h1, <-t, <-nM]
 refine⟨A,F,λo' r' x'=>?_,λ⦃f0 o' l M⦄ H h=>⟨?_,λk h0 h1=>?_⟩,λ⦃o' p f' j⦄ _ a=>?_,C,D,Fw,B,by have:=I.le;omega⟩
 ·by_cases e:r'=eK s o
  ·rw[e,bJ,q];refine⟨λh=>?_,λh=>by cases h⟩;have:=(I.kd b).2.2.2.2.2;simp only[B8,B4] at h;omega
  ·rw[a7 e]
 ·rw[a7 (c h)];exact h
 ·have:=c h;refine r _ (λe=>?_) (by omega);have:f0=f:=by omega
  subst this;rw[b] at h;cases h;exact H rfl
 ·by_cases u:f'=f/\px j p % 16=i
  ·obtain⟨rfl,t⟩:=u;have h1:=a.1;rw[b] at h1
   grind
  ·have e:aK (dR (iT s o G) (16*f+i) (cv (eK s o))).1 (16*f'+px j p % 16)=aK s.1 (16*f'+px j p % 16):=by
    have:=c a.1;have:=ee p j;refine r _ (λe=>u ?_) (by omega);omega
   refine⟨f',j,⟨by rw[a7 (c a.1)];exact a.1,by rw[e];exact a.2⟩,by rw[e]⟩
theorem y_ (I:Inv g s) {f o x i v:Int} {l:Nat} (b:g f=some (o,l,x)) (n:0<=i) (r:i<16) (m:dK (aK s.1 (16*f+i))=false) (hv:dK (eY v)=false) (t:lD l (eY v)) (u:(eY v).1=false->v=0) {q:Int} (w:dz g s o q f l) (y:px l q % 16=i):
 Inv g (dO s.1 (16*f+i) v,s.2)/\Am o g g s (dO s.1 (16*f+i) v,s.2)/\sY (oa o l q) g g s (dO s.1 (16*f+i) v,s.2)/\
 (∀p,px l p=px l q->dz g (dO s.1 (16*f+i) v,s.2) o p f l/\dz g s o p f l)/\aK (dO s.1 (16*f+i) v) (16*f+i)=eY v:=by
 obtain⟨z,A⟩:=I.Vq b n r m hv t u;have c:=w.1;rw[b] at c;simp only[B8,B4,true_and] at c;refine⟨A,λ⦃f0 o' E F⦄ B h=>⟨h,λk h0 h1=>?_⟩,λ⦃o' p f' j⦄ a d=>?_,λp a=>?_,z⟩
 ·refine gm (λe=>B ?_)
  grind
 ·have e:aK (dO s.1 (16*f+i) v) (16*f'+px j p % 16)=aK s.1 (16*f'+px j p % 16):=by
   refine gm (λe=>a ?_);have:f'=f:=by omega
   subst this;have h1:=d.1;rw[b] at h1;simp only[B8,B4] at h1;obtain⟨rfl,rfl,C⟩:=h1;refine⟨rfl,?_⟩;rw[nM p,nM q, <-C, <-c];omega
  exact⟨f',j,⟨d.1,by rw[e];exact d.2⟩,by grind⟩
 ·have h1:px (l+1) p=px (l+1) q:=by simp only[px];rw[a]
  have D:px l p % 16=i:=by rw[a];exact y
  refine⟨⟨by grind,?_⟩,⟨by grind,by rw[D];exact m⟩⟩
  grind
theorem L9 (I:Inv g s) {f o x i f2:Int} {m:Nat} (b:g f=some (o,m+1,x)) (v:0<=i) (w:i<16) (a:g f2=some (o,m,16*x+i)) (q:aK s.1 (16*f+i)=cv f2) (r: ∀k,0<=k->k<16->aK s.1 (16*f2+k)=zE):
 let s':WD:=(dO s.1 (16*f+i) 0,dJ s.2 f2 (aO 5 0))
 let g':=mH g f2 none
 Inv g' s'/\mQ g g'/\Am o g g' s s'/\sY XH g g' s s'/\s'.2=s.2.set f2.toNat (5,o,0,0,())/\s.2[f2.toNat]? =some (3,o,0,0,())/\(∀p,dz g s o p f2 m->dz g' s' o p f (m+1))/\aK s'.1 (16*f+i)=zE:=by
 obtain⟨c,y,z⟩:=I.abj b v w a q r;dsimp only;have t:=I.uJ a;have A:f≠f2:=λe=>by
  subst e;rw[b] at a;simp at a
 have B:dK (aK s.1 (16*f+i))=true:=by rw[q];exact dH ⟨t.1,t.2.1⟩
 have Fw: ∀p,dz g s o p f2 m->dz (mH g f2 none) (dO s.1 (16*f+i) 0,dJ s.2 f2 (aO 5 0)) o p f (m+1)/\px (m+1) p % 16=i:=λp h=>by
  have h1:=h.1;rw[a] at h1;simp only[B8,B4,true_and] at h1;have d:=nM p (m+1);have F:=ee p (m+1);have n:px (m+1+1) p=x:=by omega
  have u:px (m+1) p % 16=i:=by omega
  refine⟨⟨by rw[a7 A,n];exact b,?_⟩,u⟩;rw[u,c];exact J_
 refine⟨z,λo' r' x'=>?_,λ⦃f0 o' l G⦄ C h=>⟨?_,λk h0 h1=>?_⟩,λ⦃o' p f' j⦄ _ h=>?_,y,(I.kd a).2.2.1,λp h=>(Fw p h).1,c⟩
 ·by_cases e:r'=f2
  ·subst e;rw[bJ,a];refine⟨λh=>(by cases h),λh=>?_⟩;simp only[B8,B4] at h;have:=(I.kd b).2.2.2.2.2;omega
  ·rw[a7 e]
 ·rw[a7]
  ·exact h
  grind
 ·refine gm (λe=>C ?_);have:f0=f:=by omega
  grind
 ·by_cases e:f'=f2
  ·subst e;have h1:=h.1;rw[a] at h1;simp only[B8,B4] at h1;obtain⟨rfl,rfl,h1⟩:=h1;obtain⟨D,E⟩:=Fw p h;refine⟨_, _,D,?_⟩;rw[E,c,r _ (ee p m).1 (ee p m).2,FW _ _ rfl,FW _ _ rfl]
  ·have n:aK (dO s.1 (16*f+i) 0) (16*f'+px j p % 16)=aK s.1 (16*f'+px j p % 16):=by
    refine gm (λe=>?_);have d:=h.2;rw[<-e,B] at d;cases d
   refine⟨f',j,⟨by rw[a7 e];exact h.1,?_⟩,?_⟩
   ·rw[n];exact h.2
   grind
end Inv
set_option maxRecDepth 100000
open Go.RX D
structure Kept (s s':WD):Prop where
 ks5: ∀{n:Nat} {d:DT},s.2[n]? =some d->d.1=4\/d.1=5->s'.2[n]? =some d
 ws5: ∀{n:Nat} {d:DT},s.2[n]? =some d->d.1=4\/d.1=5-> ∀k:Int,0<=k->k<16->dv s'.1 (16*(n:Int)+k)=dv s.1 (16*(n:Int)+k)
 nw: ∀{n:Nat} {d:DT},s'.2[n]? =some d->s.2[n]? =some d\/((d.1=3\/d.1=5)/\d.2.2=(0,0,())/\1<=d.2.1/\d.2.1<=16)
theorem Kept.ks {s s':WD} (K:Kept s s') {n:Nat} {d:DT} (h:s.2[n]? =some d) (a:d.1=4):s'.2[n]? =some d:=K.ks5 h (.inl a)
theorem Kept.ws {s s':WD} (K:Kept s s') {n:Nat} {d:DT} (h:s.2[n]? =some d) (a:d.1=4) (k:Int) (k0:0<=k) (b:k<16):dv s'.1 (16*(n:Int)+k)=dv s.1 (16*(n:Int)+k):=K.ws5 h (.inl a) k k0 b
theorem Kept.refl (s:WD):Kept s s:=⟨λh _=>h,by simp,λh=> .inl h⟩
theorem Kept.trans {s t u:WD} (h:Kept s t) (k:Kept t u):Kept s u:=
 ⟨λh1 a=>k.ks5 (h.ks5 h1 a) a,λh1 a i i0 i1=>(k.ws5 (h.ks5 h1 a) a i i0 i1).trans (h.ws5 h1 a i i0 i1),λh1=>(k.nw h1).elim h.nw .inr⟩
theorem Kept.set {s:WD} {W:List Int} {n:Nat} {d0 d1:DT} (h0:s.2[n]? =some d0) (c:d0.1≠4/\d0.1≠5) (h1:(d1.1=3\/d1.1=5)/\d1.2.2=(0,0,())/\1<=d1.2.1/\d1.2.1<=16) (b: ∀{m:Nat} {d:DT},s.2[m]? =some d->d.1=4\/d.1=5-> ∀k:Int,0<=k->k<16->dv W (16*(m:Int)+k)=dv s.1 (16*(m:Int)+k)):Kept s (W,s.2.set n d1):=by
 refine⟨λ{m d} a f=>?_,b,λ{m d} a=>?_⟩
 ·have e:n≠m:=λe=>by grind
  rw[B9 e];exact a
 grind
def iF (s:WD) (f:Int):Prop:=0<=f/\ ∃d,s.2[f.toNat]? =some d/\d.1=5/\ ∀k:Int,0<=k->k<16->dv s.1 (16*f+k)=0
theorem iF.kept {s s':WD} {f:Int} (h:iF s f) (K:Kept s s'):iF s' f:=by
 obtain⟨h0,d,h1,a,b⟩:=h;refine⟨h0,d,K.ks5 h1 (.inr a),a,λk k0 c=>?_⟩;have:=K.ws5 h1
 grind
theorem Inv.off {g:Gh} {s:WD} (I:Inv g s) {f o x i:Int} {l:Nat} (a:g f=some (o,l,x)) (h0:0<=i) (h1:i<16) {n:Nat} {d:DT} (b:s.2[n]? =some d) (c:d.1=4\/d.1=5) {k:Int} (k0:0<=k) (e:k<16):16*f+i≠16*(n:Int)+k:=by
 have h:=I.kd a
 grind
theorem Inv.Cx {g:Gh} {s:WD} (I:Inv g s) {f o x i:Int} {l:Nat} (a:g f=some (o,l,x)) (h0:0<=i) (h1:i<16) (v:Int):Kept s (dO s.1 (16*f+i) v,s.2):=
 ⟨λh _=>h,λb c k k0 d=>by exact mP (I.off a h0 h1 b c k0 d),λh=> .inl h⟩
theorem Inv.Bh {g:Gh} {s:WD} (I:Inv g s) {f o x i:Int} {m:Nat} (h:g f=some (o,m+1,x)) (r:0<=i) (t:i<16) (hc:0<cd s.2 0) (G:Int->Int) (e:ET):Kept s (dR (iT s o G) (16*f+i) e):=by
 have j:=I.kd h;obtain⟨n,B,l,u,v,C⟩:=m9 hc I.fz ⟨j.2.2.2.1,j.2.2.2.2.1⟩;have D:eK s o=n:=u;have E:rk s o=0:=v;have F:=I.len;have w:16*(n:Int)+16<=s.1.length:=by omega
 have p:iT s o G=(eZ s.1 n G 16,s.2.set n (3,o,0,0,())):=by unfold iT;grind
 obtain⟨W,a⟩: ∃W,W=eZ s.1 n G 16:=⟨_,rfl⟩;have y: ∀b,dv W b=if 16*n<=b/\b<16*n+16 then G _ else dv s.1 b:=λb=>by
  rw[a];exact tn (by omega) w 16 (by grind) b
 rw[<-a] at p;clear a;have z:dR (W,s.2.set n (3,o,0,0,())) _ e=(dO W (16*f+i) (Tb e),s.2.set n _):=rfl;rw[p,z];refine Kept.set l (by decide) (by grind) λ{m d} c q k k0 A=>?_;have H:n≠m:=λe=>by subst e;rw[l] at c;cases c;exact absurd q (by decide)
 rw[mP (I.off h r t c q k0 A),y,ao (by omega)]
def z_ (g:Gh) (s:WD):Prop:= ∀ ⦃f o l x i⦄,g f=some (o,l,x)->0<=i->i<16->(aK s.1 (16*f+i)).1=true->dK (aK s.1 (16*f+i))=false->l=0
theorem z_.upd {g:Gh} {s s':WD} (h:z_ g s) {f o x i:Int} {l:Nat} (n:g f=some (o,l,x)) (h0:0<=i) (h1:i<16) (d: ∀b,b≠16*f+i->aK s'.1 b=aK s.1 b)
 (p:(aK s'.1 (16*f+i)).1=true->dK (aK s'.1 (16*f+i))=false->l=0):z_ g s':=λf2 q r t k j k0 m a c=>by
 by_cases e:16*f2+k=16*f+i
 grind
 ·rw[d _ e] at a c;exact h j k0 m a c
theorem z_.grow {g:Gh} {s s':WD} (h:z_ g s) {f i F o x a:Int} {m:Nat} (l: ∀b,b≠a->(b<16*F\/16*F+16<=b)->aK s'.1 b=aK s.1 b)
 (q: ∀k,0<=k->k<16->(aK s'.1 (16*F+k)).1=true->m=0) (r:dK (aK s'.1 a)=true):z_ (mH g F (some (o,m,x))) s':=λf2 t u v k c k0 n d j=>by
 by_cases e:f2=F
 ·subst e;rw[bJ] at c
  grind
 ·rw[a7 e] at c;by_cases p:16*f2+k=a
  grind
  ·rw[l _ p (by omega)] at d j;exact h c k0 n d j
theorem z_.del {g:Gh} {s:WD} (h:z_ g s) (F:Int):z_ (mH g F none) s:=λf2 f i j k a k0 b c d=>by
 by_cases e:f2=F
 ·subst e;rw[bJ] at a;grind
 ·rw[a7 e] at a;exact h a k0 b c d
def Yv (P:Int->Int->Prop):Prop:= ∀o q a,P o q->P o a->q=a
theorem O_ (l:Nat) (p:Int):px (l+1) p=px l (p / 16):=by
 induction l with
 |zero=>rfl
 |succ l a=>rw[px,a];rfl
theorem Yv.lv {o p:Int} {lv:Nat} (h:Yv (λo' q=>o'=o/\px lv q=px lv p)):lv=0:=by
 cases lv with
 |zero=>rfl
 |succ=>
  have a:(16*(p / 16)+(p % 16+1) % 16) / 16=p / 16:=by omega
  have:=h o p (16*(p / 16)+(p % 16+1) % 16) (by grind) ⟨rfl,by rw[O_,O_,a]⟩;omega
structure sM (P:Int->Int->Prop) (o:Int) (g g':Gh) (s s':WD):Prop where
 inv:Inv g' s'
 root:mQ g g'
 TP:Am o g g' s s'
 Dr:sY P g g' s s'
 kk: ∀{n:Nat} {d:DT},s.2[n]? =some d->d.1=3\/d.1=5-> ∃d':DT,s'.2[n]? =some d'/\(d'.1=5\/(d'.1=3/\d.1=3))
 len:s'.1.length=s.1.length/\s'.2.length=s.2.length
 kp:Kept s s'
 lg:Yv P->z_ g s->z_ g' s'
 gk: ∀{f:Int} {v:Int×Nat×Int},g f=some v->g' f=some v\/iF s' f
theorem sM.refl {g:Gh} {s:WD} (I:Inv g s) (P:Int->Int->Prop) (o:Int):sM P o g g s s:=
 ⟨I,.refl g,.refl o g s,.refl P g s,by grind,by simp,.refl s,λ_ h=>h,λh=> .inl h⟩
theorem sM.trans {P:Int->Int->Prop} {o:Int} {a b c:Gh} {s t u:WD} (h:sM P o a b s t) (k:sM P o b c t u):sM P o a c s u where
 inv:=k.inv
 root:=h.root.trans k.root
 TP:=h.TP.trans k.TP
 Dr:=h.Dr.trans k.Dr
 kk:=λd f=>by
  obtain⟨d1,h1,g⟩:=h.kk d f;obtain:=k.kk h1
  grind
 len:=⟨k.len.1.trans h.len.1,k.len.2.trans h.len.2⟩
 kp:=h.kp.trans k.kp
 lg:=λo n=>k.lg o (h.lg o n)
 gk:=λh1=>(h.gk h1).elim (λe=>k.gk e) λe=> .inr (e.kept k.kp)
theorem sM.mono {P d:Int->Int->Prop} {o:Int} {a b:Gh} {s t:WD} (h:sM P o a b s t) (c: ∀o p,P o p->d o p):sM d o a b s t:=⟨h.inv,h.root,h.TP,h.Dr.mono c,h.kk,h.len,h.kp,λo1 n=>h.lg (λo q e a b=>o1 o q e (c _ _ a) (c _ _ b)) n,h.gk⟩
theorem Pa {ds:List DT} {i:Nat} {d0 d1:DT} (h0:ds[i]? =some d0) (a:d0.1=3\/d0.1=5->d1.1=5) {n:Nat} {d:DT} (h:ds[n]? =some d) (k:d.1=3\/d.1=5): ∃d':DT,(ds.set i d1)[n]? =some d'/\(d'.1=5\/(d'.1=3/\d.1=3)):=by
 grind
theorem xH (s:WD) (o:Int) (G:Int->Int) (i:Int) (e:ET):(dR (iT s o G) i e).1.length=s.1.length:=by grind[dR,iT,cF,gK]
def De (g:Gh) (s:WD) (e:Option Int):Prop:= ∀ ⦃f o l x⦄,g f=some (o,l,x)->l<3->some f≠e-> ∃k,0<=k/\k<16/\(aK s.1 (16*f+k)).1=true
theorem De.some {g:Gh} {s:WD} (h:De g s none) (f:Int):De g s (some f):=λ_ _ _ _ a b _=>h a b (by simp)
namespace Inv
variable {g:Gh} {s:WD}
theorem down {o p:Int} (b:0<=p/\p<65536) (lv:Nat): ∀(n:Nat) {g:Gh} {s:WD} {f:Int},Inv g s->dz g s o p f (lv+n)->(aK s.1 (16*f+px (lv+n) p % 16)).1=false->n<=cd s.2 0->
 ∃g' s' f',qL o p n (s,(f,((lv+n:Nat):Int),16*f+px (lv+n) p % 16,()))=(s',(f',(lv:Int),16*f'+px lv p % 16,()))/\sM XH o g g' s s'/\dz g' s' o p f' lv/\(aK s'.1 (16*f'+px lv p % 16)).1=false/\cd s'.2 0+n=cd s.2 0/\(De g s (some f)->De g' s' (some f'))
 |0,g,s,f,I,a,c, _=>⟨g,s,f,rfl,.refl I _ _,a,c,rfl,λh=>h⟩
 |n+1,g,s,f,I,a,c,hc=>by
  have w:=I.kd a.1;have x:lv+n<=3:=by have:=w.2.2.2.2.2;omega
  have hi:=ee p (lv+n+1);obtain⟨Z,j,y,z,A,l,q,B,C,D⟩:=I.Em (m:=lv+n) a.1 hi.1 hi.2 a.2 (by omega) (λ_=>0) (λk _ _=>by
   rw[oW];exact⟨J_,DJ _,λ_=>rfl⟩) (λp' _ ou=>by
   rw[oW,FW _ _ rfl,FW];exact c)
  obtain⟨E,F⟩:=B p a rfl;have r:0<=eK s o/\eK s o<4096:=⟨C,D⟩;have G:=pX (d':=(3,o,0,0,())) q 0;have NI:cd (dR (iT s o λ_=>0) (16*f+px (lv+n+1) p % 16) (cv (eK s o))).2 0+1=cd s.2 0:=by
   rw[l];simpa[zD] using G
  obtain⟨_,u1, _, _, _, _,t,H,u, _⟩:=I.grow (m:=lv+n) a.1 hi.1 hi.2 a.2 (by omega) (λ_=>0) (λk _ _=>by
   rw[oW];exact⟨J_,DJ _,λ_=>rfl⟩)
  have J:sM XH o g _ s (dR (iT s o λ_=>0) (16*f+px (lv+n+1) p % 16) (cv (eK s o))):=
   ⟨j,y,z,A,by grind,⟨xH _ _ _ _ _,by rw[l,B2]⟩,I.Bh (m:=lv+n) a.1 hi.1 hi.2 (by omega) _ _,λ_ nl=>nl.grow (f:=f) (i:=0) t (λk k0 d b=>by rw[H k k0 d,oW] at b;cases b) (by rw[u];exact dH r),λ{f0 K} v=> .inl (by
    rw[a7 (λe=>?_)]
    ·exact v
    ·obtain⟨L,M,N⟩:=K;have:=(I.kd v).2.2.1;rw[e,q] at this;cases this)⟩
  have O:De g s (some f)->De (mH g (eK s o) (some (o,lv+n,16*px (lv+n+1+1) p+px (lv+n+1) p % 16))) (dR (iT s o λ_=>0) (16*f+px (lv+n+1) p % 16) (cv (eK s o))) (some (eK s o)):=λh f0 L M N h0 P Q=>by
   have R:f0≠eK s o:=λe=>Q (by rw[e]);rw[a7 R] at h0;by_cases e:f0=f
   ·subst e;exact⟨_,hi.1,hi.2,by rw[u];rfl⟩
   ·obtain⟨k,d,S,T⟩:=h h0 P (by simpa using e);exact⟨k,d,S,by rw[t _ (by omega) (by omega)];exact T⟩
  obtain⟨g',s',f',U,V,W,X,r5,Y⟩:=down b lv n j E (by rw[F,oW];rfl) (by omega);refine⟨g',s',f',?_,J.trans V,W,X,by omega,λh=>Y (O h)⟩;rw[<-U];show qL o p n _= _;have el:((lv+(n+1):Nat):Int) - 1=((lv+n:Nat):Int):=by omega
  rw[el,kL r b x];rfl
end Inv
set_option maxRecDepth 100000
open Go.RX D
theorem WV {ds:List DT} (h:cd ds 0=0):iE ds=none:=by
 unfold cd at h;unfold iE;rw[HB];intro d a;have:=List.countP_eq_zero.1 h d a;simpa using this
theorem Bi {ds:List DT} {y o:Int} (h: ¬ dS ds y o=0):dF ds y o=ds:=by
 unfold dS at h;unfold dF;cases a:iE ds with
 |none=>rfl
 |some n=>
  have b: ¬ ds.length=0:=λe=>by
   have:ds=[]:=Fv.1 e;subst this;cases a
  rw[ao b,a] at h;dsimp only at h ⊢;by_cases c:(n:Int)<0\/(n:Int)>=ds.length
  ·exact xD c _
  ·rw[yI (by omega)] at h;rw[o_ (by omega),ao h]
theorem Jb {s:WD} {o:Int} {G:Int->Int} (h: ¬ rk s o=0):iT s o G=s:=by
 unfold iT;rw[ao h,Bi h]
theorem Rz {s:WD} {o:Int} (h:cd s.2 0=0) (a:0<s.2.length): ¬ rk s o=0:=by
 unfold rk dS;rw[ao (by omega),WV h];show ¬ (12:Int)=0;decide
theorem Cy {p:Int} {j:Nat} {e:ET} (h:(lY p j e).2.2.1=0):e.1=true:=by
 cases a:e.1 with
 |true=>rfl
 |false=>
  rw[FW p j a] at h;exact absurd h (by decide)
theorem Pb {ws:List Int} {f:Int} (c:0<=f) (d:16*f+16<=ws.length) {k:Nat} (a:k<16):(jF ws (16*f) 16)[k]? =some (dv ws (16*f+(k:Int))):=by
 have e:jF ws (16*f) 16=(ws.drop (16*f).toNat).take 16:=ao (by omega);rw[e,GJ a,GS];unfold dv;have hi:(16*f).toNat+k<ws.length:=by omega
 rw[av (jd (by omega) (by omega)),BQ hi,CX];have b:(16*f+(k:Int)).toNat=(16*f).toNat+k:=by omega
 rw[b,BQ hi];rfl
theorem En {ws:List Int} {f:Int} (a:0<=f) (b:16*f+16<=ws.length) (h:xd ws f=true) (k:Int) (h0:0<=k) (h1:k<16):dv ws (16*f+k)=0:=by
 have c:=Pb a b (k:=k.toNat) (by omega);unfold xd at h;rw[Gi] at h;have:=h _ (Bs c);rw[show((k.toNat:Nat):Int)=k from by omega] at this;simpa using this
theorem RA {ws:List Int} {f:Int} (b:0<=f) (c:16*f+16<=ws.length) (h:xd ws f=false): ∃k:Int,0<=k/\k<16/\dv ws (16*f+k)≠0:=by
 unfold xd at h;rw[Gd] at h;obtain⟨v,hv,d⟩:=h;obtain⟨k,a⟩:=Gj hv;have i:(jF ws (16*f) 16).length=16:=by
  have e:jF ws (16*f) 16=(ws.drop (16*f).toNat).take 16:=ao (by omega);rw[e,FM,GH];omega
 have g:k<16:=by have:=(B3.1 a).1;omega
 have:=Pb b c g;rw[a] at this;refine⟨(k:Int),by omega,by omega,λe=>d ?_⟩;cases this;simpa using e
def Wn (F:Nat->Int) (p:Int):Nat->Nat->List PT
 |j,0=>[(F j,(j:Int),16*F j+px j p % 16,())]
 |j,n+1=>(F j,(j:Int),16*F j+px j p % 16,())::Wn F p (j+1) n
structure Up (g:Gh) (s:WD) (o p:Int) (F:Nat->Int) (j:Nat):Prop where
 gh: ∀i,j<=i->i<=3->g (F i)=some (o,i,px (i+1) p)
 ld: ∀i,j<=i->i<3->aK s.1 (16*F (i+1)+px (i+1) p % 16)=cv (F i)
theorem RB (F:Nat->Int) (p:Int) (j n:Nat): ∃l,Wn F p j n=(F j,(j:Int),16*F j+px j p % 16,())::l:=by cases n<;>exact⟨_,rfl⟩
namespace Inv
theorem put {g:Gh} {s:WD} (I:Inv g s) {o r p:Int} (l:g r=some (o,3,0)) (c:0<=p/\p<65536) {lv:Nat} {e:ET} (t:e.1=true) (y:bT e.1 e.2.1 e.2.2.1 e.2.2.2.1=true) (z:dK e=false) (A:lD lv e) (h0:k8 s r p lv=0):
 ∃g',sM (oa o lv p) o g g' s (rD s o r p lv e)/\(∀q,px lv q=px lv p-> ∃f,dz g' (rD s o r p lv e) o q f lv/\aK (rD s o r p lv e).1 (16*f+px lv q % 16)=e)/\
  (∃f j,lv<=j/\dz g s o p f j/\(aK s.1 (16*f+px j p % 16)).1=false/\cd (rD s o r p lv e).2 0+(j - lv)=cd s.2 0)/\(De g s none->De g' (rD s o r p lv e) none):=by
 obtain⟨f,j,L,i⟩:=I.lE l c;obtain⟨u,eP⟩:=I.mh l c i;have a:=h0;unfold k8 at a;rw[u,eP] at a;dsimp only at a;by_cases c1:((aK s.1 (16*f+px j p % 16)).1||decide (((j:Nat):Int)<((lv:Nat):Int)))=true
 ·rw[av c1] at a;exact absurd a (by decide)
 rw[ao c1] at a;by_cases c2:(cd s.2 0:Int)<((j:Nat):Int) - ((lv:Nat):Int)
 ·rw[av c2] at a;exact absurd a (by decide)
 simp only[E5,decide_eq_true_eq,not_or,Bool.not_eq_true] at c1;obtain⟨n,rfl⟩: ∃n,j=lv+n:=⟨j - lv,by omega⟩;obtain⟨g1,s1,f1,d1,C1,E1,M,N,x1⟩:=down c lv n I i c1.1 (by omega);have B:rD s o r p lv e=(dO s1.1 (16*f1+px lv p % 16) (Tb e),s1.2):=by
  unfold rD;rw[av h0,u];have en:(((lv+n:Nat):Int) - ((lv:Nat):Int)).toNat=n:=by omega
  dsimp only;rw[en,d1];rfl
 rw[B];have hv:eY (Tb e)=e:=xF y;have hi:=ee p lv;obtain⟨C,D,E,F,w⟩:=C1.inv.y_ (v:=Tb e) E1.1 hi.1 hi.2 E1.2 (by rw[hv];exact z) (by rw[hv];exact A) (λh=>by rw[hv,t] at h;cases h) E1 rfl;refine⟨g1,(C1.mono λ_ _ h=>h.elim).trans ⟨C,.refl _,D,E,λ{m d} h k=>⟨d,h,k.elim (λe=> .inr ⟨e,e⟩) .inl⟩,⟨cF _ _ _,rfl⟩,C1.inv.Cx E1.1 hi.1 hi.2 _,λo1 nl=>nl.upd E1.1 hi.1 hi.2 (λb hb=>gm (λe=>hb e.symm)) λ_ _=>o1.lv,λh=> .inl h⟩,λq x=>⟨f1,(F q x).1,?_⟩,⟨f,lv+n,by omega,i,c1.1,?_⟩,λh=>?_⟩
 ·show aK (dO s1.1 _ _) _= _;rw[x,w,hv]
 ·show cd s1.2 0+ _= _;omega
 ·intro f0 O P Q h0 G _;by_cases ef:f0=f1
  ·subst ef;exact⟨_,hi.1,hi.2,by show(aK (dO s1.1 _ _) _).1=true;rw[w,hv];exact t⟩
  ·obtain⟨k,H,J,K⟩:=x1 (h.some f) h0 G (by simpa using ef);exact⟨k,H,J,by show(aK (dO s1.1 _ _) _).1=true;rw[gm (by omega)];exact K⟩
end Inv
set_option maxRecDepth 100000
open Go.RX D
theorem Zv (x y:PT) (l:List PT) (t:WD):jv (x::y::l) t=if xd t.1 x.1=true then jv (y::l) (dO t.1 y.2.2.1 0,dJ t.2 x.1 (aO 5 0)) else t:=rfl
theorem Yw {ws:List Int} {a:Int} (h:dv ws a=0):aK ws a=zE:=by unfold aK;rw[h];exact oW
theorem Up.ne {g:Gh} {s:WD} {o p:Int} {F:Nat->Int} {j:Nat} (U:Up g s o p F j) {a b:Nat} (c:j<=a) (d:a<=3) (hb:j<=b) (f:b<=3) (h:a≠b):F a≠F b:=λe=>by
 have h1:=U.gh a c d;rw[e,U.gh b hb f] at h1;simp only[B8,B4,true_and] at h1;exact h h1.1.symm
theorem mi {r:Int} {l:Bool} {f:Int}:bT true r l f=true<->(0<=r/\r<=7/\0<=f/\f<4096/\(r>0\/l=false)):=by
 unfold bT;cases l<;>simp<;>omega
theorem Ou {p:Bool} {r:Int} {l:Bool} {f:Int} (h:r≠0):dK (p,r,l,f,())=false:=by
 unfold dK fM;simp[h]
namespace Inv
theorem split {g:Gh} {s:WD} (I:Inv g s) {o r p:Int} (F:g r=some (o,3,0)) (G:0<=p/\p<65536) {f:Int} {j:Nat} (a:dz g s o p f j) (b:(aK s.1 (16*f+px j p % 16)).1=true) (h0:mn s o r p=0):
 ∃g' f',sM XH o g g' s (fm s o r p)/\dz g' (fm s o r p) o p f' 0/\cd (fm s o r p).2 0+j=cd s.2 0/\(De g s none->De g' (fm s o r p) none):=by
 obtain⟨l,eP⟩:=I.mh F G a;have hi:=ee p j;rcases I.leaf a.1 hi.1 hi.2 b a.2 with ⟨rfl, _⟩|⟨rfl,n,x⟩
 ·have q:fm s o r p=s:=by unfold fm;rw[l];exact av rfl
  rw[q];exact⟨g,f,.refl I _ _,a,rfl,λh=>h⟩
 ·have H:mn s o r p=rk s o:=by unfold mn;rw[l];exact ao (by show ¬ ((1:Int)=0);decide)
  rw[H] at h0;have q:fm s o r p=dR (iT s o (oy (aK s.1 (16*f+px 1 p % 16)))) (16*f+px 1 p % 16) (cv (eK s o)):=by
   unfold fm;rw[l,eP];rw[ao (by show ¬ ((1:Int)=0);decide),av h0]
  have y:=I.kd a.1;have hc:0<cd s.2 0:=by
   rcases Nat.eq_zero_or_pos (cd s.2 0) with e|e
   ·exact absurd h0 (Rz e (by omega))
   ·exact e
  have t:=lK s.1 (16*f+px 1 p % 16);rw[q];have J:=a.2;generalize K:aK s.1 (16*f+px 1 p % 16)=e at n x t b J ⊢;obtain⟨ep,er,el,ef,eu⟩:=e;dsimp only at n x t b;subst n;subst b;obtain⟨L,M,b3,b4,z⟩:=mi.1 t;have z:er>0:=z.elim id (λh=>by cases h);have u: ∀k:Int,0<=k->k<16->eY (oy (true,er,true,ef,()) k)=(true,er,false,ef+k,()):=λk k0 c=>by
   show eY (Fz true er false (ef+k))= _;exact xF (mi.2 ⟨L,M,by omega,by omega,.inr rfl⟩)
  have A: ∀k,0<=k->k<16->dK (eY (oy (true,er,true,ef,()) k))=false/\lD 0 (eY (oy (true,er,true,ef,()) k))/\((eY (oy (true,er,true,ef,()) k)).1=false->oy (true,er,true,ef,()) k=0):=λk k0 c=>by
   rw[u k k0 c];exact⟨Ou (by omega),λ_ _=> .inl ⟨rfl,rfl⟩,λh=>by cases h⟩
  obtain⟨q0,N,O,P,Q,v,w,R,S,T⟩:=I.Em (m:=0) a.1 hi.1 hi.2 a.2 hc (oy (true,er,true,ef,())) A (λp' hp0 ou=>by
   rw[u _ (ee p' 0).1 (ee p' 0).2,K];rfl)
  obtain⟨_,u1, _, _, _, _,B,U,C, _⟩:=I.grow (m:=0) a.1 hi.1 hi.2 a.2 hc (oy (true,er,true,ef,())) A;obtain⟨V,e2⟩:=R p a rfl;have W:=pX (d':=(3,o,0,0,())) w 0;refine⟨_,eK s o,⟨N,O,P,Q,λ{m d} X y=>by rw[v];exact Pa w (λh=>by rcases h with h|h<;>exact absurd h (by decide)) X y,⟨xH _ _ _ _ _,by rw[v,B2]⟩,I.Bh (m:=0) a.1 hi.1 hi.2 hc _ _,λ_ nl=>nl.grow (f:=f) (i:=0) B (λ_ _ _ _=>rfl) (by rw[C];exact dH ⟨S,T⟩),λ{f0 Y} D=> .inl (by
   rw[a7 (λe=>?_)]
   ·exact D
   ·obtain⟨Z,l0,x0⟩:=Y;have:=(I.kd D).2.2.1;rw[e,w] at this;cases this)⟩,V,?_,?_⟩
  ·rw[v];simpa[zD] using W
  ·intro h f0 Z l0 x0 h0 Ig _;by_cases E:f0=eK s o
   ·subst E;exact⟨0,by decide,by decide,by rw[U 0 (by decide) (by decide),u 0 (by decide) (by decide)]⟩
   ·rw[a7 E] at h0;by_cases e:f0=f
    ·subst e;exact⟨_,hi.1,hi.2,by rw[C];rfl⟩
    ·obtain⟨k,c,k2,k3⟩:=h h0 Ig (by simp);exact⟨k,c,k2,by rw[B _ (by omega) (by omega)];exact k3⟩
theorem thin {o p:Int} (t:0<=p/\p<65536) {F:Nat->Int}: ∀(n:Nat) {j:Nat} {g:Gh} {s:WD},j+n=3->Inv g s->Up g s o p F j->
 ∃g',sM XH o g g' s (jv (Wn F p j n) s)/\cd (jv (Wn F p j n) s).2 0=cd s.2 0/\(De g s (some (F j))->De g' (jv (Wn F p j n) s) none)
 |0,j,g,s,M,I,U=>by
  refine⟨g,.refl I _ _,rfl,λh f0 A B C h0 q _=>h h0 q (λe=>?_)⟩;have D:=U.gh j (B6 _) (by omega);cases e;rw[h0] at D;simp only[B8,B4] at D;omega
 |n+1,j,g,s,M,I,U=>by
  obtain⟨l',E⟩:=RB F p (j+1) n;have N:Wn F p j (n+1)=(F j,(j:Int),16*F j+px j p % 16,())::(F (j+1),((j+1:Nat):Int),16*F (j+1)+px (j+1) p % 16,())::l':=by rw[Wn,E]
  have v:=U.gh j (B6 _) (by omega);have g1:=U.gh (j+1) (by omega) (by omega);have O:=U.ld j (B6 _) (by omega);have hi:=ee p (j+1);have f:=I.uJ v;rw[N,Zv];cases w:xd s.1 (F j) with
  |false=>
   rw[ao (by decide)];refine⟨g,.refl I _ _,rfl,λh f0 A B C h0 q _=>?_⟩;by_cases e:f0=F j
   ·subst e;obtain⟨k,k0,c,x⟩:=RA f.1 f.2.2 w;refine⟨k,k0,c,?_⟩;cases hb:(aK s.1 (16*F j+k)).1 with
    |true=>rfl
    |false=>exact absurd (I.wf v k0 c hb) x
   ·exact h h0 q (by simpa using e)
  |true=>
   rw[av rfl];dsimp only;have P:g (F j)=some (o,j,16*px (j+1+1) p+px (j+1) p % 16):=by rw[<-nM];exact v
   obtain⟨y,G,H,J,l,r,Q,K⟩:=I.L9 g1 hi.1 hi.2 P O (λk k0 c=>Yw (En f.1 f.2.2 w k k0 c));dsimp only at y G H J l r Q K;have C1:sM XH o g (mH g (F j) none) s (dO s.1 (16*F (j+1)+px (j+1) p % 16) 0,dJ s.2 (F j) (aO 5 0)):=
    ⟨y,G,H,J,λ{m d} z R=>by rw[l];exact Pa r (λ_=>rfl) z R,⟨cF _ _ _,by rw[l,B2]⟩,by rw[l];exact Kept.set r (show ¬ (3:Int)=4/\ ¬ (3:Int)=5 by decide) ⟨.inr rfl,rfl,(I.kd g1).2.2.2.1,(I.kd g1).2.2.2.2.1⟩ λ{m d} z S k k0 c=>by rw[mP (I.off g1 hi.1 hi.2 z S k0 c)],λ_ nl=>(nl.upd (s':=(dO s.1 (16*F (j+1)+px (j+1) p % 16) 0,dJ s.2 (F j) (aO 5 0))) g1 hi.1 hi.2 (λb hb=>gm (λe=>hb e.symm)) λt _=>by rw[K] at t;cases t).del _,λ{f0 X} T=>by
     by_cases e:f0=F j
     ·subst e;have V:=U.ne (a:=j) (b:=j+1) (by omega) (by omega) (by omega) (by omega) (by omega);refine .inr ⟨f.1, _,by rw[l];exact DE (B3.1 r).1,rfl,λk k0 c=>?_⟩;show dv (dO s.1 _ _) _=0;rw[mP (by omega)];exact En f.1 f.2.2 w k k0 c
     ·exact .inl (by rw[a7 e];exact T)⟩
   have U1:Up (mH g (F j) none) (dO s.1 (16*F (j+1)+px (j+1) p % 16) 0,dJ s.2 (F j) (aO 5 0)) o p F (j+1):=by
    refine⟨λi h1 u=>?_,λi h1 u=>?_⟩
    ·rw[a7 (U.ne (by omega) u (B6 _) (by omega) (by omega))];exact U.gh i (by omega) u
    ·have V:=U.ne (a:=i+1) (b:=j+1) (by omega) (by omega) (by omega) (by omega) (by omega);have Y:=ee p (i+1);show aK (dO _ _ _) _= _;rw[gm (by omega)];exact U.ld i (by omega) u
   obtain⟨g',c1,c2,c3⟩:=thin t n (by omega) y U1;rw[E] at c1 c2 c3;refine⟨g',C1.trans c1,c2.trans ?_,λh=>c3 λf0 A B C h0 q W=>?_⟩
   ·have:=pX (d':=(5,o,0,0,())) r 0;rw[l];simpa using this
   ·have L:f0≠F j:=λe=>by rw[e,bJ] at h0;cases h0
    have Z:f0≠F (j+1):=λe=>W (by rw[e]);rw[a7 L] at h0;obtain⟨k,k0,c,x⟩:=h h0 q (by simpa using L);exact⟨k,k0,c,by show(aK (dO _ _ _) _).1=true;rw[gm (by omega)];exact x⟩
end Inv
set_option maxRecDepth 100000
open Go.RX D
namespace Inv
variable {g:Gh} {s:WD}
theorem ab' (I:Inv g s) {o r p f0:Int} (t:g r=some (o,3,0)) (a:0<=p/\p<65536) (E:dz g s o p f0 0):
 ∃F:Nat->Int,F 0=f0/\Up g s o p F 0/\(dj s.1 p 3 r).reverse=Wn F p 0 3:=by
 obtain⟨f1,a1,u⟩:=I.Fl E.1 (by decide);obtain⟨f2,e,j⟩:=I.Fl a1 (by decide);obtain⟨f3,f,k⟩:=I.Fl e (by decide);have v:f3=r:=by
  refine I.inj f ?_;rw[t];have:=XE a;simp only[px] at this ⊢;rw[this]
 subst v;have b:=I.uJ E.1;have c:=I.uJ a1;have d:=I.uJ e;have m:=I.uJ f;refine⟨λi=>match i with|0=>f0|1=>f1|2=>f2| _=>f3,rfl,⟨λi _ h=>?_,λi _ h=>?_⟩,?_⟩
 ·rcases i with _| _| _| _|i
  ·exact E.1
  ·exact a1
  ·exact e
  ·exact f
  ·omega
 ·rcases i with _| _| _|i
  ·exact u
  ·exact j
  ·exact k
  ·omega
 ·have n:=kL ⟨m.1,m.2.1⟩ a (l:=3) (by omega);have q:=kL ⟨d.1,d.2.1⟩ a (l:=2) (by omega);have w:=kL ⟨c.1,c.2.1⟩ a (l:=1) (by omega);have x:=kL ⟨b.1,b.2.1⟩ a (l:=0) (by omega);have t2:=dH ⟨d.1,d.2.1⟩;have t1:=dH ⟨c.1,c.2.1⟩;have t0:=dH ⟨b.1,b.2.1⟩;have c3:aK s.1 (dZ f3 p (2+1:Nat))=cv f2:=by rw[n];exact k
  have c2:aK s.1 (dZ f2 p (1+1:Nat))=cv f1:=by rw[q];exact j
  have c1:aK s.1 (dZ f1 p ((0+1:Nat):Int))=cv f0:=by grind
  have w1:dj s.1 p 1 f1=[(f1,((0+1:Nat):Int),dZ f1 p ((0+1:Nat):Int),()),(f0,0,dZ f0 p 0,())]:=by rw[dj,c1,av t0];rfl
  have y:dj s.1 p 2 f2=[(f2,((1+1:Nat):Int),dZ f2 p ((1+1:Nat):Int),()),(f1,((0+1:Nat):Int),dZ f1 p ((0+1:Nat):Int),()),(f0,0,dZ f0 p 0,())]:=by
   rw[dj,c2,av t1];show _::dj s.1 p 1 f1= _;rw[w1]
  have z:dj s.1 p 3 f3=[(f3,((2+1:Nat):Int),dZ f3 p ((2+1:Nat):Int),()),(f2,((1+1:Nat):Int),dZ f2 p ((1+1:Nat):Int),()),(f1,((0+1:Nat):Int),dZ f1 p ((0+1:Nat):Int),()),(f0,0,dZ f0 p 0,())]:=by
   rw[dj,c3,av t2];show _::dj s.1 p 2 f2= _;rw[y]
  have A:dZ f0 p 0=16*f0+px 0 p % 16:=x;have B:=w;have C:=q;have D:=n;rw[z,A,B,C,D];rfl
theorem Jc {s:WD} {n:Nat} {d:DT} (h:s.2[n]? =some d) (k:d.1=3\/d.1=5): ∃d':DT,s.2[n]? =some d'/\(d'.1=5\/(d'.1=3/\d.1=3)):=by grind
theorem DI (I:Inv g s) {o r p:Int} (l:g r=some (o,3,0)) (c:0<=p/\p<65536) (h0:BZ s o r false p=0):
 ∃g',sM (oa o 0 p) o g g' s (nj s o r false p)/\bu (nj s o r false p) r false p=(0,0,4,())/\(bu s r false p).2.2.1=0/\
  (∃f j,j<=1/\dz g s o p f j/\(aK s.1 (16*f+px j p % 16)).1=true/\cd (nj s o r false p).2 0+j=cd s.2 0)/\(De g s none->De g' (nj s o r false p) none):=by
 have u:(bu s r false p).2.2.1=0:=by
  unfold BZ at h0
  grind
 have A:mn s o r p=0:=by unfold BZ at h0;grind
 obtain⟨f,j,S,d⟩:=I.lE l c;have w:=u;rw[I.ft l c d] at w;have m:=Cy w;have B:j<=1:=by
  rcases I.leaf d.1 (ee p j).1 (ee p j).2 m d.2 with h|h<;>omega
 obtain⟨g1,f0,C1,E1,c1,C⟩:=I.split l c d m A;have D:nj s o r false p=jv (dj (fm s o r p).1 p 3 r).reverse (dO (fm s o r p).1 (dD (fm s o r p).1 r p).2.2.1 0,(fm s o r p).2):=by
  unfold nj;grind
 have n:=C1.root.to l;have E:=(C1.inv.mh n c E1).1;rw[D,E];generalize fm s o r p=t at*
 have hi:=ee p 0;obtain⟨x,G,H,J,K⟩:=C1.inv.y_ (v:=0) E1.1 hi.1 hi.2 E1.2 (by rw[oW];exact J_) (by rw[oW];exact DJ _) (λ_=>rfl) E1 rfl;obtain⟨F,y,U,L⟩:=C1.inv.ab' n c E1;rw[L];dsimp only;have U2:Up g1 (dO t.1 (16*f0+px 0 p % 16) 0,t.2) o p F 0:=by
  refine⟨U.gh,λi h1 q=>?_⟩;have M:=U.ne (a:=i+1) (b:=0) (by omega) (by omega) (by omega) (by omega) (by omega);rw[y] at M;rw[gm (by omega)];exact U.ld i h1 q
 obtain⟨N,C3,c3,O⟩:=thin c 3 rfl x U2;have C2:sM (oa o 0 p) o g1 g1 t _:=⟨x,.refl _,G,H,λh k=>Jc h k,⟨cF _ _ _,rfl⟩,C1.inv.Cx E1.1 hi.1 hi.2 _,λ_ nl=>nl.upd E1.1 hi.1 hi.2 (λb hb=>gm (λe=>hb e.symm)) λ_ _=>rfl,λh=> .inl h⟩;refine⟨N,((C1.mono λ_ _ h=>h.elim).trans C2).trans (C3.mono λ_ _ h=>h.elim),?_,u,⟨f,j,B,d,m,?_⟩,λh=>?_⟩
 ·obtain⟨f',T,h1,q⟩:=C3.Dr (λh=>h) (J p rfl).1;rw[C3.inv.ft (C3.root.to n) c h1,q];rw[K,oW];rfl
 grind
 ·refine O λf1 o1 V x1 h1 P z=>?_;rw[y] at z;have W:f1≠f0:=λe=>z (by rw[e]);obtain⟨k,k0,Q,R⟩:=C h h1 P (by simp);exact⟨k,k0,Q,by rw[gm (by omega)];exact R⟩
theorem tj (I:Inv g s) {o r p rt:Int} (d:g r=some (o,3,0)) (h0:FR s o r false p rt=0):
 (0<=p/\p<65536)/\ ∃g',sM (oa o 0 p) o g g' s (rE s o r false p rt)/\(bu s r false p).2.2.1=0/\bu (rE s o r false p rt) r false p=((bu s r false p).1,rt,0,())/\
  cd s.2 0<=cd (rE s o r false p rt).2 0+1:=by
 have n: ¬ (false=true):=by decide
 unfold FR at h0;rw[ao n] at h0;have l:lh p 0 rt=0:=by
  grind
 rw[av l] at h0;have w:(0<=p/\p<65536)/\1<=rt/\rt<=7:=by
  unfold lh at l
  grind
 obtain⟨a,G⟩:=w;refine⟨a,?_⟩;obtain⟨f,j,H,c⟩:=I.lE d a;obtain⟨x,eP⟩:=I.mh d a c;have J:=I.ft d a c;by_cases c1:(cR s.1 r p).1=true
 ·rw[av c1] at h0;have y:rE s o r false p rt=(if((cR s.1 r p).2.2.1&&(cR s.1 r p).2.1==rt)=true then s
   else if mn s o r p=0 then dR (fm s o r p) (dD (fm s o r p).1 r p).2.2.1 (true,rt,false,qy p (dD s.1 r p) (cR s.1 r p),()) else fm s o r p):=by
   unfold rE;rw[ao n,av l,av c1]
  rw[y];have i:(aK s.1 (16*f+px j p % 16)).1=true:=by rw[<-eP];exact c1
  have m:bu s r false p=(qy p (dD s.1 r p) (cR s.1 r p),(cR s.1 r p).2.1,0,()):=by
   unfold bu
   grind
  by_cases c2:((cR s.1 r p).2.2.1&&(cR s.1 r p).2.1==rt)=true
  ·rw[av c2];refine⟨g,.refl I _ _,by rw[m],?_,by omega⟩
   grind
  ·rw[ao c2] at h0;rw[ao c2,av h0];obtain⟨g1,f0,C1,E1,d1,K⟩:=I.split d a c i h0;have q:=C1.root.to d;have z:=(C1.inv.mh q a E1).1;rw[z];have L:0<=qy p (dD s.1 r p) (cR s.1 r p)/\qy p (dD s.1 r p) (cR s.1 r p)<4096:=by
    have u:=lK s.1 (16*f+px j p % 16);have A:=I.leaf c.1 (ee p j).1 (ee p j).2 i c.2;rw[eP,x];generalize aK s.1 (16*f+px j p % 16)=e at*
    obtain⟨ep,er,el,ef,M⟩:=e;dsimp only at i u A;subst i;obtain⟨N,O,P,Q,R⟩:=mi.1 u;unfold qy
    grind
   have S:j<=1:=by
    rcases I.leaf c.1 (ee p j).1 (ee p j).2 i c.2 with h|h<;>omega
   have B:(bu s r false p).1=qy p (dD s.1 r p) (cR s.1 r p):=by rw[m]
   rw[B];generalize qy p (dD s.1 r p) (cR s.1 r p)=fr at*
   generalize fm s o r p=t at*
   have hv:eY (Tb (true,rt,false,fr,()))=(true,rt,false,fr,()):=by
    show eY (Fz true rt false fr)= _;exact xF (mi.2 (by omega))
   have hi:=ee p 0;obtain⟨v,C,D,E,F⟩:=C1.inv.y_ E1.1 hi.1 hi.2 E1.2 (by rw[hv];exact Ou (by omega)) (by rw[hv];exact λ_ _=> .inl ⟨rfl,rfl⟩) (λh=>by rw[hv] at h;cases h) E1 rfl;have C2:sM (oa o 0 p) o g1 g1 t _:=⟨v,.refl _,C,D,λh k=>Jc h k,⟨cF _ _ _,rfl⟩,C1.inv.Cx E1.1 hi.1 hi.2 _,λ_ nl=>nl.upd E1.1 hi.1 hi.2 (λb hb=>gm (λe=>hb e.symm)) λ_ _=>rfl,λh=> .inl h⟩;refine⟨g1,(C1.mono λ_ _ h=>h.elim).trans C2,by rw[m],?_,?_⟩
   ·show bu (dO t.1 (16*f0+px 0 p % 16) _,t.2) r false p= _;rw[v.ft q a (E p rfl).1];show lY p 0 (aK (dO t.1 _ _) _)= _;rw[F,hv];rfl
   ·show _<=cd t.2 0+1;omega
 grind
theorem map (I:Inv g s) {o r p f rt:Int} (b:g r=some (o,3,0)) (h0:kl s r false p f rt=0):
 (0<=p/\p<65536)/\ ∃g',sM (oa o 0 p) o g g' s (jE s o r false p f rt)/\bu (jE s o r false p f rt) r false p=(f,rt,0,())/\1<=rt/\(bu s r false p).2.2.1=4/\
  (∃f0,dz g' (jE s o r false p f rt) o p f0 0)/\
  (∃f0 j,dz g s o p f0 j/\cd (jE s o r false p f rt).2 0+j=cd s.2 0)/\(De g s none->De g' (jE s o r false p f rt) none):=by
 unfold kl at h0;have c:lh p f rt=0:=by
  grind
 rw[av c] at h0;have d:(0<=p/\p<65536)/\(0<=f/\f<4096)/\1<=rt/\rt<=7:=by
  unfold lh at c
  grind
 obtain⟨a,q,e⟩:=d;have i:jE s o r false p f rt=rD s o r p 0 (true,rt,false,f,()):=by unfold jE;grind
 rw[i];have k:bT _ rt false f=true:=mi.2 (by omega);obtain⟨g',C,A,⟨f1,j,t,l,m,hc⟩,u⟩:=I.put b a rfl k (Ou (by omega)) (λ_ _=> .inl (by grind)) h0;obtain⟨f2,E2,n⟩:=A p rfl;refine⟨a,g',C,?_,e.1,?_,⟨f2,E2⟩,by grind⟩
 ·have h:=C.inv.ft (C.root.to b) a E2;rw[n] at h;exact h
 ·rw[I.ft b a l,FW _ _ m]
end Inv
set_option maxRecDepth 100000
open Go.RX D
def fresh (n m:Nat):WD:=(BI n 0,BI m zD)
abbrev noG:Gh:=λ_=>none
theorem Vr (m:Nat) (v:Int):cd (BI m zD) v=if v=0 then m else 0:=by
 unfold cd;rw[List.countP_replicate];by_cases h:v=0
 ·subst h;rfl
 ·rw[ao h,ao];show ¬ (((0:Int)==v)=true);simp;omega
theorem L_ {n m:Nat} (h:16*m<=n) (b:m<=4096):Inv noG (fresh n m) where
 len:=by
  show 16*(BI m zD).length<=(BI n (0:Int)).length;simpa using h
 le:=by
  show(BI m zD).length<=4096;simpa using b
 fz:=λd a _=>Hb a
 kd:=by intro f o l x h;cases h
 inj:=by intro f o l h;cases h
 si:=by intro f o l x i h;cases h
 leaf:=by intro f o l x i h;cases h
 Fl:=by intro f o l x h;cases h
 wf:=by intro f o l x i h;cases h
 tb:=by
  intro k d a c;have:d=zD:=Hb (Bs a);subst this;cases c
namespace Inv
variable {g:Gh} {s:WD}
theorem born (I:Inv g s) {o:Int} (w:1<=o/\o<=16) (A: ∀f,g f≠some (o,3,0)) (hc:0<cd s.2 0):
 rk s o=0/\g (eK s o)=none/\0<=eK s o/\eK s o<s.2.length/\(iT s o λ_=>0).2=s.2.set (eK s o).toNat (3,o,0,0,())/\s.2[(eK s o).toNat]? =some zD/\
 (∀b,(b<16*eK s o\/16*eK s o+16<=b)->dv (iT s o λ_=>0).1 b=dv s.1 b)/\
 (∀k,0<=k->k<16->dv (iT s o λ_=>0).1 (16*eK s o+k)=0)/\(iT s o λ_=>0).1.length=s.1.length/\
 Inv (mH g (eK s o) (some (o,3,0))) (iT s o λ_=>0):=by
 obtain⟨n,K,B,L,M,N⟩:=m9 hc I.fz w;have C:eK s o=(n:Int):=L;have D:rk s o=0:=M;have O:=I.len;have P:=I.le;have Q:16*(n:Int)+16<=s.1.length:=by omega
 obtain⟨W,r⟩: ∃W,W=eZ s.1 (n:Int) (λ_=>0) 16:=⟨_,rfl⟩;have E:W.length=s.1.length:=by rw[r,gK]
 have F: ∀b,dv W b=if 16*(n:Int)<=b/\b<16*(n:Int)+16 then 0 else dv s.1 b:=λb=>by
  rw[r];exact tn (by omega) Q 16 (B6 _) b
 have R:iT s o (λ_=>0)=(W,s.2.set n (3,o,0,0,())):=by unfold iT;rw[av D,C,N,r]
 clear r;have gn:g (n:Int)=none:=by
  cases S:g (n:Int) with
  |none=>rfl
  |some v=>
   obtain⟨a,b,c⟩:=v;have:=(I.kd S).2.2.1;rw[show((n:Int)).toNat=n from rfl,B] at this;cases this
 have t: ∀{f':Int} {v},g f'=some v->f'≠(n:Int):=λh e=>by rw[e,gn] at h;cases h
 rw[R,C];have x: ∀b,(b<16*(n:Int)\/16*(n:Int)+16<=b)->dv W b=dv s.1 b:=λb h=>by rw[F b,ao (by omega)]
 have y: ∀k,0<=k->k<16->dv W (16*(n:Int)+k)=0:=λk h0 h1=>by rw[F,av (by omega)]
 have w1: ∀b,(b<16*(n:Int)\/16*(n:Int)+16<=b)->aK W b=aK s.1 b:=λb h=>by unfold aK;rw[x b h]
 have G: ∀k,0<=k->k<16->aK W (16*(n:Int)+k)=zE:=λk h0 h1=>by unfold aK;rw[y k h0 h1];exact oW
 have fP: ∀{f0 l p k:Int} {i:Nat},g f0=some (l,i,p)->0<=k->k<16->aK W (16*f0+k)=aK s.1 (16*f0+k):=λ{f0 l p k i} h h0 h1=>by
  have:=t h;exact w1 _ (by omega)
 refine⟨D,gn,by omega,by omega,rfl,by rw[show((n:Int)).toNat=n from rfl];exact B,x,y,E,?_⟩;refine⟨?_,?_,?_,?_,?_,?_,?_,?_,?_,?_⟩
 ·show 16*(s.2.set n _).length<=W.length;rw[E,B2];exact O
 ·show(s.2.set n _).length<=4096;rw[B2];exact P
 ·intro d z h0;rcases Do z with z|rfl
  ·exact I.fz d z h0
  ·cases h0
 ·intro f0 l i p h;show _/\ _<((s.2.set n (3,o,0,0,())).length:Int)/\(s.2.set n (3,o,0,0,()))[f0.toNat]? = _/\ _;rw[B2];by_cases e:f0=(n:Int)
  ·subst e;rw[bJ] at h;cases h;refine⟨by omega,by omega,?_,w.1,w.2,by omega⟩;rw[show((n:Int)).toNat=n from rfl,DE K]
  ·rw[a7 e] at h;obtain⟨a1,T,U,V⟩:=I.kd h;refine⟨a1,T,?_,V⟩;rw[B9 (by omega)];exact U
 ·intro a b v q hb;by_cases e:a=(n:Int)<;>by_cases e':b=(n:Int)
  ·rw[e,e']
  ·subst e;rw[bJ] at q;rw[a7 e'] at hb;cases q;exact absurd hb (A b)
  ·subst e';rw[bJ] at hb;rw[a7 e] at q;cases hb;exact absurd q (A a)
  ·rw[a7 e] at q;rw[a7 e'] at hb;exact I.inj q hb
 ·intro f0 l i p k h h0 h1 j;by_cases e:f0=(n:Int)
  ·subst e;have j:dK (aK W (16*(n:Int)+k))=true:=j;rw[G k h0 h1,J_] at j;cases j
  ·rw[a7 e] at h;have j:dK (aK W (16*f0+k))=true:=j;show∃m,i=m+1/\mH g n _ (aK W (16*f0+k)).2.2.2.1= _;rw[fP h h0 h1] at j ⊢;obtain⟨X,Y,H⟩:=I.si h h0 h1 j;exact⟨X,Y,by rw[a7 (t H)];exact H⟩
 ·intro f0 l i p k h h0 h1;show lD i (aK W (16*f0+k));by_cases e:f0=(n:Int)
  ·subst e;rw[G k h0 h1];exact DJ _
  ·rw[a7 e] at h;rw[fP h h0 h1];exact I.leaf h h0 h1
 ·intro f0 l i p h Z;by_cases e:f0=(n:Int)
  ·subst e;rw[bJ] at h;cases h;omega
  ·rw[a7 e] at h;obtain⟨f',p1,p2⟩:=I.Fl h Z;refine⟨f',by rw[a7 (t p1)];exact p1,?_⟩;show aK W _= _;rw[fP p1 (by omega) (by omega)];exact p2
 ·intro f0 l i p k h h0 h1 u;show dv W (16*f0+k)=0;by_cases e:f0=(n:Int)
  ·subst e;exact y k h0 h1
  ·rw[a7 e] at h;have u:(aK W (16*f0+k)).1=false:=u;rw[fP h h0 h1] at u;have:=t h;rw[x _ (by omega)];exact I.wf h h0 h1 u
 ·intro J d qs h3;by_cases e:J=n
  ·subst e;exact⟨_,bJ _ _ _⟩
  ·have h':(s.2.set n (3,o,0,0,()))[J]? =some d:=qs;rw[B9 (by omega)] at h';obtain⟨v,hv⟩:=I.tb h' h3;exact⟨v,by rw[a7 (by omega)];exact hv⟩
end Inv
end Go.Proofs.YtlcenllcmeebhaaGreat
