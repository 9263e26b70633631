import Derived.Test.YtlcenllcmeebhaaGreatPAC
/-! What the statement leans on: texts joined and shortened by a program of mine. -/
set_option linter.unusedVariables false
set_option linter.unusedSimpArgs false
open Go renaming World->A0,Addr->AC,Value->AF,MapEntry->AM
open Go.Proofs.Tryz renaming prog->A2
open Eq renaming mpr->AJ
open Go.IntKind renaming i64->Ae
open List renaming range->Aq,length_set->B1,length_cons->B3,getElem?_eq_some_iff->BW,replicate->Bs,getElem?_set_ne->Bx,getElem?_eq_getElem->Cg,sublist_cons_self->Ct,mem_of_getElem?->DA,mem_append_right->DB,perm_middle->DL,length_map->DV,append_nil->Db,mem_or_eq_of_mem_set->Dq,length_append->Ds,mem_cons_self->Dw,getElem?_set_self->Dx,getElem?_append_left->E4,mem_cons->F6,length_take->F8,drop_of_length_le->FB,sublist_append_left->FG,length_eq_zero_iff->FW,findIdx?_eq_some_iff_getElem->FX,ext_getElem?->FY,append_assoc->Fk,length_pos_iff->Ft,mem_singleton->Fy,length_drop->Fz,getElem?_map->G1,getElem?_take_of_lt->GD,getElem?_drop->GF,take_of_length_le->GG,take_add_one->GH,all_eq_false->GJ,all_eq_true->GS,getElem?_of_mem->Ga,range_succ->Gd,foldl_cons->Gi,drop_eq_getElem_cons->Gj,getElem?_append_right->H4,getD_eq_getElem?_getD->H5,eq_of_mem_replicate->H6
open Int renaming toNat->Ar,le_refl->Dh,eq_ofNat_of_zero_le->H7
open Prod.mk renaming injEq->B2
open Nat renaming le_refl->B4,mul_one->DE,eq_of_beq_eq_true->Dk,ne_of_beq_eq_false->Dn,zero_add->FH
open Option.some renaming injEq->B5
open Decidable renaming rec->Ci
open List.Sublist renaming refl->Cj
open Go.Value renaming func->Do,pointer->HB,nilFunc->Hb
open Bool renaming or_eq_true->E5,or_eq_false_iff->FJ
open List.Perm renaming swap->FS,cons->FV
namespace Go.Proofs.YtlcenllcmeebhaaGreat
set_option maxRecDepth 100000
open Go.RX
abbrev aaN:Sh:= .el (.one (.Ac 244 2))
abbrev Gs:Sh:= .el (.one (.Ac 247 3))
noncomputable def N0:dG A2:={M0 with sh:=[(219,aaN),(239,Gs)],quiet:=[117,118,62,30,88,56,215,194,241]}
theorem LU (p:Option AC) (w:A0) (a:Int->A0->Prop):(aI N0 (λ_=>[]) 88 [ah p] w a)=(
 ((!p.isNone)=true->p.isSome=true)/\((!p.isNone)=true->p.isSome=true)/\aj w (some !p.isNone) (ad p 0) lZ λx=>aG (p.isNone||x.isNone) (au w (a 10)) (acg p 4 w λx=>aG x (au w (a 6)) (au w (a 0)))):=by kernel_rfl
theorem RO (p:Option AC) (w:A0) (a:Int->A0->Prop):(aI N0 (λ_=>[]) 56 [ah p] w a)=(
 ∃(x:Int),af A2 88 [ah p] w (aa x)/\aG (x != 0) (au w (a (-1))) (cM p 3 w λx=>au w (a x))):=by kernel_rfl
theorem LV (p f r:Int) (w:A0) (a:Int->A0->Prop):(aI N0 (λ_=>[]) 215 [aa p,aa f,aa r] w a)=(
 aG (decide (p<0)||decide (p>=65536)||decide (f<0)||decide (f>=4096)) (au w (a 2)) (aG (decide (r<1)||decide (r>7)) (au w (a 7)) (au w (a 0)))):=by kernel_rfl
theorem LW (f:Int) (w:A0) (c:(Bool×Int×Bool×Int×Unit)->A0->Prop):(bW N0 (λ_=>[]) 241 [aa f] w c)=(
 aN w ⟨[.bool false,aa 0,.bool false,aa 0]⟩ 130 λb a=>aC a (ae b) [.bool true,aa 0,.bool false,aa f] λa=>au a λw1=>aj w1 none (ae b) kj λ(x:Bool×Int×Bool×Int×Unit)=>c (x.1,x.2.1,x.2.2.1,x.2.2.2.1,()) w1):=by kernel_rfl
theorem LX (p d e f:Int) (ep:Bool) (er:Int) (el:Bool) (ef:Int) (w:A0) (c:Int->A0->Prop):(aI N0 (λ_=>[]) 194 [aa p,.agg ⟨[aa d,aa e,aa f]⟩,.agg ⟨[.bool ep,aa er,.bool el,aa ef]⟩] w c)=(
 aN w ⟨[aa d,aa e,aa f]⟩ 270 λb a=>aN a ⟨[.bool ep,aa er,.bool el,aa ef]⟩ 130 λg a=>true=true/\aV a (ad (ae b) 1) λx=>aG (x==1) (true=true/\aV a (ad (ae g) 3) λx=>True/\gX 1≠0/\au a λw1=>c (aH .i64 x (jY p (gX 1))) w1) (true=true/\aV a (ad (ae g) 3) λx=>au a (c x))):=by kernel_rfl
theorem PD (p:Option AC) (i:Int) (w:A0) (c:(Bool×Int×Bool×Int×Unit)->A0->Prop):(bW N0 (λ_=>[]) 235 [ah p,aa i] w c)=(
 aN w ⟨[.bool false,aa 0,.bool false,aa 0]⟩ 130 λb a=>bH p 0 a λx=>aA A2 37 (.bA [.one (.int .u64),.one (.int .i64)]) [ah x,aa i] a λ(x:Int×Int×Unit) a=>U (B x.1)=x.1/\aN a ⟨[.bool false,aa 0,.bool false,aa 0]⟩ 130 λd a=>aC a (ae d) [.bool (Il (B x.1).toNat),aa (FF (B x.1).toNat),.bool (J' (B x.1).toNat),aa (Fl (B x.1).toNat)] λa=>aj a none (ae d) kj λ(x:Bool×Int×Bool×Int×Unit)=>aC a (ae b) [.bool x.1,aa x.2.1,.bool x.2.2.1,.int
 .i64 x.2.2.2.1] λa=>au a λw1=>aj w1 none (ae b) kj λ(x:Bool×Int×Bool×Int×Unit)=>c (x.1,x.2.1,x.2.2.1,x.2.2.2.1,()) w1):=by kernel_rfl
theorem VD (p:Option AC) (i:Int) (ep:Bool) (er:Int) (el:Bool) (ef:Int) (w:A0) (c:Unit->A0->Prop):(aI N0 (λ_=>[]) 222 [ah p,aa i,.agg ⟨[.bool ep,aa er,.bool el,aa ef]⟩] w c)=(
 aN w ⟨[.bool ep,aa er,.bool el,aa ef]⟩ 130 λb a=>aj a none (ae b) kj λ(x:Bool×Int×Bool×Int×Unit)=>True/\bH p 0 a λd=>aA A2 38 (.el aX) [ah d,aa i,ax (FE x.1 x.2.1 x.2.2.1 x.2.2.2.1)] a λ(x:Int) a=>au a (c ())):=by kernel_rfl
theorem VE (p:Option AC) (pg:Int) (w:A0) (c:Option AC×Option AC×Unit->A0->Prop):(aI N0 (λ_=>[]) 219 [ah p,aa pg] w c)=(
 aN w ⟨[ah p]⟩ 118 λb a=>aN a ⟨[aa pg]⟩ 3 λd a=>au a (c (some ⟨b,0,none⟩,some ⟨d,0,none⟩,()))):=by kernel_rfl
def ur:Nat->a7:=(λ|2=>[(4,Go.RX.El.one (Go.RX.Sc.int Ae)),(5,Go.RX.El.one (Go.RX.Sc.int Ae))]| _=>[])
theorem RP (y:Nat) (p c:Option AC) (w:A0) (d:Unit->A0->Prop):(aI N0 ur 244 [.func (.yield y) #[] #[],ah p,ah c] w d)=(
 gg w p λx=>cM x 3 w λx=> ∃(I:Nat->Int×Int×Unit->A0->Prop),(∃n, ∀w1,Ext w w1->I n (x,3,()) w1)/\ ∀(n:Nat) (s:Int×Int×Unit) (w1:A0),I n s w1->aG (decide (s.2.1>=0)) (aV w1 c λx=>True/\aN w1 ⟨[aa 0,aa 0,aa 0]⟩ 270 λb a=>aC a (ae b) [aa s.1,aa s.2.1,aa (ee s.1 x s.2.1)] λa=>gg a p λx=>true=true/\aV a (ad (ae b) 2) λh=>aA A2 235 (.el kj) [ah x,aa h] a λ(x:Bool×Int×Bool×Int×Unit) a=>aN a ⟨[.bool false,
 aa 0,.bool false,aa 0]⟩ 130 λe a=>aC a (ae e) [.bool x.1,aa x.2.1,.bool x.2.2.1,aa x.2.2.2.1] λa=>aj a none (ae b) wX λ(x:Int×Int×Int×Unit)=> ∀w1,Ext a w1->mC A2 y [.agg ⟨[aa x.1,aa x.2.1,aa x.2.2.1]⟩] w1 λ(b:Bool) a=>aj a (some !!b) (ae e) kj λ(x:Bool×Int×Bool×Int×Unit)=>((!!b)=true->True)/\aG (!b|| !fL x.1 x.2.1 x.2.2.1 x.2.2.2.1) (au a (d ())) (true=true/\aV a (ad (ae e) 3) λx=> ∀f,Ext a f-> ∃(g:Nat),g<n/\
 I g (x,a6 .i64 s.2.1 1,()) f)) (au w1 (d ()))):=by kernel_rfl
def uu:Nat->a7:=(λ|4=>[(6,.agg [.int .i64,.int .i64,.int .i64])]| _=>[])
theorem RQ (p c:Option AC) (w:A0) (e:Option AC×Nat×Nat->A0->Prop):(bW N0 uu 218 [.func (.func 244) #[] #[ah p,ah c]] w e)=(
 aN w ⟨[.slice none 0 0]⟩ 285 λb a=>z7 A2 244 (λ(y:Nat)=>[.func (Fn.yield y) ⟨[]⟩ ⟨[]⟩,ah p,ah c]) ⟨[6]⟩ a (λ(x:(Int×Int×Int×Unit)×Unit)=>[.agg ⟨[aa x.1.1,aa x.1.2.1,aa x.1.2.2.1]⟩]) (λ(l:Nat) (rec:Loop) (x:(Int×Int×Int×Unit)×Unit) g (R:Bool->A0->Prop)=>Dl l rec [Value.agg ⟨[aa x.1.1,aa x.1.2.1,aa x.1.2.2.1]⟩].length 1 g (aN g ⟨[aa 0,aa 0,aa 0]⟩ 270 λi a=>aC a (ae i) [aa x.1.1,aa x.1.2.1,.int .i64
 x.1.2.2.1] λa=>BZ l rec a λd=>s9 d (ae b) λx=>aj d none (ae i) wX λ(f:Int×Int×Int×Unit)=>aN d ⟨[aa f.1,aa f.2.1,aa f.2.2.1]⟩ 270 λj a=> ∀w1,Ext a w1->mJ w1 270 3 24 ⟨[aa 0,aa 0,aa 0]⟩ (x.1,x.2.1,x.2.2) (some ⟨j,0,none⟩,1,1) λ(r:Option AC×Nat×Nat) a=>aC a (ae b) [.slice r.1 r.2.1 r.2.2] λa=>sT l rec none a R)) λ(r:Nat) (rec:Loop) k=>dz (r+1) rec
 k (λd=>s9 d (ae b) λx=>sU [r] d λw1=>e (x.1,x.2.1,x.2.2) w1) (λ(id:Nat) d=>Ci (λ(h:id=0->False)=>False) (λ(h:id=0)=>s9 d (ae b) λx=>sU [r] d λw1=>e (x.1,x.2.1,x.2.2) w1) (match h:id.beq 0 with|true=>isTrue (Dk h)|false=>isFalse (Dn h))) λd=>sU [r] d λw1=>e (none,0,0) w1):=by kernel_rfl
theorem VF (p:Option AC) (pg:Int) (w:A0) (f:(Int×Int×Int×Unit)×(Bool×Int×Bool×Int×Unit)×Unit->A0->Prop):(bW N0 (λ_=>[]) 193 [ah p,aa pg] w f)=(
 aN w ⟨[aa 0,aa 0,aa 0]⟩ 270 λb a=>aN a ⟨[.bool false,aa 0,.bool false,aa 0]⟩ 130 λg a=>aA A2 219 (.el (.one (.Ac 244 2))) [ah p,aa pg] a λx a=>aA A2 218 (.el fi) [.func (.func 244) ⟨[]⟩ ⟨[ah x.1,ah x.2.1]⟩] a λx a=>(x.1.isSome=true/\0<=a6 .i64 (↑x.2.1:Int) 1/\a6 .i64 (↑x.2.1:Int) 1<(↑x.2.1:Int))/\aj a none (ad x.1 ((a6 .i64 (↑x.2.1:Int) 1).toNat*3)) wX λ(x:Int×Int×Int×Unit)=>aN a ⟨[aa 0,aa 0,aa 0]⟩ 270 λc
 a=>aC a (ae c) [aa x.1,aa x.2.1,aa x.2.2.1] λa=>aj a none (ae c) wX λ(x:Int×Int×Int×Unit)=>true=true/\aV a (ad (ae c) 2) λh=>aA A2 235 (.el kj) [ah p,aa h] a λ(d:Bool×Int×Bool×Int×Unit) a=>cU a (ae c) wX x/\aC a (ae b) [aa x.1,aa x.2.1,aa x.2.2.1] λa=>aC a (ae g) [.bool d.1,aa d.2.1,.bool d.2.2.1,aa d.2.2.2.1] λa=>au a λw1=>aj w1 none (ae b) wX λ(x:Int×Int×Int×Unit)=>aj w1
 none (ae g) kj λ(e:Bool×Int×Bool×Int×Unit)=>f ((x.1,x.2.1,x.2.2.1,()),(e.1,e.2.1,e.2.2.1,e.2.2.2.1,()),()) w1):=by kernel_rfl
def rn:Nat->a7:=(λ|5=>[(24,Go.RX.El.one (Go.RX.Sc.int Ae))]| _=>[])
theorem LY (p:Option AC) (w:A0) (b:Int×Int×Unit->A0->Prop):(aI N0 rn 205 [ah p,.func (.func 206) #[] #[]] w b)=(
 bH p 1 w λx=>cM p 2 w λf=>aA A2 172 (.bA [.one (.int .i64),.one (.int .i64)]) [ah x,aa 3,aa f] w λ(x:Int×Int×Unit) a=>aG (x.2.1 != 0) (au a (b (0,x.2.1,()))) (∃(I:Nat->Int×Unit->A0->Prop),(∃n, ∀w1,Ext a w1->I n (0,()) w1)/\ ∀(n:Nat) (s:Int×Unit) (w1:A0),I n s w1->aG (decide (s.1<16)) (bH p 0 w1 λc=>aA A2 206 (.el rN) [aa s.1] w1 λ(g:Int) a=>True/\True/\cU a (ad p 0) lZ c/\True/\True/\aA A2 38 (.el aX) [ah c,
 aa (aH .i64 (fX .i64 16 x.1) s.1),ax g] a λ(x:Int) a=> ∀d,Ext a d-> ∃(e:Nat),e<n/\I e (aH .i64 s.1 1,()) d) (au w1 (b (x.1,0,()))))):=by kernel_rfl
def rq:Nat->a7:=(λ|5=>[(24,Go.RX.El.one (Go.RX.Sc.int Ae))]| _=>[])
theorem LZ (p:Option AC) (w:A0) (b:Int×Int×Unit->A0->Prop):(aI N0 rq 205 [ah p,.func (.func 240) #[] #[]] w b)=(
 bH p 1 w λx=>cM p 2 w λf=>aA A2 172 (.bA [.one (.int .i64),.one (.int .i64)]) [ah x,aa 3,aa f] w λ(x:Int×Int×Unit) a=>aG (x.2.1 != 0) (au a (b (0,x.2.1,()))) (∃(I:Nat->Int×Unit->A0->Prop),(∃n, ∀w1,Ext a w1->I n (0,()) w1)/\ ∀(n:Nat) (s:Int×Unit) (w1:A0),I n s w1->aG (decide (s.1<16)) (bH p 0 w1 λc=>aA A2 240 (.el rN) [aa s.1] w1 λ(g:Int) a=>True/\True/\cU a (ad p 0) lZ c/\True/\True/\aA A2 38 (.el aX) [ah c,
 aa (aH .i64 (fX .i64 16 x.1) s.1),ax g] a λ(x:Int) a=> ∀d,Ext a d-> ∃(e:Nat),e<n/\I e (aH .i64 s.1 1,()) d) (au w1 (b (x.1,0,()))))):=by kernel_rfl
def ru:Nat->a7:=(λ|5=>[(24,Go.RX.El.one (Go.RX.Sc.int Ae))]| _=>[])
theorem L3 (p e:Option AC) (w:A0) (b:Int×Int×Unit->A0->Prop):(aI N0 ru 205 [ah p,.func (.func 242) #[] #[ah e]] w b)=(
 bH p 1 w λx=>cM p 2 w λg=>aA A2 172 (.bA [.one (.int .i64),.one (.int .i64)]) [ah x,aa 3,aa g] w λ(x:Int×Int×Unit) a=>aG (x.2.1 != 0) (au a (b (0,x.2.1,()))) (∃(I:Nat->Int×Unit->A0->Prop),(∃n, ∀w1,Ext a w1->I n (0,()) w1)/\ ∀(n:Nat) (s:Int×Unit) (w1:A0),I n s w1->aG (decide (s.1<16)) (bH p 0 w1 λc=>aA A2 242 (.el rN) [aa s.1,ah e] w1 λ(h:Int) a=>True/\True/\cU a (ad p 0) lZ c/\True/\True/\aA A2 38 (.el aX)
 [ah c,aa (aH .i64 (fX .i64 16 x.1) s.1),ax h] a λ(x:Int) a=> ∀d,Ext a d-> ∃(f:Nat),f<n/\I f (aH .i64 s.1 1,()) d) (au w1 (b (x.1,0,()))))):=by kernel_rfl
theorem RR (i:Int) (w:A0) (a:Int->A0->Prop):(aI N0 (λ_=>[]) 206 [aa i] w a)=(
 au w (a 0)):=by kernel_rfl
theorem RU (i:Int) (w:A0) (a:Int->A0->Prop):(aI N0 (λ_=>[]) 240 [aa i] w a)=(
 au w (a 0)):=by kernel_rfl
theorem Hx (i:Int) (e:Option AC) (w:A0) (a:Int->A0->Prop):(aI N0 (λ_=>[]) 242 [aa i,ah e] w a)=(
 e.isSome=true/\aV w (ad e 1) λx=>e.isSome=true/\aV w (ad e 3) λb=>True/\au w (a (FE true x false (aH .i64 b i)))):=by kernel_rfl
def ww:Nat->a7:=(λ|6=>[]| _=>[])
theorem VG (p:Option AC) (pg lv:Int) (ep:Bool) (er:Int) (el:Bool) (ef:Int) (w:A0) (f:Int->A0->Prop):(aI N0 ww 216 [ah p,aa pg,aa lv,.agg ⟨[.bool ep,aa er,.bool el,aa ef]⟩] w f)=(
 aN w ⟨[.bool ep,aa er,.bool el,aa ef]⟩ 130 λb a=>aA A2 193 (.bA [.agg [.int .i64,.int .i64,.int .i64],.agg [.bool,.int .i64,.bool,.int .i64]]) [ah p,aa pg] a λ(x:(Int×Int×Int×Unit)×(Bool×Int×Bool×Int×Unit)×Unit) a=>aN a ⟨[aa 0,aa 0,aa 0]⟩ 270 λc a=>aN a ⟨[.bool false,aa 0,.bool false,aa 0]⟩ 130 λg a=>aC a (ae c) [aa x.1.1,aa x.1.2.1,aa x.1.2.2.1] λa=>aC a (ae g) [.bool x.2.1.1,aa x.2.1.2.1,.bool
 x.2.1.2.2.1,aa x.2.1.2.2.2.1] λa=>true=true/\s_ a (ad (ae g) 0) λx=>((!x)=true->true=true)/\aj a (some !x) (ad (ae c) 1) aX λ(k:Int)=>aG (x||decide (k<lv)) (au a (f 5)) (bH p 1 a λx=> ∃(h:Int),af A2 30 [ah x,aa 0] a (aa h)/\true=true/\aV a (ad (ae c) 1) λx=>aG (decide (h<a6 .i64 x lv)) (au a (f 12)) (∃(I:Nat->Unit->A0->Prop),(∃n, ∀w1,Ext a w1->I n () w1)/\ ∀(n:Nat) (s:Unit) (w1:A0),I n s w1->true=true/\aV w1 (ad
 (ae c) 1) λx=>aG (decide (x>lv)) (aA A2 205 (.bA [.one (.int .i64),.one (.int .i64)]) [ah p,.func (.func 240) ⟨[]⟩ ⟨[]⟩] w1 λ(x:Int×Int×Unit) a=>true=true/\aV a (ad (ae c) 2) λe=> ∃(d:Bool×Int×Bool×Int×Unit),af A2 241 [aa x.1] a (.agg ⟨[.bool d.1,aa d.2.1,.bool d.2.2.1,aa d.2.2.2.1]⟩)/\aA A2 222 (.bA []) [ah p,aa e,.agg ⟨[.bool d.1,aa d.2.1,.bool d.2.2.1,aa d.2.2.2.1]⟩] a λo a=>true=true/\aV a (ad (ae c) 1)
 λl=>true=true/\aV a (ad (ae c) 1) λm=>True/\aC a (ae c) [aa x.1,aa (a6 .i64 l 1),aa (ee x.1 pg (a6 .i64 m 1))] λa=> ∀i,Ext a i-> ∃(j:Nat),j<n/\I j () i) (true=true/\aV w1 (ad (ae c) 2) λx=>aj w1 none (ae b) kj λ(e:Bool×Int×Bool×Int×Unit)=>aA A2 222 (.bA []) [ah p,aa x,.agg ⟨[.bool e.1,aa e.2.1,.bool e.2.2.1,aa e.2.2.2.1]⟩] w1 λx a=>au a (f 0))))):=by kernel_rfl
theorem VH (p:Option AC) (pg f r:Int) (w:A0) (a:Int->A0->Prop):(aI N0 (λ_=>[]) 173 [ah p,aa pg,aa f,aa r] w a)=(
 ∃(x:Int),af A2 88 [ah p] w (aa x)/\aG (x != 0) (au w (a x)) (∃(x:Int),af A2 215 [aa pg,aa f,aa r] w (aa x)/\aG (x != 0) (au w (a x)) (aA A2 216 (.el aX) [ah p,aa pg,aa 0,.agg ⟨[.bool true,aa r,.bool false,aa f]⟩] w λ(x:Int) b=>au b (a x)))):=by kernel_rfl
theorem L4 (p:Option AC) (pg:Int) (w:A0) (c:Int×Int×Int×Unit->A0->Prop):(aI N0 (λ_=>[]) 139 [ah p,aa pg] w c)=(
 ∃(x:Int),af A2 88 [ah p] w (aa x)/\aG (x != 0) (au w (c (0,0,x,()))) (aG (decide (pg<0)||decide (pg>=65536)) (au w (c (0,0,2,()))) (aA A2 193 (.bA [.agg [.int .i64,.int .i64,.int .i64],.agg [.bool,.int .i64,.bool,.int .i64]]) [ah p,aa pg] w λ(x:(Int×Int×Int×Unit)×(Bool×Int×Bool×Int×Unit)×Unit) a=>aN a ⟨[aa 0,aa 0,aa 0]⟩ 270 λb a=>aN a ⟨[.bool false,aa 0,.bool false,aa 0]⟩ 130 λd a=>aC a (ae b) [aa x.1.1,.int
 .i64 x.1.2.1,aa x.1.2.2.1] λa=>aC a (ae d) [.bool x.2.1.1,aa x.2.1.2.1,.bool x.2.1.2.2.1,aa x.2.1.2.2.2.1] λa=>true=true/\s_ a (ad (ae d) 0) λx=>aG (!x) (au a (c (0,0,4,()))) (aj a none (ae b) wX λ(x:Int×Int×Int×Unit)=>aj a none (ae d) kj λ(e:Bool×Int×Bool×Int×Unit)=> ∃(f:Int),af A2 194 [aa pg,.agg ⟨[aa x.1,aa x.2.1,aa x.2.2.1]⟩,.agg ⟨[.bool e.1,aa e.2.1,.bool e.2.2.1,aa e.2.2.2.1]⟩] a (aa f)/\
 true=true/\aV a (ad (ae d) 1) λx=>au a (c (f,x,0,())))))):=by kernel_rfl
theorem L5 (p:Option AC) (pg:Int) (w:A0) (d:Int->A0->Prop):(aI N0 (λ_=>[]) 217 [ah p,aa pg] w d)=(
 aA A2 193 (.bA [.agg [.int .i64,.int .i64,.int .i64],.agg [.bool,.int .i64,.bool,.int .i64]]) [ah p,aa pg] w λ(x:(Int×Int×Int×Unit)×(Bool×Int×Bool×Int×Unit)×Unit) a=>aN a ⟨[aa 0,aa 0,aa 0]⟩ 270 λb a=>aN a ⟨[.bool false,aa 0,.bool false,aa 0]⟩ 130 λe a=>aC a (ae b) [aa x.1.1,aa x.1.2.1,aa x.1.2.2.1] λa=>aC a (ae e) [.bool x.2.1.1,aa x.2.1.2.1,.bool x.2.1.2.2.1,aa x.2.1.2.2.2.1] λa=>true=true/\aV a (ad (ae b) 1)
 λx=>aG (x==0) (au a (d 0)) (aA A2 205 (.bA [.one (.int .i64),.one (.int .i64)]) [ah p,.func (.func 242) ⟨[]⟩ {toList:=[ah (ae e)]}] a λ(x:Int×Int×Unit) a=>aG (x.2.1==0) (true=true/\aV a (ad (ae b) 2) λf=> ∃(c:Bool×Int×Bool×Int×Unit),af A2 241 [aa x.1] a (.agg ⟨[.bool c.1,aa c.2.1,.bool c.2.2.1,aa c.2.2.2.1]⟩)/\aA A2 222 (.bA []) [ah p,aa f,.agg ⟨[.bool c.1,aa c.2.1,.bool c.2.2.1,aa c.2.2.2.1]⟩] a λg a=>
 au a (d x.2.1)) (au a (d x.2.1)))):=by kernel_rfl
def uv:Nat->a7:=(λ|1=>[(4,Go.RX.El.one (Go.RX.Sc.int Ae))]|4=>[(26,Go.RX.El.one (Go.RX.Sc.int Ae))]| _=>[])
theorem RV (p q:Option AC) (n c:Nat) (w:A0) (g:Unit->A0->Prop):(aI N0 uv 220 [ah p,.slice q n c] w g)=(
 ∃(I:Nat->Int×Unit->A0->Prop),(∃f, ∀w1,Ext w w1->I f (a6 .i64 (↑n:Int) 1,()) w1)/\ ∀(f:Nat) (s:Int×Unit) (w1:A0),I f s w1->aG (decide (s.1>0)) (bH p 0 w1 λx=>(q.isSome=true/\0<=s.1/\s.1<(↑n:Int))/\(ad q (Ar s.1*3)).isSome=true/\aj w1 none (ad (ad q (Ar s.1*3)) 0) aX λ(j:Int)=>aA A2 45 (.el fi) [ah x,aa (fX .i64 16 j),aa 16] w1 λx a=> ∃(h:Nat->Int×Unit->A0->Prop),(∃n, ∀w1,Ext a w1->h n (0,()) w1)/\ ∀(i:Nat) (b
 :Int×Unit) (w1:A0),h i b w1->aG (decide (b.1<(↑x.2.1:Int))) ((x.1.isSome=true/\0<=b.1/\b.1<(↑x.2.1:Int))/\cJ w1 (ad x.1 (Ar b.1*1)) λx=>aG (x != 0) (au w1 (g ())) (∀d,Ext w1 d-> ∃(e:Nat),e<i/\h e (aH .i64 b.1 1,()) d)) (bH p 0 w1 λx=>(q.isSome=true/\0<=a6 .i64 s.1 1/\a6 .i64 s.1 1<(↑n:Int))/\(ad q ((a6 .i64 s.1 1).toNat*3)).isSome=true/\aj w1 none (ad (ad q ((a6 .i64 s.1 1).toNat*3)) 2) aX λ(k:Int)=>aA A2 38 (.el aX) [ah x,.int
 .i64 k,ax 0] w1 λ(x:Int) a=>bH p 1 a λx=>(q.isSome=true/\0<=s.1/\s.1<(↑n:Int))/\(ad q (Ar s.1*3)).isSome=true/\aj a none (ad (ad q (Ar s.1*3)) 0) aX λ(l:Int)=>aA A2 138 (.el aX) [ah x,aa l,aa 5,aa 0] a λ(x:Int) a=> ∀d,Ext a d-> ∃(e:Nat),e<f/\I e (a6 .i64 s.1 1,()) d)) (au w1 (g ()))):=by kernel_rfl
theorem L6 (p:Option AC) (pg:Int) (w:A0) (c:Int×Int×Unit->A0->Prop):(aI N0 (λ_=>[]) 175 [ah p,aa pg] w c)=(
 aA A2 139 (.bA [.one (.int .i64),.one (.int .i64),.one (.int .i64)]) [ah p,aa pg] w λ(x:Int×Int×Int×Unit) a=>aG (x.2.2.1 != 0) (au a (c (0,x.2.2.1,()))) (aA A2 217 (.el aX) [ah p,aa pg] a λ(d:Int) a=>aG (d != 0) (au a (c (0,d,()))) (aA A2 219 (.el (.one (.Ac 244 2))) [ah p,aa pg] a λe a=>aA A2 218 (.el fi) [.func (.func 244) ⟨[]⟩ ⟨[ah e.1,ah e.2.1]⟩] a λb a=>bH p 0 a λf=>(b.1.isSome=true/\0<=a6 .i64
 (↑b.2.1:Int) 1/\a6 .i64 (↑b.2.1:Int) 1<(↑b.2.1:Int))/\(ad b.1 ((a6 .i64 (↑b.2.1:Int) 1).toNat*3)).isSome=true/\aj a none (ad (ad b.1 ((a6 .i64 (↑b.2.1:Int) 1).toNat*3)) 2) aX λ(g:Int)=>aA A2 38 (.el aX) [ah f,aa g,ax 0] a λ(h:Int) a=>aA A2 220 (.bA []) [ah p,.slice b.1 b.2.1 b.2.2] a λi a=>au a (c (x.1,0,()))))):=by kernel_rfl
theorem RW (p:Option AC) (pg r:Int) (w:A0) (c:Int->A0->Prop):(aI N0 (λ_=>[]) 177 [ah p,aa pg,aa r] w c)=(
 ∃(x:Int),af A2 88 [ah p] w (aa x)/\aG (x != 0) (au w (c x)) (∃(x:Int),af A2 215 [aa pg,aa 0,aa r] w (aa x)/\aG (x != 0) (au w (c x)) (aA A2 193 (.bA [.agg [.int .i64,.int .i64,.int .i64],.agg [.bool,.int .i64,.bool,.int .i64]]) [ah p,aa pg] w λ(x:(Int×Int×Int×Unit)×(Bool×Int×Bool×Int×Unit)×Unit) a=>aN a ⟨[aa 0,aa 0,aa 0]⟩ 270 λb a=>aN a ⟨[.bool false,aa 0,.bool false,aa 0]⟩ 130 λd a=>aC a (ae b)
 [aa x.1.1,aa x.1.2.1,aa x.1.2.2.1] λa=>aC a (ae d) [.bool x.2.1.1,aa x.2.1.2.1,.bool x.2.1.2.2.1,aa x.2.1.2.2.2.1] λa=>true=true/\s_ a (ad (ae d) 0) λx=>aG (!x) (au a (c 4)) (true=true/\s_ a (ad (ae d) 2) λx=>(x=true->true=true)/\aj a (some x) (ad (ae d) 1) aX λ(g:Int)=>aG (x&&g==r) (au a (c 0)) (aj a none (ae b) wX λ(x:Int×Int×Int×Unit)=>aj a none (ae d) kj λ(e:Bool×Int×Bool×Int×Unit)=> ∃(f:Int),af A2 194
 [aa pg,.agg ⟨[aa x.1,aa x.2.1,aa x.2.2.1]⟩,.agg ⟨[.bool e.1,aa e.2.1,.bool e.2.2.1,aa e.2.2.2.1]⟩] a (aa f)/\aA A2 217 (.el aX) [ah p,aa pg] a λ(x:Int) a=>aG (x != 0) (au a (c x)) (aA A2 193 (.bA [.agg [.int .i64,.int .i64,.int .i64],.agg [.bool,.int .i64,.bool,.int .i64]]) [ah p,aa pg] a λ(x:(Int×Int×Int×Unit)×(Bool×Int×Bool×Int×Unit)×Unit) a=>aC a (ae b) [aa x.1.1,aa x.1.2.1,aa x.1.2.2.1] λa=>true=
 true/\aV a (ad (ae b) 2) λx=>aA A2 222 (.bA []) [ah p,aa x,.agg ⟨[.bool true,aa r,.bool false,aa f]⟩] a λx a=>au a (c 0))))))):=by kernel_rfl
theorem Br (p:Option AC) (f lv:Int) (w:A0) (c:Option AC×Option AC×Option AC×Unit->A0->Prop):(aI N0 (λ_=>[]) 239 [ah p,aa f,aa lv] w c)=(
 aN w ⟨[ah p]⟩ 118 λb a=>aN a ⟨[aa f]⟩ 3 λd a=>aN a ⟨[aa lv]⟩ 3 λe a=>au a (c (some ⟨d,0,none⟩,some ⟨b,0,none⟩,some ⟨e,0,none⟩,()))):=by kernel_rfl
def rz:Nat->a7:=(λ|4=>[(6,.one (.int .i64))]| _=>[])
theorem L7 (p c d:Option AC) (w:A0) (f:Option AC×Nat×Nat->A0->Prop):(bW N0 rz 238 [.func (.func 247) #[] #[ah p,ah c,ah d]] w f)=(
 aN w ⟨[.slice none 0 0]⟩ 39 λb e=>z7 A2 247 (λ(y:Nat)=>[.func (Fn.yield y) ⟨[]⟩ ⟨[]⟩,ah p,ah c,ah d]) ⟨[6]⟩ e (λ(x:Int×Unit)=>[aa x.1]) (λ(l:Nat) (rec:Loop) (x:Int×Unit) i (R:Bool->A0->Prop)=>Dl l rec [aa x.1].length 1 i (BZ l rec i λa=>s9 a (ae b) λg=>aN a ⟨[aa x.1]⟩ 3 λj e=> ∀w1,Ext e w1->mJ w1 3 1 8 ⟨[aa 0]⟩ (g.1,g.2.1,g.2.2) (some ⟨j,0,none⟩,1,1) λ(r:Option AC×Nat×Nat) e=>aC e (some ⟨b,0,
 none⟩) [.slice r.1 r.2.1 r.2.2] λe=>sT l rec none e R)) λ(r:Nat) (rec:Loop) k=>dz (r+1) rec k (λa=>s9 a (ae b) λx=>sU [r] a λw1=>f (x.1,x.2.1,x.2.2) w1) (λ(id:Nat) a=>Ci (λ(h:id=0->False)=>False) (λ(h:id=0)=>s9 a (ae b) λx=>sU [r] a λw1=>f (x.1,x.2.1,x.2.2) w1) (match h:id.beq 0 with|true=>isTrue (Dk h)|false=>isFalse (Dn h))) λa=>sU [r] a λw1=>f (none,0,0)
 w1):=by kernel_rfl
def wx:Nat->a7:=(λ|5=>[(18,Go.RX.El.one (Go.RX.Sc.int Ae))]|8=>[(5,Go.RX.El.one (Go.RX.Sc.int Ae))]| _=>[])
theorem VI (p:Option AC) (w:A0) (e:Option AC×Nat×Nat->A0->Prop):(aI N0 wx 214 [ah p] w e)=(
 ∃(x:Int),af A2 88 [ah p] w (aa x)/\aG (x != 0) (au w (e (none,0,0))) (cM p 3 w λx=>aA A2 239 (.el (.one (.Ac 247 3))) [ah p,aa x,aa 3] w λx b=>aA A2 238 (.el fi) [.func (.func 247) ⟨[]⟩ ⟨[ah x.1,ah x.2.1,ah x.2.2.1]⟩] b λx b=> ∃(I:Nat->Int×Unit->A0->Prop),(∃n, ∀w1,Ext b w1->I n (0,()) w1)/\ ∀(n:Nat) (s:Int×Unit) (w1:A0),I n s w1->aG (decide (s.1<(↑x.2.1:Int))) (∃(f:Nat->Int×Unit->A0->Prop),(∃n, ∀g,Ext w1 g->f
 n (s.1,()) g)/\ ∀(h:Nat) (a:Int×Unit) (w1:A0),f h a w1->(decide (a.1>0)=true->x.1.isSome=true/\0<=a6 .i64 a.1 1/\a6 .i64 a.1 1<(↑x.2.1:Int))/\aj w1 (some (decide (a.1>0))) (ad x.1 ((a6 .i64 a.1 1).toNat*1)) aX λ(i:Int)=>(decide (a.1>0)=true->x.1.isSome=true/\0<=a.1/\a.1<(↑x.2.1:Int))/\aj w1 (some (decide (a.1>0))) (ad x.1 (Ar a.1*1)) aX λ(j:Int)=>aG (decide (a.1>0)&&decide (i>j)) ((x.1.isSome=true/\0<=a.1/\a.1<(↑x.2.1:Int))/\aV w1
 (ad x.1 (Ar a.1*1)) λk=>(x.1.isSome=true/\0<=a6 .i64 a.1 1/\a6 .i64 a.1 1<(↑x.2.1:Int))/\aj w1 none (ad x.1 ((a6 .i64 a.1 1).toNat*1)) aX λ(l:Int)=>(x.1.isSome=true/\0<=a6 .i64 a.1 1/\a6 .i64 a.1 1<(↑x.2.1:Int))/\aC w1 (ad x.1 ((a6 .i64 a.1 1).toNat*1)) [aa k] λb=>(x.1.isSome=true/\0<=a.1/\a.1<(↑x.2.1:Int))/\aC b (ad x.1 (Ar a.1*1)) [aa l] λb=> ∀c,Ext b c-> ∃(d:Nat),d<h/\f d (a6 .i64 a.1 1,()) c) (∀c,Ext w1 c-> ∃(d
 :Nat),d<n/\I d (aH .i64 s.1 1,()) c)) (au w1 (e (x.1,x.2.1,x.2.2))))):=by kernel_rfl
def uw:Nat->a7:=(λ|5=>[(13,Go.RX.El.one (Go.RX.Sc.int Ae))]| _=>[])
theorem RY (p:Option AC) (w:A0) (b:Option AC×Nat×Nat->A0->Prop):(aI N0 uw 171 [ah p] w b)=(
 ∃(x:Int),af A2 88 [ah p] w (aa x)/\aG (x != 0) (au w (b (none,0,0))) (aA A2 214 (.el fi) [ah p] w λx a=> ∃(I:Nat->Int×Unit->A0->Prop),(∃n, ∀w1,Ext a w1->I n (0,()) w1)/\ ∀(n:Nat) (s:Int×Unit) (w1:A0),I n s w1->aG (decide (s.1<(↑x.2.1:Int))) ((x.1.isSome=true/\0<=s.1/\s.1<(↑x.2.1:Int))/\aV w1 (ad x.1 (Ar s.1*1)) λx=>bH p 1 w1 λe=>aA A2 138 (.el aX) [ah e,aa x,aa 5,aa 0] w1 λ(x:Int) a=> ∀c,Ext a c-> ∃(d
 :Nat),d<n/\I d (aH .i64 s.1 1,()) c) (p.isSome=true/\p.isSome=true/\aC w1 (ad p 4) [.bool true] λa=>au a (b (x.1,x.2.1,x.2.2))))):=by kernel_rfl
theorem VJ (m p:Option AC) (o:Int) (w:A0) (c:Option AC×Int×Unit->A0->Prop):(aI N0 (λ_=>[]) 164 [ah m,ah p,aa o] w c)=(
 ∃(x:Int),af A2 117 [ah m] w (aa x)/\ ∃(d:Int),((!x==0)=true->af A2 62 [ah p] w (aa d))/\ ∃(e:Int),((!(x==0||d==0))=true->af A2 117 [ah m] w (aa e))/\ ∃(f:Int),((!(x==0||d==0))=true->af A2 62 [ah p] w (aa f))/\aG (x==0||d==0||decide (e<fX .i64 16 f)) (au w (c (none,1,()))) (aN w ⟨[ah m,ah p,aa o,aa 0,.bool false]⟩ 188 λb a=>aA A2 205 (.bA [.one (.int .i64),.one (.int
 .i64)]) [ah (ae b),.func (.func 206) ⟨[]⟩ ⟨[]⟩] a λ(x:Int×Int×Unit) a=>aG (x.2.1 != 0) (au a (c (none,x.2.1,()))) (true=true/\true=true/\aC a (ad (ae b) 3) [aa x.1] λa=>au a (c (some ⟨b,0,none⟩,0,()))))):=by kernel_rfl
theorem L8 (p:Option AC) (i n:Int) (w:A0) (a:Option AC×Nat×Nat->A0->Prop):(aI N0 (λ_=>[]) 45 [ah p,aa i,aa n] w a)=(
 aG p.isNone (au w (a (none,0,0))) (p.isSome=true/\p.isSome=true/\aj w none (ad p 0) (.agg [.slice]) λx=>aA A2 80 (.el fi) [.agg ⟨[.slice x.1.1 x.1.2.1 x.1.2.2]⟩,aa i,aa n] w λx b=>au b (a (x.1,x.2.1,x.2.2)))):=by kernel_rfl
theorem VK (p:Option AC) (n c:Nat) (i k:Int) (w:A0) (Post:Option AC×Nat×Nat->A0->Prop):(aI N0 (λ_=>[]) 80 [.agg ⟨[.slice p n c]⟩,aa i,aa k] w Post)=(
 aN w ⟨[.slice p n c]⟩ 157 λb a=>((!(decide (k<1)||decide (i<0)))=true->true=true)/\aj a (some !(decide (k<1)||decide (i<0))) (ad (ae b) 0) (.one .slice) λx=>((!(decide (k<1)||decide (i<0)||decide (i>(↑x.2.1:Int))))=true->true=true)/\aj a (some !(decide (k<1)||decide (i<0)||decide (i>(↑x.2.1:Int)))) (ad (ae b) 0) (.one .slice) λe=>aG (decide (k<1)||decide (i<0)||decide (i>(↑x.2.1:Int))||decide (k>a6 .i64 (↑e.2.1:Int) i)) (au a λw1=>Post (none,0,0) w1) (NV a 8
 1 k k ⟨[ax 0]⟩ 29 λd a=>true=true/\aj a none (ad (ae b) 0) (.one .slice) λx=>(0<=i/\i<=(↑x.2.1:Int)/\(↑x.2.1:Int)<=(↑x.2.2:Int)/\(↑x.2.2:Int)<=(↑x.2.2:Int))/\ ∀w1,Ext a w1->cpR w1 1 (some ⟨d,0,none⟩,k.toNat) (Ci (λ(h:(↑x.2.2:Int).toNat=i.toNat->False)=>ad x.1 (i.toNat*1)) (λ(h:(↑x.2.2:Int).toNat=i.toNat)=>x.1) (instDecidableEqNat (↑x.2.2:Int).toNat i.toNat),(↑x.2.1:Int).toNat - i.toNat) λ(r:Int) a=>au a λw1=>Post (some ⟨d,0,none⟩,k.toNat,k.toNat) w1)):=by
 kernel_rfl
end Go.Proofs.YtlcenllcmeebhaaGreat
namespace Go.Proofs.YtlcenllcmeebhaaGreat.D
set_option maxRecDepth 100000
open Go.RX
noncomputable def E3:dG A2:={E0 with quiet:=[62,30,25]}
section
variable {D G:List Nat} {w0 w:A0} {L:List (Nat×List AF)}
theorem VL (H:aM D G w0 w L) (i j:Nat) {bp bf n c:Nat} {ds:List DT} {rest:List AF} (b:L[i]? =some (bp,[.slice (ae bf) n c])) (a:L[j]? =some (bf,flat eD ds++rest)) (e:i≠j) (g:n=ds.length) (l:0<n) (h:n<=4096) (f y o:Int) {K:Int->A0->Prop}
 (k: ∀d,aM D G w0 d (L.set j (bf,flat eD (dH ds f (aP y o))++rest))->K (vB ds f (aP y o)) d):aA A2 138 (.el (.one (.int .i64))) [ah (ae bp),aa f,aa y,aa o] w K:=by
 subst g;exact aA.Dz H j a (λw1 H=>CG (H.get b) (H.get a) (H.ne b a e) h f y o) k
theorem VM (H:aM D G w0 w L) (i j:Nat) {bp bf n c:Nat} {ds:List DT} {rest:List AF} (b:L[i]? =some (bp,[.slice (ae bf) n c])) (a:L[j]? =some (bf,flat eD ds++rest)) (e:i≠j) (g:n=ds.length) (l:0<n) (h:n<=4096) (f x:Int) (hi: -9223372036854775808<=x/\x<9223372036854775808) {K:Int->A0->Prop}
 (k: ∀d,aM D G w0 d (L.set j (bf,flat eD (dH ds f (iv x))++rest))->K (vB ds f (iv x)) d):aA A2 183 (.el (.one (.int .i64))) [ah (ae bp),aa f,aa x] w K:=by
 subst g;exact aA.Dz H j a (λw1 H=>Vy (H.get b) (H.get a) (H.ne b a e) h f x hi) k
theorem VN (H:aM D G w0 w L) (i j:Nat) {bp bf n c:Nat} {ds:List DT} {rest:List AF} (b:L[i]? =some (bp,[.slice (ae bf) n c])) (a:L[j]? =some (bf,flat eD ds++rest)) (e:i≠j) (g:n=ds.length) (l:0<n) (h:n<=4096) (f:Int) {K:Int->A0->Prop}
 (k: ∀d,aM D G w0 d (L.set j (bf,flat eD (dH ds f (aP 0 0))++rest))->K (vB ds f (aP 0 0)) d):aA A2 79 (.el (.one (.int .i64))) [ah (ae bp),aa f] w K:=by
 subst g;exact aA.Dz H j a (λw1 H=>Vz (H.get b) (H.get a) (H.ne b a e) h f) k
theorem VO (H:aM D G w0 w L) (i j:Nat) {bp bf n c:Nat} {ds:List DT} {rest:List AF} (b:L[i]? =some (bp,[.slice (ae bf) n c])) (a:L[j]? =some (bf,flat eD ds++rest)) (e:i≠j) (f:n=ds.length) (h:0<n) (g:n<=4096) (y o:Int) {K:Int×Int×Unit->A0->Prop}
 (k: ∀d,aM D G w0 d (L.set j (bf,flat eD (dE ds y o)++rest))->K (fg ds y o,dN ds y o,()) d):aA A2 172 (.bA [.one (.int .i64),.one (.int .i64)]) [ah (ae bp),aa y,aa o] w K:=by
 subst f;exact aA.Dz H j a (λw1 H=>VC (H.get b) (H.get a) (H.ne b a e) rfl g y o) k
theorem abu (H:aM D G w0 w L) (i:Nat) {bp n c:Nat} {a:Option AC} (b:L[i]? =some (bp,[.slice a n c])):af A2 62 [ah (ae bp)] w (aa (n:Int)):=
 af.of (s:= .el (.one (.int .i64))) λw' h=>se ((H.get b).ext h)
theorem VP (H:aM D G w0 w L) (i j:Nat) {bp bf n c:Nat} {ds:List DT} {rest:List AF} (a:L[i]? =some (bp,[.slice (ae bf) n c])) (b:L[j]? =some (bf,flat eD ds++rest)) (d:n=ds.length) (e:n<=4096) (v:Int):
 af A2 30 [ah (ae bp),aa v] w (aa (cg ds v:Nat)):=
 af.of (s:= .el (.one (.int .i64))) λw' h=>Eo ((H.get a).ext h) ((H.get b).ext h) d e v
theorem acp (H:aM D G w0 w L) (i j:Nat) {bp bf n c:Nat} {ds:List DT} {rest:List AF} (a:L[i]? =some (bp,[.slice (ae bf) n c])) (b:L[j]? =some (bf,flat eD ds++rest)) (d:n=ds.length) (f:Int):
 af A2 25 [ah (ae bp),aa f] w ((Sh.bA [eD,.one .bool]).iu (qI ds f,Ag ds f,())):=by
 subst d;exact af.of (s:= .bA [eD,.one .bool]) λw' h=>PC ((H.get a).ext h) ((H.get b).ext h) f
theorem RZ (H:aM D G w0 w L) (i j:Nat) {bp bf n c:Nat} {ds:List DT} {rest:List AF} (b:L[i]? =some (bp,[.slice (ae bf) n c])) (d:L[j]? =some (bf,flat eD ds++rest)) (e:n=ds.length) (f:n<=4096) (v:Int) {K:Option AC×Nat×Nat->A0->Prop}
 (k: ∀r rows a,aM D G w0 a (L++rows)->oq eI rows r ((fY ds v).map λi=>((i:Nat):Int))->K r a):aA A2 166 (.el (.one .slice)) [ah (ae bp),aa v] w K:=
 aA.Y1 H (λw1 H=>RN (H.get b) (H.get d) e f v) k
end
end Go.Proofs.YtlcenllcmeebhaaGreat.D
namespace Go.Proofs.YtlcenllcmeebhaaGreat
set_option maxRecDepth 100000
open Go.RX D
abbrev ET:Type:=Bool×Int×Bool×Int×Unit
abbrev PT:Type:=Int×Int×Int×Unit
abbrev sEn:List Sc:=[.bool,.int .i64,.bool,.int .i64]
abbrev T2:List Sc:=[.int .i64,.int .i64,.int .i64]
def zE:ET:=(false,0,false,0,())
def eZ (v:Int):ET:=(Il (B v).toNat,FF (B v).toNat,J' (B v).toNat,Fl (B v).toNat,())
def dI (e:ET):Bool:=fL e.1 e.2.1 e.2.2.1 e.2.2.2.1
def TJ (e:ET):Int:=FE e.1 e.2.1 e.2.2.1 e.2.2.2.1
def cv (f:Int):ET:=(true,0,false,f,())
def aK (ws:List Int) (i:Int):ET:=eZ (cL ws i)
def dm (ws:List Int) (pg:Int):Nat->Int->List PT
 |0,f=>[(f,0,ee f pg 0,())]
 |l+1,f=>(f,((l+1:Nat):Int),ee f pg ((l+1:Nat):Int),())::if dI (aK ws (ee f pg ((l+1:Nat):Int)))=true then dm ws pg l (aK ws (ee f pg ((l+1:Nat):Int))).2.2.2.1 else[]
theorem xH (ws:List Int) (pg:Int) (l:Nat) (f:Int):dm ws pg l f≠[]:=by cases l<;>simp[dm]
theorem tJ (ws:List Int) (pg:Int): ∀(l:Nat) (f:Int),(dm ws pg l f).length<=l+1
 |0,f=>by simp[dm]
 |l+1,f=>by
  rw[dm];split
  ·have:=tJ ws pg l (aK ws (ee f pg ((l+1:Nat):Int))).2.2.2.1;simp only[B3];omega
  ·simp
def dJ (ws:List Int) (r pg:Int):PT:=(dm ws pg 3 r).getLastD (0,0,0,())
def cW (ws:List Int) (r pg:Int):ET:=aK ws (dJ ws r pg).2.2.1
def e8 (ws:List Int) (f:Int) (g:Int->Int):Nat->List Int
 |0=>ws
 |i+1=>dC (e8 ws f g i) (16*f+(i:Int)) (g i)
theorem gT (ws:List Int) (f:Int) (g:Int->Int): ∀n,(e8 ws f g n).length=ws.length
 |0=>rfl
 |n+1=>by rw[e8,cF,gT ws f g n]
abbrev WD:Type:=List Int×List DT
def eK (s:WD) (o:Int):Int:=fg s.2 3 o
def rH (s:WD) (o:Int):Int:=dN s.2 3 o
def jc (s:WD) (o:Int) (g:Int->Int):WD:=(if rH s o=0 then e8 s.1 (eK s o) g 16 else s.1,dE s.2 3 o)
def dR (s:WD) (i:Int) (e:ET):WD:=(dC s.1 i (TJ e),s.2)
def qZ (o pg:Int):Nat->WD×PT->WD×PT
 |0,x=>x
 |n+1,x=>qZ o pg n (dR (jc x.1 o λ_=>0) x.2.2.2.1 (cv (eK x.1 o)),(eK x.1 o,x.2.2.1 - 1,ee (eK x.1 o) pg (x.2.2.1 - 1),()))
def lu (s:WD) (r pg lv:Int):Int:=
 if((cW s.1 r pg).1||decide ((dJ s.1 r pg).2.1<lv))=true then 5
 else if(cg s.2 0:Int)<(dJ s.1 r pg).2.1 - lv then 12 else 0
def rT (s:WD) (o r pg lv:Int) (e:ET):WD:=
 if lu s r pg lv=0 then dR (qZ o pg ((dJ s.1 r pg).2.1 - lv).toNat (s,dJ s.1 r pg)).1 (qZ o pg ((dJ s.1 r pg).2.1 - lv).toNat (s,dJ s.1 r pg)).2.2.2.1 e else s
def lA (pg f rt:Int):Int:=if pg<0\/pg>=65536\/f<0\/f>=4096 then 2 else if rt<1\/rt>7 then 7 else 0
def kl (s:WD) (r:Int) (gone:Bool) (pg f rt:Int):Int:=if gone=true then 6 else if lA pg f rt=0 then lu s r pg 0 else lA pg f rt
def jG (s:WD) (o r:Int) (gone:Bool) (pg f rt:Int):WD:=if gone=true then s else if lA pg f rt=0 then rT s o r pg 0 (true,rt,false,f,()) else s
def qO (pg:Int) (x:PT) (e:ET):Int:=if x.2.1=1 then e.2.2.2.1+pg % 16 else e.2.2.2.1
def bz (s:WD) (r:Int) (gone:Bool) (pg:Int):Int×Int×Int×Unit:=
 if gone=true then(0,0,6,()) else if pg<0\/pg>=65536 then(0,0,2,())
 else if(cW s.1 r pg).1=true then(qO pg (dJ s.1 r pg) (cW s.1 r pg),(cW s.1 r pg).2.1,0,()) else(0,0,4,())
def oH (e:ET) (i:Int):Int:=TJ (true,e.2.1,false,e.2.2.2.1+i,())
def mz (s:WD) (o r pg:Int):Int:=if(dJ s.1 r pg).2.1=0 then 0 else rH s o
def fZ (s:WD) (o r pg:Int):WD:=
 if(dJ s.1 r pg).2.1=0 then s
 else if rH s o=0 then dR (jc s o (oH (cW s.1 r pg))) (dJ s.1 r pg).2.2.1 (cv (eK s o)) else jc s o (oH (cW s.1 r pg))
def jH (ws:List Int) (i n:Int):List Int:=if n<1\/i<0\/i>ws.length\/n>ws.length - i then[] else(ws.drop i.toNat).take n.toNat
def xd (ws:List Int) (f:Int):Bool:=(jH ws (16*f) 16).all λv=>v==0
def jA:List PT->WD->WD
 |x::y::l,s=>if xd s.1 x.1=true then jA (y::l) (dC s.1 y.2.2.1 0,dH s.2 x.1 (aP 5 0)) else s
 | _,s=>s
def Cf (s:WD) (o r:Int) (gone:Bool) (pg:Int):Int:=if(bz s r gone pg).2.2.1=0 then mz s o r pg else(bz s r gone pg).2.2.1
def FZ (s:WD) (o r:Int) (gone:Bool) (pg:Int):Int:=if Cf s o r gone pg=0 then(bz s r gone pg).1 else 0
def nC (s:WD) (o r:Int) (gone:Bool) (pg:Int):WD:=
 if(bz s r gone pg).2.2.1=0 then
  if mz s o r pg=0 then jA (dm (fZ s o r pg).1 pg 3 r).reverse (dC (fZ s o r pg).1 (dJ (fZ s o r pg).1 r pg).2.2.1 0,(fZ s o r pg).2)
  else fZ s o r pg
 else s
def F1 (s:WD) (o r:Int) (gone:Bool) (pg rt:Int):Int:=
 if gone=true then 6 else if lA pg 0 rt=0 then(if(cW s.1 r pg).1=true then(if((cW s.1 r pg).2.2.1&&(cW s.1 r pg).2.1==rt)=true then 0 else mz s o r pg) else 4) else lA pg 0 rt
def rU (s:WD) (o r:Int) (gone:Bool) (pg rt:Int):WD:=
 if gone=true then s else if lA pg 0 rt=0 then(if(cW s.1 r pg).1=true then(if((cW s.1 r pg).2.2.1&&(cW s.1 r pg).2.1==rt)=true then s
  else if mz s o r pg=0 then dR (fZ s o r pg) (dJ (fZ s o r pg).1 r pg).2.2.1 (true,rt,false,qO pg (dJ s.1 r pg) (cW s.1 r pg),()) else fZ s o r pg) else s) else s
def cY (ws:List Int):Nat->Int->List Int
 |0,f=>[f]
 |l+1,f=>f::(Aq 16).flatMap λ(i:Nat)=>if dI (aK ws (16*f+(i:Int)))=true then cY ws l (aK ws (16*f+(i:Int))).2.2.2.1 else[]
def jI (x:Int):List Int->List Int
 |[]=>[x]
 |y::l=>if y>x then y::jI x l else x::y::l
def mT (l:List Int):List Int:=(l.foldl (λa x=>jI x a) []).reverse
def mU (s:WD) (r:Int) (gone:Bool):List Int:=if gone=true then[] else mT (cY s.1 3 r)
def cG (s:WD) (r:Int) (gone:Bool):WD:=if gone=true then s else(s.1,(mU s r gone).foldl (λds f=>dH ds f (aP 5 0)) s.2)
structure Sys where
 bm:Nat
 bw:Nat
 bf:Nat
 bp:Nat
 c:Nat
 cp:Nat
 rw:List AF
 rf:List AF
def Sys.L (Q:Sys) (ca la:Int) (s:WD) (L0:List (Nat×List AF)):List (Nat×List AF):=
 (Q.bm,mv Q.bw s.1.length Q.c ca la)::(Q.bw,flat eW s.1++Q.rw)::(Q.bf,flat eD s.2++Q.rf)::(Q.bp,[.slice (ae Q.bf) s.2.length Q.cp])::L0
structure a9 (Q:Sys) (D G:List Nat) (w0 w:A0) (s:WD) (L0:List (Nat×List AF)):Prop where
 pos:0<s.1.length
 F2:0<s.2.length
 le:s.2.length<=4096
 okw:okW s.1
 kn: ∃ca la,aM D G w0 w (Q.L ca la s L0)
abbrev p_ (Q:Sys) (o r:Int) (gone:Bool):List AF:=[ah (ae Q.bm),ah (ae Q.bp),aa o,aa r,.bool gone]
theorem Z5 {ws:List Int} (h:okW ws) (i v:Int) (hv:0<=v/\v<18446744073709551616):okW (dC ws i v):=by
 intro x hx;unfold dC at hx;split at hx
 ·rcases Dq hx with hx|rfl
  ·exact h x hx
  ·exact hv
 ·exact h x hx
theorem PE (p:Bool) (r:Int) (l:Bool) (f:Int):0<=FE p r l f/\FE p r l f<18446744073709551616:=by
 unfold FE;split
 ·rename_i h;unfold vK;cases p with
  |false=>
   unfold bU at h;simp at h;obtain⟨⟨h1,a⟩,b⟩:=h;subst h1;subst a;subst b;decide
  |true=>
   unfold bU at h;simp at h;have d:(nB l:Int)<=1:=by cases l<;>decide
   have b0:0<=(nB l:Int):=by omega
   have c:(nB true:Int)=1:=rfl;rw[c];omega
 ·exact⟨by decide,by decide⟩
theorem Jk (n:Nat):0<=Fl n/\Fl n<4096:=by
 unfold Fl;split<;>omega
section
variable {Q:Sys} {D G:List Nat} {w0 w w1:A0} {s:WD} {L0 L1:List (Nat×List AF)}
namespace a9
theorem ext (S:a9 Q D G w0 w s L0) (h:Ext w w1):a9 Q D G w0 w1 s L0:=by
 obtain⟨h1,a,b,c,ca,la,H⟩:=S;exact⟨h1,a,b,c,ca,la,H.ext h⟩
theorem al (S:a9 Q D G w0 w s L0) {cs:List AF} {e:TypeId} {K:Nat->A0->Prop} (k: ∀b w1,a9 Q D G w0 w1 s ((b,cs)::L0)->K b w1):aN w ⟨cs⟩ e K:=by
 obtain⟨h1,a,c,d,ca,la,H⟩:=S;exact aN.go H λb w1 H=>k b w1 ⟨h1,a,c,d,ca,la,H.perm (DL (l₁:=[_, _, _, _]))⟩
theorem en (S:a9 Q D G w0 w s L0) {K:A0->Prop} (k: ∀w1,a9 Q D G w0 w1 s L0->K w1):au w K:=λ_ h=>k _ (S.ext h)
theorem get (S:a9 Q D G w0 w s L0) {i b:Nat} {l:List AF} (h:L0[i]? =some (b,l)):bO w b l:=by
 obtain⟨h1,a,c,d,ca,la,H⟩:=S;exact H.get (i:=i+4) h
theorem ld (i:Nat) (S:a9 Q D G w0 w s L0) {g:Option Bool} {el:El} {K:el.T->Prop} {b o:Nat} {l:List AF} {x:el.T} (a:L0[i]? =some (b,l)) (hv:ly l o el=some x) (k:K x):aj w g (some ⟨b,o,none⟩) el K:=
 .of x (dV (S.get a) hv) k
theorem cz (i:Nat) (S:a9 Q D G w0 w s L0) {g:Option Bool} {el:El} {K:el.T->Prop} {b o n:Nat} {l:List AF} {x:el.T} (a:L0[i]? =some (b,l)) (hv:ly l (o+n) el=some x) (k:K x):aj w g (ad (some ⟨b,o,none⟩) n) el K:=by
 rw[aY];exact .of x (dV (S.get a) hv) k
theorem fh (i:Nat) (S:a9 Q D G w0 w s L0) {b:Nat} {l vs:List AF} {K:A0->Prop} (a:L0[i]? =some (b,l)) (c:vs.all (·.oneCell')=true) (d:vs.length=l.length)
 (k: ∀w1,a9 Q D G w0 w1 s (L0.set i (b,vs))->K w1):aC w (ae b) vs K:=by
 obtain⟨h1,e,f,g,ca,la,H⟩:=S;exact aC.all (i+4) H a c d λw1 H=>k w1 ⟨h1,e,f,g,ca,la,H⟩
theorem abv (i:Nat) (S:a9 Q D G w0 w s L0) {b o:Nat} {l:List AF} {x:AF} {K:A0->Prop} (a:L0[i]? =some (b,l)) (c:x.oneCell'=true) (d:Nat.blt o l.length=true)
 (k: ∀w1,a9 Q D G w0 w1 s (L0.set i (b,l.set o x))->K w1):aC w (some ⟨b,o,none⟩) [x] K:=by
 obtain⟨h1,e,f,g,ca,la,H⟩:=S;exact aC.one (i+4) H a c d λw1 H=>k w1 ⟨h1,e,f,g,ca,la,H⟩
theorem Cv (i:Nat) (S:a9 Q D G w0 w s L0) {b o n:Nat} {l:List AF} {x:AF} {K:A0->Prop} (a:L0[i]? =some (b,l)) (c:x.oneCell'=true) (d:Nat.blt (o+n) l.length=true)
 (k: ∀w1,a9 Q D G w0 w1 s (L0.set i (b,l.set (o+n) x))->K w1):aC w (ad (some ⟨b,o,none⟩) n) [x] K:=by
 rw[aY];exact S.abv i a c d k
theorem go (S:a9 Q D G w0 w s L0) {P:Program} {f:FuncId} {sh:Sh} {args:List AF} {K:sh.T->A0->Prop} (k: ∀w1,a9 Q D G w0 w1 s L0->aE P f sh args w1 K):aA P f sh args w K:=λ_ h=>k _ (S.ext h)
theorem sub (S:a9 Q D G w0 w s L0) (h:L1.Sublist L0):a9 Q D G w0 w s L1:=by
 obtain⟨h1,a,b,c,ca,la,H⟩:=S;exact⟨h1,a,b,c,ca,la,H.sub (((((h.cons_cons _).cons_cons _).cons_cons _).cons_cons _))⟩
theorem tail {x:Nat×List AF} (S:a9 Q D G w0 w s (x::L0)):a9 Q D G w0 w s L0:=S.sub (Ct _ _)
theorem perm (S:a9 Q D G w0 w s L0) (h:L1.Perm L0):a9 Q D G w0 w s L1:=by
 obtain⟨h1,a,b,c,ca,la,H⟩:=S;exact⟨h1,a,b,c,ca,la,H.perm ((((h.cons _).cons _).cons _).cons _)⟩
theorem load (S:a9 Q D G w0 w s L0) (i:Int) {K:Int×Int×Unit->A0->Prop} (k: ∀a,a9 Q D G w0 a s L0->K (cL s.1 i,B6 s.1 i,()) a):
 aA A2 37 (.bA [.one (.int .u64),.one (.int .i64)]) [ah (ae Q.bm),aa i] w K:=by
 obtain⟨h1,b,c,d,ca,la,H⟩:=S;exact Ee H 0 1 rfl rfl (by decide) rfl h1 i λa H=>k a ⟨h1,b,c,d, _, _,H⟩
theorem store (S:a9 Q D G w0 w s L0) (i v:Int) (hv:0<=v/\v<18446744073709551616) {K:Int->A0->Prop} (k: ∀a,a9 Q D G w0 a (dC s.1 i v,s.2) L0->K (B6 s.1 i) a):
 aA A2 38 (.el (.one (.int .i64))) [ah (ae Q.bm),aa i,ax v] w K:=by
 obtain⟨h1,b,d,e,ca,la,H⟩:=S;refine Ln H 0 1 rfl rfl (by decide) rfl h1 i v λa H=>k a ⟨?_,b,d,Z5 e i v hv,xr s.1 i ca,xr s.1 i la,?_⟩
 ·show 0<(dC s.1 i v).length;rw[cF];exact h1
 ·unfold Sys.L;show aM D G w0 a ((Q.bm,mv Q.bw (dC s.1 i v).length Q.c _ _):: _);rw[cF];exact H
theorem take (S:a9 Q D G w0 w s L0) (y o:Int) {K:Int×Int×Unit->A0->Prop} (k: ∀a,a9 Q D G w0 a (s.1,dE s.2 y o) L0->K (fg s.2 y o,dN s.2 y o,()) a):
 aA A2 172 (.bA [.one (.int .i64),.one (.int .i64)]) [ah (ae Q.bp),aa y,aa o] w K:=by
 obtain⟨h1,b,c,d,ca,la,H⟩:=S;refine VO H 3 2 rfl rfl (by decide) rfl b c y o λa H=>k a ⟨h1,?_,?_,d,ca,la,?_⟩
 ·show 0<(dE s.2 y o).length;rw[vi];exact b
 ·show(dE s.2 y o).length<=4096;rw[vi];exact c
 ·unfold Sys.L;show aM D G w0 a (_:: _:: _::(Q.bp,[.slice _ (dE s.2 y o).length _]):: _);rw[vi];exact H
theorem Ul (S:a9 Q D G w0 w s L0) (f y o:Int) {K:Int->A0->Prop} (k: ∀a,a9 Q D G w0 a (s.1,dH s.2 f (aP y o)) L0->K (vB s.2 f (aP y o)) a):
 aA A2 138 (.el (.one (.int .i64))) [ah (ae Q.bp),aa f,aa y,aa o] w K:=by
 obtain⟨h1,b,c,d,ca,la,H⟩:=S;refine VL H 3 2 rfl rfl (by decide) rfl b c f y o λa H=>k a ⟨h1,?_,?_,d,ca,la,?_⟩
 ·show 0<(dH s.2 f (aP y o)).length;rw[jq];exact b
 ·show(dH s.2 f (aP y o)).length<=4096;rw[jq];exact c
 ·unfold Sys.L;show aM D G w0 a (_:: _:: _::(Q.bp,[.slice _ (dH s.2 f (aP y o)).length _]):: _);rw[jq];exact H
theorem cnt (S:a9 Q D G w0 w s L0) (v:Int):af A2 30 [ah (ae Q.bp),aa v] w (aa (cg s.2 v:Nat)):=by
 obtain⟨h1,b,a,c,ca,la,H⟩:=S;exact VP H 3 2 rfl rfl rfl a v
theorem aaO (S:a9 Q D G w0 w s L0):af A2 117 [ah (ae Q.bm)] w (aa (s.1.length:Nat)):=by
 obtain⟨h1,a,b,c,ca,la,H⟩:=S;exact af.of (s:= .el (.one (.int .i64))) λw' h'=>Jd ((H.get (i:=0) rfl).ext h')
theorem Y6 (S:a9 Q D G w0 w s L0):af A2 62 [ah (ae Q.bp)] w (aa (s.2.length:Nat)):=by
 obtain⟨h1,a,b,c,ca,la,H⟩:=S;exact abu H 3 rfl
end a9
end
set_option maxRecDepth 100000
open Go.RX D
def stE (gone:Bool):Int:=if gone=true then 6 else 0
def abw (r:Int) (gone:Bool):Int:=if gone=true then -1 else r
theorem Jl (pg f rt:Int) (w:A0):af A2 215 [aa pg,aa f,aa rt] w (aa (lA pg f rt)):=by
 refine af.of (s:= .el (.one (.int .i64))) λw' _=>ai (C:=N0) (aW:=λ_=>[]) (AJ (LV _ _ _ w' _) ?_);unfold lA;refine ab (λc=>λw1 h1=>⟨?_,h1⟩) (λc=>ab (λd=>λw1 h1=>⟨?_,h1⟩) (λd=>λw1 h1=>⟨?_,h1⟩))
 ·simp at c;rw[av (by omega)]
 ·simp at c d;rw[ao (by omega),av (by omega)]
 ·simp at c d;rw[ao (by omega),ao (by omega)]
theorem Jm (f:Int) (w:A0):af A2 241 [aa f] w (.agg ⟨[.bool true,aa 0,.bool false,aa f]⟩):=by
 refine af.of (s:= .el (.agg sEn)) (v:=cv f) λw' _=>aS (C:=N0) (aW:=λ_=>[]) (AJ (LW f w' _) ?_);have H:=At.start [] w';exact aN.go H λb a H=>aC.all 0 H rfl rfl rfl λc H=>au.go H λd H=>aj.at 0 H rfl rfl ⟨rfl,H.all⟩
theorem Jn {pg:Int} (a:0<=pg) (x:PT) (e:ET) (g:0<=e.2.2.2.1/\e.2.2.2.1<4096) (w:A0):af A2 194 [aa pg,.agg ⟨[aa x.1,aa x.2.1,aa x.2.2.1]⟩,.agg ⟨[.bool e.1,aa e.2.1,.bool e.2.2.1,aa e.2.2.2.1]⟩] w (aa (qO pg x e)):=by
 refine af.of (s:= .el (.one (.int .i64))) λw' _=>ai (C:=N0) (aW:=λ_=>[]) (AJ (LX pg x.1 x.2.1 x.2.2.1 e.1 e.2.1 e.2.2.1 e.2.2.2.1 w' _) ?_);have H:=At.start [] w';unfold qO;refine aN.go H λb h H=>aN.go H λi j H=>⟨rfl,aj.cw 1 H rfl rfl (ab (λc=>⟨rfl,aj.cw 0 H rfl rfl ⟨trivial,by decide,au.go H λd H=>⟨?_,H.all⟩⟩⟩) (λc=>⟨rfl,aj.cw 0 H rfl rfl (au.go H λd H=>⟨?_,H.all⟩)⟩))⟩
 ·have c:x.2.1=1:=by simpa using c
  rw[av c];have f:jY pg (gX 1)=pg % 16:=by
   have:gX 1=16:=rfl;rw[this];exact Int.tmod_eq_emod_of_nonneg a
  rw[f,ay (by omega) (by omega)]
 ·have c: ¬ x.2.1=1:=by simpa using c
  rw[ao c]
section
variable {Q:Sys} {D G:List Nat} {w0 w:A0} {s:WD} {L0:List (Nat×List AF)} {bt:Nat} {o r:Int} {gone:Bool}
namespace a9
theorem state (S:a9 Q D G w0 w s L0) (i:Nat) (a:L0[i]? =some (bt,p_ Q o r gone)):af A2 88 [ah (ae bt)] w (aa (stE gone)):=by
 have hb:=S.get a;refine af.of (s:= .el (.one (.int .i64))) λw' h'=>ai (C:=N0) (aW:=λ_=>[]) (AJ (LU _ w' _) ?_);have hb:=hb.ext h';refine⟨λ_=>rfl,λ_=>rfl,aj.of (ae Q.bm) (by rw[aY];exact hb.oF rfl) (an rfl ⟨rfl,rfl,aj.of gone (by rw[aY];exact hb.oF rfl) ?_⟩)⟩;cases gone with
 |true=>exact aB rfl λw1 h1=>⟨rfl,h1⟩
 |false=>exact an rfl λw1 h1=>⟨rfl,h1⟩
theorem root (S:a9 Q D G w0 w s L0) (i:Nat) (a:L0[i]? =some (bt,p_ Q o r gone)):af A2 56 [ah (ae bt)] w (aa (abw r gone)):=by
 refine af.of (s:= .el (.one (.int .i64))) λw' h'=>ai (C:=N0) (aW:=λ_=>[]) (AJ (RO _ w' _) ?_);have S:=S.ext h';refine⟨_,S.state i a,?_⟩;cases gone with
 |true=>exact aB rfl λw1 h1=>⟨rfl,h1⟩
 |false=>exact an rfl ⟨rfl,rfl,S.cz i a rfl λw1 h1=>⟨rfl,h1⟩⟩
theorem at_ (S:a9 Q D G w0 w s L0) (k:Nat) (d:L0[k]? =some (bt,p_ Q o r gone)) (i:Int) {K:ET->A0->Prop} (c: ∀a,a9 Q D G w0 a s L0->K (aK s.1 i) a):
 aA A2 235 (.el (.agg sEn)) [ah (ae bt),aa i] w K:=by
 refine S.go λw1 S=>aS (C:=N0) (aW:=λ_=>[]) (AJ (PD _ i w1 K) ?_);refine S.al λb a S=>⟨rfl,rfl,S.cz (k+1) d rfl (S.load i λf S=>⟨?_,S.al λg j S=>S.fh 0 rfl rfl rfl λl S=>S.ld 0 rfl rfl (S.fh 1 rfl rfl rfl λm S=>S.en λe S=>S.ld 1 rfl rfl (c e S.tail.tail))⟩)⟩;have h:=Gp S.okw i;exact Ca h.1 h.2
theorem lay (S:a9 Q D G w0 w s L0) (k:Nat) (d:L0[k]? =some (bt,p_ Q o r gone)) (i:Int) (e:ET) {K:Unit->A0->Prop} (c: ∀a,a9 Q D G w0 a (dR s i e) L0->K () a):
 aA A2 222 (.bA []) [ah (ae bt),aa i,.agg ⟨[.bool e.1,aa e.2.1,.bool e.2.2.1,aa e.2.2.2.1]⟩] w K:=by
 refine S.go λw1 S=>ai (C:=N0) (aW:=λ_=>[]) (AJ (VD _ i e.1 e.2.1 e.2.2.1 e.2.2.2.1 w1 K) ?_);exact S.al λb a S=>S.ld 0 rfl rfl ⟨trivial,rfl,rfl,S.cz (k+1) d rfl (S.store i _ (PE _ _ _ _) λg S=>S.en λf S=>c f S.tail)⟩
end a9
theorem Gt {ds:List DT} {y o:Int} (h: ¬ dN ds y o=0):fg ds y o=0:=by
 unfold dN at h;unfold fg;cases a:iR ds with
 |none=>rfl
 |some n=>
  have b: ¬ ds.length=0:=λe=>by
   have:ds=[]:=FW.1 e;subst this;cases a
  rw[ao b,a] at h;exact ao h
theorem vj (ds:List DT) (y o:Int) (h0:0<ds.length):0<=fg ds y o/\fg ds y o<ds.length:=by
 unfold fg;cases a:iR ds with
 |none=>exact⟨Dh 0,by show(0:Int)< _;omega⟩
 |some n=>
  unfold iR at a;rw[FX] at a;have h1:=a.1;dsimp only;split<;>omega
end
set_option maxRecDepth 100000
open Go.RX D
section
variable {Q:Sys} {D G:List Nat} {w0 w:A0} {s:WD} {L0:List (Nat×List AF)} {bt:Nat} {o r:Int} {gone:Bool}
namespace a9
theorem abx (S:a9 Q D G w0 w s L0) (i:Nat) (b:L0[i]? =some (bt,p_ Q o r gone)) {K:Int×Int×Unit->A0->Prop} (k: ∀d,a9 Q D G w0 d (jc s o (λ_=>0)) L0->K (eK s o,rH s o,()) d):
 aA A2 205 (.bA [.one (.int .i64),.one (.int .i64)]) [ah (ae bt),.func (.func 206) #[] #[]] w K:=by
 refine S.go λw1 S=>ai (C:=N0) (aW:=rn) (AJ (LY _ w1 K) ?_);have A:=vj s.2 3 o S.F2;have B:=S.le;refine⟨rfl,rfl,S.cz i b rfl ⟨rfl,rfl,S.cz i b rfl (S.take 3 o λd S=>?_)⟩⟩;by_cases a:rH s o=0
 ·have f:jc s o (λ_=>0)=(e8 s.1 (eK s o) (λ_=>0) 16,dE s.2 3 o):=by unfold jc;rw[av a]
  rw[f,a] at k;have g:dN s.2 3 o=0:=a;refine an (by simp[g]) ⟨λn v w'=> ∃m:Nat,n=16 - m/\m<=16/\v.1=(m:Int)/\a9 Q D G w0 w' (e8 s.1 (eK s o) (λ_=>0) m,dE s.2 3 o) L0,⟨16,λj h=>⟨0,rfl,by omega,rfl,S.ext h⟩⟩,?_⟩;rintro n ⟨v,u⟩ j ⟨m,rfl,E,e,S⟩;dsimp only at e ⊢;subst e;refine ab (λc=>⟨rfl,rfl,S.cz i b rfl ?_⟩) (λc=>S.en λl S=>k l ?_)
  ·have c:m<16:=by simp at c;omega
   refine λl p=>ai (C:=N0) (aW:=λ_=>[]) (AJ (RR _ l _) λF q=>?_);have S:=(S.ext p).ext q;have t:(0:Int)<=0/\(0:Int)<18446744073709551616:=by decide
   refine⟨trivial,trivial,by rw[aY];exact(S.get b).oF rfl,trivial,trivial,?_⟩;have x:aH .i64 (fX .i64 16 (fg s.2 3 o)) (m:Int)=16*eK s o+(m:Int):=by
    have:eK s o=fg s.2 3 o:=rfl;rw[eJ (by omega) (by omega),ay (by omega) (by omega),this]
   rw[x];refine S.store _ _ t λH S=>λI y=>⟨16 - (m+1),by omega,m+1,rfl,by omega,?_,S.ext y⟩;rw[ay (by omega) (by omega)];omega
  ·have c: ¬ m<16:=by simp at c;omega
   have:m=16:=by omega
   subst this;exact S
 ·have f:jc s o (λ_=>0)=(s.1,dE s.2 3 o):=by unfold jc;rw[ao a]
  have z:eK s o=0:=Gt a;rw[f,z] at k;have g: ¬ dN s.2 3 o=0:=a;exact aB (by simp[g]) (S.en λj S=>k j S)
theorem aby (S:a9 Q D G w0 w s L0) (i:Nat) (b:L0[i]? =some (bt,p_ Q o r gone)) {K:Int×Int×Unit->A0->Prop} (k: ∀d,a9 Q D G w0 d (jc s o (λ_=>0)) L0->K (eK s o,rH s o,()) d):
 aA A2 205 (.bA [.one (.int .i64),.one (.int .i64)]) [ah (ae bt),.func (.func 240) #[] #[]] w K:=by
 refine S.go λw1 S=>ai (C:=N0) (aW:=rq) (AJ (LZ _ w1 K) ?_);have A:=vj s.2 3 o S.F2;have B:=S.le;refine⟨rfl,rfl,S.cz i b rfl ⟨rfl,rfl,S.cz i b rfl (S.take 3 o λd S=>?_)⟩⟩;by_cases a:rH s o=0
 ·have f:jc s o (λ_=>0)=(e8 s.1 (eK s o) (λ_=>0) 16,dE s.2 3 o):=by unfold jc;rw[av a]
  rw[f,a] at k;have g:dN s.2 3 o=0:=a;refine an (by simp[g]) ⟨λn v w'=> ∃m:Nat,n=16 - m/\m<=16/\v.1=(m:Int)/\a9 Q D G w0 w' (e8 s.1 (eK s o) (λ_=>0) m,dE s.2 3 o) L0,⟨16,λj h=>⟨0,rfl,by omega,rfl,S.ext h⟩⟩,?_⟩;rintro n ⟨v,u⟩ j ⟨m,rfl,E,e,S⟩;dsimp only at e ⊢;subst e;refine ab (λc=>⟨rfl,rfl,S.cz i b rfl ?_⟩) (λc=>S.en λl S=>k l ?_)
  ·have c:m<16:=by simp at c;omega
   refine λl p=>ai (C:=N0) (aW:=λ_=>[]) (AJ (RU _ l _) λF q=>?_);have S:=(S.ext p).ext q;have t:(0:Int)<=0/\(0:Int)<18446744073709551616:=by decide
   refine⟨trivial,trivial,by rw[aY];exact(S.get b).oF rfl,trivial,trivial,?_⟩;have x:aH .i64 (fX .i64 16 (fg s.2 3 o)) (m:Int)=16*eK s o+(m:Int):=by
    have:eK s o=fg s.2 3 o:=rfl;rw[eJ (by omega) (by omega),ay (by omega) (by omega),this]
   rw[x];refine S.store _ _ t λH S=>λI y=>⟨16 - (m+1),by omega,m+1,rfl,by omega,?_,S.ext y⟩;rw[ay (by omega) (by omega)];omega
  ·have c: ¬ m<16:=by simp at c;omega
   have:m=16:=by omega
   subst this;exact S
 ·have f:jc s o (λ_=>0)=(s.1,dE s.2 3 o):=by unfold jc;rw[ao a]
  have z:eK s o=0:=Gt a;rw[f,z] at k;have g: ¬ dN s.2 3 o=0:=a;exact aB (by simp[g]) (S.en λj S=>k j S)
theorem abz (S:a9 Q D G w0 w s L0) (i:Nat) (b:L0[i]? =some (bt,p_ Q o r gone)) (j:Nat) {be:Nat} {e:ET} (hb:L0[j]? =some (be,[.bool e.1,aa e.2.1,.bool e.2.2.1,aa e.2.2.2.1])) (B:0<=e.2.2.2.1/\e.2.2.2.1<4096) {K:Int×Int×Unit->A0->Prop} (k: ∀d,a9 Q D G w0 d (jc s o (oH e)) L0->K (eK s o,rH s o,()) d):
 aA A2 205 (.bA [.one (.int .i64),.one (.int .i64)]) [ah (ae bt),.func (.func 242) #[] #[ah (ae be)]] w K:=by
 refine S.go λw1 S=>ai (C:=N0) (aW:=ru) (AJ (L3 _ _ w1 K) ?_);have E:=vj s.2 3 o S.F2;have F:=S.le;refine⟨rfl,rfl,S.cz i b rfl ⟨rfl,rfl,S.cz i b rfl (S.take 3 o λd S=>?_)⟩⟩;by_cases a:rH s o=0
 ·have f:jc s o (oH e)=(e8 s.1 (eK s o) (oH e) 16,dE s.2 3 o):=by unfold jc;rw[av a]
  rw[f,a] at k;have g:dN s.2 3 o=0:=a;refine an (by simp[g]) ⟨λn v w'=> ∃m:Nat,n=16 - m/\m<=16/\v.1=(m:Int)/\a9 Q D G w0 w' (e8 s.1 (eK s o) (oH e) m,dE s.2 3 o) L0,⟨16,λl h=>⟨0,rfl,by omega,rfl,S.ext h⟩⟩,?_⟩;rintro n ⟨v,u⟩ l ⟨m,rfl,H,ev,S⟩;dsimp only at ev ⊢;subst ev;refine ab (λc=>⟨rfl,rfl,S.cz i b rfl ?_⟩) (λc=>S.en λp S=>k p ?_)
  ·have c:m<16:=by simp at c;omega
   refine λp q=>ai (C:=N0) (aW:=λ_=>[]) (AJ (Hx _ _ p _) ?_);have S:=S.ext q;refine⟨rfl,S.cz j hb rfl ⟨rfl,S.cz j hb rfl ⟨trivial,S.en λI S=>?_⟩⟩⟩;have t:FE true e.2.1 false (aH .i64 e.2.2.2.1 (m:Int))=oH e (m:Int):=by
    rw[ay (by omega) (by omega)];rfl
   rw[t];have x:0<=oH e (m:Int)/\oH e (m:Int)<18446744073709551616:=PE _ _ _ _;refine⟨trivial,trivial,by rw[aY];exact(S.get b).oF rfl,trivial,trivial,?_⟩;have y:aH .i64 (fX .i64 16 (fg s.2 3 o)) (m:Int)=16*eK s o+(m:Int):=by
    have:eK s o=fg s.2 3 o:=rfl;rw[eJ (by omega) (by omega),ay (by omega) (by omega),this]
   rw[y];refine S.store _ _ x λJ S=>λL z=>⟨16 - (m+1),by omega,m+1,rfl,by omega,?_,S.ext z⟩;rw[ay (by omega) (by omega)];omega
  ·have c: ¬ m<16:=by simp at c;omega
   have:m=16:=by omega
   subst this;exact S
 ·have f:jc s o (oH e)=(s.1,dE s.2 3 o):=by unfold jc;rw[ao a]
  have A:eK s o=0:=Gt a;rw[f,A] at k;have g: ¬ dN s.2 3 o=0:=a;exact aB (by simp[g]) (S.en λl S=>k l S)
end a9
end
set_option maxRecDepth 100000
open Go.RX D
section
variable {D G:List Nat} {w0 w:A0} {L:List (Nat×List AF)}
def Yj (e:El) (b:Nat) (xs:List e.T) (a:List (Nat×List AF)):Prop:=
 (xs=[]/\a=[(b,[.slice none 0 0])])\/ ∃bs c rest,a=[(b,[.slice (ae bs) xs.length c]),(bs,flat e xs++rest)]/\(flat e xs++rest).length=c*aD e/\xs.length<=c
theorem Yj.head {e:El} {b:Nat} {xs:List e.T} {a:List (Nat×List AF)} (h:Yj e b xs a): ∃s:Option AC×Nat×Nat,a[0]? =some (b,[.slice s.1 s.2.1 s.2.2]):=by
 rcases h with ⟨_,rfl⟩|⟨bs,c,rest,rfl, _⟩
 ·exact⟨(none,0,0),rfl⟩
 ·exact⟨(_, _, _),rfl⟩
theorem Yj.push {e:El} {b d:Nat} {xs:List e.T} {x:e.T} {f Z:List (Nat×List AF)} {s:Option AC×Nat×Nat} (hg:Yj e b xs f) (hs:f[0]? =some (b,[.slice s.1 s.2.1 s.2.2])) (H:aM D G w0 w ((d,cellsOf e x)::(f++Z)))
 (i:im e=true) {t:TypeId} {size bytes:Nat} {z:Array AF} (j:size=aD e) (l:z.size=aD e) (hb:(xs.length+1)*bytes<=140737488355328) {K:A0->Prop}
 (k: ∀m w',Yj e b (xs++[x]) m->aM D G w0 w' (m++Z)->K w'):
 mJ w t size bytes z (s.1,s.2.1,s.2.2) (some ⟨d,0,none⟩,1,1) λr a=>aC a (ae b) [.slice r.1 r.2.1 r.2.2] K:=by
 obtain⟨p,n,c⟩:=s;rcases hg with ⟨rfl,rfl⟩|⟨bs,v,rest,rfl,h1,q⟩
 ·cases hs;refine aM.grow (Ls:=[]) (L0:=(b,[.slice none 0 0])::Z) (xs:=[]) H (.inl ⟨rfl,rfl,rfl⟩) i j l hb λbs c rest w' g1 g H=>?_;refine aC.all 1 H rfl rfl rfl λa H=>k [(b,[.slice (ae bs) 1 c]),(bs,flat e [x]++rest)] a (.inr ⟨bs,c,rest,rfl,g1,g⟩) ?_;exact H.perm (FS _ _ _)
 ·cases hs;have u:aM D G w0 w ((d,cellsOf e x)::([(bs,flat e xs++rest)]++((b,[.slice (ae bs) xs.length c])::Z))):=H.perm (FV _ (FS _ _ _));refine aM.grow u (.inr ⟨bs,c,rest,rfl,rfl,h1,q⟩) i j l hb λh c2 o w' g1 g H=>?_;refine aC.all 1 H rfl rfl rfl λa H=>k [(b,[.slice (ae h) (xs.length+1) c2]),(h,flat e (xs++[x])++o)] a (.inr ⟨h,c2,o,?_,g1,by simpa using g⟩) ?_
  ·rw[Ds];rfl
  ·exact H.perm (FS _ _ _)
theorem xY.new {l:Nat} {rec:Loop} {w':A0} {b:Nat} {cs:List AF} (h:xY D G w0 w L l rec) (H:At [] w w' [(b,cs)]):xY D G w0 w' ((b,cs)::L) l rec/\Ob l w w':=by
 have a:Ext w w':=H.all;have hb:w.heap.size<=b:=by
  rcases H.own (b,cs) Dw with h|h
  ·exact h
  ·cases h
 exact⟨⟨h.1,h.2.1.more a hb (H.dj (b,cs) Dw),h.2.2.ext a⟩,Ob.u6 a⟩
theorem L9 {bm bw n c:Nat} {ca la:Int} {ws:List Int} {rest:List AF} (H:aM D G w0 w L) (j:Nat) (b:L[j]? =some (bm,mv bw n c ca la)) (f:bO w0 bw (flat eW ws++rest)) (g:bw∉G) (h:n=ws.length) (h0:0<n) (i:Int) {K:Int×Int×Unit->A0->Prop}
 (k: ∀a,aM D G w0 a (L.set j (bm,mv bw n c (xr ws i ca) la))->K (cL ws i,B6 ws i,()) a):
 aA A2 37 (.bA [.one (.int .u64),.one (.int .i64)]) [ah (ae bm),aa i] w K:=by
 refine aA.go H λw1 H=>ai (C:=M0) (aW:=λ_=>[]) (AJ (Ec _ i w1 K) ?_);refine y8 H j b h h0 i (λhi a H=>?_) (λhi a H=>?_)
 ·unfold xr cL B6 at k;rw[hi,av rfl,av rfl,av rfl] at k;have l:=jo.1 hi;refine an rfl ⟨rfl,?_⟩;rw[aY];have e:=aaJ (ws:=ws) (rest:=rest) (i:=i.toNat) (by omega);rw[DE] at e;exact aj.fN H f g e (au.go H λd H=>k d H)
 ·unfold xr cL B6 at k;rw[hi,ao (by decide),ao (by decide),ao (by decide)] at k;refine aB rfl (au.go H λd H=>k d ?_);rw[show L.set j (bm,mv bw n c ca la)=L from FY λm=>by
   by_cases e:j=m
   ·subst e;rw[Dx (BW.1 b).1,b]
   ·rw[Bx e]]
  exact H
structure TbR (Q:Sys) (ws:List Int) (w:A0) (bt:Nat) (o r:Int) (gone:Bool):Prop where
 tb:bO w bt (p_ Q o r gone)
 wd:bO w Q.bw (flat eW ws++Q.rw)
 tne:bt≠Q.bm
 wne:Q.bw≠Q.bm
 okw:okW ws
 pos:0<ws.length
abbrev Mc (Q:Sys) (n:Nat) (l:List AF):Prop:= ∃ca la,l=mv Q.bw n Q.c ca la
theorem PF {Q:Sys} {ws:List Int} {bt:Nat} {o r:Int} {gone:Bool} {D:List Nat} {L:List (Nat×List AF)} {ca la:Int} (R:TbR Q ws w0 bt o r gone) (H:aM D [Q.bm] w0 w L) (j:Nat) (d:L[j]? =some (Q.bm,mv Q.bw ws.length Q.c ca la)) (i:Int) {K:ET->A0->Prop}
 (k: ∀ca a,aM D [Q.bm] w0 a (L.set j (Q.bm,mv Q.bw ws.length Q.c ca la))->K (aK ws i) a):
 aA A2 235 (.el (.agg sEn)) [ah (ae bt),aa i] w K:=by
 have t1:bt∉[Q.bm]:=by simpa using R.tne
 have t2:Q.bw∉[Q.bm]:=by simpa using R.wne
 refine aA.go H λw1 H=>aS (C:=N0) (aW:=λ_=>[]) (AJ (PD _ i w1 K) ?_);refine aN.go H λb a H=>⟨rfl,rfl,aj.lz H R.tb t1 rfl (L9 H (j+1) d R.wd t2 rfl R.pos i λf H=>⟨?_,aN.go H λg l H=>aC.all 0 H rfl rfl rfl λm H=>aj.at 0 H rfl rfl (aC.all 1 H rfl rfl rfl λn H=>au.go H λe H=>aj.at 1 H rfl rfl (k (xr ws i ca) e (H.sub ?_)))⟩)⟩
 ·have h:=Gp R.okw i;exact Ca h.1 h.2
 ·exact(Ct _ _).trans (Ct _ _)
end
abbrev emP (x:PT×Unit):List AF:=[.agg ⟨[aa x.1.1,aa x.1.2.1,aa x.1.2.2.1]⟩]
abbrev Yk (x:PT):PT×Unit:=(x,())
def OA (ws:List Int) (pg:Int):Nat->Int->List PT
 |0, _=>[]
 |l+1,f=>if dI (aK ws (ee f pg ((l+1:Nat):Int)))=true then dm ws pg l (aK ws (ee f pg ((l+1:Nat):Int))).2.2.2.1 else[]
theorem L_ (ws:List Int) (pg:Int): ∀(l:Nat) (f:Int),dm ws pg l f=(f,(l:Int),ee f pg (l:Int),())::OA ws pg l f
 |0, _=>rfl
 | _+1, _=>rfl
theorem R2 {ws:List Int} {pg:Int} {l:Nat} {f:Int} (h:dI (aK ws (ee f pg (l:Int)))=false):OA ws pg l f=[]:=by
 cases l with
 |zero=>rfl
 |succ l=>rw[OA,h,ao (by decide)]
theorem Z6 {Q:Sys} {ws:List Int} {bt b c:Nat} {o r pg:Int} {gone:Bool} {N:Nat} (E:okW ws) (F:0<ws.length):
 ItJ A2 244 (λy=>[.func (.yield y) #[] #[],ah (ae b),ah (ae c)]) emP N Q.bm (Mc Q ws.length)
  [(bt,p_ Q o r gone),(Q.bw,flat eW ws++Q.rw),(b,[ah (ae bt)]),(c,[aa pg])] ((dm ws pg 3 r).map Yk):=by
 intro y J K G a X O w t g j;refine Calls.mono (ai (C:=N0) (aW:=ur) (Post:=λ_ w'=>J (a++(dm ws pg 3 r).map Yk) X O w') (AJ (RP y _ _ w _) ?_)) ?_
 rotate_left
 ·rintro e w' ⟨x,rfl,h⟩;exact⟨_,rfl,h⟩
 have k:=g (bt,p_ Q o r gone) (by simp);have z:=g (Q.bw,flat eW ws++Q.rw) (by simp);have A:=g (b,[ah (ae bt)]) (by simp);have I:=g (c,[aa pg]) (by simp);refine aj.of (ae bt) ((K.dj j A).2.oF rfl) ⟨rfl,rfl,aj.of r (by rw[aY];exact(K.dj j k).2.oF rfl) ⟨λn v w'=>(∃l:Nat,v.2.1=(l:Int)/\n=l+1/\l<=3/\ ∃pre,dm ws pg 3 r=pre++dm ws pg l v.1/\J (a++pre.map Yk) X O w')\/(v.2.1= -1/\J (a++(dm ws pg 3 r).map Yk) X O w'),
  ⟨4,λw1 h1=> .inl ⟨3,rfl,rfl,B4 _,[],rfl,by simpa using K.ext j h1⟩⟩,?_⟩⟩
 rintro n ⟨f,lv,u⟩ w1 (⟨l,d,rfl,hl,pre,hx,j⟩|⟨d,j⟩)
 ·dsimp only at d hx ⊢;subst d;refine aB (by simp) (aj.of pg ((K.dj j I).2.oF rfl) ⟨trivial,?_⟩);obtain⟨lm,⟨ca,la,rfl⟩,H⟩:=K.at0 j;have R:TbR Q ws w1 bt o r gone:=⟨(K.dj j k).2,(K.dj j z).2,(K.dj j k).1,(K.dj j z).1,E,F⟩;have hb:=K.dj j A;have L:b∉[Q.bm]:=by simpa using hb.1
  refine aN.go H λM P H=>aC.all 0 H rfl rfl rfl λw3 H=>aj.fN H hb.2 L rfl ⟨rfl,aj.cw 0 H rfl rfl (PF R H 1 rfl _ λca2 w4 H=>aN.go H λB w5 H=>aC.all 0 H rfl rfl rfl λw6 H=>aj.at 1 H rfl rfl λS T=>?_)⟩;have H:=H.ext T;rw[L_ ws pg l f] at hx;have U:(a++pre.map Yk).length<N:=by
   rw[hx] at t;simp only[List.map_append,Ds,DV,B3] at t ⊢;omega
  have V:=K.tq (Y:=[(B, _),(M, _)]) j H ⟨_, _,rfl⟩;refine G _ (Yk (f,(l:Int),ee f pg (l:Int),())) _ _ S _ U V λw8 m=>?_;have D:=(K.dj m (x:=(B, _)) (Dw)).2;refine aj.of (aK ws (ee f pg (l:Int))) (dV D rfl) ⟨λ_=>trivial,ab (λp W q=>?_) (λp=>⟨rfl,aj.of (aK ws (ee f pg (l:Int))).2.2.2.1 (by rw[aY];exact D.oF rfl) λW q=>?_⟩)⟩
  ·have s:dI (aK ws (ee f pg (l:Int)))=false:=by simpa[dI] using p
   have i:=K.sub (K.ext m q) (X':=X) (λx h=>by simp[h]) (Cj _);rw[R2 s] at hx;rw[hx];simpa using i
  ·have s:dI (aK ws (ee f pg (l:Int)))=true:=by simpa[dI] using p
   have i:=K.sub (K.ext m q) (X':=X) (λx h=>by simp[h]) (Cj _);rcases l with _|l
   ·refine⟨0,by omega,.inr ⟨rfl,?_⟩⟩;rw[hx];simpa[OA] using i
   ·refine⟨l+1,by omega,.inl ⟨l,?_,rfl,by omega,pre++[(f,((l+1:Nat):Int),ee f pg ((l+1:Nat):Int),())],?_,by simpa using i⟩⟩
    ·show a6 .i64 ((l+1:Nat):Int) 1=(l:Int);rw[bF (by omega) (by omega)];omega
    ·rw[hx,OA,av s,Fk];rfl
 ·dsimp only at d ⊢;subst d;exact an rfl λP Z=>K.ext j Z
section
variable {Q:Sys} {D G:List Nat} {w0 w:A0} {s:WD} {L0:List (Nat×List AF)} {bt:Nat} {o r:Int} {gone:Bool}
namespace a9
theorem way (S:a9 Q D G w0 w s L0) (pg:Int) {K:Option AC×Option AC×Unit->A0->Prop} (k: ∀b c a,a9 Q D G w0 a s ((c,[aa pg])::(b,[ah (ae bt)])::L0)->K (some ⟨b,0,none⟩,some ⟨c,0,none⟩,()) a):
 aA A2 219 aaN [ah (ae bt),aa pg] w K:=by
 refine S.go λw1 S=>ai (C:=N0) (aW:=λ_=>[]) (AJ (VE _ pg w1 K) ?_);exact S.al λb a S=>S.al λc e S=>S.en λd S=>k b c d S
theorem Ot (S:a9 Q D G w0 w s L0) (k0:Nat) (m:L0[k0]? =some (bt,p_ Q o r gone)) {b c:Nat} {pg:Int} (hb:(b,[HB (ae bt)])∈L0) (hc:(c,[aa pg])∈L0)
 {K:Option AC×Nat×Nat->A0->Prop} (k: ∀bs cs rest e,a9 Q D G w0 e s ((bs,flat (.agg T2) (dm s.1 pg 3 r)++rest)::L0)->K (some ⟨bs,0,none⟩,(dm s.1 pg 3 r).length,cs) e):
 aA A2 218 (.el (.one .slice)) [.func (.func 244) #[] #[ah (ae b),ah (ae c)]] w K:=by
 refine S.go λw1 S=>aS (C:=N0) (aW:=uu) (AJ (RQ _ _ w1 K) ?_);obtain⟨h1,n,p,i,ca,la,H0⟩:=S;have H:=H0.again;refine aN.go H λbl e H=>?_;have q:(dm s.1 pg 3 r).length<=4:=tJ s.1 pg 3 r;refine z7.Ot (N:=4) (bm:=Q.bm) (mc:=Mc Q s.1.length) (Rg0:=[(bl,[.slice none 0 0])]) (Lb:=(Q.bw,flat eW s.1++Q.rw)::(Q.bf,flat eD s.2++Q.rf)::(Q.bp,[.slice (ae Q.bf) s.2.length Q.cp])::L0) H ⟨_, _,rfl⟩
  (Z6 (o:=o) (r:=r) (gone:=gone) (bt:=bt) (pg:=pg) i h1) ?_ (by simpa using q) (λxs a=>Yj (.agg T2) bl (xs.map (·.1)) a) (.inl ⟨rfl,rfl⟩) ?_ ?_
 ·intro x hx;simp only[F6,List.not_mem_nil,or_false] at hx;rcases hx with rfl|rfl|rfl|rfl
  ·simp[DA m]
  ·simp
  ·simp[hb]
  ·simp[hc]
 ·intro b0 x a Z rr l rec t R hN hg d u;refine Dl.go d rfl ?_;refine aN.go (At.start [] t) λv y f=>aC.all 0 f rfl rfl rfl λz f=>?_;obtain⟨A,B⟩:=xY.new d f;obtain⟨sl,g⟩:=hg.head;refine BZ.goO A λwb H E F=>aj.at 1 H (by rw[List.getElem?_cons_succ,E4 (BW.1 g).1];exact g) rfl (aj.at 0 H rfl rfl (aN.go H λI j H=>λJ L=>?_));have H:=H.ext L;have M:aM [] _ wb J ((I,cellsOf (.agg T2) x.1)::(a++((v,[aa x.1.1,aa x.1.2.1,aa x.1.2.2.1])::Z))):=H.perm (FV _ DL);refine hg.push g M rfl rfl rfl (by simp only[DV];omega) λO w8 P T=>sT.lD E (T.sub (List.Sublist.append (Cj _) (Ct _ _))) λU V W=>u O U (by simpa using P) V ((B.trans F).trans W)
 ·rintro rr rec y l' a ⟨X,Y,rfl⟩ hg d;refine dz.none d λz H=>?_;have WY:((dm s.1 pg 3 r).map Yk).map (·.1)=dm s.1 pg 3 r:=by
   rw[List.map_map];exact List.map_id _
  rw[WY] at hg;rcases hg with ⟨h, _⟩|⟨bs,cs,rest,rfl,g1,g2⟩
  ·exact absurd h (xH _ _ _ _)
  ·refine aj.at 0 H rfl rfl (sU.go H λj H=>k bs cs rest j ⟨h1,n,p,i,X,Y,H0.join (λx hx=>hx) ?_⟩);refine(H.sub (Ct _ _)).perm ?_;exact DL (l₁:=[_, _, _, _])
end a9
end
set_option maxRecDepth 100000
open Go.RX D
theorem CJ (ws:List Int) (r pg:Int):(dm ws pg 3 r)[(dm ws pg 3 r).length - 1]? =some (dJ ws r pg):=by
 have a:=xH ws pg 3 r;unfold dJ;rw[List.getLastD_eq_getLast?, <-List.getLast?_eq_getElem?,List.getLast?_eq_some_getLast a];rfl
theorem pM (ws:List Int) (a:Int):0<=(aK ws a).2.2.2.1/\(aK ws a).2.2.2.1<4096:=Jk _
section
variable {Q:Sys} {D G:List Nat} {w0 w:A0} {s:WD} {L0:List (Nat×List AF)} {bt:Nat} {o r:Int} {gone:Bool}
namespace a9
theorem end_ (S:a9 Q D G w0 w s L0) (k0:Nat) (c:L0[k0]? =some (bt,p_ Q o r gone)) (pg:Int) {K:PT×ET×Unit->A0->Prop} (k: ∀a,a9 Q D G w0 a s L0->K (dJ s.1 r pg,cW s.1 r pg,()) a):
 aA A2 193 (.bA [.agg T2,.agg sEn]) [ah (ae bt),aa pg] w K:=by
 refine S.go λw1 S=>aS (C:=N0) (aW:=λ_=>[]) (AJ (VF _ pg w1 K) ?_);refine S.al λb a S=>S.al λg h S=>S.way pg λj bc l S=>S.Ot (pg:=pg) (k0+4) c (by simp) (by simp) λbs cs rest m S=>?_;have n:(dm s.1 pg 3 r).length<=4:=tJ s.1 pg 3 r;have p:0<(dm s.1 pg 3 r).length:=Ft.2 (xH s.1 pg 3 r);have d:a6 .i64 (((dm s.1 pg 3 r).length:Nat):Int) 1=(((dm s.1 pg 3 r).length - 1:Nat):Int):=by rw[bF (by omega) (by omega)];omega
 have e:=fV (S.get (i:=0) rfl) (CJ s.1 r pg);dsimp only;rw[d];refine⟨⟨rfl,by omega,by omega⟩,aj.of (dJ s.1 r pg) e ?_⟩;refine S.al λq t S=>S.fh 0 rfl rfl rfl λu S=>S.ld 0 rfl rfl ⟨rfl,S.cz 0 rfl rfl (S.at_ (k0+6) c _ λv S=>⟨dV (S.get (i:=0) rfl) rfl,S.fh 5 rfl rfl rfl λx S=>S.fh 4 rfl rfl rfl λy S=>S.en λf S=>S.ld 5 rfl rfl (S.ld 4 rfl rfl (k f S.tail.tail.tail.tail.tail.tail))⟩)⟩
theorem query (S:a9 Q D G w0 w s L0) (k0:Nat) (e:L0[k0]? =some (bt,p_ Q o r gone)) (pg:Int) {K:Int×Int×Int×Unit->A0->Prop} (k: ∀a,a9 Q D G w0 a s L0->K (bz s r gone pg) a):
 aA A2 139 (.bA [.one (.int .i64),.one (.int .i64),.one (.int .i64)]) [ah (ae bt),aa pg] w K:=by
 refine S.go λw1 S=>ai (C:=N0) (aW:=λ_=>[]) (AJ (L4 _ pg w1 K) ?_);refine⟨_,S.state k0 e,?_⟩;unfold bz at k;cases gone with
 |true=>
  rw[av rfl] at k;exact aB rfl (S.en λa S=>k a S)
 |false=>
  rw[ao (by decide)] at k;refine an rfl (ab (λc=>S.en λa S=>?_) (λc=>?_))
  ·simp only[E5,decide_eq_true_eq] at c;rw[av c] at k;exact k a S
  ·simp only[FJ,decide_eq_false_iff_not] at c;rw[ao (by omega)] at k;refine S.end_ k0 e pg λa S=>S.al λb f S=>S.al λg h S=>S.fh 1 rfl rfl rfl λi S=>S.fh 0 rfl rfl rfl λj S=>⟨rfl,S.cz 0 rfl rfl (ab (λc2=>S.en λd S=>?_) (λc2=>S.ld 1 rfl rfl (S.ld 0 rfl rfl ⟨_,Jn (by omega) (dJ s.1 r pg) (cW s.1 r pg) (pM _ _) _,rfl,S.cz 0 rfl rfl (S.en λd S=>?_)⟩)))⟩
   ·have c2:(cW s.1 r pg).1=false:=by simpa using c2
    rw[c2,ao (by decide)] at k;exact k d S.tail.tail
   ·have c2:(cW s.1 r pg).1=true:=by simpa using c2
    rw[c2,av rfl] at k;exact k d S.tail.tail
theorem split (S:a9 Q D G w0 w s L0) (k0:Nat) (a:L0[k0]? =some (bt,p_ Q o r gone)) (pg:Int) {K:Int->A0->Prop} (k: ∀d,a9 Q D G w0 d (fZ s o r pg) L0->K (mz s o r pg) d):
 aA A2 217 (.el (.one (.int .i64))) [ah (ae bt),aa pg] w K:=by
 refine S.go λw1 S=>ai (C:=N0) (aW:=λ_=>[]) (AJ (L5 _ pg w1 K) ?_);unfold fZ mz at k;refine S.end_ k0 a pg λd S=>S.al λb j S=>S.al λh l S=>S.fh 1 rfl rfl rfl λm S=>S.fh 0 rfl rfl rfl λn S=>⟨rfl,S.cz 1 rfl rfl (ab (λc=>S.en λf S=>?_) (λc=>?_))⟩
 ·have c:(dJ s.1 r pg).2.1=0:=by simpa using c
  rw[av c,av c] at k;exact k f S.tail.tail
 ·have c: ¬ (dJ s.1 r pg).2.1=0:=by simpa using c
  rw[ao c,ao c] at k;refine S.abz (k0+2) a 0 (be:=h) (e:=cW s.1 r pg) rfl (pM _ _) λf S=>ab (λc2=>⟨rfl,S.cz 1 rfl rfl ⟨cv (eK s o),Jm _ _,S.lay (k0+2) a _ (cv (eK s o)) λg S=>S.en λi S=>?_⟩⟩) (λc2=>S.en λg S=>?_)
  ·have c2:rH s o=0:=by simpa using c2
   rw[av c2] at k;exact k i S.tail.tail
  ·have c2: ¬ rH s o=0:=by simpa using c2
   rw[ao c2] at k;exact k g S.tail.tail
end a9
end
set_option maxRecDepth 100000
open Go.RX D
theorem Jo (ws:List Int) (pg:Int): ∀(l:Nat) (f:Int) (x:PT),x∈dm ws pg l f->0<=x.2.1/\x.2.1<=(l:Int)
 |0,f,x,h=>by
  rw[dm,Fy] at h;subst h;exact⟨Dh _,Dh _⟩
 |l+1,f,x,h=>by
  rw[dm] at h;rcases F6.1 h with rfl|h
  ·exact⟨by show(0:Int)<=((l+1:Nat):Int);omega,Dh _⟩
  ·split at h
   ·have:=Jo ws pg l _ x h;omega
   ·cases h
theorem VQ (ws:List Int) (r pg:Int):0<=(dJ ws r pg).2.1/\(dJ ws r pg).2.1<=3:=by
 have:=Jo ws pg 3 r _ (DA (CJ ws r pg));omega
section
variable {Q:Sys} {D G:List Nat} {w0 w:A0} {s:WD} {L0:List (Nat×List AF)} {bt:Nat} {o r:Int} {gone:Bool}
namespace a9
theorem put (S:a9 Q D G w0 w s L0) (k0:Nat) (a:L0[k0]? =some (bt,p_ Q o r gone)) (pg lv:Int) (E:0<=lv/\lv<=3) (e:ET) {K:Int->A0->Prop} (k: ∀f,a9 Q D G w0 f (rT s o r pg lv e) L0->K (lu s r pg lv) f):
 aA A2 216 (.el (.one (.int .i64))) [ah (ae bt),aa pg,aa lv,.agg ⟨[.bool e.1,aa e.2.1,.bool e.2.2.1,aa e.2.2.2.1]⟩] w K:=by
 refine S.go λw1 S=>ai (C:=N0) (aW:=ww) (AJ (VG _ pg lv e.1 e.2.1 e.2.2.1 e.2.2.2.1 w1 K) ?_);have hx:=VQ s.1 r pg;unfold rT at k;refine S.al λb f S=>S.end_ (k0+1) a pg λf S=>S.al λj F S=>S.al λl H S=>S.fh 1 rfl rfl rfl λI S=>S.fh 0 rfl rfl rfl λJ S=>⟨rfl,S.cz 0 rfl rfl ⟨λ_=>rfl,S.cz 1 rfl rfl ?_⟩⟩;by_cases c1:((cW s.1 r pg).1||decide ((dJ s.1 r pg).2.1<lv))=true
 ·have c:lu s r pg lv=5:=by unfold lu;rw[av c1]
  rw[c,ao (by decide)] at k;exact aB c1 (S.en λd S=>k d S.tail.tail.tail)
 have m:=c1;simp only[E5,decide_eq_true_eq,not_or] at m;refine an (by simpa using c1) ⟨rfl,rfl,S.cz (k0+3) a rfl ⟨_,S.cnt 0,rfl,S.cz 1 rfl rfl ?_⟩⟩;have p:a6 .i64 (dJ s.1 r pg).2.1 lv=(dJ s.1 r pg).2.1 - lv:=bF (by omega) (by omega);dsimp only;rw[p];by_cases c2:(cg s.2 0:Int)<(dJ s.1 r pg).2.1 - lv
 ·have c:lu s r pg lv=12:=by unfold lu;rw[ao c1,av c2]
  rw[c,ao (by decide)] at k;exact aB (by simpa using c2) (S.en λd S=>k d S.tail.tail.tail)
 have c:lu s r pg lv=0:=by unfold lu;rw[ao c1,ao c2]
 rw[c,av rfl] at k;obtain⟨n0,q⟩: ∃n0,n0=((dJ s.1 r pg).2.1 - lv).toNat:=⟨_,rfl⟩;rw[<-q] at k;obtain⟨z,g⟩: ∃z,z=qZ o pg n0 (s,dJ s.1 r pg):=⟨_,rfl⟩;rw[<-g] at k;refine an (by simpa using c2) ⟨λn _ w'=> ∃t:WD, ∃x:PT,qZ o pg n (t,x)=z/\x.2.1=lv+(n:Int)/\n<=3/\a9 Q D G w0 w' t ((l,[.bool (cW s.1 r pg).1,aa (cW s.1 r pg).2.1,.bool (cW s.1 r pg).2.2.1,aa (cW s.1 r pg).2.2.2.1])::(j,[aa x.1,aa x.2.1,aa x.2.2.1])::(b,[.bool e.1,aa e.2.1,.bool e.2.2.1,aa e.2.2.2.1])::L0),
  ⟨n0,λd v=>⟨s,dJ s.1 r pg,g.symm,by omega,by omega,S.ext v⟩⟩,?_⟩
 rintro n u d ⟨t,x,h,L,M,S⟩;refine⟨rfl,S.cz 1 rfl rfl ?_⟩;rcases n with _|n
 ·refine an (by simp;omega) ⟨rfl,S.cz 1 rfl rfl (S.ld 2 rfl rfl (S.lay (k0+3) a _ e λy S=>S.en λi S=>k i ?_))⟩;have:z=(t,x):=h.symm;rw[this];exact S.tail.tail.tail
 ·refine aB (by simp;omega) (S.aby (k0+3) a λy S=>⟨rfl,S.cz 1 rfl rfl ⟨cv (eK t o),Jm _ _,S.lay (k0+3) a _ (cv (eK t o)) λi S=>⟨rfl,S.cz 1 rfl rfl ⟨rfl,S.cz 1 rfl rfl ⟨trivial,S.fh 1 rfl rfl rfl λN S=>λO A=>⟨n,by omega,dR (jc t o λ_=>0) x.2.2.1 (cv (eK t o)),(eK t o,x.2.1 - 1,ee (eK t o) pg (x.2.1 - 1),()),h,by show x.2.1 - 1= _;omega,by omega,?_⟩⟩⟩⟩⟩⟩);have B:a6 .i64 x.2.1 1=x.2.1 - 1:=bF (by omega) (by omega);have S:=S.ext A;rw[B] at S;exact S
theorem map (S:a9 Q D G w0 w s L0) (k0:Nat) (b:L0[k0]? =some (bt,p_ Q o r gone)) (pg f rt:Int) {K:Int->A0->Prop} (k: ∀a,a9 Q D G w0 a (jG s o r gone pg f rt) L0->K (kl s r gone pg f rt) a):
 aA A2 173 (.el (.one (.int .i64))) [ah (ae bt),aa pg,aa f,aa rt] w K:=by
 refine S.go λw1 S=>ai (C:=N0) (aW:=λ_=>[]) (AJ (VH _ pg f rt w1 K) ?_);unfold jG kl at k;refine⟨_,S.state k0 b,?_⟩;cases gone with
 |true=>
  rw[av rfl,av rfl] at k;exact aB rfl (S.en λa S=>k a S)
 |false=>
  have d: ¬ (false=true):=by decide
  rw[ao d,ao d] at k;refine an rfl ⟨_,Jl _ _ _ _,ab (λc=>S.en λa S=>?_) (λc=>S.put k0 b pg 0 ⟨by decide,by decide⟩ (true,rt,false,f,()) λa S=>S.en λe S=>?_)⟩
  ·have c: ¬ lA pg f rt=0:=by simpa using c
   rw[ao c,ao c] at k;exact k a S
  ·have c:lA pg f rt=0:=by simpa using c
   rw[av c,av c] at k;exact k e S
end a9
end
set_option maxRecDepth 100000
open Go.RX D
theorem VR {p:Prop} {α:Type} (d:Decidable p) (c: ¬ p) (a b:α):(Ci (λ_=>a) (λ_=>b) d:α)=a:=by
 cases d with
 |isFalse h=>rfl
 |isTrue h=>exact absurd h c
theorem Jp {ws:List Int} {i n:Int} (h: ¬ (n<1\/i<0\/i>ws.length\/n>ws.length - i)):(jH ws i n).length=n.toNat:=by
 unfold jH;rw[ao h,F8,Fz];omega
section
variable {D G:List Nat} {w0 w:A0} {L:List (Nat×List AF)}
theorem Z7 {bw n c:Nat} {ws:List Int} {rest:List AF} (q:bO w bw (flat eW ws++rest)) (K:n=ws.length) (hc:n<=c) (hb:n<=1048576) (i k:Int):
 aE A2 80 (.el (.one .slice)) [.agg ⟨[.slice (ae bw) n c]⟩,aa i,aa k] w (λr w'=>lW w w' eW r (jH ws i k)/\Ext w w'):=by
 refine ai (C:=N0) (aW:=λ_=>[]) (AJ (VK _ n c i k w _) ?_);have H:=At.start [] w;refine aN.go H λb L H=>⟨λ_=>rfl,aj.cw 0 H rfl rfl ⟨λ_=>rfl,aj.cw 0 H rfl rfl ?_⟩⟩;by_cases f:k<1\/i<0\/i>ws.length\/k>ws.length - i
 ·have s:jH ws i k=[]:=av f;rw[s];refine aB ?_ (au.go H λm H=>⟨lW.nil w m eW,H.all⟩);dsimp only;simp only[E5,decide_eq_true_eq];by_cases h1:k<1
  ·exact .inl (.inl (.inl h1))
  ·by_cases t:i<0
   ·exact .inl (.inl (.inr t))
   ·by_cases u:i>(n:Int)
    ·exact .inl (.inr u)
    ·refine .inr ?_;rw[bF (by omega) (by omega)];omega
 ·have hg:1<=k/\0<=i/\i+k<=n:=by omega
  have v:a6 .i64 (n:Int) i=(n:Int) - i:=bF (by omega) (by omega);refine an ?_ ?_
  ·dsimp only;rw[v];simp only[FJ,decide_eq_false_iff_not];omega
  refine NV.go H (z:=[ax 0]) rfl (by omega) (Dh _) (by omega) (by omega) λd m H=>⟨rfl,aj.cw 1 H rfl rfl ⟨by dsimp only;omega,λx y=>?_⟩⟩;have H:=H.ext y;have A:=q.ext H.all;dsimp only;rw[VR _ (by show ¬ (((c:Nat):Int).toNat=i.toNat);omega)];have e:(jH ws i k).length=k.toNat:=Jp f;have B:jH ws i k=(ws.drop i.toNat).take k.toNat:=ao f;have a:(flat eW (jH ws i k)).length=k.toNat:=by rw[aF,e];exact DE _
  have D:Nat.min (((n:Nat):Int).toNat - i.toNat) k.toNat=k.toNat:=Nat.min_eq_right (by omega);have g:(Bs k.toNat [ax 0]).flatten.length=k.toNat:=by simp
  refine⟨flat eW (jH ws i k),?_,.inr (.inr ⟨?_,?_⟩),?_⟩
  ·show oP x (ad (ae bw) (i.toNat*1)) (Nat.min (((n:Nat):Int).toNat - i.toNat) k.toNat*1) _;rw[D,aY,DE,DE];refine A.oP a λj E=>?_;have F:=II ws;have G:=II (jH ws i k);rw[FH,F,G,E4 (by rw[DV];omega),G1,G1,B,GD E,GF]
  ·rw[a];exact(H.get (i:=0) rfl).st (by rw[g];omega)
  ·have:=jV eW (jH ws i k) rfl;exact this
  ·have p:=H.put 0 (b:=d) (o:=0) rfl (flat eW (jH ws i k)) (by rw[a,g];omega);have I:List.drop k.toNat (Bs k.toNat [ax 0]).flatten=[]:=FB (Nat.le_of_eq g);rw[FH,a,I,Db,List.take_zero,List.nil_append] at p;refine au.go p λM l=>⟨?_,l.all⟩;have J:w.heap.size<=d:=by
    rcases l.own (d,flat eW (jH ws i k)) Dw with h|h
    ·exact h
    ·cases h
   refine⟨e.symm,by rw[e];exact B4 _,.inr ⟨d, _,rfl,J,l.get (i:=0) rfl,by rw[a];exact(DE _).symm,?_⟩⟩;rw[e];exact GG (by rw[a];exact Nat.le_of_eq (DE _).symm)
theorem Ma {e:El} {xs:List e.T} {rest:List AF} {i:Nat} {x:e.T} (hx:xs[i]? =some x) {j:Nat} (a:j<aD e):(flat e xs++rest)[i*aD e+j]? =(cellsOf e x)[j]? :=by
 have hi:i<xs.length:=(BW.1 hx).1;have b:i*aD e+j<(flat e xs).length:=by
  rw[aF];have:(i+1)*aD e<=xs.length*aD e:=Nat.mul_le_mul_right _ hi;rw[Nat.add_mul] at this;omega
 rw[E4 b];exact yX e xs i x hx j a
end
section
variable {Q:Sys} {D G:List Nat} {w0 w:A0} {s:WD} {L0:List (Nat×List AF)} {bt:Nat} {o r:Int} {gone:Bool}
abbrev N_ (Q:Sys) (s:WD):Prop:=s.1.length<=Q.c/\s.1.length<=1048576
namespace a9
theorem words (S:a9 Q D G w0 w s L0) (hc:N_ Q s) (i n:Int) {K:Option AC×Nat×Nat->A0->Prop} (k: ∀x rows a,a9 Q D G w0 a s (L0++rows)->oq eW rows x (jH s.1 i n)->K x a):
 aA A2 45 (.el (.one .slice)) [ah (ae Q.bm),aa i,aa n] w K:=by
 refine S.go λw1 S=>ai (C:=N0) (aW:=λ_=>[]) (AJ (L8 _ i n w1 K) ?_);obtain⟨h1,b,c,d,ca,la,H⟩:=S;refine an rfl ⟨rfl,rfl,aj.cw 0 H rfl rfl ?_⟩;refine aA.Y1 H (λa H=>Z7 (H.get (i:=1) rfl) rfl hc.1 hc.2 i n) λx rows a H e=>au.go H λf H=>k x rows f ⟨h1,b,c,d,ca,la,H⟩ e
theorem tK (S:a9 Q D G w0 w s L0) {j bs:Nat} {l:List PT} {rest:List AF} (hb:L0[j]? =some (bs,flat (.agg T2) l++rest)) {i:Nat} {x:PT} (hx:l[i]? =some x) (q:Nat) {K:Int->Prop} {v:Int} (a:q<3) (hv:(cellsOf (.agg T2) x)[q]? =some (aa v)) (k:K v):
 aj w none (ad (ad (ae bs) (i*3)) q) (.one (.int .i64)) K:=by
 rw[aY,aY,FH];refine aj.of v ((S.get hb).oF ?_) k;have:=Ma (e:= .agg T2) (rest:=rest) hx (j:=q) a;rw[show i*3+q=i*aD (.agg T2)+q from rfl,this,hv];rfl
end a9
end
set_option maxRecDepth 100000
open Go.RX D
theorem abA (x:PT) (t:WD):jA [x] t=t:=rfl
theorem abB (x y:PT) (l:List PT) (t:WD):jA (x::y::l) t=if xd t.1 x.1=true then jA (y::l) (dC t.1 y.2.2.1 0,dH t.2 x.1 (aP 5 0)) else t:=rfl
theorem Mb {l:List PT} {q:Nat} {x y:PT} (a:l[q]? =some y) (hx:l[q+1]? =some x):(l.take (q+2)).reverse=x::y::(l.take q).reverse/\(l.take (q+1)).reverse=y::(l.take q).reverse:=by
 grind[GH]
theorem Jq {ws:List Int} (pg:Int): ∀(l:Nat) (f:Int),(0<=f/\f<4096)-> ∀x∈dm ws pg l f,0<=x.1/\x.1<4096
 |0,f,a,x,h=>by
  rw[dm] at h
  grind
 |l+1,f,a,x,h=>by
  rcases F6.1 h with rfl|h
  ·grind
  ·split at h
   ·exact Jq pg l _ (pM _ _) x h
   grind
section
variable {Q:Sys} {D G:List Nat} {w0 w:A0} {s:WD} {L0:List (Nat×List AF)} {bt:Nat} {o r:Int} {gone:Bool}
namespace a9
theorem thin (S:a9 Q D G w0 w s L0) (hc:N_ Q s) (k0:Nat) (h:L0[k0]? =some (bt,p_ Q o r gone)) {j bs c:Nat} {l:List PT} {rest:List AF} (hb:L0[j]? =some (bs,flat (.agg T2) l++rest)) (hl:l.length<=4) (R: ∀x∈l,0<=x.1/\x.1<4096)
 {K:Unit->A0->Prop} (k: ∀d,a9 Q D G w0 d (jA l.reverse s) L0->K () d):
 aA A2 220 (.bA []) [ah (ae bt),.slice (ae bs) l.length c] w K:=by
 refine S.go λw1 S=>ai (C:=N0) (aW:=uv) (AJ (RV _ _ _ c w1 K) ?_);obtain⟨z,I⟩: ∃z,z=jA l.reverse s:=⟨_,rfl⟩;rw[<-I] at k;refine⟨λn v w'=> ∃t:WD,v.1+1=(n:Int)/\n<=l.length/\t.1.length=s.1.length/\jA (l.take n).reverse t=z/\a9 Q D G w0 w' t L0,
  ⟨l.length,λd T=>⟨s,?_,B4 _,rfl,by rw[List.take_length];exact I.symm,S.ext T⟩⟩,?_⟩
 ·show a6 .i64 ((l.length:Nat):Int) 1+1= _;rw[bF (by omega) (by omega)];omega
 rintro n ⟨v,u⟩ d ⟨t,f,hn,p,a,S⟩;dsimp only at f ⊢;rcases n with _| _|q
 ·refine an (by simp;omega) (S.en λg S=>k g ?_);rw[<-a];exact S
 ·refine an (by simp;omega) (S.en λg S=>k g ?_);have:jA (l.take (0+1)).reverse t=t:=by
   cases l with
   |nil=>rfl
   |cons x l=>exact abA x t
  rw[<-a,this];exact S
 ·obtain rfl:v=((q+1:Nat):Int):=by omega
  have hx:l[q+1]? =some l[q+1]:=Cg (by omega);have A:l[q]? =some l[q]:=Cg (by omega);generalize l[q+1]=x at hx;generalize l[q]=y at A;obtain⟨t2,t1⟩:=Mb A hx;rw[t2,abB, <-t1] at a;have hfx:=R x (DA hx);have U:fX .i64 16 x.1=16*x.1:=eJ (by omega) (by omega);have es:a6 .i64 ((q+1:Nat):Int) 1=(q:Int):=by rw[bF (by omega) (by omega)];omega
  refine aB (by simp) ⟨rfl,rfl,S.cz k0 h rfl ⟨⟨rfl,by omega,by omega⟩,rfl,S.tK hb hx 0 (by decide) rfl ?_⟩⟩;rw[U];refine S.words ⟨by rw[p];exact hc.1,by rw[p];exact hc.2⟩ (16*x.1) 16 λrr rows g S J=>?_;have hll:(jH t.1 (16*x.1) 16).length<=16:=by
   by_cases L:(16:Int)<1\/16*x.1<0\/16*x.1>t.1.length\/16>t.1.length - 16*x.1
   ·rw[show jH t.1 (16*x.1) 16=[] from av L];simp
   ·rw[Jp L];decide
  have V:rr.2.1=(jH t.1 (16*x.1) 16).length:=J.1;refine⟨λn v w'=> ∃m:Nat,v.1=(m:Int)/\n+m=(jH t.1 (16*x.1) 16).length/\(∀i,i<m->(jH t.1 (16*x.1) 16)[i]? =some 0)/\a9 Q D G w0 w' t (L0++rows),⟨(jH t.1 (16*x.1) 16).length,λM W=>⟨0,rfl,rfl,λi hi=>by omega,S.ext W⟩⟩,?_⟩;rintro n ⟨v,u2⟩ M ⟨m,f,hnm,N,S⟩;dsimp only at f ⊢;subst f;rw[V];refine ab (λB=>?_) (λB=>?_)
  ·have O:m<(jH t.1 (16*x.1) 16).length:=by simpa using B
   have hv:=Cg O;generalize (jH t.1 (16*x.1) 16)[m]=b at hv;obtain⟨g1,X,Y,Z,ca,la,H⟩:=S;have P:=J.sl H (λx hx=>by
    show x∈ _:: _:: _:: _::(L0++rows);simp[hx]) m b hv
   have S:a9 Q D G w0 M t (L0++rows):=⟨g1,X,Y,Z,ca,la,H⟩;refine⟨⟨P.1,by omega,by omega⟩,aj.of b P.2 (ab (λc2=>S.en λE S=>k E ?_) (λc2=>λE h5=>⟨n - 1,by omega,m+1,?_,by omega,λi hi=>?_,S.ext h5⟩))⟩
   ·have c2: ¬ b=0:=by simpa using c2
    have F:xd t.1 x.1=false:=by
     unfold xd;rw[GJ];exact⟨b,DA hv,by simpa using c2⟩
    rw[F,ao (by decide)] at a;rw[<-a];exact S.sub (FG _ _)
   ·rw[ay (by omega) (by omega)];omega
   ·have c2:b=0:=by simpa using c2
    by_cases e:i=m
    ·subst e;rw[hv,c2]
    ·exact N i (by omega)
  ·have O: ¬ m<(jH t.1 (16*x.1) 16).length:=by simpa using B
   have F:xd t.1 x.1=true:=by
    unfold xd;rw[GS];intro b T4;obtain⟨i,hi⟩:=Ga T4;have:=N i (by have:=(BW.1 hi).1;omega);rw[hi] at this;cases this;rfl
   rw[F,av rfl] at a;have S:=S.sub (FG L0 rows);refine⟨rfl,rfl,S.cz k0 h rfl ?_⟩;rw[es];refine⟨⟨rfl,by omega,by omega⟩,rfl,S.tK hb A 2 (by decide) rfl (S.store _ 0 ⟨by decide,by decide⟩ λE S=>⟨rfl,rfl,S.cz k0 h rfl ⟨⟨rfl,by omega,by omega⟩,rfl,S.tK hb hx 0 (by decide) rfl (S.Ul x.1 5 0 λw6 S=>λw7 h7=>⟨q+1,by omega, _,by show(q:Int)+1= _;omega,by omega,?_,a,S.ext h7⟩)⟩⟩)⟩;show(dC t.1 y.2.2.1 0).length=s.1.length;rw[cF];exact p
theorem DR (S:a9 Q D G w0 w s L0) (hc:N_ Q s) (k0:Nat) (b:L0[k0]? =some (bt,p_ Q o r gone)) (l:0<=r/\r<4096) (pg:Int) {K:Int×Int×Unit->A0->Prop} (k: ∀f,a9 Q D G w0 f (nC s o r gone pg) L0->K (FZ s o r gone pg,Cf s o r gone pg,()) f):
 aA A2 175 (.bA [.one (.int .i64),.one (.int .i64)]) [ah (ae bt),aa pg] w K:=by
 refine S.go λw1 S=>ai (C:=N0) (aW:=λ_=>[]) (AJ (L6 _ pg w1 K) ?_);refine S.query k0 b pg λf S=>ab (λc=>S.en λh S=>?_) (λc=>?_)
 ·have c: ¬ (bz s r gone pg).2.2.1=0:=by simpa using c
  have a:Cf s o r gone pg=(bz s r gone pg).2.2.1:=ao c;have e:FZ s o r gone pg=0:=by unfold FZ;rw[a,ao c]
  have g:nC s o r gone pg=s:=ao c;rw[a,e,g] at k;exact k h S
 have c:(bz s r gone pg).2.2.1=0:=by simpa using c
 have a:Cf s o r gone pg=mz s o r pg:=av c;have g:nC s o r gone pg=if mz s o r pg=0 then jA (dm (fZ s o r pg).1 pg 3 r).reverse _ else fZ s o r pg:=av c;refine S.split k0 b pg λh S=>ab (λd=>S.en λm S=>?_) (λd=>?_)
 ·have d: ¬ mz s o r pg=0:=by simpa using d
  have e:FZ s o r gone pg=0:=by unfold FZ;rw[a,ao d]
  grind
 have d:mz s o r pg=0:=by simpa using d
 have e:FZ s o r gone pg=(bz s r gone pg).1:=by unfold FZ;rw[a,av d]
 rw[e,a,g,av d,d] at k;have i:(fZ s o r pg).1.length=s.1.length:=by
  unfold fZ jc dR;split
  ·rfl
  ·split
   ·show(dC _ _ _).length= _;rw[cF,gT]
   ·rfl
 generalize fZ s o r pg=t at*
 refine S.way pg λq bc m S=>S.Ot (pg:=pg) (k0+2) b (by simp) (by simp) λbs cs rest u S=>⟨rfl,rfl,S.cz (k0+3) b rfl ?_⟩;have n:(dm t.1 pg 3 r).length<=4:=tJ t.1 pg 3 r;have v:0<(dm t.1 pg 3 r).length:=Ft.2 (xH t.1 pg 3 r);have es:a6 .i64 (((dm t.1 pg 3 r).length:Nat):Int) 1=(((dm t.1 pg 3 r).length - 1:Nat):Int):=by rw[bF (by omega) (by omega)];omega
 dsimp only;rw[es];refine⟨⟨rfl,by omega,by omega⟩,rfl,S.tK (j:=0) rfl (CJ t.1 r pg) 2 (by decide) rfl (S.store _ 0 ⟨by decide,by decide⟩ λx S=>S.thin ⟨by show(dC _ _ _).length<= _;rw[cF,i];exact hc.1,by show(dC _ _ _).length<= _;rw[cF,i];exact hc.2⟩ (k0+3) b (j:=0) rfl n (Jq pg 3 r l) λy S=>S.en λp S=>k p S.tail.tail.tail)⟩
theorem tw (S:a9 Q D G w0 w s L0) (k0:Nat) (g:L0[k0]? =some (bt,p_ Q o r gone)) (pg rt:Int) {K:Int->A0->Prop} (k: ∀a,a9 Q D G w0 a (rU s o r gone pg rt) L0->K (F1 s o r gone pg rt) a):
 aA A2 177 (.el (.one (.int .i64))) [ah (ae bt),aa pg,aa rt] w K:=by
 refine S.go λw1 S=>ai (C:=N0) (aW:=λ_=>[]) (AJ (RW _ pg rt w1 K) ?_);unfold rU F1 at k;refine⟨_,S.state k0 g,?_⟩;cases gone with
 |true=>
  rw[av rfl,av rfl] at k;exact aB rfl (S.en λa S=>k a S)
 |false=>
  have j: ¬ (false=true):=by decide
  rw[ao j,ao j] at k;refine an rfl ⟨_,Jl _ _ _ _,ab (λc=>S.en λa S=>?_) (λc=>?_)⟩
  ·have c: ¬ lA pg 0 rt=0:=by simpa using c
   rw[ao c,ao c] at k;exact k a S
  have c:lA pg 0 rt=0:=by simpa using c
  rw[av c,av c] at k;have m:0<=pg:=by
   unfold lA at c;by_cases h:pg<0\/pg>=65536\/(0:Int)<0\/(0:Int)>=4096
   ·rw[av h] at c;cases c
   ·omega
  refine S.end_ k0 g pg λa S=>S.al λb p S=>S.al λq t S=>S.fh 1 rfl rfl rfl λu S=>S.fh 0 rfl rfl rfl λv S=>⟨rfl,S.cz 0 rfl rfl (ab (λd=>S.en λi S=>?_) (λd=>⟨rfl,S.cz 0 rfl rfl ⟨λ_=>rfl,S.cz 0 rfl rfl (ab (λe=>S.en λi S=>?_) (λe=>?_))⟩⟩))⟩
  ·have d: ¬ (cW s.1 r pg).1=true:=by simpa using d
   rw[ao d,ao d] at k;exact k i S.tail.tail
  ·have d:(cW s.1 r pg).1=true:=by simpa using d
   rw[av d,av d] at k;have e:((cW s.1 r pg).2.2.1&&(cW s.1 r pg).2.1==rt)=true:=e;rw[av e,av e] at k;exact k i S.tail.tail
  have d:(cW s.1 r pg).1=true:=by simpa using d
  rw[av d,av d] at k;have e: ¬ ((cW s.1 r pg).2.2.1&&(cW s.1 r pg).2.1==rt)=true:=by
   have e':((cW s.1 r pg).2.2.1&&(cW s.1 r pg).2.1==rt)=false:=e;rw[e'];decide
  rw[ao e,ao e] at k;refine S.ld 1 rfl rfl (S.ld 0 rfl rfl ⟨_,Jn m (dJ s.1 r pg) (cW s.1 r pg) (pM _ _) _,S.split (k0+2) g pg λi S=>ab (λf=>S.en λl S=>?_) (λf=>S.end_ (k0+2) g pg λl S=>S.fh 1 rfl rfl rfl λx S=>⟨rfl,S.cz 1 rfl rfl (S.lay (k0+2) g _ (true,rt,false,qO pg (dJ s.1 r pg) (cW s.1 r pg),()) λy S=>S.en λn S=>?_)⟩)⟩)
  ·have f: ¬ mz s o r pg=0:=by simpa using f
   rw[ao f] at k;exact k l S.tail.tail
  ·have f:mz s o r pg=0:=by simpa using f
   rw[av f,f] at k;exact k n S.tail.tail
end a9
end
set_option maxRecDepth 100000
open Go.RX
noncomputable def N1:dG A2:={N0 with cl:=[(38,.XQ)]}
def pZ:Nat->a7:=(λ|3=>[(12,Go.RX.El.one (Go.RX.Sc.int Ae))]|9=>[(34,.one (.int .i64))]| _=>[])
theorem Hy (y:Nat) (p c d:Option AC) (w:A0) (i:Unit->A0->Prop):(bW N1 pZ 247 [.func (.yield y) #[] #[],ah p,ah c,ah d] w i)=(
 aN w {toList:=[.func (Fn.yield y) ⟨[]⟩ ⟨[]⟩]} 38 λb a=>aj a none (ae b) (.one .XQ) λx=>aV a p λm=> ∀w1,Ext a w1->mC A2 x [aa m] w1 λ(o:Bool) a=>aG (!o) (au a (i ())) (∃(I:Nat->Int×Unit->List Nat->A0->Prop),(∃n, ∀w1,Ext a w1->I n (0,()) [] w1)/\ ∀(n:Nat) (s:Int×Unit) (D1:List Nat) (w1:A0),I n s D1 w1->aG (decide (s.1<16)) (gg w1 c λx=>aV w1 p λq=>aA
 A2 235 (.el kj) [ah x,aa (aH .i64 (fX .i64 16 q) s.1)] w1 λ(x:Bool×Int×Bool×Int×Unit) a=>aN a ⟨[.bool false,aa 0,.bool false,aa 0]⟩ 130 λk a=>aC a (ae k) [.bool x.1,aa x.2.1,.bool x.2.2.1,aa x.2.2.2.1] λa=>aV a d λx=>aj a (some !x==0) (ae k) kj λ(j:Bool×Int×Bool×Int×Unit)=>((!x==0)=true->True)/\aG (x==0|| !fL j.1
 j.2.1 j.2.2.1 j.2.2.2.1) (∀e,Ext a e-> ∃(f:Nat),f<n/\I f (aH .i64 s.1 1,()) D1 e) (gg a c λx=>true=true/\aV a (ad (ae k) 3) λt=>aV a d λu=>aA A2 239 (.el (.one (.Ac 247 3))) [ah x,aa t,aa (a6 .i64 u 1)] a λx a=>z7 A2 247 (λ(y:Nat)=>[.func (Fn.yield y) ⟨[]⟩ ⟨[]⟩,ah x.1,ah x.2.1,ah x.2.2.1]) ⟨[34]⟩ a (λ(x:Int×Unit)=>[aa x.1]) (λ(l:Nat)
 (rec:Loop) (x:Int×Unit) e (R:Bool->A0->Prop)=>Dl l rec [aa x.1].length 1 e (BZ l rec e λg=>aj g none (ae b) (.one .XQ) λv=> ∀w1,Ext g w1->mC A2 v [aa x.1] w1 λ(b:Bool) a=>aG (!b) (sT l rec (some Code.ret) a R) (sT l rec none a R))) λ(r:Nat) (rec:Loop) z=>dz (r+1) rec z (λg=> ∀e,Ext g e-> ∃(f:Nat),f<n/\I f (aH .i64 s.1 1,()) (r::D1) e) (λ(id:Nat) g=>Ci (λ(h:id=2->False)=>Ci (λ(h:id=1->False)=>
 Ci (λ(h:id=0->False)=>False) (λ(h:id=0)=>sU (r::D1) g λw1=>i () w1) (match h:id.beq 0 with|true=>isTrue (Dk h)|false=>isFalse (Dn h))) (λ(h:id=1)=> ∀e,Ext g e-> ∃(f:Nat),f<n/\I f (aH .i64 s.1 1,()) (r::D1) e) (match h:id.beq 1 with|true=>isTrue (Dk h)|false=>isFalse (Dn h))) (λ(h:id=2)=> ∀e,Ext g e-> ∃(f:Nat),f<n/\I f (aH .i64 s.1 1,()) (r::D1) e)
 (match h:id.beq 2 with|true=>isTrue (Dk h)|false=>isFalse (Dn h))) λg=>sU (r::D1) g λw1=>i () w1)) (byD D1 (au w1 (i ())) λ(r:Nat) (D:List Nat)=>sU (r::D) w1 λw1=>i () w1))):=by kernel_rfl
open Go.RX D
section
variable {T:Type} {bm:Nat} {mc:List AF->Prop} {J:List T->List (Nat×List AF)->List (Nat×Obj)->A0->Prop} {a:List T} {X:List (Nat×List AF)} {O:List (Nat×Obj)} {w w':A0}
theorem z7.inX (K:JK bm mc J) {P:Program} {k:FuncId} {args:Nat->List AF} {ps:Array Nat} {f:T->List AF} {m:Nat->Loop->T->A0->(Bool->A0->Prop)->Prop} {n:Nat->Loop->A0->Prop} {N:Nat} {p:List (Nat×List AF)} {xs:List T}
 (j:J a X O w) (t:ItJ P k args f N bm mc p xs) (u: ∀x∈p,x∈X) (y:a.length+xs.length<=N)
 (z: ∀b x X' O' l rec d (R:Bool->A0->Prop),b.length<N->J b (X'++X) ((l,N3 rec)::O') d->(∀w',J (b++[x]) (X'++X) ((l,N3 rec)::O') w'->R true w')->m l rec x d R)
 (A: ∀r rec g,J (a++xs) X ((r+1,N3 rec)::(r,.deferred (some []))::O) g->n r rec g):z7 P k args ps w f m n:=by
 intro w1 h1 rec _ _ B C D;have V:rec={rec with state:= .ready,pending:= .none}:=by rw[<-B, <-C]
 have sz:(w1.alloc (.deferred (some []))).heap.size=w1.heap.size+1:=lP _ _;have j1:J a X _ (w1.alloc (.deferred (some []))):=K.alO (K.ext j h1) (λ_ _ _ e=>by cases e);have q:=K.alO (o:=N3 rec) j1 (IF rec _ _);rw[sz] at q
 let Z:=(w1.heap.size+1,N3 rec)::(w1.heap.size,.deferred (some []))::O
 let i:=λb X' O' w=>J b (X'++X) (O'++Z) w
 have E:JK bm mc i:=
  {step:=λ{a' X' O' W d l' Y} h F hb G H I=>by
    have:=K.step h F hb G H I
    grind
   mem:=λh=>K.mem h
   dj:=λh hm=>K.dj h (by grind)
   obj:=λh hm=>K.obj h (by grind)
   alO:=λh c=>K.alO h c
   puO:=λh c=>K.puO h c
   sub:=λh hx c=>K.sub h (by grind) (c.append_right Z)
   perm:=λh c=>K.perm h (c.append_right Z)}
 have L:Yd P (w1.heap.size+1) f N i:=λb x X' O' d R hb h M=>by
  refine D x d R ?_;have s:((w1.heap.size+1,N3 rec)::(O'++((w1.heap.size,.deferred (some []))::O))).Perm (O'++Z):=(DL).symm;exact z b x X' _ _ rec d R hb (K.perm h s) (λw' h'=>M w' (K.perm h' s.symm))
 have Q:(w1.alloc (.deferred (some []))).alloc (.loop rec)=(w1.alloc (.deferred (some []))).alloc (N3 rec):=by
  grind
 rw[Q];have S:=K.sub q (λx hm=>by
  rcases List.mem_append.1 hm with hm|hm<;>exact hm) (Cj _)
 refine Calls.mono (t (w1.heap.size+1) i E L a X [] _ y u S) ?_;rintro e g ⟨v,U,h⟩;exact⟨v,U,A _ _ _ (K.sub h (by grind) (by grind))⟩
end
def oI (ws:List Int) (l:Nat) (f:Int) (i:Nat):List Int:=match l with
 |0=>[]
 |l+1=>if dI (aK ws (16*f+(i:Int)))=true then cY ws l (aK ws (16*f+(i:Int))).2.2.2.1 else[]
theorem nf (ws:List Int): ∀(l:Nat) (f:Int),cY ws l f=f::(Aq 16).flatMap (oI ws l f)
 |0,f=>by
  simp[cY,oI]
 |l+1,f=>rfl
theorem Me {m:Nat} (a:m<16) (g:Nat->List Int): ∃z,(Aq 16).flatMap g=(Aq m).flatMap g++(g m++z):=by
 obtain⟨z,e⟩: ∃z,Aq _=Aq (m+1)++z:=by
  refine⟨(Aq 16).drop (m+1),?_⟩
  conv=>rw[<-List.take_append_drop (m+1) (Aq 16)]
  grind
 rw[e,Gd];simp
abbrev emI (x:Int×Unit):List AF:=[aa x.1]
abbrev T5 (x:Int):Int×Unit:=(x,())
abbrev ucs (bt c1 c2 c3:Nat) (f:Int) (l:Nat):List (Nat×List AF):=[(c1,[aa f]),(c2,[ah (ae bt)]),(c3,[aa (l:Int)])]
theorem Mf {D G:List Nat} {w0 w:A0} {L:List (Nat×List AF)} (H:aM D G w0 w L) (p:Option AC) (f lv:Int) {K:Option AC×Option AC×Option AC×Unit->A0->Prop}
 (k: ∀b a c d,aM D G w0 d ((c,[aa lv])::(a,[aa f])::(b,[ah p])::L)->K (some ⟨a,0,none⟩,some ⟨b,0,none⟩,some ⟨c,0,none⟩,()) d):
 aA A2 239 Gs [ah p,aa f,aa lv] w K:=
 aA.go H λw1 H=>ai (AJ (Br p f lv w1 K) (aN.go H λb d H=>aN.go H λa e H=>aN.go H λc g H=>au.go H (by grind)))
abbrev UIt (Q:Sys) (ws:List Int) (bt:Nat) (o r:Int) (gone:Bool) (N lv:Nat):Prop:= ∀(f:Int) (a:0<=f/\f<4096) (c1 c2 c3:Nat),
 ItJ A2 247 (λy=>[.func (.yield y) #[] #[],ah (ae c1),ah (ae c2),ah (ae c3)]) emI N Q.bm (Mc Q ws.length)
  ((bt,p_ Q o r gone)::(Q.bw,flat eW ws++Q.rw)::ucs bt c1 c2 c3 f lv) ((cY ws lv f).map T5)
theorem Hz {Q:Sys} {ws:List Int} {bt:Nat} {o r:Int} {gone:Bool} {N:Nat} (Z:okW ws) (oS:0<ws.length) (lv:Nat) (uQ:lv<=3) (ih: ∀l',lv=l'+1->UIt Q ws bt o r gone N l'):UIt Q ws bt o r gone N lv:=by
 intro f hf c1 c2 c3 y J K D a X O w i hX j;refine Calls.mono (aS (C:=N1) (aW:=pZ) (Post:=λ_ w'=>J (a++(cY ws lv f).map T5) X O w') (AJ (Hy y _ _ _ w _) ?_)) ?_
 rotate_left
 ·rintro e w' ⟨x,rfl,h⟩;exact⟨_,rfl,h⟩
 rw[nf] at i ⊢;simp only[List.map_cons,B3,DV] at i;obtain⟨lm,⟨ca,la,rfl⟩,H⟩:=K.at0 j;refine aN.go H λb w2 H=>?_;have j:=K.tq (Y:=[(b, _)]) j H ⟨_, _,rfl⟩;have g: ∀x∈(bt,p_ Q o r gone)::(Q.bw,flat eW ws++Q.rw)::ucs bt c1 c2 c3 f lv,x∈[(b,[Do (.yield y) #[] #[]])]++X:=λx hx=>DB _ (hX x hx);have p:(b,[Do (.yield y) #[] #[]])∈[(b,[Do (.yield y) #[] #[]])]++X:=List.mem_append_left _ (Fy.2 rfl);have back: ∀{a':List (Int×Unit)} {w':A0},J a' ([(b,[Do (.yield y) #[] #[]])]++X) O w'->J a' X O w':=λh=>K.sub h (λx hx=>DB _ hx) (Cj _);generalize [(b,[Do (.yield y) #[] #[]])]++X=k at j g p back;have E:=g (bt,p_ Q o r gone) (by simp);have F:=g (Q.bw,flat eW ws++Q.rw) (by simp);have G:=g (c1,[aa f]) (by simp);have I:=g (c2,[ah (ae bt)]) (by simp);have x5:=g (c3,[aa (lv:Int)]) (by simp);refine aj.of y ((K.dj j p).2.oF rfl) (aj.of f ((K.dj j G).2.oF rfl) λw3 h3=>D a (T5 f) k O w3 _ (by omega) (K.ext j h3) λw4 j=>?_);refine an rfl ⟨λn v D1 w'=> ∃m:Nat,v.1=(m:Int)/\n+m=16/\J (a++T5 f::((Aq m).flatMap (oI ws lv f)).map T5) k (D1.map (λr=>(r,Obj.deferred (some [])))++O) w',⟨16,λL h5=>⟨0,rfl,rfl,by simpa using K.ext j h5⟩⟩,?_⟩;rintro n ⟨v,u⟩ D1 L ⟨m,M,hnm,j⟩;dsimp only at M ⊢;subst M;refine ab (λq=>?_) (λq=>?_)
 ·have s:m<16:=by simp at q;omega
  obtain⟨z,hz⟩:=Me s (oI ws lv f);have P:(a++T5 f::((Aq m).flatMap (oI ws lv f)).map T5).length+((oI ws lv f m).map T5).length<=N:=by
   rw[hz] at i;simp only[Ds,B3,DV] at i ⊢;omega
  have t:(Aq (m+1)).flatMap (oI ws lv f)=(Aq m).flatMap (oI ws lv f)++oI ws lv f m:=by
   rw[Gd,List.flatMap_append];simp
  have acq:aH .i64 (fX .i64 16 f) (m:Int)=16*f+(m:Int):=by rw[eJ (by omega) (by omega),ay (by omega) (by omega)]
  have acr:aH .i64 (m:Int) 1=((m+1:Nat):Int):=by rw[ay (by omega) (by omega)];omega
  refine aj.of (ae bt) ((K.dj j I).2.oF rfl) (aj.of f ((K.dj j G).2.oF rfl) ?_);rw[acq,acr];obtain⟨lm,⟨ca,la,rfl⟩,H⟩:=K.at0 j;have R:TbR Q ws L bt o r gone:=⟨(K.dj j E).2,(K.dj j F).2,(K.dj j E).1,(K.dj j F).1,Z,oS⟩;have A:=K.dj j x5;have S:=K.dj j I;have T:c3∉[Q.bm]:=by simpa using A.1
  have n4:c2∉[Q.bm]:=by simpa using S.1
  refine PF R H 0 rfl _ λca2 U H=>aN.go H λV w7 H=>aC.all 0 H rfl rfl rfl λw8 H=>aj.fN H A.2 T rfl (aj.at 0 H rfl rfl ⟨λ_=>trivial,ab (λc=>λw9 h9=>?_) (λc=>?_)⟩)
  ·have B:=K.sub (K.ext (K.tq (Y:=[(V, _)]) j H ⟨_, _,rfl⟩) h9) (X':=k) (λx h=>DB _ h) (Cj _);refine⟨n - 1,by omega,m+1,rfl,by omega,?_⟩;have hs:oI ws lv f m=[]:=by
    cases lv with
    |zero=>rfl
    |succ l=>
     have c:dI (aK ws (16*f+(m:Int)))=false:=by
      have h0:((((l+1:Nat):Int))==0)=false:=by simp;omega
      simp only[h0,Bool.false_or,Bool.not_eq_true'] at c;exact c
     exact ao (by rw[c];decide)
   rw[t,hs,Db];exact B
  ·have c0: ¬ lv=0/\dI (aK ws (16*f+(m:Int)))=true:=by
    simp only[FJ,Bool.not_eq_false'] at c;refine⟨λe=>?_,c.2⟩;subst e;simp at c
   obtain⟨l,rfl⟩: ∃l,lv=l+1:=⟨lv - 1,by omega⟩;have hs:oI ws (l+1) f m=cY ws l (aK ws (16*f+(m:Int))).2.2.2.1:=av c0.2;have elv:a6 .i64 ((l+1:Nat):Int) 1=(l:Int):=by rw[bF (by omega) (by omega)];omega
   refine aj.fN H S.2 n4 rfl ⟨rfl,aj.cw 0 H rfl rfl (aj.fN H A.2 T rfl ?_)⟩;rw[elv];refine Mf H _ _ _ λd d1 d2 w9 H=>?_;have B:=K.tq (Y:=[(d2, _),(d1, _),(d, _),(V, _)]) j H ⟨_, _,rfl⟩;rw[hs] at P t;refine z7.inX K B (ih l rfl _ (pM _ _) d1 d d2) ?_ P ?_ ?_
   grind
   ·intro b0 x X' O' l' rec ny R hb j hR;refine Dl.Yb K j rfl (BZ.Yb K j λwb j=>aj.of y ((K.dj j (DB _ (DB _ p))).2.oF rfl) λW Im=>D b0 x _ _ W _ hb (K.ext j Im) λDp j=>an rfl (sT.Yb K j λN8 j=>hR N8 j))
   ·intro r' rec ny j;refine dz.Yb K j λW j=>λDp Iu=>⟨n - 1,by omega,m+1,rfl,by omega,?_⟩;have j3:=K.sub (K.ext j Iu) (X':=k) (λx h=>DB _ h) (Cj _);rw[t];simpa using j3
 ·have s:m=16:=by simp at q;omega
  subst s;cases D1 with
  |nil=>exact λU h6=>back (K.ext j h6)
  |cons r' D1=>exact K.sU (r'::D1) j λU j=>back j
theorem R3 {Q:Sys} {ws:List Int} {bt:Nat} {o r:Int} {gone:Bool} {N:Nat} (a:okW ws) (b:0<ws.length): ∀lv:Nat,lv<=3->UIt Q ws bt o r gone N lv:=by
 intro lv
 induction lv with
 |zero
 |succ=>
  intro h;refine Hz a b _ h λe=>?_
  grind
abbrev eN:El:= .one (.int .i64)
theorem zK (ws:List Int): ∀(l:Nat) (f:Int),(cY ws l f).length<=(match l with|0=>1|1=>17|2=>273| _=>4369)\/3<l
 |0,f=> .inl (by simp[cY])
 |l+1,f=>by
  by_cases a:3<l+1
  ·exact .inr a
  refine .inl ?_;have step: ∀(c:Nat) (is:List Nat),(∀i,(oI ws (l+1) f i).length<=c)->(is.flatMap (oI ws (l+1) f)).length<=is.length*c:=by
   intro c is h
   induction is with
   |nil=>simp
   |cons i is b=>
    rw[List.flatMap_cons,Ds,B3,Nat.add_mul];have:=h i;omega
  have sub: ∀(c:Nat),(∀g,(cY ws l g).length<=c)-> ∀i,(oI ws (l+1) f i).length<=c:=by
   intro c h i;unfold oI
   grind
  rw[nf];have b:=zK ws l;rcases l with _| _| _|l
  ·have:=step 1 (Aq 16) (sub 1 (by grind))
   grind
  ·have:=step 17 (Aq 16) (sub 17 (by grind))
   grind
  ·have:=step 273 (Aq 16) (sub 273 (by grind))
   grind
  ·omega
theorem pT (ws:List Int) (f:Int):(cY ws 3 f).length<=4369:=by grind[zK]
theorem Bt (ws:List Int) (l:Nat) (f:Int):cY ws l f≠[]:=by simp[nf]
theorem Er (x:Int): ∀l:List Int,(jI x l).length=l.length+1
 |[]=>rfl
 |y::l=>by
  rw[jI];split
  ·rw[B3,Er];rfl
  ·rfl
theorem za: ∀(l a:List Int),(l.foldl (λa x=>jI x a) a).length=a.length+l.length
 |[],a=>rfl
 |x::l,a=>by
  rw[Gi,za,Er,B3];omega
theorem jQ (l:List Int):(mT l).length=l.length:=by simp[mT,za]
theorem Z8 (p z:List Int) (a c:Int):(p++a::z).set p.length c=p++c::z:=by simp
section
variable {Q:Sys} {D G:List Nat} {w0 w:A0} {s:WD} {L0:List (Nat×List AF)} {bt:Nat} {o r:Int} {gone:Bool}
namespace a9
theorem under (S:a9 Q D G w0 w s L0) (f lv:Int) {K:Option AC×Option AC×Option AC×Unit->A0->Prop} (k: ∀b a c d,a9 Q D G w0 d s ((c,[aa lv])::(a,[aa f])::(b,[ah (ae bt)])::L0)->K (some ⟨a,0,none⟩,some ⟨b,0,none⟩,some ⟨c,0,none⟩,()) d):
 aA A2 239 Gs [ah (ae bt),aa f,aa lv] w K:=by
 refine S.go λw1 S=>ai (AJ (Br _ f lv w1 K) ?_);exact S.al λb d S=>S.al λa e S=>S.al λc g S=>S.en (by grind)
theorem abC (S:a9 Q D G w0 w s L0) (k0:Nat) (L:L0[k0]? =some (bt,p_ Q o r gone)) {c1 c2 c3:Nat} {f:Int} (i:0<=f/\f<4096) (h1:(c1,[aa f])∈L0) (M:(c2,[HB (ae bt)])∈L0) (O:(c3,[aa 3])∈L0)
 {K:Option AC×Nat×Nat->A0->Prop} (k: ∀bs cs rest b,a9 Q D G w0 b s ((bs,flat eN (cY s.1 3 f)++rest)::L0)->K (some ⟨bs,0,none⟩,(cY s.1 3 f).length,cs) b):
 aA A2 238 (.el (.one .slice)) [.func (.func 247) #[] #[ah (ae c1),ah (ae c2),ah (ae c3)]] w K:=by
 refine S.go λw1 S=>aS (C:=N0) (aW:=rz) (AJ (L7 _ _ _ w1 K) ?_);obtain⟨g1,j,m,e,ca,la,H0⟩:=S;have H:=H0.again;refine aN.go H λbl b H=>?_;have n:=pT s.1 f;refine z7.Ot (N:=4369) (bm:=Q.bm) (mc:=Mc Q s.1.length) (Rg0:=[(bl,[.slice none 0 0])]) H ⟨_, _,rfl⟩
  (R3 (o:=o) (r:=r) (gone:=gone) (bt:=bt) e g1 3 (B4 _) f i c1 c2 c3) ?_ (by simpa using n) (λxs c=>Yj eN bl (xs.map (·.1)) c) (.inl ⟨rfl,rfl⟩) ?_ ?_
 grind
 ·intro b0 x c Z rr l rec P R T hg a p;obtain⟨sl,d⟩:=hg.head;refine Dl.go a rfl (BZ.goO a λwb H q t=>aj.at 0 H (by rw[E4 (BW.1 d).1];exact d) rfl (aN.go H λU g H=>λV u=>?_));have H:=H.ext u;exact hg.push d (x:=x.1) H rfl rfl rfl (by grind) λv W y z=>sT.lD q z λA B E=>p v A (by simpa using y) B (t.trans E)
 ·rintro rr rec X l' c ⟨F,I,rfl⟩ hg a;refine dz.none a λY H=>?_;have J:((cY s.1 3 f).map T5).map (·.1)=cY s.1 3 f:=by
   rw[List.map_map];exact List.map_id _
  rw[J] at hg;rcases hg with ⟨h, _⟩|⟨bs,cs,rest,rfl,q1,q2⟩
  ·exact absurd h (Bt _ _ _)
  ·refine aj.at 0 H rfl rfl (sU.go H λg H=>k bs cs rest g ⟨g1,j,m,e,F,I,H0.join (λx hx=>hx) ?_⟩);refine(H.sub (Ct _ _)).perm ?_;exact DL (l₁:=[_, _, _, _])
theorem IK (S:a9 Q D G w0 w s L0) {j bs:Nat} {xs:List Int} {rest:List AF} (a:L0[j]? =some (bs,flat eN xs++rest)) {i:Nat} {x:Int} (hx:xs[i]? =some x):cU w (ad (ae bs) (i*1)) eN x:=fV (S.get a) hx
theorem XB (S:a9 Q D G w0 w s L0) (j:Nat) {bs:Nat} {xs:List Int} {rest:List AF} (a:L0[j]? =some (bs,flat eN xs++rest)) {i:Nat} (hi:i<xs.length) (v:Int) {K:A0->Prop} (k: ∀w1,a9 Q D G w0 w1 s (L0.set j (bs,flat eN (xs.set i v)++rest))->K w1):aC w (ad (ae bs) (i*1)) [aa v] K:=by
 obtain⟨h1,b,c,d,ca,la,H⟩:=S;exact aC.flat (e:=eN) (j+4) H v a rfl rfl hi λw1 H=>k w1 ⟨h1,b,c,d,ca,la,H⟩
theorem all (S:a9 Q D G w0 w s L0) (k0:Nat) (q:L0[k0]? =some (bt,p_ Q o r gone)) (U:0<=r/\r<4096) {K:Option AC×Nat×Nat->A0->Prop} (k: ∀x rows d,a9 Q D G w0 d s (L0++rows)->oq eN rows x (mU s r gone)->K x d):
 aA A2 214 (.el (.one .slice)) [ah (ae bt)] w K:=by
 refine S.go λw1 S=>ai (C:=N0) (aW:=wx) (AJ (VI _ w1 K) ?_);refine⟨_,S.state k0 q,?_⟩;cases gone with
 |true=>exact aB rfl (S.en λd S=>k (none,0,0) [] d (by rw[Db];exact S) ⟨rfl,.inl ⟨rfl,rfl⟩⟩)
 |false=>
  refine an rfl ⟨rfl,rfl,S.cz k0 q rfl (S.under r 3 λc2 c1 c3 d S=>S.abC (k0+3) q U (by simp) (by simp) (by simp) λbs cs rest i S=>?_)⟩;have S:=S.perm (L1:=(bs,flat eN (cY s.1 3 r)++rest)::(L0++[(c3,[aa 3]),(c1,[aa r]),(c2,[ah (ae bt)])])) (FV _ (by exact List.perm_append_comm (l₂:=[_, _, _])));have S:=S.sub (List.Sublist.cons_cons _ (FG _ _));have hlen:=pT s.1 r;have V:mU s r false=mT (cY s.1 3 r):=ao (by decide);rw[V] at k;have dk:=Bt s.1 3 r;generalize cY s.1 3 r=l at*
  refine⟨λn v w'=> ∃m:Nat,v.1=(m:Int)/\n+m=l.length/\a9 Q D G w0 w' s ((bs,flat eN (((l.take m).foldl (λa x=>jI x a) []).reverse++l.drop m)++rest)::L0),⟨l.length,λW X=>⟨0,rfl,rfl,by simpa using S.ext X⟩⟩,?_⟩;rintro n ⟨v,u⟩ W ⟨m,b,hnm,S⟩;dsimp only at b ⊢;subst b;refine ab (λt=>?_) (λt=>?_)
  ·have z:m<l.length:=by simpa using t
   obtain⟨R,E⟩: ∃R,R=(l.take m).foldl (λa x=>jI x a) []:=⟨_,rfl⟩;have F:R.length=m:=by rw[E,za,F8];simp;omega
   have hx:=Cg z;obtain⟨x,L⟩: ∃x,x=l[m]:=⟨_,rfl⟩;rw[<-L] at hx;have Y:l.drop m=x::l.drop (m+1):=by rw[Gj z,L]
   have abD:(l.take (m+1)).foldl (λa x=>jI x a) []=jI x R:=by
    rw[GH,hx,Option.toList_some,List.foldl_append, <-E];rfl
   obtain⟨Z,M⟩: ∃Z,Z=l.drop (m+1):=⟨_,rfl⟩;rw[<-E,Y, <-M] at S;refine⟨λN v w'=> ∃A B:List Int,v.1=(A.length:Int)/\N=A.length/\A.length+B.length=m/\B++jI x A=jI x R/\a9 Q D G w0 w' s ((bs,flat eN (A.reverse++x::(B.reverse++Z))++rest)::L0),⟨m,λf h5=>⟨R,[],by rw[F],F.symm,by simp[F],rfl,by simpa using S.ext h5⟩⟩,?_⟩;rintro N ⟨v,u2⟩ f ⟨A,B,b,rfl,hAB,H,S⟩;dsimp only at b ⊢;subst b;have O: ∀(C:List Int),C=jI x R-> ∀{w':A0},a9 Q D G w0 w' s ((bs,flat eN (C.reverse++Z)++rest)::L0)-> ∀i,Ext w' i-> ∃P,P<n/\ ∃p:Nat,aH .i64 (m:Int) 1=(p:Int)/\P+p=l.length/\a9 Q D G w0 i s ((bs,flat eN (((l.take p).foldl (λa x=>jI x a) []).reverse++l.drop p)++rest)::L0):=by
    intro C hC w' S i h3;refine⟨n - 1,by omega,m+1,by rw[ay (by omega) (by omega)];omega,by omega,?_⟩;rw[abD, <-hC, <-M];exact S.ext h3
   cases A with
   |nil=>
    refine⟨λh=>by simp at h,0,λh=>by simp at h,λh=>by simp at h,0,λh=>by simp at h,an rfl (O (B++jI x []) H (w':=f) ?_)⟩;have e:(B++jI x []).reverse++Z=[].reverse++x::(B.reverse++Z):=by simp[jI]
    rw[e];exact S
   |cons y A=>
    have e:(y::A).reverse++x::(B.reverse++Z)=A.reverse++y::x::(B.reverse++Z):=by simp
    rw[e] at S;simp only[B3] at hAB;have es:a6 .i64 (((y::A).length:Nat):Int) 1=(A.length:Int):=by rw[B3,bF (by omega) (by omega)];omega
    rw[es];have I:(A.reverse++y::x::(B.reverse++Z))[A.length]? =some y:=by rw[H4 (by simp)];simp
    have T:(A.reverse++y::x::(B.reverse++Z))[A.length+1]? =some x:=by rw[H4 (by simp)];simp
    have W6:A.length<(A.reverse++y::x::(B.reverse++Z)).length:=(BW.1 I).1;have s1:(A.reverse++y::x::(B.reverse++Z)).set A.length x=A.reverse++x::x::(B.reverse++Z):=by
     have:=Z8 A.reverse (x::(B.reverse++Z)) y x;rwa[List.length_reverse] at this
    have s2:(A.reverse++x::x::(B.reverse++Z)).set (A.length+1) y=A.reverse++x::y::(B.reverse++Z):=by
     simp
    have Fm:A.length+1<(A.reverse++x::x::(B.reverse++Z)).length:=by simp
    have t1:((A.length:Nat):Int).toNat=A.length:=rfl;have t2:(((y::A).length:Nat):Int).toNat=A.length+1:=rfl;rw[t1,t2];have g1:(some (⟨bs,0,none⟩:AC)).isSome=true/\0<=(A.length:Int)/\(A.length:Int)<(l.length:Int):=⟨rfl,by omega,by omega⟩;have J:(some (⟨bs,0,none⟩:AC)).isSome=true/\0<=(((y::A).length:Nat):Int)/\(((y::A).length:Nat):Int)<(l.length:Int):=⟨rfl,by omega,by rw[B3];omega⟩;refine⟨λ_=>g1,aj.of y (S.IK (j:=0) rfl I) ⟨λ_=>J,aj.of x (S.IK (j:=0) rfl T) (ab (λc=>⟨J,aj.of x (S.IK (j:=0) rfl T) ⟨g1,aj.of y (S.IK (j:=0) rfl I) ⟨g1,S.XB 0 rfl W6 x λw6 S=>⟨J,?_⟩⟩⟩⟩) (λc=>O (B++jI x (y::A)) H (w':=f) ?_))⟩⟩
    ·rw[s1] at S;refine S.XB 0 rfl Fm y λw7 S=>λw8 h8=>⟨A.length,Nat.lt_succ_self _,A,B++[y],rfl,rfl,by simp;omega,?_,?_⟩
     ·have c2:y>x:=by simpa using c
      rw[<-H,jI,av c2,Fk];rfl
     ·rw[s2] at S;have g:A.reverse++x::((B++[y]).reverse++Z)=A.reverse++x::y::(B.reverse++Z):=by simp
      rw[g];exact S.ext h8
    ·have c2: ¬ y>x:=by simpa using c
     have g:(B++jI x (y::A)).reverse++Z=A.reverse++y::x::(B.reverse++Z):=by rw[jI,ao c2];simp
     rw[g];exact S
  ·have z: ¬ m<l.length:=by simpa using t
   have b:l.take m=l:=GG (by omega);have g:l.drop m=[]:=FB (by omega);rw[b,g,Db] at S;refine S.en λf S=>k (some ⟨bs,0,none⟩,l.length,cs) [(bs,flat eN (mT l)++rest)] f (S.perm (List.perm_append_singleton _ _)) ⟨(jQ l).symm,.inr ⟨bs,rest,rfl,rfl⟩⟩
theorem drop (S:a9 Q D G w0 w s L0) (k0:Nat) (d:L0[k0]? =some (bt,p_ Q o r gone)) (E:0<=r/\r<4096) {K:Option AC×Nat×Nat->A0->Prop} (k: ∀x rows b,a9 Q D G w0 b (cG s r gone) (L0.set k0 (bt,p_ Q o r true)++rows)->oq eN rows x (mU s r gone)->K x b):
 aA A2 171 (.el (.one .slice)) [ah (ae bt)] w K:=by
 refine S.go λw1 S=>ai (C:=N0) (aW:=uw) (AJ (RY _ w1 K) ?_);refine⟨_,S.state k0 d,?_⟩;have F:k0<L0.length:=(BW.1 d).1;cases gone with
 |true=>
  have e:L0.set k0 (bt,p_ Q o r true)=L0:=FY (by grind);exact aB rfl (S.en λb S=>k (none,0,0) [] b (by rw[Db,e];exact S) ⟨rfl,.inl ⟨rfl,rfl⟩⟩)
 |false=>
  refine an rfl (S.all k0 d E λx rows b S g=>?_);have I:cG s r false=(s.1,(mU s r false).foldl (λds f=>dH ds f (aP 5 0)) s.2):=ao (by decide);rw[I] at k;have W:(mU s r false).length<=4369:=by
   rw[show mU s r false=mT (cY s.1 3 r) from ao (by decide),jQ];exact pT _ _
  generalize mU s r false=l at*
  obtain⟨J,L,M⟩:=x;have N:L=l.length:=g.1;subst N;obtain⟨c,j⟩: ∃c,c=l.foldl (λds f=>dH ds f (aP 5 0)) s.2:=⟨_,rfl⟩;rw[<-j] at k;have p:(L0++rows)[k0]? =some (bt,p_ Q o r false):=by grind
  refine⟨λn v w'=> ∃(m:Nat) (ds:List DT),v.1=(m:Int)/\n+m=l.length/\(l.drop m).foldl (λds f=>dH ds f (aP 5 0)) ds=c/\a9 Q D G w0 w' (s.1,ds) (L0++rows),⟨l.length,λq O=>⟨0,s.2,rfl,rfl,j.symm,S.ext O⟩⟩,?_⟩;rintro n ⟨v,u⟩ q ⟨m,ds,t,X,a,S⟩;dsimp only at t ⊢;subst t;refine ab (λh=>?_) (λh=>?_)
  ·have i:m<l.length:=by simpa using h
   have y:=Cg i;obtain⟨f,z⟩: ∃f,f=l[m]:=⟨_,rfl⟩;rw[<-z] at y;rw[Gj i, <-z,Gi] at a;obtain⟨g1,P,R,T,ca,la,H⟩:=S;have A:=g.sl H (λx hx=>by
    show x∈ _:: _:: _:: _::(L0++rows);simp[hx]) m f y
   have S:a9 Q D G w0 q (s.1,ds) (L0++rows):=⟨g1,P,R,T,ca,la,H⟩;refine⟨⟨A.1,by omega,by omega⟩,aj.of f A.2 ⟨rfl,rfl,S.cz k0 p rfl (S.Ul f 5 0 λU S=>λB V=>⟨n - 1,by omega,m+1, _,?_,by omega,a,S.ext V⟩)⟩⟩;rw[ay (by omega) (by omega)];omega
  ·have i: ¬ m<l.length:=by simpa using h
   rw[FB (by omega)] at a;have a:ds=c:=a;subst a;refine⟨rfl,rfl,S.Cv k0 p rfl rfl λU S=>S.en λB S=>k (J,l.length,M) rows B ?_ g⟩;rw[List.set_append_left _ _ F] at S;exact S
theorem new (S:a9 Q D G w0 w s L0) (o:Int) {K:Option AC×Int×Unit->A0->Prop}
 (f:(s.1.length:Int)<16*(s.2.length:Int)-> ∀a,a9 Q D G w0 a s L0->K (none,1,()) a)
 (g: ¬ (s.1.length:Int)<16*(s.2.length:Int)-> ¬ rH s o=0-> ∀a,a9 Q D G w0 a (jc s o λ_=>0) L0->K (none,rH s o,()) a)
 (i: ¬ (s.1.length:Int)<16*(s.2.length:Int)->rH s o=0-> ∀b a,a9 Q D G w0 a (jc s o λ_=>0) ((b,p_ Q o (eK s o) false)::L0)->K (some ⟨b,0,none⟩,0,()) a):
 aA A2 164 (.bA [.one .ptr,.one (.int .i64)]) [ah (ae Q.bm),ah (ae Q.bp),aa o] w K:=by
 refine S.go λw1 S=>ai (C:=N0) (aW:=λ_=>[]) (AJ (VJ _ _ o w1 K) ?_);have h1:=S.pos;have j:=S.F2;have k:=S.le;have c1:(((s.1.length:Nat):Int)==0)=false:=by grind
 have c2:(((s.2.length:Nat):Int)==0)=false:=by grind
 have h:fX .i64 16 ((s.2.length:Nat):Int)=16*(s.2.length:Int):=eJ (by omega) (by omega);refine⟨_,S.aaO, _,λ_=>S.Y6, _,λ_=>S.aaO, _,λ_=>S.Y6,?_⟩;rw[c1,c2,h];refine ab (λc=>S.en λa S=>f (by simpa using c) a S) (λc=>S.al λb a S=>S.abx (r:=0) (gone:=false) 0 rfl λl S=>ab (λd=>S.en λe S=>?_) (λd=>⟨rfl,rfl,S.Cv 0 rfl rfl rfl λe S=>S.en (by grind)⟩));exact g (by simpa using c) (by simpa using d) e S.tail
end a9
end
set_option maxRecDepth 100000
open Go.RX
abbrev iW:List Sc:=[.int .u64,.int .i64]
abbrev RS:Type:=Int×Int×Unit
noncomputable def B0:dG A2:={N0 with quiet:=[]}
theorem VS (e:Int) (w:A0) (c:RS->A0->Prop):(bW B0 (λ_=>[]) 75 [aa e] w c)=(
 aN w ⟨[ax 0,aa 0]⟩ 61 λb a=>aC a (ae b) [ax 0,aa e] λa=>au a λw1=>aj w1 none (ae b) cA λ(x:Int×Int×Unit)=>c (x.1,x.2.1,()) w1):=by kernel_rfl
theorem VT (e:Int) (w:A0):aE A2 75 (.el (.agg iW)) [aa e] w (λx w'=>x=(0,e,())/\Ext w w'):=by
 refine aS (C:=B0) (aW:=λ_=>[]) (AJ (VS e w _) ?_);have H:=At.start [] w;exact aN.go H λb a H=>aC.all 0 H rfl rfl rfl λc H=>au.go H λd H=>aj.at 0 H rfl (show _=some (0,e,()) from rfl) ⟨rfl,H.all⟩
noncomputable def abE:Entry A2 where
 f:=75
 fn l:=match l with
  |[.int .i64 e]=>some (True,.agg ⟨[.int .u64 0,.int .i64 e]⟩)
  | _=>none
 ok args pre v h a w:=by
  split at h
  ·rename_i e;cases h;exact bY (VT e w)
  ·cases h
noncomputable def V0:dG A2:={N0 with sP:=abE::N0.sP,quiet:=[53,19,165,21,179,174,76,77,176,25,62,117,56]}
noncomputable def V1:dG A2:={V0 with dyn:=some (.el (.agg iW))}
theorem Mg (p:Option AC) (w:A0) (a:Bool->A0->Prop):(aI V0 (λ_=>[]) 53 [ah p] w a)=(
 ((!p.isNone)=true->p.isSome=true)/\((!p.isNone)=true->p.isSome=true)/\aj w (some !p.isNone) (ad p 0) lZ λx=>au w (a (!p.isNone&& !x.isNone))):=by kernel_rfl
theorem R4 (p:Option AC) (v:Int) (w:A0) (a:Bool->A0->Prop):(aI V0 (λ_=>[]) 19 [ah p,aa v] w a)=(
 ∃x,af A2 53 [ah p] w (.bool x)/\((x&&decide (v>=1)&&decide (v<=16))=true->p.isSome=true)/\((x&&decide (v>=1)&&decide (v<=16))=true->p.isSome=true)/\((x&&decide (v>=1)&&decide (v<=16))=true->(ad p 4).isSome=true/\0<=v/\v<(↑17:Int))/\aj w (some (x&&decide (v>=1)&&decide (v<=16))) (ad (ad p 4) (v.toNat*1)) lZ λb=>au w (a (x&&decide (v>=1)&&decide (v<=16)&& !b.isNone))):=by kernel_rfl
theorem Mh (p:Option AC) (a:Int) (w:A0) (b:Bool->A0->Prop):(aI V0 (λ_=>[]) 165 [ah p,ax a] w b)=(
 ∃x,(decide (a<=16)=true->af A2 19 [ah p,aa (aJ .i64 a)] w (.bool x))/\au w (b (decide (a<=16)&&x))):=by kernel_rfl
theorem R5 (p:Option AC) (v:Int) (w:A0) (a:Int->A0->Prop):(aI V0 (λ_=>[]) 21 [ah p,aa v] w a)=(
 ∃x,af A2 19 [ah p,aa v] w (.bool x)/\aG (!x) (au w (a (-1))) (p.isSome=true/\p.isSome=true/\((ad p 4).isSome=true/\0<=v/\v<(↑17:Int))/\gg w (ad (ad p 4) (v.toNat*1)) λx=>bH x 0 w λx=> ∃(b:Int),af A2 56 [ah x] w (aa b)/\au w (a b))):=by kernel_rfl
theorem Mi (p:Option AC) (v g:Int) (w:A0) (a:Int×Int×Int×Unit->A0->Prop):(aI V0 (λ_=>[]) 81 [ah p,aa v,aa g] w a)=(
 ∃x,af A2 53 [ah p] w (.bool x)/\aG (!x) (au w (a (0,0,10,()))) (∃x,af A2 19 [ah p,aa v] w (.bool x)/\aG (!x) (au w (a (0,0,4,()))) (p.isSome=true/\p.isSome=true/\((ad p 4).isSome=true/\0<=v/\v<(↑17:Int))/\gg w (ad (ad p 4) (v.toNat*1)) λx=>bH x 0 w λx=>aA A2 139 (.bA [.one (.int .i64),.one (.int .i64),.one (.int .i64)]) [ah x,aa g] w λ(x:Int×Int×Int×Unit) b=>au b (a (x.1,x.2.1,x.2.2.1,()))))):=by kernel_rfl
theorem Mj (p:Option AC) (v g:Int) (w:A0) (d:Int×Bool×Unit->A0->Prop):(aI V0 (λ_=>[]) 174 [ah p,aa v,aa g] w d)=(
 ∃x,af A2 19 [ah p,aa v] w (.bool x)/\aG (!x) (au w (d (0,false,()))) (p.isSome=true/\p.isSome=true/\((ad p 4).isSome=true/\0<=v/\v<(↑17:Int))/\gg w (ad (ad p 4) (v.toNat*1)) λx=>tc x 1 w λx=> ∃(a:Int×Int×Unit), ∃(b:Bool),mD w x .i64 g (.agg ⟨[aa 0,aa 0]⟩) (.agg ⟨[aa a.1,aa a.2.1]⟩) b/\aN w ⟨[aa 0,aa 0]⟩ 263 λe c=>aC c (ae e) [aa a.1,aa a.2.1] λc=>true=true/\aV c (ad (ae e) 0) λx=>au c (d (x,
 b,())))):=by kernel_rfl
theorem HA (p:Option AC) (w:A0) (a:Option AC->A0->Prop):(aI V0 (λ_=>[]) 18 [ah p] w a)=(
 ∃x,af A2 53 [ah p] w (.bool x)/\aG (!x) (au w (a none)) (bH p 1 w λx=>aA A2 54 (.el lZ) [ah x] w λx b=>au b (a x))):=by kernel_rfl
theorem HD (p:Option AC) (w:A0) (a:Option AC->A0->Prop):(aI V0 (λ_=>[]) 23 [ah p] w a)=(
 ∃x,af A2 53 [ah p] w (.bool x)/\aG (!x) (au w (a none)) (bH p 0 w λx=>au w (a x))):=by kernel_rfl
theorem R6 (p:Option AC) (f:Int) (w:A0) (d:Int->A0->Prop):(aI V0 (λ_=>[]) 43 [ah p,aa f] w d)=(
 ∃x,af A2 53 [ah p] w (.bool x)/\aG (!x) (au w (d 10)) (bH p 1 w λx=> ∃(a:(Int×Int×Int×Int×Unit)×Bool×Unit),af A2 25 [ah x,aa f] w (.tuple {toList:=[.agg ⟨[aa a.1.1,aa a.1.2.1,aa a.1.2.2.1,aa a.1.2.2.2.1]⟩,.bool a.2.1]})/\aN w ⟨[aa 0,aa 0,aa 0,aa 0]⟩ 52 λb c=>aC c (ae b) [aa a.1.1,aa a.1.2.1,aa a.1.2.2.1,aa a.1.2.2.2.1] λc=>aG (!a.2.1) (au c (d 2)) (true=true/\aV c (ad (ae
 b) 0) λx=>aG (x != 5) (au c (d 6)) (bH p 1 c λx=>aA A2 79 (.el aX) [ah x,aa f] c λ(x:Int) c=>au c (d x))))):=by kernel_rfl
theorem Ml (p:Option AC) (v a:Int) (w:A0) (b:Int->A0->Prop):(aI V0 (λ_=>[]) 179 [ah p,aa v,ax a] w b)=(
 aG (decide (a<1)||decide (a>16)||aJ .i64 a==v) (au w (b 1)) (∃x,af A2 165 [ah p,ax a] w (.bool x)/\aG (!x) (au w (b 4)) (au w (b 0)))):=by kernel_rfl
theorem R7 (p:Option AC) (v a t:Int) (w:A0) (d:Int×Int×Unit->A0->Prop):(aI V0 (λ_=>[]) 178 [ah p,aa v,ax a,aa t] w d)=(
 aG (decide (a>=1048576)) (au w (d (0,2,()))) (bH p 0 w λx=> ∃(e:Int),af A2 21 [ah p,aa v] w (aa e)/\(aA A2 223 (.el dQ) [ah x,aa e,aa (aJ .i64 (wV .u64 a 16)),aa t] w λ(x:Int×Int×Int×Int×Unit) c=>aN c ⟨[aa 0,aa 0,aa 0,aa 0]⟩ 48 λb c=>aC c (ae b) [aa x.1,aa x.2.1,aa x.2.2.1,aa x.2.2.2.1] λc=>true=true/\aV c (ad (ae b) 0) λx=>true=true/\aV c (ad (ae b) 3) λf=>au
 c λw1=>d (aH .i64 (fX .i64 16 x) (aJ .i64 (jY a 16)),f,()) w1)/\aN w ⟨[aa 0,aa 0,aa 0,aa 0]⟩ 48 λb c=>aA A2 223 (.el dQ) [ah x,aa e,aa (aJ .i64 (wV .u64 a 16)),aa t] c λ(x:Int×Int×Int×Int×Unit) c=>aC c (ae b) [aa x.1,aa x.2.1,aa x.2.2.1,aa x.2.2.2.1] λc=>true=true/\aV c (ad (ae b) 0) λx=>true=true/\aV c (ad (ae b) 3) λf=>au c λw1=>d (aH .i64 (fX .i64 16 x) (aJ .i64 (jY a 16)),
 f,()) w1)):=by kernel_rfl
def rA:Nat->a7:=(λ|3=>[(3,Go.RX.El.one (Go.RX.Sc.int Ae))]| _=>[])
theorem Mm (p:Option AC) (w:A0) (c:Int->A0->Prop):(aI V0 rA 168 [ah p] w c)=(
 tc p 1 w λx=>RgP w x λb a=> ∃(I:Nat->Int×Unit->A0->Prop),(∃n, ∀w1,Ext a w1->I n (65536,()) w1)/\ ∀(n:Nat) (s:Int×Unit) (w1:A0),I n s w1->NxP w1 (ae b) (λa=>au a (c s.1)) λ(k v:AF) a=> ∃(x:Int), ∃(v:AF),Aj a (ae b) (aa x) v/\ ∀d,Ext a d-> ∃(e:Nat),e<n/\I e (kT s.1 x,()) d):=by kernel_rfl
def ux:Nat->a7:=(λ_=>[])
theorem R8 (p:Option AC) (v g:Int) (w:A0) (d:Unit->A0->Prop):(aI V0 ux 167 [ah p,aa v,aa g] w d)=(
 p.isSome=true/\p.isSome=true/\((ad p 4).isSome=true/\0<=v/\v<(↑17:Int))/\gg w (ad (ad p 4) (v.toNat*1)) λx=>tc x 1 w λf=> ∃(c:Int×Int×Unit),j8 w f .i64 g (.agg ⟨[aa 0,aa 0]⟩) (.agg ⟨[aa c.1,aa c.2.1]⟩)/\aN w ⟨[aa 0,aa 0]⟩ 263 λb a=>aC a (ae b) [aa c.1,aa c.2.1] λa=>tc x 1 a λh=> ∀w1,Ext a w1-> ∃(r:Nat), ∃(es:Array AM), ∃(e:Nat),h=some r/\bI w1 r es e/\Ai w1 r .i64 g es e λa=>bH x 0 a λx=>aA
 A2 175 (.bA [.one (.int .i64),.one (.int .i64)]) [ah x,aa g] a λ(x:Int×Int×Unit) a=>bH p 1 a λx=>true=true/\aV a (ad (ae b) 1) λi=>aA A2 183 (.el aX) [ah x,aa i,aa (-1)] a λ(x:Int) a=>bH p 2 a λx=>true=true/\aV a (ad (ae b) 0) λj=>aA A2 182 (.el aX) [ah x,aa j,aa v] a λ(x:Int) a=>au a (d ())):=by kernel_rfl
theorem VU (n:Int) (w:A0) (c:Option AC×Int×Unit->A0->Prop):(aI V0 (λ_=>[]) 40 [aa n] w c)=(
 aG (decide (n<4)||decide (n>4096)) (au w (c (none,1,()))) (aN w {toList:=[ah none,ah none,ah none,ah none,ah none,ah none,ah none,ah none,ah none,ah none,ah none,ah none,ah none,ah none,ah none,ah none,ah none,ah none,ah none,ah none,ah none]} 115 λb a=>aA A2 33 (.bA [.one .ptr,.one (.int .i64)]) [aa (fX .i64 16 n)] a λ(x:Option AC×Int×Unit) a=>true=true/\true=true/\aC a (ad
 (ae b) 0) [ah x.1] λa=>aA A2 72 (.bA [.one .ptr,.one (.int .i64)]) [aa n] a λ(x:Option AC×Int×Unit) a=>true=true/\true=true/\aC a (ad (ae b) 1) [ah x.1] λa=>aA A2 73 (.bA [.one .ptr,.one (.int .i64)]) [aa 16] a λ(x:Option AC×Int×Unit) a=>true=true/\true=true/\aC a (ad (ae b) 2) [ah x.1] λa=>aA A2 74 (.bA [.one .ptr,.one (.int .i64)]) [aa 4] a λ(x:Option AC×Int×Unit) a=>true=true/\true=true/\aC a (ad (ae b) 3) [ah x.1] λ
 a=>au a (c (some ⟨b,0,none⟩,0,())))):=by kernel_rfl
theorem Mn (w:A0) (u:Option Nat->A0->Prop):(aI V0 (λ_=>[]) 78 [] w u)=(
 ∀w1,Ext w w1-> ∀c,Ext (w1.alloc (Obj.map ⟨[]⟩ 0)) c-> ∃(r:Nat), ∃(es:Array AM), ∃(a:Nat),some w1.heap.size=some r/\bI c r es a/\ib c r .i64 1 (.func (.func 121) ⟨[]⟩ ⟨[]⟩) es a λb=> ∀d,Ext b d-> ∃(r:Nat), ∃(es:Array AM), ∃(a:Nat),some w1.heap.size=some r/\bI d r es a/\ib d r .i64 2 (.func (.func 122) ⟨[]⟩ ⟨[]⟩) es a λb=> ∀e,Ext b e-> ∃(r:Nat), ∃(es:Array AM), ∃(a:Nat),some w1.heap.size=some r/\bI e r es a/\ib e r .i64 17 (.func (.func
 123) ⟨[]⟩ ⟨[]⟩) es a λb=> ∀f,Ext b f-> ∃(r:Nat), ∃(es:Array AM), ∃(a:Nat),some w1.heap.size=some r/\bI f r es a/\ib f r .i64 3 (.func (.func 124) ⟨[]⟩ ⟨[]⟩) es a λb=> ∀g,Ext b g-> ∃(r:Nat), ∃(es:Array AM), ∃(a:Nat),some w1.heap.size=some r/\bI g r es a/\ib g r .i64 4 (.func (.func 125) ⟨[]⟩ ⟨[]⟩) es a λb=> ∀h,Ext b h-> ∃(r:Nat), ∃(es:Array AM), ∃(a:Nat),some w1.heap.size=some r/\bI h r es a/\ib h r .i64 5 (.func (.func 126) ⟨[]⟩
 ⟨[]⟩) es a λb=> ∀i,Ext b i-> ∃(r:Nat), ∃(es:Array AM), ∃(a:Nat),some w1.heap.size=some r/\bI i r es a/\ib i r .i64 6 (.func (.func 127) ⟨[]⟩ ⟨[]⟩) es a λb=> ∀j,Ext b j-> ∃(r:Nat), ∃(es:Array AM), ∃(a:Nat),some w1.heap.size=some r/\bI j r es a/\ib j r .i64 7 (.func (.func 128) ⟨[]⟩ ⟨[]⟩) es a λb=> ∀k,Ext b k-> ∃(r:Nat), ∃(es:Array AM), ∃(a:Nat),some w1.heap.size=some r/\bI k r es a/\ib k r .i64 8 (.func (.func 129) ⟨[]⟩ ⟨[]⟩) es
 a λb=> ∀l,Ext b l-> ∃(r:Nat), ∃(es:Array AM), ∃(a:Nat),some w1.heap.size=some r/\bI l r es a/\ib l r .i64 9 (.func (.func 130) ⟨[]⟩ ⟨[]⟩) es a λb=> ∀m,Ext b m-> ∃(r:Nat), ∃(es:Array AM), ∃(a:Nat),some w1.heap.size=some r/\bI m r es a/\ib m r .i64 10 (.func (.func 131) ⟨[]⟩ ⟨[]⟩) es a λb=> ∀n,Ext b n-> ∃(r:Nat), ∃(es:Array AM), ∃(a:Nat),some w1.heap.size=some r/\bI n r es a/\ib n r .i64 11 (.func (.func 132) ⟨[]⟩ ⟨[]⟩)
 es a λb=> ∀o,Ext b o-> ∃(r:Nat), ∃(es:Array AM), ∃(a:Nat),some w1.heap.size=some r/\bI o r es a/\ib o r .i64 12 (.func (.func 133) ⟨[]⟩ ⟨[]⟩) es a λb=> ∀p,Ext b p-> ∃(r:Nat), ∃(es:Array AM), ∃(a:Nat),some w1.heap.size=some r/\bI p r es a/\ib p r .i64 13 (.func (.func 134) ⟨[]⟩ ⟨[]⟩) es a λb=> ∀q,Ext b q-> ∃(r:Nat), ∃(es:Array AM), ∃(a:Nat),some w1.heap.size=some r/\bI q r es a/\ib q r .i64 14 (.func (.func 135) ⟨[]⟩
 ⟨[]⟩) es a λb=> ∀s,Ext b s-> ∃(r:Nat), ∃(es:Array AM), ∃(a:Nat),some w1.heap.size=some r/\bI s r es a/\ib s r .i64 15 (.func (.func 136) ⟨[]⟩ ⟨[]⟩) es a λb=> ∀t,Ext b t-> ∃(r:Nat), ∃(es:Array AM), ∃(a:Nat),some w1.heap.size=some r/\bI t r es a/\ib t r .i64 16 (.func (.func 137) ⟨[]⟩ ⟨[]⟩) es a λb=>au b (u (some w1.heap.size))):=by kernel_rfl
def ox:Nat->a7:=(λ|2=>[(7,Go.RX.El.one (Go.RX.Sc.int Ae))]| _=>[])
theorem Fa (p:Option AC) (v k a b c:Int) (w:A0) (e:RS->A0->Prop):(bW V0 ox 121 [ah p,aa v,.agg ⟨[aa k,ax a,ax b,ax c]⟩] w e)=(
 aN w ⟨[aa k,ax a,ax b,ax c]⟩ 31 λb d=>aN d ⟨[ax 0,aa 0]⟩ 61 λb d=> ∃(I:Nat->Int×Unit->A0->Prop),(∃n, ∀w1,Ext d w1->I n (1,()) w1)/\ ∀(n:Nat) (s:Int×Unit) (w1:A0),I n s w1->aG (decide (s.1<=16)) (p.isSome=true/\p.isSome=true/\((ad p 4).isSome=true/\0<=s.1/\s.1<(↑17:Int))/\gg w1 (ad (ad p 4) (Ar s.1*1)) λx=>aG (!x.isNone) (∀f,Ext w1 f-> ∃(g:Nat),g<n/\I g (aH .i64 s.1 1,()) f) (bH p 0 w1 λx=>bH p 1 w1 λh=>aA
 A2 164 (.bA [.one .ptr,.one (.int .i64)]) [ah x,ah h,aa s.1] w1 λ(x:Option AC×Int×Unit) d=>aG (x.2.1==0) (∀w1,Ext d w1->aN (w1.alloc (Obj.map ⟨[]⟩ 0)) ⟨[ah x.1,.map (some w1.heap.size)]⟩ 121 λi d=>p.isSome=true/\p.isSome=true/\((ad p 4).isSome=true/\0<=s.1/\s.1<(↑17:Int))/\aC d (ad (ad p 4) (Ar s.1*1)) [ah (ae i)] λd=>aC d (ae b) [ax (aJ .u64 s.1),aa x.2.1] λd=>au d λw1=>aj w1 none (ae b) cA λ(x:Int×Int×Unit)=>e (x.1,x.2.1,
 ()) w1) (aC d (ae b) [ax (aJ .u64 s.1),aa x.2.1] λd=>au d λw1=>aj w1 none (ae b) cA λ(x:Int×Int×Unit)=>e (x.1,x.2.1,()) w1))) (True/\aC w1 (ae b) [ax 0,aa 3] λd=>au d λw1=>aj w1 none (ae b) cA λ(x:Int×Int×Unit)=>e (x.1,x.2.1,()) w1)):=by kernel_rfl
def nv:Nat->a7:=(λ|5=>[(34,Go.RX.El.one (Go.RX.Sc.int Ae))]|12=>[]|19=>[(13,Go.RX.El.one (Go.RX.Sc.int Ae)),(93,Go.RX.El.one (Go.RX.Sc.int Ae))]| _=>[])
theorem C7 (p:Option AC) (v k a b c:Int) (w:A0) (l:RS->A0->Prop):(bW V0 nv 122 [ah p,aa v,.agg ⟨[aa k,ax a,ax b,ax c]⟩] w l)=(
 aN w ⟨[aa k,ax a,ax b,ax c]⟩ 31 λb d=>aN d ⟨[ax 0,aa 0]⟩ 61 λi d=>true=true/\cJ d (ad (ae b) 1) λx=> ∃r,af A2 165 [ah p,ax x] d (.bool r)/\aG (!r) (True/\aC d (ae i) [ax 0,aa 4] λd=>au d λw1=>aj w1 none (ae i) cA λ(x:Int×Int×Unit)=>l (x.1,x.2.1,()) w1) (true=true/\cJ d (ad (ae b) 1) λx=>bH p 1 d λz=>aA A2 166 (.el fi) [ah z,aa (aJ .i64 x)] d λm d=> ∃(I:Nat->
 Int×Unit->A0->Prop),(∃n, ∀w1,Ext d w1->I n (0,()) w1)/\ ∀(n:Nat) (s:Int×Unit) (w1:A0),I n s w1->aG (decide (s.1<(↑m.2.1:Int))) ((m.1.isSome=true/\0<=s.1/\s.1<(↑m.2.1:Int))/\aV w1 (ad m.1 (Ar s.1*1)) λx=>bH p 1 w1 λj=> ∃(e:(Int×Int×Int×Int×Unit)×Bool×Unit),af A2 25 [ah j,aa x] w1 (.tuple {toList:=[.agg ⟨[aa e.1.1,aa e.1.2.1,aa e.1.2.2.1,aa e.1.2.2.2.1]⟩,.bool e.2.1]})/\aN w1 ⟨[aa 0,aa 0,aa 0,.int
 .i64 0]⟩ 52 λb d=>aC d (ae b) [aa e.1.1,aa e.1.2.1,aa e.1.2.2.1,aa e.1.2.2.2.1] λd=>true=true/\aV d (ad (ae b) 2) λx=>aG (decide (x>0)) (True/\aC d (ae i) [ax 0,aa 9] λd=>au d λw1=>aj w1 none (ae i) cA λ(x:Int×Int×Unit)=>l (x.1,x.2.1,()) w1) (∀f,Ext d f-> ∃(g:Nat),g<n/\I g (aH .i64 s.1 1,()) f)) (p.isSome=true/\p.isSome=true/\((ad p 4).isSome=true/\0<=aJ .i64 x/\aJ .i64 x<(↑17:Int))/\aj w1 none (ad (ad p 4)
 ((aJ .i64 x).toNat*1)) lZ λj=> ∃(I:Nat->Unit->A0->Prop),(∃n, ∀t,Ext w1 t->I n () t)/\ ∀(n:Nat) (s:Unit) (w1:A0),I n s w1->tc j 1 w1 λe=> ∃u,Ue w1 e u/\aG (decide ((↑u:Int)>0)) (aA A2 168 (.el aX) [ah j] w1 λ(q:Int) d=>aA A2 167 (.bA []) [ah p,aa (aJ .i64 x),aa q] d λx d=> ∀f,Ext d f-> ∃(g:Nat),g<n/\I g () f) (bH p 2 w1 λq=>aA A2 169 (.el aX) [ah q,aa (aJ .i64 x)] w1 λ(G:Int)
 d=>bH p 3 d λA=>aA A2 170 (.el aX) [ah A,aa (aJ .i64 x)] d λ(H:Int) d=>bH j 0 d λB=>aA A2 171 (.el fi) [ah B] d λJ d=>bH p 1 d λC=>aA A2 166 (.el fi) [ah C,aa (aJ .i64 x)] d λo d=> ∃(I:Nat->Int×Int×Unit->A0->Prop),(∃n, ∀w1,Ext d w1->I n (0,0,()) w1)/\ ∀(n:Nat) (s:Int×Int×Unit) (w1:A0),I n s w1->aG (decide (s.2.1<(↑o.2.1:Int))) ((o.1.isSome=true/\0<=s.2.1/\s.2.1<(↑o.2.1:Int))/\aV w1
 (ad o.1 (Ar s.2.1*1)) λy=>bH p 1 w1 λD=> ∃(h:(Int×Int×Int×Int×Unit)×Bool×Unit),af A2 25 [ah D,aa y] w1 (.tuple {toList:=[.agg ⟨[aa h.1.1,aa h.1.2.1,aa h.1.2.2.1,aa h.1.2.2.2.1]⟩,.bool h.2.1]})/\aN w1 ⟨[aa 0,aa 0,aa 0,aa 0]⟩ 52 λb d=>aC d (ae b) [aa h.1.1,aa h.1.2.1,aa h.1.2.2.1,aa h.1.2.2.2.1] λd=>true=true/\aV d (ad (ae b) 0) λE=>aG (E==4) (bH p 1
 d λF=>aA A2 138 (.el aX) [ah F,aa y,aa 5,aa (aJ .i64 x)] d λ(x:Int) d=> ∀f,Ext d f-> ∃(g:Nat),g<n/\I g (aH .i64 s.1 1,aH .i64 s.2.1 1,()) f) (∀f,Ext d f-> ∃(g:Nat),g<n/\I g (s.1,aH .i64 s.2.1 1,()) f)) (p.isSome=true/\p.isSome=true/\((ad p 4).isSome=true/\0<=aJ .i64 x/\aJ .i64 x<(↑17:Int))/\aC w1 (ad (ad p 4) ((aJ .i64 x).toNat*1)) [ah none] λd=>aC d (ae i) [ax (aJ .u64 s.1),aa 0] λd=>au d λw1
 =>aj w1 none (ae i) cA λ(x:Int×Int×Unit)=>l (x.1,x.2.1,()) w1))))):=by kernel_rfl
def p8:Nat->a7:=(λ|3=>[(7,Go.RX.El.one (Go.RX.Sc.int Ae)),(14,Go.RX.El.one (Go.RX.Sc.int Ae))]| _=>[])
theorem HE (p:Option AC) (v k a b c:Int) (w:A0) (g:RS->A0->Prop):(bW V0 p8 123 [ah p,aa v,.agg ⟨[aa k,ax a,ax b,ax c]⟩] w g)=(
 aN w ⟨[aa k,ax a,ax b,ax c]⟩ 31 λb d=>aN d ⟨[ax 0,aa 0]⟩ 61 λb d=>bH p 1 d λx=> ∃(h:Int),af A2 62 [ah x] d (aa h)/\ ∃(I:Nat->Int×Int×Unit->A0->Prop),(∃n, ∀w1,Ext d w1->I n (0,0,()) w1)/\ ∀(n:Nat) (s:Int×Int×Unit) (w1:A0),I n s w1->aG (decide (s.2.1<h)) (aA A2 43 (.el aX) [ah p,aa s.2.1] w1 λ(x:Int) d=>aG (x==0) (∀e,Ext d e-> ∃(f:Nat),f<n/\I f (aH .i64 s.1 1,aH .i64 s.2.1 1,()) e)
 (∀e,Ext d e-> ∃(f:Nat),f<n/\I f (s.1,aH .i64 s.2.1 1,()) e)) (aC w1 (ae b) [ax (aJ .u64 s.1),aa 0] λd=>au d λw1=>aj w1 none (ae b) cA λ(x:Int×Int×Unit)=>g (x.1,x.2.1,()) w1)):=by kernel_rfl
def oy:Nat->a7:=(λ|13=>[(66,Go.RX.El.one (Go.RX.Sc.int Ae))]| _=>[])
abbrev gK (a:RS->A0->Prop) (b:A0) (c:Nat):Prop:=
 au b λw1=>aj w1 none (ae c) cA λ(x:Int×Int×Unit)=>a (x.1,x.2.1,()) w1
theorem Fb (p:Option AC) (v k a b c:Int) (w:A0) (f:RS->A0->Prop):(bW V0 oy 124 [ah p,aa v,.agg ⟨[aa k,ax a,ax b,ax c]⟩] w f)=(
 aN w ⟨[aa k,ax a,ax b,ax c]⟩ 31 λb d=>aN d ⟨[ax 0,aa 0]⟩ 61 λe d=>true=true/\cJ d (ad (ae b) 1) λx=>aG (decide (x>=65536)) (True/\aC d (ae e) [ax 0,aa 2] λd=>gK f d e) (true=true/\cJ d (ad (ae b) 2) λx=>((!decide (x<1))=true->true=true)/\aj d (some !decide (x<1)) (ad (ae b) 2) rN λ(l:Int)=>aG (decide (x<1)||decide (l>7)) (True/\aC d (ae e) [ax 0,aa 7] λd=>gK f d e) (bH p 1 d
 λx=>aA A2 172 (.bA [.one (.int .i64),.one (.int .i64)]) [ah x,aa 4,aa v] d λ(x:Int×Int×Unit) d=>aG (x.2.1 != 0) (True/\aC d (ae e) [ax 0,aa x.2.1] λd=>gK f d e) (p.isSome=true/\p.isSome=true/\((ad p 4).isSome=true/\0<=v/\v<(↑17:Int))/\gg d (ad (ad p 4) (v.toNat*1)) λm=>bH m 0 d λo=>true=true/\cJ d (ad (ae b) 1) λq=>true=true/\cJ d (ad (ae b) 2) λr=>aA A2 173 (.el aX) [ah o,aa (aJ .i64 q),
 aa x.1,aa (aJ .i64 r)] d λ(h:Int) d=>aG (h != 0) (bH p 1 d λg=>aA A2 79 (.el aX) [ah g,aa x.1] d λ(x:Int) d=>True/\aC d (ae e) [ax 0,aa h] λd=>gK f d e) (∃(I:Nat->Int×Unit->A0->Prop),(∃n, ∀w1,Ext d w1->I n (0,()) w1)/\ ∀(n:Nat) (s:Int×Unit) (w1:A0),I n s w1->aG (decide (s.1<16)) (bH p 0 w1 λg=>aA A2 38 (.el aX) [ah g,aa (aH .i64 (fX .i64 16 x.1) s.1),ax 0] w1 λ(x:Int) d=> ∀
 i,Ext d i-> ∃(j:Nat),j<n/\I j (aH .i64 s.1 1,()) i) (aC w1 (ae e) [ax (aJ .u64 x.1),aa 0] λd=>gK f d e)))))):=by kernel_rfl
abbrev fC (a:RS->A0->Prop) (b:A0) (c:Nat):Prop:=
 au b λw1=>aj w1 none (ae c) cA λ(x:Int×Int×Unit)=>a (x.1,x.2.1,()) w1
theorem C8 (p:Option AC) (v k a b c:Int) (w:A0) (g:RS->A0->Prop):(bW V0 (λ_=>[]) 125 [ah p,aa v,.agg ⟨[aa k,ax a,ax b,ax c]⟩] w g)=(
 aN w ⟨[aa k,ax a,ax b,ax c]⟩ 31 λb d=>aN d ⟨[ax 0,aa 0]⟩ 61 λe d=>true=true/\cJ d (ad (ae b) 1) λx=>aG (decide (x>=65536)) (True/\aC d (ae e) [ax 0,aa 2] λd=>fC g d e) (true=true/\cJ d (ad (ae b) 1) λx=>aA A2 81 (.bA [.one (.int .i64),.one (.int .i64),.one (.int .i64)]) [ah p,aa v,aa (aJ .i64 x)] d λ(h:Int×Int×Int×Unit) d=>aG (h.2.2.1 != 0) (True/\aC d (ae e) [ax 0,aa h.2.2.1]
 λd=>fC g d e) (∃(i:Int×Bool×Unit),af A2 174 [ah p,aa v,aa (aJ .i64 x)] d (.tuple ⟨[aa i.1,.bool i.2.1]⟩)/\aG i.2.1 (True/\aC d (ae e) [ax 0,aa 7] λd=>fC g d e) (bH p 1 d λj=> ∃(f:(Int×Int×Int×Int×Unit)×Bool×Unit),af A2 25 [ah j,aa h.1] d (.tuple {toList:=[.agg ⟨[aa f.1.1,aa f.1.2.1,aa f.1.2.2.1,aa f.1.2.2.2.1]⟩,.bool f.2.1]})/\aN d ⟨[aa 0,aa 0,
 aa 0,aa 0]⟩ 52 λb d=>aC d (ae b) [aa f.1.1,aa f.1.2.1,aa f.1.2.2.1,aa f.1.2.2.2.1] λd=>true=true/\aV d (ad (ae b) 2) λl=>aG (decide (l>0)) (True/\aC d (ae e) [ax 0,aa 9] λd=>fC g d e) (p.isSome=true/\p.isSome=true/\((ad p 4).isSome=true/\0<=v/\v<(↑17:Int))/\gg d (ad (ad p 4) (v.toNat*1)) λm=>bH m 0 d λn=>aA A2 175 (.bA [.one (.int .i64),.one (.int .i64)]) [ah n,aa (aJ .i64 x)] d λ(x
 :Int×Int×Unit) d=>bH p 1 d λx=>aA A2 138 (.el aX) [ah x,aa h.1,aa 5,aa v] d λ(x:Int) d=>aC d (ae e) [ax (aJ .u64 h.1),aa 0] λd=>fC g d e))))):=by kernel_rfl
abbrev kx (a:RS->A0->Prop) (b:A0) (c:Nat):Prop:=
 au b λw1=>aj w1 none (ae c) cA λ(x:Int×Int×Unit)=>a (x.1,x.2.1,()) w1
abbrev oz (p:Option AC) (v:Int) (e:RS->A0->Prop) (a:A0) (c:Nat) (d:Nat):Prop:=
 p.isSome=true/\p.isSome=true/\((ad p 4).isSome=true/\0<=v/\v<(↑17:Int))/\gg a (ad (ad p 4) (v.toNat*1)) λx=>bH x 0 a λx=>true=true/\cJ a (ad (ae c) 1) λf=>true=true/\cJ a (ad (ae c) 2) λg=>aA A2 177 (.el aX) [ah x,aa (aJ .i64 f),aa (aJ .i64 g)] a λ(x:Int) b=>True/\aC b (ae d) [ax 0,aa x] λb=>kx e b d
abbrev oA (b:RS->A0->Prop) (c:A0) (a:Nat):Prop:=
 True/\aC c (ae a) [ax 0,aa 7] λd=>kx b d a
theorem C9 (p:Option AC) (v k a b c:Int) (w:A0) (f:RS->A0->Prop):(bW V0 (λ_=>[]) 126 [ah p,aa v,.agg ⟨[aa k,ax a,ax b,ax c]⟩] w f)=(
 aN w ⟨[aa k,ax a,ax b,ax c]⟩ 31 λb d=>aN d ⟨[ax 0,aa 0]⟩ 61 λg d=>true=true/\cJ d (ad (ae b) 1) λx=>aG (decide (x>=65536)) (True/\aC d (ae g) [ax 0,aa 2] λd=>kx f d g) (true=true/\cJ d (ad (ae b) 2) λx=>((!decide (x<1))=true->true=true)/\aj d (some !decide (x<1)) (ad (ae b) 2) rN λ(j:Int)=>aG (decide (x<1)||decide (j>7)) (oA f d g) (true=true/\cJ d (ad (ae b) 1) λx=> ∃(h:Int×Bool×
 Unit),af A2 174 [ah p,aa v,aa (aJ .i64 x)] d (.tuple ⟨[aa h.1,.bool h.2.1]⟩)/\(h.2.1=true->true=true)/\aj d (some h.2.1) (ad (ae b) 2) rN λ(x:Int)=>aG (h.2.1&&decide (mw .u64 x 2>0)) (bH p 2 d λx=> ∃(e:(Int×Int×Int×Bool×Int×Unit)×Bool×Unit),af A2 176 [ah x,aa h.1] d (.tuple {toList:=[.agg ⟨[aa e.1.1,aa e.1.2.1,aa e.1.2.2.1,.bool e.1.2.2.2.1,aa e.1.2.2.2.2.1]⟩,.bool e.2.1]})/\aN d ⟨[aa 0,.int .i64
 0,aa 0,.bool false,aa 0]⟩ 255 λi d=>aC d (ae i) [aa e.1.1,aa e.1.2.1,aa e.1.2.2.1,.bool e.1.2.2.2.1,aa e.1.2.2.2.2.1] λd=>true=true/\s_ d (ad (ae i) 3) λx=>aG (!x) (oA f d g) (oz p v f d b g)) (oz p v f d b g)))):=by kernel_rfl
theorem Mp (p:Option AC) (v k a b c:Int) (w:A0) (f:RS->A0->Prop):(bW V0 (λ_=>[]) 127 [ah p,aa v,.agg ⟨[aa k,ax a,ax b,ax c]⟩] w f)=(
 aN w ⟨[aa k,ax a,ax b,ax c]⟩ 31 λb d=>aN d ⟨[ax 0,aa 0]⟩ 61 λe d=>true=true/\cJ d (ad (ae b) 1) λx=>aA A2 178 (.bA [.one (.int .i64),.one (.int .i64)]) [ah p,aa v,ax x,aa 1] d λ(x:Int×Int×Unit) d=>aG (x.2.1 != 0) (True/\aC d (ae e) [ax 0,aa x.2.1] λd=>au d λw1=>aj w1 none (ae e) cA λ(x:Int×Int×Unit)=>f (x.1,x.2.1,()) w1) (bH p 0 d λg=>aA A2 37 (.bA [.one (.int .u64),.one (.int
 .i64)]) [ah g,aa x.1] d λ(x:Int×Int×Unit) d=>aC d (ae e) [ax x.1,aa x.2.1] λd=>au d λw1=>aj w1 none (ae e) cA λ(x:Int×Int×Unit)=>f (x.1,x.2.1,()) w1)):=by kernel_rfl
theorem HF (p:Option AC) (v k a b c:Int) (w:A0) (f:RS->A0->Prop):(bW V0 (λ_=>[]) 128 [ah p,aa v,.agg ⟨[aa k,ax a,ax b,ax c]⟩] w f)=(
 aN w ⟨[aa k,ax a,ax b,ax c]⟩ 31 λb d=>aN d ⟨[ax 0,aa 0]⟩ 61 λe d=>true=true/\cJ d (ad (ae b) 1) λx=>aA A2 178 (.bA [.one (.int .i64),.one (.int .i64)]) [ah p,aa v,ax x,aa 2] d λ(x:Int×Int×Unit) d=>aG (x.2.1 != 0) (True/\aC d (ae e) [ax 0,aa x.2.1] λd=>au d λw1=>aj w1 none (ae e) cA λ(x:Int×Int×Unit)=>f (x.1,x.2.1,()) w1) (bH p 0 d λg=>true=true/\cJ d (ad (ae b) 2) λh=>aA
 A2 38 (.el aX) [ah g,aa x.1,ax h] d λ(x:Int) d=>True/\aC d (ae e) [ax 0,aa x] λd=>au d λw1=>aj w1 none (ae e) cA λ(x:Int×Int×Unit)=>f (x.1,x.2.1,()) w1)):=by kernel_rfl
abbrev iH (a:RS->A0->Prop) (b:A0) (c:Nat):Prop:=
 au b λw1=>aj w1 none (ae c) cA λ(x:Int×Int×Unit)=>a (x.1,x.2.1,()) w1
theorem HG (p:Option AC) (v k a b c:Int) (w:A0) (f:RS->A0->Prop):(bW V0 (λ_=>[]) 129 [ah p,aa v,.agg ⟨[aa k,ax a,ax b,ax c]⟩] w f)=(
 aN w ⟨[aa k,ax a,ax b,ax c]⟩ 31 λb d=>aN d ⟨[ax 0,aa 0]⟩ 61 λe d=>true=true/\cJ d (ad (ae b) 2) λx=> ∃(g:Int),af A2 179 [ah p,aa v,ax x] d (aa g)/\true=true/\cJ d (ad (ae b) 1) λx=>aG (decide (x>=65536)) (True/\aC d (ae e) [ax 0,aa 2] λd=>iH f d e) (((!g==1)=true->true=true)/\aj d (some !g==1) (ad (ae b) 3) rN λ(x:Int)=>aG (g==1||decide (x>1)) (True/\aC d (ae e) [.int
 .u64 0,aa 1] λd=>iH f d e) (true=true/\cJ d (ad (ae b) 1) λx=>aA A2 81 (.bA [.one (.int .i64),.one (.int .i64),.one (.int .i64)]) [ah p,aa v,aa (aJ .i64 x)] d λ(x:Int×Int×Int×Unit) d=>aG (x.2.2.1 != 0||g != 0) (True/\aC d (ae e) [ax 0,aa 4] λd=>iH f d e) (true=true/\cJ d (ad (ae b) 1) λx=> ∃(h:Int×Bool×Unit),af A2 174 [ah p,aa v,aa (aJ .i64 x)] d (.tuple ⟨[aa h.1,.bool h.2.1]⟩)/\
 aG h.2.1 (True/\aC d (ae e) [ax 0,aa 7] λd=>iH f d e) (bH p 2 d λx=>true=true/\cJ d (ad (ae b) 1) λi=>true=true/\cJ d (ad (ae b) 2) λj=>true=true/\cJ d (ad (ae b) 3) λl=>aA A2 180 (.bA [.one (.int .i64),.one (.int .i64)]) [ah x,aa v,aa (aJ .i64 i),aa (aJ .i64 j),.bool (l==1)] d λ(x:Int×Int×Unit) d=>aC d (ae e) [ax (aJ .u64 x.1),aa x.2.1] λd=>iH f d e))))):=by kernel_rfl
theorem Mq (p:Option AC) (v k a b c:Int) (w:A0) (f:RS->A0->Prop):(bW V0 (λ_=>[]) 130 [ah p,aa v,.agg ⟨[aa k,ax a,ax b,ax c]⟩] w f)=(
 aN w ⟨[aa k,ax a,ax b,ax c]⟩ 31 λb d=>aN d ⟨[ax 0,aa 0]⟩ 61 λe d=>true=true/\cJ d (ad (ae b) 2) λx=>aG (decide (x>=65536)) (True/\aC d (ae e) [ax 0,aa 2] λd=>au d λw1=>aj w1 none (ae e) cA λ(x:Int×Int×Unit)=>f (x.1,x.2.1,()) w1) (true=true/\cJ d (ad (ae b) 1) λx=>((!decide (x>=16))=true->true=true)/\aj d (some !decide (x>=16)) (ad (ae b) 3) rN λ(A:Int)=>aG (decide (x>=16)||decide (A>1)) (True/\aC d (ae
 e) [ax 0,aa 1] λd=>au d λw1=>aj w1 none (ae e) cA λ(x:Int×Int×Unit)=>f (x.1,x.2.1,()) w1) (true=true/\cJ d (ad (ae b) 1) λx=>true=true/\cJ d (ad (ae b) 2) λn=>true=true/\cJ d (ad (ae b) 3) λj=>bH p 2 d λB=> ∃(g:(Int×Int×Int×Bool×Int×Unit)×Bool×Unit),af A2 176 [ah B,aa (aJ .i64 x)] d (.tuple {toList:=[.agg ⟨[aa g.1.1,aa g.1.2.1,aa g.1.2.2.1,.bool g.1.2.2.2.1,aa g.1.2.2.2.2.1]⟩,.bool
 g.2.1]})/\aN d ⟨[aa 0,aa 0,aa 0,.bool false,aa 0]⟩ 255 λb d=>aC d (ae b) [aa g.1.1,aa g.1.2.1,aa g.1.2.2.1,.bool g.1.2.2.2.1,aa g.1.2.2.2.2.1] λd=>aG (!g.2.1) (True/\aC d (ae e) [ax 0,aa 4] λd=>au d λw1=>aj w1 none (ae e) cA λ(x:Int×Int×Unit)=>f (x.1,x.2.1,()) w1) (true=true/\aV d (ad (ae b) 2) λo=>((!o != v&&j==1)=true->true=true)/\aj d (some (!o != v&&j==1)) (ad (ae b) 3) rO λC=>aG
 (o != v||j==1&& !C) (True/\aC d (ae e) [ax 0,aa 7] λd=>au d λw1=>aj w1 none (ae e) cA λ(x:Int×Int×Unit)=>f (x.1,x.2.1,()) w1) (true=true/\aV d (ad (ae b) 0) λD=>true=true/\aV d (ad (ae b) 1) λE=>aA A2 81 (.bA [.one (.int .i64),.one (.int .i64),.one (.int .i64)]) [ah p,aa D,aa E] d λ(h:Int×Int×Int×Unit) d=>aG (h.2.2.1 != 0) (True/\aC d (ae e) [ax 0,aa 4] λd=>au d λw1=>aj w1 none (ae e) cA λ
 (x:Int×Int×Unit)=>f (x.1,x.2.1,()) w1) (true=true/\aV d (ad (ae b) 0) λF=>true=true/\aV d (ad (ae b) 1) λG=> ∃(q:Int×Bool×Unit),af A2 174 [ah p,aa F,aa G] d (.tuple ⟨[aa q.1,.bool q.2.1]⟩)/\aG q.2.1 (True/\aC d (ae e) [ax 0,aa 7] λd=>au d λw1=>aj w1 none (ae e) cA λ(x:Int×Int×Unit)=>f (x.1,x.2.1,()) w1) (bH p 2 d λH=>aA A2 181 (.el aX) [ah H,aa (aJ .i64 x),aa v,
 .bool (j==1)] d λ(z:Int) d=>aG (z != 0) (True/\aC d (ae e) [ax 0,aa z] λd=>au d λw1=>aj w1 none (ae e) cA λ(x:Int×Int×Unit)=>f (x.1,x.2.1,()) w1) (aG (j==1) (p.isSome=true/\p.isSome=true/\((ad p 4).isSome=true/\0<=v/\v<(↑17:Int))/\gg d (ad (ad p 4) (v.toNat*1)) λs=>bH s 0 d λt=>aA A2 173 (.el aX) [ah t,aa (aJ .i64 n),aa h.1,aa (orI .i64 1 2)] d λ(l:Int) d=>aG (l != 0) (bH p 2 d λi
 =>aA A2 182 (.el aX) [ah i,aa (aJ .i64 x),aa v] d λ(x:Int) d=>True/\aC d (ae e) [ax 0,aa l] λd=>au d λw1=>aj w1 none (ae e) cA λ(x:Int×Int×Unit)=>f (x.1,x.2.1,()) w1) (bH p 1 d λi=>aA A2 183 (.el aX) [ah i,aa h.1,aa 1] d λ(I:Int) d=>p.isSome=true/\p.isSome=true/\((ad p 4).isSome=true/\0<=v/\v<(↑17:Int))/\gg d (ad (ad p 4) (v.toNat*1)) λu=>tc u 1 d λy=> ∀w1,Ext d w1-> ∃(r
 :Nat), ∃(es:Array AM), ∃(m:Nat),y=some r/\bI w1 r es m/\ib w1 r .i64 (aJ .i64 n) (.agg ⟨[aa (aJ .i64 x),aa h.1]⟩) es m λd=>aC d (ae e) [ax 0,aa 0] λd=>au d λw1=>aj w1 none (ae e) cA λ(x:Int×Int×Unit)=>f (x.1,x.2.1,()) w1)) (p.isSome=true/\p.isSome=true/\((ad p 4).isSome=true/\0<=v/\v<(↑17:Int))/\gg d (ad (ad p 4) (v.toNat*1)) λs=>bH s 0 d λt=>aA A2 173 (.el aX) [ah t,aa (aJ .i64 n),
 aa h.1,aa 1] d λ(l:Int) d=>aG (l != 0) (bH p 2 d λi=>aA A2 182 (.el aX) [ah i,aa (aJ .i64 x),aa v] d λ(x:Int) d=>True/\aC d (ae e) [ax 0,aa l] λd=>au d λw1=>aj w1 none (ae e) cA λ(x:Int×Int×Unit)=>f (x.1,x.2.1,()) w1) (bH p 1 d λi=>aA A2 183 (.el aX) [ah i,aa h.1,aa 1] d λ(I:Int) d=>p.isSome=true/\p.isSome=true/\((ad p 4).isSome=true/\0<=v/\v<(↑17:Int))/\gg
 d (ad (ad p 4) (v.toNat*1)) λu=>tc u 1 d λy=> ∀w1,Ext d w1-> ∃(r:Nat), ∃(es:Array AM), ∃(m:Nat),y=some r/\bI w1 r es m/\ib w1 r .i64 (aJ .i64 n) (.agg ⟨[aa (aJ .i64 x),aa h.1]⟩) es m λd=>aC d (ae e) [ax 0,aa 0] λd=>au d λw1=>aj w1 none (ae e) cA λ(x:Int×Int×Unit)=>f (x.1,x.2.1,()) w1)))))))))):=by kernel_rfl
abbrev n9 (a:RS->A0->Prop) (b:A0) (c:Nat):Prop:=
 au b λw1=>aj w1 none (ae c) cA λ(x:Int×Int×Unit)=>a (x.1,x.2.1,()) w1
theorem Ms (p:Option AC) (v k a b c:Int) (w:A0) (f:RS->A0->Prop):(bW V0 (λ_=>[]) 131 [ah p,aa v,.agg ⟨[aa k,ax a,ax b,ax c]⟩] w f)=(
 aN w ⟨[aa k,ax a,ax b,ax c]⟩ 31 λb d=>aN d ⟨[ax 0,aa 0]⟩ 61 λe d=>true=true/\cJ d (ad (ae b) 1) λx=>aG (decide (x>=65536)) (True/\aC d (ae e) [ax 0,aa 2] λd=>n9 f d e) (true=true/\cJ d (ad (ae b) 1) λx=> ∃(g:Int×Bool×Unit),af A2 174 [ah p,aa v,aa (aJ .i64 x)] d (.tuple ⟨[aa g.1,.bool g.2.1]⟩)/\aG (!g.2.1) (True/\aC d (ae e) [ax 0,aa 4] λd=>n9 f d e) (true=
 true/\cJ d (ad (ae b) 1) λx=>aA A2 167 (.bA []) [ah p,aa v,aa (aJ .i64 x)] d λx d=>aC d (ae e) [ax 0,aa 0] λd=>n9 f d e))):=by kernel_rfl
theorem Fc (p:Option AC) (v k a b c:Int) (w:A0) (f:RS->A0->Prop):(bW V0 (λ_=>[]) 132 [ah p,aa v,.agg ⟨[aa k,ax a,ax b,ax c]⟩] w f)=(
 aN w ⟨[aa k,ax a,ax b,ax c]⟩ 31 λb d=>aN d ⟨[ax 0,aa 0]⟩ 61 λe d=>true=true/\cJ d (ad (ae b) 1) λx=>aG (decide (x>=16)) (True/\aC d (ae e) [ax 0,aa 1] λd=>au d λw1=>aj w1 none (ae e) cA λ(x:Int×Int×Unit)=>f (x.1,x.2.1,()) w1) (bH p 2 d λx=>true=true/\cJ d (ad (ae b) 1) λg=>aA A2 184 (.el aX) [ah x,aa (aJ .i64 g),aa v] d λ(x:Int) d=>True/\aC d (ae e) [ax 0,aa x]
 λd=>au d λw1=>aj w1 none (ae e) cA λ(x:Int×Int×Unit)=>f (x.1,x.2.1,()) w1)):=by kernel_rfl
theorem Mt (p:Option AC) (v k a b c:Int) (w:A0) (f:RS->A0->Prop):(bW V0 (λ_=>[]) 133 [ah p,aa v,.agg ⟨[aa k,ax a,ax b,ax c]⟩] w f)=(
 aN w ⟨[aa k,ax a,ax b,ax c]⟩ 31 λb d=>aN d ⟨[ax 0,aa 0]⟩ 61 λe d=>true=true/\cJ d (ad (ae b) 1) λx=> ∃(g:Int),af A2 179 [ah p,aa v,ax x] d (aa g)/\aG (g != 0) (True/\aC d (ae e) [ax 0,aa g] λd=>au d λw1=>aj w1 none (ae e) cA λ(x:Int×Int×Unit)=>f (x.1,x.2.1,()) w1) (bH p 3 d λx=>true=true/\cJ d (ad (ae b) 1) λh=>aA A2 185 (.bA [.one (.int .i64),.one (.int .i64)])
 [ah x,aa v,aa (aJ .i64 h)] d λ(x:Int×Int×Unit) d=>aC d (ae e) [ax (aJ .u64 x.1),aa x.2.1] λd=>au d λw1=>aj w1 none (ae e) cA λ(x:Int×Int×Unit)=>f (x.1,x.2.1,()) w1)):=by kernel_rfl
abbrev n_ (a:RS->A0->Prop) (b:A0) (c:Nat):Prop:=
 au b λw1=>aj w1 none (ae c) cA λ(x:Int×Int×Unit)=>a (x.1,x.2.1,()) w1
theorem Mv (p:Option AC) (v k a b c:Int) (w:A0) (g:RS->A0->Prop):(bW V0 (λ_=>[]) 134 [ah p,aa v,.agg ⟨[aa k,ax a,ax b,ax c]⟩] w g)=(
 aN w ⟨[aa k,ax a,ax b,ax c]⟩ 31 λb d=>aN d ⟨[ax 0,aa 0]⟩ 61 λe d=>true=true/\cJ d (ad (ae b) 1) λx=> ∃(f:Int),af A2 179 [ah p,aa v,ax x] d (aa f)/\((!f==1)=true->true=true)/\aj d (some !f==1) (ad (ae b) 2) rN λ(x:Int)=>aG (f==1||decide (x>=4)) (True/\aC d (ae e) [ax 0,aa 1] λd=>n_ g d e) (aG (f != 0) (True/\aC d (ae e) [ax 0,aa f] λd=>n_ g d e)
 (bH p 3 d λx=>true=true/\cJ d (ad (ae b) 1) λh=>true=true/\cJ d (ad (ae b) 2) λi=>aA A2 186 (.bA [.one (.int .i64),.one (.int .i64)]) [ah x,aa v,aa (aJ .i64 h),aa (aJ .i64 i)] d λ(x:Int×Int×Unit) d=>aC d (ae e) [ax (aJ .u64 x.1),aa x.2.1] λd=>n_ g d e))):=by kernel_rfl
theorem Mw (p:Option AC) (v k a b c:Int) (w:A0) (f:RS->A0->Prop):(bW V0 (λ_=>[]) 135 [ah p,aa v,.agg ⟨[aa k,ax a,ax b,ax c]⟩] w f)=(
 aN w ⟨[aa k,ax a,ax b,ax c]⟩ 31 λb d=>aN d ⟨[ax 0,aa 0]⟩ 61 λe d=>true=true/\cJ d (ad (ae b) 1) λx=>aG (decide (x>=4)) (True/\aC d (ae e) [ax 0,aa 1] λd=>au d λw1=>aj w1 none (ae e) cA λ(x:Int×Int×Unit)=>f (x.1,x.2.1,()) w1) (bH p 3 d λx=>true=true/\cJ d (ad (ae b) 1) λg=>aA A2 187 (.el aX) [ah x,aa v,aa (aJ .i64 g)] d λ(x:Int) d=>True/\aC d (ae e) [ax 0,aa x] λ
 d=>au d λw1=>aj w1 none (ae e) cA λ(x:Int×Int×Unit)=>f (x.1,x.2.1,()) w1)):=by kernel_rfl
theorem Mx (p:Option AC) (v k a b c:Int) (w:A0) (e:RS->A0->Prop):(bW V0 (λ_=>[]) 136 [ah p,aa v,.agg ⟨[aa k,ax a,ax b,ax c]⟩] w e)=(
 aN w ⟨[aa k,ax a,ax b,ax c]⟩ 31 λb d=>aN d ⟨[ax 0,aa 0]⟩ 61 λb d=>bH p 3 d λx=>aA A2 188 (.bA [.one (.int .i64),.one .bool]) [ah x,aa v] d λ(x:Int×Bool×Unit) d=>aG (!x.2.1) (aC d (ae b) [ax 0,aa 0] λd=>au d λw1=>aj w1 none (ae b) cA λ(x:Int×Int×Unit)=>e (x.1,x.2.1,()) w1) (aC d (ae b) [ax (aJ .u64 (aH .i64 x.1 1)),aa 0] λd=>au d λw1=>aj w1 none (ae b) cA λ(x:Int×Int×Unit)=>e
 (x.1,x.2.1,()) w1)):=by kernel_rfl
theorem HJ (p:Option AC) (v k a b c:Int) (w:A0) (f:RS->A0->Prop):(bW V0 (λ_=>[]) 137 [ah p,aa v,.agg ⟨[aa k,ax a,ax b,ax c]⟩] w f)=(
 aN w ⟨[aa k,ax a,ax b,ax c]⟩ 31 λb d=>aN d ⟨[ax 0,aa 0]⟩ 61 λe d=>true=true/\cJ d (ad (ae b) 1) λx=>aG (decide (x>=4)) (True/\aC d (ae e) [ax 0,aa 1] λd=>au d λw1=>aj w1 none (ae e) cA λ(x:Int×Int×Unit)=>f (x.1,x.2.1,()) w1) (bH p 3 d λx=>true=true/\cJ d (ad (ae b) 1) λg=>aA A2 189 (.el aX) [ah x,aa v,aa (aJ .i64 g)] d λ(x:Int) d=>True/\aC d (ae e) [ax 0,aa x] λ
 d=>au d λw1=>aj w1 none (ae e) cA λ(x:Int×Int×Unit)=>f (x.1,x.2.1,()) w1)):=by kernel_rfl
abbrev lf (a:RS->A0->Prop) (b:A0) (c:Nat):Prop:=
 au b λw1=>aj w1 none (ae c) cA λ(x:Int×Int×Unit)=>a (x.1,x.2.1,()) w1
abbrev Bu (d:RS->A0->Prop) (f:A0) (b:Nat) (e:Int×Int×Unit) (c:Nat):Prop:=
 aC f (ae b) [ax e.1,aa e.2.1] λa=>true=true/\aV a (ad (ae b) 1) λx=>aG (x != 0) (true=true/\aV a (ad (ae b) 1) λx=>True/\aC a (ae c) [ax 0,aa x] λa=>lf d a c) (aj a none (ae b) cA λ(x:Int×Int×Unit)=>aC a (ae c) [ax x.1,aa x.2.1] λa=>lf d a c)
abbrev Bv (p:Option AC) (v:Int) (b:RS->A0->Prop) (c:AF) (a:Int×Int×Int×Int×Unit) (d:A0) (e:Nat) (f:Nat):Prop:=
 z4 A2 c (.el cA) [ah p,aa v,.agg ⟨[aa a.1,ax a.2.1,ax a.2.2.1,ax a.2.2.2.1]⟩] d λ(x:Int×Int×Unit) g=>Bu b g e x f
theorem Z9 (p:Option AC) (v k a b c:Int) (w:A0) (f:RS->A0->Prop):(bW V1 (λ_=>[]) 42 [ah p,aa v,.agg ⟨[aa k,ax a,ax b,ax c]⟩] w f)=(
 aN w ⟨[aa k,ax a,ax b,ax c]⟩ 31 λb d=>aN d ⟨[ax 0,aa 0]⟩ 61 λe d=> ∃x,af A2 53 [ah p] d (.bool x)/\aG (!x) (True/\aC d (ae e) [ax 0,aa 10] λd=>lf f d e) (aj d (some !(decide (v<0)||decide (v>16))) (ae b) uW λ(x:Int×Int×Int×Int×Unit)=> ∃j,((!(decide (v<0)||decide (v>16)))=true->af A2 76 [.agg ⟨[aa x.1,ax x.2.1,ax x.2.2.1,ax x.2.2.2.1]⟩] d (.bool j))/\aG (decide (v<0)||decide (v>16)
 || !j) (True/\aC d (ae e) [ax 0,aa 1] λd=>lf f d e) (true=true/\aV d (ad (ae b) 0) λx=> ∃l,af A2 77 [aa x] d (.bool l)/\aG (!(v==0)==l) (True/\aC d (ae e) [ax 0,aa 7] λd=>lf f d e) (∃x,(decide (v>0)=true->af A2 19 [ah p,aa v] d (.bool x))/\aG (decide (v>0)&& !x) (True/\aC d (ae e) [ax 0,aa 4] λd=>lf f d e) (true=true/\aV d (ad (ae b) 0) λx=>aj d none (ae b) uW λ(g:Int
 ×Int×Int×Int×Unit)=>(aA A2 78 (.el On) [] d λi d=>cU d (ae b) uW g/\cU d (ad (ae b) 0) aX x/\True/\ ∃(h:AF),j8 d i .i64 x Hb h/\(z4 A2 h (.el cA) [ah p,aa v,.agg ⟨[aa g.1,ax g.2.1,ax g.2.2.1,ax g.2.2.2.1]⟩] d λ(x:Int×Int×Unit) d=>aN d ⟨[ax 0,aa 0]⟩ 61 λb d=>Bu f d b x e)/\aN d ⟨[ax 0,aa 0]⟩ 61 λb d=>Bv p v f h g d b e)/\aN d ⟨[ax 0,aa 0]⟩ 61 λm
 d=>aA A2 78 (.el On) [] d λi d=>cU d (ae b) uW g/\cU d (ad (ae b) 0) aX x/\True/\ ∃(h:AF),j8 d i .i64 x Hb h/\Bv p v f h g d m e))))):=by kernel_rfl
open Go.RX D
def px:Nat->Int->Int
 |0,p=>p
 |l+1,p=>px l p / 16
theorem W7 {p:Int} (h:0<=p/\p<65536):px 4 p=0:=by grind[px]
theorem nU (p:Int) (l:Nat):px l p=16*px (l+1) p+px l p % 16:=by grind[px]
theorem eh (p:Int) (l:Nat):0<=px l p % 16/\px l p % 16<16:=by omega
theorem Z_ {p:Int} (h:0<=p/\p<65536) {l:Nat} (a:l<=3):fl p (l:Int)=px l p % 16:=by
 unfold fl;rw[av (by omega)];congr;rcases l with _| _| _| _|l
 ·show p / 1=p;omega
 ·rfl
 ·show p / 256=p / 16 / 16;omega
 ·show p / 4096=p / 16 / 16 / 16;omega
 grind
theorem kM {f p:Int} (b:0<=f/\f<4096) (h:0<=p/\p<65536) {l:Nat} (a:l<=3):ee f p (l:Int)=16*f+px l p % 16:=by
 unfold ee;rw[Z_ h a,ao (by omega)]
theorem py:eZ 0=zE:=rfl
theorem Kq:dI zE=false:=rfl
theorem HK (v:Int):bU (eZ v).1 (eZ v).2.1 (eZ v).2.2.1 (eZ v).2.2.2.1=true:=by
 unfold eZ Il FF J' Fl;cases h:uG _ with
 |false=>simp;decide
 |true=>
  unfold uG at h
  grind
theorem xI {p:Bool} {r:Int} {l:Bool} {f:Int} (h:bU p r l f=true):eZ (FE p r l f)=(p,r,l,f,()):=by
 have hb:=y7 h;unfold FE;rw[av h];obtain⟨h1,v,k,w,m⟩:=hb;obtain⟨r,rfl⟩:=H7 h1;obtain⟨f,rfl⟩:=H7 k;have key: ∀n:Nat,vK p (r:Int) l (f:Int)=(n:Int)->n<18446744073709551616->(n % 2==1)=p->n / 2 % 8=r->(n / 16 % 2==1)=l->n / 32 % 128=0->n / 4096 % 4096=f->n / 16777216 % 1099511627776=0->eZ (vK p (r:Int) l (f:Int))=(p,(r:Int),l,(f:Int),()):=by
  intro n e x d g i o j q;have s:(B (vK p (r:Int) l (f:Int))).toNat=n:=by rw[e,IH (by omega) (by omega)];omega
  have ok:uG n=true:=by
   unfold uG;rw[o,q,d,g,i,j,h];decide
  unfold eZ Il FF J' Fl;rw[s,ok,d,g,i,j];simp
 cases p with
 |false=>
  obtain⟨a,b,c⟩:=m rfl;subst b;have t:r=0:=by omega
  have u:f=0:=by omega
  subst t;subst u;exact key 0 rfl (by decide) rfl rfl rfl rfl rfl rfl
 |true=>
  have y:nB l<=1:=OP l;refine key (1+2*r+16*nB l+4096*f) ?_ (by omega) ?_ (by omega) ?_ (by omega) (by omega) (by omega)
  ·unfold vK;have:nB true=1:=rfl;rw[this];omega
  grind
  ·have:(1+2*r+16*nB l+4096*f) / 16 % 2=nB l:=by omega
   rw[this];cases l<;>rfl
theorem lR (ws:List Int) (a:Int):bU (aK ws a).1 (aK ws a).2.1 (aK ws a).2.2.1 (aK ws a).2.2.2.1=true:=HK _
theorem dF {f:Int} (h:0<=f/\f<4096):dI (cv f)=true:=by grind[dI,cv,fL,bU]
theorem HL {f:Int} (h:0<=f/\f<4096):bU true 0 false f=true:=by grind[bU]
theorem R9 {f:Int} (h:0<=f/\f<4096):eZ (TJ (cv f))=cv f:=xI (HL h)
theorem iK {ws:List Int} {i:Int} (h:0<=i) (h':i<ws.length):uH ws i=true:=jo.2 ⟨h,h'⟩
theorem tx {ws:List Int} {a v:Int} (h:uH ws a=true):cL (dC ws a v) a=v:=by
 have hi:=jo.1 h;have b:uH (dC ws a v) a=true:=jo.2 (by grind[cF]);unfold cL;rw[av b];unfold dC
 grind
theorem mi {ws:List Int} {a b v:Int} (h:a≠b):cL (dC ws a v) b=cL ws b:=by
 have e:uH (dC ws a v) b=uH ws b:=by unfold uH;rw[cF]
 unfold cL;rw[e];by_cases hb:uH ws b=true
 ·rw[av hb];unfold dC;split
  ·rename_i c;have h1:=jo.1 c;have d:=jo.1 hb
   grind
  ·rfl
 grind
theorem tA {ws:List Int} {f:Int} {G:Int->Int} (a:0<=f) (c:16*f+16<=ws.length): ∀n:Nat,n<=16-> ∀b,cL (e8 ws f G n) b=if 16*f<=b/\b<16*f+(n:Int) then G (b - 16*f) else cL ws b
 |0, _,b=>by rw[ao (by omega)];rfl
 |n+1,d,b=>by
  rw[e8];by_cases e:16*f+n=b
  ·subst e;rw[tx (by grind[iK,gT])]
   grind
  ·rw[mi e,tA a c n (by omega)]
   grind
theorem Es {ds:List DT} (h:0<cg ds 0): ∃i d,iR ds=some i/\i<ds.length/\ds[i]? =some d/\d.1=0:=by
 unfold cg at h;rw[List.countP_pos_iff] at h;cases a:iR ds with
 |none=>
  unfold iR at a
  grind
 |some=>
  unfold iR at a;rw[FX] at a
  grind
theorem Bw {o:Int} (h:1<=o/\o<=16):aP 3 o zD=((3,o,0,0,()),0):=by
 have e:h_ 0 0 0 0 3 o=0:=by
  unfold h_;rw[ao (by decide),ao (by grind),av (by decide)];unfold dT jO
  grind
 unfold aP zD mS lD
 grind
theorem ng {ds:List DT} {o:Int} (h:0<cg ds 0) (b: ∀d∈ds,d.1=0->d=zD) (a:1<=o/\o<=16): ∃i:Nat,i<ds.length/\ds[i]? =some zD/\fg ds 3 o=(i:Int)/\dN ds 3 o=0/\dE ds 3 o=ds.set i (3,o,0,0,()):=by
 obtain⟨i,d,h1,c,e,f⟩:=Es h;have g:d=zD:=b d (by grind) f;subst g;have hg:ds.getD i zD=zD:=by grind
 have j:vB ds i (aP 3 o)=0:=by
  rw[yJ (by omega)];show(aP 3 o (ds.getD i zD)).2=0;rw[hg,Bw a]
 have k:dH ds i (aP 3 o)=ds.set i (3,o,0,0,()):=by
  rw[pG (by omega)];show(if(aP 3 o (ds.getD i zD)).2=0 then ds.set i (aP 3 o (ds.getD i zD)).1 else ds)= _;rw[hg,Bw a,av rfl]
 refine⟨i,c,e,?_,?_,?_⟩
 ·unfold fg;grind
 ·unfold dN;grind
 ·unfold dE;grind
theorem qi {ds:List DT} {i:Nat} {d d':DT} (h:ds[i]? =some d) (v:Int):cg (ds.set i d') v+(if d.1=v then 1 else 0)=cg ds v+(if d'.1=v then 1 else 0):=by grind[cg]
theorem Et {o:Int} (h:1<=o/\o<=16):aP 5 0 (3,o,0,0,())=((5,o,0,0,()),0):=by
 have a:dT 3 o 0 0=true:=by unfold dT jO;grind
 have b:dT 5 o 0 0=true:=by unfold dT jO;grind
 have e:h_ 3 o 0 0 5 0=0:=by
  unfold h_;rw[ao (by grind),ao (by grind),av (by decide),ao (by grind)]
 unfold aP mS lD
 grind
abbrev Gh:Type:=Int->Option (Int×Nat×Int)
def mN (g:Gh) (f:Int) (v:Option (Int×Nat×Int)):Gh:=λx=>if x=f then v else g x
theorem bK (g:Gh) (f:Int) (v:Option (Int×Nat×Int)):mN g f v f=v:=av rfl
theorem aZ {g:Gh} {f x:Int} (h:x≠f) (v:Option (Int×Nat×Int)):mN g f v x=g x:=ao h
def lI (l:Nat) (e:ET):Prop:=e.1=true->dI e=false->(l=0/\e.2.2.1=false)\/(l=1/\e.2.2.1=true/\e.2.2.2.1 % 16=0)
theorem DU (l:Nat):lI l zE:=λh=>by cases h
theorem abF (l:Nat) {e:ET} (h:dI e=true):lI l e:=λh'=>by grind
structure Inv (g:Gh) (s:WD):Prop where
 len:16*s.2.length<=s.1.length
 le:s.2.length<=4096
 fz: ∀d∈s.2,d.1=0->d=zD
 kd: ∀{f o l x},g f=some (o,l,x)->0<=f/\f<s.2.length/\s.2[f.toNat]? =some (3,o,0,0,())/\1<=o/\o<=16/\l<=3
 inj: ∀{f f' v},g f=some v->g f'=some v->f=f'
 sP: ∀{f o l x i},g f=some (o,l,x)->0<=i->i<16->dI (aK s.1 (16*f+i))=true-> ∃m,l=m+1/\g (aK s.1 (16*f+i)).2.2.2.1=some (o,m,16*x+i)
 leaf: ∀{f o l x i},g f=some (o,l,x)->0<=i->i<16->lI l (aK s.1 (16*f+i))
 Fo: ∀{f o l x},g f=some (o,l,x)->l<3-> ∃f',g f'=some (o,l+1,x / 16)/\aK s.1 (16*f'+x % 16)=cv f
 wf: ∀{f o l x i},g f=some (o,l,x)->0<=i->i<16->(aK s.1 (16*f+i)).1=false->cL s.1 (16*f+i)=0
 tb: ∀{n:Nat} {d},s.2[n]? =some d->d.1=3-> ∃v,g (n:Int)=some v
def dx (g:Gh) (s:WD) (o p f:Int) (j:Nat):Prop:=g f=some (o,j,px (j+1) p)/\dI (aK s.1 (16*f+px j p % 16))=false
theorem gx {ws:List Int} {a v b:Int} (h:a≠b):aK (dC ws a v) b=aK ws b:=by grind[aK,mi]
theorem zb {ws:List Int} {a v:Int} (h:uH ws a=true):aK (dC ws a v) a=eZ v:=by grind[aK,tx]
namespace Inv
variable {g:Gh} {s:WD}
theorem uR (I:Inv g s) {f o:Int} {l:Nat} {x:Int} (h:g f=some (o,l,x)):0<=f/\f<4096/\16*f+16<=s.1.length:=by
 have:=I.kd h;have:=I.len;have:=I.le;omega
theorem reach (I:Inv g s) {o r p:Int} (c:g r=some (o,3,0)) (b:0<=p/\p<65536): ∀(n:Nat) {f:Int} {j:Nat},j+n=3->g f=some (o,j,px (j+1) p)-> ∃a,dm s.1 p 3 r=a++dm s.1 p j f
 |0,f,j,d,h=>by
  have:j=3:=by omega
  subst this;rw[W7 b] at h;rw[I.inj h c];simp
 |n+1,f,j,d,h=>by
  obtain⟨f',h1,i⟩:=I.Fo h (by omega);have k:=h1;obtain⟨a,u⟩:=I.reach c b n (by omega) k;obtain⟨l,m, _⟩:=I.uR h1;refine⟨a++[(f',(j+1:Int),ee f' p (j+1:Nat),())],?_⟩;have q:j+1<=3:=by omega
  have e:dm s.1 p (j+1) f'=(f',(j+1:Int),ee f' p (j+1:Nat),())::dm s.1 p j f:=by
   rw[dm];have t:aK s.1 (ee f' p (j+1:Nat))=cv f:=by rw[kM ⟨l,m⟩ b q];exact i
   obtain⟨c1,c2, _⟩:=I.uR h;rw[t,av (dF ⟨c1,c2⟩)];rfl
  grind
theorem acs {ws:List Int} {p f:Int} {j:Nat} (h:dI (aK ws (ee f p (j:Int)))=false):dm ws p j f=[(f,(j:Int),ee f p (j:Int),())]:=by
 cases j with
 |zero=>rfl
 |succ=>rw[dm,ao (by grind)]
theorem mn (I:Inv g s) {o r p:Int} (e:g r=some (o,3,0)) (b:0<=p/\p<65536) {f:Int} {j:Nat} (h:dx g s o p f j):
 dJ s.1 r p=(f,(j:Int),16*f+px j p % 16,())/\cW s.1 r p=aK s.1 (16*f+px j p % 16):=by
 have i:=I.kd h.1;obtain⟨k,l, _⟩:=I.uR h.1;obtain⟨a,m⟩:=I.reach e b (3 - j) (by omega) h.1;have c:=kM ⟨k,l⟩ b i.2.2.2.2.2;have d:dJ s.1 r p=(f,(j:Int),16*f+px j p % 16,()):=by
  unfold dJ;rw[m,acs (by rw[c];exact h.2),c,List.getLastD_concat]
 exact⟨d,by unfold cW;rw[d]⟩
theorem PG (I:Inv g s) {o p:Int}: ∀(l:Nat) {f:Int},g f=some (o,l,px (l+1) p)-> ∃f' j,j<=l/\dx g s o p f' j
 |l,f,h=>by
  cases a:dI _ with
  |false=>exact⟨f,l,by simp,h,a⟩
  |true=>
   obtain⟨m,rfl,b⟩:=I.sP h (eh p l).1 (eh p l).2 a;rw[<-nU] at b;obtain:=I.PG m b
   grind
theorem lJ (I:Inv g s) {o r p:Int} (a:g r=some (o,3,0)) (b:0<=p/\p<65536): ∃f j,j<=3/\dx g s o p f j:=I.PG 3 (by rw[W7 b];exact a)
theorem grow (I:Inv g s) {f o x i:Int} {m:Nat} (r:g f=some (o,m+1,x)) (Iq:0<=i) (z8:i<16) (l:dI (aK s.1 (16*f+i))=false) (hc:0<cg s.2 0) (G:Int->Int)
 (J: ∀k,0<=k->k<16->dI (eZ (G k))=false/\lI m (eZ (G k))/\((eZ (G k)).1=false->G k=0)):
 rH s o=0/\g (eK s o)=none/\0<=eK s o/\eK s o<s.2.length/\(dR (jc s o G) (16*f+i) (cv (eK s o))).2=s.2.set (eK s o).toNat (3,o,0,0,())/\s.2[(eK s o).toNat]? =some zD/\
 (∀b,b≠16*f+i->(b<16*eK s o\/16*eK s o+16<=b)->aK (dR (jc s o G) (16*f+i) (cv (eK s o))).1 b=aK s.1 b)/\
 (∀k,0<=k->k<16->aK (dR (jc s o G) (16*f+i) (cv (eK s o))).1 (16*eK s o+k)=eZ (G k))/\
 aK (dR (jc s o G) (16*f+i) (cv (eK s o))).1 (16*f+i)=cv (eK s o)/\
 Inv (mN g (eK s o) (some (o,m,16*x+i))) (dR (jc s o G) (16*f+i) (cv (eK s o))):=by
 have B:=I.kd r;obtain⟨n,T,M,j,C,N⟩:=ng hc I.fz ⟨B.2.2.2.1,B.2.2.2.2.1⟩;have O:eK s o=(n:Int):=j;have P:rH s o=0:=C;have U:=I.len;have V:=I.le;have X:16*(n:Int)+16<=s.1.length:=by omega
 obtain⟨W,D⟩: ∃W,W=e8 s.1 (n:Int) G 16:=⟨_,rfl⟩;have Q:W.length=s.1.length:=by rw[D,gT]
 have Y: ∀b,cL W b=if 16*(n:Int)<=b/\b<16*(n:Int)+16 then G (b - 16*(n:Int)) else cL s.1 b:=λb=>by
  rw[D];exact tA (by omega) X 16 (B4 _) b
 have Z:jc s o G=(W,s.2.set n (3,o,0,0,())):=by unfold jc;rw[av P,O,N,D]
 clear D;have ig:=I.uR r;have gn:g (n:Int)=none:=by
  cases hg:g (n:Int) with
  |none=>rfl
  |some v=>
   obtain⟨a,b,c⟩:=v;have:=(I.kd hg).2.2.1;rw[show((n:Int)).toNat=n from rfl,M] at this;cases this
 have E: ∀{f':Int} {v},g f'=some v->f'≠(n:Int):=λh e=>by rw[e,gn] at h;cases h
 have rF:f≠(n:Int):=E r;rw[Z,O];have Yn:uH (W) (16*f+i)=true:=iK (by omega) (by rw[Q];omega);have K: ∀b,b≠16*f+i->cL (dC (W) (16*f+i) (TJ (cv (n:Int)))) b=if 16*(n:Int)<=b/\b<16*(n:Int)+16 then G (b - 16*(n:Int)) else cL s.1 b:=λb hb=>by
  rw[mi (λe=>hb e.symm),Y b]
 have w0: ∀b,b≠16*f+i->aK (dC (W) (16*f+i) (TJ (cv (n:Int)))) b=if 16*(n:Int)<=b/\b<16*(n:Int)+16 then eZ (G (b - 16*(n:Int))) else aK s.1 b:=λb hb=>by
  unfold aK;rw[K b hb];split<;>rfl
 have w1: ∀b,b≠16*f+i->(b<16*(n:Int)\/16*(n:Int)+16<=b)->aK (dR (W,s.2.set n (3,o,0,0,())) (16*f+i) (cv (n:Int))).1 b=aK s.1 b:=λb hb h=>by
  show aK (dC _ _ _) b= _;rw[w0 b hb,ao (by omega)]
 have F: ∀k,0<=k->k<16->aK (dR (W,s.2.set n (3,o,0,0,())) (16*f+i) (cv (n:Int))).1 (16*(n:Int)+k)=eZ (G k):=λk h0 h1=>by
  show aK (dC _ _ _) _= _;rw[w0 _ (by omega),av (by omega)];congr 2;omega
 have y:aK (dR (W,s.2.set n (3,o,0,0,())) (16*f+i) (cv (n:Int))).1 (16*f+i)=cv (n:Int):=by
  show aK (dC _ _ _) _= _;rw[zb Yn,R9 (by omega)]
 refine⟨P,gn,by omega,by omega,rfl,by rw[show((n:Int)).toNat=n from rfl];exact M,w1,F,y,?_⟩;have fN: ∀{f0 t p k:Int} {u:Nat},g f0=some (t,u,p)->0<=k->k<16->(16*f0+k=16*f+i/\f0=f/\k=i)\/aK (dR (W,s.2.set n (3,o,0,0,())) (16*f+i) (cv (n:Int))).1 (16*f0+k)=aK s.1 (16*f0+k):=λ{f0 t p k u} h h0 h1=>by
  by_cases e:16*f0+k=16*f+i
  ·exact .inl ⟨e,by omega,by omega⟩
  ·have:=E h;exact .inr (w1 _ e (by omega))
 refine⟨?_,?_,?_,?_,?_,?_,?_,?_,?_,?_⟩
 ·show 16*(s.2.set n _).length<=(dC W _ _).length;rw[cF,Q,B1];exact U
 ·show(s.2.set n _).length<=4096;rw[B1];exact V
 ·intro d L h0;rcases Dq L with L|rfl
  ·exact I.fz d L h0
  ·cases h0
 ·intro f0 t u p h;show _/\ _<((s.2.set n (3,o,0,0,())).length:Int)/\(s.2.set n (3,o,0,0,()))[f0.toNat]? = _/\ _;rw[B1];by_cases e:f0=(n:Int)
  ·subst e;rw[bK] at h;cases h;refine⟨by omega,by omega,?_,B.2.2.2.1,B.2.2.2.2.1,by omega⟩;rw[show((n:Int)).toNat=n from rfl,Dx T]
  ·rw[aZ e] at h;obtain⟨a1,a2,a3,a4⟩:=I.kd h;refine⟨a1,a2,?_,a4⟩;rw[Bx (by omega)];exact a3
 ·intro a b v w hb;by_cases e:a=(n:Int)<;>by_cases e':b=(n:Int)
  ·rw[e,e']
  ·subst e;rw[bK] at w;rw[aZ e'] at hb;cases w;exfalso;obtain⟨f',p1,p2⟩:=I.Fo hb (by omega);have z:(16*x+i) / 16=x:=by omega
   have A:(16*x+i) % 16=i:=by omega
   rw[z] at p1;rw[A] at p2;rw[I.inj p1 r, ] at p2;rw[p2] at l;obtain⟨c1,c2, _⟩:=I.uR hb;rw[dF ⟨c1,c2⟩] at l;cases l
  ·subst e';rw[bK] at hb;rw[aZ e] at w;cases hb;exfalso;obtain⟨f',p1,p2⟩:=I.Fo w (by omega);have z:(16*x+i) / 16=x:=by omega
   have A:(16*x+i) % 16=i:=by omega
   rw[z] at p1;rw[A] at p2;rw[I.inj p1 r, ] at p2;rw[p2] at l;obtain⟨c1,c2, _⟩:=I.uR w;rw[dF ⟨c1,c2⟩] at l;cases l
  ·rw[aZ e] at w;rw[aZ e'] at hb;exact I.inj w hb
 ·intro f0 t u p k h h0 h1 H;by_cases e:f0=(n:Int)
  ·subst e;rw[F k h0 h1,(J k h0 h1).1] at H;cases H
  ·rw[aZ e] at h;rcases fN h h0 h1 with ⟨j,rfl,rfl⟩|j
   ·rw[j,y];rw[r] at h;cases h;exact⟨m,rfl,bK _ _ _⟩
   ·rw[j] at H ⊢;obtain⟨m',q1,R⟩:=I.sP h h0 h1 H;exact⟨m',q1,by rw[aZ (E R)];exact R⟩
 ·intro f0 t u p k h h0 h1;by_cases e:f0=(n:Int)
  ·subst e;rw[bK] at h;cases h;rw[F k h0 h1];exact(J k h0 h1).2.1
  ·rw[aZ e] at h;rcases fN h h0 h1 with ⟨j,rfl,rfl⟩|j
   ·rw[j,y];exact abF _ (dF (by omega))
   ·rw[j];exact I.leaf h h0 h1
 ·intro f0 t u p h hl;by_cases e:f0=(n:Int)
  ·subst e;rw[bK] at h;cases h;have z:(16*x+i) / 16=x:=by omega
   have A:(16*x+i) % 16=i:=by omega
   exact⟨f,by rw[aZ rF,z];exact r,by rw[A];exact y⟩
  ·rw[aZ e] at h;obtain⟨f',p1,p2⟩:=I.Fo h hl;refine⟨f',by rw[aZ (E p1)];exact p1,?_⟩;rcases fN p1 (by omega:0<=p % 16) (by omega) with ⟨j,rfl,N⟩|j
   ·exfalso;rw[j] at p2;rw[p2] at l;obtain⟨c1,c2, _⟩:=I.uR h;rw[dF ⟨c1,c2⟩] at l;cases l
   ·rw[j];exact p2
 ·intro f0 t u p k h h0 h1 q;by_cases e:f0=(n:Int)
  ·subst e;rw[F k h0 h1] at q;show cL (dC _ _ _) _=0;rw[K _ (by omega),av (by omega),show 16*(n:Int)+k - 16*(n:Int)=k from by omega];exact(J k h0 h1).2.2 q
  ·rw[aZ e] at h;rcases fN h h0 h1 with ⟨j,rfl,rfl⟩|j
   ·rw[j,y] at q;cases q
   ·rw[j] at q;have hb:16*f0+k≠16*f+i:=λC=>by
     rw[C,y] at j;rw[C, <-j] at q;cases q
    show cL (dC _ _ _) _=0;rw[K _ hb,ao (by omega)];exact I.wf h h0 h1 q
 ·intro S d qH h3;by_cases e:S=n
  ·subst e;exact⟨_,bK _ _ _⟩
  ·have h':(s.2.set n (3,o,0,0,()))[S]? =some d:=qH;rw[Bx (by omega)] at h';obtain⟨v,hv⟩:=I.tb h' h3;exact⟨v,by rw[aZ (by omega)];exact hv⟩
theorem VV (I:Inv g s) {f o x i v:Int} {l:Nat} (t:g f=some (o,l,x)) (z:0<=i) (A:i<16) (d:dI (aK s.1 (16*f+i))=false) (hv:dI (eZ v)=false) (q:lI l (eZ v)) (u:(eZ v).1=false->v=0):
 aK (dC s.1 (16*f+i) v) (16*f+i)=eZ v/\Inv g (dC s.1 (16*f+i) v,s.2):=by
 have B:=I.uR t;have r:uH s.1 (16*f+i)=true:=iK (by omega) (by omega);have j:=zb (v:=v) r;have fN: ∀{f0 k:Int},0<=k->k<16->(16*f0+k=16*f+i/\f0=f/\k=i)\/aK (dC s.1 (16*f+i) v) (16*f0+k)=aK s.1 (16*f0+k):=λ{f0 k} h0 h1=>by
  by_cases e:16*f0+k=16*f+i
  grind
  ·exact .inr (gx (λe'=>e e'.symm))
 refine⟨j,by rw[cF];exact I.len,I.le,I.fz,I.kd,I.inj,?_,?_,?_,?_,I.tb⟩
 ·intro f0 m n b k h h0 h1 p;rcases fN (f0:=f0) h0 h1 with ⟨a,rfl,rfl⟩|a
  ·rw[j,hv] at p;cases p
  ·have w:dI (aK s.1 (16*f0+k))=true:=by rw[<-a];exact p
   rw[a];exact I.sP h h0 h1 w
 ·intro f0 m n b k h h0 h1;rcases fN (f0:=f0) h0 h1 with ⟨a,rfl,rfl⟩|a
  grind
  ·rw[a];exact I.leaf h h0 h1
 ·intro f0 m n b h q;obtain⟨f',p1,p2⟩:=I.Fo h q;refine⟨f',p1,?_⟩;rcases fN (f0:=f') (by omega:0<=b % 16) (by omega) with ⟨a,rfl,C⟩|a
  ·exfalso;rw[a] at p2;rw[p2] at d;obtain⟨c1,c2, _⟩:=I.uR h;rw[dF ⟨c1,c2⟩] at d;cases d
  ·rw[a];exact p2
 ·intro f0 m n b k h h0 h1 y;have c:=y;by_cases e:16*f0+k=16*f+i
  ·rw[e,j] at c;rw[e,tx r];exact u c
  ·rw[gx (λe'=>e e'.symm)] at c;rw[mi (λe'=>e e'.symm)];exact I.wf h h0 h1 c
theorem abG (I:Inv g s) {f o x i f2:Int} {m:Nat} (u:g f=some (o,m+1,x)) (V:0<=i) (W:i<16) (hg:g f2=some (o,m,16*x+i)) (J:aK s.1 (16*f+i)=cv f2) (K: ∀k,0<=k->k<16->aK s.1 (16*f2+k)=zE):
 aK (dC s.1 (16*f+i) 0) (16*f+i)=zE/\dH s.2 f2 (aP 5 0)=s.2.set f2.toNat (5,o,0,0,())/\Inv (mN g f2 none) (dC s.1 (16*f+i) 0,dH s.2 f2 (aP 5 0)):=by
 have X:=I.uR u;have B:=I.kd u;have w:=I.kd hg;have C:uH s.1 (16*f+i)=true:=iK (by omega) (by omega);have q:aK (dC s.1 (16*f+i) 0) (16*f+i)=zE:=by rw[zb C];exact py
 have D:dH s.2 f2 (aP 5 0)=s.2.set f2.toNat (5,o,0,0,()):=by
  rw[pG ⟨w.1,w.2.1⟩,H5,w.2.2.1];show(if(aP 5 0 (3,o,0,0,())).2=0 then s.2.set f2.toNat (aP 5 0 (3,o,0,0,())).1 else _)= _;rw[Et ⟨B.2.2.2.1,B.2.2.2.2.1⟩,av rfl]
 have j: ∀{f0 v},mN g f2 none f0=some v->f0≠f2/\g f0=some v:=λ{f0 v} h=>by
  by_cases e:f0=f2
  ·rw[e,bK] at h;cases h
  ·rw[aZ e] at h;exact⟨e,h⟩
 have fN: ∀{f0 k:Int},0<=k->k<16->(16*f0+k=16*f+i/\f0=f/\k=i)\/aK (dC s.1 (16*f+i) 0) (16*f0+k)=aK s.1 (16*f0+k):=λ{f0 k} h0 h1=>by
  by_cases e:16*f0+k=16*f+i
  ·exact .inl ⟨e,by omega,by omega⟩
  ·exact .inr (gx (λe'=>e e'.symm))
 refine⟨q,D,?_⟩;rw[D];refine⟨?_,?_,?_,?_,?_,?_,?_,?_,?_,?_⟩
 ·show 16*(s.2.set _ _).length<=(dC _ _ _).length;rw[cF,B1];exact I.len
 ·show(s.2.set _ _).length<=4096;rw[B1];exact I.le
 ·intro d y h0;rcases Dq y with y|rfl
  ·exact I.fz d y h0
  ·cases h0
 ·intro f0 r n l h;obtain⟨p,h⟩:=j h;rw[B1];obtain⟨a1,E,L,Y⟩:=I.kd h
  grind
 ·intro a b v M hb;exact I.inj (j M).2 (j hb).2
 ·intro f0 r n l k h h0 h1 z;obtain⟨p,h⟩:=j h;rcases fN (f0:=f0) h0 h1 with ⟨c,rfl,rfl⟩|c
  ·rw[q] at z;cases z
  ·have A:dI (aK s.1 (16*f0+k))=true:=by rw[<-c];exact z
   rw[c];obtain⟨N,F,t⟩:=I.sP h h0 h1 A;refine⟨N,F,?_⟩;rw[aZ]
   ·exact t
   ·intro e;rw[e,hg] at t;simp only[B5,B2] at t;obtain⟨a1,E,L⟩:=t;have O:k=i:=by omega
    have P:l=x:=by omega
    subst O;subst P;subst a1;subst E;subst F;have:=I.inj h u;subst this;rw[q] at c;rw[<-c] at A;cases A
 ·intro f0 r n l k h h0 h1;obtain⟨p,h⟩:=j h;show lI n (aK (dC s.1 (16*f+i) 0) (16*f0+k));rcases fN (f0:=f0) h0 h1 with ⟨c,rfl,rfl⟩|c
  ·rw[q];exact DU _
  ·rw[c];exact I.leaf h h0 h1
 ·intro f0 r n l h Q;obtain⟨p,h⟩:=j h;obtain⟨f',p1,p2⟩:=I.Fo h Q;have R:f'≠f2:=λe=>by
   rw[e,K _ (by omega) (by omega)] at p2;cases p2
  refine⟨f',by rw[aZ R];exact p1,?_⟩;show aK (dC s.1 (16*f+i) 0) (16*f'+l % 16)= _;rcases fN (f0:=f') (by omega:0<=l % 16) (by omega) with ⟨c,rfl,Z⟩|c
  ·exfalso;rw[c,J] at p2;unfold cv at p2;simp only[B2,and_true,true_and] at p2;exact p p2.symm
  ·rw[c];exact p2
 ·intro f0 r n l k h h0 h1 S;obtain⟨p,h⟩:=j h;show cL (dC s.1 (16*f+i) 0) (16*f0+k)=0;have G:(aK (dC s.1 (16*f+i) 0) (16*f0+k)).1=false:=S;by_cases e:16*f0+k=16*f+i
  ·rw[e,tx C]
  ·rw[gx (λe'=>e e'.symm)] at G;rw[mi (λe'=>e e'.symm)];exact I.wf h h0 h1 G
 ·intro H d T U;have h':(s.2.set f2.toNat (5,o,0,0,()))[H]? =some d:=T;by_cases e:H=f2.toNat
  grind
  ·rw[Bx (by omega)] at h';obtain⟨v,hv⟩:=I.tb h' U;exact⟨v,by rw[aZ (by omega)];exact hv⟩
end Inv
set_option maxRecDepth 100000
open Go.RX D
def l5 (p:Int) (j:Nat) (e:ET):Int×Int×Int×Unit:=if e.1=true then(if j=1 then e.2.2.2.1+p % 16 else e.2.2.2.1,e.2.1,0,()) else(0,0,4,())
theorem F4 (p:Int) (j:Nat) {e:ET} (h:e.1=false):l5 p j e=(0,0,4,()):=by grind[l5]
def mV (g g':Gh):Prop:= ∀o r x,g' r=some (o,3,x)<->g r=some (o,3,x)
theorem mV.refl (g:Gh):mV g g:=λ_ _ _=>Iff.rfl
theorem mV.trans {a b c:Gh} (h:mV a b) (k:mV b c):mV a c:=λo r x=>(k o r x).trans (h o r x)
theorem mV.to {g g':Gh} {o r x:Int} (h:mV g g') (k:g r=some (o,3,x)):g' r=some (o,3,x):=(h _ _ _).2 k
def As (o:Int) (g g':Gh) (s s':WD):Prop:= ∀ ⦃f o' l x⦄,o'≠o->g f=some (o',l,x)->g' f=some (o',l,x)/\ ∀k,0<=k->k<16->aK s'.1 (16*f+k)=aK s.1 (16*f+k)
theorem As.refl (o:Int) (g:Gh) (s:WD):As o g g s s:=λ_ _ _ _ _ h=>⟨h,λ_ _ _=>rfl⟩
theorem As.trans {o:Int} {a b c:Gh} {s t u:WD} (h:As o a b s t) (k:As o b c t u):As o a c s u:=λ_ _ _ _ d e=>by
 obtain⟨h1⟩:=h d e;obtain:=k d h1
 grind
def te (P:Int->Int->Prop) (g g':Gh) (s s':WD):Prop:= ∀ ⦃o p f j⦄,¬ P o p->dx g s o p f j-> ∃f' a,dx g' s' o p f' a/\l5 p a (aK s'.1 (16*f'+px a p % 16))=l5 p j (aK s.1 (16*f+px j p % 16))
theorem te.refl (P:Int->Int->Prop) (g:Gh) (s:WD):te P g g s s:=λ_ _ _ _ _ h=>⟨_, _,h,rfl⟩
theorem te.trans {P:Int->Int->Prop} {a b c:Gh} {s t u:WD} (h:te P a b s t) (k:te P b c t u):te P a c s u:=λ_ _ _ _ d e=>by
 obtain⟨f1,j1,h1,f⟩:=h d e;obtain:=k d h1
 grind
theorem te.mono {P c:Int->Int->Prop} {a b:Gh} {s t:WD} (h:te P a b s t) (e: ∀o p,P o p->c o p):te c a b s t:=λ_ _ _ _ f d=>h (by grind) d
def Yp:Int->Int->Prop:=λ_ _=>False
def ou (o:Int) (l:Nat) (p:Int):Int->Int->Prop:=λo' q=>o'=o/\px l q=px l p
namespace Inv
variable {g:Gh} {s:WD}
theorem fm (I:Inv g s) {o r p:Int} (a:g r=some (o,3,0)) (b:0<=p/\p<65536) {f:Int} {j:Nat} (h:dx g s o p f j):bz s r false p=l5 p j (aK s.1 (16*f+px j p % 16)):=by
 obtain:=I.mn a b h;unfold bz l5;unfold qO
 grind
theorem zc (I:Inv g s) {g':Gh} {s':WD} (c:Inv g' s') {P:Int->Int->Prop} (d:te P g g' s s') (i:mV g g') {o r p:Int} (a:g r=some (o,3,0)) (k: ¬ P o p):bz s' r false p=bz s r false p:=by
 by_cases h:0<=p/\p<65536
 ·obtain⟨f,j, _,b⟩:=I.lJ a h;obtain⟨f',m,h1,l⟩:=d k b;rw[I.fm a h b,c.fm (i.to a) h h1,l]
 ·have e: ∀t,bz t r false p=(0,0,2,()):=λt=>by
   unfold bz
   grind
  grind
theorem Eu (I:Inv g s) {f o x i:Int} {m:Nat} (b:g f=some (o,m+1,x)) (w:0<=i) (y:i<16) (z:dI (aK s.1 (16*f+i))=false) (hc:0<cg s.2 0) (G:Int->Int)
 (d: ∀k,0<=k->k<16->dI (eZ (G k))=false/\lI m (eZ (G k))/\((eZ (G k)).1=false->G k=0))
 (J: ∀p,0<=px m p % 16->px (m+1) p % 16=i->l5 p m (eZ (G (px m p % 16)))=l5 p (m+1) (aK s.1 (16*f+i))):
 let n:=eK s o
 let s':=dR (jc s o G) (16*f+i) (cv n)
 let g':=mN g n (some (o,m,16*x+i))
 rH s o=0/\Inv g' s'/\mV g g'/\As o g g' s s'/\te Yp g g' s s'/\s'.2=s.2.set n.toNat (3,o,0,0,())/\s.2[n.toNat]? =some zD/\
 (∀p,dx g s o p f (m+1)->px (m+1) p % 16=i->dx g' s' o p n m/\aK s'.1 (16*n+px m p % 16)=eZ (G (px m p % 16)))/\0<=n/\n<4096:=by
 obtain⟨A,q,B,K,C,D,r,E,L,F⟩:=I.grow b w y z hc G d;dsimp only;have c: ∀{f':Int} {v},g f'=some v->f'≠eK s o:=λh e=>by rw[e,q] at h;cases h
 have FA: ∀p,dx g s o p f (m+1)->px (m+1) p % 16=i->dx (mN g (eK s o) (some (o,m,16*x+i))) (dR (jc s o G) (16*f+i) (cv (eK s o))) o p (eK s o) m/\aK _ (16*eK s o+px m p % 16)=eZ (G (px m p % 16)):=λp a t=>by
  have e:=E (px m p % 16) (eh p m).1 (eh p m).2;refine⟨⟨?_,by rw[e];exact(d _ (eh p m).1 (eh p m).2).1⟩,e⟩;rw[bK];have h1:=a.1;rw[b] at h1;simp only[B5,B2,true_and] at h1;rw[h1, <-t, <-nU]
 refine⟨A,F,λo' r' x'=>?_,λ⦃f0 o' l M⦄ H h=>⟨?_,λk h0 h1=>?_⟩,λ⦃o' p f' j⦄ _ a=>?_,C,D,FA,B,by have:=I.le;omega⟩
 ·by_cases e:r'=eK s o
  ·rw[e,bK,q];refine⟨λh=>?_,λh=>by cases h⟩;have:=(I.kd b).2.2.2.2.2;simp only[B5,B2] at h;omega
  ·rw[aZ e]
 ·rw[aZ (c h)];exact h
 ·have:=c h;refine r _ (λe=>?_) (by omega);have:f0=f:=by omega
  subst this;rw[b] at h;cases h;exact H rfl
 ·by_cases u:f'=f/\px j p % 16=i
  ·obtain⟨rfl,t⟩:=u;have h1:=a.1;rw[b] at h1
   grind
  ·have e:aK (dR (jc s o G) (16*f+i) (cv (eK s o))).1 (16*f'+px j p % 16)=aK s.1 (16*f'+px j p % 16):=by
    have:=c a.1;have:=eh p j;refine r _ (λe=>u ?_) (by omega);omega
   refine⟨f',j,⟨by rw[aZ (c a.1)];exact a.1,by rw[e];exact a.2⟩,by rw[e]⟩
theorem zd (I:Inv g s) {f o x i v:Int} {l:Nat} (b:g f=some (o,l,x)) (m:0<=i) (n:i<16) (d:dI (aK s.1 (16*f+i))=false) (hv:dI (eZ v)=false) (r:lI l (eZ v)) (t:(eZ v).1=false->v=0) {q:Int} (u:dx g s o q f l) (w:px l q % 16=i):
 Inv g (dC s.1 (16*f+i) v,s.2)/\As o g g s (dC s.1 (16*f+i) v,s.2)/\te (ou o l q) g g s (dC s.1 (16*f+i) v,s.2)/\
 (∀p,px l p=px l q->dx g (dC s.1 (16*f+i) v,s.2) o p f l/\dx g s o p f l)/\aK (dC s.1 (16*f+i) v) (16*f+i)=eZ v:=by
 obtain⟨y,z⟩:=I.VV b m n d hv r t;have hx:=u.1;rw[b] at hx;simp only[B5,B2,true_and] at hx;refine⟨z,λ⦃f0 o' D E⦄ A h=>⟨h,λk h0 h1=>?_⟩,λ⦃o' p f' j⦄ a c=>?_,λp a=>?_,y⟩
 ·refine gx (λe=>A ?_)
  grind
 ·have e:aK (dC s.1 (16*f+i) v) (16*f'+px j p % 16)=aK s.1 (16*f'+px j p % 16):=by
   refine gx (λe=>a ?_);have:f'=f:=by omega
   subst this;have h1:=c.1;rw[b] at h1;simp only[B5,B2] at h1;obtain⟨rfl,rfl,B⟩:=h1;refine⟨rfl,?_⟩;rw[nU p,nU q, <-B, <-hx];omega
  exact⟨f',j,⟨c.1,by rw[e];exact c.2⟩,by grind⟩
 ·have h1:px (l+1) p=px (l+1) q:=by simp only[px];rw[a]
  have C:px l p % 16=i:=by rw[a];exact w
  refine⟨⟨by grind,?_⟩,⟨by grind,by rw[C];exact d⟩⟩
  grind
theorem My (I:Inv g s) {f o x i f2:Int} {m:Nat} (a:g f=some (o,m+1,x)) (u:0<=i) (v:i<16) (hg:g f2=some (o,m,16*x+i)) (n:aK s.1 (16*f+i)=cv f2) (q: ∀k,0<=k->k<16->aK s.1 (16*f2+k)=zE):
 let s':WD:=(dC s.1 (16*f+i) 0,dH s.2 f2 (aP 5 0))
 let g':=mN g f2 none
 Inv g' s'/\mV g g'/\As o g g' s s'/\te Yp g g' s s'/\s'.2=s.2.set f2.toNat (5,o,0,0,())/\s.2[f2.toNat]? =some (3,o,0,0,())/\(∀p,dx g s o p f2 m->dx g' s' o p f (m+1))/\aK s'.1 (16*f+i)=zE:=by
 obtain⟨b,w,y⟩:=I.abG a u v hg n q;dsimp only;have r:=I.uR hg;have z:f≠f2:=λe=>by
  subst e;rw[a] at hg;simp at hg
 have A:dI (aK s.1 (16*f+i))=true:=by rw[n];exact dF ⟨r.1,r.2.1⟩
 have FA: ∀p,dx g s o p f2 m->dx (mN g f2 none) (dC s.1 (16*f+i) 0,dH s.2 f2 (aP 5 0)) o p f (m+1)/\px (m+1) p % 16=i:=λp h=>by
  have h1:=h.1;rw[hg] at h1;simp only[B5,B2,true_and] at h1;have c:=nU p (m+1);have E:=eh p (m+1);have d:px (m+1+1) p=x:=by omega
  have t:px (m+1) p % 16=i:=by omega
  refine⟨⟨by rw[aZ z,d];exact a,?_⟩,t⟩;rw[t,b];exact Kq
 refine⟨y,λo' r' x'=>?_,λ⦃f0 o' l F⦄ B h=>⟨?_,λk h0 h1=>?_⟩,λ⦃o' p f' j⦄ _ h=>?_,w,(I.kd hg).2.2.1,λp h=>(FA p h).1,b⟩
 ·by_cases e:r'=f2
  ·subst e;rw[bK,hg];refine⟨λh=>(by cases h),λh=>?_⟩;simp only[B5,B2] at h;have:=(I.kd a).2.2.2.2.2;omega
  ·rw[aZ e]
 ·rw[aZ]
  ·exact h
  grind
 ·refine gx (λe=>B ?_);have:f0=f:=by omega
  grind
 ·by_cases e:f'=f2
  ·subst e;have h1:=h.1;rw[hg] at h1;simp only[B5,B2] at h1;obtain⟨rfl,rfl,h1⟩:=h1;obtain⟨C,D⟩:=FA p h;refine⟨_, _,C,?_⟩;rw[D,b,q _ (eh p m).1 (eh p m).2,F4 _ _ rfl,F4 _ _ rfl]
  ·have d:aK (dC s.1 (16*f+i) 0) (16*f'+px j p % 16)=aK s.1 (16*f'+px j p % 16):=by
    refine gx (λe=>?_);have c:=h.2;rw[<-e,A] at c;cases c
   refine⟨f',j,⟨by rw[aZ e];exact h.1,?_⟩,?_⟩
   ·rw[d];exact h.2
   grind
end Inv
set_option maxRecDepth 100000
open Go.RX D
structure Kept (s s':WD):Prop where
 ks5: ∀{n:Nat} {d:DT},s.2[n]? =some d->d.1=4\/d.1=5->s'.2[n]? =some d
 ws5: ∀{n:Nat} {d:DT},s.2[n]? =some d->d.1=4\/d.1=5-> ∀k:Int,0<=k->k<16->cL s'.1 (16*(n:Int)+k)=cL s.1 (16*(n:Int)+k)
 nw: ∀{n:Nat} {d:DT},s'.2[n]? =some d->s.2[n]? =some d\/((d.1=3\/d.1=5)/\d.2.2=(0,0,())/\1<=d.2.1/\d.2.1<=16)
theorem Kept.ks {s s':WD} (K:Kept s s') {n:Nat} {d:DT} (h:s.2[n]? =some d) (a:d.1=4):s'.2[n]? =some d:=K.ks5 h (.inl a)
theorem Kept.ws {s s':WD} (K:Kept s s') {n:Nat} {d:DT} (h:s.2[n]? =some d) (a:d.1=4) (k:Int) (k0:0<=k) (b:k<16):cL s'.1 (16*(n:Int)+k)=cL s.1 (16*(n:Int)+k):=K.ws5 h (.inl a) k k0 b
theorem Kept.refl (s:WD):Kept s s:=⟨λh _=>h,by simp,λh=> .inl h⟩
theorem Kept.trans {s t u:WD} (h:Kept s t) (k:Kept t u):Kept s u:=
 ⟨λh1 a=>k.ks5 (h.ks5 h1 a) a,λh1 a i i0 i1=>(k.ws5 (h.ks5 h1 a) a i i0 i1).trans (h.ws5 h1 a i i0 i1),λh1=>(k.nw h1).elim h.nw .inr⟩
theorem Kept.set {s:WD} {W:List Int} {n:Nat} {d0 d1:DT} (h0:s.2[n]? =some d0) (c:d0.1≠4/\d0.1≠5) (h1:(d1.1=3\/d1.1=5)/\d1.2.2=(0,0,())/\1<=d1.2.1/\d1.2.1<=16) (b: ∀{m:Nat} {d:DT},s.2[m]? =some d->d.1=4\/d.1=5-> ∀k:Int,0<=k->k<16->cL W (16*(m:Int)+k)=cL s.1 (16*(m:Int)+k)):Kept s (W,s.2.set n d1):=by
 refine⟨λ{m d} a f=>?_,b,λ{m d} a=>?_⟩
 ·have e:n≠m:=λe=>by grind
  rw[Bx e];exact a
 grind
def iS (s:WD) (f:Int):Prop:=0<=f/\ ∃d,s.2[f.toNat]? =some d/\d.1=5/\ ∀k:Int,0<=k->k<16->cL s.1 (16*f+k)=0
theorem iS.kept {s s':WD} {f:Int} (h:iS s f) (K:Kept s s'):iS s' f:=by
 obtain⟨h0,d,h1,a,b⟩:=h;refine⟨h0,d,K.ks5 h1 (.inr a),a,λk k0 c=>?_⟩;have:=K.ws5 h1
 grind
theorem Inv.off {g:Gh} {s:WD} (I:Inv g s) {f o x i:Int} {l:Nat} (a:g f=some (o,l,x)) (h0:0<=i) (h1:i<16) {n:Nat} {d:DT} (b:s.2[n]? =some d) (c:d.1=4\/d.1=5) {k:Int} (k0:0<=k) (e:k<16):16*f+i≠16*(n:Int)+k:=by
 have h:=I.kd a
 grind
theorem Inv.CK {g:Gh} {s:WD} (I:Inv g s) {f o x i:Int} {l:Nat} (a:g f=some (o,l,x)) (h0:0<=i) (h1:i<16) (v:Int):Kept s (dC s.1 (16*f+i) v,s.2):=
 ⟨λh _=>h,λb c k k0 d=>by exact mi (I.off a h0 h1 b c k0 d),λh=> .inl h⟩
theorem Inv.By {g:Gh} {s:WD} (I:Inv g s) {f o x i:Int} {m:Nat} (h:g f=some (o,m+1,x)) (r:0<=i) (t:i<16) (hc:0<cg s.2 0) (G:Int->Int) (e:ET):Kept s (dR (jc s o G) (16*f+i) e):=by
 have j:=I.kd h;obtain⟨n,B,l,u,v,C⟩:=ng hc I.fz ⟨j.2.2.2.1,j.2.2.2.2.1⟩;have D:eK s o=n:=u;have E:rH s o=0:=v;have F:=I.len;have w:16*(n:Int)+16<=s.1.length:=by omega
 have p:jc s o G=(e8 s.1 n G 16,s.2.set n (3,o,0,0,())):=by unfold jc;grind
 obtain⟨W,a⟩: ∃W,W=e8 s.1 n G 16:=⟨_,rfl⟩;have y: ∀b,cL W b=if 16*n<=b/\b<16*n+16 then G _ else cL s.1 b:=λb=>by
  rw[a];exact tA (by omega) w 16 (by grind) b
 rw[<-a] at p;clear a;have z:dR (W,s.2.set n (3,o,0,0,())) _ e=(dC W (16*f+i) (TJ e),s.2.set n _):=rfl;rw[p,z];refine Kept.set l (by decide) (by grind) λ{m d} c q k k0 A=>?_;have H:n≠m:=λe=>by subst e;rw[l] at c;cases c;exact absurd q (by decide)
 rw[mi (I.off h r t c q k0 A),y,ao (by omega)]
def Ah (g:Gh) (s:WD):Prop:= ∀ ⦃f o l x i⦄,g f=some (o,l,x)->0<=i->i<16->(aK s.1 (16*f+i)).1=true->dI (aK s.1 (16*f+i))=false->l=0
theorem Ah.upd {g:Gh} {s s':WD} (h:Ah g s) {f o x i:Int} {l:Nat} (n:g f=some (o,l,x)) (h0:0<=i) (h1:i<16) (d: ∀b,b≠16*f+i->aK s'.1 b=aK s.1 b)
 (p:(aK s'.1 (16*f+i)).1=true->dI (aK s'.1 (16*f+i))=false->l=0):Ah g s':=λf2 q r t k j k0 m a c=>by
 by_cases e:16*f2+k=16*f+i
 grind
 ·rw[d _ e] at a c;exact h j k0 m a c
theorem Ah.grow {g:Gh} {s s':WD} (h:Ah g s) {f i F o x a:Int} {m:Nat} (l: ∀b,b≠a->(b<16*F\/16*F+16<=b)->aK s'.1 b=aK s.1 b)
 (q: ∀k,0<=k->k<16->(aK s'.1 (16*F+k)).1=true->m=0) (r:dI (aK s'.1 a)=true):Ah (mN g F (some (o,m,x))) s':=λf2 t u v k c k0 n d j=>by
 by_cases e:f2=F
 ·subst e;rw[bK] at c
  grind
 ·rw[aZ e] at c;by_cases p:16*f2+k=a
  grind
  ·rw[l _ p (by omega)] at d j;exact h c k0 n d j
theorem Ah.del {g:Gh} {s:WD} (h:Ah g s) (F:Int):Ah (mN g F none) s:=λf2 f i j k a k0 b c d=>by
 by_cases e:f2=F
 ·subst e;rw[bK] at a;grind
 ·rw[aZ e] at a;exact h a k0 b c d
def Y9 (P:Int->Int->Prop):Prop:= ∀o q a,P o q->P o a->q=a
theorem PH (l:Nat) (p:Int):px (l+1) p=px l (p / 16):=by
 induction l with
 |zero=>rfl
 |succ l a=>rw[px,a];rfl
theorem Y9.lv {o p:Int} {lv:Nat} (h:Y9 (λo' q=>o'=o/\px lv q=px lv p)):lv=0:=by
 cases lv with
 |zero=>rfl
 |succ=>
  have a:(16*(p / 16)+(p % 16+1) % 16) / 16=p / 16:=by omega
  have:=h o p (16*(p / 16)+(p % 16+1) % 16) (by grind) ⟨rfl,by rw[PH,PH,a]⟩;omega
structure s6 (P:Int->Int->Prop) (o:Int) (g g':Gh) (s s':WD):Prop where
 inv:Inv g' s'
 root:mV g g'
 OC:As o g g' s s'
 DD:te P g g' s s'
 kk: ∀{n:Nat} {d:DT},s.2[n]? =some d->d.1=3\/d.1=5-> ∃d':DT,s'.2[n]? =some d'/\(d'.1=5\/(d'.1=3/\d.1=3))
 len:s'.1.length=s.1.length/\s'.2.length=s.2.length
 kp:Kept s s'
 lg:Y9 P->Ah g s->Ah g' s'
 gk: ∀{f:Int} {v:Int×Nat×Int},g f=some v->g' f=some v\/iS s' f
theorem s6.refl {g:Gh} {s:WD} (I:Inv g s) (P:Int->Int->Prop) (o:Int):s6 P o g g s s:=
 ⟨I,.refl g,.refl o g s,.refl P g s,by grind,by simp,.refl s,λ_ h=>h,λh=> .inl h⟩
theorem s6.trans {P:Int->Int->Prop} {o:Int} {a b c:Gh} {s t u:WD} (h:s6 P o a b s t) (k:s6 P o b c t u):s6 P o a c s u where
 inv:=k.inv
 root:=h.root.trans k.root
 OC:=h.OC.trans k.OC
 DD:=h.DD.trans k.DD
 kk:=λd f=>by
  obtain⟨d1,h1,g⟩:=h.kk d f;obtain:=k.kk h1
  grind
 len:=⟨k.len.1.trans h.len.1,k.len.2.trans h.len.2⟩
 kp:=h.kp.trans k.kp
 lg:=λo n=>k.lg o (h.lg o n)
 gk:=λh1=>(h.gk h1).elim (λe=>k.gk e) λe=> .inr (e.kept k.kp)
theorem s6.mono {P d:Int->Int->Prop} {o:Int} {a b:Gh} {s t:WD} (h:s6 P o a b s t) (c: ∀o p,P o p->d o p):s6 d o a b s t:=⟨h.inv,h.root,h.OC,h.DD.mono c,h.kk,h.len,h.kp,λo1 n=>h.lg (λo q e a b=>o1 o q e (c _ _ a) (c _ _ b)) n,h.gk⟩
theorem PI {ds:List DT} {i:Nat} {d0 d1:DT} (h0:ds[i]? =some d0) (a:d0.1=3\/d0.1=5->d1.1=5) {n:Nat} {d:DT} (h:ds[n]? =some d) (k:d.1=3\/d.1=5): ∃d':DT,(ds.set i d1)[n]? =some d'/\(d'.1=5\/(d'.1=3/\d.1=3)):=by
 grind
theorem xJ (s:WD) (o:Int) (G:Int->Int) (i:Int) (e:ET):(dR (jc s o G) i e).1.length=s.1.length:=by grind[dR,jc,cF,gT]
def Dr (g:Gh) (s:WD) (e:Option Int):Prop:= ∀ ⦃f o l x⦄,g f=some (o,l,x)->l<3->some f≠e-> ∃k,0<=k/\k<16/\(aK s.1 (16*f+k)).1=true
theorem Dr.some {g:Gh} {s:WD} (h:Dr g s none) (f:Int):Dr g s (some f):=λ_ _ _ _ hg a _=>h hg a (by simp)
namespace Inv
variable {g:Gh} {s:WD}
theorem down {o p:Int} (b:0<=p/\p<65536) (lv:Nat): ∀(n:Nat) {g:Gh} {s:WD} {f:Int},Inv g s->dx g s o p f (lv+n)->(aK s.1 (16*f+px (lv+n) p % 16)).1=false->n<=cg s.2 0->
 ∃g' s' f',qZ o p n (s,(f,((lv+n:Nat):Int),16*f+px (lv+n) p % 16,()))=(s',(f',(lv:Int),16*f'+px lv p % 16,()))/\s6 Yp o g g' s s'/\dx g' s' o p f' lv/\(aK s'.1 (16*f'+px lv p % 16)).1=false/\cg s'.2 0+n=cg s.2 0/\(Dr g s (some f)->Dr g' s' (some f'))
 |0,g,s,f,I,a,c, _=>⟨g,s,f,rfl,.refl I _ _,a,c,rfl,λh=>h⟩
 |n+1,g,s,f,I,a,c,hc=>by
  have v:=I.kd a.1;have w:lv+n<=3:=by have:=v.2.2.2.2.2;omega
  have hi:=eh p (lv+n+1);obtain⟨Y,j,x,y,z,l,q,A,B,C⟩:=I.Eu (m:=lv+n) a.1 hi.1 hi.2 a.2 (by omega) (λ_=>0) (λk _ _=>by
   rw[py];exact⟨Kq,DU _,λ_=>rfl⟩) (λp' _ Z=>by
   rw[py,F4 _ _ rfl,F4];exact c)
  obtain⟨D,E⟩:=A p a rfl;have r:0<=eK s o/\eK s o<4096:=⟨B,C⟩;have F:=qi (d':=(3,o,0,0,())) q 0;have N9:cg (dR (jc s o λ_=>0) (16*f+px (lv+n+1) p % 16) (cv (eK s o))).2 0+1=cg s.2 0:=by
   rw[l];simpa[zD] using F
  obtain⟨_,u1, _, _, _, _,t,G,u, _⟩:=I.grow (m:=lv+n) a.1 hi.1 hi.2 a.2 (by omega) (λ_=>0) (λk _ _=>by
   rw[py];exact⟨Kq,DU _,λ_=>rfl⟩)
  have H:s6 Yp o g _ s (dR (jc s o λ_=>0) (16*f+px (lv+n+1) p % 16) (cv (eK s o))):=
   ⟨j,x,y,z,by grind,⟨xJ _ _ _ _ _,by rw[l,B1]⟩,I.By (m:=lv+n) a.1 hi.1 hi.2 (by omega) _ _,λ_ nl=>nl.grow (f:=f) (i:=0) t (λk k0 d b=>by rw[G k k0 d,py] at b;cases b) (by rw[u];exact dF r),λ{f0 J} hg=> .inl (by
    rw[aZ (λe=>?_)]
    ·exact hg
    ·obtain⟨K,L,M⟩:=J;have:=(I.kd hg).2.2.1;rw[e,q] at this;cases this)⟩
  have N:Dr g s (some f)->Dr (mN g (eK s o) (some (o,lv+n,16*px (lv+n+1+1) p+px (lv+n+1) p % 16))) (dR (jc s o λ_=>0) (16*f+px (lv+n+1) p % 16) (cv (eK s o))) (some (eK s o)):=λh f0 K L M h0 O P=>by
   have Q:f0≠eK s o:=λe=>P (by rw[e]);rw[aZ Q] at h0;by_cases e:f0=f
   ·subst e;exact⟨_,hi.1,hi.2,by rw[u];rfl⟩
   ·obtain⟨k,d,R,S⟩:=h h0 O (by simpa using e);exact⟨k,d,R,by rw[t _ (by omega) (by omega)];exact S⟩
  obtain⟨g',s',f',T,U,V,W,r5,X⟩:=down b lv n j D (by rw[E,py];rfl) (by omega);refine⟨g',s',f',?_,H.trans U,V,W,by omega,λh=>X (N h)⟩;rw[<-T];show qZ o p n _= _;have el:((lv+(n+1):Nat):Int) - 1=((lv+n:Nat):Int):=by omega
  rw[el,kM r b w];rfl
end Inv
set_option maxRecDepth 100000
open Go.RX D
theorem XC {ds:List DT} (h:cg ds 0=0):iR ds=none:=by
 unfold cg at h;unfold iR;rw[List.findIdx?_eq_none_iff];intro d a;have:=List.countP_eq_zero.1 h d a;simpa using this
theorem Bz {ds:List DT} {y o:Int} (h: ¬ dN ds y o=0):dE ds y o=ds:=by
 unfold dN at h;unfold dE;cases a:iR ds with
 |none=>rfl
 |some n=>
  have b: ¬ ds.length=0:=λe=>by
   have:ds=[]:=FW.1 e;subst this;cases a
  rw[ao b,a] at h;dsimp only at h ⊢;by_cases c:(n:Int)<0\/(n:Int)>=ds.length
  ·exact xF c _
  ·rw[yJ (by omega)] at h;rw[pG (by omega),ao h]
theorem Jr {s:WD} {o:Int} {G:Int->Int} (h: ¬ rH s o=0):jc s o G=s:=by
 unfold jc;rw[ao h,Bz h]
theorem R_ {s:WD} {o:Int} (h:cg s.2 0=0) (a:0<s.2.length): ¬ rH s o=0:=by
 unfold rH dN;rw[ao (by omega),XC h];show ¬ (12:Int)=0;decide
theorem CL {p:Int} {j:Nat} {e:ET} (h:(l5 p j e).2.2.1=0):e.1=true:=by
 cases a:e.1 with
 |true=>rfl
 |false=>
  rw[F4 p j a] at h;exact absurd h (by decide)
theorem PJ {ws:List Int} {f:Int} (c:0<=f) (d:16*f+16<=ws.length) {k:Nat} (a:k<16):(jH ws (16*f) 16)[k]? =some (cL ws (16*f+(k:Int))):=by
 have e:jH ws (16*f) 16=(ws.drop (16*f).toNat).take 16:=ao (by omega);rw[e,GD a,GF];unfold cL;have hi:(16*f).toNat+k<ws.length:=by omega
 rw[av (iK (by omega) (by omega)),Cg hi,H5];have b:(16*f+(k:Int)).toNat=(16*f).toNat+k:=by omega
 rw[b,Cg hi];rfl
theorem Ev {ws:List Int} {f:Int} (a:0<=f) (b:16*f+16<=ws.length) (h:xd ws f=true) (k:Int) (h0:0<=k) (h1:k<16):cL ws (16*f+k)=0:=by
 have c:=PJ a b (k:=k.toNat) (by omega);unfold xd at h;rw[GS] at h;have:=h _ (DA c);rw[show((k.toNat:Nat):Int)=k from by omega] at this;simpa using this
theorem Sa {ws:List Int} {f:Int} (b:0<=f) (c:16*f+16<=ws.length) (h:xd ws f=false): ∃k:Int,0<=k/\k<16/\cL ws (16*f+k)≠0:=by
 unfold xd at h;rw[GJ] at h;obtain⟨v,hv,d⟩:=h;obtain⟨k,a⟩:=Ga hv;have i:(jH ws (16*f) 16).length=16:=by
  have e:jH ws (16*f) 16=(ws.drop (16*f).toNat).take 16:=ao (by omega);rw[e,F8,Fz];omega
 have g:k<16:=by have:=(BW.1 a).1;omega
 have:=PJ b c g;rw[a] at this;refine⟨(k:Int),by omega,by omega,λe=>d ?_⟩;cases this;simpa using e
def W9 (F:Nat->Int) (p:Int):Nat->Nat->List PT
 |j,0=>[(F j,(j:Int),16*F j+px j p % 16,())]
 |j,n+1=>(F j,(j:Int),16*F j+px j p % 16,())::W9 F p (j+1) n
structure Up (g:Gh) (s:WD) (o p:Int) (F:Nat->Int) (j:Nat):Prop where
 gh: ∀i,j<=i->i<=3->g (F i)=some (o,i,px (i+1) p)
 ld: ∀i,j<=i->i<3->aK s.1 (16*F (i+1)+px (i+1) p % 16)=cv (F i)
theorem Sb (F:Nat->Int) (p:Int) (j n:Nat): ∃l,W9 F p j n=(F j,(j:Int),16*F j+px j p % 16,())::l:=by cases n<;>exact⟨_,rfl⟩
namespace Inv
theorem put {g:Gh} {s:WD} (I:Inv g s) {o r p:Int} (l:g r=some (o,3,0)) (c:0<=p/\p<65536) {lv:Nat} {e:ET} (t:e.1=true) (y:bU e.1 e.2.1 e.2.2.1 e.2.2.2.1=true) (z:dI e=false) (A:lI lv e) (h0:lu s r p lv=0):
 ∃g',s6 (ou o lv p) o g g' s (rT s o r p lv e)/\(∀q,px lv q=px lv p-> ∃f,dx g' (rT s o r p lv e) o q f lv/\aK (rT s o r p lv e).1 (16*f+px lv q % 16)=e)/\
  (∃f j,lv<=j/\dx g s o p f j/\(aK s.1 (16*f+px j p % 16)).1=false/\cg (rT s o r p lv e).2 0+(j - lv)=cg s.2 0)/\(Dr g s none->Dr g' (rT s o r p lv e) none):=by
 obtain⟨f,j,M,i⟩:=I.lJ l c;obtain⟨u,eP⟩:=I.mn l c i;have a:=h0;unfold lu at a;rw[u,eP] at a;dsimp only at a;by_cases c1:((aK s.1 (16*f+px j p % 16)).1||decide (((j:Nat):Int)<((lv:Nat):Int)))=true
 ·rw[av c1] at a;exact absurd a (by decide)
 rw[ao c1] at a;by_cases c2:(cg s.2 0:Int)<((j:Nat):Int) - ((lv:Nat):Int)
 ·rw[av c2] at a;exact absurd a (by decide)
 simp only[E5,decide_eq_true_eq,not_or,Bool.not_eq_true] at c1;obtain⟨n,rfl⟩: ∃n,j=lv+n:=⟨j - lv,by omega⟩;obtain⟨g1,s1,f1,d1,C1,E1,N,O,B⟩:=down c lv n I i c1.1 (by omega);have C:rT s o r p lv e=(dC s1.1 (16*f1+px lv p % 16) (TJ e),s1.2):=by
  unfold rT;rw[av h0,u];have en:(((lv+n:Nat):Int) - ((lv:Nat):Int)).toNat=n:=by omega
  dsimp only;rw[en,d1];rfl
 rw[C];have hv:eZ (TJ e)=e:=xI y;have hi:=eh p lv;obtain⟨D,E,F,G,w⟩:=C1.inv.zd (v:=TJ e) E1.1 hi.1 hi.2 E1.2 (by rw[hv];exact z) (by rw[hv];exact A) (λh=>by rw[hv,t] at h;cases h) E1 rfl;refine⟨g1,(C1.mono λ_ _ h=>h.elim).trans ⟨D,.refl _,E,F,λ{m d} h k=>⟨d,h,k.elim (λe=> .inr ⟨e,e⟩) .inl⟩,⟨cF _ _ _,rfl⟩,C1.inv.CK E1.1 hi.1 hi.2 _,λo1 nl=>nl.upd E1.1 hi.1 hi.2 (λb hb=>gx (λe=>hb e.symm)) λ_ _=>o1.lv,λh=> .inl h⟩,λq x=>⟨f1,(G q x).1,?_⟩,⟨f,lv+n,by omega,i,c1.1,?_⟩,λh=>?_⟩
 ·show aK (dC s1.1 _ _) _= _;rw[x,w,hv]
 ·show cg s1.2 0+ _= _;omega
 ·intro f0 P Q R h0 H _;by_cases ef:f0=f1
  ·subst ef;exact⟨_,hi.1,hi.2,by show(aK (dC s1.1 _ _) _).1=true;rw[w,hv];exact t⟩
  ·obtain⟨k,J,K,L⟩:=B (h.some f) h0 H (by simpa using ef);exact⟨k,J,K,by show(aK (dC s1.1 _ _) _).1=true;rw[gx (by omega)];exact L⟩
end Inv
set_option maxRecDepth 100000
open Go.RX D
theorem Z' (x y:PT) (l:List PT) (t:WD):jA (x::y::l) t=if xd t.1 x.1=true then jA (y::l) (dC t.1 y.2.2.1 0,dH t.2 x.1 (aP 5 0)) else t:=rfl
theorem Y_ {ws:List Int} {a:Int} (h:cL ws a=0):aK ws a=zE:=by unfold aK;rw[h];exact py
theorem Up.ne {g:Gh} {s:WD} {o p:Int} {F:Nat->Int} {j:Nat} (U:Up g s o p F j) {a b:Nat} (c:j<=a) (d:a<=3) (hb:j<=b) (f:b<=3) (h:a≠b):F a≠F b:=λe=>by
 have h1:=U.gh a c d;rw[e,U.gh b hb f] at h1;simp only[B5,B2,true_and] at h1;exact h h1.1.symm
theorem mo {r:Int} {l:Bool} {f:Int}:bU true r l f=true<->(0<=r/\r<=7/\0<=f/\f<4096/\(r>0\/l=false)):=by
 unfold bU;cases l<;>simp<;>omega
theorem OW {p:Bool} {r:Int} {l:Bool} {f:Int} (h:r≠0):dI (p,r,l,f,())=false:=by
 unfold dI fL;simp[h]
namespace Inv
theorem split {g:Gh} {s:WD} (I:Inv g s) {o r p:Int} (E:g r=some (o,3,0)) (F:0<=p/\p<65536) {f:Int} {j:Nat} (a:dx g s o p f j) (b:(aK s.1 (16*f+px j p % 16)).1=true) (h0:mz s o r p=0):
 ∃g' f',s6 Yp o g g' s (fZ s o r p)/\dx g' (fZ s o r p) o p f' 0/\cg (fZ s o r p).2 0+j=cg s.2 0/\(Dr g s none->Dr g' (fZ s o r p) none):=by
 obtain⟨l,eP⟩:=I.mn E F a;have hi:=eh p j;rcases I.leaf a.1 hi.1 hi.2 b a.2 with ⟨rfl, _⟩|⟨rfl,n,x⟩
 ·have q:fZ s o r p=s:=by unfold fZ;rw[l];exact av rfl
  rw[q];exact⟨g,f,.refl I _ _,a,rfl,λh=>h⟩
 ·have G:mz s o r p=rH s o:=by unfold mz;rw[l];exact ao (by show ¬ ((1:Int)=0);decide)
  rw[G] at h0;have q:fZ s o r p=dR (jc s o (oH (aK s.1 (16*f+px 1 p % 16)))) (16*f+px 1 p % 16) (cv (eK s o)):=by
   unfold fZ;rw[l,eP];rw[ao (by show ¬ ((1:Int)=0);decide),av h0]
  have y:=I.kd a.1;have hc:0<cg s.2 0:=by
   rcases Nat.eq_zero_or_pos (cg s.2 0) with e|e
   ·exact absurd h0 (R_ e (by omega))
   ·exact e
  have t:=lR s.1 (16*f+px 1 p % 16);rw[q];have H:=a.2;generalize J:aK s.1 (16*f+px 1 p % 16)=e at n x t b H ⊢;obtain⟨ep,er,el,ef,eu⟩:=e;dsimp only at n x t b;subst n;subst b;obtain⟨K,L,b3,b4,z⟩:=mo.1 t;have z:er>0:=z.elim id (λh=>by cases h);have u: ∀k:Int,0<=k->k<16->eZ (oH (true,er,true,ef,()) k)=(true,er,false,ef+k,()):=λk k0 c=>by
   show eZ (FE true er false (ef+k))= _;exact xI (mo.2 ⟨K,L,by omega,by omega,.inr rfl⟩)
  have A: ∀k,0<=k->k<16->dI (eZ (oH (true,er,true,ef,()) k))=false/\lI 0 (eZ (oH (true,er,true,ef,()) k))/\((eZ (oH (true,er,true,ef,()) k)).1=false->oH (true,er,true,ef,()) k=0):=λk k0 c=>by
   rw[u k k0 c];exact⟨OW (by omega),λ_ _=> .inl ⟨rfl,rfl⟩,λh=>by cases h⟩
  obtain⟨q0,M,N,O,P,v,w,Q,R,S⟩:=I.Eu (m:=0) a.1 hi.1 hi.2 a.2 hc (oH (true,er,true,ef,())) A (λp' hp0 oD=>by
   rw[u _ (eh p' 0).1 (eh p' 0).2,J];rfl)
  obtain⟨_,u1, _, _, _, _,B,T,C, _⟩:=I.grow (m:=0) a.1 hi.1 hi.2 a.2 hc (oH (true,er,true,ef,())) A;obtain⟨U,e2⟩:=Q p a rfl;have V:=qi (d':=(3,o,0,0,())) w 0;refine⟨_,eK s o,⟨M,N,O,P,λ{m d} W y=>by rw[v];exact PI w (λh=>by rcases h with h|h<;>exact absurd h (by decide)) W y,⟨xJ _ _ _ _ _,by rw[v,B1]⟩,I.By (m:=0) a.1 hi.1 hi.2 hc _ _,λ_ nl=>nl.grow (f:=f) (i:=0) B (λ_ _ _ _=>rfl) (by rw[C];exact dF ⟨R,S⟩),λ{f0 X} hg=> .inl (by
   rw[aZ (λe=>?_)]
   ·exact hg
   ·obtain⟨Y,Z,x0⟩:=X;have:=(I.kd hg).2.2.1;rw[e,w] at this;cases this)⟩,U,?_,?_⟩
  ·rw[v];simpa[zD] using V
  ·intro h f0 Y Z x0 h0 Iv _;by_cases D:f0=eK s o
   ·subst D;exact⟨0,by decide,by decide,by rw[T 0 (by decide) (by decide),u 0 (by decide) (by decide)]⟩
   ·rw[aZ D] at h0;by_cases e:f0=f
    ·subst e;exact⟨_,hi.1,hi.2,by rw[C];rfl⟩
    ·obtain⟨k,c,k2,k3⟩:=h h0 Iv (by simp);exact⟨k,c,k2,by rw[B _ (by omega) (by omega)];exact k3⟩
theorem thin {o p:Int} (t:0<=p/\p<65536) {F:Nat->Int}: ∀(n:Nat) {j:Nat} {g:Gh} {s:WD},j+n=3->Inv g s->Up g s o p F j->
 ∃g',s6 Yp o g g' s (jA (W9 F p j n) s)/\cg (jA (W9 F p j n) s).2 0=cg s.2 0/\(Dr g s (some (F j))->Dr g' (jA (W9 F p j n) s) none)
 |0,j,g,s,M,I,U=>by
  refine⟨g,.refl I _ _,rfl,λh f0 A B C h0 q _=>h h0 q (λe=>?_)⟩;have D:=U.gh j (B4 _) (by omega);cases e;rw[h0] at D;simp only[B5,B2] at D;omega
 |n+1,j,g,s,M,I,U=>by
  obtain⟨l',E⟩:=Sb F p (j+1) n;have N:W9 F p j (n+1)=(F j,(j:Int),16*F j+px j p % 16,())::(F (j+1),((j+1:Nat):Int),16*F (j+1)+px (j+1) p % 16,())::l':=by rw[W9,E]
  have v:=U.gh j (B4 _) (by omega);have g1:=U.gh (j+1) (by omega) (by omega);have O:=U.ld j (B4 _) (by omega);have hi:=eh p (j+1);have f:=I.uR v;rw[N,Z'];cases w:xd s.1 (F j) with
  |false=>
   rw[ao (by decide)];refine⟨g,.refl I _ _,rfl,λh f0 A B C h0 q _=>?_⟩;by_cases e:f0=F j
   ·subst e;obtain⟨k,k0,c,x⟩:=Sa f.1 f.2.2 w;refine⟨k,k0,c,?_⟩;cases hb:(aK s.1 (16*F j+k)).1 with
    |true=>rfl
    |false=>exact absurd (I.wf v k0 c hb) x
   ·exact h h0 q (by simpa using e)
  |true=>
   rw[av rfl];dsimp only;have P:g (F j)=some (o,j,16*px (j+1+1) p+px (j+1) p % 16):=by rw[<-nU];exact v
   obtain⟨y,G,H,J,l,r,Q,K⟩:=I.My g1 hi.1 hi.2 P O (λk k0 c=>Y_ (Ev f.1 f.2.2 w k k0 c));dsimp only at y G H J l r Q K;have C1:s6 Yp o g (mN g (F j) none) s (dC s.1 (16*F (j+1)+px (j+1) p % 16) 0,dH s.2 (F j) (aP 5 0)):=
    ⟨y,G,H,J,λ{m d} z R=>by rw[l];exact PI r (λ_=>rfl) z R,⟨cF _ _ _,by rw[l,B1]⟩,by rw[l];exact Kept.set r (show ¬ (3:Int)=4/\ ¬ (3:Int)=5 by decide) ⟨.inr rfl,rfl,(I.kd g1).2.2.2.1,(I.kd g1).2.2.2.2.1⟩ λ{m d} z S k k0 c=>by rw[mi (I.off g1 hi.1 hi.2 z S k0 c)],λ_ nl=>(nl.upd (s':=(dC s.1 (16*F (j+1)+px (j+1) p % 16) 0,dH s.2 (F j) (aP 5 0))) g1 hi.1 hi.2 (λb hb=>gx (λe=>hb e.symm)) λt _=>by rw[K] at t;cases t).del _,λ{f0 W} hg=>by
     by_cases e:f0=F j
     ·subst e;have T:=U.ne (a:=j) (b:=j+1) (by omega) (by omega) (by omega) (by omega) (by omega);refine .inr ⟨f.1, _,by rw[l];exact Dx (BW.1 r).1,rfl,λk k0 c=>?_⟩;show cL (dC s.1 _ _) _=0;rw[mi (by omega)];exact Ev f.1 f.2.2 w k k0 c
     ·exact .inl (by rw[aZ e];exact hg)⟩
   have U1:Up (mN g (F j) none) (dC s.1 (16*F (j+1)+px (j+1) p % 16) 0,dH s.2 (F j) (aP 5 0)) o p F (j+1):=by
    refine⟨λi h1 u=>?_,λi h1 u=>?_⟩
    ·rw[aZ (U.ne (by omega) u (B4 _) (by omega) (by omega))];exact U.gh i (by omega) u
    ·have T:=U.ne (a:=i+1) (b:=j+1) (by omega) (by omega) (by omega) (by omega) (by omega);have X:=eh p (i+1);show aK (dC _ _ _) _= _;rw[gx (by omega)];exact U.ld i (by omega) u
   obtain⟨g',c1,c2,c3⟩:=thin t n (by omega) y U1;rw[E] at c1 c2 c3;refine⟨g',C1.trans c1,c2.trans ?_,λh=>c3 λf0 A B C h0 q V=>?_⟩
   ·have:=qi (d':=(5,o,0,0,())) r 0;rw[l];simpa using this
   ·have L:f0≠F j:=λe=>by rw[e,bK] at h0;cases h0
    have Y:f0≠F (j+1):=λe=>V (by rw[e]);rw[aZ L] at h0;obtain⟨k,k0,c,x⟩:=h h0 q (by simpa using L);exact⟨k,k0,c,by show(aK (dC _ _ _) _).1=true;rw[gx (by omega)];exact x⟩
end Inv
set_option maxRecDepth 100000
open Go.RX D
namespace Inv
variable {g:Gh} {s:WD}
theorem acv (I:Inv g s) {o r p f0:Int} (t:g r=some (o,3,0)) (a:0<=p/\p<65536) (E:dx g s o p f0 0):
 ∃F:Nat->Int,F 0=f0/\Up g s o p F 0/\(dm s.1 p 3 r).reverse=W9 F p 0 3:=by
 obtain⟨f1,a1,u⟩:=I.Fo E.1 (by decide);obtain⟨f2,e,j⟩:=I.Fo a1 (by decide);obtain⟨f3,f,k⟩:=I.Fo e (by decide);have v:f3=r:=by
  refine I.inj f ?_;rw[t];have:=W7 a;simp only[px] at this ⊢;rw[this]
 subst v;have b:=I.uR E.1;have c:=I.uR a1;have d:=I.uR e;have m:=I.uR f;refine⟨λi=>match i with|0=>f0|1=>f1|2=>f2| _=>f3,rfl,⟨λi _ h=>?_,λi _ h=>?_⟩,?_⟩
 ·rcases i with _| _| _| _|i
  ·exact E.1
  ·exact a1
  ·exact e
  ·exact f
  ·omega
 ·rcases i with _| _| _|i
  ·exact u
  ·exact j
  ·exact k
  ·omega
 ·have n:=kM ⟨m.1,m.2.1⟩ a (l:=3) (by omega);have q:=kM ⟨d.1,d.2.1⟩ a (l:=2) (by omega);have w:=kM ⟨c.1,c.2.1⟩ a (l:=1) (by omega);have x:=kM ⟨b.1,b.2.1⟩ a (l:=0) (by omega);have t2:=dF ⟨d.1,d.2.1⟩;have t1:=dF ⟨c.1,c.2.1⟩;have t0:=dF ⟨b.1,b.2.1⟩;have c3:aK s.1 (ee f3 p (2+1:Nat))=cv f2:=by rw[n];exact k
  have c2:aK s.1 (ee f2 p (1+1:Nat))=cv f1:=by rw[q];exact j
  have c1:aK s.1 (ee f1 p ((0+1:Nat):Int))=cv f0:=by grind
  have w1:dm s.1 p 1 f1=[(f1,((0+1:Nat):Int),ee f1 p ((0+1:Nat):Int),()),(f0,0,ee f0 p 0,())]:=by rw[dm,c1,av t0];rfl
  have y:dm s.1 p 2 f2=[(f2,((1+1:Nat):Int),ee f2 p ((1+1:Nat):Int),()),(f1,((0+1:Nat):Int),ee f1 p ((0+1:Nat):Int),()),(f0,0,ee f0 p 0,())]:=by
   rw[dm,c2,av t1];show _::dm s.1 p 1 f1= _;rw[w1]
  have z:dm s.1 p 3 f3=[(f3,((2+1:Nat):Int),ee f3 p ((2+1:Nat):Int),()),(f2,((1+1:Nat):Int),ee f2 p ((1+1:Nat):Int),()),(f1,((0+1:Nat):Int),ee f1 p ((0+1:Nat):Int),()),(f0,0,ee f0 p 0,())]:=by
   rw[dm,c3,av t2];show _::dm s.1 p 2 f2= _;rw[y]
  have A:ee f0 p 0=16*f0+px 0 p % 16:=x;have B:=w;have C:=q;have D:=n;rw[z,A,B,C,D];rfl
theorem Js {s:WD} {n:Nat} {d:DT} (h:s.2[n]? =some d) (k:d.1=3\/d.1=5): ∃d':DT,s.2[n]? =some d'/\(d'.1=5\/(d'.1=3/\d.1=3)):=by grind
theorem DR (I:Inv g s) {o r p:Int} (l:g r=some (o,3,0)) (c:0<=p/\p<65536) (h0:Cf s o r false p=0):
 ∃g',s6 (ou o 0 p) o g g' s (nC s o r false p)/\bz (nC s o r false p) r false p=(0,0,4,())/\(bz s r false p).2.2.1=0/\
  (∃f j,j<=1/\dx g s o p f j/\(aK s.1 (16*f+px j p % 16)).1=true/\cg (nC s o r false p).2 0+j=cg s.2 0)/\(Dr g s none->Dr g' (nC s o r false p) none):=by
 have u:(bz s r false p).2.2.1=0:=by
  unfold Cf at h0
  grind
 have hs:mz s o r p=0:=by unfold Cf at h0;grind
 obtain⟨f,j,R,d⟩:=I.lJ l c;have w:=u;rw[I.fm l c d] at w;have m:=CL w;have A:j<=1:=by
  rcases I.leaf d.1 (eh p j).1 (eh p j).2 m d.2 with h|h<;>omega
 obtain⟨g1,f0,C1,E1,c1,B⟩:=I.split l c d m hs;have C:nC s o r false p=jA (dm (fZ s o r p).1 p 3 r).reverse (dC (fZ s o r p).1 (dJ (fZ s o r p).1 r p).2.2.1 0,(fZ s o r p).2):=by
  unfold nC;grind
 have n:=C1.root.to l;have D:=(C1.inv.mn n c E1).1;rw[C,D];generalize fZ s o r p=t at*
 have hi:=eh p 0;obtain⟨x,E,G,H,J⟩:=C1.inv.zd (v:=0) E1.1 hi.1 hi.2 E1.2 (by rw[py];exact Kq) (by rw[py];exact DU _) (λ_=>rfl) E1 rfl;obtain⟨F,y,U,K⟩:=C1.inv.acv n c E1;rw[K];dsimp only;have U2:Up g1 (dC t.1 (16*f0+px 0 p % 16) 0,t.2) o p F 0:=by
  refine⟨U.gh,λi h1 q=>?_⟩;have L:=U.ne (a:=i+1) (b:=0) (by omega) (by omega) (by omega) (by omega) (by omega);rw[y] at L;rw[gx (by omega)];exact U.ld i h1 q
 obtain⟨M,C3,c3,N⟩:=thin c 3 rfl x U2;have C2:s6 (ou o 0 p) o g1 g1 t _:=⟨x,.refl _,E,G,λh k=>Js h k,⟨cF _ _ _,rfl⟩,C1.inv.CK E1.1 hi.1 hi.2 _,λ_ nl=>nl.upd E1.1 hi.1 hi.2 (λb hb=>gx (λe=>hb e.symm)) λ_ _=>rfl,λh=> .inl h⟩;refine⟨M,((C1.mono λ_ _ h=>h.elim).trans C2).trans (C3.mono λ_ _ h=>h.elim),?_,u,⟨f,j,A,d,m,?_⟩,λh=>?_⟩
 ·obtain⟨f',S,h1,q⟩:=C3.DD (λh=>h) (H p rfl).1;rw[C3.inv.fm (C3.root.to n) c h1,q];rw[J,py];rfl
 grind
 ·refine N λf1 o1 T V h1 O z=>?_;rw[y] at z;have W:f1≠f0:=λe=>z (by rw[e]);obtain⟨k,k0,P,Q⟩:=B h h1 O (by simp);exact⟨k,k0,P,by rw[gx (by omega)];exact Q⟩
theorem tw (I:Inv g s) {o r p rt:Int} (d:g r=some (o,3,0)) (h0:F1 s o r false p rt=0):
 (0<=p/\p<65536)/\ ∃g',s6 (ou o 0 p) o g g' s (rU s o r false p rt)/\(bz s r false p).2.2.1=0/\bz (rU s o r false p rt) r false p=((bz s r false p).1,rt,0,())/\
  cg s.2 0<=cg (rU s o r false p rt).2 0+1:=by
 have n: ¬ (false=true):=by decide
 unfold F1 at h0;rw[ao n] at h0;have l:lA p 0 rt=0:=by
  grind
 rw[av l] at h0;have w:(0<=p/\p<65536)/\1<=rt/\rt<=7:=by
  unfold lA at l
  grind
 obtain⟨a,G⟩:=w;refine⟨a,?_⟩;obtain⟨f,j,H,c⟩:=I.lJ d a;obtain⟨x,eP⟩:=I.mn d a c;have J:=I.fm d a c;by_cases c1:(cW s.1 r p).1=true
 ·rw[av c1] at h0;have y:rU s o r false p rt=(if((cW s.1 r p).2.2.1&&(cW s.1 r p).2.1==rt)=true then s
   else if mz s o r p=0 then dR (fZ s o r p) (dJ (fZ s o r p).1 r p).2.2.1 (true,rt,false,qO p (dJ s.1 r p) (cW s.1 r p),()) else fZ s o r p):=by
   unfold rU;rw[ao n,av l,av c1]
  rw[y];have i:(aK s.1 (16*f+px j p % 16)).1=true:=by rw[<-eP];exact c1
  have m:bz s r false p=(qO p (dJ s.1 r p) (cW s.1 r p),(cW s.1 r p).2.1,0,()):=by
   unfold bz
   grind
  by_cases c2:((cW s.1 r p).2.2.1&&(cW s.1 r p).2.1==rt)=true
  ·rw[av c2];refine⟨g,.refl I _ _,by rw[m],?_,by omega⟩
   grind
  ·rw[ao c2] at h0;rw[ao c2,av h0];obtain⟨g1,f0,C1,E1,d1,K⟩:=I.split d a c i h0;have q:=C1.root.to d;have z:=(C1.inv.mn q a E1).1;rw[z];have L:0<=qO p (dJ s.1 r p) (cW s.1 r p)/\qO p (dJ s.1 r p) (cW s.1 r p)<4096:=by
    have u:=lR s.1 (16*f+px j p % 16);have A:=I.leaf c.1 (eh p j).1 (eh p j).2 i c.2;rw[eP,x];generalize aK s.1 (16*f+px j p % 16)=e at*
    obtain⟨ep,er,el,ef,M⟩:=e;dsimp only at i u A;subst i;obtain⟨N,O,P,Q,R⟩:=mo.1 u;unfold qO
    grind
   have S:j<=1:=by
    rcases I.leaf c.1 (eh p j).1 (eh p j).2 i c.2 with h|h<;>omega
   have B:(bz s r false p).1=qO p (dJ s.1 r p) (cW s.1 r p):=by rw[m]
   rw[B];generalize qO p (dJ s.1 r p) (cW s.1 r p)=fr at*
   generalize fZ s o r p=t at*
   have hv:eZ (TJ (true,rt,false,fr,()))=(true,rt,false,fr,()):=by
    show eZ (FE true rt false fr)= _;exact xI (mo.2 (by omega))
   have hi:=eh p 0;obtain⟨v,C,D,E,F⟩:=C1.inv.zd E1.1 hi.1 hi.2 E1.2 (by rw[hv];exact OW (by omega)) (by rw[hv];exact λ_ _=> .inl ⟨rfl,rfl⟩) (λh=>by rw[hv] at h;cases h) E1 rfl;have C2:s6 (ou o 0 p) o g1 g1 t _:=⟨v,.refl _,C,D,λh k=>Js h k,⟨cF _ _ _,rfl⟩,C1.inv.CK E1.1 hi.1 hi.2 _,λ_ nl=>nl.upd E1.1 hi.1 hi.2 (λb hb=>gx (λe=>hb e.symm)) λ_ _=>rfl,λh=> .inl h⟩;refine⟨g1,(C1.mono λ_ _ h=>h.elim).trans C2,by rw[m],?_,?_⟩
   ·show bz (dC t.1 (16*f0+px 0 p % 16) _,t.2) r false p= _;rw[v.fm q a (E p rfl).1];show l5 p 0 (aK (dC t.1 _ _) _)= _;rw[F,hv];rfl
   ·show _<=cg t.2 0+1;omega
 grind
theorem map (I:Inv g s) {o r p f rt:Int} (b:g r=some (o,3,0)) (h0:kl s r false p f rt=0):
 (0<=p/\p<65536)/\ ∃g',s6 (ou o 0 p) o g g' s (jG s o r false p f rt)/\bz (jG s o r false p f rt) r false p=(f,rt,0,())/\1<=rt/\(bz s r false p).2.2.1=4/\
  (∃f0,dx g' (jG s o r false p f rt) o p f0 0)/\
  (∃f0 j,dx g s o p f0 j/\cg (jG s o r false p f rt).2 0+j=cg s.2 0)/\(Dr g s none->Dr g' (jG s o r false p f rt) none):=by
 unfold kl at h0;have c:lA p f rt=0:=by
  grind
 rw[av c] at h0;have d:(0<=p/\p<65536)/\(0<=f/\f<4096)/\1<=rt/\rt<=7:=by
  unfold lA at c
  grind
 obtain⟨a,q,e⟩:=d;have i:jG s o r false p f rt=rT s o r p 0 (true,rt,false,f,()):=by unfold jG;grind
 rw[i];have k:bU _ rt false f=true:=mo.2 (by omega);obtain⟨g',C,A,⟨f1,j,t,l,m,hc⟩,u⟩:=I.put b a rfl k (OW (by omega)) (λ_ _=> .inl (by grind)) h0;obtain⟨f2,E2,n⟩:=A p rfl;refine⟨a,g',C,?_,e.1,?_,⟨f2,E2⟩,by grind⟩
 ·have h:=C.inv.fm (C.root.to b) a E2;rw[n] at h;exact h
 ·rw[I.fm b a l,F4 _ _ m]
end Inv
set_option maxRecDepth 100000
open Go.RX D
def fresh (n m:Nat):WD:=(Bs n 0,Bs m zD)
abbrev noG:Gh:=λ_=>none
theorem VW (m:Nat) (v:Int):cg (Bs m zD) v=if v=0 then m else 0:=by
 unfold cg;rw[List.countP_replicate];by_cases h:v=0
 ·subst h;rfl
 ·rw[ao h,ao];show ¬ (((0:Int)==v)=true);simp;omega
theorem Mz {n m:Nat} (h:16*m<=n) (b:m<=4096):Inv noG (fresh n m) where
 len:=by
  show 16*(Bs m zD).length<=(Bs n (0:Int)).length;simpa using h
 le:=by
  show(Bs m zD).length<=4096;simpa using b
 fz:=λd a _=>H6 a
 kd:=by intro f o l x h;cases h
 inj:=by intro f o l h;cases h
 sP:=by intro f o l x i h;cases h
 leaf:=by intro f o l x i h;cases h
 Fo:=by intro f o l x h;cases h
 wf:=by intro f o l x i h;cases h
 tb:=by
  intro k d a c;have:d=zD:=H6 (DA a);subst this;cases c
namespace Inv
variable {g:Gh} {s:WD}
theorem born (I:Inv g s) {o:Int} (w:1<=o/\o<=16) (A: ∀f,g f≠some (o,3,0)) (hc:0<cg s.2 0):
 rH s o=0/\g (eK s o)=none/\0<=eK s o/\eK s o<s.2.length/\(jc s o λ_=>0).2=s.2.set (eK s o).toNat (3,o,0,0,())/\s.2[(eK s o).toNat]? =some zD/\
 (∀b,(b<16*eK s o\/16*eK s o+16<=b)->cL (jc s o λ_=>0).1 b=cL s.1 b)/\
 (∀k,0<=k->k<16->cL (jc s o λ_=>0).1 (16*eK s o+k)=0)/\(jc s o λ_=>0).1.length=s.1.length/\
 Inv (mN g (eK s o) (some (o,3,0))) (jc s o λ_=>0):=by
 obtain⟨n,K,B,L,M,N⟩:=ng hc I.fz w;have C:eK s o=(n:Int):=L;have D:rH s o=0:=M;have O:=I.len;have P:=I.le;have Q:16*(n:Int)+16<=s.1.length:=by omega
 obtain⟨W,r⟩: ∃W,W=e8 s.1 (n:Int) (λ_=>0) 16:=⟨_,rfl⟩;have E:W.length=s.1.length:=by rw[r,gT]
 have F: ∀b,cL W b=if 16*(n:Int)<=b/\b<16*(n:Int)+16 then 0 else cL s.1 b:=λb=>by
  rw[r];exact tA (by omega) Q 16 (B4 _) b
 have R:jc s o (λ_=>0)=(W,s.2.set n (3,o,0,0,())):=by unfold jc;rw[av D,C,N,r]
 clear r;have gn:g (n:Int)=none:=by
  cases hg:g (n:Int) with
  |none=>rfl
  |some v=>
   obtain⟨a,b,c⟩:=v;have:=(I.kd hg).2.2.1;rw[show((n:Int)).toNat=n from rfl,B] at this;cases this
 have t: ∀{f':Int} {v},g f'=some v->f'≠(n:Int):=λh e=>by rw[e,gn] at h;cases h
 rw[R,C];have x: ∀b,(b<16*(n:Int)\/16*(n:Int)+16<=b)->cL W b=cL s.1 b:=λb h=>by rw[F b,ao (by omega)]
 have y: ∀k,0<=k->k<16->cL W (16*(n:Int)+k)=0:=λk h0 h1=>by rw[F,av (by omega)]
 have w1: ∀b,(b<16*(n:Int)\/16*(n:Int)+16<=b)->aK W b=aK s.1 b:=λb h=>by unfold aK;rw[x b h]
 have G: ∀k,0<=k->k<16->aK W (16*(n:Int)+k)=zE:=λk h0 h1=>by unfold aK;rw[y k h0 h1];exact py
 have fN: ∀{f0 l p k:Int} {i:Nat},g f0=some (l,i,p)->0<=k->k<16->aK W (16*f0+k)=aK s.1 (16*f0+k):=λ{f0 l p k i} h h0 h1=>by
  have:=t h;exact w1 _ (by omega)
 refine⟨D,gn,by omega,by omega,rfl,by rw[show((n:Int)).toNat=n from rfl];exact B,x,y,E,?_⟩;refine⟨?_,?_,?_,?_,?_,?_,?_,?_,?_,?_⟩
 ·show 16*(s.2.set n _).length<=W.length;rw[E,B1];exact O
 ·show(s.2.set n _).length<=4096;rw[B1];exact P
 ·intro d z h0;rcases Dq z with z|rfl
  ·exact I.fz d z h0
  ·cases h0
 ·intro f0 l i p h;show _/\ _<((s.2.set n (3,o,0,0,())).length:Int)/\(s.2.set n (3,o,0,0,()))[f0.toNat]? = _/\ _;rw[B1];by_cases e:f0=(n:Int)
  ·subst e;rw[bK] at h;cases h;refine⟨by omega,by omega,?_,w.1,w.2,by omega⟩;rw[show((n:Int)).toNat=n from rfl,Dx K]
  ·rw[aZ e] at h;obtain⟨a1,S,T,U⟩:=I.kd h;refine⟨a1,S,?_,U⟩;rw[Bx (by omega)];exact T
 ·intro a b v q hb;by_cases e:a=(n:Int)<;>by_cases e':b=(n:Int)
  ·rw[e,e']
  ·subst e;rw[bK] at q;rw[aZ e'] at hb;cases q;exact absurd hb (A b)
  ·subst e';rw[bK] at hb;rw[aZ e] at q;cases hb;exact absurd q (A a)
  ·rw[aZ e] at q;rw[aZ e'] at hb;exact I.inj q hb
 ·intro f0 l i p k h h0 h1 j;by_cases e:f0=(n:Int)
  ·subst e;have j:dI (aK W (16*(n:Int)+k))=true:=j;rw[G k h0 h1,Kq] at j;cases j
  ·rw[aZ e] at h;have j:dI (aK W (16*f0+k))=true:=j;show∃m,i=m+1/\mN g n _ (aK W (16*f0+k)).2.2.2.1= _;rw[fN h h0 h1] at j ⊢;obtain⟨V,X,H⟩:=I.sP h h0 h1 j;exact⟨V,X,by rw[aZ (t H)];exact H⟩
 ·intro f0 l i p k h h0 h1;show lI i (aK W (16*f0+k));by_cases e:f0=(n:Int)
  ·subst e;rw[G k h0 h1];exact DU _
  ·rw[aZ e] at h;rw[fN h h0 h1];exact I.leaf h h0 h1
 ·intro f0 l i p h Y;by_cases e:f0=(n:Int)
  ·subst e;rw[bK] at h;cases h;omega
  ·rw[aZ e] at h;obtain⟨f',p1,p2⟩:=I.Fo h Y;refine⟨f',by rw[aZ (t p1)];exact p1,?_⟩;show aK W _= _;rw[fN p1 (by omega) (by omega)];exact p2
 ·intro f0 l i p k h h0 h1 u;show cL W (16*f0+k)=0;by_cases e:f0=(n:Int)
  ·subst e;exact y k h0 h1
  ·rw[aZ e] at h;have u:(aK W (16*f0+k)).1=false:=u;rw[fN h h0 h1] at u;have:=t h;rw[x _ (by omega)];exact I.wf h h0 h1 u
 ·intro J d Z h3;by_cases e:J=n
  ·subst e;exact⟨_,bK _ _ _⟩
  ·have h':(s.2.set n (3,o,0,0,()))[J]? =some d:=Z;rw[Bx (by omega)] at h';obtain⟨v,hv⟩:=I.tb h' h3;exact⟨v,by rw[aZ (by omega)];exact hv⟩
end Inv
end Go.Proofs.YtlcenllcmeebhaaGreat
